/- Texts of the proof of FnExactBest, joined. -/
import Derived.Test.YtcaefabbcjlkdaaSFnExactBest22
import Derived.Test.YtcaefabbcjlkdaaSFnExactBest23
import Derived.Test.YtcaefabbcjlkdaaSFnExactBest1
import Derived.Lib.OthersKept
import Derived.Laws.MakeOwn
import Derived.Lib.ConvBytes
import Derived.Test.YtcaefabbcjlkdaaSFnExactBest10
import Derived.Deep.MidRow
import Derived.MapKept
import Derived.Deep.RegionHeld
namespace Go.Proofs.Ytcaefabbcjlkdaa.P
open Go Go.RowKit Go.Proofs.YtcaefabbcjlkdaaW.PrintWords
set_option linter.unusedVariables false
def SameG {α : Type} (x l : List α) (i : Nat) : Prop:=x.length = l.length ∧ ∀ t,t < i → x[t]? = l[t]?
theorem SameG.zero {α : Type} {x l : List α} (h : x.length = l.length) : SameG x l 0:=⟨h,fun t ht => absurd ht (Nat.not_lt_zero t)⟩
theorem SameG.all {α : Type} {x l : List α} {i : Nat} (h : SameG x l i) (hi : l.length ≤ i) : x = l:=by
 apply List.ext_getElem?
 intro t
 by_cases c : t < l.length
 ·exact h.2 t (by omega)
 ·rw [List.getElem?_eq_none (by have:=h.1;omega),List.getElem?_eq_none (by omega)]
theorem SameG.next {α : Type} {x l : List α} {i : Nat} (h : SameG x l i) {v : α} (hv : l[i]? = some v) : SameG (x.set i v) l (i + 1):=by
 have hi : i < l.length:=(List.getElem?_eq_some_iff.1 hv).1
 refine ⟨by rw [List.length_set];exact h.1,fun t ht => ?_⟩
 rw [List.getElem?_set]
 by_cases e : i = t
 ·subst e
  rw [if_pos rfl,if_pos (by have:=h.1;omega),hv]
 ·rw [if_neg e]
  exact h.2 t (by omega)
theorem getD_some {α : Type} (l : List α) (i : Nat) (z : α) (h : i < l.length) : l[i]? = some (l.getD i z):=by rw [List.getD_eq_getElem?_getD,List.getElem?_eq_getElem h];rfl
def cFilter (x : S91) : S89:=⟨x.f0,x.f1,x.f2⟩
theorem toFilter_ev (x : S91) : Ev (fun k => laws_toFilter.f x.f0 x.f1 x.f2) (x.f0,x.f1,x.f2):=Ev.now _
theorem toFilterS_ev (l : List S91) (h : l.length ≤ 10000000) : Ev (fun k => laws_toFilterS.f k l) (l.map cFilter):=by
 have loop : ∀ (d i : Nat) (y : List S89),i + d = l.length → SameG y (l.map cFilter) i → Ev (fun k => laws_toFilterS.l0 k l y (i : Int)) (l.map cFilter):=by
  intro d
  induction d with
  | zero =>
   intro i y hi hy
   refine Ev.step (f:=fun _ => some (l.map cFilter)) (fun k => ?_) (Ev.now _)
   simp only [laws_toFilterS.l0]
   rw [if_neg (by omega),hy.all (by rw [List.length_map];omega)]
  | succ d ih =>
   intro i y hi hy
   have hl:=hy.1
   rw [List.length_map] at hl
   have hg : l[i]? = some (rd_T91 l (i : Int)):=getD_some l i _ (by omega)
   have hv : (l.map cFilter)[i]? = some (cFilter (rd_T91 l (i : Int))):=by rw [List.getElem?_map,hg];rfl
   have one:=toFilter_ev (rd_T91 l (i : Int))
   refine Ev.step (fun k => by simp only [laws_toFilterS.l0];rw [if_pos (by omega),if_pos (by omega)];try rfl) (Ev.bind one ?_)
   have hw : wrap64 ((i : Int) + 1) = ((i + 1 : Nat) : Int):=by rw [w64 (by omega) (by omega)];rfl
   simp only [hw]
   exact ev_pos (by omega) (ih (i + 1) _ (by omega) (hy.next hv))
 refine Ev.congr (fun k => ?_) (loop l.length 0 (List.replicate l.length z89) (by omega) (SameG.zero (by simp)))
 unfold laws_toFilterS.f
 rw [if_pos (by omega),if_pos (by omega)]
 rfl
theorem szFilterS_eq (l : List S91) (m : Int) (h : l.length ≤ maxLen) (h0 : 0 ≤ m) (h1 : m ≤ 1048576) : laws_szFilterS.f l m = some (if m < l.length then -1 else m - l.length):=by
 unfold laws_szFilterS.f
 simp only [maxLen] at h
 have e : wrap64 (m - (l.length : Int)) = m - l.length:=by unfold wrap64;omega
 rw [e]
 by_cases c : m < (l.length : Int)
 ·rw [if_pos (by omega),if_pos c]
 ·rw [if_neg (by omega),if_neg c]
def cFrame (x : S77) : S45:=⟨x.f0,x.f1,x.f2,x.f3,x.f4⟩
theorem toFrameS_ev (l : List S77) (h : l.length ≤ 10000000) (hd : ∀ x ∈ l,x.f4.length ≤ 10000000) : Ev (fun k => laws_toFrameS.f k l) (l.map cFrame):=by
 have loop : ∀ (d i : Nat) (y : List S45),i + d = l.length → SameG y (l.map cFrame) i → Ev (fun k => laws_toFrameS.l0 k l y (i : Int)) (l.map cFrame):=by
  intro d
  induction d with
  | zero =>
   intro i y hi hy
   refine Ev.step (f:=fun _ => some (l.map cFrame)) (fun k => ?_) (Ev.now _)
   simp only [laws_toFrameS.l0]
   rw [if_neg (by omega),hy.all (by rw [List.length_map];omega)]
  | succ d ih =>
   intro i y hi hy
   have hl:=hy.1
   rw [List.length_map] at hl
   have hg : l[i]? = some (rd_T77 l (i : Int)):=getD_some l i _ (by omega)
   have hv : (l.map cFrame)[i]? = some (cFrame (rd_T77 l (i : Int))):=by rw [List.getElem?_map,hg];rfl
   have one:=toFrame_ev (rd_T77 l (i : Int)).f0 (rd_T77 l (i : Int)).f1 (rd_T77 l (i : Int)).f2 (rd_T77 l (i : Int)).f3 (rd_T77 l (i : Int)).f4 (hd _ (List.mem_of_getElem? (getD_some l i z77 (by omega))))
   refine Ev.step (fun k => by simp only [laws_toFrameS.l0];rw [if_pos (by omega),if_pos (by omega)];try rfl) (Ev.bind one ?_)
   have hw : wrap64 ((i : Int) + 1) = ((i + 1 : Nat) : Int):=by rw [w64 (by omega) (by omega)];rfl
   simp only [hw]
   exact ev_pos (by omega) (ih (i + 1) _ (by omega) (hy.next hv))
 refine Ev.congr (fun k => ?_) (loop l.length 0 (List.replicate l.length z45) (by omega) (SameG.zero (by simp)))
 unfold laws_toFrameS.f
 rw [if_pos (by omega),if_pos (by omega)]
 rfl
theorem szFrame_eqS (e : Bool) (i : Int) (r : Bool) (d : Int) (l : List Int) (m : Int) (h : l.length ≤ maxLen) (h0 : 0 ≤ m) (h1 : m ≤ 1048576) : laws_szFrame.f e i r d l m = some (if m < l.length then -1 else m - l.length):=by
 unfold laws_szFrame.f
 rw [szByteS_eq l m h h0 h1,Option.bind_some]
 by_cases c : m < (l.length : Int)
 ·rw [if_pos c,if_pos (by omega)]
 ·rw [if_neg c,if_neg (by omega)]
def cBox (x : S141) : S87:=⟨x.f0,x.f1,x.f2,⟨x.f3.f0,x.f3.f1,x.f3.f2,x.f3.f3,x.f3.f4⟩⟩
theorem toBox_ev (x : S141) (h : x.f3.f4.length ≤ 10000000) : Ev (fun k => laws_toBox.f k x.f0 x.f1 x.f2 x.f3.f0 x.f3.f1 x.f3.f2 x.f3.f3 x.f3.f4) (x.f0,x.f1,x.f2,x.f3.f0,x.f3.f1,x.f3.f2,x.f3.f3,x.f3.f4):=by
 unfold laws_toBox.f
 exact Ev.bind (toFrame_ev _ _ _ _ _ h) (Ev.now _)
theorem toBoxS_ev (l : List S141) (h : l.length ≤ 10000000) (hd : ∀ x ∈ l,x.f3.f4.length ≤ 10000000) : Ev (fun k => laws_toBoxS.f k l) (l.map cBox):=by
 have loop : ∀ (d i : Nat) (y : List S87),i + d = l.length → SameG y (l.map cBox) i → Ev (fun k => laws_toBoxS.l0 k l y (i : Int)) (l.map cBox):=by
  intro d
  induction d with
  | zero =>
   intro i y hi hy
   refine Ev.step (f:=fun _ => some (l.map cBox)) (fun k => ?_) (Ev.now _)
   simp only [laws_toBoxS.l0]
   rw [if_neg (by omega),hy.all (by rw [List.length_map];omega)]
  | succ d ih =>
   intro i y hi hy
   have hl:=hy.1
   rw [List.length_map] at hl
   have hg : l[i]? = some (rd_T141 l (i : Int)):=getD_some l i _ (by omega)
   have hv : (l.map cBox)[i]? = some (cBox (rd_T141 l (i : Int))):=by rw [List.getElem?_map,hg];rfl
   have one:=toBox_ev (rd_T141 l (i : Int)) (hd _ (List.mem_of_getElem? (getD_some l i z141 (by omega))))
   refine Ev.step (fun k => by simp only [laws_toBoxS.l0];rw [if_pos (by omega),if_pos (by omega)];try rfl) (Ev.bind one ?_)
   have hw : wrap64 ((i : Int) + 1) = ((i + 1 : Nat) : Int):=by rw [w64 (by omega) (by omega)];rfl
   simp only [hw]
   exact ev_pos (by omega) (ih (i + 1) _ (by omega) (hy.next hv))
 refine Ev.congr (fun k => ?_) (loop l.length 0 (List.replicate l.length z87) (by omega) (SameG.zero (by simp)))
 unfold laws_toBoxS.f
 rw [if_pos (by omega),if_pos (by omega)]
 rfl
theorem szBox_eq (x : S141) (m : Int) (h : x.f3.f4.length ≤ maxLen) (h0 : 0 ≤ m) (h1 : m ≤ 1048576) : laws_szBox.f x.f0 x.f1 x.f2 x.f3.f0 x.f3.f1 x.f3.f2 x.f3.f3 x.f3.f4 m = some (if m < x.f3.f4.length then -1 else m - x.f3.f4.length):=by
 unfold laws_szBox.f
 rw [szFrame_eqS _ _ _ _ _ m h h0 h1,Option.bind_some]
 by_cases c : m < (x.f3.f4.length : Int)
 ·rw [if_pos c,if_pos (by omega)]
 ·rw [if_neg c,if_neg (by omega)]
def cEvent (x : S144) : S56:=⟨x.f0,x.f1,x.f2,⟨x.f3.f0,x.f3.f1,x.f3.f2,x.f3.f3,x.f3.f4⟩⟩
theorem toEvent_ev (x : S144) (h : x.f3.f4.length ≤ 10000000) : Ev (fun k => laws_toEvent.f k x.f0 x.f1 x.f2 x.f3.f0 x.f3.f1 x.f3.f2 x.f3.f3 x.f3.f4) (x.f0,x.f1,x.f2,x.f3.f0,x.f3.f1,x.f3.f2,x.f3.f3,x.f3.f4):=by
 unfold laws_toEvent.f
 exact Ev.bind (toFrame_ev _ _ _ _ _ h) (Ev.now _)
theorem toEventS_ev (l : List S144) (h : l.length ≤ 10000000) (hd : ∀ x ∈ l,x.f3.f4.length ≤ 10000000) : Ev (fun k => laws_toEventS.f k l) (l.map cEvent):=by
 have loop : ∀ (d i : Nat) (y : List S56),i + d = l.length → SameG y (l.map cEvent) i → Ev (fun k => laws_toEventS.l0 k l y (i : Int)) (l.map cEvent):=by
  intro d
  induction d with
  | zero =>
   intro i y hi hy
   refine Ev.step (f:=fun _ => some (l.map cEvent)) (fun k => ?_) (Ev.now _)
   simp only [laws_toEventS.l0]
   rw [if_neg (by omega),hy.all (by rw [List.length_map];omega)]
  | succ d ih =>
   intro i y hi hy
   have hl:=hy.1
   rw [List.length_map] at hl
   have hg : l[i]? = some (rd_T144 l (i : Int)):=getD_some l i _ (by omega)
   have hv : (l.map cEvent)[i]? = some (cEvent (rd_T144 l (i : Int))):=by rw [List.getElem?_map,hg];rfl
   have one:=toEvent_ev (rd_T144 l (i : Int)) (hd _ (List.mem_of_getElem? (getD_some l i z144 (by omega))))
   refine Ev.step (fun k => by simp only [laws_toEventS.l0];rw [if_pos (by omega),if_pos (by omega)];try rfl) (Ev.bind one ?_)
   have hw : wrap64 ((i : Int) + 1) = ((i + 1 : Nat) : Int):=by rw [w64 (by omega) (by omega)];rfl
   simp only [hw]
   exact ev_pos (by omega) (ih (i + 1) _ (by omega) (hy.next hv))
 refine Ev.congr (fun k => ?_) (loop l.length 0 (List.replicate l.length z56) (by omega) (SameG.zero (by simp)))
 unfold laws_toEventS.f
 rw [if_pos (by omega),if_pos (by omega)]
 rfl
theorem szEvent_eq (x : S144) (m : Int) (h : x.f3.f4.length ≤ maxLen) (h0 : 0 ≤ m) (h1 : m ≤ 1048576) : laws_szEvent.f x.f0 x.f1 x.f2 x.f3.f0 x.f3.f1 x.f3.f2 x.f3.f3 x.f3.f4 m = some (if m < x.f3.f4.length then -1 else m - x.f3.f4.length):=by
 unfold laws_szEvent.f
 rw [szFrame_eqS _ _ _ _ _ m h h0 h1,Option.bind_some]
 by_cases c : m < (x.f3.f4.length : Int)
 ·rw [if_pos c,if_pos (by omega)]
 ·rw [if_neg c,if_neg (by omega)]
theorem infoU8 : (Try.prog.info? 5).map (fun i => (i.zero,i.size,i.bytes)) = some (some (.int .u8 0),1,1):=by kernel_rfl
structure Tch (w w' : World) (S : Nat → Prop) : Prop where
 os : w'.os = w.os
 tape : w'.tape = w.tape
 output : w'.output = w.output
 kept : Kept w w' S
theorem Tch.refl (w : World) (S : Nat → Prop) : Tch w w S:=⟨rfl,rfl,rfl,Kept.refl w S⟩
theorem Tch.size {w w' : World} {S : Nat → Prop} (h : Tch w w' S) : w.heap.size ≤ w'.heap.size:=h.kept.1
theorem Tch.block {w w' : World} {S : Nat → Prop} (h : Tch w w' S) {k : Nat} (hk : k < w.heap.size) (hn : ¬ S k) : w'.heap[k]? = w.heap[k]?:=h.kept.2 k hk hn
theorem Tch.mono {w w' : World} {S S' : Nat → Prop} (h : Tch w w' S) (hs : ∀ k,S k → S' k) : Tch w w' S':=⟨h.os,h.tape,h.output,h.kept.mono hs⟩
theorem Tch.then_ {w w1 w2 : World} {S S2 : Nat → Prop} (h : Tch w w1 S) (k : Tch w1 w2 S2) (hs : ∀ k,S2 k → S k ∨ w.heap.size ≤ k) : Tch w w2 S:=⟨k.os.trans h.os,k.tape.trans h.tape,k.output.trans h.output,h.kept.then_ k.kept hs⟩
theorem Tch.trans {w w1 w2 : World} {S : Nat → Prop} (h : Tch w w1 S) (k : Tch w1 w2 S) : Tch w w2 S:=h.then_ k fun _ h => .inl h
theorem Tch.drewN {w w1 : World} {S : Nat → Prop} (h : Tch w w1 S) (m : Nat) : Tch w (w1.drewN m) S:=⟨h.os,h.tape,h.output,h.kept.drewN m⟩
theorem Tch.drew {w w1 : World} {S : Nat → Prop} (h : Tch w w1 S) : Tch w w1.drew S:=⟨h.os,h.tape,h.output,h.kept.drew⟩
theorem Tch.alloc {w w1 : World} {S : Nat → Prop} (h : Tch w w1 S) (o : Obj) : Tch w (w1.alloc o) S:=⟨h.os,h.tape,h.output,h.kept.alloc o⟩
theorem Tch.setCell {w w1 : World} {S : Nat → Prop} (h : Tch w w1 S) {p : Addr} (hp : S p.block ∨ w.heap.size ≤ p.block) (u : Value) : Tch w (w1.setCell p u) S:=⟨h.os,h.tape,h.output,h.kept.setCell hp u⟩
theorem Tch.belowR {w w1 w2 : World} {S : Nat → Prop} (h : Tch w w1 S) (hb : Below w1.heap.size w1 w2) : Tch w w2 S:=⟨hb.os.trans h.os,hb.tape.trans h.tape,hb.output.trans h.output,h.kept.below hb⟩
theorem Tch.of_below {w w1 : World} (S : Nat → Prop) (hb : Below w.heap.size w w1) : Tch w w1 S:=(Tch.refl w S).belowR hb
theorem Tch.grown {w w1 w2 : World} {S : Nat → Prop} {row : Option Nat} (h : Tch w w1 S) (hg : w1.grownBy w2 row) (hr : ∀ k,row = some k → S k ∨ w.heap.size ≤ k) : Tch w w2 S:=⟨hg.os.trans h.os,hg.tape.trans h.tape,hg.output.trans h.output,Kept.of_grown hg h.kept hr⟩
theorem Tch.below {w0 w w' : World} {S : Nat → Prop} {B : Nat} (h : Tch w w' S) (hb : Below B w0 w) (hB : B ≤ w.heap.size) (hs : ∀ k,S k → B ≤ k) : Below B w0 w' :=
 hb.trans ⟨h.os,h.tape,h.output,h.size,fun k hk => h.block (by omega) (fun e => by have:=hs k e;omega)⟩
theorem Tch.R {α : Type} {d : Kd α} {e : Nat} {w w' : World} {S : Nat → Prop} {base : Nat} {ok : Nat → Prop} {v : Value} {xs : List α} (h : Tch w w' S) (hr : d.R e w base ok v xs) (hne : ∀ k,ok k → ¬ S k) : d.R e w' base ok v xs:=Kd.R_kept hr h.kept hne
theorem Tch.one {w w1 : World} {p : Nat} (h : Tch w w1 (fun k => k = p)) (j : Nat) (u : Value) : Tch w (w1.setCell ⟨p,j,none⟩ u) (fun k => k = p):=Tch.setCell (p:=⟨p,j,none⟩) h (.inl rfl) u
theorem Tch.refl1 (w : World) (p : Nat) : Tch w w (fun k => k = p):=Tch.refl w _
theorem tch_setCells (W : World) (g : Nat) : ∀ (vs : List Value) (o : Nat),Tch W (W.setCells g o vs) (fun k => k = g):=by
 intro vs
 induction vs generalizing W with
 | nil => intro o;exact Tch.refl _ _
 | cons v vs ih => intro o;exact ((Tch.refl1 W g).one o v).trans (ih (W.setCell ⟨g,o,none⟩ v) (o + 1))
theorem setCells_obj {g : Nat} {T : TypeId} : ∀ (vs : List Value) (o : Nat) (W : World) (cs : Array Value),W.heap[g]? = some (.cells cs T (0,0)) → o + vs.length ≤ cs.size →
  (W.setCells g o vs).heap[g]? = some (.cells (cs.toList.take o ++ vs ++ cs.toList.drop (o + vs.length)).toArray T (0,0)):=by
 intro vs
 induction vs with
 | nil =>
  intro o W cs h ho
  show W.heap[g]? = _
  rw [h,List.append_nil,List.length_nil,Nat.add_zero,List.take_append_drop]
 | cons v vs ih =>
  intro o W cs h ho
  rw [List.length_cons] at ho
  show ((W.setCell ⟨g,o,none⟩ v).setCells g (o + 1) vs).heap[g]? = _
  rw [ih (o + 1) _ _ (blk_set h o v) (by rw [Array.size_setIfInBounds];omega)]
  congr 3
  apply List.ext_getElem?
  intro i
  have hl : cs.toList.length = cs.size:=Array.length_toList
  simp only [Array.toList_setIfInBounds,List.getElem?_append,List.length_append,List.length_take,List.length_set,hl,List.length_cons,List.getElem?_take,List.getElem?_drop,List.getElem?_set,List.getElem?_cons]
  by_cases c1 : i < o
  ·rw [if_pos (by omega),if_pos (by omega),if_pos (by omega),if_neg (by omega),if_pos (by omega),if_pos (by omega),if_pos (by omega)]
  ·by_cases c2 : i = o
   ·subst c2
    rw [if_pos (by omega),if_pos (by omega),if_pos (by omega),if_pos rfl,if_pos (by omega),if_pos (by omega),if_neg (by omega),if_pos (by omega)]
   ·by_cases c3 : i < o + 1 + vs.length
    ·rw [if_pos (by omega),if_neg (by omega),if_pos (by omega),if_neg (by omega),if_neg (by omega)]
     congr 1;omega
    ·rw [if_neg (by omega),if_neg (by omega),if_neg (by omega)]
     congr 1;omega
section
variable {P : Program} {ops : Array Oper} {rest : List Oper} {o : Oper} {a : Act} {Q : Exit → Act → World → Prop}
theorem store_box {W : World} (hgd : o.guard = none) {t : TypeId} {p : Tmp} {v : Operand} (ho : o.op = .store t (.tmp p) v) (hN : o.dst = none) {g j : Nat} {cs cs' : Array Value} {T : TypeId} {u : Value} {seg : List Value}
  (hp : a.eval (.tmp p) = .pointer (some ⟨g,j,none⟩)) (hv : a.eval v = u) (hb : W.heap[g]? = some (.cells cs T (0,0))) (hu : u.cells.toList = seg) (ht : (P.info? t).map (·.size) = some seg.length) (h1 : seg.all (·.oneCell') = true) (hj' : Nat.ble (j + seg.length) cs.size = true)
  (hcs : (cs.toList.take j ++ seg ++ cs.toList.drop (j + seg.length)).toArray = cs') (h : ∀ w',w'.heap[g]? = some (.cells cs' T (0,0)) → Tch W w' (fun k => k = g) → wpList P ops Q rest a w') : wpList P ops Q (o :: rest) a W:=by
 have hj : j + seg.length ≤ cs.size:=Nat.le_of_ble_eq_true hj'
 have hrun:=run_store_run (P:=P) (o:=j) t u seg hb hu ht hj (List.all_eq_true.1 h1)
 refine wpList_plain hgd fun K hK => ?_
 unfold Oper.wp execOp
 simp only [ho,hp,hv,Sem.run_bind,Sem.run_pure,Result.andThen_ok,hrun]
 show K (a.put o.dst undef) _
 rw [hN]
 refine hK a _ (h _ ?_ (tch_setCells _ _ _ _))
 rw [setCells_obj seg j W cs hb hj,hcs]
theorem load_box {W : World} (hgd : o.guard = none) {t : TypeId} {p : Tmp} (ho : o.op = .load t (.tmp p)) {g j : Nat} {cs : Array Value} {T : TypeId} {seg : Array Value} {fs : Array Field}
  (hp : a.eval (.tmp p) = .pointer (some ⟨g,j,none⟩)) (hb : W.heap[g]? = some (.cells cs T (0,0))) (hu : P.underlying t = some (.struct fs)) (ht : (P.info? t).map (·.size) = some seg.size) (hs : (cs.toList.drop j).take seg.size = seg.toList)
  (h : wpList P ops Q rest (a.put o.dst (.agg seg)) W) : wpList P ops Q (o :: rest) a W:=by
 refine wpList_load_mid hgd t (.tmp p) ho g j hp seg.toList (.struct fs) (fun i v hi => ?_) hu rfl (by rw [Array.length_toList];exact ht) ?_
 ·rw [blk_cell hb, ← hs] at *
  rw [List.getElem?_take,List.getElem?_drop] at hi
  split at hi
  ·rw [Array.getElem?_toList] at hi;exact hi
  ·cases hi
 ·rw [Array.toArray_toList];exact h
end
theorem Tch.blk {w w' : World} {S : Nat → Prop} {k : Nat} {o : Obj} (h : Tch w w' S) (hk : w.heap[k]? = some o) (hn : ¬ S k) : w'.heap[k]? = some o:=blk_kept hk h.kept hn
section
variable {α : Type} {d : Kd α} {e base g T : Nat} {w w' : World} {ok : Nat → Prop} {v : Value} {xs : List α} {cells : Array Value}
theorem R_tch (h : d.R e w base ok v xs) (hb : w.heap[g]? = some (.cells cells T (0,0))) (ht : ∀ q,q ∈ e :: d.E → q ≠ T) (hT : Tch w w' (fun k => k = g)) : d.R e w' base ok v xs :=
 Kd.R_mono (Kd.R_kept (Kd.R_types h hb ht) hT.kept (fun _ hk => hk.2)) (fun _ hk => hk.1)
theorem S_tch (h : Kd.S d e w base ok v xs) (hb : w.heap[g]? = some (.cells cells T (0,0))) (ht : ∀ q,q ∈ e :: d.E → q ≠ T) (hT : Tch w w' (fun k => k = g)) : Kd.S d e w' base ok v xs :=
 Kd.S_mono (Kd.S_kept (Kd.S_types h hb ht) hT.kept (fun _ hk => hk.2)) (fun _ hk => hk.1)
end
theorem load_all {P : Program} {ops : Array Oper} {rest : List Oper} {o : Oper} {a : Act} {Q : Exit → Act → World → Prop} {W : World} (hgd : o.guard = none) {t : TypeId} {p : Tmp} (ho : o.op = .load t (.tmp p)) {g : Nat} {C : List Value} {T : TypeId} {fs : Array Field}
  (hp : a.eval (.tmp p) = .pointer (some ⟨g,0,none⟩)) (hb : W.heap[g]? = some (.cells ⟨C⟩ T (0,0))) (hu : P.underlying t = some (.struct fs)) (ht : (P.info? t).map (·.size) = some C.length)
  (h : wpList P ops Q rest (a.put o.dst (.agg ⟨C⟩)) W) : wpList P ops Q (o :: rest) a W :=
 load_box hgd ho (g:=g) (j:=0) (seg:=⟨C⟩) hp hb hu ht (by show (C.drop 0).take C.length = C;rw [List.drop_zero,List.take_length]) h
theorem range_all {W : World} {g : Nat} {C : List Value} {T : TypeId} (hb : W.heap[g]? = some (.cells ⟨C⟩ T (0,0))) : W.rangeAt g 0 C:=fun i v hi => by
 rw [blk_cell hb,Nat.zero_add, ← Array.getElem?_toList];exact hi
theorem store_all {P : Program} {ops : Array Oper} {rest : List Oper} {o : Oper} {a : Act} {Q : Exit → Act → World → Prop} {W : World} (hgd : o.guard = none) {t : TypeId} {p : Tmp} {v : Operand} (ho : o.op = .store t (.tmp p) v) (hN : o.dst = none) {g : Nat} {cs : Array Value} {C : List Value} {T : TypeId}
  (hp : a.eval (.tmp p) = .pointer (some ⟨g,0,none⟩)) (hv : a.eval v = .agg ⟨C⟩) (hb : W.heap[g]? = some (.cells cs T (0,0))) (ht : (P.info? t).map (·.size) = some C.length) (h1 : ∀ u ∈ C,u.oneCell' = true) (hs : cs.size = C.length)
  (h : ∀ w',w'.heap[g]? = some (.cells ⟨C⟩ T (0,0)) → Tch W w' (fun k => k = g) → wpList P ops Q rest a w') : wpList P ops Q (o :: rest) a W :=
 store_box hgd ho hN (g:=g) (j:=0) (cs:=cs) (seg:=C) hp hv hb rfl ht (List.all_eq_true.2 h1) (by rw [Nat.zero_add, ← hs];exact Nat.ble_self_eq_true _) (by
  have hl : cs.toList.length = cs.size:=Array.length_toList
  rw [List.take_zero,List.nil_append,Nat.zero_add,List.drop_of_length_le (by omega),List.append_nil]) h
theorem clear_run {P : Program} {W : World} {t kt et : TypeId} {r : Nat} {es : Array MapEntry} {cl : Nat} (hm : P.underlying t = some (.map kt et)) (hb : W.heap[r]? = some (.map es cl)) (ty : TypeId) :
  ∃ W2,Sem.run P (Builtin.clear_ #[t] ty #[.map (some r)]) W = .ok (.tuple #[]) W2 ∧ W2.heap[r]? = some (.map #[] cl) ∧ Tch W W2 (fun k => k = r):=by
 refine ⟨{ W with heap:=W.heap.setIfInBounds r (.map #[] cl) }, ?_,(Go.MapKept.heap_set hb).1,⟨rfl,rfl,rfl,⟨by simp,fun k hk hn => (Go.MapKept.heap_set hb).2 k hn⟩⟩⟩
 have e : Sem.run P (Builtin.clear_ #[t] ty #[.map (some r)]) W = (Builtin.clear_ #[t] ty #[.map (some r)]).run P W:=rfl
 rw [e]
 simp [Builtin.clear_,run_underlying hm,Go.MapKept.run_getObj_map hb,Go.MapKept.run_setObj_map _ hb,Result.andThen]
def MapAt (w : World) (m : Nat) (f : Int → Option Int) (n : Nat) : Prop :=
 ∃ es cl,w.heap[m]? = some (.map es cl) ∧ Go.MapKept.Stamped es cl ∧ (∀ x ∈ es.toList, ∃ k v,x.key = .int .i64 k ∧ x.val = .int .i64 v ∧ f k = some v) ∧ (∀ k v,f k = some v → ∃ x ∈ es.toList,x.key = .int .i64 k ∧ x.val = .int .i64 v) ∧ es.size = n
theorem MapAt.lt {w : World} {m n : Nat} {f : Int → Option Int} (h : MapAt w m f n) : m < w.heap.size:=by
 obtain ⟨_,_,hb,_⟩:=h
 exact (Array.getElem?_eq_some_iff.1 hb).1
theorem MapAt.tch {w w' : World} {S : Nat → Prop} {m n : Nat} {f : Int → Option Int} (h : MapAt w m f n) (hT : Tch w w' S) (hn : ¬ S m) : MapAt w' m f n:=by
 obtain ⟨es,cl,hb,h1⟩:=h
 exact ⟨es,cl,hT.blk hb hn,h1⟩
theorem MapAt.below {w w' : World} {m n : Nat} {f : Int → Option Int} (h : MapAt w m f n) (hb : Below w.heap.size w w') : MapAt w' m f n:=h.tch (Tch.of_below (fun _ => False) hb) (fun h => h)
theorem MapAt.new {w : World} {m cl : Nat} (h : w.heap[m]? = some (.map #[] cl)) : MapAt w m (fun _ => none) 0 :=
 ⟨#[],cl,h,Go.MapKept.stamped_empty _,by simp,by simp,rfl⟩
theorem MapAt.congr {w : World} {m n : Nat} {f g : Int → Option Int} (h : MapAt w m f n) (he : ∀ k,f k = g k) : MapAt w m g n:=by
 have : f = g:=funext he
 rw [← this];exact h
theorem i64_inj {a b : Int} (h : Value.int .i64 a = Value.int .i64 b) : a = b:=by injection h
section
variable {P : Program} {W : World} {t kt et : TypeId} {m n : Nat} {f : Int → Option Int} {k v : Int}
theorem MapAt.find (h : MapAt W m f n) (k : Int) : ∃ es cl,W.heap[m]? = some (.map es cl) ∧ es.size = n ∧
  ((f k = none ∧ Instr.findNow (.int .i64) (.int .i64 k) es.toList 0 = some none ∧ ∀ x ∈ es.toList,x.key ≠ .int .i64 k) ∨
   ∃ j e v,f k = some v ∧ Instr.findNow (.int .i64) (.int .i64 k) es.toList 0 = some (some (j, .int .i64 v)) ∧ es[j]? = some e ∧ e.key = .int .i64 k ∧ e.val = .int .i64 v):=by
 obtain ⟨es,cl,hb,hs,h1,h2,hz⟩:=h
 have hk : Go.MapKept.IsKey (.int .i64) (.int .i64 k):=rfl
 have hks : ∀ x ∈ es.toList,Go.MapKept.IsKey (.int .i64) x.key:=fun x hx => by
  obtain ⟨k',v',e,_⟩:=h1 x hx
  rw [e];rfl
 refine ⟨es,cl,hb,hz, ?_⟩
 rcases Go.MapKept.findNow_spec hk es.toList 0 hks with ⟨h3,h4⟩ | ⟨j,e,h3,h4,h5⟩
 ·left
  refine ⟨?_,h3,h4⟩
  cases e : f k with
  | none => rfl
  | some v =>
   obtain ⟨x,hx,hkx,_⟩:=h2 k v e
   exact absurd hkx (h4 x hx)
 ·right
  have hm : e ∈ es.toList:=List.mem_of_getElem? h4
  obtain ⟨k',v',e1,e2,e3⟩:=h1 e hm
  have : k' = k:=i64_inj (e1.symm.trans h5)
  subst this
  exact ⟨j,e,v',e3,by rw [h3,e2,Nat.zero_add],by rw [← Array.getElem?_toList];exact h4,h5,e2⟩
theorem tch_map {o o' : Obj} (hb : W.heap[m]? = some o) : Tch W { W with heap:=W.heap.setIfInBounds m o' } (fun k => k = m) :=
 ⟨rfl,rfl,rfl,⟨by simp,fun k hk hn => (Go.MapKept.heap_set hb).2 k hn⟩⟩
theorem update_run (hm : P.underlying t = some (.map kt et)) (hd : P.underlying kt = some (.int .i64)) (h : MapAt W m f n) (k v : Int) :
  ∃ W2,(Instr.mapUpdate t (.map (some m)) (.int .i64 k) (.int .i64 v)).run P W = .ok () W2 ∧ MapAt W2 m (fun x => if x = k then some v else f x) (if (f k).isSome then n else n + 1) ∧ Tch W W2 (fun k => k = m):=by
 have hk : Go.MapKept.IsKey (.int .i64) (.int .i64 k):=rfl
 have h':=h
 obtain ⟨es,cl,hb,hs,ha,hc,hz⟩:=h'
 obtain ⟨es',cl',hb',hz',hh⟩:=h.find k
 rw [hb] at hb'
 injection hb' with hb'
 injection hb' with q1 q2
 subst q1 q2
 rcases hh with ⟨h0,h1,h2⟩ | ⟨j,e,v0,h0,h1,h2,h3,h4⟩
 ·refine ⟨{ W with heap:=W.heap.setIfInBounds m (.map (es.push { key := .int .i64 k,val := .int .i64 v,born:=cl }) (cl + 1)) },by simp [Instr.mapUpdate,run_underlying hm,Go.MapKept.run_getObj_map hb,Go.MapKept.run_checkKey hd hk,Go.MapKept.run_findKey hd h1,Go.MapKept.run_setObj_map _ hb,Result.andThen],⟨_,_,(Go.MapKept.heap_set hb).1,Go.MapKept.stamped_push hs h2, ?_, ?_, ?_⟩,tch_map hb⟩
  ·intro x hx
   simp only [Array.toList_push,List.mem_append,List.mem_singleton] at hx
   rcases hx with hx | rfl
   ·obtain ⟨k',v',e1,e2,e3⟩:=ha x hx
    refine ⟨k',v',e1,e2, ?_⟩
    show (if k' = k then some v else f k') = _
    rw [if_neg (fun e => by rw [e,h0] at e3;cases e3)]
    exact e3
   ·exact ⟨k,v,rfl,rfl,if_pos rfl⟩
  ·intro k' v' he
   have he' : (if k' = k then some v else f k') = some v':=he
   simp only [Array.toList_push,List.mem_append,List.mem_singleton]
   by_cases c : k' = k
   ·rw [if_pos c] at he'
    cases he'
    exact ⟨_, .inr rfl,by rw [c],rfl⟩
   ·rw [if_neg c] at he'
    obtain ⟨x,hx,q⟩:=hc k' v' he'
    exact ⟨x, .inl hx,q⟩
  ·rw [Array.size_push,hz,h0];rfl
 ·have hkey : ∀ e',es[j]? = some e' → ({ e' with key := .int .i64 k,val := .int .i64 v } : MapEntry).key = e'.key:=fun e' he' => by rw [h2] at he';cases he';exact h3.symm
  have hje : es.toList[j]? = some e:=by rw [Array.getElem?_toList];exact h2
  have hnd : ∀ i x,es.toList[i]? = some x → x.key = .int .i64 k → i = j:=by
   intro i x hi hx
   have h5 : (es.toList.map (·.key))[i]? = some (.int .i64 k):=by rw [List.getElem?_map,hi];simp [hx]
   have h6 : (es.toList.map (·.key))[j]? = some (.int .i64 k):=by rw [List.getElem?_map,hje];simp [h3]
   obtain ⟨l5,_⟩:=List.getElem?_eq_some_iff.1 h5
   exact (List.getElem?_inj l5 hs.2.2).1 (h5.trans h6.symm)
  refine ⟨{ W with heap:=W.heap.setIfInBounds m (.map (es.modify j fun e => { e with key := .int .i64 k,val := .int .i64 v }) cl) },by simp [Instr.mapUpdate,run_underlying hm,Go.MapKept.run_getObj_map hb,Go.MapKept.run_checkKey hd hk,Go.MapKept.run_findKey hd h1,h2,h3,Go.MapKept.run_keyThatStays hk,Go.MapKept.run_setObj_map _ hb,Result.andThen],⟨_,_,(Go.MapKept.heap_set hb).1,Go.MapKept.stamped_modify hs _ _ (fun _ _ => rfl) (fun e' _ he' => hkey e' he'), ?_, ?_, ?_⟩,tch_map hb⟩
  ·intro x hx
   obtain ⟨i,hi⟩:=List.mem_iff_getElem?.1 hx
   rw [Array.getElem?_toList,Array.getElem?_modify] at hi
   by_cases c : j = i
   ·subst c
    rw [if_pos rfl,h2] at hi
    cases hi
    exact ⟨k,v,rfl,rfl,if_pos rfl⟩
   ·rw [if_neg c] at hi
    have hi' : es.toList[i]? = some x:=by rw [Array.getElem?_toList];exact hi
    obtain ⟨k',v',e1,e2,e3⟩:=ha x (List.mem_of_getElem? hi')
    refine ⟨k',v',e1,e2, ?_⟩
    show (if k' = k then some v else f k') = _
    rw [if_neg (fun q => c (hnd i x hi' (by rw [e1,q])).symm)]
    exact e3
  ·intro k' v' he
   have he' : (if k' = k then some v else f k') = some v':=he
   by_cases c : k' = k
   ·rw [if_pos c] at he'
    cases he'
    refine ⟨{ e with key := .int .i64 k,val := .int .i64 v }, ?_,by rw [c],rfl⟩
    refine List.mem_iff_getElem?.2 ⟨j, ?_⟩
    rw [Array.getElem?_toList,Array.getElem?_modify,if_pos rfl,h2];rfl
   ·rw [if_neg c] at he'
    obtain ⟨x,hx,q1,q2⟩:=hc k' v' he'
    obtain ⟨i,hi⟩:=List.mem_iff_getElem?.1 hx
    refine ⟨x,List.mem_iff_getElem?.2 ⟨i, ?_⟩,q1,q2⟩
    rw [Array.getElem?_toList,Array.getElem?_modify,if_neg, ← Array.getElem?_toList]
    ·exact hi
    ·rintro rfl
     rw [hje] at hi
     cases hi
     exact c (i64_inj (q1.symm.trans h3))
  ·rw [Array.size_modify,hz,h0];rfl
end
theorem map_event {P : Program} {ops : Array Oper} {rest : List Oper} {o : Oper} {a : Act} {Q : Exit → Act → World → Prop} {W : World} (hgd : o.guard = none)
  (hrun : (execOp a.eval o).run P W = .ok (.value (.map (some W.heap.size))) (W.alloc (.map #[] 0)))
  (h : ∀ m,m = W.heap.size → ∀ w1,w1.heap[m]? = some (.map #[] 0) → Below W.heap.size W w1 → wpList P ops Q rest (a.put o.dst (.map (some m))) w1) : wpList P ops Q (o :: rest) a W :=
 Kd.event_run hgd hrun (h _ rfl _ (blk_new W _) (below_alloc (Below.refl _ _) _))
structure HV where
 cb : Int
 cf : Int
 cp : Int
 ce : Int
 fs : List S89
 bs : List S87
 fr : List S45
 ev : List S56
 lost : Int
 stamp : Int
structure HRows (w : World) (base : Nat) (ok : Nat → Prop) (o : Nat → Nat) (h : HV) (vf vb vq ve : Value) : Prop where
 f : (k89).R 89 w base (fun k => ok k ∧ o k = 0) vf h.fs
 b : Kd.S k87 87 w base (fun k => ok k ∧ o k = 1) vb h.bs
 q : Kd.S k45 45 w base (fun k => ok k ∧ o k = 2) vq h.fr
 e : Kd.S k56 56 w base (fun k => ok k ∧ o k = 3) ve h.ev
section
variable {w w1 : World} {base : Nat} {ok ok' : Nat → Prop} {o o' : Nat → Nat} {h : HV} {vf vb vq ve : Value}
theorem HRows.step (H : HRows w base ok o h vf vb vq ve) (hm : ∀ k,ok k → k < w.heap.size → w1.heap[k]? = w.heap[k]?) : HRows w1 base ok o h vf vb vq ve :=
 ⟨Kd.R_step H.f (fun k hk => hm k hk.1),Kd.S_step H.b (fun k hk => hm k hk.1),Kd.S_step H.q (fun k hk => hm k hk.1),Kd.S_step H.e (fun k hk => hm k hk.1)⟩
theorem HRows.mono (H : HRows w base ok o h vf vb vq ve) (hok : ∀ k,ok k → ok' k) : HRows w base ok' o h vf vb vq ve :=
 ⟨Kd.R_mono H.f (fun k hk => ⟨hok k hk.1,hk.2⟩),Kd.S_mono H.b (fun k hk => ⟨hok k hk.1,hk.2⟩),Kd.S_mono H.q (fun k hk => ⟨hok k hk.1,hk.2⟩),Kd.S_mono H.e (fun k hk => ⟨hok k hk.1,hk.2⟩)⟩
def Mine (w : World) (base k : Nat) : Prop:=base ≤ k ∧ k < w.heap.size ∧ ∃ q,(q = 89 ∨ q = 87 ∨ q = 45 ∨ q = 56 ∨ q = 5) ∧ ∃ cells,w.heap[k]? = some (.cells cells q (0,0))
theorem HRows.bound (H : HRows w base ok o h vf vb vq ve) : HRows w base (fun k => ok k ∧ Mine w base k) o h vf vb vq ve:=by
 refine ⟨Kd.R_mono (Kd.R_bound H.f) ?_,Kd.S_mono (Kd.S_bound H.b) ?_,Kd.S_mono (Kd.S_bound H.q) ?_,Kd.S_mono (Kd.S_bound H.e) ?_⟩
 ·rintro k ⟨⟨h1,h2⟩,h3,h4,q,hq,hc⟩
  have hq : q ∈ [89]:=hq
  exact ⟨⟨h1,h3,h4,q, .inl (List.mem_singleton.1 hq),hc⟩,h2⟩
 ·rintro k ⟨⟨h1,h2⟩,h3,h4,q,hq,hc⟩
  have hq : q ∈ [87,5]:=hq
  rcases List.mem_cons.1 hq with e | e
  ·exact ⟨⟨h1,h3,h4,q, .inr (.inl e),hc⟩,h2⟩
  ·exact ⟨⟨h1,h3,h4,q, .inr (.inr (.inr (.inr (List.mem_singleton.1 e)))),hc⟩,h2⟩
 ·rintro k ⟨⟨h1,h2⟩,h3,h4,q,hq,hc⟩
  have hq : q ∈ [45,5]:=hq
  rcases List.mem_cons.1 hq with e | e
  ·exact ⟨⟨h1,h3,h4,q, .inr (.inr (.inl e)),hc⟩,h2⟩
  ·exact ⟨⟨h1,h3,h4,q, .inr (.inr (.inr (.inr (List.mem_singleton.1 e)))),hc⟩,h2⟩
 ·rintro k ⟨⟨h1,h2⟩,h3,h4,q,hq,hc⟩
  have hq : q ∈ [56,5]:=hq
  rcases List.mem_cons.1 hq with e | e
  ·exact ⟨⟨h1,h3,h4,q, .inr (.inr (.inr (.inl e))),hc⟩,h2⟩
  ·exact ⟨⟨h1,h3,h4,q, .inr (.inr (.inr (.inr (List.mem_singleton.1 e)))),hc⟩,h2⟩
theorem HRows.reown (H : HRows w base ok o h vf vb vq ve) (ho : ∀ k,k < w.heap.size → o' k = o k) : HRows w base ok o' h vf vb vq ve:=by
 have H:=H.bound
 exact ⟨Kd.R_mono H.f (fun k hk => ⟨hk.1.1,(ho k hk.1.2.2.1).trans hk.2⟩),Kd.S_mono H.b (fun k hk => ⟨hk.1.1,(ho k hk.1.2.2.1).trans hk.2⟩),Kd.S_mono H.q (fun k hk => ⟨hk.1.1,(ho k hk.1.2.2.1).trans hk.2⟩),Kd.S_mono H.e (fun k hk => ⟨hk.1.1,(ho k hk.1.2.2.1).trans hk.2⟩)⟩
theorem HRows.below (H : HRows w base ok o h vf vb vq ve) (hb : Below w.heap.size w w1) : HRows w1 base ok o h vf vb vq ve:=H.step (fun k _ hk => hb.block k hk)
theorem HRows.tch {S : Nat → Prop} (H : HRows w base ok o h vf vb vq ve) (hT : Tch w w1 S) (hn : ∀ k,ok k → ¬ S k) : HRows w1 base ok o h vf vb vq ve:=H.step (fun k ho hk => hT.block hk (hn k ho))
theorem Mine.ne {g T : Nat} {cells : Array Value} {k : Nat} (h : Mine w base k) (hb : w.heap[g]? = some (.cells cells T (0,0))) (ht : T ≠ 89 ∧ T ≠ 87 ∧ T ≠ 45 ∧ T ≠ 56 ∧ T ≠ 5) : k ≠ g:=by
 rintro rfl
 obtain ⟨_,_,q,hq,cs,hc⟩:=h
 rw [hb] at hc
 injection hc with hc
 injection hc with _ hc _
 subst hc
 obtain ⟨t1,t2,t3,t4,t5⟩:=ht
 rcases hq with e | e | e | e | e
 ·exact t1 e
 ·exact t2 e
 ·exact t3 e
 ·exact t4 e
 ·exact t5 e
theorem Mine.ne_map {m n : Nat} {f : Int → Option Int} {k : Nat} (h : Mine w base k) (hm : MapAt w m f n) : k ≠ m:=by
 rintro rfl
 obtain ⟨_,_,q,hq,cs,hc⟩:=h
 obtain ⟨es,cl,hb,_⟩:=hm
 rw [hb] at hc
 cases hc
theorem HRows.newF {vf' : Value} {l : List S89} (H : HRows w base ok o h vf vb vq ve) (hm : ∀ k,ok k → o k ≠ 0 → k < w.heap.size → w1.heap[k]? = w.heap[k]?)
  (hr : (k89).R 89 w1 base (fun k => (ok k ∧ o k = 0) ∨ w.heap.size ≤ k) vf' l) : ∃ o',(∀ k,k < w.heap.size → o' k = o k) ∧ HRows w1 base (fun k => ok k ∨ w.heap.size ≤ k) o' { h with fs:=l } vf' vb vq ve:=by
 have Hb:=H.bound
 refine ⟨fun k => if k < w.heap.size then o k else 0,fun k hk => if_pos hk,Kd.R_mono hr ?_,Kd.S_mono (Kd.S_step Hb.b (fun k hk hl => hm k hk.1.1 (by omega) hl)) ?_,Kd.S_mono (Kd.S_step Hb.q (fun k hk hl => hm k hk.1.1 (by omega) hl)) ?_,Kd.S_mono (Kd.S_step Hb.e (fun k hk hl => hm k hk.1.1 (by omega) hl)) ?_⟩
 ·rintro k (hk | hk)
  ·exact ⟨.inl hk.1,by show (if k < w.heap.size then o k else 0) = 0;split;exact hk.2;rfl⟩
  ·exact ⟨.inr hk,if_neg (by omega)⟩
 all_goals exact fun k hk => ⟨.inl hk.1.1,(if_pos hk.1.2.2.1).trans hk.2⟩
theorem HRows.newB {vb' : Value} {l : List S87} (H : HRows w base ok o h vf vb vq ve) (hm : ∀ k,ok k → o k ≠ 1 → k < w.heap.size → w1.heap[k]? = w.heap[k]?)
  (hr : Kd.S k87 87 w1 base (fun k => (ok k ∧ o k = 1) ∨ w.heap.size ≤ k) vb' l) : ∃ o',(∀ k,k < w.heap.size → o' k = o k) ∧ HRows w1 base (fun k => ok k ∨ w.heap.size ≤ k) o' { h with bs:=l } vf vb' vq ve:=by
 have Hb:=H.bound
 refine ⟨fun k => if k < w.heap.size then o k else 1,fun k hk => if_pos hk,Kd.R_mono (Kd.R_step Hb.f (fun k hk hl => hm k hk.1.1 (by omega) hl)) ?_,Kd.S_mono hr ?_,Kd.S_mono (Kd.S_step Hb.q (fun k hk hl => hm k hk.1.1 (by omega) hl)) ?_,Kd.S_mono (Kd.S_step Hb.e (fun k hk hl => hm k hk.1.1 (by omega) hl)) ?_⟩
 rotate_left
 ·rintro k (hk | hk)
  ·exact ⟨.inl hk.1,by show (if k < w.heap.size then o k else 1) = 1;split;exact hk.2;rfl⟩
  ·exact ⟨.inr hk,if_neg (by omega)⟩
 all_goals exact fun k hk => ⟨.inl hk.1.1,(if_pos hk.1.2.2.1).trans hk.2⟩
theorem HRows.newQ {vq' : Value} {l : List S45} (H : HRows w base ok o h vf vb vq ve) (hm : ∀ k,ok k → o k ≠ 2 → k < w.heap.size → w1.heap[k]? = w.heap[k]?)
  (hr : Kd.S k45 45 w1 base (fun k => (ok k ∧ o k = 2) ∨ w.heap.size ≤ k) vq' l) : ∃ o',(∀ k,k < w.heap.size → o' k = o k) ∧ HRows w1 base (fun k => ok k ∨ w.heap.size ≤ k) o' { h with fr:=l } vf vb vq' ve:=by
 have Hb:=H.bound
 refine ⟨fun k => if k < w.heap.size then o k else 2,fun k hk => if_pos hk,Kd.R_mono (Kd.R_step Hb.f (fun k hk hl => hm k hk.1.1 (by omega) hl)) ?_,Kd.S_mono (Kd.S_step Hb.b (fun k hk hl => hm k hk.1.1 (by omega) hl)) ?_,Kd.S_mono hr ?_,Kd.S_mono (Kd.S_step Hb.e (fun k hk hl => hm k hk.1.1 (by omega) hl)) ?_⟩
 rotate_left 2
 ·rintro k (hk | hk)
  ·exact ⟨.inl hk.1,by show (if k < w.heap.size then o k else 2) = 2;split;exact hk.2;rfl⟩
  ·exact ⟨.inr hk,if_neg (by omega)⟩
 all_goals exact fun k hk => ⟨.inl hk.1.1,(if_pos hk.1.2.2.1).trans hk.2⟩
theorem HRows.newE {ve' : Value} {l : List S56} (H : HRows w base ok o h vf vb vq ve) (hm : ∀ k,ok k → o k ≠ 3 → k < w.heap.size → w1.heap[k]? = w.heap[k]?)
  (hr : Kd.S k56 56 w1 base (fun k => (ok k ∧ o k = 3) ∨ w.heap.size ≤ k) ve' l) : ∃ o',(∀ k,k < w.heap.size → o' k = o k) ∧ HRows w1 base (fun k => ok k ∨ w.heap.size ≤ k) o' { h with ev:=l } vf vb vq ve':=by
 have Hb:=H.bound
 refine ⟨fun k => if k < w.heap.size then o k else 3,fun k hk => if_pos hk,Kd.R_mono (Kd.R_step Hb.f (fun k hk hl => hm k hk.1.1 (by omega) hl)) ?_,Kd.S_mono (Kd.S_step Hb.b (fun k hk hl => hm k hk.1.1 (by omega) hl)) ?_,Kd.S_mono (Kd.S_step Hb.q (fun k hk hl => hm k hk.1.1 (by omega) hl)) ?_,Kd.S_mono hr ?_⟩
 rotate_left 3
 ·rintro k (hk | hk)
  ·exact ⟨.inl hk.1,by show (if k < w.heap.size then o k else 3) = 3;split;exact hk.2;rfl⟩
  ·exact ⟨.inr hk,if_neg (by omega)⟩
 all_goals exact fun k hk => ⟨.inl hk.1.1,(if_pos hk.1.2.2.1).trans hk.2⟩
theorem S_own_ok {α : Type} {d : Kd α} {e : Nat} {v : Value} {xs : List α} {k : Nat} (H : Kd.S d e w base ok v xs) (hk : v.ownBlock = some k) : ok k:=by
 obtain ⟨f,h0,_⟩:=H
 exact h0 k hk
theorem R_own_ok {α : Type} {d : Kd α} {e : Nat} {v : Value} {xs : List α} {k : Nat} (H : d.R e w base ok v xs) (hk : v.ownBlock = some k) : ok k:=H.1 k hk
end
def hostC (h : HV) (vf vb vq ve : Value) : List Value := [.int .i64 h.cb, .int .i64 h.cf, .int .i64 h.cp, .int .i64 h.ce,vf,vb,vq,ve, .int .i64 h.lost, .int .i64 h.stamp]
def HRead (w : World) (h : HV) (C : List Value) : Prop :=
 ∃ Af cf Ab cb Aq cq Ae ce,C = hostC h (.slice Af h.fs.length cf) (.slice Ab h.bs.length cb) (.slice Aq h.fr.length cq) (.slice Ae h.ev.length ce) ∧
  (k89).C w Af h.fs.length h.fs ∧ h.fs.length ≤ cf ∧ (k87).C w Ab h.bs.length h.bs ∧ h.bs.length ≤ cb ∧ (k45).C w Aq h.fr.length h.fr ∧ h.fr.length ≤ cq ∧ (k56).C w Ae h.ev.length h.ev ∧ h.ev.length ≤ ce
def HOwn (w : World) (base : Nat) (ok : Nat → Prop) (h : HV) (C : List Value) : Prop := ∃ vf vb vq ve o,C = hostC h vf vb vq ve ∧ HRows w base ok o h vf vb vq ve
theorem HRead.below {w w1 : World} {h : HV} {C : List Value} (H : HRead w h C) (hb : Below w.heap.size w w1) : HRead w1 h C:=by
 obtain ⟨Af,cf,Ab,cb,Aq,cq,Ae,ce,e,h1,h2,h3,h4,h5,h6,h7,h8⟩:=H
 exact ⟨Af,cf,Ab,cb,Aq,cq,Ae,ce,e,Kd.C_below h1 hb,h2,Kd.C_below h3 hb,h4,Kd.C_below h5 hb,h6,Kd.C_below h7 hb,h8⟩
theorem HRows.read {w : World} {base : Nat} {ok : Nat → Prop} {o : Nat → Nat} {h : HV} {vf vb vq ve : Value} (H : HRows w base ok o h vf vb vq ve) : HRead w h (hostC h vf vb vq ve):=by
 obtain ⟨Af,cf,rfl,lf,gf⟩:=Kd.R_reads H.f
 obtain ⟨Ab,cb,rfl,lb,gb⟩:=Kd.S_reads H.b
 obtain ⟨Aq,cq,rfl,lq,gq⟩:=Kd.S_reads H.q
 obtain ⟨Ae,ce,rfl,le,ge⟩:=Kd.S_reads H.e
 exact ⟨Af,cf,Ab,cb,Aq,cq,Ae,ce,rfl,gf,lf,gb,lb,gq,lq,ge,le⟩
theorem HOwn.read {w : World} {base : Nat} {ok : Nat → Prop} {h : HV} {C : List Value} (H : HOwn w base ok h C) : HRead w h C:=by
 obtain ⟨vf,vb,vq,ve,o,rfl,H⟩:=H
 exact H.read
theorem HOwn.below {w w1 : World} {base : Nat} {ok : Nat → Prop} {h : HV} {C : List Value} (H : HOwn w base ok h C) (hb : Below w.heap.size w w1) : HOwn w1 base ok h C:=by
 obtain ⟨vf,vb,vq,ve,o,e,H⟩:=H
 exact ⟨vf,vb,vq,ve,o,e,H.below hb⟩
theorem HOwn.bound {w : World} {base : Nat} {ok : Nat → Prop} {h : HV} {C : List Value} (H : HOwn w base ok h C) : HOwn w base (fun k => ok k ∧ Mine w base k) h C:=by
 obtain ⟨vf,vb,vq,ve,o,e,H⟩:=H
 exact ⟨vf,vb,vq,ve,o,e,H.bound⟩
theorem HOwn.tch {w w1 : World} {S : Nat → Prop} {base : Nat} {ok : Nat → Prop} {h : HV} {C : List Value} (H : HOwn w base ok h C) (hT : Tch w w1 S) (hn : ∀ k,ok k → ¬ S k) : HOwn w1 base ok h C:=by
 obtain ⟨vf,vb,vq,ve,o,e,H⟩:=H
 exact ⟨vf,vb,vq,ve,o,e,H.tch hT hn⟩
theorem HOwn.mono {w : World} {base : Nat} {ok ok' : Nat → Prop} {h : HV} {C : List Value} (H : HOwn w base ok h C) (hok : ∀ k,ok k → ok' k) : HOwn w base ok' h C:=by
 obtain ⟨vf,vb,vq,ve,o,e,H⟩:=H
 exact ⟨vf,vb,vq,ve,o,e,H.mono hok⟩
def sideP (x : HV) (m : Nat) (l1 l2 : Int) (vf vb vq ve : Value) : Array Value := #[.int .i64 x.cb, .int .i64 x.cf, .int .i64 x.cp, .int .i64 x.ce,vf,vb, .map (some m), .int .i64 l1,vq, .int .i64 l2,ve, .int .i64 x.lost, .int .i64 x.stamp]
structure SideP (w0 w : World) (p m : Nat) (x : HV) (l1 l2 : Int) (vf vb vq ve : Value) (f : Int → Option Int) (n : Nat) : Prop where
 bel : Below w0.heap.size w0 w
 blk : w.heap[p]? = some (.cells (sideP x m l1 l2 vf vb vq ve) 128 (0,0))
 map : MapAt w m f n
 rows : ∃ o,HRows w w0.heap.size (fun _ => True) o x vf vb vq ve
 hp : w0.heap.size ≤ p
 hm : w0.heap.size ≤ m
section
variable {w0 w we w1 w3 : World} {p m : Nat} {x : HV} {l1 l2 : Int} {vf vb vq ve : Value} {f f' : Int → Option Int} {n n' : Nat} {o : Nat → Nat}
theorem SideP.below (H : SideP w0 w p m x l1 l2 vf vb vq ve f n) (hb : Below w.heap.size w we) : SideP w0 we p m x l1 l2 vf vb vq ve f n:=by
 obtain ⟨h1,h2,h3,⟨o,h4⟩,h5,h6⟩:=H
 exact ⟨below_then h1 h1.size hb,blk_below h2 hb,h3.below hb,⟨o,h4.below hb⟩,h5,h6⟩
theorem SideP.pm (H : SideP w0 w p m x l1 l2 vf vb vq ve f n) : p ≠ m:=by
 rintro rfl
 obtain ⟨es,cl,hb,_⟩:=H.map
 rw [H.blk] at hb
 cases hb
theorem side_other {cells : Array Value} (hb : w.heap[p]? = some (.cells cells 128 (0,0))) {k : Nat} (hk : Mine w w0.heap.size k) : k ≠ p:=hk.ne hb (by decide)
theorem SideP.mapped (H : SideP w0 w p m x l1 l2 vf vb vq ve f n) (hT : Tch w we (fun k => k = m)) (hm : MapAt we m f' n') : SideP w0 we p m x l1 l2 vf vb vq ve f' n':=by
 have hpm:=H.pm
 have hmp:=H.map
 obtain ⟨h1,h2,h3,⟨o,h4⟩,h5,h6⟩:=H
 exact ⟨hT.below h1 h1.size (fun k hk => hk ▸ h6),hT.blk h2 hpm,hm,⟨o,(h4.bound.tch hT (fun k hk => hk.2.ne_map hmp)).mono (fun _ _ => trivial)⟩,h5,h6⟩
theorem SideP.put {x' : HV} {l1' l2' : Int} (H : SideP w0 w p m x l1 l2 vf vb vq ve f n) (hT : Tch w we (fun k => k = p)) (hx : we.heap[p]? = some (.cells (sideP x' m l1' l2' vf vb vq ve) 128 (0,0)))
  (hf : x'.fs = x.fs) (hb : x'.bs = x.bs) (hq : x'.fr = x.fr) (he : x'.ev = x.ev) : SideP w0 we p m x' l1' l2' vf vb vq ve f n:=by
 have hpm:=H.pm
 obtain ⟨h1,h2,h3,⟨o,h4⟩,h5,h6⟩:=H
 have h7:=(h4.bound.tch hT (fun k hk => side_other h2 hk.2)).mono (ok':=fun _ => True) (fun _ _ => trivial)
 exact ⟨hT.below h1 h1.size (fun k hk => hk ▸ h5),hx,h3.tch hT (fun e => hpm e.symm),⟨o,by rw [hf];exact h7.f,by rw [hb];exact h7.b,by rw [hq];exact h7.q,by rw [he];exact h7.e⟩,h5,h6⟩
theorem reown (H : HRows w w0.heap.size (fun _ => True) o x vf vb vq ve) (i : Nat) : HRows w w0.heap.size (fun _ => True) (fun k => if k < w.heap.size then o k else i) x vf vb vq ve:=H.reown (fun k hk => if_pos hk)
theorem S_lt_own {α : Type} {d : Kd α} {e base : Nat} {ok : Nat → Prop} {v : Value} {xs : List α} (h : Kd.S d e w base ok v xs) : Kd.S d e w base (fun k => ok k ∧ k < w.heap.size) v xs:=Kd.S_mono (Kd.S_bound h) (fun _ hk => ⟨hk.1,hk.2.2.1⟩)
theorem keep_of {v : Value} (hT : Tch we w3 (fun k => k = p ∨ some k = v.ownBlock)) (H : HRows we w0.heap.size (fun _ => True) o x vf vb vq ve) {cells : Array Value} (hb : we.heap[p]? = some (.cells cells 128 (0,0))) {i : Nat} (hv : ∀ k,v.ownBlock = some k → o k = i) :
  ∀ k,(True ∧ Mine we w0.heap.size k) → o k ≠ i → k < we.heap.size → w3.heap[k]? = we.heap[k]?:=by
 intro k hk hn hl
 refine hT.block hl ?_
 rintro (e | e)
 ·exact side_other hb hk.2 e
 ·exact hn (hv k e.symm)
theorem SideP.newB {vb' : Value} {l : List S87} {x' : HV} (H : SideP w0 w p m x l1 l2 vf vb vq ve f n) (HR : HRows w w0.heap.size (fun _ => True) o x vf vb vq ve) (hb : Below w.heap.size w we)
  (hT : Tch we w3 (fun k => k = p ∨ some k = vb.ownBlock)) (hx : w3.heap[p]? = some (.cells (sideP x' m l1 l2 vf vb' vq ve) 128 (0,0))) (he : x' = { x with bs:=l })
  (hS : Kd.S k87 87 w3 w0.heap.size (fun k => (o k = 1 ∧ k < w.heap.size) ∨ w.heap.size ≤ k) vb' l) : SideP w0 w3 p m x' l1 l2 vf vb' vq ve f n:=by
 subst he
 have hpm:=H.pm
 have HR1:=(reown HR 1).below hb
 have H':=H.below hb
 have hown : ∀ k,vb.ownBlock = some k → k < w.heap.size ∧ o k = 1:=fun k hk => ⟨Kd.S_lt HR.b k hk,(S_own_ok HR.b hk).2⟩
 have hw : ∀ k,(k = p ∨ some k = vb.ownBlock) → w0.heap.size ≤ k:=by
  rintro k (e | e)
  ·rw [e];exact H.hp
  ·exact Kd.S_base HR.b k e.symm
 have hnm : ¬ (m = p ∨ some m = vb.ownBlock):=by
  rintro (e | e)
  ·exact hpm e.symm
  ·obtain ⟨cs,hc⟩:=Kd.S_typed HR.b m e.symm
   obtain ⟨es,cl,hb,_⟩:=H.map
   rw [hb] at hc
   cases hc
 obtain ⟨o',ho',HR2⟩:=HRows.newB (w1:=w3) (vb':=vb') (l:=l) HR1.bound (keep_of hT HR1 H'.blk (i:=1) (fun k hk => by show (if k < w.heap.size then o k else 1) = 1;rw [if_pos (hown k hk).1];exact (hown k hk).2))
  (Kd.S_mono (Kd.S_bound hS) (fun k hk => by
   by_cases c : k < we.heap.size
   ·left
    have hne : k ≠ p ∨ k = p:=by omega
    refine ⟨⟨trivial, ?_⟩, ?_⟩
    ·obtain ⟨h1,h2,h3,q,hq,cs,hc⟩:=hk
     have hq : q ∈ [87,5]:=hq
     by_cases e : k = p ∨ some k = vb.ownBlock
     ·rcases e with e | e
      ·subst e
       rw [hx] at hc
       injection hc with hc
       injection hc with _ hc _
       subst hc
       simp at hq
      ·obtain ⟨cs',hc'⟩:=Kd.S_typed HR1.b k e.symm
       exact ⟨h2,c,_, .inr (.inl rfl),cs',hc'⟩
     ·refine ⟨h2,c,q, ?_,cs,by rw [← hT.block c e];exact hc⟩
      rcases List.mem_cons.1 hq with e1 | e1
      ·exact .inr (.inl e1)
      ·exact .inr (.inr (.inr (.inr (List.mem_singleton.1 e1))))
    ·show (if k < w.heap.size then o k else 1) = 1
     rcases hk.1 with h | h
     ·rw [if_pos h.2];exact h.1
     ·rw [if_neg (by omega)]
   ·exact .inr (by omega)))
 exact ⟨hT.below (below_then H.bel H.bel.size hb) (Nat.le_trans H.bel.size hb.size) hw,hx,(H.map.below hb).tch hT hnm,⟨o',HR2.mono (fun _ _ => trivial)⟩,H.hp,H.hm⟩
theorem SideP.newQ {vq' : Value} {l : List S45} {x' : HV} (H : SideP w0 w p m x l1 l2 vf vb vq ve f n) (HR : HRows w w0.heap.size (fun _ => True) o x vf vb vq ve) (hb : Below w.heap.size w we)
  (hT : Tch we w3 (fun k => k = p ∨ some k = vq.ownBlock)) (hx : w3.heap[p]? = some (.cells (sideP x' m l1 l2 vf vb vq' ve) 128 (0,0))) (he : x' = { x with fr:=l })
  (hS : Kd.S k45 45 w3 w0.heap.size (fun k => (o k = 2 ∧ k < w.heap.size) ∨ w.heap.size ≤ k) vq' l) : SideP w0 w3 p m x' l1 l2 vf vb vq' ve f n:=by
 subst he
 have hpm:=H.pm
 have HR1:=(reown HR 2).below hb
 have H':=H.below hb
 have hown : ∀ k,vq.ownBlock = some k → k < w.heap.size ∧ o k = 2:=fun k hk => ⟨Kd.S_lt HR.q k hk,(S_own_ok HR.q hk).2⟩
 have hw : ∀ k,(k = p ∨ some k = vq.ownBlock) → w0.heap.size ≤ k:=by
  rintro k (e | e)
  ·rw [e];exact H.hp
  ·exact Kd.S_base HR.q k e.symm
 have hnm : ¬ (m = p ∨ some m = vq.ownBlock):=by
  rintro (e | e)
  ·exact hpm e.symm
  ·obtain ⟨cs,hc⟩:=Kd.S_typed HR.q m e.symm
   obtain ⟨es,cl,hb,_⟩:=H.map
   rw [hb] at hc
   cases hc
 obtain ⟨o',ho',HR2⟩:=HRows.newQ (w1:=w3) (vq':=vq') (l:=l) HR1.bound (keep_of hT HR1 H'.blk (i:=2) (fun k hk => by show (if k < w.heap.size then o k else 2) = 2;rw [if_pos (hown k hk).1];exact (hown k hk).2))
  (Kd.S_mono (Kd.S_bound hS) (fun k hk => by
   by_cases c : k < we.heap.size
   ·left
    have hne : k ≠ p ∨ k = p:=by omega
    refine ⟨⟨trivial, ?_⟩, ?_⟩
    ·obtain ⟨h1,h2,h3,q,hq,cs,hc⟩:=hk
     have hq : q ∈ [45,5]:=hq
     by_cases e : k = p ∨ some k = vq.ownBlock
     ·rcases e with e | e
      ·subst e
       rw [hx] at hc
       injection hc with hc
       injection hc with _ hc _
       subst hc
       simp at hq
      ·obtain ⟨cs',hc'⟩:=Kd.S_typed HR1.q k e.symm
       exact ⟨h2,c,_, .inr (.inr (.inl rfl)),cs',hc'⟩
     ·refine ⟨h2,c,q, ?_,cs,by rw [← hT.block c e];exact hc⟩
      rcases List.mem_cons.1 hq with e1 | e1
      ·exact .inr (.inr (.inl e1))
      ·exact .inr (.inr (.inr (.inr (List.mem_singleton.1 e1))))
    ·show (if k < w.heap.size then o k else 2) = 2
     rcases hk.1 with h | h
     ·rw [if_pos h.2];exact h.1
     ·rw [if_neg (by omega)]
   ·exact .inr (by omega)))
 exact ⟨hT.below (below_then H.bel H.bel.size hb) (Nat.le_trans H.bel.size hb.size) hw,hx,(H.map.below hb).tch hT hnm,⟨o',HR2.mono (fun _ _ => trivial)⟩,H.hp,H.hm⟩
theorem SideP.newE {ve' : Value} {l : List S56} {x' : HV} (H : SideP w0 w p m x l1 l2 vf vb vq ve f n) (HR : HRows w w0.heap.size (fun _ => True) o x vf vb vq ve) (hb : Below w.heap.size w we)
  (hT : Tch we w3 (fun k => k = p ∨ some k = ve.ownBlock)) (hx : w3.heap[p]? = some (.cells (sideP x' m l1 l2 vf vb vq ve') 128 (0,0))) (he : x' = { x with ev:=l })
  (hS : Kd.S k56 56 w3 w0.heap.size (fun k => (o k = 3 ∧ k < w.heap.size) ∨ w.heap.size ≤ k) ve' l) : SideP w0 w3 p m x' l1 l2 vf vb vq ve' f n:=by
 subst he
 have hpm:=H.pm
 have HR1:=(reown HR 3).below hb
 have H':=H.below hb
 have hown : ∀ k,ve.ownBlock = some k → k < w.heap.size ∧ o k = 3:=fun k hk => ⟨Kd.S_lt HR.e k hk,(S_own_ok HR.e hk).2⟩
 have hw : ∀ k,(k = p ∨ some k = ve.ownBlock) → w0.heap.size ≤ k:=by
  rintro k (e | e)
  ·rw [e];exact H.hp
  ·exact Kd.S_base HR.e k e.symm
 have hnm : ¬ (m = p ∨ some m = ve.ownBlock):=by
  rintro (e | e)
  ·exact hpm e.symm
  ·obtain ⟨cs,hc⟩:=Kd.S_typed HR.e m e.symm
   obtain ⟨es,cl,hb,_⟩:=H.map
   rw [hb] at hc
   cases hc
 obtain ⟨o',ho',HR2⟩:=HRows.newE (w1:=w3) (ve':=ve') (l:=l) HR1.bound (keep_of hT HR1 H'.blk (i:=3) (fun k hk => by show (if k < w.heap.size then o k else 3) = 3;rw [if_pos (hown k hk).1];exact (hown k hk).2))
  (Kd.S_mono (Kd.S_bound hS) (fun k hk => by
   by_cases c : k < we.heap.size
   ·left
    have hne : k ≠ p ∨ k = p:=by omega
    refine ⟨⟨trivial, ?_⟩, ?_⟩
    ·obtain ⟨h1,h2,h3,q,hq,cs,hc⟩:=hk
     have hq : q ∈ [56,5]:=hq
     by_cases e : k = p ∨ some k = ve.ownBlock
     ·rcases e with e | e
      ·subst e
       rw [hx] at hc
       injection hc with hc
       injection hc with _ hc _
       subst hc
       simp at hq
      ·obtain ⟨cs',hc'⟩:=Kd.S_typed HR1.e k e.symm
       exact ⟨h2,c,_, .inr (.inr (.inr (.inl rfl))),cs',hc'⟩
     ·refine ⟨h2,c,q, ?_,cs,by rw [← hT.block c e];exact hc⟩
      rcases List.mem_cons.1 hq with e1 | e1
      ·exact .inr (.inr (.inr (.inl e1)))
      ·exact .inr (.inr (.inr (.inr (List.mem_singleton.1 e1))))
    ·show (if k < w.heap.size then o k else 3) = 3
     rcases hk.1 with h | h
     ·rw [if_pos h.2];exact h.1
     ·rw [if_neg (by omega)]
   ·exact .inr (by omega)))
 exact ⟨hT.below (below_then H.bel H.bel.size hb) (Nat.le_trans H.bel.size hb.size) hw,hx,(H.map.below hb).tch hT hnm,⟨o',HR2.mono (fun _ _ => trivial)⟩,H.hp,H.hm⟩
theorem SideP.newF {vf' : Value} {l : List S89} {x' : HV} (H : SideP w0 w p m x l1 l2 vf vb vq ve f n) (hb : Below w.heap.size w we) (hT : Tch we w3 (fun k => k = p))
  (hx : w3.heap[p]? = some (.cells (sideP x' m l1 l2 vf' vb vq ve) 128 (0,0))) (he : x' = { x with fs:=l }) (hR : (k89).R 89 we w0.heap.size (fun k => w.heap.size ≤ k) vf' l) : SideP w0 w3 p m x' l1 l2 vf' vb vq ve f n:=by
 subst he
 have hpm:=H.pm
 have hpl:=blk_lt H.blk
 have H':=H.below hb
 obtain ⟨o,HR⟩:=H.rows
 have hR3:=Kd.R_step (w1:=w3) hR (fun k hk hl => hT.block hl (by omega))
 obtain ⟨o',ho',HR2⟩:=HRows.newF (w1:=w3) (vf':=vf') (l:=l) HR.bound (fun k hk hn hl => by rw [hT.block (Nat.lt_of_lt_of_le hl hb.size) (side_other H.blk hk.2),hb.block k hl]) (Kd.R_mono hR3 (fun k hk => .inr hk))
 exact ⟨hT.below H'.bel H'.bel.size (fun k hk => hk ▸ H.hp),hx,H'.map.tch hT (fun e => hpm e.symm),⟨o',HR2.mono (fun _ _ => trivial)⟩,H.hp,H.hm⟩
theorem below_grown {row : Option Nat} (hg : w.grownBy we row) (hn : ∀ k,row = some k → w.heap.size ≤ k) : Below w.heap.size w we :=
 ⟨hg.os,hg.tape,hg.output,hg.size,fun k hk => hg.block k hk (fun e => by have:=hn k e.symm;omega)⟩
end
end Go.Proofs.Ytcaefabbcjlkdaa.P
namespace Go.Proofs.Ytcaefabbcjlkdaa.P
open Go.RowKit Go.Proofs.YtcaefabbcjlkdaaW.PrintWords Go.Proofs.YtcaefabbcjlkdaaW.PrintLast Go.Proofs.YtcaefabbcjlkdaaW.PrintMore
set_option linter.unusedVariables false
set_option linter.unusedSimpArgs false
def laws_markByteS.l0 : Nat → List Int → Int → Int → Option (Int × List Int)
 | 0,_,_,_ => none
 | k + 1,x0,x1,x5 => if x5 < (x0.length : Int) then (if 0 ≤ x5 then (laws_markByteS.l0 k (x0.set (x5 : Int).toNat ((x1) % 256)) (wrap64 (x1 + 1)) (wrap64 (x5 + 1))) else (none)) else (some (x1,x0))
def laws_heldByteS.l0 : Nat → List Int → Int → Int → Option (Int)
 | 0,_,_,_ => none
 | k + 1,x0,x1,x5 => if x5 < (x0.length : Int) then (if 0 ≤ x5 then (if (rd x0 x5) = ((x1) % 256) then (laws_heldByteS.l0 k x0 (wrap64 (x1 + 1)) (wrap64 (x5 + 1))) else (some (-1))) else (none)) else (some x1)
def laws_heldByteS.f (k : Nat) (l0 : List Int) (a1 : Int) : Option (Int):=laws_heldByteS.l0 k l0 a1 0
end Go.Proofs.Ytcaefabbcjlkdaa.P
namespace Go.Proofs.Ytcaefabbcjlkdaa.P
open Go Go.RowKit Go.Proofs.YtcaefabbcjlkdaaW.PrintWords
set_option linter.unusedVariables false
structure Mk {α : Type} (l xs : List α) (i : Nat) (ys : List α) : Prop where
 len : ys.length = xs.length
 ll : l.length = xs.length
 done : ∀ j,j < i → ys[j]? = l[j]?
 left : ∀ j,i ≤ j → ys[j]? = xs[j]?
theorem Mk.all {α : Type} {l xs ys : List α} {i : Nat} (h : Mk l xs i ys) (hi : xs.length ≤ i) : ys = l:=by
 apply List.ext_getElem?
 intro j
 by_cases c : j < i
 ·exact h.done j c
 ·rw [List.getElem?_eq_none (by have:=h.len;omega),List.getElem?_eq_none (by have:=h.ll;omega)]
theorem Mk.next {α : Type} {l xs ys : List α} {i : Nat} (h : Mk l xs i ys) {v : α} (hi : i < xs.length) (hv : l[i]? = some v) : Mk l xs (i + 1) (ys.set i v):=by
 refine ⟨by rw [List.length_set];exact h.len,h.ll,fun j hj => ?_,fun j hj => ?_⟩
 ·rw [List.getElem?_set]
  by_cases e : i = j
  ·subst e;rw [if_pos rfl,if_pos (by have:=h.len;omega),hv]
  ·rw [if_neg e];exact h.done j (by omega)
 ·rw [List.getElem?_set,if_neg (by omega)];exact h.left j (by omega)
theorem Mk.at {α : Type} {l xs ys : List α} {i : Nat} (h : Mk l xs i ys) (z : α) : ys.getD i z = xs.getD i z:=by
 rw [List.getD_eq_getElem?_getD,List.getD_eq_getElem?_getD,h.left i (Nat.le_refl i)]
end Go.Proofs.Ytcaefabbcjlkdaa.P
namespace Go.Proofs.Ytcaefabbcjlkdaa.P
open Go.RowKit Go.Proofs.YtcaefabbcjlkdaaW.PrintWords Go.Proofs.YtcaefabbcjlkdaaW.PrintLast Go.Proofs.YtcaefabbcjlkdaaW.PrintMore
set_option linter.unusedVariables false
set_option linter.unusedSimpArgs false
def laws_heldBoxS.l0 : Nat → List (S87) → Int → Int → Option (Int)
 | 0,_,_,_ => none
 | k + 1,x0,x1,x5 => if x5 < (x0.length : Int) then (if 0 ≤ x5 then (if ((rd_T87 x0 x5).f0) = x1 then (if ((rd_T87 x0 x5).f1) = (wrap64 (x1 + 1)) then (if ((rd_T87 x0 x5).f2) = (wrap64 ((wrap64 (x1 + 1)) + 1)) then (if (((rd_T87 x0 x5).f3.f0) != ((Int.tmod (wrap64 ((wrap64 ((wrap64 (x1 + 1)) + 1)) + 1)) 3) == 0)) = true then (some (-1)) else (if ((rd_T87 x0 x5).f3.f1) = ((wrap64 ((wrap64 ((wrap64 ((wrap64 (x1 + 1)) + 1)) + 1)) + 1)) % 4294967296) then (if (((rd_T87 x0 x5).f3.f2) != ((Int.tmod (wrap64 ((wrap64 ((wrap64 ((wrap64 ((wrap64 (x1 + 1)) + 1)) + 1)) + 1)) + 1)) 3) == 0)) = true then (some (-1)) else (if ((rd_T87 x0 x5).f3.f3) = (wrap64 ((wrap64 ((wrap64 ((wrap64 ((wrap64 ((wrap64 (x1 + 1)) + 1)) + 1)) + 1)) + 1)) + 1)) then ((laws_heldByteS.f k ((rd_T87 x0 x5).f3.f4) (wrap64 ((wrap64 ((wrap64 ((wrap64 ((wrap64 ((wrap64 ((wrap64 (x1 + 1)) + 1)) + 1)) + 1)) + 1)) + 1)) + 1))).bind fun t809 => (if t809 < 0 then (some (-1)) else (laws_heldBoxS.l0 k x0 t809 (wrap64 (x5 + 1))))) else (some (-1)))) else (some (-1)))) else (some (-1))) else (some (-1))) else (some (-1))) else (none)) else (some x1)
end Go.Proofs.Ytcaefabbcjlkdaa.P
namespace Go.Proofs.Ytcaefabbcjlkdaa.P
open Go Go.RowKit Go.Proofs.YtcaefabbcjlkdaaW.PrintWords Go.Proofs.YtcaefabbcjlkdaaW.PrintLast Go.Proofs.YtcaefabbcjlkdaaW.PrintMore
set_option linter.unusedVariables false
set_option linter.unusedSimpArgs false
def offBox (xs : List S87) : Nat → Int
 | 0 => 0
 | i + 1 => offBox xs i + 7 + ((xs.getD i z87).f3.f4.length : Int)
end Go.Proofs.Ytcaefabbcjlkdaa.P
namespace Go.Proofs.Ytcaefabbcjlkdaa.P
open Go.RowKit Go.Proofs.YtcaefabbcjlkdaaW.PrintWords Go.Proofs.YtcaefabbcjlkdaaW.PrintLast Go.Proofs.YtcaefabbcjlkdaaW.PrintMore
set_option linter.unusedVariables false
set_option linter.unusedSimpArgs false
def laws_heldFrameS.l0 : Nat → List (S45) → Int → Int → Option (Int)
 | 0,_,_,_ => none
 | k + 1,x0,x1,x5 => if x5 < (x0.length : Int) then (if 0 ≤ x5 then (if (((rd_T45 x0 x5).f0) != ((Int.tmod x1 3) == 0)) = true then (some (-1)) else (if ((rd_T45 x0 x5).f1) = ((wrap64 (x1 + 1)) % 4294967296) then (if (((rd_T45 x0 x5).f2) != ((Int.tmod (wrap64 ((wrap64 (x1 + 1)) + 1)) 3) == 0)) = true then (some (-1)) else (if ((rd_T45 x0 x5).f3) = (wrap64 ((wrap64 ((wrap64 (x1 + 1)) + 1)) + 1)) then ((laws_heldByteS.f k ((rd_T45 x0 x5).f4) (wrap64 ((wrap64 ((wrap64 ((wrap64 (x1 + 1)) + 1)) + 1)) + 1))).bind fun t815 => (if t815 < 0 then (some (-1)) else (laws_heldFrameS.l0 k x0 t815 (wrap64 (x5 + 1))))) else (some (-1)))) else (some (-1)))) else (none)) else (some x1)
end Go.Proofs.Ytcaefabbcjlkdaa.P
namespace Go.Proofs.Ytcaefabbcjlkdaa.P
open Go Go.RowKit Go.Proofs.YtcaefabbcjlkdaaW.PrintWords Go.Proofs.YtcaefabbcjlkdaaW.PrintLast Go.Proofs.YtcaefabbcjlkdaaW.PrintMore
set_option linter.unusedVariables false
set_option linter.unusedSimpArgs false
def offFrame (xs : List S45) : Nat → Int
 | 0 => 0
 | i + 1 => offFrame xs i + 4 + ((xs.getD i z45).f4.length : Int)
end Go.Proofs.Ytcaefabbcjlkdaa.P
namespace Go.Proofs.Ytcaefabbcjlkdaa.P
open Go.RowKit Go.Proofs.YtcaefabbcjlkdaaW.PrintWords Go.Proofs.YtcaefabbcjlkdaaW.PrintLast Go.Proofs.YtcaefabbcjlkdaaW.PrintMore
set_option linter.unusedVariables false
set_option linter.unusedSimpArgs false
def laws_heldEventS.l0 : Nat → List (S56) → Int → Int → Option (Int)
 | 0,_,_,_ => none
 | k + 1,x0,x1,x5 => if x5 < (x0.length : Int) then (if 0 ≤ x5 then (if ((rd_T56 x0 x5).f0) = x1 then (if ((rd_T56 x0 x5).f1) = (wrap64 (x1 + 1)) then (if ((rd_T56 x0 x5).f2) = (wrap64 ((wrap64 (x1 + 1)) + 1)) then (if (((rd_T56 x0 x5).f3.f0) != ((Int.tmod (wrap64 ((wrap64 ((wrap64 (x1 + 1)) + 1)) + 1)) 3) == 0)) = true then (some (-1)) else (if ((rd_T56 x0 x5).f3.f1) = ((wrap64 ((wrap64 ((wrap64 ((wrap64 (x1 + 1)) + 1)) + 1)) + 1)) % 4294967296) then (if (((rd_T56 x0 x5).f3.f2) != ((Int.tmod (wrap64 ((wrap64 ((wrap64 ((wrap64 ((wrap64 (x1 + 1)) + 1)) + 1)) + 1)) + 1)) 3) == 0)) = true then (some (-1)) else (if ((rd_T56 x0 x5).f3.f3) = (wrap64 ((wrap64 ((wrap64 ((wrap64 ((wrap64 ((wrap64 (x1 + 1)) + 1)) + 1)) + 1)) + 1)) + 1)) then ((laws_heldByteS.f k ((rd_T56 x0 x5).f3.f4) (wrap64 ((wrap64 ((wrap64 ((wrap64 ((wrap64 ((wrap64 ((wrap64 (x1 + 1)) + 1)) + 1)) + 1)) + 1)) + 1)) + 1))).bind fun t797 => (if t797 < 0 then (some (-1)) else (laws_heldEventS.l0 k x0 t797 (wrap64 (x5 + 1))))) else (some (-1)))) else (some (-1)))) else (some (-1))) else (some (-1))) else (some (-1))) else (none)) else (some x1)
end Go.Proofs.Ytcaefabbcjlkdaa.P
namespace Go.Proofs.Ytcaefabbcjlkdaa.P
open Go Go.RowKit Go.Proofs.YtcaefabbcjlkdaaW.PrintWords Go.Proofs.YtcaefabbcjlkdaaW.PrintLast Go.Proofs.YtcaefabbcjlkdaaW.PrintMore
set_option linter.unusedVariables false
set_option linter.unusedSimpArgs false
def offEvent (xs : List S56) : Nat → Int
 | 0 => 0
 | i + 1 => offEvent xs i + 7 + ((xs.getD i z56).f3.f4.length : Int)
end Go.Proofs.Ytcaefabbcjlkdaa.P
namespace Go.Proofs.Ytcaefabbcjlkdaa.P
open Go.RowKit Go.Proofs.YtcaefabbcjlkdaaW.PrintWords Go.Proofs.YtcaefabbcjlkdaaW.PrintLast Go.Proofs.YtcaefabbcjlkdaaW.PrintMore
set_option linter.unusedVariables false
set_option linter.unusedSimpArgs false
def laws_markFilterS.l0 : Nat → List (S89) → Int → Int → Option (Int × (List (S89)))
 | 0,_,_,_ => none
 | k + 1,x0,x1,x5 => if x5 < (x0.length : Int) then (if 0 ≤ x5 then ((some (x0.set (x5 : Int).toNat (⟨((Int.tmod x1 3) == 0),(rd_T89 x0 x5).f1,(rd_T89 x0 x5).f2⟩ : S89) : List (S89))).bind fun y781 => ((some (y781.set (x5 : Int).toNat (⟨(rd_T89 y781 x5).f0,(wrap64 (x1 + 1)) % 4294967296,(rd_T89 y781 x5).f2⟩ : S89) : List (S89))).bind fun y782 => (laws_markFilterS.l0 k (y782.set (x5 : Int).toNat (⟨(rd_T89 y782 x5).f0,(rd_T89 y782 x5).f1,(wrap64 ((wrap64 (x1 + 1)) + 1)) % 4294967296⟩ : S89)) (wrap64 ((wrap64 ((wrap64 (x1 + 1)) + 1)) + 1)) (wrap64 (x5 + 1))))) else (none)) else (some (x1,x0))
def laws_heldFilterS.l0 : Nat → List (S89) → Int → Int → Option (Int)
 | 0,_,_,_ => none
 | k + 1,x0,x1,x5 => if x5 < (x0.length : Int) then (if 0 ≤ x5 then (if (((rd_T89 x0 x5).f0) != ((Int.tmod x1 3) == 0)) = true then (some (-1)) else (if ((rd_T89 x0 x5).f1) = ((wrap64 (x1 + 1)) % 4294967296) then (if ((rd_T89 x0 x5).f2) = ((wrap64 ((wrap64 (x1 + 1)) + 1)) % 4294967296) then (laws_heldFilterS.l0 k x0 (wrap64 ((wrap64 ((wrap64 (x1 + 1)) + 1)) + 1)) (wrap64 (x5 + 1))) else (some (-1))) else (some (-1)))) else (none)) else (some x1)
end Go.Proofs.Ytcaefabbcjlkdaa.P
namespace Go.Proofs.Ytcaefabbcjlkdaa.P
open Go Go.RowKit Go.Proofs.YtcaefabbcjlkdaaW.PrintWords Go.Proofs.YtcaefabbcjlkdaaW.PrintLast Go.Proofs.YtcaefabbcjlkdaaW.PrintMore
set_option linter.unusedVariables false
set_option linter.unusedSimpArgs false
def cnt1 (h : HV) (q : Int) : Int:=q + 3 * (h.fs.length : Int)
def cnt2 (h : HV) (q : Int) : Int:=cnt1 h q + offBox h.bs h.bs.length
def cnt3 (h : HV) (q : Int) : Int:=cnt2 h q + offFrame h.fr h.fr.length
def cnt4 (h : HV) (q : Int) : Int:=cnt3 h q + offEvent h.ev h.ev.length
structure HMarks (q : Int) (h : HV) : Prop where
 q0 : 0 ≤ q
 top : cnt4 h q ≤ 50000000
 l2 : h.bs.length ≤ 10000000
 l3 : h.fr.length ≤ 10000000
 l4 : h.ev.length ≤ 10000000
 d2 : ∀ y ∈ h.bs,y.f3.f4.length ≤ 10000000
 d3 : ∀ y ∈ h.fr,y.f4.length ≤ 10000000
 d4 : ∀ y ∈ h.ev,y.f3.f4.length ≤ 10000000
section
variable {w w1 : World} {base : Nat} {ok : Nat → Prop} {o : Nat → Nat} {h : HV} {vf vb vq ve : Value}
end
theorem getD_at2 {α : Type} (l : List α) (i : Nat) (z : α) (h : i < l.length) : l[i]? = some (l.getD (i : Int).toNat z):=by rw [Int.toNat_natCast,List.getD_eq_getElem?_getD,List.getElem?_eq_getElem h];rfl
set_option maxRecDepth 100000 in
set_option maxHeartbeats 2000000 in
theorem eqFilter_v (x : S89) (w : World) :
  Calls Try.prog 68 #[.agg #[.bool x.f0, .int .u32 x.f1, .int .u32 x.f2], .agg #[.bool x.f0, .int .u32 x.f1, .int .u32 x.f2]] w fun e w' => e = .returned (.bool true) ∧ Below w.heap.size w w':=by
 have HB_0 : Hid (Below w.heap.size w w):=Lib.hid (Below.refl _ _)
 have b0 : (x.f0 != x.f0) = false:=bne_self_eq_false _
 have b1 : (x.f1 != x.f1) = false:=bne_self_eq_false _
 have b2 : (x.f2 != x.f2) = false:=bne_self_eq_false _
 go_enter Try.func68,Try.ntmps68
 go_upto_region 1 with (first | ((with_reducible refine gate_dst (N:=2) rfl ?_);refine box_event ?hg (N:=2) ?hd (cs := #[.bool x.f0, .int .u32 x.f1, .int .u32 x.f2]) (t:=89) ?hr ?_;(case hd => rfl);(case hg => rfl);(case hr => first | (go_simp;done) | (go_simp;rfl));intro g2 hg w1 hbox hb;have LO_HB_g2 : Hid (w.heap.size ≤ g2):=Lib.hid (by rw [hg];exact HB_0.out.size);have HEg2:=Lib.hid hg;have HB_1:=Lib.hid (below_then HB_0.out HB_0.out.size hb);have Xg2_1:=Lib.hid hbox;clear hg hbox hb) | ((with_reducible refine gate_dst (N:=3) rfl ?_);refine box_event ?hg (N:=3) ?hd (cs := #[.bool x.f0, .int .u32 x.f1, .int .u32 x.f2]) (t:=89) ?hr ?_;(case hd => rfl);(case hg => rfl);(case hr => first | (go_simp;done) | (go_simp;rfl));intro g3 hg w2 hbox hb;have LO_HB_g3 : Hid (w.heap.size ≤ g3):=Lib.hid (by rw [hg];exact HB_1.out.size);have NE_g2_g3 : Hid (g2 ≠ g3):=Lib.hid (fun e => by have h1:=blk_lt Xg2_1.out;omega);have HEg3:=Lib.hid hg;have HB_2:=Lib.hid (below_then HB_1.out HB_1.out.size hb);have Xg2_2:=Lib.hid (blk_below Xg2_1.out hb);have Xg3_2:=Lib.hid hbox;clear hg hbox hb))
 have x0 : w2.cell? ⟨g2,0,none⟩ = some (.bool x.f0):=blk_cell Xg2_2.out 0
 have y0 : w2.cell? ⟨g3,0,none⟩ = some (.bool x.f0):=blk_cell Xg3_2.out 0
 have x1 : w2.cell? ⟨g2,1,none⟩ = some (.int .u32 x.f1):=blk_cell Xg2_2.out 1
 have y1 : w2.cell? ⟨g3,1,none⟩ = some (.int .u32 x.f1):=blk_cell Xg3_2.out 1
 have x2 : w2.cell? ⟨g2,2,none⟩ = some (.int .u32 x.f2):=blk_cell Xg2_2.out 2
 have y2 : w2.cell? ⟨g3,2,none⟩ = some (.int .u32 x.f2):=blk_cell Xg3_2.out 2
 go_wp2_with (fail)
 go_ret
 exact ⟨rfl,HB_2.out⟩
set_option maxRecDepth 100000 in
set_option maxHeartbeats 4000000 in
theorem eqFilterS_v (l : List S89) (hl : l.length ≤ 10000000) (w : World) (A B : Option Addr) (c d : Nat) (ha : (k89).C w A l.length l) (hc : l.length ≤ c) (hb : (k89).C w B l.length l) (hd : l.length ≤ d) :
  Calls Try.prog 20 #[.slice A l.length c, .slice B l.length d] w fun e w' => e = .returned (.bool true) ∧ Below w.heap.size w w':=by
 have GA:=Lib.hid ha
 have GB:=Lib.hid hb
 have HL:=Lib.hid hl
 clear ha hb hl
 have HB_0 : Hid (Below w.heap.size w w):=Lib.hid (Below.refl _ _)
 have bl : ((l.length : Int) != (l.length : Int)) = false:=bne_self_eq_false _
 go_enter Try.func20,Try.ntmps20
 go_wp2_with (fail)
 go_loopw [5] (fun v5 wr => ∃ i : Nat,i ≤ l.length ∧ v5 = .int .i64 i ∧ Aside0 (Below w.heap.size w wr)) (fun v5 _ => l.length - (intOf v5).toNat)
 case atStart => exact ⟨0,Nat.zero_le _,rfl,⟨HB_0.out⟩⟩
 case round =>
  obtain ⟨i,hi,rfl,HB⟩:=hrel
  by_cases hlt : i < l.length
  ·have a1 : (0 : Int) ≤ (i : Int):=Int.natCast_nonneg _
   have a2 : (i : Int) < (l.length : Int):=by exact_mod_cast hlt
   obtain ⟨ad,ea,k0,k1,k2⟩:=at_T89 (Kd.C_below GA.out HB.out) (i : Int) a1 a2
   obtain ⟨be,eb,m0,m1,m2⟩:=at_T89 (Kd.C_below GB.out HB.out) (i : Int) a1 a2
   subst ea
   subst eb
   clear a1 a2
   rw [Int.toNat_natCast] at k0 k1 k2 m0 m1 m2
   obtain ⟨x,hx⟩ : ∃ x,x = rd_T89 l (i : Int):=⟨_,rfl⟩
   rw [← hx] at k0 k1 k2 m0 m1 m2
   clear hx
   have b2 : decide ((i : Int) < (l.length : Int)) = true:=decide_eq_true (by omega)
   have p5 : (0 ≤ (i : Int)) = True:=eq_true (by omega)
   have q5 : ((i : Int) < (l.length : Int)) = True:=eq_true (by omega)
   have qn : (i < l.length) = True:=eq_true hlt
   have hn : wrap64 ((i : Int) + 1) = (i : Int) + 1:=by have:=HL.out;unfold wrap64;omega
   have HLT:=Lib.hid hlt
   have HN:=Lib.hid hn
   clear hlt hi
   go_wp2_with (fail)
   have K0':=Lib.hid k0
   have K1':=Lib.hid k1
   have K2':=Lib.hid k2
   have M0':=Lib.hid m0
   have M1':=Lib.hid m1
   have M2':=Lib.hid m2
   clear k0 k1 k2 m0 m1 m2
   obtain ⟨wd,hwd⟩ : ∃ wd,wd = wr.drew:=⟨_,rfl⟩
   have HWd : Hid (Below wr.heap.size wr wd):=by rw [hwd];exact Lib.hid (below_drew (Below.refl _ _))
   refine start_ (n:=10) (S:=fun w' : World => Below wr.heap.size wr w') (ds := []) #[false,false,false,false,false,false,false,false,false,false] (by kernel_rfl) rfl rfl (hwd ▸ HWd.out) (fun hHeld => ?_)
   rw [← hwd] at hHeld ⊢
   clear hwd
   refine pure_ (i:=0) (N:=some 17) (v := ?_) (a' := ?_) #[true,false,false,false,false,false,false,false,false,false] rfl rfl (by kernel_rfl) (fun _ _ _ h => h) (Or.inl ⟨by rfl, ?_⟩) ?_ ?_
   rotate_left
   ·intro w'
    go_simp
    with_reducible rfl
   rotate_left
   ·simp only [Act.put,List.setIfInBounds_toArray,List.set_cons_zero,List.set_cons_succ,i64_w,i32_w]
    rfl
   refine pure_ (i:=1) (N:=some 18) (v := ?_) (a' := ?_) #[true,true,false,false,false,false,false,false,false,false] rfl rfl (by kernel_rfl) (fun _ _ _ h => h) (Or.inl ⟨by rfl, ?_⟩) ?_ ?_
   rotate_left
   ·intro w'
    go_simp
    with_reducible rfl
   rotate_left
   ·simp only [Act.put,List.setIfInBounds_toArray,List.set_cons_zero,List.set_cons_succ,i64_w,i32_w]
    rfl
   refine pure_ (i:=2) (N:=some 19) (v := ?_) (a' := ?_) #[true,true,true,false,false,false,false,false,false,false] rfl rfl (by kernel_rfl) (fun _ _ _ h => h) (Or.inl ⟨by rfl, ?_⟩) ?_ ?_
   rotate_left
   ·intro w'
    go_simp
    with_reducible rfl
   rotate_left
   ·simp only [Act.put,List.setIfInBounds_toArray,List.set_cons_zero,List.set_cons_succ,i64_w,i32_w]
    rfl
   refine take_ (i:=3) (N:=some 20) (v := ?_) (a' := ?_) #[true,true,true,true,false,false,false,false,false,false] rfl rfl (by kernel_rfl) (fun _ _ _ h => h) (Or.inl ⟨by rfl, ?_⟩) hHeld ?_ ?_
   rotate_left
   ·intro w' s0
    have e0:=pw_cell_below s0 K0'.out
    have e1:=pw_cell_below s0 K1'.out
    have e2:=pw_cell_below s0 K2'.out
    go_simp
    with_reducible rfl
   rotate_left
   ·simp only [Act.put,List.setIfInBounds_toArray,List.set_cons_zero,List.set_cons_succ,i64_w,i32_w]
    rfl
   refine pure_ (i:=4) (N:=some 21) (v := ?_) (a' := ?_) #[true,true,true,true,true,false,false,false,false,false] rfl rfl (by kernel_rfl) (fun _ _ _ h => h) (Or.inl ⟨by rfl, ?_⟩) ?_ ?_
   rotate_left
   ·intro w'
    go_simp
    with_reducible rfl
   rotate_left
   ·simp only [Act.put,List.setIfInBounds_toArray,List.set_cons_zero,List.set_cons_succ,i64_w,i32_w]
    rfl
   refine pure_ (i:=5) (N:=some 22) (v := ?_) (a' := ?_) #[true,true,true,true,true,true,false,false,false,false] rfl rfl (by kernel_rfl) (fun _ _ _ h => h) (Or.inl ⟨by rfl, ?_⟩) ?_ ?_
   rotate_left
   ·intro w'
    go_simp
    with_reducible rfl
   rotate_left
   ·simp only [Act.put,List.setIfInBounds_toArray,List.set_cons_zero,List.set_cons_succ,i64_w,i32_w]
    rfl
   refine pure_ (i:=6) (N:=some 23) (v := ?_) (a' := ?_) #[true,true,true,true,true,true,true,false,false,false] rfl rfl (by kernel_rfl) (fun _ _ _ h => h) (Or.inl ⟨by rfl, ?_⟩) ?_ ?_
   rotate_left
   ·intro w'
    go_simp
    with_reducible rfl
   rotate_left
   ·simp only [Act.put,List.setIfInBounds_toArray,List.set_cons_zero,List.set_cons_succ,i64_w,i32_w]
    rfl
   refine take_ (i:=7) (N:=some 24) (v := ?_) (a' := ?_) #[true,true,true,true,true,true,true,true,false,false] rfl rfl (by kernel_rfl) (fun _ _ _ h => h) (Or.inl ⟨by rfl, ?_⟩) hHeld ?_ ?_
   rotate_left
   ·intro w' s0
    have e0:=pw_cell_below s0 M0'.out
    have e1:=pw_cell_below s0 M1'.out
    have e2:=pw_cell_below s0 M2'.out
    go_simp
    with_reducible rfl
   rotate_left
   ·simp only [Act.put,List.setIfInBounds_toArray,List.set_cons_zero,List.set_cons_succ,i64_w,i32_w]
    rfl
   refine one_ (i:=8) (N:=some 25) #[true,true,true,true,true,true,true,true,true,false] rfl rfl (by kernel_rfl) (by decide) (fun K hK => ?_)
   refine goes_ Try.func68 (by kernel_rfl) rfl #[.agg #[.bool x.f0, .int .u32 x.f1, .int .u32 x.f2], .agg #[.bool x.f0, .int .u32 x.f1, .int .u32 x.f2]] (by rfl) rfl rfl (by (try simp only [List.map_toArray,List.map_cons,List.map_nil]);first | done | rfl) ?_
   refine (eqFilter_v x wd).mono ?_
   rintro e w6 ⟨rfl,hb⟩
   refine ⟨_,rfl, ?_⟩
   have HB6:=Lib.hid (below_then HWd.out HWd.out.size hb)
   clear hb
   refine hK.out _ _ HB6.out (fun hHeld => ?_)
   clear hK K
   refine norm_ (a' := ?_) ?_ ?_
   rotate_left
   ·show Act.put _ (some 25) _ = _
    simp only [Act.put,List.setIfInBounds_toArray,List.set_cons_zero,List.set_cons_succ,i64_w,i32_w]
    rfl
   refine pure_ (i:=9) (N:=some 26) (v := ?_) (a' := ?_) #[true,true,true,true,true,true,true,true,true,true] rfl rfl (by kernel_rfl) (fun _ _ _ h => h) (Or.inl ⟨by rfl, ?_⟩) ?_ ?_
   rotate_left
   ·intro w'
    go_simp
    with_reducible rfl
   rotate_left
   ·simp only [Act.put,List.setIfInBounds_toArray,List.set_cons_zero,List.set_cons_succ,i64_w,i32_w]
    rfl
   refine done_ (by kernel_rfl) ?_
   go_wp2_with (fail)
   go_roundw
   case rel => exact ⟨i + 1,HLT.out,by rw [HN.out];rfl,⟨below_then HB.out HB.out.size HB6.out⟩⟩
   case measure => rw [HN.out];have:=HLT.out;simp [intOf];omega
  ·have b2 : decide ((i : Int) < (l.length : Int)) = false:=decide_eq_false (by omega)
   go_wp2_with (fail)
   go_ret
   exact ⟨rfl,HB.out⟩
set_option maxRecDepth 100000 in
set_option maxHeartbeats 2000000 in
theorem eqFrame_v (x : S45) (w : World) (A B : Option Addr) (c d : Nat) (ha : (Kd.int .u8).C w A x.f4.length x.f4) (hc : x.f4.length ≤ c) (hb : (Kd.int .u8).C w B x.f4.length x.f4) (hd : x.f4.length ≤ d) (hl : x.f4.length ≤ 10000000) :
  Calls Try.prog 55 #[.agg #[.bool x.f0, .int .u32 x.f1, .bool x.f2, .int .i64 x.f3, .slice A x.f4.length c], .agg #[.bool x.f0, .int .u32 x.f1, .bool x.f2, .int .i64 x.f3, .slice B x.f4.length d]] w fun e w' => e = .returned (.bool true) ∧ Below w.heap.size w w':=by
 have GA:=Lib.hid ha
 have LA:=Lib.hid hc
 have GB:=Lib.hid hb
 have LB:=Lib.hid hd
 have HL:=Lib.hid hl
 clear ha hc hb hd hl
 have HB_0 : Hid (Below w.heap.size w w):=Lib.hid (Below.refl _ _)
 have b0 : (x.f0 != x.f0) = false:=bne_self_eq_false _
 have b1 : (x.f1 != x.f1) = false:=bne_self_eq_false _
 have b2 : (x.f2 != x.f2) = false:=bne_self_eq_false _
 have b3 : (x.f3 != x.f3) = false:=bne_self_eq_false _
 go_enter Try.func55,Try.ntmps55
 go_upto_region 1 with (first | ((with_reducible refine gate_dst (N:=2) rfl ?_);refine box_event ?hg (N:=2) ?hd (cs := #[.bool x.f0, .int .u32 x.f1, .bool x.f2, .int .i64 x.f3, .slice A x.f4.length c]) (t:=45) ?hr ?_;(case hd => rfl);(case hg => rfl);(case hr => first | (go_simp;done) | (go_simp;rfl));intro g2 hg w1 hbox hb;have LO_HB_g2 : Hid (w.heap.size ≤ g2):=Lib.hid (by rw [hg];exact HB_0.out.size);have HEg2:=Lib.hid hg;have HB_1:=Lib.hid (below_then HB_0.out HB_0.out.size hb);have Xg2_1:=Lib.hid hbox;clear hg hbox hb) | ((with_reducible refine gate_dst (N:=3) rfl ?_);refine box_event ?hg (N:=3) ?hd (cs := #[.bool x.f0, .int .u32 x.f1, .bool x.f2, .int .i64 x.f3, .slice B x.f4.length d]) (t:=45) ?hr ?_;(case hd => rfl);(case hg => rfl);(case hr => first | (go_simp;done) | (go_simp;rfl));intro g3 hg w2 hbox hb;have LO_HB_g3 : Hid (w.heap.size ≤ g3):=Lib.hid (by rw [hg];exact HB_1.out.size);have NE_g2_g3 : Hid (g2 ≠ g3):=Lib.hid (fun e => by have h1:=blk_lt Xg2_1.out;omega);have HEg3:=Lib.hid hg;have HB_2:=Lib.hid (below_then HB_1.out HB_1.out.size hb);have Xg2_2:=Lib.hid (blk_below Xg2_1.out hb);have Xg3_2:=Lib.hid hbox;clear hg hbox hb))
 have x0 : w2.cell? ⟨g2,0,none⟩ = some (.bool x.f0):=blk_cell Xg2_2.out 0
 have y0 : w2.cell? ⟨g3,0,none⟩ = some (.bool x.f0):=blk_cell Xg3_2.out 0
 have x1 : w2.cell? ⟨g2,1,none⟩ = some (.int .u32 x.f1):=blk_cell Xg2_2.out 1
 have y1 : w2.cell? ⟨g3,1,none⟩ = some (.int .u32 x.f1):=blk_cell Xg3_2.out 1
 have x2 : w2.cell? ⟨g2,2,none⟩ = some (.bool x.f2):=blk_cell Xg2_2.out 2
 have y2 : w2.cell? ⟨g3,2,none⟩ = some (.bool x.f2):=blk_cell Xg3_2.out 2
 have x3 : w2.cell? ⟨g2,3,none⟩ = some (.int .i64 x.f3):=blk_cell Xg2_2.out 3
 have y3 : w2.cell? ⟨g3,3,none⟩ = some (.int .i64 x.f3):=blk_cell Xg3_2.out 3
 have x4 : w2.cell? ⟨g2,4,none⟩ = some (.slice A x.f4.length c):=blk_cell Xg2_2.out 4
 have y4 : w2.cell? ⟨g3,4,none⟩ = some (.slice B x.f4.length d):=blk_cell Xg3_2.out 4
 go_wp2_with (first | (go_at_call 107;obtain ⟨k,hk⟩:=(eqByteS_ev x.f4 HL.out).rounds;refine (laws_eqByteS.calls k A c x.f4 B d x.f4 true w2 (Kd.C_below GA.out HB_2.out) LA.out (Kd.C_below GB.out HB_2.out) LB.out hk).mono ?_;rintro e w3 ⟨rfl,hb0⟩;have hb:=hb0.below;have HB_3:=Lib.hid (below_then HB_2.out HB_2.out.size hb);have Xg2_3:=Lib.hid (blk_below Xg2_2.out hb);have Xg3_3:=Lib.hid (blk_below Xg3_2.out hb);clear hb hb0 hk))
 go_ret
 exact ⟨rfl,HB_3.out⟩
set_option maxRecDepth 100000 in
set_option maxHeartbeats 4000000 in
theorem eqFrameS_v (l : List S45) (hl : l.length ≤ 10000000) (hdd : ∀ y ∈ l,y.f4.length ≤ 10000000) (w : World) (A B : Option Addr) (c d : Nat) (ha : (k45).C w A l.length l) (hc : l.length ≤ c) (hb : (k45).C w B l.length l) (hd : l.length ≤ d) :
  Calls Try.prog 67 #[.slice A l.length c, .slice B l.length d] w fun e w' => e = .returned (.bool true) ∧ Below w.heap.size w w':=by
 have GA:=Lib.hid ha
 have GB:=Lib.hid hb
 have HL:=Lib.hid hl
 have HD:=Lib.hid hdd
 clear ha hb hl hdd
 have HB_0 : Hid (Below w.heap.size w w):=Lib.hid (Below.refl _ _)
 have bl : ((l.length : Int) != (l.length : Int)) = false:=bne_self_eq_false _
 go_enter Try.func67,Try.ntmps67
 go_wp2_with (fail)
 go_loopw [5] (fun v5 wr => ∃ i : Nat,i ≤ l.length ∧ v5 = .int .i64 i ∧ Aside0 (Below w.heap.size w wr)) (fun v5 _ => l.length - (intOf v5).toNat)
 case atStart => exact ⟨0,Nat.zero_le _,rfl,⟨HB_0.out⟩⟩
 case round =>
  obtain ⟨i,hi,rfl,HB⟩:=hrel
  by_cases hlt : i < l.length
  ·have a1 : (0 : Int) ≤ (i : Int):=Int.natCast_nonneg _
   have a2 : (i : Int) < (l.length : Int):=by exact_mod_cast hlt
   obtain ⟨ad,A8,c8,ea,k0,k1,k2,k3,k4,l8,g8⟩:=at_T45 (Kd.C_below GA.out HB.out) (i : Int) a1 a2
   obtain ⟨be,B8,d8,eb,m0,m1,m2,m3,m4,l9,g9⟩:=at_T45 (Kd.C_below GB.out HB.out) (i : Int) a1 a2
   subst ea
   subst eb
   clear a1 a2
   rw [Int.toNat_natCast] at k0 k1 k2 k3 k4 m0 m1 m2 m3 m4
   obtain ⟨x,hx⟩ : ∃ x,x = rd_T45 l (i : Int):=⟨_,rfl⟩
   rw [← hx] at k0 k1 k2 k3 k4 m0 m1 m2 m3 m4 l8 g8 l9 g9
   have HDX : Hid (x.f4.length ≤ 10000000):=Lib.hid (by rw [hx];exact HD.out _ (List.mem_of_getElem? (getD_at2 l i z45 hlt)))
   have L8:=Lib.hid l8
   have G8:=Lib.hid g8
   have L9:=Lib.hid l9
   have G9:=Lib.hid g9
   clear l8 g8 l9 g9
   clear hx
   have b2 : decide ((i : Int) < (l.length : Int)) = true:=decide_eq_true (by omega)
   have p5 : (0 ≤ (i : Int)) = True:=eq_true (by omega)
   have q5 : ((i : Int) < (l.length : Int)) = True:=eq_true (by omega)
   have qn : (i < l.length) = True:=eq_true hlt
   have hn : wrap64 ((i : Int) + 1) = (i : Int) + 1:=by have:=HL.out;unfold wrap64;omega
   have HLT:=Lib.hid hlt
   have HN:=Lib.hid hn
   clear hlt hi
   go_wp2_with (fail)
   have K0':=Lib.hid k0
   have K1':=Lib.hid k1
   have K2':=Lib.hid k2
   have K3':=Lib.hid k3
   have K4':=Lib.hid k4
   have M0':=Lib.hid m0
   have M1':=Lib.hid m1
   have M2':=Lib.hid m2
   have M3':=Lib.hid m3
   have M4':=Lib.hid m4
   clear k0 k1 k2 k3 k4 m0 m1 m2 m3 m4
   obtain ⟨wd,hwd⟩ : ∃ wd,wd = wr.drew:=⟨_,rfl⟩
   have HWd : Hid (Below wr.heap.size wr wd):=by rw [hwd];exact Lib.hid (below_drew (Below.refl _ _))
   refine start_ (n:=10) (S:=fun w' : World => Below wr.heap.size wr w') (ds := []) #[false,false,false,false,false,false,false,false,false,false] (by kernel_rfl) rfl rfl (hwd ▸ HWd.out) (fun hHeld => ?_)
   rw [← hwd] at hHeld ⊢
   clear hwd
   refine pure_ (i:=0) (N:=some 17) (v := ?_) (a' := ?_) #[true,false,false,false,false,false,false,false,false,false] rfl rfl (by kernel_rfl) (fun _ _ _ h => h) (Or.inl ⟨by rfl, ?_⟩) ?_ ?_
   rotate_left
   ·intro w'
    go_simp
    with_reducible rfl
   rotate_left
   ·simp only [Act.put,List.setIfInBounds_toArray,List.set_cons_zero,List.set_cons_succ,i64_w,i32_w]
    rfl
   refine pure_ (i:=1) (N:=some 18) (v := ?_) (a' := ?_) #[true,true,false,false,false,false,false,false,false,false] rfl rfl (by kernel_rfl) (fun _ _ _ h => h) (Or.inl ⟨by rfl, ?_⟩) ?_ ?_
   rotate_left
   ·intro w'
    go_simp
    with_reducible rfl
   rotate_left
   ·simp only [Act.put,List.setIfInBounds_toArray,List.set_cons_zero,List.set_cons_succ,i64_w,i32_w]
    rfl
   refine pure_ (i:=2) (N:=some 19) (v := ?_) (a' := ?_) #[true,true,true,false,false,false,false,false,false,false] rfl rfl (by kernel_rfl) (fun _ _ _ h => h) (Or.inl ⟨by rfl, ?_⟩) ?_ ?_
   rotate_left
   ·intro w'
    go_simp
    with_reducible rfl
   rotate_left
   ·simp only [Act.put,List.setIfInBounds_toArray,List.set_cons_zero,List.set_cons_succ,i64_w,i32_w]
    rfl
   refine take_ (i:=3) (N:=some 20) (v := ?_) (a' := ?_) #[true,true,true,true,false,false,false,false,false,false] rfl rfl (by kernel_rfl) (fun _ _ _ h => h) (Or.inl ⟨by rfl, ?_⟩) hHeld ?_ ?_
   rotate_left
   ·intro w' s0
    have e0:=pw_cell_below s0 K0'.out
    have e1:=pw_cell_below s0 K1'.out
    have e2:=pw_cell_below s0 K2'.out
    have e3:=pw_cell_below s0 K3'.out
    have e4:=pw_cell_below s0 K4'.out
    go_simp
    with_reducible rfl
   rotate_left
   ·simp only [Act.put,List.setIfInBounds_toArray,List.set_cons_zero,List.set_cons_succ,i64_w,i32_w]
    rfl
   refine pure_ (i:=4) (N:=some 21) (v := ?_) (a' := ?_) #[true,true,true,true,true,false,false,false,false,false] rfl rfl (by kernel_rfl) (fun _ _ _ h => h) (Or.inl ⟨by rfl, ?_⟩) ?_ ?_
   rotate_left
   ·intro w'
    go_simp
    with_reducible rfl
   rotate_left
   ·simp only [Act.put,List.setIfInBounds_toArray,List.set_cons_zero,List.set_cons_succ,i64_w,i32_w]
    rfl
   refine pure_ (i:=5) (N:=some 22) (v := ?_) (a' := ?_) #[true,true,true,true,true,true,false,false,false,false] rfl rfl (by kernel_rfl) (fun _ _ _ h => h) (Or.inl ⟨by rfl, ?_⟩) ?_ ?_
   rotate_left
   ·intro w'
    go_simp
    with_reducible rfl
   rotate_left
   ·simp only [Act.put,List.setIfInBounds_toArray,List.set_cons_zero,List.set_cons_succ,i64_w,i32_w]
    rfl
   refine pure_ (i:=6) (N:=some 23) (v := ?_) (a' := ?_) #[true,true,true,true,true,true,true,false,false,false] rfl rfl (by kernel_rfl) (fun _ _ _ h => h) (Or.inl ⟨by rfl, ?_⟩) ?_ ?_
   rotate_left
   ·intro w'
    go_simp
    with_reducible rfl
   rotate_left
   ·simp only [Act.put,List.setIfInBounds_toArray,List.set_cons_zero,List.set_cons_succ,i64_w,i32_w]
    rfl
   refine take_ (i:=7) (N:=some 24) (v := ?_) (a' := ?_) #[true,true,true,true,true,true,true,true,false,false] rfl rfl (by kernel_rfl) (fun _ _ _ h => h) (Or.inl ⟨by rfl, ?_⟩) hHeld ?_ ?_
   rotate_left
   ·intro w' s0
    have e0:=pw_cell_below s0 M0'.out
    have e1:=pw_cell_below s0 M1'.out
    have e2:=pw_cell_below s0 M2'.out
    have e3:=pw_cell_below s0 M3'.out
    have e4:=pw_cell_below s0 M4'.out
    go_simp
    with_reducible rfl
   rotate_left
   ·simp only [Act.put,List.setIfInBounds_toArray,List.set_cons_zero,List.set_cons_succ,i64_w,i32_w]
    rfl
   refine one_ (i:=8) (N:=some 25) #[true,true,true,true,true,true,true,true,true,false] rfl rfl (by kernel_rfl) (by decide) (fun K hK => ?_)
   refine goes_ Try.func55 (by kernel_rfl) rfl #[.agg #[.bool x.f0, .int .u32 x.f1, .bool x.f2, .int .i64 x.f3, .slice A8 x.f4.length c8], .agg #[.bool x.f0, .int .u32 x.f1, .bool x.f2, .int .i64 x.f3, .slice B8 x.f4.length d8]] (by rfl) rfl rfl (by (try simp only [List.map_toArray,List.map_cons,List.map_nil]);first | done | rfl) ?_
   refine (eqFrame_v x wd A8 B8 c8 d8 (Kd.C_below G8.out HWd.out) L8.out (Kd.C_below G9.out HWd.out) L9.out HDX.out).mono ?_
   rintro e w6 ⟨rfl,hb⟩
   refine ⟨_,rfl, ?_⟩
   have HB6:=Lib.hid (below_then HWd.out HWd.out.size hb)
   clear hb
   refine hK.out _ _ HB6.out (fun hHeld => ?_)
   clear hK K
   refine norm_ (a' := ?_) ?_ ?_
   rotate_left
   ·show Act.put _ (some 25) _ = _
    simp only [Act.put,List.setIfInBounds_toArray,List.set_cons_zero,List.set_cons_succ,i64_w,i32_w]
    rfl
   refine pure_ (i:=9) (N:=some 26) (v := ?_) (a' := ?_) #[true,true,true,true,true,true,true,true,true,true] rfl rfl (by kernel_rfl) (fun _ _ _ h => h) (Or.inl ⟨by rfl, ?_⟩) ?_ ?_
   rotate_left
   ·intro w'
    go_simp
    with_reducible rfl
   rotate_left
   ·simp only [Act.put,List.setIfInBounds_toArray,List.set_cons_zero,List.set_cons_succ,i64_w,i32_w]
    rfl
   refine done_ (by kernel_rfl) ?_
   go_wp2_with (fail)
   go_roundw
   case rel => exact ⟨i + 1,HLT.out,by rw [HN.out];rfl,⟨below_then HB.out HB.out.size HB6.out⟩⟩
   case measure => rw [HN.out];have:=HLT.out;simp [intOf];omega
  ·have b2 : decide ((i : Int) < (l.length : Int)) = false:=decide_eq_false (by omega)
   go_wp2_with (fail)
   go_ret
   exact ⟨rfl,HB.out⟩
set_option maxRecDepth 100000 in
set_option maxHeartbeats 2000000 in
theorem eqBox_v (x : S87) (w : World) (A B : Option Addr) (c d : Nat) (ha : (Kd.int .u8).C w A x.f3.f4.length x.f3.f4) (hc : x.f3.f4.length ≤ c) (hb : (Kd.int .u8).C w B x.f3.f4.length x.f3.f4) (hd : x.f3.f4.length ≤ d) (hl : x.f3.f4.length ≤ 10000000) :
  Calls Try.prog 112 #[.agg #[.int .i64 x.f0, .int .i64 x.f1, .int .i64 x.f2, .bool x.f3.f0, .int .u32 x.f3.f1, .bool x.f3.f2, .int .i64 x.f3.f3, .slice A x.f3.f4.length c], .agg #[.int .i64 x.f0, .int .i64 x.f1, .int .i64 x.f2, .bool x.f3.f0, .int .u32 x.f3.f1, .bool x.f3.f2, .int .i64 x.f3.f3, .slice B x.f3.f4.length d]] w fun e w' => e = .returned (.bool true) ∧ Below w.heap.size w w':=by
 have GA:=Lib.hid ha
 have LA:=Lib.hid hc
 have GB:=Lib.hid hb
 have LB:=Lib.hid hd
 have HL:=Lib.hid hl
 clear ha hc hb hd hl
 have HB_0 : Hid (Below w.heap.size w w):=Lib.hid (Below.refl _ _)
 have b0 : (x.f0 != x.f0) = false:=bne_self_eq_false _
 have b1 : (x.f1 != x.f1) = false:=bne_self_eq_false _
 have b2 : (x.f2 != x.f2) = false:=bne_self_eq_false _
 go_enter Try.func112,Try.ntmps112
 go_upto_region 1 with (first | ((with_reducible refine gate_dst (N:=2) rfl ?_);refine box_event ?hg (N:=2) ?hd (cs := #[.int .i64 x.f0, .int .i64 x.f1, .int .i64 x.f2, .bool x.f3.f0, .int .u32 x.f3.f1, .bool x.f3.f2, .int .i64 x.f3.f3, .slice A x.f3.f4.length c]) (t:=87) ?hr ?_;(case hd => rfl);(case hg => rfl);(case hr => first | (go_simp;done) | (go_simp;rfl));intro g2 hg w1 hbox hb;have LO_HB_g2 : Hid (w.heap.size ≤ g2):=Lib.hid (by rw [hg];exact HB_0.out.size);have HEg2:=Lib.hid hg;have HB_1:=Lib.hid (below_then HB_0.out HB_0.out.size hb);have Xg2_1:=Lib.hid hbox;clear hg hbox hb) | ((with_reducible refine gate_dst (N:=3) rfl ?_);refine box_event ?hg (N:=3) ?hd (cs := #[.int .i64 x.f0, .int .i64 x.f1, .int .i64 x.f2, .bool x.f3.f0, .int .u32 x.f3.f1, .bool x.f3.f2, .int .i64 x.f3.f3, .slice B x.f3.f4.length d]) (t:=87) ?hr ?_;(case hd => rfl);(case hg => rfl);(case hr => first | (go_simp;done) | (go_simp;rfl));intro g3 hg w2 hbox hb;have LO_HB_g3 : Hid (w.heap.size ≤ g3):=Lib.hid (by rw [hg];exact HB_1.out.size);have NE_g2_g3 : Hid (g2 ≠ g3):=Lib.hid (fun e => by have h1:=blk_lt Xg2_1.out;omega);have HEg3:=Lib.hid hg;have HB_2:=Lib.hid (below_then HB_1.out HB_1.out.size hb);have Xg2_2:=Lib.hid (blk_below Xg2_1.out hb);have Xg3_2:=Lib.hid hbox;clear hg hbox hb))
 have x0 : w2.cell? ⟨g2,0,none⟩ = some (.int .i64 x.f0):=blk_cell Xg2_2.out 0
 have y0 : w2.cell? ⟨g3,0,none⟩ = some (.int .i64 x.f0):=blk_cell Xg3_2.out 0
 have x1 : w2.cell? ⟨g2,1,none⟩ = some (.int .i64 x.f1):=blk_cell Xg2_2.out 1
 have y1 : w2.cell? ⟨g3,1,none⟩ = some (.int .i64 x.f1):=blk_cell Xg3_2.out 1
 have x2 : w2.cell? ⟨g2,2,none⟩ = some (.int .i64 x.f2):=blk_cell Xg2_2.out 2
 have y2 : w2.cell? ⟨g3,2,none⟩ = some (.int .i64 x.f2):=blk_cell Xg3_2.out 2
 have x3 : w2.cell? ⟨g2,3,none⟩ = some (.bool x.f3.f0):=blk_cell Xg2_2.out 3
 have y3 : w2.cell? ⟨g3,3,none⟩ = some (.bool x.f3.f0):=blk_cell Xg3_2.out 3
 have x4 : w2.cell? ⟨g2,4,none⟩ = some (.int .u32 x.f3.f1):=blk_cell Xg2_2.out 4
 have y4 : w2.cell? ⟨g3,4,none⟩ = some (.int .u32 x.f3.f1):=blk_cell Xg3_2.out 4
 have x5 : w2.cell? ⟨g2,5,none⟩ = some (.bool x.f3.f2):=blk_cell Xg2_2.out 5
 have y5 : w2.cell? ⟨g3,5,none⟩ = some (.bool x.f3.f2):=blk_cell Xg3_2.out 5
 have x6 : w2.cell? ⟨g2,6,none⟩ = some (.int .i64 x.f3.f3):=blk_cell Xg2_2.out 6
 have y6 : w2.cell? ⟨g3,6,none⟩ = some (.int .i64 x.f3.f3):=blk_cell Xg3_2.out 6
 have x7 : w2.cell? ⟨g2,7,none⟩ = some (.slice A x.f3.f4.length c):=blk_cell Xg2_2.out 7
 have y7 : w2.cell? ⟨g3,7,none⟩ = some (.slice B x.f3.f4.length d):=blk_cell Xg3_2.out 7
 go_wp2_with (first | (go_at_call 55;refine (eqFrame_v x.f3 w2 A B c d (Kd.C_below GA.out HB_2.out) LA.out (Kd.C_below GB.out HB_2.out) LB.out HL.out).mono ?_;rintro e w3 ⟨rfl,hb⟩;have HB_3:=Lib.hid (below_then HB_2.out HB_2.out.size hb);have Xg2_3:=Lib.hid (blk_below Xg2_2.out hb);have Xg3_3:=Lib.hid (blk_below Xg3_2.out hb);clear hb))
 go_ret
 exact ⟨rfl,HB_3.out⟩
set_option maxRecDepth 100000 in
set_option maxHeartbeats 4000000 in
theorem eqBoxS_v (l : List S87) (hl : l.length ≤ 10000000) (hdd : ∀ y ∈ l,y.f3.f4.length ≤ 10000000) (w : World) (A B : Option Addr) (c d : Nat) (ha : (k87).C w A l.length l) (hc : l.length ≤ c) (hb : (k87).C w B l.length l) (hd : l.length ≤ d) :
  Calls Try.prog 66 #[.slice A l.length c, .slice B l.length d] w fun e w' => e = .returned (.bool true) ∧ Below w.heap.size w w':=by
 have GA:=Lib.hid ha
 have GB:=Lib.hid hb
 have HL:=Lib.hid hl
 have HD:=Lib.hid hdd
 clear ha hb hl hdd
 have HB_0 : Hid (Below w.heap.size w w):=Lib.hid (Below.refl _ _)
 have bl : ((l.length : Int) != (l.length : Int)) = false:=bne_self_eq_false _
 go_enter Try.func66,Try.ntmps66
 go_wp2_with (fail)
 go_loopw [5] (fun v5 wr => ∃ i : Nat,i ≤ l.length ∧ v5 = .int .i64 i ∧ Aside0 (Below w.heap.size w wr)) (fun v5 _ => l.length - (intOf v5).toNat)
 case atStart => exact ⟨0,Nat.zero_le _,rfl,⟨HB_0.out⟩⟩
 case round =>
  obtain ⟨i,hi,rfl,HB⟩:=hrel
  by_cases hlt : i < l.length
  ·have a1 : (0 : Int) ≤ (i : Int):=Int.natCast_nonneg _
   have a2 : (i : Int) < (l.length : Int):=by exact_mod_cast hlt
   obtain ⟨ad,A8,c8,ea,k0,k1,k2,k3,k4,k5,k6,k7,l8,g8⟩:=at_T87 (Kd.C_below GA.out HB.out) (i : Int) a1 a2
   obtain ⟨be,B8,d8,eb,m0,m1,m2,m3,m4,m5,m6,m7,l9,g9⟩:=at_T87 (Kd.C_below GB.out HB.out) (i : Int) a1 a2
   subst ea
   subst eb
   clear a1 a2
   rw [Int.toNat_natCast] at k0 k1 k2 k3 k4 k5 k6 k7 m0 m1 m2 m3 m4 m5 m6 m7
   obtain ⟨x,hx⟩ : ∃ x,x = rd_T87 l (i : Int):=⟨_,rfl⟩
   rw [← hx] at k0 k1 k2 k3 k4 k5 k6 k7 m0 m1 m2 m3 m4 m5 m6 m7 l8 g8 l9 g9
   have HDX : Hid (x.f3.f4.length ≤ 10000000):=Lib.hid (by rw [hx];exact HD.out _ (List.mem_of_getElem? (getD_at2 l i z87 hlt)))
   have L8:=Lib.hid l8
   have G8:=Lib.hid g8
   have L9:=Lib.hid l9
   have G9:=Lib.hid g9
   clear l8 g8 l9 g9
   clear hx
   have b2 : decide ((i : Int) < (l.length : Int)) = true:=decide_eq_true (by omega)
   have p5 : (0 ≤ (i : Int)) = True:=eq_true (by omega)
   have q5 : ((i : Int) < (l.length : Int)) = True:=eq_true (by omega)
   have qn : (i < l.length) = True:=eq_true hlt
   have hn : wrap64 ((i : Int) + 1) = (i : Int) + 1:=by have:=HL.out;unfold wrap64;omega
   have HLT:=Lib.hid hlt
   have HN:=Lib.hid hn
   clear hlt hi
   go_wp2_with (fail)
   have K0':=Lib.hid k0
   have K1':=Lib.hid k1
   have K2':=Lib.hid k2
   have K3':=Lib.hid k3
   have K4':=Lib.hid k4
   have K5':=Lib.hid k5
   have K6':=Lib.hid k6
   have K7':=Lib.hid k7
   have M0':=Lib.hid m0
   have M1':=Lib.hid m1
   have M2':=Lib.hid m2
   have M3':=Lib.hid m3
   have M4':=Lib.hid m4
   have M5':=Lib.hid m5
   have M6':=Lib.hid m6
   have M7':=Lib.hid m7
   clear k0 k1 k2 k3 k4 k5 k6 k7 m0 m1 m2 m3 m4 m5 m6 m7
   obtain ⟨wd,hwd⟩ : ∃ wd,wd = wr.drew:=⟨_,rfl⟩
   have HWd : Hid (Below wr.heap.size wr wd):=by rw [hwd];exact Lib.hid (below_drew (Below.refl _ _))
   refine start_ (n:=10) (S:=fun w' : World => Below wr.heap.size wr w') (ds := []) #[false,false,false,false,false,false,false,false,false,false] (by kernel_rfl) rfl rfl (hwd ▸ HWd.out) (fun hHeld => ?_)
   rw [← hwd] at hHeld ⊢
   clear hwd
   refine pure_ (i:=0) (N:=some 17) (v := ?_) (a' := ?_) #[true,false,false,false,false,false,false,false,false,false] rfl rfl (by kernel_rfl) (fun _ _ _ h => h) (Or.inl ⟨by rfl, ?_⟩) ?_ ?_
   rotate_left
   ·intro w'
    go_simp
    with_reducible rfl
   rotate_left
   ·simp only [Act.put,List.setIfInBounds_toArray,List.set_cons_zero,List.set_cons_succ,i64_w,i32_w]
    rfl
   refine pure_ (i:=1) (N:=some 18) (v := ?_) (a' := ?_) #[true,true,false,false,false,false,false,false,false,false] rfl rfl (by kernel_rfl) (fun _ _ _ h => h) (Or.inl ⟨by rfl, ?_⟩) ?_ ?_
   rotate_left
   ·intro w'
    go_simp
    with_reducible rfl
   rotate_left
   ·simp only [Act.put,List.setIfInBounds_toArray,List.set_cons_zero,List.set_cons_succ,i64_w,i32_w]
    rfl
   refine pure_ (i:=2) (N:=some 19) (v := ?_) (a' := ?_) #[true,true,true,false,false,false,false,false,false,false] rfl rfl (by kernel_rfl) (fun _ _ _ h => h) (Or.inl ⟨by rfl, ?_⟩) ?_ ?_
   rotate_left
   ·intro w'
    go_simp
    with_reducible rfl
   rotate_left
   ·simp only [Act.put,List.setIfInBounds_toArray,List.set_cons_zero,List.set_cons_succ,i64_w,i32_w]
    rfl
   refine take_ (i:=3) (N:=some 20) (v := ?_) (a' := ?_) #[true,true,true,true,false,false,false,false,false,false] rfl rfl (by kernel_rfl) (fun _ _ _ h => h) (Or.inl ⟨by rfl, ?_⟩) hHeld ?_ ?_
   rotate_left
   ·intro w' s0
    have e0:=pw_cell_below s0 K0'.out
    have e1:=pw_cell_below s0 K1'.out
    have e2:=pw_cell_below s0 K2'.out
    have e3:=pw_cell_below s0 K3'.out
    have e4:=pw_cell_below s0 K4'.out
    have e5:=pw_cell_below s0 K5'.out
    have e6:=pw_cell_below s0 K6'.out
    have e7:=pw_cell_below s0 K7'.out
    go_simp
    with_reducible rfl
   rotate_left
   ·simp only [Act.put,List.setIfInBounds_toArray,List.set_cons_zero,List.set_cons_succ,i64_w,i32_w]
    rfl
   refine pure_ (i:=4) (N:=some 21) (v := ?_) (a' := ?_) #[true,true,true,true,true,false,false,false,false,false] rfl rfl (by kernel_rfl) (fun _ _ _ h => h) (Or.inl ⟨by rfl, ?_⟩) ?_ ?_
   rotate_left
   ·intro w'
    go_simp
    with_reducible rfl
   rotate_left
   ·simp only [Act.put,List.setIfInBounds_toArray,List.set_cons_zero,List.set_cons_succ,i64_w,i32_w]
    rfl
   refine pure_ (i:=5) (N:=some 22) (v := ?_) (a' := ?_) #[true,true,true,true,true,true,false,false,false,false] rfl rfl (by kernel_rfl) (fun _ _ _ h => h) (Or.inl ⟨by rfl, ?_⟩) ?_ ?_
   rotate_left
   ·intro w'
    go_simp
    with_reducible rfl
   rotate_left
   ·simp only [Act.put,List.setIfInBounds_toArray,List.set_cons_zero,List.set_cons_succ,i64_w,i32_w]
    rfl
   refine pure_ (i:=6) (N:=some 23) (v := ?_) (a' := ?_) #[true,true,true,true,true,true,true,false,false,false] rfl rfl (by kernel_rfl) (fun _ _ _ h => h) (Or.inl ⟨by rfl, ?_⟩) ?_ ?_
   rotate_left
   ·intro w'
    go_simp
    with_reducible rfl
   rotate_left
   ·simp only [Act.put,List.setIfInBounds_toArray,List.set_cons_zero,List.set_cons_succ,i64_w,i32_w]
    rfl
   refine take_ (i:=7) (N:=some 24) (v := ?_) (a' := ?_) #[true,true,true,true,true,true,true,true,false,false] rfl rfl (by kernel_rfl) (fun _ _ _ h => h) (Or.inl ⟨by rfl, ?_⟩) hHeld ?_ ?_
   rotate_left
   ·intro w' s0
    have e0:=pw_cell_below s0 M0'.out
    have e1:=pw_cell_below s0 M1'.out
    have e2:=pw_cell_below s0 M2'.out
    have e3:=pw_cell_below s0 M3'.out
    have e4:=pw_cell_below s0 M4'.out
    have e5:=pw_cell_below s0 M5'.out
    have e6:=pw_cell_below s0 M6'.out
    have e7:=pw_cell_below s0 M7'.out
    go_simp
    with_reducible rfl
   rotate_left
   ·simp only [Act.put,List.setIfInBounds_toArray,List.set_cons_zero,List.set_cons_succ,i64_w,i32_w]
    rfl
   refine one_ (i:=8) (N:=some 25) #[true,true,true,true,true,true,true,true,true,false] rfl rfl (by kernel_rfl) (by decide) (fun K hK => ?_)
   refine goes_ Try.func112 (by kernel_rfl) rfl #[.agg #[.int .i64 x.f0, .int .i64 x.f1, .int .i64 x.f2, .bool x.f3.f0, .int .u32 x.f3.f1, .bool x.f3.f2, .int .i64 x.f3.f3, .slice A8 x.f3.f4.length c8], .agg #[.int .i64 x.f0, .int .i64 x.f1, .int .i64 x.f2, .bool x.f3.f0, .int .u32 x.f3.f1, .bool x.f3.f2, .int .i64 x.f3.f3, .slice B8 x.f3.f4.length d8]] (by rfl) rfl rfl (by (try simp only [List.map_toArray,List.map_cons,List.map_nil]);first | done | rfl) ?_
   refine (eqBox_v x wd A8 B8 c8 d8 (Kd.C_below G8.out HWd.out) L8.out (Kd.C_below G9.out HWd.out) L9.out HDX.out).mono ?_
   rintro e w6 ⟨rfl,hb⟩
   refine ⟨_,rfl, ?_⟩
   have HB6:=Lib.hid (below_then HWd.out HWd.out.size hb)
   clear hb
   refine hK.out _ _ HB6.out (fun hHeld => ?_)
   clear hK K
   refine norm_ (a' := ?_) ?_ ?_
   rotate_left
   ·show Act.put _ (some 25) _ = _
    simp only [Act.put,List.setIfInBounds_toArray,List.set_cons_zero,List.set_cons_succ,i64_w,i32_w]
    rfl
   refine pure_ (i:=9) (N:=some 26) (v := ?_) (a' := ?_) #[true,true,true,true,true,true,true,true,true,true] rfl rfl (by kernel_rfl) (fun _ _ _ h => h) (Or.inl ⟨by rfl, ?_⟩) ?_ ?_
   rotate_left
   ·intro w'
    go_simp
    with_reducible rfl
   rotate_left
   ·simp only [Act.put,List.setIfInBounds_toArray,List.set_cons_zero,List.set_cons_succ,i64_w,i32_w]
    rfl
   refine done_ (by kernel_rfl) ?_
   go_wp2_with (fail)
   go_roundw
   case rel => exact ⟨i + 1,HLT.out,by rw [HN.out];rfl,⟨below_then HB.out HB.out.size HB6.out⟩⟩
   case measure => rw [HN.out];have:=HLT.out;simp [intOf];omega
  ·have b2 : decide ((i : Int) < (l.length : Int)) = false:=decide_eq_false (by omega)
   go_wp2_with (fail)
   go_ret
   exact ⟨rfl,HB.out⟩
set_option maxRecDepth 100000 in
set_option maxHeartbeats 2000000 in
theorem eqEvent_v (x : S56) (w : World) (A B : Option Addr) (c d : Nat) (ha : (Kd.int .u8).C w A x.f3.f4.length x.f3.f4) (hc : x.f3.f4.length ≤ c) (hb : (Kd.int .u8).C w B x.f3.f4.length x.f3.f4) (hd : x.f3.f4.length ≤ d) (hl : x.f3.f4.length ≤ 10000000) :
  Calls Try.prog 98 #[.agg #[.int .i64 x.f0, .int .i64 x.f1, .int .i64 x.f2, .bool x.f3.f0, .int .u32 x.f3.f1, .bool x.f3.f2, .int .i64 x.f3.f3, .slice A x.f3.f4.length c], .agg #[.int .i64 x.f0, .int .i64 x.f1, .int .i64 x.f2, .bool x.f3.f0, .int .u32 x.f3.f1, .bool x.f3.f2, .int .i64 x.f3.f3, .slice B x.f3.f4.length d]] w fun e w' => e = .returned (.bool true) ∧ Below w.heap.size w w':=by
 have GA:=Lib.hid ha
 have LA:=Lib.hid hc
 have GB:=Lib.hid hb
 have LB:=Lib.hid hd
 have HL:=Lib.hid hl
 clear ha hc hb hd hl
 have HB_0 : Hid (Below w.heap.size w w):=Lib.hid (Below.refl _ _)
 have b0 : (x.f0 != x.f0) = false:=bne_self_eq_false _
 have b1 : (x.f1 != x.f1) = false:=bne_self_eq_false _
 have b2 : (x.f2 != x.f2) = false:=bne_self_eq_false _
 go_enter Try.func98,Try.ntmps98
 go_upto_region 1 with (first | ((with_reducible refine gate_dst (N:=2) rfl ?_);refine box_event ?hg (N:=2) ?hd (cs := #[.int .i64 x.f0, .int .i64 x.f1, .int .i64 x.f2, .bool x.f3.f0, .int .u32 x.f3.f1, .bool x.f3.f2, .int .i64 x.f3.f3, .slice A x.f3.f4.length c]) (t:=56) ?hr ?_;(case hd => rfl);(case hg => rfl);(case hr => first | (go_simp;done) | (go_simp;rfl));intro g2 hg w1 hbox hb;have LO_HB_g2 : Hid (w.heap.size ≤ g2):=Lib.hid (by rw [hg];exact HB_0.out.size);have HEg2:=Lib.hid hg;have HB_1:=Lib.hid (below_then HB_0.out HB_0.out.size hb);have Xg2_1:=Lib.hid hbox;clear hg hbox hb) | ((with_reducible refine gate_dst (N:=3) rfl ?_);refine box_event ?hg (N:=3) ?hd (cs := #[.int .i64 x.f0, .int .i64 x.f1, .int .i64 x.f2, .bool x.f3.f0, .int .u32 x.f3.f1, .bool x.f3.f2, .int .i64 x.f3.f3, .slice B x.f3.f4.length d]) (t:=56) ?hr ?_;(case hd => rfl);(case hg => rfl);(case hr => first | (go_simp;done) | (go_simp;rfl));intro g3 hg w2 hbox hb;have LO_HB_g3 : Hid (w.heap.size ≤ g3):=Lib.hid (by rw [hg];exact HB_1.out.size);have NE_g2_g3 : Hid (g2 ≠ g3):=Lib.hid (fun e => by have h1:=blk_lt Xg2_1.out;omega);have HEg3:=Lib.hid hg;have HB_2:=Lib.hid (below_then HB_1.out HB_1.out.size hb);have Xg2_2:=Lib.hid (blk_below Xg2_1.out hb);have Xg3_2:=Lib.hid hbox;clear hg hbox hb))
 have x0 : w2.cell? ⟨g2,0,none⟩ = some (.int .i64 x.f0):=blk_cell Xg2_2.out 0
 have y0 : w2.cell? ⟨g3,0,none⟩ = some (.int .i64 x.f0):=blk_cell Xg3_2.out 0
 have x1 : w2.cell? ⟨g2,1,none⟩ = some (.int .i64 x.f1):=blk_cell Xg2_2.out 1
 have y1 : w2.cell? ⟨g3,1,none⟩ = some (.int .i64 x.f1):=blk_cell Xg3_2.out 1
 have x2 : w2.cell? ⟨g2,2,none⟩ = some (.int .i64 x.f2):=blk_cell Xg2_2.out 2
 have y2 : w2.cell? ⟨g3,2,none⟩ = some (.int .i64 x.f2):=blk_cell Xg3_2.out 2
 have x3 : w2.cell? ⟨g2,3,none⟩ = some (.bool x.f3.f0):=blk_cell Xg2_2.out 3
 have y3 : w2.cell? ⟨g3,3,none⟩ = some (.bool x.f3.f0):=blk_cell Xg3_2.out 3
 have x4 : w2.cell? ⟨g2,4,none⟩ = some (.int .u32 x.f3.f1):=blk_cell Xg2_2.out 4
 have y4 : w2.cell? ⟨g3,4,none⟩ = some (.int .u32 x.f3.f1):=blk_cell Xg3_2.out 4
 have x5 : w2.cell? ⟨g2,5,none⟩ = some (.bool x.f3.f2):=blk_cell Xg2_2.out 5
 have y5 : w2.cell? ⟨g3,5,none⟩ = some (.bool x.f3.f2):=blk_cell Xg3_2.out 5
 have x6 : w2.cell? ⟨g2,6,none⟩ = some (.int .i64 x.f3.f3):=blk_cell Xg2_2.out 6
 have y6 : w2.cell? ⟨g3,6,none⟩ = some (.int .i64 x.f3.f3):=blk_cell Xg3_2.out 6
 have x7 : w2.cell? ⟨g2,7,none⟩ = some (.slice A x.f3.f4.length c):=blk_cell Xg2_2.out 7
 have y7 : w2.cell? ⟨g3,7,none⟩ = some (.slice B x.f3.f4.length d):=blk_cell Xg3_2.out 7
 go_wp2_with (first | (go_at_call 55;refine (eqFrame_v x.f3 w2 A B c d (Kd.C_below GA.out HB_2.out) LA.out (Kd.C_below GB.out HB_2.out) LB.out HL.out).mono ?_;rintro e w3 ⟨rfl,hb⟩;have HB_3:=Lib.hid (below_then HB_2.out HB_2.out.size hb);have Xg2_3:=Lib.hid (blk_below Xg2_2.out hb);have Xg3_3:=Lib.hid (blk_below Xg3_2.out hb);clear hb))
 go_ret
 exact ⟨rfl,HB_3.out⟩
set_option maxRecDepth 100000 in
set_option maxHeartbeats 4000000 in
theorem eqEventS_v (l : List S56) (hl : l.length ≤ 10000000) (hdd : ∀ y ∈ l,y.f3.f4.length ≤ 10000000) (w : World) (A B : Option Addr) (c d : Nat) (ha : (k56).C w A l.length l) (hc : l.length ≤ c) (hb : (k56).C w B l.length l) (hd : l.length ≤ d) :
  Calls Try.prog 46 #[.slice A l.length c, .slice B l.length d] w fun e w' => e = .returned (.bool true) ∧ Below w.heap.size w w':=by
 have GA:=Lib.hid ha
 have GB:=Lib.hid hb
 have HL:=Lib.hid hl
 have HD:=Lib.hid hdd
 clear ha hb hl hdd
 have HB_0 : Hid (Below w.heap.size w w):=Lib.hid (Below.refl _ _)
 have bl : ((l.length : Int) != (l.length : Int)) = false:=bne_self_eq_false _
 go_enter Try.func46,Try.ntmps46
 go_wp2_with (fail)
 go_loopw [5] (fun v5 wr => ∃ i : Nat,i ≤ l.length ∧ v5 = .int .i64 i ∧ Aside0 (Below w.heap.size w wr)) (fun v5 _ => l.length - (intOf v5).toNat)
 case atStart => exact ⟨0,Nat.zero_le _,rfl,⟨HB_0.out⟩⟩
 case round =>
  obtain ⟨i,hi,rfl,HB⟩:=hrel
  by_cases hlt : i < l.length
  ·have a1 : (0 : Int) ≤ (i : Int):=Int.natCast_nonneg _
   have a2 : (i : Int) < (l.length : Int):=by exact_mod_cast hlt
   obtain ⟨ad,A8,c8,ea,k0,k1,k2,k3,k4,k5,k6,k7,l8,g8⟩:=at_T56 (Kd.C_below GA.out HB.out) (i : Int) a1 a2
   obtain ⟨be,B8,d8,eb,m0,m1,m2,m3,m4,m5,m6,m7,l9,g9⟩:=at_T56 (Kd.C_below GB.out HB.out) (i : Int) a1 a2
   subst ea
   subst eb
   clear a1 a2
   rw [Int.toNat_natCast] at k0 k1 k2 k3 k4 k5 k6 k7 m0 m1 m2 m3 m4 m5 m6 m7
   obtain ⟨x,hx⟩ : ∃ x,x = rd_T56 l (i : Int):=⟨_,rfl⟩
   rw [← hx] at k0 k1 k2 k3 k4 k5 k6 k7 m0 m1 m2 m3 m4 m5 m6 m7 l8 g8 l9 g9
   have HDX : Hid (x.f3.f4.length ≤ 10000000):=Lib.hid (by rw [hx];exact HD.out _ (List.mem_of_getElem? (getD_at2 l i z56 hlt)))
   have L8:=Lib.hid l8
   have G8:=Lib.hid g8
   have L9:=Lib.hid l9
   have G9:=Lib.hid g9
   clear l8 g8 l9 g9
   clear hx
   have b2 : decide ((i : Int) < (l.length : Int)) = true:=decide_eq_true (by omega)
   have p5 : (0 ≤ (i : Int)) = True:=eq_true (by omega)
   have q5 : ((i : Int) < (l.length : Int)) = True:=eq_true (by omega)
   have qn : (i < l.length) = True:=eq_true hlt
   have hn : wrap64 ((i : Int) + 1) = (i : Int) + 1:=by have:=HL.out;unfold wrap64;omega
   have HLT:=Lib.hid hlt
   have HN:=Lib.hid hn
   clear hlt hi
   go_wp2_with (fail)
   have K0':=Lib.hid k0
   have K1':=Lib.hid k1
   have K2':=Lib.hid k2
   have K3':=Lib.hid k3
   have K4':=Lib.hid k4
   have K5':=Lib.hid k5
   have K6':=Lib.hid k6
   have K7':=Lib.hid k7
   have M0':=Lib.hid m0
   have M1':=Lib.hid m1
   have M2':=Lib.hid m2
   have M3':=Lib.hid m3
   have M4':=Lib.hid m4
   have M5':=Lib.hid m5
   have M6':=Lib.hid m6
   have M7':=Lib.hid m7
   clear k0 k1 k2 k3 k4 k5 k6 k7 m0 m1 m2 m3 m4 m5 m6 m7
   obtain ⟨wd,hwd⟩ : ∃ wd,wd = wr.drew:=⟨_,rfl⟩
   have HWd : Hid (Below wr.heap.size wr wd):=by rw [hwd];exact Lib.hid (below_drew (Below.refl _ _))
   refine start_ (n:=10) (S:=fun w' : World => Below wr.heap.size wr w') (ds := []) #[false,false,false,false,false,false,false,false,false,false] (by kernel_rfl) rfl rfl (hwd ▸ HWd.out) (fun hHeld => ?_)
   rw [← hwd] at hHeld ⊢
   clear hwd
   refine pure_ (i:=0) (N:=some 17) (v := ?_) (a' := ?_) #[true,false,false,false,false,false,false,false,false,false] rfl rfl (by kernel_rfl) (fun _ _ _ h => h) (Or.inl ⟨by rfl, ?_⟩) ?_ ?_
   rotate_left
   ·intro w'
    go_simp
    with_reducible rfl
   rotate_left
   ·simp only [Act.put,List.setIfInBounds_toArray,List.set_cons_zero,List.set_cons_succ,i64_w,i32_w]
    rfl
   refine pure_ (i:=1) (N:=some 18) (v := ?_) (a' := ?_) #[true,true,false,false,false,false,false,false,false,false] rfl rfl (by kernel_rfl) (fun _ _ _ h => h) (Or.inl ⟨by rfl, ?_⟩) ?_ ?_
   rotate_left
   ·intro w'
    go_simp
    with_reducible rfl
   rotate_left
   ·simp only [Act.put,List.setIfInBounds_toArray,List.set_cons_zero,List.set_cons_succ,i64_w,i32_w]
    rfl
   refine pure_ (i:=2) (N:=some 19) (v := ?_) (a' := ?_) #[true,true,true,false,false,false,false,false,false,false] rfl rfl (by kernel_rfl) (fun _ _ _ h => h) (Or.inl ⟨by rfl, ?_⟩) ?_ ?_
   rotate_left
   ·intro w'
    go_simp
    with_reducible rfl
   rotate_left
   ·simp only [Act.put,List.setIfInBounds_toArray,List.set_cons_zero,List.set_cons_succ,i64_w,i32_w]
    rfl
   refine take_ (i:=3) (N:=some 20) (v := ?_) (a' := ?_) #[true,true,true,true,false,false,false,false,false,false] rfl rfl (by kernel_rfl) (fun _ _ _ h => h) (Or.inl ⟨by rfl, ?_⟩) hHeld ?_ ?_
   rotate_left
   ·intro w' s0
    have e0:=pw_cell_below s0 K0'.out
    have e1:=pw_cell_below s0 K1'.out
    have e2:=pw_cell_below s0 K2'.out
    have e3:=pw_cell_below s0 K3'.out
    have e4:=pw_cell_below s0 K4'.out
    have e5:=pw_cell_below s0 K5'.out
    have e6:=pw_cell_below s0 K6'.out
    have e7:=pw_cell_below s0 K7'.out
    go_simp
    with_reducible rfl
   rotate_left
   ·simp only [Act.put,List.setIfInBounds_toArray,List.set_cons_zero,List.set_cons_succ,i64_w,i32_w]
    rfl
   refine pure_ (i:=4) (N:=some 21) (v := ?_) (a' := ?_) #[true,true,true,true,true,false,false,false,false,false] rfl rfl (by kernel_rfl) (fun _ _ _ h => h) (Or.inl ⟨by rfl, ?_⟩) ?_ ?_
   rotate_left
   ·intro w'
    go_simp
    with_reducible rfl
   rotate_left
   ·simp only [Act.put,List.setIfInBounds_toArray,List.set_cons_zero,List.set_cons_succ,i64_w,i32_w]
    rfl
   refine pure_ (i:=5) (N:=some 22) (v := ?_) (a' := ?_) #[true,true,true,true,true,true,false,false,false,false] rfl rfl (by kernel_rfl) (fun _ _ _ h => h) (Or.inl ⟨by rfl, ?_⟩) ?_ ?_
   rotate_left
   ·intro w'
    go_simp
    with_reducible rfl
   rotate_left
   ·simp only [Act.put,List.setIfInBounds_toArray,List.set_cons_zero,List.set_cons_succ,i64_w,i32_w]
    rfl
   refine pure_ (i:=6) (N:=some 23) (v := ?_) (a' := ?_) #[true,true,true,true,true,true,true,false,false,false] rfl rfl (by kernel_rfl) (fun _ _ _ h => h) (Or.inl ⟨by rfl, ?_⟩) ?_ ?_
   rotate_left
   ·intro w'
    go_simp
    with_reducible rfl
   rotate_left
   ·simp only [Act.put,List.setIfInBounds_toArray,List.set_cons_zero,List.set_cons_succ,i64_w,i32_w]
    rfl
   refine take_ (i:=7) (N:=some 24) (v := ?_) (a' := ?_) #[true,true,true,true,true,true,true,true,false,false] rfl rfl (by kernel_rfl) (fun _ _ _ h => h) (Or.inl ⟨by rfl, ?_⟩) hHeld ?_ ?_
   rotate_left
   ·intro w' s0
    have e0:=pw_cell_below s0 M0'.out
    have e1:=pw_cell_below s0 M1'.out
    have e2:=pw_cell_below s0 M2'.out
    have e3:=pw_cell_below s0 M3'.out
    have e4:=pw_cell_below s0 M4'.out
    have e5:=pw_cell_below s0 M5'.out
    have e6:=pw_cell_below s0 M6'.out
    have e7:=pw_cell_below s0 M7'.out
    go_simp
    with_reducible rfl
   rotate_left
   ·simp only [Act.put,List.setIfInBounds_toArray,List.set_cons_zero,List.set_cons_succ,i64_w,i32_w]
    rfl
   refine one_ (i:=8) (N:=some 25) #[true,true,true,true,true,true,true,true,true,false] rfl rfl (by kernel_rfl) (by decide) (fun K hK => ?_)
   refine goes_ Try.func98 (by kernel_rfl) rfl #[.agg #[.int .i64 x.f0, .int .i64 x.f1, .int .i64 x.f2, .bool x.f3.f0, .int .u32 x.f3.f1, .bool x.f3.f2, .int .i64 x.f3.f3, .slice A8 x.f3.f4.length c8], .agg #[.int .i64 x.f0, .int .i64 x.f1, .int .i64 x.f2, .bool x.f3.f0, .int .u32 x.f3.f1, .bool x.f3.f2, .int .i64 x.f3.f3, .slice B8 x.f3.f4.length d8]] (by rfl) rfl rfl (by (try simp only [List.map_toArray,List.map_cons,List.map_nil]);first | done | rfl) ?_
   refine (eqEvent_v x wd A8 B8 c8 d8 (Kd.C_below G8.out HWd.out) L8.out (Kd.C_below G9.out HWd.out) L9.out HDX.out).mono ?_
   rintro e w6 ⟨rfl,hb⟩
   refine ⟨_,rfl, ?_⟩
   have HB6:=Lib.hid (below_then HWd.out HWd.out.size hb)
   clear hb
   refine hK.out _ _ HB6.out (fun hHeld => ?_)
   clear hK K
   refine norm_ (a' := ?_) ?_ ?_
   rotate_left
   ·show Act.put _ (some 25) _ = _
    simp only [Act.put,List.setIfInBounds_toArray,List.set_cons_zero,List.set_cons_succ,i64_w,i32_w]
    rfl
   refine pure_ (i:=9) (N:=some 26) (v := ?_) (a' := ?_) #[true,true,true,true,true,true,true,true,true,true] rfl rfl (by kernel_rfl) (fun _ _ _ h => h) (Or.inl ⟨by rfl, ?_⟩) ?_ ?_
   rotate_left
   ·intro w'
    go_simp
    with_reducible rfl
   rotate_left
   ·simp only [Act.put,List.setIfInBounds_toArray,List.set_cons_zero,List.set_cons_succ,i64_w,i32_w]
    rfl
   refine done_ (by kernel_rfl) ?_
   go_wp2_with (fail)
   go_roundw
   case rel => exact ⟨i + 1,HLT.out,by rw [HN.out];rfl,⟨below_then HB.out HB.out.size HB6.out⟩⟩
   case measure => rw [HN.out];have:=HLT.out;simp [intOf];omega
  ·have b2 : decide ((i : Int) < (l.length : Int)) = false:=decide_eq_false (by omega)
   go_wp2_with (fail)
   go_ret
   exact ⟨rfl,HB.out⟩
structure HSm (h : HV) : Prop where
 l1 : h.fs.length ≤ 10000000
 l2 : h.bs.length ≤ 10000000
 l3 : h.fr.length ≤ 10000000
 l4 : h.ev.length ≤ 10000000
 d2 : ∀ y ∈ h.bs,y.f3.f4.length ≤ 10000000
 d3 : ∀ y ∈ h.fr,y.f4.length ≤ 10000000
 d4 : ∀ y ∈ h.ev,y.f3.f4.length ≤ 10000000
set_option maxRecDepth 100000 in
set_option maxHeartbeats 2000000 in
theorem eqConfig_v (a b c d : Int) (w : World) : Calls Try.prog 65 #[.agg #[.int .i64 a, .int .i64 b, .int .i64 c, .int .i64 d], .agg #[.int .i64 a, .int .i64 b, .int .i64 c, .int .i64 d]] w fun e w' => e = .returned (.bool true) ∧ Below w.heap.size w w':=by
 have b0 : (a != a) = false:=bne_self_eq_false _
 have b1 : (b != b) = false:=bne_self_eq_false _
 have b2 : (c != c) = false:=bne_self_eq_false _
 have b3 : (d != d) = false:=bne_self_eq_false _
 go_enter Try.func65,Try.ntmps65
 go_upto_region 1 with (first | ((with_reducible refine gate_dst (N:=2) rfl ?_);refine box_event ?hg (N:=2) ?hd (cs := #[.int .i64 a, .int .i64 b, .int .i64 c, .int .i64 d]) (t:=26) ?hr ?_;(case hd => rfl);(case hg => rfl);(case hr => first | (go_simp;done) | (go_simp;rfl));intro g2 hg w1 hbox hb;have X1:=Lib.hid hbox;have HB1:=Lib.hid hb;clear hg hbox hb) | ((with_reducible refine gate_dst (N:=3) rfl ?_);refine box_event ?hg (N:=3) ?hd (cs := #[.int .i64 a, .int .i64 b, .int .i64 c, .int .i64 d]) (t:=26) ?hr ?_;(case hd => rfl);(case hg => rfl);(case hr => first | (go_simp;done) | (go_simp;rfl));intro g3 hg w2 hbox hb;have Y2:=Lib.hid hbox;have X2:=Lib.hid (blk_below X1.out hb);have HB2:=Lib.hid (below_then HB1.out HB1.out.size hb);clear hg hbox hb))
 have x0 : w2.cell? ⟨g2,0,none⟩ = some (.int .i64 a):=blk_cell X2.out 0
 have x1 : w2.cell? ⟨g2,1,none⟩ = some (.int .i64 b):=blk_cell X2.out 1
 have x2 : w2.cell? ⟨g2,2,none⟩ = some (.int .i64 c):=blk_cell X2.out 2
 have x3 : w2.cell? ⟨g2,3,none⟩ = some (.int .i64 d):=blk_cell X2.out 3
 have y0 : w2.cell? ⟨g3,0,none⟩ = some (.int .i64 a):=blk_cell Y2.out 0
 have y1 : w2.cell? ⟨g3,1,none⟩ = some (.int .i64 b):=blk_cell Y2.out 1
 have y2 : w2.cell? ⟨g3,2,none⟩ = some (.int .i64 c):=blk_cell Y2.out 2
 have y3 : w2.cell? ⟨g3,3,none⟩ = some (.int .i64 d):=blk_cell Y2.out 3
 go_wp2_with (fail)
 go_ret
 exact ⟨rfl,HB2.out⟩
set_option maxRecDepth 100000 in
set_option maxHeartbeats 4000000 in
theorem eqHost_v (h : HV) (hs : HSm h) (w : World) (C D : List Value) (hC : HRead w h C) (hD : HRead w h D) :
  Calls Try.prog 19 #[.agg ⟨C⟩, .agg ⟨D⟩] w fun e w' => e = .returned (.bool true) ∧ Below w.heap.size w w':=by
 obtain ⟨A1,c1,A2,c2,A3,c3,A4,c4,rfl,r1,l1,r2,l2,r3,l3,r4,l4⟩:=hC
 obtain ⟨B1,e1,B2,e2,B3,e3,B4,e4,rfl,s1,m1,s2,m2,s3,m3,s4,m4⟩:=hD
 have HS:=Lib.hid hs
 have R1:=Lib.hid r1;have R2:=Lib.hid r2;have R3:=Lib.hid r3;have R4:=Lib.hid r4
 have S1:=Lib.hid s1;have S2:=Lib.hid s2;have S3:=Lib.hid s3;have S4:=Lib.hid s4
 have L1:=Lib.hid l1;have L2:=Lib.hid l2;have L3:=Lib.hid l3;have L4:=Lib.hid l4
 have M1:=Lib.hid m1;have M2:=Lib.hid m2;have M3:=Lib.hid m3;have M4:=Lib.hid m4
 clear hs r1 r2 r3 r4 s1 s2 s3 s4 l1 l2 l3 l4 m1 m2 m3 m4
 have b0 : (h.lost != h.lost) = false:=bne_self_eq_false _
 have b1 : (h.stamp != h.stamp) = false:=bne_self_eq_false _
 go_enter Try.func19,Try.ntmps19
 go_upto_region 1 with (first | ((with_reducible refine gate_dst (N:=2) rfl ?_);refine box_event ?hg (N:=2) ?hd (cs:=⟨hostC h (.slice A1 h.fs.length c1) (.slice A2 h.bs.length c2) (.slice A3 h.fr.length c3) (.slice A4 h.ev.length c4)⟩) (t:=32) ?hr ?_;(case hd => rfl);(case hg => rfl);(case hr => first | (go_simp;done) | (go_simp;rfl));intro g2 hg w1 hbox hb;have X1:=Lib.hid hbox;have HB1:=Lib.hid hb;clear hg hbox hb) | ((with_reducible refine gate_dst (N:=3) rfl ?_);refine box_event ?hg (N:=3) ?hd (cs:=⟨hostC h (.slice B1 h.fs.length e1) (.slice B2 h.bs.length e2) (.slice B3 h.fr.length e3) (.slice B4 h.ev.length e4)⟩) (t:=32) ?hr ?_;(case hd => rfl);(case hg => rfl);(case hr => first | (go_simp;done) | (go_simp;rfl));intro g3 hg w2 hbox hb;have Y2:=Lib.hid hbox;have X2:=Lib.hid (blk_below X1.out hb);have HB2:=Lib.hid (below_then HB1.out HB1.out.size hb);clear hg hbox hb))
 have x0 : w2.cell? ⟨g2,0,none⟩ = some (.int .i64 h.cb):=blk_cell X2.out 0
 have x1 : w2.cell? ⟨g2,1,none⟩ = some (.int .i64 h.cf):=blk_cell X2.out 1
 have x2 : w2.cell? ⟨g2,2,none⟩ = some (.int .i64 h.cp):=blk_cell X2.out 2
 have x3 : w2.cell? ⟨g2,3,none⟩ = some (.int .i64 h.ce):=blk_cell X2.out 3
 have y0 : w2.cell? ⟨g3,0,none⟩ = some (.int .i64 h.cb):=blk_cell Y2.out 0
 have y1 : w2.cell? ⟨g3,1,none⟩ = some (.int .i64 h.cf):=blk_cell Y2.out 1
 have y2 : w2.cell? ⟨g3,2,none⟩ = some (.int .i64 h.cp):=blk_cell Y2.out 2
 have y3 : w2.cell? ⟨g3,3,none⟩ = some (.int .i64 h.ce):=blk_cell Y2.out 3
 go_upto_region 3 with (first | (go_at_call 65;refine (eqConfig_v h.cb h.cf h.cp h.ce w2).mono ?_;rintro e w3 ⟨rfl,hb⟩;have X3:=Lib.hid (blk_below X2.out hb);have Y3:=Lib.hid (blk_below Y2.out hb);have HB3:=Lib.hid (below_then HB2.out HB2.out.size hb);clear hb))
 clear x0 x1 x2 x3 y0 y1 y2 y3
 have x4 : w3.cell? ⟨g2,4,none⟩ = some (.slice A1 h.fs.length c1):=blk_cell X3.out 4
 have y4 : w3.cell? ⟨g3,4,none⟩ = some (.slice B1 h.fs.length e1):=blk_cell Y3.out 4
 go_upto_region 5 with (first | (go_at_call 20;refine (eqFilterS_v h.fs HS.out.l1 w3 A1 B1 c1 e1 (Kd.C_below R1.out HB3.out) L1.out (Kd.C_below S1.out HB3.out) M1.out).mono ?_;rintro e w4 ⟨rfl,hb⟩;have X4:=Lib.hid (blk_below X3.out hb);have Y4:=Lib.hid (blk_below Y3.out hb);have HB4:=Lib.hid (below_then HB3.out HB3.out.size hb);clear hb))
 clear x4 y4
 have x5 : w4.cell? ⟨g2,5,none⟩ = some (.slice A2 h.bs.length c2):=blk_cell X4.out 5
 have y5 : w4.cell? ⟨g3,5,none⟩ = some (.slice B2 h.bs.length e2):=blk_cell Y4.out 5
 go_upto_region 7 with (first | (go_at_call 66;refine (eqBoxS_v h.bs HS.out.l2 HS.out.d2 w4 A2 B2 c2 e2 (Kd.C_below R2.out HB4.out) L2.out (Kd.C_below S2.out HB4.out) M2.out).mono ?_;rintro e w5 ⟨rfl,hb⟩;have X5:=Lib.hid (blk_below X4.out hb);have Y5:=Lib.hid (blk_below Y4.out hb);have HB5:=Lib.hid (below_then HB4.out HB4.out.size hb);clear hb))
 clear x5 y5
 have x6 : w5.cell? ⟨g2,6,none⟩ = some (.slice A3 h.fr.length c3):=blk_cell X5.out 6
 have y6 : w5.cell? ⟨g3,6,none⟩ = some (.slice B3 h.fr.length e3):=blk_cell Y5.out 6
 go_upto_region 9 with (first | (go_at_call 67;refine (eqFrameS_v h.fr HS.out.l3 HS.out.d3 w5 A3 B3 c3 e3 (Kd.C_below R3.out HB5.out) L3.out (Kd.C_below S3.out HB5.out) M3.out).mono ?_;rintro e w6 ⟨rfl,hb⟩;have X6:=Lib.hid (blk_below X5.out hb);have Y6:=Lib.hid (blk_below Y5.out hb);have HB6:=Lib.hid (below_then HB5.out HB5.out.size hb);clear hb))
 clear x6 y6
 have x7 : w6.cell? ⟨g2,7,none⟩ = some (.slice A4 h.ev.length c4):=blk_cell X6.out 7
 have y7 : w6.cell? ⟨g3,7,none⟩ = some (.slice B4 h.ev.length e4):=blk_cell Y6.out 7
 go_upto_region 11 with (first | (go_at_call 46;refine (eqEventS_v h.ev HS.out.l4 HS.out.d4 w6 A4 B4 c4 e4 (Kd.C_below R4.out HB6.out) L4.out (Kd.C_below S4.out HB6.out) M4.out).mono ?_;rintro e w7 ⟨rfl,hb⟩;have X7:=Lib.hid (blk_below X6.out hb);have Y7:=Lib.hid (blk_below Y6.out hb);have HB7:=Lib.hid (below_then HB6.out HB6.out.size hb);clear hb))
 clear x7 y7
 have x8 : w7.cell? ⟨g2,8,none⟩ = some (.int .i64 h.lost):=blk_cell X7.out 8
 have y8 : w7.cell? ⟨g3,8,none⟩ = some (.int .i64 h.lost):=blk_cell Y7.out 8
 have x9 : w7.cell? ⟨g2,9,none⟩ = some (.int .i64 h.stamp):=blk_cell X7.out 9
 have y9 : w7.cell? ⟨g3,9,none⟩ = some (.int .i64 h.stamp):=blk_cell Y7.out 9
 go_wp2_with (fail)
 go_ret
 exact ⟨rfl,HB7.out⟩
end Go.Proofs.Ytcaefabbcjlkdaa.P
