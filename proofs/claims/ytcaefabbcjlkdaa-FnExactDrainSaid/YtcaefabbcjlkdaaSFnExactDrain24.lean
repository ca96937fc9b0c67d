/- Texts of the proof of FnExactDrain, joined. -/
import Derived.Test.YtcaefabbcjlkdaaSFnExactDrain22
import Derived.Test.YtcaefabbcjlkdaaSFnExactDrain23
import Derived.Test.YtcaefabbcjlkdaaSFnExactDrain1
import Derived.Lib.OthersKept
import Derived.Laws.MakeOwn
import Derived.Lib.ConvBytes
import Derived.Test.YtcaefabbcjlkdaaSFnExactDrain10
import Derived.Deep.MidRow
import Derived.MapKept
import Derived.Deep.RegionHeld
namespace Go.Proofs.Ytcaefabbcjlkdaa.P
open Go Go.RowKit Go.Proofs.YtcaefabbcjlkdaaW.PrintWords
set_option linter.unusedVariables false
def SameG {α : Type} (x l : List α) (i : Nat) : Prop:=x.length = l.length ∧ ∀ t,t < i → x[t]? = l[t]?
theorem SameG.zero {α : Type} {x l : List α} (h : x.length = l.length) : SameG x l 0:=⟨h,fun t ht => absurd ht (Nat.not_lt_zero t)⟩
theorem SameG.all {α : Type} {x l : List α} {i : Nat} (h : SameG x l i) (hi : l.length ≤ i) : x = l:=by
 apply List.ext_getElem?
 intro t
 by_cases c : t < l.length
 ·exact h.2 t (by omega)
 ·rw [List.getElem?_eq_none (by have:=h.1;omega),List.getElem?_eq_none (by omega)]
theorem SameG.next {α : Type} {x l : List α} {i : Nat} (h : SameG x l i) {v : α} (hv : l[i]? = some v) : SameG (x.set i v) l (i + 1):=by
 have hi : i < l.length:=(List.getElem?_eq_some_iff.1 hv).1
 refine ⟨by rw [List.length_set];exact h.1,fun t ht => ?_⟩
 rw [List.getElem?_set]
 by_cases e : i = t
 ·subst e
  rw [if_pos rfl,if_pos (by have:=h.1;omega),hv]
 ·rw [if_neg e]
  exact h.2 t (by omega)
theorem getD_some {α : Type} (l : List α) (i : Nat) (z : α) (h : i < l.length) : l[i]? = some (l.getD i z):=by rw [List.getD_eq_getElem?_getD,List.getElem?_eq_getElem h];rfl
def cFilter (x : S91) : S89:=⟨x.f0,x.f1,x.f2⟩
theorem toFilter_ev (x : S91) : Ev (fun k => laws_toFilter.f x.f0 x.f1 x.f2) (x.f0,x.f1,x.f2):=Ev.now _
theorem toFilterS_ev (l : List S91) (h : l.length ≤ 10000000) : Ev (fun k => laws_toFilterS.f k l) (l.map cFilter):=by
 have loop : ∀ (d i : Nat) (y : List S89),i + d = l.length → SameG y (l.map cFilter) i → Ev (fun k => laws_toFilterS.l0 k l y (i : Int)) (l.map cFilter):=by
  intro d
  induction d with
  | zero =>
   intro i y hi hy
   refine Ev.step (f:=fun _ => some (l.map cFilter)) (fun k => ?_) (Ev.now _)
   simp only [laws_toFilterS.l0]
   rw [if_neg (by omega),hy.all (by rw [List.length_map];omega)]
  | succ d ih =>
   intro i y hi hy
   have hl:=hy.1
   rw [List.length_map] at hl
   have hg : l[i]? = some (rd_T91 l (i : Int)):=getD_some l i _ (by omega)
   have hv : (l.map cFilter)[i]? = some (cFilter (rd_T91 l (i : Int))):=by rw [List.getElem?_map,hg];rfl
   have one:=toFilter_ev (rd_T91 l (i : Int))
   refine Ev.step (fun k => by simp only [laws_toFilterS.l0];rw [if_pos (by omega),if_pos (by omega)];try rfl) (Ev.bind one ?_)
   have hw : wrap64 ((i : Int) + 1) = ((i + 1 : Nat) : Int):=by rw [w64 (by omega) (by omega)];rfl
   simp only [hw]
   exact ev_pos (by omega) (ih (i + 1) _ (by omega) (hy.next hv))
 refine Ev.congr (fun k => ?_) (loop l.length 0 (List.replicate l.length z89) (by omega) (SameG.zero (by simp)))
 unfold laws_toFilterS.f
 rw [if_pos (by omega),if_pos (by omega)]
 rfl
theorem szFilterS_eq (l : List S91) (m : Int) (h : l.length ≤ maxLen) (h0 : 0 ≤ m) (h1 : m ≤ 1048576) : laws_szFilterS.f l m = some (if m < l.length then -1 else m - l.length):=by
 unfold laws_szFilterS.f
 simp only [maxLen] at h
 have e : wrap64 (m - (l.length : Int)) = m - l.length:=by unfold wrap64;omega
 rw [e]
 by_cases c : m < (l.length : Int)
 ·rw [if_pos (by omega),if_pos c]
 ·rw [if_neg (by omega),if_neg c]
def cFrame (x : S77) : S45:=⟨x.f0,x.f1,x.f2,x.f3,x.f4⟩
theorem toFrameS_ev (l : List S77) (h : l.length ≤ 10000000) (hd : ∀ x ∈ l,x.f4.length ≤ 10000000) : Ev (fun k => laws_toFrameS.f k l) (l.map cFrame):=by
 have loop : ∀ (d i : Nat) (y : List S45),i + d = l.length → SameG y (l.map cFrame) i → Ev (fun k => laws_toFrameS.l0 k l y (i : Int)) (l.map cFrame):=by
  intro d
  induction d with
  | zero =>
   intro i y hi hy
   refine Ev.step (f:=fun _ => some (l.map cFrame)) (fun k => ?_) (Ev.now _)
   simp only [laws_toFrameS.l0]
   rw [if_neg (by omega),hy.all (by rw [List.length_map];omega)]
  | succ d ih =>
   intro i y hi hy
   have hl:=hy.1
   rw [List.length_map] at hl
   have hg : l[i]? = some (rd_T77 l (i : Int)):=getD_some l i _ (by omega)
   have hv : (l.map cFrame)[i]? = some (cFrame (rd_T77 l (i : Int))):=by rw [List.getElem?_map,hg];rfl
   have one:=toFrame_ev (rd_T77 l (i : Int)).f0 (rd_T77 l (i : Int)).f1 (rd_T77 l (i : Int)).f2 (rd_T77 l (i : Int)).f3 (rd_T77 l (i : Int)).f4 (hd _ (List.mem_of_getElem? (getD_some l i z77 (by omega))))
   refine Ev.step (fun k => by simp only [laws_toFrameS.l0];rw [if_pos (by omega),if_pos (by omega)];try rfl) (Ev.bind one ?_)
   have hw : wrap64 ((i : Int) + 1) = ((i + 1 : Nat) : Int):=by rw [w64 (by omega) (by omega)];rfl
   simp only [hw]
   exact ev_pos (by omega) (ih (i + 1) _ (by omega) (hy.next hv))
 refine Ev.congr (fun k => ?_) (loop l.length 0 (List.replicate l.length z45) (by omega) (SameG.zero (by simp)))
 unfold laws_toFrameS.f
 rw [if_pos (by omega),if_pos (by omega)]
 rfl
theorem szFrame_eqS (e : Bool) (i : Int) (r : Bool) (d : Int) (l : List Int) (m : Int) (h : l.length ≤ maxLen) (h0 : 0 ≤ m) (h1 : m ≤ 1048576) : laws_szFrame.f e i r d l m = some (if m < l.length then -1 else m - l.length):=by
 unfold laws_szFrame.f
 rw [szByteS_eq l m h h0 h1,Option.bind_some]
 by_cases c : m < (l.length : Int)
 ·rw [if_pos c,if_pos (by omega)]
 ·rw [if_neg c,if_neg (by omega)]
def cBox (x : S141) : S87:=⟨x.f0,x.f1,x.f2,⟨x.f3.f0,x.f3.f1,x.f3.f2,x.f3.f3,x.f3.f4⟩⟩
theorem toBox_ev (x : S141) (h : x.f3.f4.length ≤ 10000000) : Ev (fun k => laws_toBox.f k x.f0 x.f1 x.f2 x.f3.f0 x.f3.f1 x.f3.f2 x.f3.f3 x.f3.f4) (x.f0,x.f1,x.f2,x.f3.f0,x.f3.f1,x.f3.f2,x.f3.f3,x.f3.f4):=by
 unfold laws_toBox.f
 exact Ev.bind (toFrame_ev _ _ _ _ _ h) (Ev.now _)
theorem toBoxS_ev (l : List S141) (h : l.length ≤ 10000000) (hd : ∀ x ∈ l,x.f3.f4.length ≤ 10000000) : Ev (fun k => laws_toBoxS.f k l) (l.map cBox):=by
 have loop : ∀ (d i : Nat) (y : List S87),i + d = l.length → SameG y (l.map cBox) i → Ev (fun k => laws_toBoxS.l0 k l y (i : Int)) (l.map cBox):=by
  intro d
  induction d with
  | zero =>
   intro i y hi hy
   refine Ev.step (f:=fun _ => some (l.map cBox)) (fun k => ?_) (Ev.now _)
   simp only [laws_toBoxS.l0]
   rw [if_neg (by omega),hy.all (by rw [List.length_map];omega)]
  | succ d ih =>
   intro i y hi hy
   have hl:=hy.1
   rw [List.length_map] at hl
   have hg : l[i]? = some (rd_T141 l (i : Int)):=getD_some l i _ (by omega)
   have hv : (l.map cBox)[i]? = some (cBox (rd_T141 l (i : Int))):=by rw [List.getElem?_map,hg];rfl
   have one:=toBox_ev (rd_T141 l (i : Int)) (hd _ (List.mem_of_getElem? (getD_some l i z141 (by omega))))
   refine Ev.step (fun k => by simp only [laws_toBoxS.l0];rw [if_pos (by omega),if_pos (by omega)];try rfl) (Ev.bind one ?_)
   have hw : wrap64 ((i : Int) + 1) = ((i + 1 : Nat) : Int):=by rw [w64 (by omega) (by omega)];rfl
   simp only [hw]
   exact ev_pos (by omega) (ih (i + 1) _ (by omega) (hy.next hv))
 refine Ev.congr (fun k => ?_) (loop l.length 0 (List.replicate l.length z87) (by omega) (SameG.zero (by simp)))
 unfold laws_toBoxS.f
 rw [if_pos (by omega),if_pos (by omega)]
 rfl
theorem szBox_eq (x : S141) (m : Int) (h : x.f3.f4.length ≤ maxLen) (h0 : 0 ≤ m) (h1 : m ≤ 1048576) : laws_szBox.f x.f0 x.f1 x.f2 x.f3.f0 x.f3.f1 x.f3.f2 x.f3.f3 x.f3.f4 m = some (if m < x.f3.f4.length then -1 else m - x.f3.f4.length):=by
 unfold laws_szBox.f
 rw [szFrame_eqS _ _ _ _ _ m h h0 h1,Option.bind_some]
 by_cases c : m < (x.f3.f4.length : Int)
 ·rw [if_pos c,if_pos (by omega)]
 ·rw [if_neg c,if_neg (by omega)]
def cEvent (x : S144) : S56:=⟨x.f0,x.f1,x.f2,⟨x.f3.f0,x.f3.f1,x.f3.f2,x.f3.f3,x.f3.f4⟩⟩
theorem toEvent_ev (x : S144) (h : x.f3.f4.length ≤ 10000000) : Ev (fun k => laws_toEvent.f k x.f0 x.f1 x.f2 x.f3.f0 x.f3.f1 x.f3.f2 x.f3.f3 x.f3.f4) (x.f0,x.f1,x.f2,x.f3.f0,x.f3.f1,x.f3.f2,x.f3.f3,x.f3.f4):=by
 unfold laws_toEvent.f
 exact Ev.bind (toFrame_ev _ _ _ _ _ h) (Ev.now _)
theorem toEventS_ev (l : List S144) (h : l.length ≤ 10000000) (hd : ∀ x ∈ l,x.f3.f4.length ≤ 10000000) : Ev (fun k => laws_toEventS.f k l) (l.map cEvent):=by
 have loop : ∀ (d i : Nat) (y : List S56),i + d = l.length → SameG y (l.map cEvent) i → Ev (fun k => laws_toEventS.l0 k l y (i : Int)) (l.map cEvent):=by
  intro d
  induction d with
  | zero =>
   intro i y hi hy
   refine Ev.step (f:=fun _ => some (l.map cEvent)) (fun k => ?_) (Ev.now _)
   simp only [laws_toEventS.l0]
   rw [if_neg (by omega),hy.all (by rw [List.length_map];omega)]
  | succ d ih =>
   intro i y hi hy
   have hl:=hy.1
   rw [List.length_map] at hl
   have hg : l[i]? = some (rd_T144 l (i : Int)):=getD_some l i _ (by omega)
   have hv : (l.map cEvent)[i]? = some (cEvent (rd_T144 l (i : Int))):=by rw [List.getElem?_map,hg];rfl
   have one:=toEvent_ev (rd_T144 l (i : Int)) (hd _ (List.mem_of_getElem? (getD_some l i z144 (by omega))))
   refine Ev.step (fun k => by simp only [laws_toEventS.l0];rw [if_pos (by omega),if_pos (by omega)];try rfl) (Ev.bind one ?_)
   have hw : wrap64 ((i : Int) + 1) = ((i + 1 : Nat) : Int):=by rw [w64 (by omega) (by omega)];rfl
   simp only [hw]
   exact ev_pos (by omega) (ih (i + 1) _ (by omega) (hy.next hv))
 refine Ev.congr (fun k => ?_) (loop l.length 0 (List.replicate l.length z56) (by omega) (SameG.zero (by simp)))
 unfold laws_toEventS.f
 rw [if_pos (by omega),if_pos (by omega)]
 rfl
theorem szEvent_eq (x : S144) (m : Int) (h : x.f3.f4.length ≤ maxLen) (h0 : 0 ≤ m) (h1 : m ≤ 1048576) : laws_szEvent.f x.f0 x.f1 x.f2 x.f3.f0 x.f3.f1 x.f3.f2 x.f3.f3 x.f3.f4 m = some (if m < x.f3.f4.length then -1 else m - x.f3.f4.length):=by
 unfold laws_szEvent.f
 rw [szFrame_eqS _ _ _ _ _ m h h0 h1,Option.bind_some]
 by_cases c : m < (x.f3.f4.length : Int)
 ·rw [if_pos c,if_pos (by omega)]
 ·rw [if_neg c,if_neg (by omega)]
structure Tch (w w' : World) (S : Nat → Prop) : Prop where
 os : w'.os = w.os
 tape : w'.tape = w.tape
 output : w'.output = w.output
 kept : Kept w w' S
theorem Tch.refl (w : World) (S : Nat → Prop) : Tch w w S:=⟨rfl,rfl,rfl,Kept.refl w S⟩
theorem Tch.size {w w' : World} {S : Nat → Prop} (h : Tch w w' S) : w.heap.size ≤ w'.heap.size:=h.kept.1
theorem Tch.block {w w' : World} {S : Nat → Prop} (h : Tch w w' S) {k : Nat} (hk : k < w.heap.size) (hn : ¬ S k) : w'.heap[k]? = w.heap[k]?:=h.kept.2 k hk hn
theorem Tch.mono {w w' : World} {S S' : Nat → Prop} (h : Tch w w' S) (hs : ∀ k,S k → S' k) : Tch w w' S':=⟨h.os,h.tape,h.output,h.kept.mono hs⟩
theorem Tch.then_ {w w1 w2 : World} {S S2 : Nat → Prop} (h : Tch w w1 S) (k : Tch w1 w2 S2) (hs : ∀ k,S2 k → S k ∨ w.heap.size ≤ k) : Tch w w2 S:=⟨k.os.trans h.os,k.tape.trans h.tape,k.output.trans h.output,h.kept.then_ k.kept hs⟩
theorem Tch.trans {w w1 w2 : World} {S : Nat → Prop} (h : Tch w w1 S) (k : Tch w1 w2 S) : Tch w w2 S:=h.then_ k fun _ h => .inl h
theorem Tch.drewN {w w1 : World} {S : Nat → Prop} (h : Tch w w1 S) (m : Nat) : Tch w (w1.drewN m) S:=⟨h.os,h.tape,h.output,h.kept.drewN m⟩
theorem Tch.drew {w w1 : World} {S : Nat → Prop} (h : Tch w w1 S) : Tch w w1.drew S:=⟨h.os,h.tape,h.output,h.kept.drew⟩
theorem Tch.alloc {w w1 : World} {S : Nat → Prop} (h : Tch w w1 S) (o : Obj) : Tch w (w1.alloc o) S:=⟨h.os,h.tape,h.output,h.kept.alloc o⟩
theorem Tch.setCell {w w1 : World} {S : Nat → Prop} (h : Tch w w1 S) {p : Addr} (hp : S p.block ∨ w.heap.size ≤ p.block) (u : Value) : Tch w (w1.setCell p u) S:=⟨h.os,h.tape,h.output,h.kept.setCell hp u⟩
theorem Tch.belowR {w w1 w2 : World} {S : Nat → Prop} (h : Tch w w1 S) (hb : Below w1.heap.size w1 w2) : Tch w w2 S:=⟨hb.os.trans h.os,hb.tape.trans h.tape,hb.output.trans h.output,h.kept.below hb⟩
theorem Tch.of_below {w w1 : World} (S : Nat → Prop) (hb : Below w.heap.size w w1) : Tch w w1 S:=(Tch.refl w S).belowR hb
theorem Tch.grown {w w1 w2 : World} {S : Nat → Prop} {row : Option Nat} (h : Tch w w1 S) (hg : w1.grownBy w2 row) (hr : ∀ k,row = some k → S k ∨ w.heap.size ≤ k) : Tch w w2 S:=⟨hg.os.trans h.os,hg.tape.trans h.tape,hg.output.trans h.output,Kept.of_grown hg h.kept hr⟩
theorem Tch.below {w0 w w' : World} {S : Nat → Prop} {B : Nat} (h : Tch w w' S) (hb : Below B w0 w) (hB : B ≤ w.heap.size) (hs : ∀ k,S k → B ≤ k) : Below B w0 w' :=
 hb.trans ⟨h.os,h.tape,h.output,h.size,fun k hk => h.block (by omega) (fun e => by have:=hs k e;omega)⟩
theorem Tch.R {α : Type} {d : Kd α} {e : Nat} {w w' : World} {S : Nat → Prop} {base : Nat} {ok : Nat → Prop} {v : Value} {xs : List α} (h : Tch w w' S) (hr : d.R e w base ok v xs) (hne : ∀ k,ok k → ¬ S k) : d.R e w' base ok v xs:=Kd.R_kept hr h.kept hne
theorem Tch.one {w w1 : World} {p : Nat} (h : Tch w w1 (fun k => k = p)) (j : Nat) (u : Value) : Tch w (w1.setCell ⟨p,j,none⟩ u) (fun k => k = p):=Tch.setCell (p:=⟨p,j,none⟩) h (.inl rfl) u
theorem Tch.refl1 (w : World) (p : Nat) : Tch w w (fun k => k = p):=Tch.refl w _
theorem tch_setCells (W : World) (g : Nat) : ∀ (vs : List Value) (o : Nat),Tch W (W.setCells g o vs) (fun k => k = g):=by
 intro vs
 induction vs generalizing W with
 | nil => intro o;exact Tch.refl _ _
 | cons v vs ih => intro o;exact ((Tch.refl1 W g).one o v).trans (ih (W.setCell ⟨g,o,none⟩ v) (o + 1))
theorem setCells_obj {g : Nat} {T : TypeId} : ∀ (vs : List Value) (o : Nat) (W : World) (cs : Array Value),W.heap[g]? = some (.cells cs T (0,0)) → o + vs.length ≤ cs.size →
  (W.setCells g o vs).heap[g]? = some (.cells (cs.toList.take o ++ vs ++ cs.toList.drop (o + vs.length)).toArray T (0,0)):=by
 intro vs
 induction vs with
 | nil =>
  intro o W cs h ho
  show W.heap[g]? = _
  rw [h,List.append_nil,List.length_nil,Nat.add_zero,List.take_append_drop]
 | cons v vs ih =>
  intro o W cs h ho
  rw [List.length_cons] at ho
  show ((W.setCell ⟨g,o,none⟩ v).setCells g (o + 1) vs).heap[g]? = _
  rw [ih (o + 1) _ _ (blk_set h o v) (by rw [Array.size_setIfInBounds];omega)]
  congr 3
  apply List.ext_getElem?
  intro i
  have hl : cs.toList.length = cs.size:=Array.length_toList
  simp only [Array.toList_setIfInBounds,List.getElem?_append,List.length_append,List.length_take,List.length_set,hl,List.length_cons,List.getElem?_take,List.getElem?_drop,List.getElem?_set,List.getElem?_cons]
  by_cases c1 : i < o
  ·rw [if_pos (by omega),if_pos (by omega),if_pos (by omega),if_neg (by omega),if_pos (by omega),if_pos (by omega),if_pos (by omega)]
  ·by_cases c2 : i = o
   ·subst c2
    rw [if_pos (by omega),if_pos (by omega),if_pos (by omega),if_pos rfl,if_pos (by omega),if_pos (by omega),if_neg (by omega),if_pos (by omega)]
   ·by_cases c3 : i < o + 1 + vs.length
    ·rw [if_pos (by omega),if_neg (by omega),if_pos (by omega),if_neg (by omega),if_neg (by omega)]
     congr 1;omega
    ·rw [if_neg (by omega),if_neg (by omega),if_neg (by omega)]
     congr 1;omega
section
variable {P : Program} {ops : Array Oper} {rest : List Oper} {o : Oper} {a : Act} {Q : Exit → Act → World → Prop}
theorem store_box {W : World} (hgd : o.guard = none) {t : TypeId} {p : Tmp} {v : Operand} (ho : o.op = .store t (.tmp p) v) (hN : o.dst = none) {g j : Nat} {cs cs' : Array Value} {T : TypeId} {u : Value} {seg : List Value}
  (hp : a.eval (.tmp p) = .pointer (some ⟨g,j,none⟩)) (hv : a.eval v = u) (hb : W.heap[g]? = some (.cells cs T (0,0))) (hu : u.cells.toList = seg) (ht : (P.info? t).map (·.size) = some seg.length) (h1 : seg.all (·.oneCell') = true) (hj' : Nat.ble (j + seg.length) cs.size = true)
  (hcs : (cs.toList.take j ++ seg ++ cs.toList.drop (j + seg.length)).toArray = cs') (h : ∀ w',w'.heap[g]? = some (.cells cs' T (0,0)) → Tch W w' (fun k => k = g) → wpList P ops Q rest a w') : wpList P ops Q (o :: rest) a W:=by
 have hj : j + seg.length ≤ cs.size:=Nat.le_of_ble_eq_true hj'
 have hrun:=run_store_run (P:=P) (o:=j) t u seg hb hu ht hj (List.all_eq_true.1 h1)
 refine wpList_plain hgd fun K hK => ?_
 unfold Oper.wp execOp
 simp only [ho,hp,hv,Sem.run_bind,Sem.run_pure,Result.andThen_ok,hrun]
 show K (a.put o.dst undef) _
 rw [hN]
 refine hK a _ (h _ ?_ (tch_setCells _ _ _ _))
 rw [setCells_obj seg j W cs hb hj,hcs]
theorem load_box {W : World} (hgd : o.guard = none) {t : TypeId} {p : Tmp} (ho : o.op = .load t (.tmp p)) {g j : Nat} {cs : Array Value} {T : TypeId} {seg : Array Value} {fs : Array Field}
  (hp : a.eval (.tmp p) = .pointer (some ⟨g,j,none⟩)) (hb : W.heap[g]? = some (.cells cs T (0,0))) (hu : P.underlying t = some (.struct fs)) (ht : (P.info? t).map (·.size) = some seg.size) (hs : (cs.toList.drop j).take seg.size = seg.toList)
  (h : wpList P ops Q rest (a.put o.dst (.agg seg)) W) : wpList P ops Q (o :: rest) a W:=by
 refine wpList_load_mid hgd t (.tmp p) ho g j hp seg.toList (.struct fs) (fun i v hi => ?_) hu rfl (by rw [Array.length_toList];exact ht) ?_
 ·rw [blk_cell hb, ← hs] at *
  rw [List.getElem?_take,List.getElem?_drop] at hi
  split at hi
  ·rw [Array.getElem?_toList] at hi;exact hi
  ·cases hi
 ·rw [Array.toArray_toList];exact h
end
theorem Tch.blk {w w' : World} {S : Nat → Prop} {k : Nat} {o : Obj} (h : Tch w w' S) (hk : w.heap[k]? = some o) (hn : ¬ S k) : w'.heap[k]? = some o:=blk_kept hk h.kept hn
section
variable {α : Type} {d : Kd α} {e base g T : Nat} {w w' : World} {ok : Nat → Prop} {v : Value} {xs : List α} {cells : Array Value}
theorem R_tch (h : d.R e w base ok v xs) (hb : w.heap[g]? = some (.cells cells T (0,0))) (ht : ∀ q,q ∈ e :: d.E → q ≠ T) (hT : Tch w w' (fun k => k = g)) : d.R e w' base ok v xs :=
 Kd.R_mono (Kd.R_kept (Kd.R_types h hb ht) hT.kept (fun _ hk => hk.2)) (fun _ hk => hk.1)
theorem S_tch (h : Kd.S d e w base ok v xs) (hb : w.heap[g]? = some (.cells cells T (0,0))) (ht : ∀ q,q ∈ e :: d.E → q ≠ T) (hT : Tch w w' (fun k => k = g)) : Kd.S d e w' base ok v xs :=
 Kd.S_mono (Kd.S_kept (Kd.S_types h hb ht) hT.kept (fun _ hk => hk.2)) (fun _ hk => hk.1)
end
theorem lit_event {P : Program} {ops : Array Oper} {rest : List Oper} {o : Oper} {a : Act} {Q : Exit → Act → World → Prop} {W : World} (hgd : o.guard = none) {cs : Array Value} {T : TypeId} {n : Nat}
  (hrun : (execOp a.eval o).run P W = .ok (.value (.slice (some ⟨W.heap.size,0,none⟩) n n)) (W.alloc (.cells cs T (0,0))))
  (h : ∀ g,g = W.heap.size → ∀ w1,(w1.heap[g]? = some (.cells cs T (0,0)) ∧ Below W.heap.size W w1) → wpList P ops Q rest (a.put o.dst (.slice (some ⟨g,0,none⟩) n n)) w1) : wpList P ops Q (o :: rest) a W :=
 Kd.event_run hgd hrun (h _ rfl _ ⟨blk_new W _,below_alloc (Below.refl _ _) _⟩)
theorem load_all {P : Program} {ops : Array Oper} {rest : List Oper} {o : Oper} {a : Act} {Q : Exit → Act → World → Prop} {W : World} (hgd : o.guard = none) {t : TypeId} {p : Tmp} (ho : o.op = .load t (.tmp p)) {g : Nat} {C : List Value} {T : TypeId} {fs : Array Field}
  (hp : a.eval (.tmp p) = .pointer (some ⟨g,0,none⟩)) (hb : W.heap[g]? = some (.cells ⟨C⟩ T (0,0))) (hu : P.underlying t = some (.struct fs)) (ht : (P.info? t).map (·.size) = some C.length)
  (h : wpList P ops Q rest (a.put o.dst (.agg ⟨C⟩)) W) : wpList P ops Q (o :: rest) a W :=
 load_box hgd ho (g:=g) (j:=0) (seg:=⟨C⟩) hp hb hu ht (by show (C.drop 0).take C.length = C;rw [List.drop_zero,List.take_length]) h
theorem range_all {W : World} {g : Nat} {C : List Value} {T : TypeId} (hb : W.heap[g]? = some (.cells ⟨C⟩ T (0,0))) : W.rangeAt g 0 C:=fun i v hi => by
 rw [blk_cell hb,Nat.zero_add, ← Array.getElem?_toList];exact hi
theorem store_all {P : Program} {ops : Array Oper} {rest : List Oper} {o : Oper} {a : Act} {Q : Exit → Act → World → Prop} {W : World} (hgd : o.guard = none) {t : TypeId} {p : Tmp} {v : Operand} (ho : o.op = .store t (.tmp p) v) (hN : o.dst = none) {g : Nat} {cs : Array Value} {C : List Value} {T : TypeId}
  (hp : a.eval (.tmp p) = .pointer (some ⟨g,0,none⟩)) (hv : a.eval v = .agg ⟨C⟩) (hb : W.heap[g]? = some (.cells cs T (0,0))) (ht : (P.info? t).map (·.size) = some C.length) (h1 : ∀ u ∈ C,u.oneCell' = true) (hs : cs.size = C.length)
  (h : ∀ w',w'.heap[g]? = some (.cells ⟨C⟩ T (0,0)) → Tch W w' (fun k => k = g) → wpList P ops Q rest a w') : wpList P ops Q (o :: rest) a W :=
 store_box hgd ho hN (g:=g) (j:=0) (cs:=cs) (seg:=C) hp hv hb rfl ht (List.all_eq_true.2 h1) (by rw [Nat.zero_add, ← hs];exact Nat.ble_self_eq_true _) (by
  have hl : cs.toList.length = cs.size:=Array.length_toList
  rw [List.take_zero,List.nil_append,Nat.zero_add,List.drop_of_length_le (by omega),List.append_nil]) h
theorem clear_run {P : Program} {W : World} {t kt et : TypeId} {r : Nat} {es : Array MapEntry} {cl : Nat} (hm : P.underlying t = some (.map kt et)) (hb : W.heap[r]? = some (.map es cl)) (ty : TypeId) :
  ∃ W2,Sem.run P (Builtin.clear_ #[t] ty #[.map (some r)]) W = .ok (.tuple #[]) W2 ∧ W2.heap[r]? = some (.map #[] cl) ∧ Tch W W2 (fun k => k = r):=by
 refine ⟨{ W with heap:=W.heap.setIfInBounds r (.map #[] cl) }, ?_,(Go.MapKept.heap_set hb).1,⟨rfl,rfl,rfl,⟨by simp,fun k hk hn => (Go.MapKept.heap_set hb).2 k hn⟩⟩⟩
 have e : Sem.run P (Builtin.clear_ #[t] ty #[.map (some r)]) W = (Builtin.clear_ #[t] ty #[.map (some r)]).run P W:=rfl
 rw [e]
 simp [Builtin.clear_,run_underlying hm,Go.MapKept.run_getObj_map hb,Go.MapKept.run_setObj_map _ hb,Result.andThen]
def MapAt (w : World) (m : Nat) (f : Int → Option Int) (n : Nat) : Prop :=
 ∃ es cl,w.heap[m]? = some (.map es cl) ∧ Go.MapKept.Stamped es cl ∧ (∀ x ∈ es.toList, ∃ k v,x.key = .int .i64 k ∧ x.val = .int .i64 v ∧ f k = some v) ∧ (∀ k v,f k = some v → ∃ x ∈ es.toList,x.key = .int .i64 k ∧ x.val = .int .i64 v) ∧ es.size = n
theorem MapAt.lt {w : World} {m n : Nat} {f : Int → Option Int} (h : MapAt w m f n) : m < w.heap.size:=by
 obtain ⟨_,_,hb,_⟩:=h
 exact (Array.getElem?_eq_some_iff.1 hb).1
theorem MapAt.tch {w w' : World} {S : Nat → Prop} {m n : Nat} {f : Int → Option Int} (h : MapAt w m f n) (hT : Tch w w' S) (hn : ¬ S m) : MapAt w' m f n:=by
 obtain ⟨es,cl,hb,h1⟩:=h
 exact ⟨es,cl,hT.blk hb hn,h1⟩
theorem MapAt.below {w w' : World} {m n : Nat} {f : Int → Option Int} (h : MapAt w m f n) (hb : Below w.heap.size w w') : MapAt w' m f n:=h.tch (Tch.of_below (fun _ => False) hb) (fun h => h)
theorem MapAt.new {w : World} {m cl : Nat} (h : w.heap[m]? = some (.map #[] cl)) : MapAt w m (fun _ => none) 0 :=
 ⟨#[],cl,h,Go.MapKept.stamped_empty _,by simp,by simp,rfl⟩
theorem MapAt.congr {w : World} {m n : Nat} {f g : Int → Option Int} (h : MapAt w m f n) (he : ∀ k,f k = g k) : MapAt w m g n:=by
 have : f = g:=funext he
 rw [← this];exact h
theorem i64_inj {a b : Int} (h : Value.int .i64 a = Value.int .i64 b) : a = b:=by injection h
section
variable {P : Program} {W : World} {t kt et : TypeId} {m n : Nat} {f : Int → Option Int} {k v : Int}
theorem MapAt.find (h : MapAt W m f n) (k : Int) : ∃ es cl,W.heap[m]? = some (.map es cl) ∧ es.size = n ∧
  ((f k = none ∧ Instr.findNow (.int .i64) (.int .i64 k) es.toList 0 = some none ∧ ∀ x ∈ es.toList,x.key ≠ .int .i64 k) ∨
   ∃ j e v,f k = some v ∧ Instr.findNow (.int .i64) (.int .i64 k) es.toList 0 = some (some (j, .int .i64 v)) ∧ es[j]? = some e ∧ e.key = .int .i64 k ∧ e.val = .int .i64 v):=by
 obtain ⟨es,cl,hb,hs,h1,h2,hz⟩:=h
 have hk : Go.MapKept.IsKey (.int .i64) (.int .i64 k):=rfl
 have hks : ∀ x ∈ es.toList,Go.MapKept.IsKey (.int .i64) x.key:=fun x hx => by
  obtain ⟨k',v',e,_⟩:=h1 x hx
  rw [e];rfl
 refine ⟨es,cl,hb,hz, ?_⟩
 rcases Go.MapKept.findNow_spec hk es.toList 0 hks with ⟨h3,h4⟩ | ⟨j,e,h3,h4,h5⟩
 ·left
  refine ⟨?_,h3,h4⟩
  cases e : f k with
  | none => rfl
  | some v =>
   obtain ⟨x,hx,hkx,_⟩:=h2 k v e
   exact absurd hkx (h4 x hx)
 ·right
  have hm : e ∈ es.toList:=List.mem_of_getElem? h4
  obtain ⟨k',v',e1,e2,e3⟩:=h1 e hm
  have : k' = k:=i64_inj (e1.symm.trans h5)
  subst this
  exact ⟨j,e,v',e3,by rw [h3,e2,Nat.zero_add],by rw [← Array.getElem?_toList];exact h4,h5,e2⟩
theorem tch_map {o o' : Obj} (hb : W.heap[m]? = some o) : Tch W { W with heap:=W.heap.setIfInBounds m o' } (fun k => k = m) :=
 ⟨rfl,rfl,rfl,⟨by simp,fun k hk hn => (Go.MapKept.heap_set hb).2 k hn⟩⟩
theorem update_run (hm : P.underlying t = some (.map kt et)) (hd : P.underlying kt = some (.int .i64)) (h : MapAt W m f n) (k v : Int) :
  ∃ W2,(Instr.mapUpdate t (.map (some m)) (.int .i64 k) (.int .i64 v)).run P W = .ok () W2 ∧ MapAt W2 m (fun x => if x = k then some v else f x) (if (f k).isSome then n else n + 1) ∧ Tch W W2 (fun k => k = m):=by
 have hk : Go.MapKept.IsKey (.int .i64) (.int .i64 k):=rfl
 have h':=h
 obtain ⟨es,cl,hb,hs,ha,hc,hz⟩:=h'
 obtain ⟨es',cl',hb',hz',hh⟩:=h.find k
 rw [hb] at hb'
 injection hb' with hb'
 injection hb' with q1 q2
 subst q1 q2
 rcases hh with ⟨h0,h1,h2⟩ | ⟨j,e,v0,h0,h1,h2,h3,h4⟩
 ·refine ⟨{ W with heap:=W.heap.setIfInBounds m (.map (es.push { key := .int .i64 k,val := .int .i64 v,born:=cl }) (cl + 1)) },by simp [Instr.mapUpdate,run_underlying hm,Go.MapKept.run_getObj_map hb,Go.MapKept.run_checkKey hd hk,Go.MapKept.run_findKey hd h1,Go.MapKept.run_setObj_map _ hb,Result.andThen],⟨_,_,(Go.MapKept.heap_set hb).1,Go.MapKept.stamped_push hs h2, ?_, ?_, ?_⟩,tch_map hb⟩
  ·intro x hx
   simp only [Array.toList_push,List.mem_append,List.mem_singleton] at hx
   rcases hx with hx | rfl
   ·obtain ⟨k',v',e1,e2,e3⟩:=ha x hx
    refine ⟨k',v',e1,e2, ?_⟩
    show (if k' = k then some v else f k') = _
    rw [if_neg (fun e => by rw [e,h0] at e3;cases e3)]
    exact e3
   ·exact ⟨k,v,rfl,rfl,if_pos rfl⟩
  ·intro k' v' he
   have he' : (if k' = k then some v else f k') = some v':=he
   simp only [Array.toList_push,List.mem_append,List.mem_singleton]
   by_cases c : k' = k
   ·rw [if_pos c] at he'
    cases he'
    exact ⟨_, .inr rfl,by rw [c],rfl⟩
   ·rw [if_neg c] at he'
    obtain ⟨x,hx,q⟩:=hc k' v' he'
    exact ⟨x, .inl hx,q⟩
  ·rw [Array.size_push,hz,h0];rfl
 ·have hkey : ∀ e',es[j]? = some e' → ({ e' with key := .int .i64 k,val := .int .i64 v } : MapEntry).key = e'.key:=fun e' he' => by rw [h2] at he';cases he';exact h3.symm
  have hje : es.toList[j]? = some e:=by rw [Array.getElem?_toList];exact h2
  have hnd : ∀ i x,es.toList[i]? = some x → x.key = .int .i64 k → i = j:=by
   intro i x hi hx
   have h5 : (es.toList.map (·.key))[i]? = some (.int .i64 k):=by rw [List.getElem?_map,hi];simp [hx]
   have h6 : (es.toList.map (·.key))[j]? = some (.int .i64 k):=by rw [List.getElem?_map,hje];simp [h3]
   obtain ⟨l5,_⟩:=List.getElem?_eq_some_iff.1 h5
   exact (List.getElem?_inj l5 hs.2.2).1 (h5.trans h6.symm)
  refine ⟨{ W with heap:=W.heap.setIfInBounds m (.map (es.modify j fun e => { e with key := .int .i64 k,val := .int .i64 v }) cl) },by simp [Instr.mapUpdate,run_underlying hm,Go.MapKept.run_getObj_map hb,Go.MapKept.run_checkKey hd hk,Go.MapKept.run_findKey hd h1,h2,h3,Go.MapKept.run_keyThatStays hk,Go.MapKept.run_setObj_map _ hb,Result.andThen],⟨_,_,(Go.MapKept.heap_set hb).1,Go.MapKept.stamped_modify hs _ _ (fun _ _ => rfl) (fun e' _ he' => hkey e' he'), ?_, ?_, ?_⟩,tch_map hb⟩
  ·intro x hx
   obtain ⟨i,hi⟩:=List.mem_iff_getElem?.1 hx
   rw [Array.getElem?_toList,Array.getElem?_modify] at hi
   by_cases c : j = i
   ·subst c
    rw [if_pos rfl,h2] at hi
    cases hi
    exact ⟨k,v,rfl,rfl,if_pos rfl⟩
   ·rw [if_neg c] at hi
    have hi' : es.toList[i]? = some x:=by rw [Array.getElem?_toList];exact hi
    obtain ⟨k',v',e1,e2,e3⟩:=ha x (List.mem_of_getElem? hi')
    refine ⟨k',v',e1,e2, ?_⟩
    show (if k' = k then some v else f k') = _
    rw [if_neg (fun q => c (hnd i x hi' (by rw [e1,q])).symm)]
    exact e3
  ·intro k' v' he
   have he' : (if k' = k then some v else f k') = some v':=he
   by_cases c : k' = k
   ·rw [if_pos c] at he'
    cases he'
    refine ⟨{ e with key := .int .i64 k,val := .int .i64 v }, ?_,by rw [c],rfl⟩
    refine List.mem_iff_getElem?.2 ⟨j, ?_⟩
    rw [Array.getElem?_toList,Array.getElem?_modify,if_pos rfl,h2];rfl
   ·rw [if_neg c] at he'
    obtain ⟨x,hx,q1,q2⟩:=hc k' v' he'
    obtain ⟨i,hi⟩:=List.mem_iff_getElem?.1 hx
    refine ⟨x,List.mem_iff_getElem?.2 ⟨i, ?_⟩,q1,q2⟩
    rw [Array.getElem?_toList,Array.getElem?_modify,if_neg, ← Array.getElem?_toList]
    ·exact hi
    ·rintro rfl
     rw [hje] at hi
     cases hi
     exact c (i64_inj (q1.symm.trans h3))
  ·rw [Array.size_modify,hz,h0];rfl
end
theorem map_event {P : Program} {ops : Array Oper} {rest : List Oper} {o : Oper} {a : Act} {Q : Exit → Act → World → Prop} {W : World} (hgd : o.guard = none)
  (hrun : (execOp a.eval o).run P W = .ok (.value (.map (some W.heap.size))) (W.alloc (.map #[] 0)))
  (h : ∀ m,m = W.heap.size → ∀ w1,w1.heap[m]? = some (.map #[] 0) → Below W.heap.size W w1 → wpList P ops Q rest (a.put o.dst (.map (some m))) w1) : wpList P ops Q (o :: rest) a W :=
 Kd.event_run hgd hrun (h _ rfl _ (blk_new W _) (below_alloc (Below.refl _ _) _))
structure HV where
 cb : Int
 cf : Int
 cp : Int
 ce : Int
 fs : List S89
 bs : List S87
 fr : List S45
 ev : List S56
 lost : Int
 stamp : Int
structure HRows (w : World) (base : Nat) (ok : Nat → Prop) (o : Nat → Nat) (h : HV) (vf vb vq ve : Value) : Prop where
 f : (k89).R 89 w base (fun k => ok k ∧ o k = 0) vf h.fs
 b : Kd.S k87 87 w base (fun k => ok k ∧ o k = 1) vb h.bs
 q : Kd.S k45 45 w base (fun k => ok k ∧ o k = 2) vq h.fr
 e : Kd.S k56 56 w base (fun k => ok k ∧ o k = 3) ve h.ev
section
variable {w w1 : World} {base : Nat} {ok ok' : Nat → Prop} {o o' : Nat → Nat} {h : HV} {vf vb vq ve : Value}
theorem HRows.step (H : HRows w base ok o h vf vb vq ve) (hm : ∀ k,ok k → k < w.heap.size → w1.heap[k]? = w.heap[k]?) : HRows w1 base ok o h vf vb vq ve :=
 ⟨Kd.R_step H.f (fun k hk => hm k hk.1),Kd.S_step H.b (fun k hk => hm k hk.1),Kd.S_step H.q (fun k hk => hm k hk.1),Kd.S_step H.e (fun k hk => hm k hk.1)⟩
theorem HRows.mono (H : HRows w base ok o h vf vb vq ve) (hok : ∀ k,ok k → ok' k) : HRows w base ok' o h vf vb vq ve :=
 ⟨Kd.R_mono H.f (fun k hk => ⟨hok k hk.1,hk.2⟩),Kd.S_mono H.b (fun k hk => ⟨hok k hk.1,hk.2⟩),Kd.S_mono H.q (fun k hk => ⟨hok k hk.1,hk.2⟩),Kd.S_mono H.e (fun k hk => ⟨hok k hk.1,hk.2⟩)⟩
def Mine (w : World) (base k : Nat) : Prop:=base ≤ k ∧ k < w.heap.size ∧ ∃ q,(q = 89 ∨ q = 87 ∨ q = 45 ∨ q = 56 ∨ q = 5) ∧ ∃ cells,w.heap[k]? = some (.cells cells q (0,0))
theorem HRows.bound (H : HRows w base ok o h vf vb vq ve) : HRows w base (fun k => ok k ∧ Mine w base k) o h vf vb vq ve:=by
 refine ⟨Kd.R_mono (Kd.R_bound H.f) ?_,Kd.S_mono (Kd.S_bound H.b) ?_,Kd.S_mono (Kd.S_bound H.q) ?_,Kd.S_mono (Kd.S_bound H.e) ?_⟩
 ·rintro k ⟨⟨h1,h2⟩,h3,h4,q,hq,hc⟩
  have hq : q ∈ [89]:=hq
  exact ⟨⟨h1,h3,h4,q, .inl (List.mem_singleton.1 hq),hc⟩,h2⟩
 ·rintro k ⟨⟨h1,h2⟩,h3,h4,q,hq,hc⟩
  have hq : q ∈ [87,5]:=hq
  rcases List.mem_cons.1 hq with e | e
  ·exact ⟨⟨h1,h3,h4,q, .inr (.inl e),hc⟩,h2⟩
  ·exact ⟨⟨h1,h3,h4,q, .inr (.inr (.inr (.inr (List.mem_singleton.1 e)))),hc⟩,h2⟩
 ·rintro k ⟨⟨h1,h2⟩,h3,h4,q,hq,hc⟩
  have hq : q ∈ [45,5]:=hq
  rcases List.mem_cons.1 hq with e | e
  ·exact ⟨⟨h1,h3,h4,q, .inr (.inr (.inl e)),hc⟩,h2⟩
  ·exact ⟨⟨h1,h3,h4,q, .inr (.inr (.inr (.inr (List.mem_singleton.1 e)))),hc⟩,h2⟩
 ·rintro k ⟨⟨h1,h2⟩,h3,h4,q,hq,hc⟩
  have hq : q ∈ [56,5]:=hq
  rcases List.mem_cons.1 hq with e | e
  ·exact ⟨⟨h1,h3,h4,q, .inr (.inr (.inr (.inl e))),hc⟩,h2⟩
  ·exact ⟨⟨h1,h3,h4,q, .inr (.inr (.inr (.inr (List.mem_singleton.1 e)))),hc⟩,h2⟩
theorem HRows.reown (H : HRows w base ok o h vf vb vq ve) (ho : ∀ k,k < w.heap.size → o' k = o k) : HRows w base ok o' h vf vb vq ve:=by
 have H:=H.bound
 exact ⟨Kd.R_mono H.f (fun k hk => ⟨hk.1.1,(ho k hk.1.2.2.1).trans hk.2⟩),Kd.S_mono H.b (fun k hk => ⟨hk.1.1,(ho k hk.1.2.2.1).trans hk.2⟩),Kd.S_mono H.q (fun k hk => ⟨hk.1.1,(ho k hk.1.2.2.1).trans hk.2⟩),Kd.S_mono H.e (fun k hk => ⟨hk.1.1,(ho k hk.1.2.2.1).trans hk.2⟩)⟩
theorem HRows.lower {base' : Nat} (H : HRows w base ok o h vf vb vq ve) (hb : base' ≤ base) : HRows w base' ok o h vf vb vq ve :=
 ⟨Kd.R_lower H.f hb,Kd.S_lower H.b hb,Kd.S_lower H.q hb,Kd.S_lower H.e hb⟩
theorem HRows.below (H : HRows w base ok o h vf vb vq ve) (hb : Below w.heap.size w w1) : HRows w1 base ok o h vf vb vq ve:=H.step (fun k _ hk => hb.block k hk)
theorem HRows.tch {S : Nat → Prop} (H : HRows w base ok o h vf vb vq ve) (hT : Tch w w1 S) (hn : ∀ k,ok k → ¬ S k) : HRows w1 base ok o h vf vb vq ve:=H.step (fun k ho hk => hT.block hk (hn k ho))
theorem Mine.ne {g T : Nat} {cells : Array Value} {k : Nat} (h : Mine w base k) (hb : w.heap[g]? = some (.cells cells T (0,0))) (ht : T ≠ 89 ∧ T ≠ 87 ∧ T ≠ 45 ∧ T ≠ 56 ∧ T ≠ 5) : k ≠ g:=by
 rintro rfl
 obtain ⟨_,_,q,hq,cs,hc⟩:=h
 rw [hb] at hc
 injection hc with hc
 injection hc with _ hc _
 subst hc
 obtain ⟨t1,t2,t3,t4,t5⟩:=ht
 rcases hq with e | e | e | e | e
 ·exact t1 e
 ·exact t2 e
 ·exact t3 e
 ·exact t4 e
 ·exact t5 e
theorem Mine.ne_map {m n : Nat} {f : Int → Option Int} {k : Nat} (h : Mine w base k) (hm : MapAt w m f n) : k ≠ m:=by
 rintro rfl
 obtain ⟨_,_,q,hq,cs,hc⟩:=h
 obtain ⟨es,cl,hb,_⟩:=hm
 rw [hb] at hc
 cases hc
theorem HRows.newF {vf' : Value} {l : List S89} (H : HRows w base ok o h vf vb vq ve) (hm : ∀ k,ok k → o k ≠ 0 → k < w.heap.size → w1.heap[k]? = w.heap[k]?)
  (hr : (k89).R 89 w1 base (fun k => (ok k ∧ o k = 0) ∨ w.heap.size ≤ k) vf' l) : ∃ o',(∀ k,k < w.heap.size → o' k = o k) ∧ HRows w1 base (fun k => ok k ∨ w.heap.size ≤ k) o' { h with fs:=l } vf' vb vq ve:=by
 have Hb:=H.bound
 refine ⟨fun k => if k < w.heap.size then o k else 0,fun k hk => if_pos hk,Kd.R_mono hr ?_,Kd.S_mono (Kd.S_step Hb.b (fun k hk hl => hm k hk.1.1 (by omega) hl)) ?_,Kd.S_mono (Kd.S_step Hb.q (fun k hk hl => hm k hk.1.1 (by omega) hl)) ?_,Kd.S_mono (Kd.S_step Hb.e (fun k hk hl => hm k hk.1.1 (by omega) hl)) ?_⟩
 ·rintro k (hk | hk)
  ·exact ⟨.inl hk.1,by show (if k < w.heap.size then o k else 0) = 0;split;exact hk.2;rfl⟩
  ·exact ⟨.inr hk,if_neg (by omega)⟩
 all_goals exact fun k hk => ⟨.inl hk.1.1,(if_pos hk.1.2.2.1).trans hk.2⟩
theorem HRows.newB {vb' : Value} {l : List S87} (H : HRows w base ok o h vf vb vq ve) (hm : ∀ k,ok k → o k ≠ 1 → k < w.heap.size → w1.heap[k]? = w.heap[k]?)
  (hr : Kd.S k87 87 w1 base (fun k => (ok k ∧ o k = 1) ∨ w.heap.size ≤ k) vb' l) : ∃ o',(∀ k,k < w.heap.size → o' k = o k) ∧ HRows w1 base (fun k => ok k ∨ w.heap.size ≤ k) o' { h with bs:=l } vf vb' vq ve:=by
 have Hb:=H.bound
 refine ⟨fun k => if k < w.heap.size then o k else 1,fun k hk => if_pos hk,Kd.R_mono (Kd.R_step Hb.f (fun k hk hl => hm k hk.1.1 (by omega) hl)) ?_,Kd.S_mono hr ?_,Kd.S_mono (Kd.S_step Hb.q (fun k hk hl => hm k hk.1.1 (by omega) hl)) ?_,Kd.S_mono (Kd.S_step Hb.e (fun k hk hl => hm k hk.1.1 (by omega) hl)) ?_⟩
 rotate_left
 ·rintro k (hk | hk)
  ·exact ⟨.inl hk.1,by show (if k < w.heap.size then o k else 1) = 1;split;exact hk.2;rfl⟩
  ·exact ⟨.inr hk,if_neg (by omega)⟩
 all_goals exact fun k hk => ⟨.inl hk.1.1,(if_pos hk.1.2.2.1).trans hk.2⟩
theorem HRows.newQ {vq' : Value} {l : List S45} (H : HRows w base ok o h vf vb vq ve) (hm : ∀ k,ok k → o k ≠ 2 → k < w.heap.size → w1.heap[k]? = w.heap[k]?)
  (hr : Kd.S k45 45 w1 base (fun k => (ok k ∧ o k = 2) ∨ w.heap.size ≤ k) vq' l) : ∃ o',(∀ k,k < w.heap.size → o' k = o k) ∧ HRows w1 base (fun k => ok k ∨ w.heap.size ≤ k) o' { h with fr:=l } vf vb vq' ve:=by
 have Hb:=H.bound
 refine ⟨fun k => if k < w.heap.size then o k else 2,fun k hk => if_pos hk,Kd.R_mono (Kd.R_step Hb.f (fun k hk hl => hm k hk.1.1 (by omega) hl)) ?_,Kd.S_mono (Kd.S_step Hb.b (fun k hk hl => hm k hk.1.1 (by omega) hl)) ?_,Kd.S_mono hr ?_,Kd.S_mono (Kd.S_step Hb.e (fun k hk hl => hm k hk.1.1 (by omega) hl)) ?_⟩
 rotate_left 2
 ·rintro k (hk | hk)
  ·exact ⟨.inl hk.1,by show (if k < w.heap.size then o k else 2) = 2;split;exact hk.2;rfl⟩
  ·exact ⟨.inr hk,if_neg (by omega)⟩
 all_goals exact fun k hk => ⟨.inl hk.1.1,(if_pos hk.1.2.2.1).trans hk.2⟩
theorem HRows.newE {ve' : Value} {l : List S56} (H : HRows w base ok o h vf vb vq ve) (hm : ∀ k,ok k → o k ≠ 3 → k < w.heap.size → w1.heap[k]? = w.heap[k]?)
  (hr : Kd.S k56 56 w1 base (fun k => (ok k ∧ o k = 3) ∨ w.heap.size ≤ k) ve' l) : ∃ o',(∀ k,k < w.heap.size → o' k = o k) ∧ HRows w1 base (fun k => ok k ∨ w.heap.size ≤ k) o' { h with ev:=l } vf vb vq ve':=by
 have Hb:=H.bound
 refine ⟨fun k => if k < w.heap.size then o k else 3,fun k hk => if_pos hk,Kd.R_mono (Kd.R_step Hb.f (fun k hk hl => hm k hk.1.1 (by omega) hl)) ?_,Kd.S_mono (Kd.S_step Hb.b (fun k hk hl => hm k hk.1.1 (by omega) hl)) ?_,Kd.S_mono (Kd.S_step Hb.q (fun k hk hl => hm k hk.1.1 (by omega) hl)) ?_,Kd.S_mono hr ?_⟩
 rotate_left 3
 ·rintro k (hk | hk)
  ·exact ⟨.inl hk.1,by show (if k < w.heap.size then o k else 3) = 3;split;exact hk.2;rfl⟩
  ·exact ⟨.inr hk,if_neg (by omega)⟩
 all_goals exact fun k hk => ⟨.inl hk.1.1,(if_pos hk.1.2.2.1).trans hk.2⟩
theorem S_own_ok {α : Type} {d : Kd α} {e : Nat} {v : Value} {xs : List α} {k : Nat} (H : Kd.S d e w base ok v xs) (hk : v.ownBlock = some k) : ok k:=by
 obtain ⟨f,h0,_⟩:=H
 exact h0 k hk
theorem R_own_ok {α : Type} {d : Kd α} {e : Nat} {v : Value} {xs : List α} {k : Nat} (H : d.R e w base ok v xs) (hk : v.ownBlock = some k) : ok k:=H.1 k hk
end
def hostC (h : HV) (vf vb vq ve : Value) : List Value := [.int .i64 h.cb, .int .i64 h.cf, .int .i64 h.cp, .int .i64 h.ce,vf,vb,vq,ve, .int .i64 h.lost, .int .i64 h.stamp]
def HRead (w : World) (h : HV) (C : List Value) : Prop :=
 ∃ Af cf Ab cb Aq cq Ae ce,C = hostC h (.slice Af h.fs.length cf) (.slice Ab h.bs.length cb) (.slice Aq h.fr.length cq) (.slice Ae h.ev.length ce) ∧
  (k89).C w Af h.fs.length h.fs ∧ h.fs.length ≤ cf ∧ (k87).C w Ab h.bs.length h.bs ∧ h.bs.length ≤ cb ∧ (k45).C w Aq h.fr.length h.fr ∧ h.fr.length ≤ cq ∧ (k56).C w Ae h.ev.length h.ev ∧ h.ev.length ≤ ce
def HOwn (w : World) (base : Nat) (ok : Nat → Prop) (h : HV) (C : List Value) : Prop := ∃ vf vb vq ve o,C = hostC h vf vb vq ve ∧ HRows w base ok o h vf vb vq ve
theorem HRead.below {w w1 : World} {h : HV} {C : List Value} (H : HRead w h C) (hb : Below w.heap.size w w1) : HRead w1 h C:=by
 obtain ⟨Af,cf,Ab,cb,Aq,cq,Ae,ce,e,h1,h2,h3,h4,h5,h6,h7,h8⟩:=H
 exact ⟨Af,cf,Ab,cb,Aq,cq,Ae,ce,e,Kd.C_below h1 hb,h2,Kd.C_below h3 hb,h4,Kd.C_below h5 hb,h6,Kd.C_below h7 hb,h8⟩
theorem HRows.read {w : World} {base : Nat} {ok : Nat → Prop} {o : Nat → Nat} {h : HV} {vf vb vq ve : Value} (H : HRows w base ok o h vf vb vq ve) : HRead w h (hostC h vf vb vq ve):=by
 obtain ⟨Af,cf,rfl,lf,gf⟩:=Kd.R_reads H.f
 obtain ⟨Ab,cb,rfl,lb,gb⟩:=Kd.S_reads H.b
 obtain ⟨Aq,cq,rfl,lq,gq⟩:=Kd.S_reads H.q
 obtain ⟨Ae,ce,rfl,le,ge⟩:=Kd.S_reads H.e
 exact ⟨Af,cf,Ab,cb,Aq,cq,Ae,ce,rfl,gf,lf,gb,lb,gq,lq,ge,le⟩
theorem HOwn.read {w : World} {base : Nat} {ok : Nat → Prop} {h : HV} {C : List Value} (H : HOwn w base ok h C) : HRead w h C:=by
 obtain ⟨vf,vb,vq,ve,o,rfl,H⟩:=H
 exact H.read
theorem HOwn.below {w w1 : World} {base : Nat} {ok : Nat → Prop} {h : HV} {C : List Value} (H : HOwn w base ok h C) (hb : Below w.heap.size w w1) : HOwn w1 base ok h C:=by
 obtain ⟨vf,vb,vq,ve,o,e,H⟩:=H
 exact ⟨vf,vb,vq,ve,o,e,H.below hb⟩
theorem HOwn.bound {w : World} {base : Nat} {ok : Nat → Prop} {h : HV} {C : List Value} (H : HOwn w base ok h C) : HOwn w base (fun k => ok k ∧ Mine w base k) h C:=by
 obtain ⟨vf,vb,vq,ve,o,e,H⟩:=H
 exact ⟨vf,vb,vq,ve,o,e,H.bound⟩
theorem HOwn.tch {w w1 : World} {S : Nat → Prop} {base : Nat} {ok : Nat → Prop} {h : HV} {C : List Value} (H : HOwn w base ok h C) (hT : Tch w w1 S) (hn : ∀ k,ok k → ¬ S k) : HOwn w1 base ok h C:=by
 obtain ⟨vf,vb,vq,ve,o,e,H⟩:=H
 exact ⟨vf,vb,vq,ve,o,e,H.tch hT hn⟩
theorem HOwn.mono {w : World} {base : Nat} {ok ok' : Nat → Prop} {h : HV} {C : List Value} (H : HOwn w base ok h C) (hok : ∀ k,ok k → ok' k) : HOwn w base ok' h C:=by
 obtain ⟨vf,vb,vq,ve,o,e,H⟩:=H
 exact ⟨vf,vb,vq,ve,o,e,H.mono hok⟩
theorem HOwn.lower {w : World} {base base' : Nat} {ok : Nat → Prop} {h : HV} {C : List Value} (H : HOwn w base ok h C) (hb : base' ≤ base) : HOwn w base' ok h C:=by
 obtain ⟨vf,vb,vq,ve,o,e,H⟩:=H
 exact ⟨vf,vb,vq,ve,o,e,H.lower hb⟩
def sideP (x : HV) (m : Nat) (l1 l2 : Int) (vf vb vq ve : Value) : Array Value := #[.int .i64 x.cb, .int .i64 x.cf, .int .i64 x.cp, .int .i64 x.ce,vf,vb, .map (some m), .int .i64 l1,vq, .int .i64 l2,ve, .int .i64 x.lost, .int .i64 x.stamp]
structure SideP (w0 w : World) (p m : Nat) (x : HV) (l1 l2 : Int) (vf vb vq ve : Value) (f : Int → Option Int) (n : Nat) : Prop where
 bel : Below w0.heap.size w0 w
 blk : w.heap[p]? = some (.cells (sideP x m l1 l2 vf vb vq ve) 128 (0,0))
 map : MapAt w m f n
 rows : ∃ o,HRows w w0.heap.size (fun _ => True) o x vf vb vq ve
 hp : w0.heap.size ≤ p
 hm : w0.heap.size ≤ m
section
variable {w0 w we w1 w3 : World} {p m : Nat} {x : HV} {l1 l2 : Int} {vf vb vq ve : Value} {f f' : Int → Option Int} {n n' : Nat} {o : Nat → Nat}
theorem SideP.below (H : SideP w0 w p m x l1 l2 vf vb vq ve f n) (hb : Below w.heap.size w we) : SideP w0 we p m x l1 l2 vf vb vq ve f n:=by
 obtain ⟨h1,h2,h3,⟨o,h4⟩,h5,h6⟩:=H
 exact ⟨below_then h1 h1.size hb,blk_below h2 hb,h3.below hb,⟨o,h4.below hb⟩,h5,h6⟩
theorem SideP.pm (H : SideP w0 w p m x l1 l2 vf vb vq ve f n) : p ≠ m:=by
 rintro rfl
 obtain ⟨es,cl,hb,_⟩:=H.map
 rw [H.blk] at hb
 cases hb
theorem side_other {cells : Array Value} (hb : w.heap[p]? = some (.cells cells 128 (0,0))) {k : Nat} (hk : Mine w w0.heap.size k) : k ≠ p:=hk.ne hb (by decide)
theorem SideP.mapped (H : SideP w0 w p m x l1 l2 vf vb vq ve f n) (hT : Tch w we (fun k => k = m)) (hm : MapAt we m f' n') : SideP w0 we p m x l1 l2 vf vb vq ve f' n':=by
 have hpm:=H.pm
 have hmp:=H.map
 obtain ⟨h1,h2,h3,⟨o,h4⟩,h5,h6⟩:=H
 exact ⟨hT.below h1 h1.size (fun k hk => hk ▸ h6),hT.blk h2 hpm,hm,⟨o,(h4.bound.tch hT (fun k hk => hk.2.ne_map hmp)).mono (fun _ _ => trivial)⟩,h5,h6⟩
theorem SideP.put {x' : HV} {l1' l2' : Int} (H : SideP w0 w p m x l1 l2 vf vb vq ve f n) (hT : Tch w we (fun k => k = p)) (hx : we.heap[p]? = some (.cells (sideP x' m l1' l2' vf vb vq ve) 128 (0,0)))
  (hf : x'.fs = x.fs) (hb : x'.bs = x.bs) (hq : x'.fr = x.fr) (he : x'.ev = x.ev) : SideP w0 we p m x' l1' l2' vf vb vq ve f n:=by
 have hpm:=H.pm
 obtain ⟨h1,h2,h3,⟨o,h4⟩,h5,h6⟩:=H
 have h7:=(h4.bound.tch hT (fun k hk => side_other h2 hk.2)).mono (ok':=fun _ => True) (fun _ _ => trivial)
 exact ⟨hT.below h1 h1.size (fun k hk => hk ▸ h5),hx,h3.tch hT (fun e => hpm e.symm),⟨o,by rw [hf];exact h7.f,by rw [hb];exact h7.b,by rw [hq];exact h7.q,by rw [he];exact h7.e⟩,h5,h6⟩
theorem reown (H : HRows w w0.heap.size (fun _ => True) o x vf vb vq ve) (i : Nat) : HRows w w0.heap.size (fun _ => True) (fun k => if k < w.heap.size then o k else i) x vf vb vq ve:=H.reown (fun k hk => if_pos hk)
theorem S_lt_own {α : Type} {d : Kd α} {e base : Nat} {ok : Nat → Prop} {v : Value} {xs : List α} (h : Kd.S d e w base ok v xs) : Kd.S d e w base (fun k => ok k ∧ k < w.heap.size) v xs:=Kd.S_mono (Kd.S_bound h) (fun _ hk => ⟨hk.1,hk.2.2.1⟩)
theorem keep_of {v : Value} (hT : Tch we w3 (fun k => k = p ∨ some k = v.ownBlock)) (H : HRows we w0.heap.size (fun _ => True) o x vf vb vq ve) {cells : Array Value} (hb : we.heap[p]? = some (.cells cells 128 (0,0))) {i : Nat} (hv : ∀ k,v.ownBlock = some k → o k = i) :
  ∀ k,(True ∧ Mine we w0.heap.size k) → o k ≠ i → k < we.heap.size → w3.heap[k]? = we.heap[k]?:=by
 intro k hk hn hl
 refine hT.block hl ?_
 rintro (e | e)
 ·exact side_other hb hk.2 e
 ·exact hn (hv k e.symm)
theorem SideP.newB {vb' : Value} {l : List S87} {x' : HV} (H : SideP w0 w p m x l1 l2 vf vb vq ve f n) (HR : HRows w w0.heap.size (fun _ => True) o x vf vb vq ve) (hb : Below w.heap.size w we)
  (hT : Tch we w3 (fun k => k = p ∨ some k = vb.ownBlock)) (hx : w3.heap[p]? = some (.cells (sideP x' m l1 l2 vf vb' vq ve) 128 (0,0))) (he : x' = { x with bs:=l })
  (hS : Kd.S k87 87 w3 w0.heap.size (fun k => (o k = 1 ∧ k < w.heap.size) ∨ w.heap.size ≤ k) vb' l) : SideP w0 w3 p m x' l1 l2 vf vb' vq ve f n:=by
 subst he
 have hpm:=H.pm
 have HR1:=(reown HR 1).below hb
 have H':=H.below hb
 have hown : ∀ k,vb.ownBlock = some k → k < w.heap.size ∧ o k = 1:=fun k hk => ⟨Kd.S_lt HR.b k hk,(S_own_ok HR.b hk).2⟩
 have hw : ∀ k,(k = p ∨ some k = vb.ownBlock) → w0.heap.size ≤ k:=by
  rintro k (e | e)
  ·rw [e];exact H.hp
  ·exact Kd.S_base HR.b k e.symm
 have hnm : ¬ (m = p ∨ some m = vb.ownBlock):=by
  rintro (e | e)
  ·exact hpm e.symm
  ·obtain ⟨cs,hc⟩:=Kd.S_typed HR.b m e.symm
   obtain ⟨es,cl,hb,_⟩:=H.map
   rw [hb] at hc
   cases hc
 obtain ⟨o',ho',HR2⟩:=HRows.newB (w1:=w3) (vb':=vb') (l:=l) HR1.bound (keep_of hT HR1 H'.blk (i:=1) (fun k hk => by show (if k < w.heap.size then o k else 1) = 1;rw [if_pos (hown k hk).1];exact (hown k hk).2))
  (Kd.S_mono (Kd.S_bound hS) (fun k hk => by
   by_cases c : k < we.heap.size
   ·left
    have hne : k ≠ p ∨ k = p:=by omega
    refine ⟨⟨trivial, ?_⟩, ?_⟩
    ·obtain ⟨h1,h2,h3,q,hq,cs,hc⟩:=hk
     have hq : q ∈ [87,5]:=hq
     by_cases e : k = p ∨ some k = vb.ownBlock
     ·rcases e with e | e
      ·subst e
       rw [hx] at hc
       injection hc with hc
       injection hc with _ hc _
       subst hc
       simp at hq
      ·obtain ⟨cs',hc'⟩:=Kd.S_typed HR1.b k e.symm
       exact ⟨h2,c,_, .inr (.inl rfl),cs',hc'⟩
     ·refine ⟨h2,c,q, ?_,cs,by rw [← hT.block c e];exact hc⟩
      rcases List.mem_cons.1 hq with e1 | e1
      ·exact .inr (.inl e1)
      ·exact .inr (.inr (.inr (.inr (List.mem_singleton.1 e1))))
    ·show (if k < w.heap.size then o k else 1) = 1
     rcases hk.1 with h | h
     ·rw [if_pos h.2];exact h.1
     ·rw [if_neg (by omega)]
   ·exact .inr (by omega)))
 exact ⟨hT.below (below_then H.bel H.bel.size hb) (Nat.le_trans H.bel.size hb.size) hw,hx,(H.map.below hb).tch hT hnm,⟨o',HR2.mono (fun _ _ => trivial)⟩,H.hp,H.hm⟩
theorem SideP.newQ {vq' : Value} {l : List S45} {x' : HV} (H : SideP w0 w p m x l1 l2 vf vb vq ve f n) (HR : HRows w w0.heap.size (fun _ => True) o x vf vb vq ve) (hb : Below w.heap.size w we)
  (hT : Tch we w3 (fun k => k = p ∨ some k = vq.ownBlock)) (hx : w3.heap[p]? = some (.cells (sideP x' m l1 l2 vf vb vq' ve) 128 (0,0))) (he : x' = { x with fr:=l })
  (hS : Kd.S k45 45 w3 w0.heap.size (fun k => (o k = 2 ∧ k < w.heap.size) ∨ w.heap.size ≤ k) vq' l) : SideP w0 w3 p m x' l1 l2 vf vb vq' ve f n:=by
 subst he
 have hpm:=H.pm
 have HR1:=(reown HR 2).below hb
 have H':=H.below hb
 have hown : ∀ k,vq.ownBlock = some k → k < w.heap.size ∧ o k = 2:=fun k hk => ⟨Kd.S_lt HR.q k hk,(S_own_ok HR.q hk).2⟩
 have hw : ∀ k,(k = p ∨ some k = vq.ownBlock) → w0.heap.size ≤ k:=by
  rintro k (e | e)
  ·rw [e];exact H.hp
  ·exact Kd.S_base HR.q k e.symm
 have hnm : ¬ (m = p ∨ some m = vq.ownBlock):=by
  rintro (e | e)
  ·exact hpm e.symm
  ·obtain ⟨cs,hc⟩:=Kd.S_typed HR.q m e.symm
   obtain ⟨es,cl,hb,_⟩:=H.map
   rw [hb] at hc
   cases hc
 obtain ⟨o',ho',HR2⟩:=HRows.newQ (w1:=w3) (vq':=vq') (l:=l) HR1.bound (keep_of hT HR1 H'.blk (i:=2) (fun k hk => by show (if k < w.heap.size then o k else 2) = 2;rw [if_pos (hown k hk).1];exact (hown k hk).2))
  (Kd.S_mono (Kd.S_bound hS) (fun k hk => by
   by_cases c : k < we.heap.size
   ·left
    have hne : k ≠ p ∨ k = p:=by omega
    refine ⟨⟨trivial, ?_⟩, ?_⟩
    ·obtain ⟨h1,h2,h3,q,hq,cs,hc⟩:=hk
     have hq : q ∈ [45,5]:=hq
     by_cases e : k = p ∨ some k = vq.ownBlock
     ·rcases e with e | e
      ·subst e
       rw [hx] at hc
       injection hc with hc
       injection hc with _ hc _
       subst hc
       simp at hq
      ·obtain ⟨cs',hc'⟩:=Kd.S_typed HR1.q k e.symm
       exact ⟨h2,c,_, .inr (.inr (.inl rfl)),cs',hc'⟩
     ·refine ⟨h2,c,q, ?_,cs,by rw [← hT.block c e];exact hc⟩
      rcases List.mem_cons.1 hq with e1 | e1
      ·exact .inr (.inr (.inl e1))
      ·exact .inr (.inr (.inr (.inr (List.mem_singleton.1 e1))))
    ·show (if k < w.heap.size then o k else 2) = 2
     rcases hk.1 with h | h
     ·rw [if_pos h.2];exact h.1
     ·rw [if_neg (by omega)]
   ·exact .inr (by omega)))
 exact ⟨hT.below (below_then H.bel H.bel.size hb) (Nat.le_trans H.bel.size hb.size) hw,hx,(H.map.below hb).tch hT hnm,⟨o',HR2.mono (fun _ _ => trivial)⟩,H.hp,H.hm⟩
theorem SideP.newE {ve' : Value} {l : List S56} {x' : HV} (H : SideP w0 w p m x l1 l2 vf vb vq ve f n) (HR : HRows w w0.heap.size (fun _ => True) o x vf vb vq ve) (hb : Below w.heap.size w we)
  (hT : Tch we w3 (fun k => k = p ∨ some k = ve.ownBlock)) (hx : w3.heap[p]? = some (.cells (sideP x' m l1 l2 vf vb vq ve') 128 (0,0))) (he : x' = { x with ev:=l })
  (hS : Kd.S k56 56 w3 w0.heap.size (fun k => (o k = 3 ∧ k < w.heap.size) ∨ w.heap.size ≤ k) ve' l) : SideP w0 w3 p m x' l1 l2 vf vb vq ve' f n:=by
 subst he
 have hpm:=H.pm
 have HR1:=(reown HR 3).below hb
 have H':=H.below hb
 have hown : ∀ k,ve.ownBlock = some k → k < w.heap.size ∧ o k = 3:=fun k hk => ⟨Kd.S_lt HR.e k hk,(S_own_ok HR.e hk).2⟩
 have hw : ∀ k,(k = p ∨ some k = ve.ownBlock) → w0.heap.size ≤ k:=by
  rintro k (e | e)
  ·rw [e];exact H.hp
  ·exact Kd.S_base HR.e k e.symm
 have hnm : ¬ (m = p ∨ some m = ve.ownBlock):=by
  rintro (e | e)
  ·exact hpm e.symm
  ·obtain ⟨cs,hc⟩:=Kd.S_typed HR.e m e.symm
   obtain ⟨es,cl,hb,_⟩:=H.map
   rw [hb] at hc
   cases hc
 obtain ⟨o',ho',HR2⟩:=HRows.newE (w1:=w3) (ve':=ve') (l:=l) HR1.bound (keep_of hT HR1 H'.blk (i:=3) (fun k hk => by show (if k < w.heap.size then o k else 3) = 3;rw [if_pos (hown k hk).1];exact (hown k hk).2))
  (Kd.S_mono (Kd.S_bound hS) (fun k hk => by
   by_cases c : k < we.heap.size
   ·left
    have hne : k ≠ p ∨ k = p:=by omega
    refine ⟨⟨trivial, ?_⟩, ?_⟩
    ·obtain ⟨h1,h2,h3,q,hq,cs,hc⟩:=hk
     have hq : q ∈ [56,5]:=hq
     by_cases e : k = p ∨ some k = ve.ownBlock
     ·rcases e with e | e
      ·subst e
       rw [hx] at hc
       injection hc with hc
       injection hc with _ hc _
       subst hc
       simp at hq
      ·obtain ⟨cs',hc'⟩:=Kd.S_typed HR1.e k e.symm
       exact ⟨h2,c,_, .inr (.inr (.inr (.inl rfl))),cs',hc'⟩
     ·refine ⟨h2,c,q, ?_,cs,by rw [← hT.block c e];exact hc⟩
      rcases List.mem_cons.1 hq with e1 | e1
      ·exact .inr (.inr (.inr (.inl e1)))
      ·exact .inr (.inr (.inr (.inr (List.mem_singleton.1 e1))))
    ·show (if k < w.heap.size then o k else 3) = 3
     rcases hk.1 with h | h
     ·rw [if_pos h.2];exact h.1
     ·rw [if_neg (by omega)]
   ·exact .inr (by omega)))
 exact ⟨hT.below (below_then H.bel H.bel.size hb) (Nat.le_trans H.bel.size hb.size) hw,hx,(H.map.below hb).tch hT hnm,⟨o',HR2.mono (fun _ _ => trivial)⟩,H.hp,H.hm⟩
theorem SideP.newF {vf' : Value} {l : List S89} {x' : HV} (H : SideP w0 w p m x l1 l2 vf vb vq ve f n) (hb : Below w.heap.size w we) (hT : Tch we w3 (fun k => k = p))
  (hx : w3.heap[p]? = some (.cells (sideP x' m l1 l2 vf' vb vq ve) 128 (0,0))) (he : x' = { x with fs:=l }) (hR : (k89).R 89 we w0.heap.size (fun k => w.heap.size ≤ k) vf' l) : SideP w0 w3 p m x' l1 l2 vf' vb vq ve f n:=by
 subst he
 have hpm:=H.pm
 have hpl:=blk_lt H.blk
 have H':=H.below hb
 obtain ⟨o,HR⟩:=H.rows
 have hR3:=Kd.R_step (w1:=w3) hR (fun k hk hl => hT.block hl (by omega))
 obtain ⟨o',ho',HR2⟩:=HRows.newF (w1:=w3) (vf':=vf') (l:=l) HR.bound (fun k hk hn hl => by rw [hT.block (Nat.lt_of_lt_of_le hl hb.size) (side_other H.blk hk.2),hb.block k hl]) (Kd.R_mono hR3 (fun k hk => .inr hk))
 exact ⟨hT.below H'.bel H'.bel.size (fun k hk => hk ▸ H.hp),hx,H'.map.tch hT (fun e => hpm e.symm),⟨o',HR2.mono (fun _ _ => trivial)⟩,H.hp,H.hm⟩
theorem below_grown {row : Option Nat} (hg : w.grownBy we row) (hn : ∀ k,row = some k → w.heap.size ≤ k) : Below w.heap.size w we :=
 ⟨hg.os,hg.tape,hg.output,hg.size,fun k hk => hg.block k hk (fun e => by have:=hn k e.symm;omega)⟩
end
end Go.Proofs.Ytcaefabbcjlkdaa.P
namespace Go.Proofs.Ytcaefabbcjlkdaa.P
open Go.RowKit Go.Proofs.YtcaefabbcjlkdaaW.PrintWords Go.Proofs.YtcaefabbcjlkdaaW.PrintLast Go.Proofs.YtcaefabbcjlkdaaW.PrintMore
set_option linter.unusedVariables false
set_option linter.unusedSimpArgs false
def laws_markByteS.l0 : Nat → List Int → Int → Int → Option (Int × List Int)
 | 0,_,_,_ => none
 | k + 1,x0,x1,x5 => if x5 < (x0.length : Int) then (if 0 ≤ x5 then (laws_markByteS.l0 k (x0.set (x5 : Int).toNat ((x1) % 256)) (wrap64 (x1 + 1)) (wrap64 (x5 + 1))) else (none)) else (some (x1,x0))
def laws_markByteS.f (k : Nat) (l0 : List Int) (a1 : Int) : Option (Int × List Int):=laws_markByteS.l0 k l0 a1 0
set_option maxHeartbeats 8000000 in
set_option maxRecDepth 100000 in
theorem laws_markByteS.calls (k : Nat) (P0_ : Nat → Prop) (u9000_ : Value) (l0 : List Int) (a1 : Int) (r1 : Int) (r2 : List Int) (w0 w : World) (hB : Below w0.heap.size w0 w) (ho0 : Kd.R (Kd.int .u8) 5 w w0.heap.size P0_ u9000_ l0) (h : laws_markByteS.f k l0 a1 = some (r1,r2)) :
  Calls Try.prog 99 #[u9000_, .int .i64 a1] w fun e w' => e = .returned (.int .i64 r1) ∧ Kd.R (Kd.int .u8) 5 w' w0.heap.size (fun k_ => (P0_ k_ ∨ w.heap.size ≤ k_)) u9000_ r2 ∧ Below w0.heap.size w0 w' ∧ Kept w w' (fun k_ => P0_ k_):=by
 have HO0:=Aside0.mk (show Kd.R (Kd.int .u8) 5 w w0.heap.size (fun k_ => (P0_ k_ ∨ w.heap.size ≤ k_)) u9000_ l0 from Kd.R_mono ho0 (fun k_ hk => (.inl hk)))
 have HK:=Aside0.mk (Kept.refl w (fun k_ => P0_ k_))
 have HW0:=Aside0.mk hB.size
 have HB:=Aside0.mk hB
 clear hB
 have H : (laws_markByteS.l0 k l0 a1 0) = some (r1,r2):=h
 clear h
 have H':=Aside0.mk H
 clear H
 go_enter Try.func99,Try.ntmps99
 go_wp2
 go_loopg [1,5] k (fun kq v1 v5 w' => ∃ (x0_1 : List Int) (x1_1 : Int) (x5_1 : Int),v1 = .int .i64 x1_1 ∧ v5 = .int .i64 x5_1 ∧ Aside0 (laws_markByteS.l0 kq x0_1 x1_1 x5_1 = some (r1,r2)) ∧ Aside0 (kq ≤ k) ∧ Aside0 (Kd.R (Kd.int .u8) 5 w' w0.heap.size (fun k_ => (P0_ k_ ∨ w.heap.size ≤ k_)) u9000_ x0_1) ∧ Aside0 (Kept w w' (fun k_ => P0_ k_)) ∧ Aside0 (Below w0.heap.size w0 w'))
 case atStart => exact ⟨(l0),(a1),(0),(by first | rfl | (simp;done) | (simp [*];done)),(by first | rfl | (simp;done) | (simp [*];done)),H',⟨Nat.le_refl _⟩,⟨by (with_reducible repeat (first | apply Kd.R_alloc | apply Kd.R_drewN | apply Kd.R_drew));exact HO0.out⟩,⟨by repeat (first | (with_reducible first | exact HK.out | apply Kept.alloc | apply Kept.drewN | apply Kept.drew) | exact HK.out)⟩,⟨by repeat (first | (with_reducible first | exact HB.out | apply below_alloc | apply pw_below_drewN | apply below_drew1) | exact HB.out)⟩⟩
 case round =>
  clear H'
  try clear p2
  obtain ⟨x0_1,x1_1,x5_1,rfl,rfl,HA,HK1,HO_0,HK,HB⟩:=hrel
  cases gk with
  | zero => exact absurd HA.out (by simp [laws_markByteS.l0])
  | succ k1 =>
   have H:=HA.out
   clear HA
   simp only [laws_markByteS.l0] at H
   by_cases c3 : x5_1 < (x0_1.length : Int)
   ·rw [if_pos c3] at H
    have c3b0 : decide (x5_1 < (x0_1.length : Int)) = true:=decide_eq_true c3
    clear c3
    by_cases c4 : 0 ≤ x5_1
    ·rw [if_pos c4] at H
     have c4b0 : decide (0 ≤ x5_1) = true:=decide_eq_true c4
     clear c4
     obtain ⟨y784,hy784⟩ : ∃ y_ : List Int,y_ = (x0_1.set (x5_1 : Int).toNat ((x1_1) % 256)):=⟨_,rfl⟩
     replace H : (laws_markByteS.l0 k1 y784 (wrap64 (x1_1 + 1)) (wrap64 (x5_1 + 1))) = some (r1,r2):=by first | (rw [hy784];with_reducible exact H) | (have H2_:=(Option.bind_some _ _).symm.trans H;rw [hy784];with_reducible exact H2_) | (have H2_:=(Option.bind_some _ _).symm.trans H;with_reducible exact H2_) | with_reducible exact H | (rw [hy784];exact H) | exact H
     have Ny784:=Aside0.mk hy784
     clear hy784
     have H':=Aside0.mk H
     clear H
     obtain ⟨Ao6,co6,eo6⟩:=Kd.R_slice HO_0.out
     subst eo6
     have p5 : 0 ≤ (x5_1 : Int):=of_decide_eq_true (by first | (with_reducible assumption) | assumption)
     have q5 : (x5_1 : Int) < ((x0_1.length : Int) : Int):=of_decide_eq_true (by first | (with_reducible assumption) | assumption)
     obtain ⟨go5,co5,eo5,gb5,gl5,cl5,HG5⟩:=Kd.R_form HO_0.out (by omega)
     (first | cases eo5 | (injection eo5 with ea_ en_ ec_;(first | subst ea_ | (injection ea_ with ea_;subst ea_));subst ec_;clear en_))
     have GB5:=Aside0.mk gb5
     have GG5:=Aside0.mk HG5
     clear gb5 gl5 HG5
     have HMgo5:=Aside0.mk (show (P0_ go5 ∨ w.heap.size ≤ go5) from (HO_0.out.1 _ rfl))
     obtain ⟨hx5_0,hf5_0⟩:=Kd.R_celln 0 HO_0.out (x5_1 : Int) p5 q5
     replace p5:=eq_true p5
     replace q5:=eq_true q5
     have HP7:=Kd.R_putg HO_0.out (x5_1 : Int) ((x1_1) % 256)
     go_wp2_with (first | ((with_reducible refine gate_store (t:=5) (p:=16) rfl ?_);refine store_event (t:=5) (p:=16) (v := ?vo_w8) (w1:=(wr.setCell ⟨go5,(x5_1 : Int).toNat,none⟩ (.int .u8 ((x1_1) % 256)))) ?hg ?ho ?hn ?hr ?_;(case ho => rfl);(case hg => rfl);(case hn => rfl);(case hr => first | (go_simp;done) | (go_simp;rfl));intro w8 hw;have hg : wr.grownBy w8 (some go5):=(by rw [hw];exact HP7.2);have hp_ : Kd.R (Kd.int .u8) 5 w8 w0.heap.size (fun k_ => (P0_ k_ ∨ w.heap.size ≤ k_)) (.slice (some ⟨go5,0,none⟩) x0_1.length co6) y784:=(by rw [hw,Ny784.out];exact HP7.1);clear HP7;have n0_:=Aside0.mk (hp_);have n1_:=Aside0.mk ((by rw [hw];exact below_set (HB.out) GB5.out : Below w0.heap.size w0 w8));have n2_:=Aside0.mk (Kept.of_grown (S:=(fun k_ => P0_ k_)) hg (by repeat (first | (with_reducible first | exact HK.out | apply Kept.alloc | apply Kept.drewN | apply Kept.drew) | exact HK.out)) (fun k_ e_ => (HO_0.out.1 k_ e_)));clear HO_0;clear HB;clear HK;have HO_0:=n0_;have HB:=n1_;have HK:=n2_;clear n0_ n1_ n2_;clear hg hw hp_))
     go_roundg k1
     case measure => have:=HK1.out;omega
     case rel => exact ⟨(y784),(wrap64 (x1_1 + 1)),(wrap64 (x5_1 + 1)),(by first | rfl | (simp;done) | (simp [*];done)),(by first | rfl | (simp;done) | (simp [*];done)),H',⟨by have:=HK1.out;omega⟩,⟨by (with_reducible repeat (first | apply Kd.R_alloc | apply Kd.R_drewN | apply Kd.R_drew));exact HO_0.out⟩,⟨by repeat (first | (with_reducible first | exact HK.out | apply Kept.alloc | apply Kept.drewN | apply Kept.drew) | exact HK.out)⟩,⟨by repeat (first | (with_reducible first | exact HB.out | apply below_alloc | apply pw_below_drewN | apply below_drew1) | exact HB.out)⟩⟩
    ·rw [if_neg c4] at H
     exact absurd H (by simp)
   ·rw [if_neg c3] at H
    have c3b0 : decide (x5_1 < (x0_1.length : Int)) = false:=decide_eq_false c3
    clear c3
    simp only [Option.some.injEq,Prod.mk.injEq] at H
    obtain ⟨rfl,rfl⟩:=H
    obtain ⟨Ao9,co9,eo9⟩:=Kd.R_slice HO_0.out
    subst eo9
    go_wp2
    go_ret
    exact ⟨by first | rfl | (simp [errW_none,errW_some] <;> rfl) | (simp [*,errW_none,errW_some] <;> rfl),by (with_reducible repeat (first | apply Kd.R_alloc | apply Kd.R_drewN | apply Kd.R_drew));exact HO_0.out,by repeat (first | (with_reducible first | exact HB.out | apply below_alloc | apply pw_below_drewN | apply below_drew1) | exact HB.out),by repeat (first | (with_reducible first | exact HK.out | apply Kept.alloc | apply Kept.drewN | apply Kept.drew) | exact HK.out)⟩
def laws_heldByteS.l0 : Nat → List Int → Int → Int → Option (Int)
 | 0,_,_,_ => none
 | k + 1,x0,x1,x5 => if x5 < (x0.length : Int) then (if 0 ≤ x5 then (if (rd x0 x5) = ((x1) % 256) then (laws_heldByteS.l0 k x0 (wrap64 (x1 + 1)) (wrap64 (x5 + 1))) else (some (-1))) else (none)) else (some x1)
def laws_heldByteS.f (k : Nat) (l0 : List Int) (a1 : Int) : Option (Int):=laws_heldByteS.l0 k l0 a1 0
set_option maxHeartbeats 8000000 in
set_option maxRecDepth 100000 in
theorem laws_heldByteS.calls (k : Nat) (A0 : Option Addr) (c0 : Nat) (l0 : List Int) (a1 : Int) (r : Int) (w : World) (hr0 : Kd.C (Kd.int .u8) w A0 l0.length l0) (hc0 : l0.length ≤ c0) (h : laws_heldByteS.f k l0 a1 = some r) :
  Calls Try.prog 100 #[.slice A0 l0.length c0, .int .i64 a1] w fun e w' => e = .returned (.int .i64 r) ∧ Drawn0 w w':=by
 have HR0:=Aside0.mk hr0
 have HC0:=Aside0.mk hc0
 clear hr0 hc0
 have H : (laws_heldByteS.l0 k l0 a1 0) = some r:=h
 clear h
 have H':=Aside0.mk H
 clear H
 go_enter Try.func100,Try.ntmps100
 go_wp2
 go_loopg [1,5] k (fun kq v1 v5 w' => ∃ (x1_1 : Int) (x5_1 : Int),v1 = .int .i64 x1_1 ∧ v5 = .int .i64 x5_1 ∧ Aside0 (laws_heldByteS.l0 kq l0 x1_1 x5_1 = some r) ∧ Aside0 (kq ≤ k) ∧ Drawn0 w w')
 case atStart => exact ⟨(a1),(0),(by first | rfl | (simp;done) | (simp [*];done)),(by first | rfl | (simp;done) | (simp [*];done)),H',⟨Nat.le_refl _⟩,by repeat (first | exact Drawn0.refl _ | apply Drawn0.step)⟩
 case round =>
  clear H'
  try clear c1
  try clear p2
  obtain ⟨x1_1,x5_1,rfl,rfl,HA,HK1,⟨m1,rfl⟩⟩:=hrel
  cases gk with
  | zero => exact absurd HA.out (by simp [laws_heldByteS.l0])
  | succ k1 =>
   have H:=HA.out
   clear HA
   simp only [laws_heldByteS.l0] at H
   by_cases c3 : x5_1 < (l0.length : Int)
   ·rw [if_pos c3] at H
    have c3b0 : decide (x5_1 < (l0.length : Int)) = true:=decide_eq_true c3
    clear c3
    by_cases c4 : 0 ≤ x5_1
    ·rw [if_pos c4] at H
     have c4b0 : decide (0 ≤ x5_1) = true:=decide_eq_true c4
     clear c4
     by_cases c5 : (rd l0 x5_1) = ((x1_1) % 256)
     ·rw [if_pos c5] at H
      have c5b0 : ((rd l0 x5_1) == ((x1_1) % 256)) = true:=beq_iff_eq.mpr c5
      have c5b1 : ((rd l0 x5_1) != ((x1_1) % 256)) = false:=bne_eq_false_iff_eq.mpr c5
      clear c5
      have H':=Aside0.mk H
      clear H
      have p788 : 0 ≤ (x5_1 : Int):=of_decide_eq_true (by first | (with_reducible assumption) | assumption)
      have q788 : x5_1 < (l0.length : Int):=of_decide_eq_true (by first | (with_reducible assumption) | assumption)
      obtain ⟨ad788,e788,hx788_0⟩:=Kd.at_int HR0.out x5_1 p788 q788
      cases e788
      replace p788:=eq_true p788
      replace q788:=eq_true q788
      go_wp2
      go_roundg k1
      case measure => have:=HK1.out;omega
      case rel => exact ⟨(wrap64 (x1_1 + 1)),(wrap64 (x5_1 + 1)),(by first | rfl | (simp;done) | (simp [*];done)),(by first | rfl | (simp;done) | (simp [*];done)),H',⟨by have:=HK1.out;omega⟩,by repeat (first | exact Drawn0.refl _ | apply Drawn0.step)⟩
     ·rw [if_neg c5] at H
      have c5b0 : ((rd l0 x5_1) == ((x1_1) % 256)) = false:=beq_eq_false_iff_ne.mpr c5
      have c5b1 : ((rd l0 x5_1) != ((x1_1) % 256)) = true:=bne_iff_ne.mpr c5
      obtain rfl:=Option.some.inj H
      have p788 : 0 ≤ (x5_1 : Int):=of_decide_eq_true (by first | (with_reducible assumption) | assumption)
      have q788 : x5_1 < (l0.length : Int):=of_decide_eq_true (by first | (with_reducible assumption) | assumption)
      obtain ⟨ad788,e788,hx788_0⟩:=Kd.at_int HR0.out x5_1 p788 q788
      cases e788
      replace p788:=eq_true p788
      replace q788:=eq_true q788
      go_wp2
      go_ret
      exact ⟨by first | rfl | (simp;done) | (simp [*];done),by repeat (first | exact Drawn0.refl _ | apply Drawn0.step)⟩
    ·rw [if_neg c4] at H
     exact absurd H (by simp)
   ·rw [if_neg c3] at H
    have c3b0 : decide (x5_1 < (l0.length : Int)) = false:=decide_eq_false c3
    clear c3
    obtain rfl:=Option.some.inj H
    go_wp2
    go_ret
    exact ⟨by first | rfl | (simp;done) | (simp [*];done),by repeat (first | exact Drawn0.refl _ | apply Drawn0.step)⟩
end Go.Proofs.Ytcaefabbcjlkdaa.P
namespace Go.Proofs.Ytcaefabbcjlkdaa.P
open Go Go.RowKit Go.Proofs.YtcaefabbcjlkdaaW.PrintWords
set_option linter.unusedVariables false
def marks (a : Int) : Nat → List Int
 | 0 => []
 | n + 1 => a % 256 :: marks (a + 1) n
theorem marks_length (n : Nat) : ∀ a,(marks a n).length = n:=by
 induction n with
 | zero => intro a;rfl
 | succ n ih => intro a;rw [marks,List.length_cons,ih]
theorem marks_get (n : Nat) : ∀ (a : Int) (i : Nat),i < n → (marks a n)[i]? = some ((a + i) % 256):=by
 induction n with
 | zero => intro a i h;omega
 | succ n ih =>
  intro a i h
  cases i with
  | zero => simp [marks]
  | succ i =>
   rw [marks,List.getElem?_cons_succ,ih (a + 1) i (by omega)]
   congr 2;push_cast;omega
theorem markByteS_ev (l : List Int) (hl : l.length ≤ 10000000) (a : Int) (h0 : 0 ≤ a) (h1 : a ≤ 100000000) : Ev (fun m => laws_markByteS.f m l a) (a + (l.length : Int),marks a l.length):=by
 have loop : ∀ (d i : Nat) (x : List Int),i + d = l.length → x.length = l.length → (∀ t,t < i → x[t]? = (marks a l.length)[t]?) → Ev (fun m => laws_markByteS.l0 m x (a + (i : Int)) (i : Int)) (a + (l.length : Int),marks a l.length):=by
  intro d
  induction d with
  | zero =>
   intro i x hi hx hs
   have e : x = marks a l.length:=by
    apply List.ext_getElem?
    intro t
    by_cases c : t < l.length
    ·exact hs t (by omega)
    ·rw [List.getElem?_eq_none (by omega),List.getElem?_eq_none (by rw [marks_length];omega)]
   refine Ev.step (f:=fun _ => some (a + (l.length : Int),marks a l.length)) (fun m => ?_) (Ev.now _)
   simp only [laws_markByteS.l0]
   rw [if_neg (by omega),show i = l.length by omega,e]
  | succ d ih =>
   intro i x hi hx hs
   refine Ev.step (f:=fun m => laws_markByteS.l0 m (x.set i ((a + (i : Int)) % 256)) (a + ((i + 1 : Nat) : Int)) ((i + 1 : Nat) : Int)) (fun m => ?_) (ih (i + 1) _ (by omega) (by rw [List.length_set];exact hx) (fun t ht => ?_))
   ·simp only [laws_markByteS.l0]
    rw [if_pos (by omega),if_pos (by omega),w64 (x:=a + (i : Int) + 1) (by omega) (by omega),w64 (x:=(i : Int) + 1) (by omega) (by omega),Int.toNat_natCast,show a + (i : Int) + 1 = a + ((i + 1 : Nat) : Int) by omega]
    rfl
   ·rw [List.getElem?_set]
    by_cases e : i = t
    ·subst e;rw [if_pos rfl,if_pos (by omega),marks_get _ _ _ (by omega)]
    ·rw [if_neg e];exact hs t (by omega)
 refine Ev.congr (fun m => by unfold laws_markByteS.f;rfl) (by have:=loop l.length 0 l (by omega) rfl (fun t ht => by omega);simpa using this)
theorem heldByteS_ev (n : Nat) (hn : n ≤ 10000000) (a : Int) (h0 : 0 ≤ a) (h1 : a ≤ 100000000) : Ev (fun m => laws_heldByteS.f m (marks a n) a) (a + (n : Int)):=by
 have loop : ∀ (d i : Nat),i + d = n → Ev (fun m => laws_heldByteS.l0 m (marks a n) (a + (i : Int)) (i : Int)) (a + (n : Int)):=by
  intro d
  induction d with
  | zero =>
   intro i hi
   refine Ev.step (f:=fun _ => some (a + (n : Int))) (fun m => ?_) (Ev.now _)
   simp only [laws_heldByteS.l0]
   rw [if_neg (by rw [marks_length];omega),show i = n by omega]
  | succ d ih =>
   intro i hi
   have hr : rd (marks a n) (i : Int) = (a + (i : Int)) % 256:=by
    have h1:=rd_get (marks a n) i (by rw [marks_length];omega)
    rw [marks_get _ _ _ (by omega)] at h1
    exact (Option.some.inj h1).symm
   refine Ev.step (f:=fun m => laws_heldByteS.l0 m (marks a n) (a + ((i + 1 : Nat) : Int)) ((i + 1 : Nat) : Int)) (fun m => ?_) (ih (i + 1) (by omega))
   simp only [laws_heldByteS.l0]
   rw [if_pos (by rw [marks_length];omega),if_pos (by omega),if_pos hr,w64 (x:=a + (i : Int) + 1) (by omega) (by omega),w64 (x:=(i : Int) + 1) (by omega) (by omega),show a + (i : Int) + 1 = a + ((i + 1 : Nat) : Int) by omega]
   rfl
 refine Ev.congr (fun m => by unfold laws_heldByteS.f;rfl) (by have:=loop n 0 (by omega);simpa using this)
theorem S_put {P : Program} {ops : Array Oper} {rest : List Oper} {o : Oper} {a : Act} {Q : Exit → Act → World → Prop} {α : Type} (d : Kd α) {w0 W : World} (base : Nat) (hN : o.dst = none) (hgd : o.guard = none) {t : TypeId} {p x : Operand} (ho : o.op = .store t p x) {e g n cap off i j : Nat} {xs : List α} {z x' : α} {u : Value} {ok : Nat → Prop}
  (haddr : a.eval p = .pointer (some ⟨g,off,none⟩)) (hoff : off = i * d.sz + j) (hx : a.eval x = u) (hu : u.cells.toList = [u]) (ht : (P.info? t).map (·.size) = some 1) (hone : u.oneCell' = true)
  (HS : Kd.S d e W base ok (.slice (some ⟨g,0,none⟩) n cap) xs) (hi : i < n) (hj : j < d.sz)
  (hM : ∀ (oki : Nat → Prop) (c : List Value),d.M W base oki (xs.getD i z) c → d.M W base oki x' (c.take j ++ [u] ++ c.drop (j + 1))) (HB : Below base w0 W)
  (h : ∀ w1,Kd.S d e w1 base ok (.slice (some ⟨g,0,none⟩) n cap) (xs.set i x') → Below base w0 w1 → W.grownBy w1 (some g) → wpList P ops Q rest a w1) : wpList P ops Q (o :: rest) a W:=by
 obtain ⟨oki,c,hcl,hM0,hcc,hfr,hoki,hH⟩:=Kd.S_elem HS z (i : Int) (by omega) (by omega)
 exact Kd.H_store d base hN hgd t p x ho e (i : Int) j xs x' u [u] c ok oki oki haddr (by rw [Int.toNat_natCast];exact hoff) hx hu ht (by simp [hone]) hH (by omega) (by omega) (by simp;omega) (hM oki c (by rw [Int.toNat_natCast] at hM0;exact hM0)) (fun _ h => h) HB (fun w1 hS hb hg => h w1 (by rw [Int.toNat_natCast] at hS;exact hS) hb hg)
theorem markByteS_v (w0 w : World) (P0 : Nat → Prop) (v : Value) (l : List Int) (a : Int) (hB : Below w0.heap.size w0 w) (hr : (Kd.int .u8).R 5 w w0.heap.size P0 v l) (hl : l.length ≤ 10000000) (h0 : 0 ≤ a) (h1 : a ≤ 100000000) :
  Calls Try.prog 99 #[v, .int .i64 a] w fun e w' => e = .returned (.int .i64 (a + l.length)) ∧ (Kd.int .u8).R 5 w' w0.heap.size P0 v (marks a l.length) ∧ Below w0.heap.size w0 w' ∧ w.grownBy w' v.ownBlock:=by
 obtain ⟨k,hk⟩:=(markByteS_ev l hl a h0 h1).rounds
 refine (laws_markByteS.calls k (fun k => some k = v.ownBlock) v l a _ _ w0 w hB (Kd.R_tight rfl hr) hk).mono ?_
 rintro e w' ⟨rfl,h2,h3,h4⟩
 refine ⟨rfl,Kd.R_mono (Kd.R_tight rfl h2) (fun k hk => R_own_ok hr hk.symm),h3,h3.os.trans hB.os.symm,h3.tape.trans hB.tape.symm,h3.output.trans hB.output.symm,h4.1,fun k hk hn => h4.2 k hk hn⟩
structure Mk {α : Type} (l xs : List α) (i : Nat) (ys : List α) : Prop where
 len : ys.length = xs.length
 ll : l.length = xs.length
 done : ∀ j,j < i → ys[j]? = l[j]?
 left : ∀ j,i ≤ j → ys[j]? = xs[j]?
theorem Mk.start {α : Type} {l xs : List α} (h : l.length = xs.length) : Mk l xs 0 xs:=⟨rfl,h,fun j hj => absurd hj (Nat.not_lt_zero j),fun _ _ => rfl⟩
theorem Mk.all {α : Type} {l xs ys : List α} {i : Nat} (h : Mk l xs i ys) (hi : xs.length ≤ i) : ys = l:=by
 apply List.ext_getElem?
 intro j
 by_cases c : j < i
 ·exact h.done j c
 ·rw [List.getElem?_eq_none (by have:=h.len;omega),List.getElem?_eq_none (by have:=h.ll;omega)]
theorem Mk.next {α : Type} {l xs ys : List α} {i : Nat} (h : Mk l xs i ys) {v : α} (hi : i < xs.length) (hv : l[i]? = some v) : Mk l xs (i + 1) (ys.set i v):=by
 refine ⟨by rw [List.length_set];exact h.len,h.ll,fun j hj => ?_,fun j hj => ?_⟩
 ·rw [List.getElem?_set]
  by_cases e : i = j
  ·subst e;rw [if_pos rfl,if_pos (by have:=h.len;omega),hv]
  ·rw [if_neg e];exact h.done j (by omega)
 ·rw [List.getElem?_set,if_neg (by omega)];exact h.left j (by omega)
theorem Mk.at {α : Type} {l xs ys : List α} {i : Nat} (h : Mk l xs i ys) (z : α) : ys.getD i z = xs.getD i z:=by
 rw [List.getD_eq_getElem?_getD,List.getD_eq_getElem?_getD,h.left i (Nat.le_refl i)]
theorem getD_set {α : Type} (l : List α) (i : Nat) (v z : α) (h : i < l.length) : (l.set i v).getD i z = v:=by
 rw [List.getD_eq_getElem?_getD,List.getElem?_set,if_pos rfl,if_pos h];rfl
def tm (k : Int) : Bool:=Int.tmod k 3 == 0
end Go.Proofs.Ytcaefabbcjlkdaa.P
namespace Go.Proofs.Ytcaefabbcjlkdaa.P
open Go.RowKit Go.Proofs.YtcaefabbcjlkdaaW.PrintWords Go.Proofs.YtcaefabbcjlkdaaW.PrintLast Go.Proofs.YtcaefabbcjlkdaaW.PrintMore
set_option linter.unusedVariables false
set_option linter.unusedSimpArgs false
def laws_heldBoxS.l0 : Nat → List (S87) → Int → Int → Option (Int)
 | 0,_,_,_ => none
 | k + 1,x0,x1,x5 => if x5 < (x0.length : Int) then (if 0 ≤ x5 then (if ((rd_T87 x0 x5).f0) = x1 then (if ((rd_T87 x0 x5).f1) = (wrap64 (x1 + 1)) then (if ((rd_T87 x0 x5).f2) = (wrap64 ((wrap64 (x1 + 1)) + 1)) then (if (((rd_T87 x0 x5).f3.f0) != ((Int.tmod (wrap64 ((wrap64 ((wrap64 (x1 + 1)) + 1)) + 1)) 3) == 0)) = true then (some (-1)) else (if ((rd_T87 x0 x5).f3.f1) = ((wrap64 ((wrap64 ((wrap64 ((wrap64 (x1 + 1)) + 1)) + 1)) + 1)) % 4294967296) then (if (((rd_T87 x0 x5).f3.f2) != ((Int.tmod (wrap64 ((wrap64 ((wrap64 ((wrap64 ((wrap64 (x1 + 1)) + 1)) + 1)) + 1)) + 1)) 3) == 0)) = true then (some (-1)) else (if ((rd_T87 x0 x5).f3.f3) = (wrap64 ((wrap64 ((wrap64 ((wrap64 ((wrap64 ((wrap64 (x1 + 1)) + 1)) + 1)) + 1)) + 1)) + 1)) then ((laws_heldByteS.f k ((rd_T87 x0 x5).f3.f4) (wrap64 ((wrap64 ((wrap64 ((wrap64 ((wrap64 ((wrap64 ((wrap64 (x1 + 1)) + 1)) + 1)) + 1)) + 1)) + 1)) + 1))).bind fun t809 => (if t809 < 0 then (some (-1)) else (laws_heldBoxS.l0 k x0 t809 (wrap64 (x5 + 1))))) else (some (-1)))) else (some (-1)))) else (some (-1))) else (some (-1))) else (some (-1))) else (none)) else (some x1)
end Go.Proofs.Ytcaefabbcjlkdaa.P
namespace Go.Proofs.Ytcaefabbcjlkdaa.P
open Go Go.RowKit Go.Proofs.YtcaefabbcjlkdaaW.PrintWords Go.Proofs.YtcaefabbcjlkdaaW.PrintLast Go.Proofs.YtcaefabbcjlkdaaW.PrintMore
set_option linter.unusedVariables false
set_option linter.unusedSimpArgs false
def mkBox (k : Int) (x : S87) : S87:=⟨k,k + 1,k + 2,⟨tm (k + 3),(k + 4) % 4294967296,tm (k + 5),k + 6,marks (k + 7) x.f3.f4.length⟩⟩
def offBox (xs : List S87) : Nat → Int
 | 0 => 0
 | i + 1 => offBox xs i + 7 + ((xs.getD i z87).f3.f4.length : Int)
def markBoxs (q : Int) (xs : List S87) : List S87:=(List.range xs.length).map (fun i => mkBox (q + offBox xs i) (xs.getD i z87))
theorem markBoxs_len (q : Int) (xs : List S87) : (markBoxs q xs).length = xs.length:=by simp [markBoxs]
theorem markBoxs_get (q : Int) (xs : List S87) (i : Nat) (hi : i < xs.length) : (markBoxs q xs)[i]? = some (mkBox (q + offBox xs i) (xs.getD i z87)):=by
 simp [markBoxs,List.getElem?_range,hi]
theorem offBox_nn (xs : List S87) : ∀ i,0 ≤ offBox xs i:=by
 intro i
 induction i with
 | zero => exact Int.le_refl _
 | succ i ih => rw [offBox];omega
theorem offBox_mono (xs : List S87) (i d : Nat) : offBox xs i ≤ offBox xs (i + d):=by
 induction d with
 | zero => exact Int.le_refl _
 | succ d ih => rw [← Nat.add_assoc,offBox];omega
theorem offBox_le (xs : List S87) {i n : Nat} (h : i ≤ n) : offBox xs i ≤ offBox xs n:=by
 have:=offBox_mono xs i (n - i)
 rwa [Nat.add_sub_cancel' h] at this
set_option maxRecDepth 100000 in
set_option maxHeartbeats 8000000 in
theorem markBoxs_v (w0 w : World) (ok : Nat → Prop) (v : Value) (xs : List S87) (q : Int) (hB : Below w0.heap.size w0 w) (HS : Kd.S k87 87 w w0.heap.size ok v xs) (hq : 0 ≤ q) (hb : q + offBox xs xs.length ≤ 50000000) (hl : xs.length ≤ 10000000) (hd : ∀ x ∈ xs,x.f3.f4.length ≤ 10000000) :
  Calls Try.prog 69 #[v, .int .i64 q] w fun e w' => e = .returned (.int .i64 (q + offBox xs xs.length)) ∧ Kd.S k87 87 w' w0.heap.size ok v (markBoxs q xs) ∧ Below w0.heap.size w0 w' ∧ Tch w w' ok:=by
 have HSV:=Lib.hid HS
 have HB:=Lib.hid hB
 have HQ:=Lib.hid hq
 have HBD:=Lib.hid hb
 have HL:=Lib.hid hl
 have HD:=Lib.hid hd
 clear hB hq hb hl hd HS
 obtain ⟨A,cap,rfl⟩:=Kd.S_slice HSV.out
 go_enter Try.func69,Try.ntmps69
 go_upto_region 2 with (fail)
 go_loopw [1,5] (fun v1 v5 wr => ∃ (i : Nat) (k : Int) (ys : List S87),i ≤ xs.length ∧ v5 = .int .i64 i ∧ v1 = .int .i64 k ∧ Aside0 (k = q + offBox xs i) ∧ Aside0 (Mk (markBoxs q xs) xs i ys) ∧ Aside0 (Kd.S k87 87 wr w0.heap.size ok (.slice A xs.length cap) ys) ∧ Aside0 (Below w0.heap.size w0 wr) ∧ Aside0 (Tch w wr ok)) (fun _ v5 _ => xs.length - (intOf v5).toNat)
 case atStart => exact ⟨0,q,xs,Nat.zero_le _,rfl,rfl,⟨by simp [offBox]⟩,⟨Mk.start (markBoxs_len q xs)⟩,⟨HSV.out⟩,⟨HB.out⟩,⟨Tch.refl _ _⟩⟩
 case round =>
  obtain ⟨i,k,ys,hi,rfl,rfl,HKK,HMK,HSR,HBR,HTR⟩:=hrel
  by_cases hlt : i < xs.length
  ·have b2 : decide ((i : Int) < (xs.length : Int)) = true:=decide_eq_true (by omega)
   have p5 : (0 ≤ (i : Int)) = True:=eq_true (by omega)
   have q5 : ((i : Int) < (xs.length : Int)) = True:=eq_true (by omega)
   have qn : (i < xs.length) = True:=eq_true hlt
   have hn : wrap64 ((i : Int) + 1) = (i : Int) + 1:=by have:=HL.out;unfold wrap64;omega
   have HLT:=Lib.hid hlt
   have HI:=Lib.hid hi
   have HN:=Lib.hid hn
   obtain ⟨g,cp,e,_⟩:=Kd.S_form HSR.out (by have h1:=HMK.out.len;omega)
   injection e with e1 e2 e3
   subst e1
   clear e2 e3
   clear hlt hi
   obtain ⟨y,hy⟩ : ∃ y,y = xs.getD i z87:=⟨_,rfl⟩
   have HY : Hid (ys.getD i z87 = y):=Lib.hid (by rw [hy];exact HMK.out.at _)
   have HYX:=Lib.hid hy
   have HYL : Hid (y.f3.f4.length ≤ 10000000):=Lib.hid (by rw [hy];refine HD.out _ (List.mem_of_getElem? (i:=i) ?_);rw [List.getD_eq_getElem?_getD,List.getElem?_eq_getElem HLT.out];rfl)
   have HQB : Hid (0 ≤ k ∧ k + 7 + (y.f3.f4.length : Int) ≤ 50000000 ∧ offBox xs (i + 1) = offBox xs i + 7 + (y.f3.f4.length : Int)):=Lib.hid (by
    have h1:=HKK.out;have h2:=HBD.out;have h3:=HQ.out;have h4:=offBox_nn xs i
    have h5:=offBox_le xs (i:=i + 1) (n:=xs.length) HLT.out
    have h6 : offBox xs (i + 1) = offBox xs i + 7 + (y.f3.f4.length : Int):=by rw [offBox,hy]
    exact ⟨by omega,by omega,h6⟩)
   clear hy
   have HK1 : Hid ((wrap64 (k + 1)) = k + 1):=Lib.hid (by have h1:=HQB.out;unfold wrap64;omega)
   have HK2 : Hid ((wrap64 ((wrap64 (k + 1)) + 1)) = k + 2):=Lib.hid (by rw [HK1.out];have h1:=HQB.out;unfold wrap64;omega)
   have HK3 : Hid ((wrap64 ((wrap64 ((wrap64 (k + 1)) + 1)) + 1)) = k + 3):=Lib.hid (by rw [HK2.out];have h1:=HQB.out;unfold wrap64;omega)
   have HK4 : Hid ((wrap64 ((wrap64 ((wrap64 ((wrap64 (k + 1)) + 1)) + 1)) + 1)) = k + 4):=Lib.hid (by rw [HK3.out];have h1:=HQB.out;unfold wrap64;omega)
   have HK5 : Hid ((wrap64 ((wrap64 ((wrap64 ((wrap64 ((wrap64 (k + 1)) + 1)) + 1)) + 1)) + 1)) = k + 5):=Lib.hid (by rw [HK4.out];have h1:=HQB.out;unfold wrap64;omega)
   have HK6 : Hid ((wrap64 ((wrap64 ((wrap64 ((wrap64 ((wrap64 ((wrap64 (k + 1)) + 1)) + 1)) + 1)) + 1)) + 1)) = k + 6):=Lib.hid (by rw [HK5.out];have h1:=HQB.out;unfold wrap64;omega)
   have HK7 : Hid ((wrap64 ((wrap64 ((wrap64 ((wrap64 ((wrap64 ((wrap64 ((wrap64 (k + 1)) + 1)) + 1)) + 1)) + 1)) + 1)) + 1)) = k + 7):=Lib.hid (by rw [HK6.out];have h1:=HQB.out;unfold wrap64;omega)
   have HS0:=HSR
   have HB0:=HBR
   have HT0:=HTR
   go_upto_region 18 with (first | ((with_reducible refine gate_store (t:=3) (p:=16) rfl ?_);refine S_put k87 (w0:=w0) w0.heap.size rfl rfl rfl (e:=87) (i:=i) (j:=0) (xs:=ys) (z:=z87) (x':=({ y with f0:=k } : S87)) (u := .int .i64 k) rfl (by rfl) rfl rfl (by kernel_rfl) rfl HS0.out HLT.out (by decide) (by rw [HY.out];intro oki c hc;obtain ⟨v7,rfl,g7⟩:=k87_openM hc;exact k87_mkM _ _ _ ({ y with f0:=k } : S87) g7) HB0.out ?_;intro w1 hs hb hg;have HS1:=Lib.hid hs;have HB1:=Lib.hid hb;have HT1:=Lib.hid (HT0.out.grown hg (fun k e => by injection e with e;rw [← e];exact .inl (S_own_ok HSV.out rfl)));clear hs hb hg) | ((with_reducible refine gate_store (t:=3) (p:=23) rfl ?_);refine S_put k87 (w0:=w0) w0.heap.size rfl rfl rfl (e:=87) (i:=i) (j:=1) (xs:=(ys.set i ({ y with f0:=k } : S87))) (z:=z87) (x':=({ y with f0:=k,f1:=(wrap64 (k + 1)) } : S87)) (u := .int .i64 (wrap64 (k + 1))) rfl (by rfl) rfl rfl (by kernel_rfl) rfl HS1.out HLT.out (by decide) (by rw [getD_set ys i _ _ (by rw [HMK.out.len];exact HLT.out)];intro oki c hc;obtain ⟨v7,rfl,g7⟩:=k87_openM hc;exact k87_mkM _ _ _ ({ y with f0:=k,f1:=(wrap64 (k + 1)) } : S87) g7) HB1.out ?_;intro w2 hs hb hg;rw [List.set_set] at hs;have HS2:=Lib.hid hs;have HB2:=Lib.hid hb;have HT2:=Lib.hid (HT1.out.grown hg (fun k e => by injection e with e;rw [← e];exact .inl (S_own_ok HSV.out rfl)));clear hs hb hg) | ((with_reducible refine gate_store (t:=3) (p:=30) rfl ?_);refine S_put k87 (w0:=w0) w0.heap.size rfl rfl rfl (e:=87) (i:=i) (j:=2) (xs:=(ys.set i ({ y with f0:=k,f1:=(wrap64 (k + 1)) } : S87))) (z:=z87) (x':=({ y with f0:=k,f1:=(wrap64 (k + 1)),f2:=(wrap64 ((wrap64 (k + 1)) + 1)) } : S87)) (u := .int .i64 (wrap64 ((wrap64 (k + 1)) + 1))) rfl (by rfl) rfl rfl (by kernel_rfl) rfl HS2.out HLT.out (by decide) (by rw [getD_set ys i _ _ (by rw [HMK.out.len];exact HLT.out)];intro oki c hc;obtain ⟨v7,rfl,g7⟩:=k87_openM hc;exact k87_mkM _ _ _ ({ y with f0:=k,f1:=(wrap64 (k + 1)),f2:=(wrap64 ((wrap64 (k + 1)) + 1)) } : S87) g7) HB2.out ?_;intro w3 hs hb hg;rw [List.set_set] at hs;have HS3:=Lib.hid hs;have HB3:=Lib.hid hb;have HT3:=Lib.hid (HT2.out.grown hg (fun k e => by injection e with e;rw [← e];exact .inl (S_own_ok HSV.out rfl)));clear hs hb hg) | ((with_reducible refine gate_store (t:=4) (p:=40) rfl ?_);refine S_put k87 (w0:=w0) w0.heap.size rfl rfl rfl (e:=87) (i:=i) (j:=3) (xs:=(ys.set i ({ y with f0:=k,f1:=(wrap64 (k + 1)),f2:=(wrap64 ((wrap64 (k + 1)) + 1)) } : S87))) (z:=z87) (x':=({ y with f0:=k,f1:=(wrap64 (k + 1)),f2:=(wrap64 ((wrap64 (k + 1)) + 1)),f3 := { y.f3 with f0:=Int.tmod (wrap64 ((wrap64 ((wrap64 (k + 1)) + 1)) + 1)) 3 == 0 } } : S87)) (u := .bool (Int.tmod (wrap64 ((wrap64 ((wrap64 (k + 1)) + 1)) + 1)) 3 == 0)) rfl (by rfl) rfl rfl (by kernel_rfl) rfl HS3.out HLT.out (by decide) (by rw [getD_set ys i _ _ (by rw [HMK.out.len];exact HLT.out)];intro oki c hc;obtain ⟨v7,rfl,g7⟩:=k87_openM hc;exact k87_mkM _ _ _ ({ y with f0:=k,f1:=(wrap64 (k + 1)),f2:=(wrap64 ((wrap64 (k + 1)) + 1)),f3 := { y.f3 with f0:=Int.tmod (wrap64 ((wrap64 ((wrap64 (k + 1)) + 1)) + 1)) 3 == 0 } } : S87) g7) HB3.out ?_;intro w4 hs hb hg;rw [List.set_set] at hs;have HS4:=Lib.hid hs;have HB4:=Lib.hid hb;have HT4:=Lib.hid (HT3.out.grown hg (fun k e => by injection e with e;rw [← e];exact .inl (S_own_ok HSV.out rfl)));clear hs hb hg) | ((with_reducible refine gate_store (t:=43) (p:=49) rfl ?_);refine S_put k87 (w0:=w0) w0.heap.size rfl rfl rfl (e:=87) (i:=i) (j:=4) (xs:=(ys.set i ({ y with f0:=k,f1:=(wrap64 (k + 1)),f2:=(wrap64 ((wrap64 (k + 1)) + 1)),f3 := { y.f3 with f0:=Int.tmod (wrap64 ((wrap64 ((wrap64 (k + 1)) + 1)) + 1)) 3 == 0 } } : S87))) (z:=z87) (x':=({ y with f0:=k,f1:=(wrap64 (k + 1)),f2:=(wrap64 ((wrap64 (k + 1)) + 1)),f3 := { y.f3 with f0:=Int.tmod (wrap64 ((wrap64 ((wrap64 (k + 1)) + 1)) + 1)) 3 == 0,f1:=(wrap64 ((wrap64 ((wrap64 ((wrap64 (k + 1)) + 1)) + 1)) + 1)) % 4294967296 } } : S87)) (u := .int .u32 ((wrap64 ((wrap64 ((wrap64 ((wrap64 (k + 1)) + 1)) + 1)) + 1)) % 4294967296)) rfl (by rfl) rfl rfl (by kernel_rfl) rfl HS4.out HLT.out (by decide) (by rw [getD_set ys i _ _ (by rw [HMK.out.len];exact HLT.out)];intro oki c hc;obtain ⟨v7,rfl,g7⟩:=k87_openM hc;exact k87_mkM _ _ _ ({ y with f0:=k,f1:=(wrap64 (k + 1)),f2:=(wrap64 ((wrap64 (k + 1)) + 1)),f3 := { y.f3 with f0:=Int.tmod (wrap64 ((wrap64 ((wrap64 (k + 1)) + 1)) + 1)) 3 == 0,f1:=(wrap64 ((wrap64 ((wrap64 ((wrap64 (k + 1)) + 1)) + 1)) + 1)) % 4294967296 } } : S87) g7) HB4.out ?_;intro w5 hs hb hg;rw [List.set_set] at hs;have HS5:=Lib.hid hs;have HB5:=Lib.hid hb;have HT5:=Lib.hid (HT4.out.grown hg (fun k e => by injection e with e;rw [← e];exact .inl (S_own_ok HSV.out rfl)));clear hs hb hg) | ((with_reducible refine gate_store (t:=4) (p:=59) rfl ?_);refine S_put k87 (w0:=w0) w0.heap.size rfl rfl rfl (e:=87) (i:=i) (j:=5) (xs:=(ys.set i ({ y with f0:=k,f1:=(wrap64 (k + 1)),f2:=(wrap64 ((wrap64 (k + 1)) + 1)),f3 := { y.f3 with f0:=Int.tmod (wrap64 ((wrap64 ((wrap64 (k + 1)) + 1)) + 1)) 3 == 0,f1:=(wrap64 ((wrap64 ((wrap64 ((wrap64 (k + 1)) + 1)) + 1)) + 1)) % 4294967296 } } : S87))) (z:=z87) (x':=({ y with f0:=k,f1:=(wrap64 (k + 1)),f2:=(wrap64 ((wrap64 (k + 1)) + 1)),f3 := { y.f3 with f0:=Int.tmod (wrap64 ((wrap64 ((wrap64 (k + 1)) + 1)) + 1)) 3 == 0,f1:=(wrap64 ((wrap64 ((wrap64 ((wrap64 (k + 1)) + 1)) + 1)) + 1)) % 4294967296,f2:=Int.tmod (wrap64 ((wrap64 ((wrap64 ((wrap64 ((wrap64 (k + 1)) + 1)) + 1)) + 1)) + 1)) 3 == 0 } } : S87)) (u := .bool (Int.tmod (wrap64 ((wrap64 ((wrap64 ((wrap64 ((wrap64 (k + 1)) + 1)) + 1)) + 1)) + 1)) 3 == 0)) rfl (by rfl) rfl rfl (by kernel_rfl) rfl HS5.out HLT.out (by decide) (by rw [getD_set ys i _ _ (by rw [HMK.out.len];exact HLT.out)];intro oki c hc;obtain ⟨v7,rfl,g7⟩:=k87_openM hc;exact k87_mkM _ _ _ ({ y with f0:=k,f1:=(wrap64 (k + 1)),f2:=(wrap64 ((wrap64 (k + 1)) + 1)),f3 := { y.f3 with f0:=Int.tmod (wrap64 ((wrap64 ((wrap64 (k + 1)) + 1)) + 1)) 3 == 0,f1:=(wrap64 ((wrap64 ((wrap64 ((wrap64 (k + 1)) + 1)) + 1)) + 1)) % 4294967296,f2:=Int.tmod (wrap64 ((wrap64 ((wrap64 ((wrap64 ((wrap64 (k + 1)) + 1)) + 1)) + 1)) + 1)) 3 == 0 } } : S87) g7) HB5.out ?_;intro w6 hs hb hg;rw [List.set_set] at hs;have HS6:=Lib.hid hs;have HB6:=Lib.hid hb;have HT6:=Lib.hid (HT5.out.grown hg (fun k e => by injection e with e;rw [← e];exact .inl (S_own_ok HSV.out rfl)));clear hs hb hg) | ((with_reducible refine gate_store (t:=3) (p:=67) rfl ?_);refine S_put k87 (w0:=w0) w0.heap.size rfl rfl rfl (e:=87) (i:=i) (j:=6) (xs:=(ys.set i ({ y with f0:=k,f1:=(wrap64 (k + 1)),f2:=(wrap64 ((wrap64 (k + 1)) + 1)),f3 := { y.f3 with f0:=Int.tmod (wrap64 ((wrap64 ((wrap64 (k + 1)) + 1)) + 1)) 3 == 0,f1:=(wrap64 ((wrap64 ((wrap64 ((wrap64 (k + 1)) + 1)) + 1)) + 1)) % 4294967296,f2:=Int.tmod (wrap64 ((wrap64 ((wrap64 ((wrap64 ((wrap64 (k + 1)) + 1)) + 1)) + 1)) + 1)) 3 == 0 } } : S87))) (z:=z87) (x':=({ y with f0:=k,f1:=(wrap64 (k + 1)),f2:=(wrap64 ((wrap64 (k + 1)) + 1)),f3 := { y.f3 with f0:=Int.tmod (wrap64 ((wrap64 ((wrap64 (k + 1)) + 1)) + 1)) 3 == 0,f1:=(wrap64 ((wrap64 ((wrap64 ((wrap64 (k + 1)) + 1)) + 1)) + 1)) % 4294967296,f2:=Int.tmod (wrap64 ((wrap64 ((wrap64 ((wrap64 ((wrap64 (k + 1)) + 1)) + 1)) + 1)) + 1)) 3 == 0,f3:=(wrap64 ((wrap64 ((wrap64 ((wrap64 ((wrap64 ((wrap64 (k + 1)) + 1)) + 1)) + 1)) + 1)) + 1)) } } : S87)) (u := .int .i64 (wrap64 ((wrap64 ((wrap64 ((wrap64 ((wrap64 ((wrap64 (k + 1)) + 1)) + 1)) + 1)) + 1)) + 1))) rfl (by rfl) rfl rfl (by kernel_rfl) rfl HS6.out HLT.out (by decide) (by rw [getD_set ys i _ _ (by rw [HMK.out.len];exact HLT.out)];intro oki c hc;obtain ⟨v7,rfl,g7⟩:=k87_openM hc;exact k87_mkM _ _ _ ({ y with f0:=k,f1:=(wrap64 (k + 1)),f2:=(wrap64 ((wrap64 (k + 1)) + 1)),f3 := { y.f3 with f0:=Int.tmod (wrap64 ((wrap64 ((wrap64 (k + 1)) + 1)) + 1)) 3 == 0,f1:=(wrap64 ((wrap64 ((wrap64 ((wrap64 (k + 1)) + 1)) + 1)) + 1)) % 4294967296,f2:=Int.tmod (wrap64 ((wrap64 ((wrap64 ((wrap64 ((wrap64 (k + 1)) + 1)) + 1)) + 1)) + 1)) 3 == 0,f3:=(wrap64 ((wrap64 ((wrap64 ((wrap64 ((wrap64 ((wrap64 (k + 1)) + 1)) + 1)) + 1)) + 1)) + 1)) } } : S87) g7) HB6.out ?_;intro w7 hs hb hg;rw [List.set_set] at hs;have HS7:=Lib.hid hs;have HB7:=Lib.hid hb;have HT7:=Lib.hid (HT6.out.grown hg (fun k e => by injection e with e;rw [← e];exact .inl (S_own_ok HSV.out rfl)));clear hs hb hg))
   obtain ⟨oki,cc,hcl,hM,hcc,hoki,hback⟩:=Kd.S_borrow HS7.out z87 (i : Int) (by omega) (by have:=HLT.out;omega)
   rw [Int.toNat_natCast,getD_set ys i _ _ (by rw [HMK.out.len];exact HLT.out)] at hM
   obtain ⟨vd,rfl,gd⟩:=k87_openM hM
   have hcd:=hcc 7 _ rfl
   rw [Int.toNat_natCast,add_plain] at hcd
   have hc7 : w7.cell? ⟨g,i * 8 + 3 + 4,none⟩ = some vd:=hcd
   have GD:=Lib.hid gd
   go_wp2_with (first | (go_at_call 99;refine (markByteS_v w0 w7 oki vd y.f3.f4 (wrap64 ((wrap64 ((wrap64 ((wrap64 ((wrap64 ((wrap64 ((wrap64 (k + 1)) + 1)) + 1)) + 1)) + 1)) + 1)) + 1)) HB7.out GD.out HYL.out (by have h1:=HQB.out;have h2:=HK7.out;omega) (by have h1:=HQB.out;have h2:=HK7.out;omega)).mono ?_;rintro e w9 ⟨rfl,hr9,hb9,hg9⟩;have HS9:=Lib.hid (hback hg9 (fun k hk => R_own_ok GD.out hk) (k87_mkM _ _ _ ({ y with f0:=k,f1:=(wrap64 (k + 1)),f2:=(wrap64 ((wrap64 (k + 1)) + 1)),f3 := { y.f3 with f0:=Int.tmod (wrap64 ((wrap64 ((wrap64 (k + 1)) + 1)) + 1)) 3 == 0,f1:=(wrap64 ((wrap64 ((wrap64 ((wrap64 (k + 1)) + 1)) + 1)) + 1)) % 4294967296,f2:=Int.tmod (wrap64 ((wrap64 ((wrap64 ((wrap64 ((wrap64 (k + 1)) + 1)) + 1)) + 1)) + 1)) 3 == 0,f3:=(wrap64 ((wrap64 ((wrap64 ((wrap64 ((wrap64 ((wrap64 (k + 1)) + 1)) + 1)) + 1)) + 1)) + 1)),f4:=marks (wrap64 ((wrap64 ((wrap64 ((wrap64 ((wrap64 ((wrap64 ((wrap64 (k + 1)) + 1)) + 1)) + 1)) + 1)) + 1)) + 1)) y.f3.f4.length } } : S87) hr9));have HB9:=Lib.hid hb9;have HT9 : Hid (Tch w w9 ok):=Lib.hid (HT7.out.grown hg9 (fun k e => .inl (hoki k (R_own_ok GD.out e)).1));clear hr9 hb9 hg9))
   clear hcd hc7 hcc hM hcl hoki hback
   go_roundw
   case rel => exact ⟨i + 1,_,_,HLT.out,by rw [HN.out];rfl,rfl,⟨by have h1:=HQB.out;have h2:=HK7.out;have h3:=HKK.out;rw [h1.2.2];omega⟩,⟨by refine HMK.out.next HLT.out (v:=({ y with f0:=k,f1:=(wrap64 (k + 1)),f2:=(wrap64 ((wrap64 (k + 1)) + 1)),f3 := { y.f3 with f0:=Int.tmod (wrap64 ((wrap64 ((wrap64 (k + 1)) + 1)) + 1)) 3 == 0,f1:=(wrap64 ((wrap64 ((wrap64 ((wrap64 (k + 1)) + 1)) + 1)) + 1)) % 4294967296,f2:=Int.tmod (wrap64 ((wrap64 ((wrap64 ((wrap64 ((wrap64 (k + 1)) + 1)) + 1)) + 1)) + 1)) 3 == 0,f3:=(wrap64 ((wrap64 ((wrap64 ((wrap64 ((wrap64 ((wrap64 (k + 1)) + 1)) + 1)) + 1)) + 1)) + 1)),f4:=marks (wrap64 ((wrap64 ((wrap64 ((wrap64 ((wrap64 ((wrap64 ((wrap64 (k + 1)) + 1)) + 1)) + 1)) + 1)) + 1)) + 1)) y.f3.f4.length } } : S87)) ?_;rw [markBoxs_get _ _ _ HLT.out, ← HYX.out, ← HKK.out];simp only [mkBox,tm];rw [HK7.out,HK6.out,HK5.out,HK4.out,HK3.out,HK2.out,HK1.out]⟩,⟨by have h:=HS9.out;rw [Int.toNat_natCast,List.set_set] at h;exact h⟩,⟨HB9.out⟩,⟨HT9.out⟩⟩
   case measure => rw [HN.out];have:=HLT.out;simp [intOf];omega
  ·have hii : i = xs.length:=by omega
   have b2 : decide ((i : Int) < (xs.length : Int)) = false:=decide_eq_false (by omega)
   have qn : (i < xs.length) = False:=eq_false hlt
   have HE : Hid (ys = markBoxs q xs):=Lib.hid (HMK.out.all (by omega))
   have HKE : Hid (k = q + offBox xs xs.length):=Lib.hid (by rw [HKK.out,hii])
   clear hlt hi hii
   go_wp2_with (fail)
   go_ret
   exact ⟨by rw [HKE.out];rfl,by rw [← HE.out];exact HSR.out,HBR.out,HTR.out⟩
end Go.Proofs.Ytcaefabbcjlkdaa.P
namespace Go.Proofs.Ytcaefabbcjlkdaa.P
open Go.RowKit Go.Proofs.YtcaefabbcjlkdaaW.PrintWords Go.Proofs.YtcaefabbcjlkdaaW.PrintLast Go.Proofs.YtcaefabbcjlkdaaW.PrintMore
set_option linter.unusedVariables false
set_option linter.unusedSimpArgs false
def laws_heldFrameS.l0 : Nat → List (S45) → Int → Int → Option (Int)
 | 0,_,_,_ => none
 | k + 1,x0,x1,x5 => if x5 < (x0.length : Int) then (if 0 ≤ x5 then (if (((rd_T45 x0 x5).f0) != ((Int.tmod x1 3) == 0)) = true then (some (-1)) else (if ((rd_T45 x0 x5).f1) = ((wrap64 (x1 + 1)) % 4294967296) then (if (((rd_T45 x0 x5).f2) != ((Int.tmod (wrap64 ((wrap64 (x1 + 1)) + 1)) 3) == 0)) = true then (some (-1)) else (if ((rd_T45 x0 x5).f3) = (wrap64 ((wrap64 ((wrap64 (x1 + 1)) + 1)) + 1)) then ((laws_heldByteS.f k ((rd_T45 x0 x5).f4) (wrap64 ((wrap64 ((wrap64 ((wrap64 (x1 + 1)) + 1)) + 1)) + 1))).bind fun t815 => (if t815 < 0 then (some (-1)) else (laws_heldFrameS.l0 k x0 t815 (wrap64 (x5 + 1))))) else (some (-1)))) else (some (-1)))) else (none)) else (some x1)
def laws_heldFrameS.f (k : Nat) (l0 : List (S45)) (a1 : Int) : Option (Int):=laws_heldFrameS.l0 k l0 a1 0
set_option maxHeartbeats 8000000 in
set_option maxRecDepth 100000 in
theorem laws_heldFrameS.calls (k : Nat) (A0 : Option Addr) (c0 : Nat) (l0 : List (S45)) (a1 : Int) (r : Int) (w : World) (hr0 : Kd.C k45 w A0 l0.length l0) (hc0 : l0.length ≤ c0) (h : laws_heldFrameS.f k l0 a1 = some r) :
  Calls Try.prog 73 #[.slice A0 l0.length c0, .int .i64 a1] w fun e w' => e = .returned (.int .i64 r) ∧ Drawn0 w w':=by
 have HR0:=Aside0.mk hr0
 have HC0:=Aside0.mk hc0
 clear hr0 hc0
 have H : (laws_heldFrameS.l0 k l0 a1 0) = some r:=h
 clear h
 have H':=Aside0.mk H
 clear H
 go_enter Try.func73,Try.ntmps73
 go_wp2
 go_loopg [1,5] k (fun kq v1 v5 w' => ∃ (x1_1 : Int) (x5_1 : Int),v1 = .int .i64 x1_1 ∧ v5 = .int .i64 x5_1 ∧ Aside0 (laws_heldFrameS.l0 kq l0 x1_1 x5_1 = some r) ∧ Aside0 (kq ≤ k) ∧ Drawn0 w w')
 case atStart => exact ⟨(a1),(0),(by first | rfl | (simp;done) | (simp [*];done)),(by first | rfl | (simp;done) | (simp [*];done)),H',⟨Nat.le_refl _⟩,by repeat (first | exact Drawn0.refl _ | apply Drawn0.step)⟩
 case round =>
  clear H'
  try clear p2
  obtain ⟨x1_1,x5_1,rfl,rfl,HA,HK1,⟨m1,rfl⟩⟩:=hrel
  cases gk with
  | zero => exact absurd HA.out (by simp [laws_heldFrameS.l0])
  | succ k1 =>
   have H:=HA.out
   clear HA
   simp only [laws_heldFrameS.l0] at H
   by_cases c3 : x5_1 < (l0.length : Int)
   ·rw [if_pos c3] at H
    have c3b0 : decide (x5_1 < (l0.length : Int)) = true:=decide_eq_true c3
    clear c3
    by_cases c4 : 0 ≤ x5_1
    ·rw [if_pos c4] at H
     have c4b0 : decide (0 ≤ x5_1) = true:=decide_eq_true c4
     clear c4
     by_cases c5 : (((rd_T45 l0 x5_1).f0) != ((Int.tmod x1_1 3) == 0)) = true
     ·rw [if_pos c5] at H
      have c5b0 : (((rd_T45 l0 x5_1).f0) != ((Int.tmod x1_1 3) == 0)) = true:=c5
      (try (have c5b1 : decide (((rd_T45 l0 x5_1).f0) = ((Int.tmod x1_1 3) == 0)) = false:=by simpa using c5))
      (try (have c5b2 : (((rd_T45 l0 x5_1).f0) == ((Int.tmod x1_1 3) == 0)) = false:=by simpa using c5))
      (try (have c5b3 : ¬ (((rd_T45 l0 x5_1).f0) = ((Int.tmod x1_1 3) == 0)):=by simpa using c5))
      clear c5
      obtain rfl:=Option.some.inj H
      have p810 : 0 ≤ (x5_1 : Int):=of_decide_eq_true (by first | (with_reducible assumption) | assumption)
      have q810 : x5_1 < (l0.length : Int):=of_decide_eq_true (by first | (with_reducible assumption) | assumption)
      obtain ⟨ad810,A810_4,c810_4,e810,hx810_0,hx810_1,hx810_2,hx810_3,hx810_4,hl810_4,hi810_4⟩:=at_T45 HR0.out x5_1 p810 q810
      cases e810
      have HR810_4:=Aside0.mk hi810_4
      have HC810_4:=Aside0.mk hl810_4
      clear hi810_4 hl810_4
      replace p810:=eq_true p810
      replace q810:=eq_true q810
      go_wp2
      go_ret
      exact ⟨by first | rfl | (simp;done) | (simp [*];done),by repeat (first | exact Drawn0.refl _ | apply Drawn0.step)⟩
     ·rw [if_neg c5] at H
      have c5b0 : (((rd_T45 l0 x5_1).f0) != ((Int.tmod x1_1 3) == 0)) = false:=by simpa using c5
      (try (have c5b1 : decide (((rd_T45 l0 x5_1).f0) = ((Int.tmod x1_1 3) == 0)) = true:=by simpa using c5))
      (try (have c5b2 : (((rd_T45 l0 x5_1).f0) == ((Int.tmod x1_1 3) == 0)) = true:=by simpa using c5))
      clear c5
      by_cases c6 : ((rd_T45 l0 x5_1).f1) = ((wrap64 (x1_1 + 1)) % 4294967296)
      ·rw [if_pos c6] at H
       have c6b0 : (((rd_T45 l0 x5_1).f1) == ((wrap64 (x1_1 + 1)) % 4294967296)) = true:=beq_iff_eq.mpr c6
       have c6b1 : (((rd_T45 l0 x5_1).f1) != ((wrap64 (x1_1 + 1)) % 4294967296)) = false:=bne_eq_false_iff_eq.mpr c6
       clear c6
       by_cases c7 : (((rd_T45 l0 x5_1).f2) != ((Int.tmod (wrap64 ((wrap64 (x1_1 + 1)) + 1)) 3) == 0)) = true
       ·rw [if_pos c7] at H
        have c7b0 : (((rd_T45 l0 x5_1).f2) != ((Int.tmod (wrap64 ((wrap64 (x1_1 + 1)) + 1)) 3) == 0)) = true:=c7
        (try (have c7b1 : decide (((rd_T45 l0 x5_1).f2) = ((Int.tmod (wrap64 ((wrap64 (x1_1 + 1)) + 1)) 3) == 0)) = false:=by simpa using c7))
        (try (have c7b2 : (((rd_T45 l0 x5_1).f2) == ((Int.tmod (wrap64 ((wrap64 (x1_1 + 1)) + 1)) 3) == 0)) = false:=by simpa using c7))
        (try (have c7b3 : ¬ (((rd_T45 l0 x5_1).f2) = ((Int.tmod (wrap64 ((wrap64 (x1_1 + 1)) + 1)) 3) == 0)):=by simpa using c7))
        clear c7
        obtain rfl:=Option.some.inj H
        have p810 : 0 ≤ (x5_1 : Int):=of_decide_eq_true (by first | (with_reducible assumption) | assumption)
        have q810 : x5_1 < (l0.length : Int):=of_decide_eq_true (by first | (with_reducible assumption) | assumption)
        obtain ⟨ad810,A810_4,c810_4,e810,hx810_0,hx810_1,hx810_2,hx810_3,hx810_4,hl810_4,hi810_4⟩:=at_T45 HR0.out x5_1 p810 q810
        cases e810
        have HR810_4:=Aside0.mk hi810_4
        have HC810_4:=Aside0.mk hl810_4
        clear hi810_4 hl810_4
        replace p810:=eq_true p810
        replace q810:=eq_true q810
        have p811 : 0 ≤ (x5_1 : Int):=of_decide_eq_true (by first | (with_reducible assumption) | assumption)
        have q811 : x5_1 < (l0.length : Int):=of_decide_eq_true (by first | (with_reducible assumption) | assumption)
        obtain ⟨ad811,A811_4,c811_4,e811,hx811_0,hx811_1,hx811_2,hx811_3,hx811_4,hl811_4,hi811_4⟩:=at_T45 HR0.out x5_1 p811 q811
        obtain rfl : ad810 = ad811:=(by injection e811)
        have HR811_4:=Aside0.mk hi811_4
        have HC811_4:=Aside0.mk hl811_4
        clear hi811_4 hl811_4
        replace p811:=eq_true p811
        replace q811:=eq_true q811
        have ea_:=Option.some.inj (hx810_4.symm.trans hx811_4)
        injection ea_ with ea_ en_ ec_
        subst ea_
        subst ec_
        clear en_
        have p812 : 0 ≤ (x5_1 : Int):=of_decide_eq_true (by first | (with_reducible assumption) | assumption)
        have q812 : x5_1 < (l0.length : Int):=of_decide_eq_true (by first | (with_reducible assumption) | assumption)
        obtain ⟨ad812,A812_4,c812_4,e812,hx812_0,hx812_1,hx812_2,hx812_3,hx812_4,hl812_4,hi812_4⟩:=at_T45 HR0.out x5_1 p812 q812
        obtain rfl : ad810 = ad812:=(by injection e812)
        have HR812_4:=Aside0.mk hi812_4
        have HC812_4:=Aside0.mk hl812_4
        clear hi812_4 hl812_4
        replace p812:=eq_true p812
        replace q812:=eq_true q812
        have ea_:=Option.some.inj (hx810_4.symm.trans hx812_4)
        injection ea_ with ea_ en_ ec_
        subst ea_
        subst ec_
        clear en_
        go_wp2
        go_ret
        exact ⟨by first | rfl | (simp;done) | (simp [*];done),by repeat (first | exact Drawn0.refl _ | apply Drawn0.step)⟩
       ·rw [if_neg c7] at H
        have c7b0 : (((rd_T45 l0 x5_1).f2) != ((Int.tmod (wrap64 ((wrap64 (x1_1 + 1)) + 1)) 3) == 0)) = false:=by simpa using c7
        (try (have c7b1 : decide (((rd_T45 l0 x5_1).f2) = ((Int.tmod (wrap64 ((wrap64 (x1_1 + 1)) + 1)) 3) == 0)) = true:=by simpa using c7))
        (try (have c7b2 : (((rd_T45 l0 x5_1).f2) == ((Int.tmod (wrap64 ((wrap64 (x1_1 + 1)) + 1)) 3) == 0)) = true:=by simpa using c7))
        clear c7
        by_cases c8 : ((rd_T45 l0 x5_1).f3) = (wrap64 ((wrap64 ((wrap64 (x1_1 + 1)) + 1)) + 1))
        ·rw [if_pos c8] at H
         have c8b0 : (((rd_T45 l0 x5_1).f3) == (wrap64 ((wrap64 ((wrap64 (x1_1 + 1)) + 1)) + 1))) = true:=beq_iff_eq.mpr c8
         have c8b1 : (((rd_T45 l0 x5_1).f3) != (wrap64 ((wrap64 ((wrap64 (x1_1 + 1)) + 1)) + 1))) = false:=bne_eq_false_iff_eq.mpr c8
         clear c8
         replace H:=Option.bind_eq_some_iff.mp H
         obtain ⟨t815,A90,H⟩:=H
         replace H : (if t815 < 0 then (some (-1)) else (laws_heldFrameS.l0 k1 l0 t815 (wrap64 (x5_1 + 1)))) = some r:=H
         have A9:=Aside0.mk A90
         clear A90
         by_cases c10 : t815 < 0
         ·rw [if_pos c10] at H
          have c10b0 : decide (t815 < 0) = true:=decide_eq_true c10
          clear c10
          obtain rfl:=Option.some.inj H
          have p810 : 0 ≤ (x5_1 : Int):=of_decide_eq_true (by first | (with_reducible assumption) | assumption)
          have q810 : x5_1 < (l0.length : Int):=of_decide_eq_true (by first | (with_reducible assumption) | assumption)
          obtain ⟨ad810,A810_4,c810_4,e810,hx810_0,hx810_1,hx810_2,hx810_3,hx810_4,hl810_4,hi810_4⟩:=at_T45 HR0.out x5_1 p810 q810
          cases e810
          have HR810_4:=Aside0.mk hi810_4
          have HC810_4:=Aside0.mk hl810_4
          clear hi810_4 hl810_4
          replace p810:=eq_true p810
          replace q810:=eq_true q810
          have p811 : 0 ≤ (x5_1 : Int):=of_decide_eq_true (by first | (with_reducible assumption) | assumption)
          have q811 : x5_1 < (l0.length : Int):=of_decide_eq_true (by first | (with_reducible assumption) | assumption)
          obtain ⟨ad811,A811_4,c811_4,e811,hx811_0,hx811_1,hx811_2,hx811_3,hx811_4,hl811_4,hi811_4⟩:=at_T45 HR0.out x5_1 p811 q811
          obtain rfl : ad810 = ad811:=(by injection e811)
          have HR811_4:=Aside0.mk hi811_4
          have HC811_4:=Aside0.mk hl811_4
          clear hi811_4 hl811_4
          replace p811:=eq_true p811
          replace q811:=eq_true q811
          have ea_:=Option.some.inj (hx810_4.symm.trans hx811_4)
          injection ea_ with ea_ en_ ec_
          subst ea_
          subst ec_
          clear en_
          have p812 : 0 ≤ (x5_1 : Int):=of_decide_eq_true (by first | (with_reducible assumption) | assumption)
          have q812 : x5_1 < (l0.length : Int):=of_decide_eq_true (by first | (with_reducible assumption) | assumption)
          obtain ⟨ad812,A812_4,c812_4,e812,hx812_0,hx812_1,hx812_2,hx812_3,hx812_4,hl812_4,hi812_4⟩:=at_T45 HR0.out x5_1 p812 q812
          obtain rfl : ad810 = ad812:=(by injection e812)
          have HR812_4:=Aside0.mk hi812_4
          have HC812_4:=Aside0.mk hl812_4
          clear hi812_4 hl812_4
          replace p812:=eq_true p812
          replace q812:=eq_true q812
          have ea_:=Option.some.inj (hx810_4.symm.trans hx812_4)
          injection ea_ with ea_ en_ ec_
          subst ea_
          subst ec_
          clear en_
          have p813 : 0 ≤ (x5_1 : Int):=of_decide_eq_true (by first | (with_reducible assumption) | assumption)
          have q813 : x5_1 < (l0.length : Int):=of_decide_eq_true (by first | (with_reducible assumption) | assumption)
          obtain ⟨ad813,A813_4,c813_4,e813,hx813_0,hx813_1,hx813_2,hx813_3,hx813_4,hl813_4,hi813_4⟩:=at_T45 HR0.out x5_1 p813 q813
          obtain rfl : ad810 = ad813:=(by injection e813)
          have HR813_4:=Aside0.mk hi813_4
          have HC813_4:=Aside0.mk hl813_4
          clear hi813_4 hl813_4
          replace p813:=eq_true p813
          replace q813:=eq_true q813
          have ea_:=Option.some.inj (hx810_4.symm.trans hx813_4)
          injection ea_ with ea_ en_ ec_
          subst ea_
          subst ec_
          clear en_
          have p814 : 0 ≤ (x5_1 : Int):=of_decide_eq_true (by first | (with_reducible assumption) | assumption)
          have q814 : x5_1 < (l0.length : Int):=of_decide_eq_true (by first | (with_reducible assumption) | assumption)
          obtain ⟨ad814,A814_4,c814_4,e814,hx814_0,hx814_1,hx814_2,hx814_3,hx814_4,hl814_4,hi814_4⟩:=at_T45 HR0.out x5_1 p814 q814
          obtain rfl : ad810 = ad814:=(by injection e814)
          have HR814_4:=Aside0.mk hi814_4
          have HC814_4:=Aside0.mk hl814_4
          clear hi814_4 hl814_4
          replace p814:=eq_true p814
          replace q814:=eq_true q814
          have ea_:=Option.some.inj (hx810_4.symm.trans hx814_4)
          injection ea_ with ea_ en_ ec_
          subst ea_
          subst ec_
          clear en_
          go_wp2_with (first | ((with_reducible refine gate_callee (f:=100) rfl ?_);refine goesL_ (some 59) rfl rfl Try.func100 (by kernel_rfl) rfl #[.slice A810_4 ((rd_T45 l0 x5_1).f4).length c810_4, .int .i64 (wrap64 ((wrap64 ((wrap64 ((wrap64 (x1_1 + 1)) + 1)) + 1)) + 1))] rfl (by (try simp only [List.map_toArray,List.map_cons,List.map_nil]);first | done | rfl | (simp only [List.length_drop,List.length_take];rfl)) ?_;(with_reducible refine (laws_heldByteS.calls k1 _ _ ((rd_T45 l0 x5_1).f4) (wrap64 ((wrap64 ((wrap64 ((wrap64 (x1_1 + 1)) + 1)) + 1)) + 1)) t815 _ ?side1 ?side2 A9.out).mono ?_);(case side1 => repeat (first | exact HR814_4.out | (with_reducible refine Kd.C_alloc ?_ _) | (with_reducible refine Kd.C_drewN ?_ _) | (with_reducible refine Kd.C_drew ?_)));(case side2 => exact HC814_4.out);rintro e w' ⟨rfl,⟨nd,rfl⟩⟩;refine ⟨_,rfl, ?_⟩))
          go_ret
          exact ⟨by first | rfl | (simp;done) | (simp [*];done),by repeat (first | exact Drawn0.refl _ | apply Drawn0.step)⟩
         ·rw [if_neg c10] at H
          have c10b0 : decide (t815 < 0) = false:=decide_eq_false c10
          clear c10
          have H':=Aside0.mk H
          clear H
          have p810 : 0 ≤ (x5_1 : Int):=of_decide_eq_true (by first | (with_reducible assumption) | assumption)
          have q810 : x5_1 < (l0.length : Int):=of_decide_eq_true (by first | (with_reducible assumption) | assumption)
          obtain ⟨ad810,A810_4,c810_4,e810,hx810_0,hx810_1,hx810_2,hx810_3,hx810_4,hl810_4,hi810_4⟩:=at_T45 HR0.out x5_1 p810 q810
          cases e810
          have HR810_4:=Aside0.mk hi810_4
          have HC810_4:=Aside0.mk hl810_4
          clear hi810_4 hl810_4
          replace p810:=eq_true p810
          replace q810:=eq_true q810
          have p811 : 0 ≤ (x5_1 : Int):=of_decide_eq_true (by first | (with_reducible assumption) | assumption)
          have q811 : x5_1 < (l0.length : Int):=of_decide_eq_true (by first | (with_reducible assumption) | assumption)
          obtain ⟨ad811,A811_4,c811_4,e811,hx811_0,hx811_1,hx811_2,hx811_3,hx811_4,hl811_4,hi811_4⟩:=at_T45 HR0.out x5_1 p811 q811
          obtain rfl : ad810 = ad811:=(by injection e811)
          have HR811_4:=Aside0.mk hi811_4
          have HC811_4:=Aside0.mk hl811_4
          clear hi811_4 hl811_4
          replace p811:=eq_true p811
          replace q811:=eq_true q811
          have ea_:=Option.some.inj (hx810_4.symm.trans hx811_4)
          injection ea_ with ea_ en_ ec_
          subst ea_
          subst ec_
          clear en_
          have p812 : 0 ≤ (x5_1 : Int):=of_decide_eq_true (by first | (with_reducible assumption) | assumption)
          have q812 : x5_1 < (l0.length : Int):=of_decide_eq_true (by first | (with_reducible assumption) | assumption)
          obtain ⟨ad812,A812_4,c812_4,e812,hx812_0,hx812_1,hx812_2,hx812_3,hx812_4,hl812_4,hi812_4⟩:=at_T45 HR0.out x5_1 p812 q812
          obtain rfl : ad810 = ad812:=(by injection e812)
          have HR812_4:=Aside0.mk hi812_4
          have HC812_4:=Aside0.mk hl812_4
          clear hi812_4 hl812_4
          replace p812:=eq_true p812
          replace q812:=eq_true q812
          have ea_:=Option.some.inj (hx810_4.symm.trans hx812_4)
          injection ea_ with ea_ en_ ec_
          subst ea_
          subst ec_
          clear en_
          have p813 : 0 ≤ (x5_1 : Int):=of_decide_eq_true (by first | (with_reducible assumption) | assumption)
          have q813 : x5_1 < (l0.length : Int):=of_decide_eq_true (by first | (with_reducible assumption) | assumption)
          obtain ⟨ad813,A813_4,c813_4,e813,hx813_0,hx813_1,hx813_2,hx813_3,hx813_4,hl813_4,hi813_4⟩:=at_T45 HR0.out x5_1 p813 q813
          obtain rfl : ad810 = ad813:=(by injection e813)
          have HR813_4:=Aside0.mk hi813_4
          have HC813_4:=Aside0.mk hl813_4
          clear hi813_4 hl813_4
          replace p813:=eq_true p813
          replace q813:=eq_true q813
          have ea_:=Option.some.inj (hx810_4.symm.trans hx813_4)
          injection ea_ with ea_ en_ ec_
          subst ea_
          subst ec_
          clear en_
          have p814 : 0 ≤ (x5_1 : Int):=of_decide_eq_true (by first | (with_reducible assumption) | assumption)
          have q814 : x5_1 < (l0.length : Int):=of_decide_eq_true (by first | (with_reducible assumption) | assumption)
          obtain ⟨ad814,A814_4,c814_4,e814,hx814_0,hx814_1,hx814_2,hx814_3,hx814_4,hl814_4,hi814_4⟩:=at_T45 HR0.out x5_1 p814 q814
          obtain rfl : ad810 = ad814:=(by injection e814)
          have HR814_4:=Aside0.mk hi814_4
          have HC814_4:=Aside0.mk hl814_4
          clear hi814_4 hl814_4
          replace p814:=eq_true p814
          replace q814:=eq_true q814
          have ea_:=Option.some.inj (hx810_4.symm.trans hx814_4)
          injection ea_ with ea_ en_ ec_
          subst ea_
          subst ec_
          clear en_
          go_wp2_with (first | ((with_reducible refine gate_callee (f:=100) rfl ?_);refine goesL_ (some 59) rfl rfl Try.func100 (by kernel_rfl) rfl #[.slice A810_4 ((rd_T45 l0 x5_1).f4).length c810_4, .int .i64 (wrap64 ((wrap64 ((wrap64 ((wrap64 (x1_1 + 1)) + 1)) + 1)) + 1))] rfl (by (try simp only [List.map_toArray,List.map_cons,List.map_nil]);first | done | rfl | (simp only [List.length_drop,List.length_take];rfl)) ?_;(with_reducible refine (laws_heldByteS.calls k1 _ _ ((rd_T45 l0 x5_1).f4) (wrap64 ((wrap64 ((wrap64 ((wrap64 (x1_1 + 1)) + 1)) + 1)) + 1)) t815 _ ?side1 ?side2 A9.out).mono ?_);(case side1 => repeat (first | exact HR814_4.out | (with_reducible refine Kd.C_alloc ?_ _) | (with_reducible refine Kd.C_drewN ?_ _) | (with_reducible refine Kd.C_drew ?_)));(case side2 => exact HC814_4.out);rintro e w' ⟨rfl,⟨nd,rfl⟩⟩;refine ⟨_,rfl, ?_⟩))
          go_roundg k1
          case measure => have:=HK1.out;omega
          case rel => exact ⟨(t815),(wrap64 (x5_1 + 1)),(by first | rfl | (simp;done) | (simp [*];done)),(by first | rfl | (simp;done) | (simp [*];done)),H',⟨by have:=HK1.out;omega⟩,by repeat (first | exact Drawn0.refl _ | apply Drawn0.step)⟩
        ·rw [if_neg c8] at H
         have c8b0 : (((rd_T45 l0 x5_1).f3) == (wrap64 ((wrap64 ((wrap64 (x1_1 + 1)) + 1)) + 1))) = false:=beq_eq_false_iff_ne.mpr c8
         have c8b1 : (((rd_T45 l0 x5_1).f3) != (wrap64 ((wrap64 ((wrap64 (x1_1 + 1)) + 1)) + 1))) = true:=bne_iff_ne.mpr c8
         obtain rfl:=Option.some.inj H
         have p810 : 0 ≤ (x5_1 : Int):=of_decide_eq_true (by first | (with_reducible assumption) | assumption)
         have q810 : x5_1 < (l0.length : Int):=of_decide_eq_true (by first | (with_reducible assumption) | assumption)
         obtain ⟨ad810,A810_4,c810_4,e810,hx810_0,hx810_1,hx810_2,hx810_3,hx810_4,hl810_4,hi810_4⟩:=at_T45 HR0.out x5_1 p810 q810
         cases e810
         have HR810_4:=Aside0.mk hi810_4
         have HC810_4:=Aside0.mk hl810_4
         clear hi810_4 hl810_4
         replace p810:=eq_true p810
         replace q810:=eq_true q810
         have p811 : 0 ≤ (x5_1 : Int):=of_decide_eq_true (by first | (with_reducible assumption) | assumption)
         have q811 : x5_1 < (l0.length : Int):=of_decide_eq_true (by first | (with_reducible assumption) | assumption)
         obtain ⟨ad811,A811_4,c811_4,e811,hx811_0,hx811_1,hx811_2,hx811_3,hx811_4,hl811_4,hi811_4⟩:=at_T45 HR0.out x5_1 p811 q811
         obtain rfl : ad810 = ad811:=(by injection e811)
         have HR811_4:=Aside0.mk hi811_4
         have HC811_4:=Aside0.mk hl811_4
         clear hi811_4 hl811_4
         replace p811:=eq_true p811
         replace q811:=eq_true q811
         have ea_:=Option.some.inj (hx810_4.symm.trans hx811_4)
         injection ea_ with ea_ en_ ec_
         subst ea_
         subst ec_
         clear en_
         have p812 : 0 ≤ (x5_1 : Int):=of_decide_eq_true (by first | (with_reducible assumption) | assumption)
         have q812 : x5_1 < (l0.length : Int):=of_decide_eq_true (by first | (with_reducible assumption) | assumption)
         obtain ⟨ad812,A812_4,c812_4,e812,hx812_0,hx812_1,hx812_2,hx812_3,hx812_4,hl812_4,hi812_4⟩:=at_T45 HR0.out x5_1 p812 q812
         obtain rfl : ad810 = ad812:=(by injection e812)
         have HR812_4:=Aside0.mk hi812_4
         have HC812_4:=Aside0.mk hl812_4
         clear hi812_4 hl812_4
         replace p812:=eq_true p812
         replace q812:=eq_true q812
         have ea_:=Option.some.inj (hx810_4.symm.trans hx812_4)
         injection ea_ with ea_ en_ ec_
         subst ea_
         subst ec_
         clear en_
         have p813 : 0 ≤ (x5_1 : Int):=of_decide_eq_true (by first | (with_reducible assumption) | assumption)
         have q813 : x5_1 < (l0.length : Int):=of_decide_eq_true (by first | (with_reducible assumption) | assumption)
         obtain ⟨ad813,A813_4,c813_4,e813,hx813_0,hx813_1,hx813_2,hx813_3,hx813_4,hl813_4,hi813_4⟩:=at_T45 HR0.out x5_1 p813 q813
         obtain rfl : ad810 = ad813:=(by injection e813)
         have HR813_4:=Aside0.mk hi813_4
         have HC813_4:=Aside0.mk hl813_4
         clear hi813_4 hl813_4
         replace p813:=eq_true p813
         replace q813:=eq_true q813
         have ea_:=Option.some.inj (hx810_4.symm.trans hx813_4)
         injection ea_ with ea_ en_ ec_
         subst ea_
         subst ec_
         clear en_
         go_wp2
         go_ret
         exact ⟨by first | rfl | (simp;done) | (simp [*];done),by repeat (first | exact Drawn0.refl _ | apply Drawn0.step)⟩
      ·rw [if_neg c6] at H
       have c6b0 : (((rd_T45 l0 x5_1).f1) == ((wrap64 (x1_1 + 1)) % 4294967296)) = false:=beq_eq_false_iff_ne.mpr c6
       have c6b1 : (((rd_T45 l0 x5_1).f1) != ((wrap64 (x1_1 + 1)) % 4294967296)) = true:=bne_iff_ne.mpr c6
       obtain rfl:=Option.some.inj H
       have p810 : 0 ≤ (x5_1 : Int):=of_decide_eq_true (by first | (with_reducible assumption) | assumption)
       have q810 : x5_1 < (l0.length : Int):=of_decide_eq_true (by first | (with_reducible assumption) | assumption)
       obtain ⟨ad810,A810_4,c810_4,e810,hx810_0,hx810_1,hx810_2,hx810_3,hx810_4,hl810_4,hi810_4⟩:=at_T45 HR0.out x5_1 p810 q810
       cases e810
       have HR810_4:=Aside0.mk hi810_4
       have HC810_4:=Aside0.mk hl810_4
       clear hi810_4 hl810_4
       replace p810:=eq_true p810
       replace q810:=eq_true q810
       have p811 : 0 ≤ (x5_1 : Int):=of_decide_eq_true (by first | (with_reducible assumption) | assumption)
       have q811 : x5_1 < (l0.length : Int):=of_decide_eq_true (by first | (with_reducible assumption) | assumption)
       obtain ⟨ad811,A811_4,c811_4,e811,hx811_0,hx811_1,hx811_2,hx811_3,hx811_4,hl811_4,hi811_4⟩:=at_T45 HR0.out x5_1 p811 q811
       obtain rfl : ad810 = ad811:=(by injection e811)
       have HR811_4:=Aside0.mk hi811_4
       have HC811_4:=Aside0.mk hl811_4
       clear hi811_4 hl811_4
       replace p811:=eq_true p811
       replace q811:=eq_true q811
       have ea_:=Option.some.inj (hx810_4.symm.trans hx811_4)
       injection ea_ with ea_ en_ ec_
       subst ea_
       subst ec_
       clear en_
       go_wp2
       go_ret
       exact ⟨by first | rfl | (simp;done) | (simp [*];done),by repeat (first | exact Drawn0.refl _ | apply Drawn0.step)⟩
    ·rw [if_neg c4] at H
     exact absurd H (by simp)
   ·rw [if_neg c3] at H
    have c3b0 : decide (x5_1 < (l0.length : Int)) = false:=decide_eq_false c3
    clear c3
    obtain rfl:=Option.some.inj H
    go_wp2
    go_ret
    exact ⟨by first | rfl | (simp;done) | (simp [*];done),by repeat (first | exact Drawn0.refl _ | apply Drawn0.step)⟩
end Go.Proofs.Ytcaefabbcjlkdaa.P
namespace Go.Proofs.Ytcaefabbcjlkdaa.P
open Go Go.RowKit Go.Proofs.YtcaefabbcjlkdaaW.PrintWords Go.Proofs.YtcaefabbcjlkdaaW.PrintLast Go.Proofs.YtcaefabbcjlkdaaW.PrintMore
set_option linter.unusedVariables false
set_option linter.unusedSimpArgs false
def mkFrame (k : Int) (x : S45) : S45:=⟨tm k,(k + 1) % 4294967296,tm (k + 2),k + 3,marks (k + 4) x.f4.length⟩
def offFrame (xs : List S45) : Nat → Int
 | 0 => 0
 | i + 1 => offFrame xs i + 4 + ((xs.getD i z45).f4.length : Int)
def markFrames (q : Int) (xs : List S45) : List S45:=(List.range xs.length).map (fun i => mkFrame (q + offFrame xs i) (xs.getD i z45))
theorem markFrames_len (q : Int) (xs : List S45) : (markFrames q xs).length = xs.length:=by simp [markFrames]
theorem markFrames_get (q : Int) (xs : List S45) (i : Nat) (hi : i < xs.length) : (markFrames q xs)[i]? = some (mkFrame (q + offFrame xs i) (xs.getD i z45)):=by
 simp [markFrames,List.getElem?_range,hi]
theorem offFrame_nn (xs : List S45) : ∀ i,0 ≤ offFrame xs i:=by
 intro i
 induction i with
 | zero => exact Int.le_refl _
 | succ i ih => rw [offFrame];omega
theorem offFrame_mono (xs : List S45) (i d : Nat) : offFrame xs i ≤ offFrame xs (i + d):=by
 induction d with
 | zero => exact Int.le_refl _
 | succ d ih => rw [← Nat.add_assoc,offFrame];omega
theorem offFrame_le (xs : List S45) {i n : Nat} (h : i ≤ n) : offFrame xs i ≤ offFrame xs n:=by
 have:=offFrame_mono xs i (n - i)
 rwa [Nat.add_sub_cancel' h] at this
set_option maxRecDepth 100000 in
set_option maxHeartbeats 8000000 in
theorem markFrames_v (w0 w : World) (ok : Nat → Prop) (v : Value) (xs : List S45) (q : Int) (hB : Below w0.heap.size w0 w) (HS : Kd.S k45 45 w w0.heap.size ok v xs) (hq : 0 ≤ q) (hb : q + offFrame xs xs.length ≤ 50000000) (hl : xs.length ≤ 10000000) (hd : ∀ x ∈ xs,x.f4.length ≤ 10000000) :
  Calls Try.prog 70 #[v, .int .i64 q] w fun e w' => e = .returned (.int .i64 (q + offFrame xs xs.length)) ∧ Kd.S k45 45 w' w0.heap.size ok v (markFrames q xs) ∧ Below w0.heap.size w0 w' ∧ Tch w w' ok:=by
 have HSV:=Lib.hid HS
 have HB:=Lib.hid hB
 have HQ:=Lib.hid hq
 have HBD:=Lib.hid hb
 have HL:=Lib.hid hl
 have HD:=Lib.hid hd
 clear hB hq hb hl hd HS
 obtain ⟨A,cap,rfl⟩:=Kd.S_slice HSV.out
 go_enter Try.func70,Try.ntmps70
 go_upto_region 2 with (fail)
 go_loopw [1,5] (fun v1 v5 wr => ∃ (i : Nat) (k : Int) (ys : List S45),i ≤ xs.length ∧ v5 = .int .i64 i ∧ v1 = .int .i64 k ∧ Aside0 (k = q + offFrame xs i) ∧ Aside0 (Mk (markFrames q xs) xs i ys) ∧ Aside0 (Kd.S k45 45 wr w0.heap.size ok (.slice A xs.length cap) ys) ∧ Aside0 (Below w0.heap.size w0 wr) ∧ Aside0 (Tch w wr ok)) (fun _ v5 _ => xs.length - (intOf v5).toNat)
 case atStart => exact ⟨0,q,xs,Nat.zero_le _,rfl,rfl,⟨by simp [offFrame]⟩,⟨Mk.start (markFrames_len q xs)⟩,⟨HSV.out⟩,⟨HB.out⟩,⟨Tch.refl _ _⟩⟩
 case round =>
  obtain ⟨i,k,ys,hi,rfl,rfl,HKK,HMK,HSR,HBR,HTR⟩:=hrel
  by_cases hlt : i < xs.length
  ·have b2 : decide ((i : Int) < (xs.length : Int)) = true:=decide_eq_true (by omega)
   have p5 : (0 ≤ (i : Int)) = True:=eq_true (by omega)
   have q5 : ((i : Int) < (xs.length : Int)) = True:=eq_true (by omega)
   have qn : (i < xs.length) = True:=eq_true hlt
   have hn : wrap64 ((i : Int) + 1) = (i : Int) + 1:=by have:=HL.out;unfold wrap64;omega
   have HLT:=Lib.hid hlt
   have HI:=Lib.hid hi
   have HN:=Lib.hid hn
   obtain ⟨g,cp,e,_⟩:=Kd.S_form HSR.out (by have h1:=HMK.out.len;omega)
   injection e with e1 e2 e3
   subst e1
   clear e2 e3
   clear hlt hi
   obtain ⟨y,hy⟩ : ∃ y,y = xs.getD i z45:=⟨_,rfl⟩
   have HY : Hid (ys.getD i z45 = y):=Lib.hid (by rw [hy];exact HMK.out.at _)
   have HYX:=Lib.hid hy
   have HYL : Hid (y.f4.length ≤ 10000000):=Lib.hid (by rw [hy];refine HD.out _ (List.mem_of_getElem? (i:=i) ?_);rw [List.getD_eq_getElem?_getD,List.getElem?_eq_getElem HLT.out];rfl)
   have HQB : Hid (0 ≤ k ∧ k + 4 + (y.f4.length : Int) ≤ 50000000 ∧ offFrame xs (i + 1) = offFrame xs i + 4 + (y.f4.length : Int)):=Lib.hid (by
    have h1:=HKK.out;have h2:=HBD.out;have h3:=HQ.out;have h4:=offFrame_nn xs i
    have h5:=offFrame_le xs (i:=i + 1) (n:=xs.length) HLT.out
    have h6 : offFrame xs (i + 1) = offFrame xs i + 4 + (y.f4.length : Int):=by rw [offFrame,hy]
    exact ⟨by omega,by omega,h6⟩)
   clear hy
   have HK1 : Hid ((wrap64 (k + 1)) = k + 1):=Lib.hid (by have h1:=HQB.out;unfold wrap64;omega)
   have HK2 : Hid ((wrap64 ((wrap64 (k + 1)) + 1)) = k + 2):=Lib.hid (by rw [HK1.out];have h1:=HQB.out;unfold wrap64;omega)
   have HK3 : Hid ((wrap64 ((wrap64 ((wrap64 (k + 1)) + 1)) + 1)) = k + 3):=Lib.hid (by rw [HK2.out];have h1:=HQB.out;unfold wrap64;omega)
   have HK4 : Hid ((wrap64 ((wrap64 ((wrap64 ((wrap64 (k + 1)) + 1)) + 1)) + 1)) = k + 4):=Lib.hid (by rw [HK3.out];have h1:=HQB.out;unfold wrap64;omega)
   have HS0:=HSR
   have HB0:=HBR
   have HT0:=HTR
   go_upto_region 12 with (first | ((with_reducible refine gate_store (t:=4) (p:=18) rfl ?_);refine S_put k45 (w0:=w0) w0.heap.size rfl rfl rfl (e:=45) (i:=i) (j:=0) (xs:=ys) (z:=z45) (x':=({ y with f0:=Int.tmod k 3 == 0 } : S45)) (u := .bool (Int.tmod k 3 == 0)) rfl (by rfl) rfl rfl (by kernel_rfl) rfl HS0.out HLT.out (by decide) (by rw [HY.out];intro oki c hc;obtain ⟨v7,rfl,g7⟩:=k45_openM hc;exact k45_mkM _ _ _ ({ y with f0:=Int.tmod k 3 == 0 } : S45) g7) HB0.out ?_;intro w1 hs hb hg;have HS1:=Lib.hid hs;have HB1:=Lib.hid hb;have HT1:=Lib.hid (HT0.out.grown hg (fun k e => by injection e with e;rw [← e];exact .inl (S_own_ok HSV.out rfl)));clear hs hb hg) | ((with_reducible refine gate_store (t:=43) (p:=26) rfl ?_);refine S_put k45 (w0:=w0) w0.heap.size rfl rfl rfl (e:=45) (i:=i) (j:=1) (xs:=(ys.set i ({ y with f0:=Int.tmod k 3 == 0 } : S45))) (z:=z45) (x':=({ y with f0:=Int.tmod k 3 == 0,f1:=(wrap64 (k + 1)) % 4294967296 } : S45)) (u := .int .u32 ((wrap64 (k + 1)) % 4294967296)) rfl (by rfl) rfl rfl (by kernel_rfl) rfl HS1.out HLT.out (by decide) (by rw [getD_set ys i _ _ (by rw [HMK.out.len];exact HLT.out)];intro oki c hc;obtain ⟨v7,rfl,g7⟩:=k45_openM hc;exact k45_mkM _ _ _ ({ y with f0:=Int.tmod k 3 == 0,f1:=(wrap64 (k + 1)) % 4294967296 } : S45) g7) HB1.out ?_;intro w2 hs hb hg;rw [List.set_set] at hs;have HS2:=Lib.hid hs;have HB2:=Lib.hid hb;have HT2:=Lib.hid (HT1.out.grown hg (fun k e => by injection e with e;rw [← e];exact .inl (S_own_ok HSV.out rfl)));clear hs hb hg) | ((with_reducible refine gate_store (t:=4) (p:=35) rfl ?_);refine S_put k45 (w0:=w0) w0.heap.size rfl rfl rfl (e:=45) (i:=i) (j:=2) (xs:=(ys.set i ({ y with f0:=Int.tmod k 3 == 0,f1:=(wrap64 (k + 1)) % 4294967296 } : S45))) (z:=z45) (x':=({ y with f0:=Int.tmod k 3 == 0,f1:=(wrap64 (k + 1)) % 4294967296,f2:=Int.tmod (wrap64 ((wrap64 (k + 1)) + 1)) 3 == 0 } : S45)) (u := .bool (Int.tmod (wrap64 ((wrap64 (k + 1)) + 1)) 3 == 0)) rfl (by rfl) rfl rfl (by kernel_rfl) rfl HS2.out HLT.out (by decide) (by rw [getD_set ys i _ _ (by rw [HMK.out.len];exact HLT.out)];intro oki c hc;obtain ⟨v7,rfl,g7⟩:=k45_openM hc;exact k45_mkM _ _ _ ({ y with f0:=Int.tmod k 3 == 0,f1:=(wrap64 (k + 1)) % 4294967296,f2:=Int.tmod (wrap64 ((wrap64 (k + 1)) + 1)) 3 == 0 } : S45) g7) HB2.out ?_;intro w3 hs hb hg;rw [List.set_set] at hs;have HS3:=Lib.hid hs;have HB3:=Lib.hid hb;have HT3:=Lib.hid (HT2.out.grown hg (fun k e => by injection e with e;rw [← e];exact .inl (S_own_ok HSV.out rfl)));clear hs hb hg) | ((with_reducible refine gate_store (t:=3) (p:=42) rfl ?_);refine S_put k45 (w0:=w0) w0.heap.size rfl rfl rfl (e:=45) (i:=i) (j:=3) (xs:=(ys.set i ({ y with f0:=Int.tmod k 3 == 0,f1:=(wrap64 (k + 1)) % 4294967296,f2:=Int.tmod (wrap64 ((wrap64 (k + 1)) + 1)) 3 == 0 } : S45))) (z:=z45) (x':=({ y with f0:=Int.tmod k 3 == 0,f1:=(wrap64 (k + 1)) % 4294967296,f2:=Int.tmod (wrap64 ((wrap64 (k + 1)) + 1)) 3 == 0,f3:=(wrap64 ((wrap64 ((wrap64 (k + 1)) + 1)) + 1)) } : S45)) (u := .int .i64 (wrap64 ((wrap64 ((wrap64 (k + 1)) + 1)) + 1))) rfl (by rfl) rfl rfl (by kernel_rfl) rfl HS3.out HLT.out (by decide) (by rw [getD_set ys i _ _ (by rw [HMK.out.len];exact HLT.out)];intro oki c hc;obtain ⟨v7,rfl,g7⟩:=k45_openM hc;exact k45_mkM _ _ _ ({ y with f0:=Int.tmod k 3 == 0,f1:=(wrap64 (k + 1)) % 4294967296,f2:=Int.tmod (wrap64 ((wrap64 (k + 1)) + 1)) 3 == 0,f3:=(wrap64 ((wrap64 ((wrap64 (k + 1)) + 1)) + 1)) } : S45) g7) HB3.out ?_;intro w4 hs hb hg;rw [List.set_set] at hs;have HS4:=Lib.hid hs;have HB4:=Lib.hid hb;have HT4:=Lib.hid (HT3.out.grown hg (fun k e => by injection e with e;rw [← e];exact .inl (S_own_ok HSV.out rfl)));clear hs hb hg))
   obtain ⟨oki,cc,hcl,hM,hcc,hoki,hback⟩:=Kd.S_borrow HS4.out z45 (i : Int) (by omega) (by have:=HLT.out;omega)
   rw [Int.toNat_natCast,getD_set ys i _ _ (by rw [HMK.out.len];exact HLT.out)] at hM
   obtain ⟨vd,rfl,gd⟩:=k45_openM hM
   have hcd:=hcc 4 _ rfl
   rw [Int.toNat_natCast,add_plain] at hcd
   have hc7 : w4.cell? ⟨g,i * 5 + 4,none⟩ = some vd:=hcd
   have GD:=Lib.hid gd
   go_wp2_with (first | (go_at_call 99;refine (markByteS_v w0 w4 oki vd y.f4 (wrap64 ((wrap64 ((wrap64 ((wrap64 (k + 1)) + 1)) + 1)) + 1)) HB4.out GD.out HYL.out (by have h1:=HQB.out;have h2:=HK4.out;omega) (by have h1:=HQB.out;have h2:=HK4.out;omega)).mono ?_;rintro e w9 ⟨rfl,hr9,hb9,hg9⟩;have HS9:=Lib.hid (hback hg9 (fun k hk => R_own_ok GD.out hk) (k45_mkM _ _ _ ({ y with f0:=Int.tmod k 3 == 0,f1:=(wrap64 (k + 1)) % 4294967296,f2:=Int.tmod (wrap64 ((wrap64 (k + 1)) + 1)) 3 == 0,f3:=(wrap64 ((wrap64 ((wrap64 (k + 1)) + 1)) + 1)),f4:=marks (wrap64 ((wrap64 ((wrap64 ((wrap64 (k + 1)) + 1)) + 1)) + 1)) y.f4.length } : S45) hr9));have HB9:=Lib.hid hb9;have HT9 : Hid (Tch w w9 ok):=Lib.hid (HT4.out.grown hg9 (fun k e => .inl (hoki k (R_own_ok GD.out e)).1));clear hr9 hb9 hg9))
   clear hcd hc7 hcc hM hcl hoki hback
   go_roundw
   case rel => exact ⟨i + 1,_,_,HLT.out,by rw [HN.out];rfl,rfl,⟨by have h1:=HQB.out;have h2:=HK4.out;have h3:=HKK.out;rw [h1.2.2];omega⟩,⟨by refine HMK.out.next HLT.out (v:=({ y with f0:=Int.tmod k 3 == 0,f1:=(wrap64 (k + 1)) % 4294967296,f2:=Int.tmod (wrap64 ((wrap64 (k + 1)) + 1)) 3 == 0,f3:=(wrap64 ((wrap64 ((wrap64 (k + 1)) + 1)) + 1)),f4:=marks (wrap64 ((wrap64 ((wrap64 ((wrap64 (k + 1)) + 1)) + 1)) + 1)) y.f4.length } : S45)) ?_;rw [markFrames_get _ _ _ HLT.out, ← HYX.out, ← HKK.out];simp only [mkFrame,tm];rw [HK4.out,HK3.out,HK2.out,HK1.out]⟩,⟨by have h:=HS9.out;rw [Int.toNat_natCast,List.set_set] at h;exact h⟩,⟨HB9.out⟩,⟨HT9.out⟩⟩
   case measure => rw [HN.out];have:=HLT.out;simp [intOf];omega
  ·have hii : i = xs.length:=by omega
   have b2 : decide ((i : Int) < (xs.length : Int)) = false:=decide_eq_false (by omega)
   have qn : (i < xs.length) = False:=eq_false hlt
   have HE : Hid (ys = markFrames q xs):=Lib.hid (HMK.out.all (by omega))
   have HKE : Hid (k = q + offFrame xs xs.length):=Lib.hid (by rw [HKK.out,hii])
   clear hlt hi hii
   go_wp2_with (fail)
   go_ret
   exact ⟨by rw [HKE.out];rfl,by rw [← HE.out];exact HSR.out,HBR.out,HTR.out⟩
end Go.Proofs.Ytcaefabbcjlkdaa.P
namespace Go.Proofs.Ytcaefabbcjlkdaa.P
open Go.RowKit Go.Proofs.YtcaefabbcjlkdaaW.PrintWords Go.Proofs.YtcaefabbcjlkdaaW.PrintLast Go.Proofs.YtcaefabbcjlkdaaW.PrintMore
set_option linter.unusedVariables false
set_option linter.unusedSimpArgs false
def laws_heldEventS.l0 : Nat → List (S56) → Int → Int → Option (Int)
 | 0,_,_,_ => none
 | k + 1,x0,x1,x5 => if x5 < (x0.length : Int) then (if 0 ≤ x5 then (if ((rd_T56 x0 x5).f0) = x1 then (if ((rd_T56 x0 x5).f1) = (wrap64 (x1 + 1)) then (if ((rd_T56 x0 x5).f2) = (wrap64 ((wrap64 (x1 + 1)) + 1)) then (if (((rd_T56 x0 x5).f3.f0) != ((Int.tmod (wrap64 ((wrap64 ((wrap64 (x1 + 1)) + 1)) + 1)) 3) == 0)) = true then (some (-1)) else (if ((rd_T56 x0 x5).f3.f1) = ((wrap64 ((wrap64 ((wrap64 ((wrap64 (x1 + 1)) + 1)) + 1)) + 1)) % 4294967296) then (if (((rd_T56 x0 x5).f3.f2) != ((Int.tmod (wrap64 ((wrap64 ((wrap64 ((wrap64 ((wrap64 (x1 + 1)) + 1)) + 1)) + 1)) + 1)) 3) == 0)) = true then (some (-1)) else (if ((rd_T56 x0 x5).f3.f3) = (wrap64 ((wrap64 ((wrap64 ((wrap64 ((wrap64 ((wrap64 (x1 + 1)) + 1)) + 1)) + 1)) + 1)) + 1)) then ((laws_heldByteS.f k ((rd_T56 x0 x5).f3.f4) (wrap64 ((wrap64 ((wrap64 ((wrap64 ((wrap64 ((wrap64 ((wrap64 (x1 + 1)) + 1)) + 1)) + 1)) + 1)) + 1)) + 1))).bind fun t797 => (if t797 < 0 then (some (-1)) else (laws_heldEventS.l0 k x0 t797 (wrap64 (x5 + 1))))) else (some (-1)))) else (some (-1)))) else (some (-1))) else (some (-1))) else (some (-1))) else (none)) else (some x1)
end Go.Proofs.Ytcaefabbcjlkdaa.P
