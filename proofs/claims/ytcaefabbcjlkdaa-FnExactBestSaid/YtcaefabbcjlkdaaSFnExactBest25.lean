/- Texts of the proof of FnExactBest, joined. -/
import Derived.Test.YtcaefabbcjlkdaaSFnExactBest24
import Derived.Test.YtcaefabbcjlkdaaSFnExactBest22
import Derived.Test.YtcaefabbcjlkdaaSFnExactBest23
import Derived.Test.YtcaefabbcjlkdaaSFnExactBest2
import Derived.Deep.RegionHeld
namespace Go.Proofs.Ytcaefabbcjlkdaa.P
open Go Go.RowKit Go.Proofs.YtcaefabbcjlkdaaW.PrintWords Go.Proofs.YtcaefabbcjlkdaaW.PrintLast Go.Proofs.YtcaefabbcjlkdaaW.PrintMore
set_option linter.unusedVariables false
set_option linter.unusedSimpArgs false
def dsumBox (l : List S141) : Nat → Int
 | 0 => 0
 | i + 1 => dsumBox l i + ((rd_T141 l (i : Int)).f3.f4.length : Int)
theorem dsumBox_off (l : List S141) (n : Nat) (hn : n ≤ l.length) : offBox (l.map cBox) n = 7 * (n : Int) + dsumBox l n:=by
 induction n with
 | zero => rfl
 | succ i ih =>
  rw [offBox,dsumBox,ih (by omega)]
  have hg : l[i]? = some (rd_T141 l (i : Int)):=getD_some l i _ (by omega)
  have e : (l.map cBox).getD i z87 = cBox (rd_T141 l (i : Int)):=by rw [List.getD_eq_getElem?_getD,List.getElem?_map,hg];rfl
  rw [e]
  show 7 * (i : Int) + dsumBox l i + 7 + ((rd_T141 l (i : Int)).f3.f4.length : Int) = _
  omega
theorem szBoxS_sum (l : List S141) (m : Int) (h : l.length ≤ maxLen) (hd : ∀ x ∈ l,x.f3.f4.length ≤ maxLen) (h0 : 0 ≤ m) (h1 : m ≤ 1048576) : ∃ r,Ev (fun k => laws_szBoxS.f k l m) r ∧ ((r < 0 ∧ r = -1) ∨ (0 ≤ r ∧ r + (l.length : Int) + dsumBox l l.length = m ∧ ∀ x ∈ l,(x.f3.f4.length : Int) ≤ m)):=by
 have loop : ∀ (d i : Nat) (m : Int),l.length ≤ 1048576 → i + d = l.length → 0 ≤ m → m ≤ 1048576 → ∃ r,Ev (fun k => laws_szBoxS.l0 k l m (i : Int)) r ∧ ((r < 0 ∧ r = -1) ∨ (0 ≤ r ∧ r ≤ m ∧ r + dsumBox l l.length = m + dsumBox l i ∧ ∀ t (x : S141),i ≤ t → l[t]? = some x → (x.f3.f4.length : Int) ≤ m)):=by
  intro d
  induction d with
  | zero =>
   intro i m hL hi h0 h1
   refine ⟨m,Ev.step (f:=fun _ => some m) (fun k => ?_) (Ev.now _), .inr ⟨h0,Int.le_refl _,by rw [show i = l.length by omega],fun t x ht hx => ?_⟩⟩
   ·simp only [laws_szBoxS.l0]
    rw [if_neg (by omega)]
   ·rw [List.getElem?_eq_none (by omega)] at hx;cases hx
  | succ d ih =>
   intro i m hL hi h0 h1
   have hg : l[i]? = some (rd_T141 l (i : Int)):=getD_some l i _ (by omega)
   have hm:=hd _ (List.mem_of_getElem? hg)
   have one:=szBox_eq (rd_T141 l (i : Int)) m hm h0 h1
   have hw : wrap64 ((i : Int) + 1) = ((i + 1 : Nat) : Int):=by rw [w64 (by omega) (by omega)];rfl
   by_cases c : m < ((rd_T141 l (i : Int)).f3.f4.length : Int)
   ·refine ⟨-1,Ev.step (f:=fun _ => some (-1)) (fun k => ?_) (Ev.now _), .inl ⟨by decide,rfl⟩⟩
    simp only [laws_szBoxS.l0]
    rw [if_pos (by omega),if_pos (by omega),one,Option.bind_some,if_pos c,if_pos (by omega)]
   ·obtain ⟨r,he,hr⟩:=ih (i + 1) (m - ((rd_T141 l (i : Int)).f3.f4.length : Int)) hL (by omega) (by omega) (by omega)
    refine ⟨r,Ev.step (fun k => ?_) he, ?_⟩
    ·simp only [laws_szBoxS.l0]
     rw [if_pos (by omega),if_pos (by omega),one,Option.bind_some,if_neg c,if_neg (by omega),hw]
    ·rcases hr with hr | ⟨q1,q2,q3,q4⟩
     ·exact .inl hr
     ·have e : dsumBox l (i + 1) = dsumBox l i + ((rd_T141 l (i : Int)).f3.f4.length : Int):=rfl
      refine .inr ⟨q1,by omega,by omega,fun t x ht hx => ?_⟩
      by_cases e : t = i
      ·subst e;rw [hg] at hx;cases hx;omega
      ·have:=q4 t x (by omega) hx;omega
 by_cases c : m < (l.length : Int)
 ·refine ⟨-1,Ev.congr (fun k => ?_) (Ev.now (-1)), .inl ⟨by decide,rfl⟩⟩
  unfold laws_szBoxS.f
  simp only [maxLen] at h
  have e : wrap64 (m - (l.length : Int)) = m - l.length:=by unfold wrap64;omega
  rw [e,if_pos (by omega)]
 ·obtain ⟨r,he,hr⟩:=loop l.length 0 (m - l.length) (by omega) (by omega) (by omega) (by omega)
  refine ⟨r,Ev.congr (fun k => ?_) he, ?_⟩
  ·unfold laws_szBoxS.f
   have e : wrap64 (m - (l.length : Int)) = m - l.length:=by unfold wrap64;omega
   rw [e,if_neg (by omega)]
   rfl
  ·rcases hr with hr | ⟨q1,q2,q3,q4⟩
   ·exact .inl hr
   ·have e : dsumBox l 0 = 0:=rfl
    refine .inr ⟨q1,by omega,fun x hx => ?_⟩
    obtain ⟨t,ht⟩:=List.mem_iff_getElem?.1 hx
    have:=q4 t x (Nat.zero_le _) ht;omega
theorem dsumBox_nn (l : List S141) (n : Nat) : 0 ≤ dsumBox l n:=by
 induction n with
 | zero => exact Int.le_refl _
 | succ i ih => rw [dsumBox];omega
def dsumFrame (l : List S77) : Nat → Int
 | 0 => 0
 | i + 1 => dsumFrame l i + ((rd_T77 l (i : Int)).f4.length : Int)
theorem dsumFrame_off (l : List S77) (n : Nat) (hn : n ≤ l.length) : offFrame (l.map cFrame) n = 4 * (n : Int) + dsumFrame l n:=by
 induction n with
 | zero => rfl
 | succ i ih =>
  rw [offFrame,dsumFrame,ih (by omega)]
  have hg : l[i]? = some (rd_T77 l (i : Int)):=getD_some l i _ (by omega)
  have e : (l.map cFrame).getD i z45 = cFrame (rd_T77 l (i : Int)):=by rw [List.getD_eq_getElem?_getD,List.getElem?_map,hg];rfl
  rw [e]
  show 4 * (i : Int) + dsumFrame l i + 4 + ((rd_T77 l (i : Int)).f4.length : Int) = _
  omega
theorem szFrameS_sum (l : List S77) (m : Int) (h : l.length ≤ maxLen) (hd : ∀ x ∈ l,x.f4.length ≤ maxLen) (h0 : 0 ≤ m) (h1 : m ≤ 1048576) : ∃ r,Ev (fun k => laws_szFrameS.f k l m) r ∧ ((r < 0 ∧ r = -1) ∨ (0 ≤ r ∧ r + (l.length : Int) + dsumFrame l l.length = m ∧ ∀ x ∈ l,(x.f4.length : Int) ≤ m)):=by
 have loop : ∀ (d i : Nat) (m : Int),l.length ≤ 1048576 → i + d = l.length → 0 ≤ m → m ≤ 1048576 → ∃ r,Ev (fun k => laws_szFrameS.l0 k l m (i : Int)) r ∧ ((r < 0 ∧ r = -1) ∨ (0 ≤ r ∧ r ≤ m ∧ r + dsumFrame l l.length = m + dsumFrame l i ∧ ∀ t (x : S77),i ≤ t → l[t]? = some x → (x.f4.length : Int) ≤ m)):=by
  intro d
  induction d with
  | zero =>
   intro i m hL hi h0 h1
   refine ⟨m,Ev.step (f:=fun _ => some m) (fun k => ?_) (Ev.now _), .inr ⟨h0,Int.le_refl _,by rw [show i = l.length by omega],fun t x ht hx => ?_⟩⟩
   ·simp only [laws_szFrameS.l0]
    rw [if_neg (by omega)]
   ·rw [List.getElem?_eq_none (by omega)] at hx;cases hx
  | succ d ih =>
   intro i m hL hi h0 h1
   have hg : l[i]? = some (rd_T77 l (i : Int)):=getD_some l i _ (by omega)
   have hm:=hd _ (List.mem_of_getElem? hg)
   have one:=szFrame_eqS (rd_T77 l (i : Int)).f0 (rd_T77 l (i : Int)).f1 (rd_T77 l (i : Int)).f2 (rd_T77 l (i : Int)).f3 (rd_T77 l (i : Int)).f4 m hm h0 h1
   have hw : wrap64 ((i : Int) + 1) = ((i + 1 : Nat) : Int):=by rw [w64 (by omega) (by omega)];rfl
   by_cases c : m < ((rd_T77 l (i : Int)).f4.length : Int)
   ·refine ⟨-1,Ev.step (f:=fun _ => some (-1)) (fun k => ?_) (Ev.now _), .inl ⟨by decide,rfl⟩⟩
    simp only [laws_szFrameS.l0]
    rw [if_pos (by omega),if_pos (by omega),one,Option.bind_some,if_pos c,if_pos (by omega)]
   ·obtain ⟨r,he,hr⟩:=ih (i + 1) (m - ((rd_T77 l (i : Int)).f4.length : Int)) hL (by omega) (by omega) (by omega)
    refine ⟨r,Ev.step (fun k => ?_) he, ?_⟩
    ·simp only [laws_szFrameS.l0]
     rw [if_pos (by omega),if_pos (by omega),one,Option.bind_some,if_neg c,if_neg (by omega),hw]
    ·rcases hr with hr | ⟨q1,q2,q3,q4⟩
     ·exact .inl hr
     ·have e : dsumFrame l (i + 1) = dsumFrame l i + ((rd_T77 l (i : Int)).f4.length : Int):=rfl
      refine .inr ⟨q1,by omega,by omega,fun t x ht hx => ?_⟩
      by_cases e : t = i
      ·subst e;rw [hg] at hx;cases hx;omega
      ·have:=q4 t x (by omega) hx;omega
 by_cases c : m < (l.length : Int)
 ·refine ⟨-1,Ev.congr (fun k => ?_) (Ev.now (-1)), .inl ⟨by decide,rfl⟩⟩
  unfold laws_szFrameS.f
  simp only [maxLen] at h
  have e : wrap64 (m - (l.length : Int)) = m - l.length:=by unfold wrap64;omega
  rw [e,if_pos (by omega)]
 ·obtain ⟨r,he,hr⟩:=loop l.length 0 (m - l.length) (by omega) (by omega) (by omega) (by omega)
  refine ⟨r,Ev.congr (fun k => ?_) he, ?_⟩
  ·unfold laws_szFrameS.f
   have e : wrap64 (m - (l.length : Int)) = m - l.length:=by unfold wrap64;omega
   rw [e,if_neg (by omega)]
   rfl
  ·rcases hr with hr | ⟨q1,q2,q3,q4⟩
   ·exact .inl hr
   ·have e : dsumFrame l 0 = 0:=rfl
    refine .inr ⟨q1,by omega,fun x hx => ?_⟩
    obtain ⟨t,ht⟩:=List.mem_iff_getElem?.1 hx
    have:=q4 t x (Nat.zero_le _) ht;omega
theorem dsumFrame_nn (l : List S77) (n : Nat) : 0 ≤ dsumFrame l n:=by
 induction n with
 | zero => exact Int.le_refl _
 | succ i ih => rw [dsumFrame];omega
def dsumEvent (l : List S144) : Nat → Int
 | 0 => 0
 | i + 1 => dsumEvent l i + ((rd_T144 l (i : Int)).f3.f4.length : Int)
theorem dsumEvent_off (l : List S144) (n : Nat) (hn : n ≤ l.length) : offEvent (l.map cEvent) n = 7 * (n : Int) + dsumEvent l n:=by
 induction n with
 | zero => rfl
 | succ i ih =>
  rw [offEvent,dsumEvent,ih (by omega)]
  have hg : l[i]? = some (rd_T144 l (i : Int)):=getD_some l i _ (by omega)
  have e : (l.map cEvent).getD i z56 = cEvent (rd_T144 l (i : Int)):=by rw [List.getD_eq_getElem?_getD,List.getElem?_map,hg];rfl
  rw [e]
  show 7 * (i : Int) + dsumEvent l i + 7 + ((rd_T144 l (i : Int)).f3.f4.length : Int) = _
  omega
theorem szEventS_sum (l : List S144) (m : Int) (h : l.length ≤ maxLen) (hd : ∀ x ∈ l,x.f3.f4.length ≤ maxLen) (h0 : 0 ≤ m) (h1 : m ≤ 1048576) : ∃ r,Ev (fun k => laws_szEventS.f k l m) r ∧ ((r < 0 ∧ r = -1) ∨ (0 ≤ r ∧ r + (l.length : Int) + dsumEvent l l.length = m ∧ ∀ x ∈ l,(x.f3.f4.length : Int) ≤ m)):=by
 have loop : ∀ (d i : Nat) (m : Int),l.length ≤ 1048576 → i + d = l.length → 0 ≤ m → m ≤ 1048576 → ∃ r,Ev (fun k => laws_szEventS.l0 k l m (i : Int)) r ∧ ((r < 0 ∧ r = -1) ∨ (0 ≤ r ∧ r ≤ m ∧ r + dsumEvent l l.length = m + dsumEvent l i ∧ ∀ t (x : S144),i ≤ t → l[t]? = some x → (x.f3.f4.length : Int) ≤ m)):=by
  intro d
  induction d with
  | zero =>
   intro i m hL hi h0 h1
   refine ⟨m,Ev.step (f:=fun _ => some m) (fun k => ?_) (Ev.now _), .inr ⟨h0,Int.le_refl _,by rw [show i = l.length by omega],fun t x ht hx => ?_⟩⟩
   ·simp only [laws_szEventS.l0]
    rw [if_neg (by omega)]
   ·rw [List.getElem?_eq_none (by omega)] at hx;cases hx
  | succ d ih =>
   intro i m hL hi h0 h1
   have hg : l[i]? = some (rd_T144 l (i : Int)):=getD_some l i _ (by omega)
   have hm:=hd _ (List.mem_of_getElem? hg)
   have one:=szEvent_eq (rd_T144 l (i : Int)) m hm h0 h1
   have hw : wrap64 ((i : Int) + 1) = ((i + 1 : Nat) : Int):=by rw [w64 (by omega) (by omega)];rfl
   by_cases c : m < ((rd_T144 l (i : Int)).f3.f4.length : Int)
   ·refine ⟨-1,Ev.step (f:=fun _ => some (-1)) (fun k => ?_) (Ev.now _), .inl ⟨by decide,rfl⟩⟩
    simp only [laws_szEventS.l0]
    rw [if_pos (by omega),if_pos (by omega),one,Option.bind_some,if_pos c,if_pos (by omega)]
   ·obtain ⟨r,he,hr⟩:=ih (i + 1) (m - ((rd_T144 l (i : Int)).f3.f4.length : Int)) hL (by omega) (by omega) (by omega)
    refine ⟨r,Ev.step (fun k => ?_) he, ?_⟩
    ·simp only [laws_szEventS.l0]
     rw [if_pos (by omega),if_pos (by omega),one,Option.bind_some,if_neg c,if_neg (by omega),hw]
    ·rcases hr with hr | ⟨q1,q2,q3,q4⟩
     ·exact .inl hr
     ·have e : dsumEvent l (i + 1) = dsumEvent l i + ((rd_T144 l (i : Int)).f3.f4.length : Int):=rfl
      refine .inr ⟨q1,by omega,by omega,fun t x ht hx => ?_⟩
      by_cases e : t = i
      ·subst e;rw [hg] at hx;cases hx;omega
      ·have:=q4 t x (by omega) hx;omega
 by_cases c : m < (l.length : Int)
 ·refine ⟨-1,Ev.congr (fun k => ?_) (Ev.now (-1)), .inl ⟨by decide,rfl⟩⟩
  unfold laws_szEventS.f
  simp only [maxLen] at h
  have e : wrap64 (m - (l.length : Int)) = m - l.length:=by unfold wrap64;omega
  rw [e,if_pos (by omega)]
 ·obtain ⟨r,he,hr⟩:=loop l.length 0 (m - l.length) (by omega) (by omega) (by omega) (by omega)
  refine ⟨r,Ev.congr (fun k => ?_) he, ?_⟩
  ·unfold laws_szEventS.f
   have e : wrap64 (m - (l.length : Int)) = m - l.length:=by unfold wrap64;omega
   rw [e,if_neg (by omega)]
   rfl
  ·rcases hr with hr | ⟨q1,q2,q3,q4⟩
   ·exact .inl hr
   ·have e : dsumEvent l 0 = 0:=rfl
    refine .inr ⟨q1,by omega,fun x hx => ?_⟩
    obtain ⟨t,ht⟩:=List.mem_iff_getElem?.1 hx
    have:=q4 t x (Nat.zero_le _) ht;omega
theorem dsumEvent_nn (l : List S144) (n : Nat) : 0 ≤ dsumEvent l n:=by
 induction n with
 | zero => exact Int.le_refl _
 | succ i ih => rw [dsumEvent];omega
def hvOf (x : S63) : HV:=⟨x.f0.f0,x.f0.f1,x.f0.f2,x.f0.f3,x.f1.map cFilter,x.f2.map cBox,x.f3.map cFrame,x.f4.map cEvent,x.f5,x.f6⟩
structure LB (x : S63) : Prop where
 l1 : x.f1.length ≤ maxLen
 l2 : x.f2.length ≤ maxLen
 l3 : x.f3.length ≤ maxLen
 l4 : x.f4.length ≤ maxLen
 d2 : ∀ y ∈ x.f2,y.f3.f4.length ≤ maxLen
 d3 : ∀ y ∈ x.f3,y.f4.length ≤ maxLen
 d4 : ∀ y ∈ x.f4,y.f3.f4.length ≤ maxLen
structure LFits (x : S63) : Prop where
 l1 : x.f1.length ≤ 1048576
 l2 : x.f2.length ≤ 1048576
 l3 : x.f3.length ≤ 1048576
 l4 : x.f4.length ≤ 1048576
 d2 : ∀ y ∈ x.f2,y.f3.f4.length ≤ 1048576
 d3 : ∀ y ∈ x.f3,y.f4.length ≤ 1048576
 d4 : ∀ y ∈ x.f4,y.f3.f4.length ≤ 1048576
 sm : HSm (hvOf x)
 mks : HMarks 1 (hvOf x)
theorem mem_map_d {α β : Type} {l : List α} {c : α → β} {p : α → Nat} {q : β → Nat} (e : ∀ x,q (c x) = p x) {n : Nat} (h : ∀ x ∈ l,p x ≤ n) : ∀ y ∈ l.map c,q y ≤ n:=by
 intro y hy
 obtain ⟨x,hx,rfl⟩:=List.mem_map.1 hy
 rw [e];exact h x hx
theorem lfits_of (x : S63) {m r4 r5 r6 r7 : Int} (h1 : m ≤ 1048576) (e4 : r4 = m - (x.f1.length : Int)) (b4 : 0 ≤ r4) (b5 : 0 ≤ r5 ∧ r5 + (x.f2.length : Int) + dsumBox x.f2 x.f2.length = r4 ∧ ∀ y ∈ x.f2,(y.f3.f4.length : Int) ≤ r4)
  (b6 : 0 ≤ r6 ∧ r6 + (x.f3.length : Int) + dsumFrame x.f3 x.f3.length = r5 ∧ ∀ y ∈ x.f3,(y.f4.length : Int) ≤ r5) (b7 : 0 ≤ r7 ∧ r7 + (x.f4.length : Int) + dsumEvent x.f4 x.f4.length = r6 ∧ ∀ y ∈ x.f4,(y.f3.f4.length : Int) ≤ r6) : LFits x:=by
 have n5:=dsumBox_nn x.f2 x.f2.length
 have n6:=dsumFrame_nn x.f3 x.f3.length
 have n7:=dsumEvent_nn x.f4 x.f4.length
 obtain ⟨a5,s5,d5⟩:=b5
 obtain ⟨a6,s6,d6⟩:=b6
 obtain ⟨a7,s7,d7⟩:=b7
 have d2 : ∀ y ∈ x.f2,y.f3.f4.length ≤ 1048576:=fun y hy => by have:=d5 y hy;omega
 have d3 : ∀ y ∈ x.f3,y.f4.length ≤ 1048576:=fun y hy => by have:=d6 y hy;omega
 have d4 : ∀ y ∈ x.f4,y.f3.f4.length ≤ 1048576:=fun y hy => by have:=d7 y hy;omega
 have D2 : ∀ y ∈ (hvOf x).bs,y.f3.f4.length ≤ 10000000:=mem_map_d (c:=cBox) (p:=fun y => y.f3.f4.length) (q:=fun y => y.f3.f4.length) (fun _ => rfl) (fun y hy => Nat.le_trans (d2 y hy) (by decide))
 have D3 : ∀ y ∈ (hvOf x).fr,y.f4.length ≤ 10000000:=mem_map_d (c:=cFrame) (p:=fun y => y.f4.length) (q:=fun y => y.f4.length) (fun _ => rfl) (fun y hy => Nat.le_trans (d3 y hy) (by decide))
 have D4 : ∀ y ∈ (hvOf x).ev,y.f3.f4.length ≤ 10000000:=mem_map_d (c:=cEvent) (p:=fun y => y.f3.f4.length) (q:=fun y => y.f3.f4.length) (fun _ => rfl) (fun y hy => Nat.le_trans (d4 y hy) (by decide))
 have L1 : (hvOf x).fs.length = x.f1.length:=List.length_map _
 have L2 : (hvOf x).bs.length = x.f2.length:=List.length_map _
 have L3 : (hvOf x).fr.length = x.f3.length:=List.length_map _
 have L4 : (hvOf x).ev.length = x.f4.length:=List.length_map _
 have t2:=dsumBox_off x.f2 x.f2.length (Nat.le_refl _)
 have t3:=dsumFrame_off x.f3 x.f3.length (Nat.le_refl _)
 have t4:=dsumEvent_off x.f4 x.f4.length (Nat.le_refl _)
 have T2 : offBox (hvOf x).bs (hvOf x).bs.length = 7 * (x.f2.length : Int) + dsumBox x.f2 x.f2.length:=by rw [L2];exact t2
 have T3 : offFrame (hvOf x).fr (hvOf x).fr.length = 4 * (x.f3.length : Int) + dsumFrame x.f3 x.f3.length:=by rw [L3];exact t3
 have T4 : offEvent (hvOf x).ev (hvOf x).ev.length = 7 * (x.f4.length : Int) + dsumEvent x.f4 x.f4.length:=by rw [L4];exact t4
 refine ⟨by omega,by omega,by omega,by omega,d2,d3,d4,⟨by omega,by omega,by omega,by omega,D2,D3,D4⟩,⟨by decide, ?_,by omega,by omega,by omega,D2,D3,D4⟩⟩
 unfold cnt4 cnt3 cnt2 cnt1
 rw [T2,T3,T4,L1]
 omega
set_option maxRecDepth 100000 in
set_option maxHeartbeats 4000000 in
theorem szHost_all (x : S63) (m : Int) (hB : LB x) (h0 : 0 ≤ m) (h1 : m ≤ 1048576) :
  ∃ r : Int,(r = -1 ∨ (0 ≤ r ∧ r ≤ m ∧ LFits x)) ∧ ∀ (w : World) (C : List Value),k63.K w x C → Calls Try.prog 32 #[.agg ⟨C⟩, .int .i64 m] w fun e w' => e = .returned (.int .i64 r) ∧ Below w.heap.size w w':=by
 have e4:=szFilterS_eq x.f1 m hB.l1 h0 h1
 by_cases q4 : m < (x.f1.length : Int)
 ·rw [if_pos q4] at e4
  obtain ⟨r4,hr4⟩ : ∃ r4 : Int,r4 = -1:=⟨_,rfl⟩
  rw [← hr4] at e4
  refine ⟨-1, .inl rfl,fun w C hK => ?_⟩
  obtain ⟨A4,c4,A5,c5,A6,c6,A7,c7,rfl,l4,g4,l5,g5,l6,g6,l7,g7⟩:=k63_open hK
  have G4:=Lib.hid g4
  have G5:=Lib.hid g5
  have G6:=Lib.hid g6
  have G7:=Lib.hid g7
  have L4:=Lib.hid l4
  have L5:=Lib.hid l5
  have L6:=Lib.hid l6
  have L7:=Lib.hid l7
  have HB_0 : Hid (Below w.heap.size w w):=Lib.hid (Below.refl _ _)
  clear g4 g5 g6 g7 l4 l5 l6 l7 hK
  have c4' : decide (r4 < 0) = true:=decide_eq_true (by omega)
  have E4:=Lib.hid e4
  clear e4 hr4 q4 h0 h1 hB
  go_enter Try.func32,Try.ntmps32
  go_upto_region 1 with (first | ((with_reducible refine gate_dst (N:=2) rfl ?_);refine box_event ?hg (N:=2) ?hd (cs:=⟨[.int .i64 x.f0.f0, .int .i64 x.f0.f1, .int .i64 x.f0.f2, .int .i64 x.f0.f3, .slice A4 x.f1.length c4, .slice A5 x.f2.length c5, .slice A6 x.f3.length c6, .slice A7 x.f4.length c7, .int .i64 x.f5, .int .i64 x.f6]⟩) (t:=63) ?hr ?_;(case hd => rfl);(case hg => rfl);(case hr => first | (go_simp;done) | (go_simp;rfl));intro g hg w1 hbox hb;have LO_HB_g : Hid (w.heap.size ≤ g):=Lib.hid (by rw [hg];exact HB_0.out.size);have HEg:=Lib.hid hg;have HB_1:=Lib.hid (below_then HB_0.out HB_0.out.size hb);have Xg_1:=Lib.hid hbox;clear hg hbox hb))
  have y0 : w1.cell? ⟨g,4,none⟩ = some (.slice A4 x.f1.length c4):=blk_cell Xg_1.out 4
  go_wp2_with (first | (go_at_call 14;refine (laws_szFilterS.calls A4 c4 x.f1 m r4 w1 (Kd.C_below G4.out HB_1.out) L4.out E4.out).mono ?_;rintro e w2 ⟨rfl,hb0⟩;have hb:=hb0.below;have HB_2:=Lib.hid (below_then HB_1.out HB_1.out.size hb);have Xg_2:=Lib.hid (blk_below Xg_1.out hb);clear hb hb0))
  go_ret
  exact ⟨rfl,HB_2.out⟩
 ·rw [if_neg q4] at e4
  obtain ⟨r4,hr4⟩ : ∃ r4 : Int,r4 = m - (x.f1.length : Int):=⟨_,rfl⟩
  rw [← hr4] at e4
  have E4:=Lib.hid e4
  clear e4
  have c4' : decide (r4 < 0) = false:=decide_eq_false (by omega)
  obtain ⟨r5,e5,b5⟩:=szBoxS_sum x.f2 r4 hB.l2 hB.d2 (by omega) (by omega)
  obtain ⟨k5,e5⟩:=e5.rounds
  have E5:=Lib.hid e5
  clear e5
  rcases b5 with ⟨q5,rfl⟩ | b5
  ·refine ⟨-1, .inl rfl,fun w C hK => ?_⟩
   obtain ⟨A4,c4,A5,c5,A6,c6,A7,c7,rfl,l4,g4,l5,g5,l6,g6,l7,g7⟩:=k63_open hK
   have G4:=Lib.hid g4
   have G5:=Lib.hid g5
   have G6:=Lib.hid g6
   have G7:=Lib.hid g7
   have L4:=Lib.hid l4
   have L5:=Lib.hid l5
   have L6:=Lib.hid l6
   have L7:=Lib.hid l7
   have HB_0 : Hid (Below w.heap.size w w):=Lib.hid (Below.refl _ _)
   clear g4 g5 g6 g7 l4 l5 l6 l7 hK
   obtain ⟨r5,hr5⟩ : ∃ r5 : Int,r5 = -1:=⟨_,rfl⟩
   rw [← hr5] at E5
   have c5' : decide (r5 < 0) = true:=decide_eq_true (by omega)
   clear hr4 q4 h0 h1 hB q5 hr5
   go_enter Try.func32,Try.ntmps32
   go_upto_region 1 with (first | ((with_reducible refine gate_dst (N:=2) rfl ?_);refine box_event ?hg (N:=2) ?hd (cs:=⟨[.int .i64 x.f0.f0, .int .i64 x.f0.f1, .int .i64 x.f0.f2, .int .i64 x.f0.f3, .slice A4 x.f1.length c4, .slice A5 x.f2.length c5, .slice A6 x.f3.length c6, .slice A7 x.f4.length c7, .int .i64 x.f5, .int .i64 x.f6]⟩) (t:=63) ?hr ?_;(case hd => rfl);(case hg => rfl);(case hr => first | (go_simp;done) | (go_simp;rfl));intro g hg w1 hbox hb;have LO_HB_g : Hid (w.heap.size ≤ g):=Lib.hid (by rw [hg];exact HB_0.out.size);have HEg:=Lib.hid hg;have HB_1:=Lib.hid (below_then HB_0.out HB_0.out.size hb);have Xg_1:=Lib.hid hbox;clear hg hbox hb))
   have y0 : w1.cell? ⟨g,4,none⟩ = some (.slice A4 x.f1.length c4):=blk_cell Xg_1.out 4
   go_upto_region 4 with (first | (go_at_call 14;refine (laws_szFilterS.calls A4 c4 x.f1 m r4 w1 (Kd.C_below G4.out HB_1.out) L4.out E4.out).mono ?_;rintro e w2 ⟨rfl,hb0⟩;have hb:=hb0.below;have HB_2:=Lib.hid (below_then HB_1.out HB_1.out.size hb);have Xg_2:=Lib.hid (blk_below Xg_1.out hb);clear hb hb0))
   clear y0
   have y1 : w2.cell? ⟨g,5,none⟩ = some (.slice A5 x.f2.length c5):=blk_cell Xg_2.out 5
   go_wp2_with (first | (go_at_call 83;refine (laws_szBoxS.calls k5 A5 c5 x.f2 r4 r5 w2 (Kd.C_below G5.out HB_2.out) L5.out E5.out).mono ?_;rintro e w3 ⟨rfl,hb0⟩;have hb:=hb0;have HB_3:=Lib.hid (below_then HB_2.out HB_2.out.size hb);have Xg_3:=Lib.hid (blk_below Xg_2.out hb);clear hb hb0))
   go_ret
   exact ⟨rfl,HB_3.out⟩
  ·have c5' : decide (r5 < 0) = false:=decide_eq_false (by omega)
   obtain ⟨r6,e6,b6⟩:=szFrameS_sum x.f3 r5 hB.l3 hB.d3 (by omega) (by have:=dsumBox_nn x.f2 x.f2.length;omega)
   obtain ⟨k6,e6⟩:=e6.rounds
   have E6:=Lib.hid e6
   clear e6
   rcases b6 with ⟨q6,rfl⟩ | b6
   ·refine ⟨-1, .inl rfl,fun w C hK => ?_⟩
    obtain ⟨A4,c4,A5,c5,A6,c6,A7,c7,rfl,l4,g4,l5,g5,l6,g6,l7,g7⟩:=k63_open hK
    have G4:=Lib.hid g4
    have G5:=Lib.hid g5
    have G6:=Lib.hid g6
    have G7:=Lib.hid g7
    have L4:=Lib.hid l4
    have L5:=Lib.hid l5
    have L6:=Lib.hid l6
    have L7:=Lib.hid l7
    have HB_0 : Hid (Below w.heap.size w w):=Lib.hid (Below.refl _ _)
    clear g4 g5 g6 g7 l4 l5 l6 l7 hK
    obtain ⟨r6,hr6⟩ : ∃ r6 : Int,r6 = -1:=⟨_,rfl⟩
    rw [← hr6] at E6
    have c6' : decide (r6 < 0) = true:=decide_eq_true (by omega)
    clear hr4 q4 h0 h1 hB q6 hr6 b5
    go_enter Try.func32,Try.ntmps32
    go_upto_region 1 with (first | ((with_reducible refine gate_dst (N:=2) rfl ?_);refine box_event ?hg (N:=2) ?hd (cs:=⟨[.int .i64 x.f0.f0, .int .i64 x.f0.f1, .int .i64 x.f0.f2, .int .i64 x.f0.f3, .slice A4 x.f1.length c4, .slice A5 x.f2.length c5, .slice A6 x.f3.length c6, .slice A7 x.f4.length c7, .int .i64 x.f5, .int .i64 x.f6]⟩) (t:=63) ?hr ?_;(case hd => rfl);(case hg => rfl);(case hr => first | (go_simp;done) | (go_simp;rfl));intro g hg w1 hbox hb;have LO_HB_g : Hid (w.heap.size ≤ g):=Lib.hid (by rw [hg];exact HB_0.out.size);have HEg:=Lib.hid hg;have HB_1:=Lib.hid (below_then HB_0.out HB_0.out.size hb);have Xg_1:=Lib.hid hbox;clear hg hbox hb))
    have y0 : w1.cell? ⟨g,4,none⟩ = some (.slice A4 x.f1.length c4):=blk_cell Xg_1.out 4
    go_upto_region 4 with (first | (go_at_call 14;refine (laws_szFilterS.calls A4 c4 x.f1 m r4 w1 (Kd.C_below G4.out HB_1.out) L4.out E4.out).mono ?_;rintro e w2 ⟨rfl,hb0⟩;have hb:=hb0.below;have HB_2:=Lib.hid (below_then HB_1.out HB_1.out.size hb);have Xg_2:=Lib.hid (blk_below Xg_1.out hb);clear hb hb0))
    clear y0
    have y1 : w2.cell? ⟨g,5,none⟩ = some (.slice A5 x.f2.length c5):=blk_cell Xg_2.out 5
    go_upto_region 7 with (first | (go_at_call 83;refine (laws_szBoxS.calls k5 A5 c5 x.f2 r4 r5 w2 (Kd.C_below G5.out HB_2.out) L5.out E5.out).mono ?_;rintro e w3 ⟨rfl,hb0⟩;have hb:=hb0;have HB_3:=Lib.hid (below_then HB_2.out HB_2.out.size hb);have Xg_3:=Lib.hid (blk_below Xg_2.out hb);clear hb hb0))
    clear y1
    have y2 : w3.cell? ⟨g,6,none⟩ = some (.slice A6 x.f3.length c6):=blk_cell Xg_3.out 6
    go_wp2_with (first | (go_at_call 84;refine (laws_szFrameS.calls k6 A6 c6 x.f3 r5 r6 w3 (Kd.C_below G6.out HB_3.out) L6.out E6.out).mono ?_;rintro e w4 ⟨rfl,hb0⟩;have hb:=hb0;have HB_4:=Lib.hid (below_then HB_3.out HB_3.out.size hb);have Xg_4:=Lib.hid (blk_below Xg_3.out hb);clear hb hb0))
    go_ret
    exact ⟨rfl,HB_4.out⟩
   ·have c6' : decide (r6 < 0) = false:=decide_eq_false (by omega)
    obtain ⟨r7,e7,b7⟩:=szEventS_sum x.f4 r6 hB.l4 hB.d4 (by omega) (by have:=dsumBox_nn x.f2 x.f2.length;have:=dsumFrame_nn x.f3 x.f3.length;omega)
    obtain ⟨k7,e7⟩:=e7.rounds
    have E7:=Lib.hid e7
    clear e7
    rcases b7 with ⟨q7,rfl⟩ | b7
    ·refine ⟨-1, .inl rfl,fun w C hK => ?_⟩
     obtain ⟨A4,c4,A5,c5,A6,c6,A7,c7,rfl,l4,g4,l5,g5,l6,g6,l7,g7⟩:=k63_open hK
     have G4:=Lib.hid g4
     have G5:=Lib.hid g5
     have G6:=Lib.hid g6
     have G7:=Lib.hid g7
     have L4:=Lib.hid l4
     have L5:=Lib.hid l5
     have L6:=Lib.hid l6
     have L7:=Lib.hid l7
     have HB_0 : Hid (Below w.heap.size w w):=Lib.hid (Below.refl _ _)
     clear g4 g5 g6 g7 l4 l5 l6 l7 hK
     obtain ⟨r7,hr7⟩ : ∃ r7 : Int,r7 = -1:=⟨_,rfl⟩
     rw [← hr7] at E7
     have c7' : decide (r7 < 0) = true:=decide_eq_true (by omega)
     clear hr4 q4 h0 h1 hB q7 hr7 b5 b6
     go_enter Try.func32,Try.ntmps32
     go_upto_region 1 with (first | ((with_reducible refine gate_dst (N:=2) rfl ?_);refine box_event ?hg (N:=2) ?hd (cs:=⟨[.int .i64 x.f0.f0, .int .i64 x.f0.f1, .int .i64 x.f0.f2, .int .i64 x.f0.f3, .slice A4 x.f1.length c4, .slice A5 x.f2.length c5, .slice A6 x.f3.length c6, .slice A7 x.f4.length c7, .int .i64 x.f5, .int .i64 x.f6]⟩) (t:=63) ?hr ?_;(case hd => rfl);(case hg => rfl);(case hr => first | (go_simp;done) | (go_simp;rfl));intro g hg w1 hbox hb;have LO_HB_g : Hid (w.heap.size ≤ g):=Lib.hid (by rw [hg];exact HB_0.out.size);have HEg:=Lib.hid hg;have HB_1:=Lib.hid (below_then HB_0.out HB_0.out.size hb);have Xg_1:=Lib.hid hbox;clear hg hbox hb))
     have y0 : w1.cell? ⟨g,4,none⟩ = some (.slice A4 x.f1.length c4):=blk_cell Xg_1.out 4
     go_upto_region 4 with (first | (go_at_call 14;refine (laws_szFilterS.calls A4 c4 x.f1 m r4 w1 (Kd.C_below G4.out HB_1.out) L4.out E4.out).mono ?_;rintro e w2 ⟨rfl,hb0⟩;have hb:=hb0.below;have HB_2:=Lib.hid (below_then HB_1.out HB_1.out.size hb);have Xg_2:=Lib.hid (blk_below Xg_1.out hb);clear hb hb0))
     clear y0
     have y1 : w2.cell? ⟨g,5,none⟩ = some (.slice A5 x.f2.length c5):=blk_cell Xg_2.out 5
     go_upto_region 7 with (first | (go_at_call 83;refine (laws_szBoxS.calls k5 A5 c5 x.f2 r4 r5 w2 (Kd.C_below G5.out HB_2.out) L5.out E5.out).mono ?_;rintro e w3 ⟨rfl,hb0⟩;have hb:=hb0;have HB_3:=Lib.hid (below_then HB_2.out HB_2.out.size hb);have Xg_3:=Lib.hid (blk_below Xg_2.out hb);clear hb hb0))
     clear y1
     have y2 : w3.cell? ⟨g,6,none⟩ = some (.slice A6 x.f3.length c6):=blk_cell Xg_3.out 6
     go_upto_region 10 with (first | (go_at_call 84;refine (laws_szFrameS.calls k6 A6 c6 x.f3 r5 r6 w3 (Kd.C_below G6.out HB_3.out) L6.out E6.out).mono ?_;rintro e w4 ⟨rfl,hb0⟩;have hb:=hb0;have HB_4:=Lib.hid (below_then HB_3.out HB_3.out.size hb);have Xg_4:=Lib.hid (blk_below Xg_3.out hb);clear hb hb0))
     clear y2
     have y3 : w4.cell? ⟨g,7,none⟩ = some (.slice A7 x.f4.length c7):=blk_cell Xg_4.out 7
     go_wp2_with (first | (go_at_call 85;refine (laws_szEventS.calls k7 A7 c7 x.f4 r6 r7 w4 (Kd.C_below G7.out HB_4.out) L7.out E7.out).mono ?_;rintro e w5 ⟨rfl,hb0⟩;have hb:=hb0;have HB_5:=Lib.hid (below_then HB_4.out HB_4.out.size hb);have Xg_5:=Lib.hid (blk_below Xg_4.out hb);clear hb hb0))
     go_ret
     exact ⟨rfl,HB_5.out⟩
    ·have c7' : decide (r7 < 0) = false:=decide_eq_false (by omega)
     refine ⟨r7, .inr ⟨b7.1,by have:=dsumBox_nn x.f2 x.f2.length;have:=dsumFrame_nn x.f3 x.f3.length;have:=dsumEvent_nn x.f4 x.f4.length;omega,lfits_of x h1 hr4 (by omega) b5 b6 b7⟩,fun w C hK => ?_⟩
     obtain ⟨A4,c4,A5,c5,A6,c6,A7,c7,rfl,l4,g4,l5,g5,l6,g6,l7,g7⟩:=k63_open hK
     have G4:=Lib.hid g4
     have G5:=Lib.hid g5
     have G6:=Lib.hid g6
     have G7:=Lib.hid g7
     have L4:=Lib.hid l4
     have L5:=Lib.hid l5
     have L6:=Lib.hid l6
     have L7:=Lib.hid l7
     have HB_0 : Hid (Below w.heap.size w w):=Lib.hid (Below.refl _ _)
     clear g4 g5 g6 g7 l4 l5 l6 l7 hK
     clear hr4 q4 h0 h1 hB b5 b6 b7
     go_enter Try.func32,Try.ntmps32
     go_upto_region 1 with (first | ((with_reducible refine gate_dst (N:=2) rfl ?_);refine box_event ?hg (N:=2) ?hd (cs:=⟨[.int .i64 x.f0.f0, .int .i64 x.f0.f1, .int .i64 x.f0.f2, .int .i64 x.f0.f3, .slice A4 x.f1.length c4, .slice A5 x.f2.length c5, .slice A6 x.f3.length c6, .slice A7 x.f4.length c7, .int .i64 x.f5, .int .i64 x.f6]⟩) (t:=63) ?hr ?_;(case hd => rfl);(case hg => rfl);(case hr => first | (go_simp;done) | (go_simp;rfl));intro g hg w1 hbox hb;have LO_HB_g : Hid (w.heap.size ≤ g):=Lib.hid (by rw [hg];exact HB_0.out.size);have HEg:=Lib.hid hg;have HB_1:=Lib.hid (below_then HB_0.out HB_0.out.size hb);have Xg_1:=Lib.hid hbox;clear hg hbox hb))
     have y0 : w1.cell? ⟨g,4,none⟩ = some (.slice A4 x.f1.length c4):=blk_cell Xg_1.out 4
     go_upto_region 4 with (first | (go_at_call 14;refine (laws_szFilterS.calls A4 c4 x.f1 m r4 w1 (Kd.C_below G4.out HB_1.out) L4.out E4.out).mono ?_;rintro e w2 ⟨rfl,hb0⟩;have hb:=hb0.below;have HB_2:=Lib.hid (below_then HB_1.out HB_1.out.size hb);have Xg_2:=Lib.hid (blk_below Xg_1.out hb);clear hb hb0))
     clear y0
     have y1 : w2.cell? ⟨g,5,none⟩ = some (.slice A5 x.f2.length c5):=blk_cell Xg_2.out 5
     go_upto_region 7 with (first | (go_at_call 83;refine (laws_szBoxS.calls k5 A5 c5 x.f2 r4 r5 w2 (Kd.C_below G5.out HB_2.out) L5.out E5.out).mono ?_;rintro e w3 ⟨rfl,hb0⟩;have hb:=hb0;have HB_3:=Lib.hid (below_then HB_2.out HB_2.out.size hb);have Xg_3:=Lib.hid (blk_below Xg_2.out hb);clear hb hb0))
     clear y1
     have y2 : w3.cell? ⟨g,6,none⟩ = some (.slice A6 x.f3.length c6):=blk_cell Xg_3.out 6
     go_upto_region 10 with (first | (go_at_call 84;refine (laws_szFrameS.calls k6 A6 c6 x.f3 r5 r6 w3 (Kd.C_below G6.out HB_3.out) L6.out E6.out).mono ?_;rintro e w4 ⟨rfl,hb0⟩;have hb:=hb0;have HB_4:=Lib.hid (below_then HB_3.out HB_3.out.size hb);have Xg_4:=Lib.hid (blk_below Xg_3.out hb);clear hb hb0))
     clear y2
     have y3 : w4.cell? ⟨g,7,none⟩ = some (.slice A7 x.f4.length c7):=blk_cell Xg_4.out 7
     go_wp2_with (first | (go_at_call 85;refine (laws_szEventS.calls k7 A7 c7 x.f4 r6 r7 w4 (Kd.C_below G7.out HB_4.out) L7.out E7.out).mono ?_;rintro e w5 ⟨rfl,hb0⟩;have hb:=hb0;have HB_5:=Lib.hid (below_then HB_4.out HB_4.out.size hb);have Xg_5:=Lib.hid (blk_below Xg_4.out hb);clear hb hb0))
     go_ret
     exact ⟨rfl,HB_5.out⟩
end Go.Proofs.Ytcaefabbcjlkdaa.P
namespace Go.Proofs.Ytcaefabbcjlkdaa.P
open Go Go.RowKit Go.Proofs.YtcaefabbcjlkdaaW.PrintWords
set_option linter.unusedVariables false
structure HostP (w0 w : World) (p : Nat) (x : HV) (vf vb vq ve : Value) : Prop where
 bel : Below w0.heap.size w0 w
 blk : w.heap[p]? = some (.cells ⟨hostC x vf vb vq ve⟩ 32 (0,0))
 rows : ∃ o,HRows w w0.heap.size (fun _ => True) o x vf vb vq ve
 hp : w0.heap.size ≤ p
section
variable {w0 w we w1 w3 : World} {p : Nat} {x : HV} {vf vb vq ve : Value} {o : Nat → Nat}
theorem HostP.below (H : HostP w0 w p x vf vb vq ve) (hb : Below w.heap.size w we) : HostP w0 we p x vf vb vq ve:=by
 obtain ⟨h1,h2,⟨o,h4⟩,h5⟩:=H
 exact ⟨below_then h1 h1.size hb,blk_below h2 hb,⟨o,h4.below hb⟩,h5⟩
theorem host_other {cells : Array Value} (hb : w.heap[p]? = some (.cells cells 32 (0,0))) {k : Nat} (hk : Mine w w0.heap.size k) : k ≠ p:=hk.ne hb (by decide)
theorem keep_host {v : Value} (hT : Tch we w3 (fun k => k = p ∨ some k = v.ownBlock)) (H : HRows we w0.heap.size (fun _ => True) o x vf vb vq ve) {cells : Array Value} (hb : we.heap[p]? = some (.cells cells 32 (0,0))) {i : Nat} (hv : ∀ k,v.ownBlock = some k → o k = i) :
  ∀ k,(True ∧ Mine we w0.heap.size k) → o k ≠ i → k < we.heap.size → w3.heap[k]? = we.heap[k]?:=by
 intro k hk hn hl
 refine hT.block hl ?_
 rintro (e | e)
 ·exact host_other hb hk.2 e
 ·exact hn (hv k e.symm)
theorem HostP.newB {vb' : Value} {l : List S87} {x' : HV} (H : HostP w0 w p x vf vb vq ve) (HR : HRows w w0.heap.size (fun _ => True) o x vf vb vq ve) (hb : Below w.heap.size w we)
  (hT : Tch we w3 (fun k => k = p ∨ some k = vb.ownBlock)) (hx : w3.heap[p]? = some (.cells ⟨hostC x' vf vb' vq ve⟩ 32 (0,0))) (he : x' = { x with bs:=l })
  (hS : Kd.S k87 87 w3 w0.heap.size (fun k => (o k = 1 ∧ k < w.heap.size) ∨ w.heap.size ≤ k) vb' l) : HostP w0 w3 p x' vf vb' vq ve:=by
 subst he
 have HR1:=(reown HR 1).below hb
 have H':=H.below hb
 have hown : ∀ k,vb.ownBlock = some k → k < w.heap.size ∧ o k = 1:=fun k hk => ⟨Kd.S_lt HR.b k hk,(S_own_ok HR.b hk).2⟩
 have hw : ∀ k,(k = p ∨ some k = vb.ownBlock) → w0.heap.size ≤ k:=by
  rintro k (e | e)
  ·rw [e];exact H.hp
  ·exact Kd.S_base HR.b k e.symm
 obtain ⟨o',ho',HR2⟩:=HRows.newB (w1:=w3) (vb':=vb') (l:=l) HR1.bound (keep_host hT HR1 H'.blk (i:=1) (fun k hk => by show (if k < w.heap.size then o k else 1) = 1;rw [if_pos (hown k hk).1];exact (hown k hk).2))
  (Kd.S_mono (Kd.S_bound hS) (fun k hk => by
   by_cases c : k < we.heap.size
   ·left
    refine ⟨⟨trivial, ?_⟩, ?_⟩
    ·obtain ⟨h1,h2,h3,q,hq,cs,hc⟩:=hk
     have hq : q ∈ [87,5]:=hq
     by_cases e : k = p ∨ some k = vb.ownBlock
     ·rcases e with e | e
      ·subst e
       rw [hx] at hc
       injection hc with hc
       injection hc with _ hc _
       subst hc
       simp at hq
      ·obtain ⟨cs',hc'⟩:=Kd.S_typed HR1.b k e.symm
       exact ⟨h2,c,_, .inr (.inl rfl),cs',hc'⟩
     ·refine ⟨h2,c,q, ?_,cs,by rw [← hT.block c e];exact hc⟩
      rcases List.mem_cons.1 hq with e1 | e1
      ·exact .inr (.inl e1)
      ·exact .inr (.inr (.inr (.inr (List.mem_singleton.1 e1))))
    ·show (if k < w.heap.size then o k else 1) = 1
     rcases hk.1 with h | h
     ·rw [if_pos h.2];exact h.1
     ·rw [if_neg (by omega)]
   ·exact .inr (by omega)))
 exact ⟨hT.below (below_then H.bel H.bel.size hb) (Nat.le_trans H.bel.size hb.size) hw,hx,⟨o',HR2.mono (fun _ _ => trivial)⟩,H.hp⟩
theorem HostP.newQ {vq' : Value} {l : List S45} {x' : HV} (H : HostP w0 w p x vf vb vq ve) (HR : HRows w w0.heap.size (fun _ => True) o x vf vb vq ve) (hb : Below w.heap.size w we)
  (hT : Tch we w3 (fun k => k = p ∨ some k = vq.ownBlock)) (hx : w3.heap[p]? = some (.cells ⟨hostC x' vf vb vq' ve⟩ 32 (0,0))) (he : x' = { x with fr:=l })
  (hS : Kd.S k45 45 w3 w0.heap.size (fun k => (o k = 2 ∧ k < w.heap.size) ∨ w.heap.size ≤ k) vq' l) : HostP w0 w3 p x' vf vb vq' ve:=by
 subst he
 have HR1:=(reown HR 2).below hb
 have H':=H.below hb
 have hown : ∀ k,vq.ownBlock = some k → k < w.heap.size ∧ o k = 2:=fun k hk => ⟨Kd.S_lt HR.q k hk,(S_own_ok HR.q hk).2⟩
 have hw : ∀ k,(k = p ∨ some k = vq.ownBlock) → w0.heap.size ≤ k:=by
  rintro k (e | e)
  ·rw [e];exact H.hp
  ·exact Kd.S_base HR.q k e.symm
 obtain ⟨o',ho',HR2⟩:=HRows.newQ (w1:=w3) (vq':=vq') (l:=l) HR1.bound (keep_host hT HR1 H'.blk (i:=2) (fun k hk => by show (if k < w.heap.size then o k else 2) = 2;rw [if_pos (hown k hk).1];exact (hown k hk).2))
  (Kd.S_mono (Kd.S_bound hS) (fun k hk => by
   by_cases c : k < we.heap.size
   ·left
    refine ⟨⟨trivial, ?_⟩, ?_⟩
    ·obtain ⟨h1,h2,h3,q,hq,cs,hc⟩:=hk
     have hq : q ∈ [45,5]:=hq
     by_cases e : k = p ∨ some k = vq.ownBlock
     ·rcases e with e | e
      ·subst e
       rw [hx] at hc
       injection hc with hc
       injection hc with _ hc _
       subst hc
       simp at hq
      ·obtain ⟨cs',hc'⟩:=Kd.S_typed HR1.q k e.symm
       exact ⟨h2,c,_, .inr (.inr (.inl rfl)),cs',hc'⟩
     ·refine ⟨h2,c,q, ?_,cs,by rw [← hT.block c e];exact hc⟩
      rcases List.mem_cons.1 hq with e1 | e1
      ·exact .inr (.inr (.inl e1))
      ·exact .inr (.inr (.inr (.inr (List.mem_singleton.1 e1))))
    ·show (if k < w.heap.size then o k else 2) = 2
     rcases hk.1 with h | h
     ·rw [if_pos h.2];exact h.1
     ·rw [if_neg (by omega)]
   ·exact .inr (by omega)))
 exact ⟨hT.below (below_then H.bel H.bel.size hb) (Nat.le_trans H.bel.size hb.size) hw,hx,⟨o',HR2.mono (fun _ _ => trivial)⟩,H.hp⟩
theorem HostP.newE {ve' : Value} {l : List S56} {x' : HV} (H : HostP w0 w p x vf vb vq ve) (HR : HRows w w0.heap.size (fun _ => True) o x vf vb vq ve) (hb : Below w.heap.size w we)
  (hT : Tch we w3 (fun k => k = p ∨ some k = ve.ownBlock)) (hx : w3.heap[p]? = some (.cells ⟨hostC x' vf vb vq ve'⟩ 32 (0,0))) (he : x' = { x with ev:=l })
  (hS : Kd.S k56 56 w3 w0.heap.size (fun k => (o k = 3 ∧ k < w.heap.size) ∨ w.heap.size ≤ k) ve' l) : HostP w0 w3 p x' vf vb vq ve':=by
 subst he
 have HR1:=(reown HR 3).below hb
 have H':=H.below hb
 have hown : ∀ k,ve.ownBlock = some k → k < w.heap.size ∧ o k = 3:=fun k hk => ⟨Kd.S_lt HR.e k hk,(S_own_ok HR.e hk).2⟩
 have hw : ∀ k,(k = p ∨ some k = ve.ownBlock) → w0.heap.size ≤ k:=by
  rintro k (e | e)
  ·rw [e];exact H.hp
  ·exact Kd.S_base HR.e k e.symm
 obtain ⟨o',ho',HR2⟩:=HRows.newE (w1:=w3) (ve':=ve') (l:=l) HR1.bound (keep_host hT HR1 H'.blk (i:=3) (fun k hk => by show (if k < w.heap.size then o k else 3) = 3;rw [if_pos (hown k hk).1];exact (hown k hk).2))
  (Kd.S_mono (Kd.S_bound hS) (fun k hk => by
   by_cases c : k < we.heap.size
   ·left
    refine ⟨⟨trivial, ?_⟩, ?_⟩
    ·obtain ⟨h1,h2,h3,q,hq,cs,hc⟩:=hk
     have hq : q ∈ [56,5]:=hq
     by_cases e : k = p ∨ some k = ve.ownBlock
     ·rcases e with e | e
      ·subst e
       rw [hx] at hc
       injection hc with hc
       injection hc with _ hc _
       subst hc
       simp at hq
      ·obtain ⟨cs',hc'⟩:=Kd.S_typed HR1.e k e.symm
       exact ⟨h2,c,_, .inr (.inr (.inr (.inl rfl))),cs',hc'⟩
     ·refine ⟨h2,c,q, ?_,cs,by rw [← hT.block c e];exact hc⟩
      rcases List.mem_cons.1 hq with e1 | e1
      ·exact .inr (.inr (.inr (.inl e1)))
      ·exact .inr (.inr (.inr (.inr (List.mem_singleton.1 e1))))
    ·show (if k < w.heap.size then o k else 3) = 3
     rcases hk.1 with h | h
     ·rw [if_pos h.2];exact h.1
     ·rw [if_neg (by omega)]
   ·exact .inr (by omega)))
 exact ⟨hT.below (below_then H.bel H.bel.size hb) (Nat.le_trans H.bel.size hb.size) hw,hx,⟨o',HR2.mono (fun _ _ => trivial)⟩,H.hp⟩
end
section
variable {w0 w we w3 : World} {p : Nat} {x : HV} {vf vb vq ve : Value}
theorem HostP.setF {vf' : Value} {l : List S89} {x' : HV} (H : HostP w0 w p x vf vb vq ve) (hb : Below w.heap.size w we) (hT : Tch we w3 (fun k => k = p))
  (hx : w3.heap[p]? = some (.cells ⟨hostC x' vf' vb vq ve⟩ 32 (0,0))) (he : x' = { x with fs:=l }) (hS : (k89).R 89 we w0.heap.size (fun k => w.heap.size ≤ k) vf' l) : HostP w0 w3 p x' vf' vb vq ve:=by
 subst he
 have hpl:=blk_lt H.blk
 have H':=H.below hb
 obtain ⟨o,HR⟩:=H.rows
 have hS3:=Kd.R_step (w1:=w3) hS (fun k hk hl => hT.block hl (by omega))
 obtain ⟨o',ho',HR2⟩:=HRows.newF (w1:=w3) (vf':=vf') (l:=l) HR.bound (fun k hk hn hl => by rw [hT.block (Nat.lt_of_lt_of_le hl hb.size) (host_other H.blk hk.2),hb.block k hl]) (Kd.R_mono hS3 (fun k hk => .inr hk))
 exact ⟨hT.below H'.bel H'.bel.size (fun k hk => hk ▸ H.hp),hx,⟨o',HR2.mono (fun _ _ => trivial)⟩,H.hp⟩
theorem HostP.setB {vb' : Value} {l : List S87} {x' : HV} (H : HostP w0 w p x vf vb vq ve) (hb : Below w.heap.size w we) (hT : Tch we w3 (fun k => k = p))
  (hx : w3.heap[p]? = some (.cells ⟨hostC x' vf vb' vq ve⟩ 32 (0,0))) (he : x' = { x with bs:=l }) (hS : Kd.S k87 87 we w0.heap.size (fun k => w.heap.size ≤ k) vb' l) : HostP w0 w3 p x' vf vb' vq ve:=by
 subst he
 have hpl:=blk_lt H.blk
 have H':=H.below hb
 obtain ⟨o,HR⟩:=H.rows
 have hS3:=Kd.S_step (w1:=w3) hS (fun k hk hl => hT.block hl (by omega))
 obtain ⟨o',ho',HR2⟩:=HRows.newB (w1:=w3) (vb':=vb') (l:=l) HR.bound (fun k hk hn hl => by rw [hT.block (Nat.lt_of_lt_of_le hl hb.size) (host_other H.blk hk.2),hb.block k hl]) (Kd.S_mono hS3 (fun k hk => .inr hk))
 exact ⟨hT.below H'.bel H'.bel.size (fun k hk => hk ▸ H.hp),hx,⟨o',HR2.mono (fun _ _ => trivial)⟩,H.hp⟩
theorem HostP.setQ {vq' : Value} {l : List S45} {x' : HV} (H : HostP w0 w p x vf vb vq ve) (hb : Below w.heap.size w we) (hT : Tch we w3 (fun k => k = p))
  (hx : w3.heap[p]? = some (.cells ⟨hostC x' vf vb vq' ve⟩ 32 (0,0))) (he : x' = { x with fr:=l }) (hS : Kd.S k45 45 we w0.heap.size (fun k => w.heap.size ≤ k) vq' l) : HostP w0 w3 p x' vf vb vq' ve:=by
 subst he
 have hpl:=blk_lt H.blk
 have H':=H.below hb
 obtain ⟨o,HR⟩:=H.rows
 have hS3:=Kd.S_step (w1:=w3) hS (fun k hk hl => hT.block hl (by omega))
 obtain ⟨o',ho',HR2⟩:=HRows.newQ (w1:=w3) (vq':=vq') (l:=l) HR.bound (fun k hk hn hl => by rw [hT.block (Nat.lt_of_lt_of_le hl hb.size) (host_other H.blk hk.2),hb.block k hl]) (Kd.S_mono hS3 (fun k hk => .inr hk))
 exact ⟨hT.below H'.bel H'.bel.size (fun k hk => hk ▸ H.hp),hx,⟨o',HR2.mono (fun _ _ => trivial)⟩,H.hp⟩
theorem HostP.setE {ve' : Value} {l : List S56} {x' : HV} (H : HostP w0 w p x vf vb vq ve) (hb : Below w.heap.size w we) (hT : Tch we w3 (fun k => k = p))
  (hx : w3.heap[p]? = some (.cells ⟨hostC x' vf vb vq ve'⟩ 32 (0,0))) (he : x' = { x with ev:=l }) (hS : Kd.S k56 56 we w0.heap.size (fun k => w.heap.size ≤ k) ve' l) : HostP w0 w3 p x' vf vb vq ve':=by
 subst he
 have hpl:=blk_lt H.blk
 have H':=H.below hb
 obtain ⟨o,HR⟩:=H.rows
 have hS3:=Kd.S_step (w1:=w3) hS (fun k hk hl => hT.block hl (by omega))
 obtain ⟨o',ho',HR2⟩:=HRows.newE (w1:=w3) (ve':=ve') (l:=l) HR.bound (fun k hk hn hl => by rw [hT.block (Nat.lt_of_lt_of_le hl hb.size) (host_other H.blk hk.2),hb.block k hl]) (Kd.S_mono hS3 (fun k hk => .inr hk))
 exact ⟨hT.below H'.bel H'.bel.size (fun k hk => hk ▸ H.hp),hx,⟨o',HR2.mono (fun _ _ => trivial)⟩,H.hp⟩
end
end Go.Proofs.Ytcaefabbcjlkdaa.P
namespace Go.Proofs.Ytcaefabbcjlkdaa.P
open Go Go.RowKit Go.Proofs.YtcaefabbcjlkdaaW.PrintWords Go.Proofs.YtcaefabbcjlkdaaW.PrintLast
set_option linter.unusedVariables false
section
variable {P : Program} {ops : Array Oper} {oi : Oper} {a : Act} {W : World} {K : Act → World → Prop} {Q : Exit → Act → World → Prop}
theorem st_blk (hw : Region.wanted oi (yielded ops a.tmps) = true) (hN : oi.dst = none) {t : TypeId} {p : Operand} {v : Operand} (ho : oi.op = .store t p v) {g j : Nat} {cs cs' : Array Value} {T : TypeId} {u : Value} {seg : List Value}
  (hp : a.eval p = .pointer (some ⟨g,j,none⟩)) (hv : a.eval v = u) (hb : W.heap[g]? = some (.cells cs T (0,0))) (hu : u.cells.toList = seg) (ht : (P.info? t).map (·.size) = some seg.length) (h1 : seg.all (·.oneCell') = true) (hj' : Nat.ble (j + seg.length) cs.size = true)
  (hcs : (cs.toList.take j ++ seg ++ cs.toList.drop (j + seg.length)).toArray = cs') (h : ∀ w',w'.heap[g]? = some (.cells cs' T (0,0)) → Tch W w' (fun k => k = g) → K a w') :
  if Region.wanted oi (yielded ops a.tmps) = true then Oper.wp P oi a W K Q else K (a.put none undef) W:=by
 have hj : j + seg.length ≤ cs.size:=Nat.le_of_ble_eq_true hj'
 have hrun:=run_store_run (P:=P) (o:=j) t u seg hb hu ht hj (List.all_eq_true.1 h1)
 refine skip_ hw hN ?_ (h _ ?_ (tch_setCells W g seg j))
 ·unfold execOp
  simp only [ho,hp,hv,Sem.run_bind,Sem.run_pure,Result.andThen_ok,hrun]
 ·rw [setCells_obj seg j W cs hb hj,hcs]
theorem put_one (cs : Array Value) (j : Nat) (u : Value) (hj : j < cs.size) : (cs.toList.take j ++ [u] ++ cs.toList.drop (j + [u].length)).toArray = cs.setIfInBounds j u:=by
 have hl : cs.toList.length = cs.size:=Array.length_toList
 apply Array.ext'
 rw [Array.toList_setIfInBounds,List.append_assoc,List.singleton_append,List.length_singleton,List.set_eq_take_append_cons_drop,if_pos (by omega)]
theorem st_one (hw : Region.wanted oi (yielded ops a.tmps) = true) (hN : oi.dst = none) {t : TypeId} {p : Operand} {v : Operand} (ho : oi.op = .store t p v) {g j : Nat} {cs : Array Value} {T : TypeId} {u u0 : Value}
  (hp : a.eval p = .pointer (some ⟨g,j,none⟩)) (hv : a.eval v = u) (hb : W.heap[g]? = some (.cells cs T (0,0))) (hu : u.cells.toList = [u]) (ht : (P.info? t).map (·.size) = some 1) (h1 : u.oneCell' = true) (hj : cs[j]? = some u0)
  (h : ∀ w',w'.heap[g]? = some (.cells (cs.setIfInBounds j u) T (0,0)) → Tch W w' (fun k => k = g) → K a w') :
  if Region.wanted oi (yielded ops a.tmps) = true then Oper.wp P oi a W K Q else K (a.put none undef) W:=by
 have hlt : j < cs.size:=(Array.getElem?_eq_some_iff.1 hj).1
 exact st_blk hw hN ho (seg := [u]) hp hv hb hu ht (by simp [h1]) (Nat.ble_eq_true_of_le hlt) (put_one cs j u hlt) h
end
end Go.Proofs.Ytcaefabbcjlkdaa.P
namespace Go.Proofs.Ytcaefabbcjlkdaa.P
open Go Go.RowKit Go.Proofs.YtcaefabbcjlkdaaW.PrintWords Go.Proofs.YtcaefabbcjlkdaaW.PrintLast Go.Proofs.YtcaefabbcjlkdaaW.PrintMore
set_option linter.unusedVariables false
set_option linter.unusedSimpArgs false
set_option maxRecDepth 100000 in
set_option maxHeartbeats 4000000 in
theorem pushE_v (w0 w : World) (p j : Nat) (cs : Array Value) (T : TypeId) (lim : Int) (v : Value) (l : List S56) (x : S56) (C : List Value) (okv okx : Nat → Prop)
  (hB : Below w0.heap.size w0 w) (hp : w.heap[p]? = some (.cells cs T (0,0))) (hpB : w0.heap.size ≤ p) (hT : T ≠ 56 ∧ T ≠ 5) (h0 : cs[j]? = some (.int .i64 lim)) (h1 : cs[j + 1]? = some v) (hl : 0 ≤ lim ∧ lim ≤ 100000) (hln : l.length ≤ 100000)
  (HS : Kd.S k56 56 w w0.heap.size okv v l) (HX : k56.M w w0.heap.size okx x C) (hd : ∀ k,okx k → ¬ okv k) :
  Calls Try.prog 140 #[.pointer (some ⟨p,j,none⟩), .agg ⟨C⟩] w fun e w' =>
   ((l.length : Int) < lim → e = .returned (.bool true) ∧ ∃ v',w'.heap[p]? = some (.cells (cs.setIfInBounds (j + 1) v') T (0,0)) ∧ Kd.S k56 56 w' w0.heap.size (fun k => okv k ∨ okx k ∨ w.heap.size ≤ k) v' (l ++ [x]) ∧ Tch w w' (fun k => k = p ∨ some k = v.ownBlock)) ∧
   (lim ≤ (l.length : Int) → e = .returned (.bool false) ∧ Below w.heap.size w w'):=by
 obtain ⟨A,c,rfl⟩:=Kd.S_slice HS
 have HLN:=Lib.hid hln
 clear hln
 obtain ⟨v7,rfl,g7⟩:=k56_openM HX
 obtain ⟨A7,c7,rfl⟩:=Kd.R_slice g7
 clear g7
 have HP:=Lib.hid hp
 have HI : Hid ((Try.prog.info? 56).map (·.size) = some 8):=Lib.hid (by kernel_rfl)
 have hu:=Lib.hid Try.underlying56
 have H0:=Lib.hid h0
 have H1:=Lib.hid h1
 have HSS:=Lib.hid HS
 have HXX:=Lib.hid HX
 have HL:=Lib.hid hl
 have HB:=Lib.hid hB
 have HPB:=Lib.hid hpB
 have HTT:=Lib.hid hT
 have HD:=Lib.hid hd
 clear hp h0 h1 HS HX hl hB hpB hT hd
 go_enter Try.func140,Try.ntmps140
 go_upto_region 1 with (first | ((with_reducible refine gate_dst (N:=3) rfl ?_);refine box_event ?hg (N:=3) ?hd (cs:=⟨[.int .i64 x.f0, .int .i64 x.f1, .int .i64 x.f2, .bool x.f3.f0, .int .u32 x.f3.f1, .bool x.f3.f2, .int .i64 x.f3.f3, .slice A7 x.f3.f4.length c7]⟩) (t:=56) ?hr ?_;(case hd => rfl);(case hg => rfl);(case hr => first | (go_simp;done) | (go_simp;rfl));intro g hg w1 hbox hb;have HG:=Lib.hid hg;have HX1:=Lib.hid hbox;have HB1:=Lib.hid hb;clear hg hbox hb))
 have HP1:=Lib.hid (blk_below HP.out HB1.out)
 obtain ⟨wd,hwd⟩ : ∃ wd,wd = w1.drew:=⟨_,rfl⟩
 have HPd : Hid (wd.heap[p]? = some (.cells cs T (0,0))):=by rw [hwd];exact Lib.hid (blk_drew HP1.out)
 have HGd : Hid (wd.heap[g]? = some (.cells ⟨[.int .i64 x.f0, .int .i64 x.f1, .int .i64 x.f2, .bool x.f3.f0, .int .u32 x.f3.f1, .bool x.f3.f2, .int .i64 x.f3.f3, .slice A7 x.f3.f4.length c7]⟩ 56 (0,0))):=by rw [hwd];exact Lib.hid (blk_drew HX1.out)
 have HTd : Hid (Below w.heap.size w wd):=by rw [hwd];exact Lib.hid (below_drew HB1.out)
 refine start_ (n:=12) (S:=fun w' : World => w'.heap[p]? = some (.cells cs T (0,0))) (ds := []) #[false,false,false,false,false,false,false,false,false,false,false,false] (by kernel_rfl) rfl rfl (hwd ▸ HPd.out) (fun hHeld => ?_)
 rw [← hwd] at hHeld ⊢
 clear hwd
 refine pure_ (i:=0) (N:=some 5) (v := ?_) (a' := ?_) #[true,false,false,false,false,false,false,false,false,false,false,false] rfl rfl (by kernel_rfl) (fun _ _ _ h => h) (Or.inl ⟨by rfl, ?_⟩) ?_ ?_
 rotate_left
 ·intro w'
  go_simp
  with_reducible rfl
 rotate_left
 ·simp only [Act.put,List.setIfInBounds_toArray,List.set_cons_zero,List.set_cons_succ,i64_w,i32_w]
  rfl
 refine pure_ (i:=1) (N:=some 6) (v := ?_) (a' := ?_) #[true,true,false,false,false,false,false,false,false,false,false,false] rfl rfl (by kernel_rfl) (fun _ _ _ h => h) (Or.inl ⟨by rfl, ?_⟩) ?_ ?_
 rotate_left
 ·intro w'
  go_simp
  with_reducible rfl
 rotate_left
 ·simp only [Act.put,List.setIfInBounds_toArray,List.set_cons_zero,List.set_cons_succ,i64_w,i32_w]
  rfl
 refine pure_ (i:=2) (N:=some 7) (v := ?_) (a' := ?_) #[true,true,true,false,false,false,false,false,false,false,false,false] rfl rfl (by kernel_rfl) (fun _ _ _ h => h) (Or.inl ⟨by rfl, ?_⟩) ?_ ?_
 rotate_left
 ·intro w'
  go_simp
  with_reducible rfl
 rotate_left
 ·simp only [Act.put,List.setIfInBounds_toArray,List.set_cons_zero,List.set_cons_succ,i64_w,i32_w]
  rfl
 refine take_ (i:=3) (N:=some 8) (v := ?_) (a' := ?_) #[true,true,true,true,false,false,false,false,false,false,false,false] rfl rfl (by kernel_rfl) (fun _ _ _ h => h) (Or.inl ⟨by rfl, ?_⟩) hHeld ?_ ?_
 rotate_left
 ·intro w' s0
  have e0 : w'.cell? ⟨p,j,none⟩ = some (.int .i64 lim):=(blk_cell s0 j).trans H0.out
  go_simp
  with_reducible rfl
 rotate_left
 ·simp only [Act.put,List.setIfInBounds_toArray,List.set_cons_zero,List.set_cons_succ,i64_w,i32_w]
  rfl
 refine pure_ (i:=4) (N:=some 9) (v := ?_) (a' := ?_) #[true,true,true,true,true,false,false,false,false,false,false,false] rfl rfl (by kernel_rfl) (fun _ _ _ h => h) (Or.inl ⟨by rfl, ?_⟩) ?_ ?_
 rotate_left
 ·intro w'
  go_simp
  with_reducible rfl
 rotate_left
 ·simp only [Act.put,List.setIfInBounds_toArray,List.set_cons_zero,List.set_cons_succ,i64_w,i32_w]
  rfl
 refine pure_ (i:=5) (N:=some 10) (v := ?_) (a' := ?_) #[true,true,true,true,true,true,false,false,false,false,false,false] rfl rfl (by kernel_rfl) (fun _ _ _ h => h) (Or.inl ⟨by rfl, ?_⟩) ?_ ?_
 rotate_left
 ·intro w'
  go_simp
  with_reducible rfl
 rotate_left
 ·simp only [Act.put,List.setIfInBounds_toArray,List.set_cons_zero,List.set_cons_succ,i64_w,i32_w]
  rfl
 refine pure_ (i:=6) (N:=some 11) (v := ?_) (a' := ?_) #[true,true,true,true,true,true,true,false,false,false,false,false] rfl rfl (by kernel_rfl) (fun _ _ _ h => h) (Or.inl ⟨by rfl, ?_⟩) ?_ ?_
 rotate_left
 ·intro w'
  go_simp
  with_reducible rfl
 rotate_left
 ·simp only [Act.put,List.setIfInBounds_toArray,List.set_cons_zero,List.set_cons_succ,i64_w,i32_w]
  rfl
 refine take_ (i:=7) (N:=some 12) (v := ?_) (a' := ?_) #[true,true,true,true,true,true,true,true,false,false,false,false] rfl rfl (by kernel_rfl) (fun _ _ _ h => h) (Or.inl ⟨by rfl, ?_⟩) hHeld ?_ ?_
 rotate_left
 ·intro w' s0
  have e0 : w'.cell? ⟨p,j + 1,none⟩ = some (.slice A l.length c):=(blk_cell s0 (j + 1)).trans H1.out
  go_simp
  with_reducible rfl
 rotate_left
 ·simp only [Act.put,List.setIfInBounds_toArray,List.set_cons_zero,List.set_cons_succ,i64_w,i32_w]
  rfl
 refine pure_ (i:=8) (N:=some 13) (v := ?_) (a' := ?_) #[true,true,true,true,true,true,true,true,true,false,false,false] rfl rfl (by kernel_rfl) (fun _ _ _ h => h) (Or.inl ⟨by rfl, ?_⟩) ?_ ?_
 rotate_left
 ·intro w'
  go_simp
  with_reducible rfl
 rotate_left
 ·simp only [Act.put,List.setIfInBounds_toArray,List.set_cons_zero,List.set_cons_succ,i64_w,i32_w]
  rfl
 refine pure_ (i:=9) (N:=some 14) (v := ?_) (a' := ?_) #[true,true,true,true,true,true,true,true,true,true,false,false] rfl rfl (by kernel_rfl) (fun _ _ _ h => h) (Or.inl ⟨by rfl, ?_⟩) ?_ ?_
 rotate_left
 ·intro w'
  go_simp
  with_reducible rfl
 rotate_left
 ·simp only [Act.put,List.setIfInBounds_toArray,List.set_cons_zero,List.set_cons_succ,i64_w,i32_w]
  rfl
 refine pure_ (i:=10) (N:=some 15) (v := ?_) (a' := ?_) #[true,true,true,true,true,true,true,true,true,true,true,false] rfl rfl (by kernel_rfl) (fun _ _ _ h => h) (Or.inl ⟨by rfl, ?_⟩) ?_ ?_
 rotate_left
 ·intro w'
  go_simp
  with_reducible rfl
 rotate_left
 ·simp only [Act.put,List.setIfInBounds_toArray,List.set_cons_zero,List.set_cons_succ,i64_w,i32_w]
  rfl
 refine pure_ (i:=11) (N:=some 16) (v := ?_) (a' := ?_) #[true,true,true,true,true,true,true,true,true,true,true,true] rfl rfl (by kernel_rfl) (fun _ _ _ h => h) (Or.inl ⟨by rfl, ?_⟩) ?_ ?_
 rotate_left
 ·intro w'
  go_simp
  with_reducible rfl
 rotate_left
 ·simp only [Act.put,List.setIfInBounds_toArray,List.set_cons_zero,List.set_cons_succ,i64_w,i32_w]
  rfl
 refine done_ (by kernel_rfl) ?_
 by_cases c : (l.length : Int) < lim
 ·have hw : wrap64 (lim - (l.length : Int)) = lim - l.length:=by have:=HL.out;have:=HLN.out;unfold wrap64;omega
  have e0 : (if 0 < wrap64 (lim - (l.length : Int)) then wrap64 (lim - (l.length : Int)) else 0) = lim - l.length:=by rw [hw,if_pos (by omega)]
  have e : (lim - (l.length : Int) == 0) = false:=beq_eq_false_iff_ne.2 (by omega)
  rw [e0,e]
  clear e e0 hw
  have hLL : Hid (l.length < 100000):=Lib.hid (by have:=HL.out;omega)
  have c':=Lib.hid c
  clear c
  try go_wp2
  obtain ⟨we,hwe⟩ : ∃ we,we = wd.drew:=⟨_,rfl⟩
  have HPe : Hid (we.heap[p]? = some (.cells cs T (0,0))):=by rw [hwe];exact Lib.hid (blk_drew HPd.out)
  have HGe : Hid (we.heap[g]? = some (.cells ⟨[.int .i64 x.f0, .int .i64 x.f1, .int .i64 x.f2, .bool x.f3.f0, .int .u32 x.f3.f1, .bool x.f3.f2, .int .i64 x.f3.f3, .slice A7 x.f3.f4.length c7]⟩ 56 (0,0))):=by rw [hwe];exact Lib.hid (blk_drew HGd.out)
  have HTe : Hid (Below w.heap.size w we):=by rw [hwe];exact Lib.hid (below_drew HTd.out)
  refine start_ (n:=11) (S:=fun w' : World => w'.heap[p]? = some (.cells cs T (0,0)) ∧ w'.heap[g]? = some (.cells ⟨[.int .i64 x.f0, .int .i64 x.f1, .int .i64 x.f2, .bool x.f3.f0, .int .u32 x.f3.f1, .bool x.f3.f2, .int .i64 x.f3.f3, .slice A7 x.f3.f4.length c7]⟩ 56 (0,0))) (ds := [10]) #[false,false,false,false,false,false,false,false,false,false,false] (by kernel_rfl) rfl rfl (hwe ▸ ⟨HPe.out,HGe.out⟩) (fun hHeld => ?_)
  rw [← hwe] at hHeld ⊢
  clear hwe
  refine pure_ (i:=0) (N:=some 17) (v := ?_) (a' := ?_) #[true,false,false,false,false,false,false,false,false,false,false] rfl rfl (by kernel_rfl) (fun _ _ _ h => h) (Or.inl ⟨by rfl, ?_⟩) ?_ ?_
  rotate_left
  ·intro w'
   go_simp
   with_reducible rfl
  rotate_left
  ·simp only [Act.put,List.setIfInBounds_toArray,List.set_cons_zero,List.set_cons_succ,i64_w,i32_w]
   rfl
  refine pure_ (i:=1) (N:=some 18) (v := ?_) (a' := ?_) #[true,true,false,false,false,false,false,false,false,false,false] rfl rfl (by kernel_rfl) (fun _ _ _ h => h) (Or.inl ⟨by rfl, ?_⟩) ?_ ?_
  rotate_left
  ·intro w'
   go_simp
   with_reducible rfl
  rotate_left
  ·simp only [Act.put,List.setIfInBounds_toArray,List.set_cons_zero,List.set_cons_succ,i64_w,i32_w]
   rfl
  refine pure_ (i:=2) (N:=some 19) (v := ?_) (a' := ?_) #[true,true,true,false,false,false,false,false,false,false,false] rfl rfl (by kernel_rfl) (fun _ _ _ h => h) (Or.inl ⟨by rfl, ?_⟩) ?_ ?_
  rotate_left
  ·intro w'
   go_simp
   with_reducible rfl
  rotate_left
  ·simp only [Act.put,List.setIfInBounds_toArray,List.set_cons_zero,List.set_cons_succ,i64_w,i32_w]
   rfl
  refine pure_ (i:=3) (N:=some 20) (v := ?_) (a' := ?_) #[true,true,true,true,false,false,false,false,false,false,false] rfl rfl (by kernel_rfl) (fun _ _ _ h => h) (Or.inl ⟨by rfl, ?_⟩) ?_ ?_
  rotate_left
  ·intro w'
   go_simp
   with_reducible rfl
  rotate_left
  ·simp only [Act.put,List.setIfInBounds_toArray,List.set_cons_zero,List.set_cons_succ,i64_w,i32_w]
   rfl
  refine take_ (i:=4) (N:=some 21) (v := ?_) (a' := ?_) #[true,true,true,true,true,false,false,false,false,false,false] rfl rfl (by kernel_rfl) (fun _ _ _ h => h) (Or.inl ⟨by rfl, ?_⟩) hHeld ?_ ?_
  rotate_left
  ·rintro w' ⟨s0,s1⟩
   have e0 : w'.cell? ⟨p,j + 1,none⟩ = some (.slice A l.length c):=(blk_cell s0 (j + 1)).trans H1.out
   go_simp
   with_reducible rfl
  rotate_left
  ·simp only [Act.put,List.setIfInBounds_toArray,List.set_cons_zero,List.set_cons_succ,i64_w,i32_w]
   rfl
  refine take_ (i:=5) (N:=some 22) (v := ?_) (a' := ?_) #[true,true,true,true,true,true,false,false,false,false,false] rfl rfl (by kernel_rfl) (fun _ _ _ h => h) (Or.inl ⟨by rfl, ?_⟩) hHeld ?_ ?_
  rotate_left
  ·rintro w' ⟨s0,s1⟩
   have e0 : w'.cell? ⟨g,0,none⟩ = some (.int .i64 x.f0):=blk_cell s1 0
   have e1 : w'.cell? ⟨g,1,none⟩ = some (.int .i64 x.f1):=blk_cell s1 1
   have e2 : w'.cell? ⟨g,2,none⟩ = some (.int .i64 x.f2):=blk_cell s1 2
   have e3 : w'.cell? ⟨g,3,none⟩ = some (.bool x.f3.f0):=blk_cell s1 3
   have e4 : w'.cell? ⟨g,4,none⟩ = some (.int .u32 x.f3.f1):=blk_cell s1 4
   have e5 : w'.cell? ⟨g,5,none⟩ = some (.bool x.f3.f2):=blk_cell s1 5
   have e6 : w'.cell? ⟨g,6,none⟩ = some (.int .i64 x.f3.f3):=blk_cell s1 6
   have e7 : w'.cell? ⟨g,7,none⟩ = some (.slice A7 x.f3.f4.length c7):=blk_cell s1 7
   go_simp
   with_reducible rfl
  rotate_left
  ·simp only [Act.put,List.setIfInBounds_toArray,List.set_cons_zero,List.set_cons_succ,i64_w,i32_w]
   rfl
  refine one_ (i:=6) (N:=some 23) #[true,true,true,true,true,true,true,false,false,false,false] rfl rfl (by kernel_rfl) (by decide) (fun K hK => ?_)
  refine value_ (w1 := ?_) (v := ?_) (by rfl) rfl ?_ ?_
  rotate_left 2
  ·go_simp
   constructor
   ·rfl
   ·rfl
  refine hK.out _ _ ⟨blk_alloc HPe.out _,blk_alloc HGe.out _⟩ (fun hHeld => ?_)
  clear hK K
  refine norm_ (a' := ?_) ?_ ?_
  rotate_left
  ·show Act.put _ (some 23) _ = _
   simp only [Act.put,List.setIfInBounds_toArray,List.set_cons_zero,List.set_cons_succ,i64_w,i32_w]
   rfl
  refine one_ (i:=7) (N:=some 24) #[true,true,true,true,true,true,true,true,false,false,false] rfl rfl (by kernel_rfl) (by decide) (fun K hK => ?_)
  refine Kd.S_append_step k56 (w0:=w0) w0.heap.size (by rfl) (.tmp 21) (.tmp 23) 30 56 (.agg #[(.int .i64 0),(.int .i64 0),(.int .i64 0),(.bool false),(.int .u32 0),(.bool false),(.int .i64 0),(.slice none 0 0)]) 72 rfl Try.underlying30 info56 rfl (by decide) (by omega) (.slice A l.length c) l x [.int .i64 x.f0, .int .i64 x.f1, .int .i64 x.f2, .bool x.f3.f0, .int .u32 x.f3.f1, .bool x.f3.f2, .int .i64 x.f3.f3, .slice A7 x.f3.f4.length c7] (fun k => okv k ∨ okx k ∨ w.heap.size ≤ k) okx rfl rfl ?aP ?aK ?aF ?aO ?aB ?aS ?aL ?_
  (case aP => exact Kd.M_below HXX.out HTe.out)
  (case aK => exact fun k hk => ⟨.inr (.inl hk),fun e => HD.out k hk (S_own_ok HSS.out e.symm)⟩)
  (case aF => exact fun k hk => .inr (.inr (Nat.le_trans HTe.out.size hk)))
  (case aO => exact Kd.S_mono (Kd.S_below HSS.out HTe.out) (fun k hk => ⟨.inl hk,fun h => HD.out k h hk⟩))
  (case aB => exact below_then HB.out HB.out.size HTe.out)
  (case aS => exact Nat.le_trans HB.out.size HTe.out.size)
  (case aL => have:=hLL.out;omega)
  intro v1 w2 hS hb hg hat
  have hnp : some p ≠ (Value.slice A l.length c).ownBlock:=Kd.S_ne HSS.out HP.out (fun e => HTT.out.1 e.symm)
  have hng : some g ≠ (Value.slice A l.length c).ownBlock:=fun e => by have h1:=Kd.S_lt HSS.out g e.symm;have h2:=HG.out;omega
  have HP2:=Lib.hid (blk_grown (g:=p) HPe.out hg hnp)
  have HG2:=Lib.hid (blk_grown (g:=g) HGe.out hg hng)
  have HS2:=Lib.hid hS
  have HT2:=Lib.hid (((Tch.of_below (fun k => k = p ∨ some k = (Value.slice A l.length c).ownBlock) HTe.out)).grown hg (fun k e => .inl (.inr e.symm)))
  clear hS hb hg hat hnp hng
  obtain ⟨A1,c1,rfl⟩:=Kd.S_slice HS2.out
  refine hK.out _ _ ⟨HP2.out,HG2.out⟩ (fun hHeld => ?_)
  clear hK K
  refine norm_ (a' := ?_) ?_ ?_
  rotate_left
  ·show Act.put _ (some 24) _ = _
   simp only [Act.put,List.setIfInBounds_toArray,List.set_cons_zero,List.set_cons_succ,i64_w,i32_w]
   rfl
  refine pure_ (i:=8) (N:=some 25) (v := ?_) (a' := ?_) #[true,true,true,true,true,true,true,true,true,false,false] rfl rfl (by kernel_rfl) (fun _ _ _ h => h) (Or.inl ⟨by rfl, ?_⟩) ?_ ?_
  rotate_left
  ·intro w'
   go_simp
   with_reducible rfl
  rotate_left
  ·simp only [Act.put,List.setIfInBounds_toArray,List.set_cons_zero,List.set_cons_succ,i64_w,i32_w]
   rfl
  refine pure_ (i:=9) (N:=some 26) (v := ?_) (a' := ?_) #[true,true,true,true,true,true,true,true,true,true,false] rfl rfl (by kernel_rfl) (fun _ _ _ h => h) (Or.inl ⟨by rfl, ?_⟩) ?_ ?_
  rotate_left
  ·intro w'
   go_simp
   with_reducible rfl
  rotate_left
  ·simp only [Act.put,List.setIfInBounds_toArray,List.set_cons_zero,List.set_cons_succ,i64_w,i32_w]
   rfl
  refine last_ (i:=10) (N:=none) #[true,true,true,true,true,true,true,true,true,true,true] rfl rfl (by kernel_rfl) (by decide) (fun K hK => ?_)
  refine st_one (by rfl) rfl rfl (g:=p) (j:=j + 1) (cs:=cs) (T:=T) (u := .slice A1 (l ++ [x]).length c1) (u0 := .slice A l.length c) rfl rfl HP2.out rfl (by kernel_rfl) rfl H1.out ?_
  intro w3 hx3 hT3
  have HP3:=Lib.hid hx3
  have HS3:=Lib.hid (S_tch HS2.out HP2.out (by intro q hq;have hq : q ∈ [56,5]:=hq;rcases List.mem_cons.1 hq with rfl | hq;exact fun e => HTT.out.1 e.symm;rw [List.mem_singleton.1 hq];exact fun e => HTT.out.2 e.symm) hT3)
  have HT3:=Lib.hid (HT2.out.trans (hT3.mono (fun k hk => .inl hk)))
  clear hx3 hT3
  refine hK.out _ _ ?_
  clear hK K
  refine done_ (by kernel_rfl) ?_
  go_wp2_with (fail)
  go_ret
  exact ⟨fun _ => ⟨rfl,_,HP3.out,HS3.out,HT3.out⟩,fun h => absurd h (by have:=c'.out;omega)⟩
 ·have hw : wrap64 (lim - (l.length : Int)) = lim - l.length:=by have:=HL.out;have:=HLN.out;unfold wrap64;omega
  have e0 : (if 0 < wrap64 (lim - (l.length : Int)) then wrap64 (lim - (l.length : Int)) else 0) = 0:=by rw [hw,if_neg (by omega)]
  have e : ((0 : Int) == 0) = true:=rfl
  rw [e0,e]
  clear e e0 hw
  have c':=Lib.hid c
  clear c
  go_wp2_with (fail)
  go_ret
  exact ⟨fun h => by have:=c'.out;omega,fun _ => ⟨rfl,HTd.out⟩⟩
set_option maxRecDepth 100000 in
set_option maxHeartbeats 4000000 in
theorem pushQ_v (w0 w : World) (p j : Nat) (cs : Array Value) (T : TypeId) (lim : Int) (v : Value) (l : List S45) (x : S45) (C : List Value) (okv okx : Nat → Prop)
  (hB : Below w0.heap.size w0 w) (hp : w.heap[p]? = some (.cells cs T (0,0))) (hpB : w0.heap.size ≤ p) (hT : T ≠ 45 ∧ T ≠ 5) (h0 : cs[j]? = some (.int .i64 lim)) (h1 : cs[j + 1]? = some v) (hl : 0 ≤ lim ∧ lim ≤ 100000) (hln : l.length ≤ 100000)
  (HS : Kd.S k45 45 w w0.heap.size okv v l) (HX : k45.M w w0.heap.size okx x C) (hd : ∀ k,okx k → ¬ okv k) :
  Calls Try.prog 139 #[.pointer (some ⟨p,j,none⟩), .agg ⟨C⟩] w fun e w' =>
   ((l.length : Int) < lim → e = .returned (.bool true) ∧ ∃ v',w'.heap[p]? = some (.cells (cs.setIfInBounds (j + 1) v') T (0,0)) ∧ Kd.S k45 45 w' w0.heap.size (fun k => okv k ∨ okx k ∨ w.heap.size ≤ k) v' (l ++ [x]) ∧ Tch w w' (fun k => k = p ∨ some k = v.ownBlock)) ∧
   (lim ≤ (l.length : Int) → e = .returned (.bool false) ∧ Below w.heap.size w w'):=by
 obtain ⟨A,c,rfl⟩:=Kd.S_slice HS
 have HLN:=Lib.hid hln
 clear hln
 obtain ⟨v7,rfl,g7⟩:=k45_openM HX
 obtain ⟨A7,c7,rfl⟩:=Kd.R_slice g7
 clear g7
 have HP:=Lib.hid hp
 have HI : Hid ((Try.prog.info? 45).map (·.size) = some 5):=Lib.hid (by kernel_rfl)
 have hu:=Lib.hid Try.underlying45
 have H0:=Lib.hid h0
 have H1:=Lib.hid h1
 have HSS:=Lib.hid HS
 have HXX:=Lib.hid HX
 have HL:=Lib.hid hl
 have HB:=Lib.hid hB
 have HPB:=Lib.hid hpB
 have HTT:=Lib.hid hT
 have HD:=Lib.hid hd
 clear hp h0 h1 HS HX hl hB hpB hT hd
 go_enter Try.func139,Try.ntmps139
 go_upto_region 1 with (first | ((with_reducible refine gate_dst (N:=3) rfl ?_);refine box_event ?hg (N:=3) ?hd (cs:=⟨[.bool x.f0, .int .u32 x.f1, .bool x.f2, .int .i64 x.f3, .slice A7 x.f4.length c7]⟩) (t:=45) ?hr ?_;(case hd => rfl);(case hg => rfl);(case hr => first | (go_simp;done) | (go_simp;rfl));intro g hg w1 hbox hb;have HG:=Lib.hid hg;have HX1:=Lib.hid hbox;have HB1:=Lib.hid hb;clear hg hbox hb))
 have HP1:=Lib.hid (blk_below HP.out HB1.out)
 obtain ⟨wd,hwd⟩ : ∃ wd,wd = w1.drew:=⟨_,rfl⟩
 have HPd : Hid (wd.heap[p]? = some (.cells cs T (0,0))):=by rw [hwd];exact Lib.hid (blk_drew HP1.out)
 have HGd : Hid (wd.heap[g]? = some (.cells ⟨[.bool x.f0, .int .u32 x.f1, .bool x.f2, .int .i64 x.f3, .slice A7 x.f4.length c7]⟩ 45 (0,0))):=by rw [hwd];exact Lib.hid (blk_drew HX1.out)
 have HTd : Hid (Below w.heap.size w wd):=by rw [hwd];exact Lib.hid (below_drew HB1.out)
 refine start_ (n:=12) (S:=fun w' : World => w'.heap[p]? = some (.cells cs T (0,0))) (ds := []) #[false,false,false,false,false,false,false,false,false,false,false,false] (by kernel_rfl) rfl rfl (hwd ▸ HPd.out) (fun hHeld => ?_)
 rw [← hwd] at hHeld ⊢
 clear hwd
 refine pure_ (i:=0) (N:=some 5) (v := ?_) (a' := ?_) #[true,false,false,false,false,false,false,false,false,false,false,false] rfl rfl (by kernel_rfl) (fun _ _ _ h => h) (Or.inl ⟨by rfl, ?_⟩) ?_ ?_
 rotate_left
 ·intro w'
  go_simp
  with_reducible rfl
 rotate_left
 ·simp only [Act.put,List.setIfInBounds_toArray,List.set_cons_zero,List.set_cons_succ,i64_w,i32_w]
  rfl
 refine pure_ (i:=1) (N:=some 6) (v := ?_) (a' := ?_) #[true,true,false,false,false,false,false,false,false,false,false,false] rfl rfl (by kernel_rfl) (fun _ _ _ h => h) (Or.inl ⟨by rfl, ?_⟩) ?_ ?_
 rotate_left
 ·intro w'
  go_simp
  with_reducible rfl
 rotate_left
 ·simp only [Act.put,List.setIfInBounds_toArray,List.set_cons_zero,List.set_cons_succ,i64_w,i32_w]
  rfl
 refine pure_ (i:=2) (N:=some 7) (v := ?_) (a' := ?_) #[true,true,true,false,false,false,false,false,false,false,false,false] rfl rfl (by kernel_rfl) (fun _ _ _ h => h) (Or.inl ⟨by rfl, ?_⟩) ?_ ?_
 rotate_left
 ·intro w'
  go_simp
  with_reducible rfl
 rotate_left
 ·simp only [Act.put,List.setIfInBounds_toArray,List.set_cons_zero,List.set_cons_succ,i64_w,i32_w]
  rfl
 refine take_ (i:=3) (N:=some 8) (v := ?_) (a' := ?_) #[true,true,true,true,false,false,false,false,false,false,false,false] rfl rfl (by kernel_rfl) (fun _ _ _ h => h) (Or.inl ⟨by rfl, ?_⟩) hHeld ?_ ?_
 rotate_left
 ·intro w' s0
  have e0 : w'.cell? ⟨p,j,none⟩ = some (.int .i64 lim):=(blk_cell s0 j).trans H0.out
  go_simp
  with_reducible rfl
 rotate_left
 ·simp only [Act.put,List.setIfInBounds_toArray,List.set_cons_zero,List.set_cons_succ,i64_w,i32_w]
  rfl
 refine pure_ (i:=4) (N:=some 9) (v := ?_) (a' := ?_) #[true,true,true,true,true,false,false,false,false,false,false,false] rfl rfl (by kernel_rfl) (fun _ _ _ h => h) (Or.inl ⟨by rfl, ?_⟩) ?_ ?_
 rotate_left
 ·intro w'
  go_simp
  with_reducible rfl
 rotate_left
 ·simp only [Act.put,List.setIfInBounds_toArray,List.set_cons_zero,List.set_cons_succ,i64_w,i32_w]
  rfl
 refine pure_ (i:=5) (N:=some 10) (v := ?_) (a' := ?_) #[true,true,true,true,true,true,false,false,false,false,false,false] rfl rfl (by kernel_rfl) (fun _ _ _ h => h) (Or.inl ⟨by rfl, ?_⟩) ?_ ?_
 rotate_left
 ·intro w'
  go_simp
  with_reducible rfl
 rotate_left
 ·simp only [Act.put,List.setIfInBounds_toArray,List.set_cons_zero,List.set_cons_succ,i64_w,i32_w]
  rfl
 refine pure_ (i:=6) (N:=some 11) (v := ?_) (a' := ?_) #[true,true,true,true,true,true,true,false,false,false,false,false] rfl rfl (by kernel_rfl) (fun _ _ _ h => h) (Or.inl ⟨by rfl, ?_⟩) ?_ ?_
 rotate_left
 ·intro w'
  go_simp
  with_reducible rfl
 rotate_left
 ·simp only [Act.put,List.setIfInBounds_toArray,List.set_cons_zero,List.set_cons_succ,i64_w,i32_w]
  rfl
 refine take_ (i:=7) (N:=some 12) (v := ?_) (a' := ?_) #[true,true,true,true,true,true,true,true,false,false,false,false] rfl rfl (by kernel_rfl) (fun _ _ _ h => h) (Or.inl ⟨by rfl, ?_⟩) hHeld ?_ ?_
 rotate_left
 ·intro w' s0
  have e0 : w'.cell? ⟨p,j + 1,none⟩ = some (.slice A l.length c):=(blk_cell s0 (j + 1)).trans H1.out
  go_simp
  with_reducible rfl
 rotate_left
 ·simp only [Act.put,List.setIfInBounds_toArray,List.set_cons_zero,List.set_cons_succ,i64_w,i32_w]
  rfl
 refine pure_ (i:=8) (N:=some 13) (v := ?_) (a' := ?_) #[true,true,true,true,true,true,true,true,true,false,false,false] rfl rfl (by kernel_rfl) (fun _ _ _ h => h) (Or.inl ⟨by rfl, ?_⟩) ?_ ?_
 rotate_left
 ·intro w'
  go_simp
  with_reducible rfl
 rotate_left
 ·simp only [Act.put,List.setIfInBounds_toArray,List.set_cons_zero,List.set_cons_succ,i64_w,i32_w]
  rfl
 refine pure_ (i:=9) (N:=some 14) (v := ?_) (a' := ?_) #[true,true,true,true,true,true,true,true,true,true,false,false] rfl rfl (by kernel_rfl) (fun _ _ _ h => h) (Or.inl ⟨by rfl, ?_⟩) ?_ ?_
 rotate_left
 ·intro w'
  go_simp
  with_reducible rfl
 rotate_left
 ·simp only [Act.put,List.setIfInBounds_toArray,List.set_cons_zero,List.set_cons_succ,i64_w,i32_w]
  rfl
 refine pure_ (i:=10) (N:=some 15) (v := ?_) (a' := ?_) #[true,true,true,true,true,true,true,true,true,true,true,false] rfl rfl (by kernel_rfl) (fun _ _ _ h => h) (Or.inl ⟨by rfl, ?_⟩) ?_ ?_
 rotate_left
 ·intro w'
  go_simp
  with_reducible rfl
 rotate_left
 ·simp only [Act.put,List.setIfInBounds_toArray,List.set_cons_zero,List.set_cons_succ,i64_w,i32_w]
  rfl
 refine pure_ (i:=11) (N:=some 16) (v := ?_) (a' := ?_) #[true,true,true,true,true,true,true,true,true,true,true,true] rfl rfl (by kernel_rfl) (fun _ _ _ h => h) (Or.inl ⟨by rfl, ?_⟩) ?_ ?_
 rotate_left
 ·intro w'
  go_simp
  with_reducible rfl
 rotate_left
 ·simp only [Act.put,List.setIfInBounds_toArray,List.set_cons_zero,List.set_cons_succ,i64_w,i32_w]
  rfl
 refine done_ (by kernel_rfl) ?_
 by_cases c : (l.length : Int) < lim
 ·have hw : wrap64 (lim - (l.length : Int)) = lim - l.length:=by have:=HL.out;have:=HLN.out;unfold wrap64;omega
  have e0 : (if 0 < wrap64 (lim - (l.length : Int)) then wrap64 (lim - (l.length : Int)) else 0) = lim - l.length:=by rw [hw,if_pos (by omega)]
  have e : (lim - (l.length : Int) == 0) = false:=beq_eq_false_iff_ne.2 (by omega)
  rw [e0,e]
  clear e e0 hw
  have hLL : Hid (l.length < 100000):=Lib.hid (by have:=HL.out;omega)
  have c':=Lib.hid c
  clear c
  try go_wp2
  obtain ⟨we,hwe⟩ : ∃ we,we = wd.drew:=⟨_,rfl⟩
  have HPe : Hid (we.heap[p]? = some (.cells cs T (0,0))):=by rw [hwe];exact Lib.hid (blk_drew HPd.out)
  have HGe : Hid (we.heap[g]? = some (.cells ⟨[.bool x.f0, .int .u32 x.f1, .bool x.f2, .int .i64 x.f3, .slice A7 x.f4.length c7]⟩ 45 (0,0))):=by rw [hwe];exact Lib.hid (blk_drew HGd.out)
  have HTe : Hid (Below w.heap.size w we):=by rw [hwe];exact Lib.hid (below_drew HTd.out)
  refine start_ (n:=11) (S:=fun w' : World => w'.heap[p]? = some (.cells cs T (0,0)) ∧ w'.heap[g]? = some (.cells ⟨[.bool x.f0, .int .u32 x.f1, .bool x.f2, .int .i64 x.f3, .slice A7 x.f4.length c7]⟩ 45 (0,0))) (ds := [10]) #[false,false,false,false,false,false,false,false,false,false,false] (by kernel_rfl) rfl rfl (hwe ▸ ⟨HPe.out,HGe.out⟩) (fun hHeld => ?_)
  rw [← hwe] at hHeld ⊢
  clear hwe
  refine pure_ (i:=0) (N:=some 17) (v := ?_) (a' := ?_) #[true,false,false,false,false,false,false,false,false,false,false] rfl rfl (by kernel_rfl) (fun _ _ _ h => h) (Or.inl ⟨by rfl, ?_⟩) ?_ ?_
  rotate_left
  ·intro w'
   go_simp
   with_reducible rfl
  rotate_left
  ·simp only [Act.put,List.setIfInBounds_toArray,List.set_cons_zero,List.set_cons_succ,i64_w,i32_w]
   rfl
  refine pure_ (i:=1) (N:=some 18) (v := ?_) (a' := ?_) #[true,true,false,false,false,false,false,false,false,false,false] rfl rfl (by kernel_rfl) (fun _ _ _ h => h) (Or.inl ⟨by rfl, ?_⟩) ?_ ?_
  rotate_left
  ·intro w'
   go_simp
   with_reducible rfl
  rotate_left
  ·simp only [Act.put,List.setIfInBounds_toArray,List.set_cons_zero,List.set_cons_succ,i64_w,i32_w]
   rfl
  refine pure_ (i:=2) (N:=some 19) (v := ?_) (a' := ?_) #[true,true,true,false,false,false,false,false,false,false,false] rfl rfl (by kernel_rfl) (fun _ _ _ h => h) (Or.inl ⟨by rfl, ?_⟩) ?_ ?_
  rotate_left
  ·intro w'
   go_simp
   with_reducible rfl
  rotate_left
  ·simp only [Act.put,List.setIfInBounds_toArray,List.set_cons_zero,List.set_cons_succ,i64_w,i32_w]
   rfl
  refine pure_ (i:=3) (N:=some 20) (v := ?_) (a' := ?_) #[true,true,true,true,false,false,false,false,false,false,false] rfl rfl (by kernel_rfl) (fun _ _ _ h => h) (Or.inl ⟨by rfl, ?_⟩) ?_ ?_
  rotate_left
  ·intro w'
   go_simp
   with_reducible rfl
  rotate_left
  ·simp only [Act.put,List.setIfInBounds_toArray,List.set_cons_zero,List.set_cons_succ,i64_w,i32_w]
   rfl
  refine take_ (i:=4) (N:=some 21) (v := ?_) (a' := ?_) #[true,true,true,true,true,false,false,false,false,false,false] rfl rfl (by kernel_rfl) (fun _ _ _ h => h) (Or.inl ⟨by rfl, ?_⟩) hHeld ?_ ?_
  rotate_left
  ·rintro w' ⟨s0,s1⟩
   have e0 : w'.cell? ⟨p,j + 1,none⟩ = some (.slice A l.length c):=(blk_cell s0 (j + 1)).trans H1.out
   go_simp
   with_reducible rfl
  rotate_left
  ·simp only [Act.put,List.setIfInBounds_toArray,List.set_cons_zero,List.set_cons_succ,i64_w,i32_w]
   rfl
  refine take_ (i:=5) (N:=some 22) (v := ?_) (a' := ?_) #[true,true,true,true,true,true,false,false,false,false,false] rfl rfl (by kernel_rfl) (fun _ _ _ h => h) (Or.inl ⟨by rfl, ?_⟩) hHeld ?_ ?_
  rotate_left
  ·rintro w' ⟨s0,s1⟩
   have e0 : w'.cell? ⟨g,0,none⟩ = some (.bool x.f0):=blk_cell s1 0
   have e1 : w'.cell? ⟨g,1,none⟩ = some (.int .u32 x.f1):=blk_cell s1 1
   have e2 : w'.cell? ⟨g,2,none⟩ = some (.bool x.f2):=blk_cell s1 2
   have e3 : w'.cell? ⟨g,3,none⟩ = some (.int .i64 x.f3):=blk_cell s1 3
   have e4 : w'.cell? ⟨g,4,none⟩ = some (.slice A7 x.f4.length c7):=blk_cell s1 4
   go_simp
   with_reducible rfl
  rotate_left
  ·simp only [Act.put,List.setIfInBounds_toArray,List.set_cons_zero,List.set_cons_succ,i64_w,i32_w]
   rfl
  refine one_ (i:=6) (N:=some 23) #[true,true,true,true,true,true,true,false,false,false,false] rfl rfl (by kernel_rfl) (by decide) (fun K hK => ?_)
  refine value_ (w1 := ?_) (v := ?_) (by rfl) rfl ?_ ?_
  rotate_left 2
  ·go_simp
   constructor
   ·rfl
   ·rfl
  refine hK.out _ _ ⟨blk_alloc HPe.out _,blk_alloc HGe.out _⟩ (fun hHeld => ?_)
  clear hK K
  refine norm_ (a' := ?_) ?_ ?_
  rotate_left
  ·show Act.put _ (some 23) _ = _
   simp only [Act.put,List.setIfInBounds_toArray,List.set_cons_zero,List.set_cons_succ,i64_w,i32_w]
   rfl
  refine one_ (i:=7) (N:=some 24) #[true,true,true,true,true,true,true,true,false,false,false] rfl rfl (by kernel_rfl) (by decide) (fun K hK => ?_)
  refine Kd.S_append_step k45 (w0:=w0) w0.heap.size (by rfl) (.tmp 21) (.tmp 23) 29 45 (.agg #[(.bool false),(.int .u32 0),(.bool false),(.int .i64 0),(.slice none 0 0)]) 48 rfl Try.underlying29 info45 rfl (by decide) (by omega) (.slice A l.length c) l x [.bool x.f0, .int .u32 x.f1, .bool x.f2, .int .i64 x.f3, .slice A7 x.f4.length c7] (fun k => okv k ∨ okx k ∨ w.heap.size ≤ k) okx rfl rfl ?aP ?aK ?aF ?aO ?aB ?aS ?aL ?_
  (case aP => exact Kd.M_below HXX.out HTe.out)
  (case aK => exact fun k hk => ⟨.inr (.inl hk),fun e => HD.out k hk (S_own_ok HSS.out e.symm)⟩)
  (case aF => exact fun k hk => .inr (.inr (Nat.le_trans HTe.out.size hk)))
  (case aO => exact Kd.S_mono (Kd.S_below HSS.out HTe.out) (fun k hk => ⟨.inl hk,fun h => HD.out k h hk⟩))
  (case aB => exact below_then HB.out HB.out.size HTe.out)
  (case aS => exact Nat.le_trans HB.out.size HTe.out.size)
  (case aL => have:=hLL.out;omega)
  intro v1 w2 hS hb hg hat
  have hnp : some p ≠ (Value.slice A l.length c).ownBlock:=Kd.S_ne HSS.out HP.out (fun e => HTT.out.1 e.symm)
  have hng : some g ≠ (Value.slice A l.length c).ownBlock:=fun e => by have h1:=Kd.S_lt HSS.out g e.symm;have h2:=HG.out;omega
  have HP2:=Lib.hid (blk_grown (g:=p) HPe.out hg hnp)
  have HG2:=Lib.hid (blk_grown (g:=g) HGe.out hg hng)
  have HS2:=Lib.hid hS
  have HT2:=Lib.hid (((Tch.of_below (fun k => k = p ∨ some k = (Value.slice A l.length c).ownBlock) HTe.out)).grown hg (fun k e => .inl (.inr e.symm)))
  clear hS hb hg hat hnp hng
  obtain ⟨A1,c1,rfl⟩:=Kd.S_slice HS2.out
  refine hK.out _ _ ⟨HP2.out,HG2.out⟩ (fun hHeld => ?_)
  clear hK K
  refine norm_ (a' := ?_) ?_ ?_
  rotate_left
  ·show Act.put _ (some 24) _ = _
   simp only [Act.put,List.setIfInBounds_toArray,List.set_cons_zero,List.set_cons_succ,i64_w,i32_w]
   rfl
  refine pure_ (i:=8) (N:=some 25) (v := ?_) (a' := ?_) #[true,true,true,true,true,true,true,true,true,false,false] rfl rfl (by kernel_rfl) (fun _ _ _ h => h) (Or.inl ⟨by rfl, ?_⟩) ?_ ?_
  rotate_left
  ·intro w'
   go_simp
   with_reducible rfl
  rotate_left
  ·simp only [Act.put,List.setIfInBounds_toArray,List.set_cons_zero,List.set_cons_succ,i64_w,i32_w]
   rfl
  refine pure_ (i:=9) (N:=some 26) (v := ?_) (a' := ?_) #[true,true,true,true,true,true,true,true,true,true,false] rfl rfl (by kernel_rfl) (fun _ _ _ h => h) (Or.inl ⟨by rfl, ?_⟩) ?_ ?_
  rotate_left
  ·intro w'
   go_simp
   with_reducible rfl
  rotate_left
  ·simp only [Act.put,List.setIfInBounds_toArray,List.set_cons_zero,List.set_cons_succ,i64_w,i32_w]
   rfl
  refine last_ (i:=10) (N:=none) #[true,true,true,true,true,true,true,true,true,true,true] rfl rfl (by kernel_rfl) (by decide) (fun K hK => ?_)
  refine st_one (by rfl) rfl rfl (g:=p) (j:=j + 1) (cs:=cs) (T:=T) (u := .slice A1 (l ++ [x]).length c1) (u0 := .slice A l.length c) rfl rfl HP2.out rfl (by kernel_rfl) rfl H1.out ?_
  intro w3 hx3 hT3
  have HP3:=Lib.hid hx3
  have HS3:=Lib.hid (S_tch HS2.out HP2.out (by intro q hq;have hq : q ∈ [45,5]:=hq;rcases List.mem_cons.1 hq with rfl | hq;exact fun e => HTT.out.1 e.symm;rw [List.mem_singleton.1 hq];exact fun e => HTT.out.2 e.symm) hT3)
  have HT3:=Lib.hid (HT2.out.trans (hT3.mono (fun k hk => .inl hk)))
  clear hx3 hT3
  refine hK.out _ _ ?_
  clear hK K
  refine done_ (by kernel_rfl) ?_
  go_wp2_with (fail)
  go_ret
  exact ⟨fun _ => ⟨rfl,_,HP3.out,HS3.out,HT3.out⟩,fun h => absurd h (by have:=c'.out;omega)⟩
 ·have hw : wrap64 (lim - (l.length : Int)) = lim - l.length:=by have:=HL.out;have:=HLN.out;unfold wrap64;omega
  have e0 : (if 0 < wrap64 (lim - (l.length : Int)) then wrap64 (lim - (l.length : Int)) else 0) = 0:=by rw [hw,if_neg (by omega)]
  have e : ((0 : Int) == 0) = true:=rfl
  rw [e0,e]
  clear e e0 hw
  have c':=Lib.hid c
  clear c
  go_wp2_with (fail)
  go_ret
  exact ⟨fun h => by have:=c'.out;omega,fun _ => ⟨rfl,HTd.out⟩⟩
end Go.Proofs.Ytcaefabbcjlkdaa.P
namespace Go.Proofs.Ytcaefabbcjlkdaa.P
open Go.RowKit Go.Proofs.YtcaefabbcjlkdaaW.PrintWords Go.Proofs.YtcaefabbcjlkdaaW.PrintLast Go.Proofs.YtcaefabbcjlkdaaW.PrintMore
set_option linter.unusedVariables false
set_option linter.unusedSimpArgs false
def impl_copyFrame.f (a0_0 : Bool) (a0_1 : Int) (a0_2 : Bool) (a0_3 : Int) (l0_4 : List Int) : Option (Bool × Int × Bool × Int × List Int):=(some (([] : List Int) : List Int)).bind fun y106 => (if y106.length + l0_4.length < 140737488355328 then (some (a0_0,a0_1,a0_2,a0_3,(y106 ++ l0_4))) else (none))
set_option maxHeartbeats 8000000 in
set_option maxRecDepth 100000 in
theorem impl_copyFrame.calls (a0_0 : Bool) (a0_1 : Int) (a0_2 : Bool) (a0_3 : Int) (A0_4 : Option Addr) (c0_4 : Nat) (l0_4 : List Int) (r1 : Bool) (r2 : Int) (r3 : Bool) (r4 : Int) (r5 : List Int) (w : World) (hr0_4 : Kd.C (Kd.int .u8) w A0_4 l0_4.length l0_4) (hc0_4 : l0_4.length ≤ c0_4) (h : impl_copyFrame.f a0_0 a0_1 a0_2 a0_3 l0_4 = some (r1,r2,r3,r4,r5)) :
  Calls Try.prog 111 #[.agg #[.bool a0_0, .int .u32 a0_1, .bool a0_2, .int .i64 a0_3, .slice A0_4 l0_4.length c0_4]] w fun e w' => ∃ v4_ : Value,e = .returned (.agg #[.bool r1, .int .u32 r2, .bool r3, .int .i64 r4,v4_]) ∧ Kd.R (Kd.int .u8) 5 w' w.heap.size (fun _ => True) v4_ r5 ∧ Below w.heap.size w w':=by
 have hu45:=Try.underlying45
 have HR0_4:=Aside0.mk hr0_4
 have HC0_4:=Aside0.mk hc0_4
 clear hr0_4 hc0_4
 have HB:=Aside0.mk (Below.refl w.heap.size w)
 have H : ((some (([] : List Int) : List Int)).bind fun y106 => (if y106.length + l0_4.length < 140737488355328 then (some (a0_0,a0_1,a0_2,a0_3,(y106 ++ l0_4))) else (none))) = some (r1,r2,r3,r4,r5):=h
 clear h
 obtain ⟨y106,hy106⟩ : ∃ y_ : List Int,y_ = (([] : List Int)):=⟨_,rfl⟩
 replace H : (if y106.length + l0_4.length < 140737488355328 then (some (a0_0,a0_1,a0_2,a0_3,(y106 ++ l0_4))) else (none)) = some (r1,r2,r3,r4,r5):=by first | (rw [hy106];with_reducible exact H) | (have H2_:=(Option.bind_some _ _).symm.trans H;rw [hy106];with_reducible exact H2_) | (have H2_:=(Option.bind_some _ _).symm.trans H;with_reducible exact H2_) | with_reducible exact H | (rw [hy106];exact H) | exact H
 have Ny106:=Aside0.mk hy106
 clear hy106
 by_cases c2 : y106.length + l0_4.length < 140737488355328
 ·rw [if_pos c2] at H
  have LMc2:=Aside0.mk c2
  clear c2
  obtain ⟨y109,hy109⟩ : ∃ y_ : List Int,y_ = (y106 ++ l0_4):=⟨_,rfl⟩
  replace H : (some (a0_0,a0_1,a0_2,a0_3,y109)) = some (r1,r2,r3,r4,r5):=by first | (rw [hy109];with_reducible exact H) | (have H2_:=(Option.bind_some _ _).symm.trans H;rw [hy109];with_reducible exact H2_) | (have H2_:=(Option.bind_some _ _).symm.trans H;with_reducible exact H2_) | with_reducible exact H | (rw [hy109];exact H) | exact H
  have Ny109:=Aside0.mk hy109
  clear hy109
  simp only [Option.some.injEq,Prod.mk.injEq] at H
  obtain ⟨rfl,rfl,rfl,rfl,rfl⟩:=H
  go_enter Try.func111,Try.ntmps111
  go_wp2_with (first | ((with_reducible refine gate_dst (N:=1) rfl ?_);refine box_event ?hg (N:=1) ?hd (cs := #[.bool a0_0, .int .u32 a0_1, .bool a0_2, .int .i64 a0_3, .slice A0_4 l0_4.length c0_4]) (t:=45) ?hr ?_;(case hd => rfl);(case hg => rfl);(case hr => first | (go_simp;done) | (go_simp;rfl));intro gb104 hg w3 hbox hb;have n0_:=Aside0.mk (below_step (by repeat (first | (with_reducible first | exact HB.out | apply below_alloc | apply pw_below_drewN | apply below_drew1) | exact HB.out)) hb);have n1_:=Aside0.mk (hbox);have n2_:=Aside0.mk ((by rw [hg];exact (below_size (by repeat (first | (with_reducible first | exact HB.out | apply below_alloc | apply pw_below_drewN | apply below_drew1) | exact HB.out))) : w.heap.size ≤ gb104));have n3_:=Aside0.mk ((by rw [hg];exact (below_size (by repeat (first | (with_reducible first | exact HB.out | apply below_alloc | apply pw_below_drewN | apply below_drew1) | exact HB.out))) : w.heap.size ≤ gb104));clear HB;have HB:=n0_;have BK104:=n1_;have GW104:=n2_;have GE104:=n3_;clear n0_ n1_ n2_ n3_;clear hb hbox hg) | ((with_reducible refine gate_dst (N:=2) rfl ?_);refine box_event ?hg (N:=2) ?hd (cs := #[.bool false, .int .u32 0, .bool false, .int .i64 0, .slice none 0 0]) (t:=45) ?hr ?_;(case hd => rfl);(case hg => rfl);(case hr => first | (go_simp;done) | (go_simp;rfl));intro gb105 hg w4 hbox hb;have n0_:=Aside0.mk (blk_below (g:=gb104) (o := .cells #[.bool a0_0, .int .u32 a0_1, .bool a0_2, .int .i64 a0_3, .slice A0_4 l0_4.length c0_4] 45 (0,0)) (by (with_reducible repeat (first | refine blk_drewN ?_ _ | refine blk_drew ?_ | refine blk_alloc ?_ _));exact BK104.out) hb);have n1_:=Aside0.mk (below_step (by repeat (first | (with_reducible first | exact HB.out | apply below_alloc | apply pw_below_drewN | apply below_drew1 | refine below_set ?_ GE104.out) | exact HB.out)) hb);have n2_:=Aside0.mk (hbox);have n3_:=Aside0.mk ((by rw [hg];exact (below_size (by repeat (first | (with_reducible first | exact HB.out | apply below_alloc | apply pw_below_drewN | apply below_drew1 | refine below_set ?_ GE104.out) | exact HB.out))) : w.heap.size ≤ gb105));have n4_:=Aside0.mk ((by rw [hg];exact (below_size (by repeat (first | (with_reducible first | exact HB.out | apply below_alloc | apply pw_below_drewN | apply below_drew1 | refine below_set ?_ GE104.out) | exact HB.out))) : w.heap.size ≤ gb105));have n5_:=Aside0.mk ((by rw [hg];exact Nat.ne_of_lt (blk_lt (g:=gb104) (o := .cells #[.bool a0_0, .int .u32 a0_1, .bool a0_2, .int .i64 a0_3, .slice A0_4 l0_4.length c0_4] 45 (0,0)) (by (with_reducible repeat (first | refine blk_drewN ?_ _ | refine blk_drew ?_ | refine blk_alloc ?_ _));exact BK104.out)) : gb104 ≠ gb105));have n6_:=Aside0.mk ((by rw [hg];exact Nat.ne_of_gt (blk_lt (g:=gb104) (o := .cells #[.bool a0_0, .int .u32 a0_1, .bool a0_2, .int .i64 a0_3, .slice A0_4 l0_4.length c0_4] 45 (0,0)) (by (with_reducible repeat (first | refine blk_drewN ?_ _ | refine blk_drew ?_ | refine blk_alloc ?_ _));exact BK104.out)) : gb105 ≠ gb104));clear BK104;clear HB;have BK104:=n0_;have HB:=n1_;have BK105:=n2_;have GW105:=n3_;have GE105:=n4_;have NB104_105:=n5_;have NB105_104:=n6_;clear n0_ n1_ n2_ n3_ n4_ n5_ n6_;clear hb hbox hg) | ((with_reducible refine gate_dst (N:=3) rfl ?_);refine Kd.R_lit (Kd.int .u8) _ 5 ?hg (N:=3) ?hd (xs:=([] : List Int)) (inner := []) (ok:=fun _ => True) (okp:=fun _ => True) ?hr ?hp (fun _ hk => hk) trivial (Below.refl _ _) (Nat.le_refl _) (by simp) ?_;(case hd => rfl);(case hg => rfl);(case hr => first | (go_simp;done) | (go_simp;rfl));(case hp => exact (Reps.none _ _));intro v107 w5 ho6 hb hg_ hnew_;clear hg_ hnew_;(first | rw [← Ny106.out] at ho6 | (simp only [Int.reduceToNat] at ho6;rw [← Ny106.out] at ho6));have n0_:=Aside0.mk (Kd.R_lower ho6 (below_size (by repeat (first | (with_reducible first | exact HB.out | apply below_alloc | apply pw_below_drewN | apply below_drew1 | refine below_set ?_ GE104.out | refine below_set ?_ GE105.out) | exact HB.out))));have n1_:=Aside0.mk (blk_below (g:=gb104) (o := .cells #[.bool a0_0, .int .u32 a0_1, .bool a0_2, .int .i64 a0_3, .slice A0_4 l0_4.length c0_4] 45 (0,0)) (by (with_reducible repeat (first | refine blk_drewN ?_ _ | refine blk_drew ?_ | refine blk_alloc ?_ _));exact BK104.out) hb);have n2_:=Aside0.mk (blk_below (g:=gb105) (o := .cells #[.bool false, .int .u32 0, .bool false, .int .i64 0, .slice none 0 0] 45 (0,0)) (by (with_reducible repeat (first | refine blk_drewN ?_ _ | refine blk_drew ?_ | refine blk_alloc ?_ _));exact BK105.out) hb);have n3_:=Aside0.mk (below_step (by repeat (first | (with_reducible first | exact HB.out | apply below_alloc | apply pw_below_drewN | apply below_drew1 | refine below_set ?_ GE104.out | refine below_set ?_ GE105.out) | exact HB.out)) hb);clear BK104;clear BK105;clear HB;have HO108:=n0_;have BK104:=n1_;have BK105:=n2_;have HB:=n3_;clear n0_ n1_ n2_ n3_;clear hb ho6;have hnb7:=NB104_105.out;have hnc7:=NB105_104.out;obtain ⟨hcz8_0,hcz8_1,hcz8_2,hcz8_3,hcz8_4⟩:=bc5 BK104.out;obtain ⟨hfz8_0,hfz8_1,hfz8_2,hfz8_3,hfz8_4⟩:=bf5 BK104.out) | ((with_reducible refine gate_builtin (b := .append) (xs := #[.tmp 3, .tmp 5]) rfl ?_);at_builtin;refine Kd.R_append_rows (Kd.int .u8) (w0:=w) w.heap.size rfl (.tmp 3) (.tmp 5) 42 5 (.int .u8 0) 1 rfl Try.underlying42 info5 rfl (by decide) (by omega) v107 y106 l0_4 _ _ _ (fun _ => True) (fun _ => False) rfl rfl ?aO ?aR (fun _ _ h => h) (fun _ h => h.elim) ?aF ?aB ?aS ?aL ?_;(case aR => repeat (first | exact (Kd.C_below HR0_4.out HB.out) | (with_reducible refine Kd.C_alloc ?_ _) | (with_reducible refine Kd.C_drewN ?_ _) | (with_reducible refine Kd.C_drew ?_)));(case aB => exact (by repeat (first | (with_reducible first | exact HB.out | apply below_alloc | apply pw_below_drewN | apply below_drew1 | refine below_set ?_ GE104.out | refine below_set ?_ GE105.out) | exact HB.out)));(case aF => exact (fun _ _ => trivial));(case aO => exact (by (with_reducible repeat (first | apply Kd.R_alloc | apply Kd.R_drewN | apply Kd.R_drew));exact HO108.out));(case aS => exact (below_size (by repeat (first | (with_reducible first | exact HB.out | apply below_alloc | apply pw_below_drewN | apply below_drew1 | refine below_set ?_ GE104.out | refine below_set ?_ GE105.out) | exact HB.out))));(case aL => have:=LMc2.out;omega);intro v110 w9 ho hb hg hat;rw [← Ny109.out] at ho;have n0_:=Aside0.mk (blk_grown (g:=gb104) (o := .cells #[.bool a0_0, .int .u32 a0_1, .bool a0_2, .int .i64 a0_3, .slice A0_4 l0_4.length c0_4] 45 (0,0)) (by (with_reducible repeat (first | refine blk_drewN ?_ _ | refine blk_drew ?_ | refine blk_alloc ?_ _));exact BK104.out) hg (Kd.R_ne HO108.out BK104.out (by decide)));have n1_:=Aside0.mk (blk_grown (g:=gb105) (o := .cells #[.bool false, .int .u32 0, .bool false, .int .i64 0, .slice none 0 0] 45 (0,0)) (by (with_reducible repeat (first | refine blk_drewN ?_ _ | refine blk_drew ?_ | refine blk_alloc ?_ _));exact BK105.out) hg (Kd.R_ne HO108.out BK105.out (by decide)));have n2_:=Aside0.mk (hb);have n3_:=Aside0.mk (ho);clear BK104;clear BK105;clear HB;clear HO108;have BK104:=n0_;have BK105:=n1_;have HB:=n2_;have HO111:=n3_;clear n0_ n1_ n2_ n3_;clear ho hb hg hat;obtain ⟨Ao10,co10,eo10⟩:=Kd.R_slice HO111.out;subst eo10;obtain ⟨hcz11_0,hcz11_1,hcz11_2,hcz11_3,hcz11_4⟩:=bc5 BK104.out;obtain ⟨hfz11_0,hfz11_1,hfz11_2,hfz11_3,hfz11_4⟩:=bf5 BK104.out;obtain ⟨hcz12_0,hcz12_1,hcz12_2,hcz12_3,hcz12_4⟩:=bc5 BK105.out;obtain ⟨hfz12_0,hfz12_1,hfz12_2,hfz12_3,hfz12_4⟩:=bf5 BK105.out))
  refine bodyPost_ret (results_cell_row rfl _ _ gb105 45 #[.bool a0_0, .int .u32 a0_1, .bool a0_2, .int .i64 a0_3, .slice Ao10 y109.length co10] (0,0) _ rfl (by (with_reducible repeat (first | refine blk_drewN ?_ _ | refine blk_drew ?_ | refine blk_alloc ?_ _));refine blk_put (cs := #[.bool a0_0, .int .u32 a0_1, .bool a0_2, .int .i64 a0_3, .slice none 0 0]) ?_ 4 _ rfl;(with_reducible repeat (first | refine blk_drewN ?_ _ | refine blk_drew ?_ | refine blk_alloc ?_ _));refine blk_put (cs := #[.bool a0_0, .int .u32 a0_1, .bool a0_2, .int .i64 0, .slice none 0 0]) ?_ 3 _ rfl;(with_reducible repeat (first | refine blk_drewN ?_ _ | refine blk_drew ?_ | refine blk_alloc ?_ _));refine blk_put (cs := #[.bool a0_0, .int .u32 a0_1, .bool false, .int .i64 0, .slice none 0 0]) ?_ 2 _ rfl;(with_reducible repeat (first | refine blk_drewN ?_ _ | refine blk_drew ?_ | refine blk_alloc ?_ _));refine blk_put (cs := #[.bool a0_0, .int .u32 0, .bool false, .int .i64 0, .slice none 0 0]) ?_ 1 _ rfl;(with_reducible repeat (first | refine blk_drewN ?_ _ | refine blk_drew ?_ | refine blk_alloc ?_ _));refine blk_put (cs := #[.bool false, .int .u32 0, .bool false, .int .i64 0, .slice none 0 0]) ?_ 0 _ rfl;(with_reducible repeat (first | refine blk_drewN ?_ _ | refine blk_drew ?_ | refine blk_alloc ?_ _));refine blk_far ?_ NB105_104.out _;(with_reducible repeat (first | refine blk_drewN ?_ _ | refine blk_drew ?_ | refine blk_alloc ?_ _));exact BK105.out) Try.underlying45 rfl (by kernel_rfl)) rfl ?_
  exact ⟨_,by first | rfl | (simp [errW_none,errW_some] <;> rfl) | (simp [*,errW_none,errW_some] <;> rfl),by (with_reducible repeat (first | apply Kd.R_alloc | apply Kd.R_drewN | apply Kd.R_drew));exact Kd.R_mono (Kd.R_far (p:=⟨gb105,4,none⟩) (Kd.R_far (p:=⟨gb105,3,none⟩) (Kd.R_far (p:=⟨gb105,2,none⟩) (Kd.R_far (p:=⟨gb105,1,none⟩) (Kd.R_far (p:=⟨gb105,0,none⟩) (Kd.R_far (p:=⟨gb104,4,none⟩) (Kd.R_types (Kd.R_types HO111.out BK104.out (by decide)) BK105.out (by decide)) (fun _ hk => hk.1.2) (.slice Ao10 y109.length co10)) (fun _ hk => hk.2) (.bool a0_0)) (fun _ hk => hk.2) (.int .u32 a0_1)) (fun _ hk => hk.2) (.bool a0_2)) (fun _ hk => hk.2) (.int .i64 a0_3)) (fun _ hk => hk.2) (.slice Ao10 y109.length co10)) (fun _ hk => trivial),by repeat (first | (with_reducible first | exact HB.out | apply below_alloc | apply pw_below_drewN | apply below_drew1 | refine below_set ?_ GE104.out | refine below_set ?_ GE105.out) | exact HB.out)⟩
 ·rw [if_neg c2] at H
  exact absurd H (by simp)
end Go.Proofs.Ytcaefabbcjlkdaa.P
namespace Go.Proofs.Ytcaefabbcjlkdaa.P
open Go Go.RowKit Go.Proofs.YtcaefabbcjlkdaaW.PrintWords
set_option linter.unusedVariables false
theorem copyFrame_v (x : S45) (A : Option Addr) (c : Nat) (w : World) (hr : (Kd.int .u8).C w A x.f4.length x.f4) (hc : x.f4.length ≤ c) (hl : x.f4.length ≤ 10000000) :
  Calls Try.prog 111 #[.agg #[.bool x.f0, .int .u32 x.f1, .bool x.f2, .int .i64 x.f3, .slice A x.f4.length c]] w fun e w' =>
   ∃ A' c',e = .returned (.agg #[.bool x.f0, .int .u32 x.f1, .bool x.f2, .int .i64 x.f3, .slice A' x.f4.length c']) ∧ (Kd.int .u8).R 5 w' w.heap.size (fun k => w.heap.size ≤ k) (.slice A' x.f4.length c') x.f4 ∧ Below w.heap.size w w':=by
 refine (impl_copyFrame.calls x.f0 x.f1 x.f2 x.f3 A c x.f4 x.f0 x.f1 x.f2 x.f3 x.f4 w hr hc (by unfold impl_copyFrame.f;simp;omega)).mono ?_
 rintro e w' ⟨v,rfl,h,hb⟩
 obtain ⟨A',c',rfl⟩:=Kd.R_slice h
 exact ⟨A',c',rfl,Kd.R_mono (Kd.R_bound h) (fun k hk => hk.2.1),hb⟩
end Go.Proofs.Ytcaefabbcjlkdaa.P
