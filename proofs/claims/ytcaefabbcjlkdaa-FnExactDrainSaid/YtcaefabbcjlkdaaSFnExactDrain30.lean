/- Texts of the proof of FnExactDrain, joined. -/
import Derived.Test.YtcaefabbcjlkdaaSFnExactDrain22
import Derived.Test.YtcaefabbcjlkdaaSFnExactDrain29
import Derived.Test.YtcaefabbcjlkdaaSFnExactDrain28
import Derived.Test.YtcaefabbcjlkdaaSFnExactDrain25
import Derived.Test.YtcaefabbcjlkdaaSFnExactDrain27
import Derived.Test.YtcaefabbcjlkdaaSFnExactDrain26
import Derived.Deep.RegionHeld
import Derived.Test.YtcaefabbcjlkdaaSFnExactDrain24
import Derived.Test.YtcaefabbcjlkdaaSFnExactDrain1
import Derived.Deep.QuietTactic
import Derived.BigQuiet
namespace Go.Proofs.Ytcaefabbcjlkdaa.P
open Go Go.RowKit Go.Proofs.YtcaefabbcjlkdaaW.PrintWords Go.Proofs.YtcaefabbcjlkdaaW.PrintLast Go.Proofs.YtcaefabbcjlkdaaW.PrintMore
set_option linter.unusedVariables false
theorem takeD_next {α : Type} (l : List α) (i : Nat) (z : α) (h : i < l.length) : l.take i ++ [l.getD (i : Int).toNat z] = l.take (i + 1):=by
 rw [List.take_add_one,getD_at l i z h];rfl
theorem specCopyFrame_ev (x : S45) (h : x.f4.length ≤ 10000000) : Ev (fun k => spec_l1copyFrame.f k x.f0 x.f1 x.f2 x.f3 x.f4) (x.f0,x.f1,x.f2,x.f3,x.f4):=by
 have loop : ∀ (d i : Nat),i + d = x.f4.length → Ev (fun k => spec_l1copyFrame.l0 k (x.f4.take i) (i : Int) x.f0 x.f1 x.f2 x.f3 x.f4) (x.f0,x.f1,x.f2,x.f3,x.f4):=by
  intro d
  induction d with
  | zero =>
   intro i hi
   refine Ev.step (f:=fun _ => some (x.f0,x.f1,x.f2,x.f3,x.f4)) (fun k => ?_) (Ev.now _)
   simp only [spec_l1copyFrame.l0]
   rw [if_neg (by omega),List.take_of_length_le (by omega)]
  | succ d ih =>
   intro i hi
   refine Ev.step (f:=fun k => spec_l1copyFrame.l0 k (x.f4.take (i + 1)) ((i + 1 : Nat) : Int) x.f0 x.f1 x.f2 x.f3 x.f4) (fun k => ?_) (ih (i + 1) (by omega))
   simp only [spec_l1copyFrame.l0]
   have ht : x.f4.take i ++ [rd x.f4 (i : Int)] = x.f4.take (i + 1):=by
    have hg:=rd_get x.f4 i (by omega)
    rw [List.take_add_one,hg];rfl
   rw [if_pos (by omega),if_pos (by omega),if_pos (by rw [List.length_take];omega),ht,w64 (x:=(i : Int) + 1) (by omega) (by omega)]
   rfl
 exact Ev.congr (fun k => by unfold spec_l1copyFrame.f;rfl) (by have:=loop x.f4.length 0 (by omega);simpa using this)
theorem specCopyEvents_ev (l : List S56) (hl : l.length ≤ 10000000) (hd : ∀ x ∈ l,x.f3.f4.length ≤ 10000000) : Ev (fun k => spec_l3copyEvents.f k l) l:=by
 have loop : ∀ (d i : Nat),i + d = l.length → Ev (fun k => spec_l3copyEvents.l0 k l (l.take i) (i : Int)) l:=by
  intro d
  induction d with
  | zero =>
   intro i hi
   refine Ev.step (f:=fun _ => some l) (fun k => ?_) (Ev.now _)
   simp only [spec_l3copyEvents.l0]
   rw [if_neg (by omega),List.take_of_length_le (by omega)]
  | succ d ih =>
   intro i hi
   have one:=specCopyFrame_ev (rd_T56 l (i : Int)).f3 (hd _ (List.mem_of_getElem? (getD_at l i z56 (by omega))))
   refine Ev.step (fun k => by simp only [spec_l3copyEvents.l0];rw [if_pos (by omega),if_pos (by omega)];try rfl) (Ev.bind one ?_)
   have hw : wrap64 ((i : Int) + 1) = ((i + 1 : Nat) : Int):=by rw [w64 (by omega) (by omega)];rfl
   refine ev_pos (by rw [List.length_take];omega) ?_
   have e:=takeD_next l i z56 (by omega)
   refine Ev.congr (fun k => ?_) (ih (i + 1) (by omega))
   rw [hw, ← e];rfl
 exact Ev.congr (fun k => by unfold spec_l3copyEvents.f;rfl) (by have:=loop l.length 0 (by omega);simpa using this)
theorem mx_ge (a b t : Int) : mx a b ≥ t ↔ (a ≥ t ∨ b ≥ t):=by unfold mx;split <;> omega
theorem filters_ev (l : List S89) (hl : l.length ≤ 10000000) : ∃ o,Ev (fun k => impl_goodFilters.f k l) o ∧ Ev (fun k => spec_l3okFilters.f k l) o:=by
 by_cases c : (l.length : Int) > 16
 ·refine ⟨false,Ev.congr (fun k => by unfold impl_goodFilters.f;rw [if_pos c]) (Ev.now _),Ev.congr (fun k => by unfold spec_l3okFilters.f;rw [if_pos c]) (Ev.now _)⟩
 have loop : ∀ (d i : Nat),i + d = l.length → ∃ o,Ev (fun k => impl_goodFilters.l0 k l (l.length : Int) (i : Int)) o ∧ Ev (fun k => spec_l3okFilters.l0 k l (i : Int)) o:=by
  intro d
  induction d with
  | zero =>
   intro i hi
   exact ⟨true,Ev.step (f:=fun _ => some true) (fun k => by simp only [impl_goodFilters.l0];rw [if_neg (by omega)]) (Ev.now _),Ev.step (f:=fun _ => some true) (fun k => by simp only [spec_l3okFilters.l0];rw [if_neg (by omega)]) (Ev.now _)⟩
  | succ d ih =>
   intro i hi
   obtain ⟨o,h1,h2⟩:=ih (i + 1) (by omega)
   have hw : wrap64 ((i : Int) + 1) = ((i + 1 : Nat) : Int):=by rw [w64 (by omega) (by omega)];rfl
   have one : ∀ t : Int,(mx (rd_T89 l (i : Int)).f1 (rd_T89 l (i : Int)).f2 ≥ t → (rd_T89 l (i : Int)).f1 ≥ t ∨ (¬ (rd_T89 l (i : Int)).f1 ≥ t ∧ (rd_T89 l (i : Int)).f2 ≥ t)) ∧ (¬ mx (rd_T89 l (i : Int)).f1 (rd_T89 l (i : Int)).f2 ≥ t → ¬ (rd_T89 l (i : Int)).f1 ≥ t ∧ ¬ (rd_T89 l (i : Int)).f2 ≥ t):=fun t => by rw [mx_ge];omega
   have main : ∀ t : Int, ∃ o',Ev (fun k => if mx (rd_T89 l (i : Int)).f1 (rd_T89 l (i : Int)).f2 ≥ t then some false else impl_goodFilters.l0 k l (l.length : Int) ((i + 1 : Nat) : Int)) o' ∧ Ev (fun k => if (rd_T89 l (i : Int)).f1 ≥ t then some false else if (rd_T89 l (i : Int)).f2 ≥ t then some false else spec_l3okFilters.l0 k l ((i + 1 : Nat) : Int)) o':=by
    intro t
    by_cases q : mx (rd_T89 l (i : Int)).f1 (rd_T89 l (i : Int)).f2 ≥ t
    ·refine ⟨false,ev_pos q (Ev.now _), ?_⟩
     rcases (one t).1 q with g | ⟨g,g'⟩
     ·exact ev_pos g (Ev.now _)
     ·exact ev_neg g (ev_pos g' (Ev.now _))
    ·obtain ⟨g,g'⟩:=(one t).2 q
     exact ⟨o,ev_neg q h1,ev_neg g (ev_neg g' h2)⟩
   by_cases e : (rd_T89 l (i : Int)).f0 = true
   ·obtain ⟨o',g1,g2⟩:=main 536870912
    exact ⟨o',Ev.step (fun k => by simp only [impl_goodFilters.l0];rw [if_pos (by omega),if_pos (by omega),if_pos (by omega),if_pos e,hw]) g1,Ev.step (fun k => by simp only [spec_l3okFilters.l0];rw [if_pos (by omega),if_pos (by omega),if_pos e,hw]) g2⟩
   ·obtain ⟨o',g1,g2⟩:=main 2048
    exact ⟨o',Ev.step (fun k => by simp only [impl_goodFilters.l0];rw [if_pos (by omega),if_pos (by omega),if_pos (by omega),if_neg e,hw]) g1,Ev.step (fun k => by simp only [spec_l3okFilters.l0];rw [if_pos (by omega),if_pos (by omega),if_neg e,hw]) g2⟩
 obtain ⟨o,h1,h2⟩:=loop l.length 0 (by omega)
 exact ⟨o,Ev.congr (fun k => by unfold impl_goodFilters.f;rw [if_neg c];rfl) h1,Ev.congr (fun k => by unfold spec_l3okFilters.f;rw [if_neg c];rfl) h2⟩
theorem config_ev (a b c d : Int) : ∃ o,impl_goodConfig.f a b c d = some o ∧ spec_l3okConfig.f a b c d = some o:=by
 have e : spec_l3okConfig.f a b c d = impl_goodConfig.f a b c d:=rfl
 rw [e]
 have : ∃ o,impl_goodConfig.f a b c d = some o:=by
  unfold impl_goodConfig.f
  repeat' split
  all_goals exact ⟨_,rfl⟩
 obtain ⟨o,h⟩:=this
 exact ⟨o,h,h⟩
end Go.Proofs.Ytcaefabbcjlkdaa.P
namespace Go.Proofs.Ytcaefabbcjlkdaa.P
open Go Go.RowKit Go.Proofs.YtcaefabbcjlkdaaW.PrintWords
set_option linter.unusedVariables false
abbrev bxAt (bs : List S87) (i : Nat) : S87:=rd_T87 bs (i : Int)
def valF (x : S45) : Bool:=validF x.f0 x.f1 x.f2 x.f3 x.f4.length
def keyUp (g : S87 → Int) (bs : List S87) : Nat → (Int → Option Int) × Nat
 | 0 => (fun _ => none,0)
 | i + 1 => if (bxAt bs i).f0 = 0 then keyUp g bs i else (fun t => if t = g (bxAt bs i) then some (i : Int) else (keyUp g bs i).1 t,if ((keyUp g bs i).1 (g (bxAt bs i))).isSome then (keyUp g bs i).2 else (keyUp g bs i).2 + 1)
def Live (bs : List S87) (i : Nat) : Prop:=(bxAt bs i).f0 ≠ 0
def liveN (bs : List S87) : Nat → Nat
 | 0 => 0
 | i + 1 => if (bxAt bs i).f0 = 0 then liveN bs i else liveN bs i + 1
def busyN (bs : List S87) : Nat → Nat
 | 0 => 0
 | i + 1 => if (bxAt bs i).f0 = 0 then busyN bs i else if (bxAt bs i).f0 = 1 then busyN bs i else busyN bs i + 1
theorem liveN_le (bs : List S87) (n : Nat) : liveN bs n ≤ n:=by
 induction n with
 | zero => exact Nat.le_refl _
 | succ n ih => rw [liveN];split <;> omega
theorem busyN_le (bs : List S87) (n : Nat) : busyN bs n ≤ n:=by
 induction n with
 | zero => exact Nat.le_refl _
 | succ n ih => rw [busyN];split;omega;split <;> omega
def Uniq (g : S87 → Int) (bs : List S87) (n : Nat) : Prop := ∀ i j,j < i → i < n → Live bs i → Live bs j → g (bxAt bs i) ≠ g (bxAt bs j)
section
variable {g : S87 → Int} {bs : List S87}
theorem Uniq.less {n m : Nat} (h : Uniq g bs n) (hm : m ≤ n) : Uniq g bs m:=fun i j h1 h2 => h i j h1 (by omega)
theorem keyUp_some (n : Nat) (t v : Int) (h : (keyUp g bs n).1 t = some v) : ∃ j : Nat,j < n ∧ v = (j : Int) ∧ Live bs j ∧ g (bxAt bs j) = t:=by
 induction n with
 | zero => cases h
 | succ n ih =>
  rw [keyUp] at h
  by_cases c : (bxAt bs n).f0 = 0
  ·rw [if_pos c] at h
   obtain ⟨j,h1,h2⟩:=ih h
   exact ⟨j,by omega,h2⟩
  ·rw [if_neg c] at h
   have h' : (if t = g (bxAt bs n) then some (n : Int) else (keyUp g bs n).1 t) = some v:=h
   by_cases e : t = g (bxAt bs n)
   ·rw [if_pos e] at h'
    exact ⟨n,by omega,(Option.some.inj h').symm,c,e.symm⟩
   ·rw [if_neg e] at h'
    obtain ⟨j,h1,h2⟩:=ih h'
    exact ⟨j,by omega,h2⟩
theorem keyUp_has (n j : Nat) (hj : j < n) (hl : Live bs j) : ((keyUp g bs n).1 (g (bxAt bs j))).isSome = true:=by
 induction n with
 | zero => omega
 | succ n ih =>
  rw [keyUp]
  by_cases c : (bxAt bs n).f0 = 0
  ·rw [if_pos c]
   have : j ≠ n:=by rintro rfl;exact hl c
   exact ih (by omega)
  ·rw [if_neg c]
   show (if g (bxAt bs j) = g (bxAt bs n) then some (n : Int) else (keyUp g bs n).1 (g (bxAt bs j))).isSome = true
   by_cases e : g (bxAt bs j) = g (bxAt bs n)
   ·rw [if_pos e];rfl
   ·rw [if_neg e]
    have : j ≠ n:=by rintro rfl;exact e rfl
    exact ih (by omega)
theorem keyUp_none {n : Nat} {t : Int} : (keyUp g bs n).1 t = none ↔ ∀ j,j < n → Live bs j → g (bxAt bs j) ≠ t:=by
 constructor
 ·intro h j hj hl e
  have:=keyUp_has (g:=g) n j hj hl
  rw [e,h] at this
  cases this
 ·intro h
  cases e : (keyUp g bs n).1 t with
  | none => rfl
  | some v =>
   obtain ⟨j,h1,_,h3,h4⟩:=keyUp_some n t v e
   exact absurd h4 (h j h1 h3)
theorem keyUp_le (n : Nat) : (keyUp g bs n).2 ≤ liveN bs n:=by
 induction n with
 | zero => exact Nat.le_refl _
 | succ n ih =>
  rw [keyUp,liveN]
  by_cases c : (bxAt bs n).f0 = 0
  ·rw [if_pos c,if_pos c];exact ih
  ·rw [if_neg c,if_neg c]
   show (if ((keyUp g bs n).1 (g (bxAt bs n))).isSome then (keyUp g bs n).2 else (keyUp g bs n).2 + 1) ≤ _
   split <;> omega
theorem keyUp_all {n : Nat} : (keyUp g bs n).2 = liveN bs n ↔ Uniq g bs n:=by
 induction n with
 | zero => exact ⟨fun _ i j _ h => absurd h (Nat.not_lt_zero _),fun _ => rfl⟩
 | succ n ih =>
  rw [keyUp,liveN]
  by_cases c : (bxAt bs n).f0 = 0
  ·rw [if_pos c,if_pos c,ih]
   refine ⟨fun h i j h1 h2 h3 h4 => ?_,fun h => h.less (by omega)⟩
   have : i ≠ n:=by rintro rfl;exact h3 c
   exact h i j h1 (by omega) h3 h4
  ·rw [if_neg c,if_neg c]
   show (if ((keyUp g bs n).1 (g (bxAt bs n))).isSome then (keyUp g bs n).2 else (keyUp g bs n).2 + 1) = _ ↔ _
   have hle:=keyUp_le (g:=g) (bs:=bs) n
   cases e : (keyUp g bs n).1 (g (bxAt bs n)) with
   | some v =>
    obtain ⟨j,h1,_,h3,h4⟩:=keyUp_some n _ v e
    refine ⟨fun h => ?_,fun h => absurd h4.symm (h n j h1 (by omega) c h3)⟩
    exfalso
    have h' : (keyUp g bs n).2 = liveN bs n + 1:=h
    omega
   | none =>
    refine ⟨fun h i j h1 h2 h3 h4 => ?_,fun h => ?_⟩
    ·have h' : (keyUp g bs n).2 + 1 = liveN bs n + 1:=h
     have hu:=ih.1 (by omega)
     by_cases q : i = n
     ·subst q
      exact fun q => keyUp_none.1 e j h1 h4 q.symm
     ·exact hu i j h1 (by omega) h3 h4
    ·have:=ih.2 (h.less (by omega))
     show (keyUp g bs n).2 + 1 = liveN bs n + 1
     omega
end
def boxOk (st : Int) (b : S87) : Prop:=(b.f0 = 0 → b.f1 = 0 ∧ b.f2 = 0 ∧ zeroB b.f3 = true) ∧ (b.f0 ≠ 0 → 0 ≤ b.f0 ∧ b.f0 ≤ 3 ∧ 0 ≤ b.f1 ∧ b.f1 ≤ 9999 ∧ 0 ≤ b.f2 ∧ b.f2 < st ∧ valF b.f3 = true)
structure GoodB (st : Int) (bs : List S87) : Prop where
 one : ∀ i,i < bs.length → boxOk st (bxAt bs i)
 tag : Uniq (·.f1) bs bs.length
 stamp : Uniq (·.f2) bs bs.length
 busy : busyN bs bs.length ≤ 1
def evOk (e : S56) : Prop:=1 ≤ e.f0 ∧ e.f0 ≤ 12 ∧ 0 ≤ e.f1 ∧ e.f1 ≤ 9999 ∧ 0 ≤ e.f2 ∧ e.f2 ≤ 9 ∧ (zeroB e.f3 = true ∨ valF e.f3 = true)
structure GoodL (h : HV) : Prop where
 nb : (h.bs.length : Int) = h.cb
 nq : (h.fr.length : Int) ≤ h.cf
 ne : (h.ev.length : Int) ≤ h.ce
 fr : ∀ i : Nat,i < h.fr.length → valF (rd_T45 h.fr (i : Int)) = true
 ev : ∀ i : Nat,i < h.ev.length → evOk (rd_T56 h.ev (i : Int))
structure OkH (h : HV) (o o1 o2 o3 o4 : Bool) : Prop where
 e1 : impl_goodConfig.f h.cb h.cf h.cp h.ce = some o1
 e2 : Ev (fun k => impl_goodFilters.f k h.fs) o2
 e2' : Ev (fun k => spec_l3okFilters.f k h.fs) o2
 e3 : o3 = true ↔ GoodL h
 e4 : o4 = true ↔ GoodB h.stamp h.bs
 is : o = (o1 && (o2 && (decide (0 ≤ h.lost) && (decide (h.lost ≤ 100000) && (decide (0 ≤ h.stamp) && (decide (h.stamp ≤ 1000000) && (o3 && o4)))))))
theorem OkH.total (h : HV) (hl : h.fs.length ≤ 10000000) : ∃ o o1 o2 o3 o4,OkH h o o1 o2 o3 o4:=by
 obtain ⟨o1,h1,_⟩:=config_ev h.cb h.cf h.cp h.ce
 obtain ⟨o2,h2,h3⟩:=filters_ev h.fs hl
 have b : ∀ p : Prop, ∃ o : Bool,o = true ↔ p:=fun p => by
  rcases Classical.em p with c | c
  ·exact ⟨true,(fun _ => c),(fun _ => rfl)⟩
  ·exact ⟨false,(fun q => by cases q),(fun q => absurd q c)⟩
 obtain ⟨o3,h4⟩:=b (GoodL h)
 obtain ⟨o4,h5⟩:=b (GoodB h.stamp h.bs)
 exact ⟨_,o1,o2,o3,o4,h1,h2,h3,h4,h5,rfl⟩
structure GoodH (h : HV) : Prop where
 conf : (1 ≤ h.cb ∧ h.cb ≤ 8) ∧ (1 ≤ h.cf ∧ h.cf ≤ 16) ∧ (1 ≤ h.ce ∧ h.ce ≤ 32)
 fs : h.fs.length ≤ 16
 lost : 0 ≤ h.lost ∧ h.lost ≤ 100000
 st : 0 ≤ h.stamp ∧ h.stamp ≤ 1000000
 L : GoodL h
 B : GoodB h.stamp h.bs
theorem OkH.good {h : HV} {o1 o2 o3 o4 : Bool} (H : OkH h true o1 o2 o3 o4) : GoodH h:=by
 have e:=H.is
 cases o1 with
 | false => cases e
 | true =>
  cases o2 with
  | false => cases e
  | true =>
   have e':=e.symm
   simp only [Bool.true_and,Bool.and_eq_true,decide_eq_true_eq] at e'
   obtain ⟨a1,a2,a3,a4,a5,a6⟩:=e'
   obtain ⟨k,hk⟩:=H.e2.rounds
   exact ⟨goodConfig_is H.e1,goodFilters_is hk,⟨a1,a2⟩,⟨a3,a4⟩,H.e3.1 a5,H.e4.1 a6⟩
theorem valF_len {x : S45} (h : valF x = true) : x.f4.length ≤ 8:=(valid_parts h).2.2.2.2
theorem zeroB_len {x : S45} (h : zeroB x = true) : x.f4.length = 0:=by
 unfold zeroB at h
 simp only [Bool.and_eq_true] at h
 exact eq_of_beq h.2
theorem rd_of_mem {α : Type} {l : List α} {z y : α} (h : y ∈ l) : ∃ i : Nat,i < l.length ∧ l.getD (i : Int).toNat z = y:=by
 obtain ⟨i,hi⟩:=List.mem_iff_getElem?.1 h
 refine ⟨i,(List.getElem?_eq_some_iff.1 hi).1, ?_⟩
 rw [Int.toNat_natCast,List.getD_eq_getElem?_getD,hi];rfl
theorem GoodH.b8 {h : HV} (H : GoodH h) : ∀ y ∈ h.bs,y.f3.f4.length ≤ 8:=by
 intro y hy
 obtain ⟨i,hi,rfl⟩:=rd_of_mem (z:=z87) hy
 have h1:=H.B.one i hi
 by_cases c : (bxAt h.bs i).f0 = 0
 ·have:=zeroB_len (h1.1 c).2.2;exact Nat.le_trans (Nat.le_of_eq this) (by decide)
 ·exact valF_len (h1.2 c).2.2.2.2.2.2
theorem GoodH.q8 {h : HV} (H : GoodH h) : ∀ y ∈ h.fr,y.f4.length ≤ 8:=by
 intro y hy
 obtain ⟨i,hi,rfl⟩:=rd_of_mem (z:=z45) hy
 exact valF_len (H.L.fr i hi)
theorem GoodH.e8 {h : HV} (H : GoodH h) : ∀ y ∈ h.ev,y.f3.f4.length ≤ 8:=by
 intro y hy
 obtain ⟨i,hi,rfl⟩:=rd_of_mem (z:=z56) hy
 rcases (H.L.ev i hi).2.2.2.2.2.2 with h1 | h1
 ·have:=zeroB_len h1;exact Nat.le_trans (Nat.le_of_eq this) (by decide)
 ·exact valF_len h1
theorem GoodH.lens {h : HV} (H : GoodH h) : h.fs.length ≤ 16 ∧ h.bs.length ≤ 8 ∧ h.fr.length ≤ 16 ∧ h.ev.length ≤ 32:=by
 have h1:=H.conf
 have h2:=H.L.nb
 have h3:=H.L.nq
 have h4:=H.L.ne
 have h5:=H.fs
 omega
end Go.Proofs.Ytcaefabbcjlkdaa.P
namespace Go.Proofs.Ytcaefabbcjlkdaa.P
open Go Go.RowKit Go.Proofs.YtcaefabbcjlkdaaW.PrintWords Go.Proofs.YtcaefabbcjlkdaaW.PrintLast Go.Proofs.YtcaefabbcjlkdaaW.PrintMore
set_option linter.unusedVariables false
set_option linter.unusedSimpArgs false
theorem GoodH.small {h : HV} (H : GoodH h) : HSmall h:=by
 have hl:=H.lens
 exact ⟨by omega,by omega,by omega,by omega,fun y hy => Nat.le_trans (H.b8 y hy) (by decide),fun y hy => Nat.le_trans (H.q8 y hy) (by decide),fun y hy => Nat.le_trans (H.e8 y hy) (by decide)⟩
theorem GoodH.fits {h : HV} (H : GoodH h) : HFits h:=by
 have hl:=H.lens
 have hc:=H.conf
 exact ⟨H.small,⟨by omega,by omega⟩,⟨by omega,by omega⟩,H.L.nq,H.L.ne⟩
end Go.Proofs.Ytcaefabbcjlkdaa.P
namespace Go.Proofs.Ytcaefabbcjlkdaa.P
open Go Go.RowKit Go.Proofs.YtcaefabbcjlkdaaW.PrintWords
set_option linter.unusedVariables false
def IsFirst (p : S87 → Prop) (bs : List S87) (r : Int) : Prop:=(r = -1 ∧ ∀ j,j < bs.length → ¬ p (bxAt bs j)) ∨ ∃ j : Nat,j < bs.length ∧ r = (j : Int) ∧ p (bxAt bs j) ∧ ∀ t,t < j → ¬ p (bxAt bs t)
section
variable {p : S87 → Prop} {bs : List S87} {r r' : Int}
theorem IsFirst.total (p : S87 → Prop) (bs : List S87) : ∃ r,IsFirst p bs r:=by
 have key : ∀ n,(∀ j,j < n → ¬ p (bxAt bs j)) ∨ ∃ j : Nat,j < n ∧ p (bxAt bs j) ∧ ∀ t,t < j → ¬ p (bxAt bs t):=by
  intro n
  induction n with
  | zero => exact .inl (fun j hj => absurd hj (Nat.not_lt_zero _))
  | succ n ih =>
   rcases ih with h | ⟨j,h1,h2⟩
   ·rcases Classical.em (p (bxAt bs n)) with c | c
    ·exact .inr ⟨n,by omega,c,h⟩
    ·exact .inl (fun j hj => by by_cases e : j = n;rw [e];exact c;exact h j (by omega))
   ·exact .inr ⟨j,by omega,h2⟩
 rcases key bs.length with h | ⟨j,h1,h2,h3⟩
 ·exact ⟨-1, .inl ⟨rfl,h⟩⟩
 ·exact ⟨j, .inr ⟨j,h1,rfl,h2,h3⟩⟩
theorem IsFirst.at (H : IsFirst p bs r) {i : Nat} (hi : i < bs.length) (hp : p (bxAt bs i)) (hn : ∀ t,t < i → ¬ p (bxAt bs t)) : r = (i : Int):=by
 rcases H with ⟨_,h⟩ | ⟨j,h1,h2,h3,h4⟩
 ·exact absurd hp (h i hi)
 ·rcases Nat.lt_trichotomy i j with c | c | c
  ·exact absurd hp (h4 i c)
  ·rw [h2,c]
  ·exact absurd h3 (hn j c)
theorem IsFirst.none (H : IsFirst p bs r) (hn : ∀ t,t < bs.length → ¬ p (bxAt bs t)) : r = -1:=by
 rcases H with ⟨h,_⟩ | ⟨j,h1,_,h3,_⟩
 ·exact h
 ·exact absurd h3 (hn j h1)
end
section
variable {w0 w w3 : World} {p m : Nat} {x : HV} {l1 l2 : Int} {vf vb vq ve : Value} {f : Int → Option Int} {n : Nat} {o : Nat → Nat} {l : List S87} {cs : Array Value}
end
end Go.Proofs.Ytcaefabbcjlkdaa.P
namespace Go.Proofs.Ytcaefabbcjlkdaa.P
open Go Go.RowKit Go.Proofs.YtcaefabbcjlkdaaW.PrintWords Go.Proofs.YtcaefabbcjlkdaaW.PrintLast Go.Proofs.YtcaefabbcjlkdaaW.PrintMore
set_option linter.unusedVariables false
set_option linter.unusedSimpArgs false
structure HostG (w0 w : World) (p : Nat) (cs : Array Value) (x : HV) (vf vb vq ve : Value) : Prop where
 bel : Below w0.heap.size w0 w
 blk : w.heap[p]? = some (.cells cs 32 (0,0))
 rows : ∃ o,HRows w w0.heap.size (fun _ => True) o x vf vb vq ve
 hp : w0.heap.size ≤ p
section
variable {w0 w we w1 w3 : World} {p : Nat} {cs cs' : Array Value} {x : HV} {vf vb vq ve : Value} {o : Nat → Nat}
theorem HostG.below (H : HostG w0 w p cs x vf vb vq ve) (hb : Below w.heap.size w we) : HostG w0 we p cs x vf vb vq ve:=by
 obtain ⟨h1,h2,⟨o,h4⟩,h5⟩:=H
 exact ⟨below_then h1 h1.size hb,blk_below h2 hb,⟨o,h4.below hb⟩,h5⟩
theorem HostG.put (H : HostG w0 w p cs x vf vb vq ve) (hT : Tch w we (fun k => k = p)) (hx : we.heap[p]? = some (.cells cs' 32 (0,0))) : HostG w0 we p cs' x vf vb vq ve:=by
 obtain ⟨h1,h2,⟨o,h4⟩,h5⟩:=H
 exact ⟨hT.below h1 h1.size (fun k hk => hk ▸ h5),hx,⟨o,(h4.bound.tch hT (fun k hk => host_other h2 hk.2)).mono (fun _ _ => trivial)⟩,h5⟩
theorem HostG.newF {vf' : Value} {l : List S89} {x' : HV} (H : HostG w0 w p cs x vf vb vq ve) (HR : HRows w w0.heap.size (fun _ => True) o x vf vb vq ve) (hb : Below w.heap.size w we)
  (hT : Tch we w3 (fun k => k = p ∨ some k = vf.ownBlock)) (hx : w3.heap[p]? = some (.cells cs' 32 (0,0))) (he : x' = { x with fs:=l })
  (hS : (k89).R 89 w3 w0.heap.size (fun k => (o k = 0 ∧ k < w.heap.size) ∨ w.heap.size ≤ k) vf' l) : HostG w0 w3 p cs' x' vf' vb vq ve:=by
 subst he
 have HR1:=(reown HR 0).below hb
 have H':=H.below hb
 have hown : ∀ k,vf.ownBlock = some k → k < w.heap.size ∧ o k = 0:=fun k hk => ⟨Kd.R_lt HR.f k hk,(R_own_ok HR.f hk).2⟩
 have hw : ∀ k,(k = p ∨ some k = vf.ownBlock) → w0.heap.size ≤ k:=by
  rintro k (e | e)
  ·rw [e];exact H.hp
  ·exact Kd.R_base HR.f k e.symm
 obtain ⟨o',ho',HR2⟩:=HRows.newF (w1:=w3) (vf':=vf') (l:=l) HR1.bound (keep_host hT HR1 H'.blk (i:=0) (fun k hk => by show (if k < w.heap.size then o k else 0) = 0;rw [if_pos (hown k hk).1];exact (hown k hk).2))
  (Kd.R_mono (Kd.R_bound hS) (fun k hk => by
   by_cases c : k < we.heap.size
   ·left
    refine ⟨⟨trivial, ?_⟩, ?_⟩
    ·obtain ⟨h1,h2,h3,q,hq,cs,hc⟩:=hk
     have hq : q ∈ [89]:=hq
     by_cases e : k = p ∨ some k = vf.ownBlock
     ·rcases e with e | e
      ·subst e
       rw [hx] at hc
       injection hc with hc
       injection hc with _ hc _
       subst hc
       simp at hq
      ·obtain ⟨cs',hc'⟩:=Kd.R_typed HR1.f k e.symm
       exact ⟨h2,c,_, .inl rfl,cs',hc'⟩
     ·refine ⟨h2,c,q, ?_,cs,by rw [← hT.block c e];exact hc⟩
      exact .inl (List.mem_singleton.1 hq)
    ·show (if k < w.heap.size then o k else 0) = 0
     rcases hk.1 with h | h
     ·rw [if_pos h.2];exact h.1
     ·rw [if_neg (by omega)]
   ·exact .inr (by omega)))
 exact ⟨hT.below (below_then H.bel H.bel.size hb) (Nat.le_trans H.bel.size hb.size) hw,hx,⟨o',HR2.mono (fun _ _ => trivial)⟩,H.hp⟩
theorem HostG.newB {vb' : Value} {l : List S87} {x' : HV} (H : HostG w0 w p cs x vf vb vq ve) (HR : HRows w w0.heap.size (fun _ => True) o x vf vb vq ve) (hb : Below w.heap.size w we)
  (hT : Tch we w3 (fun k => k = p ∨ some k = vb.ownBlock)) (hx : w3.heap[p]? = some (.cells cs' 32 (0,0))) (he : x' = { x with bs:=l })
  (hS : Kd.S k87 87 w3 w0.heap.size (fun k => (o k = 1 ∧ k < w.heap.size) ∨ w.heap.size ≤ k) vb' l) : HostG w0 w3 p cs' x' vf vb' vq ve:=by
 subst he
 have HR1:=(reown HR 1).below hb
 have H':=H.below hb
 have hown : ∀ k,vb.ownBlock = some k → k < w.heap.size ∧ o k = 1:=fun k hk => ⟨Kd.S_lt HR.b k hk,(S_own_ok HR.b hk).2⟩
 have hw : ∀ k,(k = p ∨ some k = vb.ownBlock) → w0.heap.size ≤ k:=by
  rintro k (e | e)
  ·rw [e];exact H.hp
  ·exact Kd.S_base HR.b k e.symm
 obtain ⟨o',ho',HR2⟩:=HRows.newB (w1:=w3) (vb':=vb') (l:=l) HR1.bound (keep_host hT HR1 H'.blk (i:=1) (fun k hk => by show (if k < w.heap.size then o k else 1) = 1;rw [if_pos (hown k hk).1];exact (hown k hk).2))
  (Kd.S_mono (Kd.S_bound hS) (fun k hk => by
   by_cases c : k < we.heap.size
   ·left
    refine ⟨⟨trivial, ?_⟩, ?_⟩
    ·obtain ⟨h1,h2,h3,q,hq,cs,hc⟩:=hk
     have hq : q ∈ [87,5]:=hq
     by_cases e : k = p ∨ some k = vb.ownBlock
     ·rcases e with e | e
      ·subst e
       rw [hx] at hc
       injection hc with hc
       injection hc with _ hc _
       subst hc
       simp at hq
      ·obtain ⟨cs',hc'⟩:=Kd.S_typed HR1.b k e.symm
       exact ⟨h2,c,_, .inr (.inl rfl),cs',hc'⟩
     ·refine ⟨h2,c,q, ?_,cs,by rw [← hT.block c e];exact hc⟩
      rcases List.mem_cons.1 hq with e1 | e1
      ·exact .inr (.inl e1)
      ·exact .inr (.inr (.inr (.inr (List.mem_singleton.1 e1))))
    ·show (if k < w.heap.size then o k else 1) = 1
     rcases hk.1 with h | h
     ·rw [if_pos h.2];exact h.1
     ·rw [if_neg (by omega)]
   ·exact .inr (by omega)))
 exact ⟨hT.below (below_then H.bel H.bel.size hb) (Nat.le_trans H.bel.size hb.size) hw,hx,⟨o',HR2.mono (fun _ _ => trivial)⟩,H.hp⟩
theorem HostG.newQ {vq' : Value} {l : List S45} {x' : HV} (H : HostG w0 w p cs x vf vb vq ve) (HR : HRows w w0.heap.size (fun _ => True) o x vf vb vq ve) (hb : Below w.heap.size w we)
  (hT : Tch we w3 (fun k => k = p ∨ some k = vq.ownBlock)) (hx : w3.heap[p]? = some (.cells cs' 32 (0,0))) (he : x' = { x with fr:=l })
  (hS : Kd.S k45 45 w3 w0.heap.size (fun k => (o k = 2 ∧ k < w.heap.size) ∨ w.heap.size ≤ k) vq' l) : HostG w0 w3 p cs' x' vf vb vq' ve:=by
 subst he
 have HR1:=(reown HR 2).below hb
 have H':=H.below hb
 have hown : ∀ k,vq.ownBlock = some k → k < w.heap.size ∧ o k = 2:=fun k hk => ⟨Kd.S_lt HR.q k hk,(S_own_ok HR.q hk).2⟩
 have hw : ∀ k,(k = p ∨ some k = vq.ownBlock) → w0.heap.size ≤ k:=by
  rintro k (e | e)
  ·rw [e];exact H.hp
  ·exact Kd.S_base HR.q k e.symm
 obtain ⟨o',ho',HR2⟩:=HRows.newQ (w1:=w3) (vq':=vq') (l:=l) HR1.bound (keep_host hT HR1 H'.blk (i:=2) (fun k hk => by show (if k < w.heap.size then o k else 2) = 2;rw [if_pos (hown k hk).1];exact (hown k hk).2))
  (Kd.S_mono (Kd.S_bound hS) (fun k hk => by
   by_cases c : k < we.heap.size
   ·left
    refine ⟨⟨trivial, ?_⟩, ?_⟩
    ·obtain ⟨h1,h2,h3,q,hq,cs,hc⟩:=hk
     have hq : q ∈ [45,5]:=hq
     by_cases e : k = p ∨ some k = vq.ownBlock
     ·rcases e with e | e
      ·subst e
       rw [hx] at hc
       injection hc with hc
       injection hc with _ hc _
       subst hc
       simp at hq
      ·obtain ⟨cs',hc'⟩:=Kd.S_typed HR1.q k e.symm
       exact ⟨h2,c,_, .inr (.inr (.inl rfl)),cs',hc'⟩
     ·refine ⟨h2,c,q, ?_,cs,by rw [← hT.block c e];exact hc⟩
      rcases List.mem_cons.1 hq with e1 | e1
      ·exact .inr (.inr (.inl e1))
      ·exact .inr (.inr (.inr (.inr (List.mem_singleton.1 e1))))
    ·show (if k < w.heap.size then o k else 2) = 2
     rcases hk.1 with h | h
     ·rw [if_pos h.2];exact h.1
     ·rw [if_neg (by omega)]
   ·exact .inr (by omega)))
 exact ⟨hT.below (below_then H.bel H.bel.size hb) (Nat.le_trans H.bel.size hb.size) hw,hx,⟨o',HR2.mono (fun _ _ => trivial)⟩,H.hp⟩
theorem HostG.setF {vf' : Value} {l : List S89} {x' : HV} (H : HostG w0 w p cs x vf vb vq ve) (hb : Below w.heap.size w we) (hT : Tch we w3 (fun k => k = p))
  (hx : w3.heap[p]? = some (.cells cs' 32 (0,0))) (he : x' = { x with fs:=l }) (hS : (k89).R 89 we w0.heap.size (fun k => w.heap.size ≤ k) vf' l) : HostG w0 w3 p cs' x' vf' vb vq ve:=by
 subst he
 have hpl:=blk_lt H.blk
 have H':=H.below hb
 obtain ⟨o,HR⟩:=H.rows
 have hS3:=Kd.R_step (w1:=w3) hS (fun k hk hl => hT.block hl (by omega))
 obtain ⟨o',ho',HR2⟩:=HRows.newF (w1:=w3) (vf':=vf') (l:=l) HR.bound (fun k hk hn hl => by rw [hT.block (Nat.lt_of_lt_of_le hl hb.size) (host_other H.blk hk.2),hb.block k hl]) (Kd.R_mono hS3 (fun k hk => .inr hk))
 exact ⟨hT.below H'.bel H'.bel.size (fun k hk => hk ▸ H.hp),hx,⟨o',HR2.mono (fun _ _ => trivial)⟩,H.hp⟩
theorem HostG.setB {vb' : Value} {l : List S87} {x' : HV} (H : HostG w0 w p cs x vf vb vq ve) (hb : Below w.heap.size w we) (hT : Tch we w3 (fun k => k = p))
  (hx : w3.heap[p]? = some (.cells cs' 32 (0,0))) (he : x' = { x with bs:=l }) (hS : Kd.S k87 87 we w0.heap.size (fun k => w.heap.size ≤ k) vb' l) : HostG w0 w3 p cs' x' vf vb' vq ve:=by
 subst he
 have hpl:=blk_lt H.blk
 have H':=H.below hb
 obtain ⟨o,HR⟩:=H.rows
 have hS3:=Kd.S_step (w1:=w3) hS (fun k hk hl => hT.block hl (by omega))
 obtain ⟨o',ho',HR2⟩:=HRows.newB (w1:=w3) (vb':=vb') (l:=l) HR.bound (fun k hk hn hl => by rw [hT.block (Nat.lt_of_lt_of_le hl hb.size) (host_other H.blk hk.2),hb.block k hl]) (Kd.S_mono hS3 (fun k hk => .inr hk))
 exact ⟨hT.below H'.bel H'.bel.size (fun k hk => hk ▸ H.hp),hx,⟨o',HR2.mono (fun _ _ => trivial)⟩,H.hp⟩
theorem HostG.setQ {vq' : Value} {l : List S45} {x' : HV} (H : HostG w0 w p cs x vf vb vq ve) (hb : Below w.heap.size w we) (hT : Tch we w3 (fun k => k = p))
  (hx : w3.heap[p]? = some (.cells cs' 32 (0,0))) (he : x' = { x with fr:=l }) (hS : Kd.S k45 45 we w0.heap.size (fun k => w.heap.size ≤ k) vq' l) : HostG w0 w3 p cs' x' vf vb vq' ve:=by
 subst he
 have hpl:=blk_lt H.blk
 have H':=H.below hb
 obtain ⟨o,HR⟩:=H.rows
 have hS3:=Kd.S_step (w1:=w3) hS (fun k hk hl => hT.block hl (by omega))
 obtain ⟨o',ho',HR2⟩:=HRows.newQ (w1:=w3) (vq':=vq') (l:=l) HR.bound (fun k hk hn hl => by rw [hT.block (Nat.lt_of_lt_of_le hl hb.size) (host_other H.blk hk.2),hb.block k hl]) (Kd.S_mono hS3 (fun k hk => .inr hk))
 exact ⟨hT.below H'.bel H'.bel.size (fun k hk => hk ▸ H.hp),hx,⟨o',HR2.mono (fun _ _ => trivial)⟩,H.hp⟩
theorem HostG.setE {ve' : Value} {l : List S56} {x' : HV} (H : HostG w0 w p cs x vf vb vq ve) (hb : Below w.heap.size w we) (hT : Tch we w3 (fun k => k = p))
  (hx : w3.heap[p]? = some (.cells cs' 32 (0,0))) (he : x' = { x with ev:=l }) (hS : Kd.S k56 56 we w0.heap.size (fun k => w.heap.size ≤ k) ve' l) : HostG w0 w3 p cs' x' vf vb vq ve':=by
 subst he
 have hpl:=blk_lt H.blk
 have H':=H.below hb
 obtain ⟨o,HR⟩:=H.rows
 have hS3:=Kd.S_step (w1:=w3) hS (fun k hk hl => hT.block hl (by omega))
 obtain ⟨o',ho',HR2⟩:=HRows.newE (w1:=w3) (ve':=ve') (l:=l) HR.bound (fun k hk hn hl => by rw [hT.block (Nat.lt_of_lt_of_le hl hb.size) (host_other H.blk hk.2),hb.block k hl]) (Kd.S_mono hS3 (fun k hk => .inr hk))
 exact ⟨hT.below H'.bel H'.bel.size (fun k hk => hk ▸ H.hp),hx,⟨o',HR2.mono (fun _ _ => trivial)⟩,H.hp⟩
end
theorem R_lit00 {α : Type} {d : Kd α} {e : Nat} {w : World} {base g : Nat} {ok : Nat → Prop} (h : w.heap[g]? = some (.cells #[] e (0,0))) (hg : base ≤ g ∧ ok g) : Kd.R d e w base ok (.slice (some ⟨g,0,none⟩) 0 0) []:=by
 refine ⟨fun k hk => ?_, [], ?_,Reps.none _ _⟩
 ·have : g = k:=by simpa [Value.ownBlock] using hk
  subst this;exact hg.2
 ·exact ⟨by simp, .inr ⟨g,0, #[],rfl,hg.1,h,Nat.le_refl _,by simp [maxLen],by simp,by simp⟩⟩
theorem S_lit00 {α : Type} {d : Kd α} {e : Nat} {w : World} {base g : Nat} {ok : Nat → Prop} (h : w.heap[g]? = some (.cells #[] e (0,0))) (hg : base ≤ g ∧ ok g) : Kd.S d e w base ok (.slice (some ⟨g,0,none⟩) 0 0) []:=⟨fun _ => 0,R_lit00 h hg⟩
section
variable {w0 w we w3 : World} {p gl : Nat} {cs cs' : Array Value} {x x' : HV} {vf vb vq ve : Value}
theorem HostG.litF (H : HostG w0 w p cs x vf vb vq ve) (hE : Below w.heap.size w we) (hl : we.heap[gl]? = some (.cells #[] 89 (0,0))) (hg : gl = w.heap.size) (hT : Tch we w3 (fun k => k = p)) (hx : w3.heap[p]? = some (.cells cs' 32 (0,0))) (he : x' = { x with fs := [] }) : HostG w0 w3 p cs' x' (.slice (some ⟨gl,0,none⟩) 0 0) vb vq ve:=by
 have h1:=H.bel.size
 exact H.setF hE hT hx he (R_lit00 hl ⟨by omega,by omega⟩)
theorem HostG.litB (H : HostG w0 w p cs x vf vb vq ve) (hE : Below w.heap.size w we) (hl : we.heap[gl]? = some (.cells #[] 87 (0,0))) (hg : gl = w.heap.size) (hT : Tch we w3 (fun k => k = p)) (hx : w3.heap[p]? = some (.cells cs' 32 (0,0))) (he : x' = { x with bs := [] }) : HostG w0 w3 p cs' x' vf (.slice (some ⟨gl,0,none⟩) 0 0) vq ve:=by
 have h1:=H.bel.size
 exact H.setB hE hT hx he (S_lit00 hl ⟨by omega,by omega⟩)
theorem HostG.litQ (H : HostG w0 w p cs x vf vb vq ve) (hE : Below w.heap.size w we) (hl : we.heap[gl]? = some (.cells #[] 45 (0,0))) (hg : gl = w.heap.size) (hT : Tch we w3 (fun k => k = p)) (hx : w3.heap[p]? = some (.cells cs' 32 (0,0))) (he : x' = { x with fr := [] }) : HostG w0 w3 p cs' x' vf vb (.slice (some ⟨gl,0,none⟩) 0 0) ve:=by
 have h1:=H.bel.size
 exact H.setQ hE hT hx he (S_lit00 hl ⟨by omega,by omega⟩)
end
theorem specCopyFrame_v (x : S45) (A : Option Addr) (c : Nat) (w : World) (hr : (Kd.int .u8).C w A x.f4.length x.f4) (hc : x.f4.length ≤ c) (hl : x.f4.length ≤ 10000000) :
  Calls Try.prog 109 #[.agg #[.bool x.f0, .int .u32 x.f1, .bool x.f2, .int .i64 x.f3, .slice A x.f4.length c]] w fun e w' =>
   ∃ A' c',e = .returned (.agg #[.bool x.f0, .int .u32 x.f1, .bool x.f2, .int .i64 x.f3, .slice A' x.f4.length c']) ∧ (Kd.int .u8).R 5 w' w.heap.size (fun k => w.heap.size ≤ k) (.slice A' x.f4.length c') x.f4 ∧ Below w.heap.size w w':=by
 obtain ⟨k,hk⟩:=(specCopyFrame_ev x hl).rounds
 refine (spec_l1copyFrame.calls k x.f0 x.f1 x.f2 x.f3 A c x.f4 x.f0 x.f1 x.f2 x.f3 x.f4 w hr hc hk).mono ?_
 rintro e w' ⟨v,rfl,h,hb⟩
 obtain ⟨A',c',rfl⟩:=Kd.R_slice h
 exact ⟨A',c',rfl,Kd.R_mono (Kd.R_bound h) (fun k hk => hk.2.1),hb⟩
theorem specCopyEvents_v (l : List S56) (hl : l.length ≤ 10000000) (hd : ∀ x ∈ l,x.f3.f4.length ≤ 10000000) (w : World) (A : Option Addr) (c : Nat) (hr : (k56).C w A l.length l) (hc : l.length ≤ c) :
  Calls Try.prog 97 #[.slice A l.length c] w fun e w' => ∃ A' c',e = .returned (.slice A' l.length c') ∧ Kd.S k56 56 w' w.heap.size (fun k => w.heap.size ≤ k) (.slice A' l.length c') l ∧ Below w.heap.size w w':=by
 obtain ⟨k,hk⟩:=(specCopyEvents_ev l hl hd).rounds
 refine (spec_l3copyEvents.calls k A c l _ w hr hc hk).mono ?_
 rintro e w' ⟨v,rfl,h,hb⟩
 obtain ⟨A',c',rfl⟩:=Kd.S_slice h
 exact ⟨A',c',rfl,Kd.S_mono (Kd.S_bound h) (fun k hk => hk.2.1),hb⟩
set_option maxRecDepth 100000 in
set_option maxHeartbeats 2000000 in
theorem specCopyBox_v (b : S87) (A : Option Addr) (c : Nat) (w : World) (hr : (Kd.int .u8).C w A b.f3.f4.length b.f3.f4) (hc : b.f3.f4.length ≤ c) (hl : b.f3.f4.length ≤ 10000000) :
  Calls Try.prog 108 #[.agg #[.int .i64 b.f0, .int .i64 b.f1, .int .i64 b.f2, .bool b.f3.f0, .int .u32 b.f3.f1, .bool b.f3.f2, .int .i64 b.f3.f3, .slice A b.f3.f4.length c]] w fun e w' => ∃ A' c',e = .returned (.agg #[.int .i64 b.f0, .int .i64 b.f1, .int .i64 b.f2, .bool b.f3.f0, .int .u32 b.f3.f1, .bool b.f3.f2, .int .i64 b.f3.f3, .slice A' b.f3.f4.length c']) ∧ (Kd.int .u8).R 5 w' w.heap.size (fun k => w.heap.size ≤ k) (.slice A' b.f3.f4.length c') b.f3.f4 ∧ Below w.heap.size w w':=by
 have GA:=Lib.hid hr
 have LA:=Lib.hid hc
 have HL:=Lib.hid hl
 clear hr hc hl
 have HB_0 : Hid (Below w.heap.size w w):=Lib.hid (Below.refl _ _)
 have hu:=Lib.hid Try.underlying87
 go_enter Try.func108,Try.ntmps108
 go_upto_region 1 with (first | ((with_reducible refine gate_dst (N:=1) rfl ?_);refine box_event ?hg (N:=1) ?hd (cs:=⟨[.int .i64 b.f0, .int .i64 b.f1, .int .i64 b.f2, .bool b.f3.f0, .int .u32 b.f3.f1, .bool b.f3.f2, .int .i64 b.f3.f3, .slice A b.f3.f4.length c]⟩) (t:=87) ?hr ?_;(case hd => rfl);(case hg => rfl);(case hr => first | (go_simp;done) | (go_simp;rfl));intro g1 hg w1 hbox hb;have LO_HB_g1 : Hid (w.heap.size ≤ g1):=Lib.hid (by rw [hg];exact HB_0.out.size);have HEg1:=Lib.hid hg;have HB_1:=Lib.hid (below_then HB_0.out HB_0.out.size hb);have Xg1_1:=Lib.hid hbox;clear hg hbox hb) | ((with_reducible refine gate_dst (N:=2) rfl ?_);refine box_event ?hg (N:=2) ?hd (cs:=⟨[.int .i64 0, .int .i64 0, .int .i64 0, .bool false, .int .u32 0, .bool false, .int .i64 0, .slice none 0 0]⟩) (t:=87) ?hr ?_;(case hd => rfl);(case hg => rfl);(case hr => first | (go_simp;done) | (go_simp;rfl));intro g2 hg w2 hbox hb;have LO_HB_g2 : Hid (w.heap.size ≤ g2):=Lib.hid (by rw [hg];exact HB_1.out.size);have NE_g1_g2 : Hid (g1 ≠ g2):=Lib.hid (fun e => by have h1:=blk_lt Xg1_1.out;omega);have HEg2:=Lib.hid hg;have HB_2:=Lib.hid (below_then HB_1.out HB_1.out.size hb);have Xg1_2:=Lib.hid (blk_below Xg1_1.out hb);have Xg2_2:=Lib.hid hbox;clear hg hbox hb))
 have y3 : w2.cell? ⟨g1,3,none⟩ = some (.bool b.f3.f0):=blk_cell Xg1_2.out 3
 have y4 : w2.cell? ⟨g1,4,none⟩ = some (.int .u32 b.f3.f1):=blk_cell Xg1_2.out 4
 have y5 : w2.cell? ⟨g1,5,none⟩ = some (.bool b.f3.f2):=blk_cell Xg1_2.out 5
 have y6 : w2.cell? ⟨g1,6,none⟩ = some (.int .i64 b.f3.f3):=blk_cell Xg1_2.out 6
 have y7 : w2.cell? ⟨g1,7,none⟩ = some (.slice A b.f3.f4.length c):=blk_cell Xg1_2.out 7
 go_upto_region 2 with (first | (go_at_call 109;refine (specCopyFrame_v b.f3 A c w2 (Kd.C_below GA.out HB_2.out) LA.out HL.out).mono ?_;rintro e w3 ⟨A9,c9,rfl,hr9,hb⟩;have HR_3:=Lib.hid (Kd.R_lower (Kd.R_mono hr9 (fun k hk => Nat.le_trans HB_2.out.size hk)) HB_2.out.size);clear hr9;have HB_3:=Lib.hid (below_then HB_2.out HB_2.out.size hb);have Xg1_3:=Lib.hid (blk_below Xg1_2.out hb);have Xg2_3:=Lib.hid (blk_below Xg2_2.out hb);clear hb) | ((with_reducible refine gate_store (t:=45) (p:=6) rfl ?_);refine store_box rfl rfl rfl (g:=g1) (j:=3) (cs:=⟨[.int .i64 b.f0, .int .i64 b.f1, .int .i64 b.f2, .bool b.f3.f0, .int .u32 b.f3.f1, .bool b.f3.f2, .int .i64 b.f3.f3, .slice A b.f3.f4.length c]⟩) (cs':=⟨[.int .i64 b.f0, .int .i64 b.f1, .int .i64 b.f2, .bool b.f3.f0, .int .u32 b.f3.f1, .bool b.f3.f2, .int .i64 b.f3.f3, .slice A9 b.f3.f4.length c9]⟩) (seg := [.bool b.f3.f0, .int .u32 b.f3.f1, .bool b.f3.f2, .int .i64 b.f3.f3, .slice A9 b.f3.f4.length c9]) rfl rfl Xg1_3.out rfl (by kernel_rfl) rfl rfl rfl ?_;intro w4 hx hT;have HB_4:=Lib.hid (hT.below HB_3.out HB_3.out.size (fun k hk => by rw [hk];exact LO_HB_g1.out));have Xg2_4:=Lib.hid (hT.blk Xg2_3.out (fun e => NE_g1_g2.out e.symm));have Xg1_4:=Lib.hid hx;have HR_4:=Lib.hid (R_tch HR_3.out Xg1_3.out (by decide) hT);clear hx hT))
 clear y3 y4 y5 y6 y7
 go_wp2_with (first | ((with_reducible refine gate_dst (N:=7) rfl ?_);refine load_all rfl rfl (g:=g1) rfl Xg1_4.out hu.out (by kernel_rfl) ?_) | ((with_reducible refine gate_store (t:=87) (p:=2) rfl ?_);refine store_box rfl rfl rfl (g:=g2) (j:=0) (cs:=⟨[.int .i64 0, .int .i64 0, .int .i64 0, .bool false, .int .u32 0, .bool false, .int .i64 0, .slice none 0 0]⟩) (cs':=⟨[.int .i64 b.f0, .int .i64 b.f1, .int .i64 b.f2, .bool b.f3.f0, .int .u32 b.f3.f1, .bool b.f3.f2, .int .i64 b.f3.f3, .slice A9 b.f3.f4.length c9]⟩) (seg := [.int .i64 b.f0, .int .i64 b.f1, .int .i64 b.f2, .bool b.f3.f0, .int .u32 b.f3.f1, .bool b.f3.f2, .int .i64 b.f3.f3, .slice A9 b.f3.f4.length c9]) rfl rfl Xg2_4.out rfl (by kernel_rfl) rfl rfl rfl ?_;intro w5 hx hT;have HB_5:=Lib.hid (hT.below HB_4.out HB_4.out.size (fun k hk => by rw [hk];exact LO_HB_g2.out));have Xg1_5:=Lib.hid (hT.blk Xg1_4.out NE_g1_g2.out);have Xg2_5:=Lib.hid hx;have HR_5:=Lib.hid (R_tch HR_4.out Xg2_4.out (by decide) hT);clear hx hT))
 refine bodyPost_ret (results_cell_row rfl _ _ g2 87 ⟨[.int .i64 b.f0, .int .i64 b.f1, .int .i64 b.f2, .bool b.f3.f0, .int .u32 b.f3.f1, .bool b.f3.f2, .int .i64 b.f3.f3, .slice A9 b.f3.f4.length c9]⟩ (0,0) _ rfl Xg2_5.out Try.underlying87 rfl (by kernel_rfl)) rfl ?_
 exact ⟨A9,c9,rfl,HR_5.out,HB_5.out⟩
set_option maxRecDepth 100000 in
set_option maxHeartbeats 8000000 in
theorem l3copy_v (w : World) (h : HV) (C : List Value) (hR : HRead w h C) (hS : HSm h) :
  Calls Try.prog 59 #[.agg ⟨C⟩] w fun e w' => ∃ C',e = .returned (.agg ⟨C'⟩) ∧ HOwn w' w.heap.size (fun _ => True) h C' ∧ Below w.heap.size w w':=by
 obtain ⟨Af,cf,Ab,cb,Aq,cq,Ae,ce,rfl,rf,lf,rb,lb,rq,lq,re,le⟩:=hR
 have RF:=Lib.hid rf
 have RB:=Lib.hid rb
 have RQ:=Lib.hid rq
 have RE:=Lib.hid re
 have LE:=Lib.hid le
 have SM:=Lib.hid hS
 clear rf rb rq re lf lb lq le hS
 have HB_0 : Hid (Below w.heap.size w w):=Lib.hid (Below.refl _ _)
 have hu:=Lib.hid Try.underlying32
 go_enter Try.func59,Try.ntmps59
 go_upto_region 1 with (first | ((with_reducible refine gate_dst (N:=1) rfl ?_);refine box_event ?hg (N:=1) ?hd (cs:=⟨[.int .i64 h.cb, .int .i64 h.cf, .int .i64 h.cp, .int .i64 h.ce, .slice Af h.fs.length cf, .slice Ab h.bs.length cb, .slice Aq h.fr.length cq, .slice Ae h.ev.length ce, .int .i64 h.lost, .int .i64 h.stamp]⟩) (t:=32) ?hr ?_;(case hd => rfl);(case hg => rfl);(case hr => first | (go_simp;done) | (go_simp;rfl));intro g1 hg w1 hbox hb;have LO_HB_g1 : Hid (w.heap.size ≤ g1):=Lib.hid (by rw [hg];exact HB_0.out.size);have HEg1:=Lib.hid hg;have HB_1:=Lib.hid (below_then HB_0.out HB_0.out.size hb);have Xg1_1:=Lib.hid hbox;clear hg hbox hb) | ((with_reducible refine gate_dst (N:=2) rfl ?_);refine box_event ?hg (N:=2) ?hd (cs:=⟨[.int .i64 0, .int .i64 0, .int .i64 0, .int .i64 0, .slice none 0 0, .slice none 0 0, .slice none 0 0, .slice none 0 0, .int .i64 0, .int .i64 0]⟩) (t:=32) ?hr ?_;(case hd => rfl);(case hg => rfl);(case hr => first | (go_simp;done) | (go_simp;rfl));intro g2 hg w2 hbox hb;have LO_HB_g2 : Hid (w.heap.size ≤ g2):=Lib.hid (by rw [hg];exact HB_1.out.size);have NE_g1_g2 : Hid (g1 ≠ g2):=Lib.hid (fun e => by have h1:=blk_lt Xg1_1.out;omega);have HEg2:=Lib.hid hg;have HB_2:=Lib.hid (below_then HB_1.out HB_1.out.size hb);have Xg1_2:=Lib.hid (blk_below Xg1_1.out hb);have Xg2_2:=Lib.hid hbox;clear hg hbox hb))
 go_upto_region 2 with (first | ((with_reducible refine gate_dst (N:=7) rfl ?_);refine load_all rfl rfl (g:=g1) rfl Xg1_2.out hu.out (by kernel_rfl) ?_) | ((with_reducible refine gate_dst (N:=3) rfl ?_);refine box_event ?hg (N:=3) ?hd (cs:=⟨[.int .i64 0, .int .i64 0, .int .i64 0, .int .i64 0, .slice none 0 0, .slice none 0 0, .slice none 0 0, .slice none 0 0, .int .i64 0, .int .i64 0]⟩) (t:=32) ?hr ?_;(case hd => rfl);(case hg => rfl);(case hr => first | (go_simp;done) | (go_simp;rfl));intro g3 hg w3 hbox hb;have LO_HB_g3 : Hid (w.heap.size ≤ g3):=Lib.hid (by rw [hg];exact HB_2.out.size);have NE_g1_g3 : Hid (g1 ≠ g3):=Lib.hid (fun e => by have h1:=blk_lt Xg1_2.out;omega);have NE_g2_g3 : Hid (g2 ≠ g3):=Lib.hid (fun e => by have h1:=blk_lt Xg2_2.out;omega);have HEg3:=Lib.hid hg;have HB_3:=Lib.hid (below_then HB_2.out HB_2.out.size hb);have Xg1_3:=Lib.hid (blk_below Xg1_2.out hb);have Xg2_3:=Lib.hid (blk_below Xg2_2.out hb);have Xg3_3:=Lib.hid hbox;clear hg hbox hb) | ((with_reducible refine gate_store (t:=32) (p:=3) rfl ?_);refine store_box rfl rfl rfl (g:=g3) (j:=0) (cs:=⟨[.int .i64 0, .int .i64 0, .int .i64 0, .int .i64 0, .slice none 0 0, .slice none 0 0, .slice none 0 0, .slice none 0 0, .int .i64 0, .int .i64 0]⟩) (cs':=⟨[.int .i64 h.cb, .int .i64 h.cf, .int .i64 h.cp, .int .i64 h.ce, .slice Af h.fs.length cf, .slice Ab h.bs.length cb, .slice Aq h.fr.length cq, .slice Ae h.ev.length ce, .int .i64 h.lost, .int .i64 h.stamp]⟩) (seg := [.int .i64 h.cb, .int .i64 h.cf, .int .i64 h.cp, .int .i64 h.ce, .slice Af h.fs.length cf, .slice Ab h.bs.length cb, .slice Aq h.fr.length cq, .slice Ae h.ev.length ce, .int .i64 h.lost, .int .i64 h.stamp]) rfl rfl Xg3_3.out rfl (by kernel_rfl) rfl rfl rfl ?_;intro w4 hx hT;have HB_4:=Lib.hid (hT.below HB_3.out HB_3.out.size (fun k hk => by rw [hk];exact LO_HB_g3.out));have Xg1_4:=Lib.hid (hT.blk Xg1_3.out NE_g1_g3.out);have Xg2_4:=Lib.hid (hT.blk Xg2_3.out NE_g2_g3.out);have Xg3_4:=Lib.hid hx;clear hx hT))
 have HS_4 : Hid (HostG w w4 g3 ⟨[.int .i64 h.cb, .int .i64 h.cf, .int .i64 h.cp, .int .i64 h.ce, .slice Af h.fs.length cf, .slice Ab h.bs.length cb, .slice Aq h.fr.length cq, .slice Ae h.ev.length ce, .int .i64 h.lost, .int .i64 h.stamp]⟩ { h with fs := [],bs := [],fr := [],ev := [] } (.slice none 0 0) (.slice none 0 0) (.slice none 0 0) (.slice none 0 0)):=Lib.hid ⟨HB_4.out,Xg3_4.out,⟨fun _ => 0,Kd.R_nil _ _ _ _ _,Kd.S_nil _ _ _ _ _,Kd.S_nil _ _ _ _ _,Kd.S_nil _ _ _ _ _⟩,LO_HB_g3.out⟩
 have X1:=Lib.hid Xg1_4.out
 have X2:=Lib.hid Xg2_4.out
 have HSA:=HS_4
 clear Xg1_4 Xg2_4 Xg3_4 HB_4 HS_4 HB_3 HB_2 HB_1 HB_0 Xg1_3 Xg2_3 Xg1_2 Xg2_2 Xg1_1 Xg3_3
 have HG13 : Hid (g1 ≠ g3):=NE_g1_g3
 have HG23 : Hid (g2 ≠ g3):=NE_g2_g3
 have HG12 : Hid (g1 ≠ g2):=NE_g1_g2
 have HLG2 : Hid (w.heap.size ≤ g2):=LO_HB_g2
 go_upto_region 3 with (first | ((with_reducible refine gate_dst (N:=8) rfl ?_);refine lit_event (cs := #[]) (T:=89) (n:=0) rfl ?hr ?_;(case hr => first | (go_simp;done) | (go_simp;rfl));rintro gl hgl wa0 ⟨hl,hb⟩;have HGL:=Lib.hid hgl;have HLT0:=Lib.hid hl;have HEL:=Lib.hid hb;have X1l:=Lib.hid (blk_below X1.out hb);have X2l:=Lib.hid (blk_below X2.out hb);have HSl:=Lib.hid (HSA.out.below hb);clear hgl hl hb) | ((with_reducible refine gate_store (t:=27) (p:=9) rfl ?_);refine store_box rfl rfl rfl (g:=g3) (j:=4) (cs:=⟨[.int .i64 h.cb, .int .i64 h.cf, .int .i64 h.cp, .int .i64 h.ce, .slice Af h.fs.length cf, .slice Ab h.bs.length cb, .slice Aq h.fr.length cq, .slice Ae h.ev.length ce, .int .i64 h.lost, .int .i64 h.stamp]⟩) (cs':=⟨[.int .i64 h.cb, .int .i64 h.cf, .int .i64 h.cp, .int .i64 h.ce, .slice (some ⟨gl,0,none⟩) 0 0, .slice Ab h.bs.length cb, .slice Aq h.fr.length cq, .slice Ae h.ev.length ce, .int .i64 h.lost, .int .i64 h.stamp]⟩) (T:=32) (seg := [.slice (some ⟨gl,0,none⟩) 0 0]) rfl rfl HSl.out.blk rfl (by kernel_rfl) rfl rfl rfl ?_;intro wb0 hx hT;have HSb : Hid (HostG w wb0 g3 ⟨[.int .i64 h.cb, .int .i64 h.cf, .int .i64 h.cp, .int .i64 h.ce, .slice (some ⟨gl,0,none⟩) 0 0, .slice Ab h.bs.length cb, .slice Aq h.fr.length cq, .slice Ae h.ev.length ce, .int .i64 h.lost, .int .i64 h.stamp]⟩ { h with fs := [],bs := [],fr := [],ev := [] } (.slice (some ⟨gl,0,none⟩) 0 0) (.slice none 0 0) (.slice none 0 0) (.slice none 0 0)):=Lib.hid (HSA.out.litF HEL.out HLT0.out HGL.out hT hx rfl);have X1b:=Lib.hid (hT.blk X1l.out HG13.out);have X2b:=Lib.hid (hT.blk X2l.out HG23.out);clear hx hT))
 go_wp2_with (fail)
 clear X1 X2 HSA X1l X2l HSl HEL HGL HLT0
 go_loopw [4] (fun v4 wr => ∃ (i : Nat) (vf : Value) (tt : List S89),i ≤ h.fs.length ∧ v4 = .int .i64 i ∧ Aside0 (tt = h.fs.take i) ∧ Aside0 (HostG w wr g3 ⟨[.int .i64 h.cb, .int .i64 h.cf, .int .i64 h.cp, .int .i64 h.ce,vf, .slice Ab h.bs.length cb, .slice Aq h.fr.length cq, .slice Ae h.ev.length ce, .int .i64 h.lost, .int .i64 h.stamp]⟩ { h with fs:=tt,bs := [],fr := [],ev := [] } vf (.slice none 0 0) (.slice none 0 0) (.slice none 0 0)) ∧ Aside0 (wr.heap[g1]? = some (.cells ⟨[.int .i64 h.cb, .int .i64 h.cf, .int .i64 h.cp, .int .i64 h.ce, .slice Af h.fs.length cf, .slice Ab h.bs.length cb, .slice Aq h.fr.length cq, .slice Ae h.ev.length ce, .int .i64 h.lost, .int .i64 h.stamp]⟩ 32 (0,0))) ∧ Aside0 (wr.heap[g2]? = some (.cells ⟨[.int .i64 0, .int .i64 0, .int .i64 0, .int .i64 0, .slice none 0 0, .slice none 0 0, .slice none 0 0, .slice none 0 0, .int .i64 0, .int .i64 0]⟩ 32 (0,0)))) (fun v4 _ => h.fs.length - (intOf v4).toNat)
 case atStart => exact ⟨0,_, [],Nat.zero_le _,rfl,⟨rfl⟩,⟨HSb.out⟩,⟨X1b.out⟩,⟨X2b.out⟩⟩
 case round =>
  clear HSb X1b X2b
  obtain ⟨i,vf,tt,hi,rfl,HTT,HSR,X1,X2⟩:=hrel
  have y0 : wr.cell? ⟨g1,4,none⟩ = some (.slice Af h.fs.length cf):=blk_cell X1.out 4
  by_cases hlt : i < h.fs.length
  ·have a1 : (0 : Int) ≤ (i : Int):=Int.natCast_nonneg _
   have a2 : (i : Int) < (h.fs.length : Int):=by exact_mod_cast hlt
   obtain ⟨ad,ea,k0,k1,k2⟩:=at_T89 RF.out (i : Int) a1 a2
   subst ea
   clear a1 a2
   rw [Int.toNat_natCast] at k0 k1 k2
   obtain ⟨b,hb⟩ : ∃ b,b = rd_T89 h.fs (i : Int):=⟨_,rfl⟩
   rw [← hb] at k0 k1 k2
   have HBE:=Lib.hid hb
   clear hb
   have b2 : decide ((i : Int) < (h.fs.length : Int)) = true:=decide_eq_true (by omega)
   have p5 : (0 ≤ (i : Int)) = True:=eq_true (by omega)
   have q5 : ((i : Int) < (h.fs.length : Int)) = True:=eq_true (by omega)
   have qn : (i < h.fs.length) = True:=eq_true hlt
   have hn : wrap64 ((i : Int) + 1) = (i : Int) + 1:=by have:=SM.out.l1;unfold wrap64;omega
   have HLT:=Lib.hid hlt
   have HN:=Lib.hid hn
   clear hlt hi
   go_wp2_with (fail)
   clear y0
   have K0':=Lib.hid k0
   have K1':=Lib.hid k1
   have K2':=Lib.hid k2
   clear k0 k1 k2
   obtain ⟨o,HR⟩:=HSR.out.rows
   have HRo:=Lib.hid HR
   clear HR
   obtain ⟨Av,cv,rfl⟩:=Kd.R_slice HRo.out.f
   obtain ⟨we,hwe⟩ : ∃ we,we = wr.drew:=⟨_,rfl⟩
   have HTE : Hid (Below wr.heap.size wr we):=by rw [hwe];exact Lib.hid (below_drew (Below.refl _ _))
   refine start_ (n:=11) (S:=fun w' : World => w'.heap[g3]? = some (.cells ⟨[.int .i64 h.cb, .int .i64 h.cf, .int .i64 h.cp, .int .i64 h.ce, .slice Av tt.length cv, .slice Ab h.bs.length cb, .slice Aq h.fr.length cq, .slice Ae h.ev.length ce, .int .i64 h.lost, .int .i64 h.stamp]⟩ 32 (0,0)) ∧ w'.heap[g1]? = some (.cells ⟨[.int .i64 h.cb, .int .i64 h.cf, .int .i64 h.cp, .int .i64 h.ce, .slice (some ad) h.fs.length cf, .slice Ab h.bs.length cb, .slice Aq h.fr.length cq, .slice Ae h.ev.length ce, .int .i64 h.lost, .int .i64 h.stamp]⟩ 32 (0,0)) ∧ Below w.heap.size w w') (ds := [10]) #[false,false,false,false,false,false,false,false,false,false,false] (by kernel_rfl) rfl rfl (hwe ▸ ⟨(HSR.out.below HTE.out).blk,blk_below X1.out HTE.out,(HSR.out.below HTE.out).bel⟩) (fun hHeld => ?_)
   rw [← hwe] at hHeld ⊢
   clear hwe
   refine pure_ (i:=0) (N:=some 17) (v := ?_) (a' := ?_) #[true,false,false,false,false,false,false,false,false,false,false] rfl rfl (by kernel_rfl) (fun _ _ _ h => h) (Or.inl ⟨by rfl, ?_⟩) ?_ ?_
   rotate_left
   ·intro w'
    go_simp
    with_reducible rfl
   rotate_left
   ·simp only [Act.put,List.setIfInBounds_toArray,List.set_cons_zero,List.set_cons_succ,i64_w,i32_w]
    rfl
   refine take_ (i:=1) (N:=some 18) (v := ?_) (a' := ?_) #[true,true,false,false,false,false,false,false,false,false,false] rfl rfl (by kernel_rfl) (fun _ _ _ h => h) (Or.inl ⟨by rfl, ?_⟩) hHeld ?_ ?_
   rotate_left
   ·rintro w' ⟨s0,s1,s2⟩
    have e0 : w'.cell? ⟨g3,4,none⟩ = some (.slice Av tt.length cv):=blk_cell s0 4
    go_simp
    with_reducible rfl
   rotate_left
   ·simp only [Act.put,List.setIfInBounds_toArray,List.set_cons_zero,List.set_cons_succ,i64_w,i32_w]
    rfl
   refine pure_ (i:=2) (N:=some 19) (v := ?_) (a' := ?_) #[true,true,true,false,false,false,false,false,false,false,false] rfl rfl (by kernel_rfl) (fun _ _ _ h => h) (Or.inl ⟨by rfl, ?_⟩) ?_ ?_
   rotate_left
   ·intro w'
    go_simp
    with_reducible rfl
   rotate_left
   ·simp only [Act.put,List.setIfInBounds_toArray,List.set_cons_zero,List.set_cons_succ,i64_w,i32_w]
    rfl
   refine take_ (i:=3) (N:=some 20) (v := ?_) (a' := ?_) #[true,true,true,true,false,false,false,false,false,false,false] rfl rfl (by kernel_rfl) (fun _ _ _ h => h) (Or.inl ⟨by rfl, ?_⟩) hHeld ?_ ?_
   rotate_left
   ·rintro w' ⟨s0,s1,s2⟩
    have e0 : w'.cell? ⟨g1,4,none⟩ = some (.slice (some ad) h.fs.length cf):=blk_cell s1 4
    go_simp
    with_reducible rfl
   rotate_left
   ·simp only [Act.put,List.setIfInBounds_toArray,List.set_cons_zero,List.set_cons_succ,i64_w,i32_w]
    rfl
   refine pure_ (i:=4) (N:=some 21) (v := ?_) (a' := ?_) #[true,true,true,true,true,false,false,false,false,false,false] rfl rfl (by kernel_rfl) (fun _ _ _ h => h) (Or.inl ⟨by rfl, ?_⟩) ?_ ?_
   rotate_left
   ·intro w'
    go_simp
    with_reducible rfl
   rotate_left
   ·simp only [Act.put,List.setIfInBounds_toArray,List.set_cons_zero,List.set_cons_succ,i64_w,i32_w]
    rfl
   refine pure_ (i:=5) (N:=some 22) (v := ?_) (a' := ?_) #[true,true,true,true,true,true,false,false,false,false,false] rfl rfl (by kernel_rfl) (fun _ _ _ h => h) (Or.inl ⟨by rfl, ?_⟩) ?_ ?_
   rotate_left
   ·intro w'
    go_simp
    with_reducible rfl
   rotate_left
   ·simp only [Act.put,List.setIfInBounds_toArray,List.set_cons_zero,List.set_cons_succ,i64_w,i32_w]
    rfl
   refine take_ (i:=6) (N:=some 23) (v := ?_) (a' := ?_) #[true,true,true,true,true,true,true,false,false,false,false] rfl rfl (by kernel_rfl) (fun _ _ _ h => h) (Or.inl ⟨by rfl, ?_⟩) hHeld ?_ ?_
   rotate_left
   ·rintro w' ⟨s0,s1,s2⟩
    have e0:=pw_cell_below s2 K0'.out
    have e1:=pw_cell_below s2 K1'.out
    have e2:=pw_cell_below s2 K2'.out
    go_simp
    with_reducible rfl
   rotate_left
   ·simp only [Act.put,List.setIfInBounds_toArray,List.set_cons_zero,List.set_cons_succ,i64_w,i32_w]
    rfl
   refine one_ (i:=7) (N:=some 24) #[true,true,true,true,true,true,true,true,false,false,false] rfl rfl (by kernel_rfl) (by decide) (fun K hK => ?_)
   refine value_ (w1 := ?_) (v := ?_) (by rfl) rfl ?_ ?_
   rotate_left 2
   ·go_simp
    constructor
    ·rfl
    ·rfl
   refine hK.out _ _ ⟨blk_alloc (HSR.out.below HTE.out).blk _,blk_alloc (blk_below X1.out HTE.out) _,below_alloc (HSR.out.below HTE.out).bel _⟩ (fun hHeld => ?_)
   clear hK K
   refine norm_ (a' := ?_) ?_ ?_
   rotate_left
   ·show Act.put _ (some 24) _ = _
    simp only [Act.put,List.setIfInBounds_toArray,List.set_cons_zero,List.set_cons_succ,i64_w,i32_w]
    rfl
   refine one_ (i:=8) (N:=some 25) #[true,true,true,true,true,true,true,true,true,false,false] rfl rfl (by kernel_rfl) (by decide) (fun K hK => ?_)
   refine Kd.R_append_step k89 (w0:=w) w.heap.size (by rfl) (.tmp 18) (.tmp 24) 27 89 (.agg #[.bool false, .int .u32 0, .int .u32 0]) 12 rfl Try.underlying27 info89 rfl (by decide) (by omega) (.slice Av tt.length cv) tt b [.bool b.f0, .int .u32 b.f1, .int .u32 b.f2] (fun k => (o k = 0 ∧ k < wr.heap.size) ∨ wr.heap.size ≤ k) (fun k => wr.heap.size ≤ k) rfl rfl ?aP ?aK ?aF ?aO ?aB ?aS ?aL ?_
   (case aP => exact (k89_mkM we w.heap.size _ b))
   (case aK => exact fun k hk => ⟨.inr hk,fun e => by have:=Kd.R_lt HRo.out.f k e.symm;omega⟩)
   (case aF => exact fun k hk => .inr (Nat.le_trans HTE.out.size hk))
   (case aO => exact Kd.R_mono (Kd.R_below (Kd.R_bound HRo.out.f) HTE.out) (fun k hk => .inl ⟨hk.1.2,hk.2.2.1⟩))
   (case aB => exact (HSR.out.below HTE.out).bel)
   (case aS => exact (HSR.out.below HTE.out).bel.size)
   (case aL => have h1:=SM.out.l1;have h2:=HLT.out;have h3:=congrArg List.length HTT.out;rw [List.length_take] at h3;omega)
   intro v1 w2 hS hb hg hat
   obtain ⟨bk,hbk⟩ : ∃ bk,bk = tt ++ [b]:=⟨_,rfl⟩
   rw [← hbk] at hS
   have HBK0:=Lib.hid hbk
   clear hbk
   have hnp : some g3 ≠ (Value.slice Av tt.length cv).ownBlock:=Kd.R_ne HRo.out.f HSR.out.blk (by decide)
   have hn1 : some g1 ≠ (Value.slice Av tt.length cv).ownBlock:=Kd.R_ne HRo.out.f X1.out (by decide)
   have HP2:=Lib.hid (blk_grown (g:=g3) (HSR.out.below HTE.out).blk hg hnp)
   have HX2:=Lib.hid (blk_grown (g:=g1) (blk_below X1.out HTE.out) hg hn1)
   have HBl:=Lib.hid hb
   have HS2:=Lib.hid hS
   have HT2:=Lib.hid ((Tch.refl we (fun k => k = g3 ∨ some k = (Value.slice Av tt.length cv).ownBlock)).grown hg (fun k e => .inl (.inr e.symm)))
   clear hb hg hat hnp hn1
   obtain ⟨A1,c1,rfl⟩:=Kd.R_slice hS
   clear hS
   refine hK.out _ _ ⟨HP2.out,HX2.out,HBl.out⟩ (fun hHeld => ?_)
   clear hK K
   refine norm_ (a' := ?_) ?_ ?_
   rotate_left
   ·show Act.put _ (some 25) _ = _
    simp only [Act.put,List.setIfInBounds_toArray,List.set_cons_zero,List.set_cons_succ,i64_w,i32_w]
    rfl
   refine pure_ (i:=9) (N:=some 26) (v := ?_) (a' := ?_) #[true,true,true,true,true,true,true,true,true,true,false] rfl rfl (by kernel_rfl) (fun _ _ _ h => h) (Or.inl ⟨by rfl, ?_⟩) ?_ ?_
   rotate_left
   ·intro w'
    go_simp
    with_reducible rfl
   rotate_left
   ·simp only [Act.put,List.setIfInBounds_toArray,List.set_cons_zero,List.set_cons_succ,i64_w,i32_w]
    rfl
   refine last_ (i:=10) (N:=none) #[true,true,true,true,true,true,true,true,true,true,true] rfl rfl (by kernel_rfl) (by decide) (fun K hK => ?_)
   refine st_one (by rfl) rfl rfl (g:=g3) (j:=4) (cs:=⟨[.int .i64 h.cb, .int .i64 h.cf, .int .i64 h.cp, .int .i64 h.ce, .slice Av tt.length cv, .slice Ab h.bs.length cb, .slice Aq h.fr.length cq, .slice Ae h.ev.length ce, .int .i64 h.lost, .int .i64 h.stamp]⟩) (T:=32) (u:=(.slice A1 bk.length c1)) (u0:=(.slice Av tt.length cv)) rfl rfl HP2.out rfl (by kernel_rfl) rfl rfl ?_
   intro w3 hx3 hT3
   have HS3 : Hid (HostG w w3 g3 ⟨[.int .i64 h.cb, .int .i64 h.cf, .int .i64 h.cp, .int .i64 h.ce, .slice A1 bk.length c1, .slice Ab h.bs.length cb, .slice Aq h.fr.length cq, .slice Ae h.ev.length ce, .int .i64 h.lost, .int .i64 h.stamp]⟩ { h with fs:=bk,bs := [],fr := [],ev := [] } (.slice A1 bk.length c1) (.slice none 0 0) (.slice none 0 0) (.slice none 0 0)):=Lib.hid (HSR.out.newF HRo.out HTE.out (HT2.out.trans (hT3.mono (fun k hk => .inl hk))) hx3 rfl (R_tch HS2.out HP2.out (by decide) hT3))
   have HX13:=Lib.hid ((HT2.out.trans (hT3.mono (fun k hk => .inl hk))).blk (blk_below X1.out HTE.out) (by rintro (e | e);exact HG13.out e;exact Kd.R_ne HRo.out.f X1.out (by decide) e))
   have HX23:=Lib.hid ((HT2.out.trans (hT3.mono (fun k hk => .inl hk))).blk (blk_below X2.out HTE.out) (by rintro (e | e);exact HG23.out e;exact Kd.R_ne HRo.out.f X2.out (by decide) e))
   clear hx3 hT3
   refine hK.out _ _ ?_
   clear hK K
   refine done_ (by kernel_rfl) ?_
   have HBK : Hid (bk = h.fs.take (i + 1)):=Lib.hid (by rw [HBK0.out,HTT.out,HBE.out,List.take_add_one,getD_at h.fs i z89 HLT.out];rfl)
   clear HS2 HT2 HP2 HX2 HBl HTE HSR X1 X2 HRo
   go_wp2_with (fail)
   go_roundw
   case rel => exact ⟨i + 1,_,bk,HLT.out,by rw [HN.out];rfl,⟨HBK.out⟩,⟨HS3.out⟩,⟨HX13.out⟩,⟨HX23.out⟩⟩
   case measure => rw [HN.out];have:=HLT.out;simp [intOf];omega
  ·have hii : i = h.fs.length:=by omega
   have HTTT : Hid (tt = h.fs):=Lib.hid (by rw [HTT.out,hii,List.take_length])
   have b2 : decide ((i : Int) < (h.fs.length : Int)) = false:=decide_eq_false (by omega)
   have qn : (i < h.fs.length) = False:=eq_false hlt
   have HSA : Hid (HostG w wr g3 ⟨[.int .i64 h.cb, .int .i64 h.cf, .int .i64 h.cp, .int .i64 h.ce,vf, .slice Ab h.bs.length cb, .slice Aq h.fr.length cq, .slice Ae h.ev.length ce, .int .i64 h.lost, .int .i64 h.stamp]⟩ { h with bs := [],fr := [],ev := [] } vf (.slice none 0 0) (.slice none 0 0) (.slice none 0 0)):=Lib.hid (by have e:=HSR.out;rw [HTTT.out] at e;exact e)
   clear hlt hi HSR hii HTT HTTT
   have X1b:=X1
   have X2b:=X2
   go_upto_region 7 with (fail)
   go_upto_region 8 with (first | ((with_reducible refine gate_dst (N:=27) rfl ?_);refine lit_event (cs := #[]) (T:=87) (n:=0) rfl ?hr ?_;(case hr => first | (go_simp;done) | (go_simp;rfl));rintro gl hgl wa1 ⟨hl,hb⟩;have HGL:=Lib.hid hgl;have HLT0:=Lib.hid hl;have HEL:=Lib.hid hb;have X1l:=Lib.hid (blk_below X1.out hb);have X2l:=Lib.hid (blk_below X2.out hb);have HSl:=Lib.hid (HSA.out.below hb);clear hgl hl hb) | ((with_reducible refine gate_store (t:=28) (p:=28) rfl ?_);refine store_box rfl rfl rfl (g:=g3) (j:=5) (cs:=⟨[.int .i64 h.cb, .int .i64 h.cf, .int .i64 h.cp, .int .i64 h.ce,vf, .slice Ab h.bs.length cb, .slice Aq h.fr.length cq, .slice Ae h.ev.length ce, .int .i64 h.lost, .int .i64 h.stamp]⟩) (cs':=⟨[.int .i64 h.cb, .int .i64 h.cf, .int .i64 h.cp, .int .i64 h.ce,vf, .slice (some ⟨gl,0,none⟩) 0 0, .slice Aq h.fr.length cq, .slice Ae h.ev.length ce, .int .i64 h.lost, .int .i64 h.stamp]⟩) (T:=32) (seg := [.slice (some ⟨gl,0,none⟩) 0 0]) rfl rfl HSl.out.blk rfl (by kernel_rfl) rfl rfl rfl ?_;intro wb1 hx hT;have HSb : Hid (HostG w wb1 g3 ⟨[.int .i64 h.cb, .int .i64 h.cf, .int .i64 h.cp, .int .i64 h.ce,vf, .slice (some ⟨gl,0,none⟩) 0 0, .slice Aq h.fr.length cq, .slice Ae h.ev.length ce, .int .i64 h.lost, .int .i64 h.stamp]⟩ { h with bs := [],fr := [],ev := [] } vf (.slice (some ⟨gl,0,none⟩) 0 0) (.slice none 0 0) (.slice none 0 0)):=Lib.hid (HSA.out.litB HEL.out HLT0.out HGL.out hT hx rfl);have X1b:=Lib.hid (hT.blk X1l.out HG13.out);have X2b:=Lib.hid (hT.blk X2l.out HG23.out);clear hx hT))
   go_wp2_with (fail)
   clear X1 X2 HSA X1l X2l HSl HEL HGL HLT0 b2 qn y0
   go_loopw [5] (fun v5 wr => ∃ (i : Nat) (vb : Value) (tt : List S87),i ≤ h.bs.length ∧ v5 = .int .i64 i ∧ Aside0 (tt = h.bs.take i) ∧ Aside0 (HostG w wr g3 ⟨[.int .i64 h.cb, .int .i64 h.cf, .int .i64 h.cp, .int .i64 h.ce,vf,vb, .slice Aq h.fr.length cq, .slice Ae h.ev.length ce, .int .i64 h.lost, .int .i64 h.stamp]⟩ { h with bs:=tt,fr := [],ev := [] } vf vb (.slice none 0 0) (.slice none 0 0)) ∧ Aside0 (wr.heap[g1]? = some (.cells ⟨[.int .i64 h.cb, .int .i64 h.cf, .int .i64 h.cp, .int .i64 h.ce, .slice Af h.fs.length cf, .slice Ab h.bs.length cb, .slice Aq h.fr.length cq, .slice Ae h.ev.length ce, .int .i64 h.lost, .int .i64 h.stamp]⟩ 32 (0,0))) ∧ Aside0 (wr.heap[g2]? = some (.cells ⟨[.int .i64 0, .int .i64 0, .int .i64 0, .int .i64 0, .slice none 0 0, .slice none 0 0, .slice none 0 0, .slice none 0 0, .int .i64 0, .int .i64 0]⟩ 32 (0,0)))) (fun v5 _ => h.bs.length - (intOf v5).toNat)
   case atStart => exact ⟨0,_, [],Nat.zero_le _,rfl,⟨rfl⟩,⟨HSb.out⟩,⟨X1b.out⟩,⟨X2b.out⟩⟩
   case round =>
    clear HSb X1b X2b
    obtain ⟨i,vb,tt,hi,rfl,HTT,HSR,X1,X2⟩:=hrel
    have y0 : wr.cell? ⟨g1,5,none⟩ = some (.slice Ab h.bs.length cb):=blk_cell X1.out 5
    by_cases hlt : i < h.bs.length
    ·have a1 : (0 : Int) ≤ (i : Int):=Int.natCast_nonneg _
     have a2 : (i : Int) < (h.bs.length : Int):=by exact_mod_cast hlt
     obtain ⟨ad,A8,c8,ea,k0,k1,k2,k3,k4,k5,k6,k7,l8,g8⟩:=at_T87 RB.out (i : Int) a1 a2
     subst ea
     clear a1 a2
     rw [Int.toNat_natCast] at k0 k1 k2 k3 k4 k5 k6 k7
     obtain ⟨b,hb⟩ : ∃ b,b = rd_T87 h.bs (i : Int):=⟨_,rfl⟩
     rw [← hb] at k0 k1 k2 k3 k4 k5 k6 k7 l8 g8
     have HBE:=Lib.hid hb
     have L8:=Lib.hid l8
     have G8:=Lib.hid g8
     have HD8 : Hid (b.f3.f4.length ≤ 10000000):=Lib.hid (by rw [hb];exact SM.out.d2 _ (List.mem_of_getElem? (getD_at h.bs i z87 hlt)))
     clear l8 g8
     clear hb
     have b2 : decide ((i : Int) < (h.bs.length : Int)) = true:=decide_eq_true (by omega)
     have p5 : (0 ≤ (i : Int)) = True:=eq_true (by omega)
     have q5 : ((i : Int) < (h.bs.length : Int)) = True:=eq_true (by omega)
     have qn : (i < h.bs.length) = True:=eq_true hlt
     have hn : wrap64 ((i : Int) + 1) = (i : Int) + 1:=by have:=SM.out.l2;unfold wrap64;omega
     have HLT:=Lib.hid hlt
     have HN:=Lib.hid hn
     clear hlt hi
     go_wp2_with (fail)
     clear y0
     have K0':=Lib.hid k0
     have K1':=Lib.hid k1
     have K2':=Lib.hid k2
     have K3':=Lib.hid k3
     have K4':=Lib.hid k4
     have K5':=Lib.hid k5
     have K6':=Lib.hid k6
     have K7':=Lib.hid k7
     clear k0 k1 k2 k3 k4 k5 k6 k7
     obtain ⟨o,HR⟩:=HSR.out.rows
     have HRo:=Lib.hid HR
     clear HR
     obtain ⟨Av,cv,rfl⟩:=Kd.S_slice HRo.out.b
     obtain ⟨we,hwe⟩ : ∃ we,we = wr.drew:=⟨_,rfl⟩
     have HTE : Hid (Below wr.heap.size wr we):=by rw [hwe];exact Lib.hid (below_drew (Below.refl _ _))
     refine start_ (n:=12) (S:=fun w' : World => w'.heap[g3]? = some (.cells ⟨[.int .i64 h.cb, .int .i64 h.cf, .int .i64 h.cp, .int .i64 h.ce,vf, .slice Av tt.length cv, .slice Aq h.fr.length cq, .slice Ae h.ev.length ce, .int .i64 h.lost, .int .i64 h.stamp]⟩ 32 (0,0)) ∧ w'.heap[g1]? = some (.cells ⟨[.int .i64 h.cb, .int .i64 h.cf, .int .i64 h.cp, .int .i64 h.ce, .slice Af h.fs.length cf, .slice (some ad) h.bs.length cb, .slice Aq h.fr.length cq, .slice Ae h.ev.length ce, .int .i64 h.lost, .int .i64 h.stamp]⟩ 32 (0,0)) ∧ Below w.heap.size w w') (ds := [11]) #[false,false,false,false,false,false,false,false,false,false,false,false] (by kernel_rfl) rfl rfl (hwe ▸ ⟨(HSR.out.below HTE.out).blk,blk_below X1.out HTE.out,(HSR.out.below HTE.out).bel⟩) (fun hHeld => ?_)
     rw [← hwe] at hHeld ⊢
     clear hwe
     refine pure_ (i:=0) (N:=some 36) (v := ?_) (a' := ?_) #[true,false,false,false,false,false,false,false,false,false,false,false] rfl rfl (by kernel_rfl) (fun _ _ _ h => h) (Or.inl ⟨by rfl, ?_⟩) ?_ ?_
     rotate_left
     ·intro w'
      go_simp
      with_reducible rfl
     rotate_left
     ·simp only [Act.put,List.setIfInBounds_toArray,List.set_cons_zero,List.set_cons_succ,i64_w,i32_w]
      rfl
     refine take_ (i:=1) (N:=some 37) (v := ?_) (a' := ?_) #[true,true,false,false,false,false,false,false,false,false,false,false] rfl rfl (by kernel_rfl) (fun _ _ _ h => h) (Or.inl ⟨by rfl, ?_⟩) hHeld ?_ ?_
     rotate_left
     ·rintro w' ⟨s0,s1,s2⟩
      have e0 : w'.cell? ⟨g3,5,none⟩ = some (.slice Av tt.length cv):=blk_cell s0 5
      go_simp
      with_reducible rfl
     rotate_left
     ·simp only [Act.put,List.setIfInBounds_toArray,List.set_cons_zero,List.set_cons_succ,i64_w,i32_w]
      rfl
     refine pure_ (i:=2) (N:=some 38) (v := ?_) (a' := ?_) #[true,true,true,false,false,false,false,false,false,false,false,false] rfl rfl (by kernel_rfl) (fun _ _ _ h => h) (Or.inl ⟨by rfl, ?_⟩) ?_ ?_
     rotate_left
     ·intro w'
      go_simp
      with_reducible rfl
     rotate_left
     ·simp only [Act.put,List.setIfInBounds_toArray,List.set_cons_zero,List.set_cons_succ,i64_w,i32_w]
      rfl
     refine take_ (i:=3) (N:=some 39) (v := ?_) (a' := ?_) #[true,true,true,true,false,false,false,false,false,false,false,false] rfl rfl (by kernel_rfl) (fun _ _ _ h => h) (Or.inl ⟨by rfl, ?_⟩) hHeld ?_ ?_
     rotate_left
     ·rintro w' ⟨s0,s1,s2⟩
      have e0 : w'.cell? ⟨g1,5,none⟩ = some (.slice (some ad) h.bs.length cb):=blk_cell s1 5
      go_simp
      with_reducible rfl
     rotate_left
     ·simp only [Act.put,List.setIfInBounds_toArray,List.set_cons_zero,List.set_cons_succ,i64_w,i32_w]
      rfl
     refine pure_ (i:=4) (N:=some 40) (v := ?_) (a' := ?_) #[true,true,true,true,true,false,false,false,false,false,false,false] rfl rfl (by kernel_rfl) (fun _ _ _ h => h) (Or.inl ⟨by rfl, ?_⟩) ?_ ?_
     rotate_left
     ·intro w'
      go_simp
      with_reducible rfl
     rotate_left
     ·simp only [Act.put,List.setIfInBounds_toArray,List.set_cons_zero,List.set_cons_succ,i64_w,i32_w]
      rfl
     refine pure_ (i:=5) (N:=some 41) (v := ?_) (a' := ?_) #[true,true,true,true,true,true,false,false,false,false,false,false] rfl rfl (by kernel_rfl) (fun _ _ _ h => h) (Or.inl ⟨by rfl, ?_⟩) ?_ ?_
     rotate_left
     ·intro w'
      go_simp
      with_reducible rfl
     rotate_left
     ·simp only [Act.put,List.setIfInBounds_toArray,List.set_cons_zero,List.set_cons_succ,i64_w,i32_w]
      rfl
     refine take_ (i:=6) (N:=some 42) (v := ?_) (a' := ?_) #[true,true,true,true,true,true,true,false,false,false,false,false] rfl rfl (by kernel_rfl) (fun _ _ _ h => h) (Or.inl ⟨by rfl, ?_⟩) hHeld ?_ ?_
     rotate_left
     ·rintro w' ⟨s0,s1,s2⟩
      have e0:=pw_cell_below s2 K0'.out
      have e1:=pw_cell_below s2 K1'.out
      have e2:=pw_cell_below s2 K2'.out
      have e3:=pw_cell_below s2 K3'.out
      have e4:=pw_cell_below s2 K4'.out
      have e5:=pw_cell_below s2 K5'.out
      have e6:=pw_cell_below s2 K6'.out
      have e7:=pw_cell_below s2 K7'.out
      go_simp
      with_reducible rfl
     rotate_left
     ·simp only [Act.put,List.setIfInBounds_toArray,List.set_cons_zero,List.set_cons_succ,i64_w,i32_w]
      rfl
     refine one_ (i:=7) (N:=some 43) #[true,true,true,true,true,true,true,true,false,false,false,false] rfl rfl (by kernel_rfl) (by decide) (fun K hK => ?_)
     refine goes_ Try.func108 (by kernel_rfl) rfl #[.agg #[.int .i64 b.f0, .int .i64 b.f1, .int .i64 b.f2, .bool b.f3.f0, .int .u32 b.f3.f1, .bool b.f3.f2, .int .i64 b.f3.f3, .slice A8 b.f3.f4.length c8]] (by rfl) rfl rfl (by (try simp only [List.map_toArray,List.map_cons,List.map_nil]);first | done | rfl) ?_
     refine (specCopyBox_v b A8 c8 we (Kd.C_below G8.out (HSR.out.below HTE.out).bel) L8.out HD8.out).mono ?_
     rintro e wf ⟨A9,c9,rfl,hr9,hb9⟩
     refine ⟨_,rfl, ?_⟩
     have HR9:=Lib.hid hr9
     have HTF:=Lib.hid (below_then HTE.out HTE.out.size hb9)
     clear hr9 hb9
     refine hK.out _ _ ⟨(HSR.out.below HTF.out).blk,blk_below X1.out HTF.out,(HSR.out.below HTF.out).bel⟩ (fun hHeld => ?_)
     clear hK K
     refine norm_ (a' := ?_) ?_ ?_
     rotate_left
     ·show Act.put _ (some 43) _ = _
      simp only [Act.put,List.setIfInBounds_toArray,List.set_cons_zero,List.set_cons_succ,i64_w,i32_w]
      rfl
     refine one_ (i:=8) (N:=some 44) #[true,true,true,true,true,true,true,true,true,false,false,false] rfl rfl (by kernel_rfl) (by decide) (fun K hK => ?_)
     refine value_ (w1 := ?_) (v := ?_) (by rfl) rfl ?_ ?_
     rotate_left 2
     ·go_simp
      constructor
      ·rfl
      ·rfl
     refine hK.out _ _ ⟨blk_alloc (HSR.out.below HTF.out).blk _,blk_alloc (blk_below X1.out HTF.out) _,below_alloc (HSR.out.below HTF.out).bel _⟩ (fun hHeld => ?_)
     clear hK K
     refine norm_ (a' := ?_) ?_ ?_
     rotate_left
     ·show Act.put _ (some 44) _ = _
      simp only [Act.put,List.setIfInBounds_toArray,List.set_cons_zero,List.set_cons_succ,i64_w,i32_w]
      rfl
     refine one_ (i:=9) (N:=some 45) #[true,true,true,true,true,true,true,true,true,true,false,false] rfl rfl (by kernel_rfl) (by decide) (fun K hK => ?_)
     refine Kd.S_append_step k87 (w0:=w) w.heap.size (by rfl) (.tmp 37) (.tmp 44) 28 87 (.agg #[.int .i64 0, .int .i64 0, .int .i64 0, .bool false, .int .u32 0, .bool false, .int .i64 0, .slice none 0 0]) 72 rfl Try.underlying28 info87 rfl (by decide) (by omega) (.slice Av tt.length cv) tt b [.int .i64 b.f0, .int .i64 b.f1, .int .i64 b.f2, .bool b.f3.f0, .int .u32 b.f3.f1, .bool b.f3.f2, .int .i64 b.f3.f3, .slice A9 b.f3.f4.length c9] (fun k => (o k = 1 ∧ k < wr.heap.size) ∨ wr.heap.size ≤ k) (fun k => wr.heap.size ≤ k) rfl rfl ?aP ?aK ?aF ?aO ?aB ?aS ?aL ?_
     (case aP => exact (k87_mkM wf w.heap.size _ b (Kd.R_lower (Kd.R_mono HR9.out (fun k hk => Nat.le_trans HTE.out.size hk)) (Nat.le_trans HSR.out.bel.size HTE.out.size))))
     (case aK => exact fun k hk => ⟨.inr hk,fun e => by have:=Kd.S_lt HRo.out.b k e.symm;omega⟩)
     (case aF => exact fun k hk => .inr (Nat.le_trans HTF.out.size hk))
     (case aO => exact Kd.S_mono (Kd.S_below (S_lt_own HRo.out.b) HTF.out) (fun k hk => ⟨.inl ⟨hk.1.2,hk.2⟩,by have:=hk.2;omega⟩))
     (case aB => exact (HSR.out.below HTF.out).bel)
     (case aS => exact (HSR.out.below HTF.out).bel.size)
     (case aL => have h1:=SM.out.l2;have h2:=HLT.out;have h3:=congrArg List.length HTT.out;rw [List.length_take] at h3;omega)
     intro v1 w2 hS hb hg hat
     obtain ⟨bk,hbk⟩ : ∃ bk,bk = tt ++ [b]:=⟨_,rfl⟩
     rw [← hbk] at hS
     have HBK0:=Lib.hid hbk
     clear hbk
     have hnp : some g3 ≠ (Value.slice Av tt.length cv).ownBlock:=Kd.S_ne HRo.out.b HSR.out.blk (by decide)
     have hn1 : some g1 ≠ (Value.slice Av tt.length cv).ownBlock:=Kd.S_ne HRo.out.b X1.out (by decide)
     have HP2:=Lib.hid (blk_grown (g:=g3) (HSR.out.below HTF.out).blk hg hnp)
     have HX2:=Lib.hid (blk_grown (g:=g1) (blk_below X1.out HTF.out) hg hn1)
     have HBl:=Lib.hid hb
     have HS2:=Lib.hid hS
     have HT2:=Lib.hid ((Tch.refl wf (fun k => k = g3 ∨ some k = (Value.slice Av tt.length cv).ownBlock)).grown hg (fun k e => .inl (.inr e.symm)))
     clear hb hg hat hnp hn1
     obtain ⟨A1,c1,rfl⟩:=Kd.S_slice hS
     clear hS
     refine hK.out _ _ ⟨HP2.out,HX2.out,HBl.out⟩ (fun hHeld => ?_)
     clear hK K
     refine norm_ (a' := ?_) ?_ ?_
     rotate_left
     ·show Act.put _ (some 45) _ = _
      simp only [Act.put,List.setIfInBounds_toArray,List.set_cons_zero,List.set_cons_succ,i64_w,i32_w]
      rfl
     refine pure_ (i:=10) (N:=some 46) (v := ?_) (a' := ?_) #[true,true,true,true,true,true,true,true,true,true,true,false] rfl rfl (by kernel_rfl) (fun _ _ _ h => h) (Or.inl ⟨by rfl, ?_⟩) ?_ ?_
     rotate_left
     ·intro w'
      go_simp
      with_reducible rfl
     rotate_left
     ·simp only [Act.put,List.setIfInBounds_toArray,List.set_cons_zero,List.set_cons_succ,i64_w,i32_w]
      rfl
     refine last_ (i:=11) (N:=none) #[true,true,true,true,true,true,true,true,true,true,true,true] rfl rfl (by kernel_rfl) (by decide) (fun K hK => ?_)
     refine st_one (by rfl) rfl rfl (g:=g3) (j:=5) (cs:=⟨[.int .i64 h.cb, .int .i64 h.cf, .int .i64 h.cp, .int .i64 h.ce,vf, .slice Av tt.length cv, .slice Aq h.fr.length cq, .slice Ae h.ev.length ce, .int .i64 h.lost, .int .i64 h.stamp]⟩) (T:=32) (u:=(.slice A1 bk.length c1)) (u0:=(.slice Av tt.length cv)) rfl rfl HP2.out rfl (by kernel_rfl) rfl rfl ?_
     intro w3 hx3 hT3
     have HS3 : Hid (HostG w w3 g3 ⟨[.int .i64 h.cb, .int .i64 h.cf, .int .i64 h.cp, .int .i64 h.ce,vf, .slice A1 bk.length c1, .slice Aq h.fr.length cq, .slice Ae h.ev.length ce, .int .i64 h.lost, .int .i64 h.stamp]⟩ { h with bs:=bk,fr := [],ev := [] } vf (.slice A1 bk.length c1) (.slice none 0 0) (.slice none 0 0)):=Lib.hid (HSR.out.newB HRo.out HTF.out (HT2.out.trans (hT3.mono (fun k hk => .inl hk))) hx3 rfl (S_tch HS2.out HP2.out (by decide) hT3))
     have HX13:=Lib.hid ((HT2.out.trans (hT3.mono (fun k hk => .inl hk))).blk (blk_below X1.out HTF.out) (by rintro (e | e);exact HG13.out e;exact Kd.S_ne HRo.out.b X1.out (by decide) e))
     have HX23:=Lib.hid ((HT2.out.trans (hT3.mono (fun k hk => .inl hk))).blk (blk_below X2.out HTF.out) (by rintro (e | e);exact HG23.out e;exact Kd.S_ne HRo.out.b X2.out (by decide) e))
     clear hx3 hT3
     refine hK.out _ _ ?_
     clear hK K
     refine done_ (by kernel_rfl) ?_
     have HBK : Hid (bk = h.bs.take (i + 1)):=Lib.hid (by rw [HBK0.out,HTT.out,HBE.out,List.take_add_one,getD_at h.bs i z87 HLT.out];rfl)
     clear HS2 HT2 HP2 HX2 HBl HTE HSR X1 X2 HRo HTF HR9
     go_wp2_with (fail)
     go_roundw
     case rel => exact ⟨i + 1,_,bk,HLT.out,by rw [HN.out];rfl,⟨HBK.out⟩,⟨HS3.out⟩,⟨HX13.out⟩,⟨HX23.out⟩⟩
     case measure => rw [HN.out];have:=HLT.out;simp [intOf];omega
    ·have hii : i = h.bs.length:=by omega
     have HTTT : Hid (tt = h.bs):=Lib.hid (by rw [HTT.out,hii,List.take_length])
     have b2 : decide ((i : Int) < (h.bs.length : Int)) = false:=decide_eq_false (by omega)
     have qn : (i < h.bs.length) = False:=eq_false hlt
     have HSA : Hid (HostG w wr g3 ⟨[.int .i64 h.cb, .int .i64 h.cf, .int .i64 h.cp, .int .i64 h.ce,vf,vb, .slice Aq h.fr.length cq, .slice Ae h.ev.length ce, .int .i64 h.lost, .int .i64 h.stamp]⟩ { h with fr := [],ev := [] } vf vb (.slice none 0 0) (.slice none 0 0)):=Lib.hid (by have e:=HSR.out;rw [HTTT.out] at e;exact e)
     clear hlt hi HSR hii HTT HTTT
     have X1b:=X1
     have X2b:=X2
     go_upto_region 12 with (fail)
     go_upto_region 13 with (first | ((with_reducible refine gate_dst (N:=47) rfl ?_);refine lit_event (cs := #[]) (T:=45) (n:=0) rfl ?hr ?_;(case hr => first | (go_simp;done) | (go_simp;rfl));rintro gl hgl wa2 ⟨hl,hb⟩;have HGL:=Lib.hid hgl;have HLT0:=Lib.hid hl;have HEL:=Lib.hid hb;have X1l:=Lib.hid (blk_below X1.out hb);have X2l:=Lib.hid (blk_below X2.out hb);have HSl:=Lib.hid (HSA.out.below hb);clear hgl hl hb) | ((with_reducible refine gate_store (t:=29) (p:=48) rfl ?_);refine store_box rfl rfl rfl (g:=g3) (j:=6) (cs:=⟨[.int .i64 h.cb, .int .i64 h.cf, .int .i64 h.cp, .int .i64 h.ce,vf,vb, .slice Aq h.fr.length cq, .slice Ae h.ev.length ce, .int .i64 h.lost, .int .i64 h.stamp]⟩) (cs':=⟨[.int .i64 h.cb, .int .i64 h.cf, .int .i64 h.cp, .int .i64 h.ce,vf,vb, .slice (some ⟨gl,0,none⟩) 0 0, .slice Ae h.ev.length ce, .int .i64 h.lost, .int .i64 h.stamp]⟩) (T:=32) (seg := [.slice (some ⟨gl,0,none⟩) 0 0]) rfl rfl HSl.out.blk rfl (by kernel_rfl) rfl rfl rfl ?_;intro wb2 hx hT;have HSb : Hid (HostG w wb2 g3 ⟨[.int .i64 h.cb, .int .i64 h.cf, .int .i64 h.cp, .int .i64 h.ce,vf,vb, .slice (some ⟨gl,0,none⟩) 0 0, .slice Ae h.ev.length ce, .int .i64 h.lost, .int .i64 h.stamp]⟩ { h with fr := [],ev := [] } vf vb (.slice (some ⟨gl,0,none⟩) 0 0) (.slice none 0 0)):=Lib.hid (HSA.out.litQ HEL.out HLT0.out HGL.out hT hx rfl);have X1b:=Lib.hid (hT.blk X1l.out HG13.out);have X2b:=Lib.hid (hT.blk X2l.out HG23.out);clear hx hT))
     go_wp2_with (fail)
     clear X1 X2 HSA X1l X2l HSl HEL HGL HLT0 b2 qn y0
     go_loopw [6] (fun v6 wr => ∃ (i : Nat) (vq : Value) (tt : List S45),i ≤ h.fr.length ∧ v6 = .int .i64 i ∧ Aside0 (tt = h.fr.take i) ∧ Aside0 (HostG w wr g3 ⟨[.int .i64 h.cb, .int .i64 h.cf, .int .i64 h.cp, .int .i64 h.ce,vf,vb,vq, .slice Ae h.ev.length ce, .int .i64 h.lost, .int .i64 h.stamp]⟩ { h with fr:=tt,ev := [] } vf vb vq (.slice none 0 0)) ∧ Aside0 (wr.heap[g1]? = some (.cells ⟨[.int .i64 h.cb, .int .i64 h.cf, .int .i64 h.cp, .int .i64 h.ce, .slice Af h.fs.length cf, .slice Ab h.bs.length cb, .slice Aq h.fr.length cq, .slice Ae h.ev.length ce, .int .i64 h.lost, .int .i64 h.stamp]⟩ 32 (0,0))) ∧ Aside0 (wr.heap[g2]? = some (.cells ⟨[.int .i64 0, .int .i64 0, .int .i64 0, .int .i64 0, .slice none 0 0, .slice none 0 0, .slice none 0 0, .slice none 0 0, .int .i64 0, .int .i64 0]⟩ 32 (0,0)))) (fun v6 _ => h.fr.length - (intOf v6).toNat)
     case atStart => exact ⟨0,_, [],Nat.zero_le _,rfl,⟨rfl⟩,⟨HSb.out⟩,⟨X1b.out⟩,⟨X2b.out⟩⟩
     case round =>
      clear HSb X1b X2b
      obtain ⟨i,vq,tt,hi,rfl,HTT,HSR,X1,X2⟩:=hrel
      have y0 : wr.cell? ⟨g1,6,none⟩ = some (.slice Aq h.fr.length cq):=blk_cell X1.out 6
      by_cases hlt : i < h.fr.length
      ·have a1 : (0 : Int) ≤ (i : Int):=Int.natCast_nonneg _
       have a2 : (i : Int) < (h.fr.length : Int):=by exact_mod_cast hlt
       obtain ⟨ad,A8,c8,ea,k0,k1,k2,k3,k4,l8,g8⟩:=at_T45 RQ.out (i : Int) a1 a2
       subst ea
       clear a1 a2
       rw [Int.toNat_natCast] at k0 k1 k2 k3 k4
       obtain ⟨b,hb⟩ : ∃ b,b = rd_T45 h.fr (i : Int):=⟨_,rfl⟩
       rw [← hb] at k0 k1 k2 k3 k4 l8 g8
       have HBE:=Lib.hid hb
       have L8:=Lib.hid l8
       have G8:=Lib.hid g8
       have HD8 : Hid (b.f4.length ≤ 10000000):=Lib.hid (by rw [hb];exact SM.out.d3 _ (List.mem_of_getElem? (getD_at h.fr i z45 hlt)))
       clear l8 g8
       clear hb
       have b2 : decide ((i : Int) < (h.fr.length : Int)) = true:=decide_eq_true (by omega)
       have p5 : (0 ≤ (i : Int)) = True:=eq_true (by omega)
       have q5 : ((i : Int) < (h.fr.length : Int)) = True:=eq_true (by omega)
       have qn : (i < h.fr.length) = True:=eq_true hlt
       have hn : wrap64 ((i : Int) + 1) = (i : Int) + 1:=by have:=SM.out.l3;unfold wrap64;omega
       have HLT:=Lib.hid hlt
       have HN:=Lib.hid hn
       clear hlt hi
       go_wp2_with (fail)
       clear y0
       have K0':=Lib.hid k0
       have K1':=Lib.hid k1
       have K2':=Lib.hid k2
       have K3':=Lib.hid k3
       have K4':=Lib.hid k4
       clear k0 k1 k2 k3 k4
       obtain ⟨o,HR⟩:=HSR.out.rows
       have HRo:=Lib.hid HR
       clear HR
       obtain ⟨Av,cv,rfl⟩:=Kd.S_slice HRo.out.q
       obtain ⟨we,hwe⟩ : ∃ we,we = wr.drew:=⟨_,rfl⟩
       have HTE : Hid (Below wr.heap.size wr we):=by rw [hwe];exact Lib.hid (below_drew (Below.refl _ _))
       refine start_ (n:=12) (S:=fun w' : World => w'.heap[g3]? = some (.cells ⟨[.int .i64 h.cb, .int .i64 h.cf, .int .i64 h.cp, .int .i64 h.ce,vf,vb, .slice Av tt.length cv, .slice Ae h.ev.length ce, .int .i64 h.lost, .int .i64 h.stamp]⟩ 32 (0,0)) ∧ w'.heap[g1]? = some (.cells ⟨[.int .i64 h.cb, .int .i64 h.cf, .int .i64 h.cp, .int .i64 h.ce, .slice Af h.fs.length cf, .slice Ab h.bs.length cb, .slice (some ad) h.fr.length cq, .slice Ae h.ev.length ce, .int .i64 h.lost, .int .i64 h.stamp]⟩ 32 (0,0)) ∧ Below w.heap.size w w') (ds := [11]) #[false,false,false,false,false,false,false,false,false,false,false,false] (by kernel_rfl) rfl rfl (hwe ▸ ⟨(HSR.out.below HTE.out).blk,blk_below X1.out HTE.out,(HSR.out.below HTE.out).bel⟩) (fun hHeld => ?_)
       rw [← hwe] at hHeld ⊢
       clear hwe
       refine pure_ (i:=0) (N:=some 56) (v := ?_) (a' := ?_) #[true,false,false,false,false,false,false,false,false,false,false,false] rfl rfl (by kernel_rfl) (fun _ _ _ h => h) (Or.inl ⟨by rfl, ?_⟩) ?_ ?_
       rotate_left
       ·intro w'
        go_simp
        with_reducible rfl
       rotate_left
       ·simp only [Act.put,List.setIfInBounds_toArray,List.set_cons_zero,List.set_cons_succ,i64_w,i32_w]
        rfl
       refine take_ (i:=1) (N:=some 57) (v := ?_) (a' := ?_) #[true,true,false,false,false,false,false,false,false,false,false,false] rfl rfl (by kernel_rfl) (fun _ _ _ h => h) (Or.inl ⟨by rfl, ?_⟩) hHeld ?_ ?_
       rotate_left
       ·rintro w' ⟨s0,s1,s2⟩
        have e0 : w'.cell? ⟨g3,6,none⟩ = some (.slice Av tt.length cv):=blk_cell s0 6
        go_simp
        with_reducible rfl
       rotate_left
       ·simp only [Act.put,List.setIfInBounds_toArray,List.set_cons_zero,List.set_cons_succ,i64_w,i32_w]
        rfl
       refine pure_ (i:=2) (N:=some 58) (v := ?_) (a' := ?_) #[true,true,true,false,false,false,false,false,false,false,false,false] rfl rfl (by kernel_rfl) (fun _ _ _ h => h) (Or.inl ⟨by rfl, ?_⟩) ?_ ?_
       rotate_left
       ·intro w'
        go_simp
        with_reducible rfl
       rotate_left
       ·simp only [Act.put,List.setIfInBounds_toArray,List.set_cons_zero,List.set_cons_succ,i64_w,i32_w]
        rfl
       refine take_ (i:=3) (N:=some 59) (v := ?_) (a' := ?_) #[true,true,true,true,false,false,false,false,false,false,false,false] rfl rfl (by kernel_rfl) (fun _ _ _ h => h) (Or.inl ⟨by rfl, ?_⟩) hHeld ?_ ?_
       rotate_left
       ·rintro w' ⟨s0,s1,s2⟩
        have e0 : w'.cell? ⟨g1,6,none⟩ = some (.slice (some ad) h.fr.length cq):=blk_cell s1 6
        go_simp
        with_reducible rfl
       rotate_left
       ·simp only [Act.put,List.setIfInBounds_toArray,List.set_cons_zero,List.set_cons_succ,i64_w,i32_w]
        rfl
       refine pure_ (i:=4) (N:=some 60) (v := ?_) (a' := ?_) #[true,true,true,true,true,false,false,false,false,false,false,false] rfl rfl (by kernel_rfl) (fun _ _ _ h => h) (Or.inl ⟨by rfl, ?_⟩) ?_ ?_
       rotate_left
       ·intro w'
        go_simp
        with_reducible rfl
       rotate_left
       ·simp only [Act.put,List.setIfInBounds_toArray,List.set_cons_zero,List.set_cons_succ,i64_w,i32_w]
        rfl
       refine pure_ (i:=5) (N:=some 61) (v := ?_) (a' := ?_) #[true,true,true,true,true,true,false,false,false,false,false,false] rfl rfl (by kernel_rfl) (fun _ _ _ h => h) (Or.inl ⟨by rfl, ?_⟩) ?_ ?_
       rotate_left
       ·intro w'
        go_simp
        with_reducible rfl
       rotate_left
       ·simp only [Act.put,List.setIfInBounds_toArray,List.set_cons_zero,List.set_cons_succ,i64_w,i32_w]
        rfl
       refine take_ (i:=6) (N:=some 62) (v := ?_) (a' := ?_) #[true,true,true,true,true,true,true,false,false,false,false,false] rfl rfl (by kernel_rfl) (fun _ _ _ h => h) (Or.inl ⟨by rfl, ?_⟩) hHeld ?_ ?_
       rotate_left
       ·rintro w' ⟨s0,s1,s2⟩
        have e0:=pw_cell_below s2 K0'.out
        have e1:=pw_cell_below s2 K1'.out
        have e2:=pw_cell_below s2 K2'.out
        have e3:=pw_cell_below s2 K3'.out
        have e4:=pw_cell_below s2 K4'.out
        go_simp
        with_reducible rfl
       rotate_left
       ·simp only [Act.put,List.setIfInBounds_toArray,List.set_cons_zero,List.set_cons_succ,i64_w,i32_w]
        rfl
       refine one_ (i:=7) (N:=some 63) #[true,true,true,true,true,true,true,true,false,false,false,false] rfl rfl (by kernel_rfl) (by decide) (fun K hK => ?_)
       refine goes_ Try.func109 (by kernel_rfl) rfl #[.agg #[.bool b.f0, .int .u32 b.f1, .bool b.f2, .int .i64 b.f3, .slice A8 b.f4.length c8]] (by rfl) rfl rfl (by (try simp only [List.map_toArray,List.map_cons,List.map_nil]);first | done | rfl) ?_
       refine (specCopyFrame_v b A8 c8 we (Kd.C_below G8.out (HSR.out.below HTE.out).bel) L8.out HD8.out).mono ?_
       rintro e wf ⟨A9,c9,rfl,hr9,hb9⟩
       refine ⟨_,rfl, ?_⟩
       have HR9:=Lib.hid hr9
       have HTF:=Lib.hid (below_then HTE.out HTE.out.size hb9)
       clear hr9 hb9
       refine hK.out _ _ ⟨(HSR.out.below HTF.out).blk,blk_below X1.out HTF.out,(HSR.out.below HTF.out).bel⟩ (fun hHeld => ?_)
       clear hK K
       refine norm_ (a' := ?_) ?_ ?_
       rotate_left
       ·show Act.put _ (some 63) _ = _
        simp only [Act.put,List.setIfInBounds_toArray,List.set_cons_zero,List.set_cons_succ,i64_w,i32_w]
        rfl
       refine one_ (i:=8) (N:=some 64) #[true,true,true,true,true,true,true,true,true,false,false,false] rfl rfl (by kernel_rfl) (by decide) (fun K hK => ?_)
       refine value_ (w1 := ?_) (v := ?_) (by rfl) rfl ?_ ?_
       rotate_left 2
       ·go_simp
        constructor
        ·rfl
        ·rfl
       refine hK.out _ _ ⟨blk_alloc (HSR.out.below HTF.out).blk _,blk_alloc (blk_below X1.out HTF.out) _,below_alloc (HSR.out.below HTF.out).bel _⟩ (fun hHeld => ?_)
       clear hK K
       refine norm_ (a' := ?_) ?_ ?_
       rotate_left
       ·show Act.put _ (some 64) _ = _
        simp only [Act.put,List.setIfInBounds_toArray,List.set_cons_zero,List.set_cons_succ,i64_w,i32_w]
        rfl
       refine one_ (i:=9) (N:=some 65) #[true,true,true,true,true,true,true,true,true,true,false,false] rfl rfl (by kernel_rfl) (by decide) (fun K hK => ?_)
       refine Kd.S_append_step k45 (w0:=w) w.heap.size (by rfl) (.tmp 57) (.tmp 64) 29 45 (.agg #[.bool false, .int .u32 0, .bool false, .int .i64 0, .slice none 0 0]) 48 rfl Try.underlying29 info45 rfl (by decide) (by omega) (.slice Av tt.length cv) tt b [.bool b.f0, .int .u32 b.f1, .bool b.f2, .int .i64 b.f3, .slice A9 b.f4.length c9] (fun k => (o k = 2 ∧ k < wr.heap.size) ∨ wr.heap.size ≤ k) (fun k => wr.heap.size ≤ k) rfl rfl ?aP ?aK ?aF ?aO ?aB ?aS ?aL ?_
       (case aP => exact (k45_mkM wf w.heap.size _ b (Kd.R_lower (Kd.R_mono HR9.out (fun k hk => Nat.le_trans HTE.out.size hk)) (Nat.le_trans HSR.out.bel.size HTE.out.size))))
       (case aK => exact fun k hk => ⟨.inr hk,fun e => by have:=Kd.S_lt HRo.out.q k e.symm;omega⟩)
       (case aF => exact fun k hk => .inr (Nat.le_trans HTF.out.size hk))
       (case aO => exact Kd.S_mono (Kd.S_below (S_lt_own HRo.out.q) HTF.out) (fun k hk => ⟨.inl ⟨hk.1.2,hk.2⟩,by have:=hk.2;omega⟩))
       (case aB => exact (HSR.out.below HTF.out).bel)
       (case aS => exact (HSR.out.below HTF.out).bel.size)
       (case aL => have h1:=SM.out.l3;have h2:=HLT.out;have h3:=congrArg List.length HTT.out;rw [List.length_take] at h3;omega)
       intro v1 w2 hS hb hg hat
       obtain ⟨bk,hbk⟩ : ∃ bk,bk = tt ++ [b]:=⟨_,rfl⟩
       rw [← hbk] at hS
       have HBK0:=Lib.hid hbk
       clear hbk
       have hnp : some g3 ≠ (Value.slice Av tt.length cv).ownBlock:=Kd.S_ne HRo.out.q HSR.out.blk (by decide)
       have hn1 : some g1 ≠ (Value.slice Av tt.length cv).ownBlock:=Kd.S_ne HRo.out.q X1.out (by decide)
       have HP2:=Lib.hid (blk_grown (g:=g3) (HSR.out.below HTF.out).blk hg hnp)
       have HX2:=Lib.hid (blk_grown (g:=g1) (blk_below X1.out HTF.out) hg hn1)
       have HBl:=Lib.hid hb
       have HS2:=Lib.hid hS
       have HT2:=Lib.hid ((Tch.refl wf (fun k => k = g3 ∨ some k = (Value.slice Av tt.length cv).ownBlock)).grown hg (fun k e => .inl (.inr e.symm)))
       clear hb hg hat hnp hn1
       obtain ⟨A1,c1,rfl⟩:=Kd.S_slice hS
       clear hS
       refine hK.out _ _ ⟨HP2.out,HX2.out,HBl.out⟩ (fun hHeld => ?_)
       clear hK K
       refine norm_ (a' := ?_) ?_ ?_
       rotate_left
       ·show Act.put _ (some 65) _ = _
        simp only [Act.put,List.setIfInBounds_toArray,List.set_cons_zero,List.set_cons_succ,i64_w,i32_w]
        rfl
       refine pure_ (i:=10) (N:=some 66) (v := ?_) (a' := ?_) #[true,true,true,true,true,true,true,true,true,true,true,false] rfl rfl (by kernel_rfl) (fun _ _ _ h => h) (Or.inl ⟨by rfl, ?_⟩) ?_ ?_
       rotate_left
       ·intro w'
        go_simp
        with_reducible rfl
       rotate_left
       ·simp only [Act.put,List.setIfInBounds_toArray,List.set_cons_zero,List.set_cons_succ,i64_w,i32_w]
        rfl
       refine last_ (i:=11) (N:=none) #[true,true,true,true,true,true,true,true,true,true,true,true] rfl rfl (by kernel_rfl) (by decide) (fun K hK => ?_)
       refine st_one (by rfl) rfl rfl (g:=g3) (j:=6) (cs:=⟨[.int .i64 h.cb, .int .i64 h.cf, .int .i64 h.cp, .int .i64 h.ce,vf,vb, .slice Av tt.length cv, .slice Ae h.ev.length ce, .int .i64 h.lost, .int .i64 h.stamp]⟩) (T:=32) (u:=(.slice A1 bk.length c1)) (u0:=(.slice Av tt.length cv)) rfl rfl HP2.out rfl (by kernel_rfl) rfl rfl ?_
       intro w3 hx3 hT3
       have HS3 : Hid (HostG w w3 g3 ⟨[.int .i64 h.cb, .int .i64 h.cf, .int .i64 h.cp, .int .i64 h.ce,vf,vb, .slice A1 bk.length c1, .slice Ae h.ev.length ce, .int .i64 h.lost, .int .i64 h.stamp]⟩ { h with fr:=bk,ev := [] } vf vb (.slice A1 bk.length c1) (.slice none 0 0)):=Lib.hid (HSR.out.newQ HRo.out HTF.out (HT2.out.trans (hT3.mono (fun k hk => .inl hk))) hx3 rfl (S_tch HS2.out HP2.out (by decide) hT3))
       have HX13:=Lib.hid ((HT2.out.trans (hT3.mono (fun k hk => .inl hk))).blk (blk_below X1.out HTF.out) (by rintro (e | e);exact HG13.out e;exact Kd.S_ne HRo.out.q X1.out (by decide) e))
       have HX23:=Lib.hid ((HT2.out.trans (hT3.mono (fun k hk => .inl hk))).blk (blk_below X2.out HTF.out) (by rintro (e | e);exact HG23.out e;exact Kd.S_ne HRo.out.q X2.out (by decide) e))
       clear hx3 hT3
       refine hK.out _ _ ?_
       clear hK K
       refine done_ (by kernel_rfl) ?_
       have HBK : Hid (bk = h.fr.take (i + 1)):=Lib.hid (by rw [HBK0.out,HTT.out,HBE.out,List.take_add_one,getD_at h.fr i z45 HLT.out];rfl)
       clear HS2 HT2 HP2 HX2 HBl HTE HSR X1 X2 HRo HTF HR9
       go_wp2_with (fail)
       go_roundw
       case rel => exact ⟨i + 1,_,bk,HLT.out,by rw [HN.out];rfl,⟨HBK.out⟩,⟨HS3.out⟩,⟨HX13.out⟩,⟨HX23.out⟩⟩
       case measure => rw [HN.out];have:=HLT.out;simp [intOf];omega
      ·have hii : i = h.fr.length:=by omega
       have HTTT : Hid (tt = h.fr):=Lib.hid (by rw [HTT.out,hii,List.take_length])
       have b2 : decide ((i : Int) < (h.fr.length : Int)) = false:=decide_eq_false (by omega)
       have qn : (i < h.fr.length) = False:=eq_false hlt
       have HSA : Hid (HostG w wr g3 ⟨[.int .i64 h.cb, .int .i64 h.cf, .int .i64 h.cp, .int .i64 h.ce,vf,vb,vq, .slice Ae h.ev.length ce, .int .i64 h.lost, .int .i64 h.stamp]⟩ { h with ev := [] } vf vb vq (.slice none 0 0)):=Lib.hid (by have e:=HSR.out;rw [HTTT.out] at e;exact e)
       clear hlt hi HSR hii HTT HTTT
       have X1b:=X1
       have X2b:=X2
       have y7 : wr.cell? ⟨g1,7,none⟩ = some (.slice Ae h.ev.length ce):=blk_cell X1.out 7
       go_upto_region 18 with (first | (go_at_call 97;refine (specCopyEvents_v h.ev SM.out.l4 SM.out.d4 wr Ae ce (Kd.C_below RE.out HSA.out.bel) LE.out).mono ?_;rintro e wv ⟨A9,c9,rfl,hr9,hb⟩;have HR9:=Lib.hid hr9;have HTE:=Lib.hid hb;have HSE:=Lib.hid (HSA.out.below hb);have X2e:=Lib.hid (blk_below X2.out hb);clear hr9 hb) | ((with_reducible refine gate_store (t:=30) (p:=70) rfl ?_);refine store_box rfl rfl rfl (g:=g3) (j:=7) (cs:=⟨[.int .i64 h.cb, .int .i64 h.cf, .int .i64 h.cp, .int .i64 h.ce,vf,vb,vq, .slice Ae h.ev.length ce, .int .i64 h.lost, .int .i64 h.stamp]⟩) (cs':=⟨[.int .i64 h.cb, .int .i64 h.cf, .int .i64 h.cp, .int .i64 h.ce,vf,vb,vq, .slice A9 h.ev.length c9, .int .i64 h.lost, .int .i64 h.stamp]⟩) (T:=32) (seg := [.slice A9 h.ev.length c9]) rfl rfl HSE.out.blk rfl (by kernel_rfl) rfl rfl rfl ?_;intro wx hx hT;have HSF : Hid (HostG w wx g3 ⟨[.int .i64 h.cb, .int .i64 h.cf, .int .i64 h.cp, .int .i64 h.ce,vf,vb,vq, .slice A9 h.ev.length c9, .int .i64 h.lost, .int .i64 h.stamp]⟩ h vf vb vq (.slice A9 h.ev.length c9)):=Lib.hid (HSA.out.setE HTE.out hT hx rfl (Kd.S_lower HR9.out HSA.out.bel.size));have X2f:=Lib.hid (hT.blk X2e.out HG23.out);clear hx hT))
       clear y7
       go_wp2_with (first | ((with_reducible refine gate_dst (N:=71) rfl ?_);refine load_all rfl rfl (g:=g3) rfl HSF.out.blk hu.out (by kernel_rfl) ?_) | ((with_reducible refine gate_store (t:=32) (p:=2) rfl ?_);refine store_all rfl rfl rfl (g:=g2) (C := [.int .i64 h.cb, .int .i64 h.cf, .int .i64 h.cp, .int .i64 h.ce,vf,vb,vq, .slice A9 h.ev.length c9, .int .i64 h.lost, .int .i64 h.stamp]) rfl rfl X2f.out (by kernel_rfl) ?hone rfl ?_;(case hone => exact HRead.one (h:=h) (w:=wx) (by obtain ⟨oz,hz⟩:=HSF.out.rows;exact hz.read));intro wz hxz hTz;have HRES:=Lib.hid hxz;have HTz:=Lib.hid hTz;clear hxz hTz))
       obtain ⟨oz,hoz⟩:=HSF.out.rows
       have HHz : HRows wz w.heap.size (fun _ => True) oz h vf vb vq (.slice A9 h.ev.length c9):=(hoz.bound.tch HTz.out (fun k hk => host_other X2f.out hk.2)).mono (fun _ _ => trivial)
       refine bodyPost_ret (results_cell_row rfl _ _ g2 32 ⟨[.int .i64 h.cb, .int .i64 h.cf, .int .i64 h.cp, .int .i64 h.ce,vf,vb,vq, .slice A9 h.ev.length c9, .int .i64 h.lost, .int .i64 h.stamp]⟩ (0,0) _ rfl HRES.out Try.underlying32 rfl (by kernel_rfl)) rfl ?_
       exact ⟨_,rfl,⟨_,_,_,_,oz,rfl,HHz⟩,HTz.out.below HSF.out.bel HSF.out.bel.size (fun k hk => by rw [hk];exact HLG2.out)⟩
theorem Tch.less {w w' : World} {S S2 : Nat → Prop} (h : Tch w w' S) (hs : ∀ k,k < w.heap.size → S k → S2 k) : Tch w w' S2:=⟨h.os,h.tape,h.output,⟨h.kept.1,fun k hk hn => h.kept.2 k hk (fun e => hn (hs k hk e))⟩⟩
def postV (h : HV) (kind a b : Int) (x : S45) : HV:=if (h.ev.length : Int) < h.ce then { h with ev:=h.ev ++ [⟨kind,a,b,x⟩] } else { h with lost:=if h.lost < 100000 then h.lost + 1 else h.lost }
end Go.Proofs.Ytcaefabbcjlkdaa.P
namespace Go.Proofs.Ytcaefabbcjlkdaa.P
open Go Go.RowKit Go.Proofs.YtcaefabbcjlkdaaW.PrintWords Go.Proofs.YtcaefabbcjlkdaaW.PrintLast Go.Proofs.YtcaefabbcjlkdaaW.PrintMore
set_option linter.unusedVariables false
structure S8 (h : HV) : Prop where
 l1 : h.fs.length ≤ 16
 l2 : h.bs.length ≤ 8
 l3 : h.fr.length ≤ 16
 l4 : h.ev.length ≤ 32
 d2 : ∀ y ∈ h.bs,y.f3.f4.length ≤ 8
 d3 : ∀ y ∈ h.fr,y.f4.length ≤ 8
 d4 : ∀ y ∈ h.ev,y.f3.f4.length ≤ 8
theorem GoodH.s8 {h : HV} (H : GoodH h) : S8 h:=by
 have hl:=H.lens
 exact ⟨hl.1,hl.2.1,hl.2.2.1,hl.2.2.2,H.b8,H.q8,H.e8⟩
theorem S8.zero : S8 hv0:=⟨by decide,by decide,by decide,by decide,by simp [hv0],by simp [hv0],by simp [hv0]⟩
theorem S8.sm {h : HV} (H : S8 h) : HSm h:=⟨Nat.le_trans H.l1 (by decide),Nat.le_trans H.l2 (by decide),Nat.le_trans H.l3 (by decide),Nat.le_trans H.l4 (by decide),fun y hy => Nat.le_trans (H.d2 y hy) (by decide),fun y hy => Nat.le_trans (H.d3 y hy) (by decide),fun y hy => Nat.le_trans (H.d4 y hy) (by decide)⟩
theorem S8.small {h : HV} (H : S8 h) : HSmall h:=⟨Nat.le_trans H.l1 (by decide),Nat.le_trans H.l2 (by decide),Nat.le_trans H.l3 (by decide),Nat.le_trans H.l4 (by decide),fun y hy => Nat.le_trans (H.d2 y hy) (by decide),fun y hy => Nat.le_trans (H.d3 y hy) (by decide),fun y hy => Nat.le_trans (H.d4 y hy) (by decide)⟩
theorem S8.set {h : HV} (H : S8 h) (i : Nat) (b : S87) (hb : b.f3.f4.length ≤ 8) : S8 { h with bs:=h.bs.set i b }:=by
 refine ⟨H.l1,by rw [List.length_set];exact H.l2,H.l3,H.l4,fun y hy => ?_,H.d3,H.d4⟩
 rcases List.mem_or_eq_of_mem_set hy with e | rfl
 ·exact H.d2 y e
 ·exact hb
theorem S8.post {h : HV} (H : S8 h) (hc : h.ce ≤ 32) (kind a b : Int) (x : S45) (hx : x.f4.length ≤ 8) : S8 (postV h kind a b x):=by
 unfold postV
 split
 ·refine ⟨H.l1,H.l2,H.l3, ?_,H.d2,H.d3,fun y hy => ?_⟩
  ·show (h.ev ++ [_]).length ≤ 32
   rw [List.length_append]
   show h.ev.length + 1 ≤ 32
   omega
  ·have hy : y ∈ h.ev ++ [_]:=hy
   rcases List.mem_append.1 hy with e | e
   ·exact H.d4 y e
   ·rw [List.mem_singleton.1 e];exact hx
 ·exact ⟨H.l1,H.l2,H.l3,H.l4,H.d2,H.d3,H.d4⟩
theorem K_host_below {w w' : World} {x : S63} {C : List Value} (h : k63.K w x C) (hb : Below w.heap.size w w') : k63.K w' x C:=by
 obtain ⟨A4,c4,A5,c5,A6,c6,A7,c7,rfl,l4,g4,l5,g5,l6,g6,l7,g7⟩:=k63_open h
 exact k63_mk w' x l4 (Kd.C_below g4 hb) l5 (Kd.C_below g5 hb) l6 (Kd.C_below g6 hb) l7 (Kd.C_below g7 hb)
theorem getD_mem {α : Type} (l : List α) (n : Nat) (z : α) {p : α → Prop} (h : ∀ y ∈ l,p y) (hz : p z) : p (l.getD n z):=by
 rw [List.getD_eq_getElem?_getD]
 cases e : l[n]? with
 | none => exact hz
 | some y => exact h y (List.mem_of_getElem? e)
theorem S8.top {h : HV} (H : S8 h) : cnt4 h 1 ≤ 10000:=by
 have S:=H.sm
 have b : ∀ n,offBox h.bs n ≤ 15 * (n : Int):=by
  intro n
  induction n with
  | zero => exact Int.le_refl _
  | succ n ih =>
   rw [offBox]
   have : (h.bs.getD n z87).f3.f4.length ≤ 8:=getD_mem h.bs n _ (p:=fun y => y.f3.f4.length ≤ 8) H.d2 (by decide)
   omega
 have q : ∀ n,offFrame h.fr n ≤ 12 * (n : Int):=by
  intro n
  induction n with
  | zero => exact Int.le_refl _
  | succ n ih =>
   rw [offFrame]
   have : (h.fr.getD n z45).f4.length ≤ 8:=getD_mem h.fr n _ (p:=fun y => y.f4.length ≤ 8) H.d3 (by decide)
   omega
 have e : ∀ n,offEvent h.ev n ≤ 15 * (n : Int):=by
  intro n
  induction n with
  | zero => exact Int.le_refl _
  | succ n ih =>
   rw [offEvent]
   have : (h.ev.getD n z56).f3.f4.length ≤ 8:=getD_mem h.ev n _ (p:=fun y => y.f3.f4.length ≤ 8) H.d4 (by decide)
   omega
 unfold cnt4 cnt3 cnt2 cnt1
 have h1:=b h.bs.length
 have h2:=q h.fr.length
 have h3:=e h.ev.length
 have l1:=H.l1
 have l2:=H.l2
 have l3:=H.l3
 have l4:=H.l4
 omega
theorem S8.marks {h : HV} (H : S8 h) : HMarks 1 h:=by
 have S:=H.sm
 exact ⟨by decide,by have:=H.top;omega,S.l2,S.l3,S.l4,S.d2,S.d3,S.d4⟩
theorem cnt4_nn {h : HV} {q : Int} (H : HMarks q h) : 0 ≤ cnt4 h q:=by
 have h1:=H.steps
 have h2:=offEvent_nn h.ev h.ev.length
 unfold cnt4
 omega
end Go.Proofs.Ytcaefabbcjlkdaa.P
namespace Go.Proofs.Ytcaefabbcjlkdaa.P
open Go.RowKit Go.Proofs.YtcaefabbcjlkdaaW.PrintWords Go.Proofs.YtcaefabbcjlkdaaW.PrintLast Go.Proofs.YtcaefabbcjlkdaaW.PrintMore
set_option linter.unusedVariables false
set_option linter.unusedSimpArgs false
set_option maxHeartbeats 2000000 in
theorem impl_ValidFrame.any (a0_0 : Bool) (a0_1 : Int) (a0_2 : Bool) (a0_3 : Int) (A0_4 : Option Addr) (c0_4 n : Nat) (w : World) (hn : n ≤ 9223372036854775807) :
  Calls Try.prog 119 #[.agg #[.bool a0_0, .int .u32 a0_1, .bool a0_2, .int .i64 a0_3, .slice A0_4 n c0_4]] w fun e w' => e = .returned (.bool (validF a0_0 a0_1 a0_2 a0_3 n)) ∧ Below w.heap.size w w':=by
 obtain ⟨b1,h1⟩ : ∃ b,decide (a0_1 < vtop a0_0) = b:=⟨_,rfl⟩
 obtain ⟨b2,h2⟩ : ∃ b,decide (0 ≤ a0_3) = b:=⟨_,rfl⟩
 obtain ⟨b3,h3⟩ : ∃ b,decide (a0_3 ≤ 15) = b:=⟨_,rfl⟩
 obtain ⟨b4,h4⟩ : ∃ b,((n : Int) == dataB a0_2 a0_3) = b:=⟨_,rfl⟩
 obtain ⟨r,hr⟩ : ∃ r,validF a0_0 a0_1 a0_2 a0_3 n = r:=⟨_,rfl⟩
 have HR : Hid ((b1 && (b2 && (b3 && b4))) = r):=by
  refine Lib.hid ?_
  rw [← hr, ← h1, ← h2, ← h3, ← h4];rfl
 rw [hr]
 clear hr
 have e0 : vtop false = 2048:=rfl
 have e1 : vtop true = 536870912:=rfl
 cases a0_0
 all_goals (first | rw [e0] at h1 | rw [e1] at h1);clear e0 e1
 all_goals cases b1
 any_goals cases b2
 any_goals cases b3
 all_goals
  go_enter Try.func119,Try.ntmps119
  go_wp2
  go_quiet ((go_at_call 144;exact Calls.quiet_of_same (impl_dataBytes.same _ _ _)))
  go_wp2
  go_ret
  exact ⟨by rw [← HR.out];rfl,((Below.refl _ _).alloc (Nat.le_refl _) _).trans (pw_below_drewN (Below.refl _ _) _)⟩
end Go.Proofs.Ytcaefabbcjlkdaa.P
