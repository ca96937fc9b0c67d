/- Texts of the proof of FnFiveFlips, joined. -/
import Derived.Test.YtdoclpgciadjaaaSFnFiveFlips25
import Derived.Test.YtdoclpgciadjaaaSFnFiveFlips28
import Derived.Test.YtdoclpgciadjaaaSFnFiveFlips23
import Derived.Test.YtdoclpgciadjaaaSFnFiveFlips21
import Derived.Deep.Slices
import Derived.Deep.Fields
import Derived.ChangeSame
import Derived.WideShapes
import Derived.Test.YtdoclpgciadjaaaSFnFiveFlips24
import Derived.Test.YtdoclpgciadjaaaSFnFiveFlips26
namespace Go.Proofs.Ytdoclpgciadjaaa.P
open Go Go.RowKit Go.Proofs.YtdoclpgciadjaaaW.PrintWords
set_option linter.unusedVariables false
theorem due_total (l : List Int) (n : Nat) (hn : n ≤ l.length) (hl : l.length < 100000000) : ∃ b,spec_l1due.f l (n : Int) = some b:=by
 unfold spec_l1due.f
 by_cases c : n < 5
 ·rw [if_pos (by omega)];exact ⟨_,rfl⟩
 ·have w1 : wrap64 ((n : Int) - 1) = ((n - 1 : Nat) : Int):=by unfold wrap64;omega
  have w2 : wrap64 ((n : Int) - 2) = ((n - 2 : Nat) : Int):=by unfold wrap64;omega
  have w3 : wrap64 ((n : Int) - 3) = ((n - 3 : Nat) : Int):=by unfold wrap64;omega
  have w4 : wrap64 ((n : Int) - 4) = ((n - 4 : Nat) : Int):=by unfold wrap64;omega
  have w5 : wrap64 ((n : Int) - 5) = ((n - 5 : Nat) : Int):=by unfold wrap64;omega
  rw [if_neg (by omega),w1,w2,w3,w4,w5,if_pos (by omega),if_pos (by omega),if_pos (by omega),if_pos (by omega)]
  by_cases a1 : rd l ((n - 1 : Nat) : Int) = rd l ((n - 2 : Nat) : Int)
  ·rw [if_pos a1,if_pos (by omega),if_pos (by omega)]
   by_cases a2 : rd l ((n - 2 : Nat) : Int) = rd l ((n - 3 : Nat) : Int)
   ·rw [if_pos a2,if_pos (by omega),if_pos (by omega)]
    by_cases a3 : rd l ((n - 3 : Nat) : Int) = rd l ((n - 4 : Nat) : Int)
    ·rw [if_pos a3,if_pos (by omega),if_pos (by omega)];exact ⟨_,rfl⟩
    ·rw [if_neg a3];exact ⟨_,rfl⟩
   ·rw [if_neg a2];exact ⟨_,rfl⟩
  ·rw [if_neg a1];exact ⟨_,rfl⟩
theorem tail_total {all p : List Int} {i : Nat} {x : Int} (hi : i < all.length) (hl : all.length < 100000000) (hf : Ev (fun k => spec_l1field.f k p) x) : ∃ b, ∀ (g : Nat → Bool → Option (Int × List Int × Bool)) (R : Int × List Int × Bool),Ev (fun k => g k b) R → Ev (fun k => spec_l1walk.tail k all p i (g k)) R:=by
 obtain ⟨d,hd⟩:=due_total all (i + 1) (by omega) hl
 cases d with
 | false => exact ⟨false,fun g R h => ev_some hd (ev_neg (by decide) h)⟩
 | true =>
  by_cases c : x ≤ 10
  ·exact ⟨true,fun g R h => ev_some hd (ev_pos rfl (Ev.bind hf (ev_pos c h)))⟩
  ·exact ⟨x == 11,fun g R h => ev_some hd (ev_pos rfl (Ev.bind hf (ev_neg c h)))⟩
theorem tail_at {all p : List Int} {i : Nat} {t : WS} (h : At all (i + 1) t p) (hi : i < all.length) (hl : all.length < 100000000) (g : Nat → Bool → Option (Int × List Int × Bool)) (R : Int × List Int × Bool) (hg : Ev (fun k => g k (dueW t)) R) : Ev (fun k => spec_l1walk.tail k all p i (g k)) R:=by
 have hf : Ev (fun k => spec_l1field.f k p) t.field:=field_ev h.ph h.bits
 by_cases c11 : t.field ≤ 11
 ·obtain ⟨run,last,ht,hrun, -⟩:=h.trail c11
  have r1:=h.r1
  have hd:=due_eq ht (by omega) (by omega)
  by_cases h5 : run = 5
  ·rw [decide_eq_true h5] at hd
   have hdw : dueW t = true:=by unfold dueW;rw [show (t.run == 5) = true by simp;omega,decide_eq_true c11];rfl
   rw [hdw] at hg
   refine ev_some hd (ev_pos rfl (Ev.bind hf ?_))
   by_cases c : t.field ≤ 10
   ·exact ev_pos c hg
   ·refine ev_neg c ?_
    rw [show (t.field == 11) = true by simp;omega]
    exact hg
  ·rw [decide_eq_false h5] at hd
   have hdw : dueW t = false:=by unfold dueW;rw [show (t.run == 5) = false by simp;omega];rfl
   rw [hdw] at hg
   exact ev_some hd (ev_neg (by decide) hg)
 ·have hdw : dueW t = false:=by unfold dueW;rw [decide_eq_false c11,Bool.and_false]
  rw [hdw] at hg
  obtain ⟨d,hd⟩:=due_total all (i + 1) (by omega) hl
  cases d with
  | false => exact ev_some hd (ev_neg (by decide) hg)
  | true =>
   refine ev_some hd (ev_pos rfl (Ev.bind hf (ev_neg (by omega) ?_)))
   rw [show (t.field == 11) = false by simp;omega]
   exact hg
theorem field_next {p : List Int} {s : WS} (h : Ph p (core s) s.sum) (hp : Bits p) (b : Int) (hb : b = 48 ∨ b = 49) : ∃ x,Ev (fun k => spec_l1field.f k (p ++ [b])) x:=by
 by_cases hend : s.field = 14 ∧ s.left = 1
 ·generalize hg : core s = cc at h
  generalize hm : s.sum = mm at h
  cases h with
  | eof H D X C T e r i h d x c t3 t =>
   have hD : Bits D:=bits_len hp D (fun x hx => by simp [hx])
   have hr:=dataB_range (r:=r) (V_range hD).1
   have:=field_full (R:=X ++ C ++ T ++ [b]) h d hD (by simp;omega)
   rw [show H ++ D ++ (X ++ C ++ T ++ [b]) = H ++ D ++ X ++ C ++ T ++ [b] by simp] at this
   exact ⟨_,this⟩
  | del H D X C T e r i h d x c t => exfalso;have:=(core_is hg hm).f;omega
  | _ => exfalso;have:=(core_is hg hm).f;omega
 ·obtain ⟨c',m',hP, -, -⟩:=ph_step h s rfl rfl b hb hp hend
  exact ⟨_,field_ev hP (hp.append (fun x hx => by rw [List.mem_singleton] at hx;rw [hx];exact hb))⟩
structure DecAt (p : List Int) (t : WS) (H D X R : List Int) (e r : Bool) (i : Int) : Prop where
 eq : p = H ++ D ++ X ++ R
 hd : Hd H e r i
 dl : D.length = 4
 xl : (X.length : Int) = 8 * dataB r (V D)
 bits : Bits p
 te : t.ext = e
 ti : t.id = i
 tr : t.rtr = r
 td : t.dlc = V D
 tx : t.data = bytesB X
theorem codeL_one {s : WS} {b : Int} (h : codeL s b = 1) : s.field = 14 ∧ s.left = 2:=by
 unfold codeL at h
 (repeat' split at h) <;> first | omega | (constructor <;> omega)
theorem codeL_two {s : WS} {b : Int} (h : codeL s b = 2) : s.field = 14 ∧ s.left = 1:=by
 unfold codeL at h
 (repeat' split at h) <;> first | omega | (constructor <;> omega)
theorem hear14 {s : WS} (hf : s.field = 14) (c : Int) : ∃ cd,hearW s c = nextW { s with code:=cd,run:=0 }:=by
 have hd0 : ¬ dueW { s with code:=0 } = true:=by unfold dueW;rw [decide_eq_false (by show ¬ s.field ≤ 11;omega),Bool.and_false];decide
 have e : hearW s c = plainW { s with code:=0,run:=0 } (c - 48):=by
  unfold hearW
  simp only []
  rw [if_neg hd0,if_neg (by omega)]
 rw [e]
 unfold plainW
 have e1 : sumW { s with code:=0,run:=0 } (c - 48) = { s with code:=0,run:=0 }:=by unfold sumW;rw [if_neg (by show ¬ s.field ≤ 9;omega)]
 rw [e1]
 have e2 : takeW { s with code:=0,run:=0 } (c - 48) = endW { s with code:=0,run:=0 } (c - 48):=by
  unfold takeW
  rw [if_neg (by show ¬ s.field = 1;omega),if_neg (by show ¬ (s.field = 2 ∨ s.field = 5);omega),if_neg (by show ¬ (s.field = 3 ∨ s.field = 6);omega),if_neg (by show ¬ s.field = 4;omega),if_neg (by show ¬ s.field = 8;omega),if_neg (by show ¬ s.field = 9;omega),if_neg (by show ¬ s.field = 10;omega),if_neg (by show ¬ s.field = 11;omega),if_neg (by show ¬ s.field = 13;omega),if_pos hf]
 rw [e2]
 unfold endW
 (repeat' split) <;> exact ⟨_,rfl⟩
theorem hear14_field {s : WS} (hf : s.field = 14) (hl : s.left = 2) (c : Int) : (hearW s c).field = 14:=by
 obtain ⟨cd,e⟩:=hear14 hf c
 rw [e,nextW_eq]
 show (nextP { s with code:=cd,run:=0 }).1 = 14
 unfold nextP
 rw [if_pos (by show s.left - 1 > 0;omega)]
 exact hf
theorem hear14_keep {s : WS} (hf : s.field = 14) (c : Int) : (hearW s c).ext = s.ext ∧ (hearW s c).id = s.id ∧ (hearW s c).rtr = s.rtr ∧ (hearW s c).dlc = s.dlc ∧ (hearW s c).data = s.data:=by
 obtain ⟨cd,e⟩:=hear14 hf c
 rw [e,nextW_eq]
 exact ⟨rfl,rfl,rfl,rfl,rfl⟩
theorem dec_of_ph {p : List Int} {s : WS} (h : Ph p (core s) s.sum) (hp : Bits p) (hf : s.field = 14) : ∃ H D X R e r i,DecAt p s H D X R e r i:=by
 generalize hg : core s = cc at h
 generalize hm : s.sum = mm at h
 cases h with
 | eof H D X C T e r i h d x c t3 t =>
  have K:=core_is hg hm
  exact ⟨H,D,X,C ++ T,e,r,i,by rw [← List.append_assoc],h,d,x,hp,K.e,K.i,K.r,K.d,K.x⟩
 | del H D X C T e r i h d x c t => exfalso;have:=(core_is hg hm).f;omega
 | _ => exfalso;have:=(core_is hg hm).f;omega
theorem dec_whole {p : List Int} {s : WS} (h : Ph p (core s) s.sum) (hp : Bits p) (hf : s.field = 14) (c : Int) (hc : c = 48 ∨ c = 49) : ∃ H D X R e r i,DecAt (p ++ [c]) (hearW s c) H D X R e r i:=by
 obtain ⟨H,D,X,R,e,r,i,K⟩:=dec_of_ph h hp hf
 obtain ⟨k1,k2,k3,k4,k5⟩:=hear14_keep hf c
 exact ⟨H,D,X,R ++ [c],e,r,i,by rw [K.eq, ← List.append_assoc],K.hd,K.dl,K.xl,hp.append (fun x hx => by rw [List.mem_singleton] at hx;rw [hx];exact hc),k1.trans K.te,k2.trans K.ti,k3.trans K.tr,k4.trans K.td,k5.trans K.tx⟩
structure SpecEnd (all : List Int) (t : WS) (R : Int × List Int × Bool) : Prop where
 code : R.1 = t.code
 live : t.code = 0 ∨ t.code = 1 → At all all.length t R.2.1 ∧ R.2.2 = dueW t
 dec : t.code = 1 ∨ t.code = 2 → ∃ H D X Z e r i,DecAt R.2.1 t H D X Z e r i
 len : R.2.1.length ≤ 4000
theorem specwalk_loop (all : List Int) (hb : Bits all) (hl : all.length ≤ 4000) : ∀ (d i : Nat) (s : WS) (p : List Int),i + d = all.length → At all i s p → (s.code = 1 → s.field = 14) → ∃ R,Ev (fun k => spec_l1walk.l0 k all s.code p (dueW s) i) R ∧ SpecEnd all (walkG (all.drop i) s) R:=by
 intro d
 induction d with
 | zero =>
  intro i s p hi h hv
  refine ⟨(s.code,p,dueW s),Ev.step (f:=fun _ => some (s.code,p,dueW s)) (fun k => ?_) (Ev.now _), ?_⟩
  ·rw [spec_l1walk.l0,if_neg (by omega)]
  ·rw [List.drop_eq_nil_of_le (by omega)]
   obtain rfl : i = all.length:=by omega
   refine ⟨rfl,fun _ => ⟨h,rfl⟩,fun hc => ?_,Nat.le_trans h.len hl⟩
   rw [walkG] at hc ⊢
   have:=h.code
   exact dec_of_ph h.ph h.bits (hv (by omega))
 | succ d ih =>
  intro i s p hi h hv
  have his : i < all.length:=by omega
  have hc : rd all (i : Int) = 48 ∨ rd all (i : Int) = 49:=hb _ (by have:=rd_get all i his;exact List.mem_of_getElem? this)
  have hdrop : all.drop i = rd all (i : Int) :: all.drop (i + 1):=by
   rw [List.drop_eq_getElem_cons his]
   congr 1
   have:=rd_get all i his
   rw [List.getElem?_eq_getElem his] at this
   exact Option.some.inj this
  have hcode:=h.code
  have hrun : ¬ (s.code ≠ 0 ∧ s.code ≠ 1):=by omega
  have stop : ∀ (c' : Int) (p' : List Int) (x : Int), ¬ (c' = 0 ∨ c' = 1) → Ev (fun k => spec_l1field.f k p') x → (hearW s (rd all (i : Int))).code = c' → (c' = 2 → ∃ H D X Z e r m,DecAt p' (hearW s (rd all (i : Int))) H D X Z e r m) → p'.length ≤ i + 1 → ∃ b R,(∀ R',Ev (fun k => spec_l1walk.l0 k all c' p' b (i + 1)) R' → Ev (fun k => spec_l1walk.tail k all p' i (fun d => spec_l1walk.l0 k all c' p' d (i + 1))) R') ∧ Ev (fun k => spec_l1walk.l0 k all c' p' b (i + 1)) R ∧ SpecEnd all (walkG (all.drop i) s) R:=by
   intro c' p' x hne hf hcd hdec hpl
   obtain ⟨b,hbt⟩:=tail_total his (by omega) hf
   have hw : walkG (all.drop i) s = if all.drop (i + 1) = [] then hearW s (rd all (i : Int)) else { hearW s (rd all (i : Int)) with code:=7 }:=by
    rw [hdrop,walkG,if_neg (by rw [hcd];exact hne)]
   by_cases hlast : i + 1 < all.length
   ·refine ⟨b,(7,p',false),fun R' hR' => hbt (fun k d => spec_l1walk.l0 k all c' p' d (i + 1)) R' hR',Ev.step (f:=fun _ => some (7,p',false)) (fun k => ?_) (Ev.now _), ?_⟩
    ·rw [spec_l1walk.l0,if_pos hlast,if_pos (by omega)]
    ·rw [hw,if_neg (by intro h2;have:=congrArg List.length h2;simp at this;omega)]
     exact ⟨rfl,fun h2 => by simp only [] at h2;omega,fun h2 => by simp only [] at h2;omega,by simp only [];omega⟩
   ·refine ⟨b,(c',p',b),fun R' hR' => hbt (fun k d => spec_l1walk.l0 k all c' p' d (i + 1)) R' hR',Ev.step (f:=fun _ => some (c',p',b)) (fun k => ?_) (Ev.now _), ?_⟩
    ·rw [spec_l1walk.l0,if_neg hlast]
    ·rw [hw,if_pos (List.drop_eq_nil_of_le (by omega))]
     exact ⟨hcd.symm,fun h2 => absurd (hcd ▸ h2) hne,fun h2 => hdec (by rw [← hcd];omega),by simp only [];omega⟩
  have hfp : Ev (fun k => spec_l1field.f k p) s.field:=field_ev h.ph h.bits
  cases at_step h his hb with
  | stop hd hlv hcd =>
   have hf11 : s.field ≤ 11:=by unfold dueW at hd;simp only [Bool.and_eq_true,decide_eq_true_eq] at hd;exact hd.2
   obtain ⟨run,last,ht,hr,hlev⟩:=h.trail hf11
   have h5 : run = 5:=by unfold dueW at hd;simp only [Bool.and_eq_true,beq_iff_eq] at hd;omega
   have hri:=ht.run_le
   obtain ⟨b,R,hbt,hR,hS⟩:=stop 3 p s.field (by omega) hfp hcd (by omega) (by have:=h.len;omega)
   refine ⟨R,Ev.step (f:=fun k => spec_l1walk.tail k all p i (fun d => spec_l1walk.l0 k all 3 p d (i + 1))) (fun k => ?_) (hbt R hR),hS⟩
   rw [spec_l1walk.l0,if_pos his,if_neg hrun,if_pos hd,if_pos (by omega),if_pos (by rw [hlv,hlev (by omega)];exact (ht.same (i - 1) (by omega) (by omega)).symm)]
  | skip hd hlv hcd ha =>
   have hf11 : s.field ≤ 11:=by unfold dueW at hd;simp only [Bool.and_eq_true,decide_eq_true_eq] at hd;exact hd.2
   obtain ⟨run,last,ht,hr,hlev⟩:=h.trail hf11
   have h5 : run = 5:=by unfold dueW at hd;simp only [Bool.and_eq_true,beq_iff_eq] at hd;omega
   have hri:=ht.run_le
   obtain ⟨R,hR,hS⟩:=ih (i + 1) _ p (by omega) ha (fun h1 => by omega)
   rw [hcd] at hR
   refine ⟨R,Ev.step (f:=fun k => spec_l1walk.tail k all p i (fun d => spec_l1walk.l0 k all 0 p d (i + 1))) (fun k => ?_) (tail_at ha his (by omega) (fun k d => spec_l1walk.l0 k all 0 p d (i + 1)) R hR), ?_⟩
   ·rw [spec_l1walk.l0,if_pos his,if_neg hrun,if_pos hd,if_pos (by omega),if_neg (by rw [ht.same (i - 1) (by omega) (by omega), ← hlev (by omega)];exact hlv)]
   ·rw [hdrop,walkG,if_pos (.inl hcd)];exact hS
  | take hd hcd ha =>
   have hlook:=look_ev h.ph h.bits s rfl rfl _ hc
   rw [← hcd] at hlook
   by_cases hrn : (hearW s (rd all (i : Int))).code = 0 ∨ (hearW s (rd all (i : Int))).code = 1
   ·have hat:=ha hrn
    obtain ⟨R,hR,hS⟩:=ih (i + 1) _ _ (by omega) hat (fun h1 => by obtain ⟨q1,q2⟩:=codeL_one (hcd.symm.trans h1);exact hear14_field q1 q2 _)
    refine ⟨R,Ev.step (f:=fun k => (spec_l1look.f k p (rd all (i : Int))).bind fun c => spec_l1walk.tail k all (p ++ [rd all (i : Int)]) i (fun d => spec_l1walk.l0 k all c (p ++ [rd all (i : Int)]) d (i + 1))) (fun k => ?_) (Ev.bind hlook (tail_at hat his (by omega) (fun k d => spec_l1walk.l0 k all (hearW s (rd all (i : Int))).code (p ++ [rd all (i : Int)]) d (i + 1)) R hR)), ?_⟩
    ·rw [spec_l1walk.l0,if_pos his,if_neg hrun,if_neg (by rw [hd];decide)]
    ·rw [hdrop,walkG,if_pos hrn];exact hS
   ·obtain ⟨x,hx⟩:=field_next h.ph h.bits (rd all (i : Int)) hc
    obtain ⟨b,R,hbt,hR,hS⟩:=stop _ (p ++ [rd all (i : Int)]) x hrn hx rfl (fun h2 => by obtain ⟨q1,q2⟩:=codeL_two (hcd.symm.trans h2);exact dec_whole h.ph h.bits q1 _ hc) (by rw [List.length_append,List.length_singleton];have:=h.len;omega)
    refine ⟨R,Ev.step (f:=fun k => (spec_l1look.f k p (rd all (i : Int))).bind fun c => spec_l1walk.tail k all (p ++ [rd all (i : Int)]) i (fun d => spec_l1walk.l0 k all c (p ++ [rd all (i : Int)]) d (i + 1))) (fun k => ?_) (Ev.bind hlook (hbt R hR)),hS⟩
    rw [spec_l1walk.l0,if_pos his,if_neg hrun,if_neg (by rw [hd];decide)]
theorem specwalk_ev (a0 : ByteArray) : ∃ R,Ev (fun k => spec_l1walk.f k a0) R ∧ SpecEnd (bytesOf a0) (walkV a0) R:=by
 unfold spec_l1walk.f walkV
 by_cases c : a0.size ≤ 4000 ∧ isBits a0 = true
 ·obtain ⟨R,hR,hS⟩:=specwalk_loop (bytesOf a0) (bits_of_isBits c.2) (by rw [bytesOf_length];exact c.1) (bytesOf a0).length 0 startW [] (by omega) (At.start _) (fun h => by simp [startW] at h)
  refine ⟨R,ev_pos c hR, ?_⟩
  rw [if_pos c]
  exact hS
 ·refine ⟨(8, [],false),ev_neg c (Ev.now _), ?_⟩
  rw [if_neg c]
  exact ⟨rfl,fun h => by simp only [] at h;omega,fun h => by simp only [] at h;omega,by simp⟩
end Go.Proofs.Ytdoclpgciadjaaa.P

namespace Go.Proofs.Ytdoclpgciadjaaa.P
open Go Go.RowKit Go.Proofs.YtdoclpgciadjaaaW.PrintWords
set_option linter.unusedVariables false
theorem V_one (c : Int) : V [c] = c - 48:=by have:=V_snoc [] c;rw [V_nil] at this;simpa using this
theorem bytesB_part (Y : List Int) (hY : Y.length % 8 = 0) : ∀ (Z : List Int),0 < Z.length → Z.length ≤ 8 → bytesB (Y ++ Z) = bytesB Y ++ [V Z % 256]:=by
 intro Z
 induction Z using revInd with
 | nil => intro h;simp at h
 | snoc Z c ih =>
  intro _ h8
  rw [List.length_append,List.length_singleton] at h8
  rw [← List.append_assoc,bytesB_snoc]
  by_cases hz : Z.length = 0
  ·obtain rfl : Z = []:=List.eq_nil_of_length_eq_zero hz
   rw [List.append_nil,if_pos hY,List.nil_append,V_one]
  ·rw [if_neg (by rw [List.length_append];omega),ih (by omega) (by omega),V_snoc]
   have hl : (bytesB Y ++ [V Z % 256]).length = (bytesB Y).length + 1:=by simp
   rw [hl,Nat.add_sub_cancel,List.set_append_right _ _ (Nat.le_refl _),Nat.sub_self]
   have hr : rd (bytesB Y ++ [V Z % 256]) ((((bytesB Y).length + 1 : Nat) : Int) - 1) = V Z % 256:=by
    rw [show ((((bytesB Y).length + 1 : Nat) : Int) - 1) = (((bytesB Y).length : Nat) : Int) by omega]
    exact rd_app_at (bytesB Y) [] (V Z % 256)
   rw [hr]
   show bytesB Y ++ [(2 * (V Z % 256) + (c - 48)) % 256] = _
   congr 2
   omega
def decodeV (a0 : ByteArray) : Bool × Int × Bool × Int × List Int × Int :=
 let t:=walkV a0
 if t.code = 1 ∨ t.code = 2 then (t.ext,t.id,t.rtr,t.dlc,t.data,t.code) else (false,0,false,0, [],t.code)
end Go.Proofs.Ytdoclpgciadjaaa.P

namespace Go.Proofs.Ytdoclpgciadjaaa.P
open Go Go.RowKit Go.Proofs.YtdoclpgciadjaaaW.PrintWords
set_option linter.unusedVariables false
def stuffS : List Int → Int → Int → List Int
 | [],_,_ => []
 | c :: l,run,last => if (if c = last then run + 1 else 1) = 5 then c :: (97 - c) :: stuffS l 1 (97 - c) else c :: stuffS l (if c = last then run + 1 else 1) c
theorem stuff_fold : ∀ (l out : List Int) (run last : Int),(l.foldl stuffStep (out,run,last)).1 = out ++ stuffS l run last:=by
 intro l
 induction l with
 | nil => intro out run last;simp [stuffS]
 | cons c l ih =>
  intro out run last
  rw [List.foldl_cons,stuffS]
  unfold stuffStep
  simp only []
  by_cases h : (if c = last then run + 1 else 1) = 5
  ·rw [if_pos h,if_pos h]
   have:=ih (out ++ [c] ++ [97 - c]) 1 (97 - c)
   unfold stuffStep at this
   rw [this]
   simp
  ·rw [if_neg h,if_neg h]
   have:=ih (out ++ [c]) (if c = last then run + 1 else 1) c
   unfold stuffStep at this
   rw [this]
   simp
theorem stuffL_eq (l : List Int) : stuffL l = stuffS l 0 120:=by
 unfold stuffL
 rw [stuff_fold]
 simp
theorem stuffS_bits : ∀ (l : List Int) (run last : Int),Bits l → Bits (stuffS l run last):=by
 intro l
 induction l with
 | nil => intro run last h;exact h
 | cons c l ih =>
  intro run last h
  have hc:=h c (by simp)
  have hl : Bits l:=fun x hx => h x (by simp [hx])
  rw [stuffS]
  by_cases e : (if c = last then run + 1 else 1) = 5
  ·rw [if_pos e]
   intro x hx
   rcases List.mem_cons.1 hx with rfl | hx
   ·exact hc
   ·rcases List.mem_cons.1 hx with rfl | hx
    ·omega
    ·exact ih _ _ hl x hx
  ·rw [if_neg e]
   intro x hx
   rcases List.mem_cons.1 hx with rfl | hx
   ·exact hc
   ·exact ih _ _ hl x hx
end Go.Proofs.Ytdoclpgciadjaaa.P

namespace Go.Proofs.Ytdoclpgciadjaaa.P
open Go Go.RowKit Go.Proofs.YtdoclpgciadjaaaW.PrintWords
set_option linter.unusedVariables false
theorem ev_uniq {α : Type} {g : Nat → Option α} {a b : α} (h : Ev g a) (k : Ev g b) : a = b:=by
 obtain ⟨K,h⟩:=h
 obtain ⟨K',k⟩:=k
 have h1:=h (max K K') (by omega)
 have h2:=k (max K K') (by omega)
 rw [h1] at h2
 exact Option.some.inj h2
theorem hd_fun {H : List Int} {e e' r r' : Bool} {i i' : Int} (h : Hd H e r i) (k : Hd H e' r' i') : e = e' ∧ r = r' ∧ i = i':=by
 have he : e = e':=by
  have h1:=hd_13 h []
  have h2:=hd_13 k []
  rw [h1] at h2
  cases e <;> cases e' <;> simp at h2 <;> rfl
 subst he
 refine ⟨rfl, ?_⟩
 generalize hH : H = G at k
 cases h with
 | base a r z I hI =>
  cases k with
  | base a2 r2 z2 I2 hI2 =>
   simp only [List.cons_append,List.cons.injEq] at hH
   obtain ⟨h1,h2⟩:=List.append_inj hH.2 (by omega)
   simp only [List.cons.injEq] at h2
   exact ⟨by rw [h2.1],by rw [h1]⟩
 | ext a q r z y I J hI hJ =>
  cases k with
  | ext a2 q2 r2 z2 y2 I2 J2 hI2 hJ2 =>
   simp only [List.cons_append,List.cons.injEq,List.append_assoc,List.nil_append] at hH
   obtain ⟨h1,h2⟩:=List.append_inj hH.2 (by omega)
   simp only [List.cons.injEq,true_and] at h2
   obtain ⟨h3,h4⟩:=List.append_inj h2.2 (by omega)
   simp only [List.cons.injEq] at h4
   exact ⟨by rw [h4.1],by rw [h1,h3]⟩
theorem hd_split {H H' Y Y' : List Int} {e e' r r' : Bool} {i i' : Int} (h : Hd H e r i) (k : Hd H' e' r' i') (q : H ++ Y = H' ++ Y') : H = H' ∧ e = e' ∧ r = r' ∧ i = i' ∧ Y = Y':=by
 have he : e = e':=by
  have h1:=hd_13 h Y
  have h2:=hd_13 k Y'
  rw [q,h2] at h1
  cases e <;> cases e' <;> simp at h1 <;> rfl
 have hl : H.length = H'.length:=by rw [hd_len h,hd_len k,he]
 obtain ⟨h1,h2⟩:=List.append_inj q hl
 subst h1
 obtain ⟨_,h3,h4⟩:=hd_fun h k
 exact ⟨rfl,he,h3,h4,h2⟩
structure Parts (P H D X C : List Int) (e r : Bool) (i : Int) : Prop where
 eq : P = H ++ D ++ X ++ C
 hd : Hd H e r i
 dl : D.length = 4
 xl : (X.length : Int) = 8 * dataB r (V D)
 cl : C.length = 15
 bits : Bits P
 sof : rd P 0 = 48
theorem Parts.bD {P H D X C : List Int} {e r : Bool} {i : Int} (K : Parts P H D X C e r i) : Bits D:=fun x hx => K.bits x (by rw [K.eq];simp [hx])
theorem Parts.len {P H D X C : List Int} {e r : Bool} {i : Int} (K : Parts P H D X C e r i) : P.length = H.length + 4 + X.length + 15 ∧ P.length ≤ 118:=by
 have hh:=hd_len K.hd
 have hn:=dataB_range (r:=r) (V_range K.bD).1
 have h2 : P.length = H.length + 4 + X.length + 15:=by rw [K.eq];simp [K.dl,K.cl];omega
 have hx:=K.xl
 refine ⟨h2, ?_⟩
 split at hh <;> omega
theorem rest_split {D X R D' X' R' : List Int} {n : Int} (hD : D.length = 4) (hD' : D'.length = 4) (q : D ++ (X ++ R) = D' ++ (X' ++ R')) (hX : D = D' → X.length = X'.length) : D = D' ∧ X = X' ∧ R = R':=by
 obtain ⟨h1,h2⟩:=List.append_inj q (by omega)
 obtain ⟨h3,h4⟩:=List.append_inj h2 (hX h1)
 exact ⟨h1,h3,h4⟩
theorem low_field {P H D X C p z : List Int} {e r : Bool} {i : Int} (K : Parts P H D X C e r i) {c : Int × Int × Int × Bool × Int × Bool × Int × List Int} {m : Int} (h : Ph p c m) (hz : 0 < z.length) (q : p ++ z = P) : c.1 ≤ 10:=by
 have key : ∀ (H' D' X' C' T' : List Int) (e' r' : Bool) (i' : Int),Hd H' e' r' i' → D'.length = 4 → (X'.length : Int) = 8 * dataB r' (V D') → C'.length = 15 → p = H' ++ D' ++ X' ++ C' ++ T' → False:=by
  intro H' D' X' C' T' e' r' i' h' d' x' c' ep
  have q2 : H' ++ (D' ++ (X' ++ (C' ++ T' ++ z))) = H ++ (D ++ (X ++ C)):=by
   have:=q
   rw [ep,K.eq] at this
   simpa [List.append_assoc] using this
  obtain ⟨_,_,hr,_,q3⟩:=hd_split h' K.hd q2
  obtain ⟨_,_,q4⟩:=rest_split (n:=0) d' K.dl q3 (fun hDD => by have:=K.xl;rw [hr,hDD] at x';omega)
  have:=congrArg List.length q4
  rw [List.length_append,List.length_append,c',K.cl] at this
  omega
 cases h with
 | del H' D' X' C' T' e' r' i' h' d' x' c' t' => exact (key H' D' X' C' T' e' r' i' h' d' x' c' rfl).elim
 | eof H' D' X' C' T' e' r' i' h' d' x' c' t3 t' => exact (key H' D' X' C' T' e' r' i' h' d' x' c' rfl).elim
 | _ => simp only [];omega
theorem sof_field {p : List Int} {c : Int × Int × Int × Bool × Int × Bool × Int × List Int} {m : Int} (h : Ph p c m) (hf : c.1 = 1) : p = []:=by
 cases h with
 | sof => rfl
 | del => simp only [] at hf;omega
 | _ => simp only [] at hf;omega
theorem core_at {P H D X C T : List Int} {e r : Bool} {i : Int} (K : Parts P H D X C e r i) (hT : T.length < 10) {c : Int × Int × Int × Bool × Int × Bool × Int × List Int} {m : Int} (hb : Bits (P ++ T)) (h : Ph (P ++ T) c m) :
  c = (if T.length < 3 then 11 + (T.length : Int) else 14,if T.length < 3 then 1 else 10 - (T.length : Int),V C,e,i,r,V D,bytesB X) ∧ m = crcS (H ++ D ++ X):=by
 have hf:=field_ev h hb
 have hn:=dataB_range (r:=r) (V_range K.bD).1
 have hxl:=K.xl
 have hff:=field_full (R:=X ++ C ++ T) K.hd K.dl K.bD (by simp [K.cl];omega)
 have ep : H ++ D ++ (X ++ C ++ T) = P ++ T:=by rw [K.eq];simp
 rw [ep] at hff
 have hc:=ev_uniq hf hff
 have hlen : ((X ++ C ++ T).length : Int) = 8 * dataB r (V D) + 15 + T.length:=by simp [K.cl];omega
 rw [hlen,if_neg (by omega),if_neg (by omega)] at hc
 have key : ∀ (H' D' X' C' T' : List Int) (e' r' : Bool) (i' : Int),Hd H' e' r' i' → D'.length = 4 → (X'.length : Int) = 8 * dataB r' (V D') → C'.length = 15 → P ++ T = H' ++ D' ++ X' ++ C' ++ T' → H' = H ∧ D' = D ∧ X' = X ∧ C' = C ∧ T' = T ∧ e' = e ∧ r' = r ∧ i' = i:=by
  intro H' D' X' C' T' e' r' i' h' d' x' c' ep
  have q2 : H' ++ (D' ++ (X' ++ (C' ++ T'))) = H ++ (D ++ (X ++ (C ++ T))):=by
   rw [K.eq] at ep
   simpa [List.append_assoc] using ep.symm
  obtain ⟨h1,h2,hr,h3,q3⟩:=hd_split h' K.hd q2
  obtain ⟨h4,h5,q4⟩:=rest_split (n:=0) d' K.dl q3 (fun hDD => by rw [hr,hDD] at x';omega)
  obtain ⟨h6,h7⟩:=List.append_inj q4 (by rw [c',K.cl])
  exact ⟨h1,h4,h5,h6,h7,h2,hr,h3⟩
 generalize hg : P ++ T = g at h
 cases h with
 | del H' D' X' C' T' e' r' i' h' d' x' c' t' =>
  obtain ⟨rfl,rfl,rfl,rfl,rfl,rfl,rfl,rfl⟩:=key H' D' X' C' T' e' r' i' h' d' x' c' hg
  rw [if_pos t',if_pos t']
  exact ⟨rfl,rfl⟩
 | eof H' D' X' C' T' e' r' i' h' d' x' c' t3 t' =>
  obtain ⟨rfl,rfl,rfl,rfl,rfl,rfl,rfl,rfl⟩:=key H' D' X' C' T' e' r' i' h' d' x' c' hg
  rw [if_neg (by omega),if_neg (by omega)]
  exact ⟨rfl,rfl⟩
 | _ => exfalso;simp only [] at hc;(repeat' split at hc) <;> omega
structure St (all : List Int) (n : Nat) (s : WS) (p : List Int) (run last : Int) : Prop where
 at_ : At all n s p
 code : s.code = 0
 rn : s.run = run
 r0 : 0 ≤ run
 r4 : run ≤ 4
 lev : 0 < run → s.level = last
 z : run = 0 → last = 120
theorem hear_run {s : WS} (hd : dueW s = false) (hf : s.field ≤ 10) (c : Int) : (hearW s c).run = (if 0 < s.run ∧ s.level = c then s.run + 1 else 1) ∧ (hearW s c).level = c:=by
 have hd0 : ¬ dueW { s with code:=0 } = true:=by
  have : dueW { s with code:=0 } = dueW s:=rfl
  rw [this,hd];decide
 unfold hearW
 simp only []
 rw [if_neg hd0,if_pos hf]
 by_cases h : 0 < s.run ∧ s.level = c
 ·rw [if_pos h,if_pos h]
  have:=plainW_run { s with code:=0,run:=s.run + 1 } (c - 48)
  exact ⟨this.1,this.2.trans h.2⟩
 ·rw [if_neg h,if_neg h]
  have:=plainW_run { s with code:=0,run:=1,level:=c } (c - 48)
  exact ⟨this.1,this.2⟩
theorem codeL_low {s : WS} {b : Int} (hf : s.field ≤ 10) (h1 : s.field = 1 → b ≠ 1) : codeL s b = 0:=by
 unfold codeL
 by_cases c : s.field = 1
 ·rw [if_pos c,if_neg (h1 c)]
 ·rw [if_neg c,if_neg (by omega),if_neg (by omega),if_neg (by omega)]
theorem due_low {s : WS} (h : s.run ≤ 4) : dueW s = false:=by unfold dueW;rw [show (s.run == 5) = false by simp;omega];rfl
theorem hear_skip {s : WS} {c : Int} (h : dueW s = true) (hl : c ≠ s.level) : hearW s c = { s with code:=0,run:=1,level:=c }:=by
 have hd0 : dueW { s with code:=0 } = true:=h
 unfold hearW
 simp only []
 rw [if_pos hd0,if_neg hl]
theorem walkG_cons {c : Int} {l : List Int} {s : WS} (h : (hearW s c).code = 0 ∨ (hearW s c).code = 1) : walkG (c :: l) s = walkG l (hearW s c):=by rw [walkG,if_pos h]
theorem walk_stuffed {P H D X C : List Int} {e r : Bool} {i : Int} (K : Parts P H D X C e r i) (all rest : List Int) (hall : Bits all) : ∀ (q p pre : List Int) (s : WS) (run last : Int),p ++ q = P → all = pre ++ (stuffS q run last ++ rest) → St all pre.length s p run last →
  ∃ s' run' last',St all (pre.length + (stuffS q run last).length) s' P run' last' ∧ (∀ l1 l2,stuffS q run last = l1 ++ l2 → (walkG l1 s).code = 0) ∧ ∀ m,walkG (stuffS q run last ++ m) s = walkG m s':=by
 intro q
 induction q with
 | nil =>
  intro p pre s run last hp ha hS
  rw [List.append_nil] at hp
  subst hp
  refine ⟨s,run,last,hS,fun l1 l2 h => ?_,fun m => rfl⟩
  have : l1 = []:=(List.append_eq_nil_iff.1 h.symm).1
  rw [this]
  exact hS.code
 | cons c q ih =>
  intro p pre s run last hp ha hS
  have hdue:=due_low (s:=s) (by rw [hS.rn];exact hS.r4)
  have hlow : s.field ≤ 10:=by have:=low_field K hS.at_.ph (z:=c :: q) (by simp) hp;exact this
  have hhead : ∃ Y,stuffS (c :: q) run last = c :: Y:=by
   rw [stuffS]
   by_cases h : (if c = last then run + 1 else 1) = 5
   ·rw [if_pos h];exact ⟨_,rfl⟩
   ·rw [if_neg h];exact ⟨_,rfl⟩
  obtain ⟨Y,hY⟩:=hhead
  have hat : rd all (pre.length : Int) = c:=by rw [ha,hY];exact rd_app_at pre _ c
  have hlt : pre.length < all.length:=by rw [ha,hY];simp
  have hcb : c = 48 ∨ c = 49:=K.bits c (by rw [← hp];simp)
  have h1 : s.field = 1 → c - 48 ≠ 1:=by
   intro hf
   have hp0 : p = []:=sof_field hS.at_.ph hf
   have:=K.sof
   rw [← hp,hp0] at this
   have : c = 48:=this
   omega
  have hst:=at_step hS.at_ hlt hall
  rw [hat] at hst
  have hc0 : (hearW s c).code = 0:=by
   cases hst with
   | stop hd _ _ => rw [hdue] at hd;cases hd
   | skip hd _ _ _ => rw [hdue] at hd;cases hd
   | take _ hc _ => rw [hc];exact codeL_low hlow h1
  have hAt : At all (pre.length + 1) (hearW s c) (p ++ [c]):=by
   cases hst with
   | stop hd _ _ => rw [hdue] at hd;cases hd
   | skip hd _ _ _ => rw [hdue] at hd;cases hd
   | take _ _ ha => exact ha (.inl hc0)
  obtain ⟨hr,hl⟩:=hear_run hdue hlow c
  have hrun : (hearW s c).run = if c = last then run + 1 else 1:=by
   rw [hr,hS.rn]
   by_cases hz : run = 0
   ·have:=hS.z hz
    rw [if_neg (by omega),if_neg (by omega)]
   ·have h0:=hS.r0
    have hlv:=hS.lev (by omega)
    by_cases hcl : c = last
    ·rw [if_pos ⟨by omega,by rw [hlv,hcl]⟩,if_pos hcl]
    ·rw [if_neg (by rintro ⟨_,h⟩;exact hcl (by rw [← h,hlv])),if_neg hcl]
  have h0:=hS.r0
  have h4:=hS.r4
  have hrb : 1 ≤ (if c = last then run + 1 else 1) ∧ (if c = last then run + 1 else 1) ≤ 5:=by split <;> omega
  generalize hnr : (if c = last then run + 1 else 1) = nr at hrun hrb
  have hp' : (p ++ [c]) ++ q = P:=by rw [← hp];simp
  by_cases h5 : nr = 5
  ·have hdef : stuffS (c :: q) run last = c :: (97 - c) :: stuffS q 1 (97 - c):=by rw [stuffS,hnr,if_pos h5]
   rw [hdef] at ha ⊢
   have hf11 : (hearW s c).field ≤ 11:=by
    rcases List.eq_nil_or_concat q with rfl | ⟨_,_,rfl⟩
    ·rw [List.append_nil] at hp'
     have hPh:=hAt.ph
     rw [hp', ← List.append_nil P] at hPh
     have:=(core_at K (T := []) (by simp) (by rw [List.append_nil];exact K.bits) hPh).1
     have h2:=congrArg (fun x => x.1) this
     simp only [List.length_nil] at h2
     have : (hearW s c).field = 11:=h2
     omega
    ·have:=low_field K hAt.ph (by simp) hp'
     have : (hearW s c).field ≤ 10:=this
     omega
   have hdue2 : dueW (hearW s c) = true:=by unfold dueW;rw [show ((hearW s c).run == 5) = true by simp;omega,decide_eq_true hf11];rfl
   have ha2 : all = (pre ++ [c]) ++ ((97 - c) :: stuffS q 1 (97 - c) ++ rest):=by rw [ha];simp
   have hlen1 : (pre ++ [c]).length = pre.length + 1:=by simp
   have hat2 : rd all ((pre.length + 1 : Nat) : Int) = 97 - c:=by
    have:=rd_app_at (pre ++ [c]) (stuffS q 1 (97 - c) ++ rest) (97 - c)
    rw [hlen1] at this
    rw [ha2];exact this
   have hst2:=at_step hAt (by rw [ha2];simp) hall
   rw [hat2] at hst2
   have hne : 97 - c ≠ (hearW s c).level:=by rw [hl];omega
   have hsk:=hear_skip hdue2 hne
   have hAt2 : At all (pre.length + 1 + 1) (hearW (hearW s c) (97 - c)) (p ++ [c]):=by
    cases hst2 with
    | stop _ hl2 _ => exact absurd hl2 hne
    | skip _ _ _ ha => exact ha
    | take hd _ _ => rw [hdue2] at hd;cases hd
   have hcode2 : (hearW (hearW s c) (97 - c)).code = 0:=by rw [hsk]
   have hS2 : St all (pre ++ [c,97 - c]).length (hearW (hearW s c) (97 - c)) (p ++ [c]) 1 (97 - c):=by
    refine ⟨by rw [show (pre ++ [c,97 - c]).length = pre.length + 1 + 1 by simp];exact hAt2,hcode2,by rw [hsk],by omega,by omega,fun _ => by rw [hsk],fun h => by omega⟩
   obtain ⟨s',run',last',g1,g2,g3⟩:=ih (p ++ [c]) (pre ++ [c,97 - c]) _ 1 (97 - c) hp' (by rw [ha];simp) hS2
   refine ⟨s',run',last', ?_,fun l1 l2 h => ?_,fun m => ?_⟩
   ·have e : pre.length + (c :: (97 - c) :: stuffS q 1 (97 - c)).length = (pre ++ [c,97 - c]).length + (stuffS q 1 (97 - c)).length:=by simp;omega
    rw [e];exact g1
   ·cases l1 with
    | nil => exact hS.code
    | cons a l1 =>
     simp only [List.cons_append,List.cons.injEq] at h
     obtain ⟨rfl,h⟩:=h
     rw [walkG_cons (.inl hc0)]
     cases l1 with
     | nil => exact hc0
     | cons b l1 =>
      simp only [List.cons_append,List.cons.injEq] at h
      obtain ⟨rfl,h⟩:=h
      rw [walkG_cons (.inl hcode2)]
      exact g2 l1 l2 h
   ·show walkG (c :: ((97 - c) :: (stuffS q 1 (97 - c) ++ m))) s = _
    rw [walkG_cons (.inl hc0),walkG_cons (.inl hcode2)]
    exact g3 m
  ·have hdef : stuffS (c :: q) run last = c :: stuffS q nr c:=by rw [stuffS,hnr,if_neg h5]
   rw [hdef] at ha ⊢
   have hS2 : St all (pre ++ [c]).length (hearW s c) (p ++ [c]) nr c:=by
    refine ⟨by rw [show (pre ++ [c]).length = pre.length + 1 by simp];exact hAt,hc0,hrun,by omega,by omega,fun _ => hl,fun h => by omega⟩
   obtain ⟨s',run',last',g1,g2,g3⟩:=ih (p ++ [c]) (pre ++ [c]) _ nr c hp' (by rw [ha];simp) hS2
   refine ⟨s',run',last', ?_,fun l1 l2 h => ?_,fun m => ?_⟩
   ·have e : pre.length + (c :: stuffS q nr c).length = (pre ++ [c]).length + (stuffS q nr c).length:=by simp;omega
    rw [e];exact g1
   ·cases l1 with
    | nil => exact hS.code
    | cons a l1 =>
     simp only [List.cons_append,List.cons.injEq] at h
     obtain ⟨rfl,h⟩:=h
     rw [walkG_cons (.inl hc0)]
     exact g2 l1 l2 h
   ·show walkG (c :: (stuffS q nr c ++ m)) s = _
    rw [walkG_cons (.inl hc0)]
    exact g3 m
end Go.Proofs.Ytdoclpgciadjaaa.P

namespace Go.Proofs.Ytdoclpgciadjaaa.P
open Go Go.RowKit Go.Proofs.YtdoclpgciadjaaaW.PrintWords
set_option linter.unusedVariables false
def tl (a : Int) : List Int := [49,a,49,49,49,49,49,49,49,49]
structure TailAt (s : WS) (n : Nat) (m g : Int) (e r : Bool) (i d : Int) (x : List Int) : Prop where
 f : s.field = if n < 3 then 11 + (n : Int) else 14
 l : s.left = if n < 3 then 1 else 10 - (n : Int)
 m : s.sum = m
 g : s.got = g
 e : s.ext = e
 r : s.rtr = r
 i : s.id = i
 d : s.dlc = d
 x : s.data = x
theorem tail_core {P H D X C T : List Int} {e r : Bool} {i : Int} (K : Parts P H D X C e r i) {all : List Int} {n : Nat} {s : WS} (hA : At all n s (P ++ T)) (hT : T.length < 10) : TailAt s T.length (crcS (H ++ D ++ X)) (V C) e r i (V D) (bytesB X):=by
 obtain ⟨h1,h2⟩:=core_at K hT hA.bits hA.ph
 have K2:=core_is h1 h2
 exact ⟨K2.f,K2.l,K2.m,K2.g,K2.e,K2.r,K2.i,K2.d,K2.x⟩
theorem tail_step {P H D X C T : List Int} {e r : Bool} {i : Int} (K : Parts P H D X C e r i) {all : List Int} (hall : Bits all) {n : Nat} {s : WS} {c : Int} (hA : At all n s (P ++ T)) (hT : T.length < 10) (hc : rd all (n : Int) = c) (hn : n < all.length) (hd : dueW s = false) :
  (hearW s c).code = codeL s (c - 48) ∧ ((hearW s c).code = 0 ∨ (hearW s c).code = 1 → At all (n + 1) (hearW s c) (P ++ (T ++ [c])) ∧ (T.length < 9 → dueW (hearW s c) = false)):=by
 have hst:=at_step hA hn hall
 rw [hc] at hst
 cases hst with
 | stop h _ _ => rw [hd] at h;cases h
 | skip h _ _ _ => rw [hd] at h;cases h
 | take _ hcd ha =>
  refine ⟨hcd,fun h => ?_⟩
  have hA2:=ha h
  rw [List.append_assoc] at hA2
  refine ⟨hA2,fun h9 => ?_⟩
  have hf:=(tail_core K hA2 (by simp;omega)).f
  have : ¬ (hearW s c).field ≤ 11:=by
   rw [hf]
   simp only [List.length_append,List.length_singleton]
   split <;> omega
  unfold dueW
  rw [decide_eq_false this,Bool.and_false]
theorem tail_code {s : WS} {n : Nat} {m g : Int} {e r : Bool} {i d : Int} {x : List Int} (h : TailAt s n m g e r i d x) (b : Int) (hb : n ≠ 1 → b = 1) (hn : n < 10) : codeL s b = if n = 2 ∧ m ≠ g then 5 else if n = 8 then 1 else if n = 9 then 2 else 0:=by
 have hf:=h.f
 have hl:=h.l
 have hcr : crcOkW s = (decide (10 < s.field) && m == g):=by unfold crcOkW;rw [h.m,h.g]
 unfold codeL
 rw [hcr]
 by_cases c3 : n < 3
 ·rw [if_pos c3] at hf hl
  rw [hf]
  rw [decide_eq_true (show (10 : Int) < 11 + n by omega),Bool.true_and]
  have : n = 0 ∨ n = 1 ∨ n = 2:=by omega
  rcases this with rfl | rfl | rfl
  ·have:=hb (by omega);subst this;rfl
  ·rfl
  ·have:=hb (by omega);subst this
   by_cases hmg : m = g
   ·subst hmg;simp
   ·have : (m == g) = false:=beq_eq_false_iff_ne.mpr hmg
    rw [this];simp [hmg]
 ·rw [if_neg c3] at hf hl
  have hb1:=hb (by omega)
  subst hb1
  rw [hf,hl]
  rw [if_neg (show ¬ (14 : Int) = 1 by decide),if_neg (show ¬ (14 : Int) = 11 by decide),if_neg (show ¬ (14 : Int) = 13 by decide),if_pos rfl,if_neg (show ¬ (1 < 10 - (n : Int) ∧ (1 : Int) = 0) by omega),if_neg (show ¬ (n = 2 ∧ m ≠ g) by omega)]
  by_cases c8 : n = 8
  ·rw [if_pos (show 10 - (n : Int) = 2 by omega),if_pos c8]
  ·rw [if_neg (show ¬ 10 - (n : Int) = 2 by omega),if_neg c8,if_neg (show ¬ (10 - (n : Int) = 1 ∧ (1 : Int) = 0) by omega)]
   by_cases c9 : n = 9
   ·rw [if_pos (show 10 - (n : Int) = 1 by omega),if_pos c9]
   ·rw [if_neg (show ¬ 10 - (n : Int) = 1 by omega),if_neg c9]
theorem tl_get (a : Int) (ha : a = 48 ∨ a = 49) (j : Nat) (hj : j < 10) : ∃ c,(tl a)[j]? = some c ∧ (j ≠ 1 → c = 49) ∧ (c = 48 ∨ c = 49) ∧ (tl a).drop j = c :: (tl a).drop (j + 1) ∧ (tl a).take (j + 1) = (tl a).take j ++ [c]:=by
 have : j = 0 ∨ j = 1 ∨ j = 2 ∨ j = 3 ∨ j = 4 ∨ j = 5 ∨ j = 6 ∨ j = 7 ∨ j = 8 ∨ j = 9:=by omega
 rcases this with rfl | rfl | rfl | rfl | rfl | rfl | rfl | rfl | rfl | rfl
 ·exact ⟨49,rfl,fun _ => rfl, .inr rfl,rfl,rfl⟩
 ·exact ⟨a,rfl,fun h => absurd rfl h,ha,rfl,rfl⟩
 all_goals exact ⟨49,rfl,fun _ => rfl, .inr rfl,rfl,rfl⟩
theorem tail_walk {P H D X C : List Int} {e r : Bool} {i : Int} (K : Parts P H D X C e r i) {all pre : List Int} (hall : Bits all) (a : Int) (ha : a = 48 ∨ a = 49) (he : all = pre ++ tl a) {s0 : WS} {run last : Int} (hS : St all pre.length s0 P run last) :
  ∀ j : Nat,j ≤ 9 → (3 ≤ j → crcS (H ++ D ++ X) = V C) → ∃ s,At all (pre.length + j) s (P ++ (tl a).take j) ∧ s.code = (if j = 9 then 1 else 0) ∧ dueW s = false ∧ ∀ m,walkG ((tl a).take j ++ m) s0 = walkG m s:=by
 intro j
 induction j with
 | zero =>
  intro _ _
  exact ⟨s0,by simpa using hS.at_,by rw [if_neg (by omega)];exact hS.code,due_low (by rw [hS.rn];exact hS.r4),fun m => by rw [List.take_zero];rfl⟩
 | succ j ih =>
  intro hj hcr
  obtain ⟨s,hA,hc,hd,hw⟩:=ih (by omega) (fun h => hcr (by omega))
  obtain ⟨c,hget,hc1,hcb,hdr,htk⟩:=tl_get a ha j (by omega)
  have hl10 : (tl a).length = 10:=rfl
  have hTl : ((tl a).take j).length = j:=by rw [List.length_take,hl10];omega
  have hat : rd all ((pre.length + j : Nat) : Int) = c:=by
   have e1 : all = (pre ++ (tl a).take j) ++ c :: (tl a).drop (j + 1):=by rw [← hdr,List.append_assoc,List.take_append_drop];exact he
   have:=rd_app_at (pre ++ (tl a).take j) ((tl a).drop (j + 1)) c
   rw [← e1,List.length_append,hTl] at this
   exact this
  obtain ⟨g1,g2⟩:=tail_step K hall hA (by omega) hat (by rw [he,List.length_append,hl10];omega) hd
  have TA:=tail_core K hA (by omega)
  rw [hTl] at TA
  have hcode:=tail_code TA (c - 48) (fun h => by rw [hc1 h];decide) (by omega)
  rw [if_neg (by rintro ⟨h2,h3⟩;exact h3 (hcr (by omega))),if_neg (show ¬ j = 9 by omega)] at hcode
  have hcode2 : (hearW s c).code = if j + 1 = 9 then 1 else 0:=by
   rw [g1,hcode]
   by_cases h8 : j = 8
   ·rw [if_pos h8,if_pos (by omega)]
   ·rw [if_neg h8,if_neg (by omega)]
  have hok : (hearW s c).code = 0 ∨ (hearW s c).code = 1:=by rw [hcode2];split <;> simp
  obtain ⟨g3,g4⟩:=g2 hok
  refine ⟨hearW s c,by rw [htk];exact g3,hcode2,g4 (by omega),fun m => ?_⟩
  rw [htk,List.append_assoc,hw]
  exact walkG_cons hok
theorem sum_walk {P H D X C : List Int} {e r : Bool} {i : Int} (K : Parts P H D X C e r i) (a : Int) (ha : a = 48 ∨ a = 49) :
  (crcS (H ++ D ++ X) = V C → (walkG (stuffS P 0 120 ++ [49,a,49]) startW).code = 0 ∧ (walkG (stuffS P 0 120 ++ [49,a,49]) startW).field = 14) ∧ (crcS (H ++ D ++ X) ≠ V C → (walkG (stuffS P 0 120 ++ [49,a,49]) startW).code = 5):=by
 have hall : Bits (stuffS P 0 120 ++ tl a):=(stuffS_bits P 0 120 K.bits).append (fun x hx => by simp [tl] at hx;omega)
 obtain ⟨s0,run,last,hS,hcodes,hw⟩:=walk_stuffed K (stuffS P 0 120 ++ tl a) (tl a) hall P [] [] startW 0 120 rfl (by simp) ⟨At.start _,rfl,rfl,by decide,by decide,fun h => by omega,fun _ => rfl⟩
 rw [List.length_nil,Nat.zero_add] at hS
 have hl10 : (tl a).length = 10:=rfl
 have tw:=tail_walk K hall a ha rfl hS
 refine ⟨fun hcr => ?_,fun hcr => ?_⟩
 ·obtain ⟨s,hA,hc,_,hm⟩:=tw 3 (by omega) (fun _ => hcr)
  have e1 : walkG (stuffS P 0 120 ++ [49,a,49]) startW = s:=by
   rw [hw,show [49,a,49] = (tl a).take 3 ++ [] from rfl,hm];rfl
  have TA:=tail_core K hA (by rw [List.length_take,hl10];decide)
  rw [show ((tl a).take 3).length = 3 from rfl] at TA
  rw [e1]
  exact ⟨hc,by rw [TA.f];rfl⟩
 ·obtain ⟨s,hA,hc,hd,hm⟩:=tw 2 (by omega) (fun h => by omega)
  have TA:=tail_core K hA (by rw [List.length_take,hl10];decide)
  rw [show ((tl a).take 2).length = 2 from rfl] at TA
  have hat : rd (stuffS P 0 120 ++ tl a) (((stuffS P 0 120).length + 2 : Nat) : Int) = 49:=by
   have e2 : stuffS P 0 120 ++ tl a = (stuffS P 0 120 ++ (tl a).take 2) ++ 49 :: (tl a).drop 3:=by rw [List.append_assoc];rfl
   have:=rd_app_at (stuffS P 0 120 ++ (tl a).take 2) ((tl a).drop 3) 49
   rw [← e2,List.length_append] at this
   exact this
  obtain ⟨g1,_⟩:=tail_step K hall hA (by rw [List.length_take,hl10];decide) hat (by rw [List.length_append,hl10];omega) hd
  have hcode:=tail_code TA (49 - 48) (fun _ => by decide) (by omega)
  rw [if_pos ⟨rfl,hcr⟩] at hcode
  rw [hw,show [49,a,49] = (tl a).take 2 ++ [49] from rfl,hm,walkG,if_neg (by rw [g1,hcode];decide),if_pos rfl]
  exact g1.trans hcode
end Go.Proofs.Ytdoclpgciadjaaa.P

namespace Go.Proofs.Ytdoclpgciadjaaa.P
open Go Go.RowKit Go.Deep Go.Proofs.YtdoclpgciadjaaaW.PrintWords
set_option linter.unusedVariables false
end Go.Proofs.Ytdoclpgciadjaaa.P

namespace Go.Proofs.Ytdoclpgciadjaaa.P
open Go Go.RowKit Go.Proofs.YtdoclpgciadjaaaW.PrintWords
theorem okBytes_of {l : List Int} (h : ∀ y ∈ l,(Lit.int .u8 y).wf = true) : okBytes l = true:=by
 unfold okBytes
 rw [List.all_eq_true]
 intro x hx
 have:=h x hx
 simp [Lit.wf,show IntKind.u8.min = 0 from rfl,show IntKind.u8.max = 255 from rfl] at this ⊢
 omega
end Go.Proofs.Ytdoclpgciadjaaa.P

namespace Go.Proofs.Ytdoclpgciadjaaa.P
open Go.RowKit Go.Proofs.YtdoclpgciadjaaaW.PrintWords Go.Proofs.YtdoclpgciadjaaaW.PrintLast Go.Proofs.YtdoclpgciadjaaaW.PrintMore
set_option linter.unusedVariables false
set_option linter.unusedSimpArgs false
def spec_l1other.f (a0 : Int) : Option (Int):=if a0 = 48 then (some 49) else (some 48)
end Go.Proofs.Ytdoclpgciadjaaa.P

namespace Go.Proofs.Ytdoclpgciadjaaa.P
open Go.RowKit Go.Proofs.YtdoclpgciadjaaaW.PrintWords Go.Proofs.YtdoclpgciadjaaaW.PrintLast Go.Proofs.YtdoclpgciadjaaaW.PrintMore
set_option linter.unusedVariables false
set_option linter.unusedSimpArgs false
def spec_Stuff.l0 : Nat → ByteArray → List Int → Int → Option (ByteArray)
 | 0,_,_,_ => none
 | k + 1,x0,x3,x4 => if x4 < (x0.size : Int) then (if 0 ≤ x4 then (if x3.length < 140737488355328 then ((some (x3 ++ [bt x0 x4] : List Int)).bind fun y248 => ((spec_l1due.f y248 (y248.length : Int)).bind fun t251 => (if t251 = true then ((spec_l1other.f (bt x0 x4)).bind fun t252 => (if y248.length < 140737488355328 then (spec_Stuff.l0 k x0 (y248 ++ [t252]) (wrap64 (x4 + 1))) else (none))) else (spec_Stuff.l0 k x0 y248 (wrap64 (x4 + 1)))))) else (none)) else (none)) else (some (strOfNums x3))
end Go.Proofs.Ytdoclpgciadjaaa.P

namespace Go.Proofs.Ytdoclpgciadjaaa.P
open Go Go.RowKit Go.Proofs.YtdoclpgciadjaaaW.PrintWords
set_option linter.unusedVariables false
structure StuffOk (st : List Int × Int × Int) (run : Nat) : Prop where
 trail : Trail st.1 st.1.length run st.2.2
 run_eq : st.2.1 = (run : Int)
 run_le : run ≤ 4
theorem StuffOk.zero : StuffOk ([],0,120) 0:=⟨Trail.zero _ _,rfl,by omega⟩
theorem StuffOk.step {st : List Int × Int × Int} {run : Nat} (h : StuffOk st run) (c : Int) (hc : c = 48 ∨ c = 49) :
  (stuffStep st c).1 = (if (if c = st.2.2 then run + 1 else 1) = 5 then st.1 ++ [c] ++ [97 - c] else st.1 ++ [c]) ∧ ∃ run',StuffOk (stuffStep st c) run':=by
 obtain ⟨ht,he,hl⟩:=h
 have hs:=ht.snoc c
 have e1 : (if c = st.2.2 then st.2.1 + 1 else 1) = (((if c = st.2.2 then run + 1 else 1 : Nat)) : Int):=by split <;> omega
 have h5 : (if c = st.2.2 then run + 1 else 1 : Nat) ≤ 5:=by split <;> omega
 unfold stuffStep
 rw [e1]
 generalize (if c = st.2.2 then run + 1 else 1 : Nat) = q at *
 by_cases h : q = 5
 ·rw [if_pos (by omega),if_pos h]
  refine ⟨rfl,1, ?_,rfl,by omega⟩
  have hs2 : Trail (st.1 ++ [c]) (st.1 ++ [c]).length q c:=by rw [List.length_append];exact hs
  have h3:=hs2.snoc (97 - c)
  rw [if_neg (by omega)] at h3
  simp only []
  rw [List.length_append]
  exact h3
 ·rw [if_neg (by omega),if_neg h]
  refine ⟨rfl,q, ?_,rfl,by omega⟩
  simp only []
  rw [List.length_append]
  exact hs
end Go.Proofs.Ytdoclpgciadjaaa.P

namespace Go.Proofs.Ytdoclpgciadjaaa.P
open Go.RowKit Go.Proofs.YtdoclpgciadjaaaW.PrintWords Go.Proofs.YtdoclpgciadjaaaW.PrintLast Go.Proofs.YtdoclpgciadjaaaW.PrintMore
set_option linter.unusedVariables false
set_option linter.unusedSimpArgs false
end Go.Proofs.Ytdoclpgciadjaaa.P

namespace Go.Proofs.Ytdoclpgciadjaaa.P
open Go.RowKit Go.Proofs.YtdoclpgciadjaaaW.PrintWords Go.Proofs.YtdoclpgciadjaaaW.PrintLast Go.Proofs.YtdoclpgciadjaaaW.PrintMore
set_option linter.unusedVariables false
set_option linter.unusedSimpArgs false
theorem stuff_str {l : List Int} (h : Bits l) (hl : l.length ≤ 2000) : impl_Stuff.f (strOfNums l) = some (strOfNums (stuffL l)):=by
 unfold impl_Stuff.f
 rw [if_pos ⟨by rw [strOfNums_size];exact hl,isBits_str h⟩,bytes_str l h.range]
end Go.Proofs.Ytdoclpgciadjaaa.P

namespace Go.Proofs.Ytdoclpgciadjaaa.P
open Go Go.RowKit Go.Proofs.YtdoclpgciadjaaaW.PrintWords
set_option linter.unusedVariables false
end Go.Proofs.Ytdoclpgciadjaaa.P

namespace Go.Proofs.Ytdoclpgciadjaaa.P
open Go Go.RowKit Go.Proofs.YtdoclpgciadjaaaW.PrintWords
set_option linter.unusedVariables false
theorem V_numL (n : Nat) : ∀ u : Nat,V (numL u n) = ((u % 2 ^ n : Nat) : Int):=by
 induction n with
 | zero => intro u;simp [numL,V_nil,Nat.mod_one]
 | succ n ih =>
  intro u
  rw [numL_snoc,V_snoc,ih]
  have h : u % 2 ^ (n + 1) = 2 * (u / 2 % 2 ^ n) + u % 2:=by
   rw [Nat.pow_succ,Nat.mul_comm (2 ^ n) 2,Nat.mod_mul];omega
  rw [h];push_cast;omega
theorem numL_one0 : numL 0 1 = [48]:=rfl
theorem numL_two3 : numL 3 2 = [49,49]:=rfl
theorem numL_two0 : numL 0 2 = [48,48]:=rfl
theorem flag_eq (r : Bool) : (48 + b2 r == (49 : Int)) = r:=by cases r <;> rfl
theorem hd_head (e : Bool) (i : Int) (r : Bool) (h0 : 0 ≤ i) (h1 : i < vtop e) : Hd (headL e i r) e r i:=by
 cases e with
 | false =>
  have h:=Hd.base 48 (48 + b2 r) 48 (numL i.toNat 11) (numL_length _ _)
  rw [flag_eq,V_numL] at h
  have hi : ((i.toNat % 2 ^ 11 : Nat) : Int) = i:=by
   have : i < 2048:=h1
   omega
  rw [hi] at h
  have e1 : headL false i r = 48 :: numL i.toNat 11 ++ [48 + b2 r,48,48]:=by simp [headL,numL_one0,numL_two0,flagL]
  rw [e1];exact h
 | true =>
  have h:=Hd.ext 48 49 (48 + b2 r) 48 48 (numL (i.toNat / 262144) 11) (numL i.toNat 18) (numL_length _ _) (numL_length _ _)
  have hj:=numL_add i.toNat 11 18
  rw [show (2 : Nat) ^ 18 = 262144 from rfl] at hj
  rw [flag_eq, ← hj,V_numL] at h
  have hi : ((i.toNat % 2 ^ (11 + 18) : Nat) : Int) = i:=by
   have : i < 536870912:=h1
   have e2 : (2 : Nat) ^ (11 + 18) = 536870912:=rfl
   rw [e2];omega
  rw [hi] at h
  have e1 : headL true i r = 48 :: numL (i.toNat / 262144) 11 ++ [49,49] ++ numL i.toNat 18 ++ [48 + b2 r,48,48]:=by simp [headL,numL_one0,numL_two0,numL_two3,flagL]
  rw [e1];exact h
theorem dataL_len (l : List Int) : (dataL l).length = 8 * l.length:=by rw [dataL_length]
theorem bytes_data {l : List Int} (h : okBytes l = true) : bytesB (dataL l) = l:=by
 induction l using revInd with
 | nil => rfl
 | snoc l x ih =>
  have hx : 0 ≤ x ∧ x < 256:=by
   unfold okBytes at h
   rw [List.all_eq_true] at h
   have:=h x (by simp)
   simpa using this
  have hl : okBytes l = true:=by
   unfold okBytes at h ⊢
   rw [List.all_eq_true] at h ⊢
   exact fun y hy => h y (by simp [hy])
  have e1 : dataL (l ++ [x]) = dataL l ++ numL x.toNat 8:=by simp [dataL]
  rw [e1,bytesB_part _ (by rw [dataL_len];omega) _ (by rw [numL_length];omega) (by rw [numL_length];omega),ih hl,V_numL]
  congr 2
  have : (2 : Nat) ^ 8 = 256:=rfl
  omega
theorem frame_parts {e : Bool} {i : Int} {r : Bool} {d : Int} {l : List Int} (hq : 0 ≤ i ∧ okBytes l = true) (hv : validF e i r d l.length = true) :
  Parts (plainL e i r d l) (headL e i r) (numL d.toNat 4) (dataL l) (numL (crcL (bodyL e i r d l)) 15) e r i ∧ V (numL d.toNat 4) = d ∧ bytesB (dataL l) = l ∧ crcS (headL e i r ++ numL d.toNat 4 ++ dataL l) = V (numL (crcL (bodyL e i r d l)) 15):=by
 obtain ⟨h1,h2,h3,h4,h5⟩:=valid_parts hv
 have hd : V (numL d.toNat 4) = d:=by
  rw [V_numL]
  have : (2 : Nat) ^ 4 = 16:=rfl
  omega
 refine ⟨⟨rfl,hd_head e i r hq.1 h1,numL_length _ _,by rw [dataL_len,hd];push_cast;omega,numL_length _ _,plainL_bits _ _ _ _ _, ?_⟩,hd,bytes_data hq.2, ?_⟩
 ·unfold plainL bodyL headL
  cases e <;> rfl
 ·have hb:=bodyL_bits e i r d l
  show crcS (bodyL e i r d l) = _
  rw [crcS_crcL hb,V_numL]
  have:=crcL_lt (bodyL e i r d l)
  have h15 : (2 : Nat) ^ 15 = 32768:=rfl
  omega
end Go.Proofs.Ytdoclpgciadjaaa.P

namespace Go.Proofs.Ytdoclpgciadjaaa.P
open Go Go.RowKit Go.Proofs.YtdoclpgciadjaaaW.PrintWords
set_option linter.unusedVariables false
def itr : Nat → Nat → Nat
 | v,0 => v
 | v,k + 1 => itr (crcN v 0) k
theorem itr_succ : ∀ (k v : Nat),itr v (k + 1) = crcN (itr v k) 0:=by
 intro k
 induction k with
 | zero => intro v;rfl
 | succ k ih => intro v;rw [itr,ih];rfl
def pw (k : Nat) : Nat:=itr 17817 k
theorem pw_succ (k : Nat) : pw (k + 1) = crcN (pw k) 0:=itr_succ k _
def pwL : Nat → Nat → List Nat
 | 0,_ => []
 | n + 1,v => v :: pwL n (crcN v 0)
theorem itr_mem : ∀ (n k v : Nat),k < n → itr v k ∈ pwL n v:=by
 intro n
 induction n with
 | zero => intro k v h;omega
 | succ n ih =>
  intro k v h
  rw [pwL]
  cases k with
  | zero => exact List.mem_cons_self ..
  | succ k => exact List.mem_cons_of_mem _ (ih k _ (by omega))
theorem pwL_length : ∀ (n v : Nat),(pwL n v).length = n:=by
 intro n
 induction n with
 | zero => intro v;rfl
 | succ n ih => intro v;rw [pwL,List.length_cons,ih]
theorem pwL_get : ∀ (n k v : Nat) (h : k < (pwL n v).length),(pwL n v)[k] = itr v k:=by
 intro n
 induction n with
 | zero => intro k v h;simp [pwL] at h
 | succ n ih =>
  intro k v h
  cases k with
  | zero => rfl
  | succ k => exact ih k _ _
def chk : List Nat → Nat → Bool
 | [],_ => true
 | t :: ts,B => !(B.testBit t) && chk ts (B ||| 2 ^ t)
theorem chk_sound : ∀ (ts : List Nat) (B : Nat),chk ts B = true → ts.Nodup ∧ ∀ t ∈ ts,B.testBit t = false:=by
 intro ts
 induction ts with
 | nil => intro B _;exact ⟨List.nodup_nil,fun t h => by simp at h⟩
 | cons t ts ih =>
  intro B h
  rw [chk,Bool.and_eq_true,Bool.not_eq_true'] at h
  obtain ⟨h1,h2⟩:=ih _ h.2
  have h3 : ∀ u ∈ ts,B.testBit u = false ∧ u ≠ t:=by
   intro u hu
   have:=h2 u hu
   rw [Nat.testBit_or,Bool.or_eq_false_iff] at this
   refine ⟨this.1,fun e => ?_⟩
   rw [e,Nat.testBit_two_pow_self] at this
   exact absurd this.2 (by decide)
  refine ⟨List.nodup_cons.mpr ⟨fun hm => (h3 t hm).2 rfl,h1⟩,fun u hu => ?_⟩
  rcases List.mem_cons.mp hu with rfl | hu
  ·exact h.1
  ·exact (h3 u hu).1
def pairsOf : List Nat → List Nat
 | [] => []
 | x :: vs => vs.map (fun v => x ^^^ v) ++ pairsOf vs
theorem pairs_mem : ∀ (vs : List Nat) (a b : Nat),a ∈ vs → b ∈ vs → a ≠ b → a ^^^ b ∈ pairsOf vs:=by
 intro vs
 induction vs with
 | nil => intro a b h;simp at h
 | cons x vs ih =>
  intro a b ha hb hne
  rw [pairsOf,List.mem_append]
  rcases List.mem_cons.mp ha with ea | ka
  ·rcases List.mem_cons.mp hb with eb | kb
   ·exact absurd (ea.trans eb.symm) hne
   ·exact .inl (List.mem_map.mpr ⟨b,kb,by rw [ea]⟩)
  ·rcases List.mem_cons.mp hb with eb | kb
   ·exact .inl (List.mem_map.mpr ⟨a,ka,by rw [eb];exact Nat.xor_comm _ _⟩)
   ·exact .inr (ih a b ka kb hne)
theorem xor_zero_eq {a b : Nat} (h : a ^^^ b = 0) : a = b:=by
 have:=congrArg (fun t => t ^^^ b) h
 simp only [Nat.xor_assoc,Nat.xor_self,Nat.xor_zero,Nat.zero_xor] at this
 exact this
theorem four : ∀ (vs : List Nat),(pairsOf vs).Nodup → ∀ a b c d : Nat,a ∈ vs → b ∈ vs → c ∈ vs → d ∈ vs → a ≠ b → a ≠ c → a ≠ d → b ≠ c → b ≠ d → c ≠ d → a ^^^ b ≠ c ^^^ d:=by
 intro vs
 induction vs with
 | nil => intro _ a b c d h;simp at h
 | cons x vs ih =>
  intro hn a b c d ha hb hc hd ab ac ad bc bd cd
  rw [pairsOf] at hn
  obtain ⟨_,n2,n3⟩:=List.nodup_append.mp hn
  have key : ∀ b c d : Nat,b ∈ vs → c ∈ vs → d ∈ vs → c ≠ d → x ^^^ b ≠ c ^^^ d:=fun b c d hb hc hd hcd => n3 _ (List.mem_map.mpr ⟨b,hb,rfl⟩) _ (pairs_mem vs c d hc hd hcd)
  have mv : ∀ y : Nat,y ∈ x :: vs → y ≠ x → y ∈ vs:=fun y hy hne => (List.mem_cons.mp hy).resolve_left hne
  by_cases ea : a = x
  ·subst ea;exact key b c d (mv b hb (Ne.symm ab)) (mv c hc (Ne.symm ac)) (mv d hd (Ne.symm ad)) cd
  ·by_cases eb : b = x
   ·subst eb;rw [Nat.xor_comm];exact key a c d (mv a ha ea) (mv c hc (Ne.symm bc)) (mv d hd (Ne.symm bd)) cd
   ·by_cases ec : c = x
    ·subst ec;exact (key d a b (mv d hd (Ne.symm cd)) (mv a ha ea) (mv b hb eb) ab).symm
    ·by_cases ed : d = x
     ·subst ed;rw [Nat.xor_comm c];exact (key c a b (mv c hc ec) (mv a ha ea) (mv b hb eb) ab).symm
     ·exact ih n2 a b c d (mv a ha ea) (mv b hb eb) (mv c hc ec) (mv d hd ed) ab ac ad bc bd cd
def par : Nat → Nat → Bool
 | 0,_ => false
 | k + 1,n => n.testBit k ^^ par k n
theorem par_xor (k a b : Nat) : par k (a ^^^ b) = (par k a ^^ par k b):=by
 induction k with
 | zero => rfl
 | succ k ih => rw [par,par,par,ih,Nat.testBit_xor];cases a.testBit k <;> cases b.testBit k <;> cases par k a <;> cases par k b <;> rfl
theorem par_zero (k : Nat) : par k 0 = false:=by
 induction k with
 | zero => rfl
 | succ k ih => rw [par,ih,Nat.zero_testBit];rfl
theorem pw_odd_all : (pwL 118 17817).all (fun v => par 15 v) = true:=by decide +kernel
theorem pw_diff_all : chk (pwL 118 17817) 0 = true:=by decide +kernel
theorem pw_pairs_all : chk (pairsOf (pwL 118 17817)) 0 = true:=by decide +kernel
theorem pw_odd {k : Nat} (h : k < 118) : par 15 (pw k) = true:=List.all_eq_true.mp pw_odd_all _ (itr_mem 118 k _ h)
theorem pw_ne {j k : Nat} (hj : j < 118) (hk : k < 118) (h : j ≠ k) : pw j ≠ pw k:=by
 have hn:=(chk_sound _ _ pw_diff_all).1
 have l1 : j < (pwL 118 17817).length:=by rw [pwL_length];exact hj
 have l2 : k < (pwL 118 17817).length:=by rw [pwL_length];exact hk
 have e1:=pwL_get 118 j 17817 l1
 have e2:=pwL_get 118 k 17817 l2
 intro he
 have : (pwL 118 17817)[j] = (pwL 118 17817)[k]:=by rw [e1,e2];exact he
 rcases Nat.lt_or_gt_of_ne h with hlt | hlt
 ·exact List.pairwise_iff_getElem.mp hn j k l1 l2 hlt this
 ·exact List.pairwise_iff_getElem.mp hn k j l2 l1 hlt this.symm
def xs : List Nat → Nat
 | [] => 0
 | k :: ks => pw k ^^^ xs ks
theorem odd_ne {n : Nat} (h : par 15 n = true) : n ≠ 0:=fun e => by rw [e,par_zero] at h;exact absurd h (by decide)
theorem five_ne (ks : List Nat) (h0 : ks ≠ []) (h5 : ks.length ≤ 5) (hn : ks.Nodup) (hk : ∀ k ∈ ks,k < 118) : xs ks ≠ 0:=by
 match ks,h0,h5,hn,hk with
 | [a],_,_,_,hk =>
  refine odd_ne ?_
  simp only [xs,par_xor,par_zero,pw_odd (hk a (by simp))];rfl
 | [a,b],_,_,hn,hk =>
  simp only [xs,Nat.xor_zero]
  intro e
  simp only [List.nodup_cons,List.mem_cons,List.not_mem_nil,or_false] at hn
  exact pw_ne (hk a (by simp)) (hk b (by simp)) hn.1 (xor_zero_eq e)
 | [a,b,c],_,_,_,hk =>
  refine odd_ne ?_
  simp only [xs,par_xor,par_zero,pw_odd (hk a (by simp)),pw_odd (hk b (by simp)),pw_odd (hk c (by simp))];rfl
 | [a,b,c,d],_,_,hn,hk =>
  simp only [xs,Nat.xor_zero]
  intro e
  rw [← Nat.xor_assoc] at e
  simp only [List.nodup_cons,List.mem_cons,List.not_mem_nil,or_false,not_or] at hn
  have ka:=hk a (by simp)
  have kb:=hk b (by simp)
  have kc:=hk c (by simp)
  have kd:=hk d (by simp)
  exact four _ (chk_sound _ _ pw_pairs_all).1 (pw a) (pw b) (pw c) (pw d) (itr_mem 118 a _ ka) (itr_mem 118 b _ kb) (itr_mem 118 c _ kc) (itr_mem 118 d _ kd)
   (pw_ne ka kb hn.1.1) (pw_ne ka kc hn.1.2.1) (pw_ne ka kd hn.1.2.2) (pw_ne kb kc hn.2.1.1) (pw_ne kb kd hn.2.1.2) (pw_ne kc kd hn.2.2.1) (xor_zero_eq e)
 | [a,b,c,d,f],_,_,_,hk =>
  refine odd_ne ?_
  simp only [xs,par_xor,par_zero,pw_odd (hk a (by simp)),pw_odd (hk b (by simp)),pw_odd (hk c (by simp)),pw_odd (hk d (by simp)),pw_odd (hk f (by simp))];rfl
theorem crcN_xor (r s b : Nat) (hr : r < 32768) (hs : s < 32768) (hb : b ≤ 1) : crcN (r ^^^ s) b = crcN r b ^^^ crcN s 0:=by
 refine Nat.eq_of_testBit_eq fun j => ?_
 have hrs : r ^^^ s < 32768:=Nat.xor_lt_two_pow (n:=15) hr hs
 by_cases hj : j < 15
 ·rw [Nat.testBit_xor,crcN_testBit _ _ hrs hb j hj,crcN_testBit _ _ hr hb j hj,crcN_testBit _ _ hs (by decide) j hj,Nat.testBit_xor,Nat.testBit_xor]
  cases decide (0 < j) <;> cases r.testBit (j - 1) <;> cases s.testBit (j - 1) <;> cases r.testBit 14 <;> cases s.testBit 14 <;> cases decide (b = 1) <;> cases Nat.testBit 17817 j <;> rfl
 ·have hz : ∀ n : Nat,n < 32768 → n.testBit j = false:=fun n hn => Nat.testBit_lt_two_pow (Nat.lt_of_lt_of_le hn (Nat.pow_le_pow_right (n:=2) (by decide) (show 15 ≤ j by omega)))
  rw [Nat.testBit_xor,hz _ (crcN_lt _ _),hz _ (crcN_lt _ _),hz _ (crcN_lt _ _)];rfl
theorem crcN_one (r b : Nat) (hr : r < 32768) (hb : b ≤ 1) : crcN r (1 - b) = crcN r b ^^^ pw 0:=by
 refine Nat.eq_of_testBit_eq fun j => ?_
 by_cases hj : j < 15
 ·rw [Nat.testBit_xor,crcN_testBit _ _ hr (by omega) j hj,crcN_testBit _ _ hr hb j hj]
  show _ = (_ ^^ Nat.testBit 17817 j)
  have : b = 0 ∨ b = 1:=by omega
  rcases this with rfl | rfl <;> cases decide (0 < j) <;> cases r.testBit (j - 1) <;> cases r.testBit 14 <;> cases Nat.testBit 17817 j <;> rfl
 ·have hz : ∀ n : Nat,n < 32768 → n.testBit j = false:=fun n hn => Nat.testBit_lt_two_pow (Nat.lt_of_lt_of_le hn (Nat.pow_le_pow_right (n:=2) (by decide) (show 15 ≤ j by omega)))
  rw [Nat.testBit_xor,hz _ (crcN_lt _ _),hz _ (crcN_lt _ _),hz _ (show pw 0 < 32768 by decide)];rfl
theorem pw_lt : ∀ k,pw k < 32768:=by
 intro k
 cases k with
 | zero => decide
 | succ k => rw [pw_succ];exact crcN_lt _ _
theorem bitN_le (c : Int) : bitN c ≤ 1:=by unfold bitN;split <;> omega
theorem fold_xor : ∀ (Q : List Int) (r k : Nat),r < 32768 → Q.foldl (fun r c => crcN r (bitN c)) (r ^^^ pw k) = Q.foldl (fun r c => crcN r (bitN c)) r ^^^ pw (k + Q.length):=by
 intro Q
 induction Q with
 | nil => intro r k _;rfl
 | cons c Q ih =>
  intro r k hr
  rw [List.foldl_cons,List.foldl_cons,crcN_xor r _ _ hr (pw_lt k) (bitN_le c), ← pw_succ,ih _ _ (crcN_lt _ _),List.length_cons]
  congr 2;omega
theorem crcL_flip (L Q : List Int) (c : Int) (hc : c = 48 ∨ c = 49) : crcL (L ++ (97 - c) :: Q) = crcL (L ++ c :: Q) ^^^ pw Q.length:=by
 have h1 : bitN (97 - c) = 1 - bitN c:=by rcases hc with rfl | rfl <;> rfl
 have e : ∀ c,crcL (L ++ c :: Q) = Q.foldl (fun r c => crcN r (bitN c)) (crcN (crcL L) (bitN c)):=fun c => by unfold crcL;rw [List.foldl_append,List.foldl_cons]
 rw [e,e,h1,crcN_one _ _ (crcL_lt L) (bitN_le c),fold_xor _ _ _ (crcN_lt _ _),Nat.zero_add]
end Go.Proofs.Ytdoclpgciadjaaa.P

namespace Go.Proofs.Ytdoclpgciadjaaa.P
open Go Go.RowKit Go.Proofs.YtdoclpgciadjaaaW.PrintWords
set_option linter.unusedVariables false
theorem cut_at (P : List Int) (p : Nat) (h : p < P.length) : ∃ (L : List Int) (c : Int) (Q : List Int),P = L ++ c :: Q ∧ L.length = p ∧ Q.length = P.length - 1 - p:=by
 refine ⟨P.take p,P[p],P.drop (p + 1), ?_,by rw [List.length_take];omega,by rw [List.length_drop];omega⟩
 rw [List.getElem_cons_drop,List.take_append_drop]
def flp (P : List Int) (p : Nat) : List Int:=P.set p (97 - rd P (p : Int))
theorem flp_cut (L Q : List Int) (c : Int) : flp (L ++ c :: Q) L.length = L ++ (97 - c) :: Q:=by
 unfold flp
 rw [rd_app_at,List.set_append,if_neg (by omega),Nat.sub_self];rfl
theorem flp_length (P : List Int) (p : Nat) : (flp P p).length = P.length:=by unfold flp;rw [List.length_set]
theorem crcL_flp {P : List Int} (hb : Bits P) {p : Nat} (h : p < P.length) : crcL (flp P p) = crcL P ^^^ pw (P.length - 1 - p):=by
 obtain ⟨L,c,Q,e,hl,hq⟩:=cut_at P p h
 rw [← hq,e, ← hl,flp_cut]
 exact crcL_flip L Q c (hb c (by rw [e];simp))
theorem wFlip_str {P : List Int} (hb : Bits P) (hl : P.length ≤ 1000) {p : Nat} (h : p < P.length) : laws_wFlip.f (strOfNums P) (p : Int) = some (strOfNums (flp P p)):=by
 obtain ⟨L,c,Q,e,hL,hq⟩:=cut_at P p h
 have hc:=hb c (by rw [e];simp)
 have hsz : (strOfNums P).size = P.length:=strOfNums_size P
 have hbt : bt (strOfNums P) ((L.length : Nat) : Int) = c:=by
  rw [bt_str _ _ (by omega) hb.range,e,rd_app_at]
 have e1 : (strOfNums P).extract 0 L.length = strOfNums L:=by
  rw [str_extract _ _ _ (by omega),List.drop_zero,Nat.sub_zero,e,List.take_left' rfl]
 have e2 : (strOfNums P).extract (L.length + 1) P.length = strOfNums Q:=by
  rw [str_extract _ _ _ (by omega),e,List.drop_length_add_append]
  congr 1
  show List.take _ Q = Q
  rw [List.take_of_length_le (by rw [List.length_append,List.length_cons];omega)]
 unfold laws_wFlip.f
 rw [if_pos ⟨by omega,by rw [hsz];omega,by rw [hsz];omega⟩,Int.toNat_natCast]
 congr 1
 unfold flipS
 rw [← hL,hbt,hsz,e1,e2]
 have e3 : flp P L.length = L ++ (97 - c) :: Q:=by rw [e,flp_cut]
 rw [e3]
 have z48 : (⟨#[48]⟩ : ByteArray) = strOfNums [48]:=rfl
 have z49 : (⟨#[49]⟩ : ByteArray) = strOfNums [49]:=rfl
 rcases hc with rfl | rfl
 ·rw [if_neg (by decide),z49, ← str_append, ← str_append,List.append_assoc];rfl
 ·rw [if_pos rfl,z48, ← str_append, ← str_append,List.append_assoc];rfl
theorem V_cons (c : Int) (R : List Int) : V (c :: R) = (c - 48) * 2 ^ R.length + V R:=by
 induction R using revInd with
 | nil => have:=V_one c;rw [this,V_nil,List.length_nil];simp
 | snoc R d ih =>
  rw [← List.cons_append,V_snoc,ih,V_snoc,List.length_append,List.length_singleton,Int.pow_succ, ← Int.mul_assoc]
  generalize (c - 48) * 2 ^ R.length = t
  omega
theorem feed0 : ∀ (C : List Int) (r : Nat),Bits C → C.length ≤ 15 → (r : Int) = V C * ((2 ^ (15 - C.length) : Nat) : Int) → C.foldl (fun r c => crcN r (bitN c)) r = 0:=by
 intro C
 induction C with
 | nil => intro r _ _ h;rw [V_nil,Int.zero_mul] at h;rw [show r = 0 by omega];rfl
 | cons c R ih =>
  intro r hb hl h
  rw [List.length_cons] at hl h
  have hR : Bits R:=fun x hx => hb x (by simp [hx])
  have hc:=hb c (by simp)
  obtain ⟨v0,v1⟩:=V_range hR
  obtain ⟨u,hu⟩ : ∃ u : Nat,V R = (u : Int):=⟨(V R).toNat,by omega⟩
  have hu2 : u < 2 ^ R.length:=by rw [hu] at v1;exact_mod_cast v1
  have hq : (2 : Nat) ^ R.length * 2 ^ (14 - R.length) = 16384:=by rw [← Nat.pow_add,show R.length + (14 - R.length) = 14 by omega]
  have hlt : u * 2 ^ (14 - R.length) < 16384:=by rw [← hq];exact Nat.mul_lt_mul_of_pos_right hu2 (Nat.pow_pos (by decide))
  have hr : r = bitN c * 16384 + u * 2 ^ (14 - R.length):=by
   have e : (r : Int) = ((bitN c * 16384 + u * 2 ^ (14 - R.length) : Nat) : Int):=by
    rw [h,V_cons,hu,show 15 - (R.length + 1) = 14 - R.length by omega]
    have hq2 : (2 : Int) ^ R.length * ((2 ^ (14 - R.length) : Nat) : Int) = 16384:=by
     rw [show (2 : Int) ^ R.length = ((2 ^ R.length : Nat) : Int) by rw [Int.natCast_pow];rfl, ← Int.natCast_mul,hq];rfl
    rcases hc with rfl | rfl
    ·rw [show ((48 : Int) - 48) = 0 by decide,Int.zero_mul,Int.zero_add,show bitN 48 = 0 from rfl,Nat.zero_mul,Nat.zero_add,Int.natCast_mul]
    ·rw [show ((49 : Int) - 48) = 1 by decide,Int.one_mul,Int.add_mul,hq2,show bitN 49 = 1 from rfl,Nat.one_mul,Int.natCast_add,Int.natCast_mul];rfl
   exact_mod_cast e
  have hb1:=bitN_le c
  have hstep : crcN r (bitN c) = 2 * (u * 2 ^ (14 - R.length)):=by
   generalize u * 2 ^ (14 - R.length) = t at hlt hr
   have hd : r / 16384 = bitN c:=by omega
   unfold crcN
   rw [hd,Nat.xor_self,if_neg (by decide)]
   have : bitN c = 0 ∨ bitN c = 1:=by omega
   rcases this with h0 | h0 <;> rw [h0] at hr <;> omega
  rw [List.foldl_cons,hstep]
  refine ih _ hR (by omega) ?_
  rw [hu, ← Int.natCast_mul,show 15 - R.length = (14 - R.length) + 1 by omega,Nat.pow_succ]
  congr 1
  rw [Nat.mul_comm 2,Nat.mul_assoc]
theorem syn_zero {B C : List Int} (hC : Bits C) (hl : C.length = 15) (h : (crcL B : Int) = V C) : crcL (B ++ C) = 0:=by
 unfold crcL
 rw [List.foldl_append]
 refine feed0 C _ hC (by omega) ?_
 rw [hl]
 show (crcL B : Int) = V C * ((2 ^ 0 : Nat) : Int)
 rw [h];simp
theorem Parts.bB {P H D X C : List Int} {e r : Bool} {i : Int} (K : Parts P H D X C e r i) : Bits (H ++ D ++ X):=fun x hx => K.bits x (by rw [K.eq,List.mem_append];exact .inl hx)
theorem Parts.bC {P H D X C : List Int} {e r : Bool} {i : Int} (K : Parts P H D X C e r i) : Bits C:=fun x hx => K.bits x (by rw [K.eq,List.mem_append];exact .inr hx)
theorem Parts.syn {P H D X C : List Int} {e r : Bool} {i : Int} (K : Parts P H D X C e r i) (h : crcS (H ++ D ++ X) = V C) : crcL P = 0:=by
 rw [K.eq]
 refine syn_zero K.bC K.cl ?_
 rw [← crcS_crcL K.bB];exact h
def Opn (e : Bool) (n p : Nat) : Prop:=1 ≤ p ∧ p < n ∧ p ≠ 12 ∧ p ≠ 13 ∧ (e = true → p ≠ 32 ∧ ¬ (35 ≤ p ∧ p < 39)) ∧ (e = false → ¬ (15 ≤ p ∧ p < 19))
theorem hd_set {H : List Int} {e r : Bool} {i : Int} (h : Hd H e r i) {p : Nat} (v : Int) (hp : p < H.length) (h1 : 1 ≤ p) (h12 : p ≠ 12) (h13 : p ≠ 13) (h32 : e = true → p ≠ 32) : ∃ i',Hd (H.set p v) e r i':=by
 cases h with
 | base a r z I hI =>
  have hl : (a :: I).length = 12:=by rw [List.length_cons,hI]
  rw [List.length_append,hl] at hp
  simp only [List.length_cons,List.length_nil] at hp
  rw [List.set_append,hl]
  by_cases c : p < 12
  ·rw [if_pos c]
   obtain ⟨q,rfl⟩ : ∃ q,p = q + 1:=⟨p - 1,by omega⟩
   rw [List.set_cons_succ]
   exact ⟨_,Hd.base a r z (I.set q v) (by rw [List.length_set,hI])⟩
  ·rw [if_neg c,show p - 12 = 2 by omega]
   exact ⟨_,Hd.base a r v I hI⟩
 | ext a s q z y I J hI hJ =>
  have h32:=h32 rfl
  have hl : (a :: I).length = 12:=by rw [List.length_cons,hI]
  have hl2 : (a :: I ++ [s,49]).length = 14:=by rw [List.length_append,hl];rfl
  have hl3 : (a :: I ++ [s,49] ++ J).length = 32:=by rw [List.length_append,hl2,hJ]
  rw [List.length_append,hl3] at hp
  simp only [List.length_cons,List.length_nil] at hp
  rw [List.set_append,hl3]
  by_cases c : p < 32
  ·rw [if_pos c,List.set_append,hl2]
   by_cases c2 : p < 14
   ·rw [if_pos c2,List.set_append,hl,if_pos (by omega)]
    obtain ⟨t,rfl⟩ : ∃ t,p = t + 1:=⟨p - 1,by omega⟩
    rw [List.set_cons_succ]
    exact ⟨_,Hd.ext a s q z y (I.set t v) J (by rw [List.length_set,hI]) hJ⟩
   ·rw [if_neg c2]
    exact ⟨_,Hd.ext a s q z y I (J.set (p - 14) v) hI (by rw [List.length_set,hJ])⟩
  ·rw [if_neg c]
   have : p - 32 = 1 ∨ p - 32 = 2:=by omega
   rcases this with h | h <;> rw [h]
   ·exact ⟨_,Hd.ext a s q v y I J hI hJ⟩
   ·exact ⟨_,Hd.ext a s q z v I J hI hJ⟩
theorem parts_set {P H D X C : List Int} {e r : Bool} {i : Int} (K : Parts P H D X C e r i) {p : Nat} (ho : Opn e P.length p) {v : Int} (hv : v = 48 ∨ v = 49) : ∃ H' X' C' i',Parts (P.set p v) H' D X' C' e r i':=by
 obtain ⟨h1,h2,h12,h13,he,hb⟩:=ho
 have hl:=hd_len K.hd
 have hlen:=K.len.1
 have hbits : Bits (P.set p v):=fun x hx => by
  rcases List.mem_or_eq_of_mem_set hx with h | h
  ·exact K.bits x h
  ·rw [h];exact hv
 have hsof : rd (P.set p v) 0 = 48:=by
  have:=rd_set P p v 0 h2
  rw [if_neg (by omega)] at this
  rw [show ((0 : Nat) : Int) = 0 from rfl] at this
  rw [this];exact K.sof
 have hHD : (H ++ D).length = H.length + 4:=by rw [List.length_append,K.dl]
 have hHDX : (H ++ D ++ X).length = H.length + 4 + X.length:=by rw [List.length_append,hHD]
 have hset : P.set p v = (H ++ D ++ X ++ C).set p v:=by rw [← K.eq]
 have hdl : H.length = 35 ∧ e = true ∨ H.length = 15 ∧ e = false:=by cases e <;> simp at hl ⊢ <;> exact hl
 have hout : ¬ (H.length ≤ p ∧ p < H.length + 4):=by 
  rcases hdl with ⟨h,h'⟩ | ⟨h,h'⟩
  ·rw [h];exact (he h').2
  ·rw [h];exact hb h'
 by_cases c1 : p < H.length
 ·obtain ⟨i',hH⟩:=hd_set K.hd v c1 h1 h12 h13 (fun h => (he h).1)
  exact ⟨H.set p v,X,C,i',by rw [hset,List.set_append,if_pos (by omega),List.set_append,if_pos (by omega),List.set_append,if_pos c1],hH,K.dl,K.xl,K.cl,hbits,hsof⟩
 ·by_cases c2 : p < H.length + 4 + X.length
  ·exact ⟨H,X.set (p - (H.length + 4)) v,C,i,by rw [hset,List.set_append,if_pos (by omega),List.set_append,if_neg (by omega),hHD],K.hd,K.dl,by rw [List.length_set];exact K.xl,K.cl,hbits,hsof⟩
  ·exact ⟨H,X,C.set (p - (H.length + 4 + X.length)) v,i,by rw [hset,List.set_append,if_neg (by omega),hHDX],K.hd,K.dl,K.xl,by rw [List.length_set];exact K.cl,hbits,hsof⟩
theorem rd_bit {P : List Int} (hb : Bits P) {p : Nat} (h : p < P.length) : rd P (p : Int) = 48 ∨ rd P (p : Int) = 49:=by
 obtain ⟨L,c,Q,e,hl,_⟩:=cut_at P p h
 rw [← hl,e,rd_app_at]
 exact hb c (by rw [e];simp)
theorem parts_flp {P H D X C : List Int} {e r : Bool} {i : Int} (K : Parts P H D X C e r i) {p : Nat} (ho : Opn e P.length p) : ∃ H' X' C' i',Parts (flp P p) H' D X' C' e r i':=by
 have:=rd_bit K.bits ho.2.1
 exact parts_set K ho (by omega)
end Go.Proofs.Ytdoclpgciadjaaa.P

namespace Go.Proofs.Ytdoclpgciadjaaa.P
open Go Go.RowKit Go.Proofs.YtdoclpgciadjaaaW.PrintWords Go.Proofs.YtdoclpgciadjaaaW.PrintLast Go.Proofs.YtdoclpgciadjaaaW.PrintMore
set_option linter.unusedVariables false
theorem wOpen_step (e : Bool) (i : Int) (r : Bool) (d : Int) (l : List Int) (n p : Nat) (acc : List Int) (h1 : 1 ≤ p) (h2 : p < n) (hn : n ≤ 200) (ha : acc.length ≤ 200) (O : List Int)
  (ky : Opn e n p → Ev (fun k => laws_wOpen.l0 k (acc ++ [(p : Int)]) (n : Int) ((p + 1 : Nat) : Int) e i r d l) O) (kn : ¬ Opn e n p → Ev (fun k => laws_wOpen.l0 k acc (n : Int) ((p + 1 : Nat) : Int) e i r d l) O) :
  Ev (fun k => laws_wOpen.l0 k acc (n : Int) (p : Int) e i r d l) O:=by
 have hw : wrap64 ((p : Int) + 1) = ((p + 1 : Nat) : Int):=by rw [w64 (by omega) (by omega)];rfl
 have yes : Opn e n p → ∀ g : Nat → Option (List Int),(∀ k,g k = if acc.length < 17592186044416 then laws_wOpen.l0 k (acc ++ [(p : Int)]) (n : Int) (wrap64 ((p : Int) + 1)) e i r d l else none) → Ev g O:=fun ho g hg => by
  refine Ev.congr (fun k => ?_) (ky ho)
  rw [hg,if_pos (by omega),hw]
 by_cases c12 : p = 12 ∨ p = 13
 ·have hno : ¬ Opn e n p:=fun h => by have:=h.2.2.1;have:=h.2.2.2.1;omega
  refine Ev.step (f:=fun k => laws_wOpen.j1 k acc (n : Int) (p : Int) true e i r d l) (fun k => ?_) (Ev.step (f:=fun k => laws_wOpen.l0 k acc (n : Int) ((p + 1 : Nat) : Int) e i r d l) (fun k => ?_) (kn hno))
  ·simp only [laws_wOpen.l0]
   rw [if_pos (by omega)]
   rcases c12 with rfl | rfl
   ·rw [if_pos (by omega)]
   ·rw [if_neg (by omega)];rfl
  ·simp only [laws_wOpen.j1]
   rw [if_pos trivial,hw]
 have hb13 : ((p : Int) == 13) = false:=beq_eq_false_iff_ne.mpr (by omega)
 refine Ev.step (f:=fun k => laws_wOpen.j1 k acc (n : Int) (p : Int) false e i r d l) (fun k => ?_) ?_
 ·simp only [laws_wOpen.l0]
  rw [if_pos (by omega),if_neg (by omega),hb13]
 have skip : ¬ Opn e n p → Ev (fun k => laws_wOpen.j2 k acc (n : Int) (p : Int) true e i r d l) O:=fun hno => by
  refine Ev.step (f:=fun k => laws_wOpen.l0 k acc (n : Int) ((p + 1 : Nat) : Int) e i r d l) (fun k => ?_) (kn hno)
  simp only [laws_wOpen.j2]
  rw [if_pos trivial,hw]
 cases e with
 | true =>
  by_cases c : p = 32 ∨ (35 ≤ p ∧ p < 39)
  ·have hno : ¬ Opn true n p:=fun h => by have:=h.2.2.2.2.1 rfl;omega
   refine Ev.step (f:=fun k => laws_wOpen.j2 k acc (n : Int) (p : Int) true true i r d l) (fun k => ?_) (skip hno)
   simp only [laws_wOpen.j1]
   rw [if_neg (by decide),if_pos trivial]
   by_cases c2 : p = 32
   ·rw [if_pos (by omega)]
   ·rw [if_neg (by omega),if_pos (by omega),decide_eq_true (by omega)]
  ·have ho : Opn true n p:=⟨h1,h2,by omega,by omega,fun _ => by omega,fun h => absurd h (by decide)⟩
   refine Ev.step (f:=fun k => laws_wOpen.j2 k acc (n : Int) (p : Int) false true i r d l) (fun k => ?_) (Ev.step (f:=fun k => if acc.length < 17592186044416 then laws_wOpen.l0 k (acc ++ [(p : Int)]) (n : Int) (wrap64 ((p : Int) + 1)) true i r d l else none) (fun k => ?_) (yes ho _ (fun _ => rfl)))
   ·simp only [laws_wOpen.j1]
    rw [if_neg (by decide),if_pos trivial,if_neg (by omega)]
    by_cases c2 : 35 ≤ p
    ·rw [if_pos (by omega),decide_eq_false (by omega)]
    ·rw [if_neg (by omega)]
   ·simp only [laws_wOpen.j2]
    rw [if_neg (by decide),if_pos trivial]
 | false =>
  refine Ev.step (f:=fun k => laws_wOpen.j2 k acc (n : Int) (p : Int) false false i r d l) (fun k => ?_) ?_
  ·simp only [laws_wOpen.j1]
   rw [if_neg (by decide),if_neg (by decide)]
  by_cases c : 15 ≤ p ∧ p < 19
  ·have hno : ¬ Opn false n p:=fun h => h.2.2.2.2.2 rfl c
   refine Ev.step (f:=fun k => laws_wOpen.l0 k acc (n : Int) ((p + 1 : Nat) : Int) false i r d l) (fun k => ?_) (kn hno)
   simp only [laws_wOpen.j2]
   rw [if_neg (by decide),if_neg (by decide),if_pos (by omega),if_pos (by omega),hw]
  ·have ho : Opn false n p:=⟨h1,h2,by omega,by omega,fun h => absurd h (by decide),fun _ => c⟩
   refine Ev.step (f:=fun k => if acc.length < 17592186044416 then laws_wOpen.l0 k (acc ++ [(p : Int)]) (n : Int) (wrap64 ((p : Int) + 1)) false i r d l else none) (fun k => ?_) (yes ho _ (fun _ => rfl))
   simp only [laws_wOpen.j2]
   rw [if_neg (by decide),if_neg (by decide)]
   by_cases c2 : 15 ≤ p
   ·rw [if_pos (by omega),if_neg (by omega)]
   ·rw [if_neg (by omega)]
theorem wOpen_loop (e : Bool) (i : Int) (r : Bool) (d : Int) (l : List Int) (n : Nat) (hn : n ≤ 200) : ∀ (q p : Nat) (acc : List Int),p + q = n → 1 ≤ p → acc.length ≤ p → (∀ x ∈ acc, ∃ m : Nat,x = (m : Int) ∧ Opn e n m) →
  ∃ O,Ev (fun k => laws_wOpen.l0 k acc (n : Int) (p : Int) e i r d l) O ∧ (∀ x ∈ O, ∃ m : Nat,x = (m : Int) ∧ Opn e n m) ∧ acc.length ≤ O.length ∧ O.length ≤ n:=by
 intro q
 induction q with
 | zero =>
  intro p acc hp h1 ha hm
  refine ⟨acc,Ev.step (f:=fun _ => some acc) (fun k => ?_) (Ev.now _),hm,Nat.le_refl _,by omega⟩
  simp only [laws_wOpen.l0]
  rw [if_neg (by omega)]
 | succ q ih =>
  intro p acc hp h1 ha hm
  by_cases ho : Opn e n p
  ·obtain ⟨O,h,h2,h3,h4⟩:=ih (p + 1) (acc ++ [(p : Int)]) (by omega) (by omega) (by simp;omega) (fun x hx => by
    rcases List.mem_append.mp hx with hx | hx
    ·exact hm x hx
    ·rw [List.mem_singleton] at hx;exact ⟨p,hx,ho⟩)
   exact ⟨O,wOpen_step e i r d l n p acc h1 (by omega) hn (by omega) O (fun _ => h) (fun hno => absurd ho hno),h2,by rw [List.length_append] at h3;omega,h4⟩
  ·obtain ⟨O,h,h2,h3,h4⟩:=ih (p + 1) acc (by omega) (by omega) (by omega) hm
   exact ⟨O,wOpen_step e i r d l n p acc h1 (by omega) hn (by omega) O (fun h => absurd h ho) (fun _ => h),h2,h3,h4⟩
theorem wOpen_ev (e : Bool) (i : Int) (r : Bool) (d : Int) (l : List Int) {t : ByteArray} (hB : spec_Body.f e i r d l = some t) {n : Nat} (ht : t.size + 15 = n) (hn : n ≤ 200) :
  ∃ O,Ev (fun k => laws_wOpen.f k e i r d l) O ∧ (∀ x ∈ O, ∃ m : Nat,x = (m : Int) ∧ Opn e n m) ∧ 1 ≤ O.length ∧ O.length ≤ 200:=by
 have ho : Opn e n 1:=⟨by omega,by omega,by omega,by omega,fun _ => by omega,fun _ => by omega⟩
 obtain ⟨O,h,h2,h3,h4⟩:=wOpen_loop e i r d l n hn (n - 2) 2 [((1 : Nat) : Int)] (by omega) (by omega) (by simp) (fun x hx => by rw [List.mem_singleton] at hx;exact ⟨1,hx,ho⟩)
 refine ⟨O, ?_,h2,by simpa using h3,by omega⟩
 have hw : wrap64 ((t.size : Int) + 15) = (n : Int):=by rw [w64 (by omega) (by omega)];omega
 unfold laws_wOpen.f
 refine ev_some hB ?_
 rw [hw]
 exact wOpen_step e i r d l n 1 [] (by omega) (by omega) hn (by simp) O (fun _ => h) (fun hno => absurd ho hno)
end Go.Proofs.Ytdoclpgciadjaaa.P
