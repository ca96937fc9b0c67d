/- Texts of the proof of FnFiveFlips, joined. -/
import Derived.Test.YtdoclpgciadjaaaSFnFiveFlips24
import Derived.Test.YtdoclpgciadjaaaSFnFiveFlips23
import Derived.Test.YtdoclpgciadjaaaSFnFiveFlips21
namespace Go.Proofs.Ytdoclpgciadjaaa.P
open Go Go.RowKit Go.Proofs.YtdoclpgciadjaaaW.PrintWords
set_option linter.unusedVariables false
@[elab_as_elim] theorem revInd {Q : List Int → Prop} (nil : Q []) (snoc : ∀ l c,Q l → Q (l ++ [c])) : ∀ l,Q l:=by
 intro l
 rw [← List.reverse_reverse l]
 induction l.reverse with
 | nil => exact nil
 | cons c t ih => rw [List.reverse_cons];exact snoc _ _ ih
def V (l : List Int) : Int:=l.foldl (fun v c => 2 * v + (c - 48)) 0
theorem V_nil : V [] = 0:=rfl
theorem V_snoc (l : List Int) (c : Int) : V (l ++ [c]) = 2 * V l + (c - 48):=by unfold V;rw [List.foldl_append];rfl
theorem V_range {l : List Int} (h : Bits l) : 0 ≤ V l ∧ V l < 2 ^ l.length:=by
 induction l using revInd with
 | nil => exact ⟨by decide,by decide⟩
 | snoc l c ih =>
  obtain ⟨h1,h2⟩:=ih (fun x hx => h x (List.mem_append_left _ hx))
  have hc:=h c (by simp)
  rw [V_snoc,List.length_append,List.length_singleton,Int.pow_succ]
  constructor <;> rcases hc with rfl | rfl <;> omega
theorem V_lt {l : List Int} (h : Bits l) {n : Nat} (hn : l.length ≤ n) {m : Int} (hm : (2 : Int) ^ n = m) : V l < m:=by
 have h1:=(V_range h).2
 have h2 : (2 : Int) ^ l.length ≤ 2 ^ n:=by
  have:=Nat.pow_le_pow_right (show 0 < 2 by decide) hn
  exact_mod_cast this
 omega
def byteStep (st : List Int × Nat) (c : Int) : List Int × Nat:=(if st.2 % 8 = 0 then st.1 ++ [(c - 48) % 256] else st.1.set (st.1.length - 1) ((2 * rd st.1 ((st.1.length : Int) - 1) + (c - 48)) % 256),st.2 + 1)
def bytesB (l : List Int) : List Int:=(l.foldl byteStep ([],0)).1
theorem bytesB_count (l : List Int) : (l.foldl byteStep ([],0)).2 = l.length:=by
 induction l using revInd with
 | nil => rfl
 | snoc l c ih => rw [List.foldl_append,List.length_append,List.length_singleton, ← ih];rfl
theorem bytesB_snoc (l : List Int) (c : Int) : bytesB (l ++ [c]) = if l.length % 8 = 0 then bytesB l ++ [(c - 48) % 256] else (bytesB l).set ((bytesB l).length - 1) ((2 * rd (bytesB l) (((bytesB l).length : Int) - 1) + (c - 48)) % 256):=by
 have:=bytesB_count l
 unfold bytesB
 rw [List.foldl_append,List.foldl_cons,List.foldl_nil,byteStep,this]
theorem bytesB_length (l : List Int) : (bytesB l).length = (l.length + 7) / 8:=by
 induction l using revInd with
 | nil => rfl
 | snoc l c ih =>
  rw [bytesB_snoc,List.length_append,List.length_singleton]
  split
  ·rw [List.length_append,List.length_singleton,ih];omega
  ·rw [List.length_set,ih];omega
theorem bytesB_range (l : List Int) : ∀ x ∈ bytesB l,0 ≤ x ∧ x < 256:=by
 induction l using revInd with
 | nil => intro x hx;cases hx
 | snoc l c ih =>
  intro x hx
  rw [bytesB_snoc] at hx
  split at hx
  ·rcases List.mem_append.1 hx with h | h
   ·exact ih x h
   ·rw [List.mem_singleton] at h;omega
  ·rcases List.mem_or_eq_of_mem_set hx with h | h
   ·exact ih x h
   ·omega
def crcS (l : List Int) : Int:=l.foldl (fun r c => crcI r (c - 48)) 0
theorem crcS_snoc (l : List Int) (c : Int) : crcS (l ++ [c]) = crcI (crcS l) (c - 48):=by unfold crcS;rw [List.foldl_append];rfl
inductive Hd : List Int → Bool → Bool → Int → Prop
 | base (a r z : Int) (I : List Int) (h : I.length = 11) : Hd (a :: I ++ [r,48,z]) false (r == 49) (V I)
 | ext (a r q z y : Int) (I J : List Int) (h : I.length = 11) (k : J.length = 18) : Hd (a :: I ++ [r,49] ++ J ++ [q,z,y]) true (q == 49) (V (I ++ J))
def core (s : WS) : Int × Int × Int × Bool × Int × Bool × Int × List Int:=(s.field,s.left,s.got,s.ext,s.id,s.rtr,s.dlc,s.data)
inductive Ph : List Int → Int × Int × Int × Bool × Int × Bool × Int × List Int → Int → Prop
 | sof : Ph [] (1,1,0,false,0,false,0, []) 0
 | ida (a : Int) (I : List Int) (h : I.length < 11) : Ph (a :: I) (2,11 - I.length,0,false,V I,false,0, []) (crcS (a :: I))
 | rtr (a : Int) (I : List Int) (h : I.length = 11) : Ph (a :: I) (3,1,0,false,V I,false,0, []) (crcS (a :: I))
 | ide (a r : Int) (I : List Int) (h : I.length = 11) : Ph (a :: I ++ [r]) (4,1,0,false,V I,r == 49,0, []) (crcS (a :: I ++ [r]))
 | idb (a r : Int) (I J : List Int) (h : I.length = 11) (k : J.length < 18) : Ph (a :: I ++ [r,49] ++ J) (5,18 - J.length,0,true,V (I ++ J),r == 49,0, []) (crcS (a :: I ++ [r,49] ++ J))
 | rtrx (a r : Int) (I J : List Int) (h : I.length = 11) (k : J.length = 18) : Ph (a :: I ++ [r,49] ++ J) (6,1,0,true,V (I ++ J),r == 49,0, []) (crcS (a :: I ++ [r,49] ++ J))
 | resx (a r q : Int) (I J Z : List Int) (h : I.length = 11) (k : J.length = 18) (z : Z.length < 2) : Ph (a :: I ++ [r,49] ++ J ++ [q] ++ Z) (7,2 - Z.length,0,true,V (I ++ J),q == 49,0, []) (crcS (a :: I ++ [r,49] ++ J ++ [q] ++ Z))
 | resb (a r : Int) (I : List Int) (h : I.length = 11) : Ph (a :: I ++ [r,48]) (7,1,0,false,V I,r == 49,0, []) (crcS (a :: I ++ [r,48]))
 | dlc (H D : List Int) (e r : Bool) (i : Int) (h : Hd H e r i) (d : D.length < 4) : Ph (H ++ D) (8,4 - D.length,0,e,i,r,V D, []) (crcS (H ++ D))
 | data (H D X : List Int) (e r : Bool) (i : Int) (h : Hd H e r i) (d : D.length = 4) (x : (X.length : Int) < 8 * dataB r (V D)) : Ph (H ++ D ++ X) (9,8 * dataB r (V D) - X.length,0,e,i,r,V D,bytesB X) (crcS (H ++ D ++ X))
 | crc (H D X C : List Int) (e r : Bool) (i : Int) (h : Hd H e r i) (d : D.length = 4) (x : (X.length : Int) = 8 * dataB r (V D)) (c : C.length < 15) : Ph (H ++ D ++ X ++ C) (10,15 - C.length,V C,e,i,r,V D,bytesB X) (crcS (H ++ D ++ X))
 | del (H D X C T : List Int) (e r : Bool) (i : Int) (h : Hd H e r i) (d : D.length = 4) (x : (X.length : Int) = 8 * dataB r (V D)) (c : C.length = 15) (t : T.length < 3) : Ph (H ++ D ++ X ++ C ++ T) (11 + T.length,1,V C,e,i,r,V D,bytesB X) (crcS (H ++ D ++ X))
 | eof (H D X C T : List Int) (e r : Bool) (i : Int) (h : Hd H e r i) (d : D.length = 4) (x : (X.length : Int) = 8 * dataB r (V D)) (c : C.length = 15) (t3 : 3 ≤ T.length) (t : T.length < 10) : Ph (H ++ D ++ X ++ C ++ T) (14,10 - T.length,V C,e,i,r,V D,bytesB X) (crcS (H ++ D ++ X))
theorem dataB_range {r : Bool} {d : Int} (h : 0 ≤ d) : 0 ≤ dataB r d ∧ dataB r d ≤ 8:=by unfold dataB;split <;> (try split) <;> omega
structure CoreIs (s : WS) (f l g : Int) (e : Bool) (i : Int) (r : Bool) (d : Int) (x : List Int) (m : Int) : Prop where
 f : s.field = f
 l : s.left = l
 g : s.got = g
 e : s.ext = e
 i : s.id = i
 r : s.rtr = r
 d : s.dlc = d
 x : s.data = x
 m : s.sum = m
theorem CoreIs.core {s : WS} {f l g : Int} {e : Bool} {i : Int} {r : Bool} {d : Int} {x : List Int} {m : Int} (h : CoreIs s f l g e i r d x m) : core s = (f,l,g,e,i,r,d,x) ∧ s.sum = m:=by
 obtain ⟨rfl,rfl,rfl,rfl,rfl,rfl,rfl,rfl,rfl⟩:=h
 exact ⟨rfl,rfl⟩
theorem core_is {s : WS} {f l g : Int} {e : Bool} {i : Int} {r : Bool} {d : Int} {x : List Int} {m : Int} (h : core s = (f,l,g,e,i,r,d,x)) (hm : s.sum = m) : CoreIs s f l g e i r d x m:=by
 unfold P.core at h
 simp only [Prod.mk.injEq] at h
 obtain ⟨h1,h2,h3,h4,h5,h6,h7,h8⟩:=h
 exact ⟨h1,h2,h3,h4,h5,h6,h7,h8,hm⟩
theorem next_is {s : WS} {f l g : Int} {e : Bool} {i : Int} {r : Bool} {d : Int} {x : List Int} {m : Int} (h : CoreIs s f l g e i r d x m) {f' l' : Int} (hn : nextP s = (f',l')) : CoreIs (nextW s) f' l' g e i r d x m:=by
 rw [nextW_eq,hn]
 exact ⟨rfl,rfl,h.g,h.e,h.i,h.r,h.d,h.x,h.m⟩
theorem next_more {s : WS} {l : Int} (h : s.left = l) (hl : 1 < l) : nextP s = (s.field,l - 1):=by unfold nextP;rw [if_pos (by omega),h]
theorem next_over {s : WS} {f l : Int} (h : s.left = 1) (hf : s.field = f) (h4 : f ≠ 4 ∨ s.ext = true) (h9 : f + 1 ≠ 9 ∨ dataB s.rtr s.dlc ≠ 0) (hl : enterL s (f + 1) = l) : nextP s = (f + 1,l):=by
 unfold nextP enterP
 rw [if_neg (by omega),if_neg (by rintro ⟨a,b⟩;rcases h4 with h4 | h4;exact h4 (by omega);rw [b] at h4;cases h4),hf,if_neg (by rintro ⟨a,b⟩;rcases h9 with h9 | h9;exact h9 a;exact h9 b),hl]
end Go.Proofs.Ytdoclpgciadjaaa.P

namespace Go.Proofs.Ytdoclpgciadjaaa.P
open Go Go.RowKit Go.Proofs.YtdoclpgciadjaaaW.PrintWords
set_option linter.unusedVariables false
def tk (s : WS) (b : Int) : WS:=takeW (sumW s b) b
section
variable {s : WS} {f l g : Int} {e : Bool} {i : Int} {r : Bool} {d : Int} {x : List Int} {m : Int}
theorem CoreIs.of (h : CoreIs s f l g e i r d x m) {f' l' g' : Int} {e' : Bool} {i' : Int} {r' : Bool} {d' : Int} {x' : List Int} {m' : Int} (h1 : f = f') (h2 : l = l') (h3 : g = g') (h4 : e = e') (h5 : i = i') (h6 : r = r') (h7 : d = d') (h8 : x = x') (h9 : m = m') : CoreIs s f' l' g' e' i' r' d' x' m':=by
 subst h1 h2 h3 h4 h5 h6 h7 h8 h9;exact h
theorem sum_in (h : CoreIs s f l g e i r d x m) (hf : f ≤ 9) (b : Int) : sumW s b = { s with sum:=crcI s.sum b }:=by unfold sumW;rw [if_pos (by have:=h.f;omega)]
theorem sum_out (h : CoreIs s f l g e i r d x m) (hf : 9 < f) (b : Int) : sumW s b = s:=by unfold sumW;rw [if_neg (by have:=h.f;omega)]
theorem tk_sof (h : CoreIs s 1 l g e i r d x m) (b : Int) : CoreIs (tk s b) 1 l g e i r d x (crcI m b):=by
 have h0:=h.f
 have e1 : core (tk s b) = core s ∧ (tk s b).sum = crcI s.sum b:=by
  unfold tk takeW;rw [sum_in h (by omega),if_pos (show s.field = 1 from h0)]
  split <;> exact ⟨rfl,rfl⟩
 refine core_is (e1.1.trans h.core.1) (e1.2.trans (by rw [h.m]))
theorem tk_id (h : CoreIs s f l g e i r d x m) (hf : f = 2 ∨ f = 5) (b : Int) : CoreIs (tk s b) f l g e ((2 * i + b) % 4294967296) r d x (crcI m b):=by
 have h0:=h.f
 have e1 : tk s b = { s with sum:=crcI s.sum b,id:=(2 * s.id + b) % 4294967296 }:=by
  unfold tk takeW;rw [sum_in h (by omega),if_neg (show ¬ s.field = 1 by omega),if_pos (show s.field = 2 ∨ s.field = 5 by omega)]
 rw [e1]
 exact ⟨h.f,h.l,h.g,h.e,by simp only [h.i],h.r,h.d,h.x,by simp only [h.m]⟩
theorem tk_rtr (h : CoreIs s f l g e i r d x m) (hf : f = 3 ∨ f = 6) (b : Int) : CoreIs (tk s b) f l g e i (b == 1) d x (crcI m b):=by
 have h0:=h.f
 have e1 : tk s b = { s with sum:=crcI s.sum b,rtr:=b == 1 }:=by
  unfold tk takeW;rw [sum_in h (by omega),if_neg (show ¬ s.field = 1 by omega),if_neg (show ¬ (s.field = 2 ∨ s.field = 5) by omega),if_pos (show s.field = 3 ∨ s.field = 6 by omega)]
 rw [e1]
 exact ⟨h.f,h.l,h.g,h.e,h.i,rfl,h.d,h.x,by simp only [h.m]⟩
theorem tk_ide (h : CoreIs s 4 l g e i r d x m) (b : Int) : CoreIs (tk s b) 4 l g (b == 1) i r d x (crcI m b):=by
 have h0:=h.f
 have e1 : tk s b = { s with sum:=crcI s.sum b,ext:=b == 1 }:=by
  unfold tk takeW;rw [sum_in h (by omega),if_neg (show ¬ s.field = 1 by omega),if_neg (show ¬ (s.field = 2 ∨ s.field = 5) by omega),if_neg (show ¬ (s.field = 3 ∨ s.field = 6) by omega),if_pos (show s.field = 4 from h0)]
 rw [e1]
 exact ⟨h.f,h.l,h.g,rfl,h.i,h.r,h.d,h.x,by simp only [h.m]⟩
theorem tk_res (h : CoreIs s 7 l g e i r d x m) (b : Int) : CoreIs (tk s b) 7 l g e i r d x (crcI m b):=by
 have h0:=h.f
 have e1 : tk s b = { s with sum:=crcI s.sum b }:=by
  unfold tk takeW;rw [sum_in h (by omega),if_neg (show ¬ s.field = 1 by omega),if_neg (show ¬ (s.field = 2 ∨ s.field = 5) by omega),if_neg (show ¬ (s.field = 3 ∨ s.field = 6) by omega),if_neg (show ¬ s.field = 4 by omega),if_neg (show ¬ s.field = 8 by omega),if_neg (show ¬ s.field = 9 by omega),if_neg (show ¬ s.field = 10 by omega),if_neg (show ¬ s.field = 11 by omega),if_neg (show ¬ s.field = 13 by omega),if_neg (show ¬ s.field = 14 by omega)]
 rw [e1]
 exact ⟨h.f,h.l,h.g,h.e,h.i,h.r,h.d,h.x,by simp only [h.m]⟩
theorem tk_dlc (h : CoreIs s 8 l g e i r d x m) (b : Int) : CoreIs (tk s b) 8 l g e i r (2 * d + b) x (crcI m b):=by
 have h0:=h.f
 have e1 : tk s b = { s with sum:=crcI s.sum b,dlc:=2 * s.dlc + b }:=by
  unfold tk takeW;rw [sum_in h (by omega),if_neg (show ¬ s.field = 1 by omega),if_neg (show ¬ (s.field = 2 ∨ s.field = 5) by omega),if_neg (show ¬ (s.field = 3 ∨ s.field = 6) by omega),if_neg (show ¬ s.field = 4 by omega),if_pos (show s.field = 8 from h0)]
 rw [e1]
 exact ⟨h.f,h.l,h.g,h.e,h.i,h.r,by simp only [h.d],h.x,by simp only [h.m]⟩
theorem tk_data (h : CoreIs s 9 l g e i r d x m) (b : Int) : CoreIs (tk s b) 9 l g e i r d (dataW s b) (crcI m b):=by
 have h0:=h.f
 have e1 : tk s b = { s with sum:=crcI s.sum b,data:=dataW s b }:=by
  unfold tk;rw [sum_in h (by omega),takeW9 ({ s with sum:=crcI s.sum b }) b h0];rfl
 rw [e1]
 exact ⟨h.f,h.l,h.g,h.e,h.i,h.r,h.d,rfl,by simp only [h.m]⟩
theorem tk_got (h : CoreIs s 10 l g e i r d x m) (b : Int) : CoreIs (tk s b) 10 l (2 * g + b) e i r d x m:=by
 have h0:=h.f
 have e1 : tk s b = { s with got:=2 * s.got + b }:=by
  unfold tk takeW;rw [sum_out h (by omega),if_neg (show ¬ s.field = 1 by omega),if_neg (show ¬ (s.field = 2 ∨ s.field = 5) by omega),if_neg (show ¬ (s.field = 3 ∨ s.field = 6) by omega),if_neg (show ¬ s.field = 4 by omega),if_neg (show ¬ s.field = 8 by omega),if_neg (show ¬ s.field = 9 by omega),if_pos (show s.field = 10 from h0)]
 rw [e1]
 exact ⟨h.f,h.l,by simp only [h.g],h.e,h.i,h.r,h.d,h.x,h.m⟩
theorem endW_core (s : WS) (b : Int) : core (endW s b) = core s ∧ (endW s b).sum = s.sum:=by unfold endW;(repeat' split) <;> exact ⟨rfl,rfl⟩
theorem tk_late (h : CoreIs s f l g e i r d x m) (hf : 11 ≤ f) (b : Int) : CoreIs (tk s b) f l g e i r d x m:=by
 have h0:=h.f
 have e1 : core (tk s b) = core s ∧ (tk s b).sum = s.sum:=by
  unfold tk takeW;rw [sum_out h (by omega),if_neg (show ¬ s.field = 1 by omega),if_neg (show ¬ (s.field = 2 ∨ s.field = 5) by omega),if_neg (show ¬ (s.field = 3 ∨ s.field = 6) by omega),if_neg (show ¬ s.field = 4 by omega),if_neg (show ¬ s.field = 8 by omega),if_neg (show ¬ s.field = 9 by omega),if_neg (show ¬ s.field = 10 by omega)]
  have:=endW_core s b
  (repeat' split) <;> first | exact ⟨rfl,rfl⟩ | exact this
 exact core_is (e1.1.trans h.core.1) (e1.2.trans h.m)
end
theorem bits_len {p : List Int} (h : Bits p) (q : List Int) (hq : ∀ x ∈ q,x ∈ p) : Bits q:=fun x hx => h x (hq x hx)
theorem dataW_eq {s : WS} {X : List Int} {n : Int} (b : Int) (hx : s.data = bytesB X) (hl : s.left = 8 * n - X.length) (hb : b = 48 ∨ b = 49) : dataW s (b - 48) = bytesB (X ++ [b]):=by
 have hlen:=bytesB_length X
 unfold dataW
 rw [bytesB_snoc,hx]
 by_cases c : X.length % 8 = 0
 ·rw [if_pos c,if_pos (by omega)]
  have hl2 : (bytesB X ++ [(0 : Int)]).length - 1 = (bytesB X).length:=by simp
  have hr : rd (bytesB X ++ [(0 : Int)]) (((bytesB X ++ [(0 : Int)]).length : Int) - 1) = 0:=by
   rw [List.length_append,List.length_singleton,show (((bytesB X).length + 1 : Nat) : Int) - 1 = ((bytesB X).length : Int) by omega,rd_snoc,if_neg (by omega),if_pos rfl]
  simp only [hl2,hr]
  rw [List.set_append_right _ _ (Nat.le_refl _),Nat.sub_self]
  simp
 ·rw [if_neg c,if_neg (by omega)]
theorem ph_step {p : List Int} {c : Int × Int × Int × Bool × Int × Bool × Int × List Int} {m : Int} (h : Ph p c m) (s : WS) (hs : core s = c) (hm : s.sum = m) (b : Int) (hb : b = 48 ∨ b = 49) (hp : Bits p) (hend : ¬ (s.field = 14 ∧ s.left = 1)) :
  ∃ c' m',Ph (p ++ [b]) c' m' ∧ core (plainW s (b - 48)) = c' ∧ (plainW s (b - 48)).sum = m':=by
 have fin : ∀ {q : List Int} {f l g : Int} {e : Bool} {i : Int} {r : Bool} {d : Int} {x : List Int} {m' : Int},p ++ [b] = q → Ph q (f,l,g,e,i,r,d,x) m' → CoreIs (plainW s (b - 48)) f l g e i r d x m' → ∃ c' m',Ph (p ++ [b]) c' m' ∧ core (plainW s (b - 48)) = c' ∧ (plainW s (b - 48)).sum = m':=by
  intro q f l g e i r d x m' hq hP hC
  exact ⟨_,_,hq ▸ hP,hC.core.1,hC.core.2⟩
 have b1 : ((b - 48 : Int) == 1) = (b == 49):=by rcases hb with rfl | rfl <;> rfl
 have hpl : plainW s (b - 48) = nextW (tk s (b - 48)):=rfl
 rw [hpl] at fin ⊢
 cases h with
 | sof =>
  have C:=core_is hs hm
  have T:=tk_sof C (b - 48)
  exact fin rfl (Ph.ida b [] (by decide)) ((next_is T (next_over T.l T.f (.inl (by omega)) (.inl (by omega)) rfl)).of rfl rfl rfl rfl rfl rfl rfl rfl (by rw [show [b] = [] ++ [b] from rfl,crcS_snoc];rfl))
 | ida a I h =>
  have C:=core_is hs hm
  have T:=tk_id C (.inl rfl) (b - 48)
  have hI:=V_lt (bits_len hp I (fun x hx => List.mem_cons_of_mem _ hx)) (n:=20) (by omega) rfl
  have hI0:=(V_range (bits_len hp I (fun x hx => List.mem_cons_of_mem _ hx))).1
  have hv : (2 * V I + (b - 48)) % 4294967296 = V (I ++ [b]):=by rw [V_snoc];omega
  by_cases c : I.length = 10
  ·exact fin rfl (Ph.rtr a (I ++ [b]) (by simp;omega)) ((next_is T (next_over (by rw [T.l];omega) T.f (.inl (by omega)) (.inl (by omega)) rfl)).of rfl rfl rfl rfl hv rfl rfl rfl (crcS_snoc _ _).symm)
  ·exact fin rfl (Ph.ida a (I ++ [b]) (by simp;omega)) ((next_is T (next_more T.l (by omega))).of T.f (by simp;omega) rfl rfl hv rfl rfl rfl (crcS_snoc _ _).symm)
 | rtr a I h =>
  have C:=core_is hs hm
  have T:=tk_rtr C (.inl rfl) (b - 48)
  exact fin rfl (Ph.ide a b I h) ((next_is T (next_over T.l T.f (.inl (by omega)) (.inl (by omega)) rfl)).of rfl rfl rfl rfl rfl b1 rfl rfl (crcS_snoc _ _).symm)
 | ide a r I h =>
  have C:=core_is hs hm
  have T:=tk_ide C (b - 48)
  rcases hb with rfl | rfl
  ·refine fin (q:=a :: I ++ [r,48]) (by simp) (Ph.resb a r I h) ((next_is (f':=7) (l':=1) T ?_).of rfl rfl rfl rfl rfl rfl rfl rfl (by rw [← crcS_snoc];simp))
   unfold nextP enterP
   rw [if_neg (by rw [T.l];omega),if_pos ⟨T.f,T.e⟩,if_neg (fun h => by have:=h.1;omega)]
   unfold enterL
   rw [T.e];rfl
  ·exact fin (q:=a :: I ++ [r,49] ++ []) (by simp) (Ph.idb a r I [] h (by decide)) ((next_is T (next_over T.l T.f (.inr T.e) (.inl (by omega)) rfl)).of rfl rfl rfl rfl (by simp) rfl rfl rfl (by rw [← crcS_snoc];simp))
 | idb a r I J h k =>
  have C:=core_is hs hm
  have T:=tk_id C (.inr rfl) (b - 48)
  have hbij : Bits (I ++ J):=bits_len hp _ (fun x hx => by rcases List.mem_append.1 hx with h2 | h2 <;> simp [h2])
  have hI:=V_lt hbij (n:=29) (by simp;omega) rfl
  have hI0:=(V_range hbij).1
  have hv : (2 * V (I ++ J) + (b - 48)) % 4294967296 = V (I ++ (J ++ [b])):=by rw [← List.append_assoc,V_snoc];omega
  have hcr : crcI (crcS (a :: I ++ [r,49] ++ J)) (b - 48) = crcS (a :: I ++ [r,49] ++ (J ++ [b])):=by rw [← crcS_snoc];simp
  by_cases c : J.length = 17
  ·exact fin (q:=a :: I ++ [r,49] ++ (J ++ [b])) (by simp) (Ph.rtrx a r I (J ++ [b]) h (by simp;omega)) ((next_is T (next_over (by rw [T.l];omega) T.f (.inl (by omega)) (.inl (by omega)) rfl)).of rfl rfl rfl rfl hv rfl rfl rfl hcr)
  ·exact fin (q:=a :: I ++ [r,49] ++ (J ++ [b])) (by simp) (Ph.idb a r I (J ++ [b]) h (by simp;omega)) ((next_is T (next_more T.l (by omega))).of T.f (by simp;omega) rfl rfl hv rfl rfl rfl hcr)
 | rtrx a r I J h k =>
  have C:=core_is hs hm
  have T:=tk_rtr C (.inr rfl) (b - 48)
  refine fin (q:=a :: I ++ [r,49] ++ J ++ [b] ++ []) (by simp) (Ph.resx a r b I J [] h k (by decide)) ((next_is (f':=7) (l':=2) T ?_).of rfl rfl rfl rfl rfl b1 rfl rfl (by rw [← crcS_snoc];simp))
  refine next_over (f:=6) T.l T.f (.inl (by omega)) (.inl (by omega)) ?_
  show enterL _ 7 = 2
  unfold enterL
  rw [T.e];rfl
 | resx a r q I J Z h k z =>
  have C:=core_is hs hm
  have T:=tk_res C (b - 48)
  by_cases c : Z.length = 0
  ·obtain rfl:=List.eq_nil_of_length_eq_zero c
   exact fin (q:=a :: I ++ [r,49] ++ J ++ [q] ++ [b]) (by simp) (Ph.resx a r q I J [b] h k (by simp)) ((next_is T (next_more T.l (by simp))).of T.f (by simp) rfl rfl rfl rfl rfl rfl (by rw [← crcS_snoc];simp))
  ·obtain ⟨z0,rfl⟩ : ∃ z0,Z = [z0]:=List.length_eq_one_iff.1 (by omega)
   exact fin (q:=(a :: I ++ [r,49] ++ J ++ [q,z0,b]) ++ []) (by simp) (Ph.dlc _ [] true (q == 49) _ (Hd.ext a r q z0 b I J h k) (by decide)) ((next_is T (next_over (by rw [T.l];rfl) T.f (.inl (by omega)) (.inl (by omega)) rfl)).of rfl rfl rfl rfl rfl rfl rfl rfl (by rw [← crcS_snoc];simp))
 | resb a r I h =>
  have C:=core_is hs hm
  have T:=tk_res C (b - 48)
  exact fin (q:=(a :: I ++ [r,48,b]) ++ []) (by simp) (Ph.dlc _ [] false (r == 49) _ (Hd.base a r b I h) (by decide)) ((next_is T (next_over T.l T.f (.inl (by omega)) (.inl (by omega)) rfl)).of rfl rfl rfl rfl rfl rfl rfl rfl (by rw [← crcS_snoc];simp))
 | dlc H D e r i h d =>
  have C:=core_is hs hm
  have T:=tk_dlc C (b - 48)
  have hv : 2 * V D + (b - 48) = V (D ++ [b]):=(V_snoc _ _).symm
  have hcr : crcI (crcS (H ++ D)) (b - 48) = crcS (H ++ (D ++ [b])):=by rw [← crcS_snoc];simp
  have hd0 : 0 ≤ V (D ++ [b]):=(V_range (l:=D ++ [b]) (fun x hx => by rcases List.mem_append.1 hx with h2 | h2;exact hp x (List.mem_append_right _ h2);rw [List.mem_singleton] at h2;rw [h2];exact hb)).1
  by_cases c : D.length = 3
  ·have hd4 : (D ++ [b]).length = 4:=by simp;omega
   by_cases cz : dataB r (V (D ++ [b])) = 0
   ·refine fin (q:=H ++ (D ++ [b]) ++ [] ++ []) (by simp) (Ph.crc H (D ++ [b]) [] [] e r i h hd4 (by rw [cz];rfl) (by decide)) ((next_is (f':=10) (l':=15) T ?_).of rfl rfl rfl rfl rfl rfl hv rfl (by rw [hcr];simp))
    unfold nextP enterP
    rw [if_neg (by rw [T.l];omega),if_neg (by rw [T.f];omega),if_pos ⟨by rw [T.f];rfl,by rw [T.r,T.d,hv];exact cz⟩]
   ·have hr:=dataB_range (r:=r) hd0
    refine fin (q:=H ++ (D ++ [b]) ++ []) (by simp) (Ph.data H (D ++ [b]) [] e r i h hd4 (by simp;omega)) ((next_is (f':=9) (l':=8 * dataB r (V (D ++ [b]))) T ?_).of rfl (by simp) rfl rfl rfl rfl hv rfl (by rw [hcr];simp))
    refine next_over (f:=8) (by rw [T.l];omega) T.f (.inl (by omega)) (.inr (by rw [T.r,T.d,hv];exact cz)) ?_
    show enterL _ 9 = _
    unfold enterL
    rw [T.r,T.d,hv];rfl
  ·exact fin (q:=H ++ (D ++ [b])) (by simp) (Ph.dlc H (D ++ [b]) e r i h (by simp;omega)) ((next_is T (next_more T.l (by omega))).of T.f (by simp;omega) rfl rfl rfl rfl hv rfl hcr)
 | data H D X e r i h d x =>
  have C:=core_is hs hm
  have T:=tk_data C (b - 48)
  have hx:=dataW_eq (s:=s) (n:=dataB r (V D)) b C.x C.l hb
  have hcr : crcI (crcS (H ++ D ++ X)) (b - 48) = crcS (H ++ D ++ (X ++ [b])):=by rw [← crcS_snoc];simp
  by_cases c : (X.length : Int) + 1 = 8 * dataB r (V D)
  ·exact fin (q:=H ++ D ++ (X ++ [b]) ++ []) (by simp) (Ph.crc H D (X ++ [b]) [] e r i h d (by simp;omega) (by decide)) ((next_is T (next_over (by rw [T.l];omega) T.f (.inl (by omega)) (.inl (by omega)) rfl)).of rfl rfl rfl rfl rfl rfl rfl hx hcr)
  ·exact fin (q:=H ++ D ++ (X ++ [b])) (by simp) (Ph.data H D (X ++ [b]) e r i h d (by simp;omega)) ((next_is T (next_more T.l (by omega))).of T.f (by simp;omega) rfl rfl rfl rfl rfl hx hcr)
 | crc H D X C0 e r i h d x c =>
  have C:=core_is hs hm
  have T:=tk_got C (b - 48)
  have hv : 2 * V C0 + (b - 48) = V (C0 ++ [b]):=(V_snoc _ _).symm
  by_cases cc : C0.length = 14
  ·exact fin (q:=H ++ D ++ X ++ (C0 ++ [b]) ++ []) (by simp) (Ph.del H D X (C0 ++ [b]) [] e r i h d x (by simp;omega) (by decide)) ((next_is T (next_over (by rw [T.l];omega) T.f (.inl (by omega)) (.inl (by omega)) rfl)).of rfl rfl hv rfl rfl rfl rfl rfl rfl)
  ·exact fin (q:=H ++ D ++ X ++ (C0 ++ [b])) (by simp) (Ph.crc H D X (C0 ++ [b]) e r i h d x (by simp;omega)) ((next_is T (next_more T.l (by omega))).of T.f (by simp;omega) hv rfl rfl rfl rfl rfl rfl)
 | del H D X C0 T0 e r i h d x c t =>
  have C:=core_is hs hm
  have T:=tk_late C (by omega) (b - 48)
  by_cases cc : T0.length = 2
  ·refine fin (q:=H ++ D ++ X ++ C0 ++ (T0 ++ [b])) (by simp) (Ph.eof H D X C0 (T0 ++ [b]) e r i h d x c (by simp;omega) (by simp;omega)) ((next_is (f':=14) (l':=7) T ?_).of rfl (by simp;omega) rfl rfl rfl rfl rfl rfl rfl)
   refine (next_over (f:=13) T.l (by rw [T.f];omega) (.inl (by omega)) (.inl (by omega)) ?_)
   rfl
  ·refine fin (q:=H ++ D ++ X ++ C0 ++ (T0 ++ [b])) (by simp) (Ph.del H D X C0 (T0 ++ [b]) e r i h d x c (by simp;omega)) ((next_is (f':=11 + T0.length + 1) (l':=1) T ?_).of (by simp;omega) rfl rfl rfl rfl rfl rfl rfl rfl)
   refine (next_over (f:=11 + T0.length) T.l T.f (.inl (by omega)) (.inl (by omega)) ?_)
   unfold enterL
   rw [if_neg (by omega),if_neg (by omega),if_neg (by omega),if_neg (by omega),if_neg (by omega),if_neg (by omega),if_neg (by omega)]
 | eof H D X C0 T0 e r i h d x c t3 t =>
  have C:=core_is hs hm
  have T:=tk_late C (by omega) (b - 48)
  have hl:=C.l
  have hf:=C.f
  exact fin (q:=H ++ D ++ X ++ C0 ++ (T0 ++ [b])) (by simp) (Ph.eof H D X C0 (T0 ++ [b]) e r i h d x c (by simp;omega) (by simp;omega)) ((next_is T (next_more T.l (by omega))).of T.f (by simp;omega) rfl rfl rfl rfl rfl rfl rfl)
end Go.Proofs.Ytdoclpgciadjaaa.P

namespace Go.Proofs.Ytdoclpgciadjaaa.P
open Go Go.RowKit Go.Proofs.YtdoclpgciadjaaaW.PrintWords
set_option linter.unusedVariables false
structure Trail (l : List Int) (n run : Nat) (last : Int) : Prop where
 le : n ≤ l.length
 run_le : run ≤ n
 same : ∀ j,n - run ≤ j → j < n → rd l (j : Int) = last
 other : run < n → rd l ((n - run - 1 : Nat) : Int) ≠ last
 pos : 0 < n → 0 < run
theorem Trail.zero (l : List Int) (last : Int) : Trail l 0 0 last:=⟨Nat.zero_le _,Nat.le_refl _,fun j _ h => absurd h (Nat.not_lt_zero j),fun h => absurd h (Nat.lt_irrefl _),fun h => absurd h (Nat.lt_irrefl _)⟩
theorem Trail.next {l : List Int} {n run : Nat} {last : Int} (h : Trail l n run last) (hn : n < l.length) : Trail l (n + 1) (if rd l (n : Int) = last then run + 1 else 1) (rd l (n : Int)):=by
 have hr:=h.run_le
 by_cases c : rd l (n : Int) = last
 ·rw [if_pos c]
  refine ⟨by omega,by omega,fun j h1 h2 => ?_,fun h1 => ?_,fun _ => by omega⟩
  ·by_cases e : j = n
   ·rw [e]
   ·rw [h.same j (by omega) (by omega),c]
  ·rw [show n + 1 - (run + 1) - 1 = n - run - 1 by omega,c]
   exact h.other (by omega)
 ·rw [if_neg c]
  refine ⟨by omega,by omega,fun j h1 h2 => ?_,fun h1 => ?_,fun _ => by omega⟩
  ·rw [show j = n by omega]
  ·rw [show n + 1 - 1 - 1 = n - 1 by omega]
   have hp:=h.pos (by omega)
   rw [h.same (n - 1) (by omega) (by omega)]
   exact fun e => c e.symm
theorem rd_append (l m : List Int) (j : Nat) (h : j < l.length) : rd (l ++ m) (j : Int) = rd l (j : Int):=by
 unfold rd
 rw [Int.toNat_natCast,List.getD_eq_getElem?_getD,List.getD_eq_getElem?_getD,List.getElem?_append_left h]
theorem rd_last (l : List Int) (c : Int) : rd (l ++ [c]) (l.length : Int) = c:=by
 rw [rd_snoc,if_neg (Nat.lt_irrefl _),if_pos rfl]
theorem Trail.append {l : List Int} {n run : Nat} {last : Int} (h : Trail l n run last) (m : List Int) : Trail (l ++ m) n run last:=by
 have:=h.le
 refine ⟨by rw [List.length_append];omega,h.run_le,fun j h1 h2 => ?_,fun h1 => ?_,h.pos⟩
 ·rw [rd_append l m j (by omega)];exact h.same j h1 h2
 ·rw [rd_append l m _ (by omega)];exact h.other h1
theorem Trail.snoc {l : List Int} {run : Nat} {last : Int} (h : Trail l l.length run last) (c : Int) : Trail (l ++ [c]) (l.length + 1) (if c = last then run + 1 else 1) c:=by
 have h1:=(h.append [c]).next (by simp)
 rw [rd_last] at h1
 exact h1
theorem Trail.five {l : List Int} {n run : Nat} {last : Int} (h : Trail l n run last) (h5 : run ≤ 5) (hn : 5 ≤ n) :
  (run = 5 ↔ (rd l ((n - 1 : Nat) : Int) = rd l ((n - 2 : Nat) : Int) ∧ rd l ((n - 2 : Nat) : Int) = rd l ((n - 3 : Nat) : Int) ∧ rd l ((n - 3 : Nat) : Int) = rd l ((n - 4 : Nat) : Int) ∧ rd l ((n - 4 : Nat) : Int) = rd l ((n - 5 : Nat) : Int))):=by
 have hp:=h.pos (by omega)
 have e1:=h.same (n - 1) (by omega) (by omega)
 constructor
 ·intro e
  subst e
  have e2:=h.same (n - 2) (by omega) (by omega)
  have e3:=h.same (n - 3) (by omega) (by omega)
  have e4:=h.same (n - 4) (by omega) (by omega)
  have e5:=h.same (n - 5) (by omega) (by omega)
  rw [e1,e2,e3,e4,e5]
  exact ⟨rfl,rfl,rfl,rfl⟩
 ·rintro ⟨a1,a2,a3,a4⟩
  rcases Nat.lt_or_ge run 5 with hlt | hge
  ·exfalso
   have ho:=h.other (by omega)
   have hc : run = 1 ∨ run = 2 ∨ run = 3 ∨ run = 4:=by omega
   rcases hc with rfl | rfl | rfl | rfl
   ·exact ho (by rw [show n - 1 - 1 = n - 2 by omega, ← a1,e1])
   ·exact ho (by rw [show n - 2 - 1 = n - 3 by omega, ← a2, ← a1,e1])
   ·exact ho (by rw [show n - 3 - 1 = n - 4 by omega, ← a3, ← a2, ← a1,e1])
   ·exact ho (by rw [show n - 4 - 1 = n - 5 by omega, ← a4, ← a3, ← a2, ← a1,e1])
  ·omega
end Go.Proofs.Ytdoclpgciadjaaa.P

namespace Go.Proofs.Ytdoclpgciadjaaa.P
open Go.RowKit Go.Proofs.YtdoclpgciadjaaaW.PrintWords Go.Proofs.YtdoclpgciadjaaaW.PrintLast Go.Proofs.YtdoclpgciadjaaaW.PrintMore
set_option linter.unusedVariables false
set_option linter.unusedSimpArgs false
def spec_l1due.f (l0 : List Int) (a1 : Int) : Option (Bool):=if a1 < 5 then (some false) else (if 0 ≤ (wrap64 (a1 - 1)) then (if (wrap64 (a1 - 1)) < (l0.length : Int) then (if 0 ≤ (wrap64 (a1 - 2)) then (if (wrap64 (a1 - 2)) < (l0.length : Int) then (if (rd l0 (wrap64 (a1 - 1))) = (rd l0 (wrap64 (a1 - 2))) then (if 0 ≤ (wrap64 (a1 - 3)) then (if (wrap64 (a1 - 3)) < (l0.length : Int) then (if (rd l0 (wrap64 (a1 - 2))) = (rd l0 (wrap64 (a1 - 3))) then (if 0 ≤ (wrap64 (a1 - 4)) then (if (wrap64 (a1 - 4)) < (l0.length : Int) then (if (rd l0 (wrap64 (a1 - 3))) = (rd l0 (wrap64 (a1 - 4))) then (if 0 ≤ (wrap64 (a1 - 5)) then (if (wrap64 (a1 - 5)) < (l0.length : Int) then (some ((rd l0 (wrap64 (a1 - 4))) == (rd l0 (wrap64 (a1 - 5))))) else (none)) else (none)) else (some false)) else (none)) else (none)) else (some false)) else (none)) else (none)) else (some false)) else (none)) else (none)) else (none)) else (none))
end Go.Proofs.Ytdoclpgciadjaaa.P

namespace Go.Proofs.Ytdoclpgciadjaaa.P
open Go Go.RowKit Go.Proofs.YtdoclpgciadjaaaW.PrintWords
set_option linter.unusedVariables false
theorem due_eq {l : List Int} {n run : Nat} {last : Int} (h : Trail l n run last) (h5 : run ≤ 5) (hn : n < 100000000) : spec_l1due.f l (n : Int) = some (decide (run = 5)):=by
 have hle:=h.le
 have hr:=h.run_le
 unfold spec_l1due.f
 by_cases c : n < 5
 ·rw [if_pos (by omega),decide_eq_false (by omega)]
 ·have hf:=h.five h5 (by omega)
  have w1 : wrap64 ((n : Int) - 1) = ((n - 1 : Nat) : Int):=by unfold wrap64;omega
  have w2 : wrap64 ((n : Int) - 2) = ((n - 2 : Nat) : Int):=by unfold wrap64;omega
  have w3 : wrap64 ((n : Int) - 3) = ((n - 3 : Nat) : Int):=by unfold wrap64;omega
  have w4 : wrap64 ((n : Int) - 4) = ((n - 4 : Nat) : Int):=by unfold wrap64;omega
  have w5 : wrap64 ((n : Int) - 5) = ((n - 5 : Nat) : Int):=by unfold wrap64;omega
  rw [if_neg (by omega),w1,w2,w3,w4,w5,if_pos (by omega),if_pos (by omega),if_pos (by omega),if_pos (by omega)]
  by_cases a1 : rd l ((n - 1 : Nat) : Int) = rd l ((n - 2 : Nat) : Int)
  ·rw [if_pos a1,if_pos (by omega),if_pos (by omega)]
   by_cases a2 : rd l ((n - 2 : Nat) : Int) = rd l ((n - 3 : Nat) : Int)
   ·rw [if_pos a2,if_pos (by omega),if_pos (by omega)]
    by_cases a3 : rd l ((n - 3 : Nat) : Int) = rd l ((n - 4 : Nat) : Int)
    ·rw [if_pos a3,if_pos (by omega),if_pos (by omega)]
     by_cases a4 : rd l ((n - 4 : Nat) : Int) = rd l ((n - 5 : Nat) : Int)
     ·rw [decide_eq_true (hf.2 ⟨a1,a2,a3,a4⟩),a4];simp
     ·rw [decide_eq_false (fun e => a4 (hf.1 e).2.2.2)];simp [a4]
    ·rw [if_neg a3,decide_eq_false (fun e => a3 (hf.1 e).2.2.1)]
   ·rw [if_neg a2,decide_eq_false (fun e => a2 (hf.1 e).2.1)]
  ·rw [if_neg a1,decide_eq_false (fun e => a1 (hf.1 e).1)]
end Go.Proofs.Ytdoclpgciadjaaa.P

namespace Go.Proofs.Ytdoclpgciadjaaa.P
open Go.RowKit Go.Proofs.YtdoclpgciadjaaaW.PrintWords Go.Proofs.YtdoclpgciadjaaaW.PrintLast Go.Proofs.YtdoclpgciadjaaaW.PrintMore
set_option linter.unusedVariables false
set_option linter.unusedSimpArgs false
def spec_l1okBits.l0 : Nat → ByteArray → Int → Option (Bool)
 | 0,_,_ => none
 | k + 1,x0,x5 => if x5 < (x0.size : Int) then (if 0 ≤ x5 then (if (bt x0 x5) = 48 then (spec_l1okBits.l0 k x0 (wrap64 (x5 + 1))) else (if (bt x0 x5) = 49 then (spec_l1okBits.l0 k x0 (wrap64 (x5 + 1))) else (some false))) else (none)) else (some true)
def spec_l1okBits.f (k : Nat) (a0 : ByteArray) (a1 : Int) : Option (Bool):=if (a0.size : Int) > a1 then (some false) else (spec_l1okBits.l0 k a0 0)
end Go.Proofs.Ytdoclpgciadjaaa.P

namespace Go.Proofs.Ytdoclpgciadjaaa.P
open Go Go.RowKit Go.Proofs.YtdoclpgciadjaaaW.PrintWords
set_option linter.unusedVariables false
theorem bt_eq (s : ByteArray) (i : Nat) (h : i < s.size) : bt s (i : Int) = ((s[i]'h).toNat : Int):=by
 unfold bt;rw [dif_pos (show (i : Int).toNat < s.size from h)];rfl
theorem bytesOf_get (s : ByteArray) (i : Nat) (h : i < (bytesOf s).length) : (bytesOf s)[i]'h = bt s (i : Int):=by
 have hs : i < s.size:=by rw [bytesOf_length] at h;exact h
 have h2 : (bytesOf s)[i]? = some (bt s (i : Int)):=by
  unfold bytesOf
  rw [List.getElem?_map,Array.getElem?_toList,Array.getElem?_eq_getElem (show i < s.data.size from hs),bt_eq s i hs]
  rfl
 rw [List.getElem?_eq_getElem h] at h2
 exact Option.some.inj h2
theorem okBits_ev (s : ByteArray) (lim : Nat) (hlim : lim < 100000000) :
  Ev (fun k => spec_l1okBits.f k s (lim : Int)) (decide (s.size ≤ lim) && isBits s):=by
 have loop : s.size ≤ lim → ∀ (d i : Nat),i + d = s.size → BitsTo s i → Ev (fun k => spec_l1okBits.l0 k s (i : Int)) (isBits s):=by
  intro hl d
  induction d with
  | zero =>
   intro i hi hb
   refine Ev.step (f:=fun _ => some (isBits s)) (fun k => ?_) (Ev.now _)
   simp only [spec_l1okBits.l0]
   rw [if_neg (by omega),isBits_of s hb (by omega)]
  | succ d ih =>
   intro i hi hb
   have hp : i < s.size:=by omega
   cases hbit : isBit (s[i]'hp) with
   | true =>
    refine Ev.step (f:=fun k => spec_l1okBits.l0 k s ((i + 1 : Nat) : Int)) (fun k => ?_) (ih (i + 1) (by omega) (bitsTo_succ hb hp hbit))
    simp only [spec_l1okBits.l0]
    rw [if_pos (by omega),if_pos (by omega),bt_eq s i hp,w64 (by omega) (by omega)]
    rcases isBit_cases hbit with e | e <;> rw [e]
    ·rw [if_pos (by decide)];rfl
    ·rw [if_neg (by decide),if_pos (by decide)];rfl
   | false =>
    refine Ev.step (f:=fun _ => some (isBits s)) (fun k => ?_) (Ev.now _)
    simp only [spec_l1okBits.l0]
    obtain ⟨h1,h2⟩:=not_bit hbit
    rw [if_pos (by omega),if_pos (by omega),bt_eq s i hp,if_neg (by omega),if_neg (by omega),isBits_not s hp hbit]
 by_cases c : s.size ≤ lim
 ·rw [decide_eq_true c,Bool.true_and]
  refine Ev.congr (fun k => ?_) (loop c s.size 0 (by omega) (bitsTo_zero s))
  unfold spec_l1okBits.f
  rw [if_neg (by omega)];rfl
 ·rw [decide_eq_false c,Bool.false_and]
  refine Ev.congr (f:=fun _ => some false) (fun k => ?_) (Ev.now _)
  unfold spec_l1okBits.f
  rw [if_pos (by omega)]
end Go.Proofs.Ytdoclpgciadjaaa.P

namespace Go.Proofs.Ytdoclpgciadjaaa.P
open Go.RowKit Go.Proofs.YtdoclpgciadjaaaW.PrintWords Go.Proofs.YtdoclpgciadjaaaW.PrintLast Go.Proofs.YtdoclpgciadjaaaW.PrintMore
set_option linter.unusedVariables false
set_option linter.unusedSimpArgs false
mutual
def spec_Crc15.l0 : Nat → ByteArray → List Int → Int → Option (Int)
 | 0,_,_,_ => none
 | k + 1,x0,x3,x4 => if x4 < (x0.size : Int) then (if 0 ≤ x4 then (if x3.length < 140737488355328 then (spec_Crc15.l0 k x0 (x3 ++ [((bt x0 x4) - 48) % 256]) (wrap64 (x4 + 1))) else (none)) else (none)) else (spec_Crc15.l1 k x3 0)
def spec_Crc15.l1 : Nat → List Int → Int → Option (Int)
 | 0,_,_ => none
 | k + 1,x3,x5 => if x5 < 15 then (if x3.length < 140737488355328 then (spec_Crc15.l1 k (x3 ++ [0]) (wrap64 (x5 + 1))) else (none)) else (spec_Crc15.l2 k x3 (⟨#[49,49,48,48,48,49,48,49,49,48,48,49,49,48,48,49]⟩ : ByteArray) 0)
def spec_Crc15.l2 : Nat → List Int → ByteArray → Int → Option (Int)
 | 0,_,_,_ => none
 | k + 1,x3,x6,x7 => if (wrap64 (x7 + 15)) < (x3.length : Int) then (if 0 ≤ x7 then (if x7 < (x3.length : Int) then (if (rd x3 x7) = 1 then (spec_Crc15.l3 k x3 x6 x7 0) else (spec_Crc15.l2 k x3 x6 (wrap64 (x7 + 1)))) else (none)) else (none)) else (spec_Crc15.l4 k x3 0 (wrap64 ((x3.length : Int) - 15)))
def spec_Crc15.l3 : Nat → List Int → ByteArray → Int → Int → Option (Int)
 | 0,_,_,_,_ => none
 | k + 1,x3,x6,x7,x8 => if x8 < 16 then (if 0 ≤ (wrap64 (x7 + x8)) then (if (wrap64 (x7 + x8)) < (x3.length : Int) then (if 0 ≤ x8 then (if x8 < (x6.size : Int) then (spec_Crc15.l3 k (x3.set ((wrap64 (x7 + x8)) : Int).toNat (Go.bits .xor .u8 (rd x3 (wrap64 (x7 + x8))) (((bt x6 x8) - 48) % 256))) x6 x7 (wrap64 (x8 + 1))) else (none)) else (none)) else (none)) else (none)) else (spec_Crc15.l2 k x3 x6 (wrap64 (x7 + 1)))
def spec_Crc15.l4 : Nat → List Int → Int → Int → Option (Int)
 | 0,_,_,_ => none
 | k + 1,x3,x9,x10 => if x10 < (x3.length : Int) then (if 0 ≤ x10 then (spec_Crc15.l4 k x3 (wrap64 ((wrap64 (2 * x9)) + (wrap64 (rd x3 x10)))) (wrap64 (x10 + 1))) else (none)) else (some x9)
end
def spec_Crc15.f (k : Nat) (a0 : ByteArray) : Option (Int):=(spec_l1okBits.f k a0 2000).bind fun t256 => (if t256 = true then (spec_Crc15.l0 k a0 (([] : List Int)) 0) else (some (-1)))
end Go.Proofs.Ytdoclpgciadjaaa.P

namespace Go.Proofs.Ytdoclpgciadjaaa.P
open Go Go.RowKit Go.Proofs.YtdoclpgciadjaaaW.PrintWords
set_option linter.unusedVariables false
theorem b2_xor (a b : Bool) : bits .xor .u8 (b2 a) (b2 b) = b2 (a ^^ b):=by cases a <;> cases b <;> decide
theorem gtext (j : Nat) (h : j < 16) : (bt (⟨#[49,49,48,48,48,49,48,49,49,48,48,49,49,48,48,49]⟩ : ByteArray) (j : Int) - 48) % 256 = b2 (Nat.testBit 50585 (15 - j)):=by
 have : ∀ j : Fin 16,(bt (⟨#[49,49,48,48,48,49,48,49,49,48,48,49,49,48,48,49]⟩ : ByteArray) ((j.val : Nat) : Int) - 48) % 256 = b2 (Nat.testBit 50585 (15 - j.val)):=by decide +kernel
 exact this ⟨j,h⟩
def phi (s : ByteArray) (i t : Nat) : Bool:=(decide (t < i + 15) && (crcL ((bytesOf s).take i)).testBit (14 - (t - i))) ^^ (decide (t < s.size) && bitB (bt s (t : Int)))
def Holds (v : List Int) (n : Nat) (from_ : Nat) (φ : Nat → Bool) : Prop:=v.length = n ∧ ∀ t,from_ ≤ t → t < n → rd v (t : Int) = b2 (φ t)
set_option linter.unusedSectionVars false
section
variable (s : ByteArray) (hs : s.size ≤ 2000) (hb : isBits s = true)
include hs hb
omit hs in
theorem bit_at (t : Nat) (ht : t < s.size) : bt s (t : Int) = 48 ∨ bt s (t : Int) = 49:=by
 rw [bt_eq s t ht]
 rcases isBit_cases (isBits_at hb ht) with e | e <;> rw [e]
 ·exact .inl rfl
 ·exact .inr rfl
omit hs hb in
theorem phi_step (i t : Nat) (hi : i < s.size) (ht : i + 1 ≤ t) (ht2 : t < s.size + 15) :
  phi s (i + 1) t = (phi s i t ^^ (phi s i i && decide (t < i + 16) && Nat.testBit 50585 (15 - (t - i)))):=by
 have hl : i < (bytesOf s).length:=by rw [bytesOf_length];exact hi
 have h1 : crcL ((bytesOf s).take (i + 1)) = crcN (crcL ((bytesOf s).take i)) (bitN (bt s (i : Int))):=by
  rw [List.take_succ_eq_append_getElem hl,crcL_snoc,bytesOf_get]
 have hb1 : bitN (bt s (i : Int)) ≤ 1:=by unfold bitN;split <;> omega
 have hbd : decide (bitN (bt s (i : Int)) = 1) = bitB (bt s (i : Int)):=by unfold bitN bitB;split <;> simp [*]
 unfold phi
 rw [h1]
 have hR : crcL ((bytesOf s).take i) < 32768:=crcL_lt _
 generalize crcL ((bytesOf s).take i) = R at *
 rw [decide_eq_true (show i < i + 15 by omega),decide_eq_true hi,Nat.sub_self,Bool.true_and,Bool.true_and]
 by_cases h : t < i + 16
 ·obtain ⟨j,hj,hj15⟩ : ∃ j,t = i + 15 - j ∧ j < 15:=⟨i + 15 - t,by omega,by omega⟩
  subst hj
  rw [show 14 - (i + 15 - j - (i + 1)) = j by omega,crcN_testBit R _ hR hb1 j hj15,hbd,show 15 - (i + 15 - j - i) = j by omega,decide_eq_true (show i + 15 - j < i + 1 + 15 by omega)]
  have hg : Nat.testBit 50585 j = Nat.testBit 17817 j:=by
   have : ∀ j : Fin 15,Nat.testBit 50585 j.val = Nat.testBit 17817 j.val:=by decide
   exact this ⟨j,hj15⟩
  rw [hg]
  by_cases h0 : 0 < j
  ·rw [decide_eq_true h0,decide_eq_true (show i + 15 - j < i + 15 by omega),show 14 - (i + 15 - j - i) = j - 1 by omega]
   simp only [Bool.true_and,Bool.and_true]
   cases R.testBit (j - 1) <;> cases R.testBit 14 <;> cases bitB (bt s (i : Int)) <;> cases Nat.testBit 17817 j <;> simp
  ·rw [decide_eq_false h0,decide_eq_false (show ¬ i + 15 - j < i + 15 by omega)]
   simp only [Bool.true_and,Bool.and_true,Bool.false_and]
   cases R.testBit 14 <;> cases bitB (bt s (i : Int)) <;> cases Nat.testBit 17817 j <;> simp
 ·rw [decide_eq_false (show ¬ t < i + 1 + 15 by omega),decide_eq_false (show ¬ t < i + 15 by omega)]
  simp
theorem l4_ev (v : List Int) (R : Nat) (hR : R < 32768) (hv : Holds v (s.size + 15) s.size (fun t => R.testBit (14 - (t - s.size)))) :
  ∀ (d j : Nat),j + d = 15 → Ev (fun k => spec_Crc15.l4 k v ((R >>> (15 - j) : Nat) : Int) ((s.size + j : Nat) : Int)) (R : Int):=by
 obtain ⟨hl,hv⟩:=hv
 intro d
 induction d with
 | zero =>
  intro j hj
  refine Ev.step (f:=fun _ => some (R : Int)) (fun k => ?_) (Ev.now _)
  simp only [spec_Crc15.l4]
  rw [if_neg (by omega),show 15 - j = 0 by omega,Nat.shiftRight_zero]
 | succ d ih =>
  intro j hj
  refine Ev.step (f:=fun k => spec_Crc15.l4 k v ((R >>> (15 - (j + 1)) : Nat) : Int) ((s.size + (j + 1) : Nat) : Int)) (fun k => ?_) (ih (j + 1) (by omega))
  have hb0 : (R >>> (15 - j)) < 32768:=Nat.lt_of_le_of_lt (Nat.shiftRight_le _ _) hR
  have hx : R >>> (15 - (j + 1)) = 2 * (R >>> (15 - j)) + (R.testBit (14 - j)).toNat:=by
   have e : 15 - j = (14 - j) + 1:=by omega
   rw [show 15 - (j + 1) = 14 - j by omega,e,Nat.shiftRight_succ,Nat.testBit_eq_decide_div_mod_eq,Nat.shiftRight_eq_div_pow]
   generalize R / 2 ^ (14 - j) = q
   by_cases h : q % 2 = 1
   ·rw [decide_eq_true h];simp;omega
   ·rw [decide_eq_false h];simp;omega
  have hr : rd v ((s.size + j : Nat) : Int) = (((R.testBit (14 - j)).toNat : Nat) : Int):=by
   rw [hv (s.size + j) (by omega) (by omega)];dsimp only;rw [show s.size + j - s.size = j by omega]
   unfold b2
   cases R.testBit (14 - j) <;> rfl
  have ht : (R.testBit (14 - j)).toNat ≤ 1:=Bool.toNat_le _
  simp only [spec_Crc15.l4]
  rw [if_pos (by omega),if_pos (by omega),hr,w64 (x:=2 * _) (by omega) (by omega),w64 (x:=(((R.testBit (14 - j)).toNat : Nat) : Int)) (by omega) (by omega),w64 (by omega) (by omega),w64 (by omega) (by omega),hx]
  push_cast
  rfl
theorem l3_ev (i : Nat) (hi : i < s.size) (φ : Nat → Bool) (r : Int)
  (next : ∀ v,Holds v (s.size + 15) (i + 1) (fun t => φ t ^^ (decide (t < i + 16) && Nat.testBit 50585 (15 - (t - i)))) → Ev (fun k => spec_Crc15.l2 k v (⟨#[49,49,48,48,48,49,48,49,49,48,48,49,49,48,48,49]⟩ : ByteArray) ((i + 1 : Nat) : Int)) r) :
  ∀ (d j : Nat) (v : List Int),j + d = 16 → Holds v (s.size + 15) i (fun t => φ t ^^ (decide (t < i + j) && Nat.testBit 50585 (15 - (t - i)))) → Ev (fun k => spec_Crc15.l3 k v (⟨#[49,49,48,48,48,49,48,49,49,48,48,49,49,48,48,49]⟩ : ByteArray) (i : Int) (j : Int)) r:=by
 intro d
 induction d with
 | zero =>
  intro j v hj hv
  obtain rfl : j = 16:=by omega
  refine Ev.step (f:=fun k => spec_Crc15.l2 k v (⟨#[49,49,48,48,48,49,48,49,49,48,48,49,49,48,48,49]⟩ : ByteArray) ((i + 1 : Nat) : Int)) (fun k => ?_) (next v ⟨hv.1,fun t h1 h2 => hv.2 t (by omega) h2⟩)
  simp only [spec_Crc15.l3]
  rw [if_neg (by omega),w64 (by omega) (by omega)]
  rfl
 | succ d ih =>
  intro j v hj hv
  obtain ⟨hl,hv⟩:=hv
  have hg:=gtext j (by omega)
  have hx : bits .xor .u8 (rd v ((i + j : Nat) : Int)) (b2 (Nat.testBit 50585 (15 - j))) = b2 (φ (i + j) ^^ Nat.testBit 50585 (15 - j)):=by
   rw [hv (i + j) (by omega) (by omega)];dsimp only;rw [decide_eq_false (show ¬ i + j < i + j by omega),Bool.false_and,Bool.xor_false,b2_xor]
  refine Ev.step (f:=fun k => spec_Crc15.l3 k (v.set (i + j) (b2 (φ (i + j) ^^ Nat.testBit 50585 (15 - j)))) (⟨#[49,49,48,48,48,49,48,49,49,48,48,49,49,48,48,49]⟩ : ByteArray) (i : Int) ((j + 1 : Nat) : Int)) (fun k => ?_) (ih (j + 1) _ (by omega) ⟨by rw [List.length_set];exact hl,fun t h1 h2 => ?_⟩)
  ·simp only [spec_Crc15.l3]
   rw [w64 (x:=(i : Int) + (j : Int)) (by omega) (by omega),show (i : Int) + (j : Int) = ((i + j : Nat) : Int) by omega,if_pos (by omega),if_pos (by omega),if_pos (by omega),if_pos (by omega),if_pos (by rw [show (ByteArray.size _ : Nat) = 16 from rfl];omega),hg,hx,w64 (by omega) (by omega)]
   rfl
  ·rw [rd_set v (i + j) _ t (by omega)]
   by_cases e : t = i + j
   ·subst e
    rw [if_pos rfl];dsimp only;rw [decide_eq_true (show i + j < i + (j + 1) by omega),Bool.true_and,show i + j - i = j by omega]
   ·rw [if_neg e,hv t h1 h2]
    dsimp only
    rw [show decide (t < i + j) = decide (t < i + (j + 1)) from decide_eq_decide.2 ⟨fun _ => by omega,fun _ => by omega⟩]
theorem l2_ev : ∀ (d i : Nat) (v : List Int),i + d = s.size → Holds v (s.size + 15) i (phi s i) → Ev (fun k => spec_Crc15.l2 k v (⟨#[49,49,48,48,48,49,48,49,49,48,48,49,49,48,48,49]⟩ : ByteArray) (i : Int)) (crcL (bytesOf s) : Int):=by
 intro d
 induction d with
 | zero =>
  intro i v hi hv
  obtain rfl : i = s.size:=by omega
  have h4:=l4_ev s hs hb (v:=v) (crcL (bytesOf s)) (crcL_lt _) ⟨hv.1,fun t h1 h2 => by
   rw [hv.2 t h1 h2];unfold phi;dsimp only
   rw [decide_eq_false (show ¬ t < s.size by omega),decide_eq_true (show t < s.size + 15 by omega),List.take_of_length_le (by rw [bytesOf_length];omega)];simp⟩ 15 0 (by omega)
  refine Ev.step (f:=fun k => spec_Crc15.l4 k v ((crcL (bytesOf s) >>> (15 - 0) : Nat) : Int) ((s.size + 0 : Nat) : Int)) (fun k => ?_) h4
  have hz : crcL (bytesOf s) >>> (15 - 0) = 0:=by rw [Nat.shiftRight_eq_div_pow];have:=crcL_lt (bytesOf s);omega
  have hl:=hv.1
  simp only [spec_Crc15.l2]
  rw [w64 (by omega) (by omega),if_neg (by omega),hz,hl,w64 (by omega) (by omega),show ((s.size + 15 : Nat) : Int) - 15 = ((s.size + 0 : Nat) : Int) by omega]
  rfl
 | succ d ih =>
  intro i v hi hv
  have hl:=hv.1
  have his : i < s.size:=by omega
  have hr : rd v (i : Int) = b2 (phi s i i):=hv.2 i (by omega) (by omega)
  cases hp : phi s i i with
  | true =>
   refine Ev.step (f:=fun k => spec_Crc15.l3 k v (⟨#[49,49,48,48,48,49,48,49,49,48,48,49,49,48,48,49]⟩ : ByteArray) (i : Int) ((0 : Nat) : Int)) (fun k => ?_) (l3_ev s hs hb i his (phi s i) _ (fun v' hv' => ih (i + 1) v' (by omega) ⟨hv'.1,fun t h1 h2 => ?_⟩) 16 0 v (by omega) ⟨hl,fun t h1 h2 => ?_⟩)
   ·simp only [spec_Crc15.l2]
    rw [w64 (by omega) (by omega),if_pos (by omega),if_pos (by omega),if_pos (by omega),hr,hp,if_pos (show b2 true = 1 from rfl)]
    rfl
   ·rw [hv'.2 t h1 h2];dsimp only;rw [phi_step s i t his h1 h2,hp,Bool.true_and]
   ·rw [hv.2 t h1 h2];dsimp only;rw [decide_eq_false (show ¬ t < i + 0 by omega),Bool.false_and,Bool.xor_false]
  | false =>
   refine Ev.step (f:=fun k => spec_Crc15.l2 k v (⟨#[49,49,48,48,48,49,48,49,49,48,48,49,49,48,48,49]⟩ : ByteArray) ((i + 1 : Nat) : Int)) (fun k => ?_) (ih (i + 1) v (by omega) ⟨hl,fun t h1 h2 => ?_⟩)
   ·simp only [spec_Crc15.l2]
    rw [w64 (x:=(i : Int) + 15) (by omega) (by omega),if_pos (by omega),if_pos (by omega),if_pos (by omega),hr,hp,if_neg (by decide),w64 (by omega) (by omega)]
    rfl
   ·rw [hv.2 t (by omega) h2,phi_step s i t his h1 h2,hp];simp
theorem l1_ev (φ : Nat → Bool) (hφ : ∀ t,s.size ≤ t → φ t = false) (r : Int) (next : ∀ v,Holds v (s.size + 15) 0 φ → Ev (fun k => spec_Crc15.l2 k v (⟨#[49,49,48,48,48,49,48,49,49,48,48,49,49,48,48,49]⟩ : ByteArray) 0) r) :
  ∀ (d j : Nat) (v : List Int),j + d = 15 → Holds v (s.size + j) 0 φ → Ev (fun k => spec_Crc15.l1 k v (j : Int)) r:=by
 intro d
 induction d with
 | zero =>
  intro j v hj hv
  obtain rfl : j = 15:=by omega
  refine Ev.step (fun k => ?_) (next v hv)
  simp only [spec_Crc15.l1]
  rw [if_neg (by omega)]
 | succ d ih =>
  intro j v hj hv
  obtain ⟨hl,hv⟩:=hv
  refine Ev.step (f:=fun k => spec_Crc15.l1 k (v ++ [0]) ((j + 1 : Nat) : Int)) (fun k => ?_) (ih (j + 1) _ (by omega) ⟨by rw [List.length_append,hl];simp;omega,fun t h1 h2 => ?_⟩)
  ·simp only [spec_Crc15.l1]
   rw [if_pos (by omega),if_pos (by omega),w64 (by omega) (by omega)]
   rfl
  ·rw [rd_snoc]
   by_cases h : t < v.length
   ·rw [if_pos h,hv t h1 (by omega)]
   ·rw [if_neg h,if_pos (by omega),hφ t (by omega)];rfl
theorem l0_ev (r : Int) (next : ∀ v,Holds v s.size 0 (fun t => decide (t < s.size) && bitB (bt s (t : Int))) → Ev (fun k => spec_Crc15.l1 k v 0) r) :
  ∀ (d i : Nat) (v : List Int),i + d = s.size → Holds v i 0 (fun t => decide (t < s.size) && bitB (bt s (t : Int))) → Ev (fun k => spec_Crc15.l0 k s v (i : Int)) r:=by
 intro d
 induction d with
 | zero =>
  intro i v hi hv
  obtain rfl : i = s.size:=by omega
  refine Ev.step (fun k => ?_) (next v hv)
  simp only [spec_Crc15.l0]
  rw [if_neg (by omega)]
 | succ d ih =>
  intro i v hi hv
  obtain ⟨hl,hv⟩:=hv
  have hx : (bt s (i : Int) - 48) % 256 = b2 (bitB (bt s (i : Int))):=by
   rcases bit_at s hb i (by omega) with e | e <;> rw [e] <;> decide
  refine Ev.step (f:=fun k => spec_Crc15.l0 k s (v ++ [b2 (bitB (bt s (i : Int)))]) ((i + 1 : Nat) : Int)) (fun k => ?_) (ih (i + 1) _ (by omega) ⟨by rw [List.length_append,hl];rfl,fun t h1 h2 => ?_⟩)
  ·simp only [spec_Crc15.l0]
   rw [if_pos (by omega),if_pos (by omega),if_pos (by omega),w64 (by omega) (by omega),hx]
   rfl
  ·rw [rd_snoc]
   by_cases h : t < v.length
   ·rw [if_pos h,hv t h1 (by omega)]
   ·obtain rfl : t = i:=by omega
    rw [if_neg h,if_pos hl.symm];dsimp only;rw [decide_eq_true (show t < s.size by omega),Bool.true_and]
end
def crcV (s : ByteArray) : Int:=if s.size ≤ 2000 ∧ isBits s = true then (crcL (bytesOf s) : Int) else -1
theorem specCrc15_ev (s : ByteArray) (h : s.size < 100000000) : Ev (fun k => spec_Crc15.f k s) (crcV s):=by
 have hk:=okBits_ev s 2000 (by omega)
 unfold crcV
 by_cases c : s.size ≤ 2000 ∧ isBits s = true
 ·rw [if_pos c]
  rw [c.2,decide_eq_true c.1] at hk
  refine Ev.congr (fun k => rfl) (Ev.bind (f:=fun k t => if t = true then spec_Crc15.l0 k s ([] : List Int) 0 else some (-1)) hk ?_)
  simp only [Bool.and_self,if_true]
  refine l0_ev s c.1 c.2 _ (fun v hv => l1_ev s c.1 c.2 _ (fun t ht => by rw [decide_eq_false (by omega)];rfl) _ (fun v' hv' => l2_ev s c.1 c.2 s.size 0 v' (by omega) ⟨hv'.1,fun t h1 h2 => ?_⟩) 15 0 v (by omega) hv) s.size 0 [] (by omega) ⟨rfl,fun t h1 h2 => by omega⟩
  rw [hv'.2 t h1 h2];dsimp only;unfold phi
  rw [List.take_zero]
  simp [crcL]
 ·rw [if_neg c]
  have hf : (decide (s.size ≤ 2000) && isBits s) = false:=by
   rw [Bool.and_eq_false_iff]
   by_cases hh : isBits s = true
   ·exact .inl (decide_eq_false fun h2 => c ⟨h2,hh⟩)
   ·exact .inr (by simpa using hh)
  rw [hf] at hk
  exact Ev.congr (fun k => rfl) (Ev.bind (f:=fun k t => if t = true then spec_Crc15.l0 k s ([] : List Int) 0 else some (-1)) hk (Ev.now _))
end Go.Proofs.Ytdoclpgciadjaaa.P

namespace Go.Proofs.Ytdoclpgciadjaaa.P
open Go.RowKit Go.Proofs.YtdoclpgciadjaaaW.PrintWords Go.Proofs.YtdoclpgciadjaaaW.PrintLast Go.Proofs.YtdoclpgciadjaaaW.PrintMore
set_option linter.unusedVariables false
set_option linter.unusedSimpArgs false
def spec_l1val.l0 : Nat → ByteArray → Int → Int → Option (Int)
 | 0,_,_,_ => none
 | k + 1,x0,x3,x4 => if x4 < (x0.size : Int) then (if 0 ≤ x4 then (if (bt x0 x4) = 49 then (spec_l1val.l0 k x0 (wrap64 ((wrap64 (2 * x3)) + 1)) (wrap64 (x4 + 1))) else (spec_l1val.l0 k x0 (wrap64 (2 * x3)) (wrap64 (x4 + 1)))) else (none)) else (some x3)
def spec_l1val.f (k : Nat) (a0 : ByteArray) : Option (Int):=spec_l1val.l0 k a0 0 0
end Go.Proofs.Ytdoclpgciadjaaa.P

namespace Go.Proofs.Ytdoclpgciadjaaa.P
open Go.RowKit Go.Proofs.YtdoclpgciadjaaaW.PrintWords Go.Proofs.YtdoclpgciadjaaaW.PrintLast Go.Proofs.YtdoclpgciadjaaaW.PrintMore
set_option linter.unusedVariables false
set_option linter.unusedSimpArgs false
mutual
def spec_l1lay.j0 : Nat → List Int → Int → Option (Int × Int)
 | 0,_,_ => none
 | k + 1,x0,x4 => if (x0.length : Int) < x4 then (some (x4,0)) else (if 12 < (x0.length : Int) then (if x4 = 39 then (if 32 < (x0.length : Int) then (spec_l1lay.j1 k x0 x4 ((rd x0 32) == 49)) else (none)) else (spec_l1lay.j1 k x0 x4 ((rd x0 12) == 49))) else (none))
def spec_l1lay.j1 : Nat → List Int → Int → Bool → Option (Int × Int)
 | 0,_,_,_ => none
 | k + 1,x0,x4,x5 => if 0 ≤ (wrap64 (x4 - 4)) then (if (wrap64 (x4 - 4)) ≤ x4 then (if x4 ≤ (x0.length : Int) then ((spec_l1val.f k (strOfNums ((x0.take (x4 : Int).toNat).drop ((wrap64 (x4 - 4)) : Int).toNat))).bind fun t152 => (if t152 > 8 then (if x5 = true then (some (x4,wrap64 (x4 + (8 * 0)))) else (some (x4,wrap64 (x4 + (8 * 8))))) else (if x5 = true then (some (x4,wrap64 (x4 + (8 * 0)))) else (some (x4,wrap64 (x4 + (wrap64 (8 * t152)))))))) else (none)) else (none)) else (none)
end
def spec_l1lay.f (k : Nat) (l0 : List Int) : Option (Int × Int):=if (l0.length : Int) < 14 then (some (0,0)) else (if 13 < (l0.length : Int) then (if (rd l0 13) = 49 then (spec_l1lay.j0 k l0 39) else (spec_l1lay.j0 k l0 19)) else (none))
end Go.Proofs.Ytdoclpgciadjaaa.P

namespace Go.Proofs.Ytdoclpgciadjaaa.P
open Go.RowKit Go.Proofs.YtdoclpgciadjaaaW.PrintWords Go.Proofs.YtdoclpgciadjaaaW.PrintLast Go.Proofs.YtdoclpgciadjaaaW.PrintMore
set_option linter.unusedVariables false
set_option linter.unusedSimpArgs false
def spec_l1field.f (k : Nat) (l0 : List Int) : Option (Int):=if (l0.length : Int) = 0 then (some 1) else (if (l0.length : Int) < 12 then (some 2) else (if (l0.length : Int) = 12 then (some 3) else (if (l0.length : Int) = 13 then (some 4) else ((spec_l1lay.f k l0).bind fun bt153 => (if (l0.length : Int) < bt153.1 then (if (l0.length : Int) ≥ (wrap64 (bt153.1 - 4)) then (some 8) else (if bt153.1 = 19 then (some 7) else (if (l0.length : Int) < 32 then (some 5) else (if (l0.length : Int) = 32 then (some 6) else (some 7))))) else (if (l0.length : Int) < bt153.2 then (some 9) else (if (l0.length : Int) < (wrap64 (bt153.2 + 15)) then (some 10) else (if (l0.length : Int) < (wrap64 (bt153.2 + 18)) then (some (wrap64 ((wrap64 ((wrap64 (11 + (l0.length : Int))) - bt153.2)) - 15))) else (if (l0.length : Int) < (wrap64 (bt153.2 + 25)) then (some 14) else (some 15))))))))))
end Go.Proofs.Ytdoclpgciadjaaa.P

namespace Go.Proofs.Ytdoclpgciadjaaa.P
open Go.RowKit Go.Proofs.YtdoclpgciadjaaaW.PrintWords Go.Proofs.YtdoclpgciadjaaaW.PrintLast Go.Proofs.YtdoclpgciadjaaaW.PrintMore
set_option linter.unusedVariables false
set_option linter.unusedSimpArgs false
def spec_l1crcOk.j0 : Nat → List Int → Int → Bool → Option (Bool)
 | 0,_,_,_ => none
 | k + 1,x0,x4,x18 => if x18 = true then (some false) else (if 0 ≤ x4 then (if x4 ≤ (x0.length : Int) then ((spec_Crc15.f k (strOfNums (x0.take (x4 : Int).toNat))).bind fun t172 => (if x4 ≤ (wrap64 (x4 + 15)) then (if (wrap64 (x4 + 15)) ≤ (x0.length : Int) then ((spec_l1val.f k (strOfNums ((x0.take ((wrap64 (x4 + 15)) : Int).toNat).drop (x4 : Int).toNat))).bind fun t174 => (some (t172 == t174))) else (none)) else (none))) else (none)) else (none))
def spec_l1crcOk.f (k : Nat) (l0 : List Int) : Option (Bool):=(spec_l1lay.f k l0).bind fun bt169 => (if bt169.2 = 0 then (spec_l1crcOk.j0 k l0 bt169.2 true) else (spec_l1crcOk.j0 k l0 bt169.2 (decide ((l0.length : Int) < (wrap64 (bt169.2 + 15))))))
end Go.Proofs.Ytdoclpgciadjaaa.P

namespace Go.Proofs.Ytdoclpgciadjaaa.P
open Go.RowKit Go.Proofs.YtdoclpgciadjaaaW.PrintWords Go.Proofs.YtdoclpgciadjaaaW.PrintLast Go.Proofs.YtdoclpgciadjaaaW.PrintMore
set_option linter.unusedVariables false
set_option linter.unusedSimpArgs false
mutual
def spec_l1look.j0 : Nat → Int → Int → Bool → Option (Int)
 | 0,_,_,_ => none
 | k + 1,x1,x7,x42 => if x42 = true then (some 4) else (if x7 = 5 then (some 1) else (if x7 = 6 then (spec_l1look.j1 k x7 (x1 == 48)) else (spec_l1look.j1 k x7 false)))
def spec_l1look.j1 : Nat → Int → Bool → Option (Int)
 | 0,_,_ => none
 | k + 1,x7,x50 => if x50 = true then (some 6) else (if x7 = 6 then (some 2) else (some 0))
end
def spec_l1look.f (k : Nat) (l0 : List Int) (a1 : Int) : Option (Int):=(spec_l1field.f k l0).bind fun t175 => (if t175 = 1 then (if a1 = 49 then (some 4) else (some 0)) else (if t175 = 11 then (if a1 = 48 then (some 4) else (some 0)) else (if t175 = 13 then (if a1 = 48 then (some 4) else ((spec_l1crcOk.f k l0).bind fun t176 => (if t176 = true then (some 0) else (some 5)))) else (if t175 = 14 then ((spec_l1lay.f k l0).bind fun bt177 => (if (wrap64 ((wrap64 ((l0.length : Int) - bt177.2)) - 18)) < 6 then (spec_l1look.j0 k a1 (wrap64 ((wrap64 ((l0.length : Int) - bt177.2)) - 18)) (a1 == 48)) else (spec_l1look.j0 k a1 (wrap64 ((wrap64 ((l0.length : Int) - bt177.2)) - 18)) false))) else (some 0)))))
end Go.Proofs.Ytdoclpgciadjaaa.P

namespace Go.Proofs.Ytdoclpgciadjaaa.P
open Go Go.RowKit Go.Proofs.YtdoclpgciadjaaaW.PrintWords
set_option linter.unusedVariables false
theorem rd_app_at (S Y : List Int) (a : Int) : rd (S ++ a :: Y) (S.length : Int) = a:=by
 unfold rd
 rw [Int.toNat_natCast,List.getD_eq_getElem?_getD,List.getElem?_append_right (Nat.le_refl _),Nat.sub_self];rfl
theorem bt_str (l : List Int) (i : Nat) (h : i < l.length) (hb : ∀ x ∈ l,0 ≤ x ∧ x < 256) : bt (strOfNums l) (i : Int) = rd l (i : Int):=by
 have hs : i < (strOfNums l).size:=by rw [strOfNums_size];exact h
 rw [bt_eq _ i hs]
 have h2 : (bytesOf (strOfNums l))[i]? = some (((strOfNums l)[i]'hs).toNat : Int):=by
  unfold bytesOf
  rw [List.getElem?_map,Array.getElem?_toList,Array.getElem?_eq_getElem (show i < (strOfNums l).data.size from hs)]
  rfl
 rw [bytes_str l hb] at h2
 unfold rd
 rw [Int.toNat_natCast,List.getD_eq_getElem?_getD,h2]
 rfl
theorem val_ev (l : List Int) (hb : Bits l) (hl : l.length ≤ 40) : Ev (fun k => spec_l1val.f k (strOfNums l)) (V l):=by
 have loop : ∀ (d i : Nat),i + d = l.length → Ev (fun k => spec_l1val.l0 k (strOfNums l) (V (l.take i)) (i : Int)) (V l):=by
  intro d
  induction d with
  | zero =>
   intro i hi
   refine Ev.step (f:=fun _ => some (V l)) (fun k => ?_) (Ev.now _)
   simp only [spec_l1val.l0]
   rw [if_neg (by rw [strOfNums_size];omega),List.take_of_length_le (by omega)]
  | succ d ih =>
   intro i hi
   refine Ev.step (f:=fun k => spec_l1val.l0 k (strOfNums l) (V (l.take (i + 1))) ((i + 1 : Nat) : Int)) (fun k => ?_) (ih (i + 1) (by omega))
   have ht : l.take (i + 1) = l.take i ++ [rd l (i : Int)]:=by
    rw [List.take_succ_eq_append_getElem (by omega)]
    congr 2
    have:=rd_get l i (by omega)
    rw [List.getElem?_eq_getElem (by omega)] at this
    exact Option.some.inj this
   have hbt : Bits (l.take i):=fun x hx => hb x (List.mem_of_mem_take hx)
   have hv:=V_lt hbt (n:=40) (by rw [List.length_take];omega) (m:=1099511627776) (by decide)
   have hv0:=(V_range hbt).1
   have hm : rd l (i : Int) = 48 ∨ rd l (i : Int) = 49:=hb _ (by have:=rd_get l i (by omega);exact List.mem_of_getElem? this)
   rw [ht,V_snoc]
   simp only [spec_l1val.l0]
   have w2 : wrap64 (2 * V (l.take i)) = 2 * V (l.take i):=by unfold wrap64;omega
   have w3 : wrap64 (2 * V (l.take i) + 1) = 2 * V (l.take i) + 1:=by unfold wrap64;omega
   rw [if_pos (by rw [strOfNums_size];omega),if_pos (by omega),bt_str l i (by omega) hb.range,w2,w3,w64 (by omega) (by omega)]
   rcases hm with e | e
   ·rw [if_neg (by omega),e];simp
   ·rw [if_pos e,e];simp
 have h0:=loop l.length 0 (by omega)
 exact h0
theorem hd_len {H : List Int} {e r : Bool} {i : Int} (h : Hd H e r i) : H.length = if e = true then 35 else 15:=by
 cases h with
 | base a r z I h => simp [h]
 | ext a r q z y I J h k => simp [h,k]
theorem hd_13 {H : List Int} {e r : Bool} {i : Int} (h : Hd H e r i) (R : List Int) : rd (H ++ R) 13 = if e = true then 49 else 48:=by
 cases h with
 | base a r z I h =>
  have:=rd_app_at (a :: I ++ [r]) ([z] ++ R) 48
  rw [show (((a :: I ++ [r]).length : Nat) : Int) = 13 by simp [h]] at this
  rw [show a :: I ++ [r,48,z] ++ R = (a :: I ++ [r]) ++ 48 :: ([z] ++ R) by simp]
  exact this
 | ext a r q z y I J h k =>
  have:=rd_app_at (a :: I ++ [r]) (J ++ [q,z,y] ++ R) 49
  rw [show (((a :: I ++ [r]).length : Nat) : Int) = 13 by simp [h]] at this
  rw [show a :: I ++ [r,49] ++ J ++ [q,z,y] ++ R = (a :: I ++ [r]) ++ 49 :: (J ++ [q,z,y] ++ R) by simp]
  exact this
theorem hd_rtr {H : List Int} {e r : Bool} {i : Int} (h : Hd H e r i) (R : List Int) : (rd (H ++ R) (if e = true then 32 else 12) == 49) = r:=by
 cases h with
 | base a r z I h =>
  have:=rd_app_at (a :: I) ([48,z] ++ R) r
  rw [show (((a :: I).length : Nat) : Int) = 12 by simp [h]] at this
  rw [show a :: I ++ [r,48,z] ++ R = (a :: I) ++ r :: ([48,z] ++ R) by simp]
  simp only [Bool.false_eq_true,if_false]
  rw [this]
 | ext a r q z y I J h k =>
  have:=rd_app_at (a :: I ++ [r,49] ++ J) ([z,y] ++ R) q
  rw [show (((a :: I ++ [r,49] ++ J).length : Nat) : Int) = 32 by simp [h,k]] at this
  rw [show a :: I ++ [r,49] ++ J ++ [q,z,y] ++ R = (a :: I ++ [r,49] ++ J) ++ q :: ([z,y] ++ R) by simp]
  simp only [if_true]
  rw [this]
theorem lay_full {H D R : List Int} {e r : Bool} {i : Int} (h : Hd H e r i) (d : D.length = 4) (hb : Bits D) (hn : R.length ≤ 4000) :
  Ev (fun k => spec_l1lay.f k (H ++ D ++ R)) ((H.length : Int) + 4,(H.length : Int) + 4 + 8 * dataB r (V D)):=by
 have hl:=hd_len h
 have h13:=hd_13 h (D ++ R)
 have hr:=hd_rtr h (D ++ R)
 rw [← List.append_assoc] at h13 hr
 have hlen : (H ++ D ++ R).length = H.length + 4 + R.length:=by simp [d];omega
 have hv0:=(V_range hb).1
 have hv1:=V_lt hb (n:=4) (by omega) (m:=16) (by decide)
 have hsl : ((H ++ D ++ R).take (((H.length : Int) + 4).toNat)).drop (((H.length : Int) + 4 - 4).toNat) = D:=by
  rw [show ((H.length : Int) + 4).toNat = (H ++ D).length by simp [d];omega,List.take_left,show ((H.length : Int) + 4 - 4).toNat = H.length by omega,List.drop_left]
 have hval:=val_ev D hb (by omega)
 have j1 : Ev (fun k => spec_l1lay.j1 k (H ++ D ++ R) ((H.length : Int) + 4) r) ((H.length : Int) + 4,(H.length : Int) + 4 + 8 * dataB r (V D)):=by
  have hH : (H.length : Int) ≤ 35:=by rw [hl];split <;> omega
  have w1 : wrap64 ((H.length : Int) + 4 - 4) = (H.length : Int) + 4 - 4:=w64 (by omega) (by omega)
  refine Ev.step (f:=fun k => (spec_l1val.f k (strOfNums D)).bind fun t265 => (if t265 > 8 then (if r = true then (some ((H.length : Int) + 4,wrap64 ((H.length : Int) + 4 + (8 * 0)))) else (some ((H.length : Int) + 4,wrap64 ((H.length : Int) + 4 + (8 * 8))))) else (if r = true then (some ((H.length : Int) + 4,wrap64 ((H.length : Int) + 4 + (8 * 0)))) else (some ((H.length : Int) + 4,wrap64 ((H.length : Int) + 4 + (wrap64 (8 * t265)))))))) (fun k => ?_) (Ev.bind hval ?_)
  ·simp only [spec_l1lay.j1]
   rw [w1,if_pos (by omega),if_pos (by omega),if_pos (by omega),hsl]
  ·unfold dataB
   by_cases c8 : V D > 8
   ·refine ev_pos c8 ?_
    cases r with
    | true => refine ev_pos rfl ?_;rw [if_pos rfl,w64 (by omega) (by omega)];exact Ev.now _
    | false => refine ev_neg (by decide) ?_;rw [if_neg (by decide),if_pos c8,w64 (by omega) (by omega)];exact Ev.now _
   ·refine ev_neg c8 ?_
    cases r with
    | true => refine ev_pos rfl ?_;rw [if_pos rfl,w64 (by omega) (by omega)];exact Ev.now _
    | false => refine ev_neg (by decide) ?_;rw [if_neg (by decide),if_neg c8,w64 (x:=8 * V D) (by omega) (by omega),w64 (by omega) (by omega)];exact Ev.now _
 unfold spec_l1lay.f
 cases e with
 | true =>
  simp only [if_true] at hl h13 hr
  rw [hl] at j1 ⊢
  refine ev_neg (by omega) (ev_pos (by omega) (ev_pos h13 ?_))
  refine Ev.step (f:=fun k => spec_l1lay.j1 k (H ++ D ++ R) 39 r) (fun k => ?_) j1
  simp only [spec_l1lay.j0]
  rw [if_neg (by omega),if_pos (by omega),if_pos (by decide),if_pos (by omega),hr]
 | false =>
  simp only [Bool.false_eq_true,if_false] at hl h13 hr
  rw [hl] at j1 ⊢
  refine ev_neg (by omega) (ev_pos (by omega) (ev_neg (by omega) ?_))
  refine Ev.step (f:=fun k => spec_l1lay.j1 k (H ++ D ++ R) 19 r) (fun k => ?_) j1
  simp only [spec_l1lay.j0]
  rw [if_neg (by omega),if_pos (by omega),if_neg (by decide),hr]
theorem lay_part {p : List Int} {e : Bool} (h13 : rd p 13 = if e = true then 49 else 48) (hn : 14 ≤ p.length) (hl : p.length < if e = true then 39 else 19) : Ev (fun k => spec_l1lay.f k p) (if e = true then 39 else 19,0):=by
 unfold spec_l1lay.f
 cases e with
 | true =>
  simp only [if_true] at h13 hl ⊢
  refine ev_neg (by omega) (ev_pos (by omega) (ev_pos h13 ?_))
  refine Ev.step (f:=fun _ => some (39,0)) (fun k => ?_) (Ev.now _)
  simp only [spec_l1lay.j0]
  rw [if_pos (by omega)]
 | false =>
  simp only [Bool.false_eq_true,if_false] at h13 hl ⊢
  refine ev_neg (by omega) (ev_pos (by omega) (ev_neg (by omega) ?_))
  refine Ev.step (f:=fun _ => some (19,0)) (fun k => ?_) (Ev.now _)
  simp only [spec_l1lay.j0]
  rw [if_pos (by omega)]
theorem field_full {H D R : List Int} {e r : Bool} {i : Int} (h : Hd H e r i) (d : D.length = 4) (hb : Bits D) (hn : R.length ≤ 4000) :
  Ev (fun k => spec_l1field.f k (H ++ D ++ R)) (if (R.length : Int) < 8 * dataB r (V D) then 9 else if (R.length : Int) < 8 * dataB r (V D) + 15 then 10 else if (R.length : Int) < 8 * dataB r (V D) + 18 then 11 + ((R.length : Int) - 8 * dataB r (V D) - 15) else if (R.length : Int) < 8 * dataB r (V D) + 25 then 14 else 15):=by
 have hl:=hd_len h
 have hH : H.length = 15 ∨ H.length = 35:=by rw [hl];split <;> omega
 have hd:=dataB_range (r:=r) (V_range hb).1
 have hlen : (H ++ D ++ R).length = H.length + 4 + R.length:=by simp [d];omega
 unfold spec_l1field.f
 rw [hlen]
 refine ev_neg (by omega) (ev_neg (by omega) (ev_neg (by omega) (ev_neg (by omega) (Ev.bind (lay_full h d hb hn) (ev_neg (by simp only [];omega) ?_)))))
 simp only []
 rw [w64 (x:=(H.length : Int) + 4 + 8 * dataB r (V D) + 15) (by omega) (by omega),w64 (x:=(H.length : Int) + 4 + 8 * dataB r (V D) + 18) (by omega) (by omega),w64 (x:=(H.length : Int) + 4 + 8 * dataB r (V D) + 25) (by omega) (by omega)]
 by_cases c1 : (R.length : Int) < 8 * dataB r (V D)
 ·rw [if_pos c1];exact ev_pos (by omega) (Ev.now _)
 rw [if_neg c1];refine ev_neg (by omega) ?_
 by_cases c2 : (R.length : Int) < 8 * dataB r (V D) + 15
 ·rw [if_pos c2];exact ev_pos (by omega) (Ev.now _)
 rw [if_neg c2];refine ev_neg (by omega) ?_
 by_cases c3 : (R.length : Int) < 8 * dataB r (V D) + 18
 ·rw [if_pos c3];refine ev_pos (by omega) ?_
  have e : wrap64 (wrap64 (wrap64 (11 + ((H.length + 4 + R.length : Nat) : Int)) - ((H.length : Int) + 4 + 8 * dataB r (V D))) - 15) = 11 + ((R.length : Int) - 8 * dataB r (V D) - 15):=by unfold wrap64;omega
  rw [e];exact Ev.now _
 rw [if_neg c3];refine ev_neg (by omega) ?_
 by_cases c4 : (R.length : Int) < 8 * dataB r (V D) + 25
 ·rw [if_pos c4];exact ev_pos (by omega) (Ev.now _)
 ·rw [if_neg c4];exact ev_neg (by omega) (Ev.now _)
theorem field_part {p : List Int} {e : Bool} (h13 : rd p 13 = if e = true then 49 else 48) (hn : 14 ≤ p.length) (hl : p.length < if e = true then 39 else 19) :
  Ev (fun k => spec_l1field.f k p) (if e = true then (if p.length < 32 then 5 else if p.length = 32 then 6 else if p.length < 35 then 7 else 8) else (if p.length < 15 then 7 else 8)):=by
 unfold spec_l1field.f
 refine ev_neg (by omega) (ev_neg (by omega) (ev_neg (by omega) (ev_neg (by omega) (Ev.bind (lay_part h13 hn hl) ?_))))
 cases e with
 | true =>
  simp only [if_true] at hl ⊢
  rw [w64 (x:=(39 : Int) - 4) (by omega) (by omega)]
  refine ev_pos (by omega) ?_
  by_cases c : p.length < 32
  ·rw [if_pos c];exact ev_neg (by omega) (ev_neg (by omega) (ev_pos (by omega) (Ev.now _)))
  rw [if_neg c]
  by_cases c2 : p.length = 32
  ·rw [if_pos c2];exact ev_neg (by omega) (ev_neg (by omega) (ev_neg (by omega) (ev_pos (by omega) (Ev.now _))))
  rw [if_neg c2]
  by_cases c3 : p.length < 35
  ·rw [if_pos c3];exact ev_neg (by omega) (ev_neg (by omega) (ev_neg (by omega) (ev_neg (by omega) (Ev.now _))))
  ·rw [if_neg c3];exact ev_pos (by omega) (Ev.now _)
 | false =>
  simp only [Bool.false_eq_true,if_false] at hl ⊢
  rw [w64 (x:=(19 : Int) - 4) (by omega) (by omega)]
  refine ev_pos (by omega) ?_
  by_cases c : p.length < 15
  ·rw [if_pos c];exact ev_neg (by omega) (ev_pos (by decide) (Ev.now _))
  ·rw [if_neg c];exact ev_pos (by omega) (Ev.now _)
theorem field_ev {p : List Int} {c : Int × Int × Int × Bool × Int × Bool × Int × List Int} {m : Int} (h : Ph p c m) (hp : Bits p) : Ev (fun k => spec_l1field.f k p) c.1:=by
 have few : ∀ {q : List Int} {v : Int},(q.length = 0 ∧ v = 1 ∨ (0 < q.length ∧ q.length < 12) ∧ v = 2 ∨ q.length = 12 ∧ v = 3 ∨ q.length = 13 ∧ v = 4) → Ev (fun k => spec_l1field.f k q) v:=by
  intro q v hq
  unfold spec_l1field.f
  rcases hq with ⟨h,rfl⟩ | ⟨h,rfl⟩ | ⟨h,rfl⟩ | ⟨h,rfl⟩
  ·exact ev_pos (by omega) (Ev.now _)
  ·exact ev_neg (by omega) (ev_pos (by omega) (Ev.now _))
  ·exact ev_neg (by omega) (ev_neg (by omega) (ev_pos (by omega) (Ev.now _)))
  ·exact ev_neg (by omega) (ev_neg (by omega) (ev_neg (by omega) (ev_pos (by omega) (Ev.now _))))
 have r13 : ∀ (a r z : Int) (I R : List Int),I.length = 11 → rd (a :: I ++ [r] ++ z :: R) 13 = z:=by
  intro a r z I R h
  have:=rd_app_at (a :: I ++ [r]) R z
  rw [show (((a :: I ++ [r]).length : Nat) : Int) = 13 by simp [h]] at this
  exact this
 cases h with
 | sof => exact few (by simp)
 | ida a I h => exact few (by simp;omega)
 | rtr a I h => exact few (by simp;omega)
 | ide a r I h => exact few (by simp;omega)
 | idb a r I J h k =>
  have:=field_part (p:=a :: I ++ [r,49] ++ J) (e:=true) (by have:=r13 a r 49 I J h;simpa using this) (by simp;omega) (by simp;omega)
  simp only [if_true] at this
  rw [if_pos (by simp;omega)] at this
  exact this
 | rtrx a r I J h k =>
  have:=field_part (p:=a :: I ++ [r,49] ++ J) (e:=true) (by have:=r13 a r 49 I J h;simpa using this) (by simp;omega) (by simp;omega)
  simp only [if_true] at this
  rw [if_neg (by simp;omega),if_pos (by simp;omega)] at this
  exact this
 | resx a r q I J Z h k z =>
  have:=field_part (p:=a :: I ++ [r,49] ++ J ++ [q] ++ Z) (e:=true) (by have:=r13 a r 49 I (J ++ [q] ++ Z) h;simpa using this) (by simp;omega) (by simp;omega)
  simp only [if_true] at this
  rw [if_neg (by simp;omega),if_neg (by simp;omega),if_pos (by simp;omega)] at this
  exact this
 | resb a r I h =>
  have:=field_part (p:=a :: I ++ [r,48]) (e:=false) (by have:=r13 a r 48 I [] h;simpa using this) (by simp;omega) (by simp;omega)
  simp only [Bool.false_eq_true,if_false] at this
  rw [if_pos (by simp;omega)] at this
  exact this
 | dlc H D e r i h d =>
  have hl:=hd_len h
  have hlen : (H ++ D).length = H.length + D.length:=by simp
  have:=field_part (p:=H ++ D) (e:=e) (hd_13 h D) (by rw [hlen,hl];split <;> omega) (by rw [hlen,hl];split <;> omega)
  cases e with
  | true =>
   simp only [if_true] at this hl
   rw [hlen,if_neg (by omega),if_neg (by omega),if_neg (by omega)] at this
   exact this
  | false =>
   simp only [Bool.false_eq_true,if_false] at this hl
   rw [hlen,if_neg (by omega)] at this
   exact this
 | data H D X e r i h d x =>
  have hD : Bits D:=bits_len hp D (fun x hx => by simp [hx])
  have hr:=dataB_range (r:=r) (V_range hD).1
  have:=field_full (R:=X) h d hD (by omega)
  rw [if_pos x] at this
  exact this
 | crc H D X C e r i h d x c =>
  have hD : Bits D:=bits_len hp D (fun x hx => by simp [hx])
  have hr:=dataB_range (r:=r) (V_range hD).1
  have:=field_full (R:=X ++ C) h d hD (by simp;omega)
  rw [if_neg (by simp;omega),if_pos (by simp;omega), ← List.append_assoc] at this
  exact this
 | del H D X C T e r i h d x c t =>
  have hD : Bits D:=bits_len hp D (fun x hx => by simp [hx])
  have hr:=dataB_range (r:=r) (V_range hD).1
  have:=field_full (R:=X ++ C ++ T) h d hD (by simp;omega)
  rw [if_neg (by simp;omega),if_neg (by simp;omega),if_pos (by simp;omega), ← List.append_assoc, ← List.append_assoc,show 11 + (((X ++ C ++ T).length : Int) - 8 * dataB r (V D) - 15) = 11 + (T.length : Int) by simp;omega] at this
  exact this
 | eof H D X C T e r i h d x c t3 t =>
  have hD : Bits D:=bits_len hp D (fun x hx => by simp [hx])
  have hr:=dataB_range (r:=r) (V_range hD).1
  have:=field_full (R:=X ++ C ++ T) h d hD (by simp;omega)
  rw [if_neg (by simp;omega),if_neg (by simp;omega),if_neg (by simp;omega),if_pos (by simp;omega), ← List.append_assoc, ← List.append_assoc] at this
  exact this
end Go.Proofs.Ytdoclpgciadjaaa.P

namespace Go.Proofs.Ytdoclpgciadjaaa.P
open Go Go.RowKit Go.Proofs.YtdoclpgciadjaaaW.PrintWords
set_option linter.unusedVariables false
theorem ph_ok {p : List Int} {c : Int × Int × Int × Bool × Int × Bool × Int × List Int} {m : Int} (h : Ph p c m) (hp : Bits p) (s : WS) (hs : core s = c) (hr0 : 0 ≤ s.run) (hr1 : s.run ≤ 5) : WOk s:=by
 have mk : ∀ {f l g : Int} {e : Bool} {i : Int} {r : Bool} {d : Int} {x : List Int},CoreIs s f l g e i r d x s.sum → 1 ≤ f → f ≤ 14 → 1 ≤ l → l ≤ 64 → 0 ≤ d → d ≤ 15 → 0 ≤ g → g < 32768 → 0 ≤ i → i < 4294967296 → (f = 9 → l % 8 ≠ 0 → x ≠ []) → (∀ y ∈ x,0 ≤ y ∧ y < 256) → x.length ≤ 100 → WOk s:=by
  intro f l g e i r d x C a1 a2 a3 a4 a5 a6 a7 a8 a9 a10 a11 a12 a13
  obtain ⟨h1,h2,h3,h4,h5,h6,h7,h8, -⟩:=C
  subst h1 h2 h3 h5 h7 h8
  exact ⟨a1,a2,a3,a4,hr0,hr1,a5,a6,a7,a8,a9,a10,a11,a12,a13⟩
 have nob : ∀ y ∈ ([] : List Int),(0 : Int) ≤ y ∧ y < 256:=fun y hy => by cases hy
 have sub : ∀ {q : List Int},(∀ x ∈ q,x ∈ p) → Bits q:=fun hq x hx => hp x (hq x hx)
 have hdI : ∀ {H : List Int} {e r : Bool} {i : Int},Hd H e r i → (∀ x ∈ H,x ∈ p) → 0 ≤ i ∧ i < 4294967296:=by
  intro H e r i hh hq
  cases hh with
  | base a r z I h =>
   have hI : Bits I:=sub (fun x hx => hq x (by simp [hx]))
   exact ⟨(V_range hI).1,V_lt hI (n:=32) (by omega) (by decide)⟩
  | ext a r q z y I J h k =>
   have hI : Bits (I ++ J):=sub (fun x hx => hq x (by rcases List.mem_append.1 hx with h2 | h2 <;> simp [h2]))
   exact ⟨(V_range hI).1,V_lt hI (n:=32) (by simp;omega) (by decide)⟩
 have dB : ∀ {D : List Int},D.length ≤ 4 → (∀ x ∈ D,x ∈ p) → 0 ≤ V D ∧ V D ≤ 15:=by
  intro D hd hq
  have h1:=V_lt (sub hq) hd (m:=16) (by decide)
  exact ⟨(V_range (sub hq)).1,by omega⟩
 have gB : ∀ {C : List Int},C.length ≤ 15 → (∀ x ∈ C,x ∈ p) → 0 ≤ V C ∧ V C < 32768:=by
  intro C hd hq
  exact ⟨(V_range (sub hq)).1,V_lt (sub hq) hd (m:=32768) (by decide)⟩
 cases h with
 | sof => exact mk (core_is hs rfl) (by decide) (by decide) (by decide) (by decide) (by decide) (by decide) (by decide) (by decide) (by decide) (by decide) (fun h => absurd h (by decide)) nob (by simp)
 | ida a I h =>
  have hI : Bits I:=sub (fun x hx => by simp [hx])
  exact mk (core_is hs rfl) (by decide) (by decide) (by omega) (by omega) (by decide) (by decide) (by decide) (by decide) (V_range hI).1 (V_lt hI (n:=32) (by omega) (by decide)) (fun h => absurd h (by decide)) nob (by simp)
 | rtr a I h =>
  have hI : Bits I:=sub (fun x hx => by simp [hx])
  exact mk (core_is hs rfl) (by decide) (by decide) (by omega) (by omega) (by decide) (by decide) (by decide) (by decide) (V_range hI).1 (V_lt hI (n:=32) (by omega) (by decide)) (fun h => absurd h (by decide)) nob (by simp)
 | ide a r I h =>
  have hI : Bits I:=sub (fun x hx => by simp [hx])
  exact mk (core_is hs rfl) (by decide) (by decide) (by omega) (by omega) (by decide) (by decide) (by decide) (by decide) (V_range hI).1 (V_lt hI (n:=32) (by omega) (by decide)) (fun h => absurd h (by decide)) nob (by simp)
 | idb a r I J h k =>
  have hI : Bits (I ++ J):=sub (fun x hx => by rcases List.mem_append.1 hx with h2 | h2 <;> simp [h2])
  exact mk (core_is hs rfl) (by decide) (by decide) (by omega) (by omega) (by decide) (by decide) (by decide) (by decide) (V_range hI).1 (V_lt hI (n:=32) (by simp;omega) (by decide)) (fun h => absurd h (by decide)) nob (by simp)
 | rtrx a r I J h k =>
  have hI : Bits (I ++ J):=sub (fun x hx => by rcases List.mem_append.1 hx with h2 | h2 <;> simp [h2])
  exact mk (core_is hs rfl) (by decide) (by decide) (by omega) (by omega) (by decide) (by decide) (by decide) (by decide) (V_range hI).1 (V_lt hI (n:=32) (by simp;omega) (by decide)) (fun h => absurd h (by decide)) nob (by simp)
 | resx a r q I J Z h k z =>
  have hI : Bits (I ++ J):=sub (fun x hx => by rcases List.mem_append.1 hx with h2 | h2 <;> simp [h2])
  exact mk (core_is hs rfl) (by decide) (by decide) (by omega) (by omega) (by decide) (by decide) (by decide) (by decide) (V_range hI).1 (V_lt hI (n:=32) (by simp;omega) (by decide)) (fun h => absurd h (by decide)) nob (by simp)
 | resb a r I h =>
  have hI : Bits I:=sub (fun x hx => by simp [hx])
  exact mk (core_is hs rfl) (by decide) (by decide) (by omega) (by omega) (by decide) (by decide) (by decide) (by decide) (V_range hI).1 (V_lt hI (n:=32) (by omega) (by decide)) (fun h => absurd h (by decide)) nob (by simp)
 | dlc H D e r i h d =>
  obtain ⟨i0,i1⟩:=hdI h (fun x hx => by simp [hx])
  obtain ⟨d0,d1⟩:=dB (D:=D) (by omega) (fun x hx => by simp [hx])
  exact mk (core_is hs rfl) (by decide) (by decide) (by omega) (by omega) d0 d1 (by decide) (by decide) i0 i1 (fun h => absurd h (by decide)) nob (by simp)
 | data H D X e r i h d x =>
  obtain ⟨i0,i1⟩:=hdI h (fun x hx => by simp [hx])
  obtain ⟨d0,d1⟩:=dB (D:=D) (by omega) (fun x hx => by simp [hx])
  have hr:=dataB_range (r:=r) d0
  have hlen:=bytesB_length X
  exact mk (core_is hs rfl) (by decide) (by decide) (by omega) (by omega) d0 d1 (by decide) (by decide) i0 i1 (fun _ hne hx => by rw [hx] at hlen;simp at hlen;omega) (bytesB_range X) (by omega)
 | crc H D X C e r i h d x c =>
  obtain ⟨i0,i1⟩:=hdI h (fun x hx => by simp [hx])
  obtain ⟨d0,d1⟩:=dB (D:=D) (by omega) (fun x hx => by simp [hx])
  obtain ⟨g0,g1⟩:=gB (C:=C) (by omega) (fun x hx => by simp [hx])
  have hr:=dataB_range (r:=r) d0
  have hlen:=bytesB_length X
  exact mk (core_is hs rfl) (by decide) (by decide) (by omega) (by omega) d0 d1 g0 g1 i0 i1 (fun h => absurd h (by decide)) (bytesB_range X) (by omega)
 | del H D X C T e r i h d x c t =>
  obtain ⟨i0,i1⟩:=hdI h (fun x hx => by simp [hx])
  obtain ⟨d0,d1⟩:=dB (D:=D) (by omega) (fun x hx => by simp [hx])
  obtain ⟨g0,g1⟩:=gB (C:=C) (by omega) (fun x hx => by simp [hx])
  have hr:=dataB_range (r:=r) d0
  have hlen:=bytesB_length X
  exact mk (core_is hs rfl) (by omega) (by omega) (by omega) (by omega) d0 d1 g0 g1 i0 i1 (fun h => absurd h (by omega)) (bytesB_range X) (by omega)
 | eof H D X C T e r i h d x c t3 t =>
  obtain ⟨i0,i1⟩:=hdI h (fun x hx => by simp [hx])
  obtain ⟨d0,d1⟩:=dB (D:=D) (by omega) (fun x hx => by simp [hx])
  obtain ⟨g0,g1⟩:=gB (C:=C) (by omega) (fun x hx => by simp [hx])
  have hr:=dataB_range (r:=r) d0
  have hlen:=bytesB_length X
  exact mk (core_is hs rfl) (by omega) (by omega) (by omega) (by omega) d0 d1 g0 g1 i0 i1 (fun h => absurd h (by omega)) (bytesB_range X) (by omega)
def codeL (s : WS) (b : Int) : Int :=
 if s.field = 1 then (if b = 1 then 4 else 0)
 else if s.field = 11 then (if b = 0 then 4 else 0)
 else if s.field = 13 then (if b = 0 then 4 else if crcOkW s = true then 0 else 5)
 else if s.field = 14 then (if 1 < s.left ∧ b = 0 then 4 else if s.left = 2 then 1 else if s.left = 1 ∧ b = 0 then 6 else if s.left = 1 then 2 else 0)
 else 0
theorem code_plain (s : WS) (b : Int) (h0 : s.code = 0) : (plainW s b).code = codeL s b:=by
 have e1 : (sumW s b).code = 0 ∧ (sumW s b).field = s.field ∧ (sumW s b).left = s.left ∧ (10 < s.field → crcOkW (sumW s b) = crcOkW s):=by
  unfold sumW
  split
  ·exact ⟨h0,rfl,rfl,fun h => by omega⟩
  ·exact ⟨h0,rfl,rfl,fun _ => rfl⟩
 have e2 : (plainW s b).code = (takeW (sumW s b) b).code:=by unfold plainW;rw [nextW_eq]
 rw [e2]
 obtain ⟨a1,a2,a3,a4⟩:=e1
 generalize sumW s b = t at a1 a2 a3 a4 ⊢
 unfold takeW codeL endW
 rw [a2,a3]
 by_cases c1 : s.field = 1
 ·rw [if_pos c1,if_pos c1];split <;> first | rfl | exact a1
 rw [if_neg c1,if_neg c1]
 by_cases c2 : s.field = 2 ∨ s.field = 5
 ·rw [if_pos c2,if_neg (by omega),if_neg (by omega),if_neg (by omega)];exact a1
 rw [if_neg c2]
 by_cases c3 : s.field = 3 ∨ s.field = 6
 ·rw [if_pos c3,if_neg (by omega),if_neg (by omega),if_neg (by omega)];exact a1
 rw [if_neg c3]
 by_cases c4 : s.field = 4
 ·rw [if_pos c4,if_neg (by omega),if_neg (by omega),if_neg (by omega)];exact a1
 rw [if_neg c4]
 by_cases c8 : s.field = 8
 ·rw [if_pos c8,if_neg (by omega),if_neg (by omega),if_neg (by omega)];exact a1
 rw [if_neg c8]
 by_cases c9 : s.field = 9
 ·rw [if_pos c9,if_neg (by omega),if_neg (by omega),if_neg (by omega)];exact a1
 rw [if_neg c9]
 by_cases c10 : s.field = 10
 ·rw [if_pos c10,if_neg (by omega),if_neg (by omega),if_neg (by omega)];exact a1
 rw [if_neg c10]
 by_cases c11 : s.field = 11
 ·rw [if_pos c11,if_pos c11];split <;> first | rfl | exact a1
 rw [if_neg c11,if_neg c11]
 by_cases c13 : s.field = 13
 ·rw [if_pos c13,if_pos c13,a4 (by omega)]
  by_cases hb : b = 0
  ·rw [if_pos hb,if_pos hb]
  ·rw [if_neg hb,if_neg hb]
   by_cases hc : crcOkW s = true
   ·rw [if_pos hc,if_pos hc];exact a1
   ·rw [if_neg hc,if_neg hc]
 rw [if_neg c13,if_neg c13]
 by_cases c14 : s.field = 14
 ·rw [if_pos c14,if_pos c14]
  by_cases d1 : 1 < s.left ∧ b = 0
  ·rw [if_pos d1,if_pos d1]
  rw [if_neg d1,if_neg d1]
  by_cases d2 : s.left = 2
  ·rw [if_pos d2,if_pos d2]
  rw [if_neg d2,if_neg d2]
  by_cases d3 : s.left = 1 ∧ b = 0
  ·rw [if_pos d3,if_pos d3]
  rw [if_neg d3,if_neg d3]
  by_cases d4 : s.left = 1
  ·rw [if_pos d4,if_pos d4]
  ·rw [if_neg d4,if_neg d4];exact a1
 ·rw [if_neg c14,if_neg c14];exact a1
theorem crcS_crcL {l : List Int} (h : Bits l) : crcS l = (crcL l : Int):=crcI_list l h
theorem crcOk_full {H D X C T : List Int} {e r : Bool} {i : Int} (h : Hd H e r i) (d : D.length = 4) (x : (X.length : Int) = 8 * dataB r (V D)) (c : C.length = 15) (t : T.length ≤ 10) (hb : Bits (H ++ D ++ X ++ C ++ T)) :
  Ev (fun k => spec_l1crcOk.f k (H ++ D ++ X ++ C ++ T)) (crcS (H ++ D ++ X) == V C):=by
 have hD : Bits D:=bits_len hb D (fun x hx => by simp [hx])
 have hC : Bits C:=bits_len hb C (fun x hx => by simp [hx])
 have hB : Bits (H ++ D ++ X):=bits_len hb _ (fun x hx => by simp only [List.mem_append] at hx ⊢;exact .inl (.inl hx))
 have hl:=hd_len h
 have hH : H.length = 15 ∨ H.length = 35:=by rw [hl];split <;> omega
 have hr:=dataB_range (r:=r) (V_range hD).1
 have hlay:=lay_full (R:=X ++ C ++ T) h d hD (by simp;omega)
 rw [← List.append_assoc, ← List.append_assoc] at hlay
 have hlen : (H ++ D ++ X ++ C ++ T).length = (H ++ D ++ X).length + 15 + T.length:=by simp [c];omega
 have hlB : ((H ++ D ++ X).length : Int) = (H.length : Int) + 4 + 8 * dataB r (V D):=by simp [d];omega
 have hlB2 : (H ++ D ++ X).length ≤ 103:=by omega
 unfold spec_l1crcOk.f
 refine Ev.bind hlay ?_
 simp only []
 rw [← hlB]
 generalize hE : H ++ D ++ X = B at *
 have w15 : wrap64 ((B.length : Int) + 15) = (B.length : Int) + 15:=w64 (by omega) (by omega)
 refine ev_neg (by omega) ?_
 rw [w15,decide_eq_false (by omega)]
 have t1 : (B ++ C ++ T).take ((B.length : Int).toNat) = B:=by rw [Int.toNat_natCast,List.append_assoc,List.take_left]
 have t2 : ((B ++ C ++ T).take (((B.length : Int) + 15).toNat)).drop ((B.length : Int).toNat) = C:=by
  rw [show ((B.length : Int) + 15).toNat = (B ++ C).length by simp [c];omega,List.take_left,Int.toNat_natCast,List.drop_left]
 have hcrc : Ev (fun k => spec_Crc15.f k (strOfNums B)) (crcS B):=by
  have h2:=specCrc15_ev (strOfNums B) (by rw [strOfNums_size];omega)
  have : crcV (strOfNums B) = crcS B:=by
   unfold crcV
   rw [if_pos ⟨by rw [strOfNums_size];omega,isBits_str hB⟩,bytes_str B hB.range,crcS_crcL hB]
  rw [this] at h2
  exact h2
 refine Ev.step (f:=fun k => (spec_Crc15.f k (strOfNums B)).bind fun t285 => (spec_l1val.f k (strOfNums C)).bind fun t287 => some (t285 == t287)) (fun k => ?_) (Ev.bind hcrc (Ev.bind (val_ev C hC (by omega)) (Ev.now _)))
 simp only [spec_l1crcOk.j0]
 rw [if_neg (by decide),if_pos (by omega),if_pos (by omega),w15,t1]
 congr 1
 funext t285
 rw [if_pos (by omega),if_pos (by omega),t2]
theorem look_ev {p : List Int} {c : Int × Int × Int × Bool × Int × Bool × Int × List Int} {m : Int} (h : Ph p c m) (hp : Bits p) (s : WS) (hs : core s = c) (hm : s.sum = m) (b : Int) (hb : b = 48 ∨ b = 49) : Ev (fun k => spec_l1look.f k p b) (codeL s (b - 48)):=by
 have hf:=field_ev h hp
 have hfs : s.field = c.1:=by rw [← hs];rfl
 rw [← hfs] at hf
 unfold spec_l1look.f codeL
 refine Ev.bind hf ?_
 by_cases c1 : s.field = 1
 ·refine ev_pos c1 ?_
  rw [if_pos c1]
  rcases hb with rfl | rfl
  ·exact ev_neg (by decide) (Ev.now _)
  ·exact ev_pos rfl (Ev.now _)
 refine ev_neg c1 ?_
 rw [if_neg c1]
 by_cases c11 : s.field = 11
 ·refine ev_pos c11 ?_
  rw [if_pos c11]
  rcases hb with rfl | rfl
  ·exact ev_pos rfl (Ev.now _)
  ·exact ev_neg (by decide) (Ev.now _)
 refine ev_neg c11 ?_
 rw [if_neg c11]
 by_cases c13 : s.field = 13
 ·refine ev_pos c13 ?_
  rw [if_pos c13]
  rcases hb with rfl | rfl
  ·exact ev_pos rfl (Ev.now _)
  ·refine ev_neg (by decide) ?_
   have hk : Ev (fun k => spec_l1crcOk.f k p) (crcOkW s):=by
    cases h with
    | del H D X C T e r i h d x cc t =>
     have hC:=core_is hs hm
     have:=crcOk_full h d x cc (by omega) hp
     have e1 : crcOkW s = (crcS (H ++ D ++ X) == V C):=by unfold crcOkW;rw [hC.m,hC.g,c13];rfl
     rw [e1];exact this
    | _ => exfalso;first | (have:=(core_is hs hm).f;omega) | omega
   refine Ev.bind hk ?_
   cases hw : crcOkW s with
   | true => exact ev_pos rfl (Ev.now _)
   | false => exact ev_neg (by decide) (Ev.now _)
 refine ev_neg c13 ?_
 rw [if_neg c13]
 by_cases c14 : s.field = 14
 ·refine ev_pos c14 ?_
  rw [if_pos c14]
  cases h with
  | eof H D X C T e r i h d x cc t3 t =>
   have hC:=core_is hs hm
   have hD : Bits D:=bits_len hp D (fun x hx => by simp [hx])
   have hl:=hd_len h
   have hH : H.length = 15 ∨ H.length = 35:=by rw [hl];split <;> omega
   have hr:=dataB_range (r:=r) (V_range hD).1
   have hlay:=lay_full (R:=X ++ C ++ T) h d hD (by simp;omega)
   rw [← List.append_assoc, ← List.append_assoc] at hlay
   have hlen : ((H ++ D ++ X ++ C ++ T).length : Int) = (H.length : Int) + 4 + 8 * dataB r (V D) + 15 + T.length:=by simp [d,cc];omega
   have hleft:=hC.l
   refine Ev.bind hlay ?_
   simp only []
   have ew : wrap64 (wrap64 (((H ++ D ++ X ++ C ++ T).length : Int) - ((H.length : Int) + 4 + 8 * dataB r (V D))) - 18) = (T.length : Int) - 3:=by unfold wrap64;omega
   rw [ew]
   by_cases c6 : (T.length : Int) - 3 < 6
   ·refine ev_pos c6 ?_
    rcases hb with rfl | rfl
    ·refine Ev.step (f:=fun _ => some 4) (fun k => ?_) ?_
     ·simp only [spec_l1look.j0];rw [if_pos (by decide)]
     ·rw [if_pos ⟨by omega,by decide⟩];exact Ev.now _
    ·rw [if_neg (by omega)]
     by_cases c5 : (T.length : Int) - 3 = 5
     ·refine Ev.step (f:=fun _ => some 1) (fun k => ?_) ?_
      ·simp only [spec_l1look.j0];rw [if_neg (by decide),if_pos c5]
      ·rw [if_pos (by omega)];exact Ev.now _
     ·refine Ev.step (f:=fun k => spec_l1look.j1 k ((T.length : Int) - 3) false) (fun k => ?_) (Ev.step (f:=fun _ => some 0) (fun k => ?_) ?_)
      ·simp only [spec_l1look.j0];rw [if_neg (by decide),if_neg c5,if_neg (by omega)]
      ·simp only [spec_l1look.j1];rw [if_neg (by decide),if_neg (by omega)]
      ·rw [if_neg (by omega),if_neg (by omega),if_neg (by omega)];exact Ev.now _
   ·refine ev_neg c6 ?_
    have c7 : (T.length : Int) - 3 = 6:=by omega
    refine Ev.step (f:=fun k => spec_l1look.j1 k ((T.length : Int) - 3) (b == 48)) (fun k => ?_) ?_
    ·simp only [spec_l1look.j0];rw [if_neg (by decide),if_neg (by omega),if_pos c7]
    ·rcases hb with rfl | rfl
     ·refine Ev.step (f:=fun _ => some 6) (fun k => ?_) ?_
      ·simp only [spec_l1look.j1];rw [if_pos (by decide)]
      ·rw [if_neg (by omega),if_neg (by omega),if_pos ⟨by omega,by decide⟩];exact Ev.now _
     ·refine Ev.step (f:=fun _ => some 2) (fun k => ?_) ?_
      ·simp only [spec_l1look.j1];rw [if_neg (by decide),if_pos c7]
      ·rw [if_neg (by omega),if_neg (by omega),if_neg (by omega),if_pos (by omega)];exact Ev.now _
  | del H D X C T e r i h d x cc t => exfalso;have:=(core_is hs hm).f;omega
  | _ => exfalso;first | (have:=(core_is hs hm).f;omega) | omega
 ·refine ev_neg c14 ?_
  rw [if_neg c14]
  exact Ev.now _
end Go.Proofs.Ytdoclpgciadjaaa.P

namespace Go.Proofs.Ytdoclpgciadjaaa.P
open Go Go.RowKit Go.Proofs.YtdoclpgciadjaaaW.PrintWords
set_option linter.unusedVariables false
structure At (all : List Int) (i : Nat) (s : WS) (p : List Int) : Prop where
 code : s.code = 0 ∨ s.code = 1
 ph : Ph p (core s) s.sum
 bits : Bits p
 r0 : 0 ≤ s.run
 r1 : s.run ≤ 5
 len : p.length ≤ i
 trail : s.field ≤ 11 → ∃ (run : Nat) (last : Int),Trail all i run last ∧ s.run = run ∧ (0 < i → s.level = last)
theorem At.ok {all : List Int} {i : Nat} {s : WS} {p : List Int} (h : At all i s p) : WOk s:=ph_ok h.ph h.bits s rfl h.r0 h.r1
def zeroW : WS:=⟨0,0,0,0,0,0,0,false,0,false,0, []⟩
def startW : WS:=⟨0,1,1,0,0,0,0,false,0,false,0, []⟩
theorem At.start (all : List Int) : At all 0 startW []:=⟨.inl rfl,Ph.sof,(fun x hx => by cases hx),by decide,by decide,by simp,fun _ => ⟨0,0,Trail.zero _ _,rfl,fun h => by omega⟩⟩
theorem plainW_run (s : WS) (b : Int) : (plainW s b).run = s.run ∧ (plainW s b).level = s.level:=by
 have e1 : (sumW s b).run = s.run ∧ (sumW s b).level = s.level:=by unfold sumW;split <;> exact ⟨rfl,rfl⟩
 have e2 : (takeW (sumW s b) b).run = (sumW s b).run ∧ (takeW (sumW s b) b).level = (sumW s b).level:=by
  generalize sumW s b = t
  have e3 : (endW t b).run = t.run ∧ (endW t b).level = t.level:=by unfold endW;(repeat' split) <;> exact ⟨rfl,rfl⟩
  constructor
  ·unfold takeW
   simp only [apply_ite WS.run,e3.1,ite_self]
  ·unfold takeW
   simp only [apply_ite WS.level,e3.2,ite_self]
 unfold plainW
 rw [nextW_eq]
 exact ⟨e2.1.trans e1.1,e2.2.trans e1.2⟩
inductive Step (all : List Int) (i : Nat) (s : WS) (p : List Int) (c : Int) : Prop
 | stop (hd : dueW s = true) (hl : c = s.level) (hc : (hearW s c).code = 3)
 | skip (hd : dueW s = true) (hl : c ≠ s.level) (hc : (hearW s c).code = 0) (ha : At all (i + 1) (hearW s c) p)
 | take (hd : dueW s = false) (hc : (hearW s c).code = codeL s (c - 48)) (ha : (hearW s c).code = 0 ∨ (hearW s c).code = 1 → At all (i + 1) (hearW s c) (p ++ [c]))
theorem codeL_same {s t : WS} (b : Int) (h : core t = core s) (hm : t.sum = s.sum) : codeL t b = codeL s b:=by
 have C:=core_is (s:=t) (f:=s.field) (l:=s.left) (g:=s.got) (e:=s.ext) (i:=s.id) (r:=s.rtr) (d:=s.dlc) (x:=s.data) h hm
 unfold codeL crcOkW
 rw [C.f,C.l,C.g,C.m]
theorem at_step {all : List Int} {i : Nat} {s : WS} {p : List Int} (h : At all i s p) (hi : i < all.length) (hb : Bits all) : Step all i s p (rd all (i : Int)):=by
 have hc : rd all (i : Int) = 48 ∨ rd all (i : Int) = 49:=hb _ (by have:=rd_get all i hi;exact List.mem_of_getElem? this)
 generalize hcc : rd all (i : Int) = c at hc ⊢
 have hr0:=h.r0
 have hr1:=h.r1
 cases hd : dueW s with
 | true =>
  have hf : s.field ≤ 11:=by
   unfold dueW at hd
   simp only [Bool.and_eq_true,decide_eq_true_eq] at hd
   exact hd.2
  have hd0 : dueW { s with code:=0 } = true:=hd
  by_cases hl : c = s.level
  ·refine .stop hd hl ?_
   unfold hearW
   simp only []
   rw [if_pos hd0,if_pos hl]
  ·have e : hearW s c = { s with code:=0,run:=1,level:=c }:=by
    unfold hearW
    simp only []
    rw [if_pos hd0,if_neg hl]
   refine .skip hd hl (by rw [e]) ?_
   rw [e]
   refine ⟨.inl rfl,h.ph,h.bits,(show (0 : Int) ≤ 1 by decide),(show (1 : Int) ≤ 5 by decide),Nat.le_succ_of_le h.len,fun _ => ?_⟩
   obtain ⟨run,last,ht,hrun,hlev⟩:=h.trail hf
   have hi0 : 0 < i:=by
    rcases Nat.eq_zero_or_pos i with h0 | h0
    ·exfalso
     have:=ht.run_le
     unfold dueW at hd
     simp only [Bool.and_eq_true,beq_iff_eq] at hd
     omega
    ·exact h0
   have hn:=ht.next hi
   rw [hcc,if_neg (by rw [← hlev hi0];exact hl)] at hn
   exact ⟨1,c,hn,rfl,fun _ => rfl⟩
 | false =>
  have hd0 : ¬ dueW { s with code:=0 } = true:=by
   have : dueW { s with code:=0 } = dueW s:=rfl
   rw [this,hd];decide
  obtain ⟨s1,e,hcore,hsum,hc0,hrun1,hlow⟩ : ∃ s1 : WS,hearW s c = plainW s1 (c - 48) ∧ core s1 = core s ∧ s1.sum = s.sum ∧ s1.code = 0 ∧ (0 ≤ s1.run ∧ s1.run ≤ 5) ∧ (s.field ≤ 10 → ∃ (run : Nat),Trail all (i + 1) run c ∧ s1.run = run ∧ s1.level = c):=by
   by_cases hf : s.field ≤ 10
   ·obtain ⟨run,last,ht,hrun,hlev⟩:=h.trail (by omega)
    have hr4:=run_le4 hd hf hr1
    have hn:=ht.next hi
    rw [hcc] at hn
    by_cases hm : 0 < s.run ∧ s.level = c
    ·have hi0 : 0 < i:=by have:=ht.run_le;omega
     refine ⟨{ s with code:=0,run:=s.run + 1 }, ?_,rfl,rfl,rfl,⟨by simp only [];omega,by simp only [];omega⟩,fun _ => ⟨run + 1, ?_,by simp only [];omega,hm.2⟩⟩
     ·unfold hearW
      simp only []
      rw [if_neg hd0,if_pos hf,if_pos hm]
     ·rw [if_pos (by rw [← hlev hi0];exact hm.2.symm)] at hn
      exact hn
    ·refine ⟨{ s with code:=0,run:=1,level:=c }, ?_,rfl,rfl,rfl,⟨(show (0 : Int) ≤ 1 by decide),(show (1 : Int) ≤ 5 by decide)⟩,fun _ => ⟨1, ?_,rfl,rfl⟩⟩
     ·unfold hearW
      simp only []
      rw [if_neg hd0,if_pos hf,if_neg hm]
     ·by_cases hz : run = 0
      ·subst hz
       have : (if c = last then 0 + 1 else 1) = 1:=by split <;> rfl
       rw [this] at hn
       exact hn
      ·have hi0 : 0 < i:=by have:=ht.run_le;omega
       rw [if_neg (fun e => hm ⟨by omega,by rw [hlev hi0];exact e.symm⟩)] at hn
       exact hn
   ·refine ⟨{ s with code:=0,run:=0 }, ?_,rfl,rfl,rfl,⟨(show (0 : Int) ≤ 0 by decide),(show (0 : Int) ≤ 5 by decide)⟩,fun h2 => absurd h2 hf⟩
    unfold hearW
    simp only []
    rw [if_neg hd0,if_neg hf]
  have hcode : (hearW s c).code = codeL s (c - 48):=by rw [e,code_plain s1 _ hc0,codeL_same _ hcore hsum]
  refine .take hd hcode (fun hrunning => ?_)
  have hfs : s1.field = s.field:=by have:=congrArg (fun x => x.1) hcore;exact this
  have hls : s1.left = s.left:=by have:=congrArg (fun x => x.2.1) hcore;exact this
  have hend : ¬ (s1.field = 14 ∧ s1.left = 1):=by
   rintro ⟨h1,h2⟩
   rw [hcode] at hrunning
   unfold codeL at hrunning
   rw [if_neg (by omega),if_neg (by omega),if_neg (by omega),if_pos (by omega),if_neg (by omega),if_neg (by omega)] at hrunning
   by_cases hz : c - 48 = 0
   ·rw [if_pos ⟨by omega,hz⟩] at hrunning;omega
   ·rw [if_neg (fun h => hz h.2),if_pos (by omega)] at hrunning;omega
  obtain ⟨c',m',hP,hc',hm'⟩:=ph_step h.ph s1 hcore hsum c hc h.bits hend
  have hpr:=plainW_run s1 (c - 48)
  rw [e] at hrunning ⊢
  refine ⟨hrunning,by rw [hc',hm'];exact hP,h.bits.append (fun x hx => by rw [List.mem_singleton] at hx;rw [hx];exact hc),by rw [hpr.1];exact hrun1.1,by rw [hpr.1];exact hrun1.2,by rw [List.length_append,List.length_singleton];have:=h.len;omega,fun hf11 => ?_⟩
  have hf10 : s.field ≤ 10:=by
   rcases (show 10 < s.field ∨ s.field ≤ 10 by omega) with hlt | hge
   ·exfalso
    have hok:=h.ok
    have f1:=hok.f1
    have hle : s1.field + 1 ≤ (plainW s1 (c - 48)).field ∨ s1.field = 14:=by
     by_cases h14 : s1.field = 14
     ·exact .inr h14
     ·left
      have hleft : s1.left = 1:=by
       have hph:=h.ph
       generalize hg : core s = cc at hph
       generalize s.sum = mm at hph
       cases hph with
       | del H D X C T e r i h d x c t => rw [hls];exact (core_is hg rfl).l
       | eof H D X C T e r i h d x c t3 t => have:=(core_is hg rfl).f;omega
       | _ => exfalso;have:=(core_is hg rfl).f;omega
      have C1 : CoreIs s1 s1.field 1 s1.got s1.ext s1.id s1.rtr s1.dlc s1.data s1.sum:=⟨rfl,hleft,rfl,rfl,rfl,rfl,rfl,rfl,rfl⟩
      have T:=tk_late C1 (by omega) (c - 48)
      have hpl : plainW s1 (c - 48) = nextW (tk s1 (c - 48)):=rfl
      have N:=next_is T (next_over T.l T.f (.inl (by omega)) (.inl (by omega)) rfl)
      rw [hpl,N.f]
      omega
    rcases hle with h1 | h1
    ·omega
    ·-- field 14 stays
     have hl2 : s1.left ≠ 1:=fun h2 => hend ⟨h1,h2⟩
     have C1 : CoreIs s1 14 s1.left s1.got s1.ext s1.id s1.rtr s1.dlc s1.data s1.sum:=⟨h1,rfl,rfl,rfl,rfl,rfl,rfl,rfl,rfl⟩
     have T:=tk_late C1 (by omega) (c - 48)
     have l0:=hok.l0
     have N:=next_is T (next_more T.l (by omega))
     have hpl : plainW s1 (c - 48) = nextW (tk s1 (c - 48)):=rfl
     have : (plainW s1 (c - 48)).field = 14:=by rw [hpl,N.f,T.f]
     omega
   ·exact hge
  obtain ⟨run,ht,hr,hl⟩:=hlow hf10
  exact ⟨run,c,ht,hpr.1.trans hr,fun _ => hpr.2.trans hl⟩
def walkG : List Int → WS → WS
 | [],s => s
 | c :: l,s => if (hearW s c).code = 0 ∨ (hearW s c).code = 1 then walkG l (hearW s c) else if l = [] then hearW s c else { hearW s c with code:=7 }
def walkV (s : ByteArray) : WS:=if s.size ≤ 4000 ∧ isBits s = true then walkG (bytesOf s) startW else { zeroW with code:=8 }
theorem step_next {all : List Int} {i : Nat} {s : WS} {p : List Int} {c : Int} (h : Step all i s p c) (hc : (hearW s c).code = 0 ∨ (hearW s c).code = 1) : ∃ q,At all (i + 1) (hearW s c) q:=by
 cases h with
 | stop hd hl hc2 => omega
 | skip hd hl hc2 ha => exact ⟨p,ha⟩
 | take hd hc2 ha => exact ⟨_,ha hc⟩
theorem bits_of_isBits {s : ByteArray} (h : isBits s = true) : Bits (bytesOf s):=by
 intro x hx
 unfold bytesOf at hx
 obtain ⟨b,hb,rfl⟩:=List.mem_map.1 hx
 unfold isBits at h
 rw [List.all_eq_true] at h
 rcases isBit_cases (h b hb) with rfl | rfl
 ·exact .inl rfl
 ·exact .inr rfl
theorem rd_bytesOf (s : ByteArray) (i : Nat) (h : i < s.size) : rd (bytesOf s) (i : Int) = ((s[i]'h).toNat : Int):=by
 unfold rd bytesOf
 rw [Int.toNat_natCast,List.getD_eq_getElem?_getD,List.getElem?_map,Array.getElem?_toList,Array.getElem?_eq_getElem (show i < s.data.size from h)]
 rfl
end Go.Proofs.Ytdoclpgciadjaaa.P

namespace Go.Proofs.Ytdoclpgciadjaaa.P
open Go.RowKit Go.Proofs.YtdoclpgciadjaaaW.PrintWords Go.Proofs.YtdoclpgciadjaaaW.PrintLast Go.Proofs.YtdoclpgciadjaaaW.PrintMore
set_option linter.unusedVariables false
set_option linter.unusedSimpArgs false
structure WoIn (w wr : World) (p m : Nat) (s : WS) : Prop where
 at_ : ∃ v,WIn w wr p (fun k => m ≤ k) s v
 res : wr.heap[w.heap.size]? = some (objW zeroW (.slice none 0 0))
 size : m ≤ wr.heap.size
theorem walkG_step (l : List Int) (c : Int) (s : WS) (h : (hearW s c).code = 0 ∨ (hearW s c).code = 1) : walkG (c :: l) s = walkG l (hearW s c):=by rw [walkG,if_pos h]
theorem WoIn.next {w wr : World} {p m it n : Nat} {a0 : ByteArray} {s : WS} (h : WoIn w wr p m s) (hit : wr.heap[it]? = some (.stringIter a0 n)) (him : it < m) (hpm : p < m) (hwp : w.heap.size < p) (hwi : w.heap.size ≤ it) (ok : WOk s) (c : Int) (hc : c = 48 ∨ c = 49) :
  Calls Try.prog 134 #[.pointer (some ⟨p,0,none⟩), .int .i32 c] (wr.iterAt it a0 (n + 1)) fun e w' => e = .returned (.tuple #[]) ∧ w'.heap[it]? = some (.stringIter a0 (n + 1)) ∧ WoIn w w' p m (hearW s c):=by
 obtain ⟨v,hi⟩:=h.at_
 have hip : p ≠ it:=fun e => by have h1:=hi.obj;rw [e,hit] at h1;injection h1 with h1;cases h1
 have hir : w.heap.size ≠ it:=fun e => by have h1:=h.res;rw [e,hit] at h1;injection h1 with h1;cases h1
 have hil : w.heap.size ≤ it:=by omega
 have hsz:=Lib.iterAt_size wr it a0 (n + 1)
 have hms:=h.size
 have hiw : WIn w (wr.iterAt it a0 (n + 1)) p (fun k => m ≤ k) s v:=⟨(Lib.iterAt_other wr it p a0 (n + 1) hip).trans hi.obj,R_iterAt hi.row hit (n + 1),Lib.below_iterAt hi.below hil a0 (n + 1),fun k hk => by (try simp only []);omega⟩
 refine (impl_walk_hear.calls p v s c hc (fun k => m ≤ k) w (wr.iterAt it a0 (n + 1)) hiw (Nat.le_of_lt hwp) (by omega) ok).mono ?_
 rintro e w' ⟨rfl,⟨v',ha⟩,ht⟩
 refine ⟨rfl, ?_,⟨v',ha.obj,ha.row, ?_,fun k hk => ?_⟩, ?_, ?_⟩
 ·exact (ht.block (by rw [hsz];exact (Array.getElem?_eq_some_iff.1 hit).1) (by omega)).trans (Lib.iterAt_heap wr it a0 n (n + 1) hit)
 ·exact ht.below hiw.below hiw.below.size (fun k hk => by rcases hk with rfl | hk <;> omega)
 ·have:=ht.size;(try simp only []);omega
 ·exact (ht.block (by rw [hsz];exact (Array.getElem?_eq_some_iff.1 h.res).1) (by omega)).trans ((Lib.iterAt_other wr it _ a0 (n + 1) hir).trans h.res)
 ·have:=ht.size;omega
set_option maxHeartbeats 4000000 in
theorem impl_walkOver.yes (a0 : ByteArray) (w : World) (hsz : a0.size ≤ 4000) (hB0 : isBits a0 = true) :
  Calls Try.prog 81 #[.string a0] w fun e w' => ∃ v,e = .returned (.agg (cellsW (walkG (bytesOf a0) startW) v)) ∧ Kd.R (Kd.int .u8) 5 w' w.heap.size (fun _ => True) v (walkG (bytesOf a0) startW).data ∧ Below w.heap.size w w':=by
 have hbt : Hid (impl_bitText.f a0 4000 = some true):=by
  refine Lib.hid ?_
  unfold impl_bitText.f
  rw [hB0,decide_eq_true (by omega)];rfl
 have HBT:=Lib.hid hB0
 clear hB0
 go_enter Try.func81,Try.ntmps81
 go_wp2_with (fail)
 go_step3
 go_wp2_with (go_at_call 77;refine (impl_bitText.calls _ _ true _ hbt.out).mono ?_;rintro e w1 ⟨rfl,hb1⟩;have HRES : Hid (w1.heap[w.heap.size]? = some (objW zeroW (.slice none 0 0))):=Lib.hid (blk_below (blk_alloc (blk_new w _) _) hb1);have HOBJ : Hid (w1.heap[w.heap.size + 1]? = some (objW zeroW (.slice none 0 0))):=Lib.hid (by have h:=blk_below (blk_new (w.alloc (objW zeroW (.slice none 0 0))) _) hb1;rw [World.size_alloc] at h;exact h);have HB1 : Hid (Below w.heap.size w w1):=Lib.hid (Below.trans (((Below.refl _ _).alloc (Nat.le_refl _) _).alloc (by simp) _) (hb1.mono (by simp;omega)));clear hb1)
 (refine (impl_walk_enter.calls (w.heap.size + 1) _ zeroW 1 _ HOBJ.out (by decide)).mono ?_;intro e w2 hE;have HE:=Lib.hid hE;obtain rfl:=hE.ret;clear hE)
 have HRL : Hid (w.heap.size + 1 < w1.heap.size):=Lib.hid (Array.getElem?_eq_some_iff.1 HOBJ.out).1
 have HRL2 : Hid (w.heap.size + 1 < w2.heap.size):=Lib.hid (Array.getElem?_eq_some_iff.1 HE.out.obj).1
 have HRES2 : Hid (w2.heap[w.heap.size]? = some (objW zeroW (.slice none 0 0))):=Lib.hid ((HE.out.tch.block (by have:=HRL.out;omega) (by omega)).trans HRES.out)
 have HB2 : Hid (Below w.heap.size w w2):=Lib.hid (HE.out.tch.below HB1.out HB1.out.size (fun k hk => by omega))
 go_wp2_with (fail)
 go_step3
 go_wp2_with (fail)
 go_loopw [] (fun wr => ∃ (pos : Nat) (s : WS) (pl : List Int),pos ≤ a0.size ∧ wr.heap[w2.heap.size]? = some (.stringIter a0 pos) ∧ Aside0 (WoIn w wr (w.heap.size + 1) (w2.heap.size + 1) s) ∧ Aside0 (At (bytesOf a0) pos s pl) ∧ Aside0 (walkG ((bytesOf a0).drop pos) s = walkG (bytesOf a0) startW)) (fun wr => a0.size - wr.iterPos w2.heap.size)
 case atStart => exact ⟨0,startW, [],Nat.zero_le _,iter_new w2 a0 0,⟨⟨_,⟨blk_alloc HE.out.obj _,Kd.R_nil _ _ _ _ _,HB2.out.alloc HB2.out.size _,fun k hk => by simpa [World.iter] using hk⟩⟩,blk_alloc HRES2.out _,by simp [World.iter]⟩,⟨At.start _⟩,⟨by rw [List.drop_zero]⟩⟩
 case round =>
  obtain ⟨pos,s,pl,hle,hit,HWO,HAT,HWG⟩:=hrel
  by_cases hp : pos < a0.size
  ·have hbit:=isBits_at HBT.out hp
   have HBits : Hid (Bits (bytesOf a0)):=Lib.hid (bits_of_isBits HBT.out)
   rcases isBit_cases hbit with e | e
   ·have hnx:=fun ty => next_bit_at (P:=Try.prog) _ _ a0 pos ty hit hp (b:=48) (by rw [e];rfl) (by omega)
    have HRD : Hid (rd (bytesOf a0) (pos : Int) = 48):=Lib.hid (by rw [rd_bytesOf a0 pos hp,e];rfl)
    have HN:=Lib.hid (HWO.out.next hit (by omega) (by have:=HRL2.out;omega) (by omega) (by have:=HRL2.out;omega) HAT.out.ok 48 (by omega))
    have HST:=Lib.hid (HRD.out ▸ at_step HAT.out (by rw [bytesOf_length];exact hp) HBits.out)
    have HDR : Hid ((bytesOf a0).drop pos = 48 :: (bytesOf a0).drop (pos + 1)):=Lib.hid (drop_cons a0 pos hp (b:=48) (by rw [e];rfl))
    have HIT:=Lib.hid hit
    clear e hbit hit
    by_cases k0 : (hearW s 48).code = 0
    ·have HNX:=Lib.hid (step_next HST.out (.inl k0))
     have HKK:=Lib.hid k0
     clear k0
     go_wp2_with (go_at_call 134;refine HN.out.mono ?_;rintro e w3 ⟨rfl,hi3,hk3⟩;have HI3:=Lib.hid hi3;have HK3:=Aside0.mk hk3;clear hi3 hk3;obtain ⟨v3,hv3⟩:=HK3.out.at_;have hcode:=cW0 hv3.obj;have hcodef:=fW hv3.obj 0;clear hv3;rw [HKK.out] at hcode)
     go_roundw
     case rel => obtain ⟨pl2,ha2⟩:=HNX.out;exact ⟨pos + 1,hearW s 48,pl2,hp,HI3.out,HK3,⟨ha2⟩,⟨by rw [← HWG.out,HDR.out,walkG_step _ _ _ (.inl HKK.out)]⟩⟩
     case measure => rw [iterPos_at HI3.out,iterPos_at HIT.out];omega
    by_cases k1 : (hearW s 48).code = 1
    ·have HNX:=Lib.hid (step_next HST.out (.inr k1))
     have HKK:=Lib.hid k1
     clear k1
     go_wp2_with (go_at_call 134;refine HN.out.mono ?_;rintro e w3 ⟨rfl,hi3,hk3⟩;have HI3:=Lib.hid hi3;have HK3:=Aside0.mk hk3;clear hi3 hk3;obtain ⟨v3,hv3⟩:=HK3.out.at_;have hcode:=cW0 hv3.obj;have hcodef:=fW hv3.obj 0;clear hv3;rw [HKK.out] at hcode)
     go_roundw
     case rel => obtain ⟨pl2,ha2⟩:=HNX.out;exact ⟨pos + 1,hearW s 48,pl2,hp,HI3.out,HK3,⟨ha2⟩,⟨by rw [← HWG.out,HDR.out,walkG_step _ _ _ (.inr HKK.out)]⟩⟩
     case measure => rw [iterPos_at HI3.out,iterPos_at HIT.out];omega
    have HK0:=Lib.hid k0
    have HK1:=Lib.hid k1
    have b0 : ((hearW s 48).code == 0) = false:=by simp [k0]
    have b1 : ((hearW s 48).code == 1) = false:=by simp [k1]
    clear k0 k1
    by_cases hm : pos + 1 < a0.size
    ·have bm : decide ((pos : Int) < (a0.size : Int) - 1) = true:=decide_eq_true (by omega)
     have HM:=Lib.hid hm
     clear hm
     go_wp2_with (fail)
     (refine HN.out.mono ?_;rintro e w3 ⟨rfl,hi3,hk3⟩;have HK3:=Lib.hid hk3;clear hi3 hk3)
     obtain ⟨vz,hvz⟩:=HK3.out.at_
     obtain ⟨Az,cz,ez⟩:=Kd.R_slice hvz.row
     subst ez
     have HVZ:=Lib.hid hvz
     have hzo:=hvz.obj
     clear hvz
     have hz0:=cW0 hzo
     have hz1:=cW1 hzo
     have hz2:=cW2 hzo
     have hz3:=cW3 hzo
     have hz4:=cW4 hzo
     have hz5:=cW5 hzo
     have hz6:=cW6 hzo
     have hz7:=cW7 hzo
     have hz8:=cW8 hzo
     have hz9:=cW9 hzo
     have hz10:=cW10 hzo
     have hz11:=cW11 hzo
     have hzf0:=fW hzo 0
     have HZO:=Lib.hid hzo
     clear hzo
     have hzr:=HK3.out.res
     have hfr0:=fW hzr 0
     have hfr1:=fW hzr 1
     have hfr2:=fW hzr 2
     have hfr3:=fW hzr 3
     have hfr4:=fW hzr 4
     have hfr5:=fW hzr 5
     have hfr6:=fW hzr 6
     have hfr7:=fW hzr 7
     have hfr8:=fW hzr 8
     have hfr9:=fW hzr 9
     have hfr10:=fW hzr 10
     have hfr11:=fW hzr 11
     have hcr0:=cW0 hzr
     have hcr1:=cW1 hzr
     have hcr2:=cW2 hzr
     have hcr3:=cW3 hzr
     have hcr4:=cW4 hzr
     have hcr5:=cW5 hzr
     have hcr6:=cW6 hzr
     have hcr7:=cW7 hzr
     have hcr8:=cW8 hzr
     have hcr9:=cW9 hzr
     have hcr10:=cW10 hzr
     have hcr11:=cW11 hzr
     have HZR:=Lib.hid hzr
     clear hzr
     go_wp2_with (fail)
     have HV7:=Lib.hid (HVZ.out.put (u := .int .i64 7) (j:=0) (s' := { hearW s 48 with code:=7 }) (by have:=HRL2.out;omega) (by omega) (setW0 HZO.out 7) rfl)
     have HR7:=Lib.hid (((Tch.refl1 w3 (w.heap.size + 1)).one 0 (.int .i64 7)).block (Array.getElem?_eq_some_iff.1 HZR.out).1 (by omega) |>.trans HZR.out)
     rw [Exit.noGoto_ret]
     have HEQ : Hid (({ hearW s 48 with code:=7 } : WS) = walkG (bytesOf a0) startW):=Lib.hid (by rw [← HWG.out,HDR.out,walkG,if_neg (by rintro (h | h);exact HK0.out h;exact HK1.out h),if_neg (by intro h;have:=congrArg List.length h;rw [List.length_drop,bytesOf_length] at this;have:=HM.out;simp at *;omega)])
     have HT:=Lib.hid (put12_tch (w3.setCell ⟨w.heap.size + 1,0,none⟩ (.int .i64 7)) w.heap.size (({ hearW s 48 with code:=7 } : WS)) (.slice Az (({ hearW s 48 with code:=7 } : WS)).data.length cz))
     refine bodyPost_ret (results_cell_row rfl _ _ w.heap.size 116 (cellsW (({ hearW s 48 with code:=7 } : WS)) (.slice Az (({ hearW s 48 with code:=7 } : WS)).data.length cz)) (0,0) _ rfl (put12_obj HR7.out (({ hearW s 48 with code:=7 } : WS)) (.slice Az (({ hearW s 48 with code:=7 } : WS)).data.length cz)) Try.underlying116 rfl (by kernel_rfl)) rfl ?_
     rw [← HEQ.out]
     exact ⟨_,rfl,Kd.R_mono (HT.out.R HV7.out.row (by have:=HRL2.out;intro k hk;omega)) (fun _ _ => trivial),HT.out.below HV7.out.below (Below.size HV7.out.below) (fun k hk => Nat.le_of_eq hk.symm)⟩
    ·have bm : decide ((pos : Int) < (a0.size : Int) - 1) = false:=decide_eq_false (by omega)
     have HM:=Lib.hid hm
     clear hm
     go_wp2_with (fail)
     (refine HN.out.mono ?_;rintro e w3 ⟨rfl,hi3,hk3⟩;have HK3:=Lib.hid hk3;clear hi3 hk3)
     obtain ⟨vz,hvz⟩:=HK3.out.at_
     obtain ⟨Az,cz,ez⟩:=Kd.R_slice hvz.row
     subst ez
     have HVZ:=Lib.hid hvz
     have hzo:=hvz.obj
     clear hvz
     have hz0:=cW0 hzo
     have hz1:=cW1 hzo
     have hz2:=cW2 hzo
     have hz3:=cW3 hzo
     have hz4:=cW4 hzo
     have hz5:=cW5 hzo
     have hz6:=cW6 hzo
     have hz7:=cW7 hzo
     have hz8:=cW8 hzo
     have hz9:=cW9 hzo
     have hz10:=cW10 hzo
     have hz11:=cW11 hzo
     have hzf0:=fW hzo 0
     have HZO:=Lib.hid hzo
     clear hzo
     have hzr:=HK3.out.res
     have hfr0:=fW hzr 0
     have hfr1:=fW hzr 1
     have hfr2:=fW hzr 2
     have hfr3:=fW hzr 3
     have hfr4:=fW hzr 4
     have hfr5:=fW hzr 5
     have hfr6:=fW hzr 6
     have hfr7:=fW hzr 7
     have hfr8:=fW hzr 8
     have hfr9:=fW hzr 9
     have hfr10:=fW hzr 10
     have hfr11:=fW hzr 11
     have hcr0:=cW0 hzr
     have hcr1:=cW1 hzr
     have hcr2:=cW2 hzr
     have hcr3:=cW3 hzr
     have hcr4:=cW4 hzr
     have hcr5:=cW5 hzr
     have hcr6:=cW6 hzr
     have hcr7:=cW7 hzr
     have hcr8:=cW8 hzr
     have hcr9:=cW9 hzr
     have hcr10:=cW10 hzr
     have hcr11:=cW11 hzr
     have HZR:=Lib.hid hzr
     clear hzr
     go_wp2_with (fail)
     rw [Exit.noGoto_ret]
     have HEQ : Hid (hearW s 48 = walkG (bytesOf a0) startW):=Lib.hid (by rw [← HWG.out,HDR.out,walkG,if_neg (by rintro (h | h);exact HK0.out h;exact HK1.out h),if_pos (List.drop_eq_nil_of_le (by rw [bytesOf_length];have:=HM.out;omega))])
     have HT:=Lib.hid (put12_tch (w3) w.heap.size (hearW s 48) (.slice Az (hearW s 48).data.length cz))
     refine bodyPost_ret (results_cell_row rfl _ _ w.heap.size 116 (cellsW (hearW s 48) (.slice Az (hearW s 48).data.length cz)) (0,0) _ rfl (put12_obj HZR.out (hearW s 48) (.slice Az (hearW s 48).data.length cz)) Try.underlying116 rfl (by kernel_rfl)) rfl ?_
     rw [← HEQ.out]
     exact ⟨_,rfl,Kd.R_mono (HT.out.R HVZ.out.row (by have:=HRL2.out;intro k hk;omega)) (fun _ _ => trivial),HT.out.below HVZ.out.below (Below.size HVZ.out.below) (fun k hk => Nat.le_of_eq hk.symm)⟩
   ·have hnx:=fun ty => next_bit_at (P:=Try.prog) _ _ a0 pos ty hit hp (b:=49) (by rw [e];rfl) (by omega)
    have HRD : Hid (rd (bytesOf a0) (pos : Int) = 49):=Lib.hid (by rw [rd_bytesOf a0 pos hp,e];rfl)
    have HN:=Lib.hid (HWO.out.next hit (by omega) (by have:=HRL2.out;omega) (by omega) (by have:=HRL2.out;omega) HAT.out.ok 49 (by omega))
    have HST:=Lib.hid (HRD.out ▸ at_step HAT.out (by rw [bytesOf_length];exact hp) HBits.out)
    have HDR : Hid ((bytesOf a0).drop pos = 49 :: (bytesOf a0).drop (pos + 1)):=Lib.hid (drop_cons a0 pos hp (b:=49) (by rw [e];rfl))
    have HIT:=Lib.hid hit
    clear e hbit hit
    by_cases k0 : (hearW s 49).code = 0
    ·have HNX:=Lib.hid (step_next HST.out (.inl k0))
     have HKK:=Lib.hid k0
     clear k0
     go_wp2_with (go_at_call 134;refine HN.out.mono ?_;rintro e w3 ⟨rfl,hi3,hk3⟩;have HI3:=Lib.hid hi3;have HK3:=Aside0.mk hk3;clear hi3 hk3;obtain ⟨v3,hv3⟩:=HK3.out.at_;have hcode:=cW0 hv3.obj;have hcodef:=fW hv3.obj 0;clear hv3;rw [HKK.out] at hcode)
     go_roundw
     case rel => obtain ⟨pl2,ha2⟩:=HNX.out;exact ⟨pos + 1,hearW s 49,pl2,hp,HI3.out,HK3,⟨ha2⟩,⟨by rw [← HWG.out,HDR.out,walkG_step _ _ _ (.inl HKK.out)]⟩⟩
     case measure => rw [iterPos_at HI3.out,iterPos_at HIT.out];omega
    by_cases k1 : (hearW s 49).code = 1
    ·have HNX:=Lib.hid (step_next HST.out (.inr k1))
     have HKK:=Lib.hid k1
     clear k1
     go_wp2_with (go_at_call 134;refine HN.out.mono ?_;rintro e w3 ⟨rfl,hi3,hk3⟩;have HI3:=Lib.hid hi3;have HK3:=Aside0.mk hk3;clear hi3 hk3;obtain ⟨v3,hv3⟩:=HK3.out.at_;have hcode:=cW0 hv3.obj;have hcodef:=fW hv3.obj 0;clear hv3;rw [HKK.out] at hcode)
     go_roundw
     case rel => obtain ⟨pl2,ha2⟩:=HNX.out;exact ⟨pos + 1,hearW s 49,pl2,hp,HI3.out,HK3,⟨ha2⟩,⟨by rw [← HWG.out,HDR.out,walkG_step _ _ _ (.inr HKK.out)]⟩⟩
     case measure => rw [iterPos_at HI3.out,iterPos_at HIT.out];omega
    have HK0:=Lib.hid k0
    have HK1:=Lib.hid k1
    have b0 : ((hearW s 49).code == 0) = false:=by simp [k0]
    have b1 : ((hearW s 49).code == 1) = false:=by simp [k1]
    clear k0 k1
    by_cases hm : pos + 1 < a0.size
    ·have bm : decide ((pos : Int) < (a0.size : Int) - 1) = true:=decide_eq_true (by omega)
     have HM:=Lib.hid hm
     clear hm
     go_wp2_with (fail)
     (refine HN.out.mono ?_;rintro e w3 ⟨rfl,hi3,hk3⟩;have HK3:=Lib.hid hk3;clear hi3 hk3)
     obtain ⟨vz,hvz⟩:=HK3.out.at_
     obtain ⟨Az,cz,ez⟩:=Kd.R_slice hvz.row
     subst ez
     have HVZ:=Lib.hid hvz
     have hzo:=hvz.obj
     clear hvz
     have hz0:=cW0 hzo
     have hz1:=cW1 hzo
     have hz2:=cW2 hzo
     have hz3:=cW3 hzo
     have hz4:=cW4 hzo
     have hz5:=cW5 hzo
     have hz6:=cW6 hzo
     have hz7:=cW7 hzo
     have hz8:=cW8 hzo
     have hz9:=cW9 hzo
     have hz10:=cW10 hzo
     have hz11:=cW11 hzo
     have hzf0:=fW hzo 0
     have HZO:=Lib.hid hzo
     clear hzo
     have hzr:=HK3.out.res
     have hfr0:=fW hzr 0
     have hfr1:=fW hzr 1
     have hfr2:=fW hzr 2
     have hfr3:=fW hzr 3
     have hfr4:=fW hzr 4
     have hfr5:=fW hzr 5
     have hfr6:=fW hzr 6
     have hfr7:=fW hzr 7
     have hfr8:=fW hzr 8
     have hfr9:=fW hzr 9
     have hfr10:=fW hzr 10
     have hfr11:=fW hzr 11
     have hcr0:=cW0 hzr
     have hcr1:=cW1 hzr
     have hcr2:=cW2 hzr
     have hcr3:=cW3 hzr
     have hcr4:=cW4 hzr
     have hcr5:=cW5 hzr
     have hcr6:=cW6 hzr
     have hcr7:=cW7 hzr
     have hcr8:=cW8 hzr
     have hcr9:=cW9 hzr
     have hcr10:=cW10 hzr
     have hcr11:=cW11 hzr
     have HZR:=Lib.hid hzr
     clear hzr
     go_wp2_with (fail)
     have HV7:=Lib.hid (HVZ.out.put (u := .int .i64 7) (j:=0) (s' := { hearW s 49 with code:=7 }) (by have:=HRL2.out;omega) (by omega) (setW0 HZO.out 7) rfl)
     have HR7:=Lib.hid (((Tch.refl1 w3 (w.heap.size + 1)).one 0 (.int .i64 7)).block (Array.getElem?_eq_some_iff.1 HZR.out).1 (by omega) |>.trans HZR.out)
     rw [Exit.noGoto_ret]
     have HEQ : Hid (({ hearW s 49 with code:=7 } : WS) = walkG (bytesOf a0) startW):=Lib.hid (by rw [← HWG.out,HDR.out,walkG,if_neg (by rintro (h | h);exact HK0.out h;exact HK1.out h),if_neg (by intro h;have:=congrArg List.length h;rw [List.length_drop,bytesOf_length] at this;have:=HM.out;simp at *;omega)])
     have HT:=Lib.hid (put12_tch (w3.setCell ⟨w.heap.size + 1,0,none⟩ (.int .i64 7)) w.heap.size (({ hearW s 49 with code:=7 } : WS)) (.slice Az (({ hearW s 49 with code:=7 } : WS)).data.length cz))
     refine bodyPost_ret (results_cell_row rfl _ _ w.heap.size 116 (cellsW (({ hearW s 49 with code:=7 } : WS)) (.slice Az (({ hearW s 49 with code:=7 } : WS)).data.length cz)) (0,0) _ rfl (put12_obj HR7.out (({ hearW s 49 with code:=7 } : WS)) (.slice Az (({ hearW s 49 with code:=7 } : WS)).data.length cz)) Try.underlying116 rfl (by kernel_rfl)) rfl ?_
     rw [← HEQ.out]
     exact ⟨_,rfl,Kd.R_mono (HT.out.R HV7.out.row (by have:=HRL2.out;intro k hk;omega)) (fun _ _ => trivial),HT.out.below HV7.out.below (Below.size HV7.out.below) (fun k hk => Nat.le_of_eq hk.symm)⟩
    ·have bm : decide ((pos : Int) < (a0.size : Int) - 1) = false:=decide_eq_false (by omega)
     have HM:=Lib.hid hm
     clear hm
     go_wp2_with (fail)
     (refine HN.out.mono ?_;rintro e w3 ⟨rfl,hi3,hk3⟩;have HK3:=Lib.hid hk3;clear hi3 hk3)
     obtain ⟨vz,hvz⟩:=HK3.out.at_
     obtain ⟨Az,cz,ez⟩:=Kd.R_slice hvz.row
     subst ez
     have HVZ:=Lib.hid hvz
     have hzo:=hvz.obj
     clear hvz
     have hz0:=cW0 hzo
     have hz1:=cW1 hzo
     have hz2:=cW2 hzo
     have hz3:=cW3 hzo
     have hz4:=cW4 hzo
     have hz5:=cW5 hzo
     have hz6:=cW6 hzo
     have hz7:=cW7 hzo
     have hz8:=cW8 hzo
     have hz9:=cW9 hzo
     have hz10:=cW10 hzo
     have hz11:=cW11 hzo
     have hzf0:=fW hzo 0
     have HZO:=Lib.hid hzo
     clear hzo
     have hzr:=HK3.out.res
     have hfr0:=fW hzr 0
     have hfr1:=fW hzr 1
     have hfr2:=fW hzr 2
     have hfr3:=fW hzr 3
     have hfr4:=fW hzr 4
     have hfr5:=fW hzr 5
     have hfr6:=fW hzr 6
     have hfr7:=fW hzr 7
     have hfr8:=fW hzr 8
     have hfr9:=fW hzr 9
     have hfr10:=fW hzr 10
     have hfr11:=fW hzr 11
     have hcr0:=cW0 hzr
     have hcr1:=cW1 hzr
     have hcr2:=cW2 hzr
     have hcr3:=cW3 hzr
     have hcr4:=cW4 hzr
     have hcr5:=cW5 hzr
     have hcr6:=cW6 hzr
     have hcr7:=cW7 hzr
     have hcr8:=cW8 hzr
     have hcr9:=cW9 hzr
     have hcr10:=cW10 hzr
     have hcr11:=cW11 hzr
     have HZR:=Lib.hid hzr
     clear hzr
     go_wp2_with (fail)
     rw [Exit.noGoto_ret]
     have HEQ : Hid (hearW s 49 = walkG (bytesOf a0) startW):=Lib.hid (by rw [← HWG.out,HDR.out,walkG,if_neg (by rintro (h | h);exact HK0.out h;exact HK1.out h),if_pos (List.drop_eq_nil_of_le (by rw [bytesOf_length];have:=HM.out;omega))])
     have HT:=Lib.hid (put12_tch (w3) w.heap.size (hearW s 49) (.slice Az (hearW s 49).data.length cz))
     refine bodyPost_ret (results_cell_row rfl _ _ w.heap.size 116 (cellsW (hearW s 49) (.slice Az (hearW s 49).data.length cz)) (0,0) _ rfl (put12_obj HZR.out (hearW s 49) (.slice Az (hearW s 49).data.length cz)) Try.underlying116 rfl (by kernel_rfl)) rfl ?_
     rw [← HEQ.out]
     exact ⟨_,rfl,Kd.R_mono (HT.out.R HVZ.out.row (by have:=HRL2.out;intro k hk;omega)) (fun _ _ => trivial),HT.out.below HVZ.out.below (Below.size HVZ.out.below) (fun k hk => Nat.le_of_eq hk.symm)⟩
  ·have hnx:=fun ty => Lib.run_next_end_at (P:=Try.prog) _ _ a0 pos ty hit hp
   obtain rfl : pos = a0.size:=by omega
   obtain ⟨vz,hvz⟩:=HWO.out.at_
   obtain ⟨Az,cz,ez⟩:=Kd.R_slice hvz.row
   subst ez
   have HVZ:=Lib.hid hvz
   have hzo:=hvz.obj
   clear hvz
   have hz0:=cW0 hzo
   have hz1:=cW1 hzo
   have hz2:=cW2 hzo
   have hz3:=cW3 hzo
   have hz4:=cW4 hzo
   have hz5:=cW5 hzo
   have hz6:=cW6 hzo
   have hz7:=cW7 hzo
   have hz8:=cW8 hzo
   have hz9:=cW9 hzo
   have hz10:=cW10 hzo
   have hz11:=cW11 hzo
   have hzf0:=fW hzo 0
   have HZO:=Lib.hid hzo
   clear hzo
   have hzr:=HWO.out.res
   have hfr0:=fW hzr 0
   have hfr1:=fW hzr 1
   have hfr2:=fW hzr 2
   have hfr3:=fW hzr 3
   have hfr4:=fW hzr 4
   have hfr5:=fW hzr 5
   have hfr6:=fW hzr 6
   have hfr7:=fW hzr 7
   have hfr8:=fW hzr 8
   have hfr9:=fW hzr 9
   have hfr10:=fW hzr 10
   have hfr11:=fW hzr 11
   have hcr0:=cW0 hzr
   have hcr1:=cW1 hzr
   have hcr2:=cW2 hzr
   have hcr3:=cW3 hzr
   have hcr4:=cW4 hzr
   have hcr5:=cW5 hzr
   have hcr6:=cW6 hzr
   have hcr7:=cW7 hzr
   have hcr8:=cW8 hzr
   have hcr9:=cW9 hzr
   have hcr10:=cW10 hzr
   have hcr11:=cW11 hzr
   have HZR:=Lib.hid hzr
   clear hzr
   go_wp2_with (fail)
   rw [Exit.noGoto_ret]
   have HEQ : Hid (s = walkG (bytesOf a0) startW):=Lib.hid (by rw [← HWG.out,List.drop_eq_nil_of_le (by rw [bytesOf_length];exact Nat.le_refl _)];rfl)
   have HT:=Lib.hid (put12_tch (wr) w.heap.size (s) (.slice Az (s).data.length cz))
   refine bodyPost_ret (results_cell_row rfl _ _ w.heap.size 116 (cellsW (s) (.slice Az (s).data.length cz)) (0,0) _ rfl (put12_obj HZR.out (s) (.slice Az (s).data.length cz)) Try.underlying116 rfl (by kernel_rfl)) rfl ?_
   rw [← HEQ.out]
   exact ⟨_,rfl,Kd.R_mono (HT.out.R HVZ.out.row (by have:=HRL2.out;intro k hk;omega)) (fun _ _ => trivial),HT.out.below HVZ.out.below (Below.size HVZ.out.below) (fun k hk => Nat.le_of_eq hk.symm)⟩
theorem impl_walkOver.no (a0 : ByteArray) (w : World) (c : ¬ (a0.size ≤ 4000 ∧ isBits a0 = true)) :
  Calls Try.prog 81 #[.string a0] w fun e w' => ∃ v,e = .returned (.agg (cellsW { zeroW with code:=8 } v)) ∧ Kd.R (Kd.int .u8) 5 w' w.heap.size (fun _ => True) v [] ∧ Below w.heap.size w w':=by
 have hbt : Hid (impl_bitText.f a0 4000 = some false):=by
  refine Lib.hid ?_
  unfold impl_bitText.f
  congr 1
  rw [Bool.and_eq_false_iff]
  by_cases h : isBits a0 = true
  ·exact .inl (decide_eq_false fun h2 => c ⟨by omega,h⟩)
  ·exact .inr (by simpa using h)
 clear c
 go_enter Try.func81,Try.ntmps81
 go_wp2_with (fail)
 go_step3
 go_wp2_with (fail)
 (refine (impl_bitText.calls _ _ false _ hbt.out).mono ?_;rintro e w1 ⟨rfl,hb1⟩;have HRES : Hid (w1.heap[w.heap.size]? = some (objW zeroW (.slice none 0 0))):=Lib.hid (blk_below (blk_alloc (blk_new w _) _) hb1);have HOBJ : Hid (w1.heap[w.heap.size + 1]? = some (objW zeroW (.slice none 0 0))):=Lib.hid (by have h:=blk_below (blk_new (w.alloc (objW zeroW (.slice none 0 0))) _) hb1;rw [World.size_alloc] at h;exact h);have HB1 : Hid (Below w.heap.size w w1):=Lib.hid (Below.trans (((Below.refl _ _).alloc (Nat.le_refl _) _).alloc (by simp) _) (hb1.mono (by simp;omega)));clear hb1)
 have hzo:=HOBJ.out

 have hz0:=cW0 hzo
 have hz1:=cW1 hzo
 have hz2:=cW2 hzo
 have hz3:=cW3 hzo
 have hz4:=cW4 hzo
 have hz5:=cW5 hzo
 have hz6:=cW6 hzo
 have hz7:=cW7 hzo
 have hz8:=cW8 hzo
 have hz9:=cW9 hzo
 have hz10:=cW10 hzo
 have hz11:=cW11 hzo
 have hzf0:=fW hzo 0
 clear hzo
 have hzr:=HRES.out
 have hfr0:=fW hzr 0
 have hfr1:=fW hzr 1
 have hfr2:=fW hzr 2
 have hfr3:=fW hzr 3
 have hfr4:=fW hzr 4
 have hfr5:=fW hzr 5
 have hfr6:=fW hzr 6
 have hfr7:=fW hzr 7
 have hfr8:=fW hzr 8
 have hfr9:=fW hzr 9
 have hfr10:=fW hzr 10
 have hfr11:=fW hzr 11
 have hcr0:=cW0 hzr
 have hcr1:=cW1 hzr
 have hcr2:=cW2 hzr
 have hcr3:=cW3 hzr
 have hcr4:=cW4 hzr
 have hcr5:=cW5 hzr
 have hcr6:=cW6 hzr
 have hcr7:=cW7 hzr
 have hcr8:=cW8 hzr
 have hcr9:=cW9 hzr
 have hcr10:=cW10 hzr
 have hcr11:=cW11 hzr
 clear hzr
 simp only [zeroW] at hz0 hz1 hz2 hz3 hz4 hz5 hz6 hz7 hz8 hz9 hz10 hcr0 hcr1 hcr2 hcr3 hcr4 hcr5 hcr6 hcr7 hcr8 hcr9 hcr10
 go_wp2_with (fail)
 rw [Exit.noGoto_ret]
 have HR7:=Lib.hid (((Tch.refl1 w1 (w.heap.size + 1)).one 0 (.int .i64 8)).block (Array.getElem?_eq_some_iff.1 HRES.out).1 (by omega) |>.trans HRES.out)
 have HB7:=Lib.hid (((Tch.refl1 w1 (w.heap.size + 1)).one 0 (.int .i64 8)).below HB1.out HB1.out.size (fun k hk => by omega))
 have HT:=Lib.hid (put12_tch (w1.setCell ⟨w.heap.size + 1,0,none⟩ (.int .i64 8)) w.heap.size ({ zeroW with code:=8 }) (.slice none 0 0))
 refine bodyPost_ret (results_cell_row rfl _ _ w.heap.size 116 (cellsW ({ zeroW with code:=8 }) (.slice none 0 0)) (0,0) _ rfl (put12_obj HR7.out ({ zeroW with code:=8 }) (.slice none 0 0)) Try.underlying116 rfl (by kernel_rfl)) rfl ?_
 exact ⟨_,rfl,Kd.R_nil _ _ _ _ _,HT.out.below HB7.out (Below.size HB7.out) (fun k hk => Nat.le_of_eq hk.symm)⟩
theorem impl_walkOver.whole (a0 : ByteArray) (w : World) :
  Calls Try.prog 81 #[.string a0] w fun e w' => ∃ v,e = .returned (.agg (cellsW (walkV a0) v)) ∧ Kd.R (Kd.int .u8) 5 w' w.heap.size (fun _ => True) v (walkV a0).data ∧ Below w.heap.size w w':=by
 unfold walkV
 by_cases c : a0.size ≤ 4000 ∧ isBits a0 = true
 ·rw [if_pos c];exact impl_walkOver.yes a0 w c.1 c.2
 ·rw [if_neg c];exact impl_walkOver.no a0 w c
def impl_walkOver.f (a0 : ByteArray) : Option (Int × Int × Int × Int × Int × Int × Int × Bool × Int × Bool × Int × List Int):=some ((walkV a0).code,(walkV a0).field,(walkV a0).left,(walkV a0).run,(walkV a0).level,(walkV a0).sum,(walkV a0).got,(walkV a0).ext,(walkV a0).id,(walkV a0).rtr,(walkV a0).dlc,(walkV a0).data)
theorem impl_walkOver.calls (a0 : ByteArray) (r1 r2 r3 r4 r5 r6 r7 : Int) (r8 : Bool) (r9 : Int) (r10 : Bool) (r11 : Int) (r12 : List Int) (w : World) (h : impl_walkOver.f a0 = some (r1,r2,r3,r4,r5,r6,r7,r8,r9,r10,r11,r12)) :
  Calls Try.prog 81 #[.string a0] w fun e w' => ∃ v12_ : Value,e = .returned (.agg #[.int .i64 r1, .int .i64 r2, .int .i64 r3, .int .i64 r4, .int .i32 r5, .int .i64 r6, .int .i64 r7, .bool r8, .int .u32 r9, .bool r10, .int .i64 r11,v12_]) ∧ Kd.R (Kd.int .u8) 5 w' w.heap.size (fun _ => True) v12_ r12 ∧ Below w.heap.size w w':=by
 unfold impl_walkOver.f at h
 simp only [Option.some.injEq,Prod.mk.injEq] at h
 obtain ⟨rfl,rfl,rfl,rfl,rfl,rfl,rfl,rfl,rfl,rfl,rfl,rfl⟩:=h
 exact impl_walkOver.whole a0 w
end Go.Proofs.Ytdoclpgciadjaaa.P
