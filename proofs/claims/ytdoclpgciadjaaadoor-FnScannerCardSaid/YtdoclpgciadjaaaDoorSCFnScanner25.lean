/- Texts of the proof of CFnScanner, joined. -/
import Derived.Test.YtdoclpgciadjaaaDoorSCFnScanner24
import Derived.Test.YtdoclpgciadjaaaDoorSCFnScanner21
import Derived.Test.YtdoclpgciadjaaaDoorSCFnScanner22
namespace Go.Proofs.YtdoclpgciadjaaaDoor.P
open Go Go.RowKit Go.Proofs.YtdoclpgciadjaaaDoorW.PrintWords
set_option linter.unusedVariables false
@[elab_as_elim] theorem revInd {Q : List Int → Prop} (nil : Q []) (snoc : ∀ l c,Q l → Q (l ++ [c])) : ∀ l,Q l:=by
 intro l
 rw [← List.reverse_reverse l]
 induction l.reverse with
 | nil => exact nil
 | cons c t ih => rw [List.reverse_cons];exact snoc _ _ ih
def V (l : List Int) : Int:=l.foldl (fun v c => 2 * v + (c - 48)) 0
theorem V_snoc (l : List Int) (c : Int) : V (l ++ [c]) = 2 * V l + (c - 48):=by unfold V;rw [List.foldl_append];rfl
theorem V_range {l : List Int} (h : Bits l) : 0 ≤ V l ∧ V l < 2 ^ l.length:=by
 induction l using revInd with
 | nil => exact ⟨by decide,by decide⟩
 | snoc l c ih =>
  obtain ⟨h1,h2⟩:=ih (fun x hx => h x (List.mem_append_left _ hx))
  have hc:=h c (by simp)
  rw [V_snoc,List.length_append,List.length_singleton,Int.pow_succ]
  constructor <;> rcases hc with rfl | rfl <;> omega
theorem V_lt {l : List Int} (h : Bits l) {n : Nat} (hn : l.length ≤ n) {m : Int} (hm : (2 : Int) ^ n = m) : V l < m:=by
 have h1:=(V_range h).2
 have h2 : (2 : Int) ^ l.length ≤ 2 ^ n:=by
  have:=Nat.pow_le_pow_right (show 0 < 2 by decide) hn
  exact_mod_cast this
 omega
def byteStep (st : List Int × Nat) (c : Int) : List Int × Nat:=(if st.2 % 8 = 0 then st.1 ++ [(c - 48) % 256] else st.1.set (st.1.length - 1) ((2 * rd st.1 ((st.1.length : Int) - 1) + (c - 48)) % 256),st.2 + 1)
def bytesB (l : List Int) : List Int:=(l.foldl byteStep ([],0)).1
theorem bytesB_count (l : List Int) : (l.foldl byteStep ([],0)).2 = l.length:=by
 induction l using revInd with
 | nil => rfl
 | snoc l c ih => rw [List.foldl_append,List.length_append,List.length_singleton, ← ih];rfl
theorem bytesB_snoc (l : List Int) (c : Int) : bytesB (l ++ [c]) = if l.length % 8 = 0 then bytesB l ++ [(c - 48) % 256] else (bytesB l).set ((bytesB l).length - 1) ((2 * rd (bytesB l) (((bytesB l).length : Int) - 1) + (c - 48)) % 256):=by
 have:=bytesB_count l
 unfold bytesB
 rw [List.foldl_append,List.foldl_cons,List.foldl_nil,byteStep,this]
theorem bytesB_length (l : List Int) : (bytesB l).length = (l.length + 7) / 8:=by
 induction l using revInd with
 | nil => rfl
 | snoc l c ih =>
  rw [bytesB_snoc,List.length_append,List.length_singleton]
  split
  ·rw [List.length_append,List.length_singleton,ih];omega
  ·rw [List.length_set,ih];omega
theorem bytesB_range (l : List Int) : ∀ x ∈ bytesB l,0 ≤ x ∧ x < 256:=by
 induction l using revInd with
 | nil => intro x hx;cases hx
 | snoc l c ih =>
  intro x hx
  rw [bytesB_snoc] at hx
  split at hx
  ·rcases List.mem_append.1 hx with h | h
   ·exact ih x h
   ·rw [List.mem_singleton] at h;omega
  ·rcases List.mem_or_eq_of_mem_set hx with h | h
   ·exact ih x h
   ·omega
def crcS (l : List Int) : Int:=l.foldl (fun r c => crcI r (c - 48)) 0
theorem crcS_snoc (l : List Int) (c : Int) : crcS (l ++ [c]) = crcI (crcS l) (c - 48):=by unfold crcS;rw [List.foldl_append];rfl
inductive Hd : List Int → Bool → Bool → Int → Prop
 | base (a r z : Int) (I : List Int) (h : I.length = 11) : Hd (a :: I ++ [r,48,z]) false (r == 49) (V I)
 | ext (a r q z y : Int) (I J : List Int) (h : I.length = 11) (k : J.length = 18) : Hd (a :: I ++ [r,49] ++ J ++ [q,z,y]) true (q == 49) (V (I ++ J))
def core (s : WS) : Int × Int × Int × Bool × Int × Bool × Int × List Int:=(s.field,s.left,s.got,s.ext,s.id,s.rtr,s.dlc,s.data)
inductive Ph : List Int → Int × Int × Int × Bool × Int × Bool × Int × List Int → Int → Prop
 | sof : Ph [] (1,1,0,false,0,false,0, []) 0
 | ida (a : Int) (I : List Int) (h : I.length < 11) : Ph (a :: I) (2,11 - I.length,0,false,V I,false,0, []) (crcS (a :: I))
 | rtr (a : Int) (I : List Int) (h : I.length = 11) : Ph (a :: I) (3,1,0,false,V I,false,0, []) (crcS (a :: I))
 | ide (a r : Int) (I : List Int) (h : I.length = 11) : Ph (a :: I ++ [r]) (4,1,0,false,V I,r == 49,0, []) (crcS (a :: I ++ [r]))
 | idb (a r : Int) (I J : List Int) (h : I.length = 11) (k : J.length < 18) : Ph (a :: I ++ [r,49] ++ J) (5,18 - J.length,0,true,V (I ++ J),r == 49,0, []) (crcS (a :: I ++ [r,49] ++ J))
 | rtrx (a r : Int) (I J : List Int) (h : I.length = 11) (k : J.length = 18) : Ph (a :: I ++ [r,49] ++ J) (6,1,0,true,V (I ++ J),r == 49,0, []) (crcS (a :: I ++ [r,49] ++ J))
 | resx (a r q : Int) (I J Z : List Int) (h : I.length = 11) (k : J.length = 18) (z : Z.length < 2) : Ph (a :: I ++ [r,49] ++ J ++ [q] ++ Z) (7,2 - Z.length,0,true,V (I ++ J),q == 49,0, []) (crcS (a :: I ++ [r,49] ++ J ++ [q] ++ Z))
 | resb (a r : Int) (I : List Int) (h : I.length = 11) : Ph (a :: I ++ [r,48]) (7,1,0,false,V I,r == 49,0, []) (crcS (a :: I ++ [r,48]))
 | dlc (H D : List Int) (e r : Bool) (i : Int) (h : Hd H e r i) (d : D.length < 4) : Ph (H ++ D) (8,4 - D.length,0,e,i,r,V D, []) (crcS (H ++ D))
 | data (H D X : List Int) (e r : Bool) (i : Int) (h : Hd H e r i) (d : D.length = 4) (x : (X.length : Int) < 8 * dataB r (V D)) : Ph (H ++ D ++ X) (9,8 * dataB r (V D) - X.length,0,e,i,r,V D,bytesB X) (crcS (H ++ D ++ X))
 | crc (H D X C : List Int) (e r : Bool) (i : Int) (h : Hd H e r i) (d : D.length = 4) (x : (X.length : Int) = 8 * dataB r (V D)) (c : C.length < 15) : Ph (H ++ D ++ X ++ C) (10,15 - C.length,V C,e,i,r,V D,bytesB X) (crcS (H ++ D ++ X))
 | del (H D X C T : List Int) (e r : Bool) (i : Int) (h : Hd H e r i) (d : D.length = 4) (x : (X.length : Int) = 8 * dataB r (V D)) (c : C.length = 15) (t : T.length < 3) : Ph (H ++ D ++ X ++ C ++ T) (11 + T.length,1,V C,e,i,r,V D,bytesB X) (crcS (H ++ D ++ X))
 | eof (H D X C T : List Int) (e r : Bool) (i : Int) (h : Hd H e r i) (d : D.length = 4) (x : (X.length : Int) = 8 * dataB r (V D)) (c : C.length = 15) (t3 : 3 ≤ T.length) (t : T.length < 10) : Ph (H ++ D ++ X ++ C ++ T) (14,10 - T.length,V C,e,i,r,V D,bytesB X) (crcS (H ++ D ++ X))
theorem dataB_range {r : Bool} {d : Int} (h : 0 ≤ d) : 0 ≤ dataB r d ∧ dataB r d ≤ 8:=by unfold dataB;split <;> (try split) <;> omega
structure CoreIs (s : WS) (f l g : Int) (e : Bool) (i : Int) (r : Bool) (d : Int) (x : List Int) (m : Int) : Prop where
 f : s.field = f
 l : s.left = l
 g : s.got = g
 e : s.ext = e
 i : s.id = i
 r : s.rtr = r
 d : s.dlc = d
 x : s.data = x
 m : s.sum = m
theorem CoreIs.core {s : WS} {f l g : Int} {e : Bool} {i : Int} {r : Bool} {d : Int} {x : List Int} {m : Int} (h : CoreIs s f l g e i r d x m) : core s = (f,l,g,e,i,r,d,x) ∧ s.sum = m:=by
 obtain ⟨rfl,rfl,rfl,rfl,rfl,rfl,rfl,rfl,rfl⟩:=h
 exact ⟨rfl,rfl⟩
theorem core_is {s : WS} {f l g : Int} {e : Bool} {i : Int} {r : Bool} {d : Int} {x : List Int} {m : Int} (h : core s = (f,l,g,e,i,r,d,x)) (hm : s.sum = m) : CoreIs s f l g e i r d x m:=by
 unfold P.core at h
 simp only [Prod.mk.injEq] at h
 obtain ⟨h1,h2,h3,h4,h5,h6,h7,h8⟩:=h
 exact ⟨h1,h2,h3,h4,h5,h6,h7,h8,hm⟩
theorem next_is {s : WS} {f l g : Int} {e : Bool} {i : Int} {r : Bool} {d : Int} {x : List Int} {m : Int} (h : CoreIs s f l g e i r d x m) {f' l' : Int} (hn : nextP s = (f',l')) : CoreIs (nextW s) f' l' g e i r d x m:=by
 rw [nextW_eq,hn]
 exact ⟨rfl,rfl,h.g,h.e,h.i,h.r,h.d,h.x,h.m⟩
theorem next_more {s : WS} {l : Int} (h : s.left = l) (hl : 1 < l) : nextP s = (s.field,l - 1):=by unfold nextP;rw [if_pos (by omega),h]
theorem next_over {s : WS} {f l : Int} (h : s.left = 1) (hf : s.field = f) (h4 : f ≠ 4 ∨ s.ext = true) (h9 : f + 1 ≠ 9 ∨ dataB s.rtr s.dlc ≠ 0) (hl : enterL s (f + 1) = l) : nextP s = (f + 1,l):=by
 unfold nextP enterP
 rw [if_neg (by omega),if_neg (by rintro ⟨a,b⟩;rcases h4 with h4 | h4;exact h4 (by omega);rw [b] at h4;cases h4),hf,if_neg (by rintro ⟨a,b⟩;rcases h9 with h9 | h9;exact h9 a;exact h9 b),hl]
def tk (s : WS) (b : Int) : WS:=takeW (sumW s b) b
section
variable {s : WS} {f l g : Int} {e : Bool} {i : Int} {r : Bool} {d : Int} {x : List Int} {m : Int}
theorem CoreIs.of (h : CoreIs s f l g e i r d x m) {f' l' g' : Int} {e' : Bool} {i' : Int} {r' : Bool} {d' : Int} {x' : List Int} {m' : Int} (h1 : f = f') (h2 : l = l') (h3 : g = g') (h4 : e = e') (h5 : i = i') (h6 : r = r') (h7 : d = d') (h8 : x = x') (h9 : m = m') : CoreIs s f' l' g' e' i' r' d' x' m':=by
 subst h1 h2 h3 h4 h5 h6 h7 h8 h9;exact h
theorem sum_in (h : CoreIs s f l g e i r d x m) (hf : f ≤ 9) (b : Int) : sumW s b = { s with sum:=crcI s.sum b }:=by unfold sumW;rw [if_pos (by have:=h.f;omega)]
theorem sum_out (h : CoreIs s f l g e i r d x m) (hf : 9 < f) (b : Int) : sumW s b = s:=by unfold sumW;rw [if_neg (by have:=h.f;omega)]
theorem tk_sof (h : CoreIs s 1 l g e i r d x m) (b : Int) : CoreIs (tk s b) 1 l g e i r d x (crcI m b):=by
 have h0:=h.f
 have e1 : core (tk s b) = core s ∧ (tk s b).sum = crcI s.sum b:=by
  unfold tk takeW;rw [sum_in h (by omega),if_pos (show s.field = 1 from h0)]
  split <;> exact ⟨rfl,rfl⟩
 refine core_is (e1.1.trans h.core.1) (e1.2.trans (by rw [h.m]))
theorem tk_id (h : CoreIs s f l g e i r d x m) (hf : f = 2 ∨ f = 5) (b : Int) : CoreIs (tk s b) f l g e ((2 * i + b) % 4294967296) r d x (crcI m b):=by
 have h0:=h.f
 have e1 : tk s b = { s with sum:=crcI s.sum b,id:=(2 * s.id + b) % 4294967296 }:=by
  unfold tk takeW;rw [sum_in h (by omega),if_neg (show ¬ s.field = 1 by omega),if_pos (show s.field = 2 ∨ s.field = 5 by omega)]
 rw [e1]
 exact ⟨h.f,h.l,h.g,h.e,by simp only [h.i],h.r,h.d,h.x,by simp only [h.m]⟩
theorem tk_rtr (h : CoreIs s f l g e i r d x m) (hf : f = 3 ∨ f = 6) (b : Int) : CoreIs (tk s b) f l g e i (b == 1) d x (crcI m b):=by
 have h0:=h.f
 have e1 : tk s b = { s with sum:=crcI s.sum b,rtr:=b == 1 }:=by
  unfold tk takeW;rw [sum_in h (by omega),if_neg (show ¬ s.field = 1 by omega),if_neg (show ¬ (s.field = 2 ∨ s.field = 5) by omega),if_pos (show s.field = 3 ∨ s.field = 6 by omega)]
 rw [e1]
 exact ⟨h.f,h.l,h.g,h.e,h.i,rfl,h.d,h.x,by simp only [h.m]⟩
theorem tk_ide (h : CoreIs s 4 l g e i r d x m) (b : Int) : CoreIs (tk s b) 4 l g (b == 1) i r d x (crcI m b):=by
 have h0:=h.f
 have e1 : tk s b = { s with sum:=crcI s.sum b,ext:=b == 1 }:=by
  unfold tk takeW;rw [sum_in h (by omega),if_neg (show ¬ s.field = 1 by omega),if_neg (show ¬ (s.field = 2 ∨ s.field = 5) by omega),if_neg (show ¬ (s.field = 3 ∨ s.field = 6) by omega),if_pos (show s.field = 4 from h0)]
 rw [e1]
 exact ⟨h.f,h.l,h.g,rfl,h.i,h.r,h.d,h.x,by simp only [h.m]⟩
theorem tk_res (h : CoreIs s 7 l g e i r d x m) (b : Int) : CoreIs (tk s b) 7 l g e i r d x (crcI m b):=by
 have h0:=h.f
 have e1 : tk s b = { s with sum:=crcI s.sum b }:=by
  unfold tk takeW;rw [sum_in h (by omega),if_neg (show ¬ s.field = 1 by omega),if_neg (show ¬ (s.field = 2 ∨ s.field = 5) by omega),if_neg (show ¬ (s.field = 3 ∨ s.field = 6) by omega),if_neg (show ¬ s.field = 4 by omega),if_neg (show ¬ s.field = 8 by omega),if_neg (show ¬ s.field = 9 by omega),if_neg (show ¬ s.field = 10 by omega),if_neg (show ¬ s.field = 11 by omega),if_neg (show ¬ s.field = 13 by omega),if_neg (show ¬ s.field = 14 by omega)]
 rw [e1]
 exact ⟨h.f,h.l,h.g,h.e,h.i,h.r,h.d,h.x,by simp only [h.m]⟩
theorem tk_dlc (h : CoreIs s 8 l g e i r d x m) (b : Int) : CoreIs (tk s b) 8 l g e i r (2 * d + b) x (crcI m b):=by
 have h0:=h.f
 have e1 : tk s b = { s with sum:=crcI s.sum b,dlc:=2 * s.dlc + b }:=by
  unfold tk takeW;rw [sum_in h (by omega),if_neg (show ¬ s.field = 1 by omega),if_neg (show ¬ (s.field = 2 ∨ s.field = 5) by omega),if_neg (show ¬ (s.field = 3 ∨ s.field = 6) by omega),if_neg (show ¬ s.field = 4 by omega),if_pos (show s.field = 8 from h0)]
 rw [e1]
 exact ⟨h.f,h.l,h.g,h.e,h.i,h.r,by simp only [h.d],h.x,by simp only [h.m]⟩
theorem tk_data (h : CoreIs s 9 l g e i r d x m) (b : Int) : CoreIs (tk s b) 9 l g e i r d (dataW s b) (crcI m b):=by
 have h0:=h.f
 have e1 : tk s b = { s with sum:=crcI s.sum b,data:=dataW s b }:=by
  unfold tk;rw [sum_in h (by omega),takeW9 ({ s with sum:=crcI s.sum b }) b h0];rfl
 rw [e1]
 exact ⟨h.f,h.l,h.g,h.e,h.i,h.r,h.d,rfl,by simp only [h.m]⟩
theorem tk_got (h : CoreIs s 10 l g e i r d x m) (b : Int) : CoreIs (tk s b) 10 l (2 * g + b) e i r d x m:=by
 have h0:=h.f
 have e1 : tk s b = { s with got:=2 * s.got + b }:=by
  unfold tk takeW;rw [sum_out h (by omega),if_neg (show ¬ s.field = 1 by omega),if_neg (show ¬ (s.field = 2 ∨ s.field = 5) by omega),if_neg (show ¬ (s.field = 3 ∨ s.field = 6) by omega),if_neg (show ¬ s.field = 4 by omega),if_neg (show ¬ s.field = 8 by omega),if_neg (show ¬ s.field = 9 by omega),if_pos (show s.field = 10 from h0)]
 rw [e1]
 exact ⟨h.f,h.l,by simp only [h.g],h.e,h.i,h.r,h.d,h.x,h.m⟩
theorem endW_core (s : WS) (b : Int) : core (endW s b) = core s ∧ (endW s b).sum = s.sum:=by unfold endW;(repeat' split) <;> exact ⟨rfl,rfl⟩
theorem tk_late (h : CoreIs s f l g e i r d x m) (hf : 11 ≤ f) (b : Int) : CoreIs (tk s b) f l g e i r d x m:=by
 have h0:=h.f
 have e1 : core (tk s b) = core s ∧ (tk s b).sum = s.sum:=by
  unfold tk takeW;rw [sum_out h (by omega),if_neg (show ¬ s.field = 1 by omega),if_neg (show ¬ (s.field = 2 ∨ s.field = 5) by omega),if_neg (show ¬ (s.field = 3 ∨ s.field = 6) by omega),if_neg (show ¬ s.field = 4 by omega),if_neg (show ¬ s.field = 8 by omega),if_neg (show ¬ s.field = 9 by omega),if_neg (show ¬ s.field = 10 by omega)]
  have:=endW_core s b
  (repeat' split) <;> first | exact ⟨rfl,rfl⟩ | exact this
 exact core_is (e1.1.trans h.core.1) (e1.2.trans h.m)
end
theorem bits_len {p : List Int} (h : Bits p) (q : List Int) (hq : ∀ x ∈ q,x ∈ p) : Bits q:=fun x hx => h x (hq x hx)
theorem dataW_eq {s : WS} {X : List Int} {n : Int} (b : Int) (hx : s.data = bytesB X) (hl : s.left = 8 * n - X.length) (hb : b = 48 ∨ b = 49) : dataW s (b - 48) = bytesB (X ++ [b]):=by
 have hlen:=bytesB_length X
 unfold dataW
 rw [bytesB_snoc,hx]
 by_cases c : X.length % 8 = 0
 ·rw [if_pos c,if_pos (by omega)]
  have hl2 : (bytesB X ++ [(0 : Int)]).length - 1 = (bytesB X).length:=by simp
  have hr : rd (bytesB X ++ [(0 : Int)]) (((bytesB X ++ [(0 : Int)]).length : Int) - 1) = 0:=by
   rw [List.length_append,List.length_singleton,show (((bytesB X).length + 1 : Nat) : Int) - 1 = ((bytesB X).length : Int) by omega,rd_snoc,if_neg (by omega),if_pos rfl]
  simp only [hl2,hr]
  rw [List.set_append_right _ _ (Nat.le_refl _),Nat.sub_self]
  simp
 ·rw [if_neg c,if_neg (by omega)]
theorem ph_step {p : List Int} {c : Int × Int × Int × Bool × Int × Bool × Int × List Int} {m : Int} (h : Ph p c m) (s : WS) (hs : core s = c) (hm : s.sum = m) (b : Int) (hb : b = 48 ∨ b = 49) (hp : Bits p) (hend : ¬ (s.field = 14 ∧ s.left = 1)) :
  ∃ c' m',Ph (p ++ [b]) c' m' ∧ core (plainW s (b - 48)) = c' ∧ (plainW s (b - 48)).sum = m':=by
 have fin : ∀ {q : List Int} {f l g : Int} {e : Bool} {i : Int} {r : Bool} {d : Int} {x : List Int} {m' : Int},p ++ [b] = q → Ph q (f,l,g,e,i,r,d,x) m' → CoreIs (plainW s (b - 48)) f l g e i r d x m' → ∃ c' m',Ph (p ++ [b]) c' m' ∧ core (plainW s (b - 48)) = c' ∧ (plainW s (b - 48)).sum = m':=by
  intro q f l g e i r d x m' hq hP hC
  exact ⟨_,_,hq ▸ hP,hC.core.1,hC.core.2⟩
 have b1 : ((b - 48 : Int) == 1) = (b == 49):=by rcases hb with rfl | rfl <;> rfl
 have hpl : plainW s (b - 48) = nextW (tk s (b - 48)):=rfl
 rw [hpl] at fin ⊢
 cases h with
 | sof =>
  have C:=core_is hs hm
  have T:=tk_sof C (b - 48)
  exact fin rfl (Ph.ida b [] (by decide)) ((next_is T (next_over T.l T.f (.inl (by omega)) (.inl (by omega)) rfl)).of rfl rfl rfl rfl rfl rfl rfl rfl (by rw [show [b] = [] ++ [b] from rfl,crcS_snoc];rfl))
 | ida a I h =>
  have C:=core_is hs hm
  have T:=tk_id C (.inl rfl) (b - 48)
  have hI:=V_lt (bits_len hp I (fun x hx => List.mem_cons_of_mem _ hx)) (n:=20) (by omega) rfl
  have hI0:=(V_range (bits_len hp I (fun x hx => List.mem_cons_of_mem _ hx))).1
  have hv : (2 * V I + (b - 48)) % 4294967296 = V (I ++ [b]):=by rw [V_snoc];omega
  by_cases c : I.length = 10
  ·exact fin rfl (Ph.rtr a (I ++ [b]) (by simp;omega)) ((next_is T (next_over (by rw [T.l];omega) T.f (.inl (by omega)) (.inl (by omega)) rfl)).of rfl rfl rfl rfl hv rfl rfl rfl (crcS_snoc _ _).symm)
  ·exact fin rfl (Ph.ida a (I ++ [b]) (by simp;omega)) ((next_is T (next_more T.l (by omega))).of T.f (by simp;omega) rfl rfl hv rfl rfl rfl (crcS_snoc _ _).symm)
 | rtr a I h =>
  have C:=core_is hs hm
  have T:=tk_rtr C (.inl rfl) (b - 48)
  exact fin rfl (Ph.ide a b I h) ((next_is T (next_over T.l T.f (.inl (by omega)) (.inl (by omega)) rfl)).of rfl rfl rfl rfl rfl b1 rfl rfl (crcS_snoc _ _).symm)
 | ide a r I h =>
  have C:=core_is hs hm
  have T:=tk_ide C (b - 48)
  rcases hb with rfl | rfl
  ·refine fin (q:=a :: I ++ [r,48]) (by simp) (Ph.resb a r I h) ((next_is (f':=7) (l':=1) T ?_).of rfl rfl rfl rfl rfl rfl rfl rfl (by rw [← crcS_snoc];simp))
   unfold nextP enterP
   rw [if_neg (by rw [T.l];omega),if_pos ⟨T.f,T.e⟩,if_neg (fun h => by have:=h.1;omega)]
   unfold enterL
   rw [T.e];rfl
  ·exact fin (q:=a :: I ++ [r,49] ++ []) (by simp) (Ph.idb a r I [] h (by decide)) ((next_is T (next_over T.l T.f (.inr T.e) (.inl (by omega)) rfl)).of rfl rfl rfl rfl (by simp) rfl rfl rfl (by rw [← crcS_snoc];simp))
 | idb a r I J h k =>
  have C:=core_is hs hm
  have T:=tk_id C (.inr rfl) (b - 48)
  have hbij : Bits (I ++ J):=bits_len hp _ (fun x hx => by rcases List.mem_append.1 hx with h2 | h2 <;> simp [h2])
  have hI:=V_lt hbij (n:=29) (by simp;omega) rfl
  have hI0:=(V_range hbij).1
  have hv : (2 * V (I ++ J) + (b - 48)) % 4294967296 = V (I ++ (J ++ [b])):=by rw [← List.append_assoc,V_snoc];omega
  have hcr : crcI (crcS (a :: I ++ [r,49] ++ J)) (b - 48) = crcS (a :: I ++ [r,49] ++ (J ++ [b])):=by rw [← crcS_snoc];simp
  by_cases c : J.length = 17
  ·exact fin (q:=a :: I ++ [r,49] ++ (J ++ [b])) (by simp) (Ph.rtrx a r I (J ++ [b]) h (by simp;omega)) ((next_is T (next_over (by rw [T.l];omega) T.f (.inl (by omega)) (.inl (by omega)) rfl)).of rfl rfl rfl rfl hv rfl rfl rfl hcr)
  ·exact fin (q:=a :: I ++ [r,49] ++ (J ++ [b])) (by simp) (Ph.idb a r I (J ++ [b]) h (by simp;omega)) ((next_is T (next_more T.l (by omega))).of T.f (by simp;omega) rfl rfl hv rfl rfl rfl hcr)
 | rtrx a r I J h k =>
  have C:=core_is hs hm
  have T:=tk_rtr C (.inr rfl) (b - 48)
  refine fin (q:=a :: I ++ [r,49] ++ J ++ [b] ++ []) (by simp) (Ph.resx a r b I J [] h k (by decide)) ((next_is (f':=7) (l':=2) T ?_).of rfl rfl rfl rfl rfl b1 rfl rfl (by rw [← crcS_snoc];simp))
  refine next_over (f:=6) T.l T.f (.inl (by omega)) (.inl (by omega)) ?_
  show enterL _ 7 = 2
  unfold enterL
  rw [T.e];rfl
 | resx a r q I J Z h k z =>
  have C:=core_is hs hm
  have T:=tk_res C (b - 48)
  by_cases c : Z.length = 0
  ·obtain rfl:=List.eq_nil_of_length_eq_zero c
   exact fin (q:=a :: I ++ [r,49] ++ J ++ [q] ++ [b]) (by simp) (Ph.resx a r q I J [b] h k (by simp)) ((next_is T (next_more T.l (by simp))).of T.f (by simp) rfl rfl rfl rfl rfl rfl (by rw [← crcS_snoc];simp))
  ·obtain ⟨z0,rfl⟩ : ∃ z0,Z = [z0]:=List.length_eq_one_iff.1 (by omega)
   exact fin (q:=(a :: I ++ [r,49] ++ J ++ [q,z0,b]) ++ []) (by simp) (Ph.dlc _ [] true (q == 49) _ (Hd.ext a r q z0 b I J h k) (by decide)) ((next_is T (next_over (by rw [T.l];rfl) T.f (.inl (by omega)) (.inl (by omega)) rfl)).of rfl rfl rfl rfl rfl rfl rfl rfl (by rw [← crcS_snoc];simp))
 | resb a r I h =>
  have C:=core_is hs hm
  have T:=tk_res C (b - 48)
  exact fin (q:=(a :: I ++ [r,48,b]) ++ []) (by simp) (Ph.dlc _ [] false (r == 49) _ (Hd.base a r b I h) (by decide)) ((next_is T (next_over T.l T.f (.inl (by omega)) (.inl (by omega)) rfl)).of rfl rfl rfl rfl rfl rfl rfl rfl (by rw [← crcS_snoc];simp))
 | dlc H D e r i h d =>
  have C:=core_is hs hm
  have T:=tk_dlc C (b - 48)
  have hv : 2 * V D + (b - 48) = V (D ++ [b]):=(V_snoc _ _).symm
  have hcr : crcI (crcS (H ++ D)) (b - 48) = crcS (H ++ (D ++ [b])):=by rw [← crcS_snoc];simp
  have hd0 : 0 ≤ V (D ++ [b]):=(V_range (l:=D ++ [b]) (fun x hx => by rcases List.mem_append.1 hx with h2 | h2;exact hp x (List.mem_append_right _ h2);rw [List.mem_singleton] at h2;rw [h2];exact hb)).1
  by_cases c : D.length = 3
  ·have hd4 : (D ++ [b]).length = 4:=by simp;omega
   by_cases cz : dataB r (V (D ++ [b])) = 0
   ·refine fin (q:=H ++ (D ++ [b]) ++ [] ++ []) (by simp) (Ph.crc H (D ++ [b]) [] [] e r i h hd4 (by rw [cz];rfl) (by decide)) ((next_is (f':=10) (l':=15) T ?_).of rfl rfl rfl rfl rfl rfl hv rfl (by rw [hcr];simp))
    unfold nextP enterP
    rw [if_neg (by rw [T.l];omega),if_neg (by rw [T.f];omega),if_pos ⟨by rw [T.f];rfl,by rw [T.r,T.d,hv];exact cz⟩]
   ·have hr:=dataB_range (r:=r) hd0
    refine fin (q:=H ++ (D ++ [b]) ++ []) (by simp) (Ph.data H (D ++ [b]) [] e r i h hd4 (by simp;omega)) ((next_is (f':=9) (l':=8 * dataB r (V (D ++ [b]))) T ?_).of rfl (by simp) rfl rfl rfl rfl hv rfl (by rw [hcr];simp))
    refine next_over (f:=8) (by rw [T.l];omega) T.f (.inl (by omega)) (.inr (by rw [T.r,T.d,hv];exact cz)) ?_
    show enterL _ 9 = _
    unfold enterL
    rw [T.r,T.d,hv];rfl
  ·exact fin (q:=H ++ (D ++ [b])) (by simp) (Ph.dlc H (D ++ [b]) e r i h (by simp;omega)) ((next_is T (next_more T.l (by omega))).of T.f (by simp;omega) rfl rfl rfl rfl hv rfl hcr)
 | data H D X e r i h d x =>
  have C:=core_is hs hm
  have T:=tk_data C (b - 48)
  have hx:=dataW_eq (s:=s) (n:=dataB r (V D)) b C.x C.l hb
  have hcr : crcI (crcS (H ++ D ++ X)) (b - 48) = crcS (H ++ D ++ (X ++ [b])):=by rw [← crcS_snoc];simp
  by_cases c : (X.length : Int) + 1 = 8 * dataB r (V D)
  ·exact fin (q:=H ++ D ++ (X ++ [b]) ++ []) (by simp) (Ph.crc H D (X ++ [b]) [] e r i h d (by simp;omega) (by decide)) ((next_is T (next_over (by rw [T.l];omega) T.f (.inl (by omega)) (.inl (by omega)) rfl)).of rfl rfl rfl rfl rfl rfl rfl hx hcr)
  ·exact fin (q:=H ++ D ++ (X ++ [b])) (by simp) (Ph.data H D (X ++ [b]) e r i h d (by simp;omega)) ((next_is T (next_more T.l (by omega))).of T.f (by simp;omega) rfl rfl rfl rfl rfl hx hcr)
 | crc H D X C0 e r i h d x c =>
  have C:=core_is hs hm
  have T:=tk_got C (b - 48)
  have hv : 2 * V C0 + (b - 48) = V (C0 ++ [b]):=(V_snoc _ _).symm
  by_cases cc : C0.length = 14
  ·exact fin (q:=H ++ D ++ X ++ (C0 ++ [b]) ++ []) (by simp) (Ph.del H D X (C0 ++ [b]) [] e r i h d x (by simp;omega) (by decide)) ((next_is T (next_over (by rw [T.l];omega) T.f (.inl (by omega)) (.inl (by omega)) rfl)).of rfl rfl hv rfl rfl rfl rfl rfl rfl)
  ·exact fin (q:=H ++ D ++ X ++ (C0 ++ [b])) (by simp) (Ph.crc H D X (C0 ++ [b]) e r i h d x (by simp;omega)) ((next_is T (next_more T.l (by omega))).of T.f (by simp;omega) hv rfl rfl rfl rfl rfl rfl)
 | del H D X C0 T0 e r i h d x c t =>
  have C:=core_is hs hm
  have T:=tk_late C (by omega) (b - 48)
  by_cases cc : T0.length = 2
  ·refine fin (q:=H ++ D ++ X ++ C0 ++ (T0 ++ [b])) (by simp) (Ph.eof H D X C0 (T0 ++ [b]) e r i h d x c (by simp;omega) (by simp;omega)) ((next_is (f':=14) (l':=7) T ?_).of rfl (by simp;omega) rfl rfl rfl rfl rfl rfl rfl)
   refine (next_over (f:=13) T.l (by rw [T.f];omega) (.inl (by omega)) (.inl (by omega)) ?_)
   rfl
  ·refine fin (q:=H ++ D ++ X ++ C0 ++ (T0 ++ [b])) (by simp) (Ph.del H D X C0 (T0 ++ [b]) e r i h d x c (by simp;omega)) ((next_is (f':=11 + T0.length + 1) (l':=1) T ?_).of (by simp;omega) rfl rfl rfl rfl rfl rfl rfl rfl)
   refine (next_over (f:=11 + T0.length) T.l T.f (.inl (by omega)) (.inl (by omega)) ?_)
   unfold enterL
   rw [if_neg (by omega),if_neg (by omega),if_neg (by omega),if_neg (by omega),if_neg (by omega),if_neg (by omega),if_neg (by omega)]
 | eof H D X C0 T0 e r i h d x c t3 t =>
  have C:=core_is hs hm
  have T:=tk_late C (by omega) (b - 48)
  have hl:=C.l
  have hf:=C.f
  exact fin (q:=H ++ D ++ X ++ C0 ++ (T0 ++ [b])) (by simp) (Ph.eof H D X C0 (T0 ++ [b]) e r i h d x c (by simp;omega) (by simp;omega)) ((next_is T (next_more T.l (by omega))).of T.f (by simp;omega) rfl rfl rfl rfl rfl rfl rfl)
structure Trail (l : List Int) (n run : Nat) (last : Int) : Prop where
 le : n ≤ l.length
 run_le : run ≤ n
 same : ∀ j,n - run ≤ j → j < n → rd l (j : Int) = last
 other : run < n → rd l ((n - run - 1 : Nat) : Int) ≠ last
 pos : 0 < n → 0 < run
theorem Trail.zero (l : List Int) (last : Int) : Trail l 0 0 last:=⟨Nat.zero_le _,Nat.le_refl _,fun j _ h => absurd h (Nat.not_lt_zero j),fun h => absurd h (Nat.lt_irrefl _),fun h => absurd h (Nat.lt_irrefl _)⟩
theorem Trail.next {l : List Int} {n run : Nat} {last : Int} (h : Trail l n run last) (hn : n < l.length) : Trail l (n + 1) (if rd l (n : Int) = last then run + 1 else 1) (rd l (n : Int)):=by
 have hr:=h.run_le
 by_cases c : rd l (n : Int) = last
 ·rw [if_pos c]
  refine ⟨by omega,by omega,fun j h1 h2 => ?_,fun h1 => ?_,fun _ => by omega⟩
  ·by_cases e : j = n
   ·rw [e]
   ·rw [h.same j (by omega) (by omega),c]
  ·rw [show n + 1 - (run + 1) - 1 = n - run - 1 by omega,c]
   exact h.other (by omega)
 ·rw [if_neg c]
  refine ⟨by omega,by omega,fun j h1 h2 => ?_,fun h1 => ?_,fun _ => by omega⟩
  ·rw [show j = n by omega]
  ·rw [show n + 1 - 1 - 1 = n - 1 by omega]
   have hp:=h.pos (by omega)
   rw [h.same (n - 1) (by omega) (by omega)]
   exact fun e => c e.symm
theorem rd_append (l m : List Int) (j : Nat) (h : j < l.length) : rd (l ++ m) (j : Int) = rd l (j : Int):=by
 unfold rd
 rw [Int.toNat_natCast,List.getD_eq_getElem?_getD,List.getD_eq_getElem?_getD,List.getElem?_append_left h]
theorem rd_last (l : List Int) (c : Int) : rd (l ++ [c]) (l.length : Int) = c:=by
 rw [rd_snoc,if_neg (Nat.lt_irrefl _),if_pos rfl]
theorem Trail.append {l : List Int} {n run : Nat} {last : Int} (h : Trail l n run last) (m : List Int) : Trail (l ++ m) n run last:=by
 have:=h.le
 refine ⟨by rw [List.length_append];omega,h.run_le,fun j h1 h2 => ?_,fun h1 => ?_,h.pos⟩
 ·rw [rd_append l m j (by omega)];exact h.same j h1 h2
 ·rw [rd_append l m _ (by omega)];exact h.other h1
theorem Trail.snoc {l : List Int} {run : Nat} {last : Int} (h : Trail l l.length run last) (c : Int) : Trail (l ++ [c]) (l.length + 1) (if c = last then run + 1 else 1) c:=by
 have h1:=(h.append [c]).next (by simp)
 rw [rd_last] at h1
 exact h1
theorem Trail.five {l : List Int} {n run : Nat} {last : Int} (h : Trail l n run last) (h5 : run ≤ 5) (hn : 5 ≤ n) :
  (run = 5 ↔ (rd l ((n - 1 : Nat) : Int) = rd l ((n - 2 : Nat) : Int) ∧ rd l ((n - 2 : Nat) : Int) = rd l ((n - 3 : Nat) : Int) ∧ rd l ((n - 3 : Nat) : Int) = rd l ((n - 4 : Nat) : Int) ∧ rd l ((n - 4 : Nat) : Int) = rd l ((n - 5 : Nat) : Int))):=by
 have hp:=h.pos (by omega)
 have e1:=h.same (n - 1) (by omega) (by omega)
 constructor
 ·intro e
  subst e
  have e2:=h.same (n - 2) (by omega) (by omega)
  have e3:=h.same (n - 3) (by omega) (by omega)
  have e4:=h.same (n - 4) (by omega) (by omega)
  have e5:=h.same (n - 5) (by omega) (by omega)
  rw [e1,e2,e3,e4,e5]
  exact ⟨rfl,rfl,rfl,rfl⟩
 ·rintro ⟨a1,a2,a3,a4⟩
  rcases Nat.lt_or_ge run 5 with hlt | hge
  ·exfalso
   have ho:=h.other (by omega)
   have hc : run = 1 ∨ run = 2 ∨ run = 3 ∨ run = 4:=by omega
   rcases hc with rfl | rfl | rfl | rfl
   ·exact ho (by rw [show n - 1 - 1 = n - 2 by omega, ← a1,e1])
   ·exact ho (by rw [show n - 2 - 1 = n - 3 by omega, ← a2, ← a1,e1])
   ·exact ho (by rw [show n - 3 - 1 = n - 4 by omega, ← a3, ← a2, ← a1,e1])
   ·exact ho (by rw [show n - 4 - 1 = n - 5 by omega, ← a4, ← a3, ← a2, ← a1,e1])
  ·omega
end Go.Proofs.YtdoclpgciadjaaaDoor.P
namespace Go.Proofs.YtdoclpgciadjaaaDoor.P
open Go.RowKit Go.Proofs.YtdoclpgciadjaaaDoorW.PrintWords Go.Proofs.YtdoclpgciadjaaaDoorW.PrintLast Go.Proofs.YtdoclpgciadjaaaDoorW.PrintMore
set_option linter.unusedVariables false
set_option linter.unusedSimpArgs false
def spec_l1due.f (l0 : List Int) (a1 : Int) : Option (Bool):=if a1 < 5 then (some false) else (if 0 ≤ (wrap64 (a1 - 1)) then (if (wrap64 (a1 - 1)) < (l0.length : Int) then (if 0 ≤ (wrap64 (a1 - 2)) then (if (wrap64 (a1 - 2)) < (l0.length : Int) then (if (rd l0 (wrap64 (a1 - 1))) = (rd l0 (wrap64 (a1 - 2))) then (if 0 ≤ (wrap64 (a1 - 3)) then (if (wrap64 (a1 - 3)) < (l0.length : Int) then (if (rd l0 (wrap64 (a1 - 2))) = (rd l0 (wrap64 (a1 - 3))) then (if 0 ≤ (wrap64 (a1 - 4)) then (if (wrap64 (a1 - 4)) < (l0.length : Int) then (if (rd l0 (wrap64 (a1 - 3))) = (rd l0 (wrap64 (a1 - 4))) then (if 0 ≤ (wrap64 (a1 - 5)) then (if (wrap64 (a1 - 5)) < (l0.length : Int) then (some ((rd l0 (wrap64 (a1 - 4))) == (rd l0 (wrap64 (a1 - 5))))) else (none)) else (none)) else (some false)) else (none)) else (none)) else (some false)) else (none)) else (none)) else (some false)) else (none)) else (none)) else (none)) else (none))
set_option maxHeartbeats 8000000 in
set_option maxRecDepth 100000 in
theorem spec_l1due.calls (A0 : Option Addr) (c0 : Nat) (l0 : List Int) (a1 : Int) (r : Bool) (w : World) (hr0 : Kd.C (Kd.int .u8) w A0 l0.length l0) (hc0 : l0.length ≤ c0) (h : spec_l1due.f l0 a1 = some r) :
  Calls Tryd.prog 66 #[.slice A0 l0.length c0, .int .i64 a1] w fun e w' => e = .returned (.bool r) ∧ Drawn0 w w':=by
 have HR0:=Aside0.mk hr0
 have HC0:=Aside0.mk hc0
 clear hr0 hc0
 have H : (if a1 < 5 then (some false) else (if 0 ≤ (wrap64 (a1 - 1)) then (if (wrap64 (a1 - 1)) < (l0.length : Int) then (if 0 ≤ (wrap64 (a1 - 2)) then (if (wrap64 (a1 - 2)) < (l0.length : Int) then (if (rd l0 (wrap64 (a1 - 1))) = (rd l0 (wrap64 (a1 - 2))) then (if 0 ≤ (wrap64 (a1 - 3)) then (if (wrap64 (a1 - 3)) < (l0.length : Int) then (if (rd l0 (wrap64 (a1 - 2))) = (rd l0 (wrap64 (a1 - 3))) then (if 0 ≤ (wrap64 (a1 - 4)) then (if (wrap64 (a1 - 4)) < (l0.length : Int) then (if (rd l0 (wrap64 (a1 - 3))) = (rd l0 (wrap64 (a1 - 4))) then (if 0 ≤ (wrap64 (a1 - 5)) then (if (wrap64 (a1 - 5)) < (l0.length : Int) then (some ((rd l0 (wrap64 (a1 - 4))) == (rd l0 (wrap64 (a1 - 5))))) else (none)) else (none)) else (some false)) else (none)) else (none)) else (some false)) else (none)) else (none)) else (some false)) else (none)) else (none)) else (none)) else (none))) = some r:=h
 clear h
 by_cases c3 : a1 < 5
 ·rw [if_pos c3] at H
  have c3b0 : decide (a1 < 5) = true:=decide_eq_true c3
  clear c3
  obtain rfl:=Option.some.inj H
  go_enter Tryd.func66,Tryd.ntmps66
  go_wp2
  repeat (go_quiet (fail);try go_wp2)
  go_ret
  exact ⟨by first | rfl | (simp;done) | (simp [*];done),by repeat (first | exact Drawn0.refl _ | apply Drawn0.step)⟩
 ·rw [if_neg c3] at H
  have c3b0 : decide (a1 < 5) = false:=decide_eq_false c3
  clear c3
  obtain ⟨ji4,hji4⟩ : ∃ j_ : Int,(wrap64 (a1 - 1)) = j_:=⟨_,rfl⟩
  replace H : (if 0 ≤ (ji4) then (if (ji4) < (l0.length : Int) then (if 0 ≤ (wrap64 (a1 - 2)) then (if (wrap64 (a1 - 2)) < (l0.length : Int) then (if (rd l0 (ji4)) = (rd l0 (wrap64 (a1 - 2))) then (if 0 ≤ (wrap64 (a1 - 3)) then (if (wrap64 (a1 - 3)) < (l0.length : Int) then (if (rd l0 (wrap64 (a1 - 2))) = (rd l0 (wrap64 (a1 - 3))) then (if 0 ≤ (wrap64 (a1 - 4)) then (if (wrap64 (a1 - 4)) < (l0.length : Int) then (if (rd l0 (wrap64 (a1 - 3))) = (rd l0 (wrap64 (a1 - 4))) then (if 0 ≤ (wrap64 (a1 - 5)) then (if (wrap64 (a1 - 5)) < (l0.length : Int) then (some ((rd l0 (wrap64 (a1 - 4))) == (rd l0 (wrap64 (a1 - 5))))) else (none)) else (none)) else (some false)) else (none)) else (none)) else (some false)) else (none)) else (none)) else (some false)) else (none)) else (none)) else (none)) else (none)) = some r:=by first | (rw [hji4] at H;exact H) | (simp only [hji4] at H ⊢;exact H)
  have hji4w : (IntKind.i64.wrap (a1 - 1)) = ji4:=(i64_w _).trans hji4
  by_cases c5 : 0 ≤ (ji4)
  ·rw [if_pos c5] at H
   have c5b0 : decide (0 ≤ (ji4)) = true:=decide_eq_true c5
   clear c5
   by_cases c6 : (ji4) < (l0.length : Int)
   ·rw [if_pos c6] at H
    have c6b0 : decide ((ji4) < (l0.length : Int)) = true:=decide_eq_true c6
    clear c6
    obtain ⟨ji7,hji7⟩ : ∃ j_ : Int,(wrap64 (a1 - 2)) = j_:=⟨_,rfl⟩
    replace H : (if 0 ≤ (ji7) then (if (ji7) < (l0.length : Int) then (if (rd l0 (ji4)) = (rd l0 (ji7)) then (if 0 ≤ (wrap64 (a1 - 3)) then (if (wrap64 (a1 - 3)) < (l0.length : Int) then (if (rd l0 (ji7)) = (rd l0 (wrap64 (a1 - 3))) then (if 0 ≤ (wrap64 (a1 - 4)) then (if (wrap64 (a1 - 4)) < (l0.length : Int) then (if (rd l0 (wrap64 (a1 - 3))) = (rd l0 (wrap64 (a1 - 4))) then (if 0 ≤ (wrap64 (a1 - 5)) then (if (wrap64 (a1 - 5)) < (l0.length : Int) then (some ((rd l0 (wrap64 (a1 - 4))) == (rd l0 (wrap64 (a1 - 5))))) else (none)) else (none)) else (some false)) else (none)) else (none)) else (some false)) else (none)) else (none)) else (some false)) else (none)) else (none)) = some r:=by first | (rw [hji7] at H;exact H) | (simp only [hji7] at H ⊢;exact H)
    have hji7w : (IntKind.i64.wrap (a1 - 2)) = ji7:=(i64_w _).trans hji7
    by_cases c8 : 0 ≤ (ji7)
    ·rw [if_pos c8] at H
     have c8b0 : decide (0 ≤ (ji7)) = true:=decide_eq_true c8
     clear c8
     by_cases c9 : (ji7) < (l0.length : Int)
     ·rw [if_pos c9] at H
      have c9b0 : decide ((ji7) < (l0.length : Int)) = true:=decide_eq_true c9
      clear c9
      by_cases c10 : (rd l0 (ji4)) = (rd l0 (ji7))
      ·rw [if_pos c10] at H
       have c10b0 : ((rd l0 (ji4)) == (rd l0 (ji7))) = true:=beq_iff_eq.mpr c10
       have c10b1 : ((rd l0 (ji4)) != (rd l0 (ji7))) = false:=bne_eq_false_iff_eq.mpr c10
       clear c10
       obtain ⟨ji11,hji11⟩ : ∃ j_ : Int,(wrap64 (a1 - 3)) = j_:=⟨_,rfl⟩
       replace H : (if 0 ≤ (ji11) then (if (ji11) < (l0.length : Int) then (if (rd l0 (ji7)) = (rd l0 (ji11)) then (if 0 ≤ (wrap64 (a1 - 4)) then (if (wrap64 (a1 - 4)) < (l0.length : Int) then (if (rd l0 (ji11)) = (rd l0 (wrap64 (a1 - 4))) then (if 0 ≤ (wrap64 (a1 - 5)) then (if (wrap64 (a1 - 5)) < (l0.length : Int) then (some ((rd l0 (wrap64 (a1 - 4))) == (rd l0 (wrap64 (a1 - 5))))) else (none)) else (none)) else (some false)) else (none)) else (none)) else (some false)) else (none)) else (none)) = some r:=by first | (rw [hji11] at H;exact H) | (simp only [hji11] at H ⊢;exact H)
       have hji11w : (IntKind.i64.wrap (a1 - 3)) = ji11:=(i64_w _).trans hji11
       by_cases c12 : 0 ≤ (ji11)
       ·rw [if_pos c12] at H
        have c12b0 : decide (0 ≤ (ji11)) = true:=decide_eq_true c12
        clear c12
        by_cases c13 : (ji11) < (l0.length : Int)
        ·rw [if_pos c13] at H
         have c13b0 : decide ((ji11) < (l0.length : Int)) = true:=decide_eq_true c13
         clear c13
         by_cases c14 : (rd l0 (ji7)) = (rd l0 (ji11))
         ·rw [if_pos c14] at H
          have c14b0 : ((rd l0 (ji7)) == (rd l0 (ji11))) = true:=beq_iff_eq.mpr c14
          have c14b1 : ((rd l0 (ji7)) != (rd l0 (ji11))) = false:=bne_eq_false_iff_eq.mpr c14
          clear c14
          obtain ⟨ji15,hji15⟩ : ∃ j_ : Int,(wrap64 (a1 - 4)) = j_:=⟨_,rfl⟩
          replace H : (if 0 ≤ (ji15) then (if (ji15) < (l0.length : Int) then (if (rd l0 (ji11)) = (rd l0 (ji15)) then (if 0 ≤ (wrap64 (a1 - 5)) then (if (wrap64 (a1 - 5)) < (l0.length : Int) then (some ((rd l0 (ji15)) == (rd l0 (wrap64 (a1 - 5))))) else (none)) else (none)) else (some false)) else (none)) else (none)) = some r:=by first | (rw [hji15] at H;exact H) | (simp only [hji15] at H ⊢;exact H)
          have hji15w : (IntKind.i64.wrap (a1 - 4)) = ji15:=(i64_w _).trans hji15
          by_cases c16 : 0 ≤ (ji15)
          ·rw [if_pos c16] at H
           have c16b0 : decide (0 ≤ (ji15)) = true:=decide_eq_true c16
           clear c16
           by_cases c17 : (ji15) < (l0.length : Int)
           ·rw [if_pos c17] at H
            have c17b0 : decide ((ji15) < (l0.length : Int)) = true:=decide_eq_true c17
            clear c17
            by_cases c18 : (rd l0 (ji11)) = (rd l0 (ji15))
            ·rw [if_pos c18] at H
             have c18b0 : ((rd l0 (ji11)) == (rd l0 (ji15))) = true:=beq_iff_eq.mpr c18
             have c18b1 : ((rd l0 (ji11)) != (rd l0 (ji15))) = false:=bne_eq_false_iff_eq.mpr c18
             clear c18
             obtain ⟨ji19,hji19⟩ : ∃ j_ : Int,(wrap64 (a1 - 5)) = j_:=⟨_,rfl⟩
             replace H : (if 0 ≤ (ji19) then (if (ji19) < (l0.length : Int) then (some ((rd l0 (ji15)) == (rd l0 (ji19)))) else (none)) else (none)) = some r:=by first | (rw [hji19] at H;exact H) | (simp only [hji19] at H ⊢;exact H)
             have hji19w : (IntKind.i64.wrap (a1 - 5)) = ji19:=(i64_w _).trans hji19
             by_cases c20 : 0 ≤ (ji19)
             ·rw [if_pos c20] at H
              have c20b0 : decide (0 ≤ (ji19)) = true:=decide_eq_true c20
              clear c20
              by_cases c21 : (ji19) < (l0.length : Int)
              ·rw [if_pos c21] at H
               have c21b0 : decide ((ji19) < (l0.length : Int)) = true:=decide_eq_true c21
               clear c21
               obtain rfl:=Option.some.inj H
               have p183 : 0 ≤ ((ji4) : Int):=of_decide_eq_true (by first | (with_reducible assumption) | assumption)
               have q183 : (ji4) < (l0.length : Int):=of_decide_eq_true (by first | (with_reducible assumption) | assumption)
               obtain ⟨ad183,e183,hx183_0⟩:=Kd.at_int HR0.out (ji4) p183 q183
               cases e183
               replace p183:=eq_true p183
               replace q183:=eq_true q183
               have p184 : 0 ≤ ((ji7) : Int):=of_decide_eq_true (by first | (with_reducible assumption) | assumption)
               have q184 : (ji7) < (l0.length : Int):=of_decide_eq_true (by first | (with_reducible assumption) | assumption)
               obtain ⟨ad184,e184,hx184_0⟩:=Kd.at_int HR0.out (ji7) p184 q184
               obtain rfl : ad183 = ad184:=(by injection e184)
               replace p184:=eq_true p184
               replace q184:=eq_true q184
               have p185 : 0 ≤ ((ji7) : Int):=of_decide_eq_true (by first | (with_reducible assumption) | assumption)
               have q185 : (ji7) < (l0.length : Int):=of_decide_eq_true (by first | (with_reducible assumption) | assumption)
               obtain ⟨ad185,e185,hx185_0⟩:=Kd.at_int HR0.out (ji7) p185 q185
               obtain rfl : ad183 = ad185:=(by injection e185)
               replace p185:=eq_true p185
               replace q185:=eq_true q185
               have p186 : 0 ≤ ((ji11) : Int):=of_decide_eq_true (by first | (with_reducible assumption) | assumption)
               have q186 : (ji11) < (l0.length : Int):=of_decide_eq_true (by first | (with_reducible assumption) | assumption)
               obtain ⟨ad186,e186,hx186_0⟩:=Kd.at_int HR0.out (ji11) p186 q186
               obtain rfl : ad183 = ad186:=(by injection e186)
               replace p186:=eq_true p186
               replace q186:=eq_true q186
               have p187 : 0 ≤ ((ji11) : Int):=of_decide_eq_true (by first | (with_reducible assumption) | assumption)
               have q187 : (ji11) < (l0.length : Int):=of_decide_eq_true (by first | (with_reducible assumption) | assumption)
               obtain ⟨ad187,e187,hx187_0⟩:=Kd.at_int HR0.out (ji11) p187 q187
               obtain rfl : ad183 = ad187:=(by injection e187)
               replace p187:=eq_true p187
               replace q187:=eq_true q187
               have p188 : 0 ≤ ((ji15) : Int):=of_decide_eq_true (by first | (with_reducible assumption) | assumption)
               have q188 : (ji15) < (l0.length : Int):=of_decide_eq_true (by first | (with_reducible assumption) | assumption)
               obtain ⟨ad188,e188,hx188_0⟩:=Kd.at_int HR0.out (ji15) p188 q188
               obtain rfl : ad183 = ad188:=(by injection e188)
               replace p188:=eq_true p188
               replace q188:=eq_true q188
               have p189 : 0 ≤ ((ji15) : Int):=of_decide_eq_true (by first | (with_reducible assumption) | assumption)
               have q189 : (ji15) < (l0.length : Int):=of_decide_eq_true (by first | (with_reducible assumption) | assumption)
               obtain ⟨ad189,e189,hx189_0⟩:=Kd.at_int HR0.out (ji15) p189 q189
               obtain rfl : ad183 = ad189:=(by injection e189)
               replace p189:=eq_true p189
               replace q189:=eq_true q189
               have p190 : 0 ≤ ((ji19) : Int):=of_decide_eq_true (by first | (with_reducible assumption) | assumption)
               have q190 : (ji19) < (l0.length : Int):=of_decide_eq_true (by first | (with_reducible assumption) | assumption)
               obtain ⟨ad190,e190,hx190_0⟩:=Kd.at_int HR0.out (ji19) p190 q190
               obtain rfl : ad183 = ad190:=(by injection e190)
               replace p190:=eq_true p190
               replace q190:=eq_true q190
               go_enter Tryd.func66,Tryd.ntmps66
               go_wp2
               repeat (go_quiet (fail);try go_wp2)
               go_ret
               exact ⟨by first | rfl | (simp;done) | (simp only [← hji4, ← hji7, ← hji11, ← hji15, ← hji19] <;> (first | rfl | simp)) | (simp [*];done),by repeat (first | exact Drawn0.refl _ | apply Drawn0.step)⟩
              ·rw [if_neg c21] at H
               exact absurd H (by simp)
             ·rw [if_neg c20] at H
              exact absurd H (by simp)
            ·rw [if_neg c18] at H
             have c18b0 : ((rd l0 (ji11)) == (rd l0 (ji15))) = false:=beq_eq_false_iff_ne.mpr c18
             have c18b1 : ((rd l0 (ji11)) != (rd l0 (ji15))) = true:=bne_iff_ne.mpr c18
             obtain rfl:=Option.some.inj H
             have p183 : 0 ≤ ((ji4) : Int):=of_decide_eq_true (by first | (with_reducible assumption) | assumption)
             have q183 : (ji4) < (l0.length : Int):=of_decide_eq_true (by first | (with_reducible assumption) | assumption)
             obtain ⟨ad183,e183,hx183_0⟩:=Kd.at_int HR0.out (ji4) p183 q183
             cases e183
             replace p183:=eq_true p183
             replace q183:=eq_true q183
             have p184 : 0 ≤ ((ji7) : Int):=of_decide_eq_true (by first | (with_reducible assumption) | assumption)
             have q184 : (ji7) < (l0.length : Int):=of_decide_eq_true (by first | (with_reducible assumption) | assumption)
             obtain ⟨ad184,e184,hx184_0⟩:=Kd.at_int HR0.out (ji7) p184 q184
             obtain rfl : ad183 = ad184:=(by injection e184)
             replace p184:=eq_true p184
             replace q184:=eq_true q184
             have p185 : 0 ≤ ((ji7) : Int):=of_decide_eq_true (by first | (with_reducible assumption) | assumption)
             have q185 : (ji7) < (l0.length : Int):=of_decide_eq_true (by first | (with_reducible assumption) | assumption)
             obtain ⟨ad185,e185,hx185_0⟩:=Kd.at_int HR0.out (ji7) p185 q185
             obtain rfl : ad183 = ad185:=(by injection e185)
             replace p185:=eq_true p185
             replace q185:=eq_true q185
             have p186 : 0 ≤ ((ji11) : Int):=of_decide_eq_true (by first | (with_reducible assumption) | assumption)
             have q186 : (ji11) < (l0.length : Int):=of_decide_eq_true (by first | (with_reducible assumption) | assumption)
             obtain ⟨ad186,e186,hx186_0⟩:=Kd.at_int HR0.out (ji11) p186 q186
             obtain rfl : ad183 = ad186:=(by injection e186)
             replace p186:=eq_true p186
             replace q186:=eq_true q186
             have p187 : 0 ≤ ((ji11) : Int):=of_decide_eq_true (by first | (with_reducible assumption) | assumption)
             have q187 : (ji11) < (l0.length : Int):=of_decide_eq_true (by first | (with_reducible assumption) | assumption)
             obtain ⟨ad187,e187,hx187_0⟩:=Kd.at_int HR0.out (ji11) p187 q187
             obtain rfl : ad183 = ad187:=(by injection e187)
             replace p187:=eq_true p187
             replace q187:=eq_true q187
             have p188 : 0 ≤ ((ji15) : Int):=of_decide_eq_true (by first | (with_reducible assumption) | assumption)
             have q188 : (ji15) < (l0.length : Int):=of_decide_eq_true (by first | (with_reducible assumption) | assumption)
             obtain ⟨ad188,e188,hx188_0⟩:=Kd.at_int HR0.out (ji15) p188 q188
             obtain rfl : ad183 = ad188:=(by injection e188)
             replace p188:=eq_true p188
             replace q188:=eq_true q188
             go_enter Tryd.func66,Tryd.ntmps66
             go_wp2
             repeat (go_quiet (fail);try go_wp2)
             go_ret
             exact ⟨by first | rfl | (simp;done) | (simp only [← hji4, ← hji7, ← hji11, ← hji15] <;> (first | rfl | simp)) | (simp [*];done),by repeat (first | exact Drawn0.refl _ | apply Drawn0.step)⟩
           ·rw [if_neg c17] at H
            exact absurd H (by simp)
          ·rw [if_neg c16] at H
           exact absurd H (by simp)
         ·rw [if_neg c14] at H
          have c14b0 : ((rd l0 (ji7)) == (rd l0 (ji11))) = false:=beq_eq_false_iff_ne.mpr c14
          have c14b1 : ((rd l0 (ji7)) != (rd l0 (ji11))) = true:=bne_iff_ne.mpr c14
          obtain rfl:=Option.some.inj H
          have p183 : 0 ≤ ((ji4) : Int):=of_decide_eq_true (by first | (with_reducible assumption) | assumption)
          have q183 : (ji4) < (l0.length : Int):=of_decide_eq_true (by first | (with_reducible assumption) | assumption)
          obtain ⟨ad183,e183,hx183_0⟩:=Kd.at_int HR0.out (ji4) p183 q183
          cases e183
          replace p183:=eq_true p183
          replace q183:=eq_true q183
          have p184 : 0 ≤ ((ji7) : Int):=of_decide_eq_true (by first | (with_reducible assumption) | assumption)
          have q184 : (ji7) < (l0.length : Int):=of_decide_eq_true (by first | (with_reducible assumption) | assumption)
          obtain ⟨ad184,e184,hx184_0⟩:=Kd.at_int HR0.out (ji7) p184 q184
          obtain rfl : ad183 = ad184:=(by injection e184)
          replace p184:=eq_true p184
          replace q184:=eq_true q184
          have p185 : 0 ≤ ((ji7) : Int):=of_decide_eq_true (by first | (with_reducible assumption) | assumption)
          have q185 : (ji7) < (l0.length : Int):=of_decide_eq_true (by first | (with_reducible assumption) | assumption)
          obtain ⟨ad185,e185,hx185_0⟩:=Kd.at_int HR0.out (ji7) p185 q185
          obtain rfl : ad183 = ad185:=(by injection e185)
          replace p185:=eq_true p185
          replace q185:=eq_true q185
          have p186 : 0 ≤ ((ji11) : Int):=of_decide_eq_true (by first | (with_reducible assumption) | assumption)
          have q186 : (ji11) < (l0.length : Int):=of_decide_eq_true (by first | (with_reducible assumption) | assumption)
          obtain ⟨ad186,e186,hx186_0⟩:=Kd.at_int HR0.out (ji11) p186 q186
          obtain rfl : ad183 = ad186:=(by injection e186)
          replace p186:=eq_true p186
          replace q186:=eq_true q186
          go_enter Tryd.func66,Tryd.ntmps66
          go_wp2
          repeat (go_quiet (fail);try go_wp2)
          go_ret
          exact ⟨by first | rfl | (simp;done) | (simp only [← hji4, ← hji7, ← hji11] <;> (first | rfl | simp)) | (simp [*];done),by repeat (first | exact Drawn0.refl _ | apply Drawn0.step)⟩
        ·rw [if_neg c13] at H
         exact absurd H (by simp)
       ·rw [if_neg c12] at H
        exact absurd H (by simp)
      ·rw [if_neg c10] at H
       have c10b0 : ((rd l0 (ji4)) == (rd l0 (ji7))) = false:=beq_eq_false_iff_ne.mpr c10
       have c10b1 : ((rd l0 (ji4)) != (rd l0 (ji7))) = true:=bne_iff_ne.mpr c10
       obtain rfl:=Option.some.inj H
       have p183 : 0 ≤ ((ji4) : Int):=of_decide_eq_true (by first | (with_reducible assumption) | assumption)
       have q183 : (ji4) < (l0.length : Int):=of_decide_eq_true (by first | (with_reducible assumption) | assumption)
       obtain ⟨ad183,e183,hx183_0⟩:=Kd.at_int HR0.out (ji4) p183 q183
       cases e183
       replace p183:=eq_true p183
       replace q183:=eq_true q183
       have p184 : 0 ≤ ((ji7) : Int):=of_decide_eq_true (by first | (with_reducible assumption) | assumption)
       have q184 : (ji7) < (l0.length : Int):=of_decide_eq_true (by first | (with_reducible assumption) | assumption)
       obtain ⟨ad184,e184,hx184_0⟩:=Kd.at_int HR0.out (ji7) p184 q184
       obtain rfl : ad183 = ad184:=(by injection e184)
       replace p184:=eq_true p184
       replace q184:=eq_true q184
       go_enter Tryd.func66,Tryd.ntmps66
       go_wp2
       repeat (go_quiet (fail);try go_wp2)
       go_ret
       exact ⟨by first | rfl | (simp;done) | (simp only [← hji4, ← hji7] <;> (first | rfl | simp)) | (simp [*];done),by repeat (first | exact Drawn0.refl _ | apply Drawn0.step)⟩
     ·rw [if_neg c9] at H
      exact absurd H (by simp)
    ·rw [if_neg c8] at H
     exact absurd H (by simp)
   ·rw [if_neg c6] at H
    exact absurd H (by simp)
  ·rw [if_neg c5] at H
   exact absurd H (by simp)
end Go.Proofs.YtdoclpgciadjaaaDoor.P
namespace Go.Proofs.YtdoclpgciadjaaaDoor.P
open Go Go.RowKit Go.Proofs.YtdoclpgciadjaaaDoorW.PrintWords
set_option linter.unusedVariables false
theorem due_eq {l : List Int} {n run : Nat} {last : Int} (h : Trail l n run last) (h5 : run ≤ 5) (hn : n < 100000000) : spec_l1due.f l (n : Int) = some (decide (run = 5)):=by
 have hle:=h.le
 have hr:=h.run_le
 unfold spec_l1due.f
 by_cases c : n < 5
 ·rw [if_pos (by omega),decide_eq_false (by omega)]
 ·have hf:=h.five h5 (by omega)
  have w1 : wrap64 ((n : Int) - 1) = ((n - 1 : Nat) : Int):=by unfold wrap64;omega
  have w2 : wrap64 ((n : Int) - 2) = ((n - 2 : Nat) : Int):=by unfold wrap64;omega
  have w3 : wrap64 ((n : Int) - 3) = ((n - 3 : Nat) : Int):=by unfold wrap64;omega
  have w4 : wrap64 ((n : Int) - 4) = ((n - 4 : Nat) : Int):=by unfold wrap64;omega
  have w5 : wrap64 ((n : Int) - 5) = ((n - 5 : Nat) : Int):=by unfold wrap64;omega
  rw [if_neg (by omega),w1,w2,w3,w4,w5,if_pos (by omega),if_pos (by omega),if_pos (by omega),if_pos (by omega)]
  by_cases a1 : rd l ((n - 1 : Nat) : Int) = rd l ((n - 2 : Nat) : Int)
  ·rw [if_pos a1,if_pos (by omega),if_pos (by omega)]
   by_cases a2 : rd l ((n - 2 : Nat) : Int) = rd l ((n - 3 : Nat) : Int)
   ·rw [if_pos a2,if_pos (by omega),if_pos (by omega)]
    by_cases a3 : rd l ((n - 3 : Nat) : Int) = rd l ((n - 4 : Nat) : Int)
    ·rw [if_pos a3,if_pos (by omega),if_pos (by omega)]
     by_cases a4 : rd l ((n - 4 : Nat) : Int) = rd l ((n - 5 : Nat) : Int)
     ·rw [decide_eq_true (hf.2 ⟨a1,a2,a3,a4⟩),a4];simp
     ·rw [decide_eq_false (fun e => a4 (hf.1 e).2.2.2)];simp [a4]
    ·rw [if_neg a3,decide_eq_false (fun e => a3 (hf.1 e).2.2.1)]
   ·rw [if_neg a2,decide_eq_false (fun e => a2 (hf.1 e).2.1)]
  ·rw [if_neg a1,decide_eq_false (fun e => a1 (hf.1 e).1)]
end Go.Proofs.YtdoclpgciadjaaaDoor.P
namespace Go.Proofs.YtdoclpgciadjaaaDoor.P
open Go.RowKit Go.Proofs.YtdoclpgciadjaaaDoorW.PrintWords Go.Proofs.YtdoclpgciadjaaaDoorW.PrintLast Go.Proofs.YtdoclpgciadjaaaDoorW.PrintMore
set_option linter.unusedVariables false
set_option linter.unusedSimpArgs false
def spec_l1okBits.l0 : Nat → ByteArray → Int → Option (Bool)
 | 0,_,_ => none
 | k + 1,x0,x5 => if x5 < (x0.size : Int) then (if 0 ≤ x5 then (if (bt x0 x5) = 48 then (spec_l1okBits.l0 k x0 (wrap64 (x5 + 1))) else (if (bt x0 x5) = 49 then (spec_l1okBits.l0 k x0 (wrap64 (x5 + 1))) else (some false))) else (none)) else (some true)
def spec_l1okBits.f (k : Nat) (a0 : ByteArray) (a1 : Int) : Option (Bool):=if (a0.size : Int) > a1 then (some false) else (spec_l1okBits.l0 k a0 0)
set_option maxHeartbeats 8000000 in
set_option maxRecDepth 100000 in
theorem spec_l1okBits.calls (k : Nat) (a0 : ByteArray) (a1 : Int) (r : Bool) (w : World) (h : spec_l1okBits.f k a0 a1 = some r) :
  Calls Tryd.prog 64 #[.string a0, .int .i64 a1] w fun e w' => e = .returned (.bool r) ∧ Drawn0 w w':=by
 have H : (if (a0.size : Int) > a1 then (some false) else (spec_l1okBits.l0 k a0 0)) = some r:=h
 clear h
 by_cases c3 : (a0.size : Int) > a1
 ·rw [if_pos c3] at H
  have c3b0 : decide (a1 < (a0.size : Int)) = true:=decide_eq_true c3
  clear c3
  obtain rfl:=Option.some.inj H
  go_enter Tryd.func64,Tryd.ntmps64
  go_wp2
  go_ret
  exact ⟨by first | rfl | (simp;done) | (simp [*];done),by repeat (first | exact Drawn0.refl _ | apply Drawn0.step)⟩
 ·rw [if_neg c3] at H
  have c3b0 : decide (a1 < (a0.size : Int)) = false:=decide_eq_false c3
  clear c3
  have H':=Aside0.mk H
  clear H
  go_enter Tryd.func64,Tryd.ntmps64
  go_wp2
  go_loopg [5] k (fun kq v5 w' => ∃ (x5_1 : Int),v5 = .int .i64 x5_1 ∧ Aside0 (spec_l1okBits.l0 kq a0 x5_1 = some r) ∧ Aside0 (kq ≤ k) ∧ Drawn0 w w')
  case atStart => exact ⟨(0),(by first | rfl | (simp;done) | (simp [*];done)),H',⟨Nat.le_refl _⟩,by repeat (first | exact Drawn0.refl _ | apply Drawn0.step)⟩
  case round =>
   clear H'
   try clear p2
   try clear c3
   try clear c3b0
   obtain ⟨x5_1,rfl,HA,HK1,⟨m1,rfl⟩⟩:=hrel
   cases gk with
   | zero => exact absurd HA.out (by simp [spec_l1okBits.l0])
   | succ k1 =>
    have H:=HA.out
    clear HA
    simp only [spec_l1okBits.l0] at H
    by_cases c4 : x5_1 < (a0.size : Int)
    ·rw [if_pos c4] at H
     have c4b0 : decide (x5_1 < (a0.size : Int)) = true:=decide_eq_true c4
     clear c4
     by_cases c5 : 0 ≤ x5_1
     ·rw [if_pos c5] at H
      have c5b0 : decide (0 ≤ x5_1) = true:=decide_eq_true c5
      clear c5
      by_cases c7 : (bt a0 x5_1) = 48
      ·rw [if_pos c7] at H
       have c7b0 : ((bt a0 x5_1) == 48) = true:=beq_iff_eq.mpr c7
       have c7b1 : ((bt a0 x5_1) != 48) = false:=bne_eq_false_iff_eq.mpr c7
       clear c7
       have H':=Aside0.mk H
       clear H
       have p6 : 0 ≤ (x5_1 : Int):=of_decide_eq_true (by first | (with_reducible assumption) | assumption)
       have q6 : x5_1 < (a0.size : Int):=of_decide_eq_true (by first | (with_reducible assumption) | assumption)
       have hx6:=bt_at a0 x5_1
       replace p6:=eq_true p6
       replace q6:=eq_true q6
       go_wp2
       go_roundg k1
       case measure => have:=HK1.out;omega
       case rel => exact ⟨(wrap64 (x5_1 + 1)),(by first | rfl | (simp;done) | (simp [*];done)),H',⟨by have:=HK1.out;omega⟩,by repeat (first | exact Drawn0.refl _ | apply Drawn0.step)⟩
      ·rw [if_neg c7] at H
       have c7b0 : ((bt a0 x5_1) == 48) = false:=beq_eq_false_iff_ne.mpr c7
       have c7b1 : ((bt a0 x5_1) != 48) = true:=bne_iff_ne.mpr c7
       by_cases c9 : (bt a0 x5_1) = 49
       ·rw [if_pos c9] at H
        have c9b0 : ((bt a0 x5_1) == 49) = true:=beq_iff_eq.mpr c9
        have c9b1 : ((bt a0 x5_1) != 49) = false:=bne_eq_false_iff_eq.mpr c9
        clear c9
        have H':=Aside0.mk H
        clear H
        have p6 : 0 ≤ (x5_1 : Int):=of_decide_eq_true (by first | (with_reducible assumption) | assumption)
        have q6 : x5_1 < (a0.size : Int):=of_decide_eq_true (by first | (with_reducible assumption) | assumption)
        have hx6:=bt_at a0 x5_1
        replace p6:=eq_true p6
        replace q6:=eq_true q6
        have p8 : 0 ≤ (x5_1 : Int):=of_decide_eq_true (by first | (with_reducible assumption) | assumption)
        have q8 : x5_1 < (a0.size : Int):=of_decide_eq_true (by first | (with_reducible assumption) | assumption)
        have hx8:=bt_at a0 x5_1
        replace p8:=eq_true p8
        replace q8:=eq_true q8
        go_wp2
        go_roundg k1
        case measure => have:=HK1.out;omega
        case rel => exact ⟨(wrap64 (x5_1 + 1)),(by first | rfl | (simp;done) | (simp [*];done)),H',⟨by have:=HK1.out;omega⟩,by repeat (first | exact Drawn0.refl _ | apply Drawn0.step)⟩
       ·rw [if_neg c9] at H
        have c9b0 : ((bt a0 x5_1) == 49) = false:=beq_eq_false_iff_ne.mpr c9
        have c9b1 : ((bt a0 x5_1) != 49) = true:=bne_iff_ne.mpr c9
        obtain rfl:=Option.some.inj H
        have p6 : 0 ≤ (x5_1 : Int):=of_decide_eq_true (by first | (with_reducible assumption) | assumption)
        have q6 : x5_1 < (a0.size : Int):=of_decide_eq_true (by first | (with_reducible assumption) | assumption)
        have hx6:=bt_at a0 x5_1
        replace p6:=eq_true p6
        replace q6:=eq_true q6
        have p8 : 0 ≤ (x5_1 : Int):=of_decide_eq_true (by first | (with_reducible assumption) | assumption)
        have q8 : x5_1 < (a0.size : Int):=of_decide_eq_true (by first | (with_reducible assumption) | assumption)
        have hx8:=bt_at a0 x5_1
        replace p8:=eq_true p8
        replace q8:=eq_true q8
        go_wp2
        go_ret
        exact ⟨by first | rfl | (simp;done) | (simp [*];done),by repeat (first | exact Drawn0.refl _ | apply Drawn0.step)⟩
     ·rw [if_neg c5] at H
      exact absurd H (by simp)
    ·rw [if_neg c4] at H
     have c4b0 : decide (x5_1 < (a0.size : Int)) = false:=decide_eq_false c4
     clear c4
     obtain rfl:=Option.some.inj H
     go_wp2
     go_ret
     exact ⟨by first | rfl | (simp;done) | (simp [*];done),by repeat (first | exact Drawn0.refl _ | apply Drawn0.step)⟩
end Go.Proofs.YtdoclpgciadjaaaDoor.P
namespace Go.Proofs.YtdoclpgciadjaaaDoor.P
open Go Go.RowKit Go.Proofs.YtdoclpgciadjaaaDoorW.PrintWords
set_option linter.unusedVariables false
theorem bt_eq (s : ByteArray) (i : Nat) (h : i < s.size) : bt s (i : Int) = ((s[i]'h).toNat : Int):=by
 unfold bt;rw [dif_pos (show (i : Int).toNat < s.size from h)];rfl
theorem bytesOf_get (s : ByteArray) (i : Nat) (h : i < (bytesOf s).length) : (bytesOf s)[i]'h = bt s (i : Int):=by
 have hs : i < s.size:=by rw [bytesOf_length] at h;exact h
 have h2 : (bytesOf s)[i]? = some (bt s (i : Int)):=by
  unfold bytesOf
  rw [List.getElem?_map,Array.getElem?_toList,Array.getElem?_eq_getElem (show i < s.data.size from hs),bt_eq s i hs]
  rfl
 rw [List.getElem?_eq_getElem h] at h2
 exact Option.some.inj h2
theorem okBits_ev (s : ByteArray) (lim : Nat) (hlim : lim < 100000000) :
  Ev (fun k => spec_l1okBits.f k s (lim : Int)) (decide (s.size ≤ lim) && isBits s):=by
 have loop : s.size ≤ lim → ∀ (d i : Nat),i + d = s.size → BitsTo s i → Ev (fun k => spec_l1okBits.l0 k s (i : Int)) (isBits s):=by
  intro hl d
  induction d with
  | zero =>
   intro i hi hb
   refine Ev.step (f:=fun _ => some (isBits s)) (fun k => ?_) (Ev.now _)
   simp only [spec_l1okBits.l0]
   rw [if_neg (by omega),isBits_of s hb (by omega)]
  | succ d ih =>
   intro i hi hb
   have hp : i < s.size:=by omega
   cases hbit : isBit (s[i]'hp) with
   | true =>
    refine Ev.step (f:=fun k => spec_l1okBits.l0 k s ((i + 1 : Nat) : Int)) (fun k => ?_) (ih (i + 1) (by omega) (bitsTo_succ hb hp hbit))
    simp only [spec_l1okBits.l0]
    rw [if_pos (by omega),if_pos (by omega),bt_eq s i hp,w64 (by omega) (by omega)]
    rcases isBit_cases hbit with e | e <;> rw [e]
    ·rw [if_pos (by decide)];rfl
    ·rw [if_neg (by decide),if_pos (by decide)];rfl
   | false =>
    refine Ev.step (f:=fun _ => some (isBits s)) (fun k => ?_) (Ev.now _)
    simp only [spec_l1okBits.l0]
    obtain ⟨h1,h2⟩:=not_bit hbit
    rw [if_pos (by omega),if_pos (by omega),bt_eq s i hp,if_neg (by omega),if_neg (by omega),isBits_not s hp hbit]
 by_cases c : s.size ≤ lim
 ·rw [decide_eq_true c,Bool.true_and]
  refine Ev.congr (fun k => ?_) (loop c s.size 0 (by omega) (bitsTo_zero s))
  unfold spec_l1okBits.f
  rw [if_neg (by omega)];rfl
 ·rw [decide_eq_false c,Bool.false_and]
  refine Ev.congr (f:=fun _ => some false) (fun k => ?_) (Ev.now _)
  unfold spec_l1okBits.f
  rw [if_pos (by omega)]
end Go.Proofs.YtdoclpgciadjaaaDoor.P
namespace Go.Proofs.YtdoclpgciadjaaaDoor.P
open Go.RowKit Go.Proofs.YtdoclpgciadjaaaDoorW.PrintWords Go.Proofs.YtdoclpgciadjaaaDoorW.PrintLast Go.Proofs.YtdoclpgciadjaaaDoorW.PrintMore
set_option linter.unusedVariables false
set_option linter.unusedSimpArgs false
mutual
def spec_Crc15.l0 : Nat → ByteArray → List Int → Int → Option (Int)
 | 0,_,_,_ => none
 | k + 1,x0,x3,x4 => if x4 < (x0.size : Int) then (if 0 ≤ x4 then (if x3.length < 140737488355328 then (spec_Crc15.l0 k x0 (x3 ++ [((bt x0 x4) - 48) % 256]) (wrap64 (x4 + 1))) else (none)) else (none)) else (spec_Crc15.l1 k x3 0)
def spec_Crc15.l1 : Nat → List Int → Int → Option (Int)
 | 0,_,_ => none
 | k + 1,x3,x5 => if x5 < 15 then (if x3.length < 140737488355328 then (spec_Crc15.l1 k (x3 ++ [0]) (wrap64 (x5 + 1))) else (none)) else (spec_Crc15.l2 k x3 (⟨#[49,49,48,48,48,49,48,49,49,48,48,49,49,48,48,49]⟩ : ByteArray) 0)
def spec_Crc15.l2 : Nat → List Int → ByteArray → Int → Option (Int)
 | 0,_,_,_ => none
 | k + 1,x3,x6,x7 => if (wrap64 (x7 + 15)) < (x3.length : Int) then (if 0 ≤ x7 then (if x7 < (x3.length : Int) then (if (rd x3 x7) = 1 then (spec_Crc15.l3 k x3 x6 x7 0) else (spec_Crc15.l2 k x3 x6 (wrap64 (x7 + 1)))) else (none)) else (none)) else (spec_Crc15.l4 k x3 0 (wrap64 ((x3.length : Int) - 15)))
def spec_Crc15.l3 : Nat → List Int → ByteArray → Int → Int → Option (Int)
 | 0,_,_,_,_ => none
 | k + 1,x3,x6,x7,x8 => if x8 < 16 then (if 0 ≤ (wrap64 (x7 + x8)) then (if (wrap64 (x7 + x8)) < (x3.length : Int) then (if 0 ≤ x8 then (if x8 < (x6.size : Int) then (spec_Crc15.l3 k (x3.set ((wrap64 (x7 + x8)) : Int).toNat (Go.bits .xor .u8 (rd x3 (wrap64 (x7 + x8))) (((bt x6 x8) - 48) % 256))) x6 x7 (wrap64 (x8 + 1))) else (none)) else (none)) else (none)) else (none)) else (spec_Crc15.l2 k x3 x6 (wrap64 (x7 + 1)))
def spec_Crc15.l4 : Nat → List Int → Int → Int → Option (Int)
 | 0,_,_,_ => none
 | k + 1,x3,x9,x10 => if x10 < (x3.length : Int) then (if 0 ≤ x10 then (spec_Crc15.l4 k x3 (wrap64 ((wrap64 (2 * x9)) + (wrap64 (rd x3 x10)))) (wrap64 (x10 + 1))) else (none)) else (some x9)
end
def spec_Crc15.f (k : Nat) (a0 : ByteArray) : Option (Int):=(spec_l1okBits.f k a0 2000).bind fun t207 => (if t207 = true then (spec_Crc15.l0 k a0 (([] : List Int)) 0) else (some (-1)))
def spec_Crc15.T20 : Bool × List (List Nat × List Nat):=(true, [([], []),([], []),([], []),([1,2], [1,2]),([], []),([], []),([], []),([5,6], [5,6]),([4,7], [4,7]),([8], [8]),([], []),([], []),([10,11], [10,11]),([12], [12]),([9,13], [9,13]),([0,3,0,1,2,3,4,5,6,7,8,9,10,11,12,13,14], [0,3]),([15,14,0,1,2,3,4,5,6,7,8,9,10,11,12,13,14], [14,15])])
def spec_Crc15.B20 : List Nat := [0,0,0,6,0,0,0,96,240,496,0,0,3072,7168,16368,32767,65535]
theorem spec_Crc15.tab20 : rtab .any (opsOf Tryd.f68 20) = spec_Crc15.T20:=by kernel_rfl
theorem spec_Crc15.bits20 : waitsOk spec_Crc15.T20.2 spec_Crc15.B20 = true:=by kernel_rfl
set_option maxHeartbeats 8000000 in
set_option maxRecDepth 100000 in
theorem spec_Crc15.calls (k : Nat) (a0 : ByteArray) (r : Int) (w : World) (h : spec_Crc15.f k a0 = some r) :
  Calls Tryd.prog 68 #[.string a0] w fun e w' => e = .returned (.int .i64 r) ∧ Below w.heap.size w w':=by
 have HB:=Aside0.mk (Below.refl w.heap.size w)
 have H : ((spec_l1okBits.f k a0 2000).bind fun t207 => (if t207 = true then (spec_Crc15.l0 k a0 (([] : List Int)) 0) else (some (-1)))) = some r:=h
 clear h
 replace H:=Option.bind_eq_some_iff.mp H
 obtain ⟨t207,A20,H⟩:=H
 replace H : (if t207 = true then (spec_Crc15.l0 k a0 (([] : List Int)) 0) else (some (-1))) = some r:=H
 have A2:=Aside0.mk A20
 clear A20
 by_cases c3 : t207 = true
 ·subst c3
  have H1 : (spec_Crc15.l0 k a0 (([] : List Int)) 0) = some r:=by rw [if_pos rfl] at H;exact H
  clear H
  have H:=H1
  clear H1
  obtain ⟨y208,hy208⟩ : ∃ y_ : List Int,y_ = (([] : List Int)):=⟨_,rfl⟩
  replace H : (spec_Crc15.l0 k a0 y208 0) = some r:=by first | (rw [hy208];with_reducible exact H) | (have H2_:=(Option.bind_some _ _).symm.trans H;rw [hy208];with_reducible exact H2_) | (have H2_:=(Option.bind_some _ _).symm.trans H;with_reducible exact H2_) | with_reducible exact H | (rw [hy208];exact H) | exact H
  have Ny208:=Aside0.mk hy208
  clear hy208
  have H':=Aside0.mk H
  clear H
  go_enter Tryd.func68,Tryd.ntmps68
  go_wp2_with (first | ((with_reducible refine gate_callee (f:=64) rfl ?_);refine goesL_ (some 12) rfl rfl Tryd.func64 (by kernel_rfl) rfl #[.string a0, .int .i64 2000] rfl (by (try simp only [List.map_toArray,List.map_cons,List.map_nil]);first | done | rfl | (simp only [List.length_drop,List.length_take];rfl)) ?_;(with_reducible refine (spec_l1okBits.calls k a0 2000 true _ A2.out).mono ?_);rintro e w' ⟨rfl,⟨nd,rfl⟩⟩;refine ⟨_,rfl, ?_⟩) | ((with_reducible refine gate_dst (N:=14) rfl ?_);refine Kd.R_lit (Kd.int .u8) _ 5 ?hg (N:=14) ?hd (xs:=([] : List Int)) (inner := []) (ok:=fun _ => True) (okp:=fun _ => True) ?hr ?hp (fun _ hk => hk) trivial (Below.refl _ _) (Nat.le_refl _) (by simp) ?_;(case hd => rfl);(case hg => rfl);(case hr => first | (go_simp;done) | (go_simp;rfl));(case hp => exact (Reps.none _ _));intro v209 w4 ho5 hb hg_ hnew_;clear hg_ hnew_;(first | rw [← Ny208.out] at ho5 | (simp only [Int.reduceToNat] at ho5;rw [← Ny208.out] at ho5));have n0_:=Aside0.mk (Kd.R_lower ho5 (below_size (by repeat (first | (with_reducible first | exact HB.out | apply below_alloc | apply pw_below_drewN | apply below_drew1) | exact HB.out))));have n1_:=Aside0.mk (below_step (by repeat (first | (with_reducible first | exact HB.out | apply below_alloc | apply pw_below_drewN | apply below_drew1) | exact HB.out)) hb);clear HB;have HO210:=n0_;have HB:=n1_;clear n0_ n1_;clear hb ho5))
  go_loopg [3,4] k (fun kq v3 v4 w' => ∃ (x3_1 : List Int) (x4_1 : Int),v4 = .int .i64 x4_1 ∧ Aside0 (spec_Crc15.l0 kq a0 x3_1 x4_1 = some r) ∧ Aside0 (kq ≤ k) ∧ Aside0 (Kd.R (Kd.int .u8) 5 w' w.heap.size (fun _ => True) v3 x3_1) ∧ Aside0 (Below w.heap.size w w'))
  case atStart => exact ⟨(y208),(0),(by first | rfl | (simp;done) | (simp [*];done)),H',⟨Nat.le_refl _⟩,⟨by (with_reducible repeat (first | apply Kd.R_alloc | apply Kd.R_drewN | apply Kd.R_drew));exact HO210.out⟩,⟨by repeat (first | (with_reducible first | exact HB.out | apply below_alloc | apply pw_below_drewN | apply below_drew1) | exact HB.out)⟩⟩
  case round =>
   clear H'
   try clear c1
   try clear p2
   try clear c3
   obtain ⟨x3_1,x4_1,rfl,HA,HK1,HO_3,HB⟩:=hrel
   cases gk with
   | zero => exact absurd HA.out (by simp [spec_Crc15.l0])
   | succ k1 =>
    have H:=HA.out
    clear HA
    simp only [spec_Crc15.l0] at H
    by_cases c6 : x4_1 < (a0.size : Int)
    ·rw [if_pos c6] at H
     have c6b0 : decide (x4_1 < (a0.size : Int)) = true:=decide_eq_true c6
     clear c6
     by_cases c7 : 0 ≤ x4_1
     ·rw [if_pos c7] at H
      have c7b0 : decide (0 ≤ x4_1) = true:=decide_eq_true c7
      clear c7
      by_cases c9 : x3_1.length < 140737488355328
      ·rw [if_pos c9] at H
       have LMc9:=Aside0.mk c9
       clear c9
       obtain ⟨y211,hy211⟩ : ∃ y_ : List Int,y_ = (x3_1 ++ [((bt a0 x4_1) - 48) % 256]):=⟨_,rfl⟩
       replace H : (spec_Crc15.l0 k1 a0 y211 (wrap64 (x4_1 + 1))) = some r:=by first | (rw [hy211];with_reducible exact H) | (have H2_:=(Option.bind_some _ _).symm.trans H;rw [hy211];with_reducible exact H2_) | (have H2_:=(Option.bind_some _ _).symm.trans H;with_reducible exact H2_) | with_reducible exact H | (rw [hy211];exact H) | exact H
       have Ny211:=Aside0.mk hy211
       clear hy211
       have H':=Aside0.mk H
       clear H
       have p8 : 0 ≤ (x4_1 : Int):=of_decide_eq_true (by first | (with_reducible assumption) | assumption)
       have q8 : x4_1 < (a0.size : Int):=of_decide_eq_true (by first | (with_reducible assumption) | assumption)
       have hx8:=bt_at a0 x4_1
       replace p8:=eq_true p8
       replace q8:=eq_true q8
       go_wp2_with (first | ((with_reducible refine gate_builtin (b := .append) (xs := #[.tmp 21, .tmp 26]) rfl ?_);at_builtin;refine Kd.R_append (Kd.int .u8) (w0:=w) w.heap.size rfl (.tmp 21) (.tmp 26) 23 5 (.int .u8 0) 1 rfl Tryd.underlying23 info5 rfl (by decide) (by omega) u3 x3_1 (((bt a0 x4_1) - 48) % 256) [.int .u8 (((bt a0 x4_1) - 48) % 256)] (fun _ => True) (fun _ => False) rfl rfl ?aP (fun _ hk => hk.elim) ?aF ?aO ?aB ?aS ?aL ?_;(case aP => exact rfl);(case aB => exact (by repeat (first | (with_reducible first | exact HB.out | apply below_alloc | apply pw_below_drewN | apply below_drew1) | exact HB.out)));(case aF => exact (fun _ _ => trivial));(case aO => exact (by (with_reducible repeat (first | apply Kd.R_alloc | apply Kd.R_drewN | apply Kd.R_drew));exact HO_3.out));(case aS => exact (below_size (by repeat (first | (with_reducible first | exact HB.out | apply below_alloc | apply pw_below_drewN | apply below_drew1) | exact HB.out))));(case aL => have:=LMc9.out;omega);intro v212 w10 ho hb hg hat;rw [← Ny211.out] at ho;have n0_:=Aside0.mk (hb);have n1_:=Aside0.mk (ho);clear HB;clear HO_3;have HB:=n0_;have HO213:=n1_;clear n0_ n1_;clear ho hb hg hat))
       go_roundg k1
       case measure => have:=HK1.out;omega
       case rel => exact ⟨(y211),(wrap64 (x4_1 + 1)),(by first | rfl | (simp;done) | (simp [*];done)),H',⟨by have:=HK1.out;omega⟩,⟨by (with_reducible repeat (first | apply Kd.R_alloc | apply Kd.R_drewN | apply Kd.R_drew));exact HO213.out⟩,⟨by repeat (first | (with_reducible first | exact HB.out | apply below_alloc | apply pw_below_drewN | apply below_drew1) | exact HB.out)⟩⟩
      ·rw [if_neg c9] at H
       exact absurd H (by simp)
     ·rw [if_neg c7] at H
      exact absurd H (by simp)
    ·rw [if_neg c6] at H
     have c6b0 : decide (x4_1 < (a0.size : Int)) = false:=decide_eq_false c6
     clear c6
     have H':=Aside0.mk H
     clear H
     go_wp2
     go_loopg [3,5] k1 (fun kq v3 v5 w' => ∃ (x3_2 : List Int) (x5_2 : Int),v5 = .int .i64 x5_2 ∧ Aside0 (spec_Crc15.l1 kq x3_2 x5_2 = some r) ∧ Aside0 (kq ≤ k1) ∧ Aside0 (Kd.R (Kd.int .u8) 5 w' w.heap.size (fun _ => True) v3 x3_2) ∧ Aside0 (Below w.heap.size w w'))
     case atStart => exact ⟨(x3_1),(0),(by first | rfl | (simp;done) | (simp [*];done)),H',⟨Nat.le_refl _⟩,⟨by (with_reducible repeat (first | apply Kd.R_alloc | apply Kd.R_drewN | apply Kd.R_drew));exact HO_3.out⟩,⟨by repeat (first | (with_reducible first | exact HB.out | apply below_alloc | apply pw_below_drewN | apply below_drew1) | exact HB.out)⟩⟩
     case round =>
      clear H'
      try clear c1
      try clear p2
      try clear c3
      try clear c6
      try clear c6b0
      try clear p6
      try clear c7
      try clear c7b0
      try clear p8
      try clear q8
      try clear hx8
      try clear c9
      try clear p2
      try clear p8
      try clear q8
      obtain ⟨x3_2,x5_2,rfl,HA,HK2,HO_3,HB⟩:=hrel
      cases gk with
      | zero => exact absurd HA.out (by simp [spec_Crc15.l1])
      | succ k2 =>
       have H:=HA.out
       clear HA
       simp only [spec_Crc15.l1] at H
       by_cases c11 : x5_2 < 15
       ·rw [if_pos c11] at H
        have c11b0 : decide (x5_2 < 15) = true:=decide_eq_true c11
        clear c11
        by_cases c12 : x3_2.length < 140737488355328
        ·rw [if_pos c12] at H
         have LMc12:=Aside0.mk c12
         clear c12
         obtain ⟨y214,hy214⟩ : ∃ y_ : List Int,y_ = (x3_2 ++ [0]):=⟨_,rfl⟩
         replace H : (spec_Crc15.l1 k2 y214 (wrap64 (x5_2 + 1))) = some r:=by first | (rw [hy214];with_reducible exact H) | (have H2_:=(Option.bind_some _ _).symm.trans H;rw [hy214];with_reducible exact H2_) | (have H2_:=(Option.bind_some _ _).symm.trans H;with_reducible exact H2_) | with_reducible exact H | (rw [hy214];exact H) | exact H
         have Ny214:=Aside0.mk hy214
         clear hy214
         have H':=Aside0.mk H
         clear H
         go_wp2_with (first | ((with_reducible refine gate_builtin (b := .append) (xs := #[.tmp 32, .tmp 33]) rfl ?_);at_builtin;refine Kd.R_append (Kd.int .u8) (w0:=w) w.heap.size rfl (.tmp 32) (.tmp 33) 23 5 (.int .u8 0) 1 rfl Tryd.underlying23 info5 rfl (by decide) (by omega) u3 x3_2 0 [.int .u8 0] (fun _ => True) (fun _ => False) rfl rfl ?aP (fun _ hk => hk.elim) ?aF ?aO ?aB ?aS ?aL ?_;(case aP => exact rfl);(case aB => exact (by repeat (first | (with_reducible first | exact HB.out | apply below_alloc | apply pw_below_drewN | apply below_drew1) | exact HB.out)));(case aF => exact (fun _ _ => trivial));(case aO => exact (by (with_reducible repeat (first | apply Kd.R_alloc | apply Kd.R_drewN | apply Kd.R_drew));exact HO_3.out));(case aS => exact (below_size (by repeat (first | (with_reducible first | exact HB.out | apply below_alloc | apply pw_below_drewN | apply below_drew1) | exact HB.out))));(case aL => have:=LMc12.out;omega);intro v215 w13 ho hb hg hat;rw [← Ny214.out] at ho;have n0_:=Aside0.mk (hb);have n1_:=Aside0.mk (ho);clear HB;clear HO_3;have HB:=n0_;have HO216:=n1_;clear n0_ n1_;clear ho hb hg hat))
         go_roundg k2
         case measure => have:=HK1.out;have:=HK2.out;omega
         case rel => exact ⟨(y214),(wrap64 (x5_2 + 1)),(by first | rfl | (simp;done) | (simp [*];done)),H',⟨by have:=HK1.out;have:=HK2.out;omega⟩,⟨by (with_reducible repeat (first | apply Kd.R_alloc | apply Kd.R_drewN | apply Kd.R_drew));exact HO216.out⟩,⟨by repeat (first | (with_reducible first | exact HB.out | apply below_alloc | apply pw_below_drewN | apply below_drew1) | exact HB.out)⟩⟩
        ·rw [if_neg c12] at H
         exact absurd H (by simp)
       ·rw [if_neg c11] at H
        have c11b0 : decide (x5_2 < 15) = false:=decide_eq_false c11
        clear c11
        have H':=Aside0.mk H
        clear H
        go_wp2
        go_loopg [7] k2 (fun kq v7 w' => ∃ (x3_3 : List Int) (x7_3 : Int),v7 = .int .i64 x7_3 ∧ Aside0 (spec_Crc15.l2 kq x3_3 (⟨#[49,49,48,48,48,49,48,49,49,48,48,49,49,48,48,49]⟩ : ByteArray) x7_3 = some r) ∧ Aside0 (kq ≤ k2) ∧ Aside0 (Kd.R (Kd.int .u8) 5 w' w.heap.size (fun _ => True) u3 x3_3) ∧ Aside0 (Below w.heap.size w w'))
        case atStart => exact ⟨(x3_2),(0),(by first | rfl | (simp;done) | (simp [*];done)),H',⟨Nat.le_refl _⟩,⟨by (with_reducible repeat (first | apply Kd.R_alloc | apply Kd.R_drewN | apply Kd.R_drew));exact HO_3.out⟩,⟨by repeat (first | (with_reducible first | exact HB.out | apply below_alloc | apply pw_below_drewN | apply below_drew1) | exact HB.out)⟩⟩
        case round =>
         clear H'
         try clear c1
         try clear p2
         try clear c3
         try clear c6
         try clear c6b0
         try clear p6
         try clear c7
         try clear c7b0
         try clear p8
         try clear q8
         try clear hx8
         try clear c9
         try clear c11
         try clear c11b0
         try clear c12
         try clear p2
         try clear p6
         try clear p8
         try clear q8
         obtain ⟨x3_3,x7_3,rfl,HA,HK3,HO_3,HB⟩:=hrel
         cases gk with
         | zero => exact absurd HA.out (by simp [spec_Crc15.l2])
         | succ k3 =>
          have H:=HA.out
          clear HA
          simp only [spec_Crc15.l2] at H
          by_cases c14 : (wrap64 (x7_3 + 15)) < (x3_3.length : Int)
          ·rw [if_pos c14] at H
           have c14b0 : decide ((wrap64 (x7_3 + 15)) < (x3_3.length : Int)) = true:=decide_eq_true c14
           clear c14
           by_cases c15 : 0 ≤ x7_3
           ·rw [if_pos c15] at H
            have c15b0 : decide (0 ≤ x7_3) = true:=decide_eq_true c15
            clear c15
            by_cases c16 : x7_3 < (x3_3.length : Int)
            ·rw [if_pos c16] at H
             have c16b0 : decide (x7_3 < (x3_3.length : Int)) = true:=decide_eq_true c16
             clear c16
             by_cases c17 : (rd x3_3 x7_3) = 1
             ·rw [if_pos c17] at H
              have c17b0 : ((rd x3_3 x7_3) == 1) = true:=beq_iff_eq.mpr c17
              have c17b1 : ((rd x3_3 x7_3) != 1) = false:=bne_eq_false_iff_eq.mpr c17
              clear c17
              have H':=Aside0.mk H
              clear H
              obtain ⟨Ao18,co18,eo18⟩:=Kd.R_slice HO_3.out
              subst eo18
              have p217 : 0 ≤ (x7_3 : Int):=of_decide_eq_true (by first | (with_reducible assumption) | assumption)
              have q217 : x7_3 < (x3_3.length : Int):=of_decide_eq_true (by first | (with_reducible assumption) | assumption)
              obtain ⟨ad217,e217,hx217_0⟩:=Kd.at_int (Kd.R_reads' HO_3.out).2.2 x7_3 p217 q217
              cases e217
              replace p217:=eq_true p217
              replace q217:=eq_true q217
              go_wp2
              go_loopg [8] k3 (fun kq v8 w' => ∃ (x3_4 : List Int) (x8_4 : Int),v8 = .int .i64 x8_4 ∧ Aside0 (spec_Crc15.l3 kq x3_4 (⟨#[49,49,48,48,48,49,48,49,49,48,48,49,49,48,48,49]⟩ : ByteArray) x7_3 x8_4 = some r) ∧ Aside0 (kq ≤ k3) ∧ Aside0 (Kd.R (Kd.int .u8) 5 w' w.heap.size (fun _ => True) (.slice (some ad217) x3_3.length co18) x3_4) ∧ Aside0 (Below w.heap.size w w'))
              case atStart => exact ⟨(x3_3),(0),(by first | rfl | (simp;done) | (simp [*];done)),H',⟨Nat.le_refl _⟩,⟨by (with_reducible repeat (first | apply Kd.R_alloc | apply Kd.R_drewN | apply Kd.R_drew));exact HO_3.out⟩,⟨by repeat (first | (with_reducible first | exact HB.out | apply below_alloc | apply pw_below_drewN | apply below_drew1) | exact HB.out)⟩⟩
              case round =>
               clear H'
               try clear c1
               try clear p2
               try clear q2
               try clear hx2
               try clear c3
               try clear c6
               try clear c6b0
               try clear p6
               try clear c7
               try clear c7b0
               try clear p8
               try clear q8
               try clear hx8
               try clear c9
               try clear c11
               try clear c11b0
               try clear c12
               try clear c14
               try clear c14b0
               try clear c15
               try clear c15b0
               try clear c16
               try clear c16b0
               try clear c17
               try clear c17b0
               try clear c17b1
               try clear hx217_0
               try clear p2
               try clear p217
               try clear p6
               try clear p8
               try clear q217
               try clear q8
               obtain ⟨x3_4,x8_4,rfl,HA,HK4,HO_3,HB⟩:=hrel
               have hl3_4:=(Kd.R_reads' HO_3.out).1
               rw [hl3_4] at HO_3
               (try simp only [hl3_4])
               cases gk with
               | zero => exact absurd HA.out (by simp [spec_Crc15.l3])
               | succ k4 =>
                have H:=HA.out
                clear HA
                simp only [spec_Crc15.l3] at H
                by_cases c19 : x8_4 < 16
                ·rw [if_pos c19] at H
                 have c19b0 : decide (x8_4 < 16) = true:=decide_eq_true c19
                 clear c19
                 obtain ⟨ji20,hji20⟩ : ∃ j_ : Int,(wrap64 (x7_3 + x8_4)) = j_:=⟨_,rfl⟩
                 replace H : (if 0 ≤ (ji20) then (if (ji20) < (x3_4.length : Int) then (if 0 ≤ x8_4 then (if x8_4 < ((⟨#[49,49,48,48,48,49,48,49,49,48,48,49,49,48,48,49]⟩ : ByteArray).size : Int) then (spec_Crc15.l3 k4 (x3_4.set ((ji20) : Int).toNat (Go.bits .xor .u8 (rd x3_4 (ji20)) (((bt (⟨#[49,49,48,48,48,49,48,49,49,48,48,49,49,48,48,49]⟩ : ByteArray) x8_4) - 48) % 256))) (⟨#[49,49,48,48,48,49,48,49,49,48,48,49,49,48,48,49]⟩ : ByteArray) x7_3 (wrap64 (x8_4 + 1))) else (none)) else (none)) else (none)) else (none)) = some r:=by first | (rw [hji20] at H;exact H) | (simp only [hji20] at H ⊢;exact H)
                 have hji20w : (IntKind.i64.wrap (x7_3 + x8_4)) = ji20:=(i64_w _).trans hji20
                 by_cases c21 : 0 ≤ (ji20)
                 ·rw [if_pos c21] at H
                  have c21b0 : decide (0 ≤ (ji20)) = true:=decide_eq_true c21
                  clear c21
                  by_cases c22 : (ji20) < (x3_4.length : Int)
                  ·rw [if_pos c22] at H
                   have c22b0 : decide ((ji20) < (x3_4.length : Int)) = true:=decide_eq_true c22
                   clear c22
                   by_cases c23 : 0 ≤ x8_4
                   ·rw [if_pos c23] at H
                    have c23b0 : decide (0 ≤ x8_4) = true:=decide_eq_true c23
                    clear c23
                    by_cases c24 : x8_4 < ((⟨#[49,49,48,48,48,49,48,49,49,48,48,49,49,48,48,49]⟩ : ByteArray).size : Int)
                    ·rw [if_pos c24] at H
                     have c24b0 : decide (x8_4 < ((⟨#[49,49,48,48,48,49,48,49,49,48,48,49,49,48,48,49]⟩ : ByteArray).size : Int)) = true:=decide_eq_true c24
                     clear c24
                     obtain ⟨y219,hy219⟩ : ∃ y_ : List Int,y_ = (x3_4.set ((ji20) : Int).toNat (Go.bits .xor .u8 (rd x3_4 (ji20)) (((bt (⟨#[49,49,48,48,48,49,48,49,49,48,48,49,49,48,48,49]⟩ : ByteArray) x8_4) - 48) % 256))):=⟨_,rfl⟩
                     replace H : (spec_Crc15.l3 k4 y219 (⟨#[49,49,48,48,48,49,48,49,49,48,48,49,49,48,48,49]⟩ : ByteArray) x7_3 (wrap64 (x8_4 + 1))) = some r:=by first | (rw [hy219];with_reducible exact H) | (have H2_:=(Option.bind_some _ _).symm.trans H;rw [hy219];with_reducible exact H2_) | (have H2_:=(Option.bind_some _ _).symm.trans H;with_reducible exact H2_) | with_reducible exact H | (rw [hy219];exact H) | exact H
                     have Ny219:=Aside0.mk hy219
                     clear hy219
                     have H':=Aside0.mk H
                     clear H
                     try go_wp2
                     have n0_:=Aside0.mk (Kd.R_drew HO_3.out)
                     have n1_:=Aside0.mk (below_drew1 HB.out)
                     clear HO_3
                     clear HB
                     have HO_3:=n0_
                     have HB:=n1_
                     clear n0_ n1_
                     have p218 : 0 ≤ ((ji20) : Int):=of_decide_eq_true (by first | (with_reducible assumption) | assumption)
                     have q218 : (ji20) < (x3_4.length : Int):=of_decide_eq_true (by first | (with_reducible assumption) | assumption)
                     obtain ⟨ad218,e218,hx218_0⟩:=Kd.at_int (Kd.R_reads' HO_3.out).2.2 (ji20) p218 q218
                     obtain rfl : ad217 = ad218:=(by injection e218)
                     replace p218:=eq_true p218
                     replace q218:=eq_true q218
                     have p25 : 0 ≤ (x8_4 : Int):=of_decide_eq_true (by first | (with_reducible assumption) | assumption)
                     have q25 : x8_4 < (16 : Int):=of_decide_eq_true (by first | (with_reducible assumption) | assumption)
                     have hx25:=bt_at (⟨#[49,49,48,48,48,49,48,49,49,48,48,49,49,48,48,49]⟩ : ByteArray) x8_4
                     replace p25:=eq_true p25
                     replace q25:=eq_true q25
                     have p26 : 0 ≤ ((ji20) : Int):=of_decide_eq_true (by first | (with_reducible assumption) | assumption)
                     have q26 : ((ji20) : Int) < ((x3_4.length : Int) : Int):=of_decide_eq_true (by first | (with_reducible assumption) | assumption)
                     obtain ⟨go26,co26,eo26,gb26,gl26,cl26,HG26⟩:=Kd.R_form HO_3.out (by omega)
                     (first | cases eo26 | (injection eo26 with ea_ en_ ec_;(first | subst ea_ | (injection ea_ with ea_;subst ea_));subst ec_;clear en_))
                     have GB26:=Aside0.mk gb26
                     have GG26:=Aside0.mk HG26
                     clear gb26 gl26 HG26
                     (first | simp only [add_plain] at hx217_0 | skip)
                     (first | simp only [add_plain] at hx218_0 | skip)
                     obtain ⟨hx26_0,hf26_0⟩:=Kd.R_celln 0 HO_3.out ((ji20) : Int) p26 q26
                     replace p26:=eq_true p26
                     replace q26:=eq_true q26
                     have HP28:=Kd.R_putn HO_3.out ((ji20) : Int) (Go.bits .xor .u8 (rd x3_4 (ji20)) (((bt (⟨#[49,49,48,48,48,49,48,49,49,48,48,49,49,48,48,49]⟩ : ByteArray) x8_4) - 48) % 256))
                     rw [← Ny219.out] at HP28
                     have HQ28:=Aside0.mk HP28
                     clear HP28
                     refine start_ (n:=17) (S:=fun w' => w'.cell? ⟨go26,((ji20)).toNat,none⟩ = some (.int .u8 (rd x3_4 (ji20)))) (ds := [16]) #[false,false,false,false,false,false,false,false,false,false,false,false,false,false,false,false,false] (by kernel_rfl) rfl rfl (hx218_0) (fun hHeld => ?_);refine with_tabW spec_Crc15.tab20 spec_Crc15.bits20 (fun HT_ HW_ => ?_)
                     generalize wr.drew = w27 at HO_3 HB GG26 HQ28 hf26_0 hx218_0 hx26_0 hHeld ⊢
                     refine pure_ (i:=0) (N:=some 51) (v := ?_) (a' := ?_) #[true,false,false,false,false,false,false,false,false,false,false,false,false,false,false,false,false] rfl rfl (any_of HT_.out (by kernel_rfl)) (fun _ _ _ h => h) (Or.inl ⟨by rfl, ?_⟩) ?_ ?_
                     rotate_left
                     ·intro w'
                      go_simp
                      with_reducible rfl
                     rotate_left
                     ·simp only [Act.put,List.setIfInBounds_toArray,List.set_cons_zero,List.set_cons_succ,i64_w,i32_w]
                      rfl
                     refine pure_ (i:=1) (N:=some 52) (v := ?_) (a' := ?_) #[true,true,false,false,false,false,false,false,false,false,false,false,false,false,false,false,false] rfl rfl (any_of HT_.out (by kernel_rfl)) (fun _ _ _ h => h) (Or.inl ⟨by rfl, ?_⟩) ?_ ?_
                     rotate_left
                     ·intro w'
                      go_simp
                      with_reducible rfl
                     rotate_left
                     ·simp only [Act.put,List.setIfInBounds_toArray,List.set_cons_zero,List.set_cons_succ,i64_w,i32_w]
                      rfl
                     refine pure_ (i:=2) (N:=some 53) (v := ?_) (a' := ?_) #[true,true,true,false,false,false,false,false,false,false,false,false,false,false,false,false,false] rfl rfl (any_of HT_.out (by kernel_rfl)) (fun _ _ _ h => h) (Or.inl ⟨by rfl, ?_⟩) ?_ ?_
                     rotate_left
                     ·intro w'
                      go_simp
                      with_reducible rfl
                     rotate_left
                     ·simp only [Act.put,List.setIfInBounds_toArray,List.set_cons_zero,List.set_cons_succ,i64_w,i32_w]
                      rfl
                     refine pure_ (i:=3) (N:=some 54) (v := ?_) (a' := ?_) #[true,true,true,true,false,false,false,false,false,false,false,false,false,false,false,false,false] rfl rfl (any_of HT_.out (by kernel_rfl)) (fun _ _ _ h => h) (Or.inl ⟨by rfl, ?_⟩) ?_ ?_
                     rotate_left
                     ·intro w'
                      go_simp
                      with_reducible rfl
                     rotate_left
                     ·simp only [Act.put,List.setIfInBounds_toArray,List.set_cons_zero,List.set_cons_succ,i64_w,i32_w]
                      rfl
                     refine pure_ (i:=4) (N:=some 55) (v := ?_) (a' := ?_) #[true,true,true,true,true,false,false,false,false,false,false,false,false,false,false,false,false] rfl rfl (any_of HT_.out (by kernel_rfl)) (fun _ _ _ h => h) (Or.inl ⟨by rfl, ?_⟩) ?_ ?_
                     rotate_left
                     ·intro w'
                      go_simp
                      with_reducible rfl
                     rotate_left
                     ·simp only [Act.put,List.setIfInBounds_toArray,List.set_cons_zero,List.set_cons_succ,i64_w,i32_w]
                      rfl
                     refine pure_ (i:=5) (N:=some 56) (v := ?_) (a' := ?_) #[true,true,true,true,true,true,false,false,false,false,false,false,false,false,false,false,false] rfl rfl (any_of HT_.out (by kernel_rfl)) (fun _ _ _ h => h) (Or.inl ⟨by rfl, ?_⟩) ?_ ?_
                     rotate_left
                     ·intro w'
                      go_simp
                      with_reducible rfl
                     rotate_left
                     ·simp only [Act.put,List.setIfInBounds_toArray,List.set_cons_zero,List.set_cons_succ,i64_w,i32_w]
                      rfl
                     refine pure_ (i:=6) (N:=some 57) (v := ?_) (a' := ?_) #[true,true,true,true,true,true,true,false,false,false,false,false,false,false,false,false,false] rfl rfl (any_of HT_.out (by kernel_rfl)) (fun _ _ _ h => h) (Or.inl ⟨by rfl, ?_⟩) ?_ ?_
                     rotate_left
                     ·intro w'
                      go_simp
                      with_reducible rfl
                     rotate_left
                     ·simp only [Act.put,List.setIfInBounds_toArray,List.set_cons_zero,List.set_cons_succ,i64_w,i32_w]
                      rfl
                     refine pure_ (i:=7) (N:=some 58) (v := ?_) (a' := ?_) #[true,true,true,true,true,true,true,true,false,false,false,false,false,false,false,false,false] rfl rfl (any_of HT_.out (by kernel_rfl)) (fun _ _ _ h => h) (Or.inl ⟨by rfl, ?_⟩) ?_ ?_
                     rotate_left
                     ·intro w'
                      go_simp
                      with_reducible rfl
                     rotate_left
                     ·simp only [Act.put,List.setIfInBounds_toArray,List.set_cons_zero,List.set_cons_succ,i64_w,i32_w]
                      rfl
                     refine pure_ (i:=8) (N:=some 59) (v := ?_) (a' := ?_) #[true,true,true,true,true,true,true,true,true,false,false,false,false,false,false,false,false] rfl rfl (any_of HT_.out (by kernel_rfl)) (fun _ _ _ h => h) (Or.inl ⟨by rfl, ?_⟩) ?_ ?_
                     rotate_left
                     ·intro w'
                      go_simp
                      with_reducible rfl
                     rotate_left
                     ·simp only [Act.put,List.setIfInBounds_toArray,List.set_cons_zero,List.set_cons_succ,i64_w,i32_w]
                      rfl
                     refine pure_ (i:=10) (N:=some 61) (v := ?_) (a' := ?_) #[true,true,true,true,true,true,true,true,true,false,true,false,false,false,false,false,false] rfl rfl (any_of HT_.out (by kernel_rfl)) (fun _ _ _ h => h) (Or.inl ⟨by rfl, ?_⟩) ?_ ?_
                     rotate_left
                     ·intro w'
                      go_simp
                      with_reducible rfl
                     rotate_left
                     ·simp only [Act.put,List.setIfInBounds_toArray,List.set_cons_zero,List.set_cons_succ,i64_w,i32_w]
                      rfl
                     refine pure_ (i:=11) (N:=some 62) (v := ?_) (a' := ?_) #[true,true,true,true,true,true,true,true,true,false,true,true,false,false,false,false,false] rfl rfl (any_of HT_.out (by kernel_rfl)) (fun _ _ _ h => h) (Or.inl ⟨by rfl, ?_⟩) ?_ ?_
                     rotate_left
                     ·intro w'
                      go_simp
                      with_reducible rfl
                     rotate_left
                     ·simp only [Act.put,List.setIfInBounds_toArray,List.set_cons_zero,List.set_cons_succ,i64_w,i32_w]
                      rfl
                     refine take_ (i:=9) (N:=some 60) (v := ?_) (a' := ?_) #[true,true,true,true,true,true,true,true,true,true,true,true,false,false,false,false,false] rfl rfl (take_ofW HT_.out HW_.out (by kernel_rfl)) (fun _ _ _ h => h) (Or.inl ⟨by rfl, ?_⟩) hHeld ?_ ?_
                     rotate_left
                     ·intro w' s0
                      go_simp
                      with_reducible rfl
                     rotate_left
                     ·simp only [Act.put,List.setIfInBounds_toArray,List.set_cons_zero,List.set_cons_succ,i64_w,i32_w]
                      rfl
                     refine take_ (i:=12) (N:=some 63) (v := ?_) (a' := ?_) #[true,true,true,true,true,true,true,true,true,true,true,true,true,false,false,false,false] rfl rfl (take_ofW HT_.out HW_.out (by kernel_rfl)) (fun _ _ _ h => h) (Or.inl ⟨by rfl, ?_⟩) hHeld ?_ ?_
                     rotate_left
                     ·intro w' s0
                      go_simp
                      with_reducible rfl
                     rotate_left
                     ·simp only [Act.put,List.setIfInBounds_toArray,List.set_cons_zero,List.set_cons_succ,i64_w,i32_w]
                      rfl
                     refine pure_ (i:=13) (N:=some 64) (v := ?_) (a' := ?_) #[true,true,true,true,true,true,true,true,true,true,true,true,true,true,false,false,false] rfl rfl (any_of HT_.out (by kernel_rfl)) (fun _ _ _ h => h) (Or.inl ⟨by rfl, ?_⟩) ?_ ?_
                     rotate_left
                     ·intro w'
                      go_simp
                      with_reducible rfl
                     rotate_left
                     ·simp only [Act.put,List.setIfInBounds_toArray,List.set_cons_zero,List.set_cons_succ,i64_w,i32_w]
                      rfl
                     refine pure_ (i:=14) (N:=some 65) (v := ?_) (a' := ?_) #[true,true,true,true,true,true,true,true,true,true,true,true,true,true,true,false,false] rfl rfl (any_of HT_.out (by kernel_rfl)) (fun _ _ _ h => h) (Or.inl ⟨by rfl, ?_⟩) ?_ ?_
                     rotate_left
                     ·intro w'
                      go_simp
                      with_reducible rfl
                     rotate_left
                     ·simp only [Act.put,List.setIfInBounds_toArray,List.set_cons_zero,List.set_cons_succ,i64_w,i32_w]
                      rfl
                     refine pure_ (i:=15) (N:=some 66) (v := ?_) (a' := ?_) #[true,true,true,true,true,true,true,true,true,true,true,true,true,true,true,true,false] rfl rfl (any_of HT_.out (by kernel_rfl)) (fun _ _ _ h => h) (Or.inl ⟨by rfl, ?_⟩) ?_ ?_
                     rotate_left
                     ·intro w'
                      go_simp
                      with_reducible rfl
                     rotate_left
                     ·simp only [Act.put,List.setIfInBounds_toArray,List.set_cons_zero,List.set_cons_succ,i64_w,i32_w]
                      rfl
                     refine last_ (i:=16) (N:=none) #[true,true,true,true,true,true,true,true,true,true,true,true,true,true,true,true,true] rfl rfl (one_of HT_.out (by kernel_rfl)) (by decide) (fun K hK => ?_)
                     refine skip_ (w1 := ?_) (by rfl) rfl ?_ ?_
                     rotate_left
                     ·go_simp
                      rfl
                     refine hK.out _ _ ?_
                     clear hK K
                     refine done_ (done_of HT_.out (by kernel_rfl)) ?_
                     try go_wp2
                     (try simp only [← hl3_4]);(try simp only [← add_plain go26 x7_3.toNat])
                     go_roundg k4
                     case measure => have:=HK1.out;have:=HK2.out;have:=HK3.out;have:=HK4.out;omega
                     case rel => exact ⟨(y219),(wrap64 (x8_4 + 1)),(by first | rfl | (simp;done) | (simp [*];done)),H',⟨by have:=HK1.out;have:=HK2.out;have:=HK3.out;have:=HK4.out;omega⟩,⟨by (try simp only [hl3_4]);(with_reducible repeat (first | apply Kd.R_alloc | apply Kd.R_drewN | apply Kd.R_drew));exact HQ28.out⟩,⟨by repeat (first | (with_reducible first | exact HB.out | apply below_alloc | apply pw_below_drewN | apply below_drew1 | refine below_set ?_ GB26.out) | exact HB.out)⟩⟩
                    ·rw [if_neg c24] at H
                     exact absurd H (by simp)
                   ·rw [if_neg c23] at H
                    exact absurd H (by simp)
                  ·rw [if_neg c22] at H
                   exact absurd H (by simp)
                 ·rw [if_neg c21] at H
                  exact absurd H (by simp)
                ·rw [if_neg c19] at H
                 have c19b0 : decide (x8_4 < 16) = false:=decide_eq_false c19
                 clear c19
                 have H':=Aside0.mk H
                 clear H
                 go_wp2
                 (try simp only [← hl3_4]);(try simp only [← add_plain go26 x7_3.toNat])
                 go_roundg k4
                 case measure => have:=HK1.out;have:=HK2.out;have:=HK3.out;have:=HK4.out;omega
                 case rel => exact ⟨(x3_4),(wrap64 (x7_3 + 1)),(by first | rfl | (simp;done) | (simp [*];done)),H',⟨by have:=HK1.out;have:=HK2.out;have:=HK3.out;have:=HK4.out;omega⟩,⟨by (try simp only [hl3_4]);(with_reducible repeat (first | apply Kd.R_alloc | apply Kd.R_drewN | apply Kd.R_drew));exact HO_3.out⟩,⟨by repeat (first | (with_reducible first | exact HB.out | apply below_alloc | apply pw_below_drewN | apply below_drew1) | exact HB.out)⟩⟩
             ·rw [if_neg c17] at H
              have c17b0 : ((rd x3_3 x7_3) == 1) = false:=beq_eq_false_iff_ne.mpr c17
              have c17b1 : ((rd x3_3 x7_3) != 1) = true:=bne_iff_ne.mpr c17
              have H':=Aside0.mk H
              clear H
              obtain ⟨Ao29,co29,eo29⟩:=Kd.R_slice HO_3.out
              subst eo29
              have p217 : 0 ≤ (x7_3 : Int):=of_decide_eq_true (by first | (with_reducible assumption) | assumption)
              have q217 : x7_3 < (x3_3.length : Int):=of_decide_eq_true (by first | (with_reducible assumption) | assumption)
              obtain ⟨ad217,e217,hx217_0⟩:=Kd.at_int (Kd.R_reads' HO_3.out).2.2 x7_3 p217 q217
              cases e217
              replace p217:=eq_true p217
              replace q217:=eq_true q217
              go_wp2
              go_roundg k3
              case measure => have:=HK1.out;have:=HK2.out;have:=HK3.out;omega
              case rel => exact ⟨(x3_3),(wrap64 (x7_3 + 1)),(by first | rfl | (simp;done) | (simp [*];done)),H',⟨by have:=HK1.out;have:=HK2.out;have:=HK3.out;omega⟩,⟨by (with_reducible repeat (first | apply Kd.R_alloc | apply Kd.R_drewN | apply Kd.R_drew));exact HO_3.out⟩,⟨by repeat (first | (with_reducible first | exact HB.out | apply below_alloc | apply pw_below_drewN | apply below_drew1) | exact HB.out)⟩⟩
            ·rw [if_neg c16] at H
             exact absurd H (by simp)
           ·rw [if_neg c15] at H
            exact absurd H (by simp)
          ·rw [if_neg c14] at H
           have c14b0 : decide ((wrap64 (x7_3 + 15)) < (x3_3.length : Int)) = false:=decide_eq_false c14
           clear c14
           have H':=Aside0.mk H
           clear H
           obtain ⟨Ao30,co30,eo30⟩:=Kd.R_slice HO_3.out
           subst eo30
           go_wp2
           go_loopg [9,10] k3 (fun kq v9 v10 w' => ∃ (x9_4 : Int) (x10_4 : Int),v9 = .int .i64 x9_4 ∧ v10 = .int .i64 x10_4 ∧ Aside0 (spec_Crc15.l4 kq x3_3 x9_4 x10_4 = some r) ∧ Aside0 (kq ≤ k3) ∧ Aside0 (Kd.R (Kd.int .u8) 5 w' w.heap.size (fun _ => True) (.slice Ao30 x3_3.length co30) x3_3) ∧ Aside0 (Below w.heap.size w w'))
           case atStart => exact ⟨(0),(wrap64 ((x3_3.length : Int) - 15)),(by first | rfl | (simp;done) | (simp [*];done)),(by first | rfl | (simp;done) | (simp [*];done)),H',⟨Nat.le_refl _⟩,⟨by (with_reducible repeat (first | apply Kd.R_alloc | apply Kd.R_drewN | apply Kd.R_drew));exact HO_3.out⟩,⟨by repeat (first | (with_reducible first | exact HB.out | apply below_alloc | apply pw_below_drewN | apply below_drew1) | exact HB.out)⟩⟩
           case round =>
            clear H'
            try clear c1
            try clear c2
            try clear p2
            try clear q2
            try clear hx2
            try clear hf2
            try clear c3
            try clear c6
            try clear c6b0
            try clear p6
            try clear c7
            try clear c7b0
            try clear p8
            try clear q8
            try clear hx8
            try clear c9
            try clear c11
            try clear c11b0
            try clear c12
            try clear c14
            try clear c14b0
            try clear c15
            try clear c15b0
            try clear c16
            try clear c16b0
            try clear c17
            try clear c17b0
            try clear c17b1
            try clear c19
            try clear c19b0
            try clear c21
            try clear c21b0
            try clear p21
            try clear q21
            try clear hx21
            try clear c22
            try clear c22b0
            try clear c23
            try clear c23b0
            try clear c24
            try clear c24b0
            try clear p25
            try clear q25
            try clear hx25
            try clear p26
            try clear q26
            try clear hx26
            try clear hf26
            try clear hx217_0
            try clear hx218_0
            try clear hx26_0
            try clear p2
            try clear p217
            try clear p218
            try clear p25
            try clear p26
            try clear p6
            try clear p8
            try clear q2
            try clear q217
            try clear q218
            try clear q25
            try clear q26
            try clear q8
            obtain ⟨x9_4,x10_4,rfl,rfl,HA,HK4,HO_3,HB⟩:=hrel
            cases gk with
            | zero => exact absurd HA.out (by simp [spec_Crc15.l4])
            | succ k4 =>
             have H:=HA.out
             clear HA
             simp only [spec_Crc15.l4] at H
             by_cases c31 : x10_4 < (x3_3.length : Int)
             ·rw [if_pos c31] at H
              have c31b0 : decide (x10_4 < (x3_3.length : Int)) = true:=decide_eq_true c31
              clear c31
              by_cases c32 : 0 ≤ x10_4
              ·rw [if_pos c32] at H
               have c32b0 : decide (0 ≤ x10_4) = true:=decide_eq_true c32
               clear c32
               have H':=Aside0.mk H
               clear H
               have p220 : 0 ≤ (x10_4 : Int):=of_decide_eq_true (by first | (with_reducible assumption) | assumption)
               have q220 : x10_4 < (x3_3.length : Int):=of_decide_eq_true (by first | (with_reducible assumption) | assumption)
               obtain ⟨ad220,e220,hx220_0⟩:=Kd.at_int (Kd.R_reads' HO_3.out).2.2 x10_4 p220 q220
               cases e220
               replace p220:=eq_true p220
               replace q220:=eq_true q220
               go_wp2
               go_roundg k4
               case measure => have:=HK1.out;have:=HK2.out;have:=HK3.out;have:=HK4.out;omega
               case rel => exact ⟨(wrap64 ((wrap64 (2 * x9_4)) + (wrap64 (rd x3_3 x10_4)))),(wrap64 (x10_4 + 1)),(by first | rfl | (simp;done) | (simp [*];done)),(by first | rfl | (simp;done) | (simp [*];done)),H',⟨by have:=HK1.out;have:=HK2.out;have:=HK3.out;have:=HK4.out;omega⟩,⟨by (with_reducible repeat (first | apply Kd.R_alloc | apply Kd.R_drewN | apply Kd.R_drew));exact HO_3.out⟩,⟨by repeat (first | (with_reducible first | exact HB.out | apply below_alloc | apply pw_below_drewN | apply below_drew1) | exact HB.out)⟩⟩
              ·rw [if_neg c32] at H
               exact absurd H (by simp)
             ·rw [if_neg c31] at H
              have c31b0 : decide (x10_4 < (x3_3.length : Int)) = false:=decide_eq_false c31
              clear c31
              obtain rfl:=Option.some.inj H
              go_wp2
              go_ret
              exact ⟨by first | rfl | (simp [errW_none,errW_some] <;> rfl) | (simp [*,errW_none,errW_some] <;> rfl),by repeat (first | (with_reducible first | exact HB.out | apply below_alloc | apply pw_below_drewN | apply below_drew1) | exact HB.out)⟩
 ·replace c3:=Bool.eq_false_iff.mpr c3
  subst c3
  have H1 : (some (-1)) = some r:=by rw [if_neg (show ¬ (false = true) by decide)] at H;exact H
  clear H
  have H:=H1
  clear H1
  obtain rfl:=Option.some.inj H
  go_enter Tryd.func68,Tryd.ntmps68
  go_wp2_with (first | ((with_reducible refine gate_callee (f:=64) rfl ?_);refine goesL_ (some 12) rfl rfl Tryd.func64 (by kernel_rfl) rfl #[.string a0, .int .i64 2000] rfl (by (try simp only [List.map_toArray,List.map_cons,List.map_nil]);first | done | rfl | (simp only [List.length_drop,List.length_take];rfl)) ?_;(with_reducible refine (spec_l1okBits.calls k a0 2000 false _ A2.out).mono ?_);rintro e w' ⟨rfl,⟨nd,rfl⟩⟩;refine ⟨_,rfl, ?_⟩))
  go_ret
  exact ⟨by first | rfl | (simp [errW_none,errW_some] <;> rfl) | (simp [*,errW_none,errW_some] <;> rfl),by repeat (first | (with_reducible first | exact HB.out | apply below_alloc | apply pw_below_drewN | apply below_drew1) | exact HB.out)⟩
end Go.Proofs.YtdoclpgciadjaaaDoor.P
namespace Go.Proofs.YtdoclpgciadjaaaDoor.P
open Go Go.RowKit Go.Proofs.YtdoclpgciadjaaaDoorW.PrintWords
set_option linter.unusedVariables false
theorem b2_xor (a b : Bool) : bits .xor .u8 (b2 a) (b2 b) = b2 (a ^^ b):=by cases a <;> cases b <;> decide
theorem gtext (j : Nat) (h : j < 16) : (bt (⟨#[49,49,48,48,48,49,48,49,49,48,48,49,49,48,48,49]⟩ : ByteArray) (j : Int) - 48) % 256 = b2 (Nat.testBit 50585 (15 - j)):=by
 have : ∀ j : Fin 16,(bt (⟨#[49,49,48,48,48,49,48,49,49,48,48,49,49,48,48,49]⟩ : ByteArray) ((j.val : Nat) : Int) - 48) % 256 = b2 (Nat.testBit 50585 (15 - j.val)):=by decide +kernel
 exact this ⟨j,h⟩
def phi (s : ByteArray) (i t : Nat) : Bool:=(decide (t < i + 15) && (crcL ((bytesOf s).take i)).testBit (14 - (t - i))) ^^ (decide (t < s.size) && bitB (bt s (t : Int)))
def Holds (v : List Int) (n : Nat) (from_ : Nat) (φ : Nat → Bool) : Prop:=v.length = n ∧ ∀ t,from_ ≤ t → t < n → rd v (t : Int) = b2 (φ t)
set_option linter.unusedSectionVars false
section
variable (s : ByteArray) (hs : s.size ≤ 2000) (hb : isBits s = true)
include hs hb
omit hs in
theorem bit_at (t : Nat) (ht : t < s.size) : bt s (t : Int) = 48 ∨ bt s (t : Int) = 49:=by
 rw [bt_eq s t ht]
 rcases isBit_cases (isBits_at hb ht) with e | e <;> rw [e]
 ·exact .inl rfl
 ·exact .inr rfl
omit hs hb in
theorem phi_step (i t : Nat) (hi : i < s.size) (ht : i + 1 ≤ t) (ht2 : t < s.size + 15) :
  phi s (i + 1) t = (phi s i t ^^ (phi s i i && decide (t < i + 16) && Nat.testBit 50585 (15 - (t - i)))):=by
 have hl : i < (bytesOf s).length:=by rw [bytesOf_length];exact hi
 have h1 : crcL ((bytesOf s).take (i + 1)) = crcN (crcL ((bytesOf s).take i)) (bitN (bt s (i : Int))):=by
  rw [List.take_succ_eq_append_getElem hl,crcL_snoc,bytesOf_get]
 have hb1 : bitN (bt s (i : Int)) ≤ 1:=by unfold bitN;split <;> omega
 have hbd : decide (bitN (bt s (i : Int)) = 1) = bitB (bt s (i : Int)):=by unfold bitN bitB;split <;> simp [*]
 unfold phi
 rw [h1]
 have hR : crcL ((bytesOf s).take i) < 32768:=crcL_lt _
 generalize crcL ((bytesOf s).take i) = R at *
 rw [decide_eq_true (show i < i + 15 by omega),decide_eq_true hi,Nat.sub_self,Bool.true_and,Bool.true_and]
 by_cases h : t < i + 16
 ·obtain ⟨j,hj,hj15⟩ : ∃ j,t = i + 15 - j ∧ j < 15:=⟨i + 15 - t,by omega,by omega⟩
  subst hj
  rw [show 14 - (i + 15 - j - (i + 1)) = j by omega,crcN_testBit R _ hR hb1 j hj15,hbd,show 15 - (i + 15 - j - i) = j by omega,decide_eq_true (show i + 15 - j < i + 1 + 15 by omega)]
  have hg : Nat.testBit 50585 j = Nat.testBit 17817 j:=by
   have : ∀ j : Fin 15,Nat.testBit 50585 j.val = Nat.testBit 17817 j.val:=by decide
   exact this ⟨j,hj15⟩
  rw [hg]
  by_cases h0 : 0 < j
  ·rw [decide_eq_true h0,decide_eq_true (show i + 15 - j < i + 15 by omega),show 14 - (i + 15 - j - i) = j - 1 by omega]
   simp only [Bool.true_and,Bool.and_true]
   cases R.testBit (j - 1) <;> cases R.testBit 14 <;> cases bitB (bt s (i : Int)) <;> cases Nat.testBit 17817 j <;> simp
  ·rw [decide_eq_false h0,decide_eq_false (show ¬ i + 15 - j < i + 15 by omega)]
   simp only [Bool.true_and,Bool.and_true,Bool.false_and]
   cases R.testBit 14 <;> cases bitB (bt s (i : Int)) <;> cases Nat.testBit 17817 j <;> simp
 ·rw [decide_eq_false (show ¬ t < i + 1 + 15 by omega),decide_eq_false (show ¬ t < i + 15 by omega)]
  simp
theorem l4_ev (v : List Int) (R : Nat) (hR : R < 32768) (hv : Holds v (s.size + 15) s.size (fun t => R.testBit (14 - (t - s.size)))) :
  ∀ (d j : Nat),j + d = 15 → Ev (fun k => spec_Crc15.l4 k v ((R >>> (15 - j) : Nat) : Int) ((s.size + j : Nat) : Int)) (R : Int):=by
 obtain ⟨hl,hv⟩:=hv
 intro d
 induction d with
 | zero =>
  intro j hj
  refine Ev.step (f:=fun _ => some (R : Int)) (fun k => ?_) (Ev.now _)
  simp only [spec_Crc15.l4]
  rw [if_neg (by omega),show 15 - j = 0 by omega,Nat.shiftRight_zero]
 | succ d ih =>
  intro j hj
  refine Ev.step (f:=fun k => spec_Crc15.l4 k v ((R >>> (15 - (j + 1)) : Nat) : Int) ((s.size + (j + 1) : Nat) : Int)) (fun k => ?_) (ih (j + 1) (by omega))
  have hb0 : (R >>> (15 - j)) < 32768:=Nat.lt_of_le_of_lt (Nat.shiftRight_le _ _) hR
  have hx : R >>> (15 - (j + 1)) = 2 * (R >>> (15 - j)) + (R.testBit (14 - j)).toNat:=by
   have e : 15 - j = (14 - j) + 1:=by omega
   rw [show 15 - (j + 1) = 14 - j by omega,e,Nat.shiftRight_succ,Nat.testBit_eq_decide_div_mod_eq,Nat.shiftRight_eq_div_pow]
   generalize R / 2 ^ (14 - j) = q
   by_cases h : q % 2 = 1
   ·rw [decide_eq_true h];simp;omega
   ·rw [decide_eq_false h];simp;omega
  have hr : rd v ((s.size + j : Nat) : Int) = (((R.testBit (14 - j)).toNat : Nat) : Int):=by
   rw [hv (s.size + j) (by omega) (by omega)];dsimp only;rw [show s.size + j - s.size = j by omega]
   unfold b2
   cases R.testBit (14 - j) <;> rfl
  have ht : (R.testBit (14 - j)).toNat ≤ 1:=Bool.toNat_le _
  simp only [spec_Crc15.l4]
  rw [if_pos (by omega),if_pos (by omega),hr,w64 (x:=2 * _) (by omega) (by omega),w64 (x:=(((R.testBit (14 - j)).toNat : Nat) : Int)) (by omega) (by omega),w64 (by omega) (by omega),w64 (by omega) (by omega),hx]
  push_cast
  rfl
theorem l3_ev (i : Nat) (hi : i < s.size) (φ : Nat → Bool) (r : Int)
  (next : ∀ v,Holds v (s.size + 15) (i + 1) (fun t => φ t ^^ (decide (t < i + 16) && Nat.testBit 50585 (15 - (t - i)))) → Ev (fun k => spec_Crc15.l2 k v (⟨#[49,49,48,48,48,49,48,49,49,48,48,49,49,48,48,49]⟩ : ByteArray) ((i + 1 : Nat) : Int)) r) :
  ∀ (d j : Nat) (v : List Int),j + d = 16 → Holds v (s.size + 15) i (fun t => φ t ^^ (decide (t < i + j) && Nat.testBit 50585 (15 - (t - i)))) → Ev (fun k => spec_Crc15.l3 k v (⟨#[49,49,48,48,48,49,48,49,49,48,48,49,49,48,48,49]⟩ : ByteArray) (i : Int) (j : Int)) r:=by
 intro d
 induction d with
 | zero =>
  intro j v hj hv
  obtain rfl : j = 16:=by omega
  refine Ev.step (f:=fun k => spec_Crc15.l2 k v (⟨#[49,49,48,48,48,49,48,49,49,48,48,49,49,48,48,49]⟩ : ByteArray) ((i + 1 : Nat) : Int)) (fun k => ?_) (next v ⟨hv.1,fun t h1 h2 => hv.2 t (by omega) h2⟩)
  simp only [spec_Crc15.l3]
  rw [if_neg (by omega),w64 (by omega) (by omega)]
  rfl
 | succ d ih =>
  intro j v hj hv
  obtain ⟨hl,hv⟩:=hv
  have hg:=gtext j (by omega)
  have hx : bits .xor .u8 (rd v ((i + j : Nat) : Int)) (b2 (Nat.testBit 50585 (15 - j))) = b2 (φ (i + j) ^^ Nat.testBit 50585 (15 - j)):=by
   rw [hv (i + j) (by omega) (by omega)];dsimp only;rw [decide_eq_false (show ¬ i + j < i + j by omega),Bool.false_and,Bool.xor_false,b2_xor]
  refine Ev.step (f:=fun k => spec_Crc15.l3 k (v.set (i + j) (b2 (φ (i + j) ^^ Nat.testBit 50585 (15 - j)))) (⟨#[49,49,48,48,48,49,48,49,49,48,48,49,49,48,48,49]⟩ : ByteArray) (i : Int) ((j + 1 : Nat) : Int)) (fun k => ?_) (ih (j + 1) _ (by omega) ⟨by rw [List.length_set];exact hl,fun t h1 h2 => ?_⟩)
  ·simp only [spec_Crc15.l3]
   rw [w64 (x:=(i : Int) + (j : Int)) (by omega) (by omega),show (i : Int) + (j : Int) = ((i + j : Nat) : Int) by omega,if_pos (by omega),if_pos (by omega),if_pos (by omega),if_pos (by omega),if_pos (by rw [show (ByteArray.size _ : Nat) = 16 from rfl];omega),hg,hx,w64 (by omega) (by omega)]
   rfl
  ·rw [rd_set v (i + j) _ t (by omega)]
   by_cases e : t = i + j
   ·subst e
    rw [if_pos rfl];dsimp only;rw [decide_eq_true (show i + j < i + (j + 1) by omega),Bool.true_and,show i + j - i = j by omega]
   ·rw [if_neg e,hv t h1 h2]
    dsimp only
    rw [show decide (t < i + j) = decide (t < i + (j + 1)) from decide_eq_decide.2 ⟨fun _ => by omega,fun _ => by omega⟩]
theorem l2_ev : ∀ (d i : Nat) (v : List Int),i + d = s.size → Holds v (s.size + 15) i (phi s i) → Ev (fun k => spec_Crc15.l2 k v (⟨#[49,49,48,48,48,49,48,49,49,48,48,49,49,48,48,49]⟩ : ByteArray) (i : Int)) (crcL (bytesOf s) : Int):=by
 intro d
 induction d with
 | zero =>
  intro i v hi hv
  obtain rfl : i = s.size:=by omega
  have h4:=l4_ev s hs hb (v:=v) (crcL (bytesOf s)) (crcL_lt _) ⟨hv.1,fun t h1 h2 => by
   rw [hv.2 t h1 h2];unfold phi;dsimp only
   rw [decide_eq_false (show ¬ t < s.size by omega),decide_eq_true (show t < s.size + 15 by omega),List.take_of_length_le (by rw [bytesOf_length];omega)];simp⟩ 15 0 (by omega)
  refine Ev.step (f:=fun k => spec_Crc15.l4 k v ((crcL (bytesOf s) >>> (15 - 0) : Nat) : Int) ((s.size + 0 : Nat) : Int)) (fun k => ?_) h4
  have hz : crcL (bytesOf s) >>> (15 - 0) = 0:=by rw [Nat.shiftRight_eq_div_pow];have:=crcL_lt (bytesOf s);omega
  have hl:=hv.1
  simp only [spec_Crc15.l2]
  rw [w64 (by omega) (by omega),if_neg (by omega),hz,hl,w64 (by omega) (by omega),show ((s.size + 15 : Nat) : Int) - 15 = ((s.size + 0 : Nat) : Int) by omega]
  rfl
 | succ d ih =>
  intro i v hi hv
  have hl:=hv.1
  have his : i < s.size:=by omega
  have hr : rd v (i : Int) = b2 (phi s i i):=hv.2 i (by omega) (by omega)
  cases hp : phi s i i with
  | true =>
   refine Ev.step (f:=fun k => spec_Crc15.l3 k v (⟨#[49,49,48,48,48,49,48,49,49,48,48,49,49,48,48,49]⟩ : ByteArray) (i : Int) ((0 : Nat) : Int)) (fun k => ?_) (l3_ev s hs hb i his (phi s i) _ (fun v' hv' => ih (i + 1) v' (by omega) ⟨hv'.1,fun t h1 h2 => ?_⟩) 16 0 v (by omega) ⟨hl,fun t h1 h2 => ?_⟩)
   ·simp only [spec_Crc15.l2]
    rw [w64 (by omega) (by omega),if_pos (by omega),if_pos (by omega),if_pos (by omega),hr,hp,if_pos (show b2 true = 1 from rfl)]
    rfl
   ·rw [hv'.2 t h1 h2];dsimp only;rw [phi_step s i t his h1 h2,hp,Bool.true_and]
   ·rw [hv.2 t h1 h2];dsimp only;rw [decide_eq_false (show ¬ t < i + 0 by omega),Bool.false_and,Bool.xor_false]
  | false =>
   refine Ev.step (f:=fun k => spec_Crc15.l2 k v (⟨#[49,49,48,48,48,49,48,49,49,48,48,49,49,48,48,49]⟩ : ByteArray) ((i + 1 : Nat) : Int)) (fun k => ?_) (ih (i + 1) v (by omega) ⟨hl,fun t h1 h2 => ?_⟩)
   ·simp only [spec_Crc15.l2]
    rw [w64 (x:=(i : Int) + 15) (by omega) (by omega),if_pos (by omega),if_pos (by omega),if_pos (by omega),hr,hp,if_neg (by decide),w64 (by omega) (by omega)]
    rfl
   ·rw [hv.2 t (by omega) h2,phi_step s i t his h1 h2,hp];simp
theorem l1_ev (φ : Nat → Bool) (hφ : ∀ t,s.size ≤ t → φ t = false) (r : Int) (next : ∀ v,Holds v (s.size + 15) 0 φ → Ev (fun k => spec_Crc15.l2 k v (⟨#[49,49,48,48,48,49,48,49,49,48,48,49,49,48,48,49]⟩ : ByteArray) 0) r) :
  ∀ (d j : Nat) (v : List Int),j + d = 15 → Holds v (s.size + j) 0 φ → Ev (fun k => spec_Crc15.l1 k v (j : Int)) r:=by
 intro d
 induction d with
 | zero =>
  intro j v hj hv
  obtain rfl : j = 15:=by omega
  refine Ev.step (fun k => ?_) (next v hv)
  simp only [spec_Crc15.l1]
  rw [if_neg (by omega)]
 | succ d ih =>
  intro j v hj hv
  obtain ⟨hl,hv⟩:=hv
  refine Ev.step (f:=fun k => spec_Crc15.l1 k (v ++ [0]) ((j + 1 : Nat) : Int)) (fun k => ?_) (ih (j + 1) _ (by omega) ⟨by rw [List.length_append,hl];simp;omega,fun t h1 h2 => ?_⟩)
  ·simp only [spec_Crc15.l1]
   rw [if_pos (by omega),if_pos (by omega),w64 (by omega) (by omega)]
   rfl
  ·rw [rd_snoc]
   by_cases h : t < v.length
   ·rw [if_pos h,hv t h1 (by omega)]
   ·rw [if_neg h,if_pos (by omega),hφ t (by omega)];rfl
theorem l0_ev (r : Int) (next : ∀ v,Holds v s.size 0 (fun t => decide (t < s.size) && bitB (bt s (t : Int))) → Ev (fun k => spec_Crc15.l1 k v 0) r) :
  ∀ (d i : Nat) (v : List Int),i + d = s.size → Holds v i 0 (fun t => decide (t < s.size) && bitB (bt s (t : Int))) → Ev (fun k => spec_Crc15.l0 k s v (i : Int)) r:=by
 intro d
 induction d with
 | zero =>
  intro i v hi hv
  obtain rfl : i = s.size:=by omega
  refine Ev.step (fun k => ?_) (next v hv)
  simp only [spec_Crc15.l0]
  rw [if_neg (by omega)]
 | succ d ih =>
  intro i v hi hv
  obtain ⟨hl,hv⟩:=hv
  have hx : (bt s (i : Int) - 48) % 256 = b2 (bitB (bt s (i : Int))):=by
   rcases bit_at s hb i (by omega) with e | e <;> rw [e] <;> decide
  refine Ev.step (f:=fun k => spec_Crc15.l0 k s (v ++ [b2 (bitB (bt s (i : Int)))]) ((i + 1 : Nat) : Int)) (fun k => ?_) (ih (i + 1) _ (by omega) ⟨by rw [List.length_append,hl];rfl,fun t h1 h2 => ?_⟩)
  ·simp only [spec_Crc15.l0]
   rw [if_pos (by omega),if_pos (by omega),if_pos (by omega),w64 (by omega) (by omega),hx]
   rfl
  ·rw [rd_snoc]
   by_cases h : t < v.length
   ·rw [if_pos h,hv t h1 (by omega)]
   ·obtain rfl : t = i:=by omega
    rw [if_neg h,if_pos hl.symm];dsimp only;rw [decide_eq_true (show t < s.size by omega),Bool.true_and]
end
def crcV (s : ByteArray) : Int:=if s.size ≤ 2000 ∧ isBits s = true then (crcL (bytesOf s) : Int) else -1
theorem specCrc15_ev (s : ByteArray) (h : s.size < 100000000) : Ev (fun k => spec_Crc15.f k s) (crcV s):=by
 have hk:=okBits_ev s 2000 (by omega)
 unfold crcV
 by_cases c : s.size ≤ 2000 ∧ isBits s = true
 ·rw [if_pos c]
  rw [c.2,decide_eq_true c.1] at hk
  refine Ev.congr (fun k => rfl) (Ev.bind (f:=fun k t => if t = true then spec_Crc15.l0 k s ([] : List Int) 0 else some (-1)) hk ?_)
  simp only [Bool.and_self,if_true]
  refine l0_ev s c.1 c.2 _ (fun v hv => l1_ev s c.1 c.2 _ (fun t ht => by rw [decide_eq_false (by omega)];rfl) _ (fun v' hv' => l2_ev s c.1 c.2 s.size 0 v' (by omega) ⟨hv'.1,fun t h1 h2 => ?_⟩) 15 0 v (by omega) hv) s.size 0 [] (by omega) ⟨rfl,fun t h1 h2 => by omega⟩
  rw [hv'.2 t h1 h2];dsimp only;unfold phi
  rw [List.take_zero]
  simp [crcL]
 ·rw [if_neg c]
  have hf : (decide (s.size ≤ 2000) && isBits s) = false:=by
   rw [Bool.and_eq_false_iff]
   by_cases hh : isBits s = true
   ·exact .inl (decide_eq_false fun h2 => c ⟨h2,hh⟩)
   ·exact .inr (by simpa using hh)
  rw [hf] at hk
  exact Ev.congr (fun k => rfl) (Ev.bind (f:=fun k t => if t = true then spec_Crc15.l0 k s ([] : List Int) 0 else some (-1)) hk (Ev.now _))
end Go.Proofs.YtdoclpgciadjaaaDoor.P
namespace Go.Proofs.YtdoclpgciadjaaaDoor.P
open Go.RowKit Go.Proofs.YtdoclpgciadjaaaDoorW.PrintWords Go.Proofs.YtdoclpgciadjaaaDoorW.PrintLast Go.Proofs.YtdoclpgciadjaaaDoorW.PrintMore
set_option linter.unusedVariables false
set_option linter.unusedSimpArgs false
def spec_l1val.l0 : Nat → ByteArray → Int → Int → Option (Int)
 | 0,_,_,_ => none
 | k + 1,x0,x3,x4 => if x4 < (x0.size : Int) then (if 0 ≤ x4 then (if (bt x0 x4) = 49 then (spec_l1val.l0 k x0 (wrap64 ((wrap64 (2 * x3)) + 1)) (wrap64 (x4 + 1))) else (spec_l1val.l0 k x0 (wrap64 (2 * x3)) (wrap64 (x4 + 1)))) else (none)) else (some x3)
def spec_l1val.f (k : Nat) (a0 : ByteArray) : Option (Int):=spec_l1val.l0 k a0 0 0
set_option maxHeartbeats 8000000 in
set_option maxRecDepth 100000 in
theorem spec_l1val.calls (k : Nat) (a0 : ByteArray) (r : Int) (w : World) (h : spec_l1val.f k a0 = some r) :
  Calls Tryd.prog 69 #[.string a0] w fun e w' => e = .returned (.int .i64 r) ∧ Drawn0 w w':=by
 have H : (spec_l1val.l0 k a0 0 0) = some r:=h
 clear h
 have H':=Aside0.mk H
 clear H
 go_enter Tryd.func69,Tryd.ntmps69
 go_wp2
 go_loopg [3,4] k (fun kq v3 v4 w' => ∃ (x3_1 : Int) (x4_1 : Int),v3 = .int .i64 x3_1 ∧ v4 = .int .i64 x4_1 ∧ Aside0 (spec_l1val.l0 kq a0 x3_1 x4_1 = some r) ∧ Aside0 (kq ≤ k) ∧ Drawn0 w w')
 case atStart => exact ⟨(0),(0),(by first | rfl | (simp;done) | (simp [*];done)),(by first | rfl | (simp;done) | (simp [*];done)),H',⟨Nat.le_refl _⟩,by repeat (first | exact Drawn0.refl _ | apply Drawn0.step)⟩
 case round =>
  clear H'
  obtain ⟨x3_1,x4_1,rfl,rfl,HA,HK1,⟨m1,rfl⟩⟩:=hrel
  cases gk with
  | zero => exact absurd HA.out (by simp [spec_l1val.l0])
  | succ k1 =>
   have H:=HA.out
   clear HA
   simp only [spec_l1val.l0] at H
   by_cases c2 : x4_1 < (a0.size : Int)
   ·rw [if_pos c2] at H
    have c2b0 : decide (x4_1 < (a0.size : Int)) = true:=decide_eq_true c2
    clear c2
    by_cases c3 : 0 ≤ x4_1
    ·rw [if_pos c3] at H
     have c3b0 : decide (0 ≤ x4_1) = true:=decide_eq_true c3
     clear c3
     by_cases c5 : (bt a0 x4_1) = 49
     ·rw [if_pos c5] at H
      have c5b0 : ((bt a0 x4_1) == 49) = true:=beq_iff_eq.mpr c5
      have c5b1 : ((bt a0 x4_1) != 49) = false:=bne_eq_false_iff_eq.mpr c5
      clear c5
      have H':=Aside0.mk H
      clear H
      have p4 : 0 ≤ (x4_1 : Int):=of_decide_eq_true (by first | (with_reducible assumption) | assumption)
      have q4 : x4_1 < (a0.size : Int):=of_decide_eq_true (by first | (with_reducible assumption) | assumption)
      have hx4:=bt_at a0 x4_1
      replace p4:=eq_true p4
      replace q4:=eq_true q4
      go_wp2
      go_roundg k1
      case measure => have:=HK1.out;omega
      case rel => exact ⟨(wrap64 ((wrap64 (2 * x3_1)) + 1)),(wrap64 (x4_1 + 1)),(by first | rfl | (simp;done) | (simp [*];done)),(by first | rfl | (simp;done) | (simp [*];done)),H',⟨by have:=HK1.out;omega⟩,by repeat (first | exact Drawn0.refl _ | apply Drawn0.step)⟩
     ·rw [if_neg c5] at H
      have c5b0 : ((bt a0 x4_1) == 49) = false:=beq_eq_false_iff_ne.mpr c5
      have c5b1 : ((bt a0 x4_1) != 49) = true:=bne_iff_ne.mpr c5
      have H':=Aside0.mk H
      clear H
      have p4 : 0 ≤ (x4_1 : Int):=of_decide_eq_true (by first | (with_reducible assumption) | assumption)
      have q4 : x4_1 < (a0.size : Int):=of_decide_eq_true (by first | (with_reducible assumption) | assumption)
      have hx4:=bt_at a0 x4_1
      replace p4:=eq_true p4
      replace q4:=eq_true q4
      go_wp2
      go_roundg k1
      case measure => have:=HK1.out;omega
      case rel => exact ⟨(wrap64 (2 * x3_1)),(wrap64 (x4_1 + 1)),(by first | rfl | (simp;done) | (simp [*];done)),(by first | rfl | (simp;done) | (simp [*];done)),H',⟨by have:=HK1.out;omega⟩,by repeat (first | exact Drawn0.refl _ | apply Drawn0.step)⟩
    ·rw [if_neg c3] at H
     exact absurd H (by simp)
   ·rw [if_neg c2] at H
    have c2b0 : decide (x4_1 < (a0.size : Int)) = false:=decide_eq_false c2
    clear c2
    obtain rfl:=Option.some.inj H
    go_wp2
    go_ret
    exact ⟨by first | rfl | (simp;done) | (simp [*];done),by repeat (first | exact Drawn0.refl _ | apply Drawn0.step)⟩
end Go.Proofs.YtdoclpgciadjaaaDoor.P
