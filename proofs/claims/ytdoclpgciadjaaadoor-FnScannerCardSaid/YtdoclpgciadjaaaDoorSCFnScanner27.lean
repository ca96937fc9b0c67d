/- Texts of the proof of CFnScanner, joined. -/
import Derived.Test.YtdoclpgciadjaaaDoorSCFnScanner26
import Derived.Test.YtdoclpgciadjaaaDoorSCFnScanner24
import Derived.Test.YtdoclpgciadjaaaDoorSCFnScanner21
import Derived.Test.YtdoclpgciadjaaaDoorSCFnScanner25
import Derived.Deep.QuietTactic
import Derived.BigQuiet
namespace Go.Proofs.YtdoclpgciadjaaaDoor.P
open Go Go.RowKit Go.Proofs.YtdoclpgciadjaaaDoorW.PrintWords
set_option linter.unusedVariables false
structure At (all : List Int) (i : Nat) (s : WS) (p : List Int) : Prop where
 code : s.code = 0 ∨ s.code = 1
 ph : Ph p (core s) s.sum
 bits : Bits p
 r0 : 0 ≤ s.run
 r1 : s.run ≤ 5
 len : p.length ≤ i
 trail : s.field ≤ 11 → ∃ (run : Nat) (last : Int),Trail all i run last ∧ s.run = run ∧ (0 < i → s.level = last)
theorem At.ok {all : List Int} {i : Nat} {s : WS} {p : List Int} (h : At all i s p) : WOk s:=ph_ok h.ph h.bits s rfl h.r0 h.r1
def zeroW : WS:=⟨0,0,0,0,0,0,0,false,0,false,0, []⟩
def startW : WS:=⟨0,1,1,0,0,0,0,false,0,false,0, []⟩
theorem At.start (all : List Int) : At all 0 startW []:=⟨.inl rfl,Ph.sof,(fun x hx => by cases hx),by decide,by decide,by simp,fun _ => ⟨0,0,Trail.zero _ _,rfl,fun h => by omega⟩⟩
theorem plainW_run (s : WS) (b : Int) : (plainW s b).run = s.run ∧ (plainW s b).level = s.level:=by
 have e1 : (sumW s b).run = s.run ∧ (sumW s b).level = s.level:=by unfold sumW;split <;> exact ⟨rfl,rfl⟩
 have e2 : (takeW (sumW s b) b).run = (sumW s b).run ∧ (takeW (sumW s b) b).level = (sumW s b).level:=by
  generalize sumW s b = t
  have e3 : (endW t b).run = t.run ∧ (endW t b).level = t.level:=by unfold endW;(repeat' split) <;> exact ⟨rfl,rfl⟩
  constructor
  ·unfold takeW
   simp only [apply_ite WS.run,e3.1,ite_self]
  ·unfold takeW
   simp only [apply_ite WS.level,e3.2,ite_self]
 unfold plainW
 rw [nextW_eq]
 exact ⟨e2.1.trans e1.1,e2.2.trans e1.2⟩
inductive Step (all : List Int) (i : Nat) (s : WS) (p : List Int) (c : Int) : Prop
 | stop (hd : dueW s = true) (hl : c = s.level) (hc : (hearW s c).code = 3)
 | skip (hd : dueW s = true) (hl : c ≠ s.level) (hc : (hearW s c).code = 0) (ha : At all (i + 1) (hearW s c) p)
 | take (hd : dueW s = false) (hc : (hearW s c).code = codeL s (c - 48)) (ha : (hearW s c).code = 0 ∨ (hearW s c).code = 1 → At all (i + 1) (hearW s c) (p ++ [c]))
theorem codeL_same {s t : WS} (b : Int) (h : core t = core s) (hm : t.sum = s.sum) : codeL t b = codeL s b:=by
 have C:=core_is (s:=t) (f:=s.field) (l:=s.left) (g:=s.got) (e:=s.ext) (i:=s.id) (r:=s.rtr) (d:=s.dlc) (x:=s.data) h hm
 unfold codeL crcOkW
 rw [C.f,C.l,C.g,C.m]
theorem at_step {all : List Int} {i : Nat} {s : WS} {p : List Int} (h : At all i s p) (hi : i < all.length) (hb : Bits all) : Step all i s p (rd all (i : Int)):=by
 have hc : rd all (i : Int) = 48 ∨ rd all (i : Int) = 49:=hb _ (by have:=rd_get all i hi;exact List.mem_of_getElem? this)
 generalize hcc : rd all (i : Int) = c at hc ⊢
 have hr0:=h.r0
 have hr1:=h.r1
 cases hd : dueW s with
 | true =>
  have hf : s.field ≤ 11:=by
   unfold dueW at hd
   simp only [Bool.and_eq_true,decide_eq_true_eq] at hd
   exact hd.2
  have hd0 : dueW { s with code:=0 } = true:=hd
  by_cases hl : c = s.level
  ·refine .stop hd hl ?_
   unfold hearW
   simp only []
   rw [if_pos hd0,if_pos hl]
  ·have e : hearW s c = { s with code:=0,run:=1,level:=c }:=by
    unfold hearW
    simp only []
    rw [if_pos hd0,if_neg hl]
   refine .skip hd hl (by rw [e]) ?_
   rw [e]
   refine ⟨.inl rfl,h.ph,h.bits,(show (0 : Int) ≤ 1 by decide),(show (1 : Int) ≤ 5 by decide),Nat.le_succ_of_le h.len,fun _ => ?_⟩
   obtain ⟨run,last,ht,hrun,hlev⟩:=h.trail hf
   have hi0 : 0 < i:=by
    rcases Nat.eq_zero_or_pos i with h0 | h0
    ·exfalso
     have:=ht.run_le
     unfold dueW at hd
     simp only [Bool.and_eq_true,beq_iff_eq] at hd
     omega
    ·exact h0
   have hn:=ht.next hi
   rw [hcc,if_neg (by rw [← hlev hi0];exact hl)] at hn
   exact ⟨1,c,hn,rfl,fun _ => rfl⟩
 | false =>
  have hd0 : ¬ dueW { s with code:=0 } = true:=by
   have : dueW { s with code:=0 } = dueW s:=rfl
   rw [this,hd];decide
  obtain ⟨s1,e,hcore,hsum,hc0,hrun1,hlow⟩ : ∃ s1 : WS,hearW s c = plainW s1 (c - 48) ∧ core s1 = core s ∧ s1.sum = s.sum ∧ s1.code = 0 ∧ (0 ≤ s1.run ∧ s1.run ≤ 5) ∧ (s.field ≤ 10 → ∃ (run : Nat),Trail all (i + 1) run c ∧ s1.run = run ∧ s1.level = c):=by
   by_cases hf : s.field ≤ 10
   ·obtain ⟨run,last,ht,hrun,hlev⟩:=h.trail (by omega)
    have hr4:=run_le4 hd hf hr1
    have hn:=ht.next hi
    rw [hcc] at hn
    by_cases hm : 0 < s.run ∧ s.level = c
    ·have hi0 : 0 < i:=by have:=ht.run_le;omega
     refine ⟨{ s with code:=0,run:=s.run + 1 }, ?_,rfl,rfl,rfl,⟨by simp only [];omega,by simp only [];omega⟩,fun _ => ⟨run + 1, ?_,by simp only [];omega,hm.2⟩⟩
     ·unfold hearW
      simp only []
      rw [if_neg hd0,if_pos hf,if_pos hm]
     ·rw [if_pos (by rw [← hlev hi0];exact hm.2.symm)] at hn
      exact hn
    ·refine ⟨{ s with code:=0,run:=1,level:=c }, ?_,rfl,rfl,rfl,⟨(show (0 : Int) ≤ 1 by decide),(show (1 : Int) ≤ 5 by decide)⟩,fun _ => ⟨1, ?_,rfl,rfl⟩⟩
     ·unfold hearW
      simp only []
      rw [if_neg hd0,if_pos hf,if_neg hm]
     ·by_cases hz : run = 0
      ·subst hz
       have : (if c = last then 0 + 1 else 1) = 1:=by split <;> rfl
       rw [this] at hn
       exact hn
      ·have hi0 : 0 < i:=by have:=ht.run_le;omega
       rw [if_neg (fun e => hm ⟨by omega,by rw [hlev hi0];exact e.symm⟩)] at hn
       exact hn
   ·refine ⟨{ s with code:=0,run:=0 }, ?_,rfl,rfl,rfl,⟨(show (0 : Int) ≤ 0 by decide),(show (0 : Int) ≤ 5 by decide)⟩,fun h2 => absurd h2 hf⟩
    unfold hearW
    simp only []
    rw [if_neg hd0,if_neg hf]
  have hcode : (hearW s c).code = codeL s (c - 48):=by rw [e,code_plain s1 _ hc0,codeL_same _ hcore hsum]
  refine .take hd hcode (fun hrunning => ?_)
  have hfs : s1.field = s.field:=by have:=congrArg (fun x => x.1) hcore;exact this
  have hls : s1.left = s.left:=by have:=congrArg (fun x => x.2.1) hcore;exact this
  have hend : ¬ (s1.field = 14 ∧ s1.left = 1):=by
   rintro ⟨h1,h2⟩
   rw [hcode] at hrunning
   unfold codeL at hrunning
   rw [if_neg (by omega),if_neg (by omega),if_neg (by omega),if_pos (by omega),if_neg (by omega),if_neg (by omega)] at hrunning
   by_cases hz : c - 48 = 0
   ·rw [if_pos ⟨by omega,hz⟩] at hrunning;omega
   ·rw [if_neg (fun h => hz h.2),if_pos (by omega)] at hrunning;omega
  obtain ⟨c',m',hP,hc',hm'⟩:=ph_step h.ph s1 hcore hsum c hc h.bits hend
  have hpr:=plainW_run s1 (c - 48)
  rw [e] at hrunning ⊢
  refine ⟨hrunning,by rw [hc',hm'];exact hP,h.bits.append (fun x hx => by rw [List.mem_singleton] at hx;rw [hx];exact hc),by rw [hpr.1];exact hrun1.1,by rw [hpr.1];exact hrun1.2,by rw [List.length_append,List.length_singleton];have:=h.len;omega,fun hf11 => ?_⟩
  have hf10 : s.field ≤ 10:=by
   rcases (show 10 < s.field ∨ s.field ≤ 10 by omega) with hlt | hge
   ·exfalso
    have hok:=h.ok
    have f1:=hok.f1
    have hle : s1.field + 1 ≤ (plainW s1 (c - 48)).field ∨ s1.field = 14:=by
     by_cases h14 : s1.field = 14
     ·exact .inr h14
     ·left
      have hleft : s1.left = 1:=by
       have hph:=h.ph
       generalize hg : core s = cc at hph
       generalize s.sum = mm at hph
       cases hph with
       | del H D X C T e r i h d x c t => rw [hls];exact (core_is hg rfl).l
       | eof H D X C T e r i h d x c t3 t => have:=(core_is hg rfl).f;omega
       | _ => exfalso;have:=(core_is hg rfl).f;omega
      have C1 : CoreIs s1 s1.field 1 s1.got s1.ext s1.id s1.rtr s1.dlc s1.data s1.sum:=⟨rfl,hleft,rfl,rfl,rfl,rfl,rfl,rfl,rfl⟩
      have T:=tk_late C1 (by omega) (c - 48)
      have hpl : plainW s1 (c - 48) = nextW (tk s1 (c - 48)):=rfl
      have N:=next_is T (next_over T.l T.f (.inl (by omega)) (.inl (by omega)) rfl)
      rw [hpl,N.f]
      omega
    rcases hle with h1 | h1
    ·omega
    ·-- field 14 stays
     have hl2 : s1.left ≠ 1:=fun h2 => hend ⟨h1,h2⟩
     have C1 : CoreIs s1 14 s1.left s1.got s1.ext s1.id s1.rtr s1.dlc s1.data s1.sum:=⟨h1,rfl,rfl,rfl,rfl,rfl,rfl,rfl,rfl⟩
     have T:=tk_late C1 (by omega) (c - 48)
     have l0:=hok.l0
     have N:=next_is T (next_more T.l (by omega))
     have hpl : plainW s1 (c - 48) = nextW (tk s1 (c - 48)):=rfl
     have : (plainW s1 (c - 48)).field = 14:=by rw [hpl,N.f,T.f]
     omega
   ·exact hge
  obtain ⟨run,ht,hr,hl⟩:=hlow hf10
  exact ⟨run,c,ht,hpr.1.trans hr,fun _ => hpr.2.trans hl⟩
def walkG : List Int → WS → WS
 | [],s => s
 | c :: l,s => if (hearW s c).code = 0 ∨ (hearW s c).code = 1 then walkG l (hearW s c) else if l = [] then hearW s c else { hearW s c with code:=7 }
def walkV (s : ByteArray) : WS:=if s.size ≤ 4000 ∧ isBits s = true then walkG (bytesOf s) startW else { zeroW with code:=8 }
theorem step_next {all : List Int} {i : Nat} {s : WS} {p : List Int} {c : Int} (h : Step all i s p c) (hc : (hearW s c).code = 0 ∨ (hearW s c).code = 1) : ∃ q,At all (i + 1) (hearW s c) q:=by
 cases h with
 | stop hd hl hc2 => omega
 | skip hd hl hc2 ha => exact ⟨p,ha⟩
 | take hd hc2 ha => exact ⟨_,ha hc⟩
theorem bits_of_isBits {s : ByteArray} (h : isBits s = true) : Bits (bytesOf s):=by
 intro x hx
 unfold bytesOf at hx
 obtain ⟨b,hb,rfl⟩:=List.mem_map.1 hx
 unfold isBits at h
 rw [List.all_eq_true] at h
 rcases isBit_cases (h b hb) with rfl | rfl
 ·exact .inl rfl
 ·exact .inr rfl
theorem rd_bytesOf (s : ByteArray) (i : Nat) (h : i < s.size) : rd (bytesOf s) (i : Int) = ((s[i]'h).toNat : Int):=by
 unfold rd bytesOf
 rw [Int.toNat_natCast,List.getD_eq_getElem?_getD,List.getElem?_map,Array.getElem?_toList,Array.getElem?_eq_getElem (show i < s.data.size from h)]
 rfl
structure Rel (Q : Prop) (a : SS) (s : WS) : Prop where
 f : a.field = s.field
 l : a.left = s.left
 r : a.run = s.run
 v : 0 < a.run → a.level + 48 = s.level
 m : a.crc = s.sum
 g : a.acc = s.got
 e : a.ext = s.ext
 i : a.id = s.id
 d : a.dlc = s.dlc
 x : a.data = s.data
 t : Q → a.rtr = s.rtr
def QI (a : SS) : Prop:=a.field ≠ 5 ∧ a.field ≠ 6
def QT (a : SS) : Prop:=a.field ≠ 5 ∧ (a.field = 4 → a.ext = false)
theorem Rel.start : Rel (QI startS) startS startW:=⟨rfl,rfl,rfl,fun h => absurd h (by decide),rfl,rfl,rfl,rfl,rfl,rfl,fun _ => rfl⟩
theorem rel_code {Q : Prop} {a : SS} {s : WS} (h : Rel Q a s) (l0 : 1 ≤ a.left) {b : Int} (hb : b = 0 ∨ b = 1) : verdictV a b = codeL s b:=by
 have hf:=h.f
 have hl:=h.l
 have hm:=h.m
 have hg:=h.g
 unfold verdictV codeL crcOkW
 rw [← hf, ← hl, ← hm, ← hg]
 by_cases c1 : a.field = 1
 ·rw [if_pos c1]
  by_cases hb1 : b = 1
  ·rw [if_pos (.inl ⟨c1,hb1⟩),if_pos hb1]
  ·rw [if_neg (by omega),if_neg (by omega),if_pos (by omega),if_neg hb1]
 rw [if_neg c1]
 by_cases c11 : a.field = 11
 ·rw [if_pos c11]
  by_cases hb0 : b = 0
  ·rw [if_pos (.inr ⟨.inl c11,hb0⟩),if_pos hb0]
  ·rw [if_neg (by omega),if_neg (by omega),if_pos (by omega),if_neg hb0]
 rw [if_neg c11]
 by_cases c13 : a.field = 13
 ·rw [if_pos c13]
  by_cases hb0 : b = 0
  ·rw [if_pos (.inr ⟨.inr c13,hb0⟩),if_pos hb0]
  ·rw [if_neg (by omega)]
   by_cases hc : a.crc = a.acc
   ·rw [if_neg (by omega),if_pos (by omega),if_neg hb0,if_pos (by rw [decide_eq_true (by omega),hc];simp)]
   ·rw [if_pos ⟨c13,by omega⟩,if_neg hb0,if_neg (by rw [decide_eq_true (by omega)];simpa using hc)]
 rw [if_neg c13,if_neg (by omega),if_neg (by omega)]
 by_cases c14 : a.field = 14
 ·rw [if_pos c14,if_neg (show ¬ a.field ≠ 14 from fun x => x c14)]
  by_cases hb0 : b = 0
  ·by_cases h1 : 1 < a.left
   ·rw [if_pos ⟨hb0,h1⟩,if_pos ⟨h1,hb0⟩]
   ·rw [if_neg (fun x => h1 x.2),if_pos hb0,if_neg (show ¬ (1 < a.left ∧ b = 0) from fun x => h1 x.1),if_neg (show ¬ a.left = 2 by omega),if_pos ⟨by omega,hb0⟩]
  ·rw [if_neg (fun x => hb0 x.1),if_neg hb0,if_neg (show ¬ (1 < a.left ∧ b = 0) from fun x => hb0 x.2)]
   by_cases h2 : a.left = 2
   ·rw [if_pos h2,if_pos h2]
   ·rw [if_neg h2,if_neg h2,if_neg (show ¬ (a.left = 1 ∧ b = 0) from fun x => hb0 x.2)]
 ·rw [if_neg c14,if_pos c14]
theorem rel_crc {Q : Prop} {a : SS} {s : WS} (h : Rel Q a s) (b : Int) : Rel Q (crcT a b) (sumW s b):=by
 unfold crcT sumW
 by_cases c : a.field ≤ 9
 ·rw [if_pos c,if_pos (by have:=h.f;omega)]
  exact ⟨h.f,h.l,h.r,h.v,by simp only [];rw [h.m],h.g,h.e,h.i,h.d,h.x,h.t⟩
 ·rw [if_neg c,if_neg (by have:=h.f;omega)]
  exact h
theorem rel_take {a t : SS} {u : WS} {b : Int} (hI : SInv a) (O : OneS a t b) (hb : b = 0 ∨ b = 1) (h : Rel (QI a) t u) : Rel (QT (takeS t b)) (takeS t b) (takeW u b):=by
 have hf:=h.f
 have ef : t.field = a.field:=by rw [O.same]
 have ei : t.id = a.id:=by rw [O.same]
 have ed : t.dlc = a.dlc:=by rw [O.same]
 have ea : t.acc = a.acc:=by rw [O.same]
 have l0:=hI.l0
 unfold takeS takeW
 rw [hf]
 by_cases c2 : u.field = 2 ∨ u.field = 5
 ·rw [if_pos c2,if_neg (show ¬ u.field = 1 by omega),if_pos c2]
  refine ⟨rfl,h.l,h.r,h.v,h.m,h.g,h.e, ?_,h.d,h.x,fun q => h.t ⟨by have q1 : u.field ≠ 5:=q.1;omega,by omega⟩⟩
  simp only []
  rw [← h.i,ei]
  rcases c2 with c | c
  ·have hp:=(hI.i2 (by omega)).step l0 hb
   have h1:=hp.lt
   have h2:=hp.x0
   rw [show (2 : Int) ^ 11 = 2048 from rfl] at h1
   rw [Int.emod_eq_of_lt h2 (by omega),Int.emod_eq_of_lt h2 (by omega)]
  ·have hp:=(hI.i5 (by omega)).step l0 hb
   have h1:=hp.lt
   have h2:=hp.x0
   rw [show (2 : Int) ^ 29 = 536870912 from rfl] at h1
   rw [Int.emod_eq_of_lt h2 (by omega),Int.emod_eq_of_lt h2 (by omega)]
 rw [if_neg c2]
 by_cases c3 : u.field = 3 ∨ u.field = 6
 ·rw [if_pos c3,if_neg (show ¬ u.field = 1 by omega),if_neg c2,if_pos c3]
  exact ⟨rfl,h.l,h.r,h.v,h.m,h.g,h.e,h.i,h.d,h.x,fun _ => rfl⟩
 rw [if_neg c3]
 by_cases c4 : u.field = 4
 ·rw [if_pos c4,if_neg (show ¬ u.field = 1 by omega),if_neg c2,if_neg c3,if_pos c4]
  by_cases hb1 : b = 1
  ·rw [if_pos hb1]
   exact ⟨rfl,h.l,h.r,h.v,h.m,h.g,by simp only [];rw [hb1];rfl,h.i,h.d,h.x,fun q => absurd (q.2 c4) (by simp)⟩
  ·rw [if_neg hb1]
   exact ⟨rfl,h.l,h.r,h.v,h.m,h.g,by simp only [];exact (beq_eq_false_iff_ne.mpr hb1).symm,h.i,h.d,h.x,fun q => h.t ⟨by omega,by omega⟩⟩
 rw [if_neg c4]
 by_cases c8 : u.field = 8
 ·rw [if_pos c8,if_neg (show ¬ u.field = 1 by omega),if_neg c2,if_neg c3,if_neg c4,if_pos c8]
  refine ⟨rfl,h.l,h.r,h.v,h.m,h.g,h.e,h.i, ?_,h.x,fun q => h.t ⟨by omega,by omega⟩⟩
  simp only []
  rw [← h.d,ed]
  exact (hI.d8 (by omega)).mod l0 hb (show (2 : Int) ^ 4 = 16 from rfl)
 rw [if_neg c8]
 by_cases c9 : u.field = 9
 ·rw [if_pos c9,if_neg (show ¬ u.field = 1 by omega),if_neg c2,if_neg c3,if_neg c4,if_neg c8,if_pos c9]
  refine ⟨rfl,h.l,h.r,h.v,h.m,h.g,h.e,h.i,h.d, ?_,fun q => h.t ⟨by omega,by omega⟩⟩
  simp only []
  unfold dataS dataW
  rw [h.l,h.x]
 rw [if_neg c9]
 by_cases c10 : u.field = 10
 ·rw [if_pos c10,if_neg (show ¬ u.field = 1 by omega),if_neg c2,if_neg c3,if_neg c4,if_neg c8,if_neg c9,if_pos c10]
  refine ⟨rfl,h.l,h.r,h.v,h.m, ?_,h.e,h.i,h.d,h.x,fun q => h.t ⟨by omega,by omega⟩⟩
  simp only []
  rw [← h.g,ea]
  exact (hI.a10 (by omega)).mod l0 hb (show (2 : Int) ^ 15 = 32768 from rfl)
 rw [if_neg c10,if_neg c2,if_neg c3,if_neg c4,if_neg c8,if_neg c9,if_neg c10]
 obtain ⟨cd,e⟩ : ∃ cd,(if u.field = 1 then (if b = 1 then { u with code:=4 } else u) else if u.field = 11 then (if b = 0 then { u with code:=4 } else u) else if u.field = 13 then (if b = 0 then { u with code:=4 } else if crcOkW u = true then u else { u with code:=5 }) else if u.field = 14 then endW u b else u) = { u with code:=cd }:=by
  unfold endW
  (repeat' split) <;> exact ⟨_,rfl⟩
 rw [e]
 exact ⟨hf,h.l,h.r,h.v,h.m,h.g,h.e,h.i,h.d,h.x,fun q => h.t ⟨by have:=q.1;omega,by omega⟩⟩
def wt (f : Int) : Int:=if f = 1 then 127 else if f = 2 then 116 else if f = 3 then 115 else if f = 4 then 114 else if f = 5 then 96 else if f = 6 then 95 else if f = 7 then 93 else if f = 8 then 89 else if f = 9 then 25 else if f = 10 then 10 else if f = 11 then 9 else if f = 12 then 8 else if f = 13 then 7 else 0
theorem wt_nonneg (f : Int) (h0 : 1 ≤ f) (h1 : f ≤ 14) : 0 ≤ wt f:=by
 have h : f = 1 ∨ f = 2 ∨ f = 3 ∨ f = 4 ∨ f = 5 ∨ f = 6 ∨ f = 7 ∨ f = 8 ∨ f = 9 ∨ f = 10 ∨ f = 11 ∨ f = 12 ∨ f = 13 ∨ f = 14:=by omega
 rcases h with rfl | rfl | rfl | rfl | rfl | rfl | rfl | rfl | rfl | rfl | rfl | rfl | rfl | rfl <;> decide
theorem rel_fin {t : SS} {u : WS} (h : Rel (QT t) t u) {f' l' : Int} (hn : nextP u = (f',l')) (hs : stepS t = { t with field:=f',left:=l' }) (hq : f' ≠ 5 → f' ≠ 6 → QT t) (hw : l' + wt f' < t.left + wt t.field) : Rel (QI (stepS t)) (stepS t) (nextW u) ∧ (stepS t).left + wt (stepS t).field < t.left + wt t.field:=by
 rw [nextW_eq,hn,hs]
 exact ⟨⟨rfl,rfl,h.r,h.v,h.m,h.g,h.e,h.i,h.d,h.x,fun q => h.t (hq q.1 q.2)⟩,hw⟩
theorem rel_step {t : SS} {u : WS} (hT : TInv t) (h : Rel (QT t) t u) : Rel (QI (stepS t)) (stepS t) (nextW u) ∧ (stepS t).left + wt (stepS t).field < t.left + wt t.field:=by
 have l0:=hT.l0
 have l1:=hT.l1
 have f0:=hT.f0
 have f1:=hT.f1
 by_cases hl : t.left - 1 = 0
 ·have hl1 : t.left = 1:=by omega
  have np : nextP u = if t.field = 4 ∧ t.ext = false then enterP u 7 else enterP u (t.field + 1):=by
   unfold nextP
   rw [if_neg (by rw [← h.l];omega), ← h.f, ← h.e]
  have sp : stepS t = enterS t (afterF t):=by unfold stepS;rw [if_pos hl]
  have go : ∀ (f : Int),f ≠ 9 → enterS t f = { t with field:=f,left:=sizeF { t with field:=f } }:=fun f hn => by unfold enterS;rw [if_neg hn]
  have hcase : t.field = 1 ∨ t.field = 2 ∨ t.field = 3 ∨ t.field = 4 ∨ t.field = 5 ∨ t.field = 6 ∨ t.field = 7 ∨ t.field = 8 ∨ t.field = 9 ∨ t.field = 10 ∨ t.field = 11 ∨ t.field = 12 ∨ t.field = 13:=by have:=hT.lim;omega
  rcases hcase with hf | hf | hf | hf | hf | hf | hf | hf | hf | hf | hf | hf | hf
  ·refine rel_fin h (f':=2) (l':=11) ?_ ?_ (fun _ _ => ⟨by omega,fun x => by omega⟩) ?_
   ·rw [np,if_neg (fun x => by omega),hf];rfl
   ·rw [sp,aft1 hf,go 2 (by decide),siz2 rfl]
   ·rw [hl1,hf];decide
  ·refine rel_fin h (f':=3) (l':=1) ?_ ?_ (fun _ _ => ⟨by omega,fun x => by omega⟩) ?_
   ·rw [np,if_neg (fun x => by omega),hf];rfl
   ·rw [sp,aft2 hf,go 3 (by decide),siz3 rfl]
   ·rw [hl1,hf];decide
  ·refine rel_fin h (f':=4) (l':=1) ?_ ?_ (fun _ _ => ⟨by omega,fun x => by omega⟩) ?_
   ·rw [np,if_neg (fun x => by omega),hf];rfl
   ·rw [sp,aft3 hf,go 4 (by decide),siz4 rfl]
   ·rw [hl1,hf];decide
  ·by_cases ce : t.ext = false
   ·refine rel_fin h (f':=7) (l':=1) ?_ ?_ (fun _ _ => ⟨by omega,fun _ => ce⟩) ?_
    ·rw [np,if_pos ⟨hf,ce⟩];unfold enterP enterL;rw [if_neg (fun x => absurd x.1 (by decide)),if_neg (by decide),if_neg (by decide),if_pos rfl,if_neg (by rw [← h.e,ce];decide)]
    ·rw [sp,aft4 hf,if_pos ce,go 7 (by decide),show sizeF { t with field:=7 } = 1 from (siz7 rfl).trans (if_neg (by simp only [];rw [ce];decide))]
    ·rw [hl1,hf];decide
   ·refine rel_fin h (f':=5) (l':=18) ?_ ?_ (fun x _ => absurd rfl x) ?_
    ·rw [np,if_neg (fun x => ce x.2),hf];rfl
    ·rw [sp,aft4 hf,if_neg ce,go 5 (by decide),siz5 rfl]
    ·rw [hl1,hf];decide
  ·refine rel_fin h (f':=6) (l':=1) ?_ ?_ (fun _ x => absurd rfl x) ?_
   ·rw [np,if_neg (fun x => by omega),hf];rfl
   ·rw [sp,aft5 hf,go 6 (by decide),siz6 rfl]
   ·rw [hl1,hf];decide
  ·by_cases ce : t.ext = true
   ·refine rel_fin h (f':=7) (l':=2) ?_ ?_ (fun _ _ => ⟨by omega,fun x => by omega⟩) ?_
    ·rw [np,if_neg (fun x => by omega),hf];show enterP u 7 = _;unfold enterP enterL;rw [if_neg (fun x => absurd x.1 (by decide)),if_neg (by decide),if_neg (by decide),if_pos rfl,if_pos (by rw [← h.e,ce])]
    ·rw [sp,aft6 hf,go 7 (by decide),show sizeF { t with field:=7 } = 2 from (siz7 rfl).trans (if_pos ce)]
    ·rw [hl1,hf];decide
   ·refine rel_fin h (f':=7) (l':=1) ?_ ?_ (fun _ _ => ⟨by omega,fun x => by omega⟩) ?_
    ·rw [np,if_neg (fun x => by omega),hf];show enterP u 7 = _;unfold enterP enterL;rw [if_neg (fun x => absurd x.1 (by decide)),if_neg (by decide),if_neg (by decide),if_pos rfl,if_neg (by rw [← h.e];exact ce)]
    ·rw [sp,aft6 hf,go 7 (by decide),show sizeF { t with field:=7 } = 1 from (siz7 rfl).trans (if_neg ce)]
    ·rw [hl1,hf];decide
  ·refine rel_fin h (f':=8) (l':=4) ?_ ?_ (fun _ _ => ⟨by omega,fun x => by omega⟩) ?_
   ·rw [np,if_neg (fun x => by omega),hf];rfl
   ·rw [sp,aft7 hf,go 8 (by decide),siz8 rfl]
   ·rw [hl1,hf];decide
  ·have er : t.rtr = u.rtr:=h.t ⟨by omega,fun x => by omega⟩
   have d0:=hT.dg.1
   have hx : t.data = []:=hT.x0 (by omega)
   have hdb : dataB u.rtr u.dlc = if t.rtr = true then 0 else if t.dlc < 8 then t.dlc else 8:=by
    rw [← er, ← h.d]
    unfold dataB
    (repeat' split) <;> omega
   by_cases cr : t.rtr = true ∨ t.dlc = 0
   ·have hz : dataB u.rtr u.dlc = 0:=by
     rw [hdb]
     by_cases c : t.rtr = true
     ·rw [if_pos c]
     ·rw [if_neg c];rcases cr with cr | cr;exact absurd cr c;rw [if_pos (by omega)];exact cr
    ·refine rel_fin h (f':=10) (l':=15) ?_ ?_ (fun _ _ => ⟨by omega,fun x => by omega⟩) ?_
     ·rw [np,if_neg (fun x => by omega),hf];show enterP u 9 = _;unfold enterP;rw [if_pos ⟨rfl,hz⟩]
     ·rw [sp,aft8 hf,if_pos cr,go 10 (by decide),siz10 rfl]
     ·rw [hl1,hf];decide
   ·have hr : ¬ t.rtr = true:=fun x => cr (.inl x)
    have hd : t.dlc ≠ 0:=fun x => cr (.inr x)
    rw [if_neg hr] at hdb
    have hz9 : sizeF { t with field:=9 } = 8 * (if t.dlc < 8 then t.dlc else 8):=siz9 rfl
    refine rel_fin h (f':=9) (l':=8 * (if t.dlc < 8 then t.dlc else 8)) ?_ ?_ (fun _ _ => ⟨by omega,fun x => by omega⟩) ?_
    ·rw [np,if_neg (fun x => by omega),hf]
     show enterP u 9 = _
     unfold enterP
     rw [if_neg (fun x => by have:=x.2;rw [hdb] at this;split at this <;> omega), ← hdb]
     rfl
    ·rw [sp,aft8 hf,if_neg cr]
     unfold enterS
     rw [if_pos rfl,hz9,hx]
    ·rw [hl1,hf,show wt 9 = 25 from rfl,show wt 8 = 89 from rfl]
     split <;> omega
  ·refine rel_fin h (f':=10) (l':=15) ?_ ?_ (fun _ _ => ⟨by omega,fun x => by omega⟩) ?_
   ·rw [np,if_neg (fun x => by omega),hf];rfl
   ·rw [sp,aft9 hf,go 10 (by decide),siz10 rfl]
   ·rw [hl1,hf];decide
  ·refine rel_fin h (f':=11) (l':=1) ?_ ?_ (fun _ _ => ⟨by omega,fun x => by omega⟩) ?_
   ·rw [np,if_neg (fun x => by omega),hf];rfl
   ·rw [sp,aft10 hf,go 11 (by decide),siz11 rfl]
   ·rw [hl1,hf];decide
  ·refine rel_fin h (f':=12) (l':=1) ?_ ?_ (fun _ _ => ⟨by omega,fun x => by omega⟩) ?_
   ·rw [np,if_neg (fun x => by omega),hf];rfl
   ·rw [sp,aft11 hf,go 12 (by decide),siz12 rfl]
   ·rw [hl1,hf];decide
  ·refine rel_fin h (f':=13) (l':=1) ?_ ?_ (fun _ _ => ⟨by omega,fun x => by omega⟩) ?_
   ·rw [np,if_neg (fun x => by omega),hf];rfl
   ·rw [sp,aft12 hf,go 13 (by decide),siz13 rfl]
   ·rw [hl1,hf];decide
  ·refine rel_fin h (f':=14) (l':=7) ?_ ?_ (fun _ _ => ⟨by omega,fun x => by omega⟩) ?_
   ·rw [np,if_neg (fun x => by omega),hf];rfl
   ·rw [sp,aft13 hf,go 14 (by decide),siz14 rfl]
   ·rw [hl1,hf];decide
 ·have hs : stepS t = { t with field:=t.field,left:=t.left - 1 }:=by unfold stepS;rw [if_neg hl]
  refine rel_fin h (f':=t.field) (l':=t.left - 1) ?_ hs (fun q1 q2 => ⟨q1,fun q4 => ?_⟩) (by omega)
  ·unfold nextP
   rw [if_pos (by rw [← h.l];omega),h.l,h.f]
  ·have:=siz4 q4
   omega
def mu (a : SS) : Int:=2 * (a.left + wt a.field) + (if a.run = 5 then 1 else 0)
theorem mu_nonneg {a : SS} (h : SInv a) : 0 ≤ mu a:=by
 have:=wt_nonneg a.field h.f0 h.f1
 have:=h.l0
 unfold mu
 split <;> omega
structure Goes (a : SS) (s : WS) (b : Int) : Prop where
 code : (scanV a b).2 = (hearW s (b + 48)).code
 on : (scanV a b).2 = 0 ∨ (scanV a b).2 = 1 → Rel (QI (scanV a b).1) (scanV a b).1 (hearW s (b + 48)) ∧ SInv (scanV a b).1 ∧ mu (scanV a b).1 < mu a
 off : ¬ ((scanV a b).2 = 0 ∨ (scanV a b).2 = 1) → (scanV a b).1 = zeroS
theorem goes {a : SS} {s : WS} (h : Rel (QI a) a s) (hI : SInv a) {b : Int} (hb : b = 0 ∨ b = 1) : Goes a s b:=by
 have hS:=hI.sound
 have hq:=hI.q
 have hv:=h.v
 have hr:=h.r
 have hf:=h.f
 have r0:=hI.r0
 by_cases h5 : a.run = 5
 ·have hd : dueW { s with code:=0 } = true:=by
   unfold dueW
   simp only [Bool.and_eq_true,beq_iff_eq,decide_eq_true_eq]
   omega
  by_cases hl : b = a.level
  ·have e : hearW s (b + 48) = { s with code:=3,run:=1,level:=b + 48 }:=by
    unfold hearW
    simp only []
    rw [if_pos hd,if_pos (by have:=hv (by omega);omega)]
   have e2 : scanV a b = (zeroS,3):=by unfold scanV;rw [if_pos ⟨hS,hb⟩,if_pos h5,if_pos hl]
   refine ⟨by rw [e,e2],fun x => ?_,fun _ => by rw [e2]⟩
   rw [e2] at x
   exact absurd x (by decide)
  ·have e : hearW s (b + 48) = { s with code:=0,run:=1,level:=b + 48 }:=by
    unfold hearW
    simp only []
    rw [if_pos hd,if_neg (by have:=hv (by omega);omega)]
   have e2 : scanV a b = ({ a with run:=1,level:=b },0):=by unfold scanV;rw [if_pos ⟨hS,hb⟩,if_pos h5,if_neg hl]
   refine ⟨by rw [e,e2],fun _ => ?_,fun x => ?_⟩
   ·rw [e,e2]
    refine ⟨⟨h.f,h.l,rfl,fun _ => rfl,h.m,h.g,h.e,h.i,h.d,h.x,h.t⟩,hI.skip h5 hb, ?_⟩
    unfold mu
    rw [if_pos h5]
    show 2 * (a.left + wt a.field) + (if (1 : Int) = 5 then 1 else 0) < 2 * (a.left + wt a.field) + 1
    rw [if_neg (by decide)]
    omega
   ·rw [e2] at x
    exact absurd (.inl rfl) x
 ·have hd : ¬ dueW { s with code:=0 } = true:=by
   unfold dueW
   simp only [Bool.and_eq_true,beq_iff_eq,decide_eq_true_eq]
   omega
  have hb48 : b + 48 - 48 = b:=by omega
  obtain ⟨s1,e,hR,hc0,hcore,hsum⟩ : ∃ s1 : WS,hearW s (b + 48) = plainW s1 b ∧ Rel (QI a) (runS a b) s1 ∧ s1.code = 0 ∧ core s1 = core s ∧ s1.sum = s.sum:=by
   unfold hearW runS
   simp only []
   rw [if_neg hd,hb48]
   by_cases hf10 : s.field ≤ 10
   ·rw [if_pos hf10]
    have hn10 : ¬ a.field > 10:=by omega
    by_cases hm : 0 < s.run ∧ s.level = b + 48
    ·rw [if_pos hm,if_neg hn10,if_pos ⟨by omega,by have:=hv (by omega);omega⟩]
     exact ⟨_,rfl,⟨h.f,h.l,by simp only [];rw [hr],fun _ => hv (by omega),h.m,h.g,h.e,h.i,h.d,h.x,h.t⟩,rfl,rfl,rfl⟩
    ·rw [if_neg hm,if_neg hn10,if_neg (fun x => hm ⟨by omega,by have:=hv x.1;omega⟩)]
     exact ⟨_,rfl,⟨h.f,h.l,rfl,fun _ => rfl,h.m,h.g,h.e,h.i,h.d,h.x,h.t⟩,rfl,rfl,rfl⟩
   ·rw [if_neg hf10,if_pos (by omega)]
    exact ⟨_,rfl,⟨h.f,h.l,rfl,fun x => absurd x (by simp),h.m,h.g,h.e,h.i,h.d,h.x,h.t⟩,rfl,rfl,rfl⟩
  have hcode : (hearW s (b + 48)).code = verdictV a b:=by rw [e,code_plain s1 _ hc0,codeL_same _ hcore hsum,rel_code h hI.l0 hb]
  have e2 : scanV a b = (if verdictV a b = 0 ∨ verdictV a b = 1 then (stepS (takeS (crcT (runS a b) b) b),verdictV a b) else (zeroS,verdictV a b)):=by unfold scanV;rw [if_pos ⟨hS,hb⟩,if_neg h5]
  by_cases hc : verdictV a b = 0 ∨ verdictV a b = 1
  ·rw [if_pos hc] at e2
   refine ⟨by rw [hcode,e2],fun _ => ?_,fun x => absurd hc (by rw [e2] at x;exact x)⟩
   rw [e2,e]
   have O:=oneS_of hI h5 hb
   have hT:=hI.take hb O (verdict_lim hc hI.l0)
   obtain ⟨h1,h2⟩:=rel_step hT (rel_take hI O hb (rel_crc hR b))
   refine ⟨h1,hT.step, ?_⟩
   have e5 : (takeS (crcT (runS a b) b) b).left = a.left ∧ (takeS (crcT (runS a b) b) b).field = a.field:=by
    have k1 : (crcT (runS a b) b).left = a.left ∧ (crcT (runS a b) b).field = a.field:=by rw [O.same];exact ⟨rfl,rfl⟩
    generalize crcT (runS a b) b = t at k1
    unfold takeS
    (repeat' split) <;> exact k1
   rw [e5.1,e5.2] at h2
   unfold mu
   rw [if_neg h5]
   simp only []
   split <;> omega
  ·rw [if_neg hc] at e2
   exact ⟨by rw [hcode,e2],fun x => absurd (by rw [e2] at x;exact x) hc,fun _ => by rw [e2]⟩
theorem mu_start : mu startS = 256:=by decide
theorem walkV_bits {L : List Int} (hb : Bits L) (hl : L.length ≤ 4000) : walkV (strOfNums L) = walkG L startW:=by
 unfold walkV
 rw [if_pos ⟨by rw [strOfNums_size];exact hl,isBits_str hb⟩,bytes_str L hb.range]
theorem walkG_run (l : List Int) (c : Int) (s : WS) (h : (hearW s c).code = 0 ∨ (hearW s c).code = 1) : walkG (c :: l) s = walkG l (hearW s c):=by rw [walkG,if_pos h]
theorem walkG_one (c : Int) (s : WS) : walkG [c] s = hearW s c:=by
 rw [walkG]
 split
 ·rfl
 ·rw [if_pos rfl]
def Come (pre : List Int) (s : WS) : Prop := ∀ m,walkG (pre ++ m) startW = walkG m s
def Runs (L : List Int) : Prop := ∀ l1 l2,L = l1 ++ l2 → l2 ≠ [] → (walkG l1 startW).code = 0 ∨ (walkG l1 startW).code = 1
theorem Come.at_ {pre : List Int} {s : WS} (h : Come pre s) : walkG pre startW = s:=by
 have:=h []
 rw [List.append_nil] at this
 exact this
theorem Come.next {L pre rest : List Int} {s : WS} {c : Int} (h : Come pre s) (hR : Runs L) (e : L = pre ++ c :: rest) (hr : rest ≠ []) : ((hearW s c).code = 0 ∨ (hearW s c).code = 1) ∧ Come (pre ++ [c]) (hearW s c):=by
 have h1 : walkG (pre ++ [c]) startW = hearW s c:=by rw [h [c],walkG_one]
 have hc:=hR (pre ++ [c]) rest (by rw [e];simp) hr
 rw [h1] at hc
 refine ⟨hc,fun m => ?_⟩
 rw [List.append_assoc]
 refine (h _).trans ?_
 show walkG (c :: m) s = _
 exact walkG_run _ _ _ hc
theorem Come.start : Come [] startW:=fun m => rfl
end Go.Proofs.YtdoclpgciadjaaaDoor.P
namespace Go.Proofs.YtdoclpgciadjaaaDoor.P
open Go.RowKit Go.Proofs.YtdoclpgciadjaaaDoorW.PrintWords Go.Proofs.YtdoclpgciadjaaaDoorW.PrintLast Go.Proofs.YtdoclpgciadjaaaDoorW.PrintMore
set_option linter.unusedVariables false
set_option linter.unusedSimpArgs false
def spec_l1walk.tail (k : Nat) (all : List Int) (p : List Int) (i : Nat) (next : Bool → Option (Int × List Int × Bool)) : Option (Int × List Int × Bool) :=
 (spec_l1due.f all ((i + 1 : Nat) : Int)).bind fun d => if d = true then (spec_l1field.f k p).bind fun x => (if x ≤ 10 then next true else next (x == 11)) else next false
def spec_l1walk.l0 : Nat → List Int → Int → List Int → Bool → Nat → Option (Int × List Int × Bool)
 | 0,_,_,_,_,_ => none
 | k + 1,all,code,p,due,i =>
  if i < all.length then
   (if code ≠ 0 ∧ code ≠ 1 then some (7,p,false)
   else if due = true then (if 1 ≤ i then (if rd all (i : Int) = rd all ((i - 1 : Nat) : Int) then spec_l1walk.tail k all p i (fun d => spec_l1walk.l0 k all 3 p d (i + 1)) else spec_l1walk.tail k all p i (fun d => spec_l1walk.l0 k all 0 p d (i + 1))) else none)
   else (spec_l1look.f k p (rd all (i : Int))).bind fun c => spec_l1walk.tail k all (p ++ [rd all (i : Int)]) i (fun d => spec_l1walk.l0 k all c (p ++ [rd all (i : Int)]) d (i + 1)))
  else some (code,p,due)
def spec_l1walk.f (k : Nat) (a0 : ByteArray) : Option (Int × List Int × Bool):=if a0.size ≤ 4000 ∧ isBits a0 = true then spec_l1walk.l0 k (bytesOf a0) 0 [] false 0 else some (8, [],false)
theorem l1walk_okBits (a0 : ByteArray) (w : World) (b : Bool) (hb : (decide (a0.size ≤ 4000) && isBits a0) = b) :
  Calls Tryd.prog 64 #[.string a0, .int .i64 4000] w fun e w' => e = .returned (.bool b) ∧ Below w.heap.size w w':=by
 obtain ⟨k,hk⟩:=(okBits_ev a0 4000 (by omega)).rounds
 rw [hb] at hk
 exact (spec_l1okBits.calls k a0 4000 b w hk).mono fun e w' ⟨he,hd⟩ => ⟨he,hd.below⟩
theorem l1walk_due {s : ByteArray} {g c : Nat} {i : Int} {w : World} (hC : Kd.C (Kd.int .u8) w (some ⟨g,0,none⟩) s.size (bytesOf s)) (hc : s.size ≤ c) (b : Bool) (h : spec_l1due.f (bytesOf s) i = some b) :
  Calls Tryd.prog 66 #[.slice (some ⟨g,0,none⟩) s.size c, .int .i64 i] w fun e w' => e = .returned (.bool b) ∧ Drawn0 w w':=by
 have:=spec_l1due.calls (some ⟨g,0,none⟩) c (bytesOf s) i b w (by rw [bytesOf_length];exact hC) (by rw [bytesOf_length];exact hc) h
 rw [bytesOf_length] at this
 exact this
theorem R_readsC {w : World} {e base n c : Nat} {ok : Nat → Prop} {A : Option Addr} {p : List Int} (h : Kd.R (Kd.int .u8) e w base ok (.slice A n c) p) : Kd.C (Kd.int .u8) w A n p ∧ n ≤ c:=by
 have h2:=Kd.R_reads' h
 have hn:=h2.1
 subst hn
 exact ⟨h2.2.2,h2.2.1⟩
theorem l1walk_field {k : Nat} {A : Option Addr} {c n : Nat} {p : List Int} {x : Int} {w : World} (hC : Kd.C (Kd.int .u8) w A n p) (hc : n ≤ c) (h : spec_l1field.f k p = some x) :
  Calls Tryd.prog 46 #[.slice A n c] w fun e w' => e = .returned (.int .i64 x) ∧ Drawn0 w w':=by
 have hn:=hC.1
 subst hn
 exact spec_l1field.calls k A c p x w hC hc h
inductive TailIs (k : Nat) (all p : List Int) (i : Nat) (next : Bool → Option (Int × List Int × Bool)) (R : Int × List Int × Bool) : Prop
 | off (h : spec_l1due.f all ((i + 1 : Nat) : Int) = some false) (hn : next false = some R)
 | low (h : spec_l1due.f all ((i + 1 : Nat) : Int) = some true) (x : Int) (hx : spec_l1field.f k p = some x) (hl : x ≤ 10) (hn : next true = some R)
 | high (h : spec_l1due.f all ((i + 1 : Nat) : Int) = some true) (x : Int) (hx : spec_l1field.f k p = some x) (hl : ¬ x ≤ 10) (hn : next (x == 11) = some R)
theorem tail_is {k : Nat} {all p : List Int} {i : Nat} {next : Bool → Option (Int × List Int × Bool)} {R : Int × List Int × Bool} (h : spec_l1walk.tail k all p i next = some R) : TailIs k all p i next R:=by
 unfold spec_l1walk.tail at h
 obtain ⟨d,hd,h⟩:=Option.bind_eq_some_iff.1 h
 cases d with
 | false => exact .off hd h
 | true =>
  rw [if_pos rfl] at h
  obtain ⟨x,hx,h⟩:=Option.bind_eq_some_iff.1 h
  by_cases c : x ≤ 10
  ·rw [if_pos c] at h;exact .low hd x hx c h
  ·rw [if_neg c] at h;exact .high hd x hx c h
set_option maxHeartbeats 8000000 in
set_option maxRecDepth 100000 in
theorem spec_l1walk.yes (k : Nat) (a0 : ByteArray) (r1 : Int) (r2 : List Int) (r3 : Bool) (w : World) (hsz : a0.size ≤ 4000) (hB0 : isBits a0 = true) (hR : spec_l1walk.l0 k (bytesOf a0) 0 [] false 0 = some (r1,r2,r3)) :
  Calls Tryd.prog 45 #[.string a0] w fun e w' => ∃ v2_ : Value,e = .returned (.tuple #[.int .i64 r1,v2_, .bool r3]) ∧ Kd.R (Kd.int .u8) 5 w' w.heap.size (fun _ => True) v2_ r2 ∧ Below w.heap.size w w':=by
 have hbt : Hid ((decide (a0.size ≤ 4000) && isBits a0) = true):=by
  refine Lib.hid ?_
  rw [hB0,decide_eq_true (by omega)];rfl
 have HR:=Lib.hid hR
 clear hB0 hR
 go_enter Tryd.func45,Tryd.ntmps45
 go_wp2_with (go_at_call 64;refine (l1walk_okBits a0 _ true hbt.out).mono ?_;rintro e w1 ⟨rfl,hb1⟩;have hcv0:=Lib.run_convert_string_bytes (P:=Tryd.prog) w1 9 23 5 a0 Tryd.underlying9 Tryd.underlying23 Tryd.underlying5;have HBL : Hid (Below w.heap.size w w1):=Lib.hid (Below.trans ((Below.refl _ _).alloc (Nat.le_refl _) _) (hb1.mono (by simp)));have HB1:=Lib.hid hb1;clear hb1)
 have HCC : Hid (a0.size ≤ grownCap w1 a0.size 0 5):=Lib.hid (grownCap_ge _ _ _ _)
 generalize grownCap w1 a0.size 0 5 = cc at HCC ⊢
 have HLT : Hid (w.heap.size < w1.heap.size):=Lib.hid (by have:=HB1.out.size;simp at this;omega)
 have HR0 : Hid (Kd.R (Kd.int .u8) 5 (Lib.bytesWorld w1 5 a0) w.heap.size (fun k => k ≠ w1.heap.size) (.slice (some ⟨w.heap.size,0,none⟩) 0 0) []):=Lib.hid (Kd.R_below (Kd.R_below (R_empty (Kd.int .u8) w 5 w.heap.size (Nat.le_refl _) (fun k => k ≠ w1.heap.size) (by have:=HLT.out;omega)) HB1.out) (below_bytes (Below.refl _ _) (Nat.le_refl _) 5 a0))
 go_loopw [5,7,8,9] (fun v5 v7 v8 v9 wr => ∃ (kq i : Nat) (p : List Int) (code : Int) (due : Bool),v7 = .int .i64 code ∧ v8 = .bool due ∧ v9 = .int .i64 i ∧ i ≤ a0.size ∧ Aside0 (spec_l1walk.l0 kq (bytesOf a0) code p due i = some (r1,r2,r3)) ∧ Aside0 (p.length ≤ i) ∧ Aside0 (Kd.R (Kd.int .u8) 5 wr w.heap.size (fun k => k ≠ w1.heap.size) v5 p) ∧ Aside0 (Below w.heap.size w wr) ∧ Aside0 (Kd.C (Kd.int .u8) wr (some ⟨w1.heap.size,0,none⟩) a0.size (bytesOf a0)) ∧ Aside0 (w1.heap.size < wr.heap.size)) (fun _ _ _ v9 _ => a0.size - (intOf v9).toNat)
 case atStart => exact ⟨k,0, [],0,false,rfl,rfl,rfl,Nat.zero_le _,⟨HR.out⟩,⟨Nat.le_refl _⟩,⟨HR0.out⟩,⟨below_bytes HBL.out HBL.out.size 5 a0⟩,⟨bytes_C w1 5 a0 (by omega)⟩,⟨by rw [Lib.bytesWorld_size];omega⟩⟩
 case round =>
  obtain ⟨kq,i,p,code,due,rfl,rfl,rfl,hile,HA,HL,HO,HW,HC,HG⟩:=hrel
  obtain ⟨A5,c5,e5⟩:=Kd.R_slice HO.out
  subst e5
  cases kq with
  | zero => exact absurd HA.out (by simp [spec_l1walk.l0])
  | succ kj =>
   have H:=HA.out
   clear HA
   rw [spec_l1walk.l0] at H
   by_cases hp : i < a0.size
   ·rw [if_pos (by rw [bytesOf_length];exact hp)] at H
    have hcell:=C_cell HC.out i hp
    by_cases hcd : code ≠ 0 ∧ code ≠ 1
    ·rw [if_pos hcd] at H
     have hb0 : (code != 0) = true:=by simp [hcd.1]
     have hb1 : (code != 1) = true:=by simp [hcd.2]
     clear hcd
     simp only [Option.some.injEq,Prod.mk.injEq] at H
     obtain ⟨rfl,rfl,rfl⟩:=H
     go_wp2_with (fail)
     go_ret3
     exact ⟨_,rfl,Kd.R_mono HO.out (fun _ _ => trivial),HW.out⟩
    rw [if_neg hcd] at H
    have hcd2 : code = 0 ∨ code = 1:=by omega
    clear hcd
    have HH:=Lib.hid H
    clear H
    rcases hcd2 with rfl | rfl
    ·have hdd : Hid (due = due):=Lib.hid rfl
     cases due with
     | true =>
      have H:=HH.out
      clear HH
      rw [if_pos rfl] at H
      by_cases h1i : 1 ≤ i
      ·rw [if_pos h1i] at H
       have hcell2:=C_cell HC.out (i - 1) (by omega)
       have HW1 : Hid (IntKind.i64.wrap ((i : Int) - 1) = ((i - 1 : Nat) : Int)):=Lib.hid (by rw [IntKind.wrap_i64];omega)
       have HI1 : Hid (i - 1 < a0.size):=Lib.hid (by omega)
       by_cases hx0 : rd (bytesOf a0) (i : Int) = rd (bytesOf a0) ((i - 1 : Nat) : Int)
       ·rw [if_pos hx0] at H
        have hxb : (rd (bytesOf a0) (i : Int) == rd (bytesOf a0) ((i - 1 : Nat) : Int)) = true:=beq_iff_eq.mpr hx0
        have HT:=Lib.hid (tail_is H)
        clear H hx0
        obtain ⟨yy,hyy⟩ : ∃ yy,rd (bytesOf a0) ((i - 1 : Nat) : Int) = yy:=⟨_,rfl⟩
        rw [hyy] at hcell2 hxb
        clear hyy
        go_wp2_with (fail)
        have hi1:=HI1.out
        have hw1:=HW1.out
        go_quiet (fail)
        clear hw1 hi1 hcell2
        generalize hWq : wr.drewN nq = wq
        have HO1 : Hid (Kd.R (Kd.int .u8) 5 wq w.heap.size (fun k => k ≠ w1.heap.size) (.slice A5 p.length c5) p):=Lib.hid (hWq ▸ Kd.R_below HO.out (pw_below_drewN (Below.refl _ _) nq))
        have HW2 : Hid (Below w.heap.size w wq):=Lib.hid (hWq ▸ pw_below_drewN HW.out nq)
        have HC2 : Hid (Kd.C (Kd.int .u8) wq (some ⟨w1.heap.size,0,none⟩) a0.size (bytesOf a0)):=Lib.hid (hWq ▸ Kd.C_below HC.out (pw_below_drewN (Below.refl _ _) nq))
        have HG2 : Hid (w1.heap.size < wq.heap.size):=Lib.hid (hWq ▸ HG.out)
        clear hWq
        cases HT.out with
        | off hd hn =>
         have HD:=Lib.hid (show spec_l1due.f (bytesOf a0) ((i : Int) + 1) = some _ from hd)
         have HN:=Lib.hid hn
         clear hd hn
         go_wp2_with (go_at_call 66;refine (l1walk_due (i:=(i : Int) + 1) (Kd.C_below HC2.out (by repeat (first | exact Below.refl _ _ | apply pw_below_drewN | apply below_drew))) HCC.out _ HD.out).mono ?_;rintro e w' ⟨rfl,⟨nd,rfl⟩⟩)
         go_roundw
         case rel => exact ⟨kj,i + 1,p,3,false,rfl,rfl,by go_num,hp,⟨HN.out⟩,⟨Nat.le_succ_of_le HL.out⟩,⟨Kd.R_below HO1.out (by repeat (first | exact Below.refl _ _ | apply pw_below_drewN | apply below_drew))⟩,⟨by repeat (first | exact HW2.out | apply pw_below_drewN | apply below_drew)⟩,⟨Kd.C_below HC2.out (by repeat (first | exact Below.refl _ _ | apply pw_below_drewN | apply below_drew))⟩,⟨HG2.out⟩⟩
         case measure => simp [intOf];omega
        | low hd x hx hl hn =>
         have HD:=Lib.hid (show spec_l1due.f (bytesOf a0) ((i : Int) + 1) = some _ from hd)
         have HN:=Lib.hid hn
         have HX:=Lib.hid hx
         have hlb : decide (x ≤ 10) = true:=decide_eq_true hl
         clear hd hn hx hl
         go_wp2_with (first | (go_at_call 66;refine (l1walk_due (i:=(i : Int) + 1) (Kd.C_below HC2.out (by repeat (first | exact Below.refl _ _ | apply pw_below_drewN | apply below_drew))) HCC.out _ HD.out).mono ?_;rintro e w' ⟨rfl,⟨nd,rfl⟩⟩) | (go_at_call 46;refine (l1walk_field (k:=kj) (p:=p) (Kd.C_below (Kd.R_reads' HO1.out).2.2 (by repeat (first | exact Below.refl _ _ | apply pw_below_drewN | apply below_drew))) (Kd.R_reads' HO1.out).2.1 HX.out).mono ?_;rintro e w' ⟨rfl,⟨nf,rfl⟩⟩))
         go_roundw
         case rel => exact ⟨kj,i + 1,p,3,true,rfl,rfl,by go_num,hp,⟨HN.out⟩,⟨Nat.le_succ_of_le HL.out⟩,⟨Kd.R_below HO1.out (by repeat (first | exact Below.refl _ _ | apply pw_below_drewN | apply below_drew))⟩,⟨by repeat (first | exact HW2.out | apply pw_below_drewN | apply below_drew)⟩,⟨Kd.C_below HC2.out (by repeat (first | exact Below.refl _ _ | apply pw_below_drewN | apply below_drew))⟩,⟨HG2.out⟩⟩
         case measure => simp [intOf];omega
        | high hd x hx hl hn =>
         have HD:=Lib.hid (show spec_l1due.f (bytesOf a0) ((i : Int) + 1) = some _ from hd)
         have HN:=Lib.hid hn
         have HX:=Lib.hid hx
         have hlb : decide (x ≤ 10) = false:=decide_eq_false hl
         clear hd hn hx hl
         go_wp2_with (first | (go_at_call 66;refine (l1walk_due (i:=(i : Int) + 1) (Kd.C_below HC2.out (by repeat (first | exact Below.refl _ _ | apply pw_below_drewN | apply below_drew))) HCC.out _ HD.out).mono ?_;rintro e w' ⟨rfl,⟨nd,rfl⟩⟩) | (go_at_call 46;refine (l1walk_field (k:=kj) (p:=p) (Kd.C_below (Kd.R_reads' HO1.out).2.2 (by repeat (first | exact Below.refl _ _ | apply pw_below_drewN | apply below_drew))) (Kd.R_reads' HO1.out).2.1 HX.out).mono ?_;rintro e w' ⟨rfl,⟨nf,rfl⟩⟩))
         go_roundw
         case rel => exact ⟨kj,i + 1,p,3,(x == 11),rfl,rfl,by go_num,hp,⟨HN.out⟩,⟨Nat.le_succ_of_le HL.out⟩,⟨Kd.R_below HO1.out (by repeat (first | exact Below.refl _ _ | apply pw_below_drewN | apply below_drew))⟩,⟨by repeat (first | exact HW2.out | apply pw_below_drewN | apply below_drew)⟩,⟨Kd.C_below HC2.out (by repeat (first | exact Below.refl _ _ | apply pw_below_drewN | apply below_drew))⟩,⟨HG2.out⟩⟩
         case measure => simp [intOf];omega
       ·rw [if_neg hx0] at H
        have hxb : (rd (bytesOf a0) (i : Int) == rd (bytesOf a0) ((i - 1 : Nat) : Int)) = false:=beq_eq_false_iff_ne.mpr hx0
        have HT:=Lib.hid (tail_is H)
        clear H hx0
        obtain ⟨yy,hyy⟩ : ∃ yy,rd (bytesOf a0) ((i - 1 : Nat) : Int) = yy:=⟨_,rfl⟩
        rw [hyy] at hcell2 hxb
        clear hyy
        go_wp2_with (fail)
        have hi1:=HI1.out
        have hw1:=HW1.out
        go_quiet (fail)
        clear hw1 hi1 hcell2
        generalize hWq : wr.drewN nq = wq
        have HO1 : Hid (Kd.R (Kd.int .u8) 5 wq w.heap.size (fun k => k ≠ w1.heap.size) (.slice A5 p.length c5) p):=Lib.hid (hWq ▸ Kd.R_below HO.out (pw_below_drewN (Below.refl _ _) nq))
        have HW2 : Hid (Below w.heap.size w wq):=Lib.hid (hWq ▸ pw_below_drewN HW.out nq)
        have HC2 : Hid (Kd.C (Kd.int .u8) wq (some ⟨w1.heap.size,0,none⟩) a0.size (bytesOf a0)):=Lib.hid (hWq ▸ Kd.C_below HC.out (pw_below_drewN (Below.refl _ _) nq))
        have HG2 : Hid (w1.heap.size < wq.heap.size):=Lib.hid (hWq ▸ HG.out)
        clear hWq
        cases HT.out with
        | off hd hn =>
         have HD:=Lib.hid (show spec_l1due.f (bytesOf a0) ((i : Int) + 1) = some _ from hd)
         have HN:=Lib.hid hn
         clear hd hn
         go_wp2_with (go_at_call 66;refine (l1walk_due (i:=(i : Int) + 1) (Kd.C_below HC2.out (by repeat (first | exact Below.refl _ _ | apply pw_below_drewN | apply below_drew))) HCC.out _ HD.out).mono ?_;rintro e w' ⟨rfl,⟨nd,rfl⟩⟩)
         go_roundw
         case rel => exact ⟨kj,i + 1,p,0,false,rfl,rfl,by go_num,hp,⟨HN.out⟩,⟨Nat.le_succ_of_le HL.out⟩,⟨Kd.R_below HO1.out (by repeat (first | exact Below.refl _ _ | apply pw_below_drewN | apply below_drew))⟩,⟨by repeat (first | exact HW2.out | apply pw_below_drewN | apply below_drew)⟩,⟨Kd.C_below HC2.out (by repeat (first | exact Below.refl _ _ | apply pw_below_drewN | apply below_drew))⟩,⟨HG2.out⟩⟩
         case measure => simp [intOf];omega
        | low hd x hx hl hn =>
         have HD:=Lib.hid (show spec_l1due.f (bytesOf a0) ((i : Int) + 1) = some _ from hd)
         have HN:=Lib.hid hn
         have HX:=Lib.hid hx
         have hlb : decide (x ≤ 10) = true:=decide_eq_true hl
         clear hd hn hx hl
         go_wp2_with (first | (go_at_call 66;refine (l1walk_due (i:=(i : Int) + 1) (Kd.C_below HC2.out (by repeat (first | exact Below.refl _ _ | apply pw_below_drewN | apply below_drew))) HCC.out _ HD.out).mono ?_;rintro e w' ⟨rfl,⟨nd,rfl⟩⟩) | (go_at_call 46;refine (l1walk_field (k:=kj) (p:=p) (Kd.C_below (Kd.R_reads' HO1.out).2.2 (by repeat (first | exact Below.refl _ _ | apply pw_below_drewN | apply below_drew))) (Kd.R_reads' HO1.out).2.1 HX.out).mono ?_;rintro e w' ⟨rfl,⟨nf,rfl⟩⟩))
         go_roundw
         case rel => exact ⟨kj,i + 1,p,0,true,rfl,rfl,by go_num,hp,⟨HN.out⟩,⟨Nat.le_succ_of_le HL.out⟩,⟨Kd.R_below HO1.out (by repeat (first | exact Below.refl _ _ | apply pw_below_drewN | apply below_drew))⟩,⟨by repeat (first | exact HW2.out | apply pw_below_drewN | apply below_drew)⟩,⟨Kd.C_below HC2.out (by repeat (first | exact Below.refl _ _ | apply pw_below_drewN | apply below_drew))⟩,⟨HG2.out⟩⟩
         case measure => simp [intOf];omega
        | high hd x hx hl hn =>
         have HD:=Lib.hid (show spec_l1due.f (bytesOf a0) ((i : Int) + 1) = some _ from hd)
         have HN:=Lib.hid hn
         have HX:=Lib.hid hx
         have hlb : decide (x ≤ 10) = false:=decide_eq_false hl
         clear hd hn hx hl
         go_wp2_with (first | (go_at_call 66;refine (l1walk_due (i:=(i : Int) + 1) (Kd.C_below HC2.out (by repeat (first | exact Below.refl _ _ | apply pw_below_drewN | apply below_drew))) HCC.out _ HD.out).mono ?_;rintro e w' ⟨rfl,⟨nd,rfl⟩⟩) | (go_at_call 46;refine (l1walk_field (k:=kj) (p:=p) (Kd.C_below (Kd.R_reads' HO1.out).2.2 (by repeat (first | exact Below.refl _ _ | apply pw_below_drewN | apply below_drew))) (Kd.R_reads' HO1.out).2.1 HX.out).mono ?_;rintro e w' ⟨rfl,⟨nf,rfl⟩⟩))
         go_roundw
         case rel => exact ⟨kj,i + 1,p,0,(x == 11),rfl,rfl,by go_num,hp,⟨HN.out⟩,⟨Nat.le_succ_of_le HL.out⟩,⟨Kd.R_below HO1.out (by repeat (first | exact Below.refl _ _ | apply pw_below_drewN | apply below_drew))⟩,⟨by repeat (first | exact HW2.out | apply pw_below_drewN | apply below_drew)⟩,⟨Kd.C_below HC2.out (by repeat (first | exact Below.refl _ _ | apply pw_below_drewN | apply below_drew))⟩,⟨HG2.out⟩⟩
         case measure => simp [intOf];omega
      ·rw [if_neg h1i] at H
       exact absurd H (by simp)
     | false =>
      have H:=HH.out
      clear HH
      rw [if_neg (by decide)] at H
      obtain ⟨cl,hcl,H⟩:=Option.bind_eq_some_iff.1 H
      have HCL:=Lib.hid hcl
      have HT:=Lib.hid (tail_is H)
      clear H hcl
      cases HT.out with
      | off hd hn =>
       have HD:=Lib.hid (show spec_l1due.f (bytesOf a0) ((i : Int) + 1) = some _ from hd)
       have HN:=Lib.hid hn
       clear hd hn
       go_wp2_with (first | (go_at_call 65;refine (spec_l1look.calls kj A5 c5 p _ cl _ (Kd.R_reads' HO.out).2.2 (Kd.R_reads' HO.out).2.1 HCL.out).mono ?_;rintro e wl ⟨rfl,hbl⟩;have HO1:=Lib.hid (Kd.R_below HO.out hbl);have HW2:=Lib.hid (HW.out.trans (hbl.mono HW.out.size));have HC2:=Lib.hid (Kd.C_below HC.out hbl);have HG2 : Hid (w1.heap.size < wl.heap.size):=Lib.hid (Nat.lt_of_lt_of_le HG.out hbl.size);have hcell:=C_cell HC2.out i hp;clear hbl) | (at_builtin;refine Kd.R_append (Kd.int .u8) (w0:=w) w.heap.size rfl (.tmp 47) (.tmp 52) 23 5 (.int .u8 0) 1 rfl Tryd.underlying23 infoU8 rfl (by decide) (by omega) _ p (rd (bytesOf a0) (i : Int)) [.int .u8 (rd (bytesOf a0) (i : Int))] (fun k => k ≠ w1.heap.size) (fun _ => False) rfl rfl ?aP (fun _ hk => hk.elim) ?aF ?aO ?aB ?aS ?aL ?_;(case aP => exact rfl);(case aF => exact fun k hk => by have:=HG2.out;omega);(case aO => exact HO1.out);(case aB => exact HW2.out);(case aS => exact HW2.out.size);(case aL => have:=HL.out;omega);intro v1 wA ho1 hb1 hg1 hat1;obtain ⟨g1,cA,ev1, -, -, -, -⟩:=Kd.R_form ho1 (by simp);rw [show (p ++ [rd (bytesOf a0) (i : Int)]).length = p.length + 1 by simp] at ev1;subst ev1;have HO3:=Lib.hid ho1;have HCP:=Lib.hid (R_readsC ho1).1;have HLC:=Lib.hid (R_readsC ho1).2;have HW3:=Lib.hid hb1;have HC3:=Lib.hid (C_kept HC2.out hg1 HG2.out (fun k hk => (HO1.out.1 k hk)));have HG3 : Hid (w1.heap.size < wA.heap.size):=Lib.hid (Nat.lt_of_lt_of_le HG2.out hg1.size);clear ho1 hb1 hg1 hat1) | (go_at_call 66;refine (l1walk_due (i:=(i : Int) + 1) HC3.out HCC.out _ HD.out).mono ?_;rintro e w' ⟨rfl,⟨nd,rfl⟩⟩))
       go_roundw
       case rel => exact ⟨kj,i + 1,_,cl,false,rfl,rfl,by go_num,hp,⟨HN.out⟩,⟨by have:=HL.out;simp;omega⟩,⟨Kd.R_below HO3.out (by repeat (first | exact Below.refl _ _ | apply pw_below_drewN | apply below_drew))⟩,⟨by repeat (first | exact HW3.out | apply pw_below_drewN | apply below_drew)⟩,⟨Kd.C_below HC3.out (by repeat (first | exact Below.refl _ _ | apply pw_below_drewN | apply below_drew))⟩,⟨HG3.out⟩⟩
       case measure => simp [intOf];omega
      | low hd x hx hl hn =>
       have HD:=Lib.hid (show spec_l1due.f (bytesOf a0) ((i : Int) + 1) = some _ from hd)
       have HN:=Lib.hid hn
       have HX:=Lib.hid hx
       have hlb : decide (x ≤ 10) = true:=decide_eq_true hl
       clear hd hn hx hl
       go_wp2_with (first | (go_at_call 65;refine (spec_l1look.calls kj A5 c5 p _ cl _ (Kd.R_reads' HO.out).2.2 (Kd.R_reads' HO.out).2.1 HCL.out).mono ?_;rintro e wl ⟨rfl,hbl⟩;have HO1:=Lib.hid (Kd.R_below HO.out hbl);have HW2:=Lib.hid (HW.out.trans (hbl.mono HW.out.size));have HC2:=Lib.hid (Kd.C_below HC.out hbl);have HG2 : Hid (w1.heap.size < wl.heap.size):=Lib.hid (Nat.lt_of_lt_of_le HG.out hbl.size);have hcell:=C_cell HC2.out i hp;clear hbl) | (at_builtin;refine Kd.R_append (Kd.int .u8) (w0:=w) w.heap.size rfl (.tmp 47) (.tmp 52) 23 5 (.int .u8 0) 1 rfl Tryd.underlying23 infoU8 rfl (by decide) (by omega) _ p (rd (bytesOf a0) (i : Int)) [.int .u8 (rd (bytesOf a0) (i : Int))] (fun k => k ≠ w1.heap.size) (fun _ => False) rfl rfl ?aP (fun _ hk => hk.elim) ?aF ?aO ?aB ?aS ?aL ?_;(case aP => exact rfl);(case aF => exact fun k hk => by have:=HG2.out;omega);(case aO => exact HO1.out);(case aB => exact HW2.out);(case aS => exact HW2.out.size);(case aL => have:=HL.out;omega);intro v1 wA ho1 hb1 hg1 hat1;obtain ⟨g1,cA,ev1, -, -, -, -⟩:=Kd.R_form ho1 (by simp);rw [show (p ++ [rd (bytesOf a0) (i : Int)]).length = p.length + 1 by simp] at ev1;subst ev1;have HO3:=Lib.hid ho1;have HCP:=Lib.hid (R_readsC ho1).1;have HLC:=Lib.hid (R_readsC ho1).2;have HW3:=Lib.hid hb1;have HC3:=Lib.hid (C_kept HC2.out hg1 HG2.out (fun k hk => (HO1.out.1 k hk)));have HG3 : Hid (w1.heap.size < wA.heap.size):=Lib.hid (Nat.lt_of_lt_of_le HG2.out hg1.size);clear ho1 hb1 hg1 hat1) | (go_at_call 66;refine (l1walk_due (i:=(i : Int) + 1) HC3.out HCC.out _ HD.out).mono ?_;rintro e w' ⟨rfl,⟨nd,rfl⟩⟩) | (go_at_call 46;refine (l1walk_field (k:=kj) (p:=p ++ [rd (bytesOf a0) (i : Int)]) (Kd.C_below HCP.out (by repeat (first | exact Below.refl _ _ | apply pw_below_drewN | apply below_drew))) HLC.out HX.out).mono ?_;rintro e w' ⟨rfl,⟨nf,rfl⟩⟩))
       go_roundw
       case rel => exact ⟨kj,i + 1,_,cl,true,rfl,rfl,by go_num,hp,⟨HN.out⟩,⟨by have:=HL.out;simp;omega⟩,⟨Kd.R_below HO3.out (by repeat (first | exact Below.refl _ _ | apply pw_below_drewN | apply below_drew))⟩,⟨by repeat (first | exact HW3.out | apply pw_below_drewN | apply below_drew)⟩,⟨Kd.C_below HC3.out (by repeat (first | exact Below.refl _ _ | apply pw_below_drewN | apply below_drew))⟩,⟨HG3.out⟩⟩
       case measure => simp [intOf];omega
      | high hd x hx hl hn =>
       have HD:=Lib.hid (show spec_l1due.f (bytesOf a0) ((i : Int) + 1) = some _ from hd)
       have HN:=Lib.hid hn
       have HX:=Lib.hid hx
       have hlb : decide (x ≤ 10) = false:=decide_eq_false hl
       clear hd hn hx hl
       go_wp2_with (first | (go_at_call 65;refine (spec_l1look.calls kj A5 c5 p _ cl _ (Kd.R_reads' HO.out).2.2 (Kd.R_reads' HO.out).2.1 HCL.out).mono ?_;rintro e wl ⟨rfl,hbl⟩;have HO1:=Lib.hid (Kd.R_below HO.out hbl);have HW2:=Lib.hid (HW.out.trans (hbl.mono HW.out.size));have HC2:=Lib.hid (Kd.C_below HC.out hbl);have HG2 : Hid (w1.heap.size < wl.heap.size):=Lib.hid (Nat.lt_of_lt_of_le HG.out hbl.size);have hcell:=C_cell HC2.out i hp;clear hbl) | (at_builtin;refine Kd.R_append (Kd.int .u8) (w0:=w) w.heap.size rfl (.tmp 47) (.tmp 52) 23 5 (.int .u8 0) 1 rfl Tryd.underlying23 infoU8 rfl (by decide) (by omega) _ p (rd (bytesOf a0) (i : Int)) [.int .u8 (rd (bytesOf a0) (i : Int))] (fun k => k ≠ w1.heap.size) (fun _ => False) rfl rfl ?aP (fun _ hk => hk.elim) ?aF ?aO ?aB ?aS ?aL ?_;(case aP => exact rfl);(case aF => exact fun k hk => by have:=HG2.out;omega);(case aO => exact HO1.out);(case aB => exact HW2.out);(case aS => exact HW2.out.size);(case aL => have:=HL.out;omega);intro v1 wA ho1 hb1 hg1 hat1;obtain ⟨g1,cA,ev1, -, -, -, -⟩:=Kd.R_form ho1 (by simp);rw [show (p ++ [rd (bytesOf a0) (i : Int)]).length = p.length + 1 by simp] at ev1;subst ev1;have HO3:=Lib.hid ho1;have HCP:=Lib.hid (R_readsC ho1).1;have HLC:=Lib.hid (R_readsC ho1).2;have HW3:=Lib.hid hb1;have HC3:=Lib.hid (C_kept HC2.out hg1 HG2.out (fun k hk => (HO1.out.1 k hk)));have HG3 : Hid (w1.heap.size < wA.heap.size):=Lib.hid (Nat.lt_of_lt_of_le HG2.out hg1.size);clear ho1 hb1 hg1 hat1) | (go_at_call 66;refine (l1walk_due (i:=(i : Int) + 1) HC3.out HCC.out _ HD.out).mono ?_;rintro e w' ⟨rfl,⟨nd,rfl⟩⟩) | (go_at_call 46;refine (l1walk_field (k:=kj) (p:=p ++ [rd (bytesOf a0) (i : Int)]) (Kd.C_below HCP.out (by repeat (first | exact Below.refl _ _ | apply pw_below_drewN | apply below_drew))) HLC.out HX.out).mono ?_;rintro e w' ⟨rfl,⟨nf,rfl⟩⟩))
       go_roundw
       case rel => exact ⟨kj,i + 1,_,cl,(x == 11),rfl,rfl,by go_num,hp,⟨HN.out⟩,⟨by have:=HL.out;simp;omega⟩,⟨Kd.R_below HO3.out (by repeat (first | exact Below.refl _ _ | apply pw_below_drewN | apply below_drew))⟩,⟨by repeat (first | exact HW3.out | apply pw_below_drewN | apply below_drew)⟩,⟨Kd.C_below HC3.out (by repeat (first | exact Below.refl _ _ | apply pw_below_drewN | apply below_drew))⟩,⟨HG3.out⟩⟩
       case measure => simp [intOf];omega
    ·have hdd : Hid (due = due):=Lib.hid rfl
     cases due with
     | true =>
      have H:=HH.out
      clear HH
      rw [if_pos rfl] at H
      by_cases h1i : 1 ≤ i
      ·rw [if_pos h1i] at H
       have hcell2:=C_cell HC.out (i - 1) (by omega)
       have HW1 : Hid (IntKind.i64.wrap ((i : Int) - 1) = ((i - 1 : Nat) : Int)):=Lib.hid (by rw [IntKind.wrap_i64];omega)
       have HI1 : Hid (i - 1 < a0.size):=Lib.hid (by omega)
       by_cases hx0 : rd (bytesOf a0) (i : Int) = rd (bytesOf a0) ((i - 1 : Nat) : Int)
       ·rw [if_pos hx0] at H
        have hxb : (rd (bytesOf a0) (i : Int) == rd (bytesOf a0) ((i - 1 : Nat) : Int)) = true:=beq_iff_eq.mpr hx0
        have HT:=Lib.hid (tail_is H)
        clear H hx0
        obtain ⟨yy,hyy⟩ : ∃ yy,rd (bytesOf a0) ((i - 1 : Nat) : Int) = yy:=⟨_,rfl⟩
        rw [hyy] at hcell2 hxb
        clear hyy
        go_wp2_with (fail)
        have hi1:=HI1.out
        have hw1:=HW1.out
        go_quiet (fail)
        clear hw1 hi1 hcell2
        generalize hWq : wr.drewN nq = wq
        have HO1 : Hid (Kd.R (Kd.int .u8) 5 wq w.heap.size (fun k => k ≠ w1.heap.size) (.slice A5 p.length c5) p):=Lib.hid (hWq ▸ Kd.R_below HO.out (pw_below_drewN (Below.refl _ _) nq))
        have HW2 : Hid (Below w.heap.size w wq):=Lib.hid (hWq ▸ pw_below_drewN HW.out nq)
        have HC2 : Hid (Kd.C (Kd.int .u8) wq (some ⟨w1.heap.size,0,none⟩) a0.size (bytesOf a0)):=Lib.hid (hWq ▸ Kd.C_below HC.out (pw_below_drewN (Below.refl _ _) nq))
        have HG2 : Hid (w1.heap.size < wq.heap.size):=Lib.hid (hWq ▸ HG.out)
        clear hWq
        cases HT.out with
        | off hd hn =>
         have HD:=Lib.hid (show spec_l1due.f (bytesOf a0) ((i : Int) + 1) = some _ from hd)
         have HN:=Lib.hid hn
         clear hd hn
         go_wp2_with (go_at_call 66;refine (l1walk_due (i:=(i : Int) + 1) (Kd.C_below HC2.out (by repeat (first | exact Below.refl _ _ | apply pw_below_drewN | apply below_drew))) HCC.out _ HD.out).mono ?_;rintro e w' ⟨rfl,⟨nd,rfl⟩⟩)
         go_roundw
         case rel => exact ⟨kj,i + 1,p,3,false,rfl,rfl,by go_num,hp,⟨HN.out⟩,⟨Nat.le_succ_of_le HL.out⟩,⟨Kd.R_below HO1.out (by repeat (first | exact Below.refl _ _ | apply pw_below_drewN | apply below_drew))⟩,⟨by repeat (first | exact HW2.out | apply pw_below_drewN | apply below_drew)⟩,⟨Kd.C_below HC2.out (by repeat (first | exact Below.refl _ _ | apply pw_below_drewN | apply below_drew))⟩,⟨HG2.out⟩⟩
         case measure => simp [intOf];omega
        | low hd x hx hl hn =>
         have HD:=Lib.hid (show spec_l1due.f (bytesOf a0) ((i : Int) + 1) = some _ from hd)
         have HN:=Lib.hid hn
         have HX:=Lib.hid hx
         have hlb : decide (x ≤ 10) = true:=decide_eq_true hl
         clear hd hn hx hl
         go_wp2_with (first | (go_at_call 66;refine (l1walk_due (i:=(i : Int) + 1) (Kd.C_below HC2.out (by repeat (first | exact Below.refl _ _ | apply pw_below_drewN | apply below_drew))) HCC.out _ HD.out).mono ?_;rintro e w' ⟨rfl,⟨nd,rfl⟩⟩) | (go_at_call 46;refine (l1walk_field (k:=kj) (p:=p) (Kd.C_below (Kd.R_reads' HO1.out).2.2 (by repeat (first | exact Below.refl _ _ | apply pw_below_drewN | apply below_drew))) (Kd.R_reads' HO1.out).2.1 HX.out).mono ?_;rintro e w' ⟨rfl,⟨nf,rfl⟩⟩))
         go_roundw
         case rel => exact ⟨kj,i + 1,p,3,true,rfl,rfl,by go_num,hp,⟨HN.out⟩,⟨Nat.le_succ_of_le HL.out⟩,⟨Kd.R_below HO1.out (by repeat (first | exact Below.refl _ _ | apply pw_below_drewN | apply below_drew))⟩,⟨by repeat (first | exact HW2.out | apply pw_below_drewN | apply below_drew)⟩,⟨Kd.C_below HC2.out (by repeat (first | exact Below.refl _ _ | apply pw_below_drewN | apply below_drew))⟩,⟨HG2.out⟩⟩
         case measure => simp [intOf];omega
        | high hd x hx hl hn =>
         have HD:=Lib.hid (show spec_l1due.f (bytesOf a0) ((i : Int) + 1) = some _ from hd)
         have HN:=Lib.hid hn
         have HX:=Lib.hid hx
         have hlb : decide (x ≤ 10) = false:=decide_eq_false hl
         clear hd hn hx hl
         go_wp2_with (first | (go_at_call 66;refine (l1walk_due (i:=(i : Int) + 1) (Kd.C_below HC2.out (by repeat (first | exact Below.refl _ _ | apply pw_below_drewN | apply below_drew))) HCC.out _ HD.out).mono ?_;rintro e w' ⟨rfl,⟨nd,rfl⟩⟩) | (go_at_call 46;refine (l1walk_field (k:=kj) (p:=p) (Kd.C_below (Kd.R_reads' HO1.out).2.2 (by repeat (first | exact Below.refl _ _ | apply pw_below_drewN | apply below_drew))) (Kd.R_reads' HO1.out).2.1 HX.out).mono ?_;rintro e w' ⟨rfl,⟨nf,rfl⟩⟩))
         go_roundw
         case rel => exact ⟨kj,i + 1,p,3,(x == 11),rfl,rfl,by go_num,hp,⟨HN.out⟩,⟨Nat.le_succ_of_le HL.out⟩,⟨Kd.R_below HO1.out (by repeat (first | exact Below.refl _ _ | apply pw_below_drewN | apply below_drew))⟩,⟨by repeat (first | exact HW2.out | apply pw_below_drewN | apply below_drew)⟩,⟨Kd.C_below HC2.out (by repeat (first | exact Below.refl _ _ | apply pw_below_drewN | apply below_drew))⟩,⟨HG2.out⟩⟩
         case measure => simp [intOf];omega
       ·rw [if_neg hx0] at H
        have hxb : (rd (bytesOf a0) (i : Int) == rd (bytesOf a0) ((i - 1 : Nat) : Int)) = false:=beq_eq_false_iff_ne.mpr hx0
        have HT:=Lib.hid (tail_is H)
        clear H hx0
        obtain ⟨yy,hyy⟩ : ∃ yy,rd (bytesOf a0) ((i - 1 : Nat) : Int) = yy:=⟨_,rfl⟩
        rw [hyy] at hcell2 hxb
        clear hyy
        go_wp2_with (fail)
        have hi1:=HI1.out
        have hw1:=HW1.out
        go_quiet (fail)
        clear hw1 hi1 hcell2
        generalize hWq : wr.drewN nq = wq
        have HO1 : Hid (Kd.R (Kd.int .u8) 5 wq w.heap.size (fun k => k ≠ w1.heap.size) (.slice A5 p.length c5) p):=Lib.hid (hWq ▸ Kd.R_below HO.out (pw_below_drewN (Below.refl _ _) nq))
        have HW2 : Hid (Below w.heap.size w wq):=Lib.hid (hWq ▸ pw_below_drewN HW.out nq)
        have HC2 : Hid (Kd.C (Kd.int .u8) wq (some ⟨w1.heap.size,0,none⟩) a0.size (bytesOf a0)):=Lib.hid (hWq ▸ Kd.C_below HC.out (pw_below_drewN (Below.refl _ _) nq))
        have HG2 : Hid (w1.heap.size < wq.heap.size):=Lib.hid (hWq ▸ HG.out)
        clear hWq
        cases HT.out with
        | off hd hn =>
         have HD:=Lib.hid (show spec_l1due.f (bytesOf a0) ((i : Int) + 1) = some _ from hd)
         have HN:=Lib.hid hn
         clear hd hn
         go_wp2_with (go_at_call 66;refine (l1walk_due (i:=(i : Int) + 1) (Kd.C_below HC2.out (by repeat (first | exact Below.refl _ _ | apply pw_below_drewN | apply below_drew))) HCC.out _ HD.out).mono ?_;rintro e w' ⟨rfl,⟨nd,rfl⟩⟩)
         go_roundw
         case rel => exact ⟨kj,i + 1,p,0,false,rfl,rfl,by go_num,hp,⟨HN.out⟩,⟨Nat.le_succ_of_le HL.out⟩,⟨Kd.R_below HO1.out (by repeat (first | exact Below.refl _ _ | apply pw_below_drewN | apply below_drew))⟩,⟨by repeat (first | exact HW2.out | apply pw_below_drewN | apply below_drew)⟩,⟨Kd.C_below HC2.out (by repeat (first | exact Below.refl _ _ | apply pw_below_drewN | apply below_drew))⟩,⟨HG2.out⟩⟩
         case measure => simp [intOf];omega
        | low hd x hx hl hn =>
         have HD:=Lib.hid (show spec_l1due.f (bytesOf a0) ((i : Int) + 1) = some _ from hd)
         have HN:=Lib.hid hn
         have HX:=Lib.hid hx
         have hlb : decide (x ≤ 10) = true:=decide_eq_true hl
         clear hd hn hx hl
         go_wp2_with (first | (go_at_call 66;refine (l1walk_due (i:=(i : Int) + 1) (Kd.C_below HC2.out (by repeat (first | exact Below.refl _ _ | apply pw_below_drewN | apply below_drew))) HCC.out _ HD.out).mono ?_;rintro e w' ⟨rfl,⟨nd,rfl⟩⟩) | (go_at_call 46;refine (l1walk_field (k:=kj) (p:=p) (Kd.C_below (Kd.R_reads' HO1.out).2.2 (by repeat (first | exact Below.refl _ _ | apply pw_below_drewN | apply below_drew))) (Kd.R_reads' HO1.out).2.1 HX.out).mono ?_;rintro e w' ⟨rfl,⟨nf,rfl⟩⟩))
         go_roundw
         case rel => exact ⟨kj,i + 1,p,0,true,rfl,rfl,by go_num,hp,⟨HN.out⟩,⟨Nat.le_succ_of_le HL.out⟩,⟨Kd.R_below HO1.out (by repeat (first | exact Below.refl _ _ | apply pw_below_drewN | apply below_drew))⟩,⟨by repeat (first | exact HW2.out | apply pw_below_drewN | apply below_drew)⟩,⟨Kd.C_below HC2.out (by repeat (first | exact Below.refl _ _ | apply pw_below_drewN | apply below_drew))⟩,⟨HG2.out⟩⟩
         case measure => simp [intOf];omega
        | high hd x hx hl hn =>
         have HD:=Lib.hid (show spec_l1due.f (bytesOf a0) ((i : Int) + 1) = some _ from hd)
         have HN:=Lib.hid hn
         have HX:=Lib.hid hx
         have hlb : decide (x ≤ 10) = false:=decide_eq_false hl
         clear hd hn hx hl
         go_wp2_with (first | (go_at_call 66;refine (l1walk_due (i:=(i : Int) + 1) (Kd.C_below HC2.out (by repeat (first | exact Below.refl _ _ | apply pw_below_drewN | apply below_drew))) HCC.out _ HD.out).mono ?_;rintro e w' ⟨rfl,⟨nd,rfl⟩⟩) | (go_at_call 46;refine (l1walk_field (k:=kj) (p:=p) (Kd.C_below (Kd.R_reads' HO1.out).2.2 (by repeat (first | exact Below.refl _ _ | apply pw_below_drewN | apply below_drew))) (Kd.R_reads' HO1.out).2.1 HX.out).mono ?_;rintro e w' ⟨rfl,⟨nf,rfl⟩⟩))
         go_roundw
         case rel => exact ⟨kj,i + 1,p,0,(x == 11),rfl,rfl,by go_num,hp,⟨HN.out⟩,⟨Nat.le_succ_of_le HL.out⟩,⟨Kd.R_below HO1.out (by repeat (first | exact Below.refl _ _ | apply pw_below_drewN | apply below_drew))⟩,⟨by repeat (first | exact HW2.out | apply pw_below_drewN | apply below_drew)⟩,⟨Kd.C_below HC2.out (by repeat (first | exact Below.refl _ _ | apply pw_below_drewN | apply below_drew))⟩,⟨HG2.out⟩⟩
         case measure => simp [intOf];omega
      ·rw [if_neg h1i] at H
       exact absurd H (by simp)
     | false =>
      have H:=HH.out
      clear HH
      rw [if_neg (by decide)] at H
      obtain ⟨cl,hcl,H⟩:=Option.bind_eq_some_iff.1 H
      have HCL:=Lib.hid hcl
      have HT:=Lib.hid (tail_is H)
      clear H hcl
      cases HT.out with
      | off hd hn =>
       have HD:=Lib.hid (show spec_l1due.f (bytesOf a0) ((i : Int) + 1) = some _ from hd)
       have HN:=Lib.hid hn
       clear hd hn
       go_wp2_with (first | (go_at_call 65;refine (spec_l1look.calls kj A5 c5 p _ cl _ (Kd.R_reads' HO.out).2.2 (Kd.R_reads' HO.out).2.1 HCL.out).mono ?_;rintro e wl ⟨rfl,hbl⟩;have HO1:=Lib.hid (Kd.R_below HO.out hbl);have HW2:=Lib.hid (HW.out.trans (hbl.mono HW.out.size));have HC2:=Lib.hid (Kd.C_below HC.out hbl);have HG2 : Hid (w1.heap.size < wl.heap.size):=Lib.hid (Nat.lt_of_lt_of_le HG.out hbl.size);have hcell:=C_cell HC2.out i hp;clear hbl) | (at_builtin;refine Kd.R_append (Kd.int .u8) (w0:=w) w.heap.size rfl (.tmp 47) (.tmp 52) 23 5 (.int .u8 0) 1 rfl Tryd.underlying23 infoU8 rfl (by decide) (by omega) _ p (rd (bytesOf a0) (i : Int)) [.int .u8 (rd (bytesOf a0) (i : Int))] (fun k => k ≠ w1.heap.size) (fun _ => False) rfl rfl ?aP (fun _ hk => hk.elim) ?aF ?aO ?aB ?aS ?aL ?_;(case aP => exact rfl);(case aF => exact fun k hk => by have:=HG2.out;omega);(case aO => exact HO1.out);(case aB => exact HW2.out);(case aS => exact HW2.out.size);(case aL => have:=HL.out;omega);intro v1 wA ho1 hb1 hg1 hat1;obtain ⟨g1,cA,ev1, -, -, -, -⟩:=Kd.R_form ho1 (by simp);rw [show (p ++ [rd (bytesOf a0) (i : Int)]).length = p.length + 1 by simp] at ev1;subst ev1;have HO3:=Lib.hid ho1;have HCP:=Lib.hid (R_readsC ho1).1;have HLC:=Lib.hid (R_readsC ho1).2;have HW3:=Lib.hid hb1;have HC3:=Lib.hid (C_kept HC2.out hg1 HG2.out (fun k hk => (HO1.out.1 k hk)));have HG3 : Hid (w1.heap.size < wA.heap.size):=Lib.hid (Nat.lt_of_lt_of_le HG2.out hg1.size);clear ho1 hb1 hg1 hat1) | (go_at_call 66;refine (l1walk_due (i:=(i : Int) + 1) HC3.out HCC.out _ HD.out).mono ?_;rintro e w' ⟨rfl,⟨nd,rfl⟩⟩))
       go_roundw
       case rel => exact ⟨kj,i + 1,_,cl,false,rfl,rfl,by go_num,hp,⟨HN.out⟩,⟨by have:=HL.out;simp;omega⟩,⟨Kd.R_below HO3.out (by repeat (first | exact Below.refl _ _ | apply pw_below_drewN | apply below_drew))⟩,⟨by repeat (first | exact HW3.out | apply pw_below_drewN | apply below_drew)⟩,⟨Kd.C_below HC3.out (by repeat (first | exact Below.refl _ _ | apply pw_below_drewN | apply below_drew))⟩,⟨HG3.out⟩⟩
       case measure => simp [intOf];omega
      | low hd x hx hl hn =>
       have HD:=Lib.hid (show spec_l1due.f (bytesOf a0) ((i : Int) + 1) = some _ from hd)
       have HN:=Lib.hid hn
       have HX:=Lib.hid hx
       have hlb : decide (x ≤ 10) = true:=decide_eq_true hl
       clear hd hn hx hl
       go_wp2_with (first | (go_at_call 65;refine (spec_l1look.calls kj A5 c5 p _ cl _ (Kd.R_reads' HO.out).2.2 (Kd.R_reads' HO.out).2.1 HCL.out).mono ?_;rintro e wl ⟨rfl,hbl⟩;have HO1:=Lib.hid (Kd.R_below HO.out hbl);have HW2:=Lib.hid (HW.out.trans (hbl.mono HW.out.size));have HC2:=Lib.hid (Kd.C_below HC.out hbl);have HG2 : Hid (w1.heap.size < wl.heap.size):=Lib.hid (Nat.lt_of_lt_of_le HG.out hbl.size);have hcell:=C_cell HC2.out i hp;clear hbl) | (at_builtin;refine Kd.R_append (Kd.int .u8) (w0:=w) w.heap.size rfl (.tmp 47) (.tmp 52) 23 5 (.int .u8 0) 1 rfl Tryd.underlying23 infoU8 rfl (by decide) (by omega) _ p (rd (bytesOf a0) (i : Int)) [.int .u8 (rd (bytesOf a0) (i : Int))] (fun k => k ≠ w1.heap.size) (fun _ => False) rfl rfl ?aP (fun _ hk => hk.elim) ?aF ?aO ?aB ?aS ?aL ?_;(case aP => exact rfl);(case aF => exact fun k hk => by have:=HG2.out;omega);(case aO => exact HO1.out);(case aB => exact HW2.out);(case aS => exact HW2.out.size);(case aL => have:=HL.out;omega);intro v1 wA ho1 hb1 hg1 hat1;obtain ⟨g1,cA,ev1, -, -, -, -⟩:=Kd.R_form ho1 (by simp);rw [show (p ++ [rd (bytesOf a0) (i : Int)]).length = p.length + 1 by simp] at ev1;subst ev1;have HO3:=Lib.hid ho1;have HCP:=Lib.hid (R_readsC ho1).1;have HLC:=Lib.hid (R_readsC ho1).2;have HW3:=Lib.hid hb1;have HC3:=Lib.hid (C_kept HC2.out hg1 HG2.out (fun k hk => (HO1.out.1 k hk)));have HG3 : Hid (w1.heap.size < wA.heap.size):=Lib.hid (Nat.lt_of_lt_of_le HG2.out hg1.size);clear ho1 hb1 hg1 hat1) | (go_at_call 66;refine (l1walk_due (i:=(i : Int) + 1) HC3.out HCC.out _ HD.out).mono ?_;rintro e w' ⟨rfl,⟨nd,rfl⟩⟩) | (go_at_call 46;refine (l1walk_field (k:=kj) (p:=p ++ [rd (bytesOf a0) (i : Int)]) (Kd.C_below HCP.out (by repeat (first | exact Below.refl _ _ | apply pw_below_drewN | apply below_drew))) HLC.out HX.out).mono ?_;rintro e w' ⟨rfl,⟨nf,rfl⟩⟩))
       go_roundw
       case rel => exact ⟨kj,i + 1,_,cl,true,rfl,rfl,by go_num,hp,⟨HN.out⟩,⟨by have:=HL.out;simp;omega⟩,⟨Kd.R_below HO3.out (by repeat (first | exact Below.refl _ _ | apply pw_below_drewN | apply below_drew))⟩,⟨by repeat (first | exact HW3.out | apply pw_below_drewN | apply below_drew)⟩,⟨Kd.C_below HC3.out (by repeat (first | exact Below.refl _ _ | apply pw_below_drewN | apply below_drew))⟩,⟨HG3.out⟩⟩
       case measure => simp [intOf];omega
      | high hd x hx hl hn =>
       have HD:=Lib.hid (show spec_l1due.f (bytesOf a0) ((i : Int) + 1) = some _ from hd)
       have HN:=Lib.hid hn
       have HX:=Lib.hid hx
       have hlb : decide (x ≤ 10) = false:=decide_eq_false hl
       clear hd hn hx hl
       go_wp2_with (first | (go_at_call 65;refine (spec_l1look.calls kj A5 c5 p _ cl _ (Kd.R_reads' HO.out).2.2 (Kd.R_reads' HO.out).2.1 HCL.out).mono ?_;rintro e wl ⟨rfl,hbl⟩;have HO1:=Lib.hid (Kd.R_below HO.out hbl);have HW2:=Lib.hid (HW.out.trans (hbl.mono HW.out.size));have HC2:=Lib.hid (Kd.C_below HC.out hbl);have HG2 : Hid (w1.heap.size < wl.heap.size):=Lib.hid (Nat.lt_of_lt_of_le HG.out hbl.size);have hcell:=C_cell HC2.out i hp;clear hbl) | (at_builtin;refine Kd.R_append (Kd.int .u8) (w0:=w) w.heap.size rfl (.tmp 47) (.tmp 52) 23 5 (.int .u8 0) 1 rfl Tryd.underlying23 infoU8 rfl (by decide) (by omega) _ p (rd (bytesOf a0) (i : Int)) [.int .u8 (rd (bytesOf a0) (i : Int))] (fun k => k ≠ w1.heap.size) (fun _ => False) rfl rfl ?aP (fun _ hk => hk.elim) ?aF ?aO ?aB ?aS ?aL ?_;(case aP => exact rfl);(case aF => exact fun k hk => by have:=HG2.out;omega);(case aO => exact HO1.out);(case aB => exact HW2.out);(case aS => exact HW2.out.size);(case aL => have:=HL.out;omega);intro v1 wA ho1 hb1 hg1 hat1;obtain ⟨g1,cA,ev1, -, -, -, -⟩:=Kd.R_form ho1 (by simp);rw [show (p ++ [rd (bytesOf a0) (i : Int)]).length = p.length + 1 by simp] at ev1;subst ev1;have HO3:=Lib.hid ho1;have HCP:=Lib.hid (R_readsC ho1).1;have HLC:=Lib.hid (R_readsC ho1).2;have HW3:=Lib.hid hb1;have HC3:=Lib.hid (C_kept HC2.out hg1 HG2.out (fun k hk => (HO1.out.1 k hk)));have HG3 : Hid (w1.heap.size < wA.heap.size):=Lib.hid (Nat.lt_of_lt_of_le HG2.out hg1.size);clear ho1 hb1 hg1 hat1) | (go_at_call 66;refine (l1walk_due (i:=(i : Int) + 1) HC3.out HCC.out _ HD.out).mono ?_;rintro e w' ⟨rfl,⟨nd,rfl⟩⟩) | (go_at_call 46;refine (l1walk_field (k:=kj) (p:=p ++ [rd (bytesOf a0) (i : Int)]) (Kd.C_below HCP.out (by repeat (first | exact Below.refl _ _ | apply pw_below_drewN | apply below_drew))) HLC.out HX.out).mono ?_;rintro e w' ⟨rfl,⟨nf,rfl⟩⟩))
       go_roundw
       case rel => exact ⟨kj,i + 1,_,cl,(x == 11),rfl,rfl,by go_num,hp,⟨HN.out⟩,⟨by have:=HL.out;simp;omega⟩,⟨Kd.R_below HO3.out (by repeat (first | exact Below.refl _ _ | apply pw_below_drewN | apply below_drew))⟩,⟨by repeat (first | exact HW3.out | apply pw_below_drewN | apply below_drew)⟩,⟨Kd.C_below HC3.out (by repeat (first | exact Below.refl _ _ | apply pw_below_drewN | apply below_drew))⟩,⟨HG3.out⟩⟩
       case measure => simp [intOf];omega
   ·rw [if_neg (by rw [bytesOf_length];exact hp)] at H
    simp only [Option.some.injEq,Prod.mk.injEq] at H
    obtain ⟨rfl,rfl,rfl⟩:=H
    go_wp2_with (fail)
    go_ret3
    exact ⟨_,rfl,Kd.R_mono HO.out (fun _ _ => trivial),HW.out⟩
theorem spec_l1walk.calls (k : Nat) (a0 : ByteArray) (r1 : Int) (r2 : List Int) (r3 : Bool) (w : World) (h : spec_l1walk.f k a0 = some (r1,r2,r3)) :
  Calls Tryd.prog 45 #[.string a0] w fun e w' => ∃ v2_ : Value,e = .returned (.tuple #[.int .i64 r1,v2_, .bool r3]) ∧ Kd.R (Kd.int .u8) 5 w' w.heap.size (fun _ => True) v2_ r2 ∧ Below w.heap.size w w':=by
 unfold spec_l1walk.f at h
 by_cases c : a0.size ≤ 4000 ∧ isBits a0 = true
 ·rw [if_pos c] at h
  exact spec_l1walk.yes k a0 r1 r2 r3 w c.1 c.2 h
 ·rw [if_neg c] at h
  simp only [Option.some.injEq,Prod.mk.injEq] at h
  obtain ⟨rfl,rfl,rfl⟩:=h
  have hbt : Hid ((decide (a0.size ≤ 4000) && isBits a0) = false):=by
   refine Lib.hid ?_
   rw [Bool.and_eq_false_iff]
   by_cases h : isBits a0 = true
   ·exact .inl (decide_eq_false fun h2 => c ⟨h2,h⟩)
   ·exact .inr (by simpa using h)
  clear c
  go_enter Tryd.func45,Tryd.ntmps45
  go_wp2_with (go_at_call 64;refine (l1walk_okBits a0 _ false hbt.out).mono ?_;rintro e w1 ⟨rfl,hb1⟩;have HB1:=Lib.hid hb1;clear hb1)
  go_ret3
  exact ⟨_,rfl,Kd.R_mono (Kd.R_below (R_empty (Kd.int .u8) w 5 w.heap.size (Nat.le_refl _) (fun _ => True) trivial) HB1.out) (fun _ _ => trivial),Below.trans ((Below.refl _ _).alloc (Nat.le_refl _) _) (HB1.out.mono (by simp))⟩
end Go.Proofs.YtdoclpgciadjaaaDoor.P
namespace Go.Proofs.YtdoclpgciadjaaaDoor.P
open Go Go.RowKit Go.Proofs.YtdoclpgciadjaaaDoorW.PrintWords
set_option linter.unusedVariables false
theorem due_total (l : List Int) (n : Nat) (hn : n ≤ l.length) (hl : l.length < 100000000) : ∃ b,spec_l1due.f l (n : Int) = some b:=by
 unfold spec_l1due.f
 by_cases c : n < 5
 ·rw [if_pos (by omega)];exact ⟨_,rfl⟩
 ·have w1 : wrap64 ((n : Int) - 1) = ((n - 1 : Nat) : Int):=by unfold wrap64;omega
  have w2 : wrap64 ((n : Int) - 2) = ((n - 2 : Nat) : Int):=by unfold wrap64;omega
  have w3 : wrap64 ((n : Int) - 3) = ((n - 3 : Nat) : Int):=by unfold wrap64;omega
  have w4 : wrap64 ((n : Int) - 4) = ((n - 4 : Nat) : Int):=by unfold wrap64;omega
  have w5 : wrap64 ((n : Int) - 5) = ((n - 5 : Nat) : Int):=by unfold wrap64;omega
  rw [if_neg (by omega),w1,w2,w3,w4,w5,if_pos (by omega),if_pos (by omega),if_pos (by omega),if_pos (by omega)]
  by_cases a1 : rd l ((n - 1 : Nat) : Int) = rd l ((n - 2 : Nat) : Int)
  ·rw [if_pos a1,if_pos (by omega),if_pos (by omega)]
   by_cases a2 : rd l ((n - 2 : Nat) : Int) = rd l ((n - 3 : Nat) : Int)
   ·rw [if_pos a2,if_pos (by omega),if_pos (by omega)]
    by_cases a3 : rd l ((n - 3 : Nat) : Int) = rd l ((n - 4 : Nat) : Int)
    ·rw [if_pos a3,if_pos (by omega),if_pos (by omega)];exact ⟨_,rfl⟩
    ·rw [if_neg a3];exact ⟨_,rfl⟩
   ·rw [if_neg a2];exact ⟨_,rfl⟩
  ·rw [if_neg a1];exact ⟨_,rfl⟩
theorem tail_total {all p : List Int} {i : Nat} {x : Int} (hi : i < all.length) (hl : all.length < 100000000) (hf : Ev (fun k => spec_l1field.f k p) x) : ∃ b, ∀ (g : Nat → Bool → Option (Int × List Int × Bool)) (R : Int × List Int × Bool),Ev (fun k => g k b) R → Ev (fun k => spec_l1walk.tail k all p i (g k)) R:=by
 obtain ⟨d,hd⟩:=due_total all (i + 1) (by omega) hl
 cases d with
 | false => exact ⟨false,fun g R h => ev_some hd (ev_neg (by decide) h)⟩
 | true =>
  by_cases c : x ≤ 10
  ·exact ⟨true,fun g R h => ev_some hd (ev_pos rfl (Ev.bind hf (ev_pos c h)))⟩
  ·exact ⟨x == 11,fun g R h => ev_some hd (ev_pos rfl (Ev.bind hf (ev_neg c h)))⟩
theorem tail_at {all p : List Int} {i : Nat} {t : WS} (h : At all (i + 1) t p) (hi : i < all.length) (hl : all.length < 100000000) (g : Nat → Bool → Option (Int × List Int × Bool)) (R : Int × List Int × Bool) (hg : Ev (fun k => g k (dueW t)) R) : Ev (fun k => spec_l1walk.tail k all p i (g k)) R:=by
 have hf : Ev (fun k => spec_l1field.f k p) t.field:=field_ev h.ph h.bits
 by_cases c11 : t.field ≤ 11
 ·obtain ⟨run,last,ht,hrun, -⟩:=h.trail c11
  have r1:=h.r1
  have hd:=due_eq ht (by omega) (by omega)
  by_cases h5 : run = 5
  ·rw [decide_eq_true h5] at hd
   have hdw : dueW t = true:=by unfold dueW;rw [show (t.run == 5) = true by simp;omega,decide_eq_true c11];rfl
   rw [hdw] at hg
   refine ev_some hd (ev_pos rfl (Ev.bind hf ?_))
   by_cases c : t.field ≤ 10
   ·exact ev_pos c hg
   ·refine ev_neg c ?_
    rw [show (t.field == 11) = true by simp;omega]
    exact hg
  ·rw [decide_eq_false h5] at hd
   have hdw : dueW t = false:=by unfold dueW;rw [show (t.run == 5) = false by simp;omega];rfl
   rw [hdw] at hg
   exact ev_some hd (ev_neg (by decide) hg)
 ·have hdw : dueW t = false:=by unfold dueW;rw [decide_eq_false c11,Bool.and_false]
  rw [hdw] at hg
  obtain ⟨d,hd⟩:=due_total all (i + 1) (by omega) hl
  cases d with
  | false => exact ev_some hd (ev_neg (by decide) hg)
  | true =>
   refine ev_some hd (ev_pos rfl (Ev.bind hf (ev_neg (by omega) ?_)))
   rw [show (t.field == 11) = false by simp;omega]
   exact hg
theorem field_next {p : List Int} {s : WS} (h : Ph p (core s) s.sum) (hp : Bits p) (b : Int) (hb : b = 48 ∨ b = 49) : ∃ x,Ev (fun k => spec_l1field.f k (p ++ [b])) x:=by
 by_cases hend : s.field = 14 ∧ s.left = 1
 ·generalize hg : core s = cc at h
  generalize hm : s.sum = mm at h
  cases h with
  | eof H D X C T e r i h d x c t3 t =>
   have hD : Bits D:=bits_len hp D (fun x hx => by simp [hx])
   have hr:=dataB_range (r:=r) (V_range hD).1
   have:=field_full (R:=X ++ C ++ T ++ [b]) h d hD (by simp;omega)
   rw [show H ++ D ++ (X ++ C ++ T ++ [b]) = H ++ D ++ X ++ C ++ T ++ [b] by simp] at this
   exact ⟨_,this⟩
  | del H D X C T e r i h d x c t => exfalso;have:=(core_is hg hm).f;omega
  | _ => exfalso;have:=(core_is hg hm).f;omega
 ·obtain ⟨c',m',hP, -, -⟩:=ph_step h s rfl rfl b hb hp hend
  exact ⟨_,field_ev hP (hp.append (fun x hx => by rw [List.mem_singleton] at hx;rw [hx];exact hb))⟩
structure DecAt (p : List Int) (t : WS) (H D X R : List Int) (e r : Bool) (i : Int) : Prop where
 eq : p = H ++ D ++ X ++ R
 hd : Hd H e r i
 dl : D.length = 4
 xl : (X.length : Int) = 8 * dataB r (V D)
 bits : Bits p
 te : t.ext = e
 ti : t.id = i
 tr : t.rtr = r
 td : t.dlc = V D
 tx : t.data = bytesB X
theorem codeL_one {s : WS} {b : Int} (h : codeL s b = 1) : s.field = 14 ∧ s.left = 2:=by
 unfold codeL at h
 (repeat' split at h) <;> first | omega | (constructor <;> omega)
theorem codeL_two {s : WS} {b : Int} (h : codeL s b = 2) : s.field = 14 ∧ s.left = 1:=by
 unfold codeL at h
 (repeat' split at h) <;> first | omega | (constructor <;> omega)
theorem hear14 {s : WS} (hf : s.field = 14) (c : Int) : ∃ cd,hearW s c = nextW { s with code:=cd,run:=0 }:=by
 have hd0 : ¬ dueW { s with code:=0 } = true:=by unfold dueW;rw [decide_eq_false (by show ¬ s.field ≤ 11;omega),Bool.and_false];decide
 have e : hearW s c = plainW { s with code:=0,run:=0 } (c - 48):=by
  unfold hearW
  simp only []
  rw [if_neg hd0,if_neg (by omega)]
 rw [e]
 unfold plainW
 have e1 : sumW { s with code:=0,run:=0 } (c - 48) = { s with code:=0,run:=0 }:=by unfold sumW;rw [if_neg (by show ¬ s.field ≤ 9;omega)]
 rw [e1]
 have e2 : takeW { s with code:=0,run:=0 } (c - 48) = endW { s with code:=0,run:=0 } (c - 48):=by
  unfold takeW
  rw [if_neg (by show ¬ s.field = 1;omega),if_neg (by show ¬ (s.field = 2 ∨ s.field = 5);omega),if_neg (by show ¬ (s.field = 3 ∨ s.field = 6);omega),if_neg (by show ¬ s.field = 4;omega),if_neg (by show ¬ s.field = 8;omega),if_neg (by show ¬ s.field = 9;omega),if_neg (by show ¬ s.field = 10;omega),if_neg (by show ¬ s.field = 11;omega),if_neg (by show ¬ s.field = 13;omega),if_pos hf]
 rw [e2]
 unfold endW
 (repeat' split) <;> exact ⟨_,rfl⟩
theorem hear14_field {s : WS} (hf : s.field = 14) (hl : s.left = 2) (c : Int) : (hearW s c).field = 14:=by
 obtain ⟨cd,e⟩:=hear14 hf c
 rw [e,nextW_eq]
 show (nextP { s with code:=cd,run:=0 }).1 = 14
 unfold nextP
 rw [if_pos (by show s.left - 1 > 0;omega)]
 exact hf
theorem hear14_keep {s : WS} (hf : s.field = 14) (c : Int) : (hearW s c).ext = s.ext ∧ (hearW s c).id = s.id ∧ (hearW s c).rtr = s.rtr ∧ (hearW s c).dlc = s.dlc ∧ (hearW s c).data = s.data:=by
 obtain ⟨cd,e⟩:=hear14 hf c
 rw [e,nextW_eq]
 exact ⟨rfl,rfl,rfl,rfl,rfl⟩
theorem dec_of_ph {p : List Int} {s : WS} (h : Ph p (core s) s.sum) (hp : Bits p) (hf : s.field = 14) : ∃ H D X R e r i,DecAt p s H D X R e r i:=by
 generalize hg : core s = cc at h
 generalize hm : s.sum = mm at h
 cases h with
 | eof H D X C T e r i h d x c t3 t =>
  have K:=core_is hg hm
  exact ⟨H,D,X,C ++ T,e,r,i,by rw [← List.append_assoc],h,d,x,hp,K.e,K.i,K.r,K.d,K.x⟩
 | del H D X C T e r i h d x c t => exfalso;have:=(core_is hg hm).f;omega
 | _ => exfalso;have:=(core_is hg hm).f;omega
theorem dec_whole {p : List Int} {s : WS} (h : Ph p (core s) s.sum) (hp : Bits p) (hf : s.field = 14) (c : Int) (hc : c = 48 ∨ c = 49) : ∃ H D X R e r i,DecAt (p ++ [c]) (hearW s c) H D X R e r i:=by
 obtain ⟨H,D,X,R,e,r,i,K⟩:=dec_of_ph h hp hf
 obtain ⟨k1,k2,k3,k4,k5⟩:=hear14_keep hf c
 exact ⟨H,D,X,R ++ [c],e,r,i,by rw [K.eq, ← List.append_assoc],K.hd,K.dl,K.xl,hp.append (fun x hx => by rw [List.mem_singleton] at hx;rw [hx];exact hc),k1.trans K.te,k2.trans K.ti,k3.trans K.tr,k4.trans K.td,k5.trans K.tx⟩
structure SpecEnd (all : List Int) (t : WS) (R : Int × List Int × Bool) : Prop where
 code : R.1 = t.code
 live : t.code = 0 ∨ t.code = 1 → At all all.length t R.2.1 ∧ R.2.2 = dueW t
 dec : t.code = 1 ∨ t.code = 2 → ∃ H D X Z e r i,DecAt R.2.1 t H D X Z e r i
 len : R.2.1.length ≤ 4000
theorem specwalk_loop (all : List Int) (hb : Bits all) (hl : all.length ≤ 4000) : ∀ (d i : Nat) (s : WS) (p : List Int),i + d = all.length → At all i s p → (s.code = 1 → s.field = 14) → ∃ R,Ev (fun k => spec_l1walk.l0 k all s.code p (dueW s) i) R ∧ SpecEnd all (walkG (all.drop i) s) R:=by
 intro d
 induction d with
 | zero =>
  intro i s p hi h hv
  refine ⟨(s.code,p,dueW s),Ev.step (f:=fun _ => some (s.code,p,dueW s)) (fun k => ?_) (Ev.now _), ?_⟩
  ·rw [spec_l1walk.l0,if_neg (by omega)]
  ·rw [List.drop_eq_nil_of_le (by omega)]
   obtain rfl : i = all.length:=by omega
   refine ⟨rfl,fun _ => ⟨h,rfl⟩,fun hc => ?_,Nat.le_trans h.len hl⟩
   rw [walkG] at hc ⊢
   have:=h.code
   exact dec_of_ph h.ph h.bits (hv (by omega))
 | succ d ih =>
  intro i s p hi h hv
  have his : i < all.length:=by omega
  have hc : rd all (i : Int) = 48 ∨ rd all (i : Int) = 49:=hb _ (by have:=rd_get all i his;exact List.mem_of_getElem? this)
  have hdrop : all.drop i = rd all (i : Int) :: all.drop (i + 1):=by
   rw [List.drop_eq_getElem_cons his]
   congr 1
   have:=rd_get all i his
   rw [List.getElem?_eq_getElem his] at this
   exact Option.some.inj this
  have hcode:=h.code
  have hrun : ¬ (s.code ≠ 0 ∧ s.code ≠ 1):=by omega
  have stop : ∀ (c' : Int) (p' : List Int) (x : Int), ¬ (c' = 0 ∨ c' = 1) → Ev (fun k => spec_l1field.f k p') x → (hearW s (rd all (i : Int))).code = c' → (c' = 2 → ∃ H D X Z e r m,DecAt p' (hearW s (rd all (i : Int))) H D X Z e r m) → p'.length ≤ i + 1 → ∃ b R,(∀ R',Ev (fun k => spec_l1walk.l0 k all c' p' b (i + 1)) R' → Ev (fun k => spec_l1walk.tail k all p' i (fun d => spec_l1walk.l0 k all c' p' d (i + 1))) R') ∧ Ev (fun k => spec_l1walk.l0 k all c' p' b (i + 1)) R ∧ SpecEnd all (walkG (all.drop i) s) R:=by
   intro c' p' x hne hf hcd hdec hpl
   obtain ⟨b,hbt⟩:=tail_total his (by omega) hf
   have hw : walkG (all.drop i) s = if all.drop (i + 1) = [] then hearW s (rd all (i : Int)) else { hearW s (rd all (i : Int)) with code:=7 }:=by
    rw [hdrop,walkG,if_neg (by rw [hcd];exact hne)]
   by_cases hlast : i + 1 < all.length
   ·refine ⟨b,(7,p',false),fun R' hR' => hbt (fun k d => spec_l1walk.l0 k all c' p' d (i + 1)) R' hR',Ev.step (f:=fun _ => some (7,p',false)) (fun k => ?_) (Ev.now _), ?_⟩
    ·rw [spec_l1walk.l0,if_pos hlast,if_pos (by omega)]
    ·rw [hw,if_neg (by intro h2;have:=congrArg List.length h2;simp at this;omega)]
     exact ⟨rfl,fun h2 => by simp only [] at h2;omega,fun h2 => by simp only [] at h2;omega,by simp only [];omega⟩
   ·refine ⟨b,(c',p',b),fun R' hR' => hbt (fun k d => spec_l1walk.l0 k all c' p' d (i + 1)) R' hR',Ev.step (f:=fun _ => some (c',p',b)) (fun k => ?_) (Ev.now _), ?_⟩
    ·rw [spec_l1walk.l0,if_neg hlast]
    ·rw [hw,if_pos (List.drop_eq_nil_of_le (by omega))]
     exact ⟨hcd.symm,fun h2 => absurd (hcd ▸ h2) hne,fun h2 => hdec (by rw [← hcd];omega),by simp only [];omega⟩
  have hfp : Ev (fun k => spec_l1field.f k p) s.field:=field_ev h.ph h.bits
  cases at_step h his hb with
  | stop hd hlv hcd =>
   have hf11 : s.field ≤ 11:=by unfold dueW at hd;simp only [Bool.and_eq_true,decide_eq_true_eq] at hd;exact hd.2
   obtain ⟨run,last,ht,hr,hlev⟩:=h.trail hf11
   have h5 : run = 5:=by unfold dueW at hd;simp only [Bool.and_eq_true,beq_iff_eq] at hd;omega
   have hri:=ht.run_le
   obtain ⟨b,R,hbt,hR,hS⟩:=stop 3 p s.field (by omega) hfp hcd (by omega) (by have:=h.len;omega)
   refine ⟨R,Ev.step (f:=fun k => spec_l1walk.tail k all p i (fun d => spec_l1walk.l0 k all 3 p d (i + 1))) (fun k => ?_) (hbt R hR),hS⟩
   rw [spec_l1walk.l0,if_pos his,if_neg hrun,if_pos hd,if_pos (by omega),if_pos (by rw [hlv,hlev (by omega)];exact (ht.same (i - 1) (by omega) (by omega)).symm)]
  | skip hd hlv hcd ha =>
   have hf11 : s.field ≤ 11:=by unfold dueW at hd;simp only [Bool.and_eq_true,decide_eq_true_eq] at hd;exact hd.2
   obtain ⟨run,last,ht,hr,hlev⟩:=h.trail hf11
   have h5 : run = 5:=by unfold dueW at hd;simp only [Bool.and_eq_true,beq_iff_eq] at hd;omega
   have hri:=ht.run_le
   obtain ⟨R,hR,hS⟩:=ih (i + 1) _ p (by omega) ha (fun h1 => by omega)
   rw [hcd] at hR
   refine ⟨R,Ev.step (f:=fun k => spec_l1walk.tail k all p i (fun d => spec_l1walk.l0 k all 0 p d (i + 1))) (fun k => ?_) (tail_at ha his (by omega) (fun k d => spec_l1walk.l0 k all 0 p d (i + 1)) R hR), ?_⟩
   ·rw [spec_l1walk.l0,if_pos his,if_neg hrun,if_pos hd,if_pos (by omega),if_neg (by rw [ht.same (i - 1) (by omega) (by omega), ← hlev (by omega)];exact hlv)]
   ·rw [hdrop,walkG,if_pos (.inl hcd)];exact hS
  | take hd hcd ha =>
   have hlook:=look_ev h.ph h.bits s rfl rfl _ hc
   rw [← hcd] at hlook
   by_cases hrn : (hearW s (rd all (i : Int))).code = 0 ∨ (hearW s (rd all (i : Int))).code = 1
   ·have hat:=ha hrn
    obtain ⟨R,hR,hS⟩:=ih (i + 1) _ _ (by omega) hat (fun h1 => by obtain ⟨q1,q2⟩:=codeL_one (hcd.symm.trans h1);exact hear14_field q1 q2 _)
    refine ⟨R,Ev.step (f:=fun k => (spec_l1look.f k p (rd all (i : Int))).bind fun c => spec_l1walk.tail k all (p ++ [rd all (i : Int)]) i (fun d => spec_l1walk.l0 k all c (p ++ [rd all (i : Int)]) d (i + 1))) (fun k => ?_) (Ev.bind hlook (tail_at hat his (by omega) (fun k d => spec_l1walk.l0 k all (hearW s (rd all (i : Int))).code (p ++ [rd all (i : Int)]) d (i + 1)) R hR)), ?_⟩
    ·rw [spec_l1walk.l0,if_pos his,if_neg hrun,if_neg (by rw [hd];decide)]
    ·rw [hdrop,walkG,if_pos hrn];exact hS
   ·obtain ⟨x,hx⟩:=field_next h.ph h.bits (rd all (i : Int)) hc
    obtain ⟨b,R,hbt,hR,hS⟩:=stop _ (p ++ [rd all (i : Int)]) x hrn hx rfl (fun h2 => by obtain ⟨q1,q2⟩:=codeL_two (hcd.symm.trans h2);exact dec_whole h.ph h.bits q1 _ hc) (by rw [List.length_append,List.length_singleton];have:=h.len;omega)
    refine ⟨R,Ev.step (f:=fun k => (spec_l1look.f k p (rd all (i : Int))).bind fun c => spec_l1walk.tail k all (p ++ [rd all (i : Int)]) i (fun d => spec_l1walk.l0 k all c (p ++ [rd all (i : Int)]) d (i + 1))) (fun k => ?_) (Ev.bind hlook (hbt R hR)),hS⟩
    rw [spec_l1walk.l0,if_pos his,if_neg hrun,if_neg (by rw [hd];decide)]
theorem specwalk_ev (a0 : ByteArray) : ∃ R,Ev (fun k => spec_l1walk.f k a0) R ∧ SpecEnd (bytesOf a0) (walkV a0) R:=by
 unfold spec_l1walk.f walkV
 by_cases c : a0.size ≤ 4000 ∧ isBits a0 = true
 ·obtain ⟨R,hR,hS⟩:=specwalk_loop (bytesOf a0) (bits_of_isBits c.2) (by rw [bytesOf_length];exact c.1) (bytesOf a0).length 0 startW [] (by omega) (At.start _) (fun h => by simp [startW] at h)
  refine ⟨R,ev_pos c hR, ?_⟩
  rw [if_pos c]
  exact hS
 ·refine ⟨(8, [],false),ev_neg c (Ev.now _), ?_⟩
  rw [if_neg c]
  exact ⟨rfl,fun h => by simp only [] at h;omega,fun h => by simp only [] at h;omega,by simp⟩
end Go.Proofs.YtdoclpgciadjaaaDoor.P
namespace Go.Proofs.YtdoclpgciadjaaaDoor.P
open Go.RowKit Go.Proofs.YtdoclpgciadjaaaDoorW.PrintWords Go.Proofs.YtdoclpgciadjaaaDoorW.PrintLast Go.Proofs.YtdoclpgciadjaaaDoorW.PrintMore
set_option linter.unusedVariables false
set_option linter.unusedSimpArgs false
def spec_Judge.j0 : Nat → Int → List Int → Bool → Bool → Option (Int × Int × Bool × Bool)
 | 0,_,_,_,_ => none
 | k + 1,x3,x4,x5,x17 => if x17 = true then (some (x3,0,false,false)) else ((spec_l1field.f k x4).bind fun t268 => ((spec_l1crcOk.f k x4).bind fun t269 => (some (x3,t268,x5,t269))))
def spec_Judge.f (k : Nat) (a0 : ByteArray) : Option (Int × Int × Bool × Bool):=(spec_l1walk.f k a0).bind fun bt263 => (if bt263.1 = 0 then (spec_Judge.j0 k bt263.1 bt263.2.1 bt263.2.2 false) else (spec_Judge.j0 k bt263.1 bt263.2.1 bt263.2.2 (bt263.1 != 1)))
set_option maxHeartbeats 8000000 in
set_option maxRecDepth 100000 in
theorem spec_Judge.calls (k : Nat) (a0 : ByteArray) (r1 : Int) (r2 : Int) (r3 : Bool) (r4 : Bool) (w : World) (h : spec_Judge.f k a0 = some (r1,r2,r3,r4)) :
  Calls Tryd.prog 14 #[.string a0] w fun e w' => e = .returned (.agg #[.int .i64 r1, .int .i64 r2, .bool r3, .bool r4]) ∧ Below w.heap.size w w':=by
 have hu40:=Tryd.underlying40
 have HB:=Aside0.mk (Below.refl w.heap.size w)
 have H : ((spec_l1walk.f k a0).bind fun bt263 => (if bt263.1 = 0 then (spec_Judge.j0 k bt263.1 bt263.2.1 bt263.2.2 false) else (spec_Judge.j0 k bt263.1 bt263.2.1 bt263.2.2 (bt263.1 != 1)))) = some (r1,r2,r3,r4):=h
 clear h
 replace H:=Option.bind_eq_some_iff.mp H
 obtain ⟨⟨t263,t264,t265⟩,A20,H⟩:=H
 replace H : (if t263 = 0 then (spec_Judge.j0 k t263 t264 t265 false) else (spec_Judge.j0 k t263 t264 t265 (t263 != 1))) = some (r1,r2,r3,r4):=H
 have A2:=Aside0.mk A20
 clear A20
 have HC3:=Aside0.mk H
 clear H
 go_enter Tryd.func14,Tryd.ntmps14
 go_upto_region 2 with (first | ((with_reducible refine gate_dst (N:=2) rfl ?_);refine box_event ?hg (N:=2) ?hd (cs := #[.int .i64 0, .int .i64 0, .bool false, .bool false]) (t:=40) ?hr ?_;(case hd => rfl);(case hg => rfl);(case hr => first | (go_simp;done) | (go_simp;rfl));intro gb262 hg w4 hbox hb;have n0_:=Aside0.mk (below_step (by repeat (first | (with_reducible first | exact HB.out | apply below_alloc | apply pw_below_drewN | apply below_drew1) | exact HB.out)) hb);have n1_:=Aside0.mk (hbox);have n2_:=Aside0.mk ((by rw [hg];exact (below_size (by repeat (first | (with_reducible first | exact HB.out | apply below_alloc | apply pw_below_drewN | apply below_drew1) | exact HB.out))) : w.heap.size ≤ gb262));have n3_:=Aside0.mk ((by rw [hg];exact (below_size (by repeat (first | (with_reducible first | exact HB.out | apply below_alloc | apply pw_below_drewN | apply below_drew1) | exact HB.out))) : w.heap.size ≤ gb262));clear HB;have HB:=n0_;have BK262:=n1_;have GW262:=n2_;have GE262:=n3_;clear n0_ n1_ n2_ n3_;clear hb hbox hg) | ((with_reducible refine gate_callee (f:=45) rfl ?_);refine goesL_ (some 8) rfl rfl Tryd.func45 (by kernel_rfl) rfl #[.string a0] rfl (by (try simp only [List.map_toArray,List.map_cons,List.map_nil]);first | done | rfl | (simp only [List.length_drop,List.length_take];rfl)) ?_;(with_reducible refine (spec_l1walk.calls k a0 t263 t264 t265 _ A2.out).mono ?_);rintro e w5 ⟨v266,rfl,ho0,hb⟩;refine ⟨_,rfl, ?_⟩;have n0_:=Aside0.mk (Kd.R_lower ho0 (below_size (by repeat (first | (with_reducible first | exact HB.out | apply below_alloc | apply pw_below_drewN | apply below_drew1 | refine below_set ?_ GE262.out) | exact HB.out))));have n1_:=Aside0.mk (blk_below (g:=gb262) (o := .cells #[.int .i64 0, .int .i64 0, .bool false, .bool false] 40 (0,0)) (by (with_reducible repeat (first | refine blk_drewN ?_ _ | refine blk_drew ?_ | refine blk_alloc ?_ _));exact BK262.out) hb);have n2_:=Aside0.mk (below_step (by repeat (first | (with_reducible first | exact HB.out | apply below_alloc | apply pw_below_drewN | apply below_drew1 | refine below_set ?_ GE262.out) | exact HB.out)) hb);clear BK262;clear HB;have HO267:=n0_;have BK262:=n1_;have HB:=n2_;clear n0_ n1_ n2_;(try clear hb);(try clear hb2);(try clear hk);(try clear hi);(try clear ho0)))
 (try simp only [Act.put,List.setIfInBounds_toArray,List.set_cons_zero,List.set_cons_succ])
 go_cut [17] (fun v17 wc => ∃ (kq : Nat) (x17_2 : Bool),v17 = .bool x17_2 ∧ Aside0 (spec_Judge.j0 kq t263 t264 t265 x17_2 = some (r1,r2,r3,r4)) ∧ Aside0 (kq ≤ k) ∧ Aside0 (Kd.R (Kd.int .u8) 5 wc w.heap.size (fun _ => True) v266 t264) ∧ Aside0 (wc.heap[gb262]? = some (.cells #[.int .i64 0, .int .i64 0, .bool false, .bool false] 40 (0,0))) ∧ Aside0 (Below w.heap.size w wc))
 case first =>
  have H:=HC3.out
  clear HC3
  by_cases c6 : t263 = 0
  ·rw [if_pos c6] at H
   have c6b0 : (t263 == 0) = true:=beq_iff_eq.mpr c6
   have c6b1 : (t263 != 0) = false:=bne_eq_false_iff_eq.mpr c6
   clear c6
   (first | rw [c6b0] | (simp only [i64_w,i32_w];rw [c6b0]) | skip)
   have H':=Aside0.mk H
   clear H
   go_wp2
   go_meet
   case rel => exact ⟨_,(false),(by first | rfl | (simp;done) | (simp [*];done)),H',⟨by first | omega | exact Nat.le_refl _⟩,⟨by (with_reducible repeat (first | apply Kd.R_alloc | apply Kd.R_drewN | apply Kd.R_drew));exact HO267.out⟩,⟨by (with_reducible repeat (first | refine blk_drewN ?_ _ | refine blk_drew ?_ | refine blk_alloc ?_ _));exact BK262.out⟩,⟨by repeat (first | (with_reducible first | exact HB.out | apply below_alloc | apply pw_below_drewN | apply below_drew1 | refine below_set ?_ GE262.out) | exact HB.out)⟩⟩
  ·rw [if_neg c6] at H
   have c6b0 : (t263 == 0) = false:=beq_eq_false_iff_ne.mpr c6
   have c6b1 : (t263 != 0) = true:=bne_iff_ne.mpr c6
   (first | rw [c6b0] | (simp only [i64_w,i32_w];rw [c6b0]) | skip)
   have H':=Aside0.mk H
   clear H
   go_wp2
   go_meet
   case rel => exact ⟨_,((t263 != 1)),(by first | rfl | (simp;done) | (simp [*];done)),H',⟨by first | omega | exact Nat.le_refl _⟩,⟨by (with_reducible repeat (first | apply Kd.R_alloc | apply Kd.R_drewN | apply Kd.R_drew));exact HO267.out⟩,⟨by (with_reducible repeat (first | refine blk_drewN ?_ _ | refine blk_drew ?_ | refine blk_alloc ?_ _));exact BK262.out⟩,⟨by repeat (first | (with_reducible first | exact HB.out | apply below_alloc | apply pw_below_drewN | apply below_drew1 | refine below_set ?_ GE262.out) | exact HB.out)⟩⟩
 case rest =>
  clear HC3
  try clear c1
  try clear p2
  try clear c4
  try clear c6
  try clear c6b0
  try clear c6b1
  obtain ⟨kq,x17_2,rfl,HA,HJ2,HO_4,BK262,HB⟩:=hcut
  cases kq with
  | zero => exact absurd HA.out (by simp [spec_Judge.j0])
  | succ kj2 =>
   have H:=HA.out
   clear HA
   simp only [spec_Judge.j0] at H
   by_cases c7 : x17_2 = true
   ·subst c7
    have H1 : (some (t263,0,false,false)) = some (r1,r2,r3,r4):=by rw [if_pos rfl] at H;exact H
    clear H
    have H:=H1
    clear H1
    simp only [Option.some.injEq,Prod.mk.injEq] at H
    obtain ⟨rfl,rfl,rfl,rfl⟩:=H
    have hcz8_0 : wc.cell? ⟨gb262,0,none⟩ = some (.int .i64 0):=(blk_cell BK262.out 0).trans rfl
    have hcz8_1 : wc.cell? ⟨gb262,1,none⟩ = some (.int .i64 0):=(blk_cell BK262.out 1).trans rfl
    have hcz8_2 : wc.cell? ⟨gb262,2,none⟩ = some (.bool false):=(blk_cell BK262.out 2).trans rfl
    have hcz8_3 : wc.cell? ⟨gb262,3,none⟩ = some (.bool false):=(blk_cell BK262.out 3).trans rfl
    have hfz8_0:=blk_frozen BK262.out 0
    have hfz8_1:=blk_frozen BK262.out 1
    have hfz8_2:=blk_frozen BK262.out 2
    have hfz8_3:=blk_frozen BK262.out 3
    go_wp2
    refine bodyPost_ret (results_cell_row rfl _ _ gb262 40 #[.int .i64 t263, .int .i64 0, .bool false, .bool false] (0,0) _ rfl (by (with_reducible repeat (first | refine blk_drewN ?_ _ | refine blk_drew ?_ | refine blk_alloc ?_ _));refine blk_put (cs := #[.int .i64 t263, .int .i64 0, .bool false, .bool false]) ?_ 3 _ rfl;(with_reducible repeat (first | refine blk_drewN ?_ _ | refine blk_drew ?_ | refine blk_alloc ?_ _));refine blk_put (cs := #[.int .i64 t263, .int .i64 0, .bool false, .bool false]) ?_ 2 _ rfl;(with_reducible repeat (first | refine blk_drewN ?_ _ | refine blk_drew ?_ | refine blk_alloc ?_ _));refine blk_put (cs := #[.int .i64 t263, .int .i64 0, .bool false, .bool false]) ?_ 1 _ rfl;(with_reducible repeat (first | refine blk_drewN ?_ _ | refine blk_drew ?_ | refine blk_alloc ?_ _));refine blk_put (cs := #[.int .i64 0, .int .i64 0, .bool false, .bool false]) ?_ 0 _ rfl;(with_reducible repeat (first | refine blk_drewN ?_ _ | refine blk_drew ?_ | refine blk_alloc ?_ _));exact BK262.out) Tryd.underlying40 rfl (by kernel_rfl)) rfl ?_
    exact ⟨by first | rfl | (simp [errW_none,errW_some] <;> rfl) | (simp [*,errW_none,errW_some] <;> rfl),by repeat (first | (with_reducible first | exact HB.out | apply below_alloc | apply pw_below_drewN | apply below_drew1 | refine below_set ?_ GE262.out) | exact HB.out)⟩
   ·replace c7:=Bool.eq_false_iff.mpr c7
    subst c7
    have H1 : ((spec_l1field.f kj2 t264).bind fun t268 => ((spec_l1crcOk.f kj2 t264).bind fun t269 => (some (t263,t268,t265,t269)))) = some (r1,r2,r3,r4):=by rw [if_neg (show ¬ (false = true) by decide)] at H;exact H
    clear H
    have H:=H1
    clear H1
    replace H:=Option.bind_eq_some_iff.mp H
    obtain ⟨t268,A90,H⟩:=H
    replace H : ((spec_l1crcOk.f kj2 t264).bind fun t269 => (some (t263,t268,t265,t269))) = some (r1,r2,r3,r4):=H
    have A9:=Aside0.mk A90
    clear A90
    replace H:=Option.bind_eq_some_iff.mp H
    obtain ⟨t269,A100,H⟩:=H
    replace H : (some (t263,t268,t265,t269)) = some (r1,r2,r3,r4):=H
    have A10:=Aside0.mk A100
    clear A100
    simp only [Option.some.injEq,Prod.mk.injEq] at H
    obtain ⟨rfl,rfl,rfl,rfl⟩:=H
    obtain ⟨Ao11,co11,eo11⟩:=Kd.R_slice HO_4.out
    subst eo11
    go_wp2_with (first | ((with_reducible refine gate_callee (f:=46) rfl ?_);refine goesL_ (some 22) rfl rfl Tryd.func46 (by kernel_rfl) rfl #[.slice Ao11 t264.length co11] rfl (by (try simp only [List.map_toArray,List.map_cons,List.map_nil]);first | done | rfl | (simp only [List.length_drop,List.length_take];rfl)) ?_;(with_reducible refine (spec_l1field.calls kj2 _ _ t264 t268 _ ?side1 ?side2 A9.out).mono ?_);(case side1 => repeat (first | exact (Kd.R_reads' HO_4.out).2.2 | (with_reducible refine Kd.C_alloc ?_ _) | (with_reducible refine Kd.C_drewN ?_ _) | (with_reducible refine Kd.C_drew ?_)));(case side2 => exact (Kd.R_reads' HO_4.out).2.1);rintro e w' ⟨rfl,⟨nd,rfl⟩⟩;refine ⟨_,rfl, ?_⟩;(try (rw [drewN_self wc];generalize hq_ : World.drewN wc _ = wc;have n0_ : Aside0 (Kd.R (Kd.int .u8) 5 wc w.heap.size (fun _ => True) (.slice Ao11 t264.length co11) t264):=⟨by rw [← hq_];exact (by (with_reducible repeat (first | apply Kd.R_alloc | apply Kd.R_drewN | apply Kd.R_drew));exact HO_4.out)⟩;have n1_ : Aside0 (wc.heap[gb262]? = some (.cells #[.int .i64 0, .int .i64 0, .bool false, .bool false] 40 (0,0))):=⟨by rw [← hq_];exact (by (with_reducible repeat (first | refine blk_drewN ?_ _ | refine blk_drew ?_ | refine blk_alloc ?_ _));exact BK262.out)⟩;have n2_ : Aside0 (Below w.heap.size w wc):=⟨by rw [← hq_];exact (by repeat (first | (with_reducible first | exact HB.out | apply below_alloc | apply pw_below_drewN | apply below_drew1 | refine below_set ?_ GE262.out) | exact HB.out))⟩;clear HO_4 BK262 HB hq_;have HO_4:=n0_;have BK262:=n1_;have HB:=n2_;clear n0_ n1_ n2_))) | ((with_reducible refine gate_callee (f:=47) rfl ?_);refine goesL_ (some 25) rfl rfl Tryd.func47 (by kernel_rfl) rfl #[.slice Ao11 t264.length co11] rfl (by (try simp only [List.map_toArray,List.map_cons,List.map_nil]);first | done | rfl | (simp only [List.length_drop,List.length_take];rfl)) ?_;(with_reducible refine (spec_l1crcOk.calls kj2 _ _ t264 t269 _ ?side1 ?side2 A10.out).mono ?_);(case side1 => repeat (first | exact (Kd.R_reads' HO_4.out).2.2 | (with_reducible refine Kd.C_alloc ?_ _) | (with_reducible refine Kd.C_drewN ?_ _) | (with_reducible refine Kd.C_drew ?_)));(case side2 => exact (Kd.R_reads' HO_4.out).2.1);rintro e w12 ⟨rfl,hb⟩;refine ⟨_,rfl, ?_⟩;have n0_:=Aside0.mk (Kd.R_below (by (with_reducible repeat (first | apply Kd.R_alloc | apply Kd.R_drewN | apply Kd.R_drew));exact HO_4.out) hb);have n1_:=Aside0.mk (blk_below (g:=gb262) (o := .cells #[.int .i64 0, .int .i64 0, .bool false, .bool false] 40 (0,0)) (by (with_reducible repeat (first | refine blk_drewN ?_ _ | refine blk_drew ?_ | refine blk_alloc ?_ _));exact BK262.out) hb);have n2_:=Aside0.mk (below_step (by repeat (first | (with_reducible first | exact HB.out | apply below_alloc | apply pw_below_drewN | apply below_drew1 | refine below_set ?_ GE262.out) | exact HB.out)) hb);clear HO_4;clear BK262;clear HB;have HO_4:=n0_;have BK262:=n1_;have HB:=n2_;clear n0_ n1_ n2_;(try clear hb);(try clear hb2);(try clear hk);(try clear hi);have hcz13_0 : w12.cell? ⟨gb262,0,none⟩ = some (.int .i64 0):=(blk_cell BK262.out 0).trans rfl;have hcz13_1 : w12.cell? ⟨gb262,1,none⟩ = some (.int .i64 0):=(blk_cell BK262.out 1).trans rfl;have hcz13_2 : w12.cell? ⟨gb262,2,none⟩ = some (.bool false):=(blk_cell BK262.out 2).trans rfl;have hcz13_3 : w12.cell? ⟨gb262,3,none⟩ = some (.bool false):=(blk_cell BK262.out 3).trans rfl;have hfz13_0:=blk_frozen BK262.out 0;have hfz13_1:=blk_frozen BK262.out 1;have hfz13_2:=blk_frozen BK262.out 2;have hfz13_3:=blk_frozen BK262.out 3))
    refine bodyPost_ret (results_cell_row rfl _ _ gb262 40 #[.int .i64 t263, .int .i64 t268, .bool t265, .bool t269] (0,0) _ rfl (by (with_reducible repeat (first | refine blk_drewN ?_ _ | refine blk_drew ?_ | refine blk_alloc ?_ _));refine blk_put (cs := #[.int .i64 t263, .int .i64 t268, .bool t265, .bool false]) ?_ 3 _ rfl;(with_reducible repeat (first | refine blk_drewN ?_ _ | refine blk_drew ?_ | refine blk_alloc ?_ _));refine blk_put (cs := #[.int .i64 t263, .int .i64 t268, .bool false, .bool false]) ?_ 2 _ rfl;(with_reducible repeat (first | refine blk_drewN ?_ _ | refine blk_drew ?_ | refine blk_alloc ?_ _));refine blk_put (cs := #[.int .i64 t263, .int .i64 0, .bool false, .bool false]) ?_ 1 _ rfl;(with_reducible repeat (first | refine blk_drewN ?_ _ | refine blk_drew ?_ | refine blk_alloc ?_ _));refine blk_put (cs := #[.int .i64 0, .int .i64 0, .bool false, .bool false]) ?_ 0 _ rfl;(with_reducible repeat (first | refine blk_drewN ?_ _ | refine blk_drew ?_ | refine blk_alloc ?_ _));exact BK262.out) Tryd.underlying40 rfl (by kernel_rfl)) rfl ?_
    exact ⟨by first | rfl | (simp [errW_none,errW_some] <;> rfl) | (simp [*,errW_none,errW_some] <;> rfl),by repeat (first | (with_reducible first | exact HB.out | apply below_alloc | apply pw_below_drewN | apply below_drew1 | refine below_set ?_ GE262.out) | exact HB.out)⟩
end Go.Proofs.YtdoclpgciadjaaaDoor.P
namespace Go.Proofs.YtdoclpgciadjaaaDoor.P
open Go Go.RowKit Go.Proofs.YtdoclpgciadjaaaDoorW.PrintWords Go.Proofs.YtdoclpgciadjaaaDoorW.PrintLast
set_option linter.unusedVariables false
def judgeS (a0 : ByteArray) : Int × Int × Bool × Bool:=if (walkV a0).code = 0 ∨ (walkV a0).code = 1 then ((walkV a0).code,(walkV a0).field,dueW (walkV a0),crcOkW (walkV a0)) else ((walkV a0).code,0,false,false)
theorem lay_e0 {p : List Int} {c : Int × Int × Int × Bool × Int × Bool × Int × List Int} {m : Int} (h : Ph p c m) (hp : Bits p) (hf : c.1 ≤ 8) : ∃ x,Ev (fun k => spec_l1lay.f k p) (x,0):=by
 have r13 : ∀ (a r z : Int) (I R : List Int),I.length = 11 → rd (a :: I ++ [r] ++ z :: R) 13 = z:=by
  intro a r z I R h
  have:=rd_app_at (a :: I ++ [r]) R z
  rw [show (((a :: I ++ [r]).length : Nat) : Int) = 13 by simp [h]] at this
  exact this
 cases h with
 | sof => exact ⟨_,lay_few (by simp)⟩
 | ida a I h => exact ⟨_,lay_few (by simp;omega)⟩
 | rtr a I h => exact ⟨_,lay_few (by simp;omega)⟩
 | ide a r I h => exact ⟨_,lay_few (by simp;omega)⟩
 | idb a r I J h k => exact ⟨_,lay_part (e:=true) (by have:=r13 a r 49 I J h;simpa using this) (by simp;omega) (by simp;omega)⟩
 | rtrx a r I J h k => exact ⟨_,lay_part (e:=true) (by have:=r13 a r 49 I J h;simpa using this) (by simp;omega) (by simp;omega)⟩
 | resx a r q I J Z h k z => exact ⟨_,lay_part (e:=true) (by have:=r13 a r 49 I (J ++ [q] ++ Z) h;simpa using this) (by simp;omega) (by simp;omega)⟩
 | resb a r I h => exact ⟨_,lay_part (e:=false) (by have:=r13 a r 48 I [] h;simpa using this) (by simp;omega) (by simp;omega)⟩
 | dlc H D e r i h d =>
  have hl:=hd_len h
  have hlen : (H ++ D).length = H.length + D.length:=by simp
  exact ⟨_,lay_part (e:=e) (hd_13 h D) (by rw [hlen,hl];split <;> omega) (by rw [hlen,hl];split <;> omega)⟩
 | data => simp only [] at hf;omega
 | crc => simp only [] at hf;omega
 | del H D X C T e r i h d x c t => simp only [] at hf;omega
 | eof => simp only [] at hf;omega
theorem crcOk_no {p : List Int} {h e : Int} (hl : Ev (fun k => spec_l1lay.f k p) (h,e)) (he : 0 ≤ e) (he2 : e ≤ 1000) (hn : e = 0 ∨ (p.length : Int) < e + 15) : Ev (fun k => spec_l1crcOk.f k p) false:=by
 unfold spec_l1crcOk.f
 refine Ev.bind hl ?_
 simp only []
 have j : Ev (fun k => spec_l1crcOk.j0 k p e true) false:=by
  refine Ev.step (f:=fun _ => some false) (fun k => ?_) (Ev.now _)
  simp only [spec_l1crcOk.j0]
  rw [if_pos trivial]
 by_cases c : e = 0
 ·exact ev_pos c j
 ·refine ev_neg c ?_
  rw [w64 (x:=e + 15) (by omega) (by omega),decide_eq_true (by omega)]
  exact j
theorem crcOk_ev {p : List Int} {s : WS} (h : Ph p (core s) s.sum) (hp : Bits p) : Ev (fun k => spec_l1crcOk.f k p) (crcOkW s):=by
 generalize hg : core s = cc at h
 generalize hm : s.sum = mm at h
 by_cases hf : cc.1 ≤ 8
 ·obtain ⟨x,hx⟩:=lay_e0 h hp hf
  have : s.field = cc.1:=by rw [← hg];rfl
  have e : crcOkW s = false:=by unfold crcOkW;rw [decide_eq_false (by omega),Bool.false_and]
  rw [e]
  exact crcOk_no hx (by omega) (by omega) (.inl rfl)
 ·cases h with
  | data H D X e r i h d x =>
   have hD : Bits D:=bits_len hp D (fun x hx => by simp [hx])
   have hr:=dataB_range (r:=r) (V_range hD).1
   have hl:=hd_len h
   have hH : H.length = 15 ∨ H.length = 35:=by rw [hl];split <;> omega
   have e0 : crcOkW s = false:=by unfold crcOkW;rw [decide_eq_false (by have:=(core_is hg hm).f;omega),Bool.false_and]
   rw [e0]
   exact crcOk_no (lay_full (R:=X) h d hD (by omega)) (by omega) (by omega) (.inr (by simp [d];omega))
  | crc H D X C e r i h d x c =>
   have hD : Bits D:=bits_len hp D (fun x hx => by simp [hx])
   have hr:=dataB_range (r:=r) (V_range hD).1
   have hl:=hd_len h
   have hH : H.length = 15 ∨ H.length = 35:=by rw [hl];split <;> omega
   have e0 : crcOkW s = false:=by unfold crcOkW;rw [decide_eq_false (by have:=(core_is hg hm).f;omega),Bool.false_and]
   rw [e0]
   have hlay:=lay_full (R:=X ++ C) h d hD (by simp;omega)
   rw [← List.append_assoc] at hlay
   exact crcOk_no hlay (by omega) (by omega) (.inr (by simp [d];omega))
  | del H D X C T e r i h d x c t =>
   have hC:=core_is hg hm
   have:=crcOk_full h d x c (by omega) hp
   have e1 : crcOkW s = (crcS (H ++ D ++ X) == V C):=by unfold crcOkW;rw [hC.m,hC.g,decide_eq_true (by have:=hC.f;omega),Bool.true_and]
   rw [e1];exact this
  | eof H D X C T e r i h d x c t3 t =>
   have hC:=core_is hg hm
   have:=crcOk_full h d x c (by omega) hp
   have e1 : crcOkW s = (crcS (H ++ D ++ X) == V C):=by unfold crcOkW;rw [hC.m,hC.g,decide_eq_true (by have:=hC.f;omega),Bool.true_and]
   rw [e1];exact this
  | _ => exfalso;simp only [] at hf;omega
theorem specJudge_ev (a0 : ByteArray) : Ev (fun k => spec_Judge.f k a0) (judgeS a0):=by
 obtain ⟨R,hR,hS⟩:=specwalk_ev a0
 obtain ⟨c,p,d⟩:=R
 have hc : c = (walkV a0).code:=hS.code
 unfold spec_Judge.f
 refine Ev.bind hR ?_
 simp only []
 unfold judgeS
 have j : ∀ b,Ev (fun k => spec_Judge.j0 k c p d b) (if b = true then (c,0,false,false) else (judgeS a0)) → True:=fun _ _ => trivial
 by_cases hl : (walkV a0).code = 0 ∨ (walkV a0).code = 1
 ·rw [if_pos hl]
  obtain ⟨ha,hd⟩:=hS.live hl
  simp only [] at ha hd
  have go : Ev (fun k => spec_Judge.j0 k c p d false) ((walkV a0).code,(walkV a0).field,dueW (walkV a0),crcOkW (walkV a0)):=by
   refine Ev.step (f:=fun k => (spec_l1field.f k p).bind fun t291 => ((spec_l1crcOk.f k p).bind fun t292 => (some (c,t291,d,t292)))) (fun k => ?_) (Ev.bind (field_ev ha.ph ha.bits) (Ev.bind (crcOk_ev ha.ph ha.bits) ?_))
   ·simp only [spec_Judge.j0]
    rw [if_neg (by decide)]
   ·rw [hc,hd];exact Ev.now _
  by_cases h0 : c = 0
  ·exact ev_pos h0 go
  ·refine ev_neg h0 ?_
   rw [show (c != 1) = false by simp;omega]
   exact go
 ·rw [if_neg hl]
  refine ev_neg (by omega) ?_
  rw [show (c != 1) = true by simp;omega]
  refine Ev.step (f:=fun _ => some (c,0,false,false)) (fun k => ?_) ?_
  ·simp only [spec_Judge.j0]
   rw [if_pos trivial]
  ·rw [hc];exact Ev.now _
end Go.Proofs.YtdoclpgciadjaaaDoor.P
namespace Go.Proofs.YtdoclpgciadjaaaDoor.P
open Go Go.RowKit Go.Proofs.YtdoclpgciadjaaaDoorW.PrintWords
set_option linter.unusedVariables false
theorem str_bytes (s : ByteArray) : strOfNums (bytesOf s) = s:=by
 apply text_ext
 rw [strOfNums_data]
 unfold bytesOf
 rw [List.map_map]
 conv => rhs;rw [← List.map_id s.data.toList]
 refine List.map_congr_left fun b _ => ?_
 simp [Function.comp]
def vtop (ext : Bool) : Int:=if ext = true then 536870912 else 2048
def validF (ext : Bool) (id : Int) (rtr : Bool) (dlc : Int) (n : Nat) : Bool:=decide (id < vtop ext) && (decide (0 ≤ dlc) && (decide (dlc ≤ 15) && ((n : Int) == dataB rtr dlc)))
def okBytes (l : List Int) : Bool:=l.all fun x => decide (0 ≤ x) && decide (x < 256)
theorem okBytes_at {l : List Int} (h : okBytes l = true) (i : Nat) (hi : i < l.length) : 0 ≤ rd l (i : Int) ∧ rd l (i : Int) < 256:=by
 have:=List.all_eq_true.1 h _ (List.mem_of_getElem? (rd_get l i hi))
 simpa using this
def bodyV (ext : Bool) (id : Int) (rtr : Bool) (dlc : Int) (data : List Int) : ByteArray:=if validF ext id rtr dlc data.length = true then strOfNums (bodyL ext id rtr dlc data) else ⟨#[]⟩
theorem valid_parts {ext : Bool} {id : Int} {rtr : Bool} {dlc : Int} {n : Nat} (h : validF ext id rtr dlc n = true) : id < vtop ext ∧ 0 ≤ dlc ∧ dlc ≤ 15 ∧ (n : Int) = dataB rtr dlc ∧ n ≤ 8:=by
 unfold validF at h
 rw [Bool.and_eq_true,Bool.and_eq_true,Bool.and_eq_true] at h
 obtain ⟨h1,h2,h3,h4⟩:=h
 have h5 : (n : Int) = dataB rtr dlc:=by simpa using h4
 refine ⟨of_decide_eq_true h1,of_decide_eq_true h2,of_decide_eq_true h3,h5, ?_⟩
 unfold dataB at h5
 split at h5
 ·omega
 ·split at h5
  ·omega
  ·have:=of_decide_eq_true h2;have:=of_decide_eq_true h3;omega
section
variable {v0 v1 v2 v3 v4 : Value}
theorem box5_0 : (#[v0,v1,v2,v3,v4] : Array Value)[0]? = some v0:=rfl
theorem box5_1 : (#[v0,v1,v2,v3,v4] : Array Value)[1]? = some v1:=rfl
theorem box5_2 : (#[v0,v1,v2,v3,v4] : Array Value)[2]? = some v2:=rfl
theorem box5_3 : (#[v0,v1,v2,v3,v4] : Array Value)[3]? = some v3:=rfl
theorem box5_4 : (#[v0,v1,v2,v3,v4] : Array Value)[4]? = some v4:=rfl
end
theorem take_next (l : List Int) (i : Nat) (h : i < l.length) : l.take (i + 1) = l.take i ++ [rd l (i : Int)]:=by
 rw [List.take_succ_eq_append_getElem h]
 have:=rd_get l i h
 rw [List.getElem?_eq_getElem h] at this
 rw [Option.some.inj this]
def encodeV (ext : Bool) (id : Int) (rtr : Bool) (dlc : Int) (data : List Int) : ByteArray:=if validF ext id rtr dlc data.length = true then strOfNums (stuffL (plainL ext id rtr dlc data) ++ onesL) else ⟨#[]⟩
theorem stuffL_len (l : List Int) : (stuffL l).length ≤ 2 * l.length:=by
 unfold stuffL
 have key : ∀ (l : List Int) (st : List Int × Int × Int),(l.foldl stuffStep st).1.length ≤ st.1.length + 2 * l.length:=by
  intro l
  induction l with
  | nil => intro st;simp
  | cons c l ih =>
   intro st
   have h1 : (stuffStep st c).1.length ≤ st.1.length + 2:=by
    unfold stuffStep
    generalize (if c = st.2.2 then st.2.1 + 1 else 1) = q
    split <;> simp
   have:=ih (stuffStep st c)
   rw [List.foldl_cons,List.length_cons]
   omega
 have:=key l ([],0,120)
 simpa using this
end Go.Proofs.YtdoclpgciadjaaaDoor.P
namespace Go.Proofs.YtdoclpgciadjaaaDoor.P
open Go.RowKit Go.Proofs.YtdoclpgciadjaaaDoorW.PrintWords Go.Proofs.YtdoclpgciadjaaaDoorW.PrintLast Go.Proofs.YtdoclpgciadjaaaDoorW.PrintMore
set_option linter.unusedVariables false
set_option linter.unusedSimpArgs false
def impl_bitText.f (a0 : ByteArray) (a1 : Int) : Option (Bool):=some (decide ((a0.size : Int) ≤ a1) && isBits a0)
theorem impl_bitText.calls (a0 : ByteArray) (a1 : Int) (r : Bool) (w : World) (h : impl_bitText.f a0 a1 = some r) :
  Calls Tryd.prog 61 #[.string a0, .int .i64 a1] w fun e w' => e = .returned (.bool r) ∧ Below w.heap.size w w':=by
 by_cases c1 : (a0.size : Int) ≤ a1
 ·have c1b : decide (a1 < (a0.size : Int)) = false:=decide_eq_false (by omega)
  have hr : Hid (r = isBits a0):=by
   have h1:=Option.some.inj h
   rw [decide_eq_true c1,Bool.true_and] at h1
   exact Lib.hid h1.symm
  clear h c1
  go_enter Tryd.func61,Tryd.ntmps61
  go_wp2
  go_loopw [] (fun w' => ∃ pos : Nat,w' = w.iter a0 pos ∧ BitsTo a0 pos) (fun w' => a0.size - w'.iterPos w.heap.size)
  case atStart => exact ⟨0,rfl,bitsTo_zero a0⟩
  case round =>
   obtain ⟨pos,rfl,hb⟩:=hrel
   have HB:=Lib.hid hb
   clear hb
   by_cases hp : pos < a0.size
   ·cases hbit : isBit (a0[pos]'hp) with
    | true =>
     have HT : Hid (isBit (a0[pos]'hp) = true):=Lib.hid hbit
     rcases isBit_cases hbit with e | e
     ·have hnx:=fun ty => next_bit (P:=Tryd.prog) w a0 pos ty hp (b:=48) (by rw [e];rfl) (by omega)
      clear e hbit
      go_wp2
      go_roundw
      case rel => exact ⟨pos + 1,rfl,bitsTo_succ HB.out hp HT.out⟩
      case measure => simp;omega
     ·have hnx:=fun ty => next_bit (P:=Tryd.prog) w a0 pos ty hp (b:=49) (by rw [e];rfl) (by omega)
      clear e hbit
      go_wp2
      go_roundw
      case rel => exact ⟨pos + 1,rfl,bitsTo_succ HB.out hp HT.out⟩
      case measure => simp;omega
    | false =>
     have HF:=Lib.hid (isBits_not a0 hp hbit)
     obtain ⟨h48,h49⟩:=decode_notBit a0 pos hp hbit
     have h48' : ((((Utf8.decode a0 pos).1 : Nat) : Int) != 48) = true:=by rw [bne,h48];rfl
     have h49' : ((((Utf8.decode a0 pos).1 : Nat) : Int) != 49) = true:=by rw [bne,h49];rfl
     have hnx:=fun ty => run_next_any (P:=Tryd.prog) w a0 pos ty hp
     clear hbit
     go_wp2
     go_ret
     exact ⟨by rw [hr.out,HF.out];rfl,below_iter _ _ _⟩
   ·have hnx:=fun ty => run_next_end (P:=Tryd.prog) w a0 pos ty hp
    have HF:=Lib.hid (isBits_of a0 HB.out hp)
    go_wp2
    go_ret
    exact ⟨by rw [hr.out,HF.out];rfl,below_iter _ _ _⟩
 ·have c1b : decide (a1 < (a0.size : Int)) = true:=decide_eq_true (by omega)
  have hr : r = false:=by
   have h1:=Option.some.inj h
   rw [decide_eq_false c1,Bool.false_and] at h1
   exact h1.symm
  subst hr
  clear h c1
  go_enter Tryd.func61,Tryd.ntmps61
  go_wp2
  go_ret
  exact ⟨rfl,Below.refl _ _⟩
theorem enter10 (p : Nat) (v : Value) (s : WS) (w : World) (hp : w.heap[p]? = some (objW s v)) :
  Calls Tryd.prog 62 #[.pointer (some ⟨p,0,none⟩), .int .i64 10] w (EndW w p { s with field:=10,left:=15 } v):=by
 have HP:=Lib.hid hp
 have hc1:=cW1 hp
 have hc2:=cW2 hp
 have hf:=fW hp
 have hf1:=hf 1
 have hf2:=hf 2
 clear hp hf
 go_enter Tryd.func62,Tryd.ntmps62
 go_wp2_with (fail)
 go_end0
 exact ⟨rfl,setW2 (setW1 HP.out 10) 15,((Tch.refl1 _ _).one _ _).one _ _⟩
theorem enter_lit (p : Nat) (v : Value) (s : WS) (w : World) (hp : w.heap[p]? = some (objW s v)) (f : Int) (hf : f ≠ 7) (hf9 : f ≠ 9) :
  Calls Tryd.prog 62 #[.pointer (some ⟨p,0,none⟩), .int .i64 f] w (EndW w p { s with field:=f,left:=enterL s f } v):=by
 have HP:=Lib.hid hp
 have hc1:=cW1 hp
 have hc2:=cW2 hp
 have hf:=fW hp
 have hf1:=hf 1
 have hf2:=hf 2
 clear hp hf
 have b7 : (f == 7) = false:=by simp;omega
 have b9 : (f == 9) = false:=by simp;omega
 by_cases c2 : f = 2
 ·subst c2
  go_enter Tryd.func62,Tryd.ntmps62
  go_wp2_with (fail)
  go_end0
  exact ⟨rfl,setW2 (setW1 HP.out 2) 11,((Tch.refl1 _ _).one _ _).one _ _⟩
 by_cases c5 : f = 5
 ·subst c5
  go_enter Tryd.func62,Tryd.ntmps62
  go_wp2_with (fail)
  go_end0
  exact ⟨rfl,setW2 (setW1 HP.out 5) 18,((Tch.refl1 _ _).one _ _).one _ _⟩
 by_cases c8 : f = 8
 ·subst c8
  go_enter Tryd.func62,Tryd.ntmps62
  go_wp2_with (fail)
  go_end0
  exact ⟨rfl,setW2 (setW1 HP.out 8) 4,((Tch.refl1 _ _).one _ _).one _ _⟩
 by_cases c10 : f = 10
 ·subst c10
  exact enter10 p v s w HP.out
 by_cases c14 : f = 14
 ·subst c14
  go_enter Tryd.func62,Tryd.ntmps62
  go_wp2_with (fail)
  go_end0
  exact ⟨rfl,setW2 (setW1 HP.out 14) 7,((Tch.refl1 _ _).one _ _).one _ _⟩
 have hL : Hid (enterL s f = 1):=Lib.hid (by unfold enterL;rw [if_neg c2,if_neg c5,if_neg (by omega),if_neg c8,if_neg (by omega),if_neg c10,if_neg c14])
 have b2 : (f == 2) = false:=by simp;omega
 have b5 : (f == 5) = false:=by simp;omega
 have b8 : (f == 8) = false:=by simp;omega
 have b10 : (f == 10) = false:=by simp;omega
 have b14 : (f == 14) = false:=by simp;omega
 clear c2 c5 c8 c10 c14 hf hf9
 go_enter Tryd.func62,Tryd.ntmps62
 go_wp2_with (fail)
 go_end0
 rw [hL.out]
 exact ⟨rfl,setW2 (setW1 HP.out f) 1,((Tch.refl1 _ _).one _ _).one _ _⟩
theorem enter7 (p : Nat) (v : Value) (s : WS) (w : World) (hp : w.heap[p]? = some (objW s v)) :
  Calls Tryd.prog 62 #[.pointer (some ⟨p,0,none⟩), .int .i64 7] w (EndW w p { s with field:=7,left:=enterL s 7 } v):=by
 have HP:=Lib.hid hp
 have hc1:=cW1 hp
 have hc2:=cW2 hp
 have hc7:=cW7 hp
 have hf:=fW hp
 have hf1:=hf 1
 have hf2:=hf 2
 clear hp hf
 obtain ⟨b,hb⟩ : ∃ b,s.ext = b:=⟨_,rfl⟩
 rw [hb] at hc7
 have hL : Hid (enterL s 7 = if b = true then 2 else 1):=Lib.hid (by rw [← hb];rfl)
 clear hb
 rw [hL.out]
 cases b with
 | true =>
  go_enter Tryd.func62,Tryd.ntmps62
  go_wp2_with (fail)
  go_end0
  exact ⟨rfl,setW2 (setW2 (setW1 HP.out 7) 1) 2,(((Tch.refl1 _ _).one _ _).one _ _).one _ _⟩
 | false =>
  go_enter Tryd.func62,Tryd.ntmps62
  go_wp2_with (fail)
  go_end0
  exact ⟨rfl,setW2 (setW1 HP.out 7) 1,((Tch.refl1 _ _).one _ _).one _ _⟩
theorem enter9 (p : Nat) (v : Value) (s : WS) (w : World) (hp : w.heap[p]? = some (objW s v)) (h0 : 0 ≤ s.dlc) :
  Calls Tryd.prog 62 #[.pointer (some ⟨p,0,none⟩), .int .i64 9] w (EndW w p (enterW s 9) v):=by
 have HP:=Lib.hid hp
 have hc1:=cW1 hp
 have hc2:=cW2 hp
 have hc9:=cW9 hp
 have hc10:=cW10 hp
 have hf:=fW hp
 have hf1:=hf 1
 have hf2:=hf 2
 clear hp hf
 have hd0 : 0 ≤ dataB s.rtr s.dlc:=by unfold dataB;split <;> (try split) <;> omega
 have hd8 : dataB s.rtr s.dlc ≤ 8:=by unfold dataB;split <;> (try split) <;> omega
 go_enter Tryd.func62,Tryd.ntmps62
 go_upto_region 14 with (fail)
 go_cut [] (fun wc => Aside0 (wc.heap[p]? = some (objW { s with field:=9,left:=8 * dataB s.rtr s.dlc } v)) ∧ Aside0 (Tch w wc (fun k => k = p)))
 case first =>
  have hw : IntKind.i64.wrap (8 * dataB s.rtr s.dlc) = 8 * dataB s.rtr s.dlc:=by rw [IntKind.wrap_i64];omega
  go_region_with (go_at_call 75;refine (impl_dataBytes.same _ _ _).mono ?_;rintro e w' ⟨rfl,rfl⟩)
  all_goals
   go_wp2_with (fail)
   go_meet
   case rel => exact ⟨⟨blk_drew (setW2 (setW1 HP.out 9) (8 * dataB s.rtr s.dlc))⟩,⟨Tch.drew (((Tch.refl1 _ _).one _ _).one _ _)⟩⟩
 case rest =>
  obtain ⟨HO,HT⟩:=hcut
  clear hc1 hc2 hc9 hc10 hf1 hf2
  have hc2:=cW2 HO.out
  have hf2:=fW HO.out 2
  by_cases c : dataB s.rtr s.dlc = 0
  ·have hL : Hid (enterW s 9 = { s with field:=10,left:=15 }):=Lib.hid (by unfold enterW;rw [if_pos ⟨rfl,c⟩])
   have hb : (8 * dataB s.rtr s.dlc == 0) = true:=by simp;omega
   clear c
   go_wp2_with (go_at_call 62;refine (enter10 p v _ _ HO.out).mono ?_;intro e w' hE;have HE:=Lib.hid hE;obtain rfl:=hE.ret;clear hE)
   go_end0
   rw [hL.out]
   exact ⟨rfl,HE.out.obj,HT.out.trans HE.out.tch⟩
  ·have hL : Hid (enterW s 9 = { s with field:=9,left:=8 * dataB s.rtr s.dlc }):=Lib.hid (by unfold enterW;rw [if_neg (fun h => c h.2)];rfl)
   have hb : (8 * dataB s.rtr s.dlc == 0) = false:=by simp;omega
   clear c
   go_wp2_with (fail)
   go_end0
   rw [hL.out]
   exact ⟨rfl,HO.out,HT.out⟩
theorem impl_walk_enter.calls (p : Nat) (v : Value) (s : WS) (f : Int) (w : World) (hp : w.heap[p]? = some (objW s v)) (h0 : 0 ≤ s.dlc) :
  Calls Tryd.prog 62 #[.pointer (some ⟨p,0,none⟩), .int .i64 f] w (EndW w p (enterW s f) v):=by
 by_cases c9 : f = 9
 ·subst c9;exact enter9 p v s w hp h0
 have e : enterW s f = { s with field:=f,left:=enterL s f }:=by unfold enterW;rw [if_neg (fun h => c9 h.1)]
 rw [e]
 by_cases c7 : f = 7
 ·subst c7;exact enter7 p v s w hp
 ·exact enter_lit p v s w hp f c7 c9
theorem impl_walk_due.calls (p : Nat) (v : Value) (s : WS) (w : World) (hp : w.heap[p]? = some (objW s v)) :
  Calls Tryd.prog 43 #[.pointer (some ⟨p,0,none⟩)] w fun e w' => e = .returned (.bool (dueW s)) ∧ w = w':=by
 have hc1:=cW1 hp
 have hc3:=cW3 hp
 clear hp
 unfold dueW
 by_cases c : s.run = 5
 ·have b5 : (s.run == 5) = true:=by simp [c]
  rw [b5]
  go_enter Tryd.func43,Tryd.ntmps43
  go_wp2_with (fail)
  go_ret
  exact ⟨rfl,rfl⟩
 ·have b5 : (s.run == 5) = false:=by simp [c]
  rw [b5]
  go_enter Tryd.func43,Tryd.ntmps43
  go_wp2_with (fail)
  go_ret
  exact ⟨rfl,rfl⟩
theorem impl_walk_crcOk.calls (p : Nat) (v : Value) (s : WS) (w : World) (hp : w.heap[p]? = some (objW s v)) :
  Calls Tryd.prog 44 #[.pointer (some ⟨p,0,none⟩)] w fun e w' => e = .returned (.bool (crcOkW s)) ∧ ∃ n,w' = w.drewN n:=by
 have hc1:=cW1 hp
 have hc5:=cW5 hp
 have hc6:=cW6 hp
 clear hp
 unfold crcOkW
 by_cases c : 10 < s.field
 ·have b5 : decide (10 < s.field) = true:=decide_eq_true c
  rw [b5]
  go_enter Tryd.func44,Tryd.ntmps44
  go_wp2_with (fail)
  go_quiet (fail)
  go_wp2_with (fail)
  go_ret
  exact ⟨rfl,_,rfl⟩
 ·have b5 : decide (10 < s.field) = false:=decide_eq_false c
  rw [b5]
  go_enter Tryd.func44,Tryd.ntmps44
  go_wp2_with (fail)
  go_quiet (fail)
  go_wp2_with (fail)
  go_ret
  exact ⟨rfl,_,rfl⟩
theorem crcOk_is (p : Nat) (v : Value) (s : WS) (w : World) (hp : w.heap[p]? = some (objW s v)) (k : Bool) (hk : crcOkW s = k) :
  Calls Tryd.prog 44 #[.pointer (some ⟨p,0,none⟩)] w (RetW w p s v (.bool k)):=by
 subst hk
 refine (impl_walk_crcOk.calls p v s w hp).mono ?_
 rintro e w' ⟨rfl,n,rfl⟩
 exact ⟨rfl,blk_drewN hp n,(Tch.refl _ _).drewN n⟩
theorem impl_walk_end.calls (p : Nat) (v : Value) (s : WS) (b : Int) (hb : b = 0 ∨ b = 1) (w : World) (hp : w.heap[p]? = some (objW s v)) :
  Calls Tryd.prog 77 #[.pointer (some ⟨p,0,none⟩), .int .i64 b] w (EndW w p (endW s b) v):=by
 have HP:=Lib.hid hp
 have hc0:=cW0 hp
 have hc2:=cW2 hp
 have hf0:=fW hp 0
 clear hp
 have yes : ∀ x : Int,EndW w p { s with code:=x } v (.returned (.tuple #[])) (w.setCell ⟨p,0,none⟩ (.int .i64 x)):=fun x => ⟨rfl,setW0 HP.out x,(Tch.refl1 _ _).one _ _⟩
 have no : EndW w p s v (.returned (.tuple #[])) w:=⟨rfl,HP.out,Tch.refl1 _ _⟩
 have YES:=Lib.hid yes
 have NO:=Lib.hid no
 clear yes no
 rcases hb with rfl | rfl
 ·by_cases c1 : 1 < s.left
  ·have b1 : decide (1 < s.left) = true:=decide_eq_true c1
   have hL : Hid (endW s 0 = { s with code:=4 }):=Lib.hid (by unfold endW;rw [if_pos ⟨c1,rfl⟩])
   clear c1
   go_enter Tryd.func77,Tryd.ntmps77
   go_wp2_with (fail)
   go_end0
   rw [hL.out]
   exact YES.out 4
  ·have b1 : decide (1 < s.left) = false:=decide_eq_false c1
   have b2 : (s.left == 2) = false:=by simp;omega
   by_cases c3 : s.left = 1
   ·have b3 : (s.left == 1) = true:=by simp [c3]
    have hL : Hid (endW s 0 = { s with code:=6 }):=Lib.hid (by unfold endW;rw [if_neg (by omega),if_neg (by omega),if_pos ⟨c3,rfl⟩])
    clear c1 c3
    go_enter Tryd.func77,Tryd.ntmps77
    go_wp2_with (fail)
    go_end0
    rw [hL.out]
    exact YES.out 6
   ·have b3 : (s.left == 1) = false:=by simp [c3]
    have hL : Hid (endW s 0 = s):=Lib.hid (by unfold endW;rw [if_neg (by omega),if_neg (by omega),if_neg (by omega),if_neg c3])
    clear c1 c3
    go_enter Tryd.func77,Tryd.ntmps77
    go_wp2_with (fail)
    go_end0
    rw [hL.out]
    exact NO.out
 ·by_cases c2 : s.left = 2
  ·have b2 : (s.left == 2) = true:=by simp [c2]
   have b1 : decide (1 < s.left) = true:=decide_eq_true (by omega)
   have hL : Hid (endW s 1 = { s with code:=1 }):=Lib.hid (by unfold endW;rw [if_neg (by omega),if_pos c2])
   clear c2
   go_enter Tryd.func77,Tryd.ntmps77
   go_wp2_with (fail)
   go_end0
   rw [hL.out]
   exact YES.out 1
  ·have b2 : (s.left == 2) = false:=by simp [c2]
   by_cases c3 : s.left = 1
   ·have b3 : (s.left == 1) = true:=by simp [c3]
    have b1 : decide (1 < s.left) = false:=decide_eq_false (by omega)
    have hL : Hid (endW s 1 = { s with code:=2 }):=Lib.hid (by unfold endW;rw [if_neg (by omega),if_neg c2,if_neg (by omega),if_pos c3])
    clear c2 c3
    go_enter Tryd.func77,Tryd.ntmps77
    go_wp2_with (fail)
    go_end0
    rw [hL.out]
    exact YES.out 2
   ·have b3 : (s.left == 1) = false:=by simp [c3]
    have hL : Hid (endW s 1 = s):=Lib.hid (by unfold endW;rw [if_neg (by omega),if_neg c2,if_neg (by omega),if_neg c3])
    by_cases c1 : 1 < s.left
    ·have b1 : decide (1 < s.left) = true:=decide_eq_true c1
     clear c1 c2 c3
     go_enter Tryd.func77,Tryd.ntmps77
     go_wp2_with (fail)
     go_end0
     rw [hL.out]
     exact NO.out
    ·have b1 : decide (1 < s.left) = false:=decide_eq_false c1
     clear c1 c2 c3
     go_enter Tryd.func77,Tryd.ntmps77
     go_wp2_with (fail)
     go_end0
     rw [hL.out]
     exact NO.out
end Go.Proofs.YtdoclpgciadjaaaDoor.P
