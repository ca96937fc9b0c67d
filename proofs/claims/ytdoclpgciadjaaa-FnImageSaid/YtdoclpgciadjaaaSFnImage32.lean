/- Texts of the proof of FnImage, joined. -/
import Derived.Test.YtdoclpgciadjaaaSFnImage23
import Derived.Test.YtdoclpgciadjaaaSFnImage21
import Derived.ChangeKeysEq
import Derived.Test.YtdoclpgciadjaaaSFnImage22
import Derived.Test.YtdoclpgciadjaaaSFnImage24
import Derived.Deep.MidRow
import Derived.Test.YtdoclpgciadjaaaSFnImage30
import Derived.Test.YtdoclpgciadjaaaSFnImage25
import Derived.Deep.RegionHeld
import Derived.Deep.RegionLaw
import Derived.Test.YtdoclpgciadjaaaSFnImage27
import Derived.Test.YtdoclpgciadjaaaSFnImage31
import Derived.Test.YtdoclpgciadjaaaSFnImage29
import Derived.Test.YtdoclpgciadjaaaSFnImage26
import Derived.Test.YtdoclpgciadjaaaSFnImage28
namespace Go.Proofs.Ytdoclpgciadjaaa.P
open Go Go.RowKit Go.Proofs.YtdoclpgciadjaaaW.PrintWords Go.Proofs.YtdoclpgciadjaaaW.PrintLast
set_option linter.unusedVariables false
theorem u64_range (x : Int) : 0 ≤ IntKind.u64.wrap x ∧ IntKind.u64.wrap x < 18446744073709551616:=by rw [IntKind.wrap_u64];omega
theorem pick_range (X a : Int) (h0 : 0 ≤ X) (h1 : X < 18446744073709551616) (ha : 1 ≤ a) (hb : a ≤ 900000000) : 0 ≤ wrap64 (Int.tmod (X / 8589934592) (IntKind.u64.wrap a)) ∧ wrap64 (Int.tmod (X / 8589934592) (IntKind.u64.wrap a)) < a:=by
 rw [show IntKind.u64.wrap a = a by rw [IntKind.wrap_u64];omega,Int.tmod_eq_emod_of_nonneg (by omega)]
 have h2:=Int.emod_nonneg (X / 8589934592) (show a ≠ 0 by omega)
 have h3:=Int.emod_lt_of_pos (X / 8589934592) (show 0 < a by omega)
 rw [w64 h2 (by omega)]
 exact ⟨h2,h3⟩
theorem n_ex (s0 : List Int) (i s a : Int) (hi : 0 ≤ i) (hi2 : i < 100000000000) (ha : 1 ≤ a) (hb : a ≤ 900000000) : ∃ v s',spec_l1src_n.f s0 i s a = some (v,i + 1,s') ∧ 0 ≤ v ∧ v < a:=by
 have hw : wrap64 (i + 1) = i + 1:=by unfold wrap64;omega
 have hn : ¬ IntKind.u64.wrap a = 0:=by rw [IntKind.wrap_u64];omega
 unfold spec_l1src_n.f
 rw [hw]
 by_cases c : i < (s0.length : Int)
 ·rw [if_pos c,if_pos hi]
  by_cases c1 : a ≤ 1
  ·rw [if_pos c1];exact ⟨_,_,rfl,by omega,by omega⟩
  ·rw [if_neg c1,if_neg hn]
   refine ⟨_,_,rfl, ?_⟩
   exact pick_range _ a (u64_range _).1 (u64_range _).2 ha hb
 ·rw [if_neg c]
  by_cases c1 : a ≤ 1
  ·rw [if_pos c1];exact ⟨_,_,rfl,by omega,by omega⟩
  ·rw [if_neg c1,if_neg hn]
   refine ⟨_,_,rfl, ?_⟩
   exact pick_range _ a (u64_range _).1 (u64_range _).2 ha hb
end Go.Proofs.Ytdoclpgciadjaaa.P

namespace Go.Proofs.Ytdoclpgciadjaaa.P
open Go Go.RowKit Go.Proofs.YtdoclpgciadjaaaW.PrintWords Go.Proofs.YtdoclpgciadjaaaW.PrintLast
set_option linter.unusedVariables false
theorem genByte_ex (s0 : List Int) (i s : Int) (hi : 0 ≤ i) (hi2 : i < 1000000000) : ∃ v i' s',spec_l1genByte.f s0 i s = some (v,i',s') ∧ 0 ≤ v ∧ v < 256 ∧ i ≤ i' ∧ i' ≤ i + 2:=by
 unfold spec_l1genByte.f
 obtain ⟨v,s1,e,h1,h2⟩:=n_ex s0 i s 4 hi (by omega) (by omega) (by omega)
 rw [e,Option.bind_some]
 by_cases c : v = 0
 ·rw [if_pos c];exact ⟨_,_,_,rfl,by omega,by omega,by simp only [];omega,by simp only [];omega⟩
 ·rw [if_neg c]
  by_cases c1 : v = 1
  ·rw [if_pos c1];exact ⟨_,_,_,rfl,by omega,by omega,by simp only [];omega,by simp only [];omega⟩
  ·rw [if_neg c1]
   obtain ⟨q,s2,e2,h3,h4⟩:=n_ex s0 (i + 1) s1 256 (by omega) (by omega) (by omega) (by omega)
   simp only []
   rw [e2,Option.bind_some]
   exact ⟨_,_,_,rfl,by simp only [];omega,by simp only [];omega,by simp only [];omega,by simp only [];omega⟩
theorem genId_ex (s0 : List Int) (i s : Int) (e : Bool) (hi : 0 ≤ i) (hi2 : i < 1000000000) : ∃ v i' s',Ev (fun k => spec_l1genId.f k s0 i s e) (v,i',s') ∧ 0 ≤ v ∧ v < (if e = true then 536870912 else 2048) ∧ i ≤ i' ∧ i' ≤ i + 2:=by
 have key : ∀ top : Int,(top = 536870912 ∨ top = 2048) → ∃ v i' s',Ev (fun k => spec_l1genId.j0 k top s0 i s) (v,i',s') ∧ 0 ≤ v ∧ v < top ∧ i ≤ i' ∧ i' ≤ i + 2:=by
  intro top ht
  obtain ⟨v,s1,e1,h1,h2⟩:=n_ex s0 i s 6 hi (by omega) (by omega) (by omega)
  obtain ⟨q,s2,e2,h3,h4⟩:=n_ex s0 (i + 1) s1 8 (by omega) (by omega) (by omega) (by omega)
  obtain ⟨q3,s3,e3,h5,h6⟩:=n_ex s0 (i + 1) s1 64 (by omega) (by omega) (by omega) (by omega)
  obtain ⟨q4,s4,e4,h7,h8⟩:=n_ex s0 (i + 1) s1 top (by omega) (by omega) (by omega) (by omega)
  have hw : wrap64 (top - 1) = top - 1:=w64 (by omega) (by omega)
  have hw2 : wrap64 (top - 1 - q3) = top - 1 - q3:=w64 (by omega) (by omega)
  by_cases c : v = 0
  ·refine ⟨0,i + 1,s1,Ev.step (f:=fun _ => some (0,i + 1,s1)) (fun k => ?_) (Ev.now _),by omega,by omega,by omega,by omega⟩
   simp only [spec_l1genId.j0];rw [e1,Option.bind_some,if_pos c]
  by_cases c1 : v = 1
  ·refine ⟨(top - 1) % 4294967296,i + 1,s1,Ev.step (f:=fun _ => some ((top - 1) % 4294967296,i + 1,s1)) (fun k => ?_) (Ev.now _),by omega,by omega,by omega,by omega⟩
   simp only [spec_l1genId.j0];rw [e1,Option.bind_some,if_neg c,if_pos c1,hw]
  by_cases c2 : v = 2
  ·refine ⟨q % 4294967296,i + 1 + 1,s2,Ev.step (f:=fun _ => some (q % 4294967296,i + 1 + 1,s2)) (fun k => ?_) (Ev.now _),by omega,by omega,by omega,by omega⟩
   simp only [spec_l1genId.j0];rw [e1,Option.bind_some,if_neg c,if_neg c1,if_pos c2,e2,Option.bind_some]
  by_cases c3 : v = 3
  ·refine ⟨(top - 1 - q3) % 4294967296,i + 1 + 1,s3,Ev.step (f:=fun _ => some ((top - 1 - q3) % 4294967296,i + 1 + 1,s3)) (fun k => ?_) (Ev.now _),by omega,by omega,by omega,by omega⟩
   simp only [spec_l1genId.j0];rw [e1,Option.bind_some,if_neg c,if_neg c1,if_neg c2,if_pos c3,e3,Option.bind_some,hw,hw2]
  ·refine ⟨q4 % 4294967296,i + 1 + 1,s4,Ev.step (f:=fun _ => some (q4 % 4294967296,i + 1 + 1,s4)) (fun k => ?_) (Ev.now _),by omega,by omega,by omega,by omega⟩
   simp only [spec_l1genId.j0];rw [e1,Option.bind_some,if_neg c,if_neg c1,if_neg c2,if_neg c3,e4,Option.bind_some]
 unfold spec_l1genId.f
 cases e with
 | true =>
  obtain ⟨v,i',s',h,r⟩:=key 536870912 (.inl rfl)
  exact ⟨v,i',s',ev_pos rfl h,r⟩
 | false =>
  obtain ⟨v,i',s',h,r⟩:=key 2048 (.inr rfl)
  exact ⟨v,i',s',ev_neg (by decide) h,r⟩
structure FrIn (i d : Int) (l : List Int) : Prop where
 id0 : 0 ≤ i
 id1 : i < 4294967296
 d0 : -1 ≤ d
 d1 : d ≤ 16
 bytes : okBytes l = true
 len : l.length ≤ 9
theorem okBytes_snoc {l : List Int} (h : okBytes l = true) (v : Int) (h0 : 0 ≤ v) (h1 : v < 256) : okBytes (l ++ [v]) = true:=by
 unfold okBytes at h ⊢
 rw [List.all_append,h,Bool.true_and,List.all_cons,List.all_nil,Bool.and_true]
 simp
 omega
theorem genFrame_ex (s0 : List Int) (i s : Int) (hi : 0 ≤ i) (hi2 : i < 100000000) : ∃ e id r d l i' s',Ev (fun k => spec_l1genFrame.f k s0 i s) (e,id,r,d,l,i',s') ∧ FrIn id d l ∧ id < vtop e ∧ 0 ≤ d ∧ d ≤ 15 ∧ (l.length : Int) = dataB r d ∧ i ≤ i' ∧ i' ≤ i + 30:=by
 unfold spec_l1genFrame.f
 obtain ⟨v1,s1,e1,h1,g1⟩:=n_ex s0 i s 2 hi (by omega) (by omega) (by omega)
 obtain ⟨v2,s2,e2,h2,g2⟩:=n_ex s0 (i + 1) s1 4 (by omega) (by omega) (by omega) (by omega)
 obtain ⟨v3,s3,e3,h3,g3⟩:=n_ex s0 (i + 1 + 1) s2 9 (by omega) (by omega) (by omega) (by omega)
 obtain ⟨v4,s4,e4,h4,g4⟩:=n_ex s0 (i + 1 + 1 + 1) s3 6 (by omega) (by omega) (by omega) (by omega)
 obtain ⟨v5,s5,e5,h5,g5⟩:=n_ex s0 (i + 1 + 1 + 1 + 1) s4 16 (by omega) (by omega) (by omega) (by omega)
 have loop : ∀ (E : Bool) (id : Int) (r : Bool) (d n : Int),0 ≤ n → n ≤ 8 → ∀ (b j : Nat) (p q : Int) (l : List Int),(j : Int) + b = n → l.length = j → okBytes l = true → 0 ≤ p → p + 2 * b ≤ 900000000 → ∃ l' p' q',Ev (fun k => spec_l1genFrame.l0 k n (j : Int) s0 p q E id r d l) (E,id,r,d,l',p',q') ∧ okBytes l' = true ∧ (l'.length : Int) = n ∧ p ≤ p' ∧ p' ≤ p + 2 * b:=by
  intro E id r d n hn0 hn8 b
  induction b with
  | zero =>
   intro j p q l hj hl hb hp _
   refine ⟨l,p,q,Ev.step (f:=fun _ => some (E,id,r,d,l,p,q)) (fun k => ?_) (Ev.now _),hb,by omega,by omega,by omega⟩
   simp only [spec_l1genFrame.l0];rw [if_neg (by omega)]
  | succ b ih =>
   intro j p q l hj hl hb hp hp2
   obtain ⟨v,p1,q1,e,k1,k2,k3,k4⟩:=genByte_ex s0 p q hp (by omega)
   obtain ⟨l',p',q',hE,r1,r2,r3,r4⟩:=ih (j + 1) p1 q1 (l ++ [v]) (by omega) (by simp [hl]) (okBytes_snoc hb v k1 k2) (by omega) (by omega)
   refine ⟨l',p',q',Ev.step (f:=fun k => spec_l1genFrame.l0 k n ((j + 1 : Nat) : Int) s0 p1 q1 E id r d (l ++ [v])) (fun k => ?_) hE,r1,r2,by omega,by omega⟩
   simp only [spec_l1genFrame.l0];rw [if_pos (by omega),e,Option.bind_some,if_pos (by omega),w64 (by omega) (by omega)]
   rfl
 have rest : ∀ (E r : Bool) (d p q : Int),0 ≤ d → d ≤ 15 → 0 ≤ p → p ≤ 800000000 → ∃ id l i' s',Ev (fun k => spec_l1genFrame.j0 k s0 p q E 0 r d []) (E,id,r,d,l,i',s') ∧ FrIn id d l ∧ id < vtop E ∧ (l.length : Int) = dataB r d ∧ p ≤ i' ∧ i' ≤ p + 20:=by
  intro E r d p q hd0 hd1 hp hp2
  obtain ⟨id,p1,q1,hE,k1,k2,k3,k4⟩:=genId_ex s0 p q E hp (by omega)
  have hdl : spec_l1dataLen.f E id r d [] = some (dataB r d):=by
   by_cases c : 8 < d
   ·cases r <;> simp [spec_l1dataLen.f,dataB,c]
   ·cases r <;> simp [spec_l1dataLen.f,dataB,c]
  have hb8 : 0 ≤ dataB r d ∧ dataB r d ≤ 8:=by unfold dataB;split <;> (try split) <;> omega
  obtain ⟨l',p',q',hL,r1,r2,r3,r4⟩:=loop E id r d (dataB r d) hb8.1 hb8.2 (dataB r d).toNat 0 p1 q1 [] (by omega) rfl rfl (by omega) (by omega)
  refine ⟨id,l',p',q',Ev.step (f:=fun k => (spec_l1genId.f k s0 p q E).bind fun bt298 => ((spec_l1dataLen.f E bt298.1 r d []).bind fun t301 => (spec_l1genFrame.l0 k t301 0 s0 bt298.2.1 bt298.2.2 E bt298.1 r d []))) (fun k => ?_) (Ev.bind hE (ev_some hdl hL)),⟨k1, ?_,by omega,by omega,r1,by omega⟩,k2,r2,by omega,by omega⟩
  ·simp only [spec_l1genFrame.j0]
  ·cases E <;> simp at k2 <;> omega
 by_cases c : v4 = 0
 ·obtain ⟨id,l,i',s',hE,hf,hv,hl,r3,r4⟩:=rest (v1 == 1) (v2 == 0) v5 (i + 1 + 1 + 1 + 1 + 1) s5 h5 (by omega) (by omega) (by omega)
  exact ⟨_,id,_,_,l,i',s',ev_some e1 (ev_some e2 (ev_some e3 (ev_some rfl (ev_some e4 (ev_pos c (ev_some e5 hE)))))),hf,hv,h5,by omega,hl,by omega,by omega⟩
 ·obtain ⟨id,l,i',s',hE,hf,hv,hl,r3,r4⟩:=rest (v1 == 1) (v2 == 0) v3 (i + 1 + 1 + 1 + 1) s4 h3 (by omega) (by omega) (by omega)
  exact ⟨_,id,_,_,l,i',s',ev_some e1 (ev_some e2 (ev_some e3 (ev_some rfl (ev_some e4 (ev_neg c hE))))),hf,hv,h3,by omega,hl,by omega,by omega⟩
theorem genAny_ex (s0 : List Int) (i s : Int) (hi : 0 ≤ i) (hi2 : i < 100000000) : ∃ e id r d l i' s',Ev (fun k => spec_l1genAny.f k s0 i s) (e,id,r,d,l,i',s') ∧ FrIn id d l ∧ i ≤ i' ∧ i' ≤ i + 32:=by
 unfold spec_l1genAny.f
 obtain ⟨e,id,r,d,l,i1,s1,hE,hf,hv,hd0,hd1,hl,k1,k2⟩:=genFrame_ex s0 i s hi hi2
 obtain ⟨v1,s2,e1,h1,g1⟩:=n_ex s0 i1 s1 5 (by omega) (by omega) (by omega) (by omega)
 have hl8 : l.length ≤ 8:=by
  have : dataB r d ≤ 8:=by unfold dataB;split <;> (try split) <;> omega
  omega
 have f0:=hf.id0;have f1:=hf.id1;have f2:=hf.bytes
 by_cases c : v1 = 0
 ·obtain ⟨v2,s3,e2,h2,g2⟩:=n_ex s0 (i1 + 1) s2 6 (by omega) (by omega) (by omega) (by omega)
  by_cases c0 : v2 = 0
  ·exact ⟨_,_,_,_,_,_,_,Ev.bind hE (ev_some e1 (ev_pos c (ev_some e2 (ev_pos c0 (Ev.now _))))),⟨f0,f1,by (try dsimp only);omega,by (try dsimp only);omega,f2,by (try dsimp only);omega⟩,by simp only [];omega,by simp only [];omega⟩
  by_cases c1 : v2 = 1
  ·exact ⟨_,_,_,_,_,_,_,Ev.bind hE (ev_some e1 (ev_pos c (ev_some e2 (ev_neg c0 (ev_pos c1 (Ev.now _)))))),⟨f0,f1,by (try dsimp only);omega,by (try dsimp only);omega,f2,by (try dsimp only);omega⟩,by simp only [];omega,by simp only [];omega⟩
  by_cases c2 : v2 = 2
  ·exact ⟨_,_,_,_,_,_,_,Ev.bind hE (ev_some e1 (ev_pos c (ev_some e2 (ev_neg c0 (ev_neg c1 (ev_pos c2 (ev_pos (by (try dsimp only);omega) (Ev.now _)))))))),⟨f0,f1,by (try dsimp only);omega,by (try dsimp only);omega,okBytes_snoc f2 1 (by (try dsimp only);omega) (by (try dsimp only);omega),by simp;omega⟩,by simp only [];omega,by simp only [];omega⟩
  by_cases c3 : v2 = 3
  ·exact ⟨_,_,_,_,_,_,_,Ev.bind hE (ev_some e1 (ev_pos c (ev_some e2 (ev_neg c0 (ev_neg c1 (ev_neg c2 (ev_pos c3 (Ev.now _)))))))),⟨by (try dsimp only);omega,by (try dsimp only);omega,by (try dsimp only);omega,by (try dsimp only);omega,f2,by (try dsimp only);omega⟩,by simp only [];omega,by simp only [];omega⟩
  by_cases c4 : v2 = 4
  ·exact ⟨_,_,_,_,_,_,_,Ev.bind hE (ev_some e1 (ev_pos c (ev_some e2 (ev_neg c0 (ev_neg c1 (ev_neg c2 (ev_neg c3 (ev_pos c4 (Ev.now _))))))))),⟨by (try dsimp only);omega,by (try dsimp only);omega,by (try dsimp only);omega,by (try dsimp only);omega,f2,by (try dsimp only);omega⟩,by simp only [];omega,by simp only [];omega⟩
  by_cases c5 : v2 = 5
  ·exact ⟨_,_,_,_,_,_,_,Ev.bind hE (ev_some e1 (ev_pos c (ev_some e2 (ev_neg c0 (ev_neg c1 (ev_neg c2 (ev_neg c3 (ev_neg c4 (ev_pos c5 (Ev.now _)))))))))),⟨f0,f1,by (try dsimp only);omega,by (try dsimp only);omega,f2,by (try dsimp only);omega⟩,by simp only [];omega,by simp only [];omega⟩
  ·exact ⟨_,_,_,_,_,_,_,Ev.bind hE (ev_some e1 (ev_pos c (ev_some e2 (ev_neg c0 (ev_neg c1 (ev_neg c2 (ev_neg c3 (ev_neg c4 (ev_neg c5 (Ev.now _)))))))))),⟨f0,f1,by (try dsimp only);omega,by (try dsimp only);omega,f2,by (try dsimp only);omega⟩,by simp only [];omega,by simp only [];omega⟩
 ·exact ⟨_,_,_,_,_,_,_,Ev.bind hE (ev_some e1 (ev_neg c (Ev.now _))),⟨f0,f1,by (try dsimp only);omega,by (try dsimp only);omega,f2,by (try dsimp only);omega⟩,by simp only [];omega,by simp only [];omega⟩
end Go.Proofs.Ytdoclpgciadjaaa.P

namespace Go.Proofs.Ytdoclpgciadjaaa.P
open Go.RowKit Go.Proofs.YtdoclpgciadjaaaW.PrintWords Go.Proofs.YtdoclpgciadjaaaW.PrintLast Go.Proofs.YtdoclpgciadjaaaW.PrintMore
set_option linter.unusedVariables false
set_option linter.unusedSimpArgs false
def laws_markByteS.l0 : Nat → List Int → Int → Int → Option (Int × List Int)
 | 0,_,_,_ => none
 | k + 1,x0,x1,x5 => if x5 < (x0.length : Int) then (if 0 ≤ x5 then (laws_markByteS.l0 k (x0.set (x5 : Int).toNat ((x1) % 256)) (wrap64 (x1 + 1)) (wrap64 (x5 + 1))) else (none)) else (some (x1,x0))
def laws_markByteS.f (k : Nat) (l0 : List Int) (a1 : Int) : Option (Int × List Int):=laws_markByteS.l0 k l0 a1 0
end Go.Proofs.Ytdoclpgciadjaaa.P

namespace Go.Proofs.Ytdoclpgciadjaaa.P
open Go.RowKit Go.Proofs.YtdoclpgciadjaaaW.PrintWords Go.Proofs.YtdoclpgciadjaaaW.PrintLast Go.Proofs.YtdoclpgciadjaaaW.PrintMore
set_option linter.unusedVariables false
set_option linter.unusedSimpArgs false
def laws_markFrame.f (k : Nat) (a0_0 : Bool) (a0_1 : Int) (a0_2 : Bool) (a0_3 : Int) (l0_4 : List Int) (a1 : Int) : Option (Int × List Int):=(laws_markByteS.f k l0_4 a1).bind fun bt146 => (some (bt146.1,bt146.2))
end Go.Proofs.Ytdoclpgciadjaaa.P

namespace Go.Proofs.Ytdoclpgciadjaaa.P
open Go Go.RowKit Go.Proofs.YtdoclpgciadjaaaW.PrintWords
set_option linter.unusedVariables false
end Go.Proofs.Ytdoclpgciadjaaa.P

namespace Go.Proofs.Ytdoclpgciadjaaa.P
open Go.RowKit Go.Proofs.YtdoclpgciadjaaaW.PrintWords Go.Proofs.YtdoclpgciadjaaaW.PrintLast Go.Proofs.YtdoclpgciadjaaaW.PrintMore
set_option linter.unusedVariables false
set_option linter.unusedSimpArgs false
def laws_heldByteS.l0 : Nat → List Int → Int → Int → Option (Int)
 | 0,_,_,_ => none
 | k + 1,x0,x1,x5 => if x5 < (x0.length : Int) then (if 0 ≤ x5 then (if (rd x0 x5) = ((x1) % 256) then (laws_heldByteS.l0 k x0 (wrap64 (x1 + 1)) (wrap64 (x5 + 1))) else (some (-1))) else (none)) else (some x1)
def laws_heldByteS.f (k : Nat) (l0 : List Int) (a1 : Int) : Option (Int):=laws_heldByteS.l0 k l0 a1 0
end Go.Proofs.Ytdoclpgciadjaaa.P

namespace Go.Proofs.Ytdoclpgciadjaaa.P
open Go.RowKit Go.Proofs.YtdoclpgciadjaaaW.PrintWords Go.Proofs.YtdoclpgciadjaaaW.PrintLast Go.Proofs.YtdoclpgciadjaaaW.PrintMore
set_option linter.unusedVariables false
set_option linter.unusedSimpArgs false
def laws_heldFrame.f (k : Nat) (a0_0 : Bool) (a0_1 : Int) (a0_2 : Bool) (a0_3 : Int) (l0_4 : List Int) (a1 : Int) : Option (Int):=(laws_heldByteS.f k l0_4 a1).bind fun t189 => (if t189 < 0 then (some (-1)) else (some t189))
end Go.Proofs.Ytdoclpgciadjaaa.P

namespace Go.Proofs.Ytdoclpgciadjaaa.P
open Go Go.RowKit Go.Proofs.YtdoclpgciadjaaaW.PrintWords
set_option linter.unusedVariables false
end Go.Proofs.Ytdoclpgciadjaaa.P

namespace Go.Proofs.Ytdoclpgciadjaaa.P
open Go.RowKit Go.Proofs.YtdoclpgciadjaaaW.PrintWords Go.Proofs.YtdoclpgciadjaaaW.PrintLast Go.Proofs.YtdoclpgciadjaaaW.PrintMore
set_option linter.unusedVariables false
set_option linter.unusedSimpArgs false
end Go.Proofs.Ytdoclpgciadjaaa.P

namespace Go.Proofs.Ytdoclpgciadjaaa.P
open Go.RowKit Go.Proofs.YtdoclpgciadjaaaW.PrintWords Go.Proofs.YtdoclpgciadjaaaW.PrintLast Go.Proofs.YtdoclpgciadjaaaW.PrintMore
set_option linter.unusedVariables false
set_option linter.unusedSimpArgs false
def laws_toByteS.l0 : Nat → List Int → List Int → Int → Option (List Int)
 | 0,_,_,_ => none
 | k + 1,x0,x3,x4 => if x4 < (x0.length : Int) then (if 0 ≤ x4 then (if x4 < (x3.length : Int) then (laws_toByteS.l0 k x0 (x3.set (x4 : Int).toNat (rd x0 x4)) (wrap64 (x4 + 1))) else (none)) else (none)) else (some x3)
end Go.Proofs.Ytdoclpgciadjaaa.P

namespace Go.Proofs.Ytdoclpgciadjaaa.P
open Go.RowKit Go.Proofs.YtdoclpgciadjaaaW.PrintWords Go.Proofs.YtdoclpgciadjaaaW.PrintLast Go.Proofs.YtdoclpgciadjaaaW.PrintMore
set_option linter.unusedVariables false
set_option linter.unusedSimpArgs false
def laws_eqByteS.l0 : Nat → List Int → List Int → Int → Option (Bool)
 | 0,_,_,_ => none
 | k + 1,x0,x1,x5 => if x5 < (x0.length : Int) then (if 0 ≤ x5 then (if x5 < (x1.length : Int) then (if (rd x0 x5) = (rd x1 x5) then (laws_eqByteS.l0 k x0 x1 (wrap64 (x5 + 1))) else (some false)) else (none)) else (none)) else (some true)
def laws_eqByteS.f (k : Nat) (l0 : List Int) (l1 : List Int) : Option (Bool):=if (l0.length : Int) = (l1.length : Int) then (laws_eqByteS.l0 k l0 l1 0) else (some false)
end Go.Proofs.Ytdoclpgciadjaaa.P

namespace Go.Proofs.Ytdoclpgciadjaaa.P
open Go Go.RowKit Go.Proofs.YtdoclpgciadjaaaW.PrintWords
set_option linter.unusedVariables false
end Go.Proofs.Ytdoclpgciadjaaa.P

namespace Go.Proofs.Ytdoclpgciadjaaa.P
open Go.RowKit Go.Proofs.YtdoclpgciadjaaaW.PrintWords Go.Proofs.YtdoclpgciadjaaaW.PrintLast Go.Proofs.YtdoclpgciadjaaaW.PrintMore
set_option linter.unusedVariables false
set_option linter.unusedSimpArgs false
end Go.Proofs.Ytdoclpgciadjaaa.P

namespace Go.Proofs.Ytdoclpgciadjaaa.P
open Go.RowKit Go.Proofs.YtdoclpgciadjaaaW.PrintWords Go.Proofs.YtdoclpgciadjaaaW.PrintLast Go.Proofs.YtdoclpgciadjaaaW.PrintMore
set_option linter.unusedVariables false
set_option linter.unusedSimpArgs false
end Go.Proofs.Ytdoclpgciadjaaa.P

namespace Go.Proofs.Ytdoclpgciadjaaa.P
open Go.RowKit Go.Proofs.YtdoclpgciadjaaaW.PrintWords Go.Proofs.YtdoclpgciadjaaaW.PrintLast Go.Proofs.YtdoclpgciadjaaaW.PrintMore
set_option linter.unusedVariables false
set_option linter.unusedSimpArgs false
def laws_eqFrame.f (k : Nat) (a0_0 : Bool) (a0_1 : Int) (a0_2 : Bool) (a0_3 : Int) (l0_4 : List Int) (a1_0 : Bool) (a1_1 : Int) (a1_2 : Bool) (a1_3 : Int) (l1_4 : List Int) : Option (Bool):=if (a0_0 != a1_0) = true then (some false) else (if a0_1 = a1_1 then (if (a0_2 != a1_2) = true then (some false) else (if a0_3 = a1_3 then ((laws_eqByteS.f k l0_4 l1_4).bind fun t143 => (if t143 = true then (some true) else (some false))) else (some false))) else (some false))
end Go.Proofs.Ytdoclpgciadjaaa.P

namespace Go.Proofs.Ytdoclpgciadjaaa.P
open Go Go.RowKit Go.Proofs.YtdoclpgciadjaaaW.PrintWords
set_option linter.unusedVariables false
end Go.Proofs.Ytdoclpgciadjaaa.P

namespace Go.Proofs.Ytdoclpgciadjaaa.P
open Go Go.RowKit Go.Proofs.YtdoclpgciadjaaaW.PrintWords
set_option linter.unusedVariables false
section
variable {P : Program} {ops : Array Oper} {rest : List Oper} {o : Oper} {a : Act} {Q : Exit → Act → World → Prop}
end
theorem Tch.blk {w w' : World} {S : Nat → Prop} {k : Nat} {o : Obj} (h : Tch w w' S) (hk : w.heap[k]? = some o) (hn : ¬ S k) : w'.heap[k]? = some o:=blk_kept hk h.kept hn
section
variable {α : Type} {d : Kd α} {e base g T : Nat} {w w' : World} {ok : Nat → Prop} {v : Value} {xs : List α} {cells : Array Value}
end
end Go.Proofs.Ytdoclpgciadjaaa.P

namespace Go.Proofs.Ytdoclpgciadjaaa.P
open Go.RowKit Go.Proofs.YtdoclpgciadjaaaW.PrintWords Go.Proofs.YtdoclpgciadjaaaW.PrintLast Go.Proofs.YtdoclpgciadjaaaW.PrintMore
set_option linter.unusedVariables false
set_option linter.unusedSimpArgs false
end Go.Proofs.Ytdoclpgciadjaaa.P

namespace Go.Proofs.Ytdoclpgciadjaaa.P
open Go.RowKit Go.Proofs.YtdoclpgciadjaaaW.PrintWords Go.Proofs.YtdoclpgciadjaaaW.PrintLast Go.Proofs.YtdoclpgciadjaaaW.PrintMore
set_option linter.unusedVariables false
set_option linter.unusedSimpArgs false
def laws_FnExactDecode.j0 : Nat → ByteArray → Int → Bool → Bool → Int → Bool → Int → List Int → Bool → Int → Bool → Int → List Int → Option (Bool)
 | 0,_,_,_,_,_,_,_,_,_,_,_,_,_ => none
 | k + 1,x0,x4,x32,x199000,x199001,x199002,x199003,x199004,x208000,x208001,x208002,x208003,x208004 => if x32 = true then (some false) else ((laws_markFrame.f k x208000 x208001 x208002 x208003 x208004 1).bind fun bt209 => ((laws_heldFrame.f k x208000 x208001 x208002 x208003 bt209.2 1).bind fun t211 => (if t211 < 0 then (some false) else (if t211 = bt209.1 then ((impl_Decode.f x0).bind fun bt212 => ((laws_eqFrame.f k bt212.1 bt212.2.1 bt212.2.2.1 bt212.2.2.2.1 bt212.2.2.2.2.1 x199000 x199001 x199002 x199003 x199004).bind fun t221 => (if t221 = true then (if bt212.2.2.2.2.2 = x4 then (some true) else (some false)) else (some false)))) else (some false)))))
end Go.Proofs.Ytdoclpgciadjaaa.P

namespace Go.Proofs.Ytdoclpgciadjaaa.Pure
open Go Go.RowKit Go.Proofs.Ytdoclpgciadjaaa.P Go.Proofs.YtdoclpgciadjaaaW.PrintWords
set_option linter.unusedVariables false
theorem walkV_data (a0 : ByteArray) (h : (walkV a0).code = 1 ∨ (walkV a0).code = 2) : (walkV a0).data.length ≤ 8:=by
 obtain ⟨R,hR,hS⟩:=specwalk_ev a0
 obtain ⟨H,D,X,Z,e,r,i,K⟩:=hS.dec h
 have hD : Bits D:=fun x hx => K.bits x (by rw [K.eq];simp [hx])
 have hn:=dataB_range (r:=r) (V_range hD).1
 rw [K.tx,bytesB_length]
 have:=K.xl
 omega
theorem implDecode_eq (a0 : ByteArray) : impl_Decode.f a0 = some (decodeV a0):=by
 unfold impl_Decode.f impl_walkOver.f decodeV
 simp only [Option.bind_some]
 have hd:=walkV_data a0
 by_cases h1 : (walkV a0).code = 1
 ·have hd:=hd (.inl h1)
  rw [if_pos h1,if_pos (.inl h1)]
  unfold impl_copyFrame.f
  simp only [Option.bind_some]
  rw [if_pos (by simp;omega)]
  simp
 by_cases h2 : (walkV a0).code = 2
 ·have hd:=hd (.inr h2)
  rw [if_neg h1,if_pos h2,if_pos (.inr h2)]
  unfold impl_copyFrame.f
  simp only [Option.bind_some]
  rw [if_pos (by simp;omega)]
  simp
 ·rw [if_neg h1,if_neg h2,if_neg (by rintro (h | h);exact h1 h;exact h2 h)]
end Go.Proofs.Ytdoclpgciadjaaa.Pure

namespace Go.Proofs.Ytdoclpgciadjaaa.Pure
open Go Go.RowKit Go.Proofs.Ytdoclpgciadjaaa.P Go.Proofs.YtdoclpgciadjaaaW.PrintWords Go.Proofs.YtdoclpgciadjaaaW.PrintLast Go.Proofs.YtdoclpgciadjaaaW.PrintMore
set_option linter.unusedVariables false
theorem drawEncode_ex (l : List Int) (hl : l.length ≤ 10000000) : ∃ e id r d x,Ev (fun k => spec_DrawEncode.f k l) (e,id,r,d,x) ∧ FrIn id d x:=by
 unfold spec_DrawEncode.f spec_l1new.f
 obtain ⟨e,id,r,d,x,i',s',hE,hf, -⟩:=genAny_ex l 0 (IntKind.u64.wrap ((IntKind.u64.wrap ((l.length : Int))) + 77)) (by omega) (by omega)
 exact ⟨e,id,r,d,x,ev_some rfl (Ev.bind hE (Ev.now _)),hf⟩
theorem wFrame_ev (e : Bool) (i : Int) (r : Bool) (d : Int) (l : List Int) (hl : l.length ≤ 10000000) : Ev (fun k => laws_wFrame.f k e i r d l e i r d l) true:=by
 have loop : ∀ (q j : Nat),j + q = l.length → Ev (fun k => laws_wFrame.l0 k (j : Int) e i r d l e i r d l) true:=by
  intro q
  induction q with
  | zero =>
   intro j hj
   refine Ev.step (f:=fun _ => some true) (fun k => ?_) (Ev.now _)
   simp only [laws_wFrame.l0]
   rw [if_neg (by omega)]
  | succ q ih =>
   intro j hj
   refine Ev.step (f:=fun k => laws_wFrame.l0 k ((j + 1 : Nat) : Int) e i r d l e i r d l) (fun k => ?_) (ih (j + 1) (by omega))
   simp only [laws_wFrame.l0]
   rw [if_pos (by omega),if_pos (by omega),if_pos (by omega),if_pos trivial,w64 (by omega) (by omega)];rfl
 refine Ev.congr (fun k => by unfold laws_wFrame.f;rw [if_neg (by simp),if_pos rfl,if_neg (by simp),if_pos rfl,bne_self_eq_false]) ?_
 refine Ev.step (f:=fun k => laws_wFrame.l0 k ((0 : Nat) : Int) e i r d l e i r d l) (fun k => ?_) (loop l.length 0 (by omega))
 simp only [laws_wFrame.j0]
 rw [if_neg (by simp)];rfl
theorem judgeV_code (a0 : ByteArray) : (judgeV a0).1 = (walkV a0).code:=by unfold judgeV;split <;> rfl
theorem stuffS_two : ∀ (l : List Int) (run last : Int),(stuffS l run last).length ≤ 2 * l.length:=by
 intro l
 induction l with
 | nil => intro run last;simp [stuffS]
 | cons c l ih =>
  intro run last
  rw [stuffS]
  by_cases h : (if c = last then run + 1 else 1) = 5
  ·rw [if_pos h];have:=ih 1 (97 - c);simp;omega
  ·rw [if_neg h];have:=ih (if c = last then run + 1 else 1) c;simp;omega
theorem walkV_str {L : List Int} (hb : Bits L) (hl : L.length ≤ 4000) : walkV (strOfNums L) = walkG L startW:=by
 unfold walkV
 rw [if_pos ⟨by rw [strOfNums_size];exact hl,isBits_str hb⟩,bytes_str L hb.range]
theorem tl_bits (a : Int) (ha : a = 48 ∨ a = 49) : Bits (tl a):=fun x hx => by simp [tl] at hx;omega
theorem ones_tl : onesL = tl 49:=rfl
theorem flip_eq {S : List Int} (hb : Bits S) (hS : S.length ≤ 1000) : laws_wFlip.f (strOfNums (S ++ tl 49)) ((S.length : Int) + 1) = some (strOfNums (S ++ tl 48)):=by
 have hsz : (strOfNums (S ++ tl 49)).size = S.length + 10:=by rw [strOfNums_size,List.length_append];rfl
 have hbt : bt (strOfNums (S ++ tl 49)) ((S.length + 1 : Nat) : Int) = 49:=by
  rw [bt_str _ _ (by rw [List.length_append];show _ < S.length + 10;omega) (hb.append (tl_bits 49 (.inr rfl))).range]
  have:=rd_app_at (S ++ [49]) [49,49,49,49,49,49,49,49] 49
  rw [List.length_append,List.append_assoc] at this
  exact this
 have e1 : (strOfNums (S ++ tl 49)).extract 0 (S.length + 1) = strOfNums (S ++ [49]):=by
  rw [str_extract _ _ _ (by omega),List.drop_zero,Nat.sub_zero,List.take_length_add_append];rfl
 have e2 : (strOfNums (S ++ tl 49)).extract (S.length + 1 + 1) (S.length + 10) = strOfNums [49,49,49,49,49,49,49,49]:=by
  rw [str_extract _ _ _ (by omega),show S.length + 1 + 1 = S.length + 2 by omega,List.drop_length_add_append]
  congr 1
  rw [show S.length + 10 - (S.length + 2) = 8 by omega];rfl
 have z48 : (⟨#[48]⟩ : ByteArray) = strOfNums [48]:=rfl
 unfold laws_wFlip.f
 rw [if_pos ⟨by omega,by rw [hsz];omega,by rw [hsz];omega⟩,show ((S.length : Int) + 1).toNat = S.length + 1 by omega]
 unfold flipS
 rw [if_pos hbt,hsz,e1,e2,z48, ← str_append, ← str_append]
 congr 2
 rw [List.append_assoc,List.append_assoc]
 rfl
theorem bad_arb {e : Bool} {i : Int} {r : Bool} {d : Int} {l : List Int} (hq : 0 ≤ i ∧ okBytes l = true) (hv : validF e i r d l.length = false) : impl_Arb.f e i r d l = some (⟨#[]⟩ : ByteArray):=by
 have h1 : impl_Body.f e i r d l = some (⟨#[]⟩ : ByteArray):=by unfold impl_Body.f bodyV;rw [if_pos hq,hv];rfl
 unfold impl_Arb.f
 rw [h1,Option.bind_some,if_pos (by rw [ByteArray.toList_eq])]
theorem FnImage : laws_FnImage.Pure:=by
 intro z hz _ hzb
 refine Ev.rounds ?_
 unfold laws_FnImage.f
 by_cases c : (z.length : Int) > 1048576
 ·exact ev_pos c (Ev.now _)
 obtain ⟨e,i,r,d,l,hD,hF⟩:=drawEncode_ex z (by omega)
 have hq : 0 ≤ i ∧ okBytes l = true:=⟨hF.id0,hF.bytes⟩
 have hE : impl_Encode.f e i r d l = some (encodeV e i r d l):=by unfold impl_Encode.f;rw [if_pos hq]
 refine ev_neg c (Ev.bind hD (ev_some hE (Ev.bind (specValid_ev e i r d l) ?_)))
 simp only []
 cases hv : validF e i r d l.length with
 | false =>
  have h0 : encodeV e i r d l = (⟨#[]⟩ : ByteArray):=by unfold encodeV;rw [hv];rfl
  rw [h0]
  refine ev_neg (by decide) (ev_pos (by rw [ByteArray.toList_eq]) ?_)
  refine ev_some (b:=false) (by unfold impl_ValidFrame.f;rw [hv]) (ev_neg (by decide) (ev_some (bad_arb hq hv) ?_))
  refine Ev.congr (fun k => ?_) (Ev.now true)
  rw [ByteArray.toList_eq];rfl
 | true =>
  obtain ⟨h1,h2,h3,h4,h5⟩:=valid_parts hv
  obtain ⟨K,hVd,hbX,hcr⟩:=frame_parts hq hv
  have hP:=plainL_bits e i r d l
  have hPl:=plainL_length e i r d l h5
  generalize hSS : stuffS (plainL e i r d l) 0 120 = S at *
  have hSl : S.length ≤ 236:=by rw [← hSS];have:=stuffS_two (plainL e i r d l) 0 120;omega
  have hSb : Bits S:=by rw [← hSS];exact stuffS_bits _ _ _ hP
  have himg : encodeV e i r d l = strOfNums (S ++ tl 49):=by unfold encodeV;rw [hv,if_pos rfl,stuffL_eq,hSS,ones_tl]
  have hiw:=fun a ha => image_walk K hcr a ha
  rw [hSS] at hiw
  have hlen : ∀ a,(S ++ tl a).length = S.length + 10:=fun a => by rw [List.length_append];rfl
  have hLb : ∀ a,(a = 48 ∨ a = 49) → Bits (S ++ tl a):=fun a ha => hSb.append (tl_bits a ha)
  have hdec : ∀ a,(a = 48 ∨ a = 49) → decodeV (strOfNums (S ++ tl a)) = (e,i,r,d,l,2):=by
   intro a ha
   obtain ⟨_,g1,g2,g3,g4,g5,g6⟩:=hiw a ha
   unfold decodeV
   rw [walkV_str (hLb a ha) (by rw [hlen];omega)]
   simp only [g1,g2,g3,g4,g5,g6,hVd,hbX]
   rfl
  have hsz : (strOfNums (S ++ tl 49)).size = S.length + 10:=by rw [strOfNums_size,hlen]
  have hi1:=implDecode_eq (strOfNums (S ++ tl 49))
  have hi2:=implDecode_eq (strOfNums (S ++ tl 48))
  rw [hdec 49 (.inr rfl)] at hi1
  rw [hdec 48 (.inl rfl)] at hi2
  have hw:=wFrame_ev e i r d l (by omega)
  have hfl:=flip_eq hSb (by omega)
  have w9 : wrap64 (((S.length + 10 : Nat) : Int) - 9) = (S.length : Int) + 1:=by unfold wrap64;omega
  have hsE:=specEncode_ev (e:=e) (i:=i) (r:=r) (d:=d) (l:=l) hq
  rw [himg] at hsE ⊢
  rw [hsz]
  refine ev_pos rfl (Ev.bind hsE (ev_pos (by rw [hsz]) (ev_some hi1 ?_)))
  rw [w9]
  refine ev_some hfl (ev_some hi2 (ev_pos rfl (ev_pos rfl (Ev.bind hw (ev_pos rfl (Ev.bind hw ?_))))))
  have hJ : ∀ j : Nat,j < S.length + 10 → impl_Judge.f ((strOfNums (S ++ tl 49)).extract 0 j) = some (judgeV ((strOfNums (S ++ tl 49)).extract 0 j)) ∧ ((judgeV ((strOfNums (S ++ tl 49)).extract 0 j)).1 = 0 ∨ ((judgeV ((strOfNums (S ++ tl 49)).extract 0 j)).1 = 1 ∧ j = S.length + 9)):=by
   intro j hj
   refine ⟨rfl, ?_⟩
   rw [judgeV_code,str_extract _ _ _ (by omega),List.drop_zero,Nat.sub_zero]
   have hbt : Bits ((S ++ tl 49).take j):=fun x hx => hLb 49 (.inr rfl) x (List.mem_of_mem_take hx)
   rw [walkV_str hbt (by rw [List.length_take,hlen];omega)]
   have hdl : ((S ++ tl 49).drop j).length = S.length + 10 - j:=by rw [List.length_drop,hlen]
   rcases (hiw 49 (.inr rfl)).1 ((S ++ tl 49).take j) ((S ++ tl 49).drop j) (List.take_append_drop _ _).symm (by intro h;rw [h] at hdl;simp at hdl;omega) with h | ⟨h,h2⟩
   ·exact .inl h
   ·exact .inr ⟨h,by omega⟩
  have hB : impl_Body.f e i r d l = some (strOfNums (bodyL e i r d l)):=by unfold impl_Body.f bodyV;rw [if_pos hq,hv];rfl
  have hB2 : spec_Body.f e i r d l = some (strOfNums (bodyL e i r d l)):=by unfold spec_Body.f bodyV;rw [if_pos hq,hv];rfl
  have hbl:=bodyL_length e i r d l h5
  have hbb:=bodyL_bits e i r d l
  have hC : impl_Crc15.f (strOfNums (bodyL e i r d l)) = some ((crcL (bodyL e i r d l) : Nat) : Int):=by
   unfold impl_Crc15.f
   rw [if_pos ⟨by rw [strOfNums_size];omega,isBits_str hbb⟩,crcOf_str hbb]
  have hcl:=crcL_lt (bodyL e i r d l)
  have hwb:=wBits_ev (crcL (bodyL e i r d l)) 15 (by omega) (by omega)
  have hex : (strOfNums (S ++ tl 49)).extract 0 S.length = strOfNums S:=str_extract_left S (tl 49)
  have hDs : impl_Destuff.f (strOfNums S) = some (strOfNums (plainL e i r d l), -1):=by
   unfold impl_Destuff.f destuffV
   rw [if_pos ⟨by rw [strOfNums_size];omega,isBits_str hSb⟩,bytes_str S hSb.range, ← hSS, ← stuffL_eq,destuff_stuff]
  have w10 : wrap64 (((S.length + 10 : Nat) : Int) - 10) = (S.length : Int):=by unfold wrap64;omega
  have w1 : wrap64 (((S.length + 10 : Nat) : Int) - 1) = (S.length : Int) + 9:=by unfold wrap64;omega
  have loop : ∀ (q j : Nat),j + q = S.length + 10 → Ev (fun k => laws_FnImage.l0 k (strOfNums (S ++ tl 49)) (j : Int) e i r d l) true:=by
   intro q
   induction q with
   | zero =>
    intro j hj
    refine Ev.step (fun k => by simp only [laws_FnImage.l0];rw [hsz,if_neg (by omega),w10]) (ev_some hB (ev_pos (show (0 : Int) ≤ (S.length : Int) by omega) (ev_pos (show (S.length : Int) ≤ ((S.length + 10 : Nat) : Int) by omega) ?_)))
    rw [Int.toNat_natCast,hex]
    refine ev_some hDs (ev_some hC (Ev.bind hwb (ev_pos (by rw [strOfNums_size,strOfNums_size,numL_length];omega) ?_)))
    rw [← str_append]
    refine ev_pos rfl (ev_pos rfl (ev_some hB2 ?_))
    refine Ev.congr (fun k => ?_) (Ev.now true)
    simp
   | succ q ih =>
    intro j hj
    obtain ⟨g1,g2⟩:=hJ j (by omega)
    refine Ev.step (fun k => by simp only [laws_FnImage.l0];rw [hsz,if_pos (by omega),if_pos (by omega),if_pos (by omega),Int.toNat_natCast,w1,w64 (x:=(j : Int) + 1) (by omega) (by omega)]) (ev_some g1 ?_)
    have hn:=ih (j + 1) (by omega)
    rcases g2 with h | ⟨h,hj9⟩
    ·exact ev_pos h hn
    ·exact ev_neg (by rw [h];decide) (ev_pos h (ev_pos (by omega) hn))
  refine Ev.step (f:=fun k => laws_FnImage.l0 k (strOfNums (S ++ tl 49)) ((0 : Nat) : Int) e i r d l) (fun k => ?_) (loop (S.length + 10) 0 (by omega))
  simp only [laws_FnImage.j0]
  rw [if_neg (by simp)];rfl
end Go.Proofs.Ytdoclpgciadjaaa.Pure
