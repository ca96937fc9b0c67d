/- Texts of the proof of FnFiveFlips, joined. -/
import Derived.Test.YtdoclpgciadjaaaSFnFiveFlips23
import Derived.Test.YtdoclpgciadjaaaSFnFiveFlips21
import Derived.ChangeKeysEq
import Derived.Test.YtdoclpgciadjaaaSFnFiveFlips22
import Derived.Test.YtdoclpgciadjaaaSFnFiveFlips24
import Derived.Deep.MidRow
import Derived.Test.YtdoclpgciadjaaaSFnFiveFlips28
import Derived.Test.YtdoclpgciadjaaaSFnFiveFlips25
import Derived.Test.YtdoclpgciadjaaaSFnFiveFlips29
import Derived.Deep.RegionHeld
import Derived.Deep.RegionLaw
import Derived.Test.YtdoclpgciadjaaaSFnFiveFlips27
import Derived.Test.YtdoclpgciadjaaaSFnFiveFlips30
import Derived.Test.YtdoclpgciadjaaaSFnFiveFlips26
namespace Go.Proofs.Ytdoclpgciadjaaa.P
open Go Go.RowKit Go.Proofs.YtdoclpgciadjaaaW.PrintWords Go.Proofs.YtdoclpgciadjaaaW.PrintLast
set_option linter.unusedVariables false
theorem u64_range (x : Int) : 0 ≤ IntKind.u64.wrap x ∧ IntKind.u64.wrap x < 18446744073709551616:=by rw [IntKind.wrap_u64];omega
theorem pick_range (X a : Int) (h0 : 0 ≤ X) (h1 : X < 18446744073709551616) (ha : 1 ≤ a) (hb : a ≤ 900000000) : 0 ≤ wrap64 (Int.tmod (X / 8589934592) (IntKind.u64.wrap a)) ∧ wrap64 (Int.tmod (X / 8589934592) (IntKind.u64.wrap a)) < a:=by
 rw [show IntKind.u64.wrap a = a by rw [IntKind.wrap_u64];omega,Int.tmod_eq_emod_of_nonneg (by omega)]
 have h2:=Int.emod_nonneg (X / 8589934592) (show a ≠ 0 by omega)
 have h3:=Int.emod_lt_of_pos (X / 8589934592) (show 0 < a by omega)
 rw [w64 h2 (by omega)]
 exact ⟨h2,h3⟩
theorem n_ex (s0 : List Int) (i s a : Int) (hi : 0 ≤ i) (hi2 : i < 100000000000) (ha : 1 ≤ a) (hb : a ≤ 900000000) : ∃ v s',spec_l1src_n.f s0 i s a = some (v,i + 1,s') ∧ 0 ≤ v ∧ v < a:=by
 have hw : wrap64 (i + 1) = i + 1:=by unfold wrap64;omega
 have hn : ¬ IntKind.u64.wrap a = 0:=by rw [IntKind.wrap_u64];omega
 unfold spec_l1src_n.f
 rw [hw]
 by_cases c : i < (s0.length : Int)
 ·rw [if_pos c,if_pos hi]
  by_cases c1 : a ≤ 1
  ·rw [if_pos c1];exact ⟨_,_,rfl,by omega,by omega⟩
  ·rw [if_neg c1,if_neg hn]
   refine ⟨_,_,rfl, ?_⟩
   exact pick_range _ a (u64_range _).1 (u64_range _).2 ha hb
 ·rw [if_neg c]
  by_cases c1 : a ≤ 1
  ·rw [if_pos c1];exact ⟨_,_,rfl,by omega,by omega⟩
  ·rw [if_neg c1,if_neg hn]
   refine ⟨_,_,rfl, ?_⟩
   exact pick_range _ a (u64_range _).1 (u64_range _).2 ha hb
end Go.Proofs.Ytdoclpgciadjaaa.P

namespace Go.Proofs.Ytdoclpgciadjaaa.P
open Go Go.RowKit Go.Proofs.YtdoclpgciadjaaaW.PrintWords Go.Proofs.YtdoclpgciadjaaaW.PrintLast
set_option linter.unusedVariables false
theorem genByte_ex (s0 : List Int) (i s : Int) (hi : 0 ≤ i) (hi2 : i < 1000000000) : ∃ v i' s',spec_l1genByte.f s0 i s = some (v,i',s') ∧ 0 ≤ v ∧ v < 256 ∧ i ≤ i' ∧ i' ≤ i + 2:=by
 unfold spec_l1genByte.f
 obtain ⟨v,s1,e,h1,h2⟩:=n_ex s0 i s 4 hi (by omega) (by omega) (by omega)
 rw [e,Option.bind_some]
 by_cases c : v = 0
 ·rw [if_pos c];exact ⟨_,_,_,rfl,by omega,by omega,by simp only [];omega,by simp only [];omega⟩
 ·rw [if_neg c]
  by_cases c1 : v = 1
  ·rw [if_pos c1];exact ⟨_,_,_,rfl,by omega,by omega,by simp only [];omega,by simp only [];omega⟩
  ·rw [if_neg c1]
   obtain ⟨q,s2,e2,h3,h4⟩:=n_ex s0 (i + 1) s1 256 (by omega) (by omega) (by omega) (by omega)
   simp only []
   rw [e2,Option.bind_some]
   exact ⟨_,_,_,rfl,by simp only [];omega,by simp only [];omega,by simp only [];omega,by simp only [];omega⟩
theorem genId_ex (s0 : List Int) (i s : Int) (e : Bool) (hi : 0 ≤ i) (hi2 : i < 1000000000) : ∃ v i' s',Ev (fun k => spec_l1genId.f k s0 i s e) (v,i',s') ∧ 0 ≤ v ∧ v < (if e = true then 536870912 else 2048) ∧ i ≤ i' ∧ i' ≤ i + 2:=by
 have key : ∀ top : Int,(top = 536870912 ∨ top = 2048) → ∃ v i' s',Ev (fun k => spec_l1genId.j0 k top s0 i s) (v,i',s') ∧ 0 ≤ v ∧ v < top ∧ i ≤ i' ∧ i' ≤ i + 2:=by
  intro top ht
  obtain ⟨v,s1,e1,h1,h2⟩:=n_ex s0 i s 6 hi (by omega) (by omega) (by omega)
  obtain ⟨q,s2,e2,h3,h4⟩:=n_ex s0 (i + 1) s1 8 (by omega) (by omega) (by omega) (by omega)
  obtain ⟨q3,s3,e3,h5,h6⟩:=n_ex s0 (i + 1) s1 64 (by omega) (by omega) (by omega) (by omega)
  obtain ⟨q4,s4,e4,h7,h8⟩:=n_ex s0 (i + 1) s1 top (by omega) (by omega) (by omega) (by omega)
  have hw : wrap64 (top - 1) = top - 1:=w64 (by omega) (by omega)
  have hw2 : wrap64 (top - 1 - q3) = top - 1 - q3:=w64 (by omega) (by omega)
  by_cases c : v = 0
  ·refine ⟨0,i + 1,s1,Ev.step (f:=fun _ => some (0,i + 1,s1)) (fun k => ?_) (Ev.now _),by omega,by omega,by omega,by omega⟩
   simp only [spec_l1genId.j0];rw [e1,Option.bind_some,if_pos c]
  by_cases c1 : v = 1
  ·refine ⟨(top - 1) % 4294967296,i + 1,s1,Ev.step (f:=fun _ => some ((top - 1) % 4294967296,i + 1,s1)) (fun k => ?_) (Ev.now _),by omega,by omega,by omega,by omega⟩
   simp only [spec_l1genId.j0];rw [e1,Option.bind_some,if_neg c,if_pos c1,hw]
  by_cases c2 : v = 2
  ·refine ⟨q % 4294967296,i + 1 + 1,s2,Ev.step (f:=fun _ => some (q % 4294967296,i + 1 + 1,s2)) (fun k => ?_) (Ev.now _),by omega,by omega,by omega,by omega⟩
   simp only [spec_l1genId.j0];rw [e1,Option.bind_some,if_neg c,if_neg c1,if_pos c2,e2,Option.bind_some]
  by_cases c3 : v = 3
  ·refine ⟨(top - 1 - q3) % 4294967296,i + 1 + 1,s3,Ev.step (f:=fun _ => some ((top - 1 - q3) % 4294967296,i + 1 + 1,s3)) (fun k => ?_) (Ev.now _),by omega,by omega,by omega,by omega⟩
   simp only [spec_l1genId.j0];rw [e1,Option.bind_some,if_neg c,if_neg c1,if_neg c2,if_pos c3,e3,Option.bind_some,hw,hw2]
  ·refine ⟨q4 % 4294967296,i + 1 + 1,s4,Ev.step (f:=fun _ => some (q4 % 4294967296,i + 1 + 1,s4)) (fun k => ?_) (Ev.now _),by omega,by omega,by omega,by omega⟩
   simp only [spec_l1genId.j0];rw [e1,Option.bind_some,if_neg c,if_neg c1,if_neg c2,if_neg c3,e4,Option.bind_some]
 unfold spec_l1genId.f
 cases e with
 | true =>
  obtain ⟨v,i',s',h,r⟩:=key 536870912 (.inl rfl)
  exact ⟨v,i',s',ev_pos rfl h,r⟩
 | false =>
  obtain ⟨v,i',s',h,r⟩:=key 2048 (.inr rfl)
  exact ⟨v,i',s',ev_neg (by decide) h,r⟩
structure FrIn (i d : Int) (l : List Int) : Prop where
 id0 : 0 ≤ i
 id1 : i < 4294967296
 d0 : -1 ≤ d
 d1 : d ≤ 16
 bytes : okBytes l = true
 len : l.length ≤ 9
theorem okBytes_snoc {l : List Int} (h : okBytes l = true) (v : Int) (h0 : 0 ≤ v) (h1 : v < 256) : okBytes (l ++ [v]) = true:=by
 unfold okBytes at h ⊢
 rw [List.all_append,h,Bool.true_and,List.all_cons,List.all_nil,Bool.and_true]
 simp
 omega
theorem genFrame_ex (s0 : List Int) (i s : Int) (hi : 0 ≤ i) (hi2 : i < 100000000) : ∃ e id r d l i' s',Ev (fun k => spec_l1genFrame.f k s0 i s) (e,id,r,d,l,i',s') ∧ FrIn id d l ∧ id < vtop e ∧ 0 ≤ d ∧ d ≤ 15 ∧ (l.length : Int) = dataB r d ∧ i ≤ i' ∧ i' ≤ i + 30:=by
 unfold spec_l1genFrame.f
 obtain ⟨v1,s1,e1,h1,g1⟩:=n_ex s0 i s 2 hi (by omega) (by omega) (by omega)
 obtain ⟨v2,s2,e2,h2,g2⟩:=n_ex s0 (i + 1) s1 4 (by omega) (by omega) (by omega) (by omega)
 obtain ⟨v3,s3,e3,h3,g3⟩:=n_ex s0 (i + 1 + 1) s2 9 (by omega) (by omega) (by omega) (by omega)
 obtain ⟨v4,s4,e4,h4,g4⟩:=n_ex s0 (i + 1 + 1 + 1) s3 6 (by omega) (by omega) (by omega) (by omega)
 obtain ⟨v5,s5,e5,h5,g5⟩:=n_ex s0 (i + 1 + 1 + 1 + 1) s4 16 (by omega) (by omega) (by omega) (by omega)
 have loop : ∀ (E : Bool) (id : Int) (r : Bool) (d n : Int),0 ≤ n → n ≤ 8 → ∀ (b j : Nat) (p q : Int) (l : List Int),(j : Int) + b = n → l.length = j → okBytes l = true → 0 ≤ p → p + 2 * b ≤ 900000000 → ∃ l' p' q',Ev (fun k => spec_l1genFrame.l0 k n (j : Int) s0 p q E id r d l) (E,id,r,d,l',p',q') ∧ okBytes l' = true ∧ (l'.length : Int) = n ∧ p ≤ p' ∧ p' ≤ p + 2 * b:=by
  intro E id r d n hn0 hn8 b
  induction b with
  | zero =>
   intro j p q l hj hl hb hp _
   refine ⟨l,p,q,Ev.step (f:=fun _ => some (E,id,r,d,l,p,q)) (fun k => ?_) (Ev.now _),hb,by omega,by omega,by omega⟩
   simp only [spec_l1genFrame.l0];rw [if_neg (by omega)]
  | succ b ih =>
   intro j p q l hj hl hb hp hp2
   obtain ⟨v,p1,q1,e,k1,k2,k3,k4⟩:=genByte_ex s0 p q hp (by omega)
   obtain ⟨l',p',q',hE,r1,r2,r3,r4⟩:=ih (j + 1) p1 q1 (l ++ [v]) (by omega) (by simp [hl]) (okBytes_snoc hb v k1 k2) (by omega) (by omega)
   refine ⟨l',p',q',Ev.step (f:=fun k => spec_l1genFrame.l0 k n ((j + 1 : Nat) : Int) s0 p1 q1 E id r d (l ++ [v])) (fun k => ?_) hE,r1,r2,by omega,by omega⟩
   simp only [spec_l1genFrame.l0];rw [if_pos (by omega),e,Option.bind_some,if_pos (by omega),w64 (by omega) (by omega)]
   rfl
 have rest : ∀ (E r : Bool) (d p q : Int),0 ≤ d → d ≤ 15 → 0 ≤ p → p ≤ 800000000 → ∃ id l i' s',Ev (fun k => spec_l1genFrame.j0 k s0 p q E 0 r d []) (E,id,r,d,l,i',s') ∧ FrIn id d l ∧ id < vtop E ∧ (l.length : Int) = dataB r d ∧ p ≤ i' ∧ i' ≤ p + 20:=by
  intro E r d p q hd0 hd1 hp hp2
  obtain ⟨id,p1,q1,hE,k1,k2,k3,k4⟩:=genId_ex s0 p q E hp (by omega)
  have hdl : spec_l1dataLen.f E id r d [] = some (dataB r d):=by
   by_cases c : 8 < d
   ·cases r <;> simp [spec_l1dataLen.f,dataB,c]
   ·cases r <;> simp [spec_l1dataLen.f,dataB,c]
  have hb8 : 0 ≤ dataB r d ∧ dataB r d ≤ 8:=by unfold dataB;split <;> (try split) <;> omega
  obtain ⟨l',p',q',hL,r1,r2,r3,r4⟩:=loop E id r d (dataB r d) hb8.1 hb8.2 (dataB r d).toNat 0 p1 q1 [] (by omega) rfl rfl (by omega) (by omega)
  refine ⟨id,l',p',q',Ev.step (f:=fun k => (spec_l1genId.f k s0 p q E).bind fun bt298 => ((spec_l1dataLen.f E bt298.1 r d []).bind fun t301 => (spec_l1genFrame.l0 k t301 0 s0 bt298.2.1 bt298.2.2 E bt298.1 r d []))) (fun k => ?_) (Ev.bind hE (ev_some hdl hL)),⟨k1, ?_,by omega,by omega,r1,by omega⟩,k2,r2,by omega,by omega⟩
  ·simp only [spec_l1genFrame.j0]
  ·cases E <;> simp at k2 <;> omega
 by_cases c : v4 = 0
 ·obtain ⟨id,l,i',s',hE,hf,hv,hl,r3,r4⟩:=rest (v1 == 1) (v2 == 0) v5 (i + 1 + 1 + 1 + 1 + 1) s5 h5 (by omega) (by omega) (by omega)
  exact ⟨_,id,_,_,l,i',s',ev_some e1 (ev_some e2 (ev_some e3 (ev_some rfl (ev_some e4 (ev_pos c (ev_some e5 hE)))))),hf,hv,h5,by omega,hl,by omega,by omega⟩
 ·obtain ⟨id,l,i',s',hE,hf,hv,hl,r3,r4⟩:=rest (v1 == 1) (v2 == 0) v3 (i + 1 + 1 + 1 + 1) s4 h3 (by omega) (by omega) (by omega)
  exact ⟨_,id,_,_,l,i',s',ev_some e1 (ev_some e2 (ev_some e3 (ev_some rfl (ev_some e4 (ev_neg c hE))))),hf,hv,h3,by omega,hl,by omega,by omega⟩
theorem genAny_ex (s0 : List Int) (i s : Int) (hi : 0 ≤ i) (hi2 : i < 100000000) : ∃ e id r d l i' s',Ev (fun k => spec_l1genAny.f k s0 i s) (e,id,r,d,l,i',s') ∧ FrIn id d l ∧ i ≤ i' ∧ i' ≤ i + 32:=by
 unfold spec_l1genAny.f
 obtain ⟨e,id,r,d,l,i1,s1,hE,hf,hv,hd0,hd1,hl,k1,k2⟩:=genFrame_ex s0 i s hi hi2
 obtain ⟨v1,s2,e1,h1,g1⟩:=n_ex s0 i1 s1 5 (by omega) (by omega) (by omega) (by omega)
 have hl8 : l.length ≤ 8:=by
  have : dataB r d ≤ 8:=by unfold dataB;split <;> (try split) <;> omega
  omega
 have f0:=hf.id0;have f1:=hf.id1;have f2:=hf.bytes
 by_cases c : v1 = 0
 ·obtain ⟨v2,s3,e2,h2,g2⟩:=n_ex s0 (i1 + 1) s2 6 (by omega) (by omega) (by omega) (by omega)
  by_cases c0 : v2 = 0
  ·exact ⟨_,_,_,_,_,_,_,Ev.bind hE (ev_some e1 (ev_pos c (ev_some e2 (ev_pos c0 (Ev.now _))))),⟨f0,f1,by (try dsimp only);omega,by (try dsimp only);omega,f2,by (try dsimp only);omega⟩,by simp only [];omega,by simp only [];omega⟩
  by_cases c1 : v2 = 1
  ·exact ⟨_,_,_,_,_,_,_,Ev.bind hE (ev_some e1 (ev_pos c (ev_some e2 (ev_neg c0 (ev_pos c1 (Ev.now _)))))),⟨f0,f1,by (try dsimp only);omega,by (try dsimp only);omega,f2,by (try dsimp only);omega⟩,by simp only [];omega,by simp only [];omega⟩
  by_cases c2 : v2 = 2
  ·exact ⟨_,_,_,_,_,_,_,Ev.bind hE (ev_some e1 (ev_pos c (ev_some e2 (ev_neg c0 (ev_neg c1 (ev_pos c2 (ev_pos (by (try dsimp only);omega) (Ev.now _)))))))),⟨f0,f1,by (try dsimp only);omega,by (try dsimp only);omega,okBytes_snoc f2 1 (by (try dsimp only);omega) (by (try dsimp only);omega),by simp;omega⟩,by simp only [];omega,by simp only [];omega⟩
  by_cases c3 : v2 = 3
  ·exact ⟨_,_,_,_,_,_,_,Ev.bind hE (ev_some e1 (ev_pos c (ev_some e2 (ev_neg c0 (ev_neg c1 (ev_neg c2 (ev_pos c3 (Ev.now _)))))))),⟨by (try dsimp only);omega,by (try dsimp only);omega,by (try dsimp only);omega,by (try dsimp only);omega,f2,by (try dsimp only);omega⟩,by simp only [];omega,by simp only [];omega⟩
  by_cases c4 : v2 = 4
  ·exact ⟨_,_,_,_,_,_,_,Ev.bind hE (ev_some e1 (ev_pos c (ev_some e2 (ev_neg c0 (ev_neg c1 (ev_neg c2 (ev_neg c3 (ev_pos c4 (Ev.now _))))))))),⟨by (try dsimp only);omega,by (try dsimp only);omega,by (try dsimp only);omega,by (try dsimp only);omega,f2,by (try dsimp only);omega⟩,by simp only [];omega,by simp only [];omega⟩
  by_cases c5 : v2 = 5
  ·exact ⟨_,_,_,_,_,_,_,Ev.bind hE (ev_some e1 (ev_pos c (ev_some e2 (ev_neg c0 (ev_neg c1 (ev_neg c2 (ev_neg c3 (ev_neg c4 (ev_pos c5 (Ev.now _)))))))))),⟨f0,f1,by (try dsimp only);omega,by (try dsimp only);omega,f2,by (try dsimp only);omega⟩,by simp only [];omega,by simp only [];omega⟩
  ·exact ⟨_,_,_,_,_,_,_,Ev.bind hE (ev_some e1 (ev_pos c (ev_some e2 (ev_neg c0 (ev_neg c1 (ev_neg c2 (ev_neg c3 (ev_neg c4 (ev_neg c5 (Ev.now _)))))))))),⟨f0,f1,by (try dsimp only);omega,by (try dsimp only);omega,f2,by (try dsimp only);omega⟩,by simp only [];omega,by simp only [];omega⟩
 ·exact ⟨_,_,_,_,_,_,_,Ev.bind hE (ev_some e1 (ev_neg c (Ev.now _))),⟨f0,f1,by (try dsimp only);omega,by (try dsimp only);omega,f2,by (try dsimp only);omega⟩,by simp only [];omega,by simp only [];omega⟩
end Go.Proofs.Ytdoclpgciadjaaa.P

namespace Go.Proofs.Ytdoclpgciadjaaa.P
open Go.RowKit Go.Proofs.YtdoclpgciadjaaaW.PrintWords Go.Proofs.YtdoclpgciadjaaaW.PrintLast Go.Proofs.YtdoclpgciadjaaaW.PrintMore
set_option linter.unusedVariables false
set_option linter.unusedSimpArgs false
def laws_markByteS.l0 : Nat → List Int → Int → Int → Option (Int × List Int)
 | 0,_,_,_ => none
 | k + 1,x0,x1,x5 => if x5 < (x0.length : Int) then (if 0 ≤ x5 then (laws_markByteS.l0 k (x0.set (x5 : Int).toNat ((x1) % 256)) (wrap64 (x1 + 1)) (wrap64 (x5 + 1))) else (none)) else (some (x1,x0))
def laws_markByteS.f (k : Nat) (l0 : List Int) (a1 : Int) : Option (Int × List Int):=laws_markByteS.l0 k l0 a1 0
end Go.Proofs.Ytdoclpgciadjaaa.P

namespace Go.Proofs.Ytdoclpgciadjaaa.P
open Go.RowKit Go.Proofs.YtdoclpgciadjaaaW.PrintWords Go.Proofs.YtdoclpgciadjaaaW.PrintLast Go.Proofs.YtdoclpgciadjaaaW.PrintMore
set_option linter.unusedVariables false
set_option linter.unusedSimpArgs false
def laws_markFrame.f (k : Nat) (a0_0 : Bool) (a0_1 : Int) (a0_2 : Bool) (a0_3 : Int) (l0_4 : List Int) (a1 : Int) : Option (Int × List Int):=(laws_markByteS.f k l0_4 a1).bind fun bt146 => (some (bt146.1,bt146.2))
end Go.Proofs.Ytdoclpgciadjaaa.P

namespace Go.Proofs.Ytdoclpgciadjaaa.P
open Go Go.RowKit Go.Proofs.YtdoclpgciadjaaaW.PrintWords
set_option linter.unusedVariables false
end Go.Proofs.Ytdoclpgciadjaaa.P

namespace Go.Proofs.Ytdoclpgciadjaaa.P
open Go.RowKit Go.Proofs.YtdoclpgciadjaaaW.PrintWords Go.Proofs.YtdoclpgciadjaaaW.PrintLast Go.Proofs.YtdoclpgciadjaaaW.PrintMore
set_option linter.unusedVariables false
set_option linter.unusedSimpArgs false
def laws_heldByteS.l0 : Nat → List Int → Int → Int → Option (Int)
 | 0,_,_,_ => none
 | k + 1,x0,x1,x5 => if x5 < (x0.length : Int) then (if 0 ≤ x5 then (if (rd x0 x5) = ((x1) % 256) then (laws_heldByteS.l0 k x0 (wrap64 (x1 + 1)) (wrap64 (x5 + 1))) else (some (-1))) else (none)) else (some x1)
def laws_heldByteS.f (k : Nat) (l0 : List Int) (a1 : Int) : Option (Int):=laws_heldByteS.l0 k l0 a1 0
end Go.Proofs.Ytdoclpgciadjaaa.P

namespace Go.Proofs.Ytdoclpgciadjaaa.P
open Go.RowKit Go.Proofs.YtdoclpgciadjaaaW.PrintWords Go.Proofs.YtdoclpgciadjaaaW.PrintLast Go.Proofs.YtdoclpgciadjaaaW.PrintMore
set_option linter.unusedVariables false
set_option linter.unusedSimpArgs false
def laws_heldFrame.f (k : Nat) (a0_0 : Bool) (a0_1 : Int) (a0_2 : Bool) (a0_3 : Int) (l0_4 : List Int) (a1 : Int) : Option (Int):=(laws_heldByteS.f k l0_4 a1).bind fun t189 => (if t189 < 0 then (some (-1)) else (some t189))
end Go.Proofs.Ytdoclpgciadjaaa.P

namespace Go.Proofs.Ytdoclpgciadjaaa.P
open Go Go.RowKit Go.Proofs.YtdoclpgciadjaaaW.PrintWords
set_option linter.unusedVariables false
end Go.Proofs.Ytdoclpgciadjaaa.P

namespace Go.Proofs.Ytdoclpgciadjaaa.P
open Go.RowKit Go.Proofs.YtdoclpgciadjaaaW.PrintWords Go.Proofs.YtdoclpgciadjaaaW.PrintLast Go.Proofs.YtdoclpgciadjaaaW.PrintMore
set_option linter.unusedVariables false
set_option linter.unusedSimpArgs false
end Go.Proofs.Ytdoclpgciadjaaa.P

namespace Go.Proofs.Ytdoclpgciadjaaa.P
open Go.RowKit Go.Proofs.YtdoclpgciadjaaaW.PrintWords Go.Proofs.YtdoclpgciadjaaaW.PrintLast Go.Proofs.YtdoclpgciadjaaaW.PrintMore
set_option linter.unusedVariables false
set_option linter.unusedSimpArgs false
def laws_toByteS.l0 : Nat → List Int → List Int → Int → Option (List Int)
 | 0,_,_,_ => none
 | k + 1,x0,x3,x4 => if x4 < (x0.length : Int) then (if 0 ≤ x4 then (if x4 < (x3.length : Int) then (laws_toByteS.l0 k x0 (x3.set (x4 : Int).toNat (rd x0 x4)) (wrap64 (x4 + 1))) else (none)) else (none)) else (some x3)
end Go.Proofs.Ytdoclpgciadjaaa.P

namespace Go.Proofs.Ytdoclpgciadjaaa.P
open Go.RowKit Go.Proofs.YtdoclpgciadjaaaW.PrintWords Go.Proofs.YtdoclpgciadjaaaW.PrintLast Go.Proofs.YtdoclpgciadjaaaW.PrintMore
set_option linter.unusedVariables false
set_option linter.unusedSimpArgs false
def laws_eqByteS.l0 : Nat → List Int → List Int → Int → Option (Bool)
 | 0,_,_,_ => none
 | k + 1,x0,x1,x5 => if x5 < (x0.length : Int) then (if 0 ≤ x5 then (if x5 < (x1.length : Int) then (if (rd x0 x5) = (rd x1 x5) then (laws_eqByteS.l0 k x0 x1 (wrap64 (x5 + 1))) else (some false)) else (none)) else (none)) else (some true)
def laws_eqByteS.f (k : Nat) (l0 : List Int) (l1 : List Int) : Option (Bool):=if (l0.length : Int) = (l1.length : Int) then (laws_eqByteS.l0 k l0 l1 0) else (some false)
end Go.Proofs.Ytdoclpgciadjaaa.P

namespace Go.Proofs.Ytdoclpgciadjaaa.P
open Go Go.RowKit Go.Proofs.YtdoclpgciadjaaaW.PrintWords
set_option linter.unusedVariables false
end Go.Proofs.Ytdoclpgciadjaaa.P

namespace Go.Proofs.Ytdoclpgciadjaaa.P
open Go.RowKit Go.Proofs.YtdoclpgciadjaaaW.PrintWords Go.Proofs.YtdoclpgciadjaaaW.PrintLast Go.Proofs.YtdoclpgciadjaaaW.PrintMore
set_option linter.unusedVariables false
set_option linter.unusedSimpArgs false
end Go.Proofs.Ytdoclpgciadjaaa.P

namespace Go.Proofs.Ytdoclpgciadjaaa.P
open Go.RowKit Go.Proofs.YtdoclpgciadjaaaW.PrintWords Go.Proofs.YtdoclpgciadjaaaW.PrintLast Go.Proofs.YtdoclpgciadjaaaW.PrintMore
set_option linter.unusedVariables false
set_option linter.unusedSimpArgs false
end Go.Proofs.Ytdoclpgciadjaaa.P

namespace Go.Proofs.Ytdoclpgciadjaaa.P
open Go.RowKit Go.Proofs.YtdoclpgciadjaaaW.PrintWords Go.Proofs.YtdoclpgciadjaaaW.PrintLast Go.Proofs.YtdoclpgciadjaaaW.PrintMore
set_option linter.unusedVariables false
set_option linter.unusedSimpArgs false
def laws_eqFrame.f (k : Nat) (a0_0 : Bool) (a0_1 : Int) (a0_2 : Bool) (a0_3 : Int) (l0_4 : List Int) (a1_0 : Bool) (a1_1 : Int) (a1_2 : Bool) (a1_3 : Int) (l1_4 : List Int) : Option (Bool):=if (a0_0 != a1_0) = true then (some false) else (if a0_1 = a1_1 then (if (a0_2 != a1_2) = true then (some false) else (if a0_3 = a1_3 then ((laws_eqByteS.f k l0_4 l1_4).bind fun t143 => (if t143 = true then (some true) else (some false))) else (some false))) else (some false))
end Go.Proofs.Ytdoclpgciadjaaa.P

namespace Go.Proofs.Ytdoclpgciadjaaa.P
open Go Go.RowKit Go.Proofs.YtdoclpgciadjaaaW.PrintWords
set_option linter.unusedVariables false
end Go.Proofs.Ytdoclpgciadjaaa.P

namespace Go.Proofs.Ytdoclpgciadjaaa.P
open Go Go.RowKit Go.Proofs.YtdoclpgciadjaaaW.PrintWords
set_option linter.unusedVariables false
section
variable {P : Program} {ops : Array Oper} {rest : List Oper} {o : Oper} {a : Act} {Q : Exit → Act → World → Prop}
end
theorem Tch.blk {w w' : World} {S : Nat → Prop} {k : Nat} {o : Obj} (h : Tch w w' S) (hk : w.heap[k]? = some o) (hn : ¬ S k) : w'.heap[k]? = some o:=blk_kept hk h.kept hn
section
variable {α : Type} {d : Kd α} {e base g T : Nat} {w w' : World} {ok : Nat → Prop} {v : Value} {xs : List α} {cells : Array Value}
end
end Go.Proofs.Ytdoclpgciadjaaa.P

namespace Go.Proofs.Ytdoclpgciadjaaa.P
open Go.RowKit Go.Proofs.YtdoclpgciadjaaaW.PrintWords Go.Proofs.YtdoclpgciadjaaaW.PrintLast Go.Proofs.YtdoclpgciadjaaaW.PrintMore
set_option linter.unusedVariables false
set_option linter.unusedSimpArgs false
end Go.Proofs.Ytdoclpgciadjaaa.P

namespace Go.Proofs.Ytdoclpgciadjaaa.P
open Go.RowKit Go.Proofs.YtdoclpgciadjaaaW.PrintWords Go.Proofs.YtdoclpgciadjaaaW.PrintLast Go.Proofs.YtdoclpgciadjaaaW.PrintMore
set_option linter.unusedVariables false
set_option linter.unusedSimpArgs false
def laws_FnExactDecode.j0 : Nat → ByteArray → Int → Bool → Bool → Int → Bool → Int → List Int → Bool → Int → Bool → Int → List Int → Option (Bool)
 | 0,_,_,_,_,_,_,_,_,_,_,_,_,_ => none
 | k + 1,x0,x4,x32,x199000,x199001,x199002,x199003,x199004,x208000,x208001,x208002,x208003,x208004 => if x32 = true then (some false) else ((laws_markFrame.f k x208000 x208001 x208002 x208003 x208004 1).bind fun bt209 => ((laws_heldFrame.f k x208000 x208001 x208002 x208003 bt209.2 1).bind fun t211 => (if t211 < 0 then (some false) else (if t211 = bt209.1 then ((impl_Decode.f x0).bind fun bt212 => ((laws_eqFrame.f k bt212.1 bt212.2.1 bt212.2.2.1 bt212.2.2.2.1 bt212.2.2.2.2.1 x199000 x199001 x199002 x199003 x199004).bind fun t221 => (if t221 = true then (if bt212.2.2.2.2.2 = x4 then (some true) else (some false)) else (some false)))) else (some false)))))
end Go.Proofs.Ytdoclpgciadjaaa.P

namespace Go.Proofs.Ytdoclpgciadjaaa.Pure
open Go Go.RowKit Go.Proofs.Ytdoclpgciadjaaa.P Go.Proofs.YtdoclpgciadjaaaW.PrintWords
set_option linter.unusedVariables false
theorem walkV_data (a0 : ByteArray) (h : (walkV a0).code = 1 ∨ (walkV a0).code = 2) : (walkV a0).data.length ≤ 8:=by
 obtain ⟨R,hR,hS⟩:=specwalk_ev a0
 obtain ⟨H,D,X,Z,e,r,i,K⟩:=hS.dec h
 have hD : Bits D:=fun x hx => K.bits x (by rw [K.eq];simp [hx])
 have hn:=dataB_range (r:=r) (V_range hD).1
 rw [K.tx,bytesB_length]
 have:=K.xl
 omega
theorem implDecode_eq (a0 : ByteArray) : impl_Decode.f a0 = some (decodeV a0):=by
 unfold impl_Decode.f impl_walkOver.f decodeV
 simp only [Option.bind_some]
 have hd:=walkV_data a0
 by_cases h1 : (walkV a0).code = 1
 ·have hd:=hd (.inl h1)
  rw [if_pos h1,if_pos (.inl h1)]
  unfold impl_copyFrame.f
  simp only [Option.bind_some]
  rw [if_pos (by simp;omega)]
  simp
 by_cases h2 : (walkV a0).code = 2
 ·have hd:=hd (.inr h2)
  rw [if_neg h1,if_pos h2,if_pos (.inr h2)]
  unfold impl_copyFrame.f
  simp only [Option.bind_some]
  rw [if_pos (by simp;omega)]
  simp
 ·rw [if_neg h1,if_neg h2,if_neg (by rintro (h | h);exact h1 h;exact h2 h)]
end Go.Proofs.Ytdoclpgciadjaaa.Pure

namespace Go.Proofs.Ytdoclpgciadjaaa.Pure
open Go Go.RowKit Go.Proofs.Ytdoclpgciadjaaa.P Go.Proofs.YtdoclpgciadjaaaW.PrintWords Go.Proofs.YtdoclpgciadjaaaW.PrintLast Go.Proofs.YtdoclpgciadjaaaW.PrintMore
set_option linter.unusedVariables false
theorem drawEncode_ex (l : List Int) (hl : l.length ≤ 10000000) : ∃ e id r d x,Ev (fun k => spec_DrawEncode.f k l) (e,id,r,d,x) ∧ FrIn id d x:=by
 unfold spec_DrawEncode.f spec_l1new.f
 obtain ⟨e,id,r,d,x,i',s',hE,hf, -⟩:=genAny_ex l 0 (IntKind.u64.wrap ((IntKind.u64.wrap ((l.length : Int))) + 77)) (by omega) (by omega)
 exact ⟨e,id,r,d,x,ev_some rfl (Ev.bind hE (Ev.now _)),hf⟩
theorem stuffS_two : ∀ (l : List Int) (run last : Int),(stuffS l run last).length ≤ 2 * l.length:=by
 intro l
 induction l with
 | nil => intro run last;simp [stuffS]
 | cons c l ih =>
  intro run last
  rw [stuffS]
  by_cases h : (if c = last then run + 1 else 1) = 5
  ·rw [if_pos h];have:=ih 1 (97 - c);simp;omega
  ·rw [if_neg h];have:=ih (if c = last then run + 1 else 1) c;simp;omega
theorem walkV_str {L : List Int} (hb : Bits L) (hl : L.length ≤ 4000) : walkV (strOfNums L) = walkG L startW:=by
 unfold walkV
 rw [if_pos ⟨by rw [strOfNums_size];exact hl,isBits_str hb⟩,bytes_str L hb.range]
theorem wByte_ex (l : List Int) (hl : l.length ≤ 10000000) (hb : okBytes l = true) (i : Int) (h0 : 0 ≤ i) (h1 : i < 1000) : ∃ v,laws_wByte.f l i = some v ∧ 0 ≤ v ∧ v < 256:=by
 unfold laws_wByte.f
 by_cases c : (l.length : Int) = 0
 ·rw [if_pos c]
  refine ⟨_,rfl, ?_⟩
  rw [w64 (by omega) (by omega),Int.tmod_eq_emod_of_nonneg (by omega)]
  omega
 ·rw [if_neg c,Int.tmod_eq_emod_of_nonneg h0]
  have h2:=Int.emod_nonneg i c
  have h3:=Int.emod_lt_of_pos i (show 0 < (l.length : Int) by omega)
  rw [if_pos h2,if_pos h3]
  obtain ⟨j,hj⟩ : ∃ j : Nat,i % (l.length : Int) = (j : Int):=⟨(i % (l.length : Int)).toNat,by omega⟩
  rw [hj]
  obtain ⟨h4,h5⟩:=okBytes_at hb j (by omega)
  exact ⟨_,rfl,by rw [w64 h4 (by omega)];exact ⟨h4,h5⟩⟩
theorem scan (l1 : List Int) (x7 : ByteArray) (x8 hits : List Int) (m i x : Int) (hi0 : 0 ≤ i) (hi1 : i < 1000) (hh : hits.length ≤ 100) (v : Bool) :
  ∀ (q j : Nat) (fl : Bool),j + q = hits.length →
   ((fl = true ∨ x ∈ hits.drop j) → Ev (fun k => laws_FnFiveFlips.l0 k l1 x7 x8 hits m (i + 1)) v) →
   (¬ (fl = true ∨ x ∈ hits.drop j) → Ev (fun k => (laws_wFlip.f x7 x).bind fun t => laws_FnFiveFlips.l0 k l1 t x8 (hits ++ [x]) m (i + 1)) v) →
   Ev (fun k => laws_FnFiveFlips.l1 k l1 x7 x8 hits m i x fl (j : Int)) v:=by
 have hw : wrap64 (i + 1) = i + 1:=w64 (by omega) (by omega)
 intro q
 induction q with
 | zero =>
  intro j fl hj k1 k2
  have hd : hits.drop j = []:=List.drop_of_length_le (by omega)
  rw [hd] at k1 k2
  cases fl with
  | true =>
   refine Ev.step (f:=fun k => laws_FnFiveFlips.l0 k l1 x7 x8 hits m (i + 1)) (fun k => ?_) (k1 (.inl rfl))
   simp only [laws_FnFiveFlips.l1]
   rw [if_neg (by omega),if_pos trivial,hw]
  | false =>
   refine Ev.step (f:=fun k => (laws_wFlip.f x7 x).bind fun t => laws_FnFiveFlips.l0 k l1 t x8 (hits ++ [x]) m (i + 1)) (fun k => ?_) (k2 (by simp))
   simp only [laws_FnFiveFlips.l1]
   rw [if_neg (by omega),if_neg (by decide),if_pos (by omega),hw]
 | succ q ih =>
  intro j fl hj k1 k2
  have hjl : j < hits.length:=by omega
  have hd : hits.drop j = rd hits (j : Int) :: hits.drop (j + 1):=by
   have h:=rd_get hits j hjl
   rw [List.getElem?_eq_getElem hjl] at h
   rw [List.drop_eq_getElem_cons hjl,Option.some.inj h]
  have hwj : wrap64 ((j : Int) + 1) = ((j + 1 : Nat) : Int):=by rw [w64 (by omega) (by omega)];rfl
  by_cases c : rd hits (j : Int) = x
  ·refine Ev.step (f:=fun k => laws_FnFiveFlips.l1 k l1 x7 x8 hits m i x true ((j + 1 : Nat) : Int)) (fun k => ?_) (ih (j + 1) true (by omega) (fun _ => k1 (.inr (by rw [hd,c];exact List.mem_cons_self ..))) (fun h => absurd (.inl rfl) h))
   simp only [laws_FnFiveFlips.l1]
   rw [if_pos (by omega),if_pos (by omega),if_pos c,hwj]
  ·refine Ev.step (f:=fun k => laws_FnFiveFlips.l1 k l1 x7 x8 hits m i x fl ((j + 1 : Nat) : Int)) (fun k => ?_) (ih (j + 1) fl (by omega) (fun h => k1 (h.imp id (fun h => by rw [hd];exact List.mem_cons_of_mem _ h))) (fun h => k2 (fun h' => h (h'.imp id (fun h' => by rw [hd] at h';exact (List.mem_cons.mp h').resolve_left (Ne.symm c))))))
   simp only [laws_FnFiveFlips.l1]
   rw [if_pos (by omega),if_pos (by omega),if_neg c,hwj]
structure Inv (e r : Bool) (D : List Int) (n : Nat) (P : List Int) (ps : List Nat) : Prop where
 parts : ∃ H X C i,Parts P H D X C e r i
 len : P.length = n
 syn : crcL P = xs (ps.map (fun p => n - 1 - p))
 nd : (ps.map (fun p => n - 1 - p)).Nodup
 opn : ∀ p ∈ ps,Opn e n p
theorem Inv.next {e r : Bool} {D : List Int} {n : Nat} {P : List Int} {ps : List Nat} (h : Inv e r D n P ps) {p : Nat} (ho : Opn e n p) (hnew : p ∉ ps) : Inv e r D n (flp P p) (p :: ps):=by
 obtain ⟨H,X,C,i,K⟩:=h.parts
 refine ⟨?_,by rw [flp_length];exact h.len, ?_, ?_, ?_⟩
 ·obtain ⟨H',X',C',i',K'⟩:=parts_flp K (by rw [h.len];exact ho)
  exact ⟨H',X',C',i',K'⟩
 ·rw [crcL_flp K.bits (by rw [h.len];exact ho.2.1),h.syn,h.len,List.map_cons,xs,Nat.xor_comm]
 ·refine List.nodup_cons.mpr ⟨fun hm => ?_,h.nd⟩
  obtain ⟨p',hp',he⟩:=List.mem_map.mp hm
  have h1:=(h.opn p' hp').2.1
  have h2:=ho.2.1
  have he : n - 1 - p' = n - 1 - p:=he
  exact hnew (by rw [show p = p' by omega];exact hp')
 ·intro q hq
  rcases List.mem_cons.mp hq with hq | hq
  ·rw [hq];exact ho
  ·exact h.opn q hq
theorem Inv.bad {e r : Bool} {D : List Int} {n : Nat} {P : List Int} {ps : List Nat} (h : Inv e r D n P ps) (hne : ps ≠ []) (h5 : ps.length ≤ 5) (hn : n ≤ 118) (a : Int) (ha : a = 48 ∨ a = 49) : (walkG (stuffS P 0 120 ++ [49,a,49]) startW).code = 5:=by
 obtain ⟨H,X,C,i,K⟩:=h.parts
 refine (sum_walk K a ha).2 (fun hc => ?_)
 have hs:=K.syn hc
 rw [h.syn] at hs
 refine five_ne _ ?_ ?_ h.nd ?_ hs
 ·cases ps with
  | nil => exact absurd rfl hne
  | cons p ps => simp
 ·simpa using h5
 ·intro k hk
  obtain ⟨p,hp,rfl⟩:=List.mem_map.mp hk
  have:=(h.opn p hp).2.1
  omega
theorem stuff_str {P : List Int} (hb : Bits P) (hl : P.length ≤ 200) : impl_Stuff.f (strOfNums P) = some (strOfNums (stuffS P 0 120)):=by
 unfold impl_Stuff.f
 rw [if_pos ⟨by rw [strOfNums_size];omega,isBits_str hb⟩,bytes_str P hb.range,stuffL_eq]
theorem z49 : (⟨#[49]⟩ : ByteArray) = strOfNums [49]:=rfl
theorem end_bits {S : List Int} (h : Bits S) (a : Int) (ha : a = 48 ∨ a = 49) : Bits (S ++ [49,a,49]):=h.append (fun x hx => by simp at hx;omega)
theorem last_ev (l1 : List Int) (h1 : l1.length ≤ 10000000) (b1 : okBytes l1 = true) {e r : Bool} {D : List Int} {n : Nat} {P : List Int} {ps : List Nat} (h : Inv e r D n P ps) (hne : ps ≠ []) (h5 : ps.length ≤ 5) (hn : n ≤ 118) (O hits : List Int) (m j : Int) (hj : ¬ j < m) :
  Ev (fun k => laws_FnFiveFlips.l0 k l1 (strOfNums P) O hits m j) true:=by
 obtain ⟨H,X,C,i,K⟩:=h.parts
 have hlen:=h.len
 have hSb:=stuffS_bits P 0 120 K.bits
 have hSl:=stuffS_two P 0 120
 have hSt:=stuff_str K.bits (by omega)
 have hbad:=h.bad hne h5 hn
 generalize stuffS P 0 120 = S at *
 obtain ⟨v,hv,v0,v1⟩:=wByte_ex l1 h1 b1 9 (by omega) (by omega)
 obtain ⟨u,hu,hu2⟩ : ∃ u : Nat,Int.tmod v 2 = (u : Int) ∧ u < 2:=⟨(v % 2).toNat,by rw [Int.tmod_eq_emod_of_nonneg v0];omega,by omega⟩
 have hbits:=wBits_ev u 1 (by omega) (by omega)
 obtain ⟨a,ha,hnum⟩ : ∃ a : Int,(a = 48 ∨ a = 49) ∧ numL u 1 = [a]:=by
  have : u = 0 ∨ u = 1:=by omega
  rcases this with rfl | rfl
  ·exact ⟨48, .inl rfl,rfl⟩
  ·exact ⟨49, .inr rfl,rfl⟩
 rw [hnum] at hbits
 have hcode:=hbad a ha
 have hwv:=walkV_str (end_bits hSb a ha) (by simp;omega)
 have hD : impl_Decode.f (strOfNums (S ++ [49,a,49])) = some (false,0,false,0, [],5):=by
  rw [implDecode_eq]
  unfold decodeV
  rw [hwv]
  simp only [hcode]
  rfl
 have hJ : impl_Judge.f (strOfNums (S ++ [49,a,49])) = some (5,0,false,false):=by
  unfold impl_Judge.f judgeV
  rw [hwv,hcode]
  rfl
 have hcat : ((strOfNums S ++ strOfNums [49]) ++ strOfNums [a]) ++ strOfNums [49] = strOfNums (S ++ [49,a,49]):=by
  rw [← str_append, ← str_append, ← str_append]
  simp
 have hz1 : (strOfNums S).size = S.length:=strOfNums_size S
 have hz2 : (strOfNums S ++ strOfNums [49]).size = S.length + 1:=by rw [← str_append,strOfNums_size];simp
 have hz3 : (strOfNums [a]).size = 1:=by rw [strOfNums_size];rfl
 have hz4 : ((strOfNums S ++ strOfNums [49]) ++ strOfNums [a]).size = S.length + 2:=by rw [← str_append, ← str_append,strOfNums_size];simp
 refine Ev.step (fun k => by simp only [laws_FnFiveFlips.l0];rw [if_neg hj]) (ev_some hSt (ev_pos ?_ (ev_some hv ?_)))
 ·show (strOfNums S).size + 1 ≤ 9223372036854775807
  rw [hz1];omega
 rw [hu]
 refine Ev.bind hbits ?_
 rw [z49,hcat,hz2,hz3,hz4]
 refine ev_pos (by omega) (ev_pos (by omega) (ev_some hD (ev_pos rfl (ev_some hJ (Ev.now _)))))
theorem place (l1 : List Int) (h1 : l1.length ≤ 10000000) (b1 : okBytes l1 = true) (O : List Int) (hO1 : 1 ≤ O.length) (hO2 : O.length ≤ 200) (j : Int) (hj0 : 0 ≤ j) (hj : j < 100) :
  ∃ (a b : Int) (t : Nat),laws_wByte.f l1 (wrap64 (j + 1)) = some a ∧ laws_wByte.f l1 (wrap64 (j + 2)) = some b ∧ Int.tmod (wrap64 ((wrap64 ((wrap64 (a * 5)) + (wrap64 (b * 3)))) + j)) (O.length : Int) = (t : Int) ∧ t < O.length:=by
 obtain ⟨a,ha,a0,a1⟩:=wByte_ex l1 h1 b1 (j + 1) (by omega) (by omega)
 obtain ⟨b,hb,b0,b2⟩:=wByte_ex l1 h1 b1 (j + 2) (by omega) (by omega)
 obtain ⟨t,ht,ht2⟩ : ∃ t : Nat,Int.tmod (a * 5 + b * 3 + j) (O.length : Int) = (t : Int) ∧ t < O.length:=by
  rw [Int.tmod_eq_emod_of_nonneg (by omega)]
  have g1:=Int.emod_nonneg (a * 5 + b * 3 + j) (show (O.length : Int) ≠ 0 by omega)
  have g2:=Int.emod_lt_of_pos (a * 5 + b * 3 + j) (show 0 < (O.length : Int) by omega)
  exact ⟨((a * 5 + b * 3 + j) % (O.length : Int)).toNat,by omega,by omega⟩
 have g1 : wrap64 (a * 5) = a * 5:=w64 (by omega) (by omega)
 have g2 : wrap64 (b * 3) = b * 3:=w64 (by omega) (by omega)
 have g3 : wrap64 (a * 5 + b * 3) = a * 5 + b * 3:=w64 (by clear g1 g2;omega) (by clear g1 g2;omega)
 have g4 : wrap64 (a * 5 + b * 3 + j) = a * 5 + b * 3 + j:=w64 (by clear g1 g2 g3;omega) (by clear g1 g2 g3;omega)
 have g5 : wrap64 (j + 1) = j + 1:=w64 (by clear g1 g2 g3 g4;omega) (by clear g1 g2 g3 g4;omega)
 have g6 : wrap64 (j + 2) = j + 2:=w64 (by clear g1 g2 g3 g4 g5;omega) (by clear g1 g2 g3 g4 g5;omega)
 refine ⟨a,b,t,by rw [g5];exact ha,by rw [g6];exact hb, ?_,ht2⟩
 rw [g1,g2,g3,g4]
 exact ht
def castL (ps : List Nat) : List Int:=ps.map (fun p : Nat => (p : Int))
theorem flips (l1 : List Int) (h1 : l1.length ≤ 10000000) (b1 : okBytes l1 = true) {e r : Bool} {D : List Int} {n : Nat} (hn : n ≤ 118) (O : List Int) (hO : ∀ x ∈ O, ∃ p : Nat,x = (p : Int) ∧ Opn e n p) (hO1 : 1 ≤ O.length) (hO2 : O.length ≤ 200) (m : Nat) (hm1 : 1 ≤ m) (hm5 : m ≤ 5) :
  ∀ (q j : Nat) (P : List Int) (ps : List Nat),j + q = m → Inv e r D n P ps → ps.length ≤ j → (0 < j → ps ≠ []) →
   Ev (fun k => laws_FnFiveFlips.l0 k l1 (strOfNums P) O (castL ps).reverse (m : Int) (j : Int)) true:=by
 intro q
 induction q with
 | zero =>
  intro j P ps hj h hl hne
  exact last_ev l1 h1 b1 h (hne (by omega)) (by omega) hn O _ _ _ (by omega)
 | succ q ih =>
  intro j P ps hj h hl hne
  obtain ⟨a,b,t,ha,hb,ht,ht2⟩:=place l1 h1 b1 O hO1 hO2 (j : Int) (by omega) (by omega)
  have HT:=Lib.hid ht
  clear ht
  have hO0 : (O.length : Int) ≠ 0:=by omega
  obtain ⟨p,hp,ho⟩:=hO (rd O (t : Int)) (List.mem_of_getElem? (rd_get O t ht2))
  obtain ⟨H,X,C,i,K⟩:=h.parts
  have hlen:=h.len
  have hmem : ∀ {ps : List Nat},(p : Int) ∈ (castL ps).reverse ↔ p ∈ ps:=by
   intro ps
   unfold castL
   rw [List.mem_reverse,List.mem_map]
   refine ⟨fun ⟨x,hx,he⟩ => ?_,fun h => ⟨p,h,rfl⟩⟩
   rw [show p = x by omega];exact hx
  have hhl : (castL ps).reverse.length = ps.length:=by unfold castL;simp
  refine Ev.step (f:=fun k => laws_FnFiveFlips.l1 k l1 (strOfNums P) O (castL ps).reverse (m : Int) (j : Int) (p : Int) false ((0 : Nat) : Int)) (fun k => ?_)
   (scan l1 (strOfNums P) O _ (m : Int) (j : Int) (p : Int) (by omega) (by omega) (by rw [hhl];omega) true ps.length 0 false (by rw [hhl];omega) (fun hf => ?_) (fun hf => ?_))
  ·simp only [laws_FnFiveFlips.l0]
   rw [if_pos (by omega),ha,Option.bind_some,hb,Option.bind_some,if_neg hO0,HT.out,if_pos (by omega),if_pos (by omega),hp]
   rfl
  ·rw [List.drop_zero] at hf
   have hin : p ∈ ps:=hmem.mp (hf.resolve_left (by decide))
   exact ih (j + 1) P ps (by omega) h (by omega) (fun _ he => by rw [he] at hin;simp at hin)
  ·rw [List.drop_zero] at hf
   have hout : p ∉ ps:=fun hin => hf (.inr (hmem.mpr hin))
   refine ev_some (wFlip_str K.bits (by omega) (by rw [hlen];exact ho.2.1)) ?_
   have:=ih (j + 1) (flp P p) (p :: ps) (by omega) (h.next ho hout) (by simp;omega) (fun _ => by simp)
   have hc : (castL (p :: ps)).reverse = (castL ps).reverse ++ [(p : Int)]:=by unfold castL;rw [List.map_cons,List.reverse_cons]
   rw [hc] at this
   exact this
theorem five_core (l1 : List Int) (h1 : l1.length ≤ 10000000) (b1 : okBytes l1 = true) (e : Bool) (i : Int) (r : Bool) (d : Int) (l : List Int) (hq : 0 ≤ i ∧ okBytes l = true) (hv : validF e i r d l.length = true) :
  Ev (fun k => laws_FnFiveFlips.j1 k l1 e i r d l) true:=by
 obtain ⟨g1,g2,g3,g4,g5⟩:=valid_parts hv
 obtain ⟨K,hVd,hbX,hcr⟩:=frame_parts hq hv
 have hP:=plainL_bits e i r d l
 have hPl:=plainL_length e i r d l g5
 have hB : impl_Body.f e i r d l = some (strOfNums (bodyL e i r d l)):=by unfold impl_Body.f bodyV;rw [if_pos hq,hv];rfl
 have hB2 : spec_Body.f e i r d l = some (strOfNums (bodyL e i r d l)):=by unfold spec_Body.f bodyV;rw [if_pos hq,hv];rfl
 have hbl:=bodyL_length e i r d l g5
 have hbb:=bodyL_bits e i r d l
 have hC : impl_Crc15.f (strOfNums (bodyL e i r d l)) = some ((crcL (bodyL e i r d l) : Nat) : Int):=by
  unfold impl_Crc15.f
  rw [if_pos ⟨by rw [strOfNums_size];omega,isBits_str hbb⟩,crcOf_str hbb]
 have hcl:=crcL_lt (bodyL e i r d l)
 have hwb:=wBits_ev (crcL (bodyL e i r d l)) 15 (by omega) (by omega)
 have hpe : bodyL e i r d l ++ numL (crcL (bodyL e i r d l)) 15 = plainL e i r d l:=rfl
 have hpl2 : (plainL e i r d l).length = (bodyL e i r d l).length + 15:=by rw [← hpe,List.length_append,numL_length]
 have hsyn:=K.syn hcr
 have hsw:=(sum_walk K 49 (.inr rfl)).1 hcr
 have hSt:=stuff_str hP (by omega)
 have hSl:=stuffS_two (plainL e i r d l) 0 120
 have hSb:=stuffS_bits _ 0 120 hP
 have hinv : Inv e r (numL d.toNat 4) (plainL e i r d l).length (plainL e i r d l) []:=⟨⟨_,_,_,_,K⟩,rfl,hsyn,List.nodup_nil,fun p hp => by simp at hp⟩
 obtain ⟨O,hOe,hO,hO1,hO2⟩:=wOpen_ev e i r d l hB2 (n:=(plainL e i r d l).length) (by rw [strOfNums_size,hpl2]) (by omega)
 generalize hPP : plainL e i r d l = P at *
 generalize stuffS P 0 120 = S at *
 obtain ⟨v,hvb,v0,v1⟩:=wByte_ex l1 h1 b1 0 (by omega) (by omega)
 have hz111 : (⟨#[49,49,49]⟩ : ByteArray) = strOfNums [49,49,49]:=rfl
 have hwv:=walkV_str (end_bits hSb 49 (.inr rfl)) (by simp;omega)
 have hJ : impl_Judge.f (strOfNums (S ++ [49,49,49])) = some (0,14,dueW (walkG (S ++ [49,49,49]) startW),crcOkW (walkG (S ++ [49,49,49]) startW)):=by
  unfold impl_Judge.f judgeV
  rw [hwv,hsw.1,hsw.2]
  rfl
 have hz1 : (strOfNums S).size = S.length:=strOfNums_size S
 obtain ⟨m,hm,hm1,hm5⟩ : ∃ m : Nat,wrap64 (1 + (Int.tmod v 5)) = (m : Int) ∧ 1 ≤ m ∧ m ≤ 5:=by
  rw [Int.tmod_eq_emod_of_nonneg v0,w64 (by omega) (by omega)]
  exact ⟨(1 + v % 5).toNat,by omega,by omega,by omega⟩
 have hl0:=flips l1 h1 b1 (by omega) O hO hO1 hO2 m hm1 hm5 m 0 P [] (by omega) hinv (by simp) (fun h => by omega)
 have hj2 : Ev (fun k => laws_FnFiveFlips.j2 k l1 (strOfNums P) false e i r d l) true:=by
  refine Ev.step (fun k => by simp only [laws_FnFiveFlips.j2];rw [if_neg (by decide),hz111]) (ev_some hSt (ev_pos ?_ ?_))
  ·show (strOfNums S).size + 3 ≤ 9223372036854775807
   rw [hz1];omega
  rw [← str_append]
  refine ev_some hJ (ev_pos rfl (Ev.bind hOe (ev_some hvb ?_)))
  rw [hm]
  exact hl0
 refine Ev.step (fun k => by simp only [laws_FnFiveFlips.j1];rw [hz111]) (ev_some hB (ev_some hC (Ev.bind hwb (ev_pos ?_ (ev_some hB2 (ev_pos rfl ?_))))))
 ·rw [strOfNums_size,strOfNums_size,numL_length];omega
 rw [← str_append,hpe]
 refine ev_some hSt (ev_pos (by rw [hz1];omega) ?_)
 rw [← str_append]
 exact ev_some hJ hj2
theorem FnFiveFlips : laws_FnFiveFlips.Pure:=by
 intro l0 l1 hl0 hb0 hw0 hl1 hb1 hw1
 refine Ev.rounds ?_
 have big : ∀ (b : Bool),b = true → Ev (fun k => laws_FnFiveFlips.j0 k l0 l1 b) true:=by
  rintro b rfl
  refine Ev.step (f:=fun _ => some true) (fun k => ?_) (Ev.now _)
  simp only [laws_FnFiveFlips.j0]
  rw [if_pos trivial]
 unfold laws_FnFiveFlips.f
 by_cases c0 : (l0.length : Int) > 1048576
 ·exact ev_pos c0 (big _ rfl)
 refine ev_neg c0 ?_
 by_cases c1 : (l1.length : Int) > 1048576
 ·exact big _ (decide_eq_true c1)
 rw [decide_eq_false c1]
 obtain ⟨e,i,r,d,l,hD,hF⟩:=drawEncode_ex l0 (by omega)
 refine Ev.step (fun k => by simp only [laws_FnFiveFlips.j0];rw [if_neg (by decide)]) (Ev.bind hD (Ev.bind (specValid_ev e i r d l) ?_))
 simp only []
 cases hv : validF e i r d l.length with
 | true => exact ev_pos rfl (five_core l1 (by omega) (okBytes_of hw1) e i r d l ⟨hF.id0,hF.bytes⟩ hv)
 | false =>
  refine ev_neg (by decide) (five_core l1 (by omega) (okBytes_of hw1) false _ false 0 [] ⟨by omega,rfl⟩ ?_)
  unfold validF
  rw [decide_eq_true (show ((((l0.length : Int)) % 4294967296) % 2048) < vtop false from by show _ < (2048 : Int);omega)]
  rfl
end Go.Proofs.Ytdoclpgciadjaaa.Pure
