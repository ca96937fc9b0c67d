/- Texts of the proof of FnExactSpans, joined. -/
import Derived.Test.YtdoclpgciadjaaaSFnExactSpans21
import Derived.Test.YtdoclpgciadjaaaSFnExactSpans29
import Derived.Test.YtdoclpgciadjaaaSFnExactSpans23
import Derived.Test.YtdoclpgciadjaaaSFnExactSpans24
import Derived.Test.YtdoclpgciadjaaaSFnExactSpans27
import Derived.Test.YtdoclpgciadjaaaSFnExactSpans25
import Derived.Test.YtdoclpgciadjaaaSFnExactSpans28
namespace Go.Proofs.Ytdoclpgciadjaaa.P
open Go.RowKit Go.Proofs.YtdoclpgciadjaaaW.PrintWords Go.Proofs.YtdoclpgciadjaaaW.PrintLast Go.Proofs.YtdoclpgciadjaaaW.PrintMore
set_option linter.unusedVariables false
set_option linter.unusedSimpArgs false
def b46 (x : S46) : Prop:=True ∧ (Lit.int .u32 x.f1).wf = true ∧ True ∧ (Lit.int .i64 x.f3).wf = true ∧ (x.f4.length ≤ maxLen ∧ ∀ y_ ∈ x.f4,(Lit.int .u8 y_).wf = true)
theorem reads46 : Reads Try.prog 46 k46 b46:=reads_struct (fun x : S46 => (x.f0,x.f1,x.f2,x.f3,x.f4)) (fun y => ⟨y.1,y.2.1,y.2.2.1,y.2.2.2.1,y.2.2.2.2⟩) (fun _ => rfl) Try.underlying46 (by kernel_rfl) (rf_cons rfl (by kernel_rfl) (reads_bool Try.underlying4) (rf_cons rfl (by kernel_rfl) (reads_int Try.underlying23) (rf_cons rfl (by kernel_rfl) (reads_bool Try.underlying4) (rf_cons rfl (by kernel_rfl) (reads_int Try.underlying3) (rf_last rfl (by kernel_rfl) (reads_slice Try.underlying22 (by kernel_rfl) (reads_int Try.underlying5)))))))
def laws_FnExactSpans.PureS : Prop := ∀ (x0 : S46),b46 x0 → ∃ k,laws_FnExactSpans.f k (x0.f0) (x0.f1) (x0.f2) (x0.f3) (x0.f4) = some true
end Go.Proofs.Ytdoclpgciadjaaa.P

namespace Go.Proofs.Ytdoclpgciadjaaa.P
open Go Go.RowKit Go.Proofs.YtdoclpgciadjaaaW.PrintWords
set_option linter.unusedVariables false
theorem szByteS_eq (l : List Int) (a : Int) (h : l.length ≤ maxLen) (h0 : 0 ≤ a) (h1 : a ≤ 1048576) : laws_szByteS.f l a = some (if a < l.length then -1 else a - l.length):=by
 unfold laws_szByteS.f
 simp only [maxLen] at h
 have e : wrap64 (a - (l.length : Int)) = a - l.length:=by unfold wrap64;omega
 rw [e]
 by_cases c : a < (l.length : Int)
 ·rw [if_pos (by omega),if_pos c]
 ·rw [if_neg (by omega),if_neg c]
theorem toByteS_ev (l : List Int) (h : l.length ≤ 10000000) : Ev (fun k => laws_toByteS.f k l) l:=by
 have loop : ∀ (d i : Nat) (x : List Int),i + d = l.length → SameTo x l i → Ev (fun k => laws_toByteS.l0 k l x (i : Int)) l:=by
  intro d
  induction d with
  | zero =>
   intro i x hi hx
   refine Ev.step (f:=fun _ => some l) (fun k => ?_) (Ev.now _)
   simp only [laws_toByteS.l0]
   rw [if_neg (by omega),hx.all (by omega)]
  | succ d ih =>
   intro i x hi hx
   refine Ev.step (f:=fun k => laws_toByteS.l0 k l (x.set i (rd l (i : Int))) ((i + 1 : Nat) : Int)) (fun k => ?_) (ih (i + 1) _ (by omega) (hx.next (by omega)))
   have hl:=hx.1
   simp only [laws_toByteS.l0]
   rw [if_pos (by omega),if_pos (by omega),if_pos (by omega),w64 (by omega) (by omega)]
   rfl
 refine Ev.congr (fun k => ?_) (loop l.length 0 (List.replicate l.length 0) (by omega) (SameTo.zero (by simp)))
 unfold laws_toByteS.f
 rw [if_pos (by omega),if_pos (by omega)]
 rfl
theorem eqByteS_ev (l : List Int) (h : l.length ≤ 10000000) : Ev (fun k => laws_eqByteS.f k l l) true:=by
 have loop : ∀ (d i : Nat),i + d = l.length → Ev (fun k => laws_eqByteS.l0 k l l (i : Int)) true:=by
  intro d
  induction d with
  | zero =>
   intro i hi
   refine Ev.step (f:=fun _ => some true) (fun k => ?_) (Ev.now _)
   simp only [laws_eqByteS.l0]
   rw [if_neg (by omega)]
  | succ d ih =>
   intro i hi
   refine Ev.step (f:=fun k => laws_eqByteS.l0 k l l ((i + 1 : Nat) : Int)) (fun k => ?_) (ih (i + 1) (by omega))
   simp only [laws_eqByteS.l0]
   rw [if_pos (by omega),if_pos (by omega),if_pos (by omega),if_pos trivial,w64 (by omega) (by omega)]
   rfl
 refine Ev.congr (fun k => ?_) (loop l.length 0 (by omega))
 unfold laws_eqByteS.f
 rw [if_pos rfl]
 rfl
end Go.Proofs.Ytdoclpgciadjaaa.P

namespace Go.Proofs.Ytdoclpgciadjaaa.P
open Go Go.RowKit Go.Proofs.YtdoclpgciadjaaaW.PrintWords
set_option linter.unusedVariables false
theorem szFrame_eq (e : Bool) (i : Int) (r : Bool) (d : Int) (l : List Int) (a : Int) (h : l.length ≤ maxLen) (h0 : 0 ≤ a) (h1 : a ≤ 1048576) : laws_szFrame.f e i r d l a = some (if a < l.length then -1 else a - l.length):=by
 unfold laws_szFrame.f
 rw [szByteS_eq l a h h0 h1,Option.bind_some]
 by_cases c : a < (l.length : Int)
 ·rw [if_pos c,if_pos (by omega)]
 ·rw [if_neg c,if_neg (by omega)]
theorem toFrame_ev (e : Bool) (i : Int) (r : Bool) (d : Int) (l : List Int) (h : l.length ≤ 10000000) : Ev (fun k => laws_toFrame.f k e i r d l) (e,i,r,d,l):=by
 refine Ev.congr (fun k => by unfold laws_toFrame.f;rfl) (Ev.bind (toByteS_ev l h) (Ev.now _))
theorem eqFrame_ev (e : Bool) (i : Int) (r : Bool) (d : Int) (l : List Int) (h : l.length ≤ 10000000) : Ev (fun k => laws_eqFrame.f k e i r d l e i r d l) true:=by
 refine Ev.congr (fun k => by unfold laws_eqFrame.f;rw [if_neg (by simp),if_pos rfl,if_neg (by simp),if_pos rfl]) (Ev.bind (f:=fun _ t => if t = true then some true else some false) (eqByteS_ev l h) (Ev.now _))
end Go.Proofs.Ytdoclpgciadjaaa.P

namespace Go.Proofs.Ytdoclpgciadjaaa.P
open Go Go.RowKit Go.Proofs.YtdoclpgciadjaaaW.PrintWords
theorem okBytes_of {l : List Int} (h : ∀ y ∈ l,(Lit.int .u8 y).wf = true) : okBytes l = true:=by
 unfold okBytes
 rw [List.all_eq_true]
 intro x hx
 have:=h x hx
 simp [Lit.wf,show IntKind.u8.min = 0 from rfl,show IntKind.u8.max = 255 from rfl] at this ⊢
 omega
theorem frame_ok {i : Int} {l : List Int} (hi : (Lit.int .u32 i).wf = true) (hb : ∀ y ∈ l,(Lit.int .u8 y).wf = true) : 0 ≤ i ∧ okBytes l = true:=by
 refine ⟨?_,okBytes_of hb⟩
 simp [Lit.wf,show IntKind.u32.min = 0 from rfl] at hi
 omega
end Go.Proofs.Ytdoclpgciadjaaa.P

namespace Go.Proofs.Ytdoclpgciadjaaa.P
open Go Go.RowKit Go.Proofs.YtdoclpgciadjaaaW.PrintWords
set_option linter.unusedVariables false
def stuffV (s : ByteArray) : ByteArray:=if s.size ≤ 2000 ∧ isBits s = true then strOfNums (stuffL (bytesOf s)) else ⟨#[]⟩
structure StuffOk (st : List Int × Int × Int) (run : Nat) : Prop where
 trail : Trail st.1 st.1.length run st.2.2
 run_eq : st.2.1 = (run : Int)
 run_le : run ≤ 4
theorem StuffOk.zero : StuffOk ([],0,120) 0:=⟨Trail.zero _ _,rfl,by omega⟩
theorem StuffOk.step {st : List Int × Int × Int} {run : Nat} (h : StuffOk st run) (c : Int) (hc : c = 48 ∨ c = 49) :
  (stuffStep st c).1 = (if (if c = st.2.2 then run + 1 else 1) = 5 then st.1 ++ [c] ++ [97 - c] else st.1 ++ [c]) ∧ ∃ run',StuffOk (stuffStep st c) run':=by
 obtain ⟨ht,he,hl⟩:=h
 have hs:=ht.snoc c
 have e1 : (if c = st.2.2 then st.2.1 + 1 else 1) = (((if c = st.2.2 then run + 1 else 1 : Nat)) : Int):=by split <;> omega
 have h5 : (if c = st.2.2 then run + 1 else 1 : Nat) ≤ 5:=by split <;> omega
 unfold stuffStep
 rw [e1]
 generalize (if c = st.2.2 then run + 1 else 1 : Nat) = q at *
 by_cases h : q = 5
 ·rw [if_pos (by omega),if_pos h]
  refine ⟨rfl,1, ?_,rfl,by omega⟩
  have hs2 : Trail (st.1 ++ [c]) (st.1 ++ [c]).length q c:=by rw [List.length_append];exact hs
  have h3:=hs2.snoc (97 - c)
  rw [if_neg (by omega)] at h3
  simp only []
  rw [List.length_append]
  exact h3
 ·rw [if_neg (by omega),if_neg h]
  refine ⟨rfl,q, ?_,rfl,by omega⟩
  simp only []
  rw [List.length_append]
  exact hs
theorem specStuff_ev (s : ByteArray) (h : s.size < 100000000) : Ev (fun k => spec_Stuff.f k s) (stuffV s):=by
 have hk:=okBits_ev s 2000 (by omega)
 unfold stuffV
 by_cases c : s.size ≤ 2000 ∧ isBits s = true
 ·rw [if_pos c]
  obtain ⟨hs,hb⟩:=c
  rw [hb,decide_eq_true hs] at hk
  refine Ev.congr (fun k => by unfold spec_Stuff.f;rfl) (Ev.bind hk (ev_pos rfl ?_))
  have loop : ∀ (d i run : Nat),i + d = s.size → StuffOk (stuffTo s i) run → Ev (fun k => spec_Stuff.l0 k s (stuffTo s i).1 (i : Int)) (strOfNums (stuffL (bytesOf s))):=by
   intro d
   induction d with
   | zero =>
    intro i run hi _
    refine Ev.step (f:=fun _ => some (strOfNums (stuffL (bytesOf s)))) (fun k => ?_) (Ev.now _)
    simp only [spec_Stuff.l0]
    rw [if_neg (by omega),stuffTo_end s i (by omega)]
   | succ d ih =>
    intro i run hi ho
    have his : i < s.size:=by omega
    have hbit:=isBit_cases (isBits_at hb his)
    obtain ⟨b,hbe,hb2⟩ : ∃ b : Nat,(s[i]'his).toNat = b ∧ (b = 48 ∨ b = 49):=⟨_,rfl,by rcases hbit with e | e <;> rw [e] <;> decide⟩
    have hbt : bt s (i : Int) = (b : Int):=by rw [bt_eq s i his,hbe]
    have hst:=stuffTo_succ s i his hbe
    have hbd:=(stuffTo_bounds s i).1
    have htr:=ho.trail.snoc (b : Int)
    have hrl:=ho.run_le
    obtain ⟨h1,run',h2⟩:=ho.step (b : Int) (by omega)
    rw [← hst] at h1 h2
    refine Ev.step (f:=fun k => spec_Stuff.l0 k s (stuffTo s (i + 1)).1 ((i + 1 : Nat) : Int)) (fun k => ?_) (ih (i + 1) run' (by omega) h2)
    have hdue:=due_eq (n:=(stuffTo s i).1.length + 1) htr (by split <;> omega) (by omega)
    have hln : (((stuffTo s i).1 ++ [(b : Int)]).length : Int) = (((stuffTo s i).1.length + 1 : Nat) : Int):=by rw [List.length_append];rfl
    simp only [spec_Stuff.l0]
    rw [if_pos (by omega),if_pos (by omega),if_pos (by omega),hbt,Option.bind_some,hln,hdue,Option.bind_some,w64 (by omega) (by omega),h1]
    by_cases h5 : (if (b : Int) = (stuffTo s i).2.2 then run + 1 else 1) = 5
    ·rw [decide_eq_true h5,if_pos rfl,if_pos h5]
     have ho2 : spec_l1other.f (b : Int) = some (97 - (b : Int)):=by
      unfold spec_l1other.f
      rcases hb2 with rfl | rfl <;> rfl
     rw [ho2,Option.bind_some,if_pos (by omega)]
     rfl
    ·rw [decide_eq_false h5,if_neg (by decide),if_neg h5]
     rfl
  have h0:=loop s.size 0 0 (by omega) (by rw [stuffTo_zero];exact StuffOk.zero)
  rw [stuffTo_zero] at h0
  exact h0
 ·rw [if_neg c]
  have hf : (decide (s.size ≤ 2000) && isBits s) = false:=by
   rw [Bool.and_eq_false_iff]
   by_cases hh : isBits s = true
   ·exact .inl (decide_eq_false fun h2 => c ⟨h2,hh⟩)
   ·exact .inr (by simpa using hh)
  rw [hf] at hk
  exact Ev.congr (fun k => by unfold spec_Stuff.f;rfl) (Ev.bind hk (ev_neg (show ¬ (false = true) by decide) (Ev.now _)))
end Go.Proofs.Ytdoclpgciadjaaa.P

namespace Go.Proofs.Ytdoclpgciadjaaa.P
open Go Go.RowKit Go.Proofs.YtdoclpgciadjaaaW.PrintWords
set_option linter.unusedVariables false
theorem one1 : (⟨#[49]⟩ : ByteArray) = strOfNums [49]:=rfl
theorem one7 : (⟨#[49,49,49,49,49,49,49]⟩ : ByteArray) = strOfNums [49,49,49,49,49,49,49]:=rfl
theorem specEncode_ev {e : Bool} {i : Int} {r : Bool} {d : Int} {l : List Int} (hq : 0 ≤ i ∧ okBytes l = true) : Ev (fun k => spec_Encode.f k e i r d l) (encodeV e i r d l):=by
 have h1 : spec_Body.f e i r d l = some (bodyV e i r d l):=by unfold spec_Body.f;rw [if_pos hq]
 unfold spec_Encode.f
 refine Ev.bind (specValid_ev e i r d l) ?_
 unfold encodeV
 cases hv : validF e i r d l.length with
 | false => exact ev_neg (by decide) (Ev.now _)
 | true =>
  obtain ⟨-, -, -, -,hn8⟩:=valid_parts hv
  have hB : bodyV e i r d l = strOfNums (bodyL e i r d l):=by unfold bodyV;rw [if_pos hv]
  have hbb:=bodyL_bits e i r d l
  have hbl:=bodyL_length e i r d l hn8
  have hpb:=plainL_bits e i r d l
  have hpl:=plainL_length e i r d l hn8
  rw [hB] at h1
  refine ev_pos rfl (ev_some h1 ?_)
  unfold plainL at hpb hpl ⊢
  generalize bodyL e i r d l = B at hbb hbl hpb hpl ⊢
  have hc : crcV (strOfNums B) = (crcL B : Int):=by
   unfold crcV
   rw [if_pos ⟨by rw [strOfNums_size];omega,isBits_str hbb⟩,bytes_str B hbb.range]
  have hE:=specCrc15_ev (strOfNums B) (by rw [strOfNums_size];omega)
  rw [hc] at hE
  have hlt:=crcL_lt B
  have hN : Ev (fun k => spec_l1num.f k (crcL B : Int) 15) (strOfNums (numL (crcL B) 15)):=l1num_ev 15 (crcL B) (by omega) (by omega)
  refine Ev.bind hE (Ev.bind hN (ev_pos (by rw [strOfNums_size,strOfNums_size,numL_length];omega) ?_))
  rw [← str_append]
  generalize B ++ numL (crcL B) 15 = P at hpb hpl ⊢
  have hst : stuffV (strOfNums P) = strOfNums (stuffL P):=by
   unfold stuffV
   rw [if_pos ⟨by rw [strOfNums_size];omega,isBits_str hpb⟩,bytes_str P hpb.range]
  have hS:=specStuff_ev (strOfNums P) (by rw [strOfNums_size];omega)
  rw [hst] at hS
  have hz:=stuffL_len P
  refine Ev.bind hS ?_
  simp only [one1,one7, ← str_append,strOfNums_size,List.length_append,List.length_cons,List.length_nil]
  refine ev_pos (by omega) (ev_pos (by omega) (ev_pos (by omega) (ev_pos (by omega) ?_)))
  rw [if_pos trivial,show stuffL P ++ [49] ++ [49] ++ [49] ++ [49,49,49,49,49,49,49] = stuffL P ++ onesL by simp [onesL]]
  exact Ev.now _
end Go.Proofs.Ytdoclpgciadjaaa.P

namespace Go.Proofs.Ytdoclpgciadjaaa.P
open Go Go.RowKit Go.Proofs.YtdoclpgciadjaaaW.PrintWords
set_option linter.unusedVariables false
theorem due_total (l : List Int) (n : Nat) (hn : n ≤ l.length) (hl : l.length < 100000000) : ∃ b,spec_l1due.f l (n : Int) = some b:=by
 unfold spec_l1due.f
 by_cases c : n < 5
 ·rw [if_pos (by omega)];exact ⟨_,rfl⟩
 ·have w1 : wrap64 ((n : Int) - 1) = ((n - 1 : Nat) : Int):=by unfold wrap64;omega
  have w2 : wrap64 ((n : Int) - 2) = ((n - 2 : Nat) : Int):=by unfold wrap64;omega
  have w3 : wrap64 ((n : Int) - 3) = ((n - 3 : Nat) : Int):=by unfold wrap64;omega
  have w4 : wrap64 ((n : Int) - 4) = ((n - 4 : Nat) : Int):=by unfold wrap64;omega
  have w5 : wrap64 ((n : Int) - 5) = ((n - 5 : Nat) : Int):=by unfold wrap64;omega
  rw [if_neg (by omega),w1,w2,w3,w4,w5,if_pos (by omega),if_pos (by omega),if_pos (by omega),if_pos (by omega)]
  by_cases a1 : rd l ((n - 1 : Nat) : Int) = rd l ((n - 2 : Nat) : Int)
  ·rw [if_pos a1,if_pos (by omega),if_pos (by omega)]
   by_cases a2 : rd l ((n - 2 : Nat) : Int) = rd l ((n - 3 : Nat) : Int)
   ·rw [if_pos a2,if_pos (by omega),if_pos (by omega)]
    by_cases a3 : rd l ((n - 3 : Nat) : Int) = rd l ((n - 4 : Nat) : Int)
    ·rw [if_pos a3,if_pos (by omega),if_pos (by omega)];exact ⟨_,rfl⟩
    ·rw [if_neg a3];exact ⟨_,rfl⟩
   ·rw [if_neg a2];exact ⟨_,rfl⟩
  ·rw [if_neg a1];exact ⟨_,rfl⟩
theorem tail_total {all p : List Int} {i : Nat} {x : Int} (hi : i < all.length) (hl : all.length < 100000000) (hf : Ev (fun k => spec_l1field.f k p) x) : ∃ b, ∀ (g : Nat → Bool → Option (Int × List Int × Bool)) (R : Int × List Int × Bool),Ev (fun k => g k b) R → Ev (fun k => spec_l1walk.tail k all p i (g k)) R:=by
 obtain ⟨d,hd⟩:=due_total all (i + 1) (by omega) hl
 cases d with
 | false => exact ⟨false,fun g R h => ev_some hd (ev_neg (by decide) h)⟩
 | true =>
  by_cases c : x ≤ 10
  ·exact ⟨true,fun g R h => ev_some hd (ev_pos rfl (Ev.bind hf (ev_pos c h)))⟩
  ·exact ⟨x == 11,fun g R h => ev_some hd (ev_pos rfl (Ev.bind hf (ev_neg c h)))⟩
theorem tail_at {all p : List Int} {i : Nat} {t : WS} (h : At all (i + 1) t p) (hi : i < all.length) (hl : all.length < 100000000) (g : Nat → Bool → Option (Int × List Int × Bool)) (R : Int × List Int × Bool) (hg : Ev (fun k => g k (dueW t)) R) : Ev (fun k => spec_l1walk.tail k all p i (g k)) R:=by
 have hf : Ev (fun k => spec_l1field.f k p) t.field:=field_ev h.ph h.bits
 by_cases c11 : t.field ≤ 11
 ·obtain ⟨run,last,ht,hrun, -⟩:=h.trail c11
  have r1:=h.r1
  have hd:=due_eq ht (by omega) (by omega)
  by_cases h5 : run = 5
  ·rw [decide_eq_true h5] at hd
   have hdw : dueW t = true:=by unfold dueW;rw [show (t.run == 5) = true by simp;omega,decide_eq_true c11];rfl
   rw [hdw] at hg
   refine ev_some hd (ev_pos rfl (Ev.bind hf ?_))
   by_cases c : t.field ≤ 10
   ·exact ev_pos c hg
   ·refine ev_neg c ?_
    rw [show (t.field == 11) = true by simp;omega]
    exact hg
  ·rw [decide_eq_false h5] at hd
   have hdw : dueW t = false:=by unfold dueW;rw [show (t.run == 5) = false by simp;omega];rfl
   rw [hdw] at hg
   exact ev_some hd (ev_neg (by decide) hg)
 ·have hdw : dueW t = false:=by unfold dueW;rw [decide_eq_false c11,Bool.and_false]
  rw [hdw] at hg
  obtain ⟨d,hd⟩:=due_total all (i + 1) (by omega) hl
  cases d with
  | false => exact ev_some hd (ev_neg (by decide) hg)
  | true =>
   refine ev_some hd (ev_pos rfl (Ev.bind hf (ev_neg (by omega) ?_)))
   rw [show (t.field == 11) = false by simp;omega]
   exact hg
theorem field_next {p : List Int} {s : WS} (h : Ph p (core s) s.sum) (hp : Bits p) (b : Int) (hb : b = 48 ∨ b = 49) : ∃ x,Ev (fun k => spec_l1field.f k (p ++ [b])) x:=by
 by_cases hend : s.field = 14 ∧ s.left = 1
 ·generalize hg : core s = cc at h
  generalize hm : s.sum = mm at h
  cases h with
  | eof H D X C T e r i h d x c t3 t =>
   have hD : Bits D:=bits_len hp D (fun x hx => by simp [hx])
   have hr:=dataB_range (r:=r) (V_range hD).1
   have:=field_full (R:=X ++ C ++ T ++ [b]) h d hD (by simp;omega)
   rw [show H ++ D ++ (X ++ C ++ T ++ [b]) = H ++ D ++ X ++ C ++ T ++ [b] by simp] at this
   exact ⟨_,this⟩
  | del H D X C T e r i h d x c t => exfalso;have:=(core_is hg hm).f;omega
  | _ => exfalso;have:=(core_is hg hm).f;omega
 ·obtain ⟨c',m',hP, -, -⟩:=ph_step h s rfl rfl b hb hp hend
  exact ⟨_,field_ev hP (hp.append (fun x hx => by rw [List.mem_singleton] at hx;rw [hx];exact hb))⟩
structure DecAt (p : List Int) (t : WS) (H D X R : List Int) (e r : Bool) (i : Int) : Prop where
 eq : p = H ++ D ++ X ++ R
 hd : Hd H e r i
 dl : D.length = 4
 xl : (X.length : Int) = 8 * dataB r (V D)
 bits : Bits p
 te : t.ext = e
 ti : t.id = i
 tr : t.rtr = r
 td : t.dlc = V D
 tx : t.data = bytesB X
theorem codeL_one {s : WS} {b : Int} (h : codeL s b = 1) : s.field = 14 ∧ s.left = 2:=by
 unfold codeL at h
 (repeat' split at h) <;> first | omega | (constructor <;> omega)
theorem codeL_two {s : WS} {b : Int} (h : codeL s b = 2) : s.field = 14 ∧ s.left = 1:=by
 unfold codeL at h
 (repeat' split at h) <;> first | omega | (constructor <;> omega)
theorem hear14 {s : WS} (hf : s.field = 14) (c : Int) : ∃ cd,hearW s c = nextW { s with code:=cd,run:=0 }:=by
 have hd0 : ¬ dueW { s with code:=0 } = true:=by unfold dueW;rw [decide_eq_false (by show ¬ s.field ≤ 11;omega),Bool.and_false];decide
 have e : hearW s c = plainW { s with code:=0,run:=0 } (c - 48):=by
  unfold hearW
  simp only []
  rw [if_neg hd0,if_neg (by omega)]
 rw [e]
 unfold plainW
 have e1 : sumW { s with code:=0,run:=0 } (c - 48) = { s with code:=0,run:=0 }:=by unfold sumW;rw [if_neg (by show ¬ s.field ≤ 9;omega)]
 rw [e1]
 have e2 : takeW { s with code:=0,run:=0 } (c - 48) = endW { s with code:=0,run:=0 } (c - 48):=by
  unfold takeW
  rw [if_neg (by show ¬ s.field = 1;omega),if_neg (by show ¬ (s.field = 2 ∨ s.field = 5);omega),if_neg (by show ¬ (s.field = 3 ∨ s.field = 6);omega),if_neg (by show ¬ s.field = 4;omega),if_neg (by show ¬ s.field = 8;omega),if_neg (by show ¬ s.field = 9;omega),if_neg (by show ¬ s.field = 10;omega),if_neg (by show ¬ s.field = 11;omega),if_neg (by show ¬ s.field = 13;omega),if_pos hf]
 rw [e2]
 unfold endW
 (repeat' split) <;> exact ⟨_,rfl⟩
theorem hear14_field {s : WS} (hf : s.field = 14) (hl : s.left = 2) (c : Int) : (hearW s c).field = 14:=by
 obtain ⟨cd,e⟩:=hear14 hf c
 rw [e,nextW_eq]
 show (nextP { s with code:=cd,run:=0 }).1 = 14
 unfold nextP
 rw [if_pos (by show s.left - 1 > 0;omega)]
 exact hf
theorem hear14_keep {s : WS} (hf : s.field = 14) (c : Int) : (hearW s c).ext = s.ext ∧ (hearW s c).id = s.id ∧ (hearW s c).rtr = s.rtr ∧ (hearW s c).dlc = s.dlc ∧ (hearW s c).data = s.data:=by
 obtain ⟨cd,e⟩:=hear14 hf c
 rw [e,nextW_eq]
 exact ⟨rfl,rfl,rfl,rfl,rfl⟩
theorem dec_of_ph {p : List Int} {s : WS} (h : Ph p (core s) s.sum) (hp : Bits p) (hf : s.field = 14) : ∃ H D X R e r i,DecAt p s H D X R e r i:=by
 generalize hg : core s = cc at h
 generalize hm : s.sum = mm at h
 cases h with
 | eof H D X C T e r i h d x c t3 t =>
  have K:=core_is hg hm
  exact ⟨H,D,X,C ++ T,e,r,i,by rw [← List.append_assoc],h,d,x,hp,K.e,K.i,K.r,K.d,K.x⟩
 | del H D X C T e r i h d x c t => exfalso;have:=(core_is hg hm).f;omega
 | _ => exfalso;have:=(core_is hg hm).f;omega
theorem dec_whole {p : List Int} {s : WS} (h : Ph p (core s) s.sum) (hp : Bits p) (hf : s.field = 14) (c : Int) (hc : c = 48 ∨ c = 49) : ∃ H D X R e r i,DecAt (p ++ [c]) (hearW s c) H D X R e r i:=by
 obtain ⟨H,D,X,R,e,r,i,K⟩:=dec_of_ph h hp hf
 obtain ⟨k1,k2,k3,k4,k5⟩:=hear14_keep hf c
 exact ⟨H,D,X,R ++ [c],e,r,i,by rw [K.eq, ← List.append_assoc],K.hd,K.dl,K.xl,hp.append (fun x hx => by rw [List.mem_singleton] at hx;rw [hx];exact hc),k1.trans K.te,k2.trans K.ti,k3.trans K.tr,k4.trans K.td,k5.trans K.tx⟩
structure SpecEnd (all : List Int) (t : WS) (R : Int × List Int × Bool) : Prop where
 code : R.1 = t.code
 live : t.code = 0 ∨ t.code = 1 → At all all.length t R.2.1 ∧ R.2.2 = dueW t
 dec : t.code = 1 ∨ t.code = 2 → ∃ H D X Z e r i,DecAt R.2.1 t H D X Z e r i
 len : R.2.1.length ≤ 4000
theorem specwalk_loop (all : List Int) (hb : Bits all) (hl : all.length ≤ 4000) : ∀ (d i : Nat) (s : WS) (p : List Int),i + d = all.length → At all i s p → (s.code = 1 → s.field = 14) → ∃ R,Ev (fun k => spec_l1walk.l0 k all s.code p (dueW s) i) R ∧ SpecEnd all (walkG (all.drop i) s) R:=by
 intro d
 induction d with
 | zero =>
  intro i s p hi h hv
  refine ⟨(s.code,p,dueW s),Ev.step (f:=fun _ => some (s.code,p,dueW s)) (fun k => ?_) (Ev.now _), ?_⟩
  ·rw [spec_l1walk.l0,if_neg (by omega)]
  ·rw [List.drop_eq_nil_of_le (by omega)]
   obtain rfl : i = all.length:=by omega
   refine ⟨rfl,fun _ => ⟨h,rfl⟩,fun hc => ?_,Nat.le_trans h.len hl⟩
   rw [walkG] at hc ⊢
   have:=h.code
   exact dec_of_ph h.ph h.bits (hv (by omega))
 | succ d ih =>
  intro i s p hi h hv
  have his : i < all.length:=by omega
  have hc : rd all (i : Int) = 48 ∨ rd all (i : Int) = 49:=hb _ (by have:=rd_get all i his;exact List.mem_of_getElem? this)
  have hdrop : all.drop i = rd all (i : Int) :: all.drop (i + 1):=by
   rw [List.drop_eq_getElem_cons his]
   congr 1
   have:=rd_get all i his
   rw [List.getElem?_eq_getElem his] at this
   exact Option.some.inj this
  have hcode:=h.code
  have hrun : ¬ (s.code ≠ 0 ∧ s.code ≠ 1):=by omega
  have stop : ∀ (c' : Int) (p' : List Int) (x : Int), ¬ (c' = 0 ∨ c' = 1) → Ev (fun k => spec_l1field.f k p') x → (hearW s (rd all (i : Int))).code = c' → (c' = 2 → ∃ H D X Z e r m,DecAt p' (hearW s (rd all (i : Int))) H D X Z e r m) → p'.length ≤ i + 1 → ∃ b R,(∀ R',Ev (fun k => spec_l1walk.l0 k all c' p' b (i + 1)) R' → Ev (fun k => spec_l1walk.tail k all p' i (fun d => spec_l1walk.l0 k all c' p' d (i + 1))) R') ∧ Ev (fun k => spec_l1walk.l0 k all c' p' b (i + 1)) R ∧ SpecEnd all (walkG (all.drop i) s) R:=by
   intro c' p' x hne hf hcd hdec hpl
   obtain ⟨b,hbt⟩:=tail_total his (by omega) hf
   have hw : walkG (all.drop i) s = if all.drop (i + 1) = [] then hearW s (rd all (i : Int)) else { hearW s (rd all (i : Int)) with code:=7 }:=by
    rw [hdrop,walkG,if_neg (by rw [hcd];exact hne)]
   by_cases hlast : i + 1 < all.length
   ·refine ⟨b,(7,p',false),fun R' hR' => hbt (fun k d => spec_l1walk.l0 k all c' p' d (i + 1)) R' hR',Ev.step (f:=fun _ => some (7,p',false)) (fun k => ?_) (Ev.now _), ?_⟩
    ·rw [spec_l1walk.l0,if_pos hlast,if_pos (by omega)]
    ·rw [hw,if_neg (by intro h2;have:=congrArg List.length h2;simp at this;omega)]
     exact ⟨rfl,fun h2 => by simp only [] at h2;omega,fun h2 => by simp only [] at h2;omega,by simp only [];omega⟩
   ·refine ⟨b,(c',p',b),fun R' hR' => hbt (fun k d => spec_l1walk.l0 k all c' p' d (i + 1)) R' hR',Ev.step (f:=fun _ => some (c',p',b)) (fun k => ?_) (Ev.now _), ?_⟩
    ·rw [spec_l1walk.l0,if_neg hlast]
    ·rw [hw,if_pos (List.drop_eq_nil_of_le (by omega))]
     exact ⟨hcd.symm,fun h2 => absurd (hcd ▸ h2) hne,fun h2 => hdec (by rw [← hcd];omega),by simp only [];omega⟩
  have hfp : Ev (fun k => spec_l1field.f k p) s.field:=field_ev h.ph h.bits
  cases at_step h his hb with
  | stop hd hlv hcd =>
   have hf11 : s.field ≤ 11:=by unfold dueW at hd;simp only [Bool.and_eq_true,decide_eq_true_eq] at hd;exact hd.2
   obtain ⟨run,last,ht,hr,hlev⟩:=h.trail hf11
   have h5 : run = 5:=by unfold dueW at hd;simp only [Bool.and_eq_true,beq_iff_eq] at hd;omega
   have hri:=ht.run_le
   obtain ⟨b,R,hbt,hR,hS⟩:=stop 3 p s.field (by omega) hfp hcd (by omega) (by have:=h.len;omega)
   refine ⟨R,Ev.step (f:=fun k => spec_l1walk.tail k all p i (fun d => spec_l1walk.l0 k all 3 p d (i + 1))) (fun k => ?_) (hbt R hR),hS⟩
   rw [spec_l1walk.l0,if_pos his,if_neg hrun,if_pos hd,if_pos (by omega),if_pos (by rw [hlv,hlev (by omega)];exact (ht.same (i - 1) (by omega) (by omega)).symm)]
  | skip hd hlv hcd ha =>
   have hf11 : s.field ≤ 11:=by unfold dueW at hd;simp only [Bool.and_eq_true,decide_eq_true_eq] at hd;exact hd.2
   obtain ⟨run,last,ht,hr,hlev⟩:=h.trail hf11
   have h5 : run = 5:=by unfold dueW at hd;simp only [Bool.and_eq_true,beq_iff_eq] at hd;omega
   have hri:=ht.run_le
   obtain ⟨R,hR,hS⟩:=ih (i + 1) _ p (by omega) ha (fun h1 => by omega)
   rw [hcd] at hR
   refine ⟨R,Ev.step (f:=fun k => spec_l1walk.tail k all p i (fun d => spec_l1walk.l0 k all 0 p d (i + 1))) (fun k => ?_) (tail_at ha his (by omega) (fun k d => spec_l1walk.l0 k all 0 p d (i + 1)) R hR), ?_⟩
   ·rw [spec_l1walk.l0,if_pos his,if_neg hrun,if_pos hd,if_pos (by omega),if_neg (by rw [ht.same (i - 1) (by omega) (by omega), ← hlev (by omega)];exact hlv)]
   ·rw [hdrop,walkG,if_pos (.inl hcd)];exact hS
  | take hd hcd ha =>
   have hlook:=look_ev h.ph h.bits s rfl rfl _ hc
   rw [← hcd] at hlook
   by_cases hrn : (hearW s (rd all (i : Int))).code = 0 ∨ (hearW s (rd all (i : Int))).code = 1
   ·have hat:=ha hrn
    obtain ⟨R,hR,hS⟩:=ih (i + 1) _ _ (by omega) hat (fun h1 => by obtain ⟨q1,q2⟩:=codeL_one (hcd.symm.trans h1);exact hear14_field q1 q2 _)
    refine ⟨R,Ev.step (f:=fun k => (spec_l1look.f k p (rd all (i : Int))).bind fun c => spec_l1walk.tail k all (p ++ [rd all (i : Int)]) i (fun d => spec_l1walk.l0 k all c (p ++ [rd all (i : Int)]) d (i + 1))) (fun k => ?_) (Ev.bind hlook (tail_at hat his (by omega) (fun k d => spec_l1walk.l0 k all (hearW s (rd all (i : Int))).code (p ++ [rd all (i : Int)]) d (i + 1)) R hR)), ?_⟩
    ·rw [spec_l1walk.l0,if_pos his,if_neg hrun,if_neg (by rw [hd];decide)]
    ·rw [hdrop,walkG,if_pos hrn];exact hS
   ·obtain ⟨x,hx⟩:=field_next h.ph h.bits (rd all (i : Int)) hc
    obtain ⟨b,R,hbt,hR,hS⟩:=stop _ (p ++ [rd all (i : Int)]) x hrn hx rfl (fun h2 => by obtain ⟨q1,q2⟩:=codeL_two (hcd.symm.trans h2);exact dec_whole h.ph h.bits q1 _ hc) (by rw [List.length_append,List.length_singleton];have:=h.len;omega)
    refine ⟨R,Ev.step (f:=fun k => (spec_l1look.f k p (rd all (i : Int))).bind fun c => spec_l1walk.tail k all (p ++ [rd all (i : Int)]) i (fun d => spec_l1walk.l0 k all c (p ++ [rd all (i : Int)]) d (i + 1))) (fun k => ?_) (Ev.bind hlook (hbt R hR)),hS⟩
    rw [spec_l1walk.l0,if_pos his,if_neg hrun,if_neg (by rw [hd];decide)]
theorem specwalk_ev (a0 : ByteArray) : ∃ R,Ev (fun k => spec_l1walk.f k a0) R ∧ SpecEnd (bytesOf a0) (walkV a0) R:=by
 unfold spec_l1walk.f walkV
 by_cases c : a0.size ≤ 4000 ∧ isBits a0 = true
 ·obtain ⟨R,hR,hS⟩:=specwalk_loop (bytesOf a0) (bits_of_isBits c.2) (by rw [bytesOf_length];exact c.1) (bytesOf a0).length 0 startW [] (by omega) (At.start _) (fun h => by simp [startW] at h)
  refine ⟨R,ev_pos c hR, ?_⟩
  rw [if_pos c]
  exact hS
 ·refine ⟨(8, [],false),ev_neg c (Ev.now _), ?_⟩
  rw [if_neg c]
  exact ⟨rfl,fun h => by simp only [] at h;omega,fun h => by simp only [] at h;omega,by simp⟩
end Go.Proofs.Ytdoclpgciadjaaa.P

namespace Go.Proofs.Ytdoclpgciadjaaa.P
open Go Go.RowKit Go.Proofs.YtdoclpgciadjaaaW.PrintWords Go.Proofs.YtdoclpgciadjaaaW.PrintLast
set_option linter.unusedVariables false
def judgeS (a0 : ByteArray) : Int × Int × Bool × Bool:=if (walkV a0).code = 0 ∨ (walkV a0).code = 1 then ((walkV a0).code,(walkV a0).field,dueW (walkV a0),crcOkW (walkV a0)) else ((walkV a0).code,0,false,false)
theorem lay_e0 {p : List Int} {c : Int × Int × Int × Bool × Int × Bool × Int × List Int} {m : Int} (h : Ph p c m) (hp : Bits p) (hf : c.1 ≤ 8) : ∃ x,Ev (fun k => spec_l1lay.f k p) (x,0):=by
 have r13 : ∀ (a r z : Int) (I R : List Int),I.length = 11 → rd (a :: I ++ [r] ++ z :: R) 13 = z:=by
  intro a r z I R h
  have:=rd_app_at (a :: I ++ [r]) R z
  rw [show (((a :: I ++ [r]).length : Nat) : Int) = 13 by simp [h]] at this
  exact this
 cases h with
 | sof => exact ⟨_,lay_few (by simp)⟩
 | ida a I h => exact ⟨_,lay_few (by simp;omega)⟩
 | rtr a I h => exact ⟨_,lay_few (by simp;omega)⟩
 | ide a r I h => exact ⟨_,lay_few (by simp;omega)⟩
 | idb a r I J h k => exact ⟨_,lay_part (e:=true) (by have:=r13 a r 49 I J h;simpa using this) (by simp;omega) (by simp;omega)⟩
 | rtrx a r I J h k => exact ⟨_,lay_part (e:=true) (by have:=r13 a r 49 I J h;simpa using this) (by simp;omega) (by simp;omega)⟩
 | resx a r q I J Z h k z => exact ⟨_,lay_part (e:=true) (by have:=r13 a r 49 I (J ++ [q] ++ Z) h;simpa using this) (by simp;omega) (by simp;omega)⟩
 | resb a r I h => exact ⟨_,lay_part (e:=false) (by have:=r13 a r 48 I [] h;simpa using this) (by simp;omega) (by simp;omega)⟩
 | dlc H D e r i h d =>
  have hl:=hd_len h
  have hlen : (H ++ D).length = H.length + D.length:=by simp
  exact ⟨_,lay_part (e:=e) (hd_13 h D) (by rw [hlen,hl];split <;> omega) (by rw [hlen,hl];split <;> omega)⟩
 | data => simp only [] at hf;omega
 | crc => simp only [] at hf;omega
 | del H D X C T e r i h d x c t => simp only [] at hf;omega
 | eof => simp only [] at hf;omega
theorem crcOk_no {p : List Int} {h e : Int} (hl : Ev (fun k => spec_l1lay.f k p) (h,e)) (he : 0 ≤ e) (he2 : e ≤ 1000) (hn : e = 0 ∨ (p.length : Int) < e + 15) : Ev (fun k => spec_l1crcOk.f k p) false:=by
 unfold spec_l1crcOk.f
 refine Ev.bind hl ?_
 simp only []
 have j : Ev (fun k => spec_l1crcOk.j0 k p e true) false:=by
  refine Ev.step (f:=fun _ => some false) (fun k => ?_) (Ev.now _)
  simp only [spec_l1crcOk.j0]
  rw [if_pos trivial]
 by_cases c : e = 0
 ·exact ev_pos c j
 ·refine ev_neg c ?_
  rw [w64 (x:=e + 15) (by omega) (by omega),decide_eq_true (by omega)]
  exact j
theorem crcOk_ev {p : List Int} {s : WS} (h : Ph p (core s) s.sum) (hp : Bits p) : Ev (fun k => spec_l1crcOk.f k p) (crcOkW s):=by
 generalize hg : core s = cc at h
 generalize hm : s.sum = mm at h
 by_cases hf : cc.1 ≤ 8
 ·obtain ⟨x,hx⟩:=lay_e0 h hp hf
  have : s.field = cc.1:=by rw [← hg];rfl
  have e : crcOkW s = false:=by unfold crcOkW;rw [decide_eq_false (by omega),Bool.false_and]
  rw [e]
  exact crcOk_no hx (by omega) (by omega) (.inl rfl)
 ·cases h with
  | data H D X e r i h d x =>
   have hD : Bits D:=bits_len hp D (fun x hx => by simp [hx])
   have hr:=dataB_range (r:=r) (V_range hD).1
   have hl:=hd_len h
   have hH : H.length = 15 ∨ H.length = 35:=by rw [hl];split <;> omega
   have e0 : crcOkW s = false:=by unfold crcOkW;rw [decide_eq_false (by have:=(core_is hg hm).f;omega),Bool.false_and]
   rw [e0]
   exact crcOk_no (lay_full (R:=X) h d hD (by omega)) (by omega) (by omega) (.inr (by simp [d];omega))
  | crc H D X C e r i h d x c =>
   have hD : Bits D:=bits_len hp D (fun x hx => by simp [hx])
   have hr:=dataB_range (r:=r) (V_range hD).1
   have hl:=hd_len h
   have hH : H.length = 15 ∨ H.length = 35:=by rw [hl];split <;> omega
   have e0 : crcOkW s = false:=by unfold crcOkW;rw [decide_eq_false (by have:=(core_is hg hm).f;omega),Bool.false_and]
   rw [e0]
   have hlay:=lay_full (R:=X ++ C) h d hD (by simp;omega)
   rw [← List.append_assoc] at hlay
   exact crcOk_no hlay (by omega) (by omega) (.inr (by simp [d];omega))
  | del H D X C T e r i h d x c t =>
   have hC:=core_is hg hm
   have:=crcOk_full h d x c (by omega) hp
   have e1 : crcOkW s = (crcS (H ++ D ++ X) == V C):=by unfold crcOkW;rw [hC.m,hC.g,decide_eq_true (by have:=hC.f;omega),Bool.true_and]
   rw [e1];exact this
  | eof H D X C T e r i h d x c t3 t =>
   have hC:=core_is hg hm
   have:=crcOk_full h d x c (by omega) hp
   have e1 : crcOkW s = (crcS (H ++ D ++ X) == V C):=by unfold crcOkW;rw [hC.m,hC.g,decide_eq_true (by have:=hC.f;omega),Bool.true_and]
   rw [e1];exact this
  | _ => exfalso;simp only [] at hf;omega
theorem specJudge_ev (a0 : ByteArray) : Ev (fun k => spec_Judge.f k a0) (judgeS a0):=by
 obtain ⟨R,hR,hS⟩:=specwalk_ev a0
 obtain ⟨c,p,d⟩:=R
 have hc : c = (walkV a0).code:=hS.code
 unfold spec_Judge.f
 refine Ev.bind hR ?_
 simp only []
 unfold judgeS
 have j : ∀ b,Ev (fun k => spec_Judge.j0 k c p d b) (if b = true then (c,0,false,false) else (judgeS a0)) → True:=fun _ _ => trivial
 by_cases hl : (walkV a0).code = 0 ∨ (walkV a0).code = 1
 ·rw [if_pos hl]
  obtain ⟨ha,hd⟩:=hS.live hl
  simp only [] at ha hd
  have go : Ev (fun k => spec_Judge.j0 k c p d false) ((walkV a0).code,(walkV a0).field,dueW (walkV a0),crcOkW (walkV a0)):=by
   refine Ev.step (f:=fun k => (spec_l1field.f k p).bind fun t291 => ((spec_l1crcOk.f k p).bind fun t292 => (some (c,t291,d,t292)))) (fun k => ?_) (Ev.bind (field_ev ha.ph ha.bits) (Ev.bind (crcOk_ev ha.ph ha.bits) ?_))
   ·simp only [spec_Judge.j0]
    rw [if_neg (by decide)]
   ·rw [hc,hd];exact Ev.now _
  by_cases h0 : c = 0
  ·exact ev_pos h0 go
  ·refine ev_neg h0 ?_
   rw [show (c != 1) = false by simp;omega]
   exact go
 ·rw [if_neg hl]
  refine ev_neg (by omega) ?_
  rw [show (c != 1) = true by simp;omega]
  refine Ev.step (f:=fun _ => some (c,0,false,false)) (fun k => ?_) ?_
  ·simp only [spec_Judge.j0]
   rw [if_pos trivial]
  ·rw [hc];exact Ev.now _
end Go.Proofs.Ytdoclpgciadjaaa.P

namespace Go.Proofs.Ytdoclpgciadjaaa.P
open Go Go.RowKit Go.Proofs.YtdoclpgciadjaaaW.PrintWords
set_option linter.unusedVariables false
theorem V_one (c : Int) : V [c] = c - 48:=by have:=V_snoc [] c;rw [V_nil] at this;simpa using this
theorem bytesB_part (Y : List Int) (hY : Y.length % 8 = 0) : ∀ (Z : List Int),0 < Z.length → Z.length ≤ 8 → bytesB (Y ++ Z) = bytesB Y ++ [V Z % 256]:=by
 intro Z
 induction Z using revInd with
 | nil => intro h;simp at h
 | snoc Z c ih =>
  intro _ h8
  rw [List.length_append,List.length_singleton] at h8
  rw [← List.append_assoc,bytesB_snoc]
  by_cases hz : Z.length = 0
  ·obtain rfl : Z = []:=List.eq_nil_of_length_eq_zero hz
   rw [List.append_nil,if_pos hY,List.nil_append,V_one]
  ·rw [if_neg (by rw [List.length_append];omega),ih (by omega) (by omega),V_snoc]
   have hl : (bytesB Y ++ [V Z % 256]).length = (bytesB Y).length + 1:=by simp
   rw [hl,Nat.add_sub_cancel,List.set_append_right _ _ (Nat.le_refl _),Nat.sub_self]
   have hr : rd (bytesB Y ++ [V Z % 256]) ((((bytesB Y).length + 1 : Nat) : Int) - 1) = V Z % 256:=by
    rw [show ((((bytesB Y).length + 1 : Nat) : Int) - 1) = (((bytesB Y).length : Nat) : Int) by omega]
    exact rd_app_at (bytesB Y) [] (V Z % 256)
   rw [hr]
   show bytesB Y ++ [(2 * (V Z % 256) + (c - 48)) % 256] = _
   congr 2
   omega
end Go.Proofs.Ytdoclpgciadjaaa.P

namespace Go.Proofs.Ytdoclpgciadjaaa.P
open Go Go.RowKit Go.Proofs.YtdoclpgciadjaaaW.PrintWords
set_option linter.unusedVariables false
def stuffS : List Int → Int → Int → List Int
 | [],_,_ => []
 | c :: l,run,last => if (if c = last then run + 1 else 1) = 5 then c :: (97 - c) :: stuffS l 1 (97 - c) else c :: stuffS l (if c = last then run + 1 else 1) c
theorem stuff_fold : ∀ (l out : List Int) (run last : Int),(l.foldl stuffStep (out,run,last)).1 = out ++ stuffS l run last:=by
 intro l
 induction l with
 | nil => intro out run last;simp [stuffS]
 | cons c l ih =>
  intro out run last
  rw [List.foldl_cons,stuffS]
  unfold stuffStep
  simp only []
  by_cases h : (if c = last then run + 1 else 1) = 5
  ·rw [if_pos h,if_pos h]
   have:=ih (out ++ [c] ++ [97 - c]) 1 (97 - c)
   unfold stuffStep at this
   rw [this]
   simp
  ·rw [if_neg h,if_neg h]
   have:=ih (out ++ [c]) (if c = last then run + 1 else 1) c
   unfold stuffStep at this
   rw [this]
   simp
theorem stuffL_eq (l : List Int) : stuffL l = stuffS l 0 120:=by
 unfold stuffL
 rw [stuff_fold]
 simp
theorem stuffS_bits : ∀ (l : List Int) (run last : Int),Bits l → Bits (stuffS l run last):=by
 intro l
 induction l with
 | nil => intro run last h;exact h
 | cons c l ih =>
  intro run last h
  have hc:=h c (by simp)
  have hl : Bits l:=fun x hx => h x (by simp [hx])
  rw [stuffS]
  by_cases e : (if c = last then run + 1 else 1) = 5
  ·rw [if_pos e]
   intro x hx
   rcases List.mem_cons.1 hx with rfl | hx
   ·exact hc
   ·rcases List.mem_cons.1 hx with rfl | hx
    ·omega
    ·exact ih _ _ hl x hx
  ·rw [if_neg e]
   intro x hx
   rcases List.mem_cons.1 hx with rfl | hx
   ·exact hc
   ·exact ih _ _ hl x hx
end Go.Proofs.Ytdoclpgciadjaaa.P

namespace Go.Proofs.Ytdoclpgciadjaaa.P
open Go Go.RowKit Go.Proofs.YtdoclpgciadjaaaW.PrintWords
set_option linter.unusedVariables false
theorem ev_uniq {α : Type} {g : Nat → Option α} {a b : α} (h : Ev g a) (k : Ev g b) : a = b:=by
 obtain ⟨K,h⟩:=h
 obtain ⟨K',k⟩:=k
 have h1:=h (max K K') (by omega)
 have h2:=k (max K K') (by omega)
 rw [h1] at h2
 exact Option.some.inj h2
theorem hd_fun {H : List Int} {e e' r r' : Bool} {i i' : Int} (h : Hd H e r i) (k : Hd H e' r' i') : e = e' ∧ r = r' ∧ i = i':=by
 have he : e = e':=by
  have h1:=hd_13 h []
  have h2:=hd_13 k []
  rw [h1] at h2
  cases e <;> cases e' <;> simp at h2 <;> rfl
 subst he
 refine ⟨rfl, ?_⟩
 generalize hH : H = G at k
 cases h with
 | base a r z I hI =>
  cases k with
  | base a2 r2 z2 I2 hI2 =>
   simp only [List.cons_append,List.cons.injEq] at hH
   obtain ⟨h1,h2⟩:=List.append_inj hH.2 (by omega)
   simp only [List.cons.injEq] at h2
   exact ⟨by rw [h2.1],by rw [h1]⟩
 | ext a q r z y I J hI hJ =>
  cases k with
  | ext a2 q2 r2 z2 y2 I2 J2 hI2 hJ2 =>
   simp only [List.cons_append,List.cons.injEq,List.append_assoc,List.nil_append] at hH
   obtain ⟨h1,h2⟩:=List.append_inj hH.2 (by omega)
   simp only [List.cons.injEq,true_and] at h2
   obtain ⟨h3,h4⟩:=List.append_inj h2.2 (by omega)
   simp only [List.cons.injEq] at h4
   exact ⟨by rw [h4.1],by rw [h1,h3]⟩
theorem hd_split {H H' Y Y' : List Int} {e e' r r' : Bool} {i i' : Int} (h : Hd H e r i) (k : Hd H' e' r' i') (q : H ++ Y = H' ++ Y') : H = H' ∧ e = e' ∧ r = r' ∧ i = i' ∧ Y = Y':=by
 have he : e = e':=by
  have h1:=hd_13 h Y
  have h2:=hd_13 k Y'
  rw [q,h2] at h1
  cases e <;> cases e' <;> simp at h1 <;> rfl
 have hl : H.length = H'.length:=by rw [hd_len h,hd_len k,he]
 obtain ⟨h1,h2⟩:=List.append_inj q hl
 subst h1
 obtain ⟨_,h3,h4⟩:=hd_fun h k
 exact ⟨rfl,he,h3,h4,h2⟩
structure Parts (P H D X C : List Int) (e r : Bool) (i : Int) : Prop where
 eq : P = H ++ D ++ X ++ C
 hd : Hd H e r i
 dl : D.length = 4
 xl : (X.length : Int) = 8 * dataB r (V D)
 cl : C.length = 15
 bits : Bits P
 sof : rd P 0 = 48
theorem Parts.bD {P H D X C : List Int} {e r : Bool} {i : Int} (K : Parts P H D X C e r i) : Bits D:=fun x hx => K.bits x (by rw [K.eq];simp [hx])
theorem Parts.len {P H D X C : List Int} {e r : Bool} {i : Int} (K : Parts P H D X C e r i) : P.length = H.length + 4 + X.length + 15 ∧ P.length ≤ 118:=by
 have hh:=hd_len K.hd
 have hn:=dataB_range (r:=r) (V_range K.bD).1
 have h2 : P.length = H.length + 4 + X.length + 15:=by rw [K.eq];simp [K.dl,K.cl];omega
 have hx:=K.xl
 refine ⟨h2, ?_⟩
 split at hh <;> omega
theorem rest_split {D X R D' X' R' : List Int} {n : Int} (hD : D.length = 4) (hD' : D'.length = 4) (q : D ++ (X ++ R) = D' ++ (X' ++ R')) (hX : D = D' → X.length = X'.length) : D = D' ∧ X = X' ∧ R = R':=by
 obtain ⟨h1,h2⟩:=List.append_inj q (by omega)
 obtain ⟨h3,h4⟩:=List.append_inj h2 (hX h1)
 exact ⟨h1,h3,h4⟩
theorem low_field {P H D X C p z : List Int} {e r : Bool} {i : Int} (K : Parts P H D X C e r i) {c : Int × Int × Int × Bool × Int × Bool × Int × List Int} {m : Int} (h : Ph p c m) (hz : 0 < z.length) (q : p ++ z = P) : c.1 ≤ 10:=by
 have key : ∀ (H' D' X' C' T' : List Int) (e' r' : Bool) (i' : Int),Hd H' e' r' i' → D'.length = 4 → (X'.length : Int) = 8 * dataB r' (V D') → C'.length = 15 → p = H' ++ D' ++ X' ++ C' ++ T' → False:=by
  intro H' D' X' C' T' e' r' i' h' d' x' c' ep
  have q2 : H' ++ (D' ++ (X' ++ (C' ++ T' ++ z))) = H ++ (D ++ (X ++ C)):=by
   have:=q
   rw [ep,K.eq] at this
   simpa [List.append_assoc] using this
  obtain ⟨_,_,hr,_,q3⟩:=hd_split h' K.hd q2
  obtain ⟨_,_,q4⟩:=rest_split (n:=0) d' K.dl q3 (fun hDD => by have:=K.xl;rw [hr,hDD] at x';omega)
  have:=congrArg List.length q4
  rw [List.length_append,List.length_append,c',K.cl] at this
  omega
 cases h with
 | del H' D' X' C' T' e' r' i' h' d' x' c' t' => exact (key H' D' X' C' T' e' r' i' h' d' x' c' rfl).elim
 | eof H' D' X' C' T' e' r' i' h' d' x' c' t3 t' => exact (key H' D' X' C' T' e' r' i' h' d' x' c' rfl).elim
 | _ => simp only [];omega
theorem sof_field {p : List Int} {c : Int × Int × Int × Bool × Int × Bool × Int × List Int} {m : Int} (h : Ph p c m) (hf : c.1 = 1) : p = []:=by
 cases h with
 | sof => rfl
 | del => simp only [] at hf;omega
 | _ => simp only [] at hf;omega
theorem core_at {P H D X C T : List Int} {e r : Bool} {i : Int} (K : Parts P H D X C e r i) (hT : T.length < 10) {c : Int × Int × Int × Bool × Int × Bool × Int × List Int} {m : Int} (hb : Bits (P ++ T)) (h : Ph (P ++ T) c m) :
  c = (if T.length < 3 then 11 + (T.length : Int) else 14,if T.length < 3 then 1 else 10 - (T.length : Int),V C,e,i,r,V D,bytesB X) ∧ m = crcS (H ++ D ++ X):=by
 have hf:=field_ev h hb
 have hn:=dataB_range (r:=r) (V_range K.bD).1
 have hxl:=K.xl
 have hff:=field_full (R:=X ++ C ++ T) K.hd K.dl K.bD (by simp [K.cl];omega)
 have ep : H ++ D ++ (X ++ C ++ T) = P ++ T:=by rw [K.eq];simp
 rw [ep] at hff
 have hc:=ev_uniq hf hff
 have hlen : ((X ++ C ++ T).length : Int) = 8 * dataB r (V D) + 15 + T.length:=by simp [K.cl];omega
 rw [hlen,if_neg (by omega),if_neg (by omega)] at hc
 have key : ∀ (H' D' X' C' T' : List Int) (e' r' : Bool) (i' : Int),Hd H' e' r' i' → D'.length = 4 → (X'.length : Int) = 8 * dataB r' (V D') → C'.length = 15 → P ++ T = H' ++ D' ++ X' ++ C' ++ T' → H' = H ∧ D' = D ∧ X' = X ∧ C' = C ∧ T' = T ∧ e' = e ∧ r' = r ∧ i' = i:=by
  intro H' D' X' C' T' e' r' i' h' d' x' c' ep
  have q2 : H' ++ (D' ++ (X' ++ (C' ++ T'))) = H ++ (D ++ (X ++ (C ++ T))):=by
   rw [K.eq] at ep
   simpa [List.append_assoc] using ep.symm
  obtain ⟨h1,h2,hr,h3,q3⟩:=hd_split h' K.hd q2
  obtain ⟨h4,h5,q4⟩:=rest_split (n:=0) d' K.dl q3 (fun hDD => by rw [hr,hDD] at x';omega)
  obtain ⟨h6,h7⟩:=List.append_inj q4 (by rw [c',K.cl])
  exact ⟨h1,h4,h5,h6,h7,h2,hr,h3⟩
 generalize hg : P ++ T = g at h
 cases h with
 | del H' D' X' C' T' e' r' i' h' d' x' c' t' =>
  obtain ⟨rfl,rfl,rfl,rfl,rfl,rfl,rfl,rfl⟩:=key H' D' X' C' T' e' r' i' h' d' x' c' hg
  rw [if_pos t',if_pos t']
  exact ⟨rfl,rfl⟩
 | eof H' D' X' C' T' e' r' i' h' d' x' c' t3 t' =>
  obtain ⟨rfl,rfl,rfl,rfl,rfl,rfl,rfl,rfl⟩:=key H' D' X' C' T' e' r' i' h' d' x' c' hg
  rw [if_neg (by omega),if_neg (by omega)]
  exact ⟨rfl,rfl⟩
 | _ => exfalso;simp only [] at hc;(repeat' split at hc) <;> omega
structure St (all : List Int) (n : Nat) (s : WS) (p : List Int) (run last : Int) : Prop where
 at_ : At all n s p
 code : s.code = 0
 rn : s.run = run
 r0 : 0 ≤ run
 r4 : run ≤ 4
 lev : 0 < run → s.level = last
 z : run = 0 → last = 120
theorem hear_run {s : WS} (hd : dueW s = false) (hf : s.field ≤ 10) (c : Int) : (hearW s c).run = (if 0 < s.run ∧ s.level = c then s.run + 1 else 1) ∧ (hearW s c).level = c:=by
 have hd0 : ¬ dueW { s with code:=0 } = true:=by
  have : dueW { s with code:=0 } = dueW s:=rfl
  rw [this,hd];decide
 unfold hearW
 simp only []
 rw [if_neg hd0,if_pos hf]
 by_cases h : 0 < s.run ∧ s.level = c
 ·rw [if_pos h,if_pos h]
  have:=plainW_run { s with code:=0,run:=s.run + 1 } (c - 48)
  exact ⟨this.1,this.2.trans h.2⟩
 ·rw [if_neg h,if_neg h]
  have:=plainW_run { s with code:=0,run:=1,level:=c } (c - 48)
  exact ⟨this.1,this.2⟩
theorem codeL_low {s : WS} {b : Int} (hf : s.field ≤ 10) (h1 : s.field = 1 → b ≠ 1) : codeL s b = 0:=by
 unfold codeL
 by_cases c : s.field = 1
 ·rw [if_pos c,if_neg (h1 c)]
 ·rw [if_neg c,if_neg (by omega),if_neg (by omega),if_neg (by omega)]
theorem due_low {s : WS} (h : s.run ≤ 4) : dueW s = false:=by unfold dueW;rw [show (s.run == 5) = false by simp;omega];rfl
theorem hear_skip {s : WS} {c : Int} (h : dueW s = true) (hl : c ≠ s.level) : hearW s c = { s with code:=0,run:=1,level:=c }:=by
 have hd0 : dueW { s with code:=0 } = true:=h
 unfold hearW
 simp only []
 rw [if_pos hd0,if_neg hl]
theorem walkG_cons {c : Int} {l : List Int} {s : WS} (h : (hearW s c).code = 0 ∨ (hearW s c).code = 1) : walkG (c :: l) s = walkG l (hearW s c):=by rw [walkG,if_pos h]
theorem walk_stuffed {P H D X C : List Int} {e r : Bool} {i : Int} (K : Parts P H D X C e r i) (all rest : List Int) (hall : Bits all) : ∀ (q p pre : List Int) (s : WS) (run last : Int),p ++ q = P → all = pre ++ (stuffS q run last ++ rest) → St all pre.length s p run last →
  ∃ s' run' last',St all (pre.length + (stuffS q run last).length) s' P run' last' ∧ (∀ l1 l2,stuffS q run last = l1 ++ l2 → (walkG l1 s).code = 0) ∧ ∀ m,walkG (stuffS q run last ++ m) s = walkG m s':=by
 intro q
 induction q with
 | nil =>
  intro p pre s run last hp ha hS
  rw [List.append_nil] at hp
  subst hp
  refine ⟨s,run,last,hS,fun l1 l2 h => ?_,fun m => rfl⟩
  have : l1 = []:=(List.append_eq_nil_iff.1 h.symm).1
  rw [this]
  exact hS.code
 | cons c q ih =>
  intro p pre s run last hp ha hS
  have hdue:=due_low (s:=s) (by rw [hS.rn];exact hS.r4)
  have hlow : s.field ≤ 10:=by have:=low_field K hS.at_.ph (z:=c :: q) (by simp) hp;exact this
  have hhead : ∃ Y,stuffS (c :: q) run last = c :: Y:=by
   rw [stuffS]
   by_cases h : (if c = last then run + 1 else 1) = 5
   ·rw [if_pos h];exact ⟨_,rfl⟩
   ·rw [if_neg h];exact ⟨_,rfl⟩
  obtain ⟨Y,hY⟩:=hhead
  have hat : rd all (pre.length : Int) = c:=by rw [ha,hY];exact rd_app_at pre _ c
  have hlt : pre.length < all.length:=by rw [ha,hY];simp
  have hcb : c = 48 ∨ c = 49:=K.bits c (by rw [← hp];simp)
  have h1 : s.field = 1 → c - 48 ≠ 1:=by
   intro hf
   have hp0 : p = []:=sof_field hS.at_.ph hf
   have:=K.sof
   rw [← hp,hp0] at this
   have : c = 48:=this
   omega
  have hst:=at_step hS.at_ hlt hall
  rw [hat] at hst
  have hc0 : (hearW s c).code = 0:=by
   cases hst with
   | stop hd _ _ => rw [hdue] at hd;cases hd
   | skip hd _ _ _ => rw [hdue] at hd;cases hd
   | take _ hc _ => rw [hc];exact codeL_low hlow h1
  have hAt : At all (pre.length + 1) (hearW s c) (p ++ [c]):=by
   cases hst with
   | stop hd _ _ => rw [hdue] at hd;cases hd
   | skip hd _ _ _ => rw [hdue] at hd;cases hd
   | take _ _ ha => exact ha (.inl hc0)
  obtain ⟨hr,hl⟩:=hear_run hdue hlow c
  have hrun : (hearW s c).run = if c = last then run + 1 else 1:=by
   rw [hr,hS.rn]
   by_cases hz : run = 0
   ·have:=hS.z hz
    rw [if_neg (by omega),if_neg (by omega)]
   ·have h0:=hS.r0
    have hlv:=hS.lev (by omega)
    by_cases hcl : c = last
    ·rw [if_pos ⟨by omega,by rw [hlv,hcl]⟩,if_pos hcl]
    ·rw [if_neg (by rintro ⟨_,h⟩;exact hcl (by rw [← h,hlv])),if_neg hcl]
  have h0:=hS.r0
  have h4:=hS.r4
  have hrb : 1 ≤ (if c = last then run + 1 else 1) ∧ (if c = last then run + 1 else 1) ≤ 5:=by split <;> omega
  generalize hnr : (if c = last then run + 1 else 1) = nr at hrun hrb
  have hp' : (p ++ [c]) ++ q = P:=by rw [← hp];simp
  by_cases h5 : nr = 5
  ·have hdef : stuffS (c :: q) run last = c :: (97 - c) :: stuffS q 1 (97 - c):=by rw [stuffS,hnr,if_pos h5]
   rw [hdef] at ha ⊢
   have hf11 : (hearW s c).field ≤ 11:=by
    rcases List.eq_nil_or_concat q with rfl | ⟨_,_,rfl⟩
    ·rw [List.append_nil] at hp'
     have hPh:=hAt.ph
     rw [hp', ← List.append_nil P] at hPh
     have:=(core_at K (T := []) (by simp) (by rw [List.append_nil];exact K.bits) hPh).1
     have h2:=congrArg (fun x => x.1) this
     simp only [List.length_nil] at h2
     have : (hearW s c).field = 11:=h2
     omega
    ·have:=low_field K hAt.ph (by simp) hp'
     have : (hearW s c).field ≤ 10:=this
     omega
   have hdue2 : dueW (hearW s c) = true:=by unfold dueW;rw [show ((hearW s c).run == 5) = true by simp;omega,decide_eq_true hf11];rfl
   have ha2 : all = (pre ++ [c]) ++ ((97 - c) :: stuffS q 1 (97 - c) ++ rest):=by rw [ha];simp
   have hlen1 : (pre ++ [c]).length = pre.length + 1:=by simp
   have hat2 : rd all ((pre.length + 1 : Nat) : Int) = 97 - c:=by
    have:=rd_app_at (pre ++ [c]) (stuffS q 1 (97 - c) ++ rest) (97 - c)
    rw [hlen1] at this
    rw [ha2];exact this
   have hst2:=at_step hAt (by rw [ha2];simp) hall
   rw [hat2] at hst2
   have hne : 97 - c ≠ (hearW s c).level:=by rw [hl];omega
   have hsk:=hear_skip hdue2 hne
   have hAt2 : At all (pre.length + 1 + 1) (hearW (hearW s c) (97 - c)) (p ++ [c]):=by
    cases hst2 with
    | stop _ hl2 _ => exact absurd hl2 hne
    | skip _ _ _ ha => exact ha
    | take hd _ _ => rw [hdue2] at hd;cases hd
   have hcode2 : (hearW (hearW s c) (97 - c)).code = 0:=by rw [hsk]
   have hS2 : St all (pre ++ [c,97 - c]).length (hearW (hearW s c) (97 - c)) (p ++ [c]) 1 (97 - c):=by
    refine ⟨by rw [show (pre ++ [c,97 - c]).length = pre.length + 1 + 1 by simp];exact hAt2,hcode2,by rw [hsk],by omega,by omega,fun _ => by rw [hsk],fun h => by omega⟩
   obtain ⟨s',run',last',g1,g2,g3⟩:=ih (p ++ [c]) (pre ++ [c,97 - c]) _ 1 (97 - c) hp' (by rw [ha];simp) hS2
   refine ⟨s',run',last', ?_,fun l1 l2 h => ?_,fun m => ?_⟩
   ·have e : pre.length + (c :: (97 - c) :: stuffS q 1 (97 - c)).length = (pre ++ [c,97 - c]).length + (stuffS q 1 (97 - c)).length:=by simp;omega
    rw [e];exact g1
   ·cases l1 with
    | nil => exact hS.code
    | cons a l1 =>
     simp only [List.cons_append,List.cons.injEq] at h
     obtain ⟨rfl,h⟩:=h
     rw [walkG_cons (.inl hc0)]
     cases l1 with
     | nil => exact hc0
     | cons b l1 =>
      simp only [List.cons_append,List.cons.injEq] at h
      obtain ⟨rfl,h⟩:=h
      rw [walkG_cons (.inl hcode2)]
      exact g2 l1 l2 h
   ·show walkG (c :: ((97 - c) :: (stuffS q 1 (97 - c) ++ m))) s = _
    rw [walkG_cons (.inl hc0),walkG_cons (.inl hcode2)]
    exact g3 m
  ·have hdef : stuffS (c :: q) run last = c :: stuffS q nr c:=by rw [stuffS,hnr,if_neg h5]
   rw [hdef] at ha ⊢
   have hS2 : St all (pre ++ [c]).length (hearW s c) (p ++ [c]) nr c:=by
    refine ⟨by rw [show (pre ++ [c]).length = pre.length + 1 by simp];exact hAt,hc0,hrun,by omega,by omega,fun _ => hl,fun h => by omega⟩
   obtain ⟨s',run',last',g1,g2,g3⟩:=ih (p ++ [c]) (pre ++ [c]) _ nr c hp' (by rw [ha];simp) hS2
   refine ⟨s',run',last', ?_,fun l1 l2 h => ?_,fun m => ?_⟩
   ·have e : pre.length + (c :: stuffS q nr c).length = (pre ++ [c]).length + (stuffS q nr c).length:=by simp;omega
    rw [e];exact g1
   ·cases l1 with
    | nil => exact hS.code
    | cons a l1 =>
     simp only [List.cons_append,List.cons.injEq] at h
     obtain ⟨rfl,h⟩:=h
     rw [walkG_cons (.inl hc0)]
     exact g2 l1 l2 h
   ·show walkG (c :: (stuffS q nr c ++ m)) s = _
    rw [walkG_cons (.inl hc0)]
    exact g3 m
end Go.Proofs.Ytdoclpgciadjaaa.P

namespace Go.Proofs.Ytdoclpgciadjaaa.P
open Go Go.RowKit Go.Proofs.YtdoclpgciadjaaaW.PrintWords
set_option linter.unusedVariables false
def tl (a : Int) : List Int := [49,a,49,49,49,49,49,49,49,49]
structure TailAt (s : WS) (n : Nat) (m g : Int) (e r : Bool) (i d : Int) (x : List Int) : Prop where
 f : s.field = if n < 3 then 11 + (n : Int) else 14
 l : s.left = if n < 3 then 1 else 10 - (n : Int)
 m : s.sum = m
 g : s.got = g
 e : s.ext = e
 r : s.rtr = r
 i : s.id = i
 d : s.dlc = d
 x : s.data = x
theorem tail_core {P H D X C T : List Int} {e r : Bool} {i : Int} (K : Parts P H D X C e r i) {all : List Int} {n : Nat} {s : WS} (hA : At all n s (P ++ T)) (hT : T.length < 10) : TailAt s T.length (crcS (H ++ D ++ X)) (V C) e r i (V D) (bytesB X):=by
 obtain ⟨h1,h2⟩:=core_at K hT hA.bits hA.ph
 have K2:=core_is h1 h2
 exact ⟨K2.f,K2.l,K2.m,K2.g,K2.e,K2.r,K2.i,K2.d,K2.x⟩
theorem tail_step {P H D X C T : List Int} {e r : Bool} {i : Int} (K : Parts P H D X C e r i) {all : List Int} (hall : Bits all) {n : Nat} {s : WS} {c : Int} (hA : At all n s (P ++ T)) (hT : T.length < 10) (hc : rd all (n : Int) = c) (hn : n < all.length) (hd : dueW s = false) :
  (hearW s c).code = codeL s (c - 48) ∧ ((hearW s c).code = 0 ∨ (hearW s c).code = 1 → At all (n + 1) (hearW s c) (P ++ (T ++ [c])) ∧ (T.length < 9 → dueW (hearW s c) = false)):=by
 have hst:=at_step hA hn hall
 rw [hc] at hst
 cases hst with
 | stop h _ _ => rw [hd] at h;cases h
 | skip h _ _ _ => rw [hd] at h;cases h
 | take _ hcd ha =>
  refine ⟨hcd,fun h => ?_⟩
  have hA2:=ha h
  rw [List.append_assoc] at hA2
  refine ⟨hA2,fun h9 => ?_⟩
  have hf:=(tail_core K hA2 (by simp;omega)).f
  have : ¬ (hearW s c).field ≤ 11:=by
   rw [hf]
   simp only [List.length_append,List.length_singleton]
   split <;> omega
  unfold dueW
  rw [decide_eq_false this,Bool.and_false]
theorem tail_code {s : WS} {n : Nat} {m g : Int} {e r : Bool} {i d : Int} {x : List Int} (h : TailAt s n m g e r i d x) (b : Int) (hb : n ≠ 1 → b = 1) (hn : n < 10) : codeL s b = if n = 2 ∧ m ≠ g then 5 else if n = 8 then 1 else if n = 9 then 2 else 0:=by
 have hf:=h.f
 have hl:=h.l
 have hcr : crcOkW s = (decide (10 < s.field) && m == g):=by unfold crcOkW;rw [h.m,h.g]
 unfold codeL
 rw [hcr]
 by_cases c3 : n < 3
 ·rw [if_pos c3] at hf hl
  rw [hf]
  rw [decide_eq_true (show (10 : Int) < 11 + n by omega),Bool.true_and]
  have : n = 0 ∨ n = 1 ∨ n = 2:=by omega
  rcases this with rfl | rfl | rfl
  ·have:=hb (by omega);subst this;rfl
  ·rfl
  ·have:=hb (by omega);subst this
   by_cases hmg : m = g
   ·subst hmg;simp
   ·have : (m == g) = false:=beq_eq_false_iff_ne.mpr hmg
    rw [this];simp [hmg]
 ·rw [if_neg c3] at hf hl
  have hb1:=hb (by omega)
  subst hb1
  rw [hf,hl]
  rw [if_neg (show ¬ (14 : Int) = 1 by decide),if_neg (show ¬ (14 : Int) = 11 by decide),if_neg (show ¬ (14 : Int) = 13 by decide),if_pos rfl,if_neg (show ¬ (1 < 10 - (n : Int) ∧ (1 : Int) = 0) by omega),if_neg (show ¬ (n = 2 ∧ m ≠ g) by omega)]
  by_cases c8 : n = 8
  ·rw [if_pos (show 10 - (n : Int) = 2 by omega),if_pos c8]
  ·rw [if_neg (show ¬ 10 - (n : Int) = 2 by omega),if_neg c8,if_neg (show ¬ (10 - (n : Int) = 1 ∧ (1 : Int) = 0) by omega)]
   by_cases c9 : n = 9
   ·rw [if_pos (show 10 - (n : Int) = 1 by omega),if_pos c9]
   ·rw [if_neg (show ¬ 10 - (n : Int) = 1 by omega),if_neg c9]
theorem tl_get (a : Int) (ha : a = 48 ∨ a = 49) (j : Nat) (hj : j < 10) : ∃ c,(tl a)[j]? = some c ∧ (j ≠ 1 → c = 49) ∧ (c = 48 ∨ c = 49) ∧ (tl a).drop j = c :: (tl a).drop (j + 1) ∧ (tl a).take (j + 1) = (tl a).take j ++ [c]:=by
 have : j = 0 ∨ j = 1 ∨ j = 2 ∨ j = 3 ∨ j = 4 ∨ j = 5 ∨ j = 6 ∨ j = 7 ∨ j = 8 ∨ j = 9:=by omega
 rcases this with rfl | rfl | rfl | rfl | rfl | rfl | rfl | rfl | rfl | rfl
 ·exact ⟨49,rfl,fun _ => rfl, .inr rfl,rfl,rfl⟩
 ·exact ⟨a,rfl,fun h => absurd rfl h,ha,rfl,rfl⟩
 all_goals exact ⟨49,rfl,fun _ => rfl, .inr rfl,rfl,rfl⟩
theorem tail_walk {P H D X C : List Int} {e r : Bool} {i : Int} (K : Parts P H D X C e r i) {all pre : List Int} (hall : Bits all) (a : Int) (ha : a = 48 ∨ a = 49) (he : all = pre ++ tl a) {s0 : WS} {run last : Int} (hS : St all pre.length s0 P run last) :
  ∀ j : Nat,j ≤ 9 → (3 ≤ j → crcS (H ++ D ++ X) = V C) → ∃ s,At all (pre.length + j) s (P ++ (tl a).take j) ∧ s.code = (if j = 9 then 1 else 0) ∧ dueW s = false ∧ ∀ m,walkG ((tl a).take j ++ m) s0 = walkG m s:=by
 intro j
 induction j with
 | zero =>
  intro _ _
  exact ⟨s0,by simpa using hS.at_,by rw [if_neg (by omega)];exact hS.code,due_low (by rw [hS.rn];exact hS.r4),fun m => by rw [List.take_zero];rfl⟩
 | succ j ih =>
  intro hj hcr
  obtain ⟨s,hA,hc,hd,hw⟩:=ih (by omega) (fun h => hcr (by omega))
  obtain ⟨c,hget,hc1,hcb,hdr,htk⟩:=tl_get a ha j (by omega)
  have hl10 : (tl a).length = 10:=rfl
  have hTl : ((tl a).take j).length = j:=by rw [List.length_take,hl10];omega
  have hat : rd all ((pre.length + j : Nat) : Int) = c:=by
   have e1 : all = (pre ++ (tl a).take j) ++ c :: (tl a).drop (j + 1):=by rw [← hdr,List.append_assoc,List.take_append_drop];exact he
   have:=rd_app_at (pre ++ (tl a).take j) ((tl a).drop (j + 1)) c
   rw [← e1,List.length_append,hTl] at this
   exact this
  obtain ⟨g1,g2⟩:=tail_step K hall hA (by omega) hat (by rw [he,List.length_append,hl10];omega) hd
  have TA:=tail_core K hA (by omega)
  rw [hTl] at TA
  have hcode:=tail_code TA (c - 48) (fun h => by rw [hc1 h];decide) (by omega)
  rw [if_neg (by rintro ⟨h2,h3⟩;exact h3 (hcr (by omega))),if_neg (show ¬ j = 9 by omega)] at hcode
  have hcode2 : (hearW s c).code = if j + 1 = 9 then 1 else 0:=by
   rw [g1,hcode]
   by_cases h8 : j = 8
   ·rw [if_pos h8,if_pos (by omega)]
   ·rw [if_neg h8,if_neg (by omega)]
  have hok : (hearW s c).code = 0 ∨ (hearW s c).code = 1:=by rw [hcode2];split <;> simp
  obtain ⟨g3,g4⟩:=g2 hok
  refine ⟨hearW s c,by rw [htk];exact g3,hcode2,g4 (by omega),fun m => ?_⟩
  rw [htk,List.append_assoc,hw]
  exact walkG_cons hok
theorem image_walk {P H D X C : List Int} {e r : Bool} {i : Int} (K : Parts P H D X C e r i) (hcr : crcS (H ++ D ++ X) = V C) (a : Int) (ha : a = 48 ∨ a = 49) :
  (∀ l1 l2,stuffS P 0 120 ++ tl a = l1 ++ l2 → l2 ≠ [] → (walkG l1 startW).code = 0 ∨ ((walkG l1 startW).code = 1 ∧ l2.length = 1)) ∧
  ((walkG (stuffS P 0 120 ++ tl a) startW).code = 2 ∧ (walkG (stuffS P 0 120 ++ tl a) startW).ext = e ∧ (walkG (stuffS P 0 120 ++ tl a) startW).id = i ∧ (walkG (stuffS P 0 120 ++ tl a) startW).rtr = r ∧ (walkG (stuffS P 0 120 ++ tl a) startW).dlc = V D ∧ (walkG (stuffS P 0 120 ++ tl a) startW).data = bytesB X):=by
 have hall : Bits (stuffS P 0 120 ++ tl a):=(stuffS_bits P 0 120 K.bits).append (fun x hx => by simp [tl] at hx;omega)
 obtain ⟨s0,run,last,hS,hcodes,hw⟩:=walk_stuffed K (stuffS P 0 120 ++ tl a) (tl a) hall P [] [] startW 0 120 rfl (by simp) ⟨At.start _,rfl,rfl,by decide,by decide,fun h => by omega,fun _ => rfl⟩
 rw [List.length_nil,Nat.zero_add] at hS
 have hl10 : (tl a).length = 10:=rfl
 have tw:=tail_walk K hall a ha rfl hS
 refine ⟨fun l1 l2 hsp hne => ?_, ?_⟩
 ·by_cases hlen : l1.length ≤ (stuffS P 0 120).length
  ·left
   have h1 : l1 = (stuffS P 0 120).take l1.length:=by
    have:=congrArg (List.take l1.length) hsp
    rw [List.take_append_of_le_length hlen,List.take_left' rfl] at this
    exact this.symm
   have h3 : stuffS P 0 120 = l1 ++ (stuffS P 0 120).drop l1.length:=by
    have:=(List.take_append_drop l1.length (stuffS P 0 120)).symm
    rw [← h1] at this
    exact this
   exact hcodes l1 _ h3
  ·obtain ⟨j,hj⟩ : ∃ j,l1.length = (stuffS P 0 120).length + j:=⟨l1.length - (stuffS P 0 120).length,by omega⟩
   have hl2 : 0 < l2.length:=by cases l2 with | nil => exact absurd rfl hne | cons => simp
   have hl:=congrArg List.length hsp
   rw [List.length_append,List.length_append,hl10] at hl
   have h1 : l1 = stuffS P 0 120 ++ (tl a).take j:=by
    have:=congrArg (List.take l1.length) hsp
    rw [List.take_left' rfl,hj,List.take_length_add_append] at this
    exact this.symm
   obtain ⟨s,_,hc,_,hm⟩:=tw j (by omega) (fun _ => hcr)
   have e1 : walkG l1 startW = s:=by
    rw [h1,hw, ← List.append_nil ((tl a).take j),hm];rfl
   rw [e1,hc]
   by_cases h9 : j = 9
   ·rw [if_pos h9];right;exact ⟨rfl,by omega⟩
   ·rw [if_neg h9];left;rfl
 ·obtain ⟨s,hA,hc,hd,hm⟩:=tw 9 (by omega) (fun _ => hcr)
  obtain ⟨c,hget,hc1,hcb,hdr,htk⟩:=tl_get a ha 9 (by omega)
  have h49:=hc1 (by omega)
  subst h49
  have e1 : walkG (stuffS P 0 120 ++ tl a) startW = hearW s 49:=by
   have : tl a = (tl a).take 9 ++ [49]:=rfl
   rw [hw,this,hm]
   have TA:=tail_core K hA (by rw [List.length_take,hl10];decide)
   rw [show ((tl a).take 9).length = 9 from rfl] at TA
   have hat : rd (stuffS P 0 120 ++ tl a) (((stuffS P 0 120).length + 9 : Nat) : Int) = 49:=by
    have e2 : stuffS P 0 120 ++ tl a = (stuffS P 0 120 ++ (tl a).take 9) ++ 49 :: []:=by rw [List.append_assoc];rfl
    have:=rd_app_at (stuffS P 0 120 ++ (tl a).take 9) [] 49
    rw [← e2,List.length_append] at this
    exact this
   obtain ⟨g1,_⟩:=tail_step K hall hA (by rw [List.length_take,hl10];decide) hat (by rw [List.length_append,hl10];omega) hd
   have hcode:=tail_code TA (49 - 48) (fun _ => by decide) (by omega)
   rw [if_neg (by omega),if_neg (by omega),if_pos rfl] at hcode
   rw [walkG,if_neg (by rw [g1,hcode];decide),if_pos rfl]
  have TA:=tail_core K hA (by rw [List.length_take,hl10];decide)
  rw [show ((tl a).take 9).length = 9 from rfl] at TA
  have hat : rd (stuffS P 0 120 ++ tl a) (((stuffS P 0 120).length + 9 : Nat) : Int) = 49:=by
   have e2 : stuffS P 0 120 ++ tl a = (stuffS P 0 120 ++ (tl a).take 9) ++ 49 :: []:=by rw [List.append_assoc];rfl
   have:=rd_app_at (stuffS P 0 120 ++ (tl a).take 9) [] 49
   rw [← e2,List.length_append] at this
   exact this
  obtain ⟨g1,_⟩:=tail_step K hall hA (by rw [List.length_take,hl10];decide) hat (by rw [List.length_append,hl10];omega) hd
  have hcode:=tail_code TA (49 - 48) (fun _ => by decide) (by omega)
  rw [if_neg (by omega),if_neg (by omega),if_pos rfl] at hcode
  have hf : s.field = 14:=by rw [TA.f];rfl
  obtain ⟨k1,k2,k3,k4,k5⟩:=hear14_keep hf 49
  rw [e1]
  exact ⟨g1.trans hcode,k1.trans TA.e,k2.trans TA.i,k3.trans TA.r,k4.trans TA.d,k5.trans TA.x⟩
end Go.Proofs.Ytdoclpgciadjaaa.P

namespace Go.Proofs.Ytdoclpgciadjaaa.P
open Go Go.RowKit Go.Proofs.YtdoclpgciadjaaaW.PrintWords
set_option linter.unusedVariables false
theorem V_numL (n : Nat) : ∀ u : Nat,V (numL u n) = ((u % 2 ^ n : Nat) : Int):=by
 induction n with
 | zero => intro u;simp [numL,V_nil,Nat.mod_one]
 | succ n ih =>
  intro u
  rw [numL_snoc,V_snoc,ih]
  have h : u % 2 ^ (n + 1) = 2 * (u / 2 % 2 ^ n) + u % 2:=by
   rw [Nat.pow_succ,Nat.mul_comm (2 ^ n) 2,Nat.mod_mul];omega
  rw [h];push_cast;omega
theorem numL_one0 : numL 0 1 = [48]:=rfl
theorem numL_two3 : numL 3 2 = [49,49]:=rfl
theorem numL_two0 : numL 0 2 = [48,48]:=rfl
theorem flag_eq (r : Bool) : (48 + b2 r == (49 : Int)) = r:=by cases r <;> rfl
theorem hd_head (e : Bool) (i : Int) (r : Bool) (h0 : 0 ≤ i) (h1 : i < vtop e) : Hd (headL e i r) e r i:=by
 cases e with
 | false =>
  have h:=Hd.base 48 (48 + b2 r) 48 (numL i.toNat 11) (numL_length _ _)
  rw [flag_eq,V_numL] at h
  have hi : ((i.toNat % 2 ^ 11 : Nat) : Int) = i:=by
   have : i < 2048:=h1
   omega
  rw [hi] at h
  have e1 : headL false i r = 48 :: numL i.toNat 11 ++ [48 + b2 r,48,48]:=by simp [headL,numL_one0,numL_two0,flagL]
  rw [e1];exact h
 | true =>
  have h:=Hd.ext 48 49 (48 + b2 r) 48 48 (numL (i.toNat / 262144) 11) (numL i.toNat 18) (numL_length _ _) (numL_length _ _)
  have hj:=numL_add i.toNat 11 18
  rw [show (2 : Nat) ^ 18 = 262144 from rfl] at hj
  rw [flag_eq, ← hj,V_numL] at h
  have hi : ((i.toNat % 2 ^ (11 + 18) : Nat) : Int) = i:=by
   have : i < 536870912:=h1
   have e2 : (2 : Nat) ^ (11 + 18) = 536870912:=rfl
   rw [e2];omega
  rw [hi] at h
  have e1 : headL true i r = 48 :: numL (i.toNat / 262144) 11 ++ [49,49] ++ numL i.toNat 18 ++ [48 + b2 r,48,48]:=by simp [headL,numL_one0,numL_two0,numL_two3,flagL]
  rw [e1];exact h
theorem dataL_len (l : List Int) : (dataL l).length = 8 * l.length:=by rw [dataL_length]
theorem bytes_data {l : List Int} (h : okBytes l = true) : bytesB (dataL l) = l:=by
 induction l using revInd with
 | nil => rfl
 | snoc l x ih =>
  have hx : 0 ≤ x ∧ x < 256:=by
   unfold okBytes at h
   rw [List.all_eq_true] at h
   have:=h x (by simp)
   simpa using this
  have hl : okBytes l = true:=by
   unfold okBytes at h ⊢
   rw [List.all_eq_true] at h ⊢
   exact fun y hy => h y (by simp [hy])
  have e1 : dataL (l ++ [x]) = dataL l ++ numL x.toNat 8:=by simp [dataL]
  rw [e1,bytesB_part _ (by rw [dataL_len];omega) _ (by rw [numL_length];omega) (by rw [numL_length];omega),ih hl,V_numL]
  congr 2
  have : (2 : Nat) ^ 8 = 256:=rfl
  omega
theorem frame_parts {e : Bool} {i : Int} {r : Bool} {d : Int} {l : List Int} (hq : 0 ≤ i ∧ okBytes l = true) (hv : validF e i r d l.length = true) :
  Parts (plainL e i r d l) (headL e i r) (numL d.toNat 4) (dataL l) (numL (crcL (bodyL e i r d l)) 15) e r i ∧ V (numL d.toNat 4) = d ∧ bytesB (dataL l) = l ∧ crcS (headL e i r ++ numL d.toNat 4 ++ dataL l) = V (numL (crcL (bodyL e i r d l)) 15):=by
 obtain ⟨h1,h2,h3,h4,h5⟩:=valid_parts hv
 have hd : V (numL d.toNat 4) = d:=by
  rw [V_numL]
  have : (2 : Nat) ^ 4 = 16:=rfl
  omega
 refine ⟨⟨rfl,hd_head e i r hq.1 h1,numL_length _ _,by rw [dataL_len,hd];push_cast;omega,numL_length _ _,plainL_bits _ _ _ _ _, ?_⟩,hd,bytes_data hq.2, ?_⟩
 ·unfold plainL bodyL headL
  cases e <;> rfl
 ·have hb:=bodyL_bits e i r d l
  show crcS (bodyL e i r d l) = _
  rw [crcS_crcL hb,V_numL]
  have:=crcL_lt (bodyL e i r d l)
  have h15 : (2 : Nat) ^ 15 = 32768:=rfl
  omega
end Go.Proofs.Ytdoclpgciadjaaa.P

namespace Go.Proofs.Ytdoclpgciadjaaa.P
open Go Go.RowKit Go.Proofs.YtdoclpgciadjaaaW.PrintWords Go.Proofs.YtdoclpgciadjaaaW.PrintLast
set_option linter.unusedVariables false
theorem walkV_bits {L : List Int} (hb : Bits L) (hl : L.length ≤ 4000) : walkV (strOfNums L) = walkG L startW:=by
 unfold walkV
 rw [if_pos ⟨by rw [strOfNums_size];exact hl,isBits_str hb⟩,bytes_str L hb.range]
theorem walkG_run (l : List Int) (c : Int) (s : WS) (h : (hearW s c).code = 0 ∨ (hearW s c).code = 1) : walkG (c :: l) s = walkG l (hearW s c):=by rw [walkG,if_pos h]
theorem walkG_one (c : Int) (s : WS) : walkG [c] s = hearW s c:=by
 rw [walkG]
 split
 ·rfl
 ·rw [if_pos rfl]
def Come (pre : List Int) (s : WS) : Prop := ∀ m,walkG (pre ++ m) startW = walkG m s
def Runs (L : List Int) : Prop := ∀ l1 l2,L = l1 ++ l2 → l2 ≠ [] → (walkG l1 startW).code = 0 ∨ (walkG l1 startW).code = 1
theorem Come.at_ {pre : List Int} {s : WS} (h : Come pre s) : walkG pre startW = s:=by
 have:=h []
 rw [List.append_nil] at this
 exact this
theorem Come.next {L pre rest : List Int} {s : WS} {c : Int} (h : Come pre s) (hR : Runs L) (e : L = pre ++ c :: rest) (hr : rest ≠ []) : ((hearW s c).code = 0 ∨ (hearW s c).code = 1) ∧ Come (pre ++ [c]) (hearW s c):=by
 have h1 : walkG (pre ++ [c]) startW = hearW s c:=by rw [h [c],walkG_one]
 have hc:=hR (pre ++ [c]) rest (by rw [e];simp) hr
 rw [h1] at hc
 refine ⟨hc,fun m => ?_⟩
 rw [List.append_assoc]
 refine (h _).trans ?_
 show walkG (c :: m) s = _
 exact walkG_run _ _ _ hc
theorem okW_runs {L : List Int} (hR : Runs L) : ∀ (rest pre : List Int) (s : WS),L = pre ++ rest → Come pre s → okW rest s = true:=by
 intro rest
 induction rest with
 | nil => intros;rfl
 | cons c l ih =>
  intro pre s e h
  cases l with
  | nil => rfl
  | cons d l =>
   obtain ⟨hc,hn⟩:=h.next hR e (by simp)
   have h2:=ih (pre ++ [c]) _ (by rw [e];simp) hn
   unfold okW
   simp only [Bool.and_eq_true,Bool.or_eq_true,beq_iff_eq]
   exact ⟨hc,h2⟩
theorem spG_length : ∀ (l : List Int) (i : Nat) (s : WS) (last : Int) (out : List S165),(spG l i s last out).length ≤ out.length + l.length:=by
 intro l
 induction l with
 | nil => intros;exact Nat.le_add_right _ _
 | cons c l ih =>
  intro i s last out
  rw [spG]
  split
  ·have:=ih (i + 1) (hearW s c) s.field (bumpS (out ++ [⟨s.field,i,0⟩]))
   rw [bumpS_length,List.length_append,List.length_singleton] at this
   rw [List.length_cons];omega
  ·have:=ih (i + 1) (hearW s c) last (bumpS out)
   rw [bumpS_length] at this
   rw [List.length_cons];omega
theorem judgeS_at {pre : List Int} {s : WS} (hb : Bits pre) (hl : pre.length ≤ 4000) (h : Come pre s) (hc : s.code = 0 ∨ s.code = 1) : judgeS (strOfNums pre) = (s.code,s.field,dueW s,crcOkW s):=by
 unfold judgeS
 rw [walkV_bits hb hl,h.at_,if_pos hc]
theorem specSpans_loop {L : List Int} (hb : Bits L) (hl : L.length ≤ 4000) (hR : Runs L) : ∀ (rest pre : List Int) (s : WS) (last : Int) (out : List S165),L = pre ++ rest → Come pre s → out.length ≤ pre.length → (out ≠ [] ∨ newS s last = true) →
  Ev (fun k => spec_Spans.l0 k out (strOfNums L) last (pre.length : Int)) (spG rest pre.length s last out):=by
 intro rest
 induction rest with
 | nil =>
  intro pre s last out e h hle hne
  refine Ev.step (f:=fun _ => some out) (fun k => ?_) (Ev.now _)
  simp only [spec_Spans.l0]
  rw [if_neg (by rw [strOfNums_size,e,List.append_nil];omega)]
 | cons c rest ih =>
  intro pre s last out e h hle hne
  have hlen : pre.length + 1 ≤ L.length:=by rw [e,List.length_append,List.length_cons];omega
  have hsz : (strOfNums L).size = L.length:=strOfNums_size L
  have hex : (strOfNums L).extract 0 pre.length = strOfNums pre:=by rw [e];exact str_extract_left _ _
  have hcs : s.code = 0 ∨ s.code = 1:=by have:=hR pre (c :: rest) e (by simp);rw [h.at_] at this;exact this
  have hpb : Bits pre:=fun x hx => hb x (by rw [e];exact List.mem_append_left _ hx)
  have hj:=specJudge_ev (strOfNums pre)
  rw [judgeS_at hpb (by omega) h hcs] at hj
  have hw : wrap64 ((pre.length : Int) + 1) = ((pre ++ [c]).length : Int):=by rw [w64 (x:=(pre.length : Int) + 1) (by omega) (by omega),List.length_append];rfl
  have key : ∀ (last' : Int) (out' : List S165),out'.length ≤ pre.length + 1 → out' ≠ [] → Ev (fun k => spec_Spans.l0 k (bumpS out') (strOfNums L) last' (wrap64 ((pre.length : Int) + 1))) (spG rest (pre.length + 1) (hearW s c) last' (bumpS out')):=by
   intro last' out' hl' hn'
   rw [hw]
   cases hrest : rest with
   | nil =>
    refine Ev.step (f:=fun _ => some (bumpS out')) (fun k => ?_) (Ev.now _)
    simp only [spec_Spans.l0]
    rw [if_neg (by rw [hsz,e,hrest];simp)]
   | cons d l =>
    have hn:=(h.next hR e (by rw [hrest];simp)).2
    have:=ih (pre ++ [c]) (hearW s c) last' (bumpS out') (by rw [e];simp) hn (by rw [bumpS_length,List.length_append];exact hl') (.inl (bumpS_ne hn'))
    rw [hrest] at this
    rw [show (pre ++ [c]).length = pre.length + 1 by simp] at this ⊢
    exact this
  refine Ev.step (f:=fun k => (spec_Judge.f k (strOfNums pre)).bind fun bt198 => (if bt198.2.2.1 = true then (if 0 ≤ (wrap64 ((out.length : Int) - 1)) then (if (wrap64 ((out.length : Int) - 1)) < (out.length : Int) then (spec_Spans.l0 k (bumpS out) (strOfNums L) last (wrap64 ((pre.length : Int) + 1))) else (none)) else (none)) else (if bt198.2.1 = last then (if 0 ≤ (wrap64 ((out.length : Int) - 1)) then (if (wrap64 ((out.length : Int) - 1)) < (out.length : Int) then (spec_Spans.l0 k (bumpS out) (strOfNums L) last (wrap64 ((pre.length : Int) + 1))) else (none)) else (none)) else (if out.length < 5864062014805 then ((some (out ++ [(⟨bt198.2.1,(pre.length : Int),0⟩ : S165)])).bind fun y => (if 0 ≤ (wrap64 ((y.length : Int) - 1)) then (if (wrap64 ((y.length : Int) - 1)) < (y.length : Int) then (spec_Spans.l0 k (bumpS y) (strOfNums L) bt198.2.1 (wrap64 ((pre.length : Int) + 1))) else (none)) else (none))) else (none))))) (fun k => ?_) ?_
  ·rw [spec_Spans.l0]
   rw [if_pos (by omega),if_pos (by omega),if_pos (by omega),show ((pre.length : Int)).toNat = pre.length from Int.toNat_natCast _,hex]
   simp only [if_true,bumpS]
  ·refine Ev.bind hj ?_
   simp only []
   rw [spG]
   have bump : ∀ (out' : List S165),out' ≠ [] → out'.length ≤ pre.length + 1 → ∀ last',Ev (fun k => (if 0 ≤ (wrap64 ((out'.length : Int) - 1)) then (if (wrap64 ((out'.length : Int) - 1)) < (out'.length : Int) then (spec_Spans.l0 k (bumpS out') (strOfNums L) last' (wrap64 ((pre.length : Int) + 1))) else (none)) else (none))) (spG rest (pre.length + 1) (hearW s c) last' (bumpS out')):=by
    intro out' hn' hl' last'
    have hp:=List.length_pos_iff.2 hn'
    have hq : wrap64 ((out'.length : Int) - 1) = (out'.length : Int) - 1:=last_i hp (by omega)
    exact ev_pos (by omega) (ev_pos (by omega) (key last' out' hl' hn'))
   cases hd : dueW s with
   | true =>
    have hn0 : newS s last = false:=by rw [newS,hd];rfl
    rw [hn0,if_neg Bool.false_ne_true]
    have ho : out ≠ []:=by rcases hne with h | h;exact h;rw [hn0] at h;cases h
    exact ev_pos rfl (bump out ho (by omega) last)
   | false =>
    refine ev_neg Bool.false_ne_true ?_
    by_cases hf : s.field = last
    ·have hn0 : newS s last = false:=by rw [newS,hd,hf];simp
     rw [hn0,if_neg Bool.false_ne_true]
     have ho : out ≠ []:=by rcases hne with h | h;exact h;rw [hn0] at h;cases h
     exact ev_pos hf (bump out ho (by omega) last)
    ·have hn0 : newS s last = true:=by rw [newS,hd,bne_iff_ne.mpr hf];rfl
     rw [if_pos hn0]
     refine ev_neg hf (ev_pos (by omega) ?_)
     exact bump (out ++ [⟨s.field,(pre.length : Int),0⟩]) (by simp) (by rw [List.length_append,List.length_singleton];omega) s.field
def imgL (e : Bool) (i : Int) (r : Bool) (d : Int) (l : List Int) : List Int:=if validF e i r d l.length = true then stuffL (plainL e i r d l) ++ onesL else []
def spansV (e : Bool) (i : Int) (r : Bool) (d : Int) (l : List Int) : List S165:=spG (imgL e i r d l) 0 startW 0 []
theorem imgL_ok {e : Bool} {i : Int} {r : Bool} {d : Int} {l : List Int} (hq : 0 ≤ i ∧ okBytes l = true) : encodeV e i r d l = strOfNums (imgL e i r d l) ∧ Bits (imgL e i r d l) ∧ (imgL e i r d l).length ≤ 300 ∧ Runs (imgL e i r d l):=by
 unfold encodeV imgL
 cases hv : validF e i r d l.length with
 | false =>
  rw [if_neg Bool.false_ne_true,if_neg Bool.false_ne_true]
  refine ⟨rfl,fun x hx => by simp at hx,by simp,fun l1 l2 e h => ?_⟩
  have:=(List.append_eq_nil_iff.1 e.symm).2
  exact absurd this h
 | true =>
  rw [if_pos rfl,if_pos rfl]
  obtain ⟨h1,h2,h3,h4,h5⟩:=valid_parts hv
  obtain ⟨K,hVd,hbX,hcr⟩:=frame_parts hq hv
  have hP:=plainL_bits e i r d l
  have hPl:=plainL_length e i r d l h5
  have hones : onesL = tl 49:=rfl
  rw [stuffL_eq,hones]
  have hSl : (stuffS (plainL e i r d l) 0 120).length ≤ 236:=by
   have:=stuffL_len (plainL e i r d l)
   rw [stuffL_eq] at this
   omega
  refine ⟨rfl,(stuffS_bits _ _ _ hP).append (fun x hx => by simp [tl] at hx;omega),by rw [List.length_append];have : (tl 49).length = 10:=rfl;omega,fun l1 l2 e h => ?_⟩
  rcases (image_walk K hcr 49 (.inr rfl)).1 l1 l2 e h with h | ⟨h,_⟩
  ·exact .inl h
  ·exact .inr h
theorem Come.start : Come [] startW:=fun m => rfl
theorem implSpans_eq {e : Bool} {i : Int} {r : Bool} {d : Int} {l : List Int} (hq : 0 ≤ i ∧ okBytes l = true) : impl_Spans.f e i r d l = some (spansV e i r d l):=by
 obtain ⟨h1,h2,h3,h4⟩:=imgL_ok (e:=e) (r:=r) (d:=d) hq
 have h : impl_Encode.f e i r d l = some (encodeV e i r d l):=by unfold impl_Encode.f;rw [if_pos hq]
 unfold impl_Spans.f
 rw [h,h1]
 show (if _ then _ else _) = _
 rw [if_pos ⟨⟨by rw [strOfNums_size];omega,isBits_str h2⟩,by rw [bytes_str _ h2.range];exact okW_runs h4 _ [] startW rfl Come.start⟩,bytes_str _ h2.range]
 rfl
theorem specSpans_ev {e : Bool} {i : Int} {r : Bool} {d : Int} {l : List Int} (hq : 0 ≤ i ∧ okBytes l = true) : Ev (fun k => spec_Spans.f k e i r d l) (spansV e i r d l):=by
 obtain ⟨h1,h2,h3,h4⟩:=imgL_ok (e:=e) (r:=r) (d:=d) hq
 unfold spec_Spans.f
 have he:=specEncode_ev (e:=e) (i:=i) (r:=r) (d:=d) (l:=l) hq
 rw [h1] at he
 exact Ev.bind he (specSpans_loop h2 (by omega) h4 _ [] startW 0 [] rfl Come.start (by simp) (.inr rfl))
end Go.Proofs.Ytdoclpgciadjaaa.P

namespace Go.Proofs.Ytdoclpgciadjaaa.P
open Go Go.RowKit Go.Proofs.YtdoclpgciadjaaaW.PrintWords
set_option linter.unusedVariables false
theorem eqSpan_eq (x : S165) : laws_eqSpan.f x.f0 x.f1 x.f2 x.f0 x.f1 x.f2 = some true:=by
 unfold laws_eqSpan.f
 rw [if_pos rfl,if_pos rfl,if_pos rfl]
theorem eqSpanS_ev (l : List S165) (h : l.length ≤ 10000000) : Ev (fun k => laws_eqSpanS.f k l l) true:=by
 have loop : ∀ (d i : Nat),i + d = l.length → Ev (fun k => laws_eqSpanS.l0 k l l (i : Int)) true:=by
  intro d
  induction d with
  | zero =>
   intro i hi
   refine Ev.step (f:=fun _ => some true) (fun k => ?_) (Ev.now _)
   simp only [laws_eqSpanS.l0]
   rw [if_neg (by omega)]
  | succ d ih =>
   intro i hi
   have hw : wrap64 ((i : Int) + 1) = ((i + 1 : Nat) : Int):=by rw [w64 (by omega) (by omega)];rfl
   refine Ev.step (f:=fun k => laws_eqSpanS.l0 k l l ((i + 1 : Nat) : Int)) (fun k => ?_) (ih (i + 1) (by omega))
   simp only [laws_eqSpanS.l0]
   rw [if_pos (by omega),if_pos (by omega),if_pos (by omega),eqSpan_eq,hw]
   rfl
 refine Ev.congr (fun k => ?_) (loop l.length 0 (by omega))
 unfold laws_eqSpanS.f
 rw [if_pos rfl]
 rfl
def spanAt (i : Nat) : S165:=⟨3 * (i : Int) + 1,3 * (i : Int) + 2,3 * (i : Int) + 3⟩
def spanRow (n : Nat) : List S165:=(List.range n).map spanAt
theorem spanRow_length (n : Nat) : (spanRow n).length = n:=by simp [spanRow]
theorem spanRow_at {n i : Nat} (h : i < n) : (spanRow n)[i]? = some (spanAt i):=by simp [spanRow,h]
theorem rd_spanRow {n i : Nat} (h : i < n) : rd_T165 (spanRow n) (i : Int) = spanAt i:=by
 show (spanRow n).getD ((i : Int)).toNat _ = _
 rw [Int.toNat_natCast,List.getD_eq_getElem?_getD,spanRow_at h];rfl
theorem rd_setS (y : List S165) {i : Nat} (h : i < y.length) (v : S165) : rd_T165 (y.set i v) (i : Int) = v:=by
 show (y.set i v).getD ((i : Int)).toNat _ = _
 rw [Int.toNat_natCast,List.getD_eq_getElem?_getD,List.getElem?_set_self h];rfl
theorem markSpanS_ev (l : List S165) (h : l.length ≤ 1000000) : Ev (fun k => laws_markSpanS.f k l 1) (3 * (l.length : Int) + 1,spanRow l.length):=by
 have loop : ∀ (d i : Nat) (y : List S165),i + d = l.length → y.length = l.length → (∀ t,t < i → y[t]? = some (spanAt t)) → Ev (fun k => laws_markSpanS.l0 k y (3 * (i : Int) + 1) (i : Int)) (3 * (l.length : Int) + 1,spanRow l.length):=by
  intro d
  induction d with
  | zero =>
   intro i y hi hy hs
   have e : y = spanRow l.length:=by
    apply List.ext_getElem?
    intro t
    by_cases c : t < l.length
    ·rw [hs t (by omega),spanRow_at c]
    ·rw [List.getElem?_eq_none (by omega),List.getElem?_eq_none (by rw [spanRow_length];omega)]
   refine Ev.step (f:=fun _ => some (3 * (l.length : Int) + 1,spanRow l.length)) (fun k => ?_) (Ev.now _)
   simp only [laws_markSpanS.l0]
   rw [if_neg (by omega),e,show i = l.length by omega]
  | succ d ih =>
   intro i y hi hy hs
   have hw : wrap64 ((i : Int) + 1) = ((i + 1 : Nat) : Int):=by rw [w64 (by omega) (by omega)];rfl
   have w1 : wrap64 (3 * (i : Int) + 1 + 1) = 3 * (i : Int) + 2:=by rw [w64 (by omega) (by omega)];omega
   have w2 : wrap64 (3 * (i : Int) + 2 + 1) = 3 * (i : Int) + 3:=by rw [w64 (by omega) (by omega)];omega
   have w3 : wrap64 (3 * (i : Int) + 3 + 1) = 3 * ((i + 1 : Nat) : Int) + 1:=by rw [w64 (by omega) (by omega)];omega
   refine Ev.step (f:=fun k => laws_markSpanS.l0 k (y.set i (spanAt i)) (3 * ((i + 1 : Nat) : Int) + 1) ((i + 1 : Nat) : Int)) (fun k => ?_) (ih (i + 1) _ (by omega) (by rw [List.length_set];exact hy) (fun t ht => ?_))
   ·simp only [laws_markSpanS.l0]
    rw [if_pos (by omega),if_pos (by omega)]
    simp only [Option.bind_some,Int.toNat_natCast,w1,w2,w3,hw]
    rw [rd_setS y (by omega)]
    simp only [List.set_set]
    rw [rd_setS y (by omega)]
    rfl
   ·rw [List.getElem?_set]
    by_cases e : i = t
    ·subst e;rw [if_pos rfl,if_pos (by omega)]
    ·rw [if_neg e];exact hs t (by omega)
 exact loop l.length 0 l (by omega) rfl (fun t ht => absurd ht (Nat.not_lt_zero t))
theorem heldSpanS_ev (n : Nat) (h : n ≤ 1000000) : Ev (fun k => laws_heldSpanS.f k (spanRow n) 1) (3 * (n : Int) + 1):=by
 have loop : ∀ (d i : Nat),i + d = n → Ev (fun k => laws_heldSpanS.l0 k (spanRow n) (3 * (i : Int) + 1) (i : Int)) (3 * (n : Int) + 1):=by
  intro d
  induction d with
  | zero =>
   intro i hi
   refine Ev.step (f:=fun _ => some (3 * (n : Int) + 1)) (fun k => ?_) (Ev.now _)
   simp only [laws_heldSpanS.l0]
   rw [if_neg (by rw [spanRow_length];omega),show i = n by omega]
  | succ d ih =>
   intro i hi
   have hw : wrap64 ((i : Int) + 1) = ((i + 1 : Nat) : Int):=by rw [w64 (by omega) (by omega)];rfl
   have w1 : wrap64 (3 * (i : Int) + 1 + 1) = 3 * (i : Int) + 2:=by rw [w64 (by omega) (by omega)];omega
   have w2 : wrap64 (3 * (i : Int) + 2 + 1) = 3 * (i : Int) + 3:=by rw [w64 (by omega) (by omega)];omega
   have w3 : wrap64 (3 * (i : Int) + 3 + 1) = 3 * ((i + 1 : Nat) : Int) + 1:=by rw [w64 (by omega) (by omega)];omega
   refine Ev.step (f:=fun k => laws_heldSpanS.l0 k (spanRow n) (3 * ((i + 1 : Nat) : Int) + 1) ((i + 1 : Nat) : Int)) (fun k => ?_) (ih (i + 1) (by omega))
   simp only [laws_heldSpanS.l0]
   rw [if_pos (by rw [spanRow_length];omega),if_pos (by omega),rd_spanRow (by omega),w1,w2,w3,hw]
   simp only [spanAt,if_true]
 exact loop n 0 (by omega)
end Go.Proofs.Ytdoclpgciadjaaa.P

namespace Go.Proofs.Ytdoclpgciadjaaa.P
open Go Go.RowKit Go.Proofs.YtdoclpgciadjaaaW.PrintWords
set_option linter.unusedVariables false
theorem markByteS_ex (l : List Int) (hl : l.length ≤ 10000000) : ∃ r,Ev (fun m => laws_markByteS.f m l 1) (1 + (l.length : Int),r):=by
 have loop : ∀ (d i : Nat) (x : List Int),i + d = l.length → x.length = l.length → ∃ r,Ev (fun m => laws_markByteS.l0 m x (1 + (i : Int)) (i : Int)) (1 + (l.length : Int),r):=by
  intro d
  induction d with
  | zero =>
   intro i x hi hx
   refine ⟨x,Ev.step (f:=fun _ => some (1 + (l.length : Int),x)) (fun m => ?_) (Ev.now _)⟩
   simp only [laws_markByteS.l0]
   rw [if_neg (by omega),show i = l.length by omega]
  | succ d ih =>
   intro i x hi hx
   obtain ⟨r,hr⟩:=ih (i + 1) (x.set i ((1 + (i : Int)) % 256)) (by omega) (by rw [List.length_set];exact hx)
   refine ⟨r,Ev.step (f:=fun m => laws_markByteS.l0 m (x.set i ((1 + (i : Int)) % 256)) (1 + ((i + 1 : Nat) : Int)) ((i + 1 : Nat) : Int)) (fun m => ?_) hr⟩
   simp only [laws_markByteS.l0]
   rw [if_pos (by omega),if_pos (by omega),w64 (x:=1 + (i : Int) + 1) (by omega) (by omega),w64 (x:=(i : Int) + 1) (by omega) (by omega),Int.toNat_natCast,show 1 + (i : Int) + 1 = 1 + ((i + 1 : Nat) : Int) by omega]
   rfl
 exact loop l.length 0 l (by omega) rfl
theorem markFrame_ex (e : Bool) (i : Int) (r : Bool) (d : Int) (l : List Int) (hl : l.length ≤ 10000000) : ∃ x,Ev (fun m => laws_markFrame.f m e i r d l 1) (1 + (l.length : Int),x):=by
 obtain ⟨x,hx⟩:=markByteS_ex l hl
 refine ⟨x, ?_⟩
 unfold laws_markFrame.f
 exact Ev.bind hx (Ev.now _)
end Go.Proofs.Ytdoclpgciadjaaa.P

namespace Go.Proofs.Ytdoclpgciadjaaa.Pure
open Go Go.RowKit Go.Proofs.Ytdoclpgciadjaaa.P Go.Proofs.YtdoclpgciadjaaaW.PrintWords
set_option linter.unusedVariables false
theorem spansV_length {e : Bool} {i : Int} {r : Bool} {d : Int} {l : List Int} (hq : 0 ≤ i ∧ okBytes l = true) : (spansV e i r d l).length ≤ 300:=by
 have h:=(imgL_ok (e:=e) (r:=r) (d:=d) hq).2.2.1
 have:=spG_length (imgL e i r d l) 0 startW 0 []
 unfold spansV
 simp only [List.length_nil] at this
 omega
theorem FnExactSpans : laws_FnExactSpans.PureS:=by
 rintro ⟨e,i,r,d,l⟩ ⟨_,hi,_,_,hl,hb⟩
 have hq:=frame_ok hi hb
 refine Ev.rounds ?_
 unfold laws_FnExactSpans.f
 simp only [] at hl hq ⊢
 refine ev_some (szFrame_eq e i r d l 1048576 hl (by omega) (by omega)) ?_
 by_cases c : (1048576 : Int) < l.length
 ·rw [if_pos c];exact Ev.now _
 ·rw [if_neg c]
  have hl2 : l.length ≤ 10000000:=by omega
  have ht:=toFrame_ev e i r d l hl2
  have hp:=spansV_length (e:=e) (r:=r) (d:=d) hq
  have he:=eqSpanS_ev (spansV e i r d l) (by omega)
  have hm:=markSpanS_ev (spansV e i r d l) (by omega)
  have hh:=heldSpanS_ev (spansV e i r d l).length (by omega)
  obtain ⟨x,hx⟩:=markFrame_ex e i r d l hl2
  refine ev_neg (by omega) (Ev.bind ht (Ev.bind (specSpans_ev hq) (Ev.bind ht (ev_some (implSpans_eq hq) (Ev.bind he (ev_pos rfl (Ev.bind ht (Ev.bind (eqFrame_ev e i r d l hl2) (ev_pos rfl (Ev.bind hx (ev_neg (by simp only [];omega) (Ev.bind he ?_))))))))))))
  refine Ev.step (f:=fun k => (laws_markSpanS.f k (spansV e i r d l) 1).bind fun bt263 => ((laws_heldSpanS.f k bt263.2 1).bind fun t265 => (if t265 < 0 then (some false) else (if t265 = bt263.1 then ((laws_toFrame.f k e i r d l).bind fun bt266 => ((impl_Spans.f bt266.1 bt266.2.1 bt266.2.2.1 bt266.2.2.2.1 bt266.2.2.2.2).bind fun t273 => ((laws_eqSpanS.f k t273 (spansV e i r d l)).bind fun t276 => (if t276 = true then (some true) else (some false))))) else (some false))))) (fun k => ?_) (Ev.bind hm (Ev.bind hh (ev_neg (by omega) (ev_pos rfl (Ev.bind ht (ev_some (implSpans_eq hq) (Ev.bind he (ev_pos rfl (Ev.now _)))))))))
  simp only [laws_FnExactSpans.j0]
  rw [if_neg (by decide)]
end Go.Proofs.Ytdoclpgciadjaaa.Pure
