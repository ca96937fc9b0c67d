/- Texts of the proof of FnExactBest, joined. -/
import Derived.Test.YtcaefabbcjlkdaaSFnExactBest24
import Derived.Test.YtcaefabbcjlkdaaSFnExactBest25
import Derived.Deep.RegionHeld
import Derived.Test.YtcaefabbcjlkdaaSFnExactBest22
import Derived.Test.YtcaefabbcjlkdaaSFnExactBest23
import Derived.ArgAppend
import Derived.Test.YtcaefabbcjlkdaaSFnExactBest5
import Derived.Laws.BitsAllLaws
import Derived.Test.YtcaefabbcjlkdaaSFnExactBest1
import Derived.Laws.BitsLemmas
import Derived.Lib.Strings
import Derived.Lib.SmallJoins
import Derived.Test.YtcaefabbcjlkdaaSFnExactBest21
namespace Go.Proofs.Ytcaefabbcjlkdaa.P
open Go Go.RowKit Go.Proofs.YtcaefabbcjlkdaaW.PrintWords Go.Proofs.YtcaefabbcjlkdaaW.PrintLast Go.Proofs.YtcaefabbcjlkdaaW.PrintMore
set_option linter.unusedVariables false
set_option linter.unusedSimpArgs false
def hv0 : HV:=⟨0,0,0,0, [], [], [], [],0,0⟩
def tagUp (bs : List S87) : Nat → (Int → Option Int) × Nat
 | 0 => (fun _ => none,0)
 | i + 1 => if (rd_T87 bs (i : Int)).f0 = 0 then tagUp bs i else (fun t => if t = (rd_T87 bs (i : Int)).f1 then some (i : Int) else (tagUp bs i).1 t,if ((tagUp bs i).1 (rd_T87 bs (i : Int)).f1).isSome then (tagUp bs i).2 else (tagUp bs i).2 + 1)
theorem tagUp_zero {bs : List S87} {i : Nat} {b : S87} (hb : b = rd_T87 bs (i : Int)) (hz : b.f0 = 0) : tagUp bs (i + 1) = tagUp bs i:=by
 rw [tagUp, ← hb,if_pos hz]
theorem tagUp_next {bs : List S87} {i : Nat} {b : S87} (hb : b = rd_T87 bs (i : Int)) (hz : ¬ b.f0 = 0) : tagUp bs (i + 1) = (fun t => if t = b.f1 then some (i : Int) else (tagUp bs i).1 t,if ((tagUp bs i).1 b.f1).isSome then (tagUp bs i).2 else (tagUp bs i).2 + 1):=by
 rw [tagUp, ← hb,if_neg hz]
structure HSmall (h : HV) : Prop where
 l1 : h.fs.length ≤ 100000
 l2 : h.bs.length ≤ 100000
 l3 : h.fr.length ≤ 100000
 l4 : h.ev.length ≤ 100000
 d2 : ∀ y ∈ h.bs,y.f3.f4.length ≤ 10000000
 d3 : ∀ y ∈ h.fr,y.f4.length ≤ 10000000
 d4 : ∀ y ∈ h.ev,y.f3.f4.length ≤ 10000000
theorem getD_at {α : Type} (l : List α) (i : Nat) (z : α) (h : i < l.length) : l[i]? = some (l.getD (i : Int).toNat z):=by rw [Int.toNat_natCast,List.getD_eq_getElem?_getD,List.getElem?_eq_getElem h];rfl
set_option maxRecDepth 100000 in
set_option maxHeartbeats 8000000 in
theorem set_v (w0 w : World) (p m : Nat) (h : HV) (C : List Value) (hB : Below w0.heap.size w0 w) (hp : w.heap[p]? = some (.cells (sideP hv0 m 0 0 (.slice none 0 0) (.slice none 0 0) (.slice none 0 0) (.slice none 0 0)) 128 (0,0))) (hm : w.heap[m]? = some (.map #[] 0))
  (hpB : w0.heap.size ≤ p) (hmB : w0.heap.size ≤ m) (hR : HRead w0 h C) (hS : HSmall h) (hcf : 0 ≤ h.cf ∧ h.cf ≤ 100000) (hce : 0 ≤ h.ce ∧ h.ce ≤ 100000) (hlq : (h.fr.length : Int) ≤ h.cf) (hle : (h.ev.length : Int) ≤ h.ce) :
  Calls Try.prog 110 #[.pointer (some ⟨p,0,none⟩), .agg ⟨C⟩] w fun e w' => e = .returned (.tuple #[]) ∧ ∃ vf vb vq ve,SideP w0 w' p m h h.cf h.ce vf vb vq ve (tagUp h.bs h.bs.length).1 (tagUp h.bs h.bs.length).2:=by
 obtain ⟨Af,cf,Ab,cb,Aq,cq,Ae,ce,rfl,rf,lf,rb,lb,rq,lq,re,le⟩:=hR
 have HP:=Lib.hid hp
 have HM:=Lib.hid hm
 have HB:=Lib.hid hB
 have HPB:=Lib.hid hpB
 have HMB:=Lib.hid hmB
 have RF:=Lib.hid rf
 have RB:=Lib.hid rb
 have RQ:=Lib.hid rq
 have RE:=Lib.hid re
 have LF:=Lib.hid lf
 have LB:=Lib.hid lb
 have LQ:=Lib.hid lq
 have LE:=Lib.hid le
 have SM:=Lib.hid hS
 have CF:=Lib.hid hcf
 have CE:=Lib.hid hce
 have HLQ:=Lib.hid hlq
 have HLE:=Lib.hid hle
 clear hp hm hB hpB hmB rf rb rq re lf lb lq le hS hcf hce hlq hle
 obtain ⟨hc,hhc⟩ : ∃ hc : Array Value,hc = ⟨hostC h (.slice Af h.fs.length cf) (.slice Ab h.bs.length cb) (.slice Aq h.fr.length cq) (.slice Ae h.ev.length ce)⟩:=⟨_,rfl⟩
 have hc0 : hc[0]? = some (.int .i64 h.cb):=by rw [hhc];rfl
 have hc1 : hc[1]? = some (.int .i64 h.cf):=by rw [hhc];rfl
 have hc2 : hc[2]? = some (.int .i64 h.cp):=by rw [hhc];rfl
 have hc3 : hc[3]? = some (.int .i64 h.ce):=by rw [hhc];rfl
 have hc4 : hc[4]? = some (.slice Af h.fs.length cf):=by rw [hhc];rfl
 have hc5 : hc[5]? = some (.slice Ab h.bs.length cb):=by rw [hhc];rfl
 have hc6 : hc[6]? = some (.slice Aq h.fr.length cq):=by rw [hhc];rfl
 have hc7 : hc[7]? = some (.slice Ae h.ev.length ce):=by rw [hhc];rfl
 have hc8 : hc[8]? = some (.int .i64 h.lost):=by rw [hhc];rfl
 have hc9 : hc[9]? = some (.int .i64 h.stamp):=by rw [hhc];rfl
 have HC0:=Lib.hid hc0
 have HC1:=Lib.hid hc1
 have HC2:=Lib.hid hc2
 have HC3:=Lib.hid hc3
 have HC4:=Lib.hid hc4
 have HC5:=Lib.hid hc5
 have HC6:=Lib.hid hc6
 have HC7:=Lib.hid hc7
 have HC8:=Lib.hid hc8
 have HC9:=Lib.hid hc9
 rw [← hhc]
 have HHC:=Lib.hid hhc
 clear hhc hc0 hc1 hc2 hc3 hc4 hc5 hc6 hc7 hc8 hc9
 have hul:=Try.underlying32
 go_enter Try.func110,Try.ntmps110
 go_upto_region 1 with (first | ((with_reducible refine gate_dst (N:=3) rfl ?_);refine box_event ?hg (N:=3) ?hd (cs:=hc) (t:=32) ?hr ?_;(case hd => rfl);(case hg => rfl);(case hr => first | (rw [HHC.out];go_simp;done) | (rw [HHC.out];go_simp;rfl));intro g hg w1 hbox hb;have HG:=Lib.hid hg;have HX1:=Lib.hid hbox;have HB1:=Lib.hid hb;clear hg hbox hb))
 have HP1:=Lib.hid (blk_below HP.out HB1.out)
 have HM1:=Lib.hid (blk_below HM.out HB1.out)
 have hm:=HM1.out
 have hc6 : w1.cell? ⟨p,6,none⟩ = some (.map (some m)):=blk_cell HP1.out 6
 obtain ⟨w2,hclr,hm2,hT2⟩:=clear_run (P:=Try.prog) Try.underlying122 hm 0
 go_upto_region 2 with (fail)
 have HPM : Hid (p ≠ m):=Lib.hid (fun e => by have h1:=HP1.out;rw [e,hm] at h1;cases h1)
 have HGP : Hid (p ≠ g):=Lib.hid (fun e => by have h1:=blk_lt HP.out;rw [e,HG.out] at h1;omega)
 have HGM : Hid (g ≠ m):=Lib.hid (fun e => by have h1:=(Array.getElem?_eq_some_iff.1 HM.out).1;rw [← e,HG.out] at h1;omega)
 have HX2:=Lib.hid (hT2.blk HX1.out HGM.out)
 have HS2 : Hid (SideP w0 w2 p m hv0 0 0 (.slice none 0 0) (.slice none 0 0) (.slice none 0 0) (.slice none 0 0) (fun _ => none) 0):=Lib.hid ⟨hT2.below (below_then HB.out HB.out.size HB1.out) (Nat.le_trans HB.out.size HB1.out.size) (fun k hk => hk ▸ HMB.out),hT2.blk HP1.out HPM.out,MapAt.new hm2,⟨fun _ => 0,Kd.R_nil _ _ _ _ _,Kd.S_nil _ _ _ _ _,Kd.S_nil _ _ _ _ _,Kd.S_nil _ _ _ _ _⟩,HPB.out,HMB.out⟩
 clear hm hclr hm2 hc6 hT2 HP1 HM1 HP HM HX1
 obtain ⟨wd,hwd⟩ : ∃ wd,wd = w2.drew:=⟨_,rfl⟩
 have HSd : Hid (SideP w0 wd p m hv0 0 0 (.slice none 0 0) (.slice none 0 0) (.slice none 0 0) (.slice none 0 0) (fun _ => none) 0):=by rw [hwd];exact Lib.hid (HS2.out.below (below_drew (Below.refl _ _)))
 have HXd : Hid (wd.heap[g]? = some (.cells hc 32 (0,0))):=by rw [hwd];exact Lib.hid (blk_drew HX2.out)
 clear HS2 HX2
 refine start_ (n:=18) (S:=fun w' : World => w'.heap[g]? = some (.cells hc 32 (0,0))) (ds := [17]) #[false,false,false,false,false,false,false,false,false,false,false,false,false,false,false,false,false,false] (by kernel_rfl) rfl rfl (hwd ▸ HXd.out) (fun hHeld => ?_)
 rw [← hwd] at hHeld ⊢
 clear hwd
 refine pure_ (i:=0) (N:=some 14) (v := ?_) (a' := ?_) #[true,false,false,false,false,false,false,false,false,false,false,false,false,false,false,false,false,false] rfl rfl (by kernel_rfl) (fun _ _ _ h => h) (Or.inl ⟨by rfl, ?_⟩) ?_ ?_
 rotate_left
 ·intro w'
  go_simp
  with_reducible rfl
 rotate_left
 ·simp only [Act.put,List.setIfInBounds_toArray,List.set_cons_zero,List.set_cons_succ,i64_w,i32_w]
  rfl
 refine pure_ (i:=1) (N:=some 15) (v := ?_) (a' := ?_) #[true,true,false,false,false,false,false,false,false,false,false,false,false,false,false,false,false,false] rfl rfl (by kernel_rfl) (fun _ _ _ h => h) (Or.inl ⟨by rfl, ?_⟩) ?_ ?_
 rotate_left
 ·intro w'
  go_simp
  with_reducible rfl
 rotate_left
 ·simp only [Act.put,List.setIfInBounds_toArray,List.set_cons_zero,List.set_cons_succ,i64_w,i32_w]
  rfl
 refine pure_ (i:=2) (N:=some 16) (v := ?_) (a' := ?_) #[true,true,true,false,false,false,false,false,false,false,false,false,false,false,false,false,false,false] rfl rfl (by kernel_rfl) (fun _ _ _ h => h) (Or.inl ⟨by rfl, ?_⟩) ?_ ?_
 rotate_left
 ·intro w'
  go_simp
  with_reducible rfl
 rotate_left
 ·simp only [Act.put,List.setIfInBounds_toArray,List.set_cons_zero,List.set_cons_succ,i64_w,i32_w]
  rfl
 refine pure_ (i:=3) (N:=some 17) (v := ?_) (a' := ?_) #[true,true,true,true,false,false,false,false,false,false,false,false,false,false,false,false,false,false] rfl rfl (by kernel_rfl) (fun _ _ _ h => h) (Or.inl ⟨by rfl, ?_⟩) ?_ ?_
 rotate_left
 ·intro w'
  go_simp
  with_reducible rfl
 rotate_left
 ·simp only [Act.put,List.setIfInBounds_toArray,List.set_cons_zero,List.set_cons_succ,i64_w,i32_w]
  rfl
 refine take_ (i:=4) (N:=some 18) (v := ?_) (a' := ?_) #[true,true,true,true,true,false,false,false,false,false,false,false,false,false,false,false,false,false] rfl rfl (by kernel_rfl) (fun _ _ _ h => h) (Or.inl ⟨by rfl, ?_⟩) hHeld ?_ ?_
 rotate_left
 ·intro w' s0
  have e0 : w'.cell? ⟨g,0,none⟩ = some (.int .i64 h.cb):=(blk_cell s0 0).trans HC0.out
  have e1 : w'.cell? ⟨g,1,none⟩ = some (.int .i64 h.cf):=(blk_cell s0 1).trans HC1.out
  have e2 : w'.cell? ⟨g,2,none⟩ = some (.int .i64 h.cp):=(blk_cell s0 2).trans HC2.out
  have e3 : w'.cell? ⟨g,3,none⟩ = some (.int .i64 h.ce):=(blk_cell s0 3).trans HC3.out
  go_simp
  with_reducible rfl
 rotate_left
 ·simp only [Act.put,List.setIfInBounds_toArray,List.set_cons_zero,List.set_cons_succ,i64_w,i32_w]
  rfl
 refine pure_ (i:=5) (N:=some 19) (v := ?_) (a' := ?_) #[true,true,true,true,true,true,false,false,false,false,false,false,false,false,false,false,false,false] rfl rfl (by kernel_rfl) (fun _ _ _ h => h) (Or.inl ⟨by rfl, ?_⟩) ?_ ?_
 rotate_left
 ·intro w'
  go_simp
  with_reducible rfl
 rotate_left
 ·simp only [Act.put,List.setIfInBounds_toArray,List.set_cons_zero,List.set_cons_succ,i64_w,i32_w]
  rfl
 refine take_ (i:=6) (N:=some 20) (v := ?_) (a' := ?_) #[true,true,true,true,true,true,true,false,false,false,false,false,false,false,false,false,false,false] rfl rfl (by kernel_rfl) (fun _ _ _ h => h) (Or.inl ⟨by rfl, ?_⟩) hHeld ?_ ?_
 rotate_left
 ·intro w' s0
  have e8 : w'.cell? ⟨g,8,none⟩ = some (.int .i64 h.lost):=(blk_cell s0 8).trans HC8.out
  go_simp
  with_reducible rfl
 rotate_left
 ·simp only [Act.put,List.setIfInBounds_toArray,List.set_cons_zero,List.set_cons_succ,i64_w,i32_w]
  rfl
 refine pure_ (i:=7) (N:=some 21) (v := ?_) (a' := ?_) #[true,true,true,true,true,true,true,true,false,false,false,false,false,false,false,false,false,false] rfl rfl (by kernel_rfl) (fun _ _ _ h => h) (Or.inl ⟨by rfl, ?_⟩) ?_ ?_
 rotate_left
 ·intro w'
  go_simp
  with_reducible rfl
 rotate_left
 ·simp only [Act.put,List.setIfInBounds_toArray,List.set_cons_zero,List.set_cons_succ,i64_w,i32_w]
  rfl
 refine take_ (i:=8) (N:=some 22) (v := ?_) (a' := ?_) #[true,true,true,true,true,true,true,true,true,false,false,false,false,false,false,false,false,false] rfl rfl (by kernel_rfl) (fun _ _ _ h => h) (Or.inl ⟨by rfl, ?_⟩) hHeld ?_ ?_
 rotate_left
 ·intro w' s0
  have e9 : w'.cell? ⟨g,9,none⟩ = some (.int .i64 h.stamp):=(blk_cell s0 9).trans HC9.out
  go_simp
  with_reducible rfl
 rotate_left
 ·simp only [Act.put,List.setIfInBounds_toArray,List.set_cons_zero,List.set_cons_succ,i64_w,i32_w]
  rfl
 refine pure_ (i:=9) (N:=some 23) (v := ?_) (a' := ?_) #[true,true,true,true,true,true,true,true,true,true,false,false,false,false,false,false,false,false] rfl rfl (by kernel_rfl) (fun _ _ _ h => h) (Or.inl ⟨by rfl, ?_⟩) ?_ ?_
 rotate_left
 ·intro w'
  go_simp
  with_reducible rfl
 rotate_left
 ·simp only [Act.put,List.setIfInBounds_toArray,List.set_cons_zero,List.set_cons_succ,i64_w,i32_w]
  rfl
 refine pure_ (i:=10) (N:=some 24) (v := ?_) (a' := ?_) #[true,true,true,true,true,true,true,true,true,true,true,false,false,false,false,false,false,false] rfl rfl (by kernel_rfl) (fun _ _ _ h => h) (Or.inl ⟨by rfl, ?_⟩) ?_ ?_
 rotate_left
 ·intro w'
  go_simp
  with_reducible rfl
 rotate_left
 ·simp only [Act.put,List.setIfInBounds_toArray,List.set_cons_zero,List.set_cons_succ,i64_w,i32_w]
  rfl
 refine one_ (i:=11) (N:=none) #[true,true,true,true,true,true,true,true,true,true,true,true,false,false,false,false,false,false] rfl rfl (by kernel_rfl) (by decide) (fun K hK => ?_)
 refine st_blk (by rfl) rfl rfl (g:=p) (j:=0) (cs:=sideP hv0 m 0 0 (.slice none 0 0) (.slice none 0 0) (.slice none 0 0) (.slice none 0 0)) (cs':=sideP { hv0 with cb:=h.cb,cf:=h.cf,cp:=h.cp,ce:=h.ce } m 0 0 (.slice none 0 0) (.slice none 0 0) (.slice none 0 0) (.slice none 0 0)) (T:=128) (u := .agg #[.int .i64 h.cb, .int .i64 h.cf, .int .i64 h.cp, .int .i64 h.ce]) (seg := [.int .i64 h.cb, .int .i64 h.cf, .int .i64 h.cp, .int .i64 h.ce]) rfl rfl HSd.out.blk rfl (by kernel_rfl) rfl rfl rfl ?_
 intro w3 hx3 hT3
 have HS3:=Lib.hid (HSd.out.put (x' := { hv0 with cb:=h.cb,cf:=h.cf,cp:=h.cp,ce:=h.ce }) hT3 hx3 rfl rfl rfl rfl)
 have HX3:=Lib.hid (hT3.blk HXd.out (fun e => HGP.out e.symm))
 clear hx3 hT3
 refine hK.out _ _ HX3.out (fun hHeld => ?_)
 clear hK K
 refine pure_ (i:=12) (N:=some 25) (v := ?_) (a' := ?_) #[true,true,true,true,true,true,true,true,true,true,true,true,true,false,false,false,false,false] rfl rfl (by kernel_rfl) (fun _ _ _ h => h) (Or.inl ⟨by rfl, ?_⟩) ?_ ?_
 rotate_left
 ·intro w'
  go_simp
  with_reducible rfl
 rotate_left
 ·simp only [Act.put,List.setIfInBounds_toArray,List.set_cons_zero,List.set_cons_succ,i64_w,i32_w]
  rfl
 refine pure_ (i:=13) (N:=some 26) (v := ?_) (a' := ?_) #[true,true,true,true,true,true,true,true,true,true,true,true,true,true,false,false,false,false] rfl rfl (by kernel_rfl) (fun _ _ _ h => h) (Or.inl ⟨by rfl, ?_⟩) ?_ ?_
 rotate_left
 ·intro w'
  go_simp
  with_reducible rfl
 rotate_left
 ·simp only [Act.put,List.setIfInBounds_toArray,List.set_cons_zero,List.set_cons_succ,i64_w,i32_w]
  rfl
 refine one_ (i:=14) (N:=none) #[true,true,true,true,true,true,true,true,true,true,true,true,true,true,true,false,false,false] rfl rfl (by kernel_rfl) (by decide) (fun K hK => ?_)
 refine st_one (by rfl) rfl rfl (g:=p) (j:=11) (cs:=sideP { hv0 with cb:=h.cb,cf:=h.cf,cp:=h.cp,ce:=h.ce } m 0 0 (.slice none 0 0) (.slice none 0 0) (.slice none 0 0) (.slice none 0 0)) (T:=128) (u := .int .i64 h.lost) (u0 := .int .i64 0) rfl rfl HS3.out.blk rfl (by kernel_rfl) rfl rfl ?_
 intro w4 hx4 hT4
 have HS4:=Lib.hid (HS3.out.put (x' := { hv0 with cb:=h.cb,cf:=h.cf,cp:=h.cp,ce:=h.ce,lost:=h.lost }) hT4 hx4 rfl rfl rfl rfl)
 have HX4:=Lib.hid (hT4.blk HX3.out (fun e => HGP.out e.symm))
 clear hx4 hT4
 refine hK.out _ _ HX4.out (fun hHeld => ?_)
 clear hK K
 refine pure_ (i:=15) (N:=some 27) (v := ?_) (a' := ?_) #[true,true,true,true,true,true,true,true,true,true,true,true,true,true,true,true,false,false] rfl rfl (by kernel_rfl) (fun _ _ _ h => h) (Or.inl ⟨by rfl, ?_⟩) ?_ ?_
 rotate_left
 ·intro w'
  go_simp
  with_reducible rfl
 rotate_left
 ·simp only [Act.put,List.setIfInBounds_toArray,List.set_cons_zero,List.set_cons_succ,i64_w,i32_w]
  rfl
 refine pure_ (i:=16) (N:=some 28) (v := ?_) (a' := ?_) #[true,true,true,true,true,true,true,true,true,true,true,true,true,true,true,true,true,false] rfl rfl (by kernel_rfl) (fun _ _ _ h => h) (Or.inl ⟨by rfl, ?_⟩) ?_ ?_
 rotate_left
 ·intro w'
  go_simp
  with_reducible rfl
 rotate_left
 ·simp only [Act.put,List.setIfInBounds_toArray,List.set_cons_zero,List.set_cons_succ,i64_w,i32_w]
  rfl
 refine last_ (i:=17) (N:=none) #[true,true,true,true,true,true,true,true,true,true,true,true,true,true,true,true,true,true] rfl rfl (by kernel_rfl) (by decide) (fun K hK => ?_)
 refine st_one (by rfl) rfl rfl (g:=p) (j:=12) (cs:=sideP { hv0 with cb:=h.cb,cf:=h.cf,cp:=h.cp,ce:=h.ce,lost:=h.lost } m 0 0 (.slice none 0 0) (.slice none 0 0) (.slice none 0 0) (.slice none 0 0)) (T:=128) (u := .int .i64 h.stamp) (u0 := .int .i64 0) rfl rfl HS4.out.blk rfl (by kernel_rfl) rfl rfl ?_
 intro w5 hx5 hT5
 have HS5:=Lib.hid (HS4.out.put (x' := { h with fs := [],bs := [],fr := [],ev := [] }) hT5 hx5 rfl rfl rfl rfl)
 have HX5:=Lib.hid (hT5.blk HX4.out (fun e => HGP.out e.symm))
 clear hx5 hT5
 refine hK.out _ _ ?_
 clear hK K
 refine done_ (by kernel_rfl) ?_
 clear HSd HXd HS3 HX3 HS4 HX4
 have hg4 : w5.cell? ⟨g,4,none⟩ = some (.slice Af h.fs.length cf):=(blk_cell HX5.out 4).trans HC4.out
 go_upto_region 4 with (first | ((with_reducible refine gate_dst (N:=30) rfl ?_);refine Kd.R_lit k89 w0.heap.size 89 ?hg (N:=30) ?hd (w0:=w0) (xs:=([] : List S89)) (inner := []) (ok:=fun k => w5.heap.size ≤ k) (okp:=fun k => w5.heap.size ≤ k) ?hr ?hp (fun _ hk => hk) ?hf HS5.out.bel HS5.out.bel.size (by simp) ?_;(case hd => rfl);(case hg => rfl);(case hf => exact Nat.le_refl _);(case hr => first | (go_simp;done) | (go_simp;rfl));(case hp => exact (Reps.none _ _));intro v6 w6 hr6 hb6 hg6 hn6;have HR6:=Lib.hid hr6;have HB6:=Lib.hid (below_grown hg6 (fun k e => by cases e));have HN6:=Lib.hid hn6;clear hr6 hb6 hg6 hn6;have hg4 : w6.cell? ⟨g,4,none⟩ = some (.slice Af h.fs.length cf):=(blk_cell (blk_below HX5.out HB6.out) 4).trans HC4.out) | ((with_reducible refine gate_builtin (b := .append) (xs := #[.tmp 30, .tmp 32]) rfl ?_);at_builtin;refine Kd.R_append_rows k89 (Rr:=k89.K w6) (w0:=w0) w0.heap.size rfl (.tmp 30) (.tmp 32) 27 89 (.agg #[(.bool false),(.int .u32 0),(.int .u32 0)]) 12 rfl Try.underlying27 info89 rfl (by decide) (by omega) v6 [] h.fs Af h.fs.length cf (fun k => w5.heap.size ≤ k) (fun _ => False) rfl rfl ?aO ?aR ?aK (fun _ h => h.elim) ?aF ?aB ?aS ?aL ?_;(case aO => exact HR6.out);(case aR => exact Kd.C_below RF.out (below_then HS5.out.bel HS5.out.bel.size HB6.out));(case aK => exact fun x cs hk => by rw [k89_open hk];exact k89_mkM _ _ _ x);(case aF => exact fun k hk => Nat.le_trans HB6.out.size hk);(case aB => exact below_then HS5.out.bel HS5.out.bel.size HB6.out);(case aS => exact Nat.le_trans HS5.out.bel.size HB6.out.size);(case aL => have:=SM.out.l1;simp only [List.length_nil];omega);intro v7 w7 hr7 hb7 hg7 hn7;rw [List.nil_append] at hr7;have HR7:=Lib.hid hr7;have HB7 : Hid (Below w5.heap.size w5 w7):=Lib.hid (((Tch.of_below (fun _ => False) HB6.out).grown hg7 (fun k e => .inr (by obtain ⟨b,hb,hle⟩:=HN6.out;rw [hb] at e;injection e with e;omega))).below (Below.refl _ _) (Nat.le_refl _) (fun _ h => h.elim));clear hr7 hb7 hg7 hn7;obtain ⟨A7,c7,rfl⟩:=Kd.R_slice HR7.out) | ((with_reducible refine gate_store (t:=27) (p:=35) rfl ?_);refine store_box rfl rfl rfl (g:=p) (j:=4) (cs:=sideP { h with fs := [],bs := [],fr := [],ev := [] } m 0 0 (.slice none 0 0) (.slice none 0 0) (.slice none 0 0) (.slice none 0 0)) (cs':=sideP { h with bs := [],fr := [],ev := [] } m 0 0 (.slice A7 h.fs.length c7) (.slice none 0 0) (.slice none 0 0) (.slice none 0 0)) (T:=128) (u := .slice A7 h.fs.length c7) (seg := [.slice A7 h.fs.length c7]) rfl rfl (HS5.out.below HB7.out).blk rfl (by kernel_rfl) rfl rfl rfl ?_;intro w8 hx8 hT8;have HS8:=Lib.hid (HS5.out.newF (x' := { h with bs := [],fr := [],ev := [] }) HB7.out hT8 hx8 rfl HR7.out);have HX8:=Lib.hid (hT8.blk (blk_below HX5.out HB7.out) (fun e => HGP.out e.symm));clear hx8 hT8 hg4))
 go_upto_region 5 with (first | ((with_reducible refine gate_store (t:=28) (p:=38) rfl ?_);refine store_box rfl rfl rfl (g:=p) (j:=5) (cs:=sideP { h with bs := [],fr := [],ev := [] } m 0 0 (.slice A7 h.fs.length c7) (.slice none 0 0) (.slice none 0 0) (.slice none 0 0)) (cs':=sideP { h with bs := [],fr := [],ev := [] } m 0 0 (.slice A7 h.fs.length c7) (.slice none 0 0) (.slice none 0 0) (.slice none 0 0)) (T:=128) (u:=(.slice none 0 0)) (seg := [(.slice none 0 0)]) rfl rfl HS8.out.blk rfl (by kernel_rfl) rfl rfl rfl ?_;intro w9 hx9 hT9;have HS9:=Lib.hid (HS8.out.put (x' := { h with bs := [],fr := [],ev := [] }) hT9 hx9 rfl rfl rfl rfl);have HX9:=Lib.hid (hT9.blk HX8.out (fun e => HGP.out e.symm));clear hx9 hT9))
 have hg5 : w9.cell? ⟨g,5,none⟩ = some (.slice Ab h.bs.length cb):=(blk_cell HX9.out 5).trans HC5.out
 go_wp2_with (fail)
 clear hg5 HS8 HX8 HR6 HB6 HN6 HR7 HB7 HS5 HX5
 go_loopw [42] (fun v42 wr => ∃ (i : Nat) (vb : Value) (bt : List S87),i ≤ h.bs.length ∧ v42 = .int .i64 i ∧ Aside0 (bt = h.bs.take i) ∧ Aside0 (SideP w0 wr p m { h with bs:=bt,fr := [],ev := [] } 0 0 (.slice A7 h.fs.length c7) vb (.slice none 0 0) (.slice none 0 0) (tagUp h.bs i).1 (tagUp h.bs i).2) ∧ Aside0 (wr.heap[g]? = some (.cells hc 32 (0,0)))) (fun v42 _ => h.bs.length - (intOf v42).toNat)
 case atStart => exact ⟨0,_, [],Nat.zero_le _,rfl,⟨rfl⟩,⟨HS9.out⟩,⟨HX9.out⟩⟩
 case round =>
  obtain ⟨i,vb,bt,hi,rfl,HBT,HSR,HXR⟩:=hrel
  by_cases hlt : i < h.bs.length
  ·have b2 : decide ((i : Int) < (h.bs.length : Int)) = true:=decide_eq_true (by omega)
   have p5 : (0 ≤ (i : Int)) = True:=eq_true (by omega)
   have q5 : ((i : Int) < (h.bs.length : Int)) = True:=eq_true (by omega)
   have qn : (i < h.bs.length) = True:=eq_true hlt
   have hn : wrap64 ((i : Int) + 1) = (i : Int) + 1:=by have:=SM.out.l2;unfold wrap64;omega
   have HLT:=Lib.hid hlt
   have HI:=Lib.hid hi
   have HN:=Lib.hid hn
   obtain ⟨ad,A8,c8,ea,k0,k1,k2,k3,k4,k5,k6,k7,l8,g8⟩:=at_T87 (Kd.C_below RB.out HSR.out.bel) (i : Int) (by omega) (by omega)
   subst ea
   clear hlt hi
   rw [Int.toNat_natCast] at k0 k1 k2 k3 k4 k5 k6 k7
   obtain ⟨b,hb⟩ : ∃ b,b = rd_T87 h.bs (i : Int):=⟨_,rfl⟩
   rw [← hb] at k0 k1 k2 k3 k4 k5 k6 k7 l8 g8
   have HBE:=Lib.hid hb
   have L8:=Lib.hid l8
   have G8:=Lib.hid g8
   have HD8 : Hid (b.f3.f4.length ≤ 10000000):=Lib.hid (by rw [hb];exact SM.out.d2 _ (List.mem_of_getElem? (getD_at h.bs i z87 HLT.out)))
   clear hb l8 g8
   go_upto_region 8 with (first | ((with_reducible refine gate_dst (N:=5) rfl ?_);refine box_event ?hg (N:=5) ?hd (cs := #[.int .i64 0, .int .i64 0, .int .i64 0, .bool false, .int .u32 0, .bool false, .int .i64 0, .slice none 0 0]) (t:=87) ?hr ?_;(case hd => rfl);(case hg => rfl);(case hr => first | (go_simp;done) | (go_simp;rfl));intro gb hgb wb hbox hbb;have HGB:=Lib.hid hgb;have HBX:=Lib.hid hbox;have HBB:=Lib.hid hbb;clear hgb hbox hbb) | ((with_reducible refine gate_store (t:=87) (p:=5) rfl ?_);refine store_box rfl rfl rfl (g:=gb) (j:=0) (cs := #[.int .i64 0, .int .i64 0, .int .i64 0, .bool false, .int .u32 0, .bool false, .int .i64 0, .slice none 0 0]) (cs' := #[.int .i64 b.f0, .int .i64 b.f1, .int .i64 b.f2, .bool b.f3.f0, .int .u32 b.f3.f1, .bool b.f3.f2, .int .i64 b.f3.f3, .slice A8 b.f3.f4.length c8]) (T:=87) (seg := [.int .i64 b.f0, .int .i64 b.f1, .int .i64 b.f2, .bool b.f3.f0, .int .u32 b.f3.f1, .bool b.f3.f2, .int .i64 b.f3.f3, .slice A8 b.f3.f4.length c8]) rfl rfl HBX.out rfl (by kernel_rfl) rfl rfl rfl ?_;intro wc hbx hT;have HBC:=Lib.hid hbx;have HTC : Hid (Below wr.heap.size wr wc):=Lib.hid (hT.below HBB.out HBB.out.size (fun k hk => by rw [hk,HGB.out];omega));clear hbx hT))
   have HSC:=Lib.hid (HSR.out.below HTC.out)
   have HXC:=Lib.hid (blk_below HXR.out HTC.out)
   clear k0 k1 k2 k3 k4 k5 k6 k7 HBX HBB
   have y3 : wc.cell? ⟨gb,3,none⟩ = some (.bool b.f3.f0):=blk_cell HBC.out 3
   have y4 : wc.cell? ⟨gb,4,none⟩ = some (.int .u32 b.f3.f1):=blk_cell HBC.out 4
   have y5 : wc.cell? ⟨gb,5,none⟩ = some (.bool b.f3.f2):=blk_cell HBC.out 5
   have y6 : wc.cell? ⟨gb,6,none⟩ = some (.int .i64 b.f3.f3):=blk_cell HBC.out 6
   have y7 : wc.cell? ⟨gb,7,none⟩ = some (.slice A8 b.f3.f4.length c8):=blk_cell HBC.out 7
   go_upto_region 9 with (first | (go_at_call 111;refine (copyFrame_v b.f3 A8 c8 wc (Kd.C_below G8.out HTC.out) L8.out HD8.out).mono ?_;rintro e wf ⟨A9,c9,rfl,hr9,hb9⟩;have HR9:=Lib.hid hr9;have HTF:=Lib.hid (below_then HTC.out HTC.out.size hb9);have HBF:=Lib.hid (blk_below HBC.out hb9);clear hr9 hb9) | ((with_reducible refine gate_store (t:=45) (p:=50) rfl ?_);refine store_box rfl rfl rfl (g:=gb) (j:=3) (cs := #[.int .i64 b.f0, .int .i64 b.f1, .int .i64 b.f2, .bool b.f3.f0, .int .u32 b.f3.f1, .bool b.f3.f2, .int .i64 b.f3.f3, .slice A8 b.f3.f4.length c8]) (cs' := #[.int .i64 b.f0, .int .i64 b.f1, .int .i64 b.f2, .bool b.f3.f0, .int .u32 b.f3.f1, .bool b.f3.f2, .int .i64 b.f3.f3, .slice A9 b.f3.f4.length c9]) (T:=87) (seg := [.bool b.f3.f0, .int .u32 b.f3.f1, .bool b.f3.f2, .int .i64 b.f3.f3, .slice A9 b.f3.f4.length c9]) rfl rfl HBF.out rfl (by kernel_rfl) rfl rfl rfl ?_;intro wg hbx hT;have HBG:=Lib.hid hbx;have HTG : Hid (Below wr.heap.size wr wg):=Lib.hid (hT.below HTF.out HTF.out.size (fun k hk => by rw [hk,HGB.out];omega));have HR10:=Lib.hid (R_tch HR9.out HBF.out (by decide) hT);clear hbx hT))
   clear y3 y4 y5 y6 y7 HR9 HBF HTF HSC HXC HBC
   have HMX : Hid ((k87).M wg w0.heap.size (fun k => wr.heap.size ≤ k) b [.int .i64 b.f0, .int .i64 b.f1, .int .i64 b.f2, .bool b.f3.f0, .int .u32 b.f3.f1, .bool b.f3.f2, .int .i64 b.f3.f3, .slice A9 b.f3.f4.length c9]):=Lib.hid (k87_mkM wg w0.heap.size _ b (Kd.R_lower (Kd.R_mono HR10.out (fun k hk => Nat.le_trans HTC.out.size hk)) (Nat.le_trans HSR.out.bel.size HTC.out.size)))
   clear HR10
   obtain ⟨o,HR⟩:=HSR.out.rows
   have HRo:=Lib.hid HR
   clear HR
   obtain ⟨Ab',cb',rfl⟩:=Kd.S_slice HRo.out.b
   obtain ⟨we,hwe⟩ : ∃ we,we = wg.drew:=⟨_,rfl⟩
   have HTE : Hid (Below wr.heap.size wr we):=by rw [hwe];exact Lib.hid (below_drew HTG.out)
   have HBE2 : Hid (we.heap[gb]? = some (.cells #[.int .i64 b.f0, .int .i64 b.f1, .int .i64 b.f2, .bool b.f3.f0, .int .u32 b.f3.f1, .bool b.f3.f2, .int .i64 b.f3.f3, .slice A9 b.f3.f4.length c9] 87 (0,0))):=by rw [hwe];exact Lib.hid (blk_drew HBG.out)
   have HME:=Lib.hid (Kd.M_below HMX.out (below_drew (Below.refl wg.heap.size wg)))
   rw [← hwe] at HME
   have HSE:=Lib.hid (HSR.out.below HTE.out)
   clear HBG HMX HTG
   refine start_ (n:=11) (S:=fun w' : World => w'.heap[p]? = some (.cells (sideP { h with bs:=bt,fr := [],ev := [] } m 0 0 (.slice A7 h.fs.length c7) (.slice Ab' bt.length cb') (.slice none 0 0) (.slice none 0 0)) 128 (0,0)) ∧ w'.heap[gb]? = some (.cells ⟨[.int .i64 b.f0, .int .i64 b.f1, .int .i64 b.f2, .bool b.f3.f0, .int .u32 b.f3.f1, .bool b.f3.f2, .int .i64 b.f3.f3, .slice A9 b.f3.f4.length c9]⟩ 87 (0,0))) (ds := [10]) #[false,false,false,false,false,false,false,false,false,false,false] (by kernel_rfl) rfl rfl (hwe ▸ ⟨HSE.out.blk,HBE2.out⟩) (fun hHeld => ?_)
   rw [← hwe] at hHeld ⊢
   clear hwe
   refine pure_ (i:=0) (N:=some 51) (v := ?_) (a' := ?_) #[true,false,false,false,false,false,false,false,false,false,false] rfl rfl (by kernel_rfl) (fun _ _ _ h => h) (Or.inl ⟨by rfl, ?_⟩) ?_ ?_
   rotate_left
   ·intro w'
    go_simp
    with_reducible rfl
   rotate_left
   ·simp only [Act.put,List.setIfInBounds_toArray,List.set_cons_zero,List.set_cons_succ,i64_w,i32_w]
    rfl
   refine pure_ (i:=1) (N:=some 52) (v := ?_) (a' := ?_) #[true,true,false,false,false,false,false,false,false,false,false] rfl rfl (by kernel_rfl) (fun _ _ _ h => h) (Or.inl ⟨by rfl, ?_⟩) ?_ ?_
   rotate_left
   ·intro w'
    go_simp
    with_reducible rfl
   rotate_left
   ·simp only [Act.put,List.setIfInBounds_toArray,List.set_cons_zero,List.set_cons_succ,i64_w,i32_w]
    rfl
   refine pure_ (i:=2) (N:=some 53) (v := ?_) (a' := ?_) #[true,true,true,false,false,false,false,false,false,false,false] rfl rfl (by kernel_rfl) (fun _ _ _ h => h) (Or.inl ⟨by rfl, ?_⟩) ?_ ?_
   rotate_left
   ·intro w'
    go_simp
    with_reducible rfl
   rotate_left
   ·simp only [Act.put,List.setIfInBounds_toArray,List.set_cons_zero,List.set_cons_succ,i64_w,i32_w]
    rfl
   refine pure_ (i:=3) (N:=some 54) (v := ?_) (a' := ?_) #[true,true,true,true,false,false,false,false,false,false,false] rfl rfl (by kernel_rfl) (fun _ _ _ h => h) (Or.inl ⟨by rfl, ?_⟩) ?_ ?_
   rotate_left
   ·intro w'
    go_simp
    with_reducible rfl
   rotate_left
   ·simp only [Act.put,List.setIfInBounds_toArray,List.set_cons_zero,List.set_cons_succ,i64_w,i32_w]
    rfl
   refine take_ (i:=4) (N:=some 55) (v := ?_) (a' := ?_) #[true,true,true,true,true,false,false,false,false,false,false] rfl rfl (by kernel_rfl) (fun _ _ _ h => h) (Or.inl ⟨by rfl, ?_⟩) hHeld ?_ ?_
   rotate_left
   ·rintro w' ⟨s0,s1⟩
    have e0 : w'.cell? ⟨p,5,none⟩ = some (.slice Ab' bt.length cb'):=blk_cell s0 5
    go_simp
    with_reducible rfl
   rotate_left
   ·simp only [Act.put,List.setIfInBounds_toArray,List.set_cons_zero,List.set_cons_succ,i64_w,i32_w]
    rfl
   refine take_ (i:=5) (N:=some 56) (v := ?_) (a' := ?_) #[true,true,true,true,true,true,false,false,false,false,false] rfl rfl (by kernel_rfl) (fun _ _ _ h => h) (Or.inl ⟨by rfl, ?_⟩) hHeld ?_ ?_
   rotate_left
   ·rintro w' ⟨s0,s1⟩
    have e0 : w'.cell? ⟨gb,0,none⟩ = some (.int .i64 b.f0):=blk_cell s1 0
    have e1 : w'.cell? ⟨gb,1,none⟩ = some (.int .i64 b.f1):=blk_cell s1 1
    have e2 : w'.cell? ⟨gb,2,none⟩ = some (.int .i64 b.f2):=blk_cell s1 2
    have e3 : w'.cell? ⟨gb,3,none⟩ = some (.bool b.f3.f0):=blk_cell s1 3
    have e4 : w'.cell? ⟨gb,4,none⟩ = some (.int .u32 b.f3.f1):=blk_cell s1 4
    have e5 : w'.cell? ⟨gb,5,none⟩ = some (.bool b.f3.f2):=blk_cell s1 5
    have e6 : w'.cell? ⟨gb,6,none⟩ = some (.int .i64 b.f3.f3):=blk_cell s1 6
    have e7 : w'.cell? ⟨gb,7,none⟩ = some (.slice A9 b.f3.f4.length c9):=blk_cell s1 7
    go_simp
    with_reducible rfl
   rotate_left
   ·simp only [Act.put,List.setIfInBounds_toArray,List.set_cons_zero,List.set_cons_succ,i64_w,i32_w]
    rfl
   refine one_ (i:=6) (N:=some 57) #[true,true,true,true,true,true,true,false,false,false,false] rfl rfl (by kernel_rfl) (by decide) (fun K hK => ?_)
   refine value_ (w1 := ?_) (v := ?_) (by rfl) rfl ?_ ?_
   rotate_left 2
   ·go_simp
    constructor
    ·rfl
    ·rfl
   refine hK.out _ _ ⟨blk_alloc HSE.out.blk _,blk_alloc HBE2.out _⟩ (fun hHeld => ?_)
   clear hK K
   refine norm_ (a' := ?_) ?_ ?_
   rotate_left
   ·show Act.put _ (some 57) _ = _
    simp only [Act.put,List.setIfInBounds_toArray,List.set_cons_zero,List.set_cons_succ,i64_w,i32_w]
    rfl
   refine one_ (i:=7) (N:=some 58) #[true,true,true,true,true,true,true,true,false,false,false] rfl rfl (by kernel_rfl) (by decide) (fun K hK => ?_)
   refine Kd.S_append_step k87 (w0:=w0) w0.heap.size (by rfl) (.tmp 55) (.tmp 57) 28 87 (.agg #[(.int .i64 0),(.int .i64 0),(.int .i64 0),(.bool false),(.int .u32 0),(.bool false),(.int .i64 0),(.slice none 0 0)]) 72 rfl Try.underlying28 info87 rfl (by decide) (by omega) (.slice Ab' bt.length cb') bt b [.int .i64 b.f0, .int .i64 b.f1, .int .i64 b.f2, .bool b.f3.f0, .int .u32 b.f3.f1, .bool b.f3.f2, .int .i64 b.f3.f3, .slice A9 b.f3.f4.length c9] (fun k => (o k = 1 ∧ k < wr.heap.size) ∨ wr.heap.size ≤ k) (fun k => wr.heap.size ≤ k) rfl rfl ?aP ?aK ?aF ?aO ?aB ?aS ?aL ?_
   (case aP => exact HME.out)
   (case aK => exact fun k hk => ⟨.inr hk,fun e => by have:=Kd.S_lt HRo.out.b k e.symm;omega⟩)
   (case aF => exact fun k hk => .inr (Nat.le_trans HTE.out.size hk))
   (case aO => exact Kd.S_mono (Kd.S_below (S_lt_own HRo.out.b) HTE.out) (fun k hk => ⟨.inl ⟨hk.1.2,hk.2⟩,by have:=hk.2;omega⟩))
   (case aB => exact HSE.out.bel)
   (case aS => exact HSE.out.bel.size)
   (case aL => have h1:=SM.out.l2;have h2:=HLT.out;have h3:=congrArg List.length HBT.out;rw [List.length_take] at h3;omega)
   intro v1 w2 hS hb hg hat
   have hnp : some p ≠ (Value.slice Ab' bt.length cb').ownBlock:=Kd.S_ne HRo.out.b HSR.out.blk (by decide)
   have hng : some gb ≠ (Value.slice Ab' bt.length cb').ownBlock:=fun e => by have h1:=Kd.S_lt HRo.out.b gb e.symm;have h2:=HGB.out;omega
   have HP2:=Lib.hid (blk_grown (g:=p) HSE.out.blk hg hnp)
   have HG2:=Lib.hid (blk_grown (g:=gb) HBE2.out hg hng)
   have HS2:=Lib.hid hS
   have HT2:=Lib.hid ((Tch.refl we (fun k => k = p ∨ some k = (Value.slice Ab' bt.length cb').ownBlock)).grown hg (fun k e => .inl (.inr e.symm)))
   clear hS hb hg hat hnp hng
   obtain ⟨A1,c1,rfl⟩:=Kd.S_slice HS2.out
   refine hK.out _ _ ⟨HP2.out,HG2.out⟩ (fun hHeld => ?_)
   clear hK K
   refine norm_ (a' := ?_) ?_ ?_
   rotate_left
   ·show Act.put _ (some 58) _ = _
    simp only [Act.put,List.setIfInBounds_toArray,List.set_cons_zero,List.set_cons_succ,i64_w,i32_w]
    rfl
   refine pure_ (i:=8) (N:=some 59) (v := ?_) (a' := ?_) #[true,true,true,true,true,true,true,true,true,false,false] rfl rfl (by kernel_rfl) (fun _ _ _ h => h) (Or.inl ⟨by rfl, ?_⟩) ?_ ?_
   rotate_left
   ·intro w'
    go_simp
    with_reducible rfl
   rotate_left
   ·simp only [Act.put,List.setIfInBounds_toArray,List.set_cons_zero,List.set_cons_succ,i64_w,i32_w]
    rfl
   refine pure_ (i:=9) (N:=some 60) (v := ?_) (a' := ?_) #[true,true,true,true,true,true,true,true,true,true,false] rfl rfl (by kernel_rfl) (fun _ _ _ h => h) (Or.inl ⟨by rfl, ?_⟩) ?_ ?_
   rotate_left
   ·intro w'
    go_simp
    with_reducible rfl
   rotate_left
   ·simp only [Act.put,List.setIfInBounds_toArray,List.set_cons_zero,List.set_cons_succ,i64_w,i32_w]
    rfl
   refine last_ (i:=10) (N:=none) #[true,true,true,true,true,true,true,true,true,true,true] rfl rfl (by kernel_rfl) (by decide) (fun K hK => ?_)
   refine st_one (by rfl) rfl rfl (g:=p) (j:=5) (cs:=sideP { h with bs:=bt,fr := [],ev := [] } m 0 0 (.slice A7 h.fs.length c7) (.slice Ab' bt.length cb') (.slice none 0 0) (.slice none 0 0)) (T:=128) (u:=(.slice A1 (bt ++ [b]).length c1)) (u0:=(.slice Ab' bt.length cb')) rfl rfl HP2.out rfl (by kernel_rfl) rfl rfl ?_
   intro w3 hx3 hT3
   have HS3 : Hid (SideP w0 w3 p m { h with bs:=bt ++ [b],fr := [],ev := [] } 0 0 (.slice A7 h.fs.length c7) (.slice A1 (bt ++ [b]).length c1) (.slice none 0 0) (.slice none 0 0) (tagUp h.bs i).1 (tagUp h.bs i).2):=Lib.hid (HSR.out.newB HRo.out HTE.out (HT2.out.trans (hT3.mono (fun k hk => .inl hk))) hx3 rfl (S_tch HS2.out HP2.out (by decide) hT3))
   have HG3:=Lib.hid (hT3.blk HG2.out (fun e => by have h1:=HGB.out;have h2:=blk_lt HSR.out.blk;omega))
   have HT3 : Hid (Tch wr w3 (fun k => k = p ∨ some k = (Value.slice Ab' bt.length cb').ownBlock)):=Lib.hid (((Tch.of_below _ HTE.out).trans HT2.out).trans (hT3.mono (fun k hk => .inl hk)))
   clear hx3 hT3
   refine hK.out _ _ ?_
   clear hK K
   refine done_ (by kernel_rfl) ?_
   have HXR3:=Lib.hid (HT3.out.blk HXR.out (by rintro (e | e);exact HGP.out e.symm;exact Kd.S_ne HRo.out.b HXR.out (by decide) e))
   obtain ⟨bk,hbk⟩ : ∃ bk,bk = bt ++ [b]:=⟨_,rfl⟩
   rw [← hbk] at HS3
   have HBK : Hid (bk = h.bs.take (i + 1)):=Lib.hid (by rw [hbk,HBT.out,HBE.out,List.take_add_one,getD_at h.bs i z87 HLT.out];rfl)
   clear hbk HS2 HT2 HP2 HG2 HSE HBE2 HME HTE HT3
   have z0 : w3.cell? ⟨gb,0,none⟩ = some (.int .i64 b.f0):=blk_cell HG3.out 0
   by_cases hz : b.f0 = 0
   ·have hz1 : (b.f0 != 0) = false:=by rw [hz];rfl
    have HZ:=Lib.hid hz
    clear hz
    go_wp2_with (fail)
    go_roundw
    case rel => exact ⟨i + 1,_,bk,HLT.out,by rw [HN.out];rfl,⟨HBK.out⟩,⟨by rw [tagUp_zero HBE.out HZ.out];exact HS3.out⟩,⟨HXR3.out⟩⟩
    case measure => rw [HN.out];have:=HLT.out;simp [intOf];omega
   ·have hz1 : (b.f0 != 0) = true:=bne_iff_ne.2 hz
    have HZ:=Lib.hid hz
    clear hz
    go_upto_region 11 with (fail)
    obtain ⟨wh,hwh⟩ : ∃ wh,wh = w3.drew:=⟨_,rfl⟩
    have HSh : Hid (SideP w0 wh p m { h with bs:=bk,fr := [],ev := [] } 0 0 (.slice A7 h.fs.length c7) (.slice A1 bk.length c1) (.slice none 0 0) (.slice none 0 0) (tagUp h.bs i).1 (tagUp h.bs i).2):=by rw [hwh];exact Lib.hid (HS3.out.below (below_drew (Below.refl _ _)))
    have HGh : Hid (wh.heap[gb]? = some (.cells ⟨[.int .i64 b.f0, .int .i64 b.f1, .int .i64 b.f2, .bool b.f3.f0, .int .u32 b.f3.f1, .bool b.f3.f2, .int .i64 b.f3.f3, .slice A9 b.f3.f4.length c9]⟩ 87 (0,0))):=by rw [hwh];exact Lib.hid (blk_drew HG3.out)
    have HXh : Hid (wh.heap[g]? = some (.cells hc 32 (0,0))):=by rw [hwh];exact Lib.hid (blk_drew HXR3.out)
    obtain ⟨wu,hup,hmu,hTu⟩:=update_run (P:=Try.prog) Try.underlying122 Try.underlying3 HSh.out.map b.f1 (i : Int)
    have HSu:=Lib.hid (HSh.out.mapped hTu hmu)
    have HXu:=Lib.hid (hTu.blk HXh.out HGM.out)
    clear hmu hTu z0
    refine start_ (n:=8) (S:=fun w' : World => w'.heap[p]? = some (.cells (sideP { h with bs:=bk,fr := [],ev := [] } m 0 0 (.slice A7 h.fs.length c7) (.slice A1 bk.length c1) (.slice none 0 0) (.slice none 0 0)) 128 (0,0)) ∧ w'.heap[gb]? = some (.cells ⟨[.int .i64 b.f0, .int .i64 b.f1, .int .i64 b.f2, .bool b.f3.f0, .int .u32 b.f3.f1, .bool b.f3.f2, .int .i64 b.f3.f3, .slice A9 b.f3.f4.length c9]⟩ 87 (0,0))) (ds := [7]) #[false,false,false,false,false,false,false,false] (by kernel_rfl) rfl rfl (hwh ▸ ⟨HSh.out.blk,HGh.out⟩) (fun hHeld => ?_)
    rw [← hwh] at hHeld ⊢
    clear hwh
    refine pure_ (i:=0) (N:=some 64) (v := ?_) (a' := ?_) #[true,false,false,false,false,false,false,false] rfl rfl (by kernel_rfl) (fun _ _ _ h => h) (Or.inl ⟨by rfl, ?_⟩) ?_ ?_
    rotate_left
    ·intro w'
     go_simp
     with_reducible rfl
    rotate_left
    ·simp only [Act.put,List.setIfInBounds_toArray,List.set_cons_zero,List.set_cons_succ,i64_w,i32_w]
     rfl
    refine pure_ (i:=1) (N:=some 65) (v := ?_) (a' := ?_) #[true,true,false,false,false,false,false,false] rfl rfl (by kernel_rfl) (fun _ _ _ h => h) (Or.inl ⟨by rfl, ?_⟩) ?_ ?_
    rotate_left
    ·intro w'
     go_simp
     with_reducible rfl
    rotate_left
    ·simp only [Act.put,List.setIfInBounds_toArray,List.set_cons_zero,List.set_cons_succ,i64_w,i32_w]
     rfl
    refine pure_ (i:=2) (N:=some 66) (v := ?_) (a' := ?_) #[true,true,true,false,false,false,false,false] rfl rfl (by kernel_rfl) (fun _ _ _ h => h) (Or.inl ⟨by rfl, ?_⟩) ?_ ?_
    rotate_left
    ·intro w'
     go_simp
     with_reducible rfl
    rotate_left
    ·simp only [Act.put,List.setIfInBounds_toArray,List.set_cons_zero,List.set_cons_succ,i64_w,i32_w]
     rfl
    refine take_ (i:=3) (N:=some 67) (v := ?_) (a' := ?_) #[true,true,true,true,false,false,false,false] rfl rfl (by kernel_rfl) (fun _ _ _ h => h) (Or.inl ⟨by rfl, ?_⟩) hHeld ?_ ?_
    rotate_left
    ·rintro w' ⟨s0,s1⟩
     have e0 : w'.cell? ⟨p,6,none⟩ = some (.map (some m)):=blk_cell s0 6
     go_simp
     with_reducible rfl
    rotate_left
    ·simp only [Act.put,List.setIfInBounds_toArray,List.set_cons_zero,List.set_cons_succ,i64_w,i32_w]
     rfl
    refine pure_ (i:=4) (N:=some 68) (v := ?_) (a' := ?_) #[true,true,true,true,true,false,false,false] rfl rfl (by kernel_rfl) (fun _ _ _ h => h) (Or.inl ⟨by rfl, ?_⟩) ?_ ?_
    rotate_left
    ·intro w'
     go_simp
     with_reducible rfl
    rotate_left
    ·simp only [Act.put,List.setIfInBounds_toArray,List.set_cons_zero,List.set_cons_succ,i64_w,i32_w]
     rfl
    refine take_ (i:=5) (N:=some 69) (v := ?_) (a' := ?_) #[true,true,true,true,true,true,false,false] rfl rfl (by kernel_rfl) (fun _ _ _ h => h) (Or.inl ⟨by rfl, ?_⟩) hHeld ?_ ?_
    rotate_left
    ·rintro w' ⟨s0,s1⟩
     have e0 : w'.cell? ⟨gb,1,none⟩ = some (.int .i64 b.f1):=blk_cell s1 1
     go_simp
     with_reducible rfl
    rotate_left
    ·simp only [Act.put,List.setIfInBounds_toArray,List.set_cons_zero,List.set_cons_succ,i64_w,i32_w]
     rfl
    refine pure_ (i:=6) (N:=some 70) (v := ?_) (a' := ?_) #[true,true,true,true,true,true,true,false] rfl rfl (by kernel_rfl) (fun _ _ _ h => h) (Or.inl ⟨by rfl, ?_⟩) ?_ ?_
    rotate_left
    ·intro w'
     go_simp
     with_reducible rfl
    rotate_left
    ·simp only [Act.put,List.setIfInBounds_toArray,List.set_cons_zero,List.set_cons_succ,i64_w,i32_w]
     rfl
    refine last_ (i:=7) (N:=none) #[true,true,true,true,true,true,true,true] rfl rfl (by kernel_rfl) (by decide) (fun K hK => ?_)
    refine skip_ (w1:=wu) (by rfl) rfl ?_ ?_
    ·go_simp
    refine hK.out _ _ ?_
    clear hK K
    refine done_ (by kernel_rfl) ?_
    clear hup
    go_wp2_with (fail)
    go_roundw
    case rel => exact ⟨i + 1,_,bk,HLT.out,by rw [HN.out];rfl,⟨HBK.out⟩,⟨by rw [tagUp_next HBE.out HZ.out];exact HSu.out⟩,⟨HXu.out⟩⟩
    case measure => rw [HN.out];have:=HLT.out;simp [intOf];omega
  ·have hii : i = h.bs.length:=by omega
   have HBTT : Hid (bt = h.bs):=Lib.hid (by rw [HBT.out,hii,List.take_length])
   have b2 : decide ((i : Int) < (h.bs.length : Int)) = false:=decide_eq_false (by omega)
   have qn : (i < h.bs.length) = False:=eq_false hlt
   have HSq : Hid (SideP w0 wr p m { h with fr := [],ev := [] } 0 0 (.slice A7 h.fs.length c7) vb (.slice none 0 0) (.slice none 0 0) (tagUp h.bs h.bs.length).1 (tagUp h.bs h.bs.length).2):=Lib.hid (by have e:=HSR.out;rw [HBTT.out,hii] at e;exact e)
   clear hlt hi HSR hii
   go_upto_region 13 with (fail)
   obtain ⟨wd,hwd⟩ : ∃ wd,wd = wr.drew:=⟨_,rfl⟩
   have HSd : Hid (SideP w0 wd p m { h with fr := [],ev := [] } 0 0 (.slice A7 h.fs.length c7) vb (.slice none 0 0) (.slice none 0 0) (tagUp h.bs h.bs.length).1 (tagUp h.bs h.bs.length).2):=by rw [hwd];exact Lib.hid (HSq.out.below (below_drew (Below.refl _ _)))
   have HXd : Hid (wd.heap[g]? = some (.cells hc 32 (0,0))):=by rw [hwd];exact Lib.hid (blk_drew HXR.out)
   clear HSq HXR
   refine start_ (n:=16) (S:=fun w' : World => w'.heap[g]? = some (.cells hc 32 (0,0))) (ds := [15]) #[false,false,false,false,false,false,false,false,false,false,false,false,false,false,false,false] (by kernel_rfl) rfl rfl (hwd ▸ HXd.out) (fun hHeld => ?_)
   rw [← hwd] at hHeld ⊢
   clear hwd
   refine pure_ (i:=0) (N:=some 72) (v := ?_) (a' := ?_) #[true,false,false,false,false,false,false,false,false,false,false,false,false,false,false,false] rfl rfl (by kernel_rfl) (fun _ _ _ h => h) (Or.inl ⟨by rfl, ?_⟩) ?_ ?_
   rotate_left
   ·intro w'
    go_simp
    with_reducible rfl
   rotate_left
   ·simp only [Act.put,List.setIfInBounds_toArray,List.set_cons_zero,List.set_cons_succ,i64_w,i32_w]
    rfl
   refine pure_ (i:=1) (N:=some 73) (v := ?_) (a' := ?_) #[true,true,false,false,false,false,false,false,false,false,false,false,false,false,false,false] rfl rfl (by kernel_rfl) (fun _ _ _ h => h) (Or.inl ⟨by rfl, ?_⟩) ?_ ?_
   rotate_left
   ·intro w'
    go_simp
    with_reducible rfl
   rotate_left
   ·simp only [Act.put,List.setIfInBounds_toArray,List.set_cons_zero,List.set_cons_succ,i64_w,i32_w]
    rfl
   refine pure_ (i:=2) (N:=some 74) (v := ?_) (a' := ?_) #[true,true,true,false,false,false,false,false,false,false,false,false,false,false,false,false] rfl rfl (by kernel_rfl) (fun _ _ _ h => h) (Or.inl ⟨by rfl, ?_⟩) ?_ ?_
   rotate_left
   ·intro w'
    go_simp
    with_reducible rfl
   rotate_left
   ·simp only [Act.put,List.setIfInBounds_toArray,List.set_cons_zero,List.set_cons_succ,i64_w,i32_w]
    rfl
   refine pure_ (i:=3) (N:=some 75) (v := ?_) (a' := ?_) #[true,true,true,true,false,false,false,false,false,false,false,false,false,false,false,false] rfl rfl (by kernel_rfl) (fun _ _ _ h => h) (Or.inl ⟨by rfl, ?_⟩) ?_ ?_
   rotate_left
   ·intro w'
    go_simp
    with_reducible rfl
   rotate_left
   ·simp only [Act.put,List.setIfInBounds_toArray,List.set_cons_zero,List.set_cons_succ,i64_w,i32_w]
    rfl
   refine take_ (i:=4) (N:=some 76) (v := ?_) (a' := ?_) #[true,true,true,true,true,false,false,false,false,false,false,false,false,false,false,false] rfl rfl (by kernel_rfl) (fun _ _ _ h => h) (Or.inl ⟨by rfl, ?_⟩) hHeld ?_ ?_
   rotate_left
   ·intro w' s0
    have e1 : w'.cell? ⟨g,1,none⟩ = some (.int .i64 h.cf):=(blk_cell s0 1).trans HC1.out
    go_simp
    with_reducible rfl
   rotate_left
   ·simp only [Act.put,List.setIfInBounds_toArray,List.set_cons_zero,List.set_cons_succ,i64_w,i32_w]
    rfl
   refine pure_ (i:=5) (N:=some 77) (v := ?_) (a' := ?_) #[true,true,true,true,true,true,false,false,false,false,false,false,false,false,false,false] rfl rfl (by kernel_rfl) (fun _ _ _ h => h) (Or.inl ⟨by rfl, ?_⟩) ?_ ?_
   rotate_left
   ·intro w'
    go_simp
    with_reducible rfl
   rotate_left
   ·simp only [Act.put,List.setIfInBounds_toArray,List.set_cons_zero,List.set_cons_succ,i64_w,i32_w]
    rfl
   refine pure_ (i:=6) (N:=some 78) (v := ?_) (a' := ?_) #[true,true,true,true,true,true,true,false,false,false,false,false,false,false,false,false] rfl rfl (by kernel_rfl) (fun _ _ _ h => h) (Or.inl ⟨by rfl, ?_⟩) ?_ ?_
   rotate_left
   ·intro w'
    go_simp
    with_reducible rfl
   rotate_left
   ·simp only [Act.put,List.setIfInBounds_toArray,List.set_cons_zero,List.set_cons_succ,i64_w,i32_w]
    rfl
   refine pure_ (i:=7) (N:=some 79) (v := ?_) (a' := ?_) #[true,true,true,true,true,true,true,true,false,false,false,false,false,false,false,false] rfl rfl (by kernel_rfl) (fun _ _ _ h => h) (Or.inl ⟨by rfl, ?_⟩) ?_ ?_
   rotate_left
   ·intro w'
    go_simp
    with_reducible rfl
   rotate_left
   ·simp only [Act.put,List.setIfInBounds_toArray,List.set_cons_zero,List.set_cons_succ,i64_w,i32_w]
    rfl
   refine take_ (i:=8) (N:=some 80) (v := ?_) (a' := ?_) #[true,true,true,true,true,true,true,true,true,false,false,false,false,false,false,false] rfl rfl (by kernel_rfl) (fun _ _ _ h => h) (Or.inl ⟨by rfl, ?_⟩) hHeld ?_ ?_
   rotate_left
   ·intro w' s0
    have e3 : w'.cell? ⟨g,3,none⟩ = some (.int .i64 h.ce):=(blk_cell s0 3).trans HC3.out
    go_simp
    with_reducible rfl
   rotate_left
   ·simp only [Act.put,List.setIfInBounds_toArray,List.set_cons_zero,List.set_cons_succ,i64_w,i32_w]
    rfl
   refine pure_ (i:=9) (N:=some 81) (v := ?_) (a' := ?_) #[true,true,true,true,true,true,true,true,true,true,false,false,false,false,false,false] rfl rfl (by kernel_rfl) (fun _ _ _ h => h) (Or.inl ⟨by rfl, ?_⟩) ?_ ?_
   rotate_left
   ·intro w'
    go_simp
    with_reducible rfl
   rotate_left
   ·simp only [Act.put,List.setIfInBounds_toArray,List.set_cons_zero,List.set_cons_succ,i64_w,i32_w]
    rfl
   refine pure_ (i:=10) (N:=some 82) (v := ?_) (a' := ?_) #[true,true,true,true,true,true,true,true,true,true,true,false,false,false,false,false] rfl rfl (by kernel_rfl) (fun _ _ _ h => h) (Or.inl ⟨by rfl, ?_⟩) ?_ ?_
   rotate_left
   ·intro w'
    go_simp
    with_reducible rfl
   rotate_left
   ·simp only [Act.put,List.setIfInBounds_toArray,List.set_cons_zero,List.set_cons_succ,i64_w,i32_w]
    rfl
   refine pure_ (i:=11) (N:=some 83) (v := ?_) (a' := ?_) #[true,true,true,true,true,true,true,true,true,true,true,true,false,false,false,false] rfl rfl (by kernel_rfl) (fun _ _ _ h => h) (Or.inl ⟨by rfl, ?_⟩) ?_ ?_
   rotate_left
   ·intro w'
    go_simp
    with_reducible rfl
   rotate_left
   ·simp only [Act.put,List.setIfInBounds_toArray,List.set_cons_zero,List.set_cons_succ,i64_w,i32_w]
    rfl
   refine one_ (i:=12) (N:=none) #[true,true,true,true,true,true,true,true,true,true,true,true,true,false,false,false] rfl rfl (by kernel_rfl) (by decide) (fun K hK => ?_)
   refine st_blk (by rfl) rfl rfl (g:=p) (j:=7) (cs:=sideP { h with fr := [],ev := [] } m 0 0 (.slice A7 h.fs.length c7) vb (.slice none 0 0) (.slice none 0 0)) (cs':=sideP { h with fr := [],ev := [] } m h.cf 0 (.slice A7 h.fs.length c7) vb (.slice none 0 0) (.slice none 0 0)) (T:=128) (u := .agg #[.int .i64 h.cf,(.slice none 0 0)]) (seg := [.int .i64 h.cf,(.slice none 0 0)]) rfl rfl HSd.out.blk rfl (by kernel_rfl) rfl rfl rfl ?_
   intro wa hxa hTa
   have HSa:=Lib.hid (HSd.out.put (x' := { h with fr := [],ev := [] }) hTa hxa rfl rfl rfl rfl)
   have HXa:=Lib.hid (hTa.blk HXd.out (fun e => HGP.out e.symm))
   clear hxa hTa
   refine hK.out _ _ HXa.out (fun hHeld => ?_)
   clear hK K
   refine pure_ (i:=13) (N:=some 84) (v := ?_) (a' := ?_) #[true,true,true,true,true,true,true,true,true,true,true,true,true,true,false,false] rfl rfl (by kernel_rfl) (fun _ _ _ h => h) (Or.inl ⟨by rfl, ?_⟩) ?_ ?_
   rotate_left
   ·intro w'
    go_simp
    with_reducible rfl
   rotate_left
   ·simp only [Act.put,List.setIfInBounds_toArray,List.set_cons_zero,List.set_cons_succ,i64_w,i32_w]
    rfl
   refine pure_ (i:=14) (N:=some 85) (v := ?_) (a' := ?_) #[true,true,true,true,true,true,true,true,true,true,true,true,true,true,true,false] rfl rfl (by kernel_rfl) (fun _ _ _ h => h) (Or.inl ⟨by rfl, ?_⟩) ?_ ?_
   rotate_left
   ·intro w'
    go_simp
    with_reducible rfl
   rotate_left
   ·simp only [Act.put,List.setIfInBounds_toArray,List.set_cons_zero,List.set_cons_succ,i64_w,i32_w]
    rfl
   refine last_ (i:=15) (N:=none) #[true,true,true,true,true,true,true,true,true,true,true,true,true,true,true,true] rfl rfl (by kernel_rfl) (by decide) (fun K hK => ?_)
   refine st_blk (by rfl) rfl rfl (g:=p) (j:=9) (cs:=sideP { h with fr := [],ev := [] } m h.cf 0 (.slice A7 h.fs.length c7) vb (.slice none 0 0) (.slice none 0 0)) (cs':=sideP { h with fr := [],ev := [] } m h.cf h.ce (.slice A7 h.fs.length c7) vb (.slice none 0 0) (.slice none 0 0)) (T:=128) (u := .agg #[.int .i64 h.ce,(.slice none 0 0)]) (seg := [.int .i64 h.ce,(.slice none 0 0)]) rfl rfl HSa.out.blk rfl (by kernel_rfl) rfl rfl rfl ?_
   intro wb hxb hTb
   have HSb:=Lib.hid (HSa.out.put (x' := { h with fr := [],ev := [] }) hTb hxb rfl rfl rfl rfl)
   have HXb:=Lib.hid (hTb.blk HXa.out (fun e => HGP.out e.symm))
   clear hxb hTb
   refine hK.out _ _ ?_
   clear hK K
   refine done_ (by kernel_rfl) ?_
   clear HSd HXd HSa HXa
   have hg6 : wb.cell? ⟨g,6,none⟩ = some (.slice Aq h.fr.length cq):=(blk_cell HXb.out 6).trans HC6.out
   go_wp2_with (fail)
   clear hg6
   go_loopw [89] (fun v89 wr => ∃ (i : Nat) (vq : Value) (qt : List S45),i ≤ h.fr.length ∧ v89 = .int .i64 i ∧ Aside0 (qt = h.fr.take i) ∧ Aside0 (SideP w0 wr p m { h with fr:=qt,ev := [] } h.cf h.ce (.slice A7 h.fs.length c7) vb vq (.slice none 0 0) (tagUp h.bs h.bs.length).1 (tagUp h.bs h.bs.length).2) ∧ Aside0 (wr.heap[g]? = some (.cells hc 32 (0,0)))) (fun v89 _ => h.fr.length - (intOf v89).toNat)
   case atStart => exact ⟨0,_, [],Nat.zero_le _,rfl,⟨rfl⟩,⟨HSb.out⟩,⟨HXb.out⟩⟩
   case round =>
    clear HSb HXb HBT HBTT b2 qn
    obtain ⟨i,vq,qt,hi,rfl,HQT,HSR,HXR⟩:=hrel
    by_cases hlt : i < h.fr.length
    ·have b2 : decide ((i : Int) < (h.fr.length : Int)) = true:=decide_eq_true (by omega)
     have p5 : (0 ≤ (i : Int)) = True:=eq_true (by omega)
     have q5 : ((i : Int) < (h.fr.length : Int)) = True:=eq_true (by omega)
     have qn : (i < h.fr.length) = True:=eq_true hlt
     have hn : wrap64 ((i : Int) + 1) = (i : Int) + 1:=by have:=SM.out.l3;unfold wrap64;omega
     have HLT:=Lib.hid hlt
     have HI:=Lib.hid hi
     have HN:=Lib.hid hn
     obtain ⟨ad,A8,c8,ea,k0,k1,k2,k3,k4,l8,g8⟩:=at_T45 (Kd.C_below RQ.out HSR.out.bel) (i : Int) (by omega) (by omega)
     subst ea
     clear hlt hi
     rw [Int.toNat_natCast] at k0 k1 k2 k3 k4
     obtain ⟨b,hb⟩ : ∃ b,b = rd_T45 h.fr (i : Int):=⟨_,rfl⟩
     rw [← hb] at k0 k1 k2 k3 k4 l8 g8
     have HBE:=Lib.hid hb
     have L8:=Lib.hid l8
     have G8:=Lib.hid g8
     have HD8 : Hid (b.f4.length ≤ 10000000):=Lib.hid (by rw [hb];exact SM.out.d3 _ (List.mem_of_getElem? (getD_at h.fr i z45 HLT.out)))
     clear hb l8 g8
     go_upto_region 17 with (first | ((with_reducible refine gate_dst (N:=7) rfl ?_);refine box_event ?hg (N:=7) ?hd (cs := #[.bool false, .int .u32 0, .bool false, .int .i64 0, .slice none 0 0]) (t:=45) ?hr ?_;(case hd => rfl);(case hg => rfl);(case hr => first | (go_simp;done) | (go_simp;rfl));intro gb hgb wb hbox hbb;have HGB:=Lib.hid hgb;have HBX:=Lib.hid hbox;have HBB:=Lib.hid hbb;clear hgb hbox hbb) | ((with_reducible refine gate_store (t:=45) (p:=7) rfl ?_);refine store_box rfl rfl rfl (g:=gb) (j:=0) (cs := #[.bool false, .int .u32 0, .bool false, .int .i64 0, .slice none 0 0]) (cs' := #[.bool b.f0, .int .u32 b.f1, .bool b.f2, .int .i64 b.f3, .slice A8 b.f4.length c8]) (T:=45) (seg := [.bool b.f0, .int .u32 b.f1, .bool b.f2, .int .i64 b.f3, .slice A8 b.f4.length c8]) rfl rfl HBX.out rfl (by kernel_rfl) rfl rfl rfl ?_;intro wc hbx hT;have HBC:=Lib.hid hbx;have HTC : Hid (Below wr.heap.size wr wc):=Lib.hid (hT.below HBB.out HBB.out.size (fun k hk => by rw [hk,HGB.out];omega));clear hbx hT))
     clear k0 k1 k2 k3 k4 HBX HBB
     obtain ⟨o,HR⟩:=HSR.out.rows
     have HRo:=Lib.hid HR
     clear HR
     obtain ⟨Aq',cq',rfl⟩:=Kd.S_slice HRo.out.q
     obtain ⟨we,hwe⟩ : ∃ we,we = wc.drew:=⟨_,rfl⟩
     have HTE : Hid (Below wr.heap.size wr we):=by rw [hwe];exact Lib.hid (below_drew HTC.out)
     have HBE2 : Hid (we.heap[gb]? = some (.cells ⟨[.bool b.f0, .int .u32 b.f1, .bool b.f2, .int .i64 b.f3, .slice A8 b.f4.length c8]⟩ 45 (0,0))):=by rw [hwe];exact Lib.hid (blk_drew HBC.out)
     have HSE:=Lib.hid (HSR.out.below HTE.out)
     clear HBC HTC
     refine start_ (n:=6) (S:=fun w' : World => w'.heap[p]? = some (.cells (sideP { h with fr:=qt,ev := [] } m h.cf h.ce (.slice A7 h.fs.length c7) vb (.slice Aq' qt.length cq') (.slice none 0 0)) 128 (0,0)) ∧ w'.heap[gb]? = some (.cells ⟨[.bool b.f0, .int .u32 b.f1, .bool b.f2, .int .i64 b.f3, .slice A8 b.f4.length c8]⟩ 45 (0,0))) (ds := [5]) #[false,false,false,false,false,false] (by kernel_rfl) rfl rfl (hwe ▸ ⟨HSE.out.blk,HBE2.out⟩) (fun hHeld => ?_)
     rw [← hwe] at hHeld ⊢
     clear hwe
     refine pure_ (i:=0) (N:=some 93) (v := ?_) (a' := ?_) #[true,false,false,false,false,false] rfl rfl (by kernel_rfl) (fun _ _ _ h => h) (Or.inl ⟨by rfl, ?_⟩) ?_ ?_
     rotate_left
     ·intro w'
      go_simp
      with_reducible rfl
     rotate_left
     ·simp only [Act.put,List.setIfInBounds_toArray,List.set_cons_zero,List.set_cons_succ,i64_w,i32_w]
      rfl
     refine pure_ (i:=1) (N:=some 94) (v := ?_) (a' := ?_) #[true,true,false,false,false,false] rfl rfl (by kernel_rfl) (fun _ _ _ h => h) (Or.inl ⟨by rfl, ?_⟩) ?_ ?_
     rotate_left
     ·intro w'
      go_simp
      with_reducible rfl
     rotate_left
     ·simp only [Act.put,List.setIfInBounds_toArray,List.set_cons_zero,List.set_cons_succ,i64_w,i32_w]
      rfl
     refine pure_ (i:=2) (N:=some 95) (v := ?_) (a' := ?_) #[true,true,true,false,false,false] rfl rfl (by kernel_rfl) (fun _ _ _ h => h) (Or.inl ⟨by rfl, ?_⟩) ?_ ?_
     rotate_left
     ·intro w'
      go_simp
      with_reducible rfl
     rotate_left
     ·simp only [Act.put,List.setIfInBounds_toArray,List.set_cons_zero,List.set_cons_succ,i64_w,i32_w]
      rfl
     refine take_ (i:=3) (N:=some 96) (v := ?_) (a' := ?_) #[true,true,true,true,false,false] rfl rfl (by kernel_rfl) (fun _ _ _ h => h) (Or.inl ⟨by rfl, ?_⟩) hHeld ?_ ?_
     rotate_left
     ·rintro w' ⟨s0,s1⟩
      have e0 : w'.cell? ⟨gb,0,none⟩ = some (.bool b.f0):=blk_cell s1 0
      have e1 : w'.cell? ⟨gb,1,none⟩ = some (.int .u32 b.f1):=blk_cell s1 1
      have e2 : w'.cell? ⟨gb,2,none⟩ = some (.bool b.f2):=blk_cell s1 2
      have e3 : w'.cell? ⟨gb,3,none⟩ = some (.int .i64 b.f3):=blk_cell s1 3
      have e4 : w'.cell? ⟨gb,4,none⟩ = some (.slice A8 b.f4.length c8):=blk_cell s1 4
      go_simp
      with_reducible rfl
     rotate_left
     ·simp only [Act.put,List.setIfInBounds_toArray,List.set_cons_zero,List.set_cons_succ,i64_w,i32_w]
      rfl
     refine one_ (i:=4) (N:=some 97) #[true,true,true,true,true,false] rfl rfl (by kernel_rfl) (by decide) (fun K hK => ?_)
     refine goes_ Try.func111 (by kernel_rfl) rfl #[.agg #[.bool b.f0, .int .u32 b.f1, .bool b.f2, .int .i64 b.f3, .slice A8 b.f4.length c8]] (by rfl) rfl rfl (by (try simp only [List.map_toArray,List.map_cons,List.map_nil]);first | done | rfl) ?_
     refine (copyFrame_v b A8 c8 we (Kd.C_below G8.out HTE.out) L8.out HD8.out).mono ?_
     rintro e wf ⟨A9,c9,rfl,hr9,hb9⟩
     refine ⟨_,rfl, ?_⟩
     have HR9:=Lib.hid hr9
     have HTF:=Lib.hid (below_then HTE.out HTE.out.size hb9)
     have HBF:=Lib.hid (blk_below HBE2.out hb9)
     clear hr9 hb9
     have HSF:=Lib.hid (HSR.out.below HTF.out)
     refine hK.out _ _ ⟨HSF.out.blk,HBF.out⟩ (fun hHeld => ?_)
     clear hK K
     refine norm_ (a' := ?_) ?_ ?_
     rotate_left
     ·show Act.put _ (some 97) _ = _
      simp only [Act.put,List.setIfInBounds_toArray,List.set_cons_zero,List.set_cons_succ,i64_w,i32_w]
      rfl
     refine last_ (i:=5) (N:=some 98) #[true,true,true,true,true,true] rfl rfl (by kernel_rfl) (by decide) (fun K hK => ?_)
     refine goes_ Try.func139 (by kernel_rfl) rfl #[.pointer (some ⟨p,7,none⟩), .agg #[.bool b.f0, .int .u32 b.f1, .bool b.f2, .int .i64 b.f3, .slice A9 b.f4.length c9]] (by rfl) rfl rfl (by (try simp only [List.map_toArray,List.map_cons,List.map_nil]);first | done | rfl) ?_
     refine (pushQ_v w0 wf p 7 (sideP { h with fr:=qt,ev := [] } m h.cf h.ce (.slice A7 h.fs.length c7) vb (.slice Aq' qt.length cq') (.slice none 0 0)) 128 h.cf (.slice Aq' qt.length cq') qt b [.bool b.f0, .int .u32 b.f1, .bool b.f2, .int .i64 b.f3, .slice A9 b.f4.length c9] (fun k => o k = 2 ∧ k < wr.heap.size) (fun k => wr.heap.size ≤ k) HSF.out.bel HSF.out.blk HSF.out.hp ⟨by decide,by decide⟩ rfl rfl CF.out ?hln (Kd.S_mono (Kd.S_below (S_lt_own HRo.out.q) HTF.out) (fun k hk => ⟨hk.1.2,hk.2⟩)) (k45_mkM wf w0.heap.size _ b (Kd.R_lower (Kd.R_mono HR9.out (fun k hk => Nat.le_trans HTE.out.size hk)) (Nat.le_trans HSR.out.bel.size HTE.out.size))) (fun k h1 h2 => by have:=h2.2;omega)).mono ?_
     (case hln => have h1:=congrArg List.length HQT.out;rw [List.length_take] at h1;have h2:=SM.out.l3;omega)
     rintro e w3 ⟨h1,_⟩
     obtain ⟨rfl,v3,hx3,hS3,hT3⟩:=h1 (by have h1:=congrArg List.length HQT.out;rw [List.length_take] at h1;have h2:=HLT.out;have h3:=HLQ.out;omega)
     refine ⟨_,rfl, ?_⟩
     have HS3:=Lib.hid (HSR.out.newQ (x' := { h with fr:=qt ++ [b],ev := [] }) HRo.out HTF.out hT3 hx3 rfl (Kd.S_mono hS3 (fun k hk => by rcases hk with hk | hk | hk;exact .inl hk;exact .inr hk;exact .inr (Nat.le_trans HTF.out.size hk))))
     have HX3:=Lib.hid (hT3.blk (blk_below HXR.out HTF.out) (by rintro (e | e);exact HGP.out e.symm;exact Kd.S_ne HRo.out.q HXR.out (by decide) e))
     clear h1 hx3 hS3 hT3
     refine hK.out _ _ ?_
     clear hK K
     refine done_ (by kernel_rfl) ?_
     clear HBE2 HSE HBF HSF HR9 HTF HTE
     obtain ⟨bk,hbk⟩ : ∃ bk,bk = qt ++ [b]:=⟨_,rfl⟩
     rw [← hbk] at HS3
     have HBK : Hid (bk = h.fr.take (i + 1)):=Lib.hid (by rw [hbk,HQT.out,HBE.out,List.take_add_one,getD_at h.fr i z45 HLT.out];rfl)
     clear hbk
     go_wp2_with (fail)
     go_roundw
     case rel => exact ⟨i + 1,_,bk,HLT.out,by rw [HN.out];rfl,⟨HBK.out⟩,⟨HS3.out⟩,⟨HX3.out⟩⟩
     case measure => rw [HN.out];have:=HLT.out;simp [intOf];omega
    ·have hii : i = h.fr.length:=by omega
     have HQTT : Hid (qt = h.fr):=Lib.hid (by rw [HQT.out,hii,List.take_length])
     have b2 : decide ((i : Int) < (h.fr.length : Int)) = false:=decide_eq_false (by omega)
     have qn : (i < h.fr.length) = False:=eq_false hlt
     have HSq : Hid (SideP w0 wr p m { h with ev := [] } h.cf h.ce (.slice A7 h.fs.length c7) vb vq (.slice none 0 0) (tagUp h.bs h.bs.length).1 (tagUp h.bs h.bs.length).2):=Lib.hid (by have e:=HSR.out;rw [HQTT.out] at e;exact e)
     have hg7 : wr.cell? ⟨g,7,none⟩ = some (.slice Ae h.ev.length ce):=(blk_cell HXR.out 7).trans HC7.out
     clear hlt hi HSR hii
     go_wp2_with (fail)
     clear hg7
     go_loopw [103] (fun v103 wr => ∃ (i : Nat) (ve : Value) (et : List S56),i ≤ h.ev.length ∧ v103 = .int .i64 i ∧ Aside0 (et = h.ev.take i) ∧ Aside0 (SideP w0 wr p m { h with ev:=et } h.cf h.ce (.slice A7 h.fs.length c7) vb vq ve (tagUp h.bs h.bs.length).1 (tagUp h.bs h.bs.length).2) ∧ Aside0 (wr.heap[g]? = some (.cells hc 32 (0,0)))) (fun v103 _ => h.ev.length - (intOf v103).toNat)
     case atStart => exact ⟨0,_, [],Nat.zero_le _,rfl,⟨rfl⟩,⟨HSq.out⟩,⟨HXR.out⟩⟩
     case round =>
      clear HSq HXR HQT HQTT b2 qn
      obtain ⟨i,ve,et,hi,rfl,HET,HSR,HXR⟩:=hrel
      by_cases hlt : i < h.ev.length
      ·have b2 : decide ((i : Int) < (h.ev.length : Int)) = true:=decide_eq_true (by omega)
       have p5 : (0 ≤ (i : Int)) = True:=eq_true (by omega)
       have q5 : ((i : Int) < (h.ev.length : Int)) = True:=eq_true (by omega)
       have qn : (i < h.ev.length) = True:=eq_true hlt
       have hn : wrap64 ((i : Int) + 1) = (i : Int) + 1:=by have:=SM.out.l4;unfold wrap64;omega
       have HLT:=Lib.hid hlt
       have HI:=Lib.hid hi
       have HN:=Lib.hid hn
       obtain ⟨ad,A8,c8,ea,k0,k1,k2,k3,k4,k5,k6,k7,l8,g8⟩:=at_T56 (Kd.C_below RE.out HSR.out.bel) (i : Int) (by omega) (by omega)
       subst ea
       clear hlt hi
       rw [Int.toNat_natCast] at k0 k1 k2 k3 k4 k5 k6 k7
       obtain ⟨b,hb⟩ : ∃ b,b = rd_T56 h.ev (i : Int):=⟨_,rfl⟩
       rw [← hb] at k0 k1 k2 k3 k4 k5 k6 k7 l8 g8
       have HBE:=Lib.hid hb
       have L8:=Lib.hid l8
       have G8:=Lib.hid g8
       have HD8 : Hid (b.f3.f4.length ≤ 10000000):=Lib.hid (by rw [hb];exact SM.out.d4 _ (List.mem_of_getElem? (getD_at h.ev i z56 HLT.out)))
       clear hb l8 g8
       go_upto_region 22 with (first | ((with_reducible refine gate_dst (N:=9) rfl ?_);refine box_event ?hg (N:=9) ?hd (cs := #[.int .i64 0, .int .i64 0, .int .i64 0, .bool false, .int .u32 0, .bool false, .int .i64 0, .slice none 0 0]) (t:=56) ?hr ?_;(case hd => rfl);(case hg => rfl);(case hr => first | (go_simp;done) | (go_simp;rfl));intro gb hgb wb hbox hbb;have HGB:=Lib.hid hgb;have HBX:=Lib.hid hbox;have HBB:=Lib.hid hbb;clear hgb hbox hbb) | ((with_reducible refine gate_store (t:=56) (p:=9) rfl ?_);refine store_box rfl rfl rfl (g:=gb) (j:=0) (cs := #[.int .i64 0, .int .i64 0, .int .i64 0, .bool false, .int .u32 0, .bool false, .int .i64 0, .slice none 0 0]) (cs' := #[.int .i64 b.f0, .int .i64 b.f1, .int .i64 b.f2, .bool b.f3.f0, .int .u32 b.f3.f1, .bool b.f3.f2, .int .i64 b.f3.f3, .slice A8 b.f3.f4.length c8]) (T:=56) (seg := [.int .i64 b.f0, .int .i64 b.f1, .int .i64 b.f2, .bool b.f3.f0, .int .u32 b.f3.f1, .bool b.f3.f2, .int .i64 b.f3.f3, .slice A8 b.f3.f4.length c8]) rfl rfl HBX.out rfl (by kernel_rfl) rfl rfl rfl ?_;intro wc hbx hT;have HBC:=Lib.hid hbx;have HTC : Hid (Below wr.heap.size wr wc):=Lib.hid (hT.below HBB.out HBB.out.size (fun k hk => by rw [hk,HGB.out];omega));clear hbx hT))
       clear k0 k1 k2 k3 k4 k5 k6 k7 HBX HBB
       have y3 : wc.cell? ⟨gb,3,none⟩ = some (.bool b.f3.f0):=blk_cell HBC.out 3
       have y4 : wc.cell? ⟨gb,4,none⟩ = some (.int .u32 b.f3.f1):=blk_cell HBC.out 4
       have y5 : wc.cell? ⟨gb,5,none⟩ = some (.bool b.f3.f2):=blk_cell HBC.out 5
       have y6 : wc.cell? ⟨gb,6,none⟩ = some (.int .i64 b.f3.f3):=blk_cell HBC.out 6
       have y7 : wc.cell? ⟨gb,7,none⟩ = some (.slice A8 b.f3.f4.length c8):=blk_cell HBC.out 7
       go_upto_region 23 with (first | (go_at_call 111;refine (copyFrame_v b.f3 A8 c8 wc (Kd.C_below G8.out HTC.out) L8.out HD8.out).mono ?_;rintro e wf ⟨A9,c9,rfl,hr9,hb9⟩;have HR9:=Lib.hid hr9;have HTF:=Lib.hid (below_then HTC.out HTC.out.size hb9);have HBF:=Lib.hid (blk_below HBC.out hb9);clear hr9 hb9) | ((with_reducible refine gate_store (t:=45) (p:=110) rfl ?_);refine store_box rfl rfl rfl (g:=gb) (j:=3) (cs := #[.int .i64 b.f0, .int .i64 b.f1, .int .i64 b.f2, .bool b.f3.f0, .int .u32 b.f3.f1, .bool b.f3.f2, .int .i64 b.f3.f3, .slice A8 b.f3.f4.length c8]) (cs' := #[.int .i64 b.f0, .int .i64 b.f1, .int .i64 b.f2, .bool b.f3.f0, .int .u32 b.f3.f1, .bool b.f3.f2, .int .i64 b.f3.f3, .slice A9 b.f3.f4.length c9]) (T:=56) (seg := [.bool b.f3.f0, .int .u32 b.f3.f1, .bool b.f3.f2, .int .i64 b.f3.f3, .slice A9 b.f3.f4.length c9]) rfl rfl HBF.out rfl (by kernel_rfl) rfl rfl rfl ?_;intro wg hbx hT;have HBG:=Lib.hid hbx;have HTG : Hid (Below wr.heap.size wr wg):=Lib.hid (hT.below HTF.out HTF.out.size (fun k hk => by rw [hk,HGB.out];omega));have HR10:=Lib.hid (R_tch HR9.out HBF.out (by decide) hT);clear hbx hT))
       clear y3 y4 y5 y6 y7 HR9 HBF HTF HBC
       have HMX : Hid ((k56).M wg w0.heap.size (fun k => wr.heap.size ≤ k) b [.int .i64 b.f0, .int .i64 b.f1, .int .i64 b.f2, .bool b.f3.f0, .int .u32 b.f3.f1, .bool b.f3.f2, .int .i64 b.f3.f3, .slice A9 b.f3.f4.length c9]):=Lib.hid (k56_mkM wg w0.heap.size _ b (Kd.R_lower (Kd.R_mono HR10.out (fun k hk => Nat.le_trans HTC.out.size hk)) (Nat.le_trans HSR.out.bel.size HTC.out.size)))
       clear HR10
       obtain ⟨o,HR⟩:=HSR.out.rows
       have HRo:=Lib.hid HR
       clear HR
       obtain ⟨Ae',ce',rfl⟩:=Kd.S_slice HRo.out.e
       obtain ⟨wf,hwe⟩ : ∃ we,we = wg.drew:=⟨_,rfl⟩
       have HTF : Hid (Below wr.heap.size wr wf):=by rw [hwe];exact Lib.hid (below_drew HTG.out)
       have HBE2 : Hid (wf.heap[gb]? = some (.cells ⟨[.int .i64 b.f0, .int .i64 b.f1, .int .i64 b.f2, .bool b.f3.f0, .int .u32 b.f3.f1, .bool b.f3.f2, .int .i64 b.f3.f3, .slice A9 b.f3.f4.length c9]⟩ 56 (0,0))):=by rw [hwe];exact Lib.hid (blk_drew HBG.out)
       have HME:=Lib.hid (Kd.M_below HMX.out (below_drew (Below.refl wg.heap.size wg)))
       rw [← hwe] at HME
       have HSF:=Lib.hid (HSR.out.below HTF.out)
       clear HBG HMX HTG
       refine start_ (n:=5) (S:=fun w' : World => w'.heap[p]? = some (.cells (sideP { h with ev:=et } m h.cf h.ce (.slice A7 h.fs.length c7) vb vq (.slice Ae' et.length ce')) 128 (0,0)) ∧ w'.heap[gb]? = some (.cells ⟨[.int .i64 b.f0, .int .i64 b.f1, .int .i64 b.f2, .bool b.f3.f0, .int .u32 b.f3.f1, .bool b.f3.f2, .int .i64 b.f3.f3, .slice A9 b.f3.f4.length c9]⟩ 56 (0,0))) (ds := [4]) #[false,false,false,false,false] (by kernel_rfl) rfl rfl (hwe ▸ ⟨HSF.out.blk,HBE2.out⟩) (fun hHeld => ?_)
       rw [← hwe] at hHeld ⊢
       clear hwe
       refine pure_ (i:=0) (N:=some 111) (v := ?_) (a' := ?_) #[true,false,false,false,false] rfl rfl (by kernel_rfl) (fun _ _ _ h => h) (Or.inl ⟨by rfl, ?_⟩) ?_ ?_
       rotate_left
       ·intro w'
        go_simp
        with_reducible rfl
       rotate_left
       ·simp only [Act.put,List.setIfInBounds_toArray,List.set_cons_zero,List.set_cons_succ,i64_w,i32_w]
        rfl
       refine pure_ (i:=1) (N:=some 112) (v := ?_) (a' := ?_) #[true,true,false,false,false] rfl rfl (by kernel_rfl) (fun _ _ _ h => h) (Or.inl ⟨by rfl, ?_⟩) ?_ ?_
       rotate_left
       ·intro w'
        go_simp
        with_reducible rfl
       rotate_left
       ·simp only [Act.put,List.setIfInBounds_toArray,List.set_cons_zero,List.set_cons_succ,i64_w,i32_w]
        rfl
       refine pure_ (i:=2) (N:=some 113) (v := ?_) (a' := ?_) #[true,true,true,false,false] rfl rfl (by kernel_rfl) (fun _ _ _ h => h) (Or.inl ⟨by rfl, ?_⟩) ?_ ?_
       rotate_left
       ·intro w'
        go_simp
        with_reducible rfl
       rotate_left
       ·simp only [Act.put,List.setIfInBounds_toArray,List.set_cons_zero,List.set_cons_succ,i64_w,i32_w]
        rfl
       refine take_ (i:=3) (N:=some 114) (v := ?_) (a' := ?_) #[true,true,true,true,false] rfl rfl (by kernel_rfl) (fun _ _ _ h => h) (Or.inl ⟨by rfl, ?_⟩) hHeld ?_ ?_
       rotate_left
       ·rintro w' ⟨s0,s1⟩
        have e0 : w'.cell? ⟨gb,0,none⟩ = some (.int .i64 b.f0):=blk_cell s1 0
        have e1 : w'.cell? ⟨gb,1,none⟩ = some (.int .i64 b.f1):=blk_cell s1 1
        have e2 : w'.cell? ⟨gb,2,none⟩ = some (.int .i64 b.f2):=blk_cell s1 2
        have e3 : w'.cell? ⟨gb,3,none⟩ = some (.bool b.f3.f0):=blk_cell s1 3
        have e4 : w'.cell? ⟨gb,4,none⟩ = some (.int .u32 b.f3.f1):=blk_cell s1 4
        have e5 : w'.cell? ⟨gb,5,none⟩ = some (.bool b.f3.f2):=blk_cell s1 5
        have e6 : w'.cell? ⟨gb,6,none⟩ = some (.int .i64 b.f3.f3):=blk_cell s1 6
        have e7 : w'.cell? ⟨gb,7,none⟩ = some (.slice A9 b.f3.f4.length c9):=blk_cell s1 7
        go_simp
        with_reducible rfl
       rotate_left
       ·simp only [Act.put,List.setIfInBounds_toArray,List.set_cons_zero,List.set_cons_succ,i64_w,i32_w]
        rfl
       refine last_ (i:=4) (N:=some 115) #[true,true,true,true,true] rfl rfl (by kernel_rfl) (by decide) (fun K hK => ?_)
       refine goes_ Try.func140 (by kernel_rfl) rfl #[.pointer (some ⟨p,9,none⟩), .agg #[.int .i64 b.f0, .int .i64 b.f1, .int .i64 b.f2, .bool b.f3.f0, .int .u32 b.f3.f1, .bool b.f3.f2, .int .i64 b.f3.f3, .slice A9 b.f3.f4.length c9]] (by rfl) rfl rfl (by (try simp only [List.map_toArray,List.map_cons,List.map_nil]);first | done | rfl) ?_
       refine (pushE_v w0 wf p 9 (sideP { h with ev:=et } m h.cf h.ce (.slice A7 h.fs.length c7) vb vq (.slice Ae' et.length ce')) 128 h.ce (.slice Ae' et.length ce') et b [.int .i64 b.f0, .int .i64 b.f1, .int .i64 b.f2, .bool b.f3.f0, .int .u32 b.f3.f1, .bool b.f3.f2, .int .i64 b.f3.f3, .slice A9 b.f3.f4.length c9] (fun k => o k = 3 ∧ k < wr.heap.size) (fun k => wr.heap.size ≤ k) HSF.out.bel HSF.out.blk HSF.out.hp ⟨by decide,by decide⟩ rfl rfl CE.out ?hln (Kd.S_mono (Kd.S_below (S_lt_own HRo.out.e) HTF.out) (fun k hk => ⟨hk.1.2,hk.2⟩)) HME.out (fun k h1 h2 => by have:=h2.2;omega)).mono ?_
       (case hln => have h1:=congrArg List.length HET.out;rw [List.length_take] at h1;have h2:=SM.out.l4;omega)
       rintro e w3 ⟨h1,_⟩
       obtain ⟨rfl,v3,hx3,hS3,hT3⟩:=h1 (by have h1:=congrArg List.length HET.out;rw [List.length_take] at h1;have h2:=HLT.out;have h3:=HLE.out;omega)
       refine ⟨_,rfl, ?_⟩
       have HS3:=Lib.hid (HSR.out.newE (x' := { h with ev:=et ++ [b] }) HRo.out HTF.out hT3 hx3 rfl (Kd.S_mono hS3 (fun k hk => by rcases hk with hk | hk | hk;exact .inl hk;exact .inr hk;exact .inr (Nat.le_trans HTF.out.size hk))))
       have HX3:=Lib.hid (hT3.blk (blk_below HXR.out HTF.out) (by rintro (e | e);exact HGP.out e.symm;exact Kd.S_ne HRo.out.e HXR.out (by decide) e))
       clear h1 hx3 hS3 hT3
       refine hK.out _ _ ?_
       clear hK K
       refine done_ (by kernel_rfl) ?_
       clear HBE2 HSF HME HTF
       obtain ⟨bk,hbk⟩ : ∃ bk,bk = et ++ [b]:=⟨_,rfl⟩
       rw [← hbk] at HS3
       have HBK : Hid (bk = h.ev.take (i + 1)):=Lib.hid (by rw [hbk,HET.out,HBE.out,List.take_add_one,getD_at h.ev i z56 HLT.out];rfl)
       clear hbk
       go_wp2_with (fail)
       go_roundw
       case rel => exact ⟨i + 1,_,bk,HLT.out,by rw [HN.out];rfl,⟨HBK.out⟩,⟨HS3.out⟩,⟨HX3.out⟩⟩
       case measure => rw [HN.out];have:=HLT.out;simp [intOf];omega
      ·have hii : i = h.ev.length:=by omega
       have HETT : Hid (et = h.ev):=Lib.hid (by rw [HET.out,hii,List.take_length])
       have b2 : decide ((i : Int) < (h.ev.length : Int)) = false:=decide_eq_false (by omega)
       have qn : (i < h.ev.length) = False:=eq_false hlt
       have HSq : Hid (SideP w0 wr p m h h.cf h.ce (.slice A7 h.fs.length c7) vb vq ve (tagUp h.bs h.bs.length).1 (tagUp h.bs h.bs.length).2):=Lib.hid (by have e:=HSR.out;rw [HETT.out] at e;exact e)
       clear hlt hi HSR hii
       go_wp2_with (fail)
       go_end0
       exact ⟨rfl,_,_,_,_,HSq.out⟩
structure HFits (h : HV) : Prop where
 small : HSmall h
 cf : 0 ≤ h.cf ∧ h.cf ≤ 100000
 ce : 0 ≤ h.ce ∧ h.ce ≤ 100000
 lq : (h.fr.length : Int) ≤ h.cf
 le : (h.ev.length : Int) ≤ h.ce
theorem HRead.len {w : World} {h : HV} {C : List Value} (H : HRead w h C) : C.length = 10:=by
 obtain ⟨Af,cf,Ab,cb,Aq,cq,Ae,ce,rfl,_⟩:=H
 rfl
set_option maxRecDepth 100000 in
set_option maxHeartbeats 2000000 in
theorem open_v (w : World) (h : HV) (C : List Value) (hR : HRead w h C) (hF : HFits h) :
  Calls Try.prog 63 #[.agg ⟨C⟩] w fun e w' => ∃ p m vf vb vq ve,e = .returned (.pointer (some ⟨p,0,none⟩)) ∧ SideP w w' p m h h.cf h.ce vf vb vq ve (tagUp h.bs h.bs.length).1 (tagUp h.bs h.bs.length).2:=by
 have HI : Hid ((Try.prog.info? 32).map (·.size) = some C.length):=Lib.hid (by rw [hR.len];kernel_rfl)
 have hu:=Lib.hid Try.underlying32
 have HR:=Lib.hid hR
 have HF:=Lib.hid hF
 clear hR hF
 go_enter Try.func63,Try.ntmps63
 go_upto_region 2 with (first | ((with_reducible refine gate_dst (N:=1) rfl ?_);refine box_event ?hg (N:=1) ?hd (cs:=⟨C⟩) (t:=32) ?hr ?_;(case hd => rfl);(case hg => rfl);(case hr => first | (go_simp;done) | (go_simp;rfl));intro g hg w1 hbox hb;have HX1:=Lib.hid hbox;have HB1:=Lib.hid hb;clear hg hbox hb) | ((with_reducible refine gate_dst (N:=4) rfl ?_);refine map_event rfl ?hr ?_;(case hr => first | (go_simp;done) | (go_simp;rfl));intro m hm w2 hmap hb;have HM2:=Lib.hid hmap;have HME : Hid (w.heap.size ≤ m):=Lib.hid (by rw [hm];exact HB1.out.size);have HX2:=Lib.hid (blk_below HX1.out hb);have HB2:=Lib.hid (below_then HB1.out HB1.out.size hb);clear hm hmap hb) | ((with_reducible refine gate_dst (N:=6) rfl ?_);refine box_event ?hg (N:=6) ?hd (cs:=sideP hv0 m 0 0 (.slice none 0 0) (.slice none 0 0) (.slice none 0 0) (.slice none 0 0)) (t:=128) ?hr ?_;(case hd => rfl);(case hg => rfl);(case hr => first | (go_simp;done) | (go_simp;rfl));intro p hp w3 hbox hb;have HP3:=Lib.hid hbox;have HPE : Hid (w.heap.size ≤ p):=Lib.hid (by rw [hp];exact HB2.out.size);have HX3:=Lib.hid (blk_below HX2.out hb);have HB3:=Lib.hid (below_then HB2.out HB2.out.size hb);have HM3:=Lib.hid (blk_below HM2.out hb);clear hp hbox hb))
 go_wp2_with (first | ((with_reducible refine gate_dst (N:=8) rfl ?_);refine load_all rfl rfl (g:=g) rfl HX3.out hu.out HI.out ?_) | (go_at_call 110;refine (set_v w w3 p m h C HB3.out HP3.out HM3.out HPE.out HME.out HR.out HF.out.small HF.out.cf HF.out.ce HF.out.lq HF.out.le).mono ?_;rintro e w4 ⟨rfl,vf,vb,vq,ve,hS⟩;have HS:=Lib.hid hS;clear hS))
 go_ret
 exact ⟨p,m,_,_,_,_,rfl,HS.out⟩
end Go.Proofs.Ytcaefabbcjlkdaa.P
namespace Go.Proofs.Ytcaefabbcjlkdaa.P
open Go.RowKit Go.Proofs.YtcaefabbcjlkdaaW.PrintWords Go.Proofs.YtcaefabbcjlkdaaW.PrintLast Go.Proofs.YtcaefabbcjlkdaaW.PrintMore
set_option linter.unusedVariables false
set_option linter.unusedSimpArgs false
def laws_toConfig.f (a0_0 : Int) (a0_1 : Int) (a0_2 : Int) (a0_3 : Int) : Option (Int × Int × Int × Int):=some (a0_0,a0_1,a0_2,a0_3)
set_option maxHeartbeats 8000000 in
set_option maxRecDepth 100000 in
theorem laws_toConfig.calls (a0_0 : Int) (a0_1 : Int) (a0_2 : Int) (a0_3 : Int) (r1 : Int) (r2 : Int) (r3 : Int) (r4 : Int) (w : World) (h : laws_toConfig.f a0_0 a0_1 a0_2 a0_3 = some (r1,r2,r3,r4)) :
  Calls Try.prog 16 #[.agg #[.int .i64 a0_0, .int .i64 a0_1, .int .i64 a0_2, .int .i64 a0_3]] w fun e w' => e = .returned (.agg #[.int .i64 r1, .int .i64 r2, .int .i64 r3, .int .i64 r4]) ∧ Below w.heap.size w w':=by
 have hu23:=Try.underlying23
 have hu26:=Try.underlying26
 have HB:=Aside0.mk (Below.refl w.heap.size w)
 have H : (some (a0_0,a0_1,a0_2,a0_3)) = some (r1,r2,r3,r4):=h
 clear h
 simp only [Option.some.injEq,Prod.mk.injEq] at H
 obtain ⟨rfl,rfl,rfl,rfl⟩:=H
 go_enter Try.func16,Try.ntmps16
 go_wp2_with (first | ((with_reducible refine gate_dst (N:=1) rfl ?_);refine box_event ?hg (N:=1) ?hd (cs := #[.int .i64 a0_0, .int .i64 a0_1, .int .i64 a0_2, .int .i64 a0_3]) (t:=23) ?hr ?_;(case hd => rfl);(case hg => rfl);(case hr => first | (go_simp;done) | (go_simp;rfl));intro gb675 hg w2 hbox hb;have n0_:=Aside0.mk (below_step (by repeat (first | (with_reducible first | exact HB.out | apply below_alloc | apply pw_below_drewN | apply below_drew1) | exact HB.out)) hb);have n1_:=Aside0.mk (hbox);have n2_:=Aside0.mk ((by rw [hg];exact (below_size (by repeat (first | (with_reducible first | exact HB.out | apply below_alloc | apply pw_below_drewN | apply below_drew1) | exact HB.out))) : w.heap.size ≤ gb675));have n3_:=Aside0.mk ((by rw [hg];exact (below_size (by repeat (first | (with_reducible first | exact HB.out | apply below_alloc | apply pw_below_drewN | apply below_drew1) | exact HB.out))) : w.heap.size ≤ gb675));clear HB;have HB:=n0_;have BK675:=n1_;have GW675:=n2_;have GE675:=n3_;clear n0_ n1_ n2_ n3_;clear hb hbox hg) | ((with_reducible refine gate_dst (N:=2) rfl ?_);refine box_event ?hg (N:=2) ?hd (cs := #[.int .i64 0, .int .i64 0, .int .i64 0, .int .i64 0]) (t:=26) ?hr ?_;(case hd => rfl);(case hg => rfl);(case hr => first | (go_simp;done) | (go_simp;rfl));intro gb676 hg w3 hbox hb;have n0_:=Aside0.mk (blk_below (g:=gb675) (o := .cells #[.int .i64 a0_0, .int .i64 a0_1, .int .i64 a0_2, .int .i64 a0_3] 23 (0,0)) (by (with_reducible repeat (first | refine blk_drewN ?_ _ | refine blk_drew ?_ | refine blk_alloc ?_ _));exact BK675.out) hb);have n1_:=Aside0.mk (below_step (by repeat (first | (with_reducible first | exact HB.out | apply below_alloc | apply pw_below_drewN | apply below_drew1 | refine below_set ?_ GE675.out) | exact HB.out)) hb);have n2_:=Aside0.mk (hbox);have n3_:=Aside0.mk ((by rw [hg];exact (below_size (by repeat (first | (with_reducible first | exact HB.out | apply below_alloc | apply pw_below_drewN | apply below_drew1 | refine below_set ?_ GE675.out) | exact HB.out))) : w.heap.size ≤ gb676));have n4_:=Aside0.mk ((by rw [hg];exact (below_size (by repeat (first | (with_reducible first | exact HB.out | apply below_alloc | apply pw_below_drewN | apply below_drew1 | refine below_set ?_ GE675.out) | exact HB.out))) : w.heap.size ≤ gb676));have n5_:=Aside0.mk ((by rw [hg];exact Nat.ne_of_lt (blk_lt (g:=gb675) (o := .cells #[.int .i64 a0_0, .int .i64 a0_1, .int .i64 a0_2, .int .i64 a0_3] 23 (0,0)) (by (with_reducible repeat (first | refine blk_drewN ?_ _ | refine blk_drew ?_ | refine blk_alloc ?_ _));exact BK675.out)) : gb675 ≠ gb676));have n6_:=Aside0.mk ((by rw [hg];exact Nat.ne_of_gt (blk_lt (g:=gb675) (o := .cells #[.int .i64 a0_0, .int .i64 a0_1, .int .i64 a0_2, .int .i64 a0_3] 23 (0,0)) (by (with_reducible repeat (first | refine blk_drewN ?_ _ | refine blk_drew ?_ | refine blk_alloc ?_ _));exact BK675.out)) : gb676 ≠ gb675));clear BK675;clear HB;have BK675:=n0_;have HB:=n1_;have BK676:=n2_;have GW676:=n3_;have GE676:=n4_;have NB675_676:=n5_;have NB676_675:=n6_;clear n0_ n1_ n2_ n3_ n4_ n5_ n6_;clear hb hbox hg) | ((with_reducible refine gate_dst (N:=3) rfl ?_);refine box_event ?hg (N:=3) ?hd (cs := #[.int .i64 0, .int .i64 0, .int .i64 0, .int .i64 0]) (t:=26) ?hr ?_;(case hd => rfl);(case hg => rfl);(case hr => first | (go_simp;done) | (go_simp;rfl));intro gb677 hg w4 hbox hb;have n0_:=Aside0.mk (blk_below (g:=gb675) (o := .cells #[.int .i64 a0_0, .int .i64 a0_1, .int .i64 a0_2, .int .i64 a0_3] 23 (0,0)) (by (with_reducible repeat (first | refine blk_drewN ?_ _ | refine blk_drew ?_ | refine blk_alloc ?_ _));exact BK675.out) hb);have n1_:=Aside0.mk (blk_below (g:=gb676) (o := .cells #[.int .i64 0, .int .i64 0, .int .i64 0, .int .i64 0] 26 (0,0)) (by (with_reducible repeat (first | refine blk_drewN ?_ _ | refine blk_drew ?_ | refine blk_alloc ?_ _));exact BK676.out) hb);have n2_:=Aside0.mk (below_step (by repeat (first | (with_reducible first | exact HB.out | apply below_alloc | apply pw_below_drewN | apply below_drew1 | refine below_set ?_ GE675.out | refine below_set ?_ GE676.out) | exact HB.out)) hb);have n3_:=Aside0.mk (hbox);have n4_:=Aside0.mk ((by rw [hg];exact (below_size (by repeat (first | (with_reducible first | exact HB.out | apply below_alloc | apply pw_below_drewN | apply below_drew1 | refine below_set ?_ GE675.out | refine below_set ?_ GE676.out) | exact HB.out))) : w.heap.size ≤ gb677));have n5_:=Aside0.mk ((by rw [hg];exact (below_size (by repeat (first | (with_reducible first | exact HB.out | apply below_alloc | apply pw_below_drewN | apply below_drew1 | refine below_set ?_ GE675.out | refine below_set ?_ GE676.out) | exact HB.out))) : w.heap.size ≤ gb677));have n6_:=Aside0.mk ((by rw [hg];exact Nat.ne_of_lt (blk_lt (g:=gb675) (o := .cells #[.int .i64 a0_0, .int .i64 a0_1, .int .i64 a0_2, .int .i64 a0_3] 23 (0,0)) (by (with_reducible repeat (first | refine blk_drewN ?_ _ | refine blk_drew ?_ | refine blk_alloc ?_ _));exact BK675.out)) : gb675 ≠ gb677));have n7_:=Aside0.mk ((by rw [hg];exact Nat.ne_of_gt (blk_lt (g:=gb675) (o := .cells #[.int .i64 a0_0, .int .i64 a0_1, .int .i64 a0_2, .int .i64 a0_3] 23 (0,0)) (by (with_reducible repeat (first | refine blk_drewN ?_ _ | refine blk_drew ?_ | refine blk_alloc ?_ _));exact BK675.out)) : gb677 ≠ gb675));have n8_:=Aside0.mk ((by rw [hg];exact Nat.ne_of_lt (blk_lt (g:=gb676) (o := .cells #[.int .i64 0, .int .i64 0, .int .i64 0, .int .i64 0] 26 (0,0)) (by (with_reducible repeat (first | refine blk_drewN ?_ _ | refine blk_drew ?_ | refine blk_alloc ?_ _));exact BK676.out)) : gb676 ≠ gb677));have n9_:=Aside0.mk ((by rw [hg];exact Nat.ne_of_gt (blk_lt (g:=gb676) (o := .cells #[.int .i64 0, .int .i64 0, .int .i64 0, .int .i64 0] 26 (0,0)) (by (with_reducible repeat (first | refine blk_drewN ?_ _ | refine blk_drew ?_ | refine blk_alloc ?_ _));exact BK676.out)) : gb677 ≠ gb676));clear BK675;clear BK676;clear HB;have BK675:=n0_;have BK676:=n1_;have HB:=n2_;have BK677:=n3_;have GW677:=n4_;have GE677:=n5_;have NB675_677:=n6_;have NB677_675:=n7_;have NB676_677:=n8_;have NB677_676:=n9_;clear n0_ n1_ n2_ n3_ n4_ n5_ n6_ n7_ n8_ n9_;clear hb hbox hg;have hnb5:=NB675_676.out;have hnc5:=NB676_675.out;have hnb6:=NB675_677.out;have hnc6:=NB677_675.out;have hcz7_0 : w4.cell? ⟨gb675,0,none⟩ = some (.int .i64 a0_0):=(blk_cell BK675.out 0).trans rfl;have hcz7_1 : w4.cell? ⟨gb675,1,none⟩ = some (.int .i64 a0_1):=(blk_cell BK675.out 1).trans rfl;have hcz7_2 : w4.cell? ⟨gb675,2,none⟩ = some (.int .i64 a0_2):=(blk_cell BK675.out 2).trans rfl;have hcz7_3 : w4.cell? ⟨gb675,3,none⟩ = some (.int .i64 a0_3):=(blk_cell BK675.out 3).trans rfl;have hfz7_0:=blk_frozen BK675.out 0;have hfz7_1:=blk_frozen BK675.out 1;have hfz7_2:=blk_frozen BK675.out 2;have hfz7_3:=blk_frozen BK675.out 3;have hnb8:=NB677_676.out;have hnc8:=NB676_677.out;have hcz9_0 : w4.cell? ⟨gb677,0,none⟩ = some (.int .i64 0):=(blk_cell BK677.out 0).trans rfl;have hcz9_1 : w4.cell? ⟨gb677,1,none⟩ = some (.int .i64 0):=(blk_cell BK677.out 1).trans rfl;have hcz9_2 : w4.cell? ⟨gb677,2,none⟩ = some (.int .i64 0):=(blk_cell BK677.out 2).trans rfl;have hcz9_3 : w4.cell? ⟨gb677,3,none⟩ = some (.int .i64 0):=(blk_cell BK677.out 3).trans rfl;have hfz9_0:=blk_frozen BK677.out 0;have hfz9_1:=blk_frozen BK677.out 1;have hfz9_2:=blk_frozen BK677.out 2;have hfz9_3:=blk_frozen BK677.out 3;have hcz10_0 : w4.cell? ⟨gb676,0,none⟩ = some (.int .i64 0):=(blk_cell BK676.out 0).trans rfl;have hcz10_1 : w4.cell? ⟨gb676,1,none⟩ = some (.int .i64 0):=(blk_cell BK676.out 1).trans rfl;have hcz10_2 : w4.cell? ⟨gb676,2,none⟩ = some (.int .i64 0):=(blk_cell BK676.out 2).trans rfl;have hcz10_3 : w4.cell? ⟨gb676,3,none⟩ = some (.int .i64 0):=(blk_cell BK676.out 3).trans rfl;have hfz10_0:=blk_frozen BK676.out 0;have hfz10_1:=blk_frozen BK676.out 1;have hfz10_2:=blk_frozen BK676.out 2;have hfz10_3:=blk_frozen BK676.out 3))
 refine bodyPost_ret (results_cell_row rfl _ _ gb676 26 #[.int .i64 a0_0, .int .i64 a0_1, .int .i64 a0_2, .int .i64 a0_3] (0,0) _ rfl (by (with_reducible repeat (first | refine blk_drewN ?_ _ | refine blk_drew ?_ | refine blk_alloc ?_ _));refine blk_put (cs := #[.int .i64 a0_0, .int .i64 a0_1, .int .i64 a0_2, .int .i64 0]) ?_ 3 _ rfl;(with_reducible repeat (first | refine blk_drewN ?_ _ | refine blk_drew ?_ | refine blk_alloc ?_ _));refine blk_put (cs := #[.int .i64 a0_0, .int .i64 a0_1, .int .i64 0, .int .i64 0]) ?_ 2 _ rfl;(with_reducible repeat (first | refine blk_drewN ?_ _ | refine blk_drew ?_ | refine blk_alloc ?_ _));refine blk_put (cs := #[.int .i64 a0_0, .int .i64 0, .int .i64 0, .int .i64 0]) ?_ 1 _ rfl;(with_reducible repeat (first | refine blk_drewN ?_ _ | refine blk_drew ?_ | refine blk_alloc ?_ _));refine blk_put (cs := #[.int .i64 0, .int .i64 0, .int .i64 0, .int .i64 0]) ?_ 0 _ rfl;(with_reducible repeat (first | refine blk_drewN ?_ _ | refine blk_drew ?_ | refine blk_alloc ?_ _));refine blk_far ?_ NB676_677.out _;(with_reducible repeat (first | refine blk_drewN ?_ _ | refine blk_drew ?_ | refine blk_alloc ?_ _));refine blk_far ?_ NB676_677.out _;(with_reducible repeat (first | refine blk_drewN ?_ _ | refine blk_drew ?_ | refine blk_alloc ?_ _));refine blk_far ?_ NB676_677.out _;(with_reducible repeat (first | refine blk_drewN ?_ _ | refine blk_drew ?_ | refine blk_alloc ?_ _));refine blk_far ?_ NB676_677.out _;(with_reducible repeat (first | refine blk_drewN ?_ _ | refine blk_drew ?_ | refine blk_alloc ?_ _));exact BK676.out) Try.underlying26 rfl (by kernel_rfl)) rfl ?_
 exact ⟨by first | rfl | (simp [errW_none,errW_some] <;> rfl) | (simp [*,errW_none,errW_some] <;> rfl),by repeat (first | (with_reducible first | exact HB.out | apply below_alloc | apply pw_below_drewN | apply below_drew1 | refine below_set ?_ GE675.out | refine below_set ?_ GE676.out | refine below_set ?_ GE677.out) | exact HB.out)⟩
end Go.Proofs.Ytcaefabbcjlkdaa.P
namespace Go.Proofs.Ytcaefabbcjlkdaa.P
open Go Go.RowKit Go.Proofs.YtcaefabbcjlkdaaW.PrintWords Go.Proofs.YtcaefabbcjlkdaaW.PrintLast Go.Proofs.YtcaefabbcjlkdaaW.PrintMore
set_option linter.unusedVariables false
set_option linter.unusedSimpArgs false
theorem HostP.put {w0 w we : World} {p : Nat} {x x' : HV} {vf vb vq ve : Value} (H : HostP w0 w p x vf vb vq ve) (hT : Tch w we (fun k => k = p)) (hx : we.heap[p]? = some (.cells ⟨hostC x' vf vb vq ve⟩ 32 (0,0)))
  (hf : x'.fs = x.fs) (hb : x'.bs = x.bs) (hq : x'.fr = x.fr) (he : x'.ev = x.ev) : HostP w0 we p x' vf vb vq ve:=by
 obtain ⟨h1,h2,⟨o,h4⟩,h5⟩:=H
 have h7:=(h4.bound.tch hT (fun k hk => host_other h2 hk.2)).mono (ok':=fun _ => True) (fun _ _ => trivial)
 exact ⟨hT.below h1 h1.size (fun k hk => hk ▸ h5),hx,⟨o,by rw [hf];exact h7.f,by rw [hb];exact h7.b,by rw [hq];exact h7.q,by rw [he];exact h7.e⟩,h5⟩
theorem toFilterS_w (l : List S91) (y : List S89) (hy : y = l.map cFilter) (hl : l.length ≤ 10000000) (w : World) (A : Option Addr) (c : Nat) (hr : (k91).C w A l.length l) (hc : l.length ≤ c) :
  Calls Try.prog 17 #[.slice A l.length c] w fun e w' => ∃ v,e = .returned v ∧ (k89).R 89 w' w.heap.size (fun k => w.heap.size ≤ k) v y ∧ Below w.heap.size w w':=by
 subst hy
 obtain ⟨k,hk⟩:=(toFilterS_ev l hl).rounds
 refine (laws_toFilterS.calls k A c l _ w hr hc hk).mono ?_
 rintro e w' ⟨v,rfl,h,hb⟩
 exact ⟨v,rfl,Kd.R_mono (Kd.R_bound h) (fun k hk => hk.2.1),hb⟩
theorem toBoxS_w (l : List S141) (y : List S87) (hy : y = l.map cBox) (hl : l.length ≤ 10000000) (hd : ∀ y ∈ l,y.f3.f4.length ≤ 10000000) (w : World) (A : Option Addr) (c : Nat) (hr : (k141).C w A l.length l) (hc : l.length ≤ c) :
  Calls Try.prog 88 #[.slice A l.length c] w fun e w' => ∃ v,e = .returned v ∧ Kd.S k87 87 w' w.heap.size (fun k => w.heap.size ≤ k) v y ∧ Below w.heap.size w w':=by
 subst hy
 obtain ⟨k,hk⟩:=(toBoxS_ev l hl hd).rounds
 refine (laws_toBoxS.calls k A c l _ w hr hc hk).mono ?_
 rintro e w' ⟨v,rfl,h,hb⟩
 exact ⟨v,rfl,Kd.S_mono (Kd.S_bound h) (fun k hk => hk.2.1),hb⟩
theorem toFrameS_w (l : List S77) (y : List S45) (hy : y = l.map cFrame) (hl : l.length ≤ 10000000) (hd : ∀ y ∈ l,y.f4.length ≤ 10000000) (w : World) (A : Option Addr) (c : Nat) (hr : (k77).C w A l.length l) (hc : l.length ≤ c) :
  Calls Try.prog 89 #[.slice A l.length c] w fun e w' => ∃ v,e = .returned v ∧ Kd.S k45 45 w' w.heap.size (fun k => w.heap.size ≤ k) v y ∧ Below w.heap.size w w':=by
 subst hy
 obtain ⟨k,hk⟩:=(toFrameS_ev l hl hd).rounds
 refine (laws_toFrameS.calls k A c l _ w hr hc hk).mono ?_
 rintro e w' ⟨v,rfl,h,hb⟩
 exact ⟨v,rfl,Kd.S_mono (Kd.S_bound h) (fun k hk => hk.2.1),hb⟩
theorem toEventS_w (l : List S144) (y : List S56) (hy : y = l.map cEvent) (hl : l.length ≤ 10000000) (hd : ∀ y ∈ l,y.f3.f4.length ≤ 10000000) (w : World) (A : Option Addr) (c : Nat) (hr : (k144).C w A l.length l) (hc : l.length ≤ c) :
  Calls Try.prog 90 #[.slice A l.length c] w fun e w' => ∃ v,e = .returned v ∧ Kd.S k56 56 w' w.heap.size (fun k => w.heap.size ≤ k) v y ∧ Below w.heap.size w w':=by
 subst hy
 obtain ⟨k,hk⟩:=(toEventS_ev l hl hd).rounds
 refine (laws_toEventS.calls k A c l _ w hr hc hk).mono ?_
 rintro e w' ⟨v,rfl,h,hb⟩
 exact ⟨v,rfl,Kd.S_mono (Kd.S_bound h) (fun k hk => hk.2.1),hb⟩
theorem HostP.read {w0 w : World} {p : Nat} {x : HV} {vf vb vq ve : Value} (H : HostP w0 w p x vf vb vq ve) : HRead w x (hostC x vf vb vq ve):=by
 obtain ⟨o,h⟩:=H.rows
 exact h.read
theorem HostP.own2 {w0 w we : World} {p g : Nat} {x : HV} {vf vb vq ve : Value} {cells : Array Value} (H : HostP w0 w p x vf vb vq ve) (hT : Tch w we (fun k => k = g)) (hg : w.heap[g]? = some (.cells cells 32 (0,0))) : HOwn we w0.heap.size (fun _ => True) x (hostC x vf vb vq ve):=by
 obtain ⟨o,h⟩:=H.rows
 exact ⟨vf,vb,vq,ve,o,rfl,(h.bound.tch hT (fun k hk => hk.2.ne hg (by decide))).mono (fun _ _ => trivial)⟩
theorem HRead.one {w : World} {h : HV} {C : List Value} (H : HRead w h C) : ∀ u ∈ C,u.oneCell' = true:=by
 obtain ⟨Af,cf,Ab,cb,Aq,cq,Ae,ce,rfl,_⟩:=H
 intro u hu
 simp only [hostC,List.mem_cons,List.not_mem_nil,or_false] at hu
 rcases hu with rfl | rfl | rfl | rfl | rfl | rfl | rfl | rfl | rfl | rfl <;> rfl
set_option maxRecDepth 100000 in
set_option maxHeartbeats 8000000 in
theorem toHost_v (x : S63) (hF : LFits x) (w : World) (C : List Value) (hK : k63.K w x C) :
  Calls Try.prog 34 #[.agg ⟨C⟩] w fun e w' => ∃ C',e = .returned (.agg ⟨C'⟩) ∧ HOwn w' w.heap.size (fun _ => True) (hvOf x) C' ∧ Below w.heap.size w w':=by
 obtain ⟨A4,c4,A5,c5,A6,c6,A7,c7,rfl,l4,g4,l5,g5,l6,g6,l7,g7⟩:=k63_open hK
 have G4:=Lib.hid g4
 have L4:=Lib.hid l4
 have G5:=Lib.hid g5
 have L5:=Lib.hid l5
 have G6:=Lib.hid g6
 have L6:=Lib.hid l6
 have G7:=Lib.hid g7
 have L7:=Lib.hid l7
 have F:=Lib.hid hF
 have HB_0 : Hid (Below w.heap.size w w):=Lib.hid (Below.refl _ _)
 clear g4 g5 g6 g7 l4 l5 l6 l7 hK hF
 obtain ⟨z1,hz1⟩ : ∃ z,z = x.f1.map cFilter:=⟨_,rfl⟩
 have HZ1:=Lib.hid hz1
 obtain ⟨z2,hz2⟩ : ∃ z,z = x.f2.map cBox:=⟨_,rfl⟩
 have HZ2:=Lib.hid hz2
 obtain ⟨z3,hz3⟩ : ∃ z,z = x.f3.map cFrame:=⟨_,rfl⟩
 have HZ3:=Lib.hid hz3
 obtain ⟨z4,hz4⟩ : ∃ z,z = x.f4.map cEvent:=⟨_,rfl⟩
 have HZ4:=Lib.hid hz4
 have HVX : Hid ((⟨x.f0.f0,x.f0.f1,x.f0.f2,x.f0.f3,z1,z2,z3,z4,x.f5,x.f6⟩ : HV) = hvOf x):=Lib.hid (by rw [hz1,hz2,hz3,hz4];rfl)
 clear hz1 hz2 hz3 hz4
 have hu63:=Lib.hid Try.underlying63
 have hu32:=Lib.hid Try.underlying32
 go_enter Try.func34,Try.ntmps34
 go_upto_region 1 with (first | ((with_reducible refine gate_dst (N:=1) rfl ?_);refine box_event ?hg (N:=1) ?hd (cs:=⟨[.int .i64 x.f0.f0, .int .i64 x.f0.f1, .int .i64 x.f0.f2, .int .i64 x.f0.f3, .slice A4 x.f1.length c4, .slice A5 x.f2.length c5, .slice A6 x.f3.length c6, .slice A7 x.f4.length c7, .int .i64 x.f5, .int .i64 x.f6]⟩) (t:=63) ?hr ?_;(case hd => rfl);(case hg => rfl);(case hr => first | (go_simp;done) | (go_simp;rfl));intro g1 hg w1 hbox hb;have LO_HB_g1 : Hid (w.heap.size ≤ g1):=Lib.hid (by rw [hg];exact HB_0.out.size);have HEg1:=Lib.hid hg;have HB_1:=Lib.hid (below_then HB_0.out HB_0.out.size hb);have Xg1_1:=Lib.hid hbox;clear hg hbox hb) | ((with_reducible refine gate_dst (N:=2) rfl ?_);refine box_event ?hg (N:=2) ?hd (cs:=⟨[.int .i64 0, .int .i64 0, .int .i64 0, .int .i64 0, .slice none 0 0, .slice none 0 0, .slice none 0 0, .slice none 0 0, .int .i64 0, .int .i64 0]⟩) (t:=32) ?hr ?_;(case hd => rfl);(case hg => rfl);(case hr => first | (go_simp;done) | (go_simp;rfl));intro g2 hg w2 hbox hb;have LO_HB_g2 : Hid (w.heap.size ≤ g2):=Lib.hid (by rw [hg];exact HB_1.out.size);have NE_g1_g2 : Hid (g1 ≠ g2):=Lib.hid (fun e => by have h1:=blk_lt Xg1_1.out;omega);have HEg2:=Lib.hid hg;have HB_2:=Lib.hid (below_then HB_1.out HB_1.out.size hb);have Xg1_2:=Lib.hid (blk_below Xg1_1.out hb);have Xg2_2:=Lib.hid hbox;clear hg hbox hb))
 go_upto_region 2 with (first | ((with_reducible refine gate_dst (N:=3) rfl ?_);refine box_event ?hg (N:=3) ?hd (cs:=⟨[.int .i64 0, .int .i64 0, .int .i64 0, .int .i64 0, .slice none 0 0, .slice none 0 0, .slice none 0 0, .slice none 0 0, .int .i64 0, .int .i64 0]⟩) (t:=32) ?hr ?_;(case hd => rfl);(case hg => rfl);(case hr => first | (go_simp;done) | (go_simp;rfl));intro g3 hg w3 hbox hb;have LO_HB_g3 : Hid (w.heap.size ≤ g3):=Lib.hid (by rw [hg];exact HB_2.out.size);have NE_g1_g3 : Hid (g1 ≠ g3):=Lib.hid (fun e => by have h1:=blk_lt Xg1_2.out;omega);have NE_g2_g3 : Hid (g2 ≠ g3):=Lib.hid (fun e => by have h1:=blk_lt Xg2_2.out;omega);have HEg3:=Lib.hid hg;have HB_3:=Lib.hid (below_then HB_2.out HB_2.out.size hb);have Xg1_3:=Lib.hid (blk_below Xg1_2.out hb);have Xg2_3:=Lib.hid (blk_below Xg2_2.out hb);have Xg3_3:=Lib.hid hbox;clear hg hbox hb))
 have HP_3 : Hid (HostP w w3 g3 hv0 (.slice none 0 0) (.slice none 0 0) (.slice none 0 0) (.slice none 0 0)):=Lib.hid ⟨HB_3.out,Xg3_3.out,⟨fun _ => 0,Kd.R_nil _ _ _ _ _,Kd.S_nil _ _ _ _ _,Kd.S_nil _ _ _ _ _,Kd.S_nil _ _ _ _ _⟩,LO_HB_g3.out⟩
 have y0 : w3.cell? ⟨g1,0,none⟩ = some (.int .i64 x.f0.f0):=blk_cell Xg1_3.out 0
 have y1 : w3.cell? ⟨g1,1,none⟩ = some (.int .i64 x.f0.f1):=blk_cell Xg1_3.out 1
 have y2 : w3.cell? ⟨g1,2,none⟩ = some (.int .i64 x.f0.f2):=blk_cell Xg1_3.out 2
 have y3 : w3.cell? ⟨g1,3,none⟩ = some (.int .i64 x.f0.f3):=blk_cell Xg1_3.out 3
 go_upto_region 3 with (first | (go_at_call 16;refine (laws_toConfig.calls x.f0.f0 x.f0.f1 x.f0.f2 x.f0.f3 _ _ _ _ w3 rfl).mono ?_;rintro e w4 ⟨rfl,hb⟩;have HB_4:=Lib.hid (below_then HB_3.out HB_3.out.size hb);have Xg1_4:=Lib.hid (blk_below Xg1_3.out hb);have Xg2_4:=Lib.hid (blk_below Xg2_3.out hb);have HP_4:=Lib.hid (HP_3.out.below hb);clear hb) | ((with_reducible refine gate_store (t:=26) (p:=7) rfl ?_);refine store_box rfl rfl rfl (g:=g3) (j:=0) (cs:=⟨hostC (⟨0,0,0,0, [], [], [], [],0,0⟩ : HV) (.slice none 0 0) (.slice none 0 0) (.slice none 0 0) (.slice none 0 0)⟩) (cs':=⟨hostC (⟨x.f0.f0,x.f0.f1,x.f0.f2,x.f0.f3, [], [], [], [],0,0⟩ : HV) (.slice none 0 0) (.slice none 0 0) (.slice none 0 0) (.slice none 0 0)⟩) (T:=32) (seg := [.int .i64 x.f0.f0, .int .i64 x.f0.f1, .int .i64 x.f0.f2, .int .i64 x.f0.f3]) rfl rfl HP_4.out.blk rfl (by kernel_rfl) rfl rfl rfl ?_;intro w5 hx hT;have Xg1_5:=Lib.hid (hT.blk Xg1_4.out NE_g1_g3.out);have Xg2_5:=Lib.hid (hT.blk Xg2_4.out NE_g2_g3.out);have HB_5:=Lib.hid (hT.below HB_4.out HB_4.out.size (fun k hk => by rw [hk];exact LO_HB_g3.out));have HP_5 : Hid (HostP w w5 g3 (⟨x.f0.f0,x.f0.f1,x.f0.f2,x.f0.f3, [], [], [], [],0,0⟩ : HV) (.slice none 0 0) (.slice none 0 0) (.slice none 0 0) (.slice none 0 0)):=Lib.hid (HP_4.out.put hT hx rfl rfl rfl rfl);clear hx hT))
 clear y0 y1 y2 y3
 have y4 : w5.cell? ⟨g1,4,none⟩ = some (.slice A4 x.f1.length c4):=blk_cell Xg1_5.out 4
 go_upto_region 4 with (first | (go_at_call 17;refine (toFilterS_w x.f1 z1 HZ1.out (Nat.le_trans F.out.l1 (by decide)) w5 A4 c4 (Kd.C_below G4.out HB_5.out) L4.out).mono ?_;rintro e w6 ⟨v4,rfl,hr,hb⟩;have HR4:=Lib.hid hr;have HE4:=Lib.hid hb;clear hr;obtain ⟨A4r,c4r,rfl⟩:=Kd.R_slice HR4.out;have HB_6:=Lib.hid (below_then HB_5.out HB_5.out.size hb);have Xg1_6:=Lib.hid (blk_below Xg1_5.out hb);have Xg2_6:=Lib.hid (blk_below Xg2_5.out hb);have HP_6:=Lib.hid (HP_5.out.below hb);clear hb) | ((with_reducible refine gate_store (t:=27) (p:=11) rfl ?_);refine store_box rfl rfl rfl (g:=g3) (j:=4) (cs:=⟨hostC (⟨x.f0.f0,x.f0.f1,x.f0.f2,x.f0.f3, [], [], [], [],0,0⟩ : HV) (.slice none 0 0) (.slice none 0 0) (.slice none 0 0) (.slice none 0 0)⟩) (cs':=⟨hostC (⟨x.f0.f0,x.f0.f1,x.f0.f2,x.f0.f3,z1, [], [], [],0,0⟩ : HV) (.slice A4r z1.length c4r) (.slice none 0 0) (.slice none 0 0) (.slice none 0 0)⟩) (T:=32) (seg := [.slice A4r z1.length c4r]) rfl rfl HP_6.out.blk rfl (by kernel_rfl) rfl rfl rfl ?_;intro w7 hx hT;have Xg1_7:=Lib.hid (hT.blk Xg1_6.out NE_g1_g3.out);have Xg2_7:=Lib.hid (hT.blk Xg2_6.out NE_g2_g3.out);have HB_7:=Lib.hid (hT.below HB_6.out HB_6.out.size (fun k hk => by rw [hk];exact LO_HB_g3.out));have HP_7 : Hid (HostP w w7 g3 (⟨x.f0.f0,x.f0.f1,x.f0.f2,x.f0.f3,z1, [], [], [],0,0⟩ : HV) (.slice A4r z1.length c4r) (.slice none 0 0) (.slice none 0 0) (.slice none 0 0)):=Lib.hid (HP_5.out.setF HE4.out hT hx rfl (Kd.R_lower HR4.out HP_5.out.bel.size));clear hx hT))
 clear y4
 have y5 : w7.cell? ⟨g1,5,none⟩ = some (.slice A5 x.f2.length c5):=blk_cell Xg1_7.out 5
 go_upto_region 5 with (first | (go_at_call 88;refine (toBoxS_w x.f2 z2 HZ2.out (Nat.le_trans F.out.l2 (by decide)) (fun y hy => Nat.le_trans (F.out.d2 y hy) (by decide)) w7 A5 c5 (Kd.C_below G5.out HB_7.out) L5.out).mono ?_;rintro e w8 ⟨v5,rfl,hr,hb⟩;have HR5:=Lib.hid hr;have HE5:=Lib.hid hb;clear hr;obtain ⟨A5r,c5r,rfl⟩:=Kd.S_slice HR5.out;have HB_8:=Lib.hid (below_then HB_7.out HB_7.out.size hb);have Xg1_8:=Lib.hid (blk_below Xg1_7.out hb);have Xg2_8:=Lib.hid (blk_below Xg2_7.out hb);have HP_8:=Lib.hid (HP_7.out.below hb);clear hb) | ((with_reducible refine gate_store (t:=28) (p:=15) rfl ?_);refine store_box rfl rfl rfl (g:=g3) (j:=5) (cs:=⟨hostC (⟨x.f0.f0,x.f0.f1,x.f0.f2,x.f0.f3,z1, [], [], [],0,0⟩ : HV) (.slice A4r z1.length c4r) (.slice none 0 0) (.slice none 0 0) (.slice none 0 0)⟩) (cs':=⟨hostC (⟨x.f0.f0,x.f0.f1,x.f0.f2,x.f0.f3,z1,z2, [], [],0,0⟩ : HV) (.slice A4r z1.length c4r) (.slice A5r z2.length c5r) (.slice none 0 0) (.slice none 0 0)⟩) (T:=32) (seg := [.slice A5r z2.length c5r]) rfl rfl HP_8.out.blk rfl (by kernel_rfl) rfl rfl rfl ?_;intro w9 hx hT;have Xg1_9:=Lib.hid (hT.blk Xg1_8.out NE_g1_g3.out);have Xg2_9:=Lib.hid (hT.blk Xg2_8.out NE_g2_g3.out);have HB_9:=Lib.hid (hT.below HB_8.out HB_8.out.size (fun k hk => by rw [hk];exact LO_HB_g3.out));have HP_9 : Hid (HostP w w9 g3 (⟨x.f0.f0,x.f0.f1,x.f0.f2,x.f0.f3,z1,z2, [], [],0,0⟩ : HV) (.slice A4r z1.length c4r) (.slice A5r z2.length c5r) (.slice none 0 0) (.slice none 0 0)):=Lib.hid (HP_7.out.setB HE5.out hT hx rfl (Kd.S_lower HR5.out HP_7.out.bel.size));clear hx hT))
 clear y5
 have y6 : w9.cell? ⟨g1,6,none⟩ = some (.slice A6 x.f3.length c6):=blk_cell Xg1_9.out 6
 go_upto_region 6 with (first | (go_at_call 89;refine (toFrameS_w x.f3 z3 HZ3.out (Nat.le_trans F.out.l3 (by decide)) (fun y hy => Nat.le_trans (F.out.d3 y hy) (by decide)) w9 A6 c6 (Kd.C_below G6.out HB_9.out) L6.out).mono ?_;rintro e w10 ⟨v6,rfl,hr,hb⟩;have HR6:=Lib.hid hr;have HE6:=Lib.hid hb;clear hr;obtain ⟨A6r,c6r,rfl⟩:=Kd.S_slice HR6.out;have HB_10:=Lib.hid (below_then HB_9.out HB_9.out.size hb);have Xg1_10:=Lib.hid (blk_below Xg1_9.out hb);have Xg2_10:=Lib.hid (blk_below Xg2_9.out hb);have HP_10:=Lib.hid (HP_9.out.below hb);clear hb) | ((with_reducible refine gate_store (t:=29) (p:=19) rfl ?_);refine store_box rfl rfl rfl (g:=g3) (j:=6) (cs:=⟨hostC (⟨x.f0.f0,x.f0.f1,x.f0.f2,x.f0.f3,z1,z2, [], [],0,0⟩ : HV) (.slice A4r z1.length c4r) (.slice A5r z2.length c5r) (.slice none 0 0) (.slice none 0 0)⟩) (cs':=⟨hostC (⟨x.f0.f0,x.f0.f1,x.f0.f2,x.f0.f3,z1,z2,z3, [],0,0⟩ : HV) (.slice A4r z1.length c4r) (.slice A5r z2.length c5r) (.slice A6r z3.length c6r) (.slice none 0 0)⟩) (T:=32) (seg := [.slice A6r z3.length c6r]) rfl rfl HP_10.out.blk rfl (by kernel_rfl) rfl rfl rfl ?_;intro w11 hx hT;have Xg1_11:=Lib.hid (hT.blk Xg1_10.out NE_g1_g3.out);have Xg2_11:=Lib.hid (hT.blk Xg2_10.out NE_g2_g3.out);have HB_11:=Lib.hid (hT.below HB_10.out HB_10.out.size (fun k hk => by rw [hk];exact LO_HB_g3.out));have HP_11 : Hid (HostP w w11 g3 (⟨x.f0.f0,x.f0.f1,x.f0.f2,x.f0.f3,z1,z2,z3, [],0,0⟩ : HV) (.slice A4r z1.length c4r) (.slice A5r z2.length c5r) (.slice A6r z3.length c6r) (.slice none 0 0)):=Lib.hid (HP_9.out.setQ HE6.out hT hx rfl (Kd.S_lower HR6.out HP_9.out.bel.size));clear hx hT))
 clear y6
 have y7 : w11.cell? ⟨g1,7,none⟩ = some (.slice A7 x.f4.length c7):=blk_cell Xg1_11.out 7
 go_upto_region 7 with (first | (go_at_call 90;refine (toEventS_w x.f4 z4 HZ4.out (Nat.le_trans F.out.l4 (by decide)) (fun y hy => Nat.le_trans (F.out.d4 y hy) (by decide)) w11 A7 c7 (Kd.C_below G7.out HB_11.out) L7.out).mono ?_;rintro e w12 ⟨v7,rfl,hr,hb⟩;have HR7:=Lib.hid hr;have HE7:=Lib.hid hb;clear hr;obtain ⟨A7r,c7r,rfl⟩:=Kd.S_slice HR7.out;have HB_12:=Lib.hid (below_then HB_11.out HB_11.out.size hb);have Xg1_12:=Lib.hid (blk_below Xg1_11.out hb);have Xg2_12:=Lib.hid (blk_below Xg2_11.out hb);have HP_12:=Lib.hid (HP_11.out.below hb);clear hb) | ((with_reducible refine gate_store (t:=30) (p:=23) rfl ?_);refine store_box rfl rfl rfl (g:=g3) (j:=7) (cs:=⟨hostC (⟨x.f0.f0,x.f0.f1,x.f0.f2,x.f0.f3,z1,z2,z3, [],0,0⟩ : HV) (.slice A4r z1.length c4r) (.slice A5r z2.length c5r) (.slice A6r z3.length c6r) (.slice none 0 0)⟩) (cs':=⟨hostC (⟨x.f0.f0,x.f0.f1,x.f0.f2,x.f0.f3,z1,z2,z3,z4,0,0⟩ : HV) (.slice A4r z1.length c4r) (.slice A5r z2.length c5r) (.slice A6r z3.length c6r) (.slice A7r z4.length c7r)⟩) (T:=32) (seg := [.slice A7r z4.length c7r]) rfl rfl HP_12.out.blk rfl (by kernel_rfl) rfl rfl rfl ?_;intro w13 hx hT;have Xg1_13:=Lib.hid (hT.blk Xg1_12.out NE_g1_g3.out);have Xg2_13:=Lib.hid (hT.blk Xg2_12.out NE_g2_g3.out);have HB_13:=Lib.hid (hT.below HB_12.out HB_12.out.size (fun k hk => by rw [hk];exact LO_HB_g3.out));have HP_13 : Hid (HostP w w13 g3 (⟨x.f0.f0,x.f0.f1,x.f0.f2,x.f0.f3,z1,z2,z3,z4,0,0⟩ : HV) (.slice A4r z1.length c4r) (.slice A5r z2.length c5r) (.slice A6r z3.length c6r) (.slice A7r z4.length c7r)):=Lib.hid (HP_11.out.setE HE7.out hT hx rfl (Kd.S_lower HR7.out HP_11.out.bel.size));clear hx hT))
 clear y7
 have y8 : w13.cell? ⟨g1,8,none⟩ = some (.int .i64 x.f5):=blk_cell Xg1_13.out 8
 go_upto_region 8 with (first | ((with_reducible refine gate_store (t:=3) (p:=26) rfl ?_);refine store_box rfl rfl rfl (g:=g3) (j:=8) (cs:=⟨hostC (⟨x.f0.f0,x.f0.f1,x.f0.f2,x.f0.f3,z1,z2,z3,z4,0,0⟩ : HV) (.slice A4r z1.length c4r) (.slice A5r z2.length c5r) (.slice A6r z3.length c6r) (.slice A7r z4.length c7r)⟩) (cs':=⟨hostC (⟨x.f0.f0,x.f0.f1,x.f0.f2,x.f0.f3,z1,z2,z3,z4,x.f5,0⟩ : HV) (.slice A4r z1.length c4r) (.slice A5r z2.length c5r) (.slice A6r z3.length c6r) (.slice A7r z4.length c7r)⟩) (T:=32) (seg := [.int .i64 x.f5]) rfl rfl HP_13.out.blk rfl (by kernel_rfl) rfl rfl rfl ?_;intro w14 hx hT;have Xg1_14:=Lib.hid (hT.blk Xg1_13.out NE_g1_g3.out);have Xg2_14:=Lib.hid (hT.blk Xg2_13.out NE_g2_g3.out);have HB_14:=Lib.hid (hT.below HB_13.out HB_13.out.size (fun k hk => by rw [hk];exact LO_HB_g3.out));have HP_14 : Hid (HostP w w14 g3 (⟨x.f0.f0,x.f0.f1,x.f0.f2,x.f0.f3,z1,z2,z3,z4,x.f5,0⟩ : HV) (.slice A4r z1.length c4r) (.slice A5r z2.length c5r) (.slice A6r z3.length c6r) (.slice A7r z4.length c7r)):=Lib.hid (HP_13.out.put hT hx rfl rfl rfl rfl);clear hx hT))
 clear y8
 have y9 : w14.cell? ⟨g1,9,none⟩ = some (.int .i64 x.f6):=blk_cell Xg1_14.out 9
 go_upto_region 9 with (first | ((with_reducible refine gate_store (t:=3) (p:=29) rfl ?_);refine store_box rfl rfl rfl (g:=g3) (j:=9) (cs:=⟨hostC (⟨x.f0.f0,x.f0.f1,x.f0.f2,x.f0.f3,z1,z2,z3,z4,x.f5,0⟩ : HV) (.slice A4r z1.length c4r) (.slice A5r z2.length c5r) (.slice A6r z3.length c6r) (.slice A7r z4.length c7r)⟩) (cs':=⟨hostC (⟨x.f0.f0,x.f0.f1,x.f0.f2,x.f0.f3,z1,z2,z3,z4,x.f5,x.f6⟩ : HV) (.slice A4r z1.length c4r) (.slice A5r z2.length c5r) (.slice A6r z3.length c6r) (.slice A7r z4.length c7r)⟩) (T:=32) (seg := [.int .i64 x.f6]) rfl rfl HP_14.out.blk rfl (by kernel_rfl) rfl rfl rfl ?_;intro w15 hx hT;have Xg1_15:=Lib.hid (hT.blk Xg1_14.out NE_g1_g3.out);have Xg2_15:=Lib.hid (hT.blk Xg2_14.out NE_g2_g3.out);have HB_15:=Lib.hid (hT.below HB_14.out HB_14.out.size (fun k hk => by rw [hk];exact LO_HB_g3.out));have HP_15 : Hid (HostP w w15 g3 (⟨x.f0.f0,x.f0.f1,x.f0.f2,x.f0.f3,z1,z2,z3,z4,x.f5,x.f6⟩ : HV) (.slice A4r z1.length c4r) (.slice A5r z2.length c5r) (.slice A6r z3.length c6r) (.slice A7r z4.length c7r)):=Lib.hid (HP_14.out.put hT hx rfl rfl rfl rfl);clear hx hT))
 clear y9
 go_wp2_with (first | ((with_reducible refine gate_dst (N:=30) rfl ?_);refine load_all rfl rfl (g:=g3) rfl HP_15.out.blk hu32.out (by kernel_rfl) ?_) | ((with_reducible refine gate_store (t:=32) (p:=2) rfl ?_);refine store_all rfl rfl rfl (g:=g2) (C:=hostC (⟨x.f0.f0,x.f0.f1,x.f0.f2,x.f0.f3,z1,z2,z3,z4,x.f5,x.f6⟩ : HV) (.slice A4r z1.length c4r) (.slice A5r z2.length c5r) (.slice A6r z3.length c6r) (.slice A7r z4.length c7r)) rfl rfl Xg2_15.out (by kernel_rfl) (HRead.one (HostP.read HP_15.out)) rfl ?_;intro w16 hx hT;have X2:=Lib.hid hx;have HBz:=Lib.hid (hT.below HB_15.out HB_15.out.size (fun k hk => by rw [hk];exact LO_HB_g2.out));have HO:=Lib.hid (HostP.own2 HP_15.out hT Xg2_15.out);clear hx hT))
 refine bodyPost_ret (results_cell_row rfl _ _ g2 32 ⟨hostC (⟨x.f0.f0,x.f0.f1,x.f0.f2,x.f0.f3,z1,z2,z3,z4,x.f5,x.f6⟩ : HV) (.slice A4r z1.length c4r) (.slice A5r z2.length c5r) (.slice A6r z3.length c6r) (.slice A7r z4.length c7r)⟩ (0,0) _ rfl X2.out Try.underlying32 rfl (by kernel_rfl)) rfl ?_
 exact ⟨_,rfl,HVX.out ▸ HO.out,HBz.out⟩
end Go.Proofs.Ytcaefabbcjlkdaa.P
namespace Go.Proofs.Ytcaefabbcjlkdaa.P
open Go Go.RowKit Go.Proofs.YtcaefabbcjlkdaaW.PrintWords
set_option linter.unusedVariables false
def RowM (e : TypeId) (w : World) (base : Nat) (v : Value) (xs : List Int) : Prop :=
 w.ownsRow base e 1 v xs.length (nums .u8 xs) ∨
 ∃ g cap cur fz,v = .slice (some ⟨g,0,none⟩) xs.length cap ∧ base ≤ g ∧ w.heap[g]? = some (.cells cur e fz) ∧ cap ≤ fz.1 ∧ xs.length ≤ cap ∧ cap ≤ maxLen ∧ cur.size = cap ∧ cur.toList.take xs.length = nums .u8 xs
theorem RowM.typed {e : TypeId} {w : World} {base : Nat} {v : Value} {xs : List Int} (h : RowM e w base v xs) {k : Nat} (hk : v.ownBlock = some k) : base ≤ k ∧ k < w.heap.size ∧ ∃ cur fz,w.heap[k]? = some (.cells cur e fz):=by
 rcases h with h | ⟨g,cap,cur,fz,rfl,hb,hh,_⟩
 ·obtain ⟨cells,hc⟩:=own_typed h k hk
  exact ⟨own_base h k hk,own_lt h k hk,cells,_,hc⟩
 ·obtain rfl : g = k:=Option.some.inj hk
  exact ⟨hb,(Array.getElem?_eq_some_iff.1 hh).1,cur,fz,hh⟩
theorem RowM.slice {e : TypeId} {w : World} {base : Nat} {v : Value} {xs : List Int} (h : RowM e w base v xs) : ∃ A n c,v = .slice A n c:=by
 rcases h with h | ⟨g,cap,cur,fz,rfl,_⟩
 ·obtain ⟨A,c,e⟩:=own_slice h
  exact ⟨A,_,c,e⟩
 ·exact ⟨_,_,_,rfl⟩
theorem RowM.move {e : TypeId} {w w1 : World} {base : Nat} {v : Value} {xs : List Int} (h : RowM e w base v xs) (hm : ∀ k,v.ownBlock = some k → w1.heap[k]? = w.heap[k]?) : RowM e w1 base v xs:=by
 rcases h with h | ⟨g,cap,cur,fz,rfl,hb,hh,r⟩
 ·exact .inl (own_move h hm)
 ·exact .inr ⟨g,cap,cur,fz,rfl,hb,(hm g rfl).trans hh,r⟩
structure Fr (w w' : World) (p : Nat) (row row' : Option Nat) : Prop where
 os : w'.os = w.os
 tape : w'.tape = w.tape
 output : w'.output = w.output
 size : w.heap.size ≤ w'.heap.size
 block : ∀ k,k < w.heap.size → k ≠ p → some k ≠ row → w'.heap[k]? = w.heap[k]?
 goes : row' = row ∨ ∃ b,row' = some b ∧ w.heap.size ≤ b
theorem Fr.refl (w : World) (p : Nat) (row : Option Nat) : Fr w w p row row:=⟨rfl,rfl,rfl,Nat.le_refl _,fun _ _ _ _ => rfl, .inl rfl⟩
theorem Fr.trans {w w1 w2 : World} {p : Nat} {r r1 r2 : Option Nat} (h : Fr w w1 p r r1) (k : Fr w1 w2 p r1 r2) : Fr w w2 p r r2:=by
 refine ⟨k.os.trans h.os,k.tape.trans h.tape,k.output.trans h.output,Nat.le_trans h.size k.size,fun j hj hp hr => ?_, ?_⟩
 ·refine (k.block j (Nat.lt_of_lt_of_le hj h.size) hp ?_).trans (h.block j hj hp hr)
  rcases h.goes with e | ⟨b,e,hb⟩
  ·rw [e];exact hr
  ·rw [e];intro e2;have:=Option.some.inj e2;omega
 ·rcases k.goes with e | ⟨b,e,hb⟩
  ·rw [e];exact h.goes
  ·exact .inr ⟨b,e,Nat.le_trans h.size hb⟩
theorem Fr.below {B : Nat} {w0 w w' : World} {p : Nat} {r r' : Option Nat} (h : Fr w w' p r r') (hb : Below B w0 w) (hB : B ≤ w.heap.size) (hp : B ≤ p) (hr : ∀ k,r = some k → B ≤ k) : Below B w0 w' :=
 hb.trans ⟨h.os,h.tape,h.output,h.size,fun k hk => h.block k (by omega) (by omega) (fun e => by have:=hr k e.symm;omega)⟩
theorem nums_one (x : Int) : nums .u8 [x] = [.int .u8 x]:=rfl
theorem RowM.append {P : Program} {ops : Array Oper} {rest : List Oper} {o : Oper} {a : Act} {Q : Exit → Act → World → Prop} {W : World} (base : Nat) (hgd : o.guard = none) (s x : Operand) (t e : TypeId)
  (ho : o.op = .call { callee := .builtin .append,args := #[s,x],argTypes := #[t,t] })
  (ht : P.underlying t = some (.slice e)) (hinfo : (P.info? e).map (fun i => (i.zero,i.size,i.bytes)) = some (some (.int .u8 0),1,1))
  (v : Value) (xs : List Int) (b : Int) (hs : a.eval s = v) (hx : a.eval x = .slice (some ⟨W.heap.size,0,none⟩) 1 1)
  (HO : RowM e W base v xs) (hbase : base ≤ W.heap.size) (hl : xs.length + 1 ≤ 1000000)
  (h : ∀ v1 w1,RowM e w1 base v1 (xs ++ [b]) → Fr W w1 W.heap.size v.ownBlock v1.ownBlock → wpList P ops Q rest (a.put o.dst v1) w1) :
  wpList P ops Q (o :: rest) a (W.alloc (.cells #[.int .u8 b] e)):=by
 have hn : (xs ++ [b]).length = xs.length + 1:=by simp
 rcases HO with HO | ⟨g,cap,cur,fz,rfl,hb,hh,hfz,hlc,hcm,hcs,htk⟩
 ·refine print_append_cells (w0:=W) (ys := [.int .u8 b]) base hgd s x t e (.int .u8 0) 1 1 ho ht hinfo rfl (by decide) (by decide) v xs.length (nums .u8 xs) hs hx rfl (by simp [Value.oneCell']) HO (Below.refl _ _) hbase (by omega) ?_
  intro v1 w1 hown _ hg hat
  refine h v1 w1 (.inl (by rw [hn,nums_append];exact hown)) ⟨hg.os,hg.tape,hg.output,hg.size,fun k hk _ hr => hg.block k hk hr, ?_⟩
  rcases hat with e1 | ⟨c,e1,hc⟩
  ·exact .inl e1
  ·exact .inr ⟨c,e1,hc⟩
 ·obtain ⟨i0,hi,hzz⟩:=Option.map_eq_some_iff.1 hinfo
  simp only [Prod.mk.injEq] at hzz
  obtain ⟨hz0,hz1,hz2⟩:=hzz
  have hgl : g < W.heap.size:=(Array.getElem?_eq_some_iff.1 hh).1
  have hhA : (W.alloc (.cells #[.int .u8 b] e)).heap[g]? = some (.cells cur e fz):=(heap_alloc_old W _ hgl).trans hh
  have hcell : ∀ j,(W.alloc (.cells #[.int .u8 b] e)).cell? ⟨g,j,none⟩ = cur[j]?:=fun j => by simp only [World.cell?,hhA];simp
  have hol : (nums .u8 xs).length = xs.length * 1:=by rw [nums_length,Nat.mul_one]
  refine wpList_append_arg (W.alloc (.cells #[.int .u8 b] e)) hgd s x t ho e i0 (.int .u8 0) 1 1 ht hi hz0 hz1 hz2 rfl (by decide) g 0 xs.length cap (nums .u8 xs) hs hol (fun j u hj => ?_) ⟨W.heap.size,0,none⟩ 1 1 [.int .u8 b] hx rfl
   (by simpa using World.news_of_block (cs := #[.int .u8 b]) (t:=e) (fr:=(0,0)) (heap_alloc_new W (.cells #[.int .u8 b] e))) (by simp [Value.oneCell']) (fun hroom j hj => ⟨?_, ?_⟩) (by simp only [maxLen];omega) (by omega) (fun hroom => ?_) (fun _ v1 w1 hown hg => ?_)
  ·rw [Nat.zero_add,hcell]
   have hjl : j < xs.length:=by have:=(List.getElem?_eq_some_iff.1 hj).1;rw [nums_length] at this;exact this
   rw [← htk,List.getElem?_take_of_lt hjl,Array.getElem?_toList] at hj
   exact hj
  ·have hj1 : j < 1:=hj
   rw [hcell,Array.getElem?_eq_getElem (by omega)];rfl
  ·have hj1 : j < 1:=hj
   obtain ⟨lo,hi'⟩:=fz
   simp only [World.frozen?,hhA]
   have hlo : cap ≤ lo:=hfz
   rw [decide_eq_false (show ¬ lo ≤ 0 + xs.length * 1 + j by omega),Bool.false_and]
  ·have e0 : 0 + xs.length * 1 = xs.length:=by omega
   rw [e0]
   have hset : ((W.alloc (.cells #[.int .u8 b] e)).setCell ⟨g,xs.length,none⟩ (.int .u8 b)).heap[g]? = some (.cells (cur.setIfInBounds xs.length (.int .u8 b)) e fz):=by
    simp only [World.setCell,Array.getElem?_modify,hhA]
    simp
   have hs1 : ((W.alloc (.cells #[.int .u8 b] e)).setCell ⟨g,xs.length,none⟩ (.int .u8 b)).heap.size = W.heap.size + 1:=by simp
   refine h _ _ (.inr ⟨g,cap,_,fz,by rw [hn],hb,hset,hfz,by rw [hn];exact hroom,hcm,by simp [hcs], ?_⟩) ⟨rfl,rfl,rfl, ?_,fun k hk _ hr => ?_, .inl rfl⟩
   ·rw [hn,nums_append,nums_one,Array.toList_setIfInBounds,List.take_add_one,List.take_set_of_le (Nat.le_refl _),htk,List.getElem?_set_self (by simpa using (show xs.length < cur.size by omega))]
    rfl
   ·show W.heap.size ≤ ((W.alloc (.cells #[.int .u8 b] e)).setCell ⟨g,xs.length,none⟩ (.int .u8 b)).heap.size
    rw [hs1];omega
   ·show ((W.alloc (.cells #[.int .u8 b] e)).setCell ⟨g,xs.length,none⟩ (.int .u8 b)).heap[k]? = W.heap[k]?
    rw [Below.heap_setCell _ _ _ k (fun e1 => hr (by rw [e1];rfl)),heap_alloc_old W _ hk]
  ·have e1 : nums .u8 xs ++ [Value.int .u8 b] = nums .u8 (xs ++ [b]):=by rw [nums_append,nums_one]
   rw [e1] at hown
   have hw : w1.ownsRow base e 1 v1 (xs ++ [b]).length (nums .u8 (xs ++ [b])):=by rw [hn];exact own_weaken hown (by simp;omega)
   refine h v1 w1 (.inl hw) ⟨hg.os,hg.tape,hg.output,Nat.le_trans (by simp) hg.size,fun k hk hk2 hr => ?_, ?_⟩
   ·rw [hg.block k (by simp;omega) (by simp),heap_alloc_old W _ hk]
   ·rcases hown.2 with ⟨_,h0⟩ | ⟨g',c',cu',rfl,hb',_⟩
    ·omega
    ·exact .inr ⟨g',rfl,by simp at hb';omega⟩
theorem RowM.string {P : Program} {w : World} {base : Nat} {src dst e' e : TypeId} {v : Value} {xs : List Int} (hs : P.underlying src = some (.slice e)) (he : P.underlying e = some (.int .u8)) (hd : P.underlying dst = some .string) (h : RowM e' w base v xs) : (convert src dst v).run P w = .ok (.string (strOfNums xs)) w:=by
 rcases h with h | ⟨g,cap,cur,fz,rfl,hb,hh,hfz,hlc,hcm,hcs,htk⟩
 ·exact own_string hs he hd h
 ·refine run_convert_bytes_arg w src e hs he g 0 xs.length cap xs rfl (fun i hi => ?_) dst hd
  have h1 : (nums .u8 xs)[i]? = some (.int .u8 (xs.getD i 0)):=by simp [nums,List.getElem?_eq_getElem hi,List.getD_eq_getElem?_getD]
  rw [← htk,List.getElem?_take_of_lt hi,Array.getElem?_toList] at h1
  simp only [World.cell?,hh]
  simpa using h1
def numL (u : Nat) : Nat → List Int
 | 0 => []
 | n + 1 => (48 + ((u / 2 ^ n % 2 : Nat) : Int)) :: numL u n
theorem numL_length (u : Nat) : ∀ n,(numL u n).length = n
 | 0 => rfl
 | n + 1 => by rw [numL,List.length_cons,numL_length u n]
theorem Fr.store {w w1 : World} {p : Nat} {r : Option Nat} {v1 : Value} (h : Fr w w1 w.heap.size r v1.ownBlock) (hp : p < w.heap.size) : Fr w (w1.setCell ⟨p,0,none⟩ v1) p r v1.ownBlock :=
 ⟨h.os,h.tape,h.output,by simpa using h.size,fun k hk hkp hr => by
  rw [Below.heap_setCell _ _ _ k hkp];exact h.block k hk (by omega) hr,h.goes⟩
theorem cell_block {w : World} {p : Nat} {v : Value} {t : TypeId} (h : w.heap[p]? = some (.cells #[v] t (0,0))) : w.cell? ⟨p,0,none⟩ = some v:=by simp only [World.cell?,h];simp
theorem frozen_block {w : World} {p : Nat} {v : Value} {t : TypeId} (h : w.heap[p]? = some (.cells #[v] t (0,0))) (j : Nat) : w.frozen? ⟨p,j,none⟩ = false:=by simp only [World.frozen?,h];simp
theorem set_block {w : World} {p : Nat} {v u : Value} {t : TypeId} (h : w.heap[p]? = some (.cells #[v] t (0,0))) : (w.setCell ⟨p,0,none⟩ u).heap[p]? = some (.cells #[u] t (0,0)):=by
 simp only [World.setCell,Array.getElem?_modify,h]
 simp
theorem RowM.bytes (w : World) (e : TypeId) (s : ByteArray) (base : Nat) (hb : base ≤ w.heap.size) (hs : s.size ≤ maxLen) : RowM e (Lib.bytesWorld w e s) base (.slice (some ⟨w.heap.size,0,none⟩) s.size (grownCap w s.size 0 e)) (bytesOf s):=by
 have hg:=grownCap_ge w s.size 0 e
 have hz : (Lib.bytesCells w e s).size = grownCap w s.size 0 e:=by simp [Lib.bytesCells];have : s.data.size = s.size:=rfl;omega
 refine .inr ⟨w.heap.size,_,_,_,by rw [bytesOf_length],hb,Lib.bytesWorld_at_new w e s,by rw [hz];exact Nat.le_refl _,by rw [bytesOf_length];exact hg,grownCap_le_maxLen w s.size 0 e hs,hz, ?_⟩
 rw [bytesOf_length]
 unfold Lib.bytesCells nums bytesOf
 rw [Array.toList_append,List.take_append_of_le_length (by simp),List.take_of_length_le (by simp)]
 simp
structure BW (e t : TypeId) (w wr : World) (b p : Nat) (box : Array Value) (tb : TypeId) (v : Value) (xs : List Int) : Prop where
 box : wr.heap[b]? = some (.cells box tb (0,0))
 ptr : wr.heap[p]? = some (.cells #[v] t (0,0))
 row : RowM e wr w.heap.size v xs
 below : Below w.heap.size w wr
 lo : w.heap.size ≤ b
 lp : w.heap.size ≤ p
 ne : b ≠ p
theorem BW.step {e t : TypeId} {w wr w' : World} {b p : Nat} {box : Array Value} {tb : TypeId} {v v' : Value} {xs ys : List Int} (h : BW e t w wr b p box tb v xs) (he : e ≠ tb) (hp : w'.heap[p]? = some (.cells #[v'] t (0,0))) (hv : RowM e w' w.heap.size v' ys) (hf : Fr wr w' p v.ownBlock v'.ownBlock) : BW e t w w' b p box tb v' ys:=by
 refine ⟨(hf.block b (Array.getElem?_eq_some_iff.1 h.box).1 h.ne (fun e1 => ?_)).trans h.box,hp,hv,hf.below h.below h.below.size h.lp (fun k hk => (h.row.typed hk).1),h.lo,h.lp,h.ne⟩
 obtain ⟨_,_,cur,fz,hc⟩:=h.row.typed e1.symm
 rw [h.box] at hc
 injection hc with hc
 injection hc with _ hc
 exact he hc.symm
theorem RowM.nil (e : TypeId) (w : World) (base : Nat) : RowM e w base (.slice none 0 0) [] := .inl (own_nil w base e 1)
def flagL (b : Bool) : List Int := [48 + b2 b]
def dataL (l : List Int) : List Int:=l.flatMap fun x => numL x.toNat 8
def headL (ext : Bool) (id : Int) (rtr : Bool) : List Int :=
 if ext = true then numL 0 1 ++ numL (id.toNat / 262144) 11 ++ numL 3 2 ++ numL id.toNat 18 ++ flagL rtr ++ numL 0 2 else numL 0 1 ++ numL id.toNat 11 ++ flagL rtr ++ numL 0 2
def bodyL (ext : Bool) (id : Int) (rtr : Bool) (dlc : Int) (data : List Int) : List Int:=headL ext id rtr ++ numL dlc.toNat 4 ++ dataL data
theorem headL_length (ext : Bool) (id : Int) (rtr : Bool) : (headL ext id rtr).length ≤ 35:=by
 cases ext <;> simp [headL,numL_length,flagL]
theorem dataL_length (l : List Int) : (dataL l).length = 8 * l.length:=by
 induction l with
 | nil => rfl
 | cons a l ih => rw [dataL,List.flatMap_cons,List.length_append,numL_length,List.length_cons];unfold dataL at ih;omega
theorem dataL_snoc (l : List Int) (x : Int) : dataL (l ++ [x]) = dataL l ++ numL x.toNat 8:=by simp [dataL,List.flatMap_append]
theorem text_ext {a b : ByteArray} (h : a.data.toList = b.data.toList) : a = b:=by
 cases a;cases b
 exact congrArg ByteArray.mk (Array.toList_inj.1 h)
theorem str_append (a b : List Int) : strOfNums (a ++ b) = strOfNums a ++ strOfNums b:=by
 apply text_ext
 rw [Joins.data_append,strOfNums_data,strOfNums_data,strOfNums_data,List.map_append]
theorem str_extract_left (a b : List Int) : (strOfNums (a ++ b)).extract 0 a.length = strOfNums a:=by
 apply text_ext
 rw [Lib.extract_data,strOfNums_data,strOfNums_data,List.drop_zero,List.map_append,Nat.sub_zero]
 exact List.take_left' (by simp)
theorem str_extract_right (a b : List Int) : (strOfNums (a ++ b)).extract a.length (strOfNums (a ++ b)).size = strOfNums b:=by
 apply text_ext
 rw [Lib.extract_data,strOfNums_data,strOfNums_data,List.map_append,List.drop_left' (by simp),strOfNums_size,List.length_append,List.take_of_length_le (by simp)]
theorem numL_snoc (u n : Nat) : numL u (n + 1) = numL (u / 2) n ++ [48 + ((u % 2 : Nat) : Int)]:=by
 induction n with
 | zero => simp [numL]
 | succ n ih =>
  rw [numL,ih,numL,List.cons_append]
  congr 3
  rw [Nat.div_div_eq_div_mul,Nat.pow_succ,Nat.mul_comm]
theorem numL_add (u a b : Nat) : numL u (a + b) = numL (u / 2 ^ b) a ++ numL u b:=by
 induction a with
 | zero => rw [Nat.zero_add];rfl
 | succ a ih =>
  rw [show a + 1 + b = (a + b) + 1 by omega,numL,ih,numL,List.cons_append,Nat.div_div_eq_div_mul, ← Nat.pow_add,Nat.add_comm b a]
def Bits (l : List Int) : Prop := ∀ x ∈ l,x = 48 ∨ x = 49
theorem Bits.range {l : List Int} (h : Bits l) : ∀ x ∈ l,0 ≤ x ∧ x < 256:=fun x hx => by rcases h x hx with rfl | rfl <;> omega
theorem Bits.append {a b : List Int} (h : Bits a) (k : Bits b) : Bits (a ++ b):=fun x hx => (List.mem_append.1 hx).elim (h x) (k x)
end Go.Proofs.Ytcaefabbcjlkdaa.P
namespace Go.Proofs.Ytcaefabbcjlkdaa.P
open Go.RowKit Go.Proofs.YtcaefabbcjlkdaaW.PrintWords Go.Proofs.YtcaefabbcjlkdaaW.PrintLast Go.Proofs.YtcaefabbcjlkdaaW.PrintMore
set_option linter.unusedVariables false
set_option linter.unusedSimpArgs false
def dataB (rtr : Bool) (dlc : Int) : Int:=if rtr = true then 0 else (if 8 < dlc then 8 else dlc)
theorem impl_dataBytes.same (a0 : Bool) (a1 : Int) (w : World) :
  Calls Try.prog 144 #[.bool a0, .int .i64 a1] w fun e w' => e = .returned (.int .i64 (dataB a0 a1)) ∧ w' = w:=by
 unfold dataB
 cases a0
 ·by_cases c : 8 < a1
  ·have c1 : decide (8 < a1) = true:=decide_eq_true c
   go_enter Try.func144,Try.ntmps144
   go_wp2
   go_ret
   exact ⟨rfl,rfl⟩
  ·have c1 : decide (8 < a1) = false:=decide_eq_false c
   go_enter Try.func144,Try.ntmps144
   go_wp2
   go_ret
   exact ⟨rfl,rfl⟩
 ·go_enter Try.func144,Try.ntmps144
  go_wp2
  go_ret
  exact ⟨rfl,rfl⟩
end Go.Proofs.Ytcaefabbcjlkdaa.P
namespace Go.Proofs.Ytcaefabbcjlkdaa.P
open Go Go.RowKit Go.Proofs.YtcaefabbcjlkdaaW.PrintWords
set_option linter.unusedVariables false
def vtop (ext : Bool) : Int:=if ext = true then 536870912 else 2048
def validF (ext : Bool) (id : Int) (rtr : Bool) (dlc : Int) (n : Nat) : Bool:=decide (id < vtop ext) && (decide (0 ≤ dlc) && (decide (dlc ≤ 15) && ((n : Int) == dataB rtr dlc)))
def okBytes (l : List Int) : Bool:=l.all fun x => decide (0 ≤ x) && decide (x < 256)
theorem okBytes_at {l : List Int} (h : okBytes l = true) (i : Nat) (hi : i < l.length) : 0 ≤ rd l (i : Int) ∧ rd l (i : Int) < 256:=by
 have:=List.all_eq_true.1 h _ (List.mem_of_getElem? (rd_get l i hi))
 simpa using this
def bodyV (ext : Bool) (id : Int) (rtr : Bool) (dlc : Int) (data : List Int) : ByteArray:=if validF ext id rtr dlc data.length = true then strOfNums (bodyL ext id rtr dlc data) else ⟨#[]⟩
theorem valid_parts {ext : Bool} {id : Int} {rtr : Bool} {dlc : Int} {n : Nat} (h : validF ext id rtr dlc n = true) : id < vtop ext ∧ 0 ≤ dlc ∧ dlc ≤ 15 ∧ (n : Int) = dataB rtr dlc ∧ n ≤ 8:=by
 unfold validF at h
 rw [Bool.and_eq_true,Bool.and_eq_true,Bool.and_eq_true] at h
 obtain ⟨h1,h2,h3,h4⟩:=h
 have h5 : (n : Int) = dataB rtr dlc:=by simpa using h4
 refine ⟨of_decide_eq_true h1,of_decide_eq_true h2,of_decide_eq_true h3,h5, ?_⟩
 unfold dataB at h5
 split at h5
 ·omega
 ·split at h5
  ·omega
  ·have:=of_decide_eq_true h2;have:=of_decide_eq_true h3;omega
section
variable {v0 v1 v2 v3 v4 : Value}
theorem box5_0 : (#[v0,v1,v2,v3,v4] : Array Value)[0]? = some v0:=rfl
theorem box5_1 : (#[v0,v1,v2,v3,v4] : Array Value)[1]? = some v1:=rfl
theorem box5_2 : (#[v0,v1,v2,v3,v4] : Array Value)[2]? = some v2:=rfl
theorem box5_3 : (#[v0,v1,v2,v3,v4] : Array Value)[3]? = some v3:=rfl
theorem box1_0 : (#[v0] : Array Value)[0]? = some v0:=rfl
theorem box5_4 : (#[v0,v1,v2,v3,v4] : Array Value)[4]? = some v4:=rfl
end
theorem take_next (l : List Int) (i : Nat) (h : i < l.length) : l.take (i + 1) = l.take i ++ [rd l (i : Int)]:=by
 rw [List.take_succ_eq_append_getElem h]
 have:=rd_get l i h
 rw [List.getElem?_eq_getElem h] at this
 rw [Option.some.inj this]
end Go.Proofs.Ytcaefabbcjlkdaa.P
namespace Go.Proofs.Ytcaefabbcjlkdaa.P
open Go Go.RowKit Go.Proofs.YtcaefabbcjlkdaaW.PrintWords Go.Proofs.YtcaefabbcjlkdaaW.PrintLast Go.Proofs.YtcaefabbcjlkdaaW.PrintMore
set_option linter.unusedVariables false
set_option linter.unusedSimpArgs false
def zeroB (x : S45) : Bool := !x.f0 && (x.f1 == 0) && !x.f2 && (x.f3 == 0) && (x.f4.length == 0)
theorem equal_pair (a b : Bool) (W : World) : Sem.run Try.prog (Op.equalIn 10000 165 (.agg #[.bool a, .bool b]) (.agg #[.bool false, .bool false])) W = .ok (!a && !b) W:=by
 cases a <;> cases b <;> kernel_rfl
set_option maxRecDepth 100000 in
set_option maxHeartbeats 8000000 in
theorem sameFrame_z (b0 : Bool) (i1 : Int) (b2 : Bool) (i3 : Int) (n : Nat) (A : Option Addr) (c : Nat) (w : World) :
  Calls Try.prog 148 #[.agg #[.bool b0, .int .u32 i1, .bool b2, .int .i64 i3, .slice A n c], .agg #[.bool false, .int .u32 0, .bool false, .int .i64 0, .slice none 0 0]] w fun e w' => e = .returned (.bool (!b0 && (i1 == 0) && !b2 && (i3 == 0) && (n == 0))) ∧ Below w.heap.size w w':=by
 go_enter Try.func148,Try.ntmps148
 go_upto_region 1 with (first | ((with_reducible refine gate_dst (N:=2) rfl ?_);refine box_event ?hg (N:=2) ?hd (cs := #[.bool b0, .int .u32 i1, .bool b2, .int .i64 i3, .slice A n c]) (t:=45) ?hr ?_;(case hd => rfl);(case hg => rfl);(case hr => first | (go_simp;done) | (go_simp;rfl));intro g2 hg w1 hbox hb;have X1:=Lib.hid hbox;have HB1:=Lib.hid hb;clear hg hbox hb) | ((with_reducible refine gate_dst (N:=3) rfl ?_);refine box_event ?hg (N:=3) ?hd (cs := #[.bool false, .int .u32 0, .bool false, .int .i64 0, .slice none 0 0]) (t:=45) ?hr ?_;(case hd => rfl);(case hg => rfl);(case hr => first | (go_simp;done) | (go_simp;rfl));intro g3 hg w2 hbox hb;have Y2:=Lib.hid hbox;have X2:=Lib.hid (blk_below X1.out hb);have HB2:=Lib.hid (below_then HB1.out HB1.out.size hb);clear hg hbox hb))
 have x0 : w2.cell? ⟨g2,0,none⟩ = some (.bool b0):=blk_cell X2.out 0
 have x1 : w2.cell? ⟨g2,1,none⟩ = some (.int .u32 i1):=blk_cell X2.out 1
 have x2 : w2.cell? ⟨g2,2,none⟩ = some (.bool b2):=blk_cell X2.out 2
 have x3 : w2.cell? ⟨g2,3,none⟩ = some (.int .i64 i3):=blk_cell X2.out 3
 have x4 : w2.cell? ⟨g2,4,none⟩ = some (.slice A n c):=blk_cell X2.out 4
 have y0 : w2.cell? ⟨g3,0,none⟩ = some (.bool false):=blk_cell Y2.out 0
 have y1 : w2.cell? ⟨g3,1,none⟩ = some (.int .u32 0):=blk_cell Y2.out 1
 have y2 : w2.cell? ⟨g3,2,none⟩ = some (.bool false):=blk_cell Y2.out 2
 have y3 : w2.cell? ⟨g3,3,none⟩ = some (.int .i64 0):=blk_cell Y2.out 3
 have y4 : w2.cell? ⟨g3,4,none⟩ = some (.slice none 0 0):=blk_cell Y2.out 4
 have q:=equal_pair b0 b2 w2
 cases hb0 : b0 with
 | true =>
  subst hb0
  go_wp2_with (fail)
  go_ret
  exact ⟨rfl,HB2.out⟩
 | false =>
  subst hb0
  cases hb2 : b2 with
  | true =>
   subst hb2
   go_wp2_with (fail)
   go_ret
   refine ⟨?_,HB2.out⟩
   cases (i1 == 0) <;> rfl
  | false =>
   subst hb2
   by_cases h1 : i1 = 0
   ·subst h1
    by_cases h3 : i3 = 0
    ·subst h3
     by_cases h4 : n = 0
     ·subst h4
      go_wp2_with (fail)
      clear x0 x1 x2 x3 x4 y0 y1 y2 y3 y4 q
      go_loopw [43] (fun v43 wr => v43 = .int .i64 0 ∧ Aside0 (Below w.heap.size w wr)) (fun _ _ => 0)
      case atStart => exact ⟨rfl,⟨HB2.out⟩⟩
      case round =>
       obtain ⟨rfl,HBR⟩:=hrel
       go_wp2_with (fail)
       go_ret
       exact ⟨rfl,HBR.out⟩
     ·have z : ((n : Int) != 0) = true:=bne_iff_ne.2 (by omega)
      have z' : (n == 0) = false:=beq_eq_false_iff_ne.2 h4
      have H4:=Lib.hid h4
      clear h4
      go_wp2_with (fail)
      go_ret
      exact ⟨by rw [z'];rfl,HB2.out⟩
    ·have z : (i3 != 0) = true:=bne_iff_ne.2 h3
     have z' : (i3 == 0) = false:=beq_eq_false_iff_ne.2 h3
     have H3:=Lib.hid h3
     clear h3
     go_wp2_with (fail)
     go_ret
     exact ⟨by rw [z'];rfl,HB2.out⟩
   ·have z : (i1 != 0) = true:=bne_iff_ne.2 h1
    have z' : (i1 == 0) = false:=beq_eq_false_iff_ne.2 h1
    have H1:=Lib.hid h1
    clear h1
    go_wp2_with (fail)
    go_ret
    exact ⟨by rw [z'];rfl,HB2.out⟩
set_option maxRecDepth 100000 in
set_option maxHeartbeats 2000000 in
theorem zeroFrame_v (x : S45) (A : Option Addr) (c : Nat) (w : World) :
  Calls Try.prog 143 #[.agg #[.bool x.f0, .int .u32 x.f1, .bool x.f2, .int .i64 x.f3, .slice A x.f4.length c]] w fun e w' => e = .returned (.bool (zeroB x)) ∧ Below w.heap.size w w':=by
 have hu:=Lib.hid Try.underlying45
 go_enter Try.func143,Try.ntmps143
 go_wp2_with (first | ((with_reducible refine gate_dst (N:=1) rfl ?_);refine box_event ?hg (N:=1) ?hd (cs := #[.bool x.f0, .int .u32 x.f1, .bool x.f2, .int .i64 x.f3, .slice A x.f4.length c]) (t:=45) ?hr ?_;(case hd => rfl);(case hg => rfl);(case hr => first | (go_simp;done) | (go_simp;rfl));intro g hg w1 hbox hb;have X1:=Lib.hid hbox;have HB1:=Lib.hid hb;clear hg hbox hb) | ((with_reducible refine gate_dst (N:=3) rfl ?_);refine load_all rfl rfl (g:=g) rfl X1.out hu.out (by kernel_rfl) ?_) | (go_at_call 148;refine (sameFrame_z x.f0 x.f1 x.f2 x.f3 x.f4.length A c w1).mono ?_;rintro e w2 ⟨rfl,hb⟩;have HB2:=Lib.hid (below_then HB1.out HB1.out.size hb);clear hb))
 go_ret
 exact ⟨rfl,HB2.out⟩
end Go.Proofs.Ytcaefabbcjlkdaa.P
