/- Texts of the proof of FnExactDrain, joined. -/
import Derived.Test.YtcaefabbcjlkdaaSFnExactDrain24
import Derived.Test.YtcaefabbcjlkdaaSFnExactDrain26
import Derived.Deep.RegionHeld
namespace Go.Proofs.Ytcaefabbcjlkdaa.P
open Go Go.RowKit Go.Proofs.YtcaefabbcjlkdaaW.PrintWords Go.Proofs.YtcaefabbcjlkdaaW.PrintLast Go.Proofs.YtcaefabbcjlkdaaW.PrintMore
set_option linter.unusedVariables false
set_option linter.unusedSimpArgs false
def hv0 : HV:=⟨0,0,0,0, [], [], [], [],0,0⟩
def tagUp (bs : List S87) : Nat → (Int → Option Int) × Nat
 | 0 => (fun _ => none,0)
 | i + 1 => if (rd_T87 bs (i : Int)).f0 = 0 then tagUp bs i else (fun t => if t = (rd_T87 bs (i : Int)).f1 then some (i : Int) else (tagUp bs i).1 t,if ((tagUp bs i).1 (rd_T87 bs (i : Int)).f1).isSome then (tagUp bs i).2 else (tagUp bs i).2 + 1)
theorem tagUp_zero {bs : List S87} {i : Nat} {b : S87} (hb : b = rd_T87 bs (i : Int)) (hz : b.f0 = 0) : tagUp bs (i + 1) = tagUp bs i:=by
 rw [tagUp, ← hb,if_pos hz]
theorem tagUp_next {bs : List S87} {i : Nat} {b : S87} (hb : b = rd_T87 bs (i : Int)) (hz : ¬ b.f0 = 0) : tagUp bs (i + 1) = (fun t => if t = b.f1 then some (i : Int) else (tagUp bs i).1 t,if ((tagUp bs i).1 b.f1).isSome then (tagUp bs i).2 else (tagUp bs i).2 + 1):=by
 rw [tagUp, ← hb,if_neg hz]
structure HSmall (h : HV) : Prop where
 l1 : h.fs.length ≤ 100000
 l2 : h.bs.length ≤ 100000
 l3 : h.fr.length ≤ 100000
 l4 : h.ev.length ≤ 100000
 d2 : ∀ y ∈ h.bs,y.f3.f4.length ≤ 10000000
 d3 : ∀ y ∈ h.fr,y.f4.length ≤ 10000000
 d4 : ∀ y ∈ h.ev,y.f3.f4.length ≤ 10000000
theorem getD_at {α : Type} (l : List α) (i : Nat) (z : α) (h : i < l.length) : l[i]? = some (l.getD (i : Int).toNat z):=by rw [Int.toNat_natCast,List.getD_eq_getElem?_getD,List.getElem?_eq_getElem h];rfl
set_option maxRecDepth 100000 in
set_option maxHeartbeats 8000000 in
theorem set_v (w0 w : World) (p m : Nat) (h : HV) (C : List Value) (hB : Below w0.heap.size w0 w) (hp : w.heap[p]? = some (.cells (sideP hv0 m 0 0 (.slice none 0 0) (.slice none 0 0) (.slice none 0 0) (.slice none 0 0)) 128 (0,0))) (hm : w.heap[m]? = some (.map #[] 0))
  (hpB : w0.heap.size ≤ p) (hmB : w0.heap.size ≤ m) (hR : HRead w0 h C) (hS : HSmall h) (hcf : 0 ≤ h.cf ∧ h.cf ≤ 100000) (hce : 0 ≤ h.ce ∧ h.ce ≤ 100000) (hlq : (h.fr.length : Int) ≤ h.cf) (hle : (h.ev.length : Int) ≤ h.ce) :
  Calls Try.prog 110 #[.pointer (some ⟨p,0,none⟩), .agg ⟨C⟩] w fun e w' => e = .returned (.tuple #[]) ∧ ∃ vf vb vq ve,SideP w0 w' p m h h.cf h.ce vf vb vq ve (tagUp h.bs h.bs.length).1 (tagUp h.bs h.bs.length).2:=by
 obtain ⟨Af,cf,Ab,cb,Aq,cq,Ae,ce,rfl,rf,lf,rb,lb,rq,lq,re,le⟩:=hR
 have HP:=Lib.hid hp
 have HM:=Lib.hid hm
 have HB:=Lib.hid hB
 have HPB:=Lib.hid hpB
 have HMB:=Lib.hid hmB
 have RF:=Lib.hid rf
 have RB:=Lib.hid rb
 have RQ:=Lib.hid rq
 have RE:=Lib.hid re
 have LF:=Lib.hid lf
 have LB:=Lib.hid lb
 have LQ:=Lib.hid lq
 have LE:=Lib.hid le
 have SM:=Lib.hid hS
 have CF:=Lib.hid hcf
 have CE:=Lib.hid hce
 have HLQ:=Lib.hid hlq
 have HLE:=Lib.hid hle
 clear hp hm hB hpB hmB rf rb rq re lf lb lq le hS hcf hce hlq hle
 obtain ⟨hc,hhc⟩ : ∃ hc : Array Value,hc = ⟨hostC h (.slice Af h.fs.length cf) (.slice Ab h.bs.length cb) (.slice Aq h.fr.length cq) (.slice Ae h.ev.length ce)⟩:=⟨_,rfl⟩
 have hc0 : hc[0]? = some (.int .i64 h.cb):=by rw [hhc];rfl
 have hc1 : hc[1]? = some (.int .i64 h.cf):=by rw [hhc];rfl
 have hc2 : hc[2]? = some (.int .i64 h.cp):=by rw [hhc];rfl
 have hc3 : hc[3]? = some (.int .i64 h.ce):=by rw [hhc];rfl
 have hc4 : hc[4]? = some (.slice Af h.fs.length cf):=by rw [hhc];rfl
 have hc5 : hc[5]? = some (.slice Ab h.bs.length cb):=by rw [hhc];rfl
 have hc6 : hc[6]? = some (.slice Aq h.fr.length cq):=by rw [hhc];rfl
 have hc7 : hc[7]? = some (.slice Ae h.ev.length ce):=by rw [hhc];rfl
 have hc8 : hc[8]? = some (.int .i64 h.lost):=by rw [hhc];rfl
 have hc9 : hc[9]? = some (.int .i64 h.stamp):=by rw [hhc];rfl
 have HC0:=Lib.hid hc0
 have HC1:=Lib.hid hc1
 have HC2:=Lib.hid hc2
 have HC3:=Lib.hid hc3
 have HC4:=Lib.hid hc4
 have HC5:=Lib.hid hc5
 have HC6:=Lib.hid hc6
 have HC7:=Lib.hid hc7
 have HC8:=Lib.hid hc8
 have HC9:=Lib.hid hc9
 rw [← hhc]
 have HHC:=Lib.hid hhc
 clear hhc hc0 hc1 hc2 hc3 hc4 hc5 hc6 hc7 hc8 hc9
 have hul:=Try.underlying32
 go_enter Try.func110,Try.ntmps110
 go_upto_region 1 with (first | ((with_reducible refine gate_dst (N:=3) rfl ?_);refine box_event ?hg (N:=3) ?hd (cs:=hc) (t:=32) ?hr ?_;(case hd => rfl);(case hg => rfl);(case hr => first | (rw [HHC.out];go_simp;done) | (rw [HHC.out];go_simp;rfl));intro g hg w1 hbox hb;have HG:=Lib.hid hg;have HX1:=Lib.hid hbox;have HB1:=Lib.hid hb;clear hg hbox hb))
 have HP1:=Lib.hid (blk_below HP.out HB1.out)
 have HM1:=Lib.hid (blk_below HM.out HB1.out)
 have hm:=HM1.out
 have hc6 : w1.cell? ⟨p,6,none⟩ = some (.map (some m)):=blk_cell HP1.out 6
 obtain ⟨w2,hclr,hm2,hT2⟩:=clear_run (P:=Try.prog) Try.underlying122 hm 0
 go_upto_region 2 with (fail)
 have HPM : Hid (p ≠ m):=Lib.hid (fun e => by have h1:=HP1.out;rw [e,hm] at h1;cases h1)
 have HGP : Hid (p ≠ g):=Lib.hid (fun e => by have h1:=blk_lt HP.out;rw [e,HG.out] at h1;omega)
 have HGM : Hid (g ≠ m):=Lib.hid (fun e => by have h1:=(Array.getElem?_eq_some_iff.1 HM.out).1;rw [← e,HG.out] at h1;omega)
 have HX2:=Lib.hid (hT2.blk HX1.out HGM.out)
 have HS2 : Hid (SideP w0 w2 p m hv0 0 0 (.slice none 0 0) (.slice none 0 0) (.slice none 0 0) (.slice none 0 0) (fun _ => none) 0):=Lib.hid ⟨hT2.below (below_then HB.out HB.out.size HB1.out) (Nat.le_trans HB.out.size HB1.out.size) (fun k hk => hk ▸ HMB.out),hT2.blk HP1.out HPM.out,MapAt.new hm2,⟨fun _ => 0,Kd.R_nil _ _ _ _ _,Kd.S_nil _ _ _ _ _,Kd.S_nil _ _ _ _ _,Kd.S_nil _ _ _ _ _⟩,HPB.out,HMB.out⟩
 clear hm hclr hm2 hc6 hT2 HP1 HM1 HP HM HX1
 obtain ⟨wd,hwd⟩ : ∃ wd,wd = w2.drew:=⟨_,rfl⟩
 have HSd : Hid (SideP w0 wd p m hv0 0 0 (.slice none 0 0) (.slice none 0 0) (.slice none 0 0) (.slice none 0 0) (fun _ => none) 0):=by rw [hwd];exact Lib.hid (HS2.out.below (below_drew (Below.refl _ _)))
 have HXd : Hid (wd.heap[g]? = some (.cells hc 32 (0,0))):=by rw [hwd];exact Lib.hid (blk_drew HX2.out)
 clear HS2 HX2
 refine start_ (n:=18) (S:=fun w' : World => w'.heap[g]? = some (.cells hc 32 (0,0))) (ds := [17]) #[false,false,false,false,false,false,false,false,false,false,false,false,false,false,false,false,false,false] (by kernel_rfl) rfl rfl (hwd ▸ HXd.out) (fun hHeld => ?_)
 rw [← hwd] at hHeld ⊢
 clear hwd
 refine pure_ (i:=0) (N:=some 14) (v := ?_) (a' := ?_) #[true,false,false,false,false,false,false,false,false,false,false,false,false,false,false,false,false,false] rfl rfl (by kernel_rfl) (fun _ _ _ h => h) (Or.inl ⟨by rfl, ?_⟩) ?_ ?_
 rotate_left
 ·intro w'
  go_simp
  with_reducible rfl
 rotate_left
 ·simp only [Act.put,List.setIfInBounds_toArray,List.set_cons_zero,List.set_cons_succ,i64_w,i32_w]
  rfl
 refine pure_ (i:=1) (N:=some 15) (v := ?_) (a' := ?_) #[true,true,false,false,false,false,false,false,false,false,false,false,false,false,false,false,false,false] rfl rfl (by kernel_rfl) (fun _ _ _ h => h) (Or.inl ⟨by rfl, ?_⟩) ?_ ?_
 rotate_left
 ·intro w'
  go_simp
  with_reducible rfl
 rotate_left
 ·simp only [Act.put,List.setIfInBounds_toArray,List.set_cons_zero,List.set_cons_succ,i64_w,i32_w]
  rfl
 refine pure_ (i:=2) (N:=some 16) (v := ?_) (a' := ?_) #[true,true,true,false,false,false,false,false,false,false,false,false,false,false,false,false,false,false] rfl rfl (by kernel_rfl) (fun _ _ _ h => h) (Or.inl ⟨by rfl, ?_⟩) ?_ ?_
 rotate_left
 ·intro w'
  go_simp
  with_reducible rfl
 rotate_left
 ·simp only [Act.put,List.setIfInBounds_toArray,List.set_cons_zero,List.set_cons_succ,i64_w,i32_w]
  rfl
 refine pure_ (i:=3) (N:=some 17) (v := ?_) (a' := ?_) #[true,true,true,true,false,false,false,false,false,false,false,false,false,false,false,false,false,false] rfl rfl (by kernel_rfl) (fun _ _ _ h => h) (Or.inl ⟨by rfl, ?_⟩) ?_ ?_
 rotate_left
 ·intro w'
  go_simp
  with_reducible rfl
 rotate_left
 ·simp only [Act.put,List.setIfInBounds_toArray,List.set_cons_zero,List.set_cons_succ,i64_w,i32_w]
  rfl
 refine take_ (i:=4) (N:=some 18) (v := ?_) (a' := ?_) #[true,true,true,true,true,false,false,false,false,false,false,false,false,false,false,false,false,false] rfl rfl (by kernel_rfl) (fun _ _ _ h => h) (Or.inl ⟨by rfl, ?_⟩) hHeld ?_ ?_
 rotate_left
 ·intro w' s0
  have e0 : w'.cell? ⟨g,0,none⟩ = some (.int .i64 h.cb):=(blk_cell s0 0).trans HC0.out
  have e1 : w'.cell? ⟨g,1,none⟩ = some (.int .i64 h.cf):=(blk_cell s0 1).trans HC1.out
  have e2 : w'.cell? ⟨g,2,none⟩ = some (.int .i64 h.cp):=(blk_cell s0 2).trans HC2.out
  have e3 : w'.cell? ⟨g,3,none⟩ = some (.int .i64 h.ce):=(blk_cell s0 3).trans HC3.out
  go_simp
  with_reducible rfl
 rotate_left
 ·simp only [Act.put,List.setIfInBounds_toArray,List.set_cons_zero,List.set_cons_succ,i64_w,i32_w]
  rfl
 refine pure_ (i:=5) (N:=some 19) (v := ?_) (a' := ?_) #[true,true,true,true,true,true,false,false,false,false,false,false,false,false,false,false,false,false] rfl rfl (by kernel_rfl) (fun _ _ _ h => h) (Or.inl ⟨by rfl, ?_⟩) ?_ ?_
 rotate_left
 ·intro w'
  go_simp
  with_reducible rfl
 rotate_left
 ·simp only [Act.put,List.setIfInBounds_toArray,List.set_cons_zero,List.set_cons_succ,i64_w,i32_w]
  rfl
 refine take_ (i:=6) (N:=some 20) (v := ?_) (a' := ?_) #[true,true,true,true,true,true,true,false,false,false,false,false,false,false,false,false,false,false] rfl rfl (by kernel_rfl) (fun _ _ _ h => h) (Or.inl ⟨by rfl, ?_⟩) hHeld ?_ ?_
 rotate_left
 ·intro w' s0
  have e8 : w'.cell? ⟨g,8,none⟩ = some (.int .i64 h.lost):=(blk_cell s0 8).trans HC8.out
  go_simp
  with_reducible rfl
 rotate_left
 ·simp only [Act.put,List.setIfInBounds_toArray,List.set_cons_zero,List.set_cons_succ,i64_w,i32_w]
  rfl
 refine pure_ (i:=7) (N:=some 21) (v := ?_) (a' := ?_) #[true,true,true,true,true,true,true,true,false,false,false,false,false,false,false,false,false,false] rfl rfl (by kernel_rfl) (fun _ _ _ h => h) (Or.inl ⟨by rfl, ?_⟩) ?_ ?_
 rotate_left
 ·intro w'
  go_simp
  with_reducible rfl
 rotate_left
 ·simp only [Act.put,List.setIfInBounds_toArray,List.set_cons_zero,List.set_cons_succ,i64_w,i32_w]
  rfl
 refine take_ (i:=8) (N:=some 22) (v := ?_) (a' := ?_) #[true,true,true,true,true,true,true,true,true,false,false,false,false,false,false,false,false,false] rfl rfl (by kernel_rfl) (fun _ _ _ h => h) (Or.inl ⟨by rfl, ?_⟩) hHeld ?_ ?_
 rotate_left
 ·intro w' s0
  have e9 : w'.cell? ⟨g,9,none⟩ = some (.int .i64 h.stamp):=(blk_cell s0 9).trans HC9.out
  go_simp
  with_reducible rfl
 rotate_left
 ·simp only [Act.put,List.setIfInBounds_toArray,List.set_cons_zero,List.set_cons_succ,i64_w,i32_w]
  rfl
 refine pure_ (i:=9) (N:=some 23) (v := ?_) (a' := ?_) #[true,true,true,true,true,true,true,true,true,true,false,false,false,false,false,false,false,false] rfl rfl (by kernel_rfl) (fun _ _ _ h => h) (Or.inl ⟨by rfl, ?_⟩) ?_ ?_
 rotate_left
 ·intro w'
  go_simp
  with_reducible rfl
 rotate_left
 ·simp only [Act.put,List.setIfInBounds_toArray,List.set_cons_zero,List.set_cons_succ,i64_w,i32_w]
  rfl
 refine pure_ (i:=10) (N:=some 24) (v := ?_) (a' := ?_) #[true,true,true,true,true,true,true,true,true,true,true,false,false,false,false,false,false,false] rfl rfl (by kernel_rfl) (fun _ _ _ h => h) (Or.inl ⟨by rfl, ?_⟩) ?_ ?_
 rotate_left
 ·intro w'
  go_simp
  with_reducible rfl
 rotate_left
 ·simp only [Act.put,List.setIfInBounds_toArray,List.set_cons_zero,List.set_cons_succ,i64_w,i32_w]
  rfl
 refine one_ (i:=11) (N:=none) #[true,true,true,true,true,true,true,true,true,true,true,true,false,false,false,false,false,false] rfl rfl (by kernel_rfl) (by decide) (fun K hK => ?_)
 refine st_blk (by rfl) rfl rfl (g:=p) (j:=0) (cs:=sideP hv0 m 0 0 (.slice none 0 0) (.slice none 0 0) (.slice none 0 0) (.slice none 0 0)) (cs':=sideP { hv0 with cb:=h.cb,cf:=h.cf,cp:=h.cp,ce:=h.ce } m 0 0 (.slice none 0 0) (.slice none 0 0) (.slice none 0 0) (.slice none 0 0)) (T:=128) (u := .agg #[.int .i64 h.cb, .int .i64 h.cf, .int .i64 h.cp, .int .i64 h.ce]) (seg := [.int .i64 h.cb, .int .i64 h.cf, .int .i64 h.cp, .int .i64 h.ce]) rfl rfl HSd.out.blk rfl (by kernel_rfl) rfl rfl rfl ?_
 intro w3 hx3 hT3
 have HS3:=Lib.hid (HSd.out.put (x' := { hv0 with cb:=h.cb,cf:=h.cf,cp:=h.cp,ce:=h.ce }) hT3 hx3 rfl rfl rfl rfl)
 have HX3:=Lib.hid (hT3.blk HXd.out (fun e => HGP.out e.symm))
 clear hx3 hT3
 refine hK.out _ _ HX3.out (fun hHeld => ?_)
 clear hK K
 refine pure_ (i:=12) (N:=some 25) (v := ?_) (a' := ?_) #[true,true,true,true,true,true,true,true,true,true,true,true,true,false,false,false,false,false] rfl rfl (by kernel_rfl) (fun _ _ _ h => h) (Or.inl ⟨by rfl, ?_⟩) ?_ ?_
 rotate_left
 ·intro w'
  go_simp
  with_reducible rfl
 rotate_left
 ·simp only [Act.put,List.setIfInBounds_toArray,List.set_cons_zero,List.set_cons_succ,i64_w,i32_w]
  rfl
 refine pure_ (i:=13) (N:=some 26) (v := ?_) (a' := ?_) #[true,true,true,true,true,true,true,true,true,true,true,true,true,true,false,false,false,false] rfl rfl (by kernel_rfl) (fun _ _ _ h => h) (Or.inl ⟨by rfl, ?_⟩) ?_ ?_
 rotate_left
 ·intro w'
  go_simp
  with_reducible rfl
 rotate_left
 ·simp only [Act.put,List.setIfInBounds_toArray,List.set_cons_zero,List.set_cons_succ,i64_w,i32_w]
  rfl
 refine one_ (i:=14) (N:=none) #[true,true,true,true,true,true,true,true,true,true,true,true,true,true,true,false,false,false] rfl rfl (by kernel_rfl) (by decide) (fun K hK => ?_)
 refine st_one (by rfl) rfl rfl (g:=p) (j:=11) (cs:=sideP { hv0 with cb:=h.cb,cf:=h.cf,cp:=h.cp,ce:=h.ce } m 0 0 (.slice none 0 0) (.slice none 0 0) (.slice none 0 0) (.slice none 0 0)) (T:=128) (u := .int .i64 h.lost) (u0 := .int .i64 0) rfl rfl HS3.out.blk rfl (by kernel_rfl) rfl rfl ?_
 intro w4 hx4 hT4
 have HS4:=Lib.hid (HS3.out.put (x' := { hv0 with cb:=h.cb,cf:=h.cf,cp:=h.cp,ce:=h.ce,lost:=h.lost }) hT4 hx4 rfl rfl rfl rfl)
 have HX4:=Lib.hid (hT4.blk HX3.out (fun e => HGP.out e.symm))
 clear hx4 hT4
 refine hK.out _ _ HX4.out (fun hHeld => ?_)
 clear hK K
 refine pure_ (i:=15) (N:=some 27) (v := ?_) (a' := ?_) #[true,true,true,true,true,true,true,true,true,true,true,true,true,true,true,true,false,false] rfl rfl (by kernel_rfl) (fun _ _ _ h => h) (Or.inl ⟨by rfl, ?_⟩) ?_ ?_
 rotate_left
 ·intro w'
  go_simp
  with_reducible rfl
 rotate_left
 ·simp only [Act.put,List.setIfInBounds_toArray,List.set_cons_zero,List.set_cons_succ,i64_w,i32_w]
  rfl
 refine pure_ (i:=16) (N:=some 28) (v := ?_) (a' := ?_) #[true,true,true,true,true,true,true,true,true,true,true,true,true,true,true,true,true,false] rfl rfl (by kernel_rfl) (fun _ _ _ h => h) (Or.inl ⟨by rfl, ?_⟩) ?_ ?_
 rotate_left
 ·intro w'
  go_simp
  with_reducible rfl
 rotate_left
 ·simp only [Act.put,List.setIfInBounds_toArray,List.set_cons_zero,List.set_cons_succ,i64_w,i32_w]
  rfl
 refine last_ (i:=17) (N:=none) #[true,true,true,true,true,true,true,true,true,true,true,true,true,true,true,true,true,true] rfl rfl (by kernel_rfl) (by decide) (fun K hK => ?_)
 refine st_one (by rfl) rfl rfl (g:=p) (j:=12) (cs:=sideP { hv0 with cb:=h.cb,cf:=h.cf,cp:=h.cp,ce:=h.ce,lost:=h.lost } m 0 0 (.slice none 0 0) (.slice none 0 0) (.slice none 0 0) (.slice none 0 0)) (T:=128) (u := .int .i64 h.stamp) (u0 := .int .i64 0) rfl rfl HS4.out.blk rfl (by kernel_rfl) rfl rfl ?_
 intro w5 hx5 hT5
 have HS5:=Lib.hid (HS4.out.put (x' := { h with fs := [],bs := [],fr := [],ev := [] }) hT5 hx5 rfl rfl rfl rfl)
 have HX5:=Lib.hid (hT5.blk HX4.out (fun e => HGP.out e.symm))
 clear hx5 hT5
 refine hK.out _ _ ?_
 clear hK K
 refine done_ (by kernel_rfl) ?_
 clear HSd HXd HS3 HX3 HS4 HX4
 have hg4 : w5.cell? ⟨g,4,none⟩ = some (.slice Af h.fs.length cf):=(blk_cell HX5.out 4).trans HC4.out
 go_upto_region 4 with (first | ((with_reducible refine gate_dst (N:=30) rfl ?_);refine Kd.R_lit k89 w0.heap.size 89 ?hg (N:=30) ?hd (w0:=w0) (xs:=([] : List S89)) (inner := []) (ok:=fun k => w5.heap.size ≤ k) (okp:=fun k => w5.heap.size ≤ k) ?hr ?hp (fun _ hk => hk) ?hf HS5.out.bel HS5.out.bel.size (by simp) ?_;(case hd => rfl);(case hg => rfl);(case hf => exact Nat.le_refl _);(case hr => first | (go_simp;done) | (go_simp;rfl));(case hp => exact (Reps.none _ _));intro v6 w6 hr6 hb6 hg6 hn6;have HR6:=Lib.hid hr6;have HB6:=Lib.hid (below_grown hg6 (fun k e => by cases e));have HN6:=Lib.hid hn6;clear hr6 hb6 hg6 hn6;have hg4 : w6.cell? ⟨g,4,none⟩ = some (.slice Af h.fs.length cf):=(blk_cell (blk_below HX5.out HB6.out) 4).trans HC4.out) | ((with_reducible refine gate_builtin (b := .append) (xs := #[.tmp 30, .tmp 32]) rfl ?_);at_builtin;refine Kd.R_append_rows k89 (Rr:=k89.K w6) (w0:=w0) w0.heap.size rfl (.tmp 30) (.tmp 32) 27 89 (.agg #[(.bool false),(.int .u32 0),(.int .u32 0)]) 12 rfl Try.underlying27 info89 rfl (by decide) (by omega) v6 [] h.fs Af h.fs.length cf (fun k => w5.heap.size ≤ k) (fun _ => False) rfl rfl ?aO ?aR ?aK (fun _ h => h.elim) ?aF ?aB ?aS ?aL ?_;(case aO => exact HR6.out);(case aR => exact Kd.C_below RF.out (below_then HS5.out.bel HS5.out.bel.size HB6.out));(case aK => exact fun x cs hk => by rw [k89_open hk];exact k89_mkM _ _ _ x);(case aF => exact fun k hk => Nat.le_trans HB6.out.size hk);(case aB => exact below_then HS5.out.bel HS5.out.bel.size HB6.out);(case aS => exact Nat.le_trans HS5.out.bel.size HB6.out.size);(case aL => have:=SM.out.l1;simp only [List.length_nil];omega);intro v7 w7 hr7 hb7 hg7 hn7;rw [List.nil_append] at hr7;have HR7:=Lib.hid hr7;have HB7 : Hid (Below w5.heap.size w5 w7):=Lib.hid (((Tch.of_below (fun _ => False) HB6.out).grown hg7 (fun k e => .inr (by obtain ⟨b,hb,hle⟩:=HN6.out;rw [hb] at e;injection e with e;omega))).below (Below.refl _ _) (Nat.le_refl _) (fun _ h => h.elim));clear hr7 hb7 hg7 hn7;obtain ⟨A7,c7,rfl⟩:=Kd.R_slice HR7.out) | ((with_reducible refine gate_store (t:=27) (p:=35) rfl ?_);refine store_box rfl rfl rfl (g:=p) (j:=4) (cs:=sideP { h with fs := [],bs := [],fr := [],ev := [] } m 0 0 (.slice none 0 0) (.slice none 0 0) (.slice none 0 0) (.slice none 0 0)) (cs':=sideP { h with bs := [],fr := [],ev := [] } m 0 0 (.slice A7 h.fs.length c7) (.slice none 0 0) (.slice none 0 0) (.slice none 0 0)) (T:=128) (u := .slice A7 h.fs.length c7) (seg := [.slice A7 h.fs.length c7]) rfl rfl (HS5.out.below HB7.out).blk rfl (by kernel_rfl) rfl rfl rfl ?_;intro w8 hx8 hT8;have HS8:=Lib.hid (HS5.out.newF (x' := { h with bs := [],fr := [],ev := [] }) HB7.out hT8 hx8 rfl HR7.out);have HX8:=Lib.hid (hT8.blk (blk_below HX5.out HB7.out) (fun e => HGP.out e.symm));clear hx8 hT8 hg4))
 go_upto_region 5 with (first | ((with_reducible refine gate_store (t:=28) (p:=38) rfl ?_);refine store_box rfl rfl rfl (g:=p) (j:=5) (cs:=sideP { h with bs := [],fr := [],ev := [] } m 0 0 (.slice A7 h.fs.length c7) (.slice none 0 0) (.slice none 0 0) (.slice none 0 0)) (cs':=sideP { h with bs := [],fr := [],ev := [] } m 0 0 (.slice A7 h.fs.length c7) (.slice none 0 0) (.slice none 0 0) (.slice none 0 0)) (T:=128) (u:=(.slice none 0 0)) (seg := [(.slice none 0 0)]) rfl rfl HS8.out.blk rfl (by kernel_rfl) rfl rfl rfl ?_;intro w9 hx9 hT9;have HS9:=Lib.hid (HS8.out.put (x' := { h with bs := [],fr := [],ev := [] }) hT9 hx9 rfl rfl rfl rfl);have HX9:=Lib.hid (hT9.blk HX8.out (fun e => HGP.out e.symm));clear hx9 hT9))
 have hg5 : w9.cell? ⟨g,5,none⟩ = some (.slice Ab h.bs.length cb):=(blk_cell HX9.out 5).trans HC5.out
 go_wp2_with (fail)
 clear hg5 HS8 HX8 HR6 HB6 HN6 HR7 HB7 HS5 HX5
 go_loopw [42] (fun v42 wr => ∃ (i : Nat) (vb : Value) (bt : List S87),i ≤ h.bs.length ∧ v42 = .int .i64 i ∧ Aside0 (bt = h.bs.take i) ∧ Aside0 (SideP w0 wr p m { h with bs:=bt,fr := [],ev := [] } 0 0 (.slice A7 h.fs.length c7) vb (.slice none 0 0) (.slice none 0 0) (tagUp h.bs i).1 (tagUp h.bs i).2) ∧ Aside0 (wr.heap[g]? = some (.cells hc 32 (0,0)))) (fun v42 _ => h.bs.length - (intOf v42).toNat)
 case atStart => exact ⟨0,_, [],Nat.zero_le _,rfl,⟨rfl⟩,⟨HS9.out⟩,⟨HX9.out⟩⟩
 case round =>
  obtain ⟨i,vb,bt,hi,rfl,HBT,HSR,HXR⟩:=hrel
  by_cases hlt : i < h.bs.length
  ·have b2 : decide ((i : Int) < (h.bs.length : Int)) = true:=decide_eq_true (by omega)
   have p5 : (0 ≤ (i : Int)) = True:=eq_true (by omega)
   have q5 : ((i : Int) < (h.bs.length : Int)) = True:=eq_true (by omega)
   have qn : (i < h.bs.length) = True:=eq_true hlt
   have hn : wrap64 ((i : Int) + 1) = (i : Int) + 1:=by have:=SM.out.l2;unfold wrap64;omega
   have HLT:=Lib.hid hlt
   have HI:=Lib.hid hi
   have HN:=Lib.hid hn
   obtain ⟨ad,A8,c8,ea,k0,k1,k2,k3,k4,k5,k6,k7,l8,g8⟩:=at_T87 (Kd.C_below RB.out HSR.out.bel) (i : Int) (by omega) (by omega)
   subst ea
   clear hlt hi
   rw [Int.toNat_natCast] at k0 k1 k2 k3 k4 k5 k6 k7
   obtain ⟨b,hb⟩ : ∃ b,b = rd_T87 h.bs (i : Int):=⟨_,rfl⟩
   rw [← hb] at k0 k1 k2 k3 k4 k5 k6 k7 l8 g8
   have HBE:=Lib.hid hb
   have L8:=Lib.hid l8
   have G8:=Lib.hid g8
   have HD8 : Hid (b.f3.f4.length ≤ 10000000):=Lib.hid (by rw [hb];exact SM.out.d2 _ (List.mem_of_getElem? (getD_at h.bs i z87 HLT.out)))
   clear hb l8 g8
   go_upto_region 8 with (first | ((with_reducible refine gate_dst (N:=5) rfl ?_);refine box_event ?hg (N:=5) ?hd (cs := #[.int .i64 0, .int .i64 0, .int .i64 0, .bool false, .int .u32 0, .bool false, .int .i64 0, .slice none 0 0]) (t:=87) ?hr ?_;(case hd => rfl);(case hg => rfl);(case hr => first | (go_simp;done) | (go_simp;rfl));intro gb hgb wb hbox hbb;have HGB:=Lib.hid hgb;have HBX:=Lib.hid hbox;have HBB:=Lib.hid hbb;clear hgb hbox hbb) | ((with_reducible refine gate_store (t:=87) (p:=5) rfl ?_);refine store_box rfl rfl rfl (g:=gb) (j:=0) (cs := #[.int .i64 0, .int .i64 0, .int .i64 0, .bool false, .int .u32 0, .bool false, .int .i64 0, .slice none 0 0]) (cs' := #[.int .i64 b.f0, .int .i64 b.f1, .int .i64 b.f2, .bool b.f3.f0, .int .u32 b.f3.f1, .bool b.f3.f2, .int .i64 b.f3.f3, .slice A8 b.f3.f4.length c8]) (T:=87) (seg := [.int .i64 b.f0, .int .i64 b.f1, .int .i64 b.f2, .bool b.f3.f0, .int .u32 b.f3.f1, .bool b.f3.f2, .int .i64 b.f3.f3, .slice A8 b.f3.f4.length c8]) rfl rfl HBX.out rfl (by kernel_rfl) rfl rfl rfl ?_;intro wc hbx hT;have HBC:=Lib.hid hbx;have HTC : Hid (Below wr.heap.size wr wc):=Lib.hid (hT.below HBB.out HBB.out.size (fun k hk => by rw [hk,HGB.out];omega));clear hbx hT))
   have HSC:=Lib.hid (HSR.out.below HTC.out)
   have HXC:=Lib.hid (blk_below HXR.out HTC.out)
   clear k0 k1 k2 k3 k4 k5 k6 k7 HBX HBB
   have y3 : wc.cell? ⟨gb,3,none⟩ = some (.bool b.f3.f0):=blk_cell HBC.out 3
   have y4 : wc.cell? ⟨gb,4,none⟩ = some (.int .u32 b.f3.f1):=blk_cell HBC.out 4
   have y5 : wc.cell? ⟨gb,5,none⟩ = some (.bool b.f3.f2):=blk_cell HBC.out 5
   have y6 : wc.cell? ⟨gb,6,none⟩ = some (.int .i64 b.f3.f3):=blk_cell HBC.out 6
   have y7 : wc.cell? ⟨gb,7,none⟩ = some (.slice A8 b.f3.f4.length c8):=blk_cell HBC.out 7
   go_upto_region 9 with (first | (go_at_call 111;refine (copyFrame_v b.f3 A8 c8 wc (Kd.C_below G8.out HTC.out) L8.out HD8.out).mono ?_;rintro e wf ⟨A9,c9,rfl,hr9,hb9⟩;have HR9:=Lib.hid hr9;have HTF:=Lib.hid (below_then HTC.out HTC.out.size hb9);have HBF:=Lib.hid (blk_below HBC.out hb9);clear hr9 hb9) | ((with_reducible refine gate_store (t:=45) (p:=50) rfl ?_);refine store_box rfl rfl rfl (g:=gb) (j:=3) (cs := #[.int .i64 b.f0, .int .i64 b.f1, .int .i64 b.f2, .bool b.f3.f0, .int .u32 b.f3.f1, .bool b.f3.f2, .int .i64 b.f3.f3, .slice A8 b.f3.f4.length c8]) (cs' := #[.int .i64 b.f0, .int .i64 b.f1, .int .i64 b.f2, .bool b.f3.f0, .int .u32 b.f3.f1, .bool b.f3.f2, .int .i64 b.f3.f3, .slice A9 b.f3.f4.length c9]) (T:=87) (seg := [.bool b.f3.f0, .int .u32 b.f3.f1, .bool b.f3.f2, .int .i64 b.f3.f3, .slice A9 b.f3.f4.length c9]) rfl rfl HBF.out rfl (by kernel_rfl) rfl rfl rfl ?_;intro wg hbx hT;have HBG:=Lib.hid hbx;have HTG : Hid (Below wr.heap.size wr wg):=Lib.hid (hT.below HTF.out HTF.out.size (fun k hk => by rw [hk,HGB.out];omega));have HR10:=Lib.hid (R_tch HR9.out HBF.out (by decide) hT);clear hbx hT))
   clear y3 y4 y5 y6 y7 HR9 HBF HTF HSC HXC HBC
   have HMX : Hid ((k87).M wg w0.heap.size (fun k => wr.heap.size ≤ k) b [.int .i64 b.f0, .int .i64 b.f1, .int .i64 b.f2, .bool b.f3.f0, .int .u32 b.f3.f1, .bool b.f3.f2, .int .i64 b.f3.f3, .slice A9 b.f3.f4.length c9]):=Lib.hid (k87_mkM wg w0.heap.size _ b (Kd.R_lower (Kd.R_mono HR10.out (fun k hk => Nat.le_trans HTC.out.size hk)) (Nat.le_trans HSR.out.bel.size HTC.out.size)))
   clear HR10
   obtain ⟨o,HR⟩:=HSR.out.rows
   have HRo:=Lib.hid HR
   clear HR
   obtain ⟨Ab',cb',rfl⟩:=Kd.S_slice HRo.out.b
   obtain ⟨we,hwe⟩ : ∃ we,we = wg.drew:=⟨_,rfl⟩
   have HTE : Hid (Below wr.heap.size wr we):=by rw [hwe];exact Lib.hid (below_drew HTG.out)
   have HBE2 : Hid (we.heap[gb]? = some (.cells #[.int .i64 b.f0, .int .i64 b.f1, .int .i64 b.f2, .bool b.f3.f0, .int .u32 b.f3.f1, .bool b.f3.f2, .int .i64 b.f3.f3, .slice A9 b.f3.f4.length c9] 87 (0,0))):=by rw [hwe];exact Lib.hid (blk_drew HBG.out)
   have HME:=Lib.hid (Kd.M_below HMX.out (below_drew (Below.refl wg.heap.size wg)))
   rw [← hwe] at HME
   have HSE:=Lib.hid (HSR.out.below HTE.out)
   clear HBG HMX HTG
   refine start_ (n:=11) (S:=fun w' : World => w'.heap[p]? = some (.cells (sideP { h with bs:=bt,fr := [],ev := [] } m 0 0 (.slice A7 h.fs.length c7) (.slice Ab' bt.length cb') (.slice none 0 0) (.slice none 0 0)) 128 (0,0)) ∧ w'.heap[gb]? = some (.cells ⟨[.int .i64 b.f0, .int .i64 b.f1, .int .i64 b.f2, .bool b.f3.f0, .int .u32 b.f3.f1, .bool b.f3.f2, .int .i64 b.f3.f3, .slice A9 b.f3.f4.length c9]⟩ 87 (0,0))) (ds := [10]) #[false,false,false,false,false,false,false,false,false,false,false] (by kernel_rfl) rfl rfl (hwe ▸ ⟨HSE.out.blk,HBE2.out⟩) (fun hHeld => ?_)
   rw [← hwe] at hHeld ⊢
   clear hwe
   refine pure_ (i:=0) (N:=some 51) (v := ?_) (a' := ?_) #[true,false,false,false,false,false,false,false,false,false,false] rfl rfl (by kernel_rfl) (fun _ _ _ h => h) (Or.inl ⟨by rfl, ?_⟩) ?_ ?_
   rotate_left
   ·intro w'
    go_simp
    with_reducible rfl
   rotate_left
   ·simp only [Act.put,List.setIfInBounds_toArray,List.set_cons_zero,List.set_cons_succ,i64_w,i32_w]
    rfl
   refine pure_ (i:=1) (N:=some 52) (v := ?_) (a' := ?_) #[true,true,false,false,false,false,false,false,false,false,false] rfl rfl (by kernel_rfl) (fun _ _ _ h => h) (Or.inl ⟨by rfl, ?_⟩) ?_ ?_
   rotate_left
   ·intro w'
    go_simp
    with_reducible rfl
   rotate_left
   ·simp only [Act.put,List.setIfInBounds_toArray,List.set_cons_zero,List.set_cons_succ,i64_w,i32_w]
    rfl
   refine pure_ (i:=2) (N:=some 53) (v := ?_) (a' := ?_) #[true,true,true,false,false,false,false,false,false,false,false] rfl rfl (by kernel_rfl) (fun _ _ _ h => h) (Or.inl ⟨by rfl, ?_⟩) ?_ ?_
   rotate_left
   ·intro w'
    go_simp
    with_reducible rfl
   rotate_left
   ·simp only [Act.put,List.setIfInBounds_toArray,List.set_cons_zero,List.set_cons_succ,i64_w,i32_w]
    rfl
   refine pure_ (i:=3) (N:=some 54) (v := ?_) (a' := ?_) #[true,true,true,true,false,false,false,false,false,false,false] rfl rfl (by kernel_rfl) (fun _ _ _ h => h) (Or.inl ⟨by rfl, ?_⟩) ?_ ?_
   rotate_left
   ·intro w'
    go_simp
    with_reducible rfl
   rotate_left
   ·simp only [Act.put,List.setIfInBounds_toArray,List.set_cons_zero,List.set_cons_succ,i64_w,i32_w]
    rfl
   refine take_ (i:=4) (N:=some 55) (v := ?_) (a' := ?_) #[true,true,true,true,true,false,false,false,false,false,false] rfl rfl (by kernel_rfl) (fun _ _ _ h => h) (Or.inl ⟨by rfl, ?_⟩) hHeld ?_ ?_
   rotate_left
   ·rintro w' ⟨s0,s1⟩
    have e0 : w'.cell? ⟨p,5,none⟩ = some (.slice Ab' bt.length cb'):=blk_cell s0 5
    go_simp
    with_reducible rfl
   rotate_left
   ·simp only [Act.put,List.setIfInBounds_toArray,List.set_cons_zero,List.set_cons_succ,i64_w,i32_w]
    rfl
   refine take_ (i:=5) (N:=some 56) (v := ?_) (a' := ?_) #[true,true,true,true,true,true,false,false,false,false,false] rfl rfl (by kernel_rfl) (fun _ _ _ h => h) (Or.inl ⟨by rfl, ?_⟩) hHeld ?_ ?_
   rotate_left
   ·rintro w' ⟨s0,s1⟩
    have e0 : w'.cell? ⟨gb,0,none⟩ = some (.int .i64 b.f0):=blk_cell s1 0
    have e1 : w'.cell? ⟨gb,1,none⟩ = some (.int .i64 b.f1):=blk_cell s1 1
    have e2 : w'.cell? ⟨gb,2,none⟩ = some (.int .i64 b.f2):=blk_cell s1 2
    have e3 : w'.cell? ⟨gb,3,none⟩ = some (.bool b.f3.f0):=blk_cell s1 3
    have e4 : w'.cell? ⟨gb,4,none⟩ = some (.int .u32 b.f3.f1):=blk_cell s1 4
    have e5 : w'.cell? ⟨gb,5,none⟩ = some (.bool b.f3.f2):=blk_cell s1 5
    have e6 : w'.cell? ⟨gb,6,none⟩ = some (.int .i64 b.f3.f3):=blk_cell s1 6
    have e7 : w'.cell? ⟨gb,7,none⟩ = some (.slice A9 b.f3.f4.length c9):=blk_cell s1 7
    go_simp
    with_reducible rfl
   rotate_left
   ·simp only [Act.put,List.setIfInBounds_toArray,List.set_cons_zero,List.set_cons_succ,i64_w,i32_w]
    rfl
   refine one_ (i:=6) (N:=some 57) #[true,true,true,true,true,true,true,false,false,false,false] rfl rfl (by kernel_rfl) (by decide) (fun K hK => ?_)
   refine value_ (w1 := ?_) (v := ?_) (by rfl) rfl ?_ ?_
   rotate_left 2
   ·go_simp
    constructor
    ·rfl
    ·rfl
   refine hK.out _ _ ⟨blk_alloc HSE.out.blk _,blk_alloc HBE2.out _⟩ (fun hHeld => ?_)
   clear hK K
   refine norm_ (a' := ?_) ?_ ?_
   rotate_left
   ·show Act.put _ (some 57) _ = _
    simp only [Act.put,List.setIfInBounds_toArray,List.set_cons_zero,List.set_cons_succ,i64_w,i32_w]
    rfl
   refine one_ (i:=7) (N:=some 58) #[true,true,true,true,true,true,true,true,false,false,false] rfl rfl (by kernel_rfl) (by decide) (fun K hK => ?_)
   refine Kd.S_append_step k87 (w0:=w0) w0.heap.size (by rfl) (.tmp 55) (.tmp 57) 28 87 (.agg #[(.int .i64 0),(.int .i64 0),(.int .i64 0),(.bool false),(.int .u32 0),(.bool false),(.int .i64 0),(.slice none 0 0)]) 72 rfl Try.underlying28 info87 rfl (by decide) (by omega) (.slice Ab' bt.length cb') bt b [.int .i64 b.f0, .int .i64 b.f1, .int .i64 b.f2, .bool b.f3.f0, .int .u32 b.f3.f1, .bool b.f3.f2, .int .i64 b.f3.f3, .slice A9 b.f3.f4.length c9] (fun k => (o k = 1 ∧ k < wr.heap.size) ∨ wr.heap.size ≤ k) (fun k => wr.heap.size ≤ k) rfl rfl ?aP ?aK ?aF ?aO ?aB ?aS ?aL ?_
   (case aP => exact HME.out)
   (case aK => exact fun k hk => ⟨.inr hk,fun e => by have:=Kd.S_lt HRo.out.b k e.symm;omega⟩)
   (case aF => exact fun k hk => .inr (Nat.le_trans HTE.out.size hk))
   (case aO => exact Kd.S_mono (Kd.S_below (S_lt_own HRo.out.b) HTE.out) (fun k hk => ⟨.inl ⟨hk.1.2,hk.2⟩,by have:=hk.2;omega⟩))
   (case aB => exact HSE.out.bel)
   (case aS => exact HSE.out.bel.size)
   (case aL => have h1:=SM.out.l2;have h2:=HLT.out;have h3:=congrArg List.length HBT.out;rw [List.length_take] at h3;omega)
   intro v1 w2 hS hb hg hat
   have hnp : some p ≠ (Value.slice Ab' bt.length cb').ownBlock:=Kd.S_ne HRo.out.b HSR.out.blk (by decide)
   have hng : some gb ≠ (Value.slice Ab' bt.length cb').ownBlock:=fun e => by have h1:=Kd.S_lt HRo.out.b gb e.symm;have h2:=HGB.out;omega
   have HP2:=Lib.hid (blk_grown (g:=p) HSE.out.blk hg hnp)
   have HG2:=Lib.hid (blk_grown (g:=gb) HBE2.out hg hng)
   have HS2:=Lib.hid hS
   have HT2:=Lib.hid ((Tch.refl we (fun k => k = p ∨ some k = (Value.slice Ab' bt.length cb').ownBlock)).grown hg (fun k e => .inl (.inr e.symm)))
   clear hS hb hg hat hnp hng
   obtain ⟨A1,c1,rfl⟩:=Kd.S_slice HS2.out
   refine hK.out _ _ ⟨HP2.out,HG2.out⟩ (fun hHeld => ?_)
   clear hK K
   refine norm_ (a' := ?_) ?_ ?_
   rotate_left
   ·show Act.put _ (some 58) _ = _
    simp only [Act.put,List.setIfInBounds_toArray,List.set_cons_zero,List.set_cons_succ,i64_w,i32_w]
    rfl
   refine pure_ (i:=8) (N:=some 59) (v := ?_) (a' := ?_) #[true,true,true,true,true,true,true,true,true,false,false] rfl rfl (by kernel_rfl) (fun _ _ _ h => h) (Or.inl ⟨by rfl, ?_⟩) ?_ ?_
   rotate_left
   ·intro w'
    go_simp
    with_reducible rfl
   rotate_left
   ·simp only [Act.put,List.setIfInBounds_toArray,List.set_cons_zero,List.set_cons_succ,i64_w,i32_w]
    rfl
   refine pure_ (i:=9) (N:=some 60) (v := ?_) (a' := ?_) #[true,true,true,true,true,true,true,true,true,true,false] rfl rfl (by kernel_rfl) (fun _ _ _ h => h) (Or.inl ⟨by rfl, ?_⟩) ?_ ?_
   rotate_left
   ·intro w'
    go_simp
    with_reducible rfl
   rotate_left
   ·simp only [Act.put,List.setIfInBounds_toArray,List.set_cons_zero,List.set_cons_succ,i64_w,i32_w]
    rfl
   refine last_ (i:=10) (N:=none) #[true,true,true,true,true,true,true,true,true,true,true] rfl rfl (by kernel_rfl) (by decide) (fun K hK => ?_)
   refine st_one (by rfl) rfl rfl (g:=p) (j:=5) (cs:=sideP { h with bs:=bt,fr := [],ev := [] } m 0 0 (.slice A7 h.fs.length c7) (.slice Ab' bt.length cb') (.slice none 0 0) (.slice none 0 0)) (T:=128) (u:=(.slice A1 (bt ++ [b]).length c1)) (u0:=(.slice Ab' bt.length cb')) rfl rfl HP2.out rfl (by kernel_rfl) rfl rfl ?_
   intro w3 hx3 hT3
   have HS3 : Hid (SideP w0 w3 p m { h with bs:=bt ++ [b],fr := [],ev := [] } 0 0 (.slice A7 h.fs.length c7) (.slice A1 (bt ++ [b]).length c1) (.slice none 0 0) (.slice none 0 0) (tagUp h.bs i).1 (tagUp h.bs i).2):=Lib.hid (HSR.out.newB HRo.out HTE.out (HT2.out.trans (hT3.mono (fun k hk => .inl hk))) hx3 rfl (S_tch HS2.out HP2.out (by decide) hT3))
   have HG3:=Lib.hid (hT3.blk HG2.out (fun e => by have h1:=HGB.out;have h2:=blk_lt HSR.out.blk;omega))
   have HT3 : Hid (Tch wr w3 (fun k => k = p ∨ some k = (Value.slice Ab' bt.length cb').ownBlock)):=Lib.hid (((Tch.of_below _ HTE.out).trans HT2.out).trans (hT3.mono (fun k hk => .inl hk)))
   clear hx3 hT3
   refine hK.out _ _ ?_
   clear hK K
   refine done_ (by kernel_rfl) ?_
   have HXR3:=Lib.hid (HT3.out.blk HXR.out (by rintro (e | e);exact HGP.out e.symm;exact Kd.S_ne HRo.out.b HXR.out (by decide) e))
   obtain ⟨bk,hbk⟩ : ∃ bk,bk = bt ++ [b]:=⟨_,rfl⟩
   rw [← hbk] at HS3
   have HBK : Hid (bk = h.bs.take (i + 1)):=Lib.hid (by rw [hbk,HBT.out,HBE.out,List.take_add_one,getD_at h.bs i z87 HLT.out];rfl)
   clear hbk HS2 HT2 HP2 HG2 HSE HBE2 HME HTE HT3
   have z0 : w3.cell? ⟨gb,0,none⟩ = some (.int .i64 b.f0):=blk_cell HG3.out 0
   by_cases hz : b.f0 = 0
   ·have hz1 : (b.f0 != 0) = false:=by rw [hz];rfl
    have HZ:=Lib.hid hz
    clear hz
    go_wp2_with (fail)
    go_roundw
    case rel => exact ⟨i + 1,_,bk,HLT.out,by rw [HN.out];rfl,⟨HBK.out⟩,⟨by rw [tagUp_zero HBE.out HZ.out];exact HS3.out⟩,⟨HXR3.out⟩⟩
    case measure => rw [HN.out];have:=HLT.out;simp [intOf];omega
   ·have hz1 : (b.f0 != 0) = true:=bne_iff_ne.2 hz
    have HZ:=Lib.hid hz
    clear hz
    go_upto_region 11 with (fail)
    obtain ⟨wh,hwh⟩ : ∃ wh,wh = w3.drew:=⟨_,rfl⟩
    have HSh : Hid (SideP w0 wh p m { h with bs:=bk,fr := [],ev := [] } 0 0 (.slice A7 h.fs.length c7) (.slice A1 bk.length c1) (.slice none 0 0) (.slice none 0 0) (tagUp h.bs i).1 (tagUp h.bs i).2):=by rw [hwh];exact Lib.hid (HS3.out.below (below_drew (Below.refl _ _)))
    have HGh : Hid (wh.heap[gb]? = some (.cells ⟨[.int .i64 b.f0, .int .i64 b.f1, .int .i64 b.f2, .bool b.f3.f0, .int .u32 b.f3.f1, .bool b.f3.f2, .int .i64 b.f3.f3, .slice A9 b.f3.f4.length c9]⟩ 87 (0,0))):=by rw [hwh];exact Lib.hid (blk_drew HG3.out)
    have HXh : Hid (wh.heap[g]? = some (.cells hc 32 (0,0))):=by rw [hwh];exact Lib.hid (blk_drew HXR3.out)
    obtain ⟨wu,hup,hmu,hTu⟩:=update_run (P:=Try.prog) Try.underlying122 Try.underlying3 HSh.out.map b.f1 (i : Int)
    have HSu:=Lib.hid (HSh.out.mapped hTu hmu)
    have HXu:=Lib.hid (hTu.blk HXh.out HGM.out)
    clear hmu hTu z0
    refine start_ (n:=8) (S:=fun w' : World => w'.heap[p]? = some (.cells (sideP { h with bs:=bk,fr := [],ev := [] } m 0 0 (.slice A7 h.fs.length c7) (.slice A1 bk.length c1) (.slice none 0 0) (.slice none 0 0)) 128 (0,0)) ∧ w'.heap[gb]? = some (.cells ⟨[.int .i64 b.f0, .int .i64 b.f1, .int .i64 b.f2, .bool b.f3.f0, .int .u32 b.f3.f1, .bool b.f3.f2, .int .i64 b.f3.f3, .slice A9 b.f3.f4.length c9]⟩ 87 (0,0))) (ds := [7]) #[false,false,false,false,false,false,false,false] (by kernel_rfl) rfl rfl (hwh ▸ ⟨HSh.out.blk,HGh.out⟩) (fun hHeld => ?_)
    rw [← hwh] at hHeld ⊢
    clear hwh
    refine pure_ (i:=0) (N:=some 64) (v := ?_) (a' := ?_) #[true,false,false,false,false,false,false,false] rfl rfl (by kernel_rfl) (fun _ _ _ h => h) (Or.inl ⟨by rfl, ?_⟩) ?_ ?_
    rotate_left
    ·intro w'
     go_simp
     with_reducible rfl
    rotate_left
    ·simp only [Act.put,List.setIfInBounds_toArray,List.set_cons_zero,List.set_cons_succ,i64_w,i32_w]
     rfl
    refine pure_ (i:=1) (N:=some 65) (v := ?_) (a' := ?_) #[true,true,false,false,false,false,false,false] rfl rfl (by kernel_rfl) (fun _ _ _ h => h) (Or.inl ⟨by rfl, ?_⟩) ?_ ?_
    rotate_left
    ·intro w'
     go_simp
     with_reducible rfl
    rotate_left
    ·simp only [Act.put,List.setIfInBounds_toArray,List.set_cons_zero,List.set_cons_succ,i64_w,i32_w]
     rfl
    refine pure_ (i:=2) (N:=some 66) (v := ?_) (a' := ?_) #[true,true,true,false,false,false,false,false] rfl rfl (by kernel_rfl) (fun _ _ _ h => h) (Or.inl ⟨by rfl, ?_⟩) ?_ ?_
    rotate_left
    ·intro w'
     go_simp
     with_reducible rfl
    rotate_left
    ·simp only [Act.put,List.setIfInBounds_toArray,List.set_cons_zero,List.set_cons_succ,i64_w,i32_w]
     rfl
    refine take_ (i:=3) (N:=some 67) (v := ?_) (a' := ?_) #[true,true,true,true,false,false,false,false] rfl rfl (by kernel_rfl) (fun _ _ _ h => h) (Or.inl ⟨by rfl, ?_⟩) hHeld ?_ ?_
    rotate_left
    ·rintro w' ⟨s0,s1⟩
     have e0 : w'.cell? ⟨p,6,none⟩ = some (.map (some m)):=blk_cell s0 6
     go_simp
     with_reducible rfl
    rotate_left
    ·simp only [Act.put,List.setIfInBounds_toArray,List.set_cons_zero,List.set_cons_succ,i64_w,i32_w]
     rfl
    refine pure_ (i:=4) (N:=some 68) (v := ?_) (a' := ?_) #[true,true,true,true,true,false,false,false] rfl rfl (by kernel_rfl) (fun _ _ _ h => h) (Or.inl ⟨by rfl, ?_⟩) ?_ ?_
    rotate_left
    ·intro w'
     go_simp
     with_reducible rfl
    rotate_left
    ·simp only [Act.put,List.setIfInBounds_toArray,List.set_cons_zero,List.set_cons_succ,i64_w,i32_w]
     rfl
    refine take_ (i:=5) (N:=some 69) (v := ?_) (a' := ?_) #[true,true,true,true,true,true,false,false] rfl rfl (by kernel_rfl) (fun _ _ _ h => h) (Or.inl ⟨by rfl, ?_⟩) hHeld ?_ ?_
    rotate_left
    ·rintro w' ⟨s0,s1⟩
     have e0 : w'.cell? ⟨gb,1,none⟩ = some (.int .i64 b.f1):=blk_cell s1 1
     go_simp
     with_reducible rfl
    rotate_left
    ·simp only [Act.put,List.setIfInBounds_toArray,List.set_cons_zero,List.set_cons_succ,i64_w,i32_w]
     rfl
    refine pure_ (i:=6) (N:=some 70) (v := ?_) (a' := ?_) #[true,true,true,true,true,true,true,false] rfl rfl (by kernel_rfl) (fun _ _ _ h => h) (Or.inl ⟨by rfl, ?_⟩) ?_ ?_
    rotate_left
    ·intro w'
     go_simp
     with_reducible rfl
    rotate_left
    ·simp only [Act.put,List.setIfInBounds_toArray,List.set_cons_zero,List.set_cons_succ,i64_w,i32_w]
     rfl
    refine last_ (i:=7) (N:=none) #[true,true,true,true,true,true,true,true] rfl rfl (by kernel_rfl) (by decide) (fun K hK => ?_)
    refine skip_ (w1:=wu) (by rfl) rfl ?_ ?_
    ·go_simp
    refine hK.out _ _ ?_
    clear hK K
    refine done_ (by kernel_rfl) ?_
    clear hup
    go_wp2_with (fail)
    go_roundw
    case rel => exact ⟨i + 1,_,bk,HLT.out,by rw [HN.out];rfl,⟨HBK.out⟩,⟨by rw [tagUp_next HBE.out HZ.out];exact HSu.out⟩,⟨HXu.out⟩⟩
    case measure => rw [HN.out];have:=HLT.out;simp [intOf];omega
  ·have hii : i = h.bs.length:=by omega
   have HBTT : Hid (bt = h.bs):=Lib.hid (by rw [HBT.out,hii,List.take_length])
   have b2 : decide ((i : Int) < (h.bs.length : Int)) = false:=decide_eq_false (by omega)
   have qn : (i < h.bs.length) = False:=eq_false hlt
   have HSq : Hid (SideP w0 wr p m { h with fr := [],ev := [] } 0 0 (.slice A7 h.fs.length c7) vb (.slice none 0 0) (.slice none 0 0) (tagUp h.bs h.bs.length).1 (tagUp h.bs h.bs.length).2):=Lib.hid (by have e:=HSR.out;rw [HBTT.out,hii] at e;exact e)
   clear hlt hi HSR hii
   go_upto_region 13 with (fail)
   obtain ⟨wd,hwd⟩ : ∃ wd,wd = wr.drew:=⟨_,rfl⟩
   have HSd : Hid (SideP w0 wd p m { h with fr := [],ev := [] } 0 0 (.slice A7 h.fs.length c7) vb (.slice none 0 0) (.slice none 0 0) (tagUp h.bs h.bs.length).1 (tagUp h.bs h.bs.length).2):=by rw [hwd];exact Lib.hid (HSq.out.below (below_drew (Below.refl _ _)))
   have HXd : Hid (wd.heap[g]? = some (.cells hc 32 (0,0))):=by rw [hwd];exact Lib.hid (blk_drew HXR.out)
   clear HSq HXR
   refine start_ (n:=16) (S:=fun w' : World => w'.heap[g]? = some (.cells hc 32 (0,0))) (ds := [15]) #[false,false,false,false,false,false,false,false,false,false,false,false,false,false,false,false] (by kernel_rfl) rfl rfl (hwd ▸ HXd.out) (fun hHeld => ?_)
   rw [← hwd] at hHeld ⊢
   clear hwd
   refine pure_ (i:=0) (N:=some 72) (v := ?_) (a' := ?_) #[true,false,false,false,false,false,false,false,false,false,false,false,false,false,false,false] rfl rfl (by kernel_rfl) (fun _ _ _ h => h) (Or.inl ⟨by rfl, ?_⟩) ?_ ?_
   rotate_left
   ·intro w'
    go_simp
    with_reducible rfl
   rotate_left
   ·simp only [Act.put,List.setIfInBounds_toArray,List.set_cons_zero,List.set_cons_succ,i64_w,i32_w]
    rfl
   refine pure_ (i:=1) (N:=some 73) (v := ?_) (a' := ?_) #[true,true,false,false,false,false,false,false,false,false,false,false,false,false,false,false] rfl rfl (by kernel_rfl) (fun _ _ _ h => h) (Or.inl ⟨by rfl, ?_⟩) ?_ ?_
   rotate_left
   ·intro w'
    go_simp
    with_reducible rfl
   rotate_left
   ·simp only [Act.put,List.setIfInBounds_toArray,List.set_cons_zero,List.set_cons_succ,i64_w,i32_w]
    rfl
   refine pure_ (i:=2) (N:=some 74) (v := ?_) (a' := ?_) #[true,true,true,false,false,false,false,false,false,false,false,false,false,false,false,false] rfl rfl (by kernel_rfl) (fun _ _ _ h => h) (Or.inl ⟨by rfl, ?_⟩) ?_ ?_
   rotate_left
   ·intro w'
    go_simp
    with_reducible rfl
   rotate_left
   ·simp only [Act.put,List.setIfInBounds_toArray,List.set_cons_zero,List.set_cons_succ,i64_w,i32_w]
    rfl
   refine pure_ (i:=3) (N:=some 75) (v := ?_) (a' := ?_) #[true,true,true,true,false,false,false,false,false,false,false,false,false,false,false,false] rfl rfl (by kernel_rfl) (fun _ _ _ h => h) (Or.inl ⟨by rfl, ?_⟩) ?_ ?_
   rotate_left
   ·intro w'
    go_simp
    with_reducible rfl
   rotate_left
   ·simp only [Act.put,List.setIfInBounds_toArray,List.set_cons_zero,List.set_cons_succ,i64_w,i32_w]
    rfl
   refine take_ (i:=4) (N:=some 76) (v := ?_) (a' := ?_) #[true,true,true,true,true,false,false,false,false,false,false,false,false,false,false,false] rfl rfl (by kernel_rfl) (fun _ _ _ h => h) (Or.inl ⟨by rfl, ?_⟩) hHeld ?_ ?_
   rotate_left
   ·intro w' s0
    have e1 : w'.cell? ⟨g,1,none⟩ = some (.int .i64 h.cf):=(blk_cell s0 1).trans HC1.out
    go_simp
    with_reducible rfl
   rotate_left
   ·simp only [Act.put,List.setIfInBounds_toArray,List.set_cons_zero,List.set_cons_succ,i64_w,i32_w]
    rfl
   refine pure_ (i:=5) (N:=some 77) (v := ?_) (a' := ?_) #[true,true,true,true,true,true,false,false,false,false,false,false,false,false,false,false] rfl rfl (by kernel_rfl) (fun _ _ _ h => h) (Or.inl ⟨by rfl, ?_⟩) ?_ ?_
   rotate_left
   ·intro w'
    go_simp
    with_reducible rfl
   rotate_left
   ·simp only [Act.put,List.setIfInBounds_toArray,List.set_cons_zero,List.set_cons_succ,i64_w,i32_w]
    rfl
   refine pure_ (i:=6) (N:=some 78) (v := ?_) (a' := ?_) #[true,true,true,true,true,true,true,false,false,false,false,false,false,false,false,false] rfl rfl (by kernel_rfl) (fun _ _ _ h => h) (Or.inl ⟨by rfl, ?_⟩) ?_ ?_
   rotate_left
   ·intro w'
    go_simp
    with_reducible rfl
   rotate_left
   ·simp only [Act.put,List.setIfInBounds_toArray,List.set_cons_zero,List.set_cons_succ,i64_w,i32_w]
    rfl
   refine pure_ (i:=7) (N:=some 79) (v := ?_) (a' := ?_) #[true,true,true,true,true,true,true,true,false,false,false,false,false,false,false,false] rfl rfl (by kernel_rfl) (fun _ _ _ h => h) (Or.inl ⟨by rfl, ?_⟩) ?_ ?_
   rotate_left
   ·intro w'
    go_simp
    with_reducible rfl
   rotate_left
   ·simp only [Act.put,List.setIfInBounds_toArray,List.set_cons_zero,List.set_cons_succ,i64_w,i32_w]
    rfl
   refine take_ (i:=8) (N:=some 80) (v := ?_) (a' := ?_) #[true,true,true,true,true,true,true,true,true,false,false,false,false,false,false,false] rfl rfl (by kernel_rfl) (fun _ _ _ h => h) (Or.inl ⟨by rfl, ?_⟩) hHeld ?_ ?_
   rotate_left
   ·intro w' s0
    have e3 : w'.cell? ⟨g,3,none⟩ = some (.int .i64 h.ce):=(blk_cell s0 3).trans HC3.out
    go_simp
    with_reducible rfl
   rotate_left
   ·simp only [Act.put,List.setIfInBounds_toArray,List.set_cons_zero,List.set_cons_succ,i64_w,i32_w]
    rfl
   refine pure_ (i:=9) (N:=some 81) (v := ?_) (a' := ?_) #[true,true,true,true,true,true,true,true,true,true,false,false,false,false,false,false] rfl rfl (by kernel_rfl) (fun _ _ _ h => h) (Or.inl ⟨by rfl, ?_⟩) ?_ ?_
   rotate_left
   ·intro w'
    go_simp
    with_reducible rfl
   rotate_left
   ·simp only [Act.put,List.setIfInBounds_toArray,List.set_cons_zero,List.set_cons_succ,i64_w,i32_w]
    rfl
   refine pure_ (i:=10) (N:=some 82) (v := ?_) (a' := ?_) #[true,true,true,true,true,true,true,true,true,true,true,false,false,false,false,false] rfl rfl (by kernel_rfl) (fun _ _ _ h => h) (Or.inl ⟨by rfl, ?_⟩) ?_ ?_
   rotate_left
   ·intro w'
    go_simp
    with_reducible rfl
   rotate_left
   ·simp only [Act.put,List.setIfInBounds_toArray,List.set_cons_zero,List.set_cons_succ,i64_w,i32_w]
    rfl
   refine pure_ (i:=11) (N:=some 83) (v := ?_) (a' := ?_) #[true,true,true,true,true,true,true,true,true,true,true,true,false,false,false,false] rfl rfl (by kernel_rfl) (fun _ _ _ h => h) (Or.inl ⟨by rfl, ?_⟩) ?_ ?_
   rotate_left
   ·intro w'
    go_simp
    with_reducible rfl
   rotate_left
   ·simp only [Act.put,List.setIfInBounds_toArray,List.set_cons_zero,List.set_cons_succ,i64_w,i32_w]
    rfl
   refine one_ (i:=12) (N:=none) #[true,true,true,true,true,true,true,true,true,true,true,true,true,false,false,false] rfl rfl (by kernel_rfl) (by decide) (fun K hK => ?_)
   refine st_blk (by rfl) rfl rfl (g:=p) (j:=7) (cs:=sideP { h with fr := [],ev := [] } m 0 0 (.slice A7 h.fs.length c7) vb (.slice none 0 0) (.slice none 0 0)) (cs':=sideP { h with fr := [],ev := [] } m h.cf 0 (.slice A7 h.fs.length c7) vb (.slice none 0 0) (.slice none 0 0)) (T:=128) (u := .agg #[.int .i64 h.cf,(.slice none 0 0)]) (seg := [.int .i64 h.cf,(.slice none 0 0)]) rfl rfl HSd.out.blk rfl (by kernel_rfl) rfl rfl rfl ?_
   intro wa hxa hTa
   have HSa:=Lib.hid (HSd.out.put (x' := { h with fr := [],ev := [] }) hTa hxa rfl rfl rfl rfl)
   have HXa:=Lib.hid (hTa.blk HXd.out (fun e => HGP.out e.symm))
   clear hxa hTa
   refine hK.out _ _ HXa.out (fun hHeld => ?_)
   clear hK K
   refine pure_ (i:=13) (N:=some 84) (v := ?_) (a' := ?_) #[true,true,true,true,true,true,true,true,true,true,true,true,true,true,false,false] rfl rfl (by kernel_rfl) (fun _ _ _ h => h) (Or.inl ⟨by rfl, ?_⟩) ?_ ?_
   rotate_left
   ·intro w'
    go_simp
    with_reducible rfl
   rotate_left
   ·simp only [Act.put,List.setIfInBounds_toArray,List.set_cons_zero,List.set_cons_succ,i64_w,i32_w]
    rfl
   refine pure_ (i:=14) (N:=some 85) (v := ?_) (a' := ?_) #[true,true,true,true,true,true,true,true,true,true,true,true,true,true,true,false] rfl rfl (by kernel_rfl) (fun _ _ _ h => h) (Or.inl ⟨by rfl, ?_⟩) ?_ ?_
   rotate_left
   ·intro w'
    go_simp
    with_reducible rfl
   rotate_left
   ·simp only [Act.put,List.setIfInBounds_toArray,List.set_cons_zero,List.set_cons_succ,i64_w,i32_w]
    rfl
   refine last_ (i:=15) (N:=none) #[true,true,true,true,true,true,true,true,true,true,true,true,true,true,true,true] rfl rfl (by kernel_rfl) (by decide) (fun K hK => ?_)
   refine st_blk (by rfl) rfl rfl (g:=p) (j:=9) (cs:=sideP { h with fr := [],ev := [] } m h.cf 0 (.slice A7 h.fs.length c7) vb (.slice none 0 0) (.slice none 0 0)) (cs':=sideP { h with fr := [],ev := [] } m h.cf h.ce (.slice A7 h.fs.length c7) vb (.slice none 0 0) (.slice none 0 0)) (T:=128) (u := .agg #[.int .i64 h.ce,(.slice none 0 0)]) (seg := [.int .i64 h.ce,(.slice none 0 0)]) rfl rfl HSa.out.blk rfl (by kernel_rfl) rfl rfl rfl ?_
   intro wb hxb hTb
   have HSb:=Lib.hid (HSa.out.put (x' := { h with fr := [],ev := [] }) hTb hxb rfl rfl rfl rfl)
   have HXb:=Lib.hid (hTb.blk HXa.out (fun e => HGP.out e.symm))
   clear hxb hTb
   refine hK.out _ _ ?_
   clear hK K
   refine done_ (by kernel_rfl) ?_
   clear HSd HXd HSa HXa
   have hg6 : wb.cell? ⟨g,6,none⟩ = some (.slice Aq h.fr.length cq):=(blk_cell HXb.out 6).trans HC6.out
   go_wp2_with (fail)
   clear hg6
   go_loopw [89] (fun v89 wr => ∃ (i : Nat) (vq : Value) (qt : List S45),i ≤ h.fr.length ∧ v89 = .int .i64 i ∧ Aside0 (qt = h.fr.take i) ∧ Aside0 (SideP w0 wr p m { h with fr:=qt,ev := [] } h.cf h.ce (.slice A7 h.fs.length c7) vb vq (.slice none 0 0) (tagUp h.bs h.bs.length).1 (tagUp h.bs h.bs.length).2) ∧ Aside0 (wr.heap[g]? = some (.cells hc 32 (0,0)))) (fun v89 _ => h.fr.length - (intOf v89).toNat)
   case atStart => exact ⟨0,_, [],Nat.zero_le _,rfl,⟨rfl⟩,⟨HSb.out⟩,⟨HXb.out⟩⟩
   case round =>
    clear HSb HXb HBT HBTT b2 qn
    obtain ⟨i,vq,qt,hi,rfl,HQT,HSR,HXR⟩:=hrel
    by_cases hlt : i < h.fr.length
    ·have b2 : decide ((i : Int) < (h.fr.length : Int)) = true:=decide_eq_true (by omega)
     have p5 : (0 ≤ (i : Int)) = True:=eq_true (by omega)
     have q5 : ((i : Int) < (h.fr.length : Int)) = True:=eq_true (by omega)
     have qn : (i < h.fr.length) = True:=eq_true hlt
     have hn : wrap64 ((i : Int) + 1) = (i : Int) + 1:=by have:=SM.out.l3;unfold wrap64;omega
     have HLT:=Lib.hid hlt
     have HI:=Lib.hid hi
     have HN:=Lib.hid hn
     obtain ⟨ad,A8,c8,ea,k0,k1,k2,k3,k4,l8,g8⟩:=at_T45 (Kd.C_below RQ.out HSR.out.bel) (i : Int) (by omega) (by omega)
     subst ea
     clear hlt hi
     rw [Int.toNat_natCast] at k0 k1 k2 k3 k4
     obtain ⟨b,hb⟩ : ∃ b,b = rd_T45 h.fr (i : Int):=⟨_,rfl⟩
     rw [← hb] at k0 k1 k2 k3 k4 l8 g8
     have HBE:=Lib.hid hb
     have L8:=Lib.hid l8
     have G8:=Lib.hid g8
     have HD8 : Hid (b.f4.length ≤ 10000000):=Lib.hid (by rw [hb];exact SM.out.d3 _ (List.mem_of_getElem? (getD_at h.fr i z45 HLT.out)))
     clear hb l8 g8
     go_upto_region 17 with (first | ((with_reducible refine gate_dst (N:=7) rfl ?_);refine box_event ?hg (N:=7) ?hd (cs := #[.bool false, .int .u32 0, .bool false, .int .i64 0, .slice none 0 0]) (t:=45) ?hr ?_;(case hd => rfl);(case hg => rfl);(case hr => first | (go_simp;done) | (go_simp;rfl));intro gb hgb wb hbox hbb;have HGB:=Lib.hid hgb;have HBX:=Lib.hid hbox;have HBB:=Lib.hid hbb;clear hgb hbox hbb) | ((with_reducible refine gate_store (t:=45) (p:=7) rfl ?_);refine store_box rfl rfl rfl (g:=gb) (j:=0) (cs := #[.bool false, .int .u32 0, .bool false, .int .i64 0, .slice none 0 0]) (cs' := #[.bool b.f0, .int .u32 b.f1, .bool b.f2, .int .i64 b.f3, .slice A8 b.f4.length c8]) (T:=45) (seg := [.bool b.f0, .int .u32 b.f1, .bool b.f2, .int .i64 b.f3, .slice A8 b.f4.length c8]) rfl rfl HBX.out rfl (by kernel_rfl) rfl rfl rfl ?_;intro wc hbx hT;have HBC:=Lib.hid hbx;have HTC : Hid (Below wr.heap.size wr wc):=Lib.hid (hT.below HBB.out HBB.out.size (fun k hk => by rw [hk,HGB.out];omega));clear hbx hT))
     clear k0 k1 k2 k3 k4 HBX HBB
     obtain ⟨o,HR⟩:=HSR.out.rows
     have HRo:=Lib.hid HR
     clear HR
     obtain ⟨Aq',cq',rfl⟩:=Kd.S_slice HRo.out.q
     obtain ⟨we,hwe⟩ : ∃ we,we = wc.drew:=⟨_,rfl⟩
     have HTE : Hid (Below wr.heap.size wr we):=by rw [hwe];exact Lib.hid (below_drew HTC.out)
     have HBE2 : Hid (we.heap[gb]? = some (.cells ⟨[.bool b.f0, .int .u32 b.f1, .bool b.f2, .int .i64 b.f3, .slice A8 b.f4.length c8]⟩ 45 (0,0))):=by rw [hwe];exact Lib.hid (blk_drew HBC.out)
     have HSE:=Lib.hid (HSR.out.below HTE.out)
     clear HBC HTC
     refine start_ (n:=6) (S:=fun w' : World => w'.heap[p]? = some (.cells (sideP { h with fr:=qt,ev := [] } m h.cf h.ce (.slice A7 h.fs.length c7) vb (.slice Aq' qt.length cq') (.slice none 0 0)) 128 (0,0)) ∧ w'.heap[gb]? = some (.cells ⟨[.bool b.f0, .int .u32 b.f1, .bool b.f2, .int .i64 b.f3, .slice A8 b.f4.length c8]⟩ 45 (0,0))) (ds := [5]) #[false,false,false,false,false,false] (by kernel_rfl) rfl rfl (hwe ▸ ⟨HSE.out.blk,HBE2.out⟩) (fun hHeld => ?_)
     rw [← hwe] at hHeld ⊢
     clear hwe
     refine pure_ (i:=0) (N:=some 93) (v := ?_) (a' := ?_) #[true,false,false,false,false,false] rfl rfl (by kernel_rfl) (fun _ _ _ h => h) (Or.inl ⟨by rfl, ?_⟩) ?_ ?_
     rotate_left
     ·intro w'
      go_simp
      with_reducible rfl
     rotate_left
     ·simp only [Act.put,List.setIfInBounds_toArray,List.set_cons_zero,List.set_cons_succ,i64_w,i32_w]
      rfl
     refine pure_ (i:=1) (N:=some 94) (v := ?_) (a' := ?_) #[true,true,false,false,false,false] rfl rfl (by kernel_rfl) (fun _ _ _ h => h) (Or.inl ⟨by rfl, ?_⟩) ?_ ?_
     rotate_left
     ·intro w'
      go_simp
      with_reducible rfl
     rotate_left
     ·simp only [Act.put,List.setIfInBounds_toArray,List.set_cons_zero,List.set_cons_succ,i64_w,i32_w]
      rfl
     refine pure_ (i:=2) (N:=some 95) (v := ?_) (a' := ?_) #[true,true,true,false,false,false] rfl rfl (by kernel_rfl) (fun _ _ _ h => h) (Or.inl ⟨by rfl, ?_⟩) ?_ ?_
     rotate_left
     ·intro w'
      go_simp
      with_reducible rfl
     rotate_left
     ·simp only [Act.put,List.setIfInBounds_toArray,List.set_cons_zero,List.set_cons_succ,i64_w,i32_w]
      rfl
     refine take_ (i:=3) (N:=some 96) (v := ?_) (a' := ?_) #[true,true,true,true,false,false] rfl rfl (by kernel_rfl) (fun _ _ _ h => h) (Or.inl ⟨by rfl, ?_⟩) hHeld ?_ ?_
     rotate_left
     ·rintro w' ⟨s0,s1⟩
      have e0 : w'.cell? ⟨gb,0,none⟩ = some (.bool b.f0):=blk_cell s1 0
      have e1 : w'.cell? ⟨gb,1,none⟩ = some (.int .u32 b.f1):=blk_cell s1 1
      have e2 : w'.cell? ⟨gb,2,none⟩ = some (.bool b.f2):=blk_cell s1 2
      have e3 : w'.cell? ⟨gb,3,none⟩ = some (.int .i64 b.f3):=blk_cell s1 3
      have e4 : w'.cell? ⟨gb,4,none⟩ = some (.slice A8 b.f4.length c8):=blk_cell s1 4
      go_simp
      with_reducible rfl
     rotate_left
     ·simp only [Act.put,List.setIfInBounds_toArray,List.set_cons_zero,List.set_cons_succ,i64_w,i32_w]
      rfl
     refine one_ (i:=4) (N:=some 97) #[true,true,true,true,true,false] rfl rfl (by kernel_rfl) (by decide) (fun K hK => ?_)
     refine goes_ Try.func111 (by kernel_rfl) rfl #[.agg #[.bool b.f0, .int .u32 b.f1, .bool b.f2, .int .i64 b.f3, .slice A8 b.f4.length c8]] (by rfl) rfl rfl (by (try simp only [List.map_toArray,List.map_cons,List.map_nil]);first | done | rfl) ?_
     refine (copyFrame_v b A8 c8 we (Kd.C_below G8.out HTE.out) L8.out HD8.out).mono ?_
     rintro e wf ⟨A9,c9,rfl,hr9,hb9⟩
     refine ⟨_,rfl, ?_⟩
     have HR9:=Lib.hid hr9
     have HTF:=Lib.hid (below_then HTE.out HTE.out.size hb9)
     have HBF:=Lib.hid (blk_below HBE2.out hb9)
     clear hr9 hb9
     have HSF:=Lib.hid (HSR.out.below HTF.out)
     refine hK.out _ _ ⟨HSF.out.blk,HBF.out⟩ (fun hHeld => ?_)
     clear hK K
     refine norm_ (a' := ?_) ?_ ?_
     rotate_left
     ·show Act.put _ (some 97) _ = _
      simp only [Act.put,List.setIfInBounds_toArray,List.set_cons_zero,List.set_cons_succ,i64_w,i32_w]
      rfl
     refine last_ (i:=5) (N:=some 98) #[true,true,true,true,true,true] rfl rfl (by kernel_rfl) (by decide) (fun K hK => ?_)
     refine goes_ Try.func139 (by kernel_rfl) rfl #[.pointer (some ⟨p,7,none⟩), .agg #[.bool b.f0, .int .u32 b.f1, .bool b.f2, .int .i64 b.f3, .slice A9 b.f4.length c9]] (by rfl) rfl rfl (by (try simp only [List.map_toArray,List.map_cons,List.map_nil]);first | done | rfl) ?_
     refine (pushQ_v w0 wf p 7 (sideP { h with fr:=qt,ev := [] } m h.cf h.ce (.slice A7 h.fs.length c7) vb (.slice Aq' qt.length cq') (.slice none 0 0)) 128 h.cf (.slice Aq' qt.length cq') qt b [.bool b.f0, .int .u32 b.f1, .bool b.f2, .int .i64 b.f3, .slice A9 b.f4.length c9] (fun k => o k = 2 ∧ k < wr.heap.size) (fun k => wr.heap.size ≤ k) HSF.out.bel HSF.out.blk HSF.out.hp ⟨by decide,by decide⟩ rfl rfl CF.out ?hln (Kd.S_mono (Kd.S_below (S_lt_own HRo.out.q) HTF.out) (fun k hk => ⟨hk.1.2,hk.2⟩)) (k45_mkM wf w0.heap.size _ b (Kd.R_lower (Kd.R_mono HR9.out (fun k hk => Nat.le_trans HTE.out.size hk)) (Nat.le_trans HSR.out.bel.size HTE.out.size))) (fun k h1 h2 => by have:=h2.2;omega)).mono ?_
     (case hln => have h1:=congrArg List.length HQT.out;rw [List.length_take] at h1;have h2:=SM.out.l3;omega)
     rintro e w3 ⟨h1,_⟩
     obtain ⟨rfl,v3,hx3,hS3,hT3⟩:=h1 (by have h1:=congrArg List.length HQT.out;rw [List.length_take] at h1;have h2:=HLT.out;have h3:=HLQ.out;omega)
     refine ⟨_,rfl, ?_⟩
     have HS3:=Lib.hid (HSR.out.newQ (x' := { h with fr:=qt ++ [b],ev := [] }) HRo.out HTF.out hT3 hx3 rfl (Kd.S_mono hS3 (fun k hk => by rcases hk with hk | hk | hk;exact .inl hk;exact .inr hk;exact .inr (Nat.le_trans HTF.out.size hk))))
     have HX3:=Lib.hid (hT3.blk (blk_below HXR.out HTF.out) (by rintro (e | e);exact HGP.out e.symm;exact Kd.S_ne HRo.out.q HXR.out (by decide) e))
     clear h1 hx3 hS3 hT3
     refine hK.out _ _ ?_
     clear hK K
     refine done_ (by kernel_rfl) ?_
     clear HBE2 HSE HBF HSF HR9 HTF HTE
     obtain ⟨bk,hbk⟩ : ∃ bk,bk = qt ++ [b]:=⟨_,rfl⟩
     rw [← hbk] at HS3
     have HBK : Hid (bk = h.fr.take (i + 1)):=Lib.hid (by rw [hbk,HQT.out,HBE.out,List.take_add_one,getD_at h.fr i z45 HLT.out];rfl)
     clear hbk
     go_wp2_with (fail)
     go_roundw
     case rel => exact ⟨i + 1,_,bk,HLT.out,by rw [HN.out];rfl,⟨HBK.out⟩,⟨HS3.out⟩,⟨HX3.out⟩⟩
     case measure => rw [HN.out];have:=HLT.out;simp [intOf];omega
    ·have hii : i = h.fr.length:=by omega
     have HQTT : Hid (qt = h.fr):=Lib.hid (by rw [HQT.out,hii,List.take_length])
     have b2 : decide ((i : Int) < (h.fr.length : Int)) = false:=decide_eq_false (by omega)
     have qn : (i < h.fr.length) = False:=eq_false hlt
     have HSq : Hid (SideP w0 wr p m { h with ev := [] } h.cf h.ce (.slice A7 h.fs.length c7) vb vq (.slice none 0 0) (tagUp h.bs h.bs.length).1 (tagUp h.bs h.bs.length).2):=Lib.hid (by have e:=HSR.out;rw [HQTT.out] at e;exact e)
     have hg7 : wr.cell? ⟨g,7,none⟩ = some (.slice Ae h.ev.length ce):=(blk_cell HXR.out 7).trans HC7.out
     clear hlt hi HSR hii
     go_wp2_with (fail)
     clear hg7
     go_loopw [103] (fun v103 wr => ∃ (i : Nat) (ve : Value) (et : List S56),i ≤ h.ev.length ∧ v103 = .int .i64 i ∧ Aside0 (et = h.ev.take i) ∧ Aside0 (SideP w0 wr p m { h with ev:=et } h.cf h.ce (.slice A7 h.fs.length c7) vb vq ve (tagUp h.bs h.bs.length).1 (tagUp h.bs h.bs.length).2) ∧ Aside0 (wr.heap[g]? = some (.cells hc 32 (0,0)))) (fun v103 _ => h.ev.length - (intOf v103).toNat)
     case atStart => exact ⟨0,_, [],Nat.zero_le _,rfl,⟨rfl⟩,⟨HSq.out⟩,⟨HXR.out⟩⟩
     case round =>
      clear HSq HXR HQT HQTT b2 qn
      obtain ⟨i,ve,et,hi,rfl,HET,HSR,HXR⟩:=hrel
      by_cases hlt : i < h.ev.length
      ·have b2 : decide ((i : Int) < (h.ev.length : Int)) = true:=decide_eq_true (by omega)
       have p5 : (0 ≤ (i : Int)) = True:=eq_true (by omega)
       have q5 : ((i : Int) < (h.ev.length : Int)) = True:=eq_true (by omega)
       have qn : (i < h.ev.length) = True:=eq_true hlt
       have hn : wrap64 ((i : Int) + 1) = (i : Int) + 1:=by have:=SM.out.l4;unfold wrap64;omega
       have HLT:=Lib.hid hlt
       have HI:=Lib.hid hi
       have HN:=Lib.hid hn
       obtain ⟨ad,A8,c8,ea,k0,k1,k2,k3,k4,k5,k6,k7,l8,g8⟩:=at_T56 (Kd.C_below RE.out HSR.out.bel) (i : Int) (by omega) (by omega)
       subst ea
       clear hlt hi
       rw [Int.toNat_natCast] at k0 k1 k2 k3 k4 k5 k6 k7
       obtain ⟨b,hb⟩ : ∃ b,b = rd_T56 h.ev (i : Int):=⟨_,rfl⟩
       rw [← hb] at k0 k1 k2 k3 k4 k5 k6 k7 l8 g8
       have HBE:=Lib.hid hb
       have L8:=Lib.hid l8
       have G8:=Lib.hid g8
       have HD8 : Hid (b.f3.f4.length ≤ 10000000):=Lib.hid (by rw [hb];exact SM.out.d4 _ (List.mem_of_getElem? (getD_at h.ev i z56 HLT.out)))
       clear hb l8 g8
       go_upto_region 22 with (first | ((with_reducible refine gate_dst (N:=9) rfl ?_);refine box_event ?hg (N:=9) ?hd (cs := #[.int .i64 0, .int .i64 0, .int .i64 0, .bool false, .int .u32 0, .bool false, .int .i64 0, .slice none 0 0]) (t:=56) ?hr ?_;(case hd => rfl);(case hg => rfl);(case hr => first | (go_simp;done) | (go_simp;rfl));intro gb hgb wb hbox hbb;have HGB:=Lib.hid hgb;have HBX:=Lib.hid hbox;have HBB:=Lib.hid hbb;clear hgb hbox hbb) | ((with_reducible refine gate_store (t:=56) (p:=9) rfl ?_);refine store_box rfl rfl rfl (g:=gb) (j:=0) (cs := #[.int .i64 0, .int .i64 0, .int .i64 0, .bool false, .int .u32 0, .bool false, .int .i64 0, .slice none 0 0]) (cs' := #[.int .i64 b.f0, .int .i64 b.f1, .int .i64 b.f2, .bool b.f3.f0, .int .u32 b.f3.f1, .bool b.f3.f2, .int .i64 b.f3.f3, .slice A8 b.f3.f4.length c8]) (T:=56) (seg := [.int .i64 b.f0, .int .i64 b.f1, .int .i64 b.f2, .bool b.f3.f0, .int .u32 b.f3.f1, .bool b.f3.f2, .int .i64 b.f3.f3, .slice A8 b.f3.f4.length c8]) rfl rfl HBX.out rfl (by kernel_rfl) rfl rfl rfl ?_;intro wc hbx hT;have HBC:=Lib.hid hbx;have HTC : Hid (Below wr.heap.size wr wc):=Lib.hid (hT.below HBB.out HBB.out.size (fun k hk => by rw [hk,HGB.out];omega));clear hbx hT))
       clear k0 k1 k2 k3 k4 k5 k6 k7 HBX HBB
       have y3 : wc.cell? ⟨gb,3,none⟩ = some (.bool b.f3.f0):=blk_cell HBC.out 3
       have y4 : wc.cell? ⟨gb,4,none⟩ = some (.int .u32 b.f3.f1):=blk_cell HBC.out 4
       have y5 : wc.cell? ⟨gb,5,none⟩ = some (.bool b.f3.f2):=blk_cell HBC.out 5
       have y6 : wc.cell? ⟨gb,6,none⟩ = some (.int .i64 b.f3.f3):=blk_cell HBC.out 6
       have y7 : wc.cell? ⟨gb,7,none⟩ = some (.slice A8 b.f3.f4.length c8):=blk_cell HBC.out 7
       go_upto_region 23 with (first | (go_at_call 111;refine (copyFrame_v b.f3 A8 c8 wc (Kd.C_below G8.out HTC.out) L8.out HD8.out).mono ?_;rintro e wf ⟨A9,c9,rfl,hr9,hb9⟩;have HR9:=Lib.hid hr9;have HTF:=Lib.hid (below_then HTC.out HTC.out.size hb9);have HBF:=Lib.hid (blk_below HBC.out hb9);clear hr9 hb9) | ((with_reducible refine gate_store (t:=45) (p:=110) rfl ?_);refine store_box rfl rfl rfl (g:=gb) (j:=3) (cs := #[.int .i64 b.f0, .int .i64 b.f1, .int .i64 b.f2, .bool b.f3.f0, .int .u32 b.f3.f1, .bool b.f3.f2, .int .i64 b.f3.f3, .slice A8 b.f3.f4.length c8]) (cs' := #[.int .i64 b.f0, .int .i64 b.f1, .int .i64 b.f2, .bool b.f3.f0, .int .u32 b.f3.f1, .bool b.f3.f2, .int .i64 b.f3.f3, .slice A9 b.f3.f4.length c9]) (T:=56) (seg := [.bool b.f3.f0, .int .u32 b.f3.f1, .bool b.f3.f2, .int .i64 b.f3.f3, .slice A9 b.f3.f4.length c9]) rfl rfl HBF.out rfl (by kernel_rfl) rfl rfl rfl ?_;intro wg hbx hT;have HBG:=Lib.hid hbx;have HTG : Hid (Below wr.heap.size wr wg):=Lib.hid (hT.below HTF.out HTF.out.size (fun k hk => by rw [hk,HGB.out];omega));have HR10:=Lib.hid (R_tch HR9.out HBF.out (by decide) hT);clear hbx hT))
       clear y3 y4 y5 y6 y7 HR9 HBF HTF HBC
       have HMX : Hid ((k56).M wg w0.heap.size (fun k => wr.heap.size ≤ k) b [.int .i64 b.f0, .int .i64 b.f1, .int .i64 b.f2, .bool b.f3.f0, .int .u32 b.f3.f1, .bool b.f3.f2, .int .i64 b.f3.f3, .slice A9 b.f3.f4.length c9]):=Lib.hid (k56_mkM wg w0.heap.size _ b (Kd.R_lower (Kd.R_mono HR10.out (fun k hk => Nat.le_trans HTC.out.size hk)) (Nat.le_trans HSR.out.bel.size HTC.out.size)))
       clear HR10
       obtain ⟨o,HR⟩:=HSR.out.rows
       have HRo:=Lib.hid HR
       clear HR
       obtain ⟨Ae',ce',rfl⟩:=Kd.S_slice HRo.out.e
       obtain ⟨wf,hwe⟩ : ∃ we,we = wg.drew:=⟨_,rfl⟩
       have HTF : Hid (Below wr.heap.size wr wf):=by rw [hwe];exact Lib.hid (below_drew HTG.out)
       have HBE2 : Hid (wf.heap[gb]? = some (.cells ⟨[.int .i64 b.f0, .int .i64 b.f1, .int .i64 b.f2, .bool b.f3.f0, .int .u32 b.f3.f1, .bool b.f3.f2, .int .i64 b.f3.f3, .slice A9 b.f3.f4.length c9]⟩ 56 (0,0))):=by rw [hwe];exact Lib.hid (blk_drew HBG.out)
       have HME:=Lib.hid (Kd.M_below HMX.out (below_drew (Below.refl wg.heap.size wg)))
       rw [← hwe] at HME
       have HSF:=Lib.hid (HSR.out.below HTF.out)
       clear HBG HMX HTG
       refine start_ (n:=5) (S:=fun w' : World => w'.heap[p]? = some (.cells (sideP { h with ev:=et } m h.cf h.ce (.slice A7 h.fs.length c7) vb vq (.slice Ae' et.length ce')) 128 (0,0)) ∧ w'.heap[gb]? = some (.cells ⟨[.int .i64 b.f0, .int .i64 b.f1, .int .i64 b.f2, .bool b.f3.f0, .int .u32 b.f3.f1, .bool b.f3.f2, .int .i64 b.f3.f3, .slice A9 b.f3.f4.length c9]⟩ 56 (0,0))) (ds := [4]) #[false,false,false,false,false] (by kernel_rfl) rfl rfl (hwe ▸ ⟨HSF.out.blk,HBE2.out⟩) (fun hHeld => ?_)
       rw [← hwe] at hHeld ⊢
       clear hwe
       refine pure_ (i:=0) (N:=some 111) (v := ?_) (a' := ?_) #[true,false,false,false,false] rfl rfl (by kernel_rfl) (fun _ _ _ h => h) (Or.inl ⟨by rfl, ?_⟩) ?_ ?_
       rotate_left
       ·intro w'
        go_simp
        with_reducible rfl
       rotate_left
       ·simp only [Act.put,List.setIfInBounds_toArray,List.set_cons_zero,List.set_cons_succ,i64_w,i32_w]
        rfl
       refine pure_ (i:=1) (N:=some 112) (v := ?_) (a' := ?_) #[true,true,false,false,false] rfl rfl (by kernel_rfl) (fun _ _ _ h => h) (Or.inl ⟨by rfl, ?_⟩) ?_ ?_
       rotate_left
       ·intro w'
        go_simp
        with_reducible rfl
       rotate_left
       ·simp only [Act.put,List.setIfInBounds_toArray,List.set_cons_zero,List.set_cons_succ,i64_w,i32_w]
        rfl
       refine pure_ (i:=2) (N:=some 113) (v := ?_) (a' := ?_) #[true,true,true,false,false] rfl rfl (by kernel_rfl) (fun _ _ _ h => h) (Or.inl ⟨by rfl, ?_⟩) ?_ ?_
       rotate_left
       ·intro w'
        go_simp
        with_reducible rfl
       rotate_left
       ·simp only [Act.put,List.setIfInBounds_toArray,List.set_cons_zero,List.set_cons_succ,i64_w,i32_w]
        rfl
       refine take_ (i:=3) (N:=some 114) (v := ?_) (a' := ?_) #[true,true,true,true,false] rfl rfl (by kernel_rfl) (fun _ _ _ h => h) (Or.inl ⟨by rfl, ?_⟩) hHeld ?_ ?_
       rotate_left
       ·rintro w' ⟨s0,s1⟩
        have e0 : w'.cell? ⟨gb,0,none⟩ = some (.int .i64 b.f0):=blk_cell s1 0
        have e1 : w'.cell? ⟨gb,1,none⟩ = some (.int .i64 b.f1):=blk_cell s1 1
        have e2 : w'.cell? ⟨gb,2,none⟩ = some (.int .i64 b.f2):=blk_cell s1 2
        have e3 : w'.cell? ⟨gb,3,none⟩ = some (.bool b.f3.f0):=blk_cell s1 3
        have e4 : w'.cell? ⟨gb,4,none⟩ = some (.int .u32 b.f3.f1):=blk_cell s1 4
        have e5 : w'.cell? ⟨gb,5,none⟩ = some (.bool b.f3.f2):=blk_cell s1 5
        have e6 : w'.cell? ⟨gb,6,none⟩ = some (.int .i64 b.f3.f3):=blk_cell s1 6
        have e7 : w'.cell? ⟨gb,7,none⟩ = some (.slice A9 b.f3.f4.length c9):=blk_cell s1 7
        go_simp
        with_reducible rfl
       rotate_left
       ·simp only [Act.put,List.setIfInBounds_toArray,List.set_cons_zero,List.set_cons_succ,i64_w,i32_w]
        rfl
       refine last_ (i:=4) (N:=some 115) #[true,true,true,true,true] rfl rfl (by kernel_rfl) (by decide) (fun K hK => ?_)
       refine goes_ Try.func140 (by kernel_rfl) rfl #[.pointer (some ⟨p,9,none⟩), .agg #[.int .i64 b.f0, .int .i64 b.f1, .int .i64 b.f2, .bool b.f3.f0, .int .u32 b.f3.f1, .bool b.f3.f2, .int .i64 b.f3.f3, .slice A9 b.f3.f4.length c9]] (by rfl) rfl rfl (by (try simp only [List.map_toArray,List.map_cons,List.map_nil]);first | done | rfl) ?_
       refine (pushE_v w0 wf p 9 (sideP { h with ev:=et } m h.cf h.ce (.slice A7 h.fs.length c7) vb vq (.slice Ae' et.length ce')) 128 h.ce (.slice Ae' et.length ce') et b [.int .i64 b.f0, .int .i64 b.f1, .int .i64 b.f2, .bool b.f3.f0, .int .u32 b.f3.f1, .bool b.f3.f2, .int .i64 b.f3.f3, .slice A9 b.f3.f4.length c9] (fun k => o k = 3 ∧ k < wr.heap.size) (fun k => wr.heap.size ≤ k) HSF.out.bel HSF.out.blk HSF.out.hp ⟨by decide,by decide⟩ rfl rfl CE.out ?hln (Kd.S_mono (Kd.S_below (S_lt_own HRo.out.e) HTF.out) (fun k hk => ⟨hk.1.2,hk.2⟩)) HME.out (fun k h1 h2 => by have:=h2.2;omega)).mono ?_
       (case hln => have h1:=congrArg List.length HET.out;rw [List.length_take] at h1;have h2:=SM.out.l4;omega)
       rintro e w3 ⟨h1,_⟩
       obtain ⟨rfl,v3,hx3,hS3,hT3⟩:=h1 (by have h1:=congrArg List.length HET.out;rw [List.length_take] at h1;have h2:=HLT.out;have h3:=HLE.out;omega)
       refine ⟨_,rfl, ?_⟩
       have HS3:=Lib.hid (HSR.out.newE (x' := { h with ev:=et ++ [b] }) HRo.out HTF.out hT3 hx3 rfl (Kd.S_mono hS3 (fun k hk => by rcases hk with hk | hk | hk;exact .inl hk;exact .inr hk;exact .inr (Nat.le_trans HTF.out.size hk))))
       have HX3:=Lib.hid (hT3.blk (blk_below HXR.out HTF.out) (by rintro (e | e);exact HGP.out e.symm;exact Kd.S_ne HRo.out.e HXR.out (by decide) e))
       clear h1 hx3 hS3 hT3
       refine hK.out _ _ ?_
       clear hK K
       refine done_ (by kernel_rfl) ?_
       clear HBE2 HSF HME HTF
       obtain ⟨bk,hbk⟩ : ∃ bk,bk = et ++ [b]:=⟨_,rfl⟩
       rw [← hbk] at HS3
       have HBK : Hid (bk = h.ev.take (i + 1)):=Lib.hid (by rw [hbk,HET.out,HBE.out,List.take_add_one,getD_at h.ev i z56 HLT.out];rfl)
       clear hbk
       go_wp2_with (fail)
       go_roundw
       case rel => exact ⟨i + 1,_,bk,HLT.out,by rw [HN.out];rfl,⟨HBK.out⟩,⟨HS3.out⟩,⟨HX3.out⟩⟩
       case measure => rw [HN.out];have:=HLT.out;simp [intOf];omega
      ·have hii : i = h.ev.length:=by omega
       have HETT : Hid (et = h.ev):=Lib.hid (by rw [HET.out,hii,List.take_length])
       have b2 : decide ((i : Int) < (h.ev.length : Int)) = false:=decide_eq_false (by omega)
       have qn : (i < h.ev.length) = False:=eq_false hlt
       have HSq : Hid (SideP w0 wr p m h h.cf h.ce (.slice A7 h.fs.length c7) vb vq ve (tagUp h.bs h.bs.length).1 (tagUp h.bs h.bs.length).2):=Lib.hid (by have e:=HSR.out;rw [HETT.out] at e;exact e)
       clear hlt hi HSR hii
       go_wp2_with (fail)
       go_end0
       exact ⟨rfl,_,_,_,_,HSq.out⟩
structure HFits (h : HV) : Prop where
 small : HSmall h
 cf : 0 ≤ h.cf ∧ h.cf ≤ 100000
 ce : 0 ≤ h.ce ∧ h.ce ≤ 100000
 lq : (h.fr.length : Int) ≤ h.cf
 le : (h.ev.length : Int) ≤ h.ce
theorem HRead.len {w : World} {h : HV} {C : List Value} (H : HRead w h C) : C.length = 10:=by
 obtain ⟨Af,cf,Ab,cb,Aq,cq,Ae,ce,rfl,_⟩:=H
 rfl
set_option maxRecDepth 100000 in
set_option maxHeartbeats 2000000 in
theorem open_v (w : World) (h : HV) (C : List Value) (hR : HRead w h C) (hF : HFits h) :
  Calls Try.prog 63 #[.agg ⟨C⟩] w fun e w' => ∃ p m vf vb vq ve,e = .returned (.pointer (some ⟨p,0,none⟩)) ∧ SideP w w' p m h h.cf h.ce vf vb vq ve (tagUp h.bs h.bs.length).1 (tagUp h.bs h.bs.length).2:=by
 have HI : Hid ((Try.prog.info? 32).map (·.size) = some C.length):=Lib.hid (by rw [hR.len];kernel_rfl)
 have hu:=Lib.hid Try.underlying32
 have HR:=Lib.hid hR
 have HF:=Lib.hid hF
 clear hR hF
 go_enter Try.func63,Try.ntmps63
 go_upto_region 2 with (first | ((with_reducible refine gate_dst (N:=1) rfl ?_);refine box_event ?hg (N:=1) ?hd (cs:=⟨C⟩) (t:=32) ?hr ?_;(case hd => rfl);(case hg => rfl);(case hr => first | (go_simp;done) | (go_simp;rfl));intro g hg w1 hbox hb;have HX1:=Lib.hid hbox;have HB1:=Lib.hid hb;clear hg hbox hb) | ((with_reducible refine gate_dst (N:=4) rfl ?_);refine map_event rfl ?hr ?_;(case hr => first | (go_simp;done) | (go_simp;rfl));intro m hm w2 hmap hb;have HM2:=Lib.hid hmap;have HME : Hid (w.heap.size ≤ m):=Lib.hid (by rw [hm];exact HB1.out.size);have HX2:=Lib.hid (blk_below HX1.out hb);have HB2:=Lib.hid (below_then HB1.out HB1.out.size hb);clear hm hmap hb) | ((with_reducible refine gate_dst (N:=6) rfl ?_);refine box_event ?hg (N:=6) ?hd (cs:=sideP hv0 m 0 0 (.slice none 0 0) (.slice none 0 0) (.slice none 0 0) (.slice none 0 0)) (t:=128) ?hr ?_;(case hd => rfl);(case hg => rfl);(case hr => first | (go_simp;done) | (go_simp;rfl));intro p hp w3 hbox hb;have HP3:=Lib.hid hbox;have HPE : Hid (w.heap.size ≤ p):=Lib.hid (by rw [hp];exact HB2.out.size);have HX3:=Lib.hid (blk_below HX2.out hb);have HB3:=Lib.hid (below_then HB2.out HB2.out.size hb);have HM3:=Lib.hid (blk_below HM2.out hb);clear hp hbox hb))
 go_wp2_with (first | ((with_reducible refine gate_dst (N:=8) rfl ?_);refine load_all rfl rfl (g:=g) rfl HX3.out hu.out HI.out ?_) | (go_at_call 110;refine (set_v w w3 p m h C HB3.out HP3.out HM3.out HPE.out HME.out HR.out HF.out.small HF.out.cf HF.out.ce HF.out.lq HF.out.le).mono ?_;rintro e w4 ⟨rfl,vf,vb,vq,ve,hS⟩;have HS:=Lib.hid hS;clear hS))
 go_ret
 exact ⟨p,m,_,_,_,_,rfl,HS.out⟩
end Go.Proofs.Ytcaefabbcjlkdaa.P
