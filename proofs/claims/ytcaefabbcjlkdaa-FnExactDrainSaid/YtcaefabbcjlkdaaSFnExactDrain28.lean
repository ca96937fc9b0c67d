/- Texts of the proof of FnExactDrain, joined. -/
import Derived.Test.YtcaefabbcjlkdaaSFnExactDrain26
import Derived.Test.YtcaefabbcjlkdaaSFnExactDrain27
import Derived.Test.YtcaefabbcjlkdaaSFnExactDrain22
import Derived.Test.YtcaefabbcjlkdaaSFnExactDrain23
import Derived.Test.YtcaefabbcjlkdaaSFnExactDrain25
import Derived.Test.YtcaefabbcjlkdaaSFnExactDrain24
import Derived.ArgAppend
import Derived.Test.YtcaefabbcjlkdaaSFnExactDrain5
import Derived.Laws.BitsAllLaws
import Derived.Test.YtcaefabbcjlkdaaSFnExactDrain1
import Derived.Laws.BitsLemmas
import Derived.Lib.Strings
import Derived.Lib.SmallJoins
import Derived.Test.YtcaefabbcjlkdaaSFnExactDrain21
namespace Go.Proofs.Ytcaefabbcjlkdaa.P
open Go Go.RowKit Go.Proofs.YtcaefabbcjlkdaaW.PrintWords Go.Proofs.YtcaefabbcjlkdaaW.PrintLast Go.Proofs.YtcaefabbcjlkdaaW.PrintMore
set_option linter.unusedVariables false
set_option linter.unusedSimpArgs false
theorem k_oneR {w : World} {base : Nat} {ok : Nat → Prop} {o : Nat → Nat} {x : HV} {vf vb vq ve : Value} (h : HRows w base ok o x vf vb vq ve) : ∀ u ∈ hostC x vf vb vq ve,u.oneCell' = true:=by
 obtain ⟨_,_,rfl⟩:=Kd.R_slice h.f
 obtain ⟨_,_,rfl⟩:=Kd.S_slice h.b
 obtain ⟨_,_,rfl⟩:=Kd.S_slice h.q
 obtain ⟨_,_,rfl⟩:=Kd.S_slice h.e
 intro u hu
 simp only [hostC,List.mem_cons,List.not_mem_nil,or_false] at hu
 rcases hu with rfl | rfl | rfl | rfl | rfl | rfl | rfl | rfl | rfl | rfl <;> rfl
theorem k_one4 {w0 w : World} {p : Nat} {x : HV} {vf vb vq ve : Value} (H : HostP w0 w p x vf vb vq ve) : ∀ u ∈ hostC x vf vb vq ve,u.oneCell' = true:=by
 obtain ⟨o,h⟩:=H.rows
 exact k_oneR h
set_option maxRecDepth 100000 in
set_option maxHeartbeats 8000000 in
theorem close_v (w : World) (p m : Nat) (h : HV) (l1 l2 : Int) (vf vb vq ve : Value) (hp : w.heap[p]? = some (.cells (sideP h m l1 l2 vf vb vq ve) 128 (0,0))) (hR : HRead w h (hostC h vf vb vq ve)) (hS : HSmall h) :
  Calls Try.prog 64 #[.pointer (some ⟨p,0,none⟩)] w fun e w' => ∃ C,e = .returned (.agg ⟨C⟩) ∧ HOwn w' w.heap.size (fun _ => True) h C ∧ Below w.heap.size w w':=by
 obtain ⟨Af,cf,Ab,cb,Aq,cq,Ae,ce,hC,rf,lf,rb,lb,rq,lq,re,le⟩:=hR
 simp only [hostC,List.cons.injEq,true_and,and_true] at hC
 obtain ⟨rfl,rfl,rfl,rfl⟩:=hC
 have HP:=Lib.hid hp
 have RF:=Lib.hid rf
 have RB:=Lib.hid rb
 have RQ:=Lib.hid rq
 have RE:=Lib.hid re
 have LF:=Lib.hid lf
 have LB:=Lib.hid lb
 have LQ:=Lib.hid lq
 have LE:=Lib.hid le
 have SM:=Lib.hid hS
 clear hp rf rb rq re lf lb lq le hS
 go_enter Try.func64,Try.ntmps64
 go_upto_region 1 with (first | ((with_reducible refine gate_dst (N:=2) rfl ?_);refine box_event ?hg (N:=2) ?hd (cs := #[.int .i64 0, .int .i64 0, .int .i64 0, .int .i64 0, .slice none 0 0, .slice none 0 0, .slice none 0 0, .slice none 0 0, .int .i64 0, .int .i64 0]) (t:=32) ?hr ?_;(case hd => rfl);(case hg => rfl);(case hr => first | (go_simp;done) | (go_simp;rfl));intro g2 hg2 w1 hbox hb;have HG2:=Lib.hid hg2;have HX1:=Lib.hid hbox;have HB1:=Lib.hid hb;clear hg2 hbox hb))
 obtain ⟨wd,hwd⟩ : ∃ wd,wd = w1.drew:=⟨_,rfl⟩
 have HPd : Hid (wd.heap[p]? = some (.cells (sideP h m l1 l2 (.slice Af h.fs.length cf) (.slice Ab h.bs.length cb) (.slice Aq h.fr.length cq) (.slice Ae h.ev.length ce)) 128 (0,0))):=by rw [hwd];exact Lib.hid (blk_drew (blk_below HP.out HB1.out))
 have HXd : Hid (wd.heap[g2]? = some (.cells #[.int .i64 0, .int .i64 0, .int .i64 0, .int .i64 0, .slice none 0 0, .slice none 0 0, .slice none 0 0, .slice none 0 0, .int .i64 0, .int .i64 0] 32 (0,0))):=by rw [hwd];exact Lib.hid (blk_drew HX1.out)
 have HBd : Hid (Below w.heap.size w wd):=by rw [hwd];exact Lib.hid (below_drew HB1.out)
 clear HX1
 refine start_ (n:=21) (S:=fun w' : World => w'.heap[p]? = some (.cells (sideP h m l1 l2 (.slice Af h.fs.length cf) (.slice Ab h.bs.length cb) (.slice Aq h.fr.length cq) (.slice Ae h.ev.length ce)) 128 (0,0))) (ds := [20]) #[false,false,false,false,false,false,false,false,false,false,false,false,false,false,false,false,false,false,false,false,false] (by kernel_rfl) rfl rfl (hwd ▸ HPd.out) (fun hHeld => ?_)
 rw [← hwd] at hHeld ⊢
 clear hwd
 refine pure_ (i:=0) (N:=some 10) (v := ?_) (a' := ?_) #[true,false,false,false,false,false,false,false,false,false,false,false,false,false,false,false,false,false,false,false,false] rfl rfl (by kernel_rfl) (fun _ _ _ h => h) (Or.inl ⟨by rfl, ?_⟩) ?_ ?_
 rotate_left
 ·intro w'
  go_simp
  with_reducible rfl
 rotate_left
 ·simp only [Act.put,List.setIfInBounds_toArray,List.set_cons_zero,List.set_cons_succ,i64_w,i32_w]
  rfl
 refine pure_ (i:=1) (N:=some 11) (v := ?_) (a' := ?_) #[true,true,false,false,false,false,false,false,false,false,false,false,false,false,false,false,false,false,false,false,false] rfl rfl (by kernel_rfl) (fun _ _ _ h => h) (Or.inl ⟨by rfl, ?_⟩) ?_ ?_
 rotate_left
 ·intro w'
  go_simp
  with_reducible rfl
 rotate_left
 ·simp only [Act.put,List.setIfInBounds_toArray,List.set_cons_zero,List.set_cons_succ,i64_w,i32_w]
  rfl
 refine pure_ (i:=2) (N:=some 12) (v := ?_) (a' := ?_) #[true,true,true,false,false,false,false,false,false,false,false,false,false,false,false,false,false,false,false,false,false] rfl rfl (by kernel_rfl) (fun _ _ _ h => h) (Or.inl ⟨by rfl, ?_⟩) ?_ ?_
 rotate_left
 ·intro w'
  go_simp
  with_reducible rfl
 rotate_left
 ·simp only [Act.put,List.setIfInBounds_toArray,List.set_cons_zero,List.set_cons_succ,i64_w,i32_w]
  rfl
 refine take_ (i:=3) (N:=some 13) (v := ?_) (a' := ?_) #[true,true,true,true,false,false,false,false,false,false,false,false,false,false,false,false,false,false,false,false,false] rfl rfl (by kernel_rfl) (fun _ _ _ h => h) (Or.inl ⟨by rfl, ?_⟩) hHeld ?_ ?_
 rotate_left
 ·intro w' s0
  have e0 : w'.cell? ⟨p,0,none⟩ = some (.int .i64 h.cb):=blk_cell s0 0
  have e1 : w'.cell? ⟨p,1,none⟩ = some (.int .i64 h.cf):=blk_cell s0 1
  have e2 : w'.cell? ⟨p,2,none⟩ = some (.int .i64 h.cp):=blk_cell s0 2
  have e3 : w'.cell? ⟨p,3,none⟩ = some (.int .i64 h.ce):=blk_cell s0 3
  go_simp
  with_reducible rfl
 rotate_left
 ·simp only [Act.put,List.setIfInBounds_toArray,List.set_cons_zero,List.set_cons_succ,i64_w,i32_w]
  rfl
 refine pure_ (i:=5) (N:=some 15) (v := ?_) (a' := ?_) #[true,true,true,true,false,true,false,false,false,false,false,false,false,false,false,false,false,false,false,false,false] rfl rfl (by kernel_rfl) (fun _ _ _ h => h) (Or.inl ⟨by rfl, ?_⟩) ?_ ?_
 rotate_left
 ·intro w'
  go_simp
  with_reducible rfl
 rotate_left
 ·simp only [Act.put,List.setIfInBounds_toArray,List.set_cons_zero,List.set_cons_succ,i64_w,i32_w]
  rfl
 refine pure_ (i:=6) (N:=some 16) (v := ?_) (a' := ?_) #[true,true,true,true,false,true,true,false,false,false,false,false,false,false,false,false,false,false,false,false,false] rfl rfl (by kernel_rfl) (fun _ _ _ h => h) (Or.inl ⟨by rfl, ?_⟩) ?_ ?_
 rotate_left
 ·intro w'
  go_simp
  with_reducible rfl
 rotate_left
 ·simp only [Act.put,List.setIfInBounds_toArray,List.set_cons_zero,List.set_cons_succ,i64_w,i32_w]
  rfl
 refine pure_ (i:=7) (N:=some 17) (v := ?_) (a' := ?_) #[true,true,true,true,false,true,true,true,false,false,false,false,false,false,false,false,false,false,false,false,false] rfl rfl (by kernel_rfl) (fun _ _ _ h => h) (Or.inl ⟨by rfl, ?_⟩) ?_ ?_
 rotate_left
 ·intro w'
  go_simp
  with_reducible rfl
 rotate_left
 ·simp only [Act.put,List.setIfInBounds_toArray,List.set_cons_zero,List.set_cons_succ,i64_w,i32_w]
  rfl
 refine take_ (i:=8) (N:=some 18) (v := ?_) (a' := ?_) #[true,true,true,true,false,true,true,true,true,false,false,false,false,false,false,false,false,false,false,false,false] rfl rfl (by kernel_rfl) (fun _ _ _ h => h) (Or.inl ⟨by rfl, ?_⟩) hHeld ?_ ?_
 rotate_left
 ·intro w' s0
  have e4 : w'.cell? ⟨p,4,none⟩ = some (.slice Af h.fs.length cf):=blk_cell s0 4
  go_simp
  with_reducible rfl
 rotate_left
 ·simp only [Act.put,List.setIfInBounds_toArray,List.set_cons_zero,List.set_cons_succ,i64_w,i32_w]
  rfl
 refine pure_ (i:=10) (N:=some 20) (v := ?_) (a' := ?_) #[true,true,true,true,false,true,true,true,true,false,true,false,false,false,false,false,false,false,false,false,false] rfl rfl (by kernel_rfl) (fun _ _ _ h => h) (Or.inl ⟨by rfl, ?_⟩) ?_ ?_
 rotate_left
 ·intro w'
  go_simp
  with_reducible rfl
 rotate_left
 ·simp only [Act.put,List.setIfInBounds_toArray,List.set_cons_zero,List.set_cons_succ,i64_w,i32_w]
  rfl
 refine pure_ (i:=11) (N:=some 21) (v := ?_) (a' := ?_) #[true,true,true,true,false,true,true,true,true,false,true,true,false,false,false,false,false,false,false,false,false] rfl rfl (by kernel_rfl) (fun _ _ _ h => h) (Or.inl ⟨by rfl, ?_⟩) ?_ ?_
 rotate_left
 ·intro w'
  go_simp
  with_reducible rfl
 rotate_left
 ·simp only [Act.put,List.setIfInBounds_toArray,List.set_cons_zero,List.set_cons_succ,i64_w,i32_w]
  rfl
 refine pure_ (i:=12) (N:=some 22) (v := ?_) (a' := ?_) #[true,true,true,true,false,true,true,true,true,false,true,true,true,false,false,false,false,false,false,false,false] rfl rfl (by kernel_rfl) (fun _ _ _ h => h) (Or.inl ⟨by rfl, ?_⟩) ?_ ?_
 rotate_left
 ·intro w'
  go_simp
  with_reducible rfl
 rotate_left
 ·simp only [Act.put,List.setIfInBounds_toArray,List.set_cons_zero,List.set_cons_succ,i64_w,i32_w]
  rfl
 refine take_ (i:=13) (N:=some 23) (v := ?_) (a' := ?_) #[true,true,true,true,false,true,true,true,true,false,true,true,true,true,false,false,false,false,false,false,false] rfl rfl (by kernel_rfl) (fun _ _ _ h => h) (Or.inl ⟨by rfl, ?_⟩) hHeld ?_ ?_
 rotate_left
 ·intro w' s0
  have e11 : w'.cell? ⟨p,11,none⟩ = some (.int .i64 h.lost):=blk_cell s0 11
  go_simp
  with_reducible rfl
 rotate_left
 ·simp only [Act.put,List.setIfInBounds_toArray,List.set_cons_zero,List.set_cons_succ,i64_w,i32_w]
  rfl
 refine pure_ (i:=14) (N:=some 24) (v := ?_) (a' := ?_) #[true,true,true,true,false,true,true,true,true,false,true,true,true,true,true,false,false,false,false,false,false] rfl rfl (by kernel_rfl) (fun _ _ _ h => h) (Or.inl ⟨by rfl, ?_⟩) ?_ ?_
 rotate_left
 ·intro w'
  go_simp
  with_reducible rfl
 rotate_left
 ·simp only [Act.put,List.setIfInBounds_toArray,List.set_cons_zero,List.set_cons_succ,i64_w,i32_w]
  rfl
 refine pure_ (i:=15) (N:=some 25) (v := ?_) (a' := ?_) #[true,true,true,true,false,true,true,true,true,false,true,true,true,true,true,true,false,false,false,false,false] rfl rfl (by kernel_rfl) (fun _ _ _ h => h) (Or.inl ⟨by rfl, ?_⟩) ?_ ?_
 rotate_left
 ·intro w'
  go_simp
  with_reducible rfl
 rotate_left
 ·simp only [Act.put,List.setIfInBounds_toArray,List.set_cons_zero,List.set_cons_succ,i64_w,i32_w]
  rfl
 refine pure_ (i:=16) (N:=some 26) (v := ?_) (a' := ?_) #[true,true,true,true,false,true,true,true,true,false,true,true,true,true,true,true,true,false,false,false,false] rfl rfl (by kernel_rfl) (fun _ _ _ h => h) (Or.inl ⟨by rfl, ?_⟩) ?_ ?_
 rotate_left
 ·intro w'
  go_simp
  with_reducible rfl
 rotate_left
 ·simp only [Act.put,List.setIfInBounds_toArray,List.set_cons_zero,List.set_cons_succ,i64_w,i32_w]
  rfl
 refine take_ (i:=17) (N:=some 27) (v := ?_) (a' := ?_) #[true,true,true,true,false,true,true,true,true,false,true,true,true,true,true,true,true,true,false,false,false] rfl rfl (by kernel_rfl) (fun _ _ _ h => h) (Or.inl ⟨by rfl, ?_⟩) hHeld ?_ ?_
 rotate_left
 ·intro w' s0
  have e12 : w'.cell? ⟨p,12,none⟩ = some (.int .i64 h.stamp):=blk_cell s0 12
  go_simp
  with_reducible rfl
 rotate_left
 ·simp only [Act.put,List.setIfInBounds_toArray,List.set_cons_zero,List.set_cons_succ,i64_w,i32_w]
  rfl
 refine join_ (σ:=Value × Option Addr × Nat × Nat) 1 #[true,true,true,true,true,true,true,true,true,true,true,true,true,true,true,true,true,true,true,true,false] (fun s => [(14,s.1),(19, .slice s.2.1 h.fs.length s.2.2.1),(28, .agg #[.int .i64 h.cb, .int .i64 h.cf, .int .i64 h.cp, .int .i64 h.ce, .slice s.2.1 h.fs.length s.2.2.1,(.slice none 0 0),(.slice none 0 0),(.slice none 0 0), .int .i64 h.lost, .int .i64 h.stamp]),(3, .pointer (some ⟨s.2.2.2,0,none⟩))]) (fun s w' => (w'.heap[p]? = some (.cells (sideP h m l1 l2 (.slice Af h.fs.length cf) (.slice Ab h.bs.length cb) (.slice Aq h.fr.length cq) (.slice Ae h.ev.length ce)) 128 (0,0))) ∧ Below wd.heap.size wd w' ∧ w'.heap[s.2.2.2]? = some (.cells #[.int .i64 0, .int .i64 0, .int .i64 0, .int .i64 0, .slice none 0 0, .slice none 0 0, .slice none 0 0, .slice none 0 0, .int .i64 0, .int .i64 0] 32 (0,0)) ∧ wd.heap.size ≤ s.2.2.2 ∧ (k89).R 89 w' w.heap.size (fun k => wd.heap.size ≤ k) (.slice s.2.1 h.fs.length s.2.2.1) h.fs) ?cont (fun hcont => ?_)
 case cont =>
  rintro ⟨v14,A7,c7,g3⟩ wj ⟨hpj,hbj,hxj,hgj,hrj⟩
  simp only at hxj hgj hrj
  have HPj:=Lib.hid hpj
  have HBj:=Lib.hid hbj
  have HXj:=Lib.hid hxj
  have HGj:=Lib.hid hgj
  have HRj:=Lib.hid hrj
  clear hpj hbj hxj hgj hrj
  refine norm_ (a' := ?_) ?_ ?_
  rotate_left
  ·simp only [putAll,Act.put,List.setIfInBounds_toArray,List.set_cons_zero,List.set_cons_succ]
   rfl
  refine last_ (i:=20) (N:=none) #[true,true,true,true,true,true,true,true,true,true,true,true,true,true,true,true,true,true,true,true,true] rfl rfl (by kernel_rfl) (by decide) (fun K hK => ?_)
  refine st_blk (by rfl) rfl rfl (g:=g3) (j:=0) (cs := #[.int .i64 0, .int .i64 0, .int .i64 0, .int .i64 0, .slice none 0 0, .slice none 0 0, .slice none 0 0, .slice none 0 0, .int .i64 0, .int .i64 0]) (cs':=⟨hostC { h with bs := [],fr := [],ev := [] } (.slice A7 h.fs.length c7) (.slice none 0 0) (.slice none 0 0) (.slice none 0 0)⟩) (T:=32) (u := .agg ⟨hostC { h with bs := [],fr := [],ev := [] } (.slice A7 h.fs.length c7) (.slice none 0 0) (.slice none 0 0) (.slice none 0 0)⟩) (seg:=hostC { h with bs := [],fr := [],ev := [] } (.slice A7 h.fs.length c7) (.slice none 0 0) (.slice none 0 0) (.slice none 0 0)) rfl rfl HXj.out rfl (by kernel_rfl) rfl rfl rfl ?_
  intro wk hxk hTk
  have HSk : Hid (HostP w wk g3 { h with bs := [],fr := [],ev := [] } (.slice A7 h.fs.length c7) (.slice none 0 0) (.slice none 0 0) (.slice none 0 0)):=Lib.hid ⟨hTk.below (below_then HBd.out HBd.out.size HBj.out) (Nat.le_trans HBd.out.size HBj.out.size) (fun k hk => by rw [hk];exact Nat.le_trans HBd.out.size HGj.out),hxk,⟨fun _ => 0,Kd.R_mono (R_tch HRj.out HXj.out (by decide) hTk) (fun _ _ => ⟨trivial,rfl⟩),Kd.S_nil _ _ _ _ _,Kd.S_nil _ _ _ _ _,Kd.S_nil _ _ _ _ _⟩,Nat.le_trans HBd.out.size HGj.out⟩
  have HG23 : Hid (g2 ≠ g3):=Lib.hid (fun e => by have h1:=blk_lt HXd.out;have h2:=HGj.out;omega)
  have HXk:=Lib.hid (hTk.blk (blk_below HXd.out HBj.out) HG23.out)
  clear hxk hTk
  refine hK.out _ _ ?_
  clear hK K
  refine done_ (by kernel_rfl) ?_
  have hp5 : wk.cell? ⟨p,5,none⟩ = some (.slice Ab h.bs.length cb):=blk_cell (blk_below HP.out HSk.out.bel) 5
  go_wp2_with (fail)
  clear hp5
  go_loopw [34] (fun v34 wr => ∃ (i : Nat) (vb : Value) (tt : List S87),i ≤ h.bs.length ∧ v34 = .int .i64 i ∧ Aside0 (tt = h.bs.take i) ∧ Aside0 (HostP w wr g3 { h with bs:=tt,fr := [],ev := [] } (.slice A7 h.fs.length c7) vb (.slice none 0 0) (.slice none 0 0)) ∧ Aside0 (wr.heap[g2]? = some (.cells #[.int .i64 0, .int .i64 0, .int .i64 0, .int .i64 0, .slice none 0 0, .slice none 0 0, .slice none 0 0, .slice none 0 0, .int .i64 0, .int .i64 0] 32 (0,0)))) (fun v34 _ => h.bs.length - (intOf v34).toNat)
  case atStart => exact ⟨0,_, [],Nat.zero_le _,rfl,⟨rfl⟩,⟨HSk.out⟩,⟨HXk.out⟩⟩
  case round =>
   clear HSk HXk
   obtain ⟨i,vb,tt,hi,rfl,HTT,HSR,HXR⟩:=hrel
   by_cases hlt : i < h.bs.length
   ·have b2 : decide ((i : Int) < (h.bs.length : Int)) = true:=decide_eq_true (by omega)
    have p5 : (0 ≤ (i : Int)) = True:=eq_true (by omega)
    have q5 : ((i : Int) < (h.bs.length : Int)) = True:=eq_true (by omega)
    have qn : (i < h.bs.length) = True:=eq_true hlt
    have hn : wrap64 ((i : Int) + 1) = (i : Int) + 1:=by have:=SM.out.l2;unfold wrap64;omega
    have HLT:=Lib.hid hlt
    have HI:=Lib.hid hi
    have HN:=Lib.hid hn
    obtain ⟨ad,A8,c8,ea,k0,k1,k2,k3,k4,k5,k6,k7,l8,g8⟩:=at_T87 (Kd.C_below RB.out HSR.out.bel) (i : Int) (by omega) (by omega)
    subst ea
    clear hlt hi
    rw [Int.toNat_natCast] at k0 k1 k2 k3 k4 k5 k6 k7
    obtain ⟨b,hb⟩ : ∃ b,b = rd_T87 h.bs (i : Int):=⟨_,rfl⟩
    rw [← hb] at k0 k1 k2 k3 k4 k5 k6 k7 l8 g8
    have HBE:=Lib.hid hb
    have L8:=Lib.hid l8
    have G8:=Lib.hid g8
    have HD8 : Hid (b.f3.f4.length ≤ 10000000):=Lib.hid (by rw [hb];exact SM.out.d2 _ (List.mem_of_getElem? (getD_at h.bs i z87 HLT.out)))
    clear hb l8 g8
    go_upto_region 5 with (first | ((with_reducible refine gate_dst (N:=5) rfl ?_);refine box_event ?hg (N:=5) ?hd (cs := #[.int .i64 0, .int .i64 0, .int .i64 0, .bool false, .int .u32 0, .bool false, .int .i64 0, .slice none 0 0]) (t:=87) ?hr ?_;(case hd => rfl);(case hg => rfl);(case hr => first | (go_simp;done) | (go_simp;rfl));intro gb hgb wb hbox hbb;have HGB:=Lib.hid hgb;have HBX:=Lib.hid hbox;have HBB:=Lib.hid hbb;clear hgb hbox hbb) | ((with_reducible refine gate_store (t:=87) (p:=5) rfl ?_);refine store_box rfl rfl rfl (g:=gb) (j:=0) (cs := #[.int .i64 0, .int .i64 0, .int .i64 0, .bool false, .int .u32 0, .bool false, .int .i64 0, .slice none 0 0]) (cs' := #[.int .i64 b.f0, .int .i64 b.f1, .int .i64 b.f2, .bool b.f3.f0, .int .u32 b.f3.f1, .bool b.f3.f2, .int .i64 b.f3.f3, .slice A8 b.f3.f4.length c8]) (T:=87) (seg := [.int .i64 b.f0, .int .i64 b.f1, .int .i64 b.f2, .bool b.f3.f0, .int .u32 b.f3.f1, .bool b.f3.f2, .int .i64 b.f3.f3, .slice A8 b.f3.f4.length c8]) rfl rfl HBX.out rfl (by kernel_rfl) rfl rfl rfl ?_;intro wc hbx hT;have HBC:=Lib.hid hbx;have HTC : Hid (Below wr.heap.size wr wc):=Lib.hid (hT.below HBB.out HBB.out.size (fun k hk => by rw [hk,HGB.out];omega));clear hbx hT))
    clear k0 k1 k2 k3 k4 k5 k6 k7 HBX HBB
    have y3 : wc.cell? ⟨gb,3,none⟩ = some (.bool b.f3.f0):=blk_cell HBC.out 3
    have y4 : wc.cell? ⟨gb,4,none⟩ = some (.int .u32 b.f3.f1):=blk_cell HBC.out 4
    have y5 : wc.cell? ⟨gb,5,none⟩ = some (.bool b.f3.f2):=blk_cell HBC.out 5
    have y6 : wc.cell? ⟨gb,6,none⟩ = some (.int .i64 b.f3.f3):=blk_cell HBC.out 6
    have y7 : wc.cell? ⟨gb,7,none⟩ = some (.slice A8 b.f3.f4.length c8):=blk_cell HBC.out 7
    go_upto_region 6 with (first | (go_at_call 111;refine (copyFrame_v b.f3 A8 c8 wc (Kd.C_below G8.out HTC.out) L8.out HD8.out).mono ?_;rintro e wf ⟨A9,c9,rfl,hr9,hb9⟩;have HR9:=Lib.hid hr9;have HTF:=Lib.hid (below_then HTC.out HTC.out.size hb9);have HBF:=Lib.hid (blk_below HBC.out hb9);clear hr9 hb9) | ((with_reducible refine gate_store (t:=45) (p:=41) rfl ?_);refine store_box rfl rfl rfl (g:=gb) (j:=3) (cs := #[.int .i64 b.f0, .int .i64 b.f1, .int .i64 b.f2, .bool b.f3.f0, .int .u32 b.f3.f1, .bool b.f3.f2, .int .i64 b.f3.f3, .slice A8 b.f3.f4.length c8]) (cs' := #[.int .i64 b.f0, .int .i64 b.f1, .int .i64 b.f2, .bool b.f3.f0, .int .u32 b.f3.f1, .bool b.f3.f2, .int .i64 b.f3.f3, .slice A9 b.f3.f4.length c9]) (T:=87) (seg := [.bool b.f3.f0, .int .u32 b.f3.f1, .bool b.f3.f2, .int .i64 b.f3.f3, .slice A9 b.f3.f4.length c9]) rfl rfl HBF.out rfl (by kernel_rfl) rfl rfl rfl ?_;intro wg hbx hT;have HBG:=Lib.hid hbx;have HTG : Hid (Below wr.heap.size wr wg):=Lib.hid (hT.below HTF.out HTF.out.size (fun k hk => by rw [hk,HGB.out];omega));have HR10:=Lib.hid (R_tch HR9.out HBF.out (by decide) hT);clear hbx hT))
    clear y3 y4 y5 y6 y7 HR9 HBF HTF HBC
    have HMX : Hid ((k87).M wg w.heap.size (fun k => wr.heap.size ≤ k) b [.int .i64 b.f0, .int .i64 b.f1, .int .i64 b.f2, .bool b.f3.f0, .int .u32 b.f3.f1, .bool b.f3.f2, .int .i64 b.f3.f3, .slice A9 b.f3.f4.length c9]):=Lib.hid (k87_mkM wg w.heap.size _ b (Kd.R_lower (Kd.R_mono HR10.out (fun k hk => Nat.le_trans HTC.out.size hk)) (Nat.le_trans HSR.out.bel.size HTC.out.size)))
    clear HR10
    obtain ⟨o,HR⟩:=HSR.out.rows
    have HRo:=Lib.hid HR
    clear HR
    obtain ⟨Av,cv,rfl⟩:=Kd.S_slice HRo.out.b
    have y0 : wg.cell? ⟨gb,0,none⟩ = some (.int .i64 b.f0):=blk_cell HBG.out 0
    have y1 : wg.cell? ⟨gb,1,none⟩ = some (.int .i64 b.f1):=blk_cell HBG.out 1
    have y2 : wg.cell? ⟨gb,2,none⟩ = some (.int .i64 b.f2):=blk_cell HBG.out 2
    have y3 : wg.cell? ⟨gb,3,none⟩ = some (.bool b.f3.f0):=blk_cell HBG.out 3
    have y4 : wg.cell? ⟨gb,4,none⟩ = some (.int .u32 b.f3.f1):=blk_cell HBG.out 4
    have y5 : wg.cell? ⟨gb,5,none⟩ = some (.bool b.f3.f2):=blk_cell HBG.out 5
    have y6 : wg.cell? ⟨gb,6,none⟩ = some (.int .i64 b.f3.f3):=blk_cell HBG.out 6
    have y7 : wg.cell? ⟨gb,7,none⟩ = some (.slice A9 b.f3.f4.length c9):=blk_cell HBG.out 7
    have z0 : wg.cell? ⟨g3,5,none⟩ = some (.slice Av tt.length cv):=blk_cell (HSR.out.below HTG.out).blk 5
    go_upto_region 7 with (first | ((with_reducible refine gate_builtin (b := .append) (xs := #[.tmp 43, .tmp 45]) rfl ?_);at_builtin;refine Kd.S_append k87 (w0:=w) w.heap.size rfl (.tmp 43) (.tmp 45) 28 87 (.agg #[.int .i64 0, .int .i64 0, .int .i64 0, .bool false, .int .u32 0, .bool false, .int .i64 0, .slice none 0 0]) 72 rfl Try.underlying28 info87 rfl (by decide) (by omega) (.slice Av tt.length cv) tt b [.int .i64 b.f0, .int .i64 b.f1, .int .i64 b.f2, .bool b.f3.f0, .int .u32 b.f3.f1, .bool b.f3.f2, .int .i64 b.f3.f3, .slice A9 b.f3.f4.length c9] (fun k => (o k = 1 ∧ k < wr.heap.size) ∨ wr.heap.size ≤ k) (fun k => wr.heap.size ≤ k) rfl rfl ?aP ?aK ?aF ?aO ?aB ?aS ?aL ?_;(case aP => exact HMX.out);(case aK => exact fun k hk => ⟨.inr hk,fun e => by have:=Kd.S_lt HRo.out.b k e.symm;omega⟩);(case aF => exact fun k hk => .inr (Nat.le_trans HTG.out.size hk));(case aO => exact Kd.S_mono (Kd.S_below (S_lt_own HRo.out.b) HTG.out) (fun k hk => ⟨.inl ⟨hk.1.2,hk.2⟩,by have:=hk.2;omega⟩));(case aB => exact (HSR.out.below HTG.out).bel);(case aS => exact (HSR.out.below HTG.out).bel.size);(case aL => have h1:=SM.out.l2;have h2:=HLT.out;have h3:=congrArg List.length HTT.out;rw [List.length_take] at h3;omega);intro v1 w2 hS hb hg hat;obtain ⟨bk,hbk⟩ : ∃ bk,bk = tt ++ [b]:=⟨_,rfl⟩;rw [← hbk] at hS;have HBK0:=Lib.hid hbk;clear hbk;have hnp : some g3 ≠ (Value.slice Av tt.length cv).ownBlock:=Kd.S_ne HRo.out.b HSR.out.blk (by decide);have HP2:=Lib.hid (blk_grown (g:=g3) (HSR.out.below HTG.out).blk hg hnp);have HS2:=Lib.hid hS;have HG9:=Lib.hid hg;have hng : Hid (some gb ≠ (Value.slice Av tt.length cv).ownBlock):=Lib.hid (fun e => by have h1:=Kd.S_lt HRo.out.b gb e.symm;have h2:=HGB.out;omega);have HT2:=Lib.hid ((Tch.refl wg (fun k => k = g3 ∨ some k = (Value.slice Av tt.length cv).ownBlock)).grown hg (fun k e => .inl (.inr e.symm)));clear hb hg hat hnp;obtain ⟨A1,c1,rfl⟩:=Kd.S_slice hS;clear hS) | ((with_reducible refine gate_store (t:=28) (p:=47) rfl ?_);refine store_box rfl rfl rfl (g:=g3) (j:=5) (cs:=⟨hostC { h with bs:=tt,fr := [],ev := [] } (.slice A7 h.fs.length c7) (.slice Av tt.length cv) (.slice none 0 0) (.slice none 0 0)⟩) (cs':=⟨hostC { h with bs:=bk,fr := [],ev := [] } (.slice A7 h.fs.length c7) (.slice A1 bk.length c1) (.slice none 0 0) (.slice none 0 0)⟩) (T:=32) (u:=(.slice A1 bk.length c1)) (seg := [(.slice A1 bk.length c1)]) rfl rfl HP2.out rfl (by kernel_rfl) rfl rfl rfl ?_;intro w3 hx3 hT3;have HS3 : Hid (HostP w w3 g3 { h with bs:=bk,fr := [],ev := [] } (.slice A7 h.fs.length c7) (.slice A1 bk.length c1) (.slice none 0 0) (.slice none 0 0)):=Lib.hid (HSR.out.newB HRo.out HTG.out (HT2.out.trans (hT3.mono (fun k hk => .inl hk))) hx3 rfl (S_tch HS2.out HP2.out (by decide) hT3));have HX3:=Lib.hid ((HT2.out.trans (hT3.mono (fun k hk => .inl hk))).blk (blk_below HXR.out HTG.out) (by rintro (e | e);exact HG23.out e;exact Kd.S_ne HRo.out.b HXR.out (by decide) e));clear hx3 hT3))
    clear y0 y1 y2 y3 y4 y5 y6 y7 z0 HS2 HT2 HP2 HBG HMX HTG HG9 hng
    have HBK : Hid (bk = h.bs.take (i + 1)):=Lib.hid (by rw [HBK0.out,HTT.out,HBE.out,List.take_add_one,getD_at h.bs i z87 HLT.out];rfl)
    go_wp2_with (fail)
    go_roundw
    case rel => exact ⟨i + 1,_,bk,HLT.out,by rw [HN.out];rfl,⟨HBK.out⟩,⟨HS3.out⟩,⟨HX3.out⟩⟩
    case measure => rw [HN.out];have:=HLT.out;simp [intOf];omega
   ·have hii : i = h.bs.length:=by omega
    have HTTT : Hid (tt = h.bs):=Lib.hid (by rw [HTT.out,hii,List.take_length])
    have b2 : decide ((i : Int) < (h.bs.length : Int)) = false:=decide_eq_false (by omega)
    have qn : (i < h.bs.length) = False:=eq_false hlt
    have HSk : Hid (HostP w wr g3 { h with fr := [],ev := [] } (.slice A7 h.fs.length c7) vb (.slice none 0 0) (.slice none 0 0)):=Lib.hid (by have e:=HSR.out;rw [HTTT.out] at e;exact e)
    have HXk:=Lib.hid HXR.out
    clear hlt hi HSR HXR hii HTT HTTT
    have hp8 : wr.cell? ⟨p,8,none⟩ = some (.slice Aq h.fr.length cq):=blk_cell (blk_below HP.out HSk.out.bel) 8
    go_wp2_with (fail)
    clear hp8 b2 qn
    go_loopw [55] (fun v55 wr => ∃ (i : Nat) (vq : Value) (tt : List S45),i ≤ h.fr.length ∧ v55 = .int .i64 i ∧ Aside0 (tt = h.fr.take i) ∧ Aside0 (HostP w wr g3 { h with fr:=tt,ev := [] } (.slice A7 h.fs.length c7) vb vq (.slice none 0 0)) ∧ Aside0 (wr.heap[g2]? = some (.cells #[.int .i64 0, .int .i64 0, .int .i64 0, .int .i64 0, .slice none 0 0, .slice none 0 0, .slice none 0 0, .slice none 0 0, .int .i64 0, .int .i64 0] 32 (0,0)))) (fun v55 _ => h.fr.length - (intOf v55).toNat)
    case atStart => exact ⟨0,_, [],Nat.zero_le _,rfl,⟨rfl⟩,⟨HSk.out⟩,⟨HXk.out⟩⟩
    case round =>
     clear HSk HXk
     obtain ⟨i,vq,tt,hi,rfl,HTT,HSR,HXR⟩:=hrel
     by_cases hlt : i < h.fr.length
     ·have b2 : decide ((i : Int) < (h.fr.length : Int)) = true:=decide_eq_true (by omega)
      have p5 : (0 ≤ (i : Int)) = True:=eq_true (by omega)
      have q5 : ((i : Int) < (h.fr.length : Int)) = True:=eq_true (by omega)
      have qn : (i < h.fr.length) = True:=eq_true hlt
      have hn : wrap64 ((i : Int) + 1) = (i : Int) + 1:=by have:=SM.out.l3;unfold wrap64;omega
      have HLT:=Lib.hid hlt
      have HI:=Lib.hid hi
      have HN:=Lib.hid hn
      obtain ⟨ad,A8,c8,ea,k0,k1,k2,k3,k4,l8,g8⟩:=at_T45 (Kd.C_below RQ.out HSR.out.bel) (i : Int) (by omega) (by omega)
      subst ea
      clear hlt hi
      rw [Int.toNat_natCast] at k0 k1 k2 k3 k4
      obtain ⟨b,hb⟩ : ∃ b,b = rd_T45 h.fr (i : Int):=⟨_,rfl⟩
      rw [← hb] at k0 k1 k2 k3 k4 l8 g8
      have HBE:=Lib.hid hb
      have L8:=Lib.hid l8
      have G8:=Lib.hid g8
      have HD8 : Hid (b.f4.length ≤ 10000000):=Lib.hid (by rw [hb];exact SM.out.d3 _ (List.mem_of_getElem? (getD_at h.fr i z45 HLT.out)))
      clear hb l8 g8
      go_upto_region 11 with (first | ((with_reducible refine gate_dst (N:=7) rfl ?_);refine box_event ?hg (N:=7) ?hd (cs := #[.bool false, .int .u32 0, .bool false, .int .i64 0, .slice none 0 0]) (t:=45) ?hr ?_;(case hd => rfl);(case hg => rfl);(case hr => first | (go_simp;done) | (go_simp;rfl));intro gb hgb wb hbox hbb;have HGB:=Lib.hid hgb;have HBX:=Lib.hid hbox;have HBB:=Lib.hid hbb;clear hgb hbox hbb) | ((with_reducible refine gate_store (t:=45) (p:=7) rfl ?_);refine store_box rfl rfl rfl (g:=gb) (j:=0) (cs := #[.bool false, .int .u32 0, .bool false, .int .i64 0, .slice none 0 0]) (cs' := #[.bool b.f0, .int .u32 b.f1, .bool b.f2, .int .i64 b.f3, .slice A8 b.f4.length c8]) (T:=45) (seg := [.bool b.f0, .int .u32 b.f1, .bool b.f2, .int .i64 b.f3, .slice A8 b.f4.length c8]) rfl rfl HBX.out rfl (by kernel_rfl) rfl rfl rfl ?_;intro wc hbx hT;have HBC:=Lib.hid hbx;have HTC : Hid (Below wr.heap.size wr wc):=Lib.hid (hT.below HBB.out HBB.out.size (fun k hk => by rw [hk,HGB.out];omega));clear hbx hT))
      clear k0 k1 k2 k3 k4 HBX HBB
      obtain ⟨o,HR⟩:=HSR.out.rows
      have HRo:=Lib.hid HR
      clear HR
      obtain ⟨Av,cv,rfl⟩:=Kd.S_slice HRo.out.q
      obtain ⟨we,hwe⟩ : ∃ we,we = wc.drew:=⟨_,rfl⟩
      have HTE : Hid (Below wr.heap.size wr we):=by rw [hwe];exact Lib.hid (below_drew HTC.out)
      have HBE2 : Hid (we.heap[gb]? = some (.cells ⟨[.bool b.f0, .int .u32 b.f1, .bool b.f2, .int .i64 b.f3, .slice A8 b.f4.length c8]⟩ 45 (0,0))):=by rw [hwe];exact Lib.hid (blk_drew HBC.out)
      clear HBC HTC
      refine start_ (n:=8) (S:=fun w' : World => w'.heap[g3]? = some (.cells ⟨hostC { h with fr:=tt,ev := [] } (.slice A7 h.fs.length c7) vb (.slice Av tt.length cv) (.slice none 0 0)⟩ 32 (0,0)) ∧ w'.heap[gb]? = some (.cells ⟨[.bool b.f0, .int .u32 b.f1, .bool b.f2, .int .i64 b.f3, .slice A8 b.f4.length c8]⟩ 45 (0,0))) (ds := [7]) #[false,false,false,false,false,false,false,false] (by kernel_rfl) rfl rfl (hwe ▸ ⟨(HSR.out.below HTE.out).blk,HBE2.out⟩) (fun hHeld => ?_)
      rw [← hwe] at hHeld ⊢
      clear hwe
      refine pure_ (i:=0) (N:=some 59) (v := ?_) (a' := ?_) #[true,false,false,false,false,false,false,false] rfl rfl (by kernel_rfl) (fun _ _ _ h => h) (Or.inl ⟨by rfl, ?_⟩) ?_ ?_
      rotate_left
      ·intro w'
       go_simp
       with_reducible rfl
      rotate_left
      ·simp only [Act.put,List.setIfInBounds_toArray,List.set_cons_zero,List.set_cons_succ,i64_w,i32_w]
       rfl
      refine take_ (i:=1) (N:=some 60) (v := ?_) (a' := ?_) #[true,true,false,false,false,false,false,false] rfl rfl (by kernel_rfl) (fun _ _ _ h => h) (Or.inl ⟨by rfl, ?_⟩) hHeld ?_ ?_
      rotate_left
      ·rintro w' ⟨s0,s1⟩
       have e0 : w'.cell? ⟨g3,6,none⟩ = some (.slice Av tt.length cv):=blk_cell s0 6
       go_simp
       with_reducible rfl
      rotate_left
      ·simp only [Act.put,List.setIfInBounds_toArray,List.set_cons_zero,List.set_cons_succ,i64_w,i32_w]
       rfl
      refine take_ (i:=2) (N:=some 61) (v := ?_) (a' := ?_) #[true,true,true,false,false,false,false,false] rfl rfl (by kernel_rfl) (fun _ _ _ h => h) (Or.inl ⟨by rfl, ?_⟩) hHeld ?_ ?_
      rotate_left
      ·rintro w' ⟨s0,s1⟩
       have e0 : w'.cell? ⟨gb,0,none⟩ = some (.bool b.f0):=blk_cell s1 0
       have e1 : w'.cell? ⟨gb,1,none⟩ = some (.int .u32 b.f1):=blk_cell s1 1
       have e2 : w'.cell? ⟨gb,2,none⟩ = some (.bool b.f2):=blk_cell s1 2
       have e3 : w'.cell? ⟨gb,3,none⟩ = some (.int .i64 b.f3):=blk_cell s1 3
       have e4 : w'.cell? ⟨gb,4,none⟩ = some (.slice A8 b.f4.length c8):=blk_cell s1 4
       go_simp
       with_reducible rfl
      rotate_left
      ·simp only [Act.put,List.setIfInBounds_toArray,List.set_cons_zero,List.set_cons_succ,i64_w,i32_w]
       rfl
      refine one_ (i:=3) (N:=some 62) #[true,true,true,true,false,false,false,false] rfl rfl (by kernel_rfl) (by decide) (fun K hK => ?_)
      refine goes_ Try.func111 (by kernel_rfl) rfl #[.agg #[.bool b.f0, .int .u32 b.f1, .bool b.f2, .int .i64 b.f3, .slice A8 b.f4.length c8]] (by rfl) rfl rfl (by (try simp only [List.map_toArray,List.map_cons,List.map_nil]);first | done | rfl) ?_
      refine (copyFrame_v b A8 c8 we (Kd.C_below G8.out HTE.out) L8.out HD8.out).mono ?_
      rintro e wf ⟨A9,c9,rfl,hr9,hb9⟩
      refine ⟨_,rfl, ?_⟩
      have HR9:=Lib.hid hr9
      have HTF:=Lib.hid (below_then HTE.out HTE.out.size hb9)
      have HBF:=Lib.hid (blk_below HBE2.out hb9)
      clear hr9 hb9
      refine hK.out _ _ ⟨(HSR.out.below HTF.out).blk,HBF.out⟩ (fun hHeld => ?_)
      clear hK K
      refine norm_ (a' := ?_) ?_ ?_
      rotate_left
      ·show Act.put _ (some 62) _ = _
       simp only [Act.put,List.setIfInBounds_toArray,List.set_cons_zero,List.set_cons_succ,i64_w,i32_w]
       rfl
      refine one_ (i:=4) (N:=some 63) #[true,true,true,true,true,false,false,false] rfl rfl (by kernel_rfl) (by decide) (fun K hK => ?_)
      refine value_ (w1 := ?_) (v := ?_) (by rfl) rfl ?_ ?_
      rotate_left 2
      ·go_simp
       constructor
       ·rfl
       ·rfl
      refine hK.out _ _ ⟨blk_alloc (HSR.out.below HTF.out).blk _,blk_alloc HBF.out _⟩ (fun hHeld => ?_)
      clear hK K
      refine norm_ (a' := ?_) ?_ ?_
      rotate_left
      ·show Act.put _ (some 63) _ = _
       simp only [Act.put,List.setIfInBounds_toArray,List.set_cons_zero,List.set_cons_succ,i64_w,i32_w]
       rfl
      refine one_ (i:=5) (N:=some 64) #[true,true,true,true,true,true,false,false] rfl rfl (by kernel_rfl) (by decide) (fun K hK => ?_)
      refine Kd.S_append_step k45 (w0:=w) w.heap.size (by rfl) (.tmp 60) (.tmp 63) 29 45 (.agg #[.bool false, .int .u32 0, .bool false, .int .i64 0, .slice none 0 0]) 48 rfl Try.underlying29 info45 rfl (by decide) (by omega) (.slice Av tt.length cv) tt b [.bool b.f0, .int .u32 b.f1, .bool b.f2, .int .i64 b.f3, .slice A9 b.f4.length c9] (fun k => (o k = 2 ∧ k < wr.heap.size) ∨ wr.heap.size ≤ k) (fun k => wr.heap.size ≤ k) rfl rfl ?aP ?aK ?aF ?aO ?aB ?aS ?aL ?_
      (case aP => exact (k45_mkM wf w.heap.size _ b (Kd.R_lower (Kd.R_mono HR9.out (fun k hk => Nat.le_trans HTE.out.size hk)) (Nat.le_trans HSR.out.bel.size HTE.out.size))))
      (case aK => exact fun k hk => ⟨.inr hk,fun e => by have:=Kd.S_lt HRo.out.q k e.symm;omega⟩)
      (case aF => exact fun k hk => .inr (Nat.le_trans HTF.out.size hk))
      (case aO => exact Kd.S_mono (Kd.S_below (S_lt_own HRo.out.q) HTF.out) (fun k hk => ⟨.inl ⟨hk.1.2,hk.2⟩,by have:=hk.2;omega⟩))
      (case aB => exact (HSR.out.below HTF.out).bel)
      (case aS => exact (HSR.out.below HTF.out).bel.size)
      (case aL => have h1:=SM.out.l3;have h2:=HLT.out;have h3:=congrArg List.length HTT.out;rw [List.length_take] at h3;omega)
      intro v1 w2 hS hb hg hat
      obtain ⟨bk,hbk⟩ : ∃ bk,bk = tt ++ [b]:=⟨_,rfl⟩
      rw [← hbk] at hS
      have HBK0:=Lib.hid hbk
      clear hbk
      have hnp : some g3 ≠ (Value.slice Av tt.length cv).ownBlock:=Kd.S_ne HRo.out.q HSR.out.blk (by decide)
      have HP2:=Lib.hid (blk_grown (g:=g3) (HSR.out.below HTF.out).blk hg hnp)
      have HS2:=Lib.hid hS
      have HG9:=Lib.hid hg
      have hng : Hid (some gb ≠ (Value.slice Av tt.length cv).ownBlock):=Lib.hid (fun e => by have h1:=Kd.S_lt HRo.out.q gb e.symm;have h2:=HGB.out;omega)
      have HT2:=Lib.hid ((Tch.refl wf (fun k => k = g3 ∨ some k = (Value.slice Av tt.length cv).ownBlock)).grown hg (fun k e => .inl (.inr e.symm)))
      clear hb hg hat hnp
      obtain ⟨A1,c1,rfl⟩:=Kd.S_slice hS
      clear hS
      refine hK.out _ _ ⟨HP2.out,blk_grown HBF.out (HG9.out) hng.out⟩ (fun hHeld => ?_)
      clear hK K
      refine norm_ (a' := ?_) ?_ ?_
      rotate_left
      ·show Act.put _ (some 64) _ = _
       simp only [Act.put,List.setIfInBounds_toArray,List.set_cons_zero,List.set_cons_succ,i64_w,i32_w]
       rfl
      refine pure_ (i:=6) (N:=some 65) (v := ?_) (a' := ?_) #[true,true,true,true,true,true,true,false] rfl rfl (by kernel_rfl) (fun _ _ _ h => h) (Or.inl ⟨by rfl, ?_⟩) ?_ ?_
      rotate_left
      ·intro w'
       go_simp
       with_reducible rfl
      rotate_left
      ·simp only [Act.put,List.setIfInBounds_toArray,List.set_cons_zero,List.set_cons_succ,i64_w,i32_w]
       rfl
      refine last_ (i:=7) (N:=none) #[true,true,true,true,true,true,true,true] rfl rfl (by kernel_rfl) (by decide) (fun K hK => ?_)
      refine st_one (by rfl) rfl rfl (g:=g3) (j:=6) (cs:=⟨hostC { h with fr:=tt,ev := [] } (.slice A7 h.fs.length c7) vb (.slice Av tt.length cv) (.slice none 0 0)⟩) (T:=32) (u:=(.slice A1 bk.length c1)) (u0:=(.slice Av tt.length cv)) rfl rfl HP2.out rfl (by kernel_rfl) rfl rfl ?_
      intro w3 hx3 hT3
      have HS3 : Hid (HostP w w3 g3 { h with fr:=bk,ev := [] } (.slice A7 h.fs.length c7) vb (.slice A1 bk.length c1) (.slice none 0 0)):=Lib.hid (HSR.out.newQ HRo.out HTF.out (HT2.out.trans (hT3.mono (fun k hk => .inl hk))) hx3 rfl (S_tch HS2.out HP2.out (by decide) hT3))
      have HX3:=Lib.hid ((HT2.out.trans (hT3.mono (fun k hk => .inl hk))).blk (blk_below HXR.out HTF.out) (by rintro (e | e);exact HG23.out e;exact Kd.S_ne HRo.out.q HXR.out (by decide) e))
      clear hx3 hT3
      refine hK.out _ _ ?_
      clear hK K
      refine done_ (by kernel_rfl) ?_
      clear HS2 HT2 HP2 HTE HTF HR9 HBF HBE2 HG9 hng
      have HBK : Hid (bk = h.fr.take (i + 1)):=Lib.hid (by rw [HBK0.out,HTT.out,HBE.out,List.take_add_one,getD_at h.fr i z45 HLT.out];rfl)
      go_wp2_with (fail)
      go_roundw
      case rel => exact ⟨i + 1,_,bk,HLT.out,by rw [HN.out];rfl,⟨HBK.out⟩,⟨HS3.out⟩,⟨HX3.out⟩⟩
      case measure => rw [HN.out];have:=HLT.out;simp [intOf];omega
     ·have hii : i = h.fr.length:=by omega
      have HTTT : Hid (tt = h.fr):=Lib.hid (by rw [HTT.out,hii,List.take_length])
      have b2 : decide ((i : Int) < (h.fr.length : Int)) = false:=decide_eq_false (by omega)
      have qn : (i < h.fr.length) = False:=eq_false hlt
      have HSk : Hid (HostP w wr g3 { h with ev := [] } (.slice A7 h.fs.length c7) vb vq (.slice none 0 0)):=Lib.hid (by have e:=HSR.out;rw [HTTT.out] at e;exact e)
      have HXk:=Lib.hid HXR.out
      clear hlt hi HSR HXR hii HTT HTTT
      have hp10 : wr.cell? ⟨p,10,none⟩ = some (.slice Ae h.ev.length ce):=blk_cell (blk_below HP.out HSk.out.bel) 10
      go_wp2_with (fail)
      clear hp10 b2 qn
      go_loopw [73] (fun v73 wr => ∃ (i : Nat) (ve : Value) (tt : List S56),i ≤ h.ev.length ∧ v73 = .int .i64 i ∧ Aside0 (tt = h.ev.take i) ∧ Aside0 (HostP w wr g3 { h with ev:=tt } (.slice A7 h.fs.length c7) vb vq ve) ∧ Aside0 (wr.heap[g2]? = some (.cells #[.int .i64 0, .int .i64 0, .int .i64 0, .int .i64 0, .slice none 0 0, .slice none 0 0, .slice none 0 0, .slice none 0 0, .int .i64 0, .int .i64 0] 32 (0,0)))) (fun v73 _ => h.ev.length - (intOf v73).toNat)
      case atStart => exact ⟨0,_, [],Nat.zero_le _,rfl,⟨rfl⟩,⟨HSk.out⟩,⟨HXk.out⟩⟩
      case round =>
       clear HSk HXk
       obtain ⟨i,ve,tt,hi,rfl,HTT,HSR,HXR⟩:=hrel
       by_cases hlt : i < h.ev.length
       ·have b2 : decide ((i : Int) < (h.ev.length : Int)) = true:=decide_eq_true (by omega)
        have p5 : (0 ≤ (i : Int)) = True:=eq_true (by omega)
        have q5 : ((i : Int) < (h.ev.length : Int)) = True:=eq_true (by omega)
        have qn : (i < h.ev.length) = True:=eq_true hlt
        have hn : wrap64 ((i : Int) + 1) = (i : Int) + 1:=by have:=SM.out.l4;unfold wrap64;omega
        have HLT:=Lib.hid hlt
        have HI:=Lib.hid hi
        have HN:=Lib.hid hn
        obtain ⟨ad,A8,c8,ea,k0,k1,k2,k3,k4,k5,k6,k7,l8,g8⟩:=at_T56 (Kd.C_below RE.out HSR.out.bel) (i : Int) (by omega) (by omega)
        subst ea
        clear hlt hi
        rw [Int.toNat_natCast] at k0 k1 k2 k3 k4 k5 k6 k7
        obtain ⟨b,hb⟩ : ∃ b,b = rd_T56 h.ev (i : Int):=⟨_,rfl⟩
        rw [← hb] at k0 k1 k2 k3 k4 k5 k6 k7 l8 g8
        have HBE:=Lib.hid hb
        have L8:=Lib.hid l8
        have G8:=Lib.hid g8
        have HD8 : Hid (b.f3.f4.length ≤ 10000000):=Lib.hid (by rw [hb];exact SM.out.d4 _ (List.mem_of_getElem? (getD_at h.ev i z56 HLT.out)))
        clear hb l8 g8
        go_upto_region 16 with (first | ((with_reducible refine gate_dst (N:=9) rfl ?_);refine box_event ?hg (N:=9) ?hd (cs := #[.int .i64 0, .int .i64 0, .int .i64 0, .bool false, .int .u32 0, .bool false, .int .i64 0, .slice none 0 0]) (t:=56) ?hr ?_;(case hd => rfl);(case hg => rfl);(case hr => first | (go_simp;done) | (go_simp;rfl));intro gb hgb wb hbox hbb;have HGB:=Lib.hid hgb;have HBX:=Lib.hid hbox;have HBB:=Lib.hid hbb;clear hgb hbox hbb) | ((with_reducible refine gate_store (t:=56) (p:=9) rfl ?_);refine store_box rfl rfl rfl (g:=gb) (j:=0) (cs := #[.int .i64 0, .int .i64 0, .int .i64 0, .bool false, .int .u32 0, .bool false, .int .i64 0, .slice none 0 0]) (cs' := #[.int .i64 b.f0, .int .i64 b.f1, .int .i64 b.f2, .bool b.f3.f0, .int .u32 b.f3.f1, .bool b.f3.f2, .int .i64 b.f3.f3, .slice A8 b.f3.f4.length c8]) (T:=56) (seg := [.int .i64 b.f0, .int .i64 b.f1, .int .i64 b.f2, .bool b.f3.f0, .int .u32 b.f3.f1, .bool b.f3.f2, .int .i64 b.f3.f3, .slice A8 b.f3.f4.length c8]) rfl rfl HBX.out rfl (by kernel_rfl) rfl rfl rfl ?_;intro wc hbx hT;have HBC:=Lib.hid hbx;have HTC : Hid (Below wr.heap.size wr wc):=Lib.hid (hT.below HBB.out HBB.out.size (fun k hk => by rw [hk,HGB.out];omega));clear hbx hT))
        clear k0 k1 k2 k3 k4 k5 k6 k7 HBX HBB
        have y3 : wc.cell? ⟨gb,3,none⟩ = some (.bool b.f3.f0):=blk_cell HBC.out 3
        have y4 : wc.cell? ⟨gb,4,none⟩ = some (.int .u32 b.f3.f1):=blk_cell HBC.out 4
        have y5 : wc.cell? ⟨gb,5,none⟩ = some (.bool b.f3.f2):=blk_cell HBC.out 5
        have y6 : wc.cell? ⟨gb,6,none⟩ = some (.int .i64 b.f3.f3):=blk_cell HBC.out 6
        have y7 : wc.cell? ⟨gb,7,none⟩ = some (.slice A8 b.f3.f4.length c8):=blk_cell HBC.out 7
        go_upto_region 17 with (first | (go_at_call 111;refine (copyFrame_v b.f3 A8 c8 wc (Kd.C_below G8.out HTC.out) L8.out HD8.out).mono ?_;rintro e wf ⟨A9,c9,rfl,hr9,hb9⟩;have HR9:=Lib.hid hr9;have HTF:=Lib.hid (below_then HTC.out HTC.out.size hb9);have HBF:=Lib.hid (blk_below HBC.out hb9);clear hr9 hb9) | ((with_reducible refine gate_store (t:=45) (p:=80) rfl ?_);refine store_box rfl rfl rfl (g:=gb) (j:=3) (cs := #[.int .i64 b.f0, .int .i64 b.f1, .int .i64 b.f2, .bool b.f3.f0, .int .u32 b.f3.f1, .bool b.f3.f2, .int .i64 b.f3.f3, .slice A8 b.f3.f4.length c8]) (cs' := #[.int .i64 b.f0, .int .i64 b.f1, .int .i64 b.f2, .bool b.f3.f0, .int .u32 b.f3.f1, .bool b.f3.f2, .int .i64 b.f3.f3, .slice A9 b.f3.f4.length c9]) (T:=56) (seg := [.bool b.f3.f0, .int .u32 b.f3.f1, .bool b.f3.f2, .int .i64 b.f3.f3, .slice A9 b.f3.f4.length c9]) rfl rfl HBF.out rfl (by kernel_rfl) rfl rfl rfl ?_;intro wg hbx hT;have HBG:=Lib.hid hbx;have HTG : Hid (Below wr.heap.size wr wg):=Lib.hid (hT.below HTF.out HTF.out.size (fun k hk => by rw [hk,HGB.out];omega));have HR10:=Lib.hid (R_tch HR9.out HBF.out (by decide) hT);clear hbx hT))
        clear y3 y4 y5 y6 y7 HR9 HBF HTF HBC
        have HMX : Hid ((k56).M wg w.heap.size (fun k => wr.heap.size ≤ k) b [.int .i64 b.f0, .int .i64 b.f1, .int .i64 b.f2, .bool b.f3.f0, .int .u32 b.f3.f1, .bool b.f3.f2, .int .i64 b.f3.f3, .slice A9 b.f3.f4.length c9]):=Lib.hid (k56_mkM wg w.heap.size _ b (Kd.R_lower (Kd.R_mono HR10.out (fun k hk => Nat.le_trans HTC.out.size hk)) (Nat.le_trans HSR.out.bel.size HTC.out.size)))
        clear HR10
        obtain ⟨o,HR⟩:=HSR.out.rows
        have HRo:=Lib.hid HR
        clear HR
        obtain ⟨Av,cv,rfl⟩:=Kd.S_slice HRo.out.e
        have y0 : wg.cell? ⟨gb,0,none⟩ = some (.int .i64 b.f0):=blk_cell HBG.out 0
        have y1 : wg.cell? ⟨gb,1,none⟩ = some (.int .i64 b.f1):=blk_cell HBG.out 1
        have y2 : wg.cell? ⟨gb,2,none⟩ = some (.int .i64 b.f2):=blk_cell HBG.out 2
        have y3 : wg.cell? ⟨gb,3,none⟩ = some (.bool b.f3.f0):=blk_cell HBG.out 3
        have y4 : wg.cell? ⟨gb,4,none⟩ = some (.int .u32 b.f3.f1):=blk_cell HBG.out 4
        have y5 : wg.cell? ⟨gb,5,none⟩ = some (.bool b.f3.f2):=blk_cell HBG.out 5
        have y6 : wg.cell? ⟨gb,6,none⟩ = some (.int .i64 b.f3.f3):=blk_cell HBG.out 6
        have y7 : wg.cell? ⟨gb,7,none⟩ = some (.slice A9 b.f3.f4.length c9):=blk_cell HBG.out 7
        have z0 : wg.cell? ⟨g3,7,none⟩ = some (.slice Av tt.length cv):=blk_cell (HSR.out.below HTG.out).blk 7
        go_upto_region 18 with (first | ((with_reducible refine gate_builtin (b := .append) (xs := #[.tmp 82, .tmp 84]) rfl ?_);at_builtin;refine Kd.S_append k56 (w0:=w) w.heap.size rfl (.tmp 82) (.tmp 84) 30 56 (.agg #[.int .i64 0, .int .i64 0, .int .i64 0, .bool false, .int .u32 0, .bool false, .int .i64 0, .slice none 0 0]) 72 rfl Try.underlying30 info56 rfl (by decide) (by omega) (.slice Av tt.length cv) tt b [.int .i64 b.f0, .int .i64 b.f1, .int .i64 b.f2, .bool b.f3.f0, .int .u32 b.f3.f1, .bool b.f3.f2, .int .i64 b.f3.f3, .slice A9 b.f3.f4.length c9] (fun k => (o k = 3 ∧ k < wr.heap.size) ∨ wr.heap.size ≤ k) (fun k => wr.heap.size ≤ k) rfl rfl ?aP ?aK ?aF ?aO ?aB ?aS ?aL ?_;(case aP => exact HMX.out);(case aK => exact fun k hk => ⟨.inr hk,fun e => by have:=Kd.S_lt HRo.out.e k e.symm;omega⟩);(case aF => exact fun k hk => .inr (Nat.le_trans HTG.out.size hk));(case aO => exact Kd.S_mono (Kd.S_below (S_lt_own HRo.out.e) HTG.out) (fun k hk => ⟨.inl ⟨hk.1.2,hk.2⟩,by have:=hk.2;omega⟩));(case aB => exact (HSR.out.below HTG.out).bel);(case aS => exact (HSR.out.below HTG.out).bel.size);(case aL => have h1:=SM.out.l4;have h2:=HLT.out;have h3:=congrArg List.length HTT.out;rw [List.length_take] at h3;omega);intro v1 w2 hS hb hg hat;obtain ⟨bk,hbk⟩ : ∃ bk,bk = tt ++ [b]:=⟨_,rfl⟩;rw [← hbk] at hS;have HBK0:=Lib.hid hbk;clear hbk;have hnp : some g3 ≠ (Value.slice Av tt.length cv).ownBlock:=Kd.S_ne HRo.out.e HSR.out.blk (by decide);have HP2:=Lib.hid (blk_grown (g:=g3) (HSR.out.below HTG.out).blk hg hnp);have HS2:=Lib.hid hS;have HG9:=Lib.hid hg;have hng : Hid (some gb ≠ (Value.slice Av tt.length cv).ownBlock):=Lib.hid (fun e => by have h1:=Kd.S_lt HRo.out.e gb e.symm;have h2:=HGB.out;omega);have HT2:=Lib.hid ((Tch.refl wg (fun k => k = g3 ∨ some k = (Value.slice Av tt.length cv).ownBlock)).grown hg (fun k e => .inl (.inr e.symm)));clear hb hg hat hnp;obtain ⟨A1,c1,rfl⟩:=Kd.S_slice hS;clear hS) | ((with_reducible refine gate_store (t:=30) (p:=86) rfl ?_);refine store_box rfl rfl rfl (g:=g3) (j:=7) (cs:=⟨hostC { h with ev:=tt } (.slice A7 h.fs.length c7) vb vq (.slice Av tt.length cv)⟩) (cs':=⟨hostC { h with ev:=bk } (.slice A7 h.fs.length c7) vb vq (.slice A1 bk.length c1)⟩) (T:=32) (u:=(.slice A1 bk.length c1)) (seg := [(.slice A1 bk.length c1)]) rfl rfl HP2.out rfl (by kernel_rfl) rfl rfl rfl ?_;intro w3 hx3 hT3;have HS3 : Hid (HostP w w3 g3 { h with ev:=bk } (.slice A7 h.fs.length c7) vb vq (.slice A1 bk.length c1)):=Lib.hid (HSR.out.newE HRo.out HTG.out (HT2.out.trans (hT3.mono (fun k hk => .inl hk))) hx3 rfl (S_tch HS2.out HP2.out (by decide) hT3));have HX3:=Lib.hid ((HT2.out.trans (hT3.mono (fun k hk => .inl hk))).blk (blk_below HXR.out HTG.out) (by rintro (e | e);exact HG23.out e;exact Kd.S_ne HRo.out.e HXR.out (by decide) e));clear hx3 hT3))
        clear y0 y1 y2 y3 y4 y5 y6 y7 z0 HS2 HT2 HP2 HBG HMX HTG HG9 hng
        have HBK : Hid (bk = h.ev.take (i + 1)):=Lib.hid (by rw [HBK0.out,HTT.out,HBE.out,List.take_add_one,getD_at h.ev i z56 HLT.out];rfl)
        go_wp2_with (fail)
        go_roundw
        case rel => exact ⟨i + 1,_,bk,HLT.out,by rw [HN.out];rfl,⟨HBK.out⟩,⟨HS3.out⟩,⟨HX3.out⟩⟩
        case measure => rw [HN.out];have:=HLT.out;simp [intOf];omega
       ·have hii : i = h.ev.length:=by omega
        have HTTT : Hid (tt = h.ev):=Lib.hid (by rw [HTT.out,hii,List.take_length])
        have b2 : decide ((i : Int) < (h.ev.length : Int)) = false:=decide_eq_false (by omega)
        have qn : (i < h.ev.length) = False:=eq_false hlt
        have HSk : Hid (HostP w wr g3 h (.slice A7 h.fs.length c7) vb vq ve):=Lib.hid (by have e:=HSR.out;rw [HTTT.out] at e;exact e)
        have HXk:=Lib.hid HXR.out
        clear hlt hi HSR HXR hii HTT HTTT
        have hul:=Lib.hid Try.underlying32
        go_wp2_with (first | ((with_reducible refine gate_dst (N:=88) rfl ?_);refine load_all rfl rfl (g:=g3) rfl HSk.out.blk hul.out (by kernel_rfl) ?_) | ((with_reducible refine gate_store (t:=32) (p:=2) rfl ?_);refine store_box rfl rfl rfl (g:=g2) (j:=0) (cs := #[.int .i64 0, .int .i64 0, .int .i64 0, .int .i64 0, .slice none 0 0, .slice none 0 0, .slice none 0 0, .slice none 0 0, .int .i64 0, .int .i64 0]) (cs':=⟨hostC h (.slice A7 h.fs.length c7) vb vq ve⟩) (T:=32) (u := .agg ⟨hostC h (.slice A7 h.fs.length c7) vb vq ve⟩) (seg:=hostC h (.slice A7 h.fs.length c7) vb vq ve) rfl rfl HXk.out rfl (by kernel_rfl) ?hone rfl rfl ?_;(case hone => exact List.all_eq_true.2 (k_one4 HSk.out));intro wz hxz hTz;have HRES:=Lib.hid hxz;have HTz:=Lib.hid hTz;clear hxz hTz))
        obtain ⟨oz,hoz⟩:=HSk.out.rows
        have HHz : HRows wz w.heap.size (fun _ => True) oz h (.slice A7 h.fs.length c7) vb vq ve:=(hoz.bound.tch HTz.out (fun k hk => host_other HXk.out hk.2)).mono (fun _ _ => trivial)
        refine bodyPost_ret (results_cell_row rfl _ _ g2 32 ⟨hostC h (.slice A7 h.fs.length c7) vb vq ve⟩ (0,0) _ rfl HRES.out Try.underlying32 rfl (by kernel_rfl)) rfl ?_
        exact ⟨_,rfl,⟨_,_,_,_,oz,rfl,HHz⟩,HTz.out.below HSk.out.bel HSk.out.bel.size (fun k hk => by rw [hk,HG2.out];exact Nat.le_refl _)⟩
 have HRF0 : Hid (Below wd.heap.size wd wd):=Lib.hid (Below.refl _ _)
 refine two_ (i:=4) (j:=19) (Ni:=some 14) (Nj:=some 3) #[true,true,true,true,true,true,true,true,true,false,true,true,true,true,true,true,true,true,false,false,false] #[true,true,true,true,false,true,true,true,true,false,true,true,true,true,true,true,true,true,false,true,false] rfl rfl rfl rfl (by kernel_rfl) (by decide) (by decide) (fun K hK => ?_) (fun K hK => ?_)
 ·refine Kd.R_lit_step k89 (w0:=w) w.heap.size 89 (by rfl) rfl (xs:=([] : List S89)) (inner := []) (ok:=fun k => wd.heap.size ≤ k) (okp:=fun _ => False) ?hr (Reps.none _ _) (fun _ hk => hk.elim) HRF0.out.size (below_then HBd.out HBd.out.size HRF0.out) (Nat.le_trans HBd.out.size HRF0.out.size) (by simp) ?_
  (case hr => first | (go_simp;done) | (go_simp;rfl))
  intro v4 wA hr hb hg hn
  have HRA:=Lib.hid hr
  have HBA:=Lib.hid (below_then HRF0.out HRF0.out.size (below_grown hg (fun k e => by cases e)))
  have HE4:=Lib.hid (below_grown hg (fun k e => by cases e))
  have HN4 : Hid (∀ k,v4.ownBlock = some k → wd.heap.size ≤ k):=Lib.hid (fun k e => by obtain ⟨b,hb,hle⟩:=hn;rw [hb] at e;injection e with e;have:=HRF0.out.size;omega)
  clear hr hb hg hn
  obtain ⟨A4,c4,rfl⟩:=Kd.R_slice HRA.out
  refine hK.out _ _ (blk_below HPd.out HBA.out) (fun hHeld => ?_)
  clear hK K
  refine norm_ (a' := ?_) ?_ ?_
  rotate_left
  ·show Act.put _ (some 14) _ = _
   simp only [Act.put,List.setIfInBounds_toArray,List.set_cons_zero,List.set_cons_succ,i64_w,i32_w]
   rfl
  refine two_ (i:=9) (j:=19) (Ni:=some 19) (Nj:=some 3) #[true,true,true,true,true,true,true,true,true,true,true,true,true,true,true,true,true,true,false,false,false] #[true,true,true,true,true,true,true,true,true,false,true,true,true,true,true,true,true,true,false,true,false] rfl rfl rfl rfl (by kernel_rfl) (by decide) (by decide) (fun K hK => ?_) (fun K hK => ?_)
  ·refine Kd.R_append_rows_step k89 (Rr:=k89.K wA) (w0:=w) w.heap.size (by rfl) (.tmp 14) (.tmp 18) 27 89 (.agg #[(.bool false),(.int .u32 0),(.int .u32 0)]) 12 rfl Try.underlying27 info89 rfl (by decide) (by omega) (.slice A4 0 c4) [] h.fs Af h.fs.length cf (fun k => wd.heap.size ≤ k) (fun _ => False) rfl rfl HRA.out (Kd.C_below RF.out (below_then HBd.out HBd.out.size HBA.out)) (fun x cs hk => by rw [k89_open hk];exact k89_mkM _ _ _ x) (fun _ h => h.elim) (fun k hk => Nat.le_trans HBA.out.size hk) (below_then HBd.out HBd.out.size HBA.out) (Nat.le_trans HBd.out.size HBA.out.size) (by have:=SM.out.l1;simp only [List.length_nil];omega) ?_
   intro v9 wB hr hb hg hn
   rw [List.nil_append] at hr
   have HRB:=Lib.hid hr
   have HBB : Hid (Below wd.heap.size wd wB):=Lib.hid (((Tch.of_below (fun _ => False) HBA.out).grown hg (fun k e => .inr (HN4.out k e))).below (Below.refl _ _) (Nat.le_refl _) (fun _ h => h.elim))
   have HG9:=Lib.hid hg
   clear hr hb hg hn
   obtain ⟨A9,c9,rfl⟩:=Kd.R_slice HRB.out
   refine hK.out _ _ (blk_below HPd.out HBB.out) (fun hHeld => ?_)
   clear hK K
   refine norm_ (a' := ?_) ?_ ?_
   rotate_left
   ·show Act.put _ (some 19) _ = _
    simp only [Act.put,List.setIfInBounds_toArray,List.set_cons_zero,List.set_cons_succ,i64_w,i32_w]
    rfl
   refine pure_ (i:=18) (N:=some 28) (v := ?_) (a' := ?_) #[true,true,true,true,true,true,true,true,true,true,true,true,true,true,true,true,true,true,true,false,false] rfl rfl (by kernel_rfl) (fun _ _ _ h => h) (Or.inl ⟨by rfl, ?_⟩) ?_ ?_
   rotate_left
   ·intro w'
    go_simp
    with_reducible rfl
   rotate_left
   ·simp only [Act.put,List.setIfInBounds_toArray,List.set_cons_zero,List.set_cons_succ,i64_w,i32_w]
    rfl
   refine one_ (i:=19) (N:=some 3) #[true,true,true,true,true,true,true,true,true,true,true,true,true,true,true,true,true,true,true,true,false] rfl rfl (by kernel_rfl) (by decide) (fun K hK => ?_)
   refine box_step (by rfl) rfl (cs := #[.int .i64 0, .int .i64 0, .int .i64 0, .int .i64 0, .slice none 0 0, .slice none 0 0, .slice none 0 0, .slice none 0 0, .int .i64 0, .int .i64 0]) (t:=32) ?hr ?_
   (case hr => first | (go_simp;done) | (go_simp;rfl))
   intro g3 hg3 wC hbox hb
   have HX19:=Lib.hid hbox
   have HGE3 : Hid (wd.heap.size ≤ g3):=Lib.hid (by rw [hg3];exact HBB.out.size)
   have HBC:=Lib.hid (below_then HBB.out HBB.out.size hb)
   have HE19:=Lib.hid hb
   clear hg3 hbox hb
   refine hK.out _ _ (blk_below HPd.out HBC.out) (fun hHeld => ?_)
   clear hK K
   refine norm_ (a' := ?_) ?_ ?_
   rotate_left
   ·show Act.put _ (some 3) _ = _
    simp only [Act.put,List.setIfInBounds_toArray,List.set_cons_zero,List.set_cons_succ,i64_w,i32_w]
    rfl
   refine norm_ (by rfl) (hcont (.slice A4 0 c4,A9,c9,g3) wC ⟨blk_below HPd.out HBC.out,HBC.out,HX19.out,HGE3.out,(Kd.R_below HRB.out HE19.out)⟩)
  ·refine box_step (by rfl) rfl (cs := #[.int .i64 0, .int .i64 0, .int .i64 0, .int .i64 0, .slice none 0 0, .slice none 0 0, .slice none 0 0, .slice none 0 0, .int .i64 0, .int .i64 0]) (t:=32) ?hr ?_
   (case hr => first | (go_simp;done) | (go_simp;rfl))
   intro g3 hg3 wB hbox hb
   have HX19:=Lib.hid hbox
   have HGE3 : Hid (wd.heap.size ≤ g3):=Lib.hid (by rw [hg3];exact HBA.out.size)
   have HBB:=Lib.hid (below_then HBA.out HBA.out.size hb)
   have HE19:=Lib.hid hb
   clear hg3 hbox hb
   refine hK.out _ _ (blk_below HPd.out HBB.out) (fun hHeld => ?_)
   clear hK K
   refine norm_ (a' := ?_) ?_ ?_
   rotate_left
   ·show Act.put _ (some 3) _ = _
    simp only [Act.put,List.setIfInBounds_toArray,List.set_cons_zero,List.set_cons_succ,i64_w,i32_w]
    rfl
   have HRB:=Lib.hid (Kd.R_below HRA.out HE19.out)
   refine one_ (i:=9) (N:=some 19) #[true,true,true,true,true,true,true,true,true,true,true,true,true,true,true,true,true,true,false,true,false] rfl rfl (by kernel_rfl) (by decide) (fun K hK => ?_)
   refine Kd.R_append_rows_step k89 (Rr:=k89.K wB) (w0:=w) w.heap.size (by rfl) (.tmp 14) (.tmp 18) 27 89 (.agg #[(.bool false),(.int .u32 0),(.int .u32 0)]) 12 rfl Try.underlying27 info89 rfl (by decide) (by omega) (.slice A4 0 c4) [] h.fs Af h.fs.length cf (fun k => wd.heap.size ≤ k) (fun _ => False) rfl rfl HRB.out (Kd.C_below RF.out (below_then HBd.out HBd.out.size HBB.out)) (fun x cs hk => by rw [k89_open hk];exact k89_mkM _ _ _ x) (fun _ h => h.elim) (fun k hk => Nat.le_trans HBB.out.size hk) (below_then HBd.out HBd.out.size HBB.out) (Nat.le_trans HBd.out.size HBB.out.size) (by have:=SM.out.l1;simp only [List.length_nil];omega) ?_
   intro v9 wC hr hb hg hn
   rw [List.nil_append] at hr
   have HRC:=Lib.hid hr
   have HBC : Hid (Below wd.heap.size wd wC):=Lib.hid (((Tch.of_below (fun _ => False) HBB.out).grown hg (fun k e => .inr (HN4.out k e))).below (Below.refl _ _) (Nat.le_refl _) (fun _ h => h.elim))
   have HG9:=Lib.hid hg
   clear hr hb hg hn
   obtain ⟨A9,c9,rfl⟩:=Kd.R_slice HRC.out
   refine hK.out _ _ (blk_below HPd.out HBC.out) (fun hHeld => ?_)
   clear hK K
   refine norm_ (a' := ?_) ?_ ?_
   rotate_left
   ·show Act.put _ (some 19) _ = _
    simp only [Act.put,List.setIfInBounds_toArray,List.set_cons_zero,List.set_cons_succ,i64_w,i32_w]
    rfl
   refine pure_ (i:=18) (N:=some 28) (v := ?_) (a' := ?_) #[true,true,true,true,true,true,true,true,true,true,true,true,true,true,true,true,true,true,true,true,false] rfl rfl (by kernel_rfl) (fun _ _ _ h => h) (Or.inl ⟨by rfl, ?_⟩) ?_ ?_
   rotate_left
   ·intro w'
    go_simp
    with_reducible rfl
   rotate_left
   ·simp only [Act.put,List.setIfInBounds_toArray,List.set_cons_zero,List.set_cons_succ,i64_w,i32_w]
    rfl
   refine norm_ (by rfl) (hcont (.slice A4 0 c4,A9,c9,g3) wC ⟨blk_below HPd.out HBC.out,HBC.out,(blk_grown HX19.out HG9.out (Kd.R_ne HRB.out HX19.out (by decide))),HGE3.out,HRC.out⟩)
 ·refine box_step (by rfl) rfl (cs := #[.int .i64 0, .int .i64 0, .int .i64 0, .int .i64 0, .slice none 0 0, .slice none 0 0, .slice none 0 0, .slice none 0 0, .int .i64 0, .int .i64 0]) (t:=32) ?hr ?_
  (case hr => first | (go_simp;done) | (go_simp;rfl))
  intro g3 hg3 wA hbox hb
  have HX19:=Lib.hid hbox
  have HGE3 : Hid (wd.heap.size ≤ g3):=Lib.hid (by rw [hg3];exact HRF0.out.size)
  have HBA:=Lib.hid (below_then HRF0.out HRF0.out.size hb)
  have HE19:=Lib.hid hb
  clear hg3 hbox hb
  refine hK.out _ _ (blk_below HPd.out HBA.out) (fun hHeld => ?_)
  clear hK K
  refine norm_ (a' := ?_) ?_ ?_
  rotate_left
  ·show Act.put _ (some 3) _ = _
   simp only [Act.put,List.setIfInBounds_toArray,List.set_cons_zero,List.set_cons_succ,i64_w,i32_w]
   rfl
  refine one_ (i:=4) (N:=some 14) #[true,true,true,true,true,true,true,true,true,false,true,true,true,true,true,true,true,true,false,true,false] rfl rfl (by kernel_rfl) (by decide) (fun K hK => ?_)
  refine Kd.R_lit_step k89 (w0:=w) w.heap.size 89 (by rfl) rfl (xs:=([] : List S89)) (inner := []) (ok:=fun k => wd.heap.size ≤ k) (okp:=fun _ => False) ?hr (Reps.none _ _) (fun _ hk => hk.elim) HBA.out.size (below_then HBd.out HBd.out.size HBA.out) (Nat.le_trans HBd.out.size HBA.out.size) (by simp) ?_
  (case hr => first | (go_simp;done) | (go_simp;rfl))
  intro v4 wB hr hb hg hn
  have HRB:=Lib.hid hr
  have HBB:=Lib.hid (below_then HBA.out HBA.out.size (below_grown hg (fun k e => by cases e)))
  have HE4:=Lib.hid (below_grown hg (fun k e => by cases e))
  have HN4 : Hid (∀ k,v4.ownBlock = some k → wd.heap.size ≤ k):=Lib.hid (fun k e => by obtain ⟨b,hb,hle⟩:=hn;rw [hb] at e;injection e with e;have:=HBA.out.size;omega)
  clear hr hb hg hn
  obtain ⟨A4,c4,rfl⟩:=Kd.R_slice HRB.out
  refine hK.out _ _ (blk_below HPd.out HBB.out) (fun hHeld => ?_)
  clear hK K
  refine norm_ (a' := ?_) ?_ ?_
  rotate_left
  ·show Act.put _ (some 14) _ = _
   simp only [Act.put,List.setIfInBounds_toArray,List.set_cons_zero,List.set_cons_succ,i64_w,i32_w]
   rfl
  have HX19B:=Lib.hid (blk_below HX19.out HE4.out)
  refine one_ (i:=9) (N:=some 19) #[true,true,true,true,true,true,true,true,true,true,true,true,true,true,true,true,true,true,false,true,false] rfl rfl (by kernel_rfl) (by decide) (fun K hK => ?_)
  refine Kd.R_append_rows_step k89 (Rr:=k89.K wB) (w0:=w) w.heap.size (by rfl) (.tmp 14) (.tmp 18) 27 89 (.agg #[(.bool false),(.int .u32 0),(.int .u32 0)]) 12 rfl Try.underlying27 info89 rfl (by decide) (by omega) (.slice A4 0 c4) [] h.fs Af h.fs.length cf (fun k => wd.heap.size ≤ k) (fun _ => False) rfl rfl HRB.out (Kd.C_below RF.out (below_then HBd.out HBd.out.size HBB.out)) (fun x cs hk => by rw [k89_open hk];exact k89_mkM _ _ _ x) (fun _ h => h.elim) (fun k hk => Nat.le_trans HBB.out.size hk) (below_then HBd.out HBd.out.size HBB.out) (Nat.le_trans HBd.out.size HBB.out.size) (by have:=SM.out.l1;simp only [List.length_nil];omega) ?_
  intro v9 wC hr hb hg hn
  rw [List.nil_append] at hr
  have HRC:=Lib.hid hr
  have HBC : Hid (Below wd.heap.size wd wC):=Lib.hid (((Tch.of_below (fun _ => False) HBB.out).grown hg (fun k e => .inr (HN4.out k e))).below (Below.refl _ _) (Nat.le_refl _) (fun _ h => h.elim))
  have HG9:=Lib.hid hg
  clear hr hb hg hn
  obtain ⟨A9,c9,rfl⟩:=Kd.R_slice HRC.out
  refine hK.out _ _ (blk_below HPd.out HBC.out) (fun hHeld => ?_)
  clear hK K
  refine norm_ (a' := ?_) ?_ ?_
  rotate_left
  ·show Act.put _ (some 19) _ = _
   simp only [Act.put,List.setIfInBounds_toArray,List.set_cons_zero,List.set_cons_succ,i64_w,i32_w]
   rfl
  refine pure_ (i:=18) (N:=some 28) (v := ?_) (a' := ?_) #[true,true,true,true,true,true,true,true,true,true,true,true,true,true,true,true,true,true,true,true,false] rfl rfl (by kernel_rfl) (fun _ _ _ h => h) (Or.inl ⟨by rfl, ?_⟩) ?_ ?_
  rotate_left
  ·intro w'
   go_simp
   with_reducible rfl
  rotate_left
  ·simp only [Act.put,List.setIfInBounds_toArray,List.set_cons_zero,List.set_cons_succ,i64_w,i32_w]
   rfl
  refine norm_ (by rfl) (hcont (.slice A4 0 c4,A9,c9,g3) wC ⟨blk_below HPd.out HBC.out,HBC.out,(blk_grown HX19B.out HG9.out (Kd.R_ne HRB.out HX19B.out (by decide))),HGE3.out,HRC.out⟩)
end Go.Proofs.Ytcaefabbcjlkdaa.P
namespace Go.Proofs.Ytcaefabbcjlkdaa.P
open Go.RowKit Go.Proofs.YtcaefabbcjlkdaaW.PrintWords Go.Proofs.YtcaefabbcjlkdaaW.PrintLast Go.Proofs.YtcaefabbcjlkdaaW.PrintMore
set_option linter.unusedVariables false
set_option linter.unusedSimpArgs false
def laws_toConfig.f (a0_0 : Int) (a0_1 : Int) (a0_2 : Int) (a0_3 : Int) : Option (Int × Int × Int × Int):=some (a0_0,a0_1,a0_2,a0_3)
set_option maxHeartbeats 8000000 in
set_option maxRecDepth 100000 in
theorem laws_toConfig.calls (a0_0 : Int) (a0_1 : Int) (a0_2 : Int) (a0_3 : Int) (r1 : Int) (r2 : Int) (r3 : Int) (r4 : Int) (w : World) (h : laws_toConfig.f a0_0 a0_1 a0_2 a0_3 = some (r1,r2,r3,r4)) :
  Calls Try.prog 16 #[.agg #[.int .i64 a0_0, .int .i64 a0_1, .int .i64 a0_2, .int .i64 a0_3]] w fun e w' => e = .returned (.agg #[.int .i64 r1, .int .i64 r2, .int .i64 r3, .int .i64 r4]) ∧ Below w.heap.size w w':=by
 have hu23:=Try.underlying23
 have hu26:=Try.underlying26
 have HB:=Aside0.mk (Below.refl w.heap.size w)
 have H : (some (a0_0,a0_1,a0_2,a0_3)) = some (r1,r2,r3,r4):=h
 clear h
 simp only [Option.some.injEq,Prod.mk.injEq] at H
 obtain ⟨rfl,rfl,rfl,rfl⟩:=H
 go_enter Try.func16,Try.ntmps16
 go_wp2_with (first | ((with_reducible refine gate_dst (N:=1) rfl ?_);refine box_event ?hg (N:=1) ?hd (cs := #[.int .i64 a0_0, .int .i64 a0_1, .int .i64 a0_2, .int .i64 a0_3]) (t:=23) ?hr ?_;(case hd => rfl);(case hg => rfl);(case hr => first | (go_simp;done) | (go_simp;rfl));intro gb675 hg w2 hbox hb;have n0_:=Aside0.mk (below_step (by repeat (first | (with_reducible first | exact HB.out | apply below_alloc | apply pw_below_drewN | apply below_drew1) | exact HB.out)) hb);have n1_:=Aside0.mk (hbox);have n2_:=Aside0.mk ((by rw [hg];exact (below_size (by repeat (first | (with_reducible first | exact HB.out | apply below_alloc | apply pw_below_drewN | apply below_drew1) | exact HB.out))) : w.heap.size ≤ gb675));have n3_:=Aside0.mk ((by rw [hg];exact (below_size (by repeat (first | (with_reducible first | exact HB.out | apply below_alloc | apply pw_below_drewN | apply below_drew1) | exact HB.out))) : w.heap.size ≤ gb675));clear HB;have HB:=n0_;have BK675:=n1_;have GW675:=n2_;have GE675:=n3_;clear n0_ n1_ n2_ n3_;clear hb hbox hg) | ((with_reducible refine gate_dst (N:=2) rfl ?_);refine box_event ?hg (N:=2) ?hd (cs := #[.int .i64 0, .int .i64 0, .int .i64 0, .int .i64 0]) (t:=26) ?hr ?_;(case hd => rfl);(case hg => rfl);(case hr => first | (go_simp;done) | (go_simp;rfl));intro gb676 hg w3 hbox hb;have n0_:=Aside0.mk (blk_below (g:=gb675) (o := .cells #[.int .i64 a0_0, .int .i64 a0_1, .int .i64 a0_2, .int .i64 a0_3] 23 (0,0)) (by (with_reducible repeat (first | refine blk_drewN ?_ _ | refine blk_drew ?_ | refine blk_alloc ?_ _));exact BK675.out) hb);have n1_:=Aside0.mk (below_step (by repeat (first | (with_reducible first | exact HB.out | apply below_alloc | apply pw_below_drewN | apply below_drew1 | refine below_set ?_ GE675.out) | exact HB.out)) hb);have n2_:=Aside0.mk (hbox);have n3_:=Aside0.mk ((by rw [hg];exact (below_size (by repeat (first | (with_reducible first | exact HB.out | apply below_alloc | apply pw_below_drewN | apply below_drew1 | refine below_set ?_ GE675.out) | exact HB.out))) : w.heap.size ≤ gb676));have n4_:=Aside0.mk ((by rw [hg];exact (below_size (by repeat (first | (with_reducible first | exact HB.out | apply below_alloc | apply pw_below_drewN | apply below_drew1 | refine below_set ?_ GE675.out) | exact HB.out))) : w.heap.size ≤ gb676));have n5_:=Aside0.mk ((by rw [hg];exact Nat.ne_of_lt (blk_lt (g:=gb675) (o := .cells #[.int .i64 a0_0, .int .i64 a0_1, .int .i64 a0_2, .int .i64 a0_3] 23 (0,0)) (by (with_reducible repeat (first | refine blk_drewN ?_ _ | refine blk_drew ?_ | refine blk_alloc ?_ _));exact BK675.out)) : gb675 ≠ gb676));have n6_:=Aside0.mk ((by rw [hg];exact Nat.ne_of_gt (blk_lt (g:=gb675) (o := .cells #[.int .i64 a0_0, .int .i64 a0_1, .int .i64 a0_2, .int .i64 a0_3] 23 (0,0)) (by (with_reducible repeat (first | refine blk_drewN ?_ _ | refine blk_drew ?_ | refine blk_alloc ?_ _));exact BK675.out)) : gb676 ≠ gb675));clear BK675;clear HB;have BK675:=n0_;have HB:=n1_;have BK676:=n2_;have GW676:=n3_;have GE676:=n4_;have NB675_676:=n5_;have NB676_675:=n6_;clear n0_ n1_ n2_ n3_ n4_ n5_ n6_;clear hb hbox hg) | ((with_reducible refine gate_dst (N:=3) rfl ?_);refine box_event ?hg (N:=3) ?hd (cs := #[.int .i64 0, .int .i64 0, .int .i64 0, .int .i64 0]) (t:=26) ?hr ?_;(case hd => rfl);(case hg => rfl);(case hr => first | (go_simp;done) | (go_simp;rfl));intro gb677 hg w4 hbox hb;have n0_:=Aside0.mk (blk_below (g:=gb675) (o := .cells #[.int .i64 a0_0, .int .i64 a0_1, .int .i64 a0_2, .int .i64 a0_3] 23 (0,0)) (by (with_reducible repeat (first | refine blk_drewN ?_ _ | refine blk_drew ?_ | refine blk_alloc ?_ _));exact BK675.out) hb);have n1_:=Aside0.mk (blk_below (g:=gb676) (o := .cells #[.int .i64 0, .int .i64 0, .int .i64 0, .int .i64 0] 26 (0,0)) (by (with_reducible repeat (first | refine blk_drewN ?_ _ | refine blk_drew ?_ | refine blk_alloc ?_ _));exact BK676.out) hb);have n2_:=Aside0.mk (below_step (by repeat (first | (with_reducible first | exact HB.out | apply below_alloc | apply pw_below_drewN | apply below_drew1 | refine below_set ?_ GE675.out | refine below_set ?_ GE676.out) | exact HB.out)) hb);have n3_:=Aside0.mk (hbox);have n4_:=Aside0.mk ((by rw [hg];exact (below_size (by repeat (first | (with_reducible first | exact HB.out | apply below_alloc | apply pw_below_drewN | apply below_drew1 | refine below_set ?_ GE675.out | refine below_set ?_ GE676.out) | exact HB.out))) : w.heap.size ≤ gb677));have n5_:=Aside0.mk ((by rw [hg];exact (below_size (by repeat (first | (with_reducible first | exact HB.out | apply below_alloc | apply pw_below_drewN | apply below_drew1 | refine below_set ?_ GE675.out | refine below_set ?_ GE676.out) | exact HB.out))) : w.heap.size ≤ gb677));have n6_:=Aside0.mk ((by rw [hg];exact Nat.ne_of_lt (blk_lt (g:=gb675) (o := .cells #[.int .i64 a0_0, .int .i64 a0_1, .int .i64 a0_2, .int .i64 a0_3] 23 (0,0)) (by (with_reducible repeat (first | refine blk_drewN ?_ _ | refine blk_drew ?_ | refine blk_alloc ?_ _));exact BK675.out)) : gb675 ≠ gb677));have n7_:=Aside0.mk ((by rw [hg];exact Nat.ne_of_gt (blk_lt (g:=gb675) (o := .cells #[.int .i64 a0_0, .int .i64 a0_1, .int .i64 a0_2, .int .i64 a0_3] 23 (0,0)) (by (with_reducible repeat (first | refine blk_drewN ?_ _ | refine blk_drew ?_ | refine blk_alloc ?_ _));exact BK675.out)) : gb677 ≠ gb675));have n8_:=Aside0.mk ((by rw [hg];exact Nat.ne_of_lt (blk_lt (g:=gb676) (o := .cells #[.int .i64 0, .int .i64 0, .int .i64 0, .int .i64 0] 26 (0,0)) (by (with_reducible repeat (first | refine blk_drewN ?_ _ | refine blk_drew ?_ | refine blk_alloc ?_ _));exact BK676.out)) : gb676 ≠ gb677));have n9_:=Aside0.mk ((by rw [hg];exact Nat.ne_of_gt (blk_lt (g:=gb676) (o := .cells #[.int .i64 0, .int .i64 0, .int .i64 0, .int .i64 0] 26 (0,0)) (by (with_reducible repeat (first | refine blk_drewN ?_ _ | refine blk_drew ?_ | refine blk_alloc ?_ _));exact BK676.out)) : gb677 ≠ gb676));clear BK675;clear BK676;clear HB;have BK675:=n0_;have BK676:=n1_;have HB:=n2_;have BK677:=n3_;have GW677:=n4_;have GE677:=n5_;have NB675_677:=n6_;have NB677_675:=n7_;have NB676_677:=n8_;have NB677_676:=n9_;clear n0_ n1_ n2_ n3_ n4_ n5_ n6_ n7_ n8_ n9_;clear hb hbox hg;have hnb5:=NB675_676.out;have hnc5:=NB676_675.out;have hnb6:=NB675_677.out;have hnc6:=NB677_675.out;have hcz7_0 : w4.cell? ⟨gb675,0,none⟩ = some (.int .i64 a0_0):=(blk_cell BK675.out 0).trans rfl;have hcz7_1 : w4.cell? ⟨gb675,1,none⟩ = some (.int .i64 a0_1):=(blk_cell BK675.out 1).trans rfl;have hcz7_2 : w4.cell? ⟨gb675,2,none⟩ = some (.int .i64 a0_2):=(blk_cell BK675.out 2).trans rfl;have hcz7_3 : w4.cell? ⟨gb675,3,none⟩ = some (.int .i64 a0_3):=(blk_cell BK675.out 3).trans rfl;have hfz7_0:=blk_frozen BK675.out 0;have hfz7_1:=blk_frozen BK675.out 1;have hfz7_2:=blk_frozen BK675.out 2;have hfz7_3:=blk_frozen BK675.out 3;have hnb8:=NB677_676.out;have hnc8:=NB676_677.out;have hcz9_0 : w4.cell? ⟨gb677,0,none⟩ = some (.int .i64 0):=(blk_cell BK677.out 0).trans rfl;have hcz9_1 : w4.cell? ⟨gb677,1,none⟩ = some (.int .i64 0):=(blk_cell BK677.out 1).trans rfl;have hcz9_2 : w4.cell? ⟨gb677,2,none⟩ = some (.int .i64 0):=(blk_cell BK677.out 2).trans rfl;have hcz9_3 : w4.cell? ⟨gb677,3,none⟩ = some (.int .i64 0):=(blk_cell BK677.out 3).trans rfl;have hfz9_0:=blk_frozen BK677.out 0;have hfz9_1:=blk_frozen BK677.out 1;have hfz9_2:=blk_frozen BK677.out 2;have hfz9_3:=blk_frozen BK677.out 3;have hcz10_0 : w4.cell? ⟨gb676,0,none⟩ = some (.int .i64 0):=(blk_cell BK676.out 0).trans rfl;have hcz10_1 : w4.cell? ⟨gb676,1,none⟩ = some (.int .i64 0):=(blk_cell BK676.out 1).trans rfl;have hcz10_2 : w4.cell? ⟨gb676,2,none⟩ = some (.int .i64 0):=(blk_cell BK676.out 2).trans rfl;have hcz10_3 : w4.cell? ⟨gb676,3,none⟩ = some (.int .i64 0):=(blk_cell BK676.out 3).trans rfl;have hfz10_0:=blk_frozen BK676.out 0;have hfz10_1:=blk_frozen BK676.out 1;have hfz10_2:=blk_frozen BK676.out 2;have hfz10_3:=blk_frozen BK676.out 3))
 refine bodyPost_ret (results_cell_row rfl _ _ gb676 26 #[.int .i64 a0_0, .int .i64 a0_1, .int .i64 a0_2, .int .i64 a0_3] (0,0) _ rfl (by (with_reducible repeat (first | refine blk_drewN ?_ _ | refine blk_drew ?_ | refine blk_alloc ?_ _));refine blk_put (cs := #[.int .i64 a0_0, .int .i64 a0_1, .int .i64 a0_2, .int .i64 0]) ?_ 3 _ rfl;(with_reducible repeat (first | refine blk_drewN ?_ _ | refine blk_drew ?_ | refine blk_alloc ?_ _));refine blk_put (cs := #[.int .i64 a0_0, .int .i64 a0_1, .int .i64 0, .int .i64 0]) ?_ 2 _ rfl;(with_reducible repeat (first | refine blk_drewN ?_ _ | refine blk_drew ?_ | refine blk_alloc ?_ _));refine blk_put (cs := #[.int .i64 a0_0, .int .i64 0, .int .i64 0, .int .i64 0]) ?_ 1 _ rfl;(with_reducible repeat (first | refine blk_drewN ?_ _ | refine blk_drew ?_ | refine blk_alloc ?_ _));refine blk_put (cs := #[.int .i64 0, .int .i64 0, .int .i64 0, .int .i64 0]) ?_ 0 _ rfl;(with_reducible repeat (first | refine blk_drewN ?_ _ | refine blk_drew ?_ | refine blk_alloc ?_ _));refine blk_far ?_ NB676_677.out _;(with_reducible repeat (first | refine blk_drewN ?_ _ | refine blk_drew ?_ | refine blk_alloc ?_ _));refine blk_far ?_ NB676_677.out _;(with_reducible repeat (first | refine blk_drewN ?_ _ | refine blk_drew ?_ | refine blk_alloc ?_ _));refine blk_far ?_ NB676_677.out _;(with_reducible repeat (first | refine blk_drewN ?_ _ | refine blk_drew ?_ | refine blk_alloc ?_ _));refine blk_far ?_ NB676_677.out _;(with_reducible repeat (first | refine blk_drewN ?_ _ | refine blk_drew ?_ | refine blk_alloc ?_ _));exact BK676.out) Try.underlying26 rfl (by kernel_rfl)) rfl ?_
 exact ⟨by first | rfl | (simp [errW_none,errW_some] <;> rfl) | (simp [*,errW_none,errW_some] <;> rfl),by repeat (first | (with_reducible first | exact HB.out | apply below_alloc | apply pw_below_drewN | apply below_drew1 | refine below_set ?_ GE675.out | refine below_set ?_ GE676.out | refine below_set ?_ GE677.out) | exact HB.out)⟩
end Go.Proofs.Ytcaefabbcjlkdaa.P
namespace Go.Proofs.Ytcaefabbcjlkdaa.P
open Go Go.RowKit Go.Proofs.YtcaefabbcjlkdaaW.PrintWords Go.Proofs.YtcaefabbcjlkdaaW.PrintLast Go.Proofs.YtcaefabbcjlkdaaW.PrintMore
set_option linter.unusedVariables false
set_option linter.unusedSimpArgs false
theorem HostP.put {w0 w we : World} {p : Nat} {x x' : HV} {vf vb vq ve : Value} (H : HostP w0 w p x vf vb vq ve) (hT : Tch w we (fun k => k = p)) (hx : we.heap[p]? = some (.cells ⟨hostC x' vf vb vq ve⟩ 32 (0,0)))
  (hf : x'.fs = x.fs) (hb : x'.bs = x.bs) (hq : x'.fr = x.fr) (he : x'.ev = x.ev) : HostP w0 we p x' vf vb vq ve:=by
 obtain ⟨h1,h2,⟨o,h4⟩,h5⟩:=H
 have h7:=(h4.bound.tch hT (fun k hk => host_other h2 hk.2)).mono (ok':=fun _ => True) (fun _ _ => trivial)
 exact ⟨hT.below h1 h1.size (fun k hk => hk ▸ h5),hx,⟨o,by rw [hf];exact h7.f,by rw [hb];exact h7.b,by rw [hq];exact h7.q,by rw [he];exact h7.e⟩,h5⟩
theorem toFilterS_w (l : List S91) (y : List S89) (hy : y = l.map cFilter) (hl : l.length ≤ 10000000) (w : World) (A : Option Addr) (c : Nat) (hr : (k91).C w A l.length l) (hc : l.length ≤ c) :
  Calls Try.prog 17 #[.slice A l.length c] w fun e w' => ∃ v,e = .returned v ∧ (k89).R 89 w' w.heap.size (fun k => w.heap.size ≤ k) v y ∧ Below w.heap.size w w':=by
 subst hy
 obtain ⟨k,hk⟩:=(toFilterS_ev l hl).rounds
 refine (laws_toFilterS.calls k A c l _ w hr hc hk).mono ?_
 rintro e w' ⟨v,rfl,h,hb⟩
 exact ⟨v,rfl,Kd.R_mono (Kd.R_bound h) (fun k hk => hk.2.1),hb⟩
theorem toBoxS_w (l : List S141) (y : List S87) (hy : y = l.map cBox) (hl : l.length ≤ 10000000) (hd : ∀ y ∈ l,y.f3.f4.length ≤ 10000000) (w : World) (A : Option Addr) (c : Nat) (hr : (k141).C w A l.length l) (hc : l.length ≤ c) :
  Calls Try.prog 88 #[.slice A l.length c] w fun e w' => ∃ v,e = .returned v ∧ Kd.S k87 87 w' w.heap.size (fun k => w.heap.size ≤ k) v y ∧ Below w.heap.size w w':=by
 subst hy
 obtain ⟨k,hk⟩:=(toBoxS_ev l hl hd).rounds
 refine (laws_toBoxS.calls k A c l _ w hr hc hk).mono ?_
 rintro e w' ⟨v,rfl,h,hb⟩
 exact ⟨v,rfl,Kd.S_mono (Kd.S_bound h) (fun k hk => hk.2.1),hb⟩
theorem toFrameS_w (l : List S77) (y : List S45) (hy : y = l.map cFrame) (hl : l.length ≤ 10000000) (hd : ∀ y ∈ l,y.f4.length ≤ 10000000) (w : World) (A : Option Addr) (c : Nat) (hr : (k77).C w A l.length l) (hc : l.length ≤ c) :
  Calls Try.prog 89 #[.slice A l.length c] w fun e w' => ∃ v,e = .returned v ∧ Kd.S k45 45 w' w.heap.size (fun k => w.heap.size ≤ k) v y ∧ Below w.heap.size w w':=by
 subst hy
 obtain ⟨k,hk⟩:=(toFrameS_ev l hl hd).rounds
 refine (laws_toFrameS.calls k A c l _ w hr hc hk).mono ?_
 rintro e w' ⟨v,rfl,h,hb⟩
 exact ⟨v,rfl,Kd.S_mono (Kd.S_bound h) (fun k hk => hk.2.1),hb⟩
theorem toEventS_w (l : List S144) (y : List S56) (hy : y = l.map cEvent) (hl : l.length ≤ 10000000) (hd : ∀ y ∈ l,y.f3.f4.length ≤ 10000000) (w : World) (A : Option Addr) (c : Nat) (hr : (k144).C w A l.length l) (hc : l.length ≤ c) :
  Calls Try.prog 90 #[.slice A l.length c] w fun e w' => ∃ v,e = .returned v ∧ Kd.S k56 56 w' w.heap.size (fun k => w.heap.size ≤ k) v y ∧ Below w.heap.size w w':=by
 subst hy
 obtain ⟨k,hk⟩:=(toEventS_ev l hl hd).rounds
 refine (laws_toEventS.calls k A c l _ w hr hc hk).mono ?_
 rintro e w' ⟨v,rfl,h,hb⟩
 exact ⟨v,rfl,Kd.S_mono (Kd.S_bound h) (fun k hk => hk.2.1),hb⟩
theorem HostP.read {w0 w : World} {p : Nat} {x : HV} {vf vb vq ve : Value} (H : HostP w0 w p x vf vb vq ve) : HRead w x (hostC x vf vb vq ve):=by
 obtain ⟨o,h⟩:=H.rows
 exact h.read
theorem HostP.own2 {w0 w we : World} {p g : Nat} {x : HV} {vf vb vq ve : Value} {cells : Array Value} (H : HostP w0 w p x vf vb vq ve) (hT : Tch w we (fun k => k = g)) (hg : w.heap[g]? = some (.cells cells 32 (0,0))) : HOwn we w0.heap.size (fun _ => True) x (hostC x vf vb vq ve):=by
 obtain ⟨o,h⟩:=H.rows
 exact ⟨vf,vb,vq,ve,o,rfl,(h.bound.tch hT (fun k hk => hk.2.ne hg (by decide))).mono (fun _ _ => trivial)⟩
theorem HRead.one {w : World} {h : HV} {C : List Value} (H : HRead w h C) : ∀ u ∈ C,u.oneCell' = true:=by
 obtain ⟨Af,cf,Ab,cb,Aq,cq,Ae,ce,rfl,_⟩:=H
 intro u hu
 simp only [hostC,List.mem_cons,List.not_mem_nil,or_false] at hu
 rcases hu with rfl | rfl | rfl | rfl | rfl | rfl | rfl | rfl | rfl | rfl <;> rfl
set_option maxRecDepth 100000 in
set_option maxHeartbeats 8000000 in
theorem toHost_v (x : S63) (hF : LFits x) (w : World) (C : List Value) (hK : k63.K w x C) :
  Calls Try.prog 34 #[.agg ⟨C⟩] w fun e w' => ∃ C',e = .returned (.agg ⟨C'⟩) ∧ HOwn w' w.heap.size (fun _ => True) (hvOf x) C' ∧ Below w.heap.size w w':=by
 obtain ⟨A4,c4,A5,c5,A6,c6,A7,c7,rfl,l4,g4,l5,g5,l6,g6,l7,g7⟩:=k63_open hK
 have G4:=Lib.hid g4
 have L4:=Lib.hid l4
 have G5:=Lib.hid g5
 have L5:=Lib.hid l5
 have G6:=Lib.hid g6
 have L6:=Lib.hid l6
 have G7:=Lib.hid g7
 have L7:=Lib.hid l7
 have F:=Lib.hid hF
 have HB_0 : Hid (Below w.heap.size w w):=Lib.hid (Below.refl _ _)
 clear g4 g5 g6 g7 l4 l5 l6 l7 hK hF
 obtain ⟨z1,hz1⟩ : ∃ z,z = x.f1.map cFilter:=⟨_,rfl⟩
 have HZ1:=Lib.hid hz1
 obtain ⟨z2,hz2⟩ : ∃ z,z = x.f2.map cBox:=⟨_,rfl⟩
 have HZ2:=Lib.hid hz2
 obtain ⟨z3,hz3⟩ : ∃ z,z = x.f3.map cFrame:=⟨_,rfl⟩
 have HZ3:=Lib.hid hz3
 obtain ⟨z4,hz4⟩ : ∃ z,z = x.f4.map cEvent:=⟨_,rfl⟩
 have HZ4:=Lib.hid hz4
 have HVX : Hid ((⟨x.f0.f0,x.f0.f1,x.f0.f2,x.f0.f3,z1,z2,z3,z4,x.f5,x.f6⟩ : HV) = hvOf x):=Lib.hid (by rw [hz1,hz2,hz3,hz4];rfl)
 clear hz1 hz2 hz3 hz4
 have hu63:=Lib.hid Try.underlying63
 have hu32:=Lib.hid Try.underlying32
 go_enter Try.func34,Try.ntmps34
 go_upto_region 1 with (first | ((with_reducible refine gate_dst (N:=1) rfl ?_);refine box_event ?hg (N:=1) ?hd (cs:=⟨[.int .i64 x.f0.f0, .int .i64 x.f0.f1, .int .i64 x.f0.f2, .int .i64 x.f0.f3, .slice A4 x.f1.length c4, .slice A5 x.f2.length c5, .slice A6 x.f3.length c6, .slice A7 x.f4.length c7, .int .i64 x.f5, .int .i64 x.f6]⟩) (t:=63) ?hr ?_;(case hd => rfl);(case hg => rfl);(case hr => first | (go_simp;done) | (go_simp;rfl));intro g1 hg w1 hbox hb;have LO_HB_g1 : Hid (w.heap.size ≤ g1):=Lib.hid (by rw [hg];exact HB_0.out.size);have HEg1:=Lib.hid hg;have HB_1:=Lib.hid (below_then HB_0.out HB_0.out.size hb);have Xg1_1:=Lib.hid hbox;clear hg hbox hb) | ((with_reducible refine gate_dst (N:=2) rfl ?_);refine box_event ?hg (N:=2) ?hd (cs:=⟨[.int .i64 0, .int .i64 0, .int .i64 0, .int .i64 0, .slice none 0 0, .slice none 0 0, .slice none 0 0, .slice none 0 0, .int .i64 0, .int .i64 0]⟩) (t:=32) ?hr ?_;(case hd => rfl);(case hg => rfl);(case hr => first | (go_simp;done) | (go_simp;rfl));intro g2 hg w2 hbox hb;have LO_HB_g2 : Hid (w.heap.size ≤ g2):=Lib.hid (by rw [hg];exact HB_1.out.size);have NE_g1_g2 : Hid (g1 ≠ g2):=Lib.hid (fun e => by have h1:=blk_lt Xg1_1.out;omega);have HEg2:=Lib.hid hg;have HB_2:=Lib.hid (below_then HB_1.out HB_1.out.size hb);have Xg1_2:=Lib.hid (blk_below Xg1_1.out hb);have Xg2_2:=Lib.hid hbox;clear hg hbox hb))
 go_upto_region 2 with (first | ((with_reducible refine gate_dst (N:=3) rfl ?_);refine box_event ?hg (N:=3) ?hd (cs:=⟨[.int .i64 0, .int .i64 0, .int .i64 0, .int .i64 0, .slice none 0 0, .slice none 0 0, .slice none 0 0, .slice none 0 0, .int .i64 0, .int .i64 0]⟩) (t:=32) ?hr ?_;(case hd => rfl);(case hg => rfl);(case hr => first | (go_simp;done) | (go_simp;rfl));intro g3 hg w3 hbox hb;have LO_HB_g3 : Hid (w.heap.size ≤ g3):=Lib.hid (by rw [hg];exact HB_2.out.size);have NE_g1_g3 : Hid (g1 ≠ g3):=Lib.hid (fun e => by have h1:=blk_lt Xg1_2.out;omega);have NE_g2_g3 : Hid (g2 ≠ g3):=Lib.hid (fun e => by have h1:=blk_lt Xg2_2.out;omega);have HEg3:=Lib.hid hg;have HB_3:=Lib.hid (below_then HB_2.out HB_2.out.size hb);have Xg1_3:=Lib.hid (blk_below Xg1_2.out hb);have Xg2_3:=Lib.hid (blk_below Xg2_2.out hb);have Xg3_3:=Lib.hid hbox;clear hg hbox hb))
 have HP_3 : Hid (HostP w w3 g3 hv0 (.slice none 0 0) (.slice none 0 0) (.slice none 0 0) (.slice none 0 0)):=Lib.hid ⟨HB_3.out,Xg3_3.out,⟨fun _ => 0,Kd.R_nil _ _ _ _ _,Kd.S_nil _ _ _ _ _,Kd.S_nil _ _ _ _ _,Kd.S_nil _ _ _ _ _⟩,LO_HB_g3.out⟩
 have y0 : w3.cell? ⟨g1,0,none⟩ = some (.int .i64 x.f0.f0):=blk_cell Xg1_3.out 0
 have y1 : w3.cell? ⟨g1,1,none⟩ = some (.int .i64 x.f0.f1):=blk_cell Xg1_3.out 1
 have y2 : w3.cell? ⟨g1,2,none⟩ = some (.int .i64 x.f0.f2):=blk_cell Xg1_3.out 2
 have y3 : w3.cell? ⟨g1,3,none⟩ = some (.int .i64 x.f0.f3):=blk_cell Xg1_3.out 3
 go_upto_region 3 with (first | (go_at_call 16;refine (laws_toConfig.calls x.f0.f0 x.f0.f1 x.f0.f2 x.f0.f3 _ _ _ _ w3 rfl).mono ?_;rintro e w4 ⟨rfl,hb⟩;have HB_4:=Lib.hid (below_then HB_3.out HB_3.out.size hb);have Xg1_4:=Lib.hid (blk_below Xg1_3.out hb);have Xg2_4:=Lib.hid (blk_below Xg2_3.out hb);have HP_4:=Lib.hid (HP_3.out.below hb);clear hb) | ((with_reducible refine gate_store (t:=26) (p:=7) rfl ?_);refine store_box rfl rfl rfl (g:=g3) (j:=0) (cs:=⟨hostC (⟨0,0,0,0, [], [], [], [],0,0⟩ : HV) (.slice none 0 0) (.slice none 0 0) (.slice none 0 0) (.slice none 0 0)⟩) (cs':=⟨hostC (⟨x.f0.f0,x.f0.f1,x.f0.f2,x.f0.f3, [], [], [], [],0,0⟩ : HV) (.slice none 0 0) (.slice none 0 0) (.slice none 0 0) (.slice none 0 0)⟩) (T:=32) (seg := [.int .i64 x.f0.f0, .int .i64 x.f0.f1, .int .i64 x.f0.f2, .int .i64 x.f0.f3]) rfl rfl HP_4.out.blk rfl (by kernel_rfl) rfl rfl rfl ?_;intro w5 hx hT;have Xg1_5:=Lib.hid (hT.blk Xg1_4.out NE_g1_g3.out);have Xg2_5:=Lib.hid (hT.blk Xg2_4.out NE_g2_g3.out);have HB_5:=Lib.hid (hT.below HB_4.out HB_4.out.size (fun k hk => by rw [hk];exact LO_HB_g3.out));have HP_5 : Hid (HostP w w5 g3 (⟨x.f0.f0,x.f0.f1,x.f0.f2,x.f0.f3, [], [], [], [],0,0⟩ : HV) (.slice none 0 0) (.slice none 0 0) (.slice none 0 0) (.slice none 0 0)):=Lib.hid (HP_4.out.put hT hx rfl rfl rfl rfl);clear hx hT))
 clear y0 y1 y2 y3
 have y4 : w5.cell? ⟨g1,4,none⟩ = some (.slice A4 x.f1.length c4):=blk_cell Xg1_5.out 4
 go_upto_region 4 with (first | (go_at_call 17;refine (toFilterS_w x.f1 z1 HZ1.out (Nat.le_trans F.out.l1 (by decide)) w5 A4 c4 (Kd.C_below G4.out HB_5.out) L4.out).mono ?_;rintro e w6 ⟨v4,rfl,hr,hb⟩;have HR4:=Lib.hid hr;have HE4:=Lib.hid hb;clear hr;obtain ⟨A4r,c4r,rfl⟩:=Kd.R_slice HR4.out;have HB_6:=Lib.hid (below_then HB_5.out HB_5.out.size hb);have Xg1_6:=Lib.hid (blk_below Xg1_5.out hb);have Xg2_6:=Lib.hid (blk_below Xg2_5.out hb);have HP_6:=Lib.hid (HP_5.out.below hb);clear hb) | ((with_reducible refine gate_store (t:=27) (p:=11) rfl ?_);refine store_box rfl rfl rfl (g:=g3) (j:=4) (cs:=⟨hostC (⟨x.f0.f0,x.f0.f1,x.f0.f2,x.f0.f3, [], [], [], [],0,0⟩ : HV) (.slice none 0 0) (.slice none 0 0) (.slice none 0 0) (.slice none 0 0)⟩) (cs':=⟨hostC (⟨x.f0.f0,x.f0.f1,x.f0.f2,x.f0.f3,z1, [], [], [],0,0⟩ : HV) (.slice A4r z1.length c4r) (.slice none 0 0) (.slice none 0 0) (.slice none 0 0)⟩) (T:=32) (seg := [.slice A4r z1.length c4r]) rfl rfl HP_6.out.blk rfl (by kernel_rfl) rfl rfl rfl ?_;intro w7 hx hT;have Xg1_7:=Lib.hid (hT.blk Xg1_6.out NE_g1_g3.out);have Xg2_7:=Lib.hid (hT.blk Xg2_6.out NE_g2_g3.out);have HB_7:=Lib.hid (hT.below HB_6.out HB_6.out.size (fun k hk => by rw [hk];exact LO_HB_g3.out));have HP_7 : Hid (HostP w w7 g3 (⟨x.f0.f0,x.f0.f1,x.f0.f2,x.f0.f3,z1, [], [], [],0,0⟩ : HV) (.slice A4r z1.length c4r) (.slice none 0 0) (.slice none 0 0) (.slice none 0 0)):=Lib.hid (HP_5.out.setF HE4.out hT hx rfl (Kd.R_lower HR4.out HP_5.out.bel.size));clear hx hT))
 clear y4
 have y5 : w7.cell? ⟨g1,5,none⟩ = some (.slice A5 x.f2.length c5):=blk_cell Xg1_7.out 5
 go_upto_region 5 with (first | (go_at_call 88;refine (toBoxS_w x.f2 z2 HZ2.out (Nat.le_trans F.out.l2 (by decide)) (fun y hy => Nat.le_trans (F.out.d2 y hy) (by decide)) w7 A5 c5 (Kd.C_below G5.out HB_7.out) L5.out).mono ?_;rintro e w8 ⟨v5,rfl,hr,hb⟩;have HR5:=Lib.hid hr;have HE5:=Lib.hid hb;clear hr;obtain ⟨A5r,c5r,rfl⟩:=Kd.S_slice HR5.out;have HB_8:=Lib.hid (below_then HB_7.out HB_7.out.size hb);have Xg1_8:=Lib.hid (blk_below Xg1_7.out hb);have Xg2_8:=Lib.hid (blk_below Xg2_7.out hb);have HP_8:=Lib.hid (HP_7.out.below hb);clear hb) | ((with_reducible refine gate_store (t:=28) (p:=15) rfl ?_);refine store_box rfl rfl rfl (g:=g3) (j:=5) (cs:=⟨hostC (⟨x.f0.f0,x.f0.f1,x.f0.f2,x.f0.f3,z1, [], [], [],0,0⟩ : HV) (.slice A4r z1.length c4r) (.slice none 0 0) (.slice none 0 0) (.slice none 0 0)⟩) (cs':=⟨hostC (⟨x.f0.f0,x.f0.f1,x.f0.f2,x.f0.f3,z1,z2, [], [],0,0⟩ : HV) (.slice A4r z1.length c4r) (.slice A5r z2.length c5r) (.slice none 0 0) (.slice none 0 0)⟩) (T:=32) (seg := [.slice A5r z2.length c5r]) rfl rfl HP_8.out.blk rfl (by kernel_rfl) rfl rfl rfl ?_;intro w9 hx hT;have Xg1_9:=Lib.hid (hT.blk Xg1_8.out NE_g1_g3.out);have Xg2_9:=Lib.hid (hT.blk Xg2_8.out NE_g2_g3.out);have HB_9:=Lib.hid (hT.below HB_8.out HB_8.out.size (fun k hk => by rw [hk];exact LO_HB_g3.out));have HP_9 : Hid (HostP w w9 g3 (⟨x.f0.f0,x.f0.f1,x.f0.f2,x.f0.f3,z1,z2, [], [],0,0⟩ : HV) (.slice A4r z1.length c4r) (.slice A5r z2.length c5r) (.slice none 0 0) (.slice none 0 0)):=Lib.hid (HP_7.out.setB HE5.out hT hx rfl (Kd.S_lower HR5.out HP_7.out.bel.size));clear hx hT))
 clear y5
 have y6 : w9.cell? ⟨g1,6,none⟩ = some (.slice A6 x.f3.length c6):=blk_cell Xg1_9.out 6
 go_upto_region 6 with (first | (go_at_call 89;refine (toFrameS_w x.f3 z3 HZ3.out (Nat.le_trans F.out.l3 (by decide)) (fun y hy => Nat.le_trans (F.out.d3 y hy) (by decide)) w9 A6 c6 (Kd.C_below G6.out HB_9.out) L6.out).mono ?_;rintro e w10 ⟨v6,rfl,hr,hb⟩;have HR6:=Lib.hid hr;have HE6:=Lib.hid hb;clear hr;obtain ⟨A6r,c6r,rfl⟩:=Kd.S_slice HR6.out;have HB_10:=Lib.hid (below_then HB_9.out HB_9.out.size hb);have Xg1_10:=Lib.hid (blk_below Xg1_9.out hb);have Xg2_10:=Lib.hid (blk_below Xg2_9.out hb);have HP_10:=Lib.hid (HP_9.out.below hb);clear hb) | ((with_reducible refine gate_store (t:=29) (p:=19) rfl ?_);refine store_box rfl rfl rfl (g:=g3) (j:=6) (cs:=⟨hostC (⟨x.f0.f0,x.f0.f1,x.f0.f2,x.f0.f3,z1,z2, [], [],0,0⟩ : HV) (.slice A4r z1.length c4r) (.slice A5r z2.length c5r) (.slice none 0 0) (.slice none 0 0)⟩) (cs':=⟨hostC (⟨x.f0.f0,x.f0.f1,x.f0.f2,x.f0.f3,z1,z2,z3, [],0,0⟩ : HV) (.slice A4r z1.length c4r) (.slice A5r z2.length c5r) (.slice A6r z3.length c6r) (.slice none 0 0)⟩) (T:=32) (seg := [.slice A6r z3.length c6r]) rfl rfl HP_10.out.blk rfl (by kernel_rfl) rfl rfl rfl ?_;intro w11 hx hT;have Xg1_11:=Lib.hid (hT.blk Xg1_10.out NE_g1_g3.out);have Xg2_11:=Lib.hid (hT.blk Xg2_10.out NE_g2_g3.out);have HB_11:=Lib.hid (hT.below HB_10.out HB_10.out.size (fun k hk => by rw [hk];exact LO_HB_g3.out));have HP_11 : Hid (HostP w w11 g3 (⟨x.f0.f0,x.f0.f1,x.f0.f2,x.f0.f3,z1,z2,z3, [],0,0⟩ : HV) (.slice A4r z1.length c4r) (.slice A5r z2.length c5r) (.slice A6r z3.length c6r) (.slice none 0 0)):=Lib.hid (HP_9.out.setQ HE6.out hT hx rfl (Kd.S_lower HR6.out HP_9.out.bel.size));clear hx hT))
 clear y6
 have y7 : w11.cell? ⟨g1,7,none⟩ = some (.slice A7 x.f4.length c7):=blk_cell Xg1_11.out 7
 go_upto_region 7 with (first | (go_at_call 90;refine (toEventS_w x.f4 z4 HZ4.out (Nat.le_trans F.out.l4 (by decide)) (fun y hy => Nat.le_trans (F.out.d4 y hy) (by decide)) w11 A7 c7 (Kd.C_below G7.out HB_11.out) L7.out).mono ?_;rintro e w12 ⟨v7,rfl,hr,hb⟩;have HR7:=Lib.hid hr;have HE7:=Lib.hid hb;clear hr;obtain ⟨A7r,c7r,rfl⟩:=Kd.S_slice HR7.out;have HB_12:=Lib.hid (below_then HB_11.out HB_11.out.size hb);have Xg1_12:=Lib.hid (blk_below Xg1_11.out hb);have Xg2_12:=Lib.hid (blk_below Xg2_11.out hb);have HP_12:=Lib.hid (HP_11.out.below hb);clear hb) | ((with_reducible refine gate_store (t:=30) (p:=23) rfl ?_);refine store_box rfl rfl rfl (g:=g3) (j:=7) (cs:=⟨hostC (⟨x.f0.f0,x.f0.f1,x.f0.f2,x.f0.f3,z1,z2,z3, [],0,0⟩ : HV) (.slice A4r z1.length c4r) (.slice A5r z2.length c5r) (.slice A6r z3.length c6r) (.slice none 0 0)⟩) (cs':=⟨hostC (⟨x.f0.f0,x.f0.f1,x.f0.f2,x.f0.f3,z1,z2,z3,z4,0,0⟩ : HV) (.slice A4r z1.length c4r) (.slice A5r z2.length c5r) (.slice A6r z3.length c6r) (.slice A7r z4.length c7r)⟩) (T:=32) (seg := [.slice A7r z4.length c7r]) rfl rfl HP_12.out.blk rfl (by kernel_rfl) rfl rfl rfl ?_;intro w13 hx hT;have Xg1_13:=Lib.hid (hT.blk Xg1_12.out NE_g1_g3.out);have Xg2_13:=Lib.hid (hT.blk Xg2_12.out NE_g2_g3.out);have HB_13:=Lib.hid (hT.below HB_12.out HB_12.out.size (fun k hk => by rw [hk];exact LO_HB_g3.out));have HP_13 : Hid (HostP w w13 g3 (⟨x.f0.f0,x.f0.f1,x.f0.f2,x.f0.f3,z1,z2,z3,z4,0,0⟩ : HV) (.slice A4r z1.length c4r) (.slice A5r z2.length c5r) (.slice A6r z3.length c6r) (.slice A7r z4.length c7r)):=Lib.hid (HP_11.out.setE HE7.out hT hx rfl (Kd.S_lower HR7.out HP_11.out.bel.size));clear hx hT))
 clear y7
 have y8 : w13.cell? ⟨g1,8,none⟩ = some (.int .i64 x.f5):=blk_cell Xg1_13.out 8
 go_upto_region 8 with (first | ((with_reducible refine gate_store (t:=3) (p:=26) rfl ?_);refine store_box rfl rfl rfl (g:=g3) (j:=8) (cs:=⟨hostC (⟨x.f0.f0,x.f0.f1,x.f0.f2,x.f0.f3,z1,z2,z3,z4,0,0⟩ : HV) (.slice A4r z1.length c4r) (.slice A5r z2.length c5r) (.slice A6r z3.length c6r) (.slice A7r z4.length c7r)⟩) (cs':=⟨hostC (⟨x.f0.f0,x.f0.f1,x.f0.f2,x.f0.f3,z1,z2,z3,z4,x.f5,0⟩ : HV) (.slice A4r z1.length c4r) (.slice A5r z2.length c5r) (.slice A6r z3.length c6r) (.slice A7r z4.length c7r)⟩) (T:=32) (seg := [.int .i64 x.f5]) rfl rfl HP_13.out.blk rfl (by kernel_rfl) rfl rfl rfl ?_;intro w14 hx hT;have Xg1_14:=Lib.hid (hT.blk Xg1_13.out NE_g1_g3.out);have Xg2_14:=Lib.hid (hT.blk Xg2_13.out NE_g2_g3.out);have HB_14:=Lib.hid (hT.below HB_13.out HB_13.out.size (fun k hk => by rw [hk];exact LO_HB_g3.out));have HP_14 : Hid (HostP w w14 g3 (⟨x.f0.f0,x.f0.f1,x.f0.f2,x.f0.f3,z1,z2,z3,z4,x.f5,0⟩ : HV) (.slice A4r z1.length c4r) (.slice A5r z2.length c5r) (.slice A6r z3.length c6r) (.slice A7r z4.length c7r)):=Lib.hid (HP_13.out.put hT hx rfl rfl rfl rfl);clear hx hT))
 clear y8
 have y9 : w14.cell? ⟨g1,9,none⟩ = some (.int .i64 x.f6):=blk_cell Xg1_14.out 9
 go_upto_region 9 with (first | ((with_reducible refine gate_store (t:=3) (p:=29) rfl ?_);refine store_box rfl rfl rfl (g:=g3) (j:=9) (cs:=⟨hostC (⟨x.f0.f0,x.f0.f1,x.f0.f2,x.f0.f3,z1,z2,z3,z4,x.f5,0⟩ : HV) (.slice A4r z1.length c4r) (.slice A5r z2.length c5r) (.slice A6r z3.length c6r) (.slice A7r z4.length c7r)⟩) (cs':=⟨hostC (⟨x.f0.f0,x.f0.f1,x.f0.f2,x.f0.f3,z1,z2,z3,z4,x.f5,x.f6⟩ : HV) (.slice A4r z1.length c4r) (.slice A5r z2.length c5r) (.slice A6r z3.length c6r) (.slice A7r z4.length c7r)⟩) (T:=32) (seg := [.int .i64 x.f6]) rfl rfl HP_14.out.blk rfl (by kernel_rfl) rfl rfl rfl ?_;intro w15 hx hT;have Xg1_15:=Lib.hid (hT.blk Xg1_14.out NE_g1_g3.out);have Xg2_15:=Lib.hid (hT.blk Xg2_14.out NE_g2_g3.out);have HB_15:=Lib.hid (hT.below HB_14.out HB_14.out.size (fun k hk => by rw [hk];exact LO_HB_g3.out));have HP_15 : Hid (HostP w w15 g3 (⟨x.f0.f0,x.f0.f1,x.f0.f2,x.f0.f3,z1,z2,z3,z4,x.f5,x.f6⟩ : HV) (.slice A4r z1.length c4r) (.slice A5r z2.length c5r) (.slice A6r z3.length c6r) (.slice A7r z4.length c7r)):=Lib.hid (HP_14.out.put hT hx rfl rfl rfl rfl);clear hx hT))
 clear y9
 go_wp2_with (first | ((with_reducible refine gate_dst (N:=30) rfl ?_);refine load_all rfl rfl (g:=g3) rfl HP_15.out.blk hu32.out (by kernel_rfl) ?_) | ((with_reducible refine gate_store (t:=32) (p:=2) rfl ?_);refine store_all rfl rfl rfl (g:=g2) (C:=hostC (⟨x.f0.f0,x.f0.f1,x.f0.f2,x.f0.f3,z1,z2,z3,z4,x.f5,x.f6⟩ : HV) (.slice A4r z1.length c4r) (.slice A5r z2.length c5r) (.slice A6r z3.length c6r) (.slice A7r z4.length c7r)) rfl rfl Xg2_15.out (by kernel_rfl) (HRead.one (HostP.read HP_15.out)) rfl ?_;intro w16 hx hT;have X2:=Lib.hid hx;have HBz:=Lib.hid (hT.below HB_15.out HB_15.out.size (fun k hk => by rw [hk];exact LO_HB_g2.out));have HO:=Lib.hid (HostP.own2 HP_15.out hT Xg2_15.out);clear hx hT))
 refine bodyPost_ret (results_cell_row rfl _ _ g2 32 ⟨hostC (⟨x.f0.f0,x.f0.f1,x.f0.f2,x.f0.f3,z1,z2,z3,z4,x.f5,x.f6⟩ : HV) (.slice A4r z1.length c4r) (.slice A5r z2.length c5r) (.slice A6r z3.length c6r) (.slice A7r z4.length c7r)⟩ (0,0) _ rfl X2.out Try.underlying32 rfl (by kernel_rfl)) rfl ?_
 exact ⟨_,rfl,HVX.out ▸ HO.out,HBz.out⟩
set_option maxRecDepth 100000 in
set_option maxHeartbeats 4000000 in
theorem heldBoxS_v (xs : List S87) (q : Int) (hq : 0 ≤ q) (hb : q + offBox xs xs.length ≤ 50000000) (hl : xs.length ≤ 10000000) (hd : ∀ x ∈ xs,x.f3.f4.length ≤ 10000000) (ys : List S87) (hy : ys = markBoxs q xs) (w : World) (A : Option Addr) (c : Nat) (hr : (k87).C w A ys.length ys) (hc : ys.length ≤ c) :
  Calls Try.prog 72 #[.slice A ys.length c, .int .i64 q] w fun e w' => e = .returned (.int .i64 (q + offBox xs xs.length)) ∧ Below w.heap.size w w':=by
 have RY:=Lib.hid hr
 have HYL : Hid (ys.length = xs.length):=Lib.hid (by rw [hy,markBoxs_len])
 have HY:=Lib.hid hy
 have HBD:=Lib.hid hb
 have HL:=Lib.hid hl
 have HD:=Lib.hid hd
 have HQ:=Lib.hid hq
 clear hr hy hb hl hd hq
 have HB_0 : Hid (Below w.heap.size w w):=Lib.hid (Below.refl _ _)
 go_enter Try.func72,Try.ntmps72
 go_upto_region 2 with (fail)
 go_loopw [1,5] (fun v1 v5 wr => ∃ (i : Nat) (k : Int),i ≤ ys.length ∧ v5 = .int .i64 i ∧ v1 = .int .i64 k ∧ Aside0 (k = q + offBox xs i) ∧ Aside0 (Below w.heap.size w wr)) (fun _ v5 _ => ys.length - (intOf v5).toNat)
 case atStart => exact ⟨0,q,Nat.zero_le _,rfl,rfl,⟨by simp [offBox]⟩,⟨HB_0.out⟩⟩
 case round =>
  obtain ⟨i,k,hi,rfl,rfl,HKK,HB⟩:=hrel
  by_cases hlt : i < ys.length
  ·have a1 : (0 : Int) ≤ (i : Int):=Int.natCast_nonneg _
   have a2 : (i : Int) < (ys.length : Int):=by exact_mod_cast hlt
   obtain ⟨ad,A8,c8,ea,k0,k1,k2,k3,k4,k5,k6,k7,l8,g8⟩:=at_T87 (Kd.C_below RY.out HB.out) (i : Int) a1 a2
   subst ea
   clear a1 a2
   rw [Int.toNat_natCast] at k0 k1 k2 k3 k4 k5 k6 k7
   obtain ⟨b,hbb⟩ : ∃ b,b = rd_T87 ys (i : Int):=⟨_,rfl⟩
   rw [← hbb] at k0 k1 k2 k3 k4 k5 k6 k7 l8 g8
   obtain ⟨y,hyy⟩ : ∃ y,y = xs.getD i z87:=⟨_,rfl⟩
   have HBV : Hid (b = mkBox k y):=Lib.hid (by have h1:=markBoxs_get q xs i (by have:=HYL.out;omega);rw [← HY.out,getD_at2 ys i z87 hlt] at h1;rw [hbb,hyy,HKK.out];exact Option.some.inj h1)
   have HYD : Hid (y.f3.f4.length ≤ 10000000):=Lib.hid (by
    have h2:=HYL.out
    have h3 : i < xs.length:=by omega
    rw [hyy,List.getD_eq_getElem?_getD,List.getElem?_eq_getElem h3];exact HD.out _ (List.getElem_mem h3))
   have HQB : Hid (0 ≤ k ∧ k + 7 + (y.f3.f4.length : Int) ≤ 50000000 ∧ offBox xs (i + 1) = offBox xs i + 7 + (y.f3.f4.length : Int)):=Lib.hid (by
    have h1:=HKK.out;have h2:=HBD.out;have h3:=HQ.out;have h4:=offBox_nn xs i;have h7:=HYL.out
    have h5:=offBox_le xs (i:=i + 1) (n:=xs.length) (by omega)
    have h6 : offBox xs (i + 1) = offBox xs i + 7 + (y.f3.f4.length : Int):=by rw [offBox,hyy]
    exact ⟨by omega,by omega,h6⟩)
   clear hbb hyy
   have HK1 : Hid ((wrap64 (k + 1)) = k + 1):=Lib.hid (by have h1:=HQB.out;unfold wrap64;omega)
   have HK2 : Hid ((wrap64 ((wrap64 (k + 1)) + 1)) = k + 2):=Lib.hid (by rw [HK1.out];have h1:=HQB.out;unfold wrap64;omega)
   have HK3 : Hid ((wrap64 ((wrap64 ((wrap64 (k + 1)) + 1)) + 1)) = k + 3):=Lib.hid (by rw [HK2.out];have h1:=HQB.out;unfold wrap64;omega)
   have HK4 : Hid ((wrap64 ((wrap64 ((wrap64 ((wrap64 (k + 1)) + 1)) + 1)) + 1)) = k + 4):=Lib.hid (by rw [HK3.out];have h1:=HQB.out;unfold wrap64;omega)
   have HK5 : Hid ((wrap64 ((wrap64 ((wrap64 ((wrap64 ((wrap64 (k + 1)) + 1)) + 1)) + 1)) + 1)) = k + 5):=Lib.hid (by rw [HK4.out];have h1:=HQB.out;unfold wrap64;omega)
   have HK6 : Hid ((wrap64 ((wrap64 ((wrap64 ((wrap64 ((wrap64 ((wrap64 (k + 1)) + 1)) + 1)) + 1)) + 1)) + 1)) = k + 6):=Lib.hid (by rw [HK5.out];have h1:=HQB.out;unfold wrap64;omega)
   have HK7 : Hid ((wrap64 ((wrap64 ((wrap64 ((wrap64 ((wrap64 ((wrap64 ((wrap64 (k + 1)) + 1)) + 1)) + 1)) + 1)) + 1)) + 1)) = k + 7):=Lib.hid (by rw [HK6.out];have h1:=HQB.out;unfold wrap64;omega)
   have b2 : decide ((i : Int) < (ys.length : Int)) = true:=decide_eq_true (by omega)
   have p5 : (0 ≤ (i : Int)) = True:=eq_true (by omega)
   have q5 : ((i : Int) < (ys.length : Int)) = True:=eq_true (by omega)
   have qn : (i < ys.length) = True:=eq_true hlt
   have hn : wrap64 ((i : Int) + 1) = (i : Int) + 1:=by have:=HL.out;have:=HYL.out;unfold wrap64;omega
   have HLT:=Lib.hid hlt
   have HN:=Lib.hid hn
   have L8:=Lib.hid l8
   have G8:=Lib.hid g8
   clear hlt hi l8 g8
   have t0 : (b.f0 != k) = false:=by rw [HBV.out];exact bne_self_eq_false _
   have t1 : (b.f1 != (wrap64 (k + 1))) = false:=by rw [HBV.out,HK1.out];exact bne_self_eq_false _
   have t2 : (b.f2 != (wrap64 ((wrap64 (k + 1)) + 1))) = false:=by rw [HBV.out,HK2.out];exact bne_self_eq_false _
   have t3 : (b.f3.f0 != (Int.tmod (wrap64 ((wrap64 ((wrap64 (k + 1)) + 1)) + 1)) 3 == 0)) = false:=by rw [HBV.out,HK3.out];exact bne_self_eq_false _
   have t3' : (b.f3.f0 == (Int.tmod (wrap64 ((wrap64 ((wrap64 (k + 1)) + 1)) + 1)) 3 == 0)) = true:=by rw [HBV.out,HK3.out];exact beq_self_eq_true _
   have t4 : (b.f3.f1 != (wrap64 ((wrap64 ((wrap64 ((wrap64 (k + 1)) + 1)) + 1)) + 1)) % 4294967296) = false:=by rw [HBV.out,HK4.out];exact bne_self_eq_false _
   have t5 : (b.f3.f2 != (Int.tmod (wrap64 ((wrap64 ((wrap64 ((wrap64 ((wrap64 (k + 1)) + 1)) + 1)) + 1)) + 1)) 3 == 0)) = false:=by rw [HBV.out,HK5.out];exact bne_self_eq_false _
   have t5' : (b.f3.f2 == (Int.tmod (wrap64 ((wrap64 ((wrap64 ((wrap64 ((wrap64 (k + 1)) + 1)) + 1)) + 1)) + 1)) 3 == 0)) = true:=by rw [HBV.out,HK5.out];exact beq_self_eq_true _
   have t6 : (b.f3.f3 != (wrap64 ((wrap64 ((wrap64 ((wrap64 ((wrap64 ((wrap64 (k + 1)) + 1)) + 1)) + 1)) + 1)) + 1))) = false:=by rw [HBV.out,HK6.out];exact bne_self_eq_false _
   have HDV : Hid (b.f3.f4 = marks (wrap64 ((wrap64 ((wrap64 ((wrap64 ((wrap64 ((wrap64 ((wrap64 (k + 1)) + 1)) + 1)) + 1)) + 1)) + 1)) + 1)) y.f3.f4.length):=Lib.hid (by rw [HBV.out,HK7.out];rfl)
   obtain ⟨kb,hkb⟩:=(heldByteS_ev y.f3.f4.length HYD.out (wrap64 ((wrap64 ((wrap64 ((wrap64 ((wrap64 ((wrap64 ((wrap64 (k + 1)) + 1)) + 1)) + 1)) + 1)) + 1)) + 1)) (by rw [HK7.out];have:=HQB.out;omega) (by rw [HK7.out];have:=HQB.out;omega)).rounds
   have HKB : Hid (laws_heldByteS.f kb b.f3.f4 (wrap64 ((wrap64 ((wrap64 ((wrap64 ((wrap64 ((wrap64 ((wrap64 (k + 1)) + 1)) + 1)) + 1)) + 1)) + 1)) + 1)) = some ((wrap64 ((wrap64 ((wrap64 ((wrap64 ((wrap64 ((wrap64 ((wrap64 (k + 1)) + 1)) + 1)) + 1)) + 1)) + 1)) + 1)) + (y.f3.f4.length : Int))):=Lib.hid (by rw [HDV.out];exact hkb)
   clear hkb
   have t8 : decide ((wrap64 ((wrap64 ((wrap64 ((wrap64 ((wrap64 ((wrap64 ((wrap64 (k + 1)) + 1)) + 1)) + 1)) + 1)) + 1)) + 1)) + (y.f3.f4.length : Int) < 0) = false:=decide_eq_false (by rw [HK7.out];have:=HQB.out;omega)
   go_wp2_with (first | (go_at_call 100;refine (laws_heldByteS.calls kb A8 c8 b.f3.f4 (wrap64 ((wrap64 ((wrap64 ((wrap64 ((wrap64 ((wrap64 ((wrap64 (k + 1)) + 1)) + 1)) + 1)) + 1)) + 1)) + 1)) _ wr G8.out L8.out HKB.out).mono ?_;rintro e w9 ⟨rfl,hd⟩;have HB9:=Lib.hid (below_then HB.out HB.out.size hd.below);clear hd))
   go_roundw
   case rel => exact ⟨i + 1,_,HLT.out,by rw [HN.out];rfl,rfl,⟨by rw [HK7.out,HKK.out];have:=HQB.out.2.2;omega⟩,⟨HB9.out⟩⟩
   case measure => rw [HN.out];have:=HLT.out;simp [intOf];omega
  ·have b2 : decide ((i : Int) < (ys.length : Int)) = false:=decide_eq_false (by omega)
   have qn : (i < ys.length) = False:=eq_false hlt
   have HE : Hid (k = q + offBox xs xs.length):=Lib.hid (by rw [HKK.out,show i = xs.length by have:=HYL.out;omega])
   clear hlt hi
   go_wp2_with (fail)
   go_ret
   exact ⟨by rw [← HE.out];rfl,HB.out⟩
set_option maxRecDepth 100000 in
set_option maxHeartbeats 4000000 in
theorem heldEventS_v (xs : List S56) (q : Int) (hq : 0 ≤ q) (hb : q + offEvent xs xs.length ≤ 50000000) (hl : xs.length ≤ 10000000) (hd : ∀ x ∈ xs,x.f3.f4.length ≤ 10000000) (ys : List S56) (hy : ys = markEvents q xs) (w : World) (A : Option Addr) (c : Nat) (hr : (k56).C w A ys.length ys) (hc : ys.length ≤ c) :
  Calls Try.prog 48 #[.slice A ys.length c, .int .i64 q] w fun e w' => e = .returned (.int .i64 (q + offEvent xs xs.length)) ∧ Below w.heap.size w w':=by
 have RY:=Lib.hid hr
 have HYL : Hid (ys.length = xs.length):=Lib.hid (by rw [hy,markEvents_len])
 have HY:=Lib.hid hy
 have HBD:=Lib.hid hb
 have HL:=Lib.hid hl
 have HD:=Lib.hid hd
 have HQ:=Lib.hid hq
 clear hr hy hb hl hd hq
 have HB_0 : Hid (Below w.heap.size w w):=Lib.hid (Below.refl _ _)
 go_enter Try.func48,Try.ntmps48
 go_upto_region 2 with (fail)
 go_loopw [1,5] (fun v1 v5 wr => ∃ (i : Nat) (k : Int),i ≤ ys.length ∧ v5 = .int .i64 i ∧ v1 = .int .i64 k ∧ Aside0 (k = q + offEvent xs i) ∧ Aside0 (Below w.heap.size w wr)) (fun _ v5 _ => ys.length - (intOf v5).toNat)
 case atStart => exact ⟨0,q,Nat.zero_le _,rfl,rfl,⟨by simp [offEvent]⟩,⟨HB_0.out⟩⟩
 case round =>
  obtain ⟨i,k,hi,rfl,rfl,HKK,HB⟩:=hrel
  by_cases hlt : i < ys.length
  ·have a1 : (0 : Int) ≤ (i : Int):=Int.natCast_nonneg _
   have a2 : (i : Int) < (ys.length : Int):=by exact_mod_cast hlt
   obtain ⟨ad,A8,c8,ea,k0,k1,k2,k3,k4,k5,k6,k7,l8,g8⟩:=at_T56 (Kd.C_below RY.out HB.out) (i : Int) a1 a2
   subst ea
   clear a1 a2
   rw [Int.toNat_natCast] at k0 k1 k2 k3 k4 k5 k6 k7
   obtain ⟨b,hbb⟩ : ∃ b,b = rd_T56 ys (i : Int):=⟨_,rfl⟩
   rw [← hbb] at k0 k1 k2 k3 k4 k5 k6 k7 l8 g8
   obtain ⟨y,hyy⟩ : ∃ y,y = xs.getD i z56:=⟨_,rfl⟩
   have HBV : Hid (b = mkEvent k y):=Lib.hid (by have h1:=markEvents_get q xs i (by have:=HYL.out;omega);rw [← HY.out,getD_at2 ys i z56 hlt] at h1;rw [hbb,hyy,HKK.out];exact Option.some.inj h1)
   have HYD : Hid (y.f3.f4.length ≤ 10000000):=Lib.hid (by
    have h2:=HYL.out
    have h3 : i < xs.length:=by omega
    rw [hyy,List.getD_eq_getElem?_getD,List.getElem?_eq_getElem h3];exact HD.out _ (List.getElem_mem h3))
   have HQB : Hid (0 ≤ k ∧ k + 7 + (y.f3.f4.length : Int) ≤ 50000000 ∧ offEvent xs (i + 1) = offEvent xs i + 7 + (y.f3.f4.length : Int)):=Lib.hid (by
    have h1:=HKK.out;have h2:=HBD.out;have h3:=HQ.out;have h4:=offEvent_nn xs i;have h7:=HYL.out
    have h5:=offEvent_le xs (i:=i + 1) (n:=xs.length) (by omega)
    have h6 : offEvent xs (i + 1) = offEvent xs i + 7 + (y.f3.f4.length : Int):=by rw [offEvent,hyy]
    exact ⟨by omega,by omega,h6⟩)
   clear hbb hyy
   have HK1 : Hid ((wrap64 (k + 1)) = k + 1):=Lib.hid (by have h1:=HQB.out;unfold wrap64;omega)
   have HK2 : Hid ((wrap64 ((wrap64 (k + 1)) + 1)) = k + 2):=Lib.hid (by rw [HK1.out];have h1:=HQB.out;unfold wrap64;omega)
   have HK3 : Hid ((wrap64 ((wrap64 ((wrap64 (k + 1)) + 1)) + 1)) = k + 3):=Lib.hid (by rw [HK2.out];have h1:=HQB.out;unfold wrap64;omega)
   have HK4 : Hid ((wrap64 ((wrap64 ((wrap64 ((wrap64 (k + 1)) + 1)) + 1)) + 1)) = k + 4):=Lib.hid (by rw [HK3.out];have h1:=HQB.out;unfold wrap64;omega)
   have HK5 : Hid ((wrap64 ((wrap64 ((wrap64 ((wrap64 ((wrap64 (k + 1)) + 1)) + 1)) + 1)) + 1)) = k + 5):=Lib.hid (by rw [HK4.out];have h1:=HQB.out;unfold wrap64;omega)
   have HK6 : Hid ((wrap64 ((wrap64 ((wrap64 ((wrap64 ((wrap64 ((wrap64 (k + 1)) + 1)) + 1)) + 1)) + 1)) + 1)) = k + 6):=Lib.hid (by rw [HK5.out];have h1:=HQB.out;unfold wrap64;omega)
   have HK7 : Hid ((wrap64 ((wrap64 ((wrap64 ((wrap64 ((wrap64 ((wrap64 ((wrap64 (k + 1)) + 1)) + 1)) + 1)) + 1)) + 1)) + 1)) = k + 7):=Lib.hid (by rw [HK6.out];have h1:=HQB.out;unfold wrap64;omega)
   have b2 : decide ((i : Int) < (ys.length : Int)) = true:=decide_eq_true (by omega)
   have p5 : (0 ≤ (i : Int)) = True:=eq_true (by omega)
   have q5 : ((i : Int) < (ys.length : Int)) = True:=eq_true (by omega)
   have qn : (i < ys.length) = True:=eq_true hlt
   have hn : wrap64 ((i : Int) + 1) = (i : Int) + 1:=by have:=HL.out;have:=HYL.out;unfold wrap64;omega
   have HLT:=Lib.hid hlt
   have HN:=Lib.hid hn
   have L8:=Lib.hid l8
   have G8:=Lib.hid g8
   clear hlt hi l8 g8
   have t0 : (b.f0 != k) = false:=by rw [HBV.out];exact bne_self_eq_false _
   have t1 : (b.f1 != (wrap64 (k + 1))) = false:=by rw [HBV.out,HK1.out];exact bne_self_eq_false _
   have t2 : (b.f2 != (wrap64 ((wrap64 (k + 1)) + 1))) = false:=by rw [HBV.out,HK2.out];exact bne_self_eq_false _
   have t3 : (b.f3.f0 != (Int.tmod (wrap64 ((wrap64 ((wrap64 (k + 1)) + 1)) + 1)) 3 == 0)) = false:=by rw [HBV.out,HK3.out];exact bne_self_eq_false _
   have t3' : (b.f3.f0 == (Int.tmod (wrap64 ((wrap64 ((wrap64 (k + 1)) + 1)) + 1)) 3 == 0)) = true:=by rw [HBV.out,HK3.out];exact beq_self_eq_true _
   have t4 : (b.f3.f1 != (wrap64 ((wrap64 ((wrap64 ((wrap64 (k + 1)) + 1)) + 1)) + 1)) % 4294967296) = false:=by rw [HBV.out,HK4.out];exact bne_self_eq_false _
   have t5 : (b.f3.f2 != (Int.tmod (wrap64 ((wrap64 ((wrap64 ((wrap64 ((wrap64 (k + 1)) + 1)) + 1)) + 1)) + 1)) 3 == 0)) = false:=by rw [HBV.out,HK5.out];exact bne_self_eq_false _
   have t5' : (b.f3.f2 == (Int.tmod (wrap64 ((wrap64 ((wrap64 ((wrap64 ((wrap64 (k + 1)) + 1)) + 1)) + 1)) + 1)) 3 == 0)) = true:=by rw [HBV.out,HK5.out];exact beq_self_eq_true _
   have t6 : (b.f3.f3 != (wrap64 ((wrap64 ((wrap64 ((wrap64 ((wrap64 ((wrap64 (k + 1)) + 1)) + 1)) + 1)) + 1)) + 1))) = false:=by rw [HBV.out,HK6.out];exact bne_self_eq_false _
   have HDV : Hid (b.f3.f4 = marks (wrap64 ((wrap64 ((wrap64 ((wrap64 ((wrap64 ((wrap64 ((wrap64 (k + 1)) + 1)) + 1)) + 1)) + 1)) + 1)) + 1)) y.f3.f4.length):=Lib.hid (by rw [HBV.out,HK7.out];rfl)
   obtain ⟨kb,hkb⟩:=(heldByteS_ev y.f3.f4.length HYD.out (wrap64 ((wrap64 ((wrap64 ((wrap64 ((wrap64 ((wrap64 ((wrap64 (k + 1)) + 1)) + 1)) + 1)) + 1)) + 1)) + 1)) (by rw [HK7.out];have:=HQB.out;omega) (by rw [HK7.out];have:=HQB.out;omega)).rounds
   have HKB : Hid (laws_heldByteS.f kb b.f3.f4 (wrap64 ((wrap64 ((wrap64 ((wrap64 ((wrap64 ((wrap64 ((wrap64 (k + 1)) + 1)) + 1)) + 1)) + 1)) + 1)) + 1)) = some ((wrap64 ((wrap64 ((wrap64 ((wrap64 ((wrap64 ((wrap64 ((wrap64 (k + 1)) + 1)) + 1)) + 1)) + 1)) + 1)) + 1)) + (y.f3.f4.length : Int))):=Lib.hid (by rw [HDV.out];exact hkb)
   clear hkb
   have t8 : decide ((wrap64 ((wrap64 ((wrap64 ((wrap64 ((wrap64 ((wrap64 ((wrap64 (k + 1)) + 1)) + 1)) + 1)) + 1)) + 1)) + 1)) + (y.f3.f4.length : Int) < 0) = false:=decide_eq_false (by rw [HK7.out];have:=HQB.out;omega)
   go_wp2_with (first | (go_at_call 100;refine (laws_heldByteS.calls kb A8 c8 b.f3.f4 (wrap64 ((wrap64 ((wrap64 ((wrap64 ((wrap64 ((wrap64 ((wrap64 (k + 1)) + 1)) + 1)) + 1)) + 1)) + 1)) + 1)) _ wr G8.out L8.out HKB.out).mono ?_;rintro e w9 ⟨rfl,hd⟩;have HB9:=Lib.hid (below_then HB.out HB.out.size hd.below);clear hd))
   go_roundw
   case rel => exact ⟨i + 1,_,HLT.out,by rw [HN.out];rfl,rfl,⟨by rw [HK7.out,HKK.out];have:=HQB.out.2.2;omega⟩,⟨HB9.out⟩⟩
   case measure => rw [HN.out];have:=HLT.out;simp [intOf];omega
  ·have b2 : decide ((i : Int) < (ys.length : Int)) = false:=decide_eq_false (by omega)
   have qn : (i < ys.length) = False:=eq_false hlt
   have HE : Hid (k = q + offEvent xs xs.length):=Lib.hid (by rw [HKK.out,show i = xs.length by have:=HYL.out;omega])
   clear hlt hi
   go_wp2_with (fail)
   go_ret
   exact ⟨by rw [← HE.out];rfl,HB.out⟩
set_option maxRecDepth 100000 in
set_option maxHeartbeats 4000000 in
theorem heldHost_w (h : HV) (q : Int) (hm : HMarks q h) (w : World) (C : List Value) (hC : HRead w (markHV q h) C) :
  Calls Try.prog 23 #[.agg ⟨C⟩, .int .i64 q] w fun e w' => e = .returned (.int .i64 (cnt4 h q)) ∧ Below w.heap.size w w':=by
 obtain ⟨A1,c1,A2,c2,A3,c3,A4,c4,rfl,r1,l1,r2,l2,r3,l3,r4,l4⟩:=hC
 obtain ⟨n1,n2,n3,p1,p2,p3⟩:=hm.steps
 have n4:=hm.top
 have e1 : 0 ≤ q:=hm.q0
 have e4 : 0 ≤ cnt4 h q:=by have:=offEvent_nn h.ev h.ev.length;unfold cnt4;omega
 obtain ⟨ka,hka⟩:=(heldFilterS_ev h.fs.length q e1 p1).rounds
 obtain ⟨kb,hkb⟩:=(heldFrameS_ev h.fr (cnt2 h q) n2 p3 hm.l3 hm.d3).rounds
 obtain ⟨f1,hf1⟩ : ∃ f,f = (markHV q h).fs:=⟨_,rfl⟩
 obtain ⟨f2,hf2⟩ : ∃ f,f = (markHV q h).bs:=⟨_,rfl⟩
 obtain ⟨f3,hf3⟩ : ∃ f,f = (markHV q h).fr:=⟨_,rfl⟩
 obtain ⟨f4,hf4⟩ : ∃ f,f = (markHV q h).ev:=⟨_,rfl⟩
 rw [← hf1] at r1 l1 ⊢
 rw [← hf2] at r2 l2 ⊢
 rw [← hf3] at r3 l3 ⊢
 rw [← hf4] at r4 l4 ⊢
 have F1 : Hid (laws_heldFilterS.f ka f1 q = some (cnt1 h q)):=Lib.hid (by rw [hf1];exact hka)
 have F3 : Hid (laws_heldFrameS.f kb f3 (cnt2 h q) = some (cnt3 h q)):=Lib.hid (by rw [hf3];exact hkb)
 have F2 : Hid (f2 = markBoxs (cnt1 h q) h.bs):=Lib.hid hf2
 have F4 : Hid (f4 = markEvents (cnt3 h q) h.ev):=Lib.hid hf4
 have M:=Lib.hid hm
 have P2 : Hid (cnt1 h q + offBox h.bs h.bs.length ≤ 50000000):=Lib.hid p2
 have P4 : Hid (cnt3 h q + offEvent h.ev h.ev.length ≤ 50000000):=Lib.hid n4
 have N1:=Lib.hid n1
 have N3:=Lib.hid n3
 have R1:=Lib.hid r1;have R2:=Lib.hid r2;have R3:=Lib.hid r3;have R4:=Lib.hid r4
 have L1:=Lib.hid l1;have L2:=Lib.hid l2;have L3:=Lib.hid l3;have L4:=Lib.hid l4
 have E4 : Hid (cnt3 h q + offEvent h.ev h.ev.length = cnt4 h q):=Lib.hid rfl
 have E2 : Hid (cnt1 h q + offBox h.bs h.bs.length = cnt2 h q):=Lib.hid rfl
 obtain ⟨x1,hx1⟩ : ∃ x,x = cnt1 h q:=⟨_,rfl⟩
 obtain ⟨x2,hx2⟩ : ∃ x,x = cnt2 h q:=⟨_,rfl⟩
 obtain ⟨x3,hx3⟩ : ∃ x,x = cnt3 h q:=⟨_,rfl⟩
 obtain ⟨x4,hx4⟩ : ∃ x,x = cnt4 h q:=⟨_,rfl⟩
 rw [← hx1] at F1 F2 P2 N1 E2
 rw [← hx2] at F3 E2
 rw [← hx3] at F3 F4 P4 N3 E4
 rw [← hx4] at E4 ⊢
 have d1 : decide (x1 < 0) = false:=decide_eq_false (by omega)
 have d2 : decide (x2 < 0) = false:=decide_eq_false (by omega)
 have d3 : decide (x3 < 0) = false:=decide_eq_false (by omega)
 have d4 : decide (x4 < 0) = false:=decide_eq_false (by omega)
 clear hm n1 n2 n3 p1 p2 p3 n4 e1 e4 hka hkb hf1 hf2 hf3 hf4 r1 r2 r3 r4 l1 l2 l3 l4 hx1 hx2 hx3 hx4
 have HB_0 : Hid (Below w.heap.size w w):=Lib.hid (Below.refl _ _)
 go_enter Try.func23,Try.ntmps23
 go_upto_region 1 with (first | ((with_reducible refine gate_dst (N:=2) rfl ?_);refine box_event ?hg (N:=2) ?hd (cs:=⟨hostC (markHV q h) (.slice A1 f1.length c1) (.slice A2 f2.length c2) (.slice A3 f3.length c3) (.slice A4 f4.length c4)⟩) (t:=32) ?hr ?_;(case hd => rfl);(case hg => rfl);(case hr => first | (go_simp;done) | (go_simp;rfl));intro g hg w1 hbox hb;have LO_HB_g : Hid (w.heap.size ≤ g):=Lib.hid (by rw [hg];exact HB_0.out.size);have HEg:=Lib.hid hg;have HB_1:=Lib.hid (below_then HB_0.out HB_0.out.size hb);have Xg_1:=Lib.hid hbox;clear hg hbox hb))
 have y4 : w1.cell? ⟨g,4,none⟩ = some (.slice A1 f1.length c1):=blk_cell Xg_1.out 4
 go_upto_region 4 with (first | (go_at_call 71;refine (laws_heldFilterS.calls ka A1 c1 f1 q x1 w1 (Kd.C_below R1.out HB_1.out) L1.out F1.out).mono ?_;rintro e w2 ⟨rfl,hd⟩;have hb:=hd.below;have HB_2:=Lib.hid (below_then HB_1.out HB_1.out.size hb);have Xg_2:=Lib.hid (blk_below Xg_1.out hb);clear hb hd))
 clear y4
 have y5 : w2.cell? ⟨g,5,none⟩ = some (.slice A2 f2.length c2):=blk_cell Xg_2.out 5
 go_upto_region 7 with (first | (go_at_call 72;refine (heldBoxS_v h.bs x1 N1.out P2.out M.out.l2 M.out.d2 f2 F2.out w2 A2 c2 (Kd.C_below R2.out HB_2.out) L2.out).mono ?_;rintro e w3 ⟨rfl,hb⟩;rw [E2.out];have HB_3:=Lib.hid (below_then HB_2.out HB_2.out.size hb);have Xg_3:=Lib.hid (blk_below Xg_2.out hb);clear hb))
 clear y5
 have y6 : w3.cell? ⟨g,6,none⟩ = some (.slice A3 f3.length c3):=blk_cell Xg_3.out 6
 go_upto_region 10 with (first | (go_at_call 73;refine (laws_heldFrameS.calls kb A3 c3 f3 x2 x3 w3 (Kd.C_below R3.out HB_3.out) L3.out F3.out).mono ?_;rintro e w4 ⟨rfl,hd⟩;have hb:=hd.below;have HB_4:=Lib.hid (below_then HB_3.out HB_3.out.size hb);have Xg_4:=Lib.hid (blk_below Xg_3.out hb);clear hb hd))
 clear y6
 have y7 : w4.cell? ⟨g,7,none⟩ = some (.slice A4 f4.length c4):=blk_cell Xg_4.out 7
 go_wp2_with (first | (go_at_call 48;refine (heldEventS_v h.ev x3 N3.out P4.out M.out.l4 M.out.d4 f4 F4.out w4 A4 c4 (Kd.C_below R4.out HB_4.out) L4.out).mono ?_;rintro e w5 ⟨rfl,hb⟩;rw [E4.out];have HB_5:=Lib.hid (below_then HB_4.out HB_4.out.size hb);have Xg_5:=Lib.hid (blk_below Xg_4.out hb);clear hb))
 go_ret
 exact ⟨rfl,HB_5.out⟩
end Go.Proofs.Ytcaefabbcjlkdaa.P
namespace Go.Proofs.Ytcaefabbcjlkdaa.P
open Go Go.RowKit Go.Proofs.YtcaefabbcjlkdaaW.PrintWords
set_option linter.unusedVariables false
def RowM (e : TypeId) (w : World) (base : Nat) (v : Value) (xs : List Int) : Prop :=
 w.ownsRow base e 1 v xs.length (nums .u8 xs) ∨
 ∃ g cap cur fz,v = .slice (some ⟨g,0,none⟩) xs.length cap ∧ base ≤ g ∧ w.heap[g]? = some (.cells cur e fz) ∧ cap ≤ fz.1 ∧ xs.length ≤ cap ∧ cap ≤ maxLen ∧ cur.size = cap ∧ cur.toList.take xs.length = nums .u8 xs
theorem RowM.typed {e : TypeId} {w : World} {base : Nat} {v : Value} {xs : List Int} (h : RowM e w base v xs) {k : Nat} (hk : v.ownBlock = some k) : base ≤ k ∧ k < w.heap.size ∧ ∃ cur fz,w.heap[k]? = some (.cells cur e fz):=by
 rcases h with h | ⟨g,cap,cur,fz,rfl,hb,hh,_⟩
 ·obtain ⟨cells,hc⟩:=own_typed h k hk
  exact ⟨own_base h k hk,own_lt h k hk,cells,_,hc⟩
 ·obtain rfl : g = k:=Option.some.inj hk
  exact ⟨hb,(Array.getElem?_eq_some_iff.1 hh).1,cur,fz,hh⟩
theorem RowM.slice {e : TypeId} {w : World} {base : Nat} {v : Value} {xs : List Int} (h : RowM e w base v xs) : ∃ A n c,v = .slice A n c:=by
 rcases h with h | ⟨g,cap,cur,fz,rfl,_⟩
 ·obtain ⟨A,c,e⟩:=own_slice h
  exact ⟨A,_,c,e⟩
 ·exact ⟨_,_,_,rfl⟩
structure Fr (w w' : World) (p : Nat) (row row' : Option Nat) : Prop where
 os : w'.os = w.os
 tape : w'.tape = w.tape
 output : w'.output = w.output
 size : w.heap.size ≤ w'.heap.size
 block : ∀ k,k < w.heap.size → k ≠ p → some k ≠ row → w'.heap[k]? = w.heap[k]?
 goes : row' = row ∨ ∃ b,row' = some b ∧ w.heap.size ≤ b
theorem Fr.refl (w : World) (p : Nat) (row : Option Nat) : Fr w w p row row:=⟨rfl,rfl,rfl,Nat.le_refl _,fun _ _ _ _ => rfl, .inl rfl⟩
theorem Fr.trans {w w1 w2 : World} {p : Nat} {r r1 r2 : Option Nat} (h : Fr w w1 p r r1) (k : Fr w1 w2 p r1 r2) : Fr w w2 p r r2:=by
 refine ⟨k.os.trans h.os,k.tape.trans h.tape,k.output.trans h.output,Nat.le_trans h.size k.size,fun j hj hp hr => ?_, ?_⟩
 ·refine (k.block j (Nat.lt_of_lt_of_le hj h.size) hp ?_).trans (h.block j hj hp hr)
  rcases h.goes with e | ⟨b,e,hb⟩
  ·rw [e];exact hr
  ·rw [e];intro e2;have:=Option.some.inj e2;omega
 ·rcases k.goes with e | ⟨b,e,hb⟩
  ·rw [e];exact h.goes
  ·exact .inr ⟨b,e,Nat.le_trans h.size hb⟩
theorem Fr.below {B : Nat} {w0 w w' : World} {p : Nat} {r r' : Option Nat} (h : Fr w w' p r r') (hb : Below B w0 w) (hB : B ≤ w.heap.size) (hp : B ≤ p) (hr : ∀ k,r = some k → B ≤ k) : Below B w0 w' :=
 hb.trans ⟨h.os,h.tape,h.output,h.size,fun k hk => h.block k (by omega) (by omega) (fun e => by have:=hr k e.symm;omega)⟩
theorem nums_one (x : Int) : nums .u8 [x] = [.int .u8 x]:=rfl
theorem RowM.append {P : Program} {ops : Array Oper} {rest : List Oper} {o : Oper} {a : Act} {Q : Exit → Act → World → Prop} {W : World} (base : Nat) (hgd : o.guard = none) (s x : Operand) (t e : TypeId)
  (ho : o.op = .call { callee := .builtin .append,args := #[s,x],argTypes := #[t,t] })
  (ht : P.underlying t = some (.slice e)) (hinfo : (P.info? e).map (fun i => (i.zero,i.size,i.bytes)) = some (some (.int .u8 0),1,1))
  (v : Value) (xs : List Int) (b : Int) (hs : a.eval s = v) (hx : a.eval x = .slice (some ⟨W.heap.size,0,none⟩) 1 1)
  (HO : RowM e W base v xs) (hbase : base ≤ W.heap.size) (hl : xs.length + 1 ≤ 1000000)
  (h : ∀ v1 w1,RowM e w1 base v1 (xs ++ [b]) → Fr W w1 W.heap.size v.ownBlock v1.ownBlock → wpList P ops Q rest (a.put o.dst v1) w1) :
  wpList P ops Q (o :: rest) a (W.alloc (.cells #[.int .u8 b] e)):=by
 have hn : (xs ++ [b]).length = xs.length + 1:=by simp
 rcases HO with HO | ⟨g,cap,cur,fz,rfl,hb,hh,hfz,hlc,hcm,hcs,htk⟩
 ·refine print_append_cells (w0:=W) (ys := [.int .u8 b]) base hgd s x t e (.int .u8 0) 1 1 ho ht hinfo rfl (by decide) (by decide) v xs.length (nums .u8 xs) hs hx rfl (by simp [Value.oneCell']) HO (Below.refl _ _) hbase (by omega) ?_
  intro v1 w1 hown _ hg hat
  refine h v1 w1 (.inl (by rw [hn,nums_append];exact hown)) ⟨hg.os,hg.tape,hg.output,hg.size,fun k hk _ hr => hg.block k hk hr, ?_⟩
  rcases hat with e1 | ⟨c,e1,hc⟩
  ·exact .inl e1
  ·exact .inr ⟨c,e1,hc⟩
 ·obtain ⟨i0,hi,hzz⟩:=Option.map_eq_some_iff.1 hinfo
  simp only [Prod.mk.injEq] at hzz
  obtain ⟨hz0,hz1,hz2⟩:=hzz
  have hgl : g < W.heap.size:=(Array.getElem?_eq_some_iff.1 hh).1
  have hhA : (W.alloc (.cells #[.int .u8 b] e)).heap[g]? = some (.cells cur e fz):=(heap_alloc_old W _ hgl).trans hh
  have hcell : ∀ j,(W.alloc (.cells #[.int .u8 b] e)).cell? ⟨g,j,none⟩ = cur[j]?:=fun j => by simp only [World.cell?,hhA];simp
  have hol : (nums .u8 xs).length = xs.length * 1:=by rw [nums_length,Nat.mul_one]
  refine wpList_append_arg (W.alloc (.cells #[.int .u8 b] e)) hgd s x t ho e i0 (.int .u8 0) 1 1 ht hi hz0 hz1 hz2 rfl (by decide) g 0 xs.length cap (nums .u8 xs) hs hol (fun j u hj => ?_) ⟨W.heap.size,0,none⟩ 1 1 [.int .u8 b] hx rfl
   (by simpa using World.news_of_block (cs := #[.int .u8 b]) (t:=e) (fr:=(0,0)) (heap_alloc_new W (.cells #[.int .u8 b] e))) (by simp [Value.oneCell']) (fun hroom j hj => ⟨?_, ?_⟩) (by simp only [maxLen];omega) (by omega) (fun hroom => ?_) (fun _ v1 w1 hown hg => ?_)
  ·rw [Nat.zero_add,hcell]
   have hjl : j < xs.length:=by have:=(List.getElem?_eq_some_iff.1 hj).1;rw [nums_length] at this;exact this
   rw [← htk,List.getElem?_take_of_lt hjl,Array.getElem?_toList] at hj
   exact hj
  ·have hj1 : j < 1:=hj
   rw [hcell,Array.getElem?_eq_getElem (by omega)];rfl
  ·have hj1 : j < 1:=hj
   obtain ⟨lo,hi'⟩:=fz
   simp only [World.frozen?,hhA]
   have hlo : cap ≤ lo:=hfz
   rw [decide_eq_false (show ¬ lo ≤ 0 + xs.length * 1 + j by omega),Bool.false_and]
  ·have e0 : 0 + xs.length * 1 = xs.length:=by omega
   rw [e0]
   have hset : ((W.alloc (.cells #[.int .u8 b] e)).setCell ⟨g,xs.length,none⟩ (.int .u8 b)).heap[g]? = some (.cells (cur.setIfInBounds xs.length (.int .u8 b)) e fz):=by
    simp only [World.setCell,Array.getElem?_modify,hhA]
    simp
   have hs1 : ((W.alloc (.cells #[.int .u8 b] e)).setCell ⟨g,xs.length,none⟩ (.int .u8 b)).heap.size = W.heap.size + 1:=by simp
   refine h _ _ (.inr ⟨g,cap,_,fz,by rw [hn],hb,hset,hfz,by rw [hn];exact hroom,hcm,by simp [hcs], ?_⟩) ⟨rfl,rfl,rfl, ?_,fun k hk _ hr => ?_, .inl rfl⟩
   ·rw [hn,nums_append,nums_one,Array.toList_setIfInBounds,List.take_add_one,List.take_set_of_le (Nat.le_refl _),htk,List.getElem?_set_self (by simpa using (show xs.length < cur.size by omega))]
    rfl
   ·show W.heap.size ≤ ((W.alloc (.cells #[.int .u8 b] e)).setCell ⟨g,xs.length,none⟩ (.int .u8 b)).heap.size
    rw [hs1];omega
   ·show ((W.alloc (.cells #[.int .u8 b] e)).setCell ⟨g,xs.length,none⟩ (.int .u8 b)).heap[k]? = W.heap[k]?
    rw [Below.heap_setCell _ _ _ k (fun e1 => hr (by rw [e1];rfl)),heap_alloc_old W _ hk]
  ·have e1 : nums .u8 xs ++ [Value.int .u8 b] = nums .u8 (xs ++ [b]):=by rw [nums_append,nums_one]
   rw [e1] at hown
   have hw : w1.ownsRow base e 1 v1 (xs ++ [b]).length (nums .u8 (xs ++ [b])):=by rw [hn];exact own_weaken hown (by simp;omega)
   refine h v1 w1 (.inl hw) ⟨hg.os,hg.tape,hg.output,Nat.le_trans (by simp) hg.size,fun k hk hk2 hr => ?_, ?_⟩
   ·rw [hg.block k (by simp;omega) (by simp),heap_alloc_old W _ hk]
   ·rcases hown.2 with ⟨_,h0⟩ | ⟨g',c',cu',rfl,hb',_⟩
    ·omega
    ·exact .inr ⟨g',rfl,by simp at hb';omega⟩
theorem Fr.store {w w1 : World} {p : Nat} {r : Option Nat} {v1 : Value} (h : Fr w w1 w.heap.size r v1.ownBlock) (hp : p < w.heap.size) : Fr w (w1.setCell ⟨p,0,none⟩ v1) p r v1.ownBlock :=
 ⟨h.os,h.tape,h.output,by simpa using h.size,fun k hk hkp hr => by
  rw [Below.heap_setCell _ _ _ k hkp];exact h.block k hk (by omega) hr,h.goes⟩
theorem RowM.bytes (w : World) (e : TypeId) (s : ByteArray) (base : Nat) (hb : base ≤ w.heap.size) (hs : s.size ≤ maxLen) : RowM e (Lib.bytesWorld w e s) base (.slice (some ⟨w.heap.size,0,none⟩) s.size (grownCap w s.size 0 e)) (bytesOf s):=by
 have hg:=grownCap_ge w s.size 0 e
 have hz : (Lib.bytesCells w e s).size = grownCap w s.size 0 e:=by simp [Lib.bytesCells];have : s.data.size = s.size:=rfl;omega
 refine .inr ⟨w.heap.size,_,_,_,by rw [bytesOf_length],hb,Lib.bytesWorld_at_new w e s,by rw [hz];exact Nat.le_refl _,by rw [bytesOf_length];exact hg,grownCap_le_maxLen w s.size 0 e hs,hz, ?_⟩
 rw [bytesOf_length]
 unfold Lib.bytesCells nums bytesOf
 rw [Array.toList_append,List.take_append_of_le_length (by simp),List.take_of_length_le (by simp)]
 simp
structure BW (e t : TypeId) (w wr : World) (b p : Nat) (box : Array Value) (tb : TypeId) (v : Value) (xs : List Int) : Prop where
 box : wr.heap[b]? = some (.cells box tb (0,0))
 ptr : wr.heap[p]? = some (.cells #[v] t (0,0))
 row : RowM e wr w.heap.size v xs
 below : Below w.heap.size w wr
 lo : w.heap.size ≤ b
 lp : w.heap.size ≤ p
 ne : b ≠ p
theorem BW.step {e t : TypeId} {w wr w' : World} {b p : Nat} {box : Array Value} {tb : TypeId} {v v' : Value} {xs ys : List Int} (h : BW e t w wr b p box tb v xs) (he : e ≠ tb) (hp : w'.heap[p]? = some (.cells #[v'] t (0,0))) (hv : RowM e w' w.heap.size v' ys) (hf : Fr wr w' p v.ownBlock v'.ownBlock) : BW e t w w' b p box tb v' ys:=by
 refine ⟨(hf.block b (Array.getElem?_eq_some_iff.1 h.box).1 h.ne (fun e1 => ?_)).trans h.box,hp,hv,hf.below h.below h.below.size h.lp (fun k hk => (h.row.typed hk).1),h.lo,h.lp,h.ne⟩
 obtain ⟨_,_,cur,fz,hc⟩:=h.row.typed e1.symm
 rw [h.box] at hc
 injection hc with hc
 injection hc with _ hc
 exact he hc.symm
theorem RowM.nil (e : TypeId) (w : World) (base : Nat) : RowM e w base (.slice none 0 0) [] := .inl (own_nil w base e 1)
def Bits (l : List Int) : Prop := ∀ x ∈ l,x = 48 ∨ x = 49
theorem Bits.range {l : List Int} (h : Bits l) : ∀ x ∈ l,0 ≤ x ∧ x < 256:=fun x hx => by rcases h x hx with rfl | rfl <;> omega
theorem Bits.append {a b : List Int} (h : Bits a) (k : Bits b) : Bits (a ++ b):=fun x hx => (List.mem_append.1 hx).elim (h x) (k x)
end Go.Proofs.Ytcaefabbcjlkdaa.P
namespace Go.Proofs.Ytcaefabbcjlkdaa.P
open Go.RowKit Go.Proofs.YtcaefabbcjlkdaaW.PrintWords Go.Proofs.YtcaefabbcjlkdaaW.PrintLast Go.Proofs.YtcaefabbcjlkdaaW.PrintMore
set_option linter.unusedVariables false
set_option linter.unusedSimpArgs false
def dataB (rtr : Bool) (dlc : Int) : Int:=if rtr = true then 0 else (if 8 < dlc then 8 else dlc)
theorem impl_dataBytes.same (a0 : Bool) (a1 : Int) (w : World) :
  Calls Try.prog 144 #[.bool a0, .int .i64 a1] w fun e w' => e = .returned (.int .i64 (dataB a0 a1)) ∧ w' = w:=by
 unfold dataB
 cases a0
 ·by_cases c : 8 < a1
  ·have c1 : decide (8 < a1) = true:=decide_eq_true c
   go_enter Try.func144,Try.ntmps144
   go_wp2
   go_ret
   exact ⟨rfl,rfl⟩
  ·have c1 : decide (8 < a1) = false:=decide_eq_false c
   go_enter Try.func144,Try.ntmps144
   go_wp2
   go_ret
   exact ⟨rfl,rfl⟩
 ·go_enter Try.func144,Try.ntmps144
  go_wp2
  go_ret
  exact ⟨rfl,rfl⟩
end Go.Proofs.Ytcaefabbcjlkdaa.P
namespace Go.Proofs.Ytcaefabbcjlkdaa.P
open Go Go.RowKit Go.Proofs.YtcaefabbcjlkdaaW.PrintWords
set_option linter.unusedVariables false
def vtop (ext : Bool) : Int:=if ext = true then 536870912 else 2048
def validF (ext : Bool) (id : Int) (rtr : Bool) (dlc : Int) (n : Nat) : Bool:=decide (id < vtop ext) && (decide (0 ≤ dlc) && (decide (dlc ≤ 15) && ((n : Int) == dataB rtr dlc)))
theorem valid_parts {ext : Bool} {id : Int} {rtr : Bool} {dlc : Int} {n : Nat} (h : validF ext id rtr dlc n = true) : id < vtop ext ∧ 0 ≤ dlc ∧ dlc ≤ 15 ∧ (n : Int) = dataB rtr dlc ∧ n ≤ 8:=by
 unfold validF at h
 rw [Bool.and_eq_true,Bool.and_eq_true,Bool.and_eq_true] at h
 obtain ⟨h1,h2,h3,h4⟩:=h
 have h5 : (n : Int) = dataB rtr dlc:=by simpa using h4
 refine ⟨of_decide_eq_true h1,of_decide_eq_true h2,of_decide_eq_true h3,h5, ?_⟩
 unfold dataB at h5
 split at h5
 ·omega
 ·split at h5
  ·omega
  ·have:=of_decide_eq_true h2;have:=of_decide_eq_true h3;omega
section
variable {v0 v1 v2 v3 v4 : Value}
end
end Go.Proofs.Ytcaefabbcjlkdaa.P
namespace Go.Proofs.Ytcaefabbcjlkdaa.P
open Go Go.RowKit Go.Proofs.YtcaefabbcjlkdaaW.PrintWords Go.Proofs.YtcaefabbcjlkdaaW.PrintLast Go.Proofs.YtcaefabbcjlkdaaW.PrintMore
set_option linter.unusedVariables false
set_option linter.unusedSimpArgs false
def zeroB (x : S45) : Bool := !x.f0 && (x.f1 == 0) && !x.f2 && (x.f3 == 0) && (x.f4.length == 0)
theorem equal_pair (a b : Bool) (W : World) : Sem.run Try.prog (Op.equalIn 10000 165 (.agg #[.bool a, .bool b]) (.agg #[.bool false, .bool false])) W = .ok (!a && !b) W:=by
 cases a <;> cases b <;> kernel_rfl
set_option maxRecDepth 100000 in
set_option maxHeartbeats 8000000 in
theorem sameFrame_z (b0 : Bool) (i1 : Int) (b2 : Bool) (i3 : Int) (n : Nat) (A : Option Addr) (c : Nat) (w : World) :
  Calls Try.prog 148 #[.agg #[.bool b0, .int .u32 i1, .bool b2, .int .i64 i3, .slice A n c], .agg #[.bool false, .int .u32 0, .bool false, .int .i64 0, .slice none 0 0]] w fun e w' => e = .returned (.bool (!b0 && (i1 == 0) && !b2 && (i3 == 0) && (n == 0))) ∧ Below w.heap.size w w':=by
 go_enter Try.func148,Try.ntmps148
 go_upto_region 1 with (first | ((with_reducible refine gate_dst (N:=2) rfl ?_);refine box_event ?hg (N:=2) ?hd (cs := #[.bool b0, .int .u32 i1, .bool b2, .int .i64 i3, .slice A n c]) (t:=45) ?hr ?_;(case hd => rfl);(case hg => rfl);(case hr => first | (go_simp;done) | (go_simp;rfl));intro g2 hg w1 hbox hb;have X1:=Lib.hid hbox;have HB1:=Lib.hid hb;clear hg hbox hb) | ((with_reducible refine gate_dst (N:=3) rfl ?_);refine box_event ?hg (N:=3) ?hd (cs := #[.bool false, .int .u32 0, .bool false, .int .i64 0, .slice none 0 0]) (t:=45) ?hr ?_;(case hd => rfl);(case hg => rfl);(case hr => first | (go_simp;done) | (go_simp;rfl));intro g3 hg w2 hbox hb;have Y2:=Lib.hid hbox;have X2:=Lib.hid (blk_below X1.out hb);have HB2:=Lib.hid (below_then HB1.out HB1.out.size hb);clear hg hbox hb))
 have x0 : w2.cell? ⟨g2,0,none⟩ = some (.bool b0):=blk_cell X2.out 0
 have x1 : w2.cell? ⟨g2,1,none⟩ = some (.int .u32 i1):=blk_cell X2.out 1
 have x2 : w2.cell? ⟨g2,2,none⟩ = some (.bool b2):=blk_cell X2.out 2
 have x3 : w2.cell? ⟨g2,3,none⟩ = some (.int .i64 i3):=blk_cell X2.out 3
 have x4 : w2.cell? ⟨g2,4,none⟩ = some (.slice A n c):=blk_cell X2.out 4
 have y0 : w2.cell? ⟨g3,0,none⟩ = some (.bool false):=blk_cell Y2.out 0
 have y1 : w2.cell? ⟨g3,1,none⟩ = some (.int .u32 0):=blk_cell Y2.out 1
 have y2 : w2.cell? ⟨g3,2,none⟩ = some (.bool false):=blk_cell Y2.out 2
 have y3 : w2.cell? ⟨g3,3,none⟩ = some (.int .i64 0):=blk_cell Y2.out 3
 have y4 : w2.cell? ⟨g3,4,none⟩ = some (.slice none 0 0):=blk_cell Y2.out 4
 have q:=equal_pair b0 b2 w2
 cases hb0 : b0 with
 | true =>
  subst hb0
  go_wp2_with (fail)
  go_ret
  exact ⟨rfl,HB2.out⟩
 | false =>
  subst hb0
  cases hb2 : b2 with
  | true =>
   subst hb2
   go_wp2_with (fail)
   go_ret
   refine ⟨?_,HB2.out⟩
   cases (i1 == 0) <;> rfl
  | false =>
   subst hb2
   by_cases h1 : i1 = 0
   ·subst h1
    by_cases h3 : i3 = 0
    ·subst h3
     by_cases h4 : n = 0
     ·subst h4
      go_wp2_with (fail)
      clear x0 x1 x2 x3 x4 y0 y1 y2 y3 y4 q
      go_loopw [43] (fun v43 wr => v43 = .int .i64 0 ∧ Aside0 (Below w.heap.size w wr)) (fun _ _ => 0)
      case atStart => exact ⟨rfl,⟨HB2.out⟩⟩
      case round =>
       obtain ⟨rfl,HBR⟩:=hrel
       go_wp2_with (fail)
       go_ret
       exact ⟨rfl,HBR.out⟩
     ·have z : ((n : Int) != 0) = true:=bne_iff_ne.2 (by omega)
      have z' : (n == 0) = false:=beq_eq_false_iff_ne.2 h4
      have H4:=Lib.hid h4
      clear h4
      go_wp2_with (fail)
      go_ret
      exact ⟨by rw [z'];rfl,HB2.out⟩
    ·have z : (i3 != 0) = true:=bne_iff_ne.2 h3
     have z' : (i3 == 0) = false:=beq_eq_false_iff_ne.2 h3
     have H3:=Lib.hid h3
     clear h3
     go_wp2_with (fail)
     go_ret
     exact ⟨by rw [z'];rfl,HB2.out⟩
   ·have z : (i1 != 0) = true:=bne_iff_ne.2 h1
    have z' : (i1 == 0) = false:=beq_eq_false_iff_ne.2 h1
    have H1:=Lib.hid h1
    clear h1
    go_wp2_with (fail)
    go_ret
    exact ⟨by rw [z'];rfl,HB2.out⟩
set_option maxRecDepth 100000 in
set_option maxHeartbeats 2000000 in
theorem zeroFrame_v (x : S45) (A : Option Addr) (c : Nat) (w : World) :
  Calls Try.prog 143 #[.agg #[.bool x.f0, .int .u32 x.f1, .bool x.f2, .int .i64 x.f3, .slice A x.f4.length c]] w fun e w' => e = .returned (.bool (zeroB x)) ∧ Below w.heap.size w w':=by
 have hu:=Lib.hid Try.underlying45
 go_enter Try.func143,Try.ntmps143
 go_wp2_with (first | ((with_reducible refine gate_dst (N:=1) rfl ?_);refine box_event ?hg (N:=1) ?hd (cs := #[.bool x.f0, .int .u32 x.f1, .bool x.f2, .int .i64 x.f3, .slice A x.f4.length c]) (t:=45) ?hr ?_;(case hd => rfl);(case hg => rfl);(case hr => first | (go_simp;done) | (go_simp;rfl));intro g hg w1 hbox hb;have X1:=Lib.hid hbox;have HB1:=Lib.hid hb;clear hg hbox hb) | ((with_reducible refine gate_dst (N:=3) rfl ?_);refine load_all rfl rfl (g:=g) rfl X1.out hu.out (by kernel_rfl) ?_) | (go_at_call 148;refine (sameFrame_z x.f0 x.f1 x.f2 x.f3 x.f4.length A c w1).mono ?_;rintro e w2 ⟨rfl,hb⟩;have HB2:=Lib.hid (below_then HB1.out HB1.out.size hb);clear hb))
 go_ret
 exact ⟨rfl,HB2.out⟩
end Go.Proofs.Ytcaefabbcjlkdaa.P
