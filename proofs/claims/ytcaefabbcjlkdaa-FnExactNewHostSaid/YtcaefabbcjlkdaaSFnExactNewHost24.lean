/- Texts of the proof of FnExactNewHost, joined. -/
import Derived.Test.YtcaefabbcjlkdaaSFnExactNewHost22
import Derived.Test.YtcaefabbcjlkdaaSFnExactNewHost23
namespace Go.Proofs.Ytcaefabbcjlkdaa.P
open Go Go.RowKit Go.Proofs.YtcaefabbcjlkdaaW.PrintWords Go.Proofs.YtcaefabbcjlkdaaW.PrintLast Go.Proofs.YtcaefabbcjlkdaaW.PrintMore
set_option linter.unusedVariables false
set_option linter.unusedSimpArgs false
theorem k_oneR {w : World} {base : Nat} {ok : Nat → Prop} {o : Nat → Nat} {x : HV} {vf vb vq ve : Value} (h : HRows w base ok o x vf vb vq ve) : ∀ u ∈ hostC x vf vb vq ve,u.oneCell' = true:=by
 obtain ⟨_,_,rfl⟩:=Kd.R_slice h.f
 obtain ⟨_,_,rfl⟩:=Kd.S_slice h.b
 obtain ⟨_,_,rfl⟩:=Kd.S_slice h.q
 obtain ⟨_,_,rfl⟩:=Kd.S_slice h.e
 intro u hu
 simp only [hostC,List.mem_cons,List.not_mem_nil,or_false] at hu
 rcases hu with rfl | rfl | rfl | rfl | rfl | rfl | rfl | rfl | rfl | rfl <;> rfl
theorem k_one4 {w0 w : World} {p : Nat} {x : HV} {vf vb vq ve : Value} (H : HostP w0 w p x vf vb vq ve) : ∀ u ∈ hostC x vf vb vq ve,u.oneCell' = true:=by
 obtain ⟨o,h⟩:=H.rows
 exact k_oneR h
set_option maxRecDepth 100000 in
set_option maxHeartbeats 8000000 in
theorem close_v (w : World) (p m : Nat) (h : HV) (l1 l2 : Int) (vf vb vq ve : Value) (hp : w.heap[p]? = some (.cells (sideP h m l1 l2 vf vb vq ve) 128 (0,0))) (hR : HRead w h (hostC h vf vb vq ve)) (hS : HSmall h) :
  Calls Try.prog 64 #[.pointer (some ⟨p,0,none⟩)] w fun e w' => ∃ C,e = .returned (.agg ⟨C⟩) ∧ HOwn w' w.heap.size (fun _ => True) h C ∧ Below w.heap.size w w':=by
 obtain ⟨Af,cf,Ab,cb,Aq,cq,Ae,ce,hC,rf,lf,rb,lb,rq,lq,re,le⟩:=hR
 simp only [hostC,List.cons.injEq,true_and,and_true] at hC
 obtain ⟨rfl,rfl,rfl,rfl⟩:=hC
 have HP:=Lib.hid hp
 have RF:=Lib.hid rf
 have RB:=Lib.hid rb
 have RQ:=Lib.hid rq
 have RE:=Lib.hid re
 have LF:=Lib.hid lf
 have LB:=Lib.hid lb
 have LQ:=Lib.hid lq
 have LE:=Lib.hid le
 have SM:=Lib.hid hS
 clear hp rf rb rq re lf lb lq le hS
 go_enter Try.func64,Try.ntmps64
 go_upto_region 1 with (first | ((with_reducible refine gate_dst (N:=2) rfl ?_);refine box_event ?hg (N:=2) ?hd (cs := #[.int .i64 0, .int .i64 0, .int .i64 0, .int .i64 0, .slice none 0 0, .slice none 0 0, .slice none 0 0, .slice none 0 0, .int .i64 0, .int .i64 0]) (t:=32) ?hr ?_;(case hd => rfl);(case hg => rfl);(case hr => first | (go_simp;done) | (go_simp;rfl));intro g2 hg2 w1 hbox hb;have HG2:=Lib.hid hg2;have HX1:=Lib.hid hbox;have HB1:=Lib.hid hb;clear hg2 hbox hb))
 obtain ⟨wd,hwd⟩ : ∃ wd,wd = w1.drew:=⟨_,rfl⟩
 have HPd : Hid (wd.heap[p]? = some (.cells (sideP h m l1 l2 (.slice Af h.fs.length cf) (.slice Ab h.bs.length cb) (.slice Aq h.fr.length cq) (.slice Ae h.ev.length ce)) 128 (0,0))):=by rw [hwd];exact Lib.hid (blk_drew (blk_below HP.out HB1.out))
 have HXd : Hid (wd.heap[g2]? = some (.cells #[.int .i64 0, .int .i64 0, .int .i64 0, .int .i64 0, .slice none 0 0, .slice none 0 0, .slice none 0 0, .slice none 0 0, .int .i64 0, .int .i64 0] 32 (0,0))):=by rw [hwd];exact Lib.hid (blk_drew HX1.out)
 have HBd : Hid (Below w.heap.size w wd):=by rw [hwd];exact Lib.hid (below_drew HB1.out)
 clear HX1
 refine start_ (n:=21) (S:=fun w' : World => w'.heap[p]? = some (.cells (sideP h m l1 l2 (.slice Af h.fs.length cf) (.slice Ab h.bs.length cb) (.slice Aq h.fr.length cq) (.slice Ae h.ev.length ce)) 128 (0,0))) (ds := [20]) #[false,false,false,false,false,false,false,false,false,false,false,false,false,false,false,false,false,false,false,false,false] (by kernel_rfl) rfl rfl (hwd ▸ HPd.out) (fun hHeld => ?_)
 rw [← hwd] at hHeld ⊢
 clear hwd
 refine pure_ (i:=0) (N:=some 10) (v := ?_) (a' := ?_) #[true,false,false,false,false,false,false,false,false,false,false,false,false,false,false,false,false,false,false,false,false] rfl rfl (by kernel_rfl) (fun _ _ _ h => h) (Or.inl ⟨by rfl, ?_⟩) ?_ ?_
 rotate_left
 ·intro w'
  go_simp
  with_reducible rfl
 rotate_left
 ·simp only [Act.put,List.setIfInBounds_toArray,List.set_cons_zero,List.set_cons_succ,i64_w,i32_w]
  rfl
 refine pure_ (i:=1) (N:=some 11) (v := ?_) (a' := ?_) #[true,true,false,false,false,false,false,false,false,false,false,false,false,false,false,false,false,false,false,false,false] rfl rfl (by kernel_rfl) (fun _ _ _ h => h) (Or.inl ⟨by rfl, ?_⟩) ?_ ?_
 rotate_left
 ·intro w'
  go_simp
  with_reducible rfl
 rotate_left
 ·simp only [Act.put,List.setIfInBounds_toArray,List.set_cons_zero,List.set_cons_succ,i64_w,i32_w]
  rfl
 refine pure_ (i:=2) (N:=some 12) (v := ?_) (a' := ?_) #[true,true,true,false,false,false,false,false,false,false,false,false,false,false,false,false,false,false,false,false,false] rfl rfl (by kernel_rfl) (fun _ _ _ h => h) (Or.inl ⟨by rfl, ?_⟩) ?_ ?_
 rotate_left
 ·intro w'
  go_simp
  with_reducible rfl
 rotate_left
 ·simp only [Act.put,List.setIfInBounds_toArray,List.set_cons_zero,List.set_cons_succ,i64_w,i32_w]
  rfl
 refine take_ (i:=3) (N:=some 13) (v := ?_) (a' := ?_) #[true,true,true,true,false,false,false,false,false,false,false,false,false,false,false,false,false,false,false,false,false] rfl rfl (by kernel_rfl) (fun _ _ _ h => h) (Or.inl ⟨by rfl, ?_⟩) hHeld ?_ ?_
 rotate_left
 ·intro w' s0
  have e0 : w'.cell? ⟨p,0,none⟩ = some (.int .i64 h.cb):=blk_cell s0 0
  have e1 : w'.cell? ⟨p,1,none⟩ = some (.int .i64 h.cf):=blk_cell s0 1
  have e2 : w'.cell? ⟨p,2,none⟩ = some (.int .i64 h.cp):=blk_cell s0 2
  have e3 : w'.cell? ⟨p,3,none⟩ = some (.int .i64 h.ce):=blk_cell s0 3
  go_simp
  with_reducible rfl
 rotate_left
 ·simp only [Act.put,List.setIfInBounds_toArray,List.set_cons_zero,List.set_cons_succ,i64_w,i32_w]
  rfl
 refine pure_ (i:=5) (N:=some 15) (v := ?_) (a' := ?_) #[true,true,true,true,false,true,false,false,false,false,false,false,false,false,false,false,false,false,false,false,false] rfl rfl (by kernel_rfl) (fun _ _ _ h => h) (Or.inl ⟨by rfl, ?_⟩) ?_ ?_
 rotate_left
 ·intro w'
  go_simp
  with_reducible rfl
 rotate_left
 ·simp only [Act.put,List.setIfInBounds_toArray,List.set_cons_zero,List.set_cons_succ,i64_w,i32_w]
  rfl
 refine pure_ (i:=6) (N:=some 16) (v := ?_) (a' := ?_) #[true,true,true,true,false,true,true,false,false,false,false,false,false,false,false,false,false,false,false,false,false] rfl rfl (by kernel_rfl) (fun _ _ _ h => h) (Or.inl ⟨by rfl, ?_⟩) ?_ ?_
 rotate_left
 ·intro w'
  go_simp
  with_reducible rfl
 rotate_left
 ·simp only [Act.put,List.setIfInBounds_toArray,List.set_cons_zero,List.set_cons_succ,i64_w,i32_w]
  rfl
 refine pure_ (i:=7) (N:=some 17) (v := ?_) (a' := ?_) #[true,true,true,true,false,true,true,true,false,false,false,false,false,false,false,false,false,false,false,false,false] rfl rfl (by kernel_rfl) (fun _ _ _ h => h) (Or.inl ⟨by rfl, ?_⟩) ?_ ?_
 rotate_left
 ·intro w'
  go_simp
  with_reducible rfl
 rotate_left
 ·simp only [Act.put,List.setIfInBounds_toArray,List.set_cons_zero,List.set_cons_succ,i64_w,i32_w]
  rfl
 refine take_ (i:=8) (N:=some 18) (v := ?_) (a' := ?_) #[true,true,true,true,false,true,true,true,true,false,false,false,false,false,false,false,false,false,false,false,false] rfl rfl (by kernel_rfl) (fun _ _ _ h => h) (Or.inl ⟨by rfl, ?_⟩) hHeld ?_ ?_
 rotate_left
 ·intro w' s0
  have e4 : w'.cell? ⟨p,4,none⟩ = some (.slice Af h.fs.length cf):=blk_cell s0 4
  go_simp
  with_reducible rfl
 rotate_left
 ·simp only [Act.put,List.setIfInBounds_toArray,List.set_cons_zero,List.set_cons_succ,i64_w,i32_w]
  rfl
 refine pure_ (i:=10) (N:=some 20) (v := ?_) (a' := ?_) #[true,true,true,true,false,true,true,true,true,false,true,false,false,false,false,false,false,false,false,false,false] rfl rfl (by kernel_rfl) (fun _ _ _ h => h) (Or.inl ⟨by rfl, ?_⟩) ?_ ?_
 rotate_left
 ·intro w'
  go_simp
  with_reducible rfl
 rotate_left
 ·simp only [Act.put,List.setIfInBounds_toArray,List.set_cons_zero,List.set_cons_succ,i64_w,i32_w]
  rfl
 refine pure_ (i:=11) (N:=some 21) (v := ?_) (a' := ?_) #[true,true,true,true,false,true,true,true,true,false,true,true,false,false,false,false,false,false,false,false,false] rfl rfl (by kernel_rfl) (fun _ _ _ h => h) (Or.inl ⟨by rfl, ?_⟩) ?_ ?_
 rotate_left
 ·intro w'
  go_simp
  with_reducible rfl
 rotate_left
 ·simp only [Act.put,List.setIfInBounds_toArray,List.set_cons_zero,List.set_cons_succ,i64_w,i32_w]
  rfl
 refine pure_ (i:=12) (N:=some 22) (v := ?_) (a' := ?_) #[true,true,true,true,false,true,true,true,true,false,true,true,true,false,false,false,false,false,false,false,false] rfl rfl (by kernel_rfl) (fun _ _ _ h => h) (Or.inl ⟨by rfl, ?_⟩) ?_ ?_
 rotate_left
 ·intro w'
  go_simp
  with_reducible rfl
 rotate_left
 ·simp only [Act.put,List.setIfInBounds_toArray,List.set_cons_zero,List.set_cons_succ,i64_w,i32_w]
  rfl
 refine take_ (i:=13) (N:=some 23) (v := ?_) (a' := ?_) #[true,true,true,true,false,true,true,true,true,false,true,true,true,true,false,false,false,false,false,false,false] rfl rfl (by kernel_rfl) (fun _ _ _ h => h) (Or.inl ⟨by rfl, ?_⟩) hHeld ?_ ?_
 rotate_left
 ·intro w' s0
  have e11 : w'.cell? ⟨p,11,none⟩ = some (.int .i64 h.lost):=blk_cell s0 11
  go_simp
  with_reducible rfl
 rotate_left
 ·simp only [Act.put,List.setIfInBounds_toArray,List.set_cons_zero,List.set_cons_succ,i64_w,i32_w]
  rfl
 refine pure_ (i:=14) (N:=some 24) (v := ?_) (a' := ?_) #[true,true,true,true,false,true,true,true,true,false,true,true,true,true,true,false,false,false,false,false,false] rfl rfl (by kernel_rfl) (fun _ _ _ h => h) (Or.inl ⟨by rfl, ?_⟩) ?_ ?_
 rotate_left
 ·intro w'
  go_simp
  with_reducible rfl
 rotate_left
 ·simp only [Act.put,List.setIfInBounds_toArray,List.set_cons_zero,List.set_cons_succ,i64_w,i32_w]
  rfl
 refine pure_ (i:=15) (N:=some 25) (v := ?_) (a' := ?_) #[true,true,true,true,false,true,true,true,true,false,true,true,true,true,true,true,false,false,false,false,false] rfl rfl (by kernel_rfl) (fun _ _ _ h => h) (Or.inl ⟨by rfl, ?_⟩) ?_ ?_
 rotate_left
 ·intro w'
  go_simp
  with_reducible rfl
 rotate_left
 ·simp only [Act.put,List.setIfInBounds_toArray,List.set_cons_zero,List.set_cons_succ,i64_w,i32_w]
  rfl
 refine pure_ (i:=16) (N:=some 26) (v := ?_) (a' := ?_) #[true,true,true,true,false,true,true,true,true,false,true,true,true,true,true,true,true,false,false,false,false] rfl rfl (by kernel_rfl) (fun _ _ _ h => h) (Or.inl ⟨by rfl, ?_⟩) ?_ ?_
 rotate_left
 ·intro w'
  go_simp
  with_reducible rfl
 rotate_left
 ·simp only [Act.put,List.setIfInBounds_toArray,List.set_cons_zero,List.set_cons_succ,i64_w,i32_w]
  rfl
 refine take_ (i:=17) (N:=some 27) (v := ?_) (a' := ?_) #[true,true,true,true,false,true,true,true,true,false,true,true,true,true,true,true,true,true,false,false,false] rfl rfl (by kernel_rfl) (fun _ _ _ h => h) (Or.inl ⟨by rfl, ?_⟩) hHeld ?_ ?_
 rotate_left
 ·intro w' s0
  have e12 : w'.cell? ⟨p,12,none⟩ = some (.int .i64 h.stamp):=blk_cell s0 12
  go_simp
  with_reducible rfl
 rotate_left
 ·simp only [Act.put,List.setIfInBounds_toArray,List.set_cons_zero,List.set_cons_succ,i64_w,i32_w]
  rfl
 refine join_ (σ:=Value × Option Addr × Nat × Nat) 1 #[true,true,true,true,true,true,true,true,true,true,true,true,true,true,true,true,true,true,true,true,false] (fun s => [(14,s.1),(19, .slice s.2.1 h.fs.length s.2.2.1),(28, .agg #[.int .i64 h.cb, .int .i64 h.cf, .int .i64 h.cp, .int .i64 h.ce, .slice s.2.1 h.fs.length s.2.2.1,(.slice none 0 0),(.slice none 0 0),(.slice none 0 0), .int .i64 h.lost, .int .i64 h.stamp]),(3, .pointer (some ⟨s.2.2.2,0,none⟩))]) (fun s w' => (w'.heap[p]? = some (.cells (sideP h m l1 l2 (.slice Af h.fs.length cf) (.slice Ab h.bs.length cb) (.slice Aq h.fr.length cq) (.slice Ae h.ev.length ce)) 128 (0,0))) ∧ Below wd.heap.size wd w' ∧ w'.heap[s.2.2.2]? = some (.cells #[.int .i64 0, .int .i64 0, .int .i64 0, .int .i64 0, .slice none 0 0, .slice none 0 0, .slice none 0 0, .slice none 0 0, .int .i64 0, .int .i64 0] 32 (0,0)) ∧ wd.heap.size ≤ s.2.2.2 ∧ (k89).R 89 w' w.heap.size (fun k => wd.heap.size ≤ k) (.slice s.2.1 h.fs.length s.2.2.1) h.fs) ?cont (fun hcont => ?_)
 case cont =>
  rintro ⟨v14,A7,c7,g3⟩ wj ⟨hpj,hbj,hxj,hgj,hrj⟩
  simp only at hxj hgj hrj
  have HPj:=Lib.hid hpj
  have HBj:=Lib.hid hbj
  have HXj:=Lib.hid hxj
  have HGj:=Lib.hid hgj
  have HRj:=Lib.hid hrj
  clear hpj hbj hxj hgj hrj
  refine norm_ (a' := ?_) ?_ ?_
  rotate_left
  ·simp only [putAll,Act.put,List.setIfInBounds_toArray,List.set_cons_zero,List.set_cons_succ]
   rfl
  refine last_ (i:=20) (N:=none) #[true,true,true,true,true,true,true,true,true,true,true,true,true,true,true,true,true,true,true,true,true] rfl rfl (by kernel_rfl) (by decide) (fun K hK => ?_)
  refine st_blk (by rfl) rfl rfl (g:=g3) (j:=0) (cs := #[.int .i64 0, .int .i64 0, .int .i64 0, .int .i64 0, .slice none 0 0, .slice none 0 0, .slice none 0 0, .slice none 0 0, .int .i64 0, .int .i64 0]) (cs':=⟨hostC { h with bs := [],fr := [],ev := [] } (.slice A7 h.fs.length c7) (.slice none 0 0) (.slice none 0 0) (.slice none 0 0)⟩) (T:=32) (u := .agg ⟨hostC { h with bs := [],fr := [],ev := [] } (.slice A7 h.fs.length c7) (.slice none 0 0) (.slice none 0 0) (.slice none 0 0)⟩) (seg:=hostC { h with bs := [],fr := [],ev := [] } (.slice A7 h.fs.length c7) (.slice none 0 0) (.slice none 0 0) (.slice none 0 0)) rfl rfl HXj.out rfl (by kernel_rfl) rfl rfl rfl ?_
  intro wk hxk hTk
  have HSk : Hid (HostP w wk g3 { h with bs := [],fr := [],ev := [] } (.slice A7 h.fs.length c7) (.slice none 0 0) (.slice none 0 0) (.slice none 0 0)):=Lib.hid ⟨hTk.below (below_then HBd.out HBd.out.size HBj.out) (Nat.le_trans HBd.out.size HBj.out.size) (fun k hk => by rw [hk];exact Nat.le_trans HBd.out.size HGj.out),hxk,⟨fun _ => 0,Kd.R_mono (R_tch HRj.out HXj.out (by decide) hTk) (fun _ _ => ⟨trivial,rfl⟩),Kd.S_nil _ _ _ _ _,Kd.S_nil _ _ _ _ _,Kd.S_nil _ _ _ _ _⟩,Nat.le_trans HBd.out.size HGj.out⟩
  have HG23 : Hid (g2 ≠ g3):=Lib.hid (fun e => by have h1:=blk_lt HXd.out;have h2:=HGj.out;omega)
  have HXk:=Lib.hid (hTk.blk (blk_below HXd.out HBj.out) HG23.out)
  clear hxk hTk
  refine hK.out _ _ ?_
  clear hK K
  refine done_ (by kernel_rfl) ?_
  have hp5 : wk.cell? ⟨p,5,none⟩ = some (.slice Ab h.bs.length cb):=blk_cell (blk_below HP.out HSk.out.bel) 5
  go_wp2_with (fail)
  clear hp5
  go_loopw [34] (fun v34 wr => ∃ (i : Nat) (vb : Value) (tt : List S87),i ≤ h.bs.length ∧ v34 = .int .i64 i ∧ Aside0 (tt = h.bs.take i) ∧ Aside0 (HostP w wr g3 { h with bs:=tt,fr := [],ev := [] } (.slice A7 h.fs.length c7) vb (.slice none 0 0) (.slice none 0 0)) ∧ Aside0 (wr.heap[g2]? = some (.cells #[.int .i64 0, .int .i64 0, .int .i64 0, .int .i64 0, .slice none 0 0, .slice none 0 0, .slice none 0 0, .slice none 0 0, .int .i64 0, .int .i64 0] 32 (0,0)))) (fun v34 _ => h.bs.length - (intOf v34).toNat)
  case atStart => exact ⟨0,_, [],Nat.zero_le _,rfl,⟨rfl⟩,⟨HSk.out⟩,⟨HXk.out⟩⟩
  case round =>
   clear HSk HXk
   obtain ⟨i,vb,tt,hi,rfl,HTT,HSR,HXR⟩:=hrel
   by_cases hlt : i < h.bs.length
   ·have b2 : decide ((i : Int) < (h.bs.length : Int)) = true:=decide_eq_true (by omega)
    have p5 : (0 ≤ (i : Int)) = True:=eq_true (by omega)
    have q5 : ((i : Int) < (h.bs.length : Int)) = True:=eq_true (by omega)
    have qn : (i < h.bs.length) = True:=eq_true hlt
    have hn : wrap64 ((i : Int) + 1) = (i : Int) + 1:=by have:=SM.out.l2;unfold wrap64;omega
    have HLT:=Lib.hid hlt
    have HI:=Lib.hid hi
    have HN:=Lib.hid hn
    obtain ⟨ad,A8,c8,ea,k0,k1,k2,k3,k4,k5,k6,k7,l8,g8⟩:=at_T87 (Kd.C_below RB.out HSR.out.bel) (i : Int) (by omega) (by omega)
    subst ea
    clear hlt hi
    rw [Int.toNat_natCast] at k0 k1 k2 k3 k4 k5 k6 k7
    obtain ⟨b,hb⟩ : ∃ b,b = rd_T87 h.bs (i : Int):=⟨_,rfl⟩
    rw [← hb] at k0 k1 k2 k3 k4 k5 k6 k7 l8 g8
    have HBE:=Lib.hid hb
    have L8:=Lib.hid l8
    have G8:=Lib.hid g8
    have HD8 : Hid (b.f3.f4.length ≤ 10000000):=Lib.hid (by rw [hb];exact SM.out.d2 _ (List.mem_of_getElem? (getD_at h.bs i z87 HLT.out)))
    clear hb l8 g8
    go_upto_region 5 with (first | ((with_reducible refine gate_dst (N:=5) rfl ?_);refine box_event ?hg (N:=5) ?hd (cs := #[.int .i64 0, .int .i64 0, .int .i64 0, .bool false, .int .u32 0, .bool false, .int .i64 0, .slice none 0 0]) (t:=87) ?hr ?_;(case hd => rfl);(case hg => rfl);(case hr => first | (go_simp;done) | (go_simp;rfl));intro gb hgb wb hbox hbb;have HGB:=Lib.hid hgb;have HBX:=Lib.hid hbox;have HBB:=Lib.hid hbb;clear hgb hbox hbb) | ((with_reducible refine gate_store (t:=87) (p:=5) rfl ?_);refine store_box rfl rfl rfl (g:=gb) (j:=0) (cs := #[.int .i64 0, .int .i64 0, .int .i64 0, .bool false, .int .u32 0, .bool false, .int .i64 0, .slice none 0 0]) (cs' := #[.int .i64 b.f0, .int .i64 b.f1, .int .i64 b.f2, .bool b.f3.f0, .int .u32 b.f3.f1, .bool b.f3.f2, .int .i64 b.f3.f3, .slice A8 b.f3.f4.length c8]) (T:=87) (seg := [.int .i64 b.f0, .int .i64 b.f1, .int .i64 b.f2, .bool b.f3.f0, .int .u32 b.f3.f1, .bool b.f3.f2, .int .i64 b.f3.f3, .slice A8 b.f3.f4.length c8]) rfl rfl HBX.out rfl (by kernel_rfl) rfl rfl rfl ?_;intro wc hbx hT;have HBC:=Lib.hid hbx;have HTC : Hid (Below wr.heap.size wr wc):=Lib.hid (hT.below HBB.out HBB.out.size (fun k hk => by rw [hk,HGB.out];omega));clear hbx hT))
    clear k0 k1 k2 k3 k4 k5 k6 k7 HBX HBB
    have y3 : wc.cell? ⟨gb,3,none⟩ = some (.bool b.f3.f0):=blk_cell HBC.out 3
    have y4 : wc.cell? ⟨gb,4,none⟩ = some (.int .u32 b.f3.f1):=blk_cell HBC.out 4
    have y5 : wc.cell? ⟨gb,5,none⟩ = some (.bool b.f3.f2):=blk_cell HBC.out 5
    have y6 : wc.cell? ⟨gb,6,none⟩ = some (.int .i64 b.f3.f3):=blk_cell HBC.out 6
    have y7 : wc.cell? ⟨gb,7,none⟩ = some (.slice A8 b.f3.f4.length c8):=blk_cell HBC.out 7
    go_upto_region 6 with (first | (go_at_call 111;refine (copyFrame_v b.f3 A8 c8 wc (Kd.C_below G8.out HTC.out) L8.out HD8.out).mono ?_;rintro e wf ⟨A9,c9,rfl,hr9,hb9⟩;have HR9:=Lib.hid hr9;have HTF:=Lib.hid (below_then HTC.out HTC.out.size hb9);have HBF:=Lib.hid (blk_below HBC.out hb9);clear hr9 hb9) | ((with_reducible refine gate_store (t:=45) (p:=41) rfl ?_);refine store_box rfl rfl rfl (g:=gb) (j:=3) (cs := #[.int .i64 b.f0, .int .i64 b.f1, .int .i64 b.f2, .bool b.f3.f0, .int .u32 b.f3.f1, .bool b.f3.f2, .int .i64 b.f3.f3, .slice A8 b.f3.f4.length c8]) (cs' := #[.int .i64 b.f0, .int .i64 b.f1, .int .i64 b.f2, .bool b.f3.f0, .int .u32 b.f3.f1, .bool b.f3.f2, .int .i64 b.f3.f3, .slice A9 b.f3.f4.length c9]) (T:=87) (seg := [.bool b.f3.f0, .int .u32 b.f3.f1, .bool b.f3.f2, .int .i64 b.f3.f3, .slice A9 b.f3.f4.length c9]) rfl rfl HBF.out rfl (by kernel_rfl) rfl rfl rfl ?_;intro wg hbx hT;have HBG:=Lib.hid hbx;have HTG : Hid (Below wr.heap.size wr wg):=Lib.hid (hT.below HTF.out HTF.out.size (fun k hk => by rw [hk,HGB.out];omega));have HR10:=Lib.hid (R_tch HR9.out HBF.out (by decide) hT);clear hbx hT))
    clear y3 y4 y5 y6 y7 HR9 HBF HTF HBC
    have HMX : Hid ((k87).M wg w.heap.size (fun k => wr.heap.size ≤ k) b [.int .i64 b.f0, .int .i64 b.f1, .int .i64 b.f2, .bool b.f3.f0, .int .u32 b.f3.f1, .bool b.f3.f2, .int .i64 b.f3.f3, .slice A9 b.f3.f4.length c9]):=Lib.hid (k87_mkM wg w.heap.size _ b (Kd.R_lower (Kd.R_mono HR10.out (fun k hk => Nat.le_trans HTC.out.size hk)) (Nat.le_trans HSR.out.bel.size HTC.out.size)))
    clear HR10
    obtain ⟨o,HR⟩:=HSR.out.rows
    have HRo:=Lib.hid HR
    clear HR
    obtain ⟨Av,cv,rfl⟩:=Kd.S_slice HRo.out.b
    have y0 : wg.cell? ⟨gb,0,none⟩ = some (.int .i64 b.f0):=blk_cell HBG.out 0
    have y1 : wg.cell? ⟨gb,1,none⟩ = some (.int .i64 b.f1):=blk_cell HBG.out 1
    have y2 : wg.cell? ⟨gb,2,none⟩ = some (.int .i64 b.f2):=blk_cell HBG.out 2
    have y3 : wg.cell? ⟨gb,3,none⟩ = some (.bool b.f3.f0):=blk_cell HBG.out 3
    have y4 : wg.cell? ⟨gb,4,none⟩ = some (.int .u32 b.f3.f1):=blk_cell HBG.out 4
    have y5 : wg.cell? ⟨gb,5,none⟩ = some (.bool b.f3.f2):=blk_cell HBG.out 5
    have y6 : wg.cell? ⟨gb,6,none⟩ = some (.int .i64 b.f3.f3):=blk_cell HBG.out 6
    have y7 : wg.cell? ⟨gb,7,none⟩ = some (.slice A9 b.f3.f4.length c9):=blk_cell HBG.out 7
    have z0 : wg.cell? ⟨g3,5,none⟩ = some (.slice Av tt.length cv):=blk_cell (HSR.out.below HTG.out).blk 5
    go_upto_region 7 with (first | ((with_reducible refine gate_builtin (b := .append) (xs := #[.tmp 43, .tmp 45]) rfl ?_);at_builtin;refine Kd.S_append k87 (w0:=w) w.heap.size rfl (.tmp 43) (.tmp 45) 28 87 (.agg #[.int .i64 0, .int .i64 0, .int .i64 0, .bool false, .int .u32 0, .bool false, .int .i64 0, .slice none 0 0]) 72 rfl Try.underlying28 info87 rfl (by decide) (by omega) (.slice Av tt.length cv) tt b [.int .i64 b.f0, .int .i64 b.f1, .int .i64 b.f2, .bool b.f3.f0, .int .u32 b.f3.f1, .bool b.f3.f2, .int .i64 b.f3.f3, .slice A9 b.f3.f4.length c9] (fun k => (o k = 1 ∧ k < wr.heap.size) ∨ wr.heap.size ≤ k) (fun k => wr.heap.size ≤ k) rfl rfl ?aP ?aK ?aF ?aO ?aB ?aS ?aL ?_;(case aP => exact HMX.out);(case aK => exact fun k hk => ⟨.inr hk,fun e => by have:=Kd.S_lt HRo.out.b k e.symm;omega⟩);(case aF => exact fun k hk => .inr (Nat.le_trans HTG.out.size hk));(case aO => exact Kd.S_mono (Kd.S_below (S_lt_own HRo.out.b) HTG.out) (fun k hk => ⟨.inl ⟨hk.1.2,hk.2⟩,by have:=hk.2;omega⟩));(case aB => exact (HSR.out.below HTG.out).bel);(case aS => exact (HSR.out.below HTG.out).bel.size);(case aL => have h1:=SM.out.l2;have h2:=HLT.out;have h3:=congrArg List.length HTT.out;rw [List.length_take] at h3;omega);intro v1 w2 hS hb hg hat;obtain ⟨bk,hbk⟩ : ∃ bk,bk = tt ++ [b]:=⟨_,rfl⟩;rw [← hbk] at hS;have HBK0:=Lib.hid hbk;clear hbk;have hnp : some g3 ≠ (Value.slice Av tt.length cv).ownBlock:=Kd.S_ne HRo.out.b HSR.out.blk (by decide);have HP2:=Lib.hid (blk_grown (g:=g3) (HSR.out.below HTG.out).blk hg hnp);have HS2:=Lib.hid hS;have HG9:=Lib.hid hg;have hng : Hid (some gb ≠ (Value.slice Av tt.length cv).ownBlock):=Lib.hid (fun e => by have h1:=Kd.S_lt HRo.out.b gb e.symm;have h2:=HGB.out;omega);have HT2:=Lib.hid ((Tch.refl wg (fun k => k = g3 ∨ some k = (Value.slice Av tt.length cv).ownBlock)).grown hg (fun k e => .inl (.inr e.symm)));clear hb hg hat hnp;obtain ⟨A1,c1,rfl⟩:=Kd.S_slice hS;clear hS) | ((with_reducible refine gate_store (t:=28) (p:=47) rfl ?_);refine store_box rfl rfl rfl (g:=g3) (j:=5) (cs:=⟨hostC { h with bs:=tt,fr := [],ev := [] } (.slice A7 h.fs.length c7) (.slice Av tt.length cv) (.slice none 0 0) (.slice none 0 0)⟩) (cs':=⟨hostC { h with bs:=bk,fr := [],ev := [] } (.slice A7 h.fs.length c7) (.slice A1 bk.length c1) (.slice none 0 0) (.slice none 0 0)⟩) (T:=32) (u:=(.slice A1 bk.length c1)) (seg := [(.slice A1 bk.length c1)]) rfl rfl HP2.out rfl (by kernel_rfl) rfl rfl rfl ?_;intro w3 hx3 hT3;have HS3 : Hid (HostP w w3 g3 { h with bs:=bk,fr := [],ev := [] } (.slice A7 h.fs.length c7) (.slice A1 bk.length c1) (.slice none 0 0) (.slice none 0 0)):=Lib.hid (HSR.out.newB HRo.out HTG.out (HT2.out.trans (hT3.mono (fun k hk => .inl hk))) hx3 rfl (S_tch HS2.out HP2.out (by decide) hT3));have HX3:=Lib.hid ((HT2.out.trans (hT3.mono (fun k hk => .inl hk))).blk (blk_below HXR.out HTG.out) (by rintro (e | e);exact HG23.out e;exact Kd.S_ne HRo.out.b HXR.out (by decide) e));clear hx3 hT3))
    clear y0 y1 y2 y3 y4 y5 y6 y7 z0 HS2 HT2 HP2 HBG HMX HTG HG9 hng
    have HBK : Hid (bk = h.bs.take (i + 1)):=Lib.hid (by rw [HBK0.out,HTT.out,HBE.out,List.take_add_one,getD_at h.bs i z87 HLT.out];rfl)
    go_wp2_with (fail)
    go_roundw
    case rel => exact ⟨i + 1,_,bk,HLT.out,by rw [HN.out];rfl,⟨HBK.out⟩,⟨HS3.out⟩,⟨HX3.out⟩⟩
    case measure => rw [HN.out];have:=HLT.out;simp [intOf];omega
   ·have hii : i = h.bs.length:=by omega
    have HTTT : Hid (tt = h.bs):=Lib.hid (by rw [HTT.out,hii,List.take_length])
    have b2 : decide ((i : Int) < (h.bs.length : Int)) = false:=decide_eq_false (by omega)
    have qn : (i < h.bs.length) = False:=eq_false hlt
    have HSk : Hid (HostP w wr g3 { h with fr := [],ev := [] } (.slice A7 h.fs.length c7) vb (.slice none 0 0) (.slice none 0 0)):=Lib.hid (by have e:=HSR.out;rw [HTTT.out] at e;exact e)
    have HXk:=Lib.hid HXR.out
    clear hlt hi HSR HXR hii HTT HTTT
    have hp8 : wr.cell? ⟨p,8,none⟩ = some (.slice Aq h.fr.length cq):=blk_cell (blk_below HP.out HSk.out.bel) 8
    go_wp2_with (fail)
    clear hp8 b2 qn
    go_loopw [55] (fun v55 wr => ∃ (i : Nat) (vq : Value) (tt : List S45),i ≤ h.fr.length ∧ v55 = .int .i64 i ∧ Aside0 (tt = h.fr.take i) ∧ Aside0 (HostP w wr g3 { h with fr:=tt,ev := [] } (.slice A7 h.fs.length c7) vb vq (.slice none 0 0)) ∧ Aside0 (wr.heap[g2]? = some (.cells #[.int .i64 0, .int .i64 0, .int .i64 0, .int .i64 0, .slice none 0 0, .slice none 0 0, .slice none 0 0, .slice none 0 0, .int .i64 0, .int .i64 0] 32 (0,0)))) (fun v55 _ => h.fr.length - (intOf v55).toNat)
    case atStart => exact ⟨0,_, [],Nat.zero_le _,rfl,⟨rfl⟩,⟨HSk.out⟩,⟨HXk.out⟩⟩
    case round =>
     clear HSk HXk
     obtain ⟨i,vq,tt,hi,rfl,HTT,HSR,HXR⟩:=hrel
     by_cases hlt : i < h.fr.length
     ·have b2 : decide ((i : Int) < (h.fr.length : Int)) = true:=decide_eq_true (by omega)
      have p5 : (0 ≤ (i : Int)) = True:=eq_true (by omega)
      have q5 : ((i : Int) < (h.fr.length : Int)) = True:=eq_true (by omega)
      have qn : (i < h.fr.length) = True:=eq_true hlt
      have hn : wrap64 ((i : Int) + 1) = (i : Int) + 1:=by have:=SM.out.l3;unfold wrap64;omega
      have HLT:=Lib.hid hlt
      have HI:=Lib.hid hi
      have HN:=Lib.hid hn
      obtain ⟨ad,A8,c8,ea,k0,k1,k2,k3,k4,l8,g8⟩:=at_T45 (Kd.C_below RQ.out HSR.out.bel) (i : Int) (by omega) (by omega)
      subst ea
      clear hlt hi
      rw [Int.toNat_natCast] at k0 k1 k2 k3 k4
      obtain ⟨b,hb⟩ : ∃ b,b = rd_T45 h.fr (i : Int):=⟨_,rfl⟩
      rw [← hb] at k0 k1 k2 k3 k4 l8 g8
      have HBE:=Lib.hid hb
      have L8:=Lib.hid l8
      have G8:=Lib.hid g8
      have HD8 : Hid (b.f4.length ≤ 10000000):=Lib.hid (by rw [hb];exact SM.out.d3 _ (List.mem_of_getElem? (getD_at h.fr i z45 HLT.out)))
      clear hb l8 g8
      go_upto_region 11 with (first | ((with_reducible refine gate_dst (N:=7) rfl ?_);refine box_event ?hg (N:=7) ?hd (cs := #[.bool false, .int .u32 0, .bool false, .int .i64 0, .slice none 0 0]) (t:=45) ?hr ?_;(case hd => rfl);(case hg => rfl);(case hr => first | (go_simp;done) | (go_simp;rfl));intro gb hgb wb hbox hbb;have HGB:=Lib.hid hgb;have HBX:=Lib.hid hbox;have HBB:=Lib.hid hbb;clear hgb hbox hbb) | ((with_reducible refine gate_store (t:=45) (p:=7) rfl ?_);refine store_box rfl rfl rfl (g:=gb) (j:=0) (cs := #[.bool false, .int .u32 0, .bool false, .int .i64 0, .slice none 0 0]) (cs' := #[.bool b.f0, .int .u32 b.f1, .bool b.f2, .int .i64 b.f3, .slice A8 b.f4.length c8]) (T:=45) (seg := [.bool b.f0, .int .u32 b.f1, .bool b.f2, .int .i64 b.f3, .slice A8 b.f4.length c8]) rfl rfl HBX.out rfl (by kernel_rfl) rfl rfl rfl ?_;intro wc hbx hT;have HBC:=Lib.hid hbx;have HTC : Hid (Below wr.heap.size wr wc):=Lib.hid (hT.below HBB.out HBB.out.size (fun k hk => by rw [hk,HGB.out];omega));clear hbx hT))
      clear k0 k1 k2 k3 k4 HBX HBB
      obtain ⟨o,HR⟩:=HSR.out.rows
      have HRo:=Lib.hid HR
      clear HR
      obtain ⟨Av,cv,rfl⟩:=Kd.S_slice HRo.out.q
      obtain ⟨we,hwe⟩ : ∃ we,we = wc.drew:=⟨_,rfl⟩
      have HTE : Hid (Below wr.heap.size wr we):=by rw [hwe];exact Lib.hid (below_drew HTC.out)
      have HBE2 : Hid (we.heap[gb]? = some (.cells ⟨[.bool b.f0, .int .u32 b.f1, .bool b.f2, .int .i64 b.f3, .slice A8 b.f4.length c8]⟩ 45 (0,0))):=by rw [hwe];exact Lib.hid (blk_drew HBC.out)
      clear HBC HTC
      refine start_ (n:=8) (S:=fun w' : World => w'.heap[g3]? = some (.cells ⟨hostC { h with fr:=tt,ev := [] } (.slice A7 h.fs.length c7) vb (.slice Av tt.length cv) (.slice none 0 0)⟩ 32 (0,0)) ∧ w'.heap[gb]? = some (.cells ⟨[.bool b.f0, .int .u32 b.f1, .bool b.f2, .int .i64 b.f3, .slice A8 b.f4.length c8]⟩ 45 (0,0))) (ds := [7]) #[false,false,false,false,false,false,false,false] (by kernel_rfl) rfl rfl (hwe ▸ ⟨(HSR.out.below HTE.out).blk,HBE2.out⟩) (fun hHeld => ?_)
      rw [← hwe] at hHeld ⊢
      clear hwe
      refine pure_ (i:=0) (N:=some 59) (v := ?_) (a' := ?_) #[true,false,false,false,false,false,false,false] rfl rfl (by kernel_rfl) (fun _ _ _ h => h) (Or.inl ⟨by rfl, ?_⟩) ?_ ?_
      rotate_left
      ·intro w'
       go_simp
       with_reducible rfl
      rotate_left
      ·simp only [Act.put,List.setIfInBounds_toArray,List.set_cons_zero,List.set_cons_succ,i64_w,i32_w]
       rfl
      refine take_ (i:=1) (N:=some 60) (v := ?_) (a' := ?_) #[true,true,false,false,false,false,false,false] rfl rfl (by kernel_rfl) (fun _ _ _ h => h) (Or.inl ⟨by rfl, ?_⟩) hHeld ?_ ?_
      rotate_left
      ·rintro w' ⟨s0,s1⟩
       have e0 : w'.cell? ⟨g3,6,none⟩ = some (.slice Av tt.length cv):=blk_cell s0 6
       go_simp
       with_reducible rfl
      rotate_left
      ·simp only [Act.put,List.setIfInBounds_toArray,List.set_cons_zero,List.set_cons_succ,i64_w,i32_w]
       rfl
      refine take_ (i:=2) (N:=some 61) (v := ?_) (a' := ?_) #[true,true,true,false,false,false,false,false] rfl rfl (by kernel_rfl) (fun _ _ _ h => h) (Or.inl ⟨by rfl, ?_⟩) hHeld ?_ ?_
      rotate_left
      ·rintro w' ⟨s0,s1⟩
       have e0 : w'.cell? ⟨gb,0,none⟩ = some (.bool b.f0):=blk_cell s1 0
       have e1 : w'.cell? ⟨gb,1,none⟩ = some (.int .u32 b.f1):=blk_cell s1 1
       have e2 : w'.cell? ⟨gb,2,none⟩ = some (.bool b.f2):=blk_cell s1 2
       have e3 : w'.cell? ⟨gb,3,none⟩ = some (.int .i64 b.f3):=blk_cell s1 3
       have e4 : w'.cell? ⟨gb,4,none⟩ = some (.slice A8 b.f4.length c8):=blk_cell s1 4
       go_simp
       with_reducible rfl
      rotate_left
      ·simp only [Act.put,List.setIfInBounds_toArray,List.set_cons_zero,List.set_cons_succ,i64_w,i32_w]
       rfl
      refine one_ (i:=3) (N:=some 62) #[true,true,true,true,false,false,false,false] rfl rfl (by kernel_rfl) (by decide) (fun K hK => ?_)
      refine goes_ Try.func111 (by kernel_rfl) rfl #[.agg #[.bool b.f0, .int .u32 b.f1, .bool b.f2, .int .i64 b.f3, .slice A8 b.f4.length c8]] (by rfl) rfl rfl (by (try simp only [List.map_toArray,List.map_cons,List.map_nil]);first | done | rfl) ?_
      refine (copyFrame_v b A8 c8 we (Kd.C_below G8.out HTE.out) L8.out HD8.out).mono ?_
      rintro e wf ⟨A9,c9,rfl,hr9,hb9⟩
      refine ⟨_,rfl, ?_⟩
      have HR9:=Lib.hid hr9
      have HTF:=Lib.hid (below_then HTE.out HTE.out.size hb9)
      have HBF:=Lib.hid (blk_below HBE2.out hb9)
      clear hr9 hb9
      refine hK.out _ _ ⟨(HSR.out.below HTF.out).blk,HBF.out⟩ (fun hHeld => ?_)
      clear hK K
      refine norm_ (a' := ?_) ?_ ?_
      rotate_left
      ·show Act.put _ (some 62) _ = _
       simp only [Act.put,List.setIfInBounds_toArray,List.set_cons_zero,List.set_cons_succ,i64_w,i32_w]
       rfl
      refine one_ (i:=4) (N:=some 63) #[true,true,true,true,true,false,false,false] rfl rfl (by kernel_rfl) (by decide) (fun K hK => ?_)
      refine value_ (w1 := ?_) (v := ?_) (by rfl) rfl ?_ ?_
      rotate_left 2
      ·go_simp
       constructor
       ·rfl
       ·rfl
      refine hK.out _ _ ⟨blk_alloc (HSR.out.below HTF.out).blk _,blk_alloc HBF.out _⟩ (fun hHeld => ?_)
      clear hK K
      refine norm_ (a' := ?_) ?_ ?_
      rotate_left
      ·show Act.put _ (some 63) _ = _
       simp only [Act.put,List.setIfInBounds_toArray,List.set_cons_zero,List.set_cons_succ,i64_w,i32_w]
       rfl
      refine one_ (i:=5) (N:=some 64) #[true,true,true,true,true,true,false,false] rfl rfl (by kernel_rfl) (by decide) (fun K hK => ?_)
      refine Kd.S_append_step k45 (w0:=w) w.heap.size (by rfl) (.tmp 60) (.tmp 63) 29 45 (.agg #[.bool false, .int .u32 0, .bool false, .int .i64 0, .slice none 0 0]) 48 rfl Try.underlying29 info45 rfl (by decide) (by omega) (.slice Av tt.length cv) tt b [.bool b.f0, .int .u32 b.f1, .bool b.f2, .int .i64 b.f3, .slice A9 b.f4.length c9] (fun k => (o k = 2 ∧ k < wr.heap.size) ∨ wr.heap.size ≤ k) (fun k => wr.heap.size ≤ k) rfl rfl ?aP ?aK ?aF ?aO ?aB ?aS ?aL ?_
      (case aP => exact (k45_mkM wf w.heap.size _ b (Kd.R_lower (Kd.R_mono HR9.out (fun k hk => Nat.le_trans HTE.out.size hk)) (Nat.le_trans HSR.out.bel.size HTE.out.size))))
      (case aK => exact fun k hk => ⟨.inr hk,fun e => by have:=Kd.S_lt HRo.out.q k e.symm;omega⟩)
      (case aF => exact fun k hk => .inr (Nat.le_trans HTF.out.size hk))
      (case aO => exact Kd.S_mono (Kd.S_below (S_lt_own HRo.out.q) HTF.out) (fun k hk => ⟨.inl ⟨hk.1.2,hk.2⟩,by have:=hk.2;omega⟩))
      (case aB => exact (HSR.out.below HTF.out).bel)
      (case aS => exact (HSR.out.below HTF.out).bel.size)
      (case aL => have h1:=SM.out.l3;have h2:=HLT.out;have h3:=congrArg List.length HTT.out;rw [List.length_take] at h3;omega)
      intro v1 w2 hS hb hg hat
      obtain ⟨bk,hbk⟩ : ∃ bk,bk = tt ++ [b]:=⟨_,rfl⟩
      rw [← hbk] at hS
      have HBK0:=Lib.hid hbk
      clear hbk
      have hnp : some g3 ≠ (Value.slice Av tt.length cv).ownBlock:=Kd.S_ne HRo.out.q HSR.out.blk (by decide)
      have HP2:=Lib.hid (blk_grown (g:=g3) (HSR.out.below HTF.out).blk hg hnp)
      have HS2:=Lib.hid hS
      have HG9:=Lib.hid hg
      have hng : Hid (some gb ≠ (Value.slice Av tt.length cv).ownBlock):=Lib.hid (fun e => by have h1:=Kd.S_lt HRo.out.q gb e.symm;have h2:=HGB.out;omega)
      have HT2:=Lib.hid ((Tch.refl wf (fun k => k = g3 ∨ some k = (Value.slice Av tt.length cv).ownBlock)).grown hg (fun k e => .inl (.inr e.symm)))
      clear hb hg hat hnp
      obtain ⟨A1,c1,rfl⟩:=Kd.S_slice hS
      clear hS
      refine hK.out _ _ ⟨HP2.out,blk_grown HBF.out (HG9.out) hng.out⟩ (fun hHeld => ?_)
      clear hK K
      refine norm_ (a' := ?_) ?_ ?_
      rotate_left
      ·show Act.put _ (some 64) _ = _
       simp only [Act.put,List.setIfInBounds_toArray,List.set_cons_zero,List.set_cons_succ,i64_w,i32_w]
       rfl
      refine pure_ (i:=6) (N:=some 65) (v := ?_) (a' := ?_) #[true,true,true,true,true,true,true,false] rfl rfl (by kernel_rfl) (fun _ _ _ h => h) (Or.inl ⟨by rfl, ?_⟩) ?_ ?_
      rotate_left
      ·intro w'
       go_simp
       with_reducible rfl
      rotate_left
      ·simp only [Act.put,List.setIfInBounds_toArray,List.set_cons_zero,List.set_cons_succ,i64_w,i32_w]
       rfl
      refine last_ (i:=7) (N:=none) #[true,true,true,true,true,true,true,true] rfl rfl (by kernel_rfl) (by decide) (fun K hK => ?_)
      refine st_one (by rfl) rfl rfl (g:=g3) (j:=6) (cs:=⟨hostC { h with fr:=tt,ev := [] } (.slice A7 h.fs.length c7) vb (.slice Av tt.length cv) (.slice none 0 0)⟩) (T:=32) (u:=(.slice A1 bk.length c1)) (u0:=(.slice Av tt.length cv)) rfl rfl HP2.out rfl (by kernel_rfl) rfl rfl ?_
      intro w3 hx3 hT3
      have HS3 : Hid (HostP w w3 g3 { h with fr:=bk,ev := [] } (.slice A7 h.fs.length c7) vb (.slice A1 bk.length c1) (.slice none 0 0)):=Lib.hid (HSR.out.newQ HRo.out HTF.out (HT2.out.trans (hT3.mono (fun k hk => .inl hk))) hx3 rfl (S_tch HS2.out HP2.out (by decide) hT3))
      have HX3:=Lib.hid ((HT2.out.trans (hT3.mono (fun k hk => .inl hk))).blk (blk_below HXR.out HTF.out) (by rintro (e | e);exact HG23.out e;exact Kd.S_ne HRo.out.q HXR.out (by decide) e))
      clear hx3 hT3
      refine hK.out _ _ ?_
      clear hK K
      refine done_ (by kernel_rfl) ?_
      clear HS2 HT2 HP2 HTE HTF HR9 HBF HBE2 HG9 hng
      have HBK : Hid (bk = h.fr.take (i + 1)):=Lib.hid (by rw [HBK0.out,HTT.out,HBE.out,List.take_add_one,getD_at h.fr i z45 HLT.out];rfl)
      go_wp2_with (fail)
      go_roundw
      case rel => exact ⟨i + 1,_,bk,HLT.out,by rw [HN.out];rfl,⟨HBK.out⟩,⟨HS3.out⟩,⟨HX3.out⟩⟩
      case measure => rw [HN.out];have:=HLT.out;simp [intOf];omega
     ·have hii : i = h.fr.length:=by omega
      have HTTT : Hid (tt = h.fr):=Lib.hid (by rw [HTT.out,hii,List.take_length])
      have b2 : decide ((i : Int) < (h.fr.length : Int)) = false:=decide_eq_false (by omega)
      have qn : (i < h.fr.length) = False:=eq_false hlt
      have HSk : Hid (HostP w wr g3 { h with ev := [] } (.slice A7 h.fs.length c7) vb vq (.slice none 0 0)):=Lib.hid (by have e:=HSR.out;rw [HTTT.out] at e;exact e)
      have HXk:=Lib.hid HXR.out
      clear hlt hi HSR HXR hii HTT HTTT
      have hp10 : wr.cell? ⟨p,10,none⟩ = some (.slice Ae h.ev.length ce):=blk_cell (blk_below HP.out HSk.out.bel) 10
      go_wp2_with (fail)
      clear hp10 b2 qn
      go_loopw [73] (fun v73 wr => ∃ (i : Nat) (ve : Value) (tt : List S56),i ≤ h.ev.length ∧ v73 = .int .i64 i ∧ Aside0 (tt = h.ev.take i) ∧ Aside0 (HostP w wr g3 { h with ev:=tt } (.slice A7 h.fs.length c7) vb vq ve) ∧ Aside0 (wr.heap[g2]? = some (.cells #[.int .i64 0, .int .i64 0, .int .i64 0, .int .i64 0, .slice none 0 0, .slice none 0 0, .slice none 0 0, .slice none 0 0, .int .i64 0, .int .i64 0] 32 (0,0)))) (fun v73 _ => h.ev.length - (intOf v73).toNat)
      case atStart => exact ⟨0,_, [],Nat.zero_le _,rfl,⟨rfl⟩,⟨HSk.out⟩,⟨HXk.out⟩⟩
      case round =>
       clear HSk HXk
       obtain ⟨i,ve,tt,hi,rfl,HTT,HSR,HXR⟩:=hrel
       by_cases hlt : i < h.ev.length
       ·have b2 : decide ((i : Int) < (h.ev.length : Int)) = true:=decide_eq_true (by omega)
        have p5 : (0 ≤ (i : Int)) = True:=eq_true (by omega)
        have q5 : ((i : Int) < (h.ev.length : Int)) = True:=eq_true (by omega)
        have qn : (i < h.ev.length) = True:=eq_true hlt
        have hn : wrap64 ((i : Int) + 1) = (i : Int) + 1:=by have:=SM.out.l4;unfold wrap64;omega
        have HLT:=Lib.hid hlt
        have HI:=Lib.hid hi
        have HN:=Lib.hid hn
        obtain ⟨ad,A8,c8,ea,k0,k1,k2,k3,k4,k5,k6,k7,l8,g8⟩:=at_T56 (Kd.C_below RE.out HSR.out.bel) (i : Int) (by omega) (by omega)
        subst ea
        clear hlt hi
        rw [Int.toNat_natCast] at k0 k1 k2 k3 k4 k5 k6 k7
        obtain ⟨b,hb⟩ : ∃ b,b = rd_T56 h.ev (i : Int):=⟨_,rfl⟩
        rw [← hb] at k0 k1 k2 k3 k4 k5 k6 k7 l8 g8
        have HBE:=Lib.hid hb
        have L8:=Lib.hid l8
        have G8:=Lib.hid g8
        have HD8 : Hid (b.f3.f4.length ≤ 10000000):=Lib.hid (by rw [hb];exact SM.out.d4 _ (List.mem_of_getElem? (getD_at h.ev i z56 HLT.out)))
        clear hb l8 g8
        go_upto_region 16 with (first | ((with_reducible refine gate_dst (N:=9) rfl ?_);refine box_event ?hg (N:=9) ?hd (cs := #[.int .i64 0, .int .i64 0, .int .i64 0, .bool false, .int .u32 0, .bool false, .int .i64 0, .slice none 0 0]) (t:=56) ?hr ?_;(case hd => rfl);(case hg => rfl);(case hr => first | (go_simp;done) | (go_simp;rfl));intro gb hgb wb hbox hbb;have HGB:=Lib.hid hgb;have HBX:=Lib.hid hbox;have HBB:=Lib.hid hbb;clear hgb hbox hbb) | ((with_reducible refine gate_store (t:=56) (p:=9) rfl ?_);refine store_box rfl rfl rfl (g:=gb) (j:=0) (cs := #[.int .i64 0, .int .i64 0, .int .i64 0, .bool false, .int .u32 0, .bool false, .int .i64 0, .slice none 0 0]) (cs' := #[.int .i64 b.f0, .int .i64 b.f1, .int .i64 b.f2, .bool b.f3.f0, .int .u32 b.f3.f1, .bool b.f3.f2, .int .i64 b.f3.f3, .slice A8 b.f3.f4.length c8]) (T:=56) (seg := [.int .i64 b.f0, .int .i64 b.f1, .int .i64 b.f2, .bool b.f3.f0, .int .u32 b.f3.f1, .bool b.f3.f2, .int .i64 b.f3.f3, .slice A8 b.f3.f4.length c8]) rfl rfl HBX.out rfl (by kernel_rfl) rfl rfl rfl ?_;intro wc hbx hT;have HBC:=Lib.hid hbx;have HTC : Hid (Below wr.heap.size wr wc):=Lib.hid (hT.below HBB.out HBB.out.size (fun k hk => by rw [hk,HGB.out];omega));clear hbx hT))
        clear k0 k1 k2 k3 k4 k5 k6 k7 HBX HBB
        have y3 : wc.cell? ⟨gb,3,none⟩ = some (.bool b.f3.f0):=blk_cell HBC.out 3
        have y4 : wc.cell? ⟨gb,4,none⟩ = some (.int .u32 b.f3.f1):=blk_cell HBC.out 4
        have y5 : wc.cell? ⟨gb,5,none⟩ = some (.bool b.f3.f2):=blk_cell HBC.out 5
        have y6 : wc.cell? ⟨gb,6,none⟩ = some (.int .i64 b.f3.f3):=blk_cell HBC.out 6
        have y7 : wc.cell? ⟨gb,7,none⟩ = some (.slice A8 b.f3.f4.length c8):=blk_cell HBC.out 7
        go_upto_region 17 with (first | (go_at_call 111;refine (copyFrame_v b.f3 A8 c8 wc (Kd.C_below G8.out HTC.out) L8.out HD8.out).mono ?_;rintro e wf ⟨A9,c9,rfl,hr9,hb9⟩;have HR9:=Lib.hid hr9;have HTF:=Lib.hid (below_then HTC.out HTC.out.size hb9);have HBF:=Lib.hid (blk_below HBC.out hb9);clear hr9 hb9) | ((with_reducible refine gate_store (t:=45) (p:=80) rfl ?_);refine store_box rfl rfl rfl (g:=gb) (j:=3) (cs := #[.int .i64 b.f0, .int .i64 b.f1, .int .i64 b.f2, .bool b.f3.f0, .int .u32 b.f3.f1, .bool b.f3.f2, .int .i64 b.f3.f3, .slice A8 b.f3.f4.length c8]) (cs' := #[.int .i64 b.f0, .int .i64 b.f1, .int .i64 b.f2, .bool b.f3.f0, .int .u32 b.f3.f1, .bool b.f3.f2, .int .i64 b.f3.f3, .slice A9 b.f3.f4.length c9]) (T:=56) (seg := [.bool b.f3.f0, .int .u32 b.f3.f1, .bool b.f3.f2, .int .i64 b.f3.f3, .slice A9 b.f3.f4.length c9]) rfl rfl HBF.out rfl (by kernel_rfl) rfl rfl rfl ?_;intro wg hbx hT;have HBG:=Lib.hid hbx;have HTG : Hid (Below wr.heap.size wr wg):=Lib.hid (hT.below HTF.out HTF.out.size (fun k hk => by rw [hk,HGB.out];omega));have HR10:=Lib.hid (R_tch HR9.out HBF.out (by decide) hT);clear hbx hT))
        clear y3 y4 y5 y6 y7 HR9 HBF HTF HBC
        have HMX : Hid ((k56).M wg w.heap.size (fun k => wr.heap.size ≤ k) b [.int .i64 b.f0, .int .i64 b.f1, .int .i64 b.f2, .bool b.f3.f0, .int .u32 b.f3.f1, .bool b.f3.f2, .int .i64 b.f3.f3, .slice A9 b.f3.f4.length c9]):=Lib.hid (k56_mkM wg w.heap.size _ b (Kd.R_lower (Kd.R_mono HR10.out (fun k hk => Nat.le_trans HTC.out.size hk)) (Nat.le_trans HSR.out.bel.size HTC.out.size)))
        clear HR10
        obtain ⟨o,HR⟩:=HSR.out.rows
        have HRo:=Lib.hid HR
        clear HR
        obtain ⟨Av,cv,rfl⟩:=Kd.S_slice HRo.out.e
        have y0 : wg.cell? ⟨gb,0,none⟩ = some (.int .i64 b.f0):=blk_cell HBG.out 0
        have y1 : wg.cell? ⟨gb,1,none⟩ = some (.int .i64 b.f1):=blk_cell HBG.out 1
        have y2 : wg.cell? ⟨gb,2,none⟩ = some (.int .i64 b.f2):=blk_cell HBG.out 2
        have y3 : wg.cell? ⟨gb,3,none⟩ = some (.bool b.f3.f0):=blk_cell HBG.out 3
        have y4 : wg.cell? ⟨gb,4,none⟩ = some (.int .u32 b.f3.f1):=blk_cell HBG.out 4
        have y5 : wg.cell? ⟨gb,5,none⟩ = some (.bool b.f3.f2):=blk_cell HBG.out 5
        have y6 : wg.cell? ⟨gb,6,none⟩ = some (.int .i64 b.f3.f3):=blk_cell HBG.out 6
        have y7 : wg.cell? ⟨gb,7,none⟩ = some (.slice A9 b.f3.f4.length c9):=blk_cell HBG.out 7
        have z0 : wg.cell? ⟨g3,7,none⟩ = some (.slice Av tt.length cv):=blk_cell (HSR.out.below HTG.out).blk 7
        go_upto_region 18 with (first | ((with_reducible refine gate_builtin (b := .append) (xs := #[.tmp 82, .tmp 84]) rfl ?_);at_builtin;refine Kd.S_append k56 (w0:=w) w.heap.size rfl (.tmp 82) (.tmp 84) 30 56 (.agg #[.int .i64 0, .int .i64 0, .int .i64 0, .bool false, .int .u32 0, .bool false, .int .i64 0, .slice none 0 0]) 72 rfl Try.underlying30 info56 rfl (by decide) (by omega) (.slice Av tt.length cv) tt b [.int .i64 b.f0, .int .i64 b.f1, .int .i64 b.f2, .bool b.f3.f0, .int .u32 b.f3.f1, .bool b.f3.f2, .int .i64 b.f3.f3, .slice A9 b.f3.f4.length c9] (fun k => (o k = 3 ∧ k < wr.heap.size) ∨ wr.heap.size ≤ k) (fun k => wr.heap.size ≤ k) rfl rfl ?aP ?aK ?aF ?aO ?aB ?aS ?aL ?_;(case aP => exact HMX.out);(case aK => exact fun k hk => ⟨.inr hk,fun e => by have:=Kd.S_lt HRo.out.e k e.symm;omega⟩);(case aF => exact fun k hk => .inr (Nat.le_trans HTG.out.size hk));(case aO => exact Kd.S_mono (Kd.S_below (S_lt_own HRo.out.e) HTG.out) (fun k hk => ⟨.inl ⟨hk.1.2,hk.2⟩,by have:=hk.2;omega⟩));(case aB => exact (HSR.out.below HTG.out).bel);(case aS => exact (HSR.out.below HTG.out).bel.size);(case aL => have h1:=SM.out.l4;have h2:=HLT.out;have h3:=congrArg List.length HTT.out;rw [List.length_take] at h3;omega);intro v1 w2 hS hb hg hat;obtain ⟨bk,hbk⟩ : ∃ bk,bk = tt ++ [b]:=⟨_,rfl⟩;rw [← hbk] at hS;have HBK0:=Lib.hid hbk;clear hbk;have hnp : some g3 ≠ (Value.slice Av tt.length cv).ownBlock:=Kd.S_ne HRo.out.e HSR.out.blk (by decide);have HP2:=Lib.hid (blk_grown (g:=g3) (HSR.out.below HTG.out).blk hg hnp);have HS2:=Lib.hid hS;have HG9:=Lib.hid hg;have hng : Hid (some gb ≠ (Value.slice Av tt.length cv).ownBlock):=Lib.hid (fun e => by have h1:=Kd.S_lt HRo.out.e gb e.symm;have h2:=HGB.out;omega);have HT2:=Lib.hid ((Tch.refl wg (fun k => k = g3 ∨ some k = (Value.slice Av tt.length cv).ownBlock)).grown hg (fun k e => .inl (.inr e.symm)));clear hb hg hat hnp;obtain ⟨A1,c1,rfl⟩:=Kd.S_slice hS;clear hS) | ((with_reducible refine gate_store (t:=30) (p:=86) rfl ?_);refine store_box rfl rfl rfl (g:=g3) (j:=7) (cs:=⟨hostC { h with ev:=tt } (.slice A7 h.fs.length c7) vb vq (.slice Av tt.length cv)⟩) (cs':=⟨hostC { h with ev:=bk } (.slice A7 h.fs.length c7) vb vq (.slice A1 bk.length c1)⟩) (T:=32) (u:=(.slice A1 bk.length c1)) (seg := [(.slice A1 bk.length c1)]) rfl rfl HP2.out rfl (by kernel_rfl) rfl rfl rfl ?_;intro w3 hx3 hT3;have HS3 : Hid (HostP w w3 g3 { h with ev:=bk } (.slice A7 h.fs.length c7) vb vq (.slice A1 bk.length c1)):=Lib.hid (HSR.out.newE HRo.out HTG.out (HT2.out.trans (hT3.mono (fun k hk => .inl hk))) hx3 rfl (S_tch HS2.out HP2.out (by decide) hT3));have HX3:=Lib.hid ((HT2.out.trans (hT3.mono (fun k hk => .inl hk))).blk (blk_below HXR.out HTG.out) (by rintro (e | e);exact HG23.out e;exact Kd.S_ne HRo.out.e HXR.out (by decide) e));clear hx3 hT3))
        clear y0 y1 y2 y3 y4 y5 y6 y7 z0 HS2 HT2 HP2 HBG HMX HTG HG9 hng
        have HBK : Hid (bk = h.ev.take (i + 1)):=Lib.hid (by rw [HBK0.out,HTT.out,HBE.out,List.take_add_one,getD_at h.ev i z56 HLT.out];rfl)
        go_wp2_with (fail)
        go_roundw
        case rel => exact ⟨i + 1,_,bk,HLT.out,by rw [HN.out];rfl,⟨HBK.out⟩,⟨HS3.out⟩,⟨HX3.out⟩⟩
        case measure => rw [HN.out];have:=HLT.out;simp [intOf];omega
       ·have hii : i = h.ev.length:=by omega
        have HTTT : Hid (tt = h.ev):=Lib.hid (by rw [HTT.out,hii,List.take_length])
        have b2 : decide ((i : Int) < (h.ev.length : Int)) = false:=decide_eq_false (by omega)
        have qn : (i < h.ev.length) = False:=eq_false hlt
        have HSk : Hid (HostP w wr g3 h (.slice A7 h.fs.length c7) vb vq ve):=Lib.hid (by have e:=HSR.out;rw [HTTT.out] at e;exact e)
        have HXk:=Lib.hid HXR.out
        clear hlt hi HSR HXR hii HTT HTTT
        have hul:=Lib.hid Try.underlying32
        go_wp2_with (first | ((with_reducible refine gate_dst (N:=88) rfl ?_);refine load_all rfl rfl (g:=g3) rfl HSk.out.blk hul.out (by kernel_rfl) ?_) | ((with_reducible refine gate_store (t:=32) (p:=2) rfl ?_);refine store_box rfl rfl rfl (g:=g2) (j:=0) (cs := #[.int .i64 0, .int .i64 0, .int .i64 0, .int .i64 0, .slice none 0 0, .slice none 0 0, .slice none 0 0, .slice none 0 0, .int .i64 0, .int .i64 0]) (cs':=⟨hostC h (.slice A7 h.fs.length c7) vb vq ve⟩) (T:=32) (u := .agg ⟨hostC h (.slice A7 h.fs.length c7) vb vq ve⟩) (seg:=hostC h (.slice A7 h.fs.length c7) vb vq ve) rfl rfl HXk.out rfl (by kernel_rfl) ?hone rfl rfl ?_;(case hone => exact List.all_eq_true.2 (k_one4 HSk.out));intro wz hxz hTz;have HRES:=Lib.hid hxz;have HTz:=Lib.hid hTz;clear hxz hTz))
        obtain ⟨oz,hoz⟩:=HSk.out.rows
        have HHz : HRows wz w.heap.size (fun _ => True) oz h (.slice A7 h.fs.length c7) vb vq ve:=(hoz.bound.tch HTz.out (fun k hk => host_other HXk.out hk.2)).mono (fun _ _ => trivial)
        refine bodyPost_ret (results_cell_row rfl _ _ g2 32 ⟨hostC h (.slice A7 h.fs.length c7) vb vq ve⟩ (0,0) _ rfl HRES.out Try.underlying32 rfl (by kernel_rfl)) rfl ?_
        exact ⟨_,rfl,⟨_,_,_,_,oz,rfl,HHz⟩,HTz.out.below HSk.out.bel HSk.out.bel.size (fun k hk => by rw [hk,HG2.out];exact Nat.le_refl _)⟩
 have HRF0 : Hid (Below wd.heap.size wd wd):=Lib.hid (Below.refl _ _)
 refine two_ (i:=4) (j:=19) (Ni:=some 14) (Nj:=some 3) #[true,true,true,true,true,true,true,true,true,false,true,true,true,true,true,true,true,true,false,false,false] #[true,true,true,true,false,true,true,true,true,false,true,true,true,true,true,true,true,true,false,true,false] rfl rfl rfl rfl (by kernel_rfl) (by decide) (by decide) (fun K hK => ?_) (fun K hK => ?_)
 ·refine Kd.R_lit_step k89 (w0:=w) w.heap.size 89 (by rfl) rfl (xs:=([] : List S89)) (inner := []) (ok:=fun k => wd.heap.size ≤ k) (okp:=fun _ => False) ?hr (Reps.none _ _) (fun _ hk => hk.elim) HRF0.out.size (below_then HBd.out HBd.out.size HRF0.out) (Nat.le_trans HBd.out.size HRF0.out.size) (by simp) ?_
  (case hr => first | (go_simp;done) | (go_simp;rfl))
  intro v4 wA hr hb hg hn
  have HRA:=Lib.hid hr
  have HBA:=Lib.hid (below_then HRF0.out HRF0.out.size (below_grown hg (fun k e => by cases e)))
  have HE4:=Lib.hid (below_grown hg (fun k e => by cases e))
  have HN4 : Hid (∀ k,v4.ownBlock = some k → wd.heap.size ≤ k):=Lib.hid (fun k e => by obtain ⟨b,hb,hle⟩:=hn;rw [hb] at e;injection e with e;have:=HRF0.out.size;omega)
  clear hr hb hg hn
  obtain ⟨A4,c4,rfl⟩:=Kd.R_slice HRA.out
  refine hK.out _ _ (blk_below HPd.out HBA.out) (fun hHeld => ?_)
  clear hK K
  refine norm_ (a' := ?_) ?_ ?_
  rotate_left
  ·show Act.put _ (some 14) _ = _
   simp only [Act.put,List.setIfInBounds_toArray,List.set_cons_zero,List.set_cons_succ,i64_w,i32_w]
   rfl
  refine two_ (i:=9) (j:=19) (Ni:=some 19) (Nj:=some 3) #[true,true,true,true,true,true,true,true,true,true,true,true,true,true,true,true,true,true,false,false,false] #[true,true,true,true,true,true,true,true,true,false,true,true,true,true,true,true,true,true,false,true,false] rfl rfl rfl rfl (by kernel_rfl) (by decide) (by decide) (fun K hK => ?_) (fun K hK => ?_)
  ·refine Kd.R_append_rows_step k89 (Rr:=k89.K wA) (w0:=w) w.heap.size (by rfl) (.tmp 14) (.tmp 18) 27 89 (.agg #[(.bool false),(.int .u32 0),(.int .u32 0)]) 12 rfl Try.underlying27 info89 rfl (by decide) (by omega) (.slice A4 0 c4) [] h.fs Af h.fs.length cf (fun k => wd.heap.size ≤ k) (fun _ => False) rfl rfl HRA.out (Kd.C_below RF.out (below_then HBd.out HBd.out.size HBA.out)) (fun x cs hk => by rw [k89_open hk];exact k89_mkM _ _ _ x) (fun _ h => h.elim) (fun k hk => Nat.le_trans HBA.out.size hk) (below_then HBd.out HBd.out.size HBA.out) (Nat.le_trans HBd.out.size HBA.out.size) (by have:=SM.out.l1;simp only [List.length_nil];omega) ?_
   intro v9 wB hr hb hg hn
   rw [List.nil_append] at hr
   have HRB:=Lib.hid hr
   have HBB : Hid (Below wd.heap.size wd wB):=Lib.hid (((Tch.of_below (fun _ => False) HBA.out).grown hg (fun k e => .inr (HN4.out k e))).below (Below.refl _ _) (Nat.le_refl _) (fun _ h => h.elim))
   have HG9:=Lib.hid hg
   clear hr hb hg hn
   obtain ⟨A9,c9,rfl⟩:=Kd.R_slice HRB.out
   refine hK.out _ _ (blk_below HPd.out HBB.out) (fun hHeld => ?_)
   clear hK K
   refine norm_ (a' := ?_) ?_ ?_
   rotate_left
   ·show Act.put _ (some 19) _ = _
    simp only [Act.put,List.setIfInBounds_toArray,List.set_cons_zero,List.set_cons_succ,i64_w,i32_w]
    rfl
   refine pure_ (i:=18) (N:=some 28) (v := ?_) (a' := ?_) #[true,true,true,true,true,true,true,true,true,true,true,true,true,true,true,true,true,true,true,false,false] rfl rfl (by kernel_rfl) (fun _ _ _ h => h) (Or.inl ⟨by rfl, ?_⟩) ?_ ?_
   rotate_left
   ·intro w'
    go_simp
    with_reducible rfl
   rotate_left
   ·simp only [Act.put,List.setIfInBounds_toArray,List.set_cons_zero,List.set_cons_succ,i64_w,i32_w]
    rfl
   refine one_ (i:=19) (N:=some 3) #[true,true,true,true,true,true,true,true,true,true,true,true,true,true,true,true,true,true,true,true,false] rfl rfl (by kernel_rfl) (by decide) (fun K hK => ?_)
   refine box_step (by rfl) rfl (cs := #[.int .i64 0, .int .i64 0, .int .i64 0, .int .i64 0, .slice none 0 0, .slice none 0 0, .slice none 0 0, .slice none 0 0, .int .i64 0, .int .i64 0]) (t:=32) ?hr ?_
   (case hr => first | (go_simp;done) | (go_simp;rfl))
   intro g3 hg3 wC hbox hb
   have HX19:=Lib.hid hbox
   have HGE3 : Hid (wd.heap.size ≤ g3):=Lib.hid (by rw [hg3];exact HBB.out.size)
   have HBC:=Lib.hid (below_then HBB.out HBB.out.size hb)
   have HE19:=Lib.hid hb
   clear hg3 hbox hb
   refine hK.out _ _ (blk_below HPd.out HBC.out) (fun hHeld => ?_)
   clear hK K
   refine norm_ (a' := ?_) ?_ ?_
   rotate_left
   ·show Act.put _ (some 3) _ = _
    simp only [Act.put,List.setIfInBounds_toArray,List.set_cons_zero,List.set_cons_succ,i64_w,i32_w]
    rfl
   refine norm_ (by rfl) (hcont (.slice A4 0 c4,A9,c9,g3) wC ⟨blk_below HPd.out HBC.out,HBC.out,HX19.out,HGE3.out,(Kd.R_below HRB.out HE19.out)⟩)
  ·refine box_step (by rfl) rfl (cs := #[.int .i64 0, .int .i64 0, .int .i64 0, .int .i64 0, .slice none 0 0, .slice none 0 0, .slice none 0 0, .slice none 0 0, .int .i64 0, .int .i64 0]) (t:=32) ?hr ?_
   (case hr => first | (go_simp;done) | (go_simp;rfl))
   intro g3 hg3 wB hbox hb
   have HX19:=Lib.hid hbox
   have HGE3 : Hid (wd.heap.size ≤ g3):=Lib.hid (by rw [hg3];exact HBA.out.size)
   have HBB:=Lib.hid (below_then HBA.out HBA.out.size hb)
   have HE19:=Lib.hid hb
   clear hg3 hbox hb
   refine hK.out _ _ (blk_below HPd.out HBB.out) (fun hHeld => ?_)
   clear hK K
   refine norm_ (a' := ?_) ?_ ?_
   rotate_left
   ·show Act.put _ (some 3) _ = _
    simp only [Act.put,List.setIfInBounds_toArray,List.set_cons_zero,List.set_cons_succ,i64_w,i32_w]
    rfl
   have HRB:=Lib.hid (Kd.R_below HRA.out HE19.out)
   refine one_ (i:=9) (N:=some 19) #[true,true,true,true,true,true,true,true,true,true,true,true,true,true,true,true,true,true,false,true,false] rfl rfl (by kernel_rfl) (by decide) (fun K hK => ?_)
   refine Kd.R_append_rows_step k89 (Rr:=k89.K wB) (w0:=w) w.heap.size (by rfl) (.tmp 14) (.tmp 18) 27 89 (.agg #[(.bool false),(.int .u32 0),(.int .u32 0)]) 12 rfl Try.underlying27 info89 rfl (by decide) (by omega) (.slice A4 0 c4) [] h.fs Af h.fs.length cf (fun k => wd.heap.size ≤ k) (fun _ => False) rfl rfl HRB.out (Kd.C_below RF.out (below_then HBd.out HBd.out.size HBB.out)) (fun x cs hk => by rw [k89_open hk];exact k89_mkM _ _ _ x) (fun _ h => h.elim) (fun k hk => Nat.le_trans HBB.out.size hk) (below_then HBd.out HBd.out.size HBB.out) (Nat.le_trans HBd.out.size HBB.out.size) (by have:=SM.out.l1;simp only [List.length_nil];omega) ?_
   intro v9 wC hr hb hg hn
   rw [List.nil_append] at hr
   have HRC:=Lib.hid hr
   have HBC : Hid (Below wd.heap.size wd wC):=Lib.hid (((Tch.of_below (fun _ => False) HBB.out).grown hg (fun k e => .inr (HN4.out k e))).below (Below.refl _ _) (Nat.le_refl _) (fun _ h => h.elim))
   have HG9:=Lib.hid hg
   clear hr hb hg hn
   obtain ⟨A9,c9,rfl⟩:=Kd.R_slice HRC.out
   refine hK.out _ _ (blk_below HPd.out HBC.out) (fun hHeld => ?_)
   clear hK K
   refine norm_ (a' := ?_) ?_ ?_
   rotate_left
   ·show Act.put _ (some 19) _ = _
    simp only [Act.put,List.setIfInBounds_toArray,List.set_cons_zero,List.set_cons_succ,i64_w,i32_w]
    rfl
   refine pure_ (i:=18) (N:=some 28) (v := ?_) (a' := ?_) #[true,true,true,true,true,true,true,true,true,true,true,true,true,true,true,true,true,true,true,true,false] rfl rfl (by kernel_rfl) (fun _ _ _ h => h) (Or.inl ⟨by rfl, ?_⟩) ?_ ?_
   rotate_left
   ·intro w'
    go_simp
    with_reducible rfl
   rotate_left
   ·simp only [Act.put,List.setIfInBounds_toArray,List.set_cons_zero,List.set_cons_succ,i64_w,i32_w]
    rfl
   refine norm_ (by rfl) (hcont (.slice A4 0 c4,A9,c9,g3) wC ⟨blk_below HPd.out HBC.out,HBC.out,(blk_grown HX19.out HG9.out (Kd.R_ne HRB.out HX19.out (by decide))),HGE3.out,HRC.out⟩)
 ·refine box_step (by rfl) rfl (cs := #[.int .i64 0, .int .i64 0, .int .i64 0, .int .i64 0, .slice none 0 0, .slice none 0 0, .slice none 0 0, .slice none 0 0, .int .i64 0, .int .i64 0]) (t:=32) ?hr ?_
  (case hr => first | (go_simp;done) | (go_simp;rfl))
  intro g3 hg3 wA hbox hb
  have HX19:=Lib.hid hbox
  have HGE3 : Hid (wd.heap.size ≤ g3):=Lib.hid (by rw [hg3];exact HRF0.out.size)
  have HBA:=Lib.hid (below_then HRF0.out HRF0.out.size hb)
  have HE19:=Lib.hid hb
  clear hg3 hbox hb
  refine hK.out _ _ (blk_below HPd.out HBA.out) (fun hHeld => ?_)
  clear hK K
  refine norm_ (a' := ?_) ?_ ?_
  rotate_left
  ·show Act.put _ (some 3) _ = _
   simp only [Act.put,List.setIfInBounds_toArray,List.set_cons_zero,List.set_cons_succ,i64_w,i32_w]
   rfl
  refine one_ (i:=4) (N:=some 14) #[true,true,true,true,true,true,true,true,true,false,true,true,true,true,true,true,true,true,false,true,false] rfl rfl (by kernel_rfl) (by decide) (fun K hK => ?_)
  refine Kd.R_lit_step k89 (w0:=w) w.heap.size 89 (by rfl) rfl (xs:=([] : List S89)) (inner := []) (ok:=fun k => wd.heap.size ≤ k) (okp:=fun _ => False) ?hr (Reps.none _ _) (fun _ hk => hk.elim) HBA.out.size (below_then HBd.out HBd.out.size HBA.out) (Nat.le_trans HBd.out.size HBA.out.size) (by simp) ?_
  (case hr => first | (go_simp;done) | (go_simp;rfl))
  intro v4 wB hr hb hg hn
  have HRB:=Lib.hid hr
  have HBB:=Lib.hid (below_then HBA.out HBA.out.size (below_grown hg (fun k e => by cases e)))
  have HE4:=Lib.hid (below_grown hg (fun k e => by cases e))
  have HN4 : Hid (∀ k,v4.ownBlock = some k → wd.heap.size ≤ k):=Lib.hid (fun k e => by obtain ⟨b,hb,hle⟩:=hn;rw [hb] at e;injection e with e;have:=HBA.out.size;omega)
  clear hr hb hg hn
  obtain ⟨A4,c4,rfl⟩:=Kd.R_slice HRB.out
  refine hK.out _ _ (blk_below HPd.out HBB.out) (fun hHeld => ?_)
  clear hK K
  refine norm_ (a' := ?_) ?_ ?_
  rotate_left
  ·show Act.put _ (some 14) _ = _
   simp only [Act.put,List.setIfInBounds_toArray,List.set_cons_zero,List.set_cons_succ,i64_w,i32_w]
   rfl
  have HX19B:=Lib.hid (blk_below HX19.out HE4.out)
  refine one_ (i:=9) (N:=some 19) #[true,true,true,true,true,true,true,true,true,true,true,true,true,true,true,true,true,true,false,true,false] rfl rfl (by kernel_rfl) (by decide) (fun K hK => ?_)
  refine Kd.R_append_rows_step k89 (Rr:=k89.K wB) (w0:=w) w.heap.size (by rfl) (.tmp 14) (.tmp 18) 27 89 (.agg #[(.bool false),(.int .u32 0),(.int .u32 0)]) 12 rfl Try.underlying27 info89 rfl (by decide) (by omega) (.slice A4 0 c4) [] h.fs Af h.fs.length cf (fun k => wd.heap.size ≤ k) (fun _ => False) rfl rfl HRB.out (Kd.C_below RF.out (below_then HBd.out HBd.out.size HBB.out)) (fun x cs hk => by rw [k89_open hk];exact k89_mkM _ _ _ x) (fun _ h => h.elim) (fun k hk => Nat.le_trans HBB.out.size hk) (below_then HBd.out HBd.out.size HBB.out) (Nat.le_trans HBd.out.size HBB.out.size) (by have:=SM.out.l1;simp only [List.length_nil];omega) ?_
  intro v9 wC hr hb hg hn
  rw [List.nil_append] at hr
  have HRC:=Lib.hid hr
  have HBC : Hid (Below wd.heap.size wd wC):=Lib.hid (((Tch.of_below (fun _ => False) HBB.out).grown hg (fun k e => .inr (HN4.out k e))).below (Below.refl _ _) (Nat.le_refl _) (fun _ h => h.elim))
  have HG9:=Lib.hid hg
  clear hr hb hg hn
  obtain ⟨A9,c9,rfl⟩:=Kd.R_slice HRC.out
  refine hK.out _ _ (blk_below HPd.out HBC.out) (fun hHeld => ?_)
  clear hK K
  refine norm_ (a' := ?_) ?_ ?_
  rotate_left
  ·show Act.put _ (some 19) _ = _
   simp only [Act.put,List.setIfInBounds_toArray,List.set_cons_zero,List.set_cons_succ,i64_w,i32_w]
   rfl
  refine pure_ (i:=18) (N:=some 28) (v := ?_) (a' := ?_) #[true,true,true,true,true,true,true,true,true,true,true,true,true,true,true,true,true,true,true,true,false] rfl rfl (by kernel_rfl) (fun _ _ _ h => h) (Or.inl ⟨by rfl, ?_⟩) ?_ ?_
  rotate_left
  ·intro w'
   go_simp
   with_reducible rfl
  rotate_left
  ·simp only [Act.put,List.setIfInBounds_toArray,List.set_cons_zero,List.set_cons_succ,i64_w,i32_w]
   rfl
  refine norm_ (by rfl) (hcont (.slice A4 0 c4,A9,c9,g3) wC ⟨blk_below HPd.out HBC.out,HBC.out,(blk_grown HX19B.out HG9.out (Kd.R_ne HRB.out HX19B.out (by decide))),HGE3.out,HRC.out⟩)
end Go.Proofs.Ytcaefabbcjlkdaa.P
namespace Go.Proofs.Ytcaefabbcjlkdaa.P
open Go.RowKit Go.Proofs.YtcaefabbcjlkdaaW.PrintWords Go.Proofs.YtcaefabbcjlkdaaW.PrintLast Go.Proofs.YtcaefabbcjlkdaaW.PrintMore
set_option linter.unusedVariables false
set_option linter.unusedSimpArgs false
def impl_goodConfig.f (a0_0 : Int) (a0_1 : Int) (a0_2 : Int) (a0_3 : Int) : Option (Bool):=if a0_0 ≥ 1 then (if a0_0 ≤ 8 then (if a0_1 ≥ 1 then (if a0_1 ≤ 16 then (if a0_2 = 0 then (if a0_3 ≥ 1 then (some (decide (a0_3 ≤ 32))) else (some false)) else (if a0_2 = 1 then (if a0_3 ≥ 1 then (some (decide (a0_3 ≤ 32))) else (some false)) else (some false))) else (some false)) else (some false)) else (some false)) else (some false)
set_option maxHeartbeats 8000000 in
set_option maxRecDepth 100000 in
theorem impl_goodConfig.calls (a0_0 : Int) (a0_1 : Int) (a0_2 : Int) (a0_3 : Int) (r : Bool) (w : World) (h : impl_goodConfig.f a0_0 a0_1 a0_2 a0_3 = some r) :
  Calls Try.prog 61 #[.agg #[.int .i64 a0_0, .int .i64 a0_1, .int .i64 a0_2, .int .i64 a0_3]] w fun e w' => e = .returned (.bool r) ∧ Below w.heap.size w w':=by
 have hu26:=Try.underlying26
 have HB:=Aside0.mk (Below.refl w.heap.size w)
 have H : (if a0_0 ≥ 1 then (if a0_0 ≤ 8 then (if a0_1 ≥ 1 then (if a0_1 ≤ 16 then (if a0_2 = 0 then (if a0_3 ≥ 1 then (some (decide (a0_3 ≤ 32))) else (some false)) else (if a0_2 = 1 then (if a0_3 ≥ 1 then (some (decide (a0_3 ≤ 32))) else (some false)) else (some false))) else (some false)) else (some false)) else (some false)) else (some false)) = some r:=h
 clear h
 by_cases c2 : a0_0 ≥ 1
 ·rw [if_pos c2] at H
  have c2b0 : decide (1 ≤ a0_0) = true:=decide_eq_true c2
  clear c2
  by_cases c3 : a0_0 ≤ 8
  ·rw [if_pos c3] at H
   have c3b0 : decide (a0_0 ≤ 8) = true:=decide_eq_true c3
   clear c3
   by_cases c4 : a0_1 ≥ 1
   ·rw [if_pos c4] at H
    have c4b0 : decide (1 ≤ a0_1) = true:=decide_eq_true c4
    clear c4
    by_cases c5 : a0_1 ≤ 16
    ·rw [if_pos c5] at H
     have c5b0 : decide (a0_1 ≤ 16) = true:=decide_eq_true c5
     clear c5
     by_cases c6 : a0_2 = 0
     ·rw [if_pos c6] at H
      have c6b0 : (a0_2 == 0) = true:=beq_iff_eq.mpr c6
      have c6b1 : (a0_2 != 0) = false:=bne_eq_false_iff_eq.mpr c6
      clear c6
      by_cases c7 : a0_3 ≥ 1
      ·rw [if_pos c7] at H
       have c7b0 : decide (1 ≤ a0_3) = true:=decide_eq_true c7
       clear c7
       obtain rfl:=Option.some.inj H
       go_enter Try.func61,Try.ntmps61
       go_wp2_with (first | ((with_reducible refine gate_dst (N:=1) rfl ?_);refine box_event ?hg (N:=1) ?hd (cs := #[.int .i64 a0_0, .int .i64 a0_1, .int .i64 a0_2, .int .i64 a0_3]) (t:=26) ?hr ?_;(case hd => rfl);(case hg => rfl);(case hr => first | (go_simp;done) | (go_simp;rfl));intro gb101 hg w8 hbox hb;have n0_:=Aside0.mk (below_step (by repeat (first | (with_reducible first | exact HB.out | apply below_alloc | apply pw_below_drewN | apply below_drew1) | exact HB.out)) hb);have n1_:=Aside0.mk (hbox);have n2_:=Aside0.mk ((by rw [hg];exact (below_size (by repeat (first | (with_reducible first | exact HB.out | apply below_alloc | apply pw_below_drewN | apply below_drew1) | exact HB.out))) : w.heap.size ≤ gb101));have n3_:=Aside0.mk ((by rw [hg];exact (below_size (by repeat (first | (with_reducible first | exact HB.out | apply below_alloc | apply pw_below_drewN | apply below_drew1) | exact HB.out))) : w.heap.size ≤ gb101));clear HB;have HB:=n0_;have BK101:=n1_;have GW101:=n2_;have GE101:=n3_;clear n0_ n1_ n2_ n3_;clear hb hbox hg;have hcz9_0 : w8.cell? ⟨gb101,0,none⟩ = some (.int .i64 a0_0):=(blk_cell BK101.out 0).trans rfl;have hcz9_1 : w8.cell? ⟨gb101,1,none⟩ = some (.int .i64 a0_1):=(blk_cell BK101.out 1).trans rfl;have hcz9_2 : w8.cell? ⟨gb101,2,none⟩ = some (.int .i64 a0_2):=(blk_cell BK101.out 2).trans rfl;have hcz9_3 : w8.cell? ⟨gb101,3,none⟩ = some (.int .i64 a0_3):=(blk_cell BK101.out 3).trans rfl;have hfz9_0:=blk_frozen BK101.out 0;have hfz9_1:=blk_frozen BK101.out 1;have hfz9_2:=blk_frozen BK101.out 2;have hfz9_3:=blk_frozen BK101.out 3))
       go_ret
       exact ⟨by first | rfl | (simp [errW_none,errW_some] <;> rfl) | (simp [*,errW_none,errW_some] <;> rfl),by repeat (first | (with_reducible first | exact HB.out | apply below_alloc | apply pw_below_drewN | apply below_drew1 | refine below_set ?_ GE101.out) | exact HB.out)⟩
      ·rw [if_neg c7] at H
       have c7b0 : decide (1 ≤ a0_3) = false:=decide_eq_false c7
       clear c7
       obtain rfl:=Option.some.inj H
       go_enter Try.func61,Try.ntmps61
       go_wp2_with (first | ((with_reducible refine gate_dst (N:=1) rfl ?_);refine box_event ?hg (N:=1) ?hd (cs := #[.int .i64 a0_0, .int .i64 a0_1, .int .i64 a0_2, .int .i64 a0_3]) (t:=26) ?hr ?_;(case hd => rfl);(case hg => rfl);(case hr => first | (go_simp;done) | (go_simp;rfl));intro gb101 hg w10 hbox hb;have n0_:=Aside0.mk (below_step (by repeat (first | (with_reducible first | exact HB.out | apply below_alloc | apply pw_below_drewN | apply below_drew1) | exact HB.out)) hb);have n1_:=Aside0.mk (hbox);have n2_:=Aside0.mk ((by rw [hg];exact (below_size (by repeat (first | (with_reducible first | exact HB.out | apply below_alloc | apply pw_below_drewN | apply below_drew1) | exact HB.out))) : w.heap.size ≤ gb101));have n3_:=Aside0.mk ((by rw [hg];exact (below_size (by repeat (first | (with_reducible first | exact HB.out | apply below_alloc | apply pw_below_drewN | apply below_drew1) | exact HB.out))) : w.heap.size ≤ gb101));clear HB;have HB:=n0_;have BK101:=n1_;have GW101:=n2_;have GE101:=n3_;clear n0_ n1_ n2_ n3_;clear hb hbox hg;have hcz11_0 : w10.cell? ⟨gb101,0,none⟩ = some (.int .i64 a0_0):=(blk_cell BK101.out 0).trans rfl;have hcz11_1 : w10.cell? ⟨gb101,1,none⟩ = some (.int .i64 a0_1):=(blk_cell BK101.out 1).trans rfl;have hcz11_2 : w10.cell? ⟨gb101,2,none⟩ = some (.int .i64 a0_2):=(blk_cell BK101.out 2).trans rfl;have hcz11_3 : w10.cell? ⟨gb101,3,none⟩ = some (.int .i64 a0_3):=(blk_cell BK101.out 3).trans rfl;have hfz11_0:=blk_frozen BK101.out 0;have hfz11_1:=blk_frozen BK101.out 1;have hfz11_2:=blk_frozen BK101.out 2;have hfz11_3:=blk_frozen BK101.out 3))
       go_ret
       exact ⟨by first | rfl | (simp [errW_none,errW_some] <;> rfl) | (simp [*,errW_none,errW_some] <;> rfl),by repeat (first | (with_reducible first | exact HB.out | apply below_alloc | apply pw_below_drewN | apply below_drew1 | refine below_set ?_ GE101.out) | exact HB.out)⟩
     ·rw [if_neg c6] at H
      have c6b0 : (a0_2 == 0) = false:=beq_eq_false_iff_ne.mpr c6
      have c6b1 : (a0_2 != 0) = true:=bne_iff_ne.mpr c6
      by_cases c12 : a0_2 = 1
      ·rw [if_pos c12] at H
       have c12b0 : (a0_2 == 1) = true:=beq_iff_eq.mpr c12
       have c12b1 : (a0_2 != 1) = false:=bne_eq_false_iff_eq.mpr c12
       clear c12
       by_cases c13 : a0_3 ≥ 1
       ·rw [if_pos c13] at H
        have c13b0 : decide (1 ≤ a0_3) = true:=decide_eq_true c13
        clear c13
        obtain rfl:=Option.some.inj H
        go_enter Try.func61,Try.ntmps61
        go_wp2_with (first | ((with_reducible refine gate_dst (N:=1) rfl ?_);refine box_event ?hg (N:=1) ?hd (cs := #[.int .i64 a0_0, .int .i64 a0_1, .int .i64 a0_2, .int .i64 a0_3]) (t:=26) ?hr ?_;(case hd => rfl);(case hg => rfl);(case hr => first | (go_simp;done) | (go_simp;rfl));intro gb101 hg w14 hbox hb;have n0_:=Aside0.mk (below_step (by repeat (first | (with_reducible first | exact HB.out | apply below_alloc | apply pw_below_drewN | apply below_drew1) | exact HB.out)) hb);have n1_:=Aside0.mk (hbox);have n2_:=Aside0.mk ((by rw [hg];exact (below_size (by repeat (first | (with_reducible first | exact HB.out | apply below_alloc | apply pw_below_drewN | apply below_drew1) | exact HB.out))) : w.heap.size ≤ gb101));have n3_:=Aside0.mk ((by rw [hg];exact (below_size (by repeat (first | (with_reducible first | exact HB.out | apply below_alloc | apply pw_below_drewN | apply below_drew1) | exact HB.out))) : w.heap.size ≤ gb101));clear HB;have HB:=n0_;have BK101:=n1_;have GW101:=n2_;have GE101:=n3_;clear n0_ n1_ n2_ n3_;clear hb hbox hg;have hcz15_0 : w14.cell? ⟨gb101,0,none⟩ = some (.int .i64 a0_0):=(blk_cell BK101.out 0).trans rfl;have hcz15_1 : w14.cell? ⟨gb101,1,none⟩ = some (.int .i64 a0_1):=(blk_cell BK101.out 1).trans rfl;have hcz15_2 : w14.cell? ⟨gb101,2,none⟩ = some (.int .i64 a0_2):=(blk_cell BK101.out 2).trans rfl;have hcz15_3 : w14.cell? ⟨gb101,3,none⟩ = some (.int .i64 a0_3):=(blk_cell BK101.out 3).trans rfl;have hfz15_0:=blk_frozen BK101.out 0;have hfz15_1:=blk_frozen BK101.out 1;have hfz15_2:=blk_frozen BK101.out 2;have hfz15_3:=blk_frozen BK101.out 3))
        go_ret
        exact ⟨by first | rfl | (simp [errW_none,errW_some] <;> rfl) | (simp [*,errW_none,errW_some] <;> rfl),by repeat (first | (with_reducible first | exact HB.out | apply below_alloc | apply pw_below_drewN | apply below_drew1 | refine below_set ?_ GE101.out) | exact HB.out)⟩
       ·rw [if_neg c13] at H
        have c13b0 : decide (1 ≤ a0_3) = false:=decide_eq_false c13
        clear c13
        obtain rfl:=Option.some.inj H
        go_enter Try.func61,Try.ntmps61
        go_wp2_with (first | ((with_reducible refine gate_dst (N:=1) rfl ?_);refine box_event ?hg (N:=1) ?hd (cs := #[.int .i64 a0_0, .int .i64 a0_1, .int .i64 a0_2, .int .i64 a0_3]) (t:=26) ?hr ?_;(case hd => rfl);(case hg => rfl);(case hr => first | (go_simp;done) | (go_simp;rfl));intro gb101 hg w16 hbox hb;have n0_:=Aside0.mk (below_step (by repeat (first | (with_reducible first | exact HB.out | apply below_alloc | apply pw_below_drewN | apply below_drew1) | exact HB.out)) hb);have n1_:=Aside0.mk (hbox);have n2_:=Aside0.mk ((by rw [hg];exact (below_size (by repeat (first | (with_reducible first | exact HB.out | apply below_alloc | apply pw_below_drewN | apply below_drew1) | exact HB.out))) : w.heap.size ≤ gb101));have n3_:=Aside0.mk ((by rw [hg];exact (below_size (by repeat (first | (with_reducible first | exact HB.out | apply below_alloc | apply pw_below_drewN | apply below_drew1) | exact HB.out))) : w.heap.size ≤ gb101));clear HB;have HB:=n0_;have BK101:=n1_;have GW101:=n2_;have GE101:=n3_;clear n0_ n1_ n2_ n3_;clear hb hbox hg;have hcz17_0 : w16.cell? ⟨gb101,0,none⟩ = some (.int .i64 a0_0):=(blk_cell BK101.out 0).trans rfl;have hcz17_1 : w16.cell? ⟨gb101,1,none⟩ = some (.int .i64 a0_1):=(blk_cell BK101.out 1).trans rfl;have hcz17_2 : w16.cell? ⟨gb101,2,none⟩ = some (.int .i64 a0_2):=(blk_cell BK101.out 2).trans rfl;have hcz17_3 : w16.cell? ⟨gb101,3,none⟩ = some (.int .i64 a0_3):=(blk_cell BK101.out 3).trans rfl;have hfz17_0:=blk_frozen BK101.out 0;have hfz17_1:=blk_frozen BK101.out 1;have hfz17_2:=blk_frozen BK101.out 2;have hfz17_3:=blk_frozen BK101.out 3))
        go_ret
        exact ⟨by first | rfl | (simp [errW_none,errW_some] <;> rfl) | (simp [*,errW_none,errW_some] <;> rfl),by repeat (first | (with_reducible first | exact HB.out | apply below_alloc | apply pw_below_drewN | apply below_drew1 | refine below_set ?_ GE101.out) | exact HB.out)⟩
      ·rw [if_neg c12] at H
       have c12b0 : (a0_2 == 1) = false:=beq_eq_false_iff_ne.mpr c12
       have c12b1 : (a0_2 != 1) = true:=bne_iff_ne.mpr c12
       obtain rfl:=Option.some.inj H
       go_enter Try.func61,Try.ntmps61
       go_wp2_with (first | ((with_reducible refine gate_dst (N:=1) rfl ?_);refine box_event ?hg (N:=1) ?hd (cs := #[.int .i64 a0_0, .int .i64 a0_1, .int .i64 a0_2, .int .i64 a0_3]) (t:=26) ?hr ?_;(case hd => rfl);(case hg => rfl);(case hr => first | (go_simp;done) | (go_simp;rfl));intro gb101 hg w18 hbox hb;have n0_:=Aside0.mk (below_step (by repeat (first | (with_reducible first | exact HB.out | apply below_alloc | apply pw_below_drewN | apply below_drew1) | exact HB.out)) hb);have n1_:=Aside0.mk (hbox);have n2_:=Aside0.mk ((by rw [hg];exact (below_size (by repeat (first | (with_reducible first | exact HB.out | apply below_alloc | apply pw_below_drewN | apply below_drew1) | exact HB.out))) : w.heap.size ≤ gb101));have n3_:=Aside0.mk ((by rw [hg];exact (below_size (by repeat (first | (with_reducible first | exact HB.out | apply below_alloc | apply pw_below_drewN | apply below_drew1) | exact HB.out))) : w.heap.size ≤ gb101));clear HB;have HB:=n0_;have BK101:=n1_;have GW101:=n2_;have GE101:=n3_;clear n0_ n1_ n2_ n3_;clear hb hbox hg;have hcz19_0 : w18.cell? ⟨gb101,0,none⟩ = some (.int .i64 a0_0):=(blk_cell BK101.out 0).trans rfl;have hcz19_1 : w18.cell? ⟨gb101,1,none⟩ = some (.int .i64 a0_1):=(blk_cell BK101.out 1).trans rfl;have hcz19_2 : w18.cell? ⟨gb101,2,none⟩ = some (.int .i64 a0_2):=(blk_cell BK101.out 2).trans rfl;have hcz19_3 : w18.cell? ⟨gb101,3,none⟩ = some (.int .i64 a0_3):=(blk_cell BK101.out 3).trans rfl;have hfz19_0:=blk_frozen BK101.out 0;have hfz19_1:=blk_frozen BK101.out 1;have hfz19_2:=blk_frozen BK101.out 2;have hfz19_3:=blk_frozen BK101.out 3))
       go_ret
       exact ⟨by first | rfl | (simp [errW_none,errW_some] <;> rfl) | (simp [*,errW_none,errW_some] <;> rfl),by repeat (first | (with_reducible first | exact HB.out | apply below_alloc | apply pw_below_drewN | apply below_drew1 | refine below_set ?_ GE101.out) | exact HB.out)⟩
    ·rw [if_neg c5] at H
     have c5b0 : decide (a0_1 ≤ 16) = false:=decide_eq_false c5
     clear c5
     obtain rfl:=Option.some.inj H
     go_enter Try.func61,Try.ntmps61
     go_wp2_with (first | ((with_reducible refine gate_dst (N:=1) rfl ?_);refine box_event ?hg (N:=1) ?hd (cs := #[.int .i64 a0_0, .int .i64 a0_1, .int .i64 a0_2, .int .i64 a0_3]) (t:=26) ?hr ?_;(case hd => rfl);(case hg => rfl);(case hr => first | (go_simp;done) | (go_simp;rfl));intro gb101 hg w20 hbox hb;have n0_:=Aside0.mk (below_step (by repeat (first | (with_reducible first | exact HB.out | apply below_alloc | apply pw_below_drewN | apply below_drew1) | exact HB.out)) hb);have n1_:=Aside0.mk (hbox);have n2_:=Aside0.mk ((by rw [hg];exact (below_size (by repeat (first | (with_reducible first | exact HB.out | apply below_alloc | apply pw_below_drewN | apply below_drew1) | exact HB.out))) : w.heap.size ≤ gb101));have n3_:=Aside0.mk ((by rw [hg];exact (below_size (by repeat (first | (with_reducible first | exact HB.out | apply below_alloc | apply pw_below_drewN | apply below_drew1) | exact HB.out))) : w.heap.size ≤ gb101));clear HB;have HB:=n0_;have BK101:=n1_;have GW101:=n2_;have GE101:=n3_;clear n0_ n1_ n2_ n3_;clear hb hbox hg;have hcz21_0 : w20.cell? ⟨gb101,0,none⟩ = some (.int .i64 a0_0):=(blk_cell BK101.out 0).trans rfl;have hcz21_1 : w20.cell? ⟨gb101,1,none⟩ = some (.int .i64 a0_1):=(blk_cell BK101.out 1).trans rfl;have hcz21_2 : w20.cell? ⟨gb101,2,none⟩ = some (.int .i64 a0_2):=(blk_cell BK101.out 2).trans rfl;have hcz21_3 : w20.cell? ⟨gb101,3,none⟩ = some (.int .i64 a0_3):=(blk_cell BK101.out 3).trans rfl;have hfz21_0:=blk_frozen BK101.out 0;have hfz21_1:=blk_frozen BK101.out 1;have hfz21_2:=blk_frozen BK101.out 2;have hfz21_3:=blk_frozen BK101.out 3))
     go_ret
     exact ⟨by first | rfl | (simp [errW_none,errW_some] <;> rfl) | (simp [*,errW_none,errW_some] <;> rfl),by repeat (first | (with_reducible first | exact HB.out | apply below_alloc | apply pw_below_drewN | apply below_drew1 | refine below_set ?_ GE101.out) | exact HB.out)⟩
   ·rw [if_neg c4] at H
    have c4b0 : decide (1 ≤ a0_1) = false:=decide_eq_false c4
    clear c4
    obtain rfl:=Option.some.inj H
    go_enter Try.func61,Try.ntmps61
    go_wp2_with (first | ((with_reducible refine gate_dst (N:=1) rfl ?_);refine box_event ?hg (N:=1) ?hd (cs := #[.int .i64 a0_0, .int .i64 a0_1, .int .i64 a0_2, .int .i64 a0_3]) (t:=26) ?hr ?_;(case hd => rfl);(case hg => rfl);(case hr => first | (go_simp;done) | (go_simp;rfl));intro gb101 hg w22 hbox hb;have n0_:=Aside0.mk (below_step (by repeat (first | (with_reducible first | exact HB.out | apply below_alloc | apply pw_below_drewN | apply below_drew1) | exact HB.out)) hb);have n1_:=Aside0.mk (hbox);have n2_:=Aside0.mk ((by rw [hg];exact (below_size (by repeat (first | (with_reducible first | exact HB.out | apply below_alloc | apply pw_below_drewN | apply below_drew1) | exact HB.out))) : w.heap.size ≤ gb101));have n3_:=Aside0.mk ((by rw [hg];exact (below_size (by repeat (first | (with_reducible first | exact HB.out | apply below_alloc | apply pw_below_drewN | apply below_drew1) | exact HB.out))) : w.heap.size ≤ gb101));clear HB;have HB:=n0_;have BK101:=n1_;have GW101:=n2_;have GE101:=n3_;clear n0_ n1_ n2_ n3_;clear hb hbox hg;have hcz23_0 : w22.cell? ⟨gb101,0,none⟩ = some (.int .i64 a0_0):=(blk_cell BK101.out 0).trans rfl;have hcz23_1 : w22.cell? ⟨gb101,1,none⟩ = some (.int .i64 a0_1):=(blk_cell BK101.out 1).trans rfl;have hcz23_2 : w22.cell? ⟨gb101,2,none⟩ = some (.int .i64 a0_2):=(blk_cell BK101.out 2).trans rfl;have hcz23_3 : w22.cell? ⟨gb101,3,none⟩ = some (.int .i64 a0_3):=(blk_cell BK101.out 3).trans rfl;have hfz23_0:=blk_frozen BK101.out 0;have hfz23_1:=blk_frozen BK101.out 1;have hfz23_2:=blk_frozen BK101.out 2;have hfz23_3:=blk_frozen BK101.out 3))
    go_ret
    exact ⟨by first | rfl | (simp [errW_none,errW_some] <;> rfl) | (simp [*,errW_none,errW_some] <;> rfl),by repeat (first | (with_reducible first | exact HB.out | apply below_alloc | apply pw_below_drewN | apply below_drew1 | refine below_set ?_ GE101.out) | exact HB.out)⟩
  ·rw [if_neg c3] at H
   have c3b0 : decide (a0_0 ≤ 8) = false:=decide_eq_false c3
   clear c3
   obtain rfl:=Option.some.inj H
   go_enter Try.func61,Try.ntmps61
   go_wp2_with (first | ((with_reducible refine gate_dst (N:=1) rfl ?_);refine box_event ?hg (N:=1) ?hd (cs := #[.int .i64 a0_0, .int .i64 a0_1, .int .i64 a0_2, .int .i64 a0_3]) (t:=26) ?hr ?_;(case hd => rfl);(case hg => rfl);(case hr => first | (go_simp;done) | (go_simp;rfl));intro gb101 hg w24 hbox hb;have n0_:=Aside0.mk (below_step (by repeat (first | (with_reducible first | exact HB.out | apply below_alloc | apply pw_below_drewN | apply below_drew1) | exact HB.out)) hb);have n1_:=Aside0.mk (hbox);have n2_:=Aside0.mk ((by rw [hg];exact (below_size (by repeat (first | (with_reducible first | exact HB.out | apply below_alloc | apply pw_below_drewN | apply below_drew1) | exact HB.out))) : w.heap.size ≤ gb101));have n3_:=Aside0.mk ((by rw [hg];exact (below_size (by repeat (first | (with_reducible first | exact HB.out | apply below_alloc | apply pw_below_drewN | apply below_drew1) | exact HB.out))) : w.heap.size ≤ gb101));clear HB;have HB:=n0_;have BK101:=n1_;have GW101:=n2_;have GE101:=n3_;clear n0_ n1_ n2_ n3_;clear hb hbox hg;have hcz25_0 : w24.cell? ⟨gb101,0,none⟩ = some (.int .i64 a0_0):=(blk_cell BK101.out 0).trans rfl;have hcz25_1 : w24.cell? ⟨gb101,1,none⟩ = some (.int .i64 a0_1):=(blk_cell BK101.out 1).trans rfl;have hcz25_2 : w24.cell? ⟨gb101,2,none⟩ = some (.int .i64 a0_2):=(blk_cell BK101.out 2).trans rfl;have hcz25_3 : w24.cell? ⟨gb101,3,none⟩ = some (.int .i64 a0_3):=(blk_cell BK101.out 3).trans rfl;have hfz25_0:=blk_frozen BK101.out 0;have hfz25_1:=blk_frozen BK101.out 1;have hfz25_2:=blk_frozen BK101.out 2;have hfz25_3:=blk_frozen BK101.out 3))
   go_ret
   exact ⟨by first | rfl | (simp [errW_none,errW_some] <;> rfl) | (simp [*,errW_none,errW_some] <;> rfl),by repeat (first | (with_reducible first | exact HB.out | apply below_alloc | apply pw_below_drewN | apply below_drew1 | refine below_set ?_ GE101.out) | exact HB.out)⟩
 ·rw [if_neg c2] at H
  have c2b0 : decide (1 ≤ a0_0) = false:=decide_eq_false c2
  clear c2
  obtain rfl:=Option.some.inj H
  go_enter Try.func61,Try.ntmps61
  go_wp2_with (first | ((with_reducible refine gate_dst (N:=1) rfl ?_);refine box_event ?hg (N:=1) ?hd (cs := #[.int .i64 a0_0, .int .i64 a0_1, .int .i64 a0_2, .int .i64 a0_3]) (t:=26) ?hr ?_;(case hd => rfl);(case hg => rfl);(case hr => first | (go_simp;done) | (go_simp;rfl));intro gb101 hg w26 hbox hb;have n0_:=Aside0.mk (below_step (by repeat (first | (with_reducible first | exact HB.out | apply below_alloc | apply pw_below_drewN | apply below_drew1) | exact HB.out)) hb);have n1_:=Aside0.mk (hbox);have n2_:=Aside0.mk ((by rw [hg];exact (below_size (by repeat (first | (with_reducible first | exact HB.out | apply below_alloc | apply pw_below_drewN | apply below_drew1) | exact HB.out))) : w.heap.size ≤ gb101));have n3_:=Aside0.mk ((by rw [hg];exact (below_size (by repeat (first | (with_reducible first | exact HB.out | apply below_alloc | apply pw_below_drewN | apply below_drew1) | exact HB.out))) : w.heap.size ≤ gb101));clear HB;have HB:=n0_;have BK101:=n1_;have GW101:=n2_;have GE101:=n3_;clear n0_ n1_ n2_ n3_;clear hb hbox hg;have hcz27_0 : w26.cell? ⟨gb101,0,none⟩ = some (.int .i64 a0_0):=(blk_cell BK101.out 0).trans rfl;have hcz27_1 : w26.cell? ⟨gb101,1,none⟩ = some (.int .i64 a0_1):=(blk_cell BK101.out 1).trans rfl;have hcz27_2 : w26.cell? ⟨gb101,2,none⟩ = some (.int .i64 a0_2):=(blk_cell BK101.out 2).trans rfl;have hcz27_3 : w26.cell? ⟨gb101,3,none⟩ = some (.int .i64 a0_3):=(blk_cell BK101.out 3).trans rfl;have hfz27_0:=blk_frozen BK101.out 0;have hfz27_1:=blk_frozen BK101.out 1;have hfz27_2:=blk_frozen BK101.out 2;have hfz27_3:=blk_frozen BK101.out 3))
  go_ret
  exact ⟨by first | rfl | (simp [errW_none,errW_some] <;> rfl) | (simp [*,errW_none,errW_some] <;> rfl),by repeat (first | (with_reducible first | exact HB.out | apply below_alloc | apply pw_below_drewN | apply below_drew1 | refine below_set ?_ GE101.out) | exact HB.out)⟩
def impl_goodFilters.l0 : Nat → List (S89) → Int → Int → Option (Bool)
 | 0,_,_,_ => none
 | k + 1,x9,x10,x11 => if x11 < x10 then (if 0 ≤ x11 then (if x11 < (x9.length : Int) then (if (rd_T89 x9 x11).f0 = true then (if (mx ((rd_T89 x9 x11).f1) ((rd_T89 x9 x11).f2)) ≥ 536870912 then (some false) else (impl_goodFilters.l0 k x9 x10 (wrap64 (x11 + 1)))) else (if (mx ((rd_T89 x9 x11).f1) ((rd_T89 x9 x11).f2)) ≥ 2048 then (some false) else (impl_goodFilters.l0 k x9 x10 (wrap64 (x11 + 1))))) else (none)) else (none)) else (some true)
def impl_goodFilters.f (k : Nat) (l0 : List (S89)) : Option (Bool):=if (l0.length : Int) > 16 then (some false) else (impl_goodFilters.l0 k l0 (l0.length : Int) 0)
set_option maxHeartbeats 8000000 in
set_option maxRecDepth 100000 in
theorem impl_goodFilters.calls (k : Nat) (A0 : Option Addr) (c0 : Nat) (l0 : List (S89)) (r : Bool) (w : World) (hr0 : Kd.C k89 w A0 l0.length l0) (hc0 : l0.length ≤ c0) (h : impl_goodFilters.f k l0 = some r) :
  Calls Try.prog 62 #[.slice A0 l0.length c0] w fun e w' => e = .returned (.bool r) ∧ Below w.heap.size w w':=by
 have hu89:=Try.underlying89
 have HR0:=Aside0.mk hr0
 have HC0:=Aside0.mk hc0
 clear hr0 hc0
 have HB:=Aside0.mk (Below.refl w.heap.size w)
 have H : (if (l0.length : Int) > 16 then (some false) else (impl_goodFilters.l0 k l0 (l0.length : Int) 0)) = some r:=h
 clear h
 by_cases c2 : (l0.length : Int) > 16
 ·rw [if_pos c2] at H
  have c2b0 : decide (16 < (l0.length : Int)) = true:=decide_eq_true c2
  have c2b1 : decide (16 < l0.length) = true:=decide_eq_true (by omega)
  clear c2
  obtain rfl:=Option.some.inj H
  go_enter Try.func62,Try.ntmps62
  go_wp2
  go_ret
  exact ⟨by first | rfl | (simp [errW_none,errW_some] <;> rfl) | (simp [*,errW_none,errW_some] <;> rfl),by repeat (first | (with_reducible first | exact HB.out | apply below_alloc | apply pw_below_drewN | apply below_drew1) | exact HB.out)⟩
 ·rw [if_neg c2] at H
  have c2b0 : decide (16 < (l0.length : Int)) = false:=decide_eq_false c2
  have c2b1 : decide (16 < l0.length) = false:=decide_eq_false (by omega)
  clear c2
  have H':=Aside0.mk H
  clear H
  go_enter Try.func62,Try.ntmps62
  go_wp2
  go_loopg [11] k (fun kq v11 w' => ∃ (x11_1 : Int),v11 = .int .i64 x11_1 ∧ Aside0 (impl_goodFilters.l0 kq l0 (l0.length : Int) x11_1 = some r) ∧ Aside0 (kq ≤ k) ∧ Aside0 (Below w.heap.size w w'))
  case atStart => exact ⟨(0),(by first | rfl | (simp;done) | (simp [*];done)),H',⟨Nat.le_refl _⟩,⟨by repeat (first | (with_reducible first | exact HB.out | apply below_alloc | apply pw_below_drewN | apply below_drew1) | exact HB.out)⟩⟩
  case round =>
   clear H'
   try clear c2
   try clear c2b0
   try clear c2b1
   try clear p2
   obtain ⟨x11_1,rfl,HA,HK1,HB⟩:=hrel
   cases gk with
   | zero => exact absurd HA.out (by simp [impl_goodFilters.l0])
   | succ k1 =>
    have H:=HA.out
    clear HA
    simp only [impl_goodFilters.l0] at H
    by_cases c3 : x11_1 < (l0.length : Int)
    ·rw [if_pos c3] at H
     have c3b0 : decide (x11_1 < (l0.length : Int)) = true:=decide_eq_true c3
     clear c3
     by_cases c4 : 0 ≤ x11_1
     ·rw [if_pos c4] at H
      have c4b0 : decide (0 ≤ x11_1) = true:=decide_eq_true c4
      clear c4
      by_cases c5 : x11_1 < (l0.length : Int)
      ·rw [if_pos c5] at H
       have c5b0 : decide (x11_1 < (l0.length : Int)) = true:=decide_eq_true c5
       clear c5
       obtain ⟨bq6,hbq6⟩ : ∃ b_ : Bool,b_ = ((rd_T89 l0 x11_1).f0):=⟨_,rfl⟩
       replace H : (if bq6 = true then (if (mx ((rd_T89 l0 x11_1).f1) ((rd_T89 l0 x11_1).f2)) ≥ 536870912 then (some false) else (impl_goodFilters.l0 k1 l0 (l0.length : Int) (wrap64 (x11_1 + 1)))) else (if (mx ((rd_T89 l0 x11_1).f1) ((rd_T89 l0 x11_1).f2)) ≥ 2048 then (some false) else (impl_goodFilters.l0 k1 l0 (l0.length : Int) (wrap64 (x11_1 + 1))))) = some r:=by rw [← hbq6] at H;exact H
       have Nbq6:=Aside0.mk hbq6
       clear hbq6
       by_cases c7 : bq6 = true
       ·subst c7
        have H1 : (if (mx ((rd_T89 l0 x11_1).f1) ((rd_T89 l0 x11_1).f2)) ≥ 536870912 then (some false) else (impl_goodFilters.l0 k1 l0 (l0.length : Int) (wrap64 (x11_1 + 1)))) = some r:=by rw [if_pos rfl] at H;exact H
        clear H
        have H:=H1
        clear H1
        obtain ⟨ji8,hji8⟩ : ∃ j_ : Int,(mx ((rd_T89 l0 x11_1).f1) ((rd_T89 l0 x11_1).f2)) = j_:=⟨_,rfl⟩
        replace H : (if (ji8) ≥ 536870912 then (some false) else (impl_goodFilters.l0 k1 l0 (l0.length : Int) (wrap64 (x11_1 + 1)))) = some r:=by first | (rw [hji8] at H;exact H) | (simp only [hji8] at H ⊢;exact H)
        have hji8_ : (if ((rd_T89 l0 x11_1).f1) < ((rd_T89 l0 x11_1).f2) then ((rd_T89 l0 x11_1).f2) else ((rd_T89 l0 x11_1).f1)) = ji8:=hji8
        by_cases c9 : (ji8) ≥ 536870912
        ·rw [if_pos c9] at H
         have c9b0 : decide (536870912 ≤ (ji8)) = true:=decide_eq_true c9
         clear c9
         obtain rfl:=Option.some.inj H
         have p102 : 0 ≤ (x11_1 : Int):=of_decide_eq_true (by first | (with_reducible assumption) | assumption)
         have q102 : x11_1 < (l0.length : Int):=of_decide_eq_true (by first | (with_reducible assumption) | assumption)
         obtain ⟨ad102,e102,hx102_0,hx102_1,hx102_2⟩:=at_T89 HR0.out x11_1 p102 q102
         (try rw [← Nbq6.out] at hx102_0)
         cases e102
         replace hx102_0:=(HB.out.cell (World.block_lt_of_cell? w _ hx102_0)).trans hx102_0
         replace hx102_1:=(HB.out.cell (World.block_lt_of_cell? w _ hx102_1)).trans hx102_1
         replace hx102_2:=(HB.out.cell (World.block_lt_of_cell? w _ hx102_2)).trans hx102_2
         replace p102:=eq_true p102
         replace q102:=eq_true q102
         go_wp2_with (first | ((with_reducible refine gate_dst (N:=4) rfl ?_);refine box_event ?hg (N:=4) ?hd (cs := #[.bool false, .int .u32 0, .int .u32 0]) (t:=89) ?hr ?_;(case hd => rfl);(case hg => rfl);(case hr => first | (go_simp;done) | (go_simp;rfl));intro gb103 hg w10 hbox hb;have n0_:=Aside0.mk (below_step (by repeat (first | (with_reducible first | exact HB.out | apply below_alloc | apply pw_below_drewN | apply below_drew1) | exact HB.out)) hb);have n1_:=Aside0.mk (hbox);have n2_:=Aside0.mk ((by rw [hg];exact (below_size (by repeat (first | (with_reducible first | exact HB.out | apply below_alloc | apply pw_below_drewN | apply below_drew1) | exact HB.out))) : w.heap.size ≤ gb103));have n3_:=Aside0.mk ((by rw [hg];exact (below_size (by repeat (first | (with_reducible first | exact HB.out | apply below_alloc | apply pw_below_drewN | apply below_drew1) | exact HB.out))) : w.heap.size ≤ gb103));clear HB;have HB:=n0_;have BK103:=n1_;have GW103:=n2_;have GE103:=n3_;clear n0_ n1_ n2_ n3_;clear hb hbox hg;have hcz11_0 : w10.cell? ⟨gb103,0,none⟩ = some (.bool false):=(blk_cell BK103.out 0).trans rfl;have hcz11_1 : w10.cell? ⟨gb103,1,none⟩ = some (.int .u32 0):=(blk_cell BK103.out 1).trans rfl;have hcz11_2 : w10.cell? ⟨gb103,2,none⟩ = some (.int .u32 0):=(blk_cell BK103.out 2).trans rfl;have hfz11_0:=blk_frozen BK103.out 0;have hfz11_1:=blk_frozen BK103.out 1;have hfz11_2:=blk_frozen BK103.out 2))
         go_ret
         exact ⟨by first | rfl | (simp [errW_none,errW_some] <;> rfl) | (simp only [← hji8];first | rfl | (simp [errW_none,errW_some] <;> rfl)) | (simp [*,errW_none,errW_some] <;> rfl),by repeat (first | (with_reducible first | exact HB.out | apply below_alloc | apply pw_below_drewN | apply below_drew1 | refine below_set ?_ GE103.out) | exact HB.out)⟩
        ·rw [if_neg c9] at H
         have c9b0 : decide (536870912 ≤ (ji8)) = false:=decide_eq_false c9
         clear c9
         have H':=Aside0.mk H
         clear H
         have p102 : 0 ≤ (x11_1 : Int):=of_decide_eq_true (by first | (with_reducible assumption) | assumption)
         have q102 : x11_1 < (l0.length : Int):=of_decide_eq_true (by first | (with_reducible assumption) | assumption)
         obtain ⟨ad102,e102,hx102_0,hx102_1,hx102_2⟩:=at_T89 HR0.out x11_1 p102 q102
         (try rw [← Nbq6.out] at hx102_0)
         cases e102
         replace hx102_0:=(HB.out.cell (World.block_lt_of_cell? w _ hx102_0)).trans hx102_0
         replace hx102_1:=(HB.out.cell (World.block_lt_of_cell? w _ hx102_1)).trans hx102_1
         replace hx102_2:=(HB.out.cell (World.block_lt_of_cell? w _ hx102_2)).trans hx102_2
         replace p102:=eq_true p102
         replace q102:=eq_true q102
         go_wp2_with (first | ((with_reducible refine gate_dst (N:=4) rfl ?_);refine box_event ?hg (N:=4) ?hd (cs := #[.bool false, .int .u32 0, .int .u32 0]) (t:=89) ?hr ?_;(case hd => rfl);(case hg => rfl);(case hr => first | (go_simp;done) | (go_simp;rfl));intro gb103 hg w12 hbox hb;have n0_:=Aside0.mk (below_step (by repeat (first | (with_reducible first | exact HB.out | apply below_alloc | apply pw_below_drewN | apply below_drew1) | exact HB.out)) hb);have n1_:=Aside0.mk (hbox);have n2_:=Aside0.mk ((by rw [hg];exact (below_size (by repeat (first | (with_reducible first | exact HB.out | apply below_alloc | apply pw_below_drewN | apply below_drew1) | exact HB.out))) : w.heap.size ≤ gb103));have n3_:=Aside0.mk ((by rw [hg];exact (below_size (by repeat (first | (with_reducible first | exact HB.out | apply below_alloc | apply pw_below_drewN | apply below_drew1) | exact HB.out))) : w.heap.size ≤ gb103));clear HB;have HB:=n0_;have BK103:=n1_;have GW103:=n2_;have GE103:=n3_;clear n0_ n1_ n2_ n3_;clear hb hbox hg;have hcz13_0 : w12.cell? ⟨gb103,0,none⟩ = some (.bool false):=(blk_cell BK103.out 0).trans rfl;have hcz13_1 : w12.cell? ⟨gb103,1,none⟩ = some (.int .u32 0):=(blk_cell BK103.out 1).trans rfl;have hcz13_2 : w12.cell? ⟨gb103,2,none⟩ = some (.int .u32 0):=(blk_cell BK103.out 2).trans rfl;have hfz13_0:=blk_frozen BK103.out 0;have hfz13_1:=blk_frozen BK103.out 1;have hfz13_2:=blk_frozen BK103.out 2))
         go_roundg k1
         case measure => have:=HK1.out;omega
         case rel => exact ⟨(wrap64 (x11_1 + 1)),(by first | rfl | (simp;done) | (simp [*];done)),H',⟨by have:=HK1.out;omega⟩,⟨by repeat (first | (with_reducible first | exact HB.out | apply below_alloc | apply pw_below_drewN | apply below_drew1 | refine below_set ?_ GE103.out) | exact HB.out)⟩⟩
       ·replace c7:=Bool.eq_false_iff.mpr c7
        subst c7
        have H1 : (if (mx ((rd_T89 l0 x11_1).f1) ((rd_T89 l0 x11_1).f2)) ≥ 2048 then (some false) else (impl_goodFilters.l0 k1 l0 (l0.length : Int) (wrap64 (x11_1 + 1)))) = some r:=by rw [if_neg (show ¬ (false = true) by decide)] at H;exact H
        clear H
        have H:=H1
        clear H1
        obtain ⟨ji14,hji14⟩ : ∃ j_ : Int,(mx ((rd_T89 l0 x11_1).f1) ((rd_T89 l0 x11_1).f2)) = j_:=⟨_,rfl⟩
        replace H : (if (ji14) ≥ 2048 then (some false) else (impl_goodFilters.l0 k1 l0 (l0.length : Int) (wrap64 (x11_1 + 1)))) = some r:=by first | (rw [hji14] at H;exact H) | (simp only [hji14] at H ⊢;exact H)
        have hji14_ : (if ((rd_T89 l0 x11_1).f1) < ((rd_T89 l0 x11_1).f2) then ((rd_T89 l0 x11_1).f2) else ((rd_T89 l0 x11_1).f1)) = ji14:=hji14
        by_cases c15 : (ji14) ≥ 2048
        ·rw [if_pos c15] at H
         have c15b0 : decide (2048 ≤ (ji14)) = true:=decide_eq_true c15
         clear c15
         obtain rfl:=Option.some.inj H
         have p102 : 0 ≤ (x11_1 : Int):=of_decide_eq_true (by first | (with_reducible assumption) | assumption)
         have q102 : x11_1 < (l0.length : Int):=of_decide_eq_true (by first | (with_reducible assumption) | assumption)
         obtain ⟨ad102,e102,hx102_0,hx102_1,hx102_2⟩:=at_T89 HR0.out x11_1 p102 q102
         (try rw [← Nbq6.out] at hx102_0)
         cases e102
         replace hx102_0:=(HB.out.cell (World.block_lt_of_cell? w _ hx102_0)).trans hx102_0
         replace hx102_1:=(HB.out.cell (World.block_lt_of_cell? w _ hx102_1)).trans hx102_1
         replace hx102_2:=(HB.out.cell (World.block_lt_of_cell? w _ hx102_2)).trans hx102_2
         replace p102:=eq_true p102
         replace q102:=eq_true q102
         go_wp2_with (first | ((with_reducible refine gate_dst (N:=4) rfl ?_);refine box_event ?hg (N:=4) ?hd (cs := #[.bool false, .int .u32 0, .int .u32 0]) (t:=89) ?hr ?_;(case hd => rfl);(case hg => rfl);(case hr => first | (go_simp;done) | (go_simp;rfl));intro gb103 hg w16 hbox hb;have n0_:=Aside0.mk (below_step (by repeat (first | (with_reducible first | exact HB.out | apply below_alloc | apply pw_below_drewN | apply below_drew1) | exact HB.out)) hb);have n1_:=Aside0.mk (hbox);have n2_:=Aside0.mk ((by rw [hg];exact (below_size (by repeat (first | (with_reducible first | exact HB.out | apply below_alloc | apply pw_below_drewN | apply below_drew1) | exact HB.out))) : w.heap.size ≤ gb103));have n3_:=Aside0.mk ((by rw [hg];exact (below_size (by repeat (first | (with_reducible first | exact HB.out | apply below_alloc | apply pw_below_drewN | apply below_drew1) | exact HB.out))) : w.heap.size ≤ gb103));clear HB;have HB:=n0_;have BK103:=n1_;have GW103:=n2_;have GE103:=n3_;clear n0_ n1_ n2_ n3_;clear hb hbox hg;have hcz17_0 : w16.cell? ⟨gb103,0,none⟩ = some (.bool false):=(blk_cell BK103.out 0).trans rfl;have hcz17_1 : w16.cell? ⟨gb103,1,none⟩ = some (.int .u32 0):=(blk_cell BK103.out 1).trans rfl;have hcz17_2 : w16.cell? ⟨gb103,2,none⟩ = some (.int .u32 0):=(blk_cell BK103.out 2).trans rfl;have hfz17_0:=blk_frozen BK103.out 0;have hfz17_1:=blk_frozen BK103.out 1;have hfz17_2:=blk_frozen BK103.out 2))
         go_ret
         exact ⟨by first | rfl | (simp [errW_none,errW_some] <;> rfl) | (simp only [← hji14];first | rfl | (simp [errW_none,errW_some] <;> rfl)) | (simp [*,errW_none,errW_some] <;> rfl),by repeat (first | (with_reducible first | exact HB.out | apply below_alloc | apply pw_below_drewN | apply below_drew1 | refine below_set ?_ GE103.out) | exact HB.out)⟩
        ·rw [if_neg c15] at H
         have c15b0 : decide (2048 ≤ (ji14)) = false:=decide_eq_false c15
         clear c15
         have H':=Aside0.mk H
         clear H
         have p102 : 0 ≤ (x11_1 : Int):=of_decide_eq_true (by first | (with_reducible assumption) | assumption)
         have q102 : x11_1 < (l0.length : Int):=of_decide_eq_true (by first | (with_reducible assumption) | assumption)
         obtain ⟨ad102,e102,hx102_0,hx102_1,hx102_2⟩:=at_T89 HR0.out x11_1 p102 q102
         (try rw [← Nbq6.out] at hx102_0)
         cases e102
         replace hx102_0:=(HB.out.cell (World.block_lt_of_cell? w _ hx102_0)).trans hx102_0
         replace hx102_1:=(HB.out.cell (World.block_lt_of_cell? w _ hx102_1)).trans hx102_1
         replace hx102_2:=(HB.out.cell (World.block_lt_of_cell? w _ hx102_2)).trans hx102_2
         replace p102:=eq_true p102
         replace q102:=eq_true q102
         go_wp2_with (first | ((with_reducible refine gate_dst (N:=4) rfl ?_);refine box_event ?hg (N:=4) ?hd (cs := #[.bool false, .int .u32 0, .int .u32 0]) (t:=89) ?hr ?_;(case hd => rfl);(case hg => rfl);(case hr => first | (go_simp;done) | (go_simp;rfl));intro gb103 hg w18 hbox hb;have n0_:=Aside0.mk (below_step (by repeat (first | (with_reducible first | exact HB.out | apply below_alloc | apply pw_below_drewN | apply below_drew1) | exact HB.out)) hb);have n1_:=Aside0.mk (hbox);have n2_:=Aside0.mk ((by rw [hg];exact (below_size (by repeat (first | (with_reducible first | exact HB.out | apply below_alloc | apply pw_below_drewN | apply below_drew1) | exact HB.out))) : w.heap.size ≤ gb103));have n3_:=Aside0.mk ((by rw [hg];exact (below_size (by repeat (first | (with_reducible first | exact HB.out | apply below_alloc | apply pw_below_drewN | apply below_drew1) | exact HB.out))) : w.heap.size ≤ gb103));clear HB;have HB:=n0_;have BK103:=n1_;have GW103:=n2_;have GE103:=n3_;clear n0_ n1_ n2_ n3_;clear hb hbox hg;have hcz19_0 : w18.cell? ⟨gb103,0,none⟩ = some (.bool false):=(blk_cell BK103.out 0).trans rfl;have hcz19_1 : w18.cell? ⟨gb103,1,none⟩ = some (.int .u32 0):=(blk_cell BK103.out 1).trans rfl;have hcz19_2 : w18.cell? ⟨gb103,2,none⟩ = some (.int .u32 0):=(blk_cell BK103.out 2).trans rfl;have hfz19_0:=blk_frozen BK103.out 0;have hfz19_1:=blk_frozen BK103.out 1;have hfz19_2:=blk_frozen BK103.out 2))
         go_roundg k1
         case measure => have:=HK1.out;omega
         case rel => exact ⟨(wrap64 (x11_1 + 1)),(by first | rfl | (simp;done) | (simp [*];done)),H',⟨by have:=HK1.out;omega⟩,⟨by repeat (first | (with_reducible first | exact HB.out | apply below_alloc | apply pw_below_drewN | apply below_drew1 | refine below_set ?_ GE103.out) | exact HB.out)⟩⟩
      ·rw [if_neg c5] at H
       exact absurd H (by simp)
     ·rw [if_neg c4] at H
      exact absurd H (by simp)
    ·rw [if_neg c3] at H
     have c3b0 : decide (x11_1 < (l0.length : Int)) = false:=decide_eq_false c3
     clear c3
     obtain rfl:=Option.some.inj H
     go_wp2
     go_ret
     exact ⟨by first | rfl | (simp [errW_none,errW_some] <;> rfl) | (simp [*,errW_none,errW_some] <;> rfl),by repeat (first | (with_reducible first | exact HB.out | apply below_alloc | apply pw_below_drewN | apply below_drew1) | exact HB.out)⟩
end Go.Proofs.Ytcaefabbcjlkdaa.P
namespace Go.Proofs.Ytcaefabbcjlkdaa.P
open Go Go.RowKit Go.Proofs.YtcaefabbcjlkdaaW.PrintWords Go.Proofs.YtcaefabbcjlkdaaW.PrintLast Go.Proofs.YtcaefabbcjlkdaaW.PrintMore
set_option linter.unusedVariables false
set_option linter.unusedSimpArgs false
theorem goodConfig_is {a b c d : Int} (h : impl_goodConfig.f a b c d = some true) : (1 ≤ a ∧ a ≤ 8) ∧ (1 ≤ b ∧ b ≤ 16) ∧ (1 ≤ d ∧ d ≤ 32):=by
 unfold impl_goodConfig.f at h
 repeat' split at h
 all_goals first | (simp only [Option.some.injEq,decide_eq_true_eq] at h;omega) | (simp at h;done)
theorem goodFilters_is {k : Nat} {fs : List S89} (h : impl_goodFilters.f k fs = some true) : fs.length ≤ 16:=by
 unfold impl_goodFilters.f at h
 split at h
 ·simp at h
 ·omega
def nhV (o1 o2 : Bool) (a b c d : Int) (fs : List S89) : HV:=if o1 = true then (if o2 = true then ⟨a,b,c,d,fs,List.replicate a.toNat z87, [], [],0,0⟩ else hv0) else hv0
def nhCode (o1 o2 : Bool) : Int:=if o1 = true then (if o2 = true then 0 else 2) else 1
set_option maxRecDepth 100000 in
set_option maxHeartbeats 4000000 in
theorem newHost_v (w : World) (a b c d : Int) (fs : List S89) (A : Option Addr) (cf : Nat) (o1 o2 : Bool) (k : Nat) (hr : (k89).C w A fs.length fs) (hc : fs.length ≤ cf) (h1 : impl_goodConfig.f a b c d = some o1) (h2 : impl_goodFilters.f k fs = some o2) :
  Calls Try.prog 18 #[.agg #[.int .i64 a, .int .i64 b, .int .i64 c, .int .i64 d], .slice A fs.length cf] w fun e w' => ∃ C,e = .returned (.tuple #[.agg ⟨C⟩, .int .i64 (nhCode o1 o2)]) ∧ HOwn w' w.heap.size (fun _ => True) (nhV o1 o2 a b c d fs) C ∧ Below w.heap.size w w':=by
 have RF:=Lib.hid hr
 have LF:=Lib.hid hc
 have H1:=Lib.hid h1
 have H2:=Lib.hid h2
 have hu26:=Lib.hid Try.underlying26
 clear hr hc h1 h2
 cases o1 with
 | false =>
  go_enter Try.func18,Try.ntmps18
  go_wp2_with (first | ((with_reducible refine gate_dst (N:=2) rfl ?_);refine box_event ?hg (N:=2) ?hd (cs := #[.int .i64 a, .int .i64 b, .int .i64 c, .int .i64 d]) (t:=26) ?hr ?_;(case hd => rfl);(case hg => rfl);(case hr => first | (go_simp;done) | (go_simp;rfl));intro g2 hg w1 hbox hb;have HG2:=Lib.hid hg;have HX1:=Lib.hid hbox;have HB1:=Lib.hid hb;clear hg hbox hb) | ((with_reducible refine gate_dst (N:=4) rfl ?_);refine box_event ?hg (N:=4) ?hd (cs := #[.int .i64 0, .int .i64 0, .int .i64 0, .int .i64 0, .slice none 0 0, .slice none 0 0, .slice none 0 0, .slice none 0 0, .int .i64 0, .int .i64 0]) (t:=32) ?hr ?_;(case hd => rfl);(case hg => rfl);(case hr => first | (go_simp;done) | (go_simp;rfl));intro g4 hg w2 hbox hb;have HY2:=Lib.hid hbox;have HX2:=Lib.hid (blk_below HX1.out hb);have HB2:=Lib.hid (below_then HB1.out HB1.out.size hb);have HGE : Hid (w.heap.size ≤ g4):=Lib.hid (by rw [hg];exact HB1.out.size);have HNE : Hid (g2 ≠ g4):=Lib.hid (fun e => by have h1:=blk_lt HX1.out;rw [e,hg] at h1;omega);clear hg hbox hb) | ((with_reducible refine gate_dst (N:=6) rfl ?_);refine load_all rfl rfl (g:=g2) rfl HX2.out hu26.out (by kernel_rfl) ?_) | (go_at_call 61;refine (impl_goodConfig.calls a b c d false w2 H1.out).mono ?_;rintro e w3 ⟨rfl,hb⟩;have HX3:=Lib.hid (blk_below HX2.out hb);have HY3:=Lib.hid (blk_below HY2.out hb);have HB3:=Lib.hid (below_then HB2.out HB2.out.size hb);clear hb) | ((with_reducible refine gate_store (t:=32) (p:=4) rfl ?_);refine store_box rfl rfl rfl (g:=g4) (j:=0) (cs := #[.int .i64 0, .int .i64 0, .int .i64 0, .int .i64 0, .slice none 0 0, .slice none 0 0, .slice none 0 0, .slice none 0 0, .int .i64 0, .int .i64 0]) (cs' := #[.int .i64 0, .int .i64 0, .int .i64 0, .int .i64 0, .slice none 0 0, .slice none 0 0, .slice none 0 0, .slice none 0 0, .int .i64 0, .int .i64 0]) (T:=32) (u := .agg #[.int .i64 0, .int .i64 0, .int .i64 0, .int .i64 0, .slice none 0 0, .slice none 0 0, .slice none 0 0, .slice none 0 0, .int .i64 0, .int .i64 0]) (seg := [.int .i64 0, .int .i64 0, .int .i64 0, .int .i64 0, .slice none 0 0, .slice none 0 0, .slice none 0 0, .slice none 0 0, .int .i64 0, .int .i64 0]) rfl rfl HY3.out rfl (by kernel_rfl) rfl rfl rfl ?_;intro wz hx hT;have HZ:=Lib.hid hx;have HBZ:=Lib.hid (hT.below HB3.out HB3.out.size (fun k hk => by rw [hk];exact HGE.out));clear hx hT))
  refine bodyPost_ret (results_ct rfl _ _ g4 32 #[.int .i64 0, .int .i64 0, .int .i64 0, .int .i64 0, .slice none 0 0, .slice none 0 0, .slice none 0 0, .slice none 0 0, .int .i64 0, .int .i64 0] (0,0) _ rfl HZ.out Try.underlying32 rfl (by kernel_rfl)) rfl ?_
  exact ⟨_,rfl,⟨_,_,_,_,fun _ => 0,rfl,Kd.R_nil _ _ _ _ _,Kd.S_nil _ _ _ _ _,Kd.S_nil _ _ _ _ _,Kd.S_nil _ _ _ _ _⟩,HBZ.out⟩
 | true =>
  cases o2 with
  | false =>
   go_enter Try.func18,Try.ntmps18
   go_wp2_with (first | ((with_reducible refine gate_dst (N:=2) rfl ?_);refine box_event ?hg (N:=2) ?hd (cs := #[.int .i64 a, .int .i64 b, .int .i64 c, .int .i64 d]) (t:=26) ?hr ?_;(case hd => rfl);(case hg => rfl);(case hr => first | (go_simp;done) | (go_simp;rfl));intro g2 hg w1 hbox hb;have HG2:=Lib.hid hg;have HX1:=Lib.hid hbox;have HB1:=Lib.hid hb;clear hg hbox hb) | ((with_reducible refine gate_dst (N:=4) rfl ?_);refine box_event ?hg (N:=4) ?hd (cs := #[.int .i64 0, .int .i64 0, .int .i64 0, .int .i64 0, .slice none 0 0, .slice none 0 0, .slice none 0 0, .slice none 0 0, .int .i64 0, .int .i64 0]) (t:=32) ?hr ?_;(case hd => rfl);(case hg => rfl);(case hr => first | (go_simp;done) | (go_simp;rfl));intro g4 hg w2 hbox hb;have HY2:=Lib.hid hbox;have HX2:=Lib.hid (blk_below HX1.out hb);have HB2:=Lib.hid (below_then HB1.out HB1.out.size hb);have HGE : Hid (w.heap.size ≤ g4):=Lib.hid (by rw [hg];exact HB1.out.size);have HNE : Hid (g2 ≠ g4):=Lib.hid (fun e => by have h1:=blk_lt HX1.out;rw [e,hg] at h1;omega);clear hg hbox hb) | ((with_reducible refine gate_dst (N:=6) rfl ?_);refine load_all rfl rfl (g:=g2) rfl HX2.out hu26.out (by kernel_rfl) ?_) | (go_at_call 61;refine (impl_goodConfig.calls a b c d true w2 H1.out).mono ?_;rintro e w3 ⟨rfl,hb⟩;have HX3:=Lib.hid (blk_below HX2.out hb);have HY3:=Lib.hid (blk_below HY2.out hb);have HB3:=Lib.hid (below_then HB2.out HB2.out.size hb);clear hb) | (go_at_call 62;refine (impl_goodFilters.calls k A cf fs false w3 (Kd.C_below RF.out HB3.out) LF.out H2.out).mono ?_;rintro e w4 ⟨rfl,hb⟩;have HX4:=Lib.hid (blk_below HX3.out hb);have HY4:=Lib.hid (blk_below HY3.out hb);have HB4:=Lib.hid (below_then HB3.out HB3.out.size hb);clear hb) | ((with_reducible refine gate_store (t:=32) (p:=4) rfl ?_);refine store_box rfl rfl rfl (g:=g4) (j:=0) (cs := #[.int .i64 0, .int .i64 0, .int .i64 0, .int .i64 0, .slice none 0 0, .slice none 0 0, .slice none 0 0, .slice none 0 0, .int .i64 0, .int .i64 0]) (cs' := #[.int .i64 0, .int .i64 0, .int .i64 0, .int .i64 0, .slice none 0 0, .slice none 0 0, .slice none 0 0, .slice none 0 0, .int .i64 0, .int .i64 0]) (T:=32) (u := .agg #[.int .i64 0, .int .i64 0, .int .i64 0, .int .i64 0, .slice none 0 0, .slice none 0 0, .slice none 0 0, .slice none 0 0, .int .i64 0, .int .i64 0]) (seg := [.int .i64 0, .int .i64 0, .int .i64 0, .int .i64 0, .slice none 0 0, .slice none 0 0, .slice none 0 0, .slice none 0 0, .int .i64 0, .int .i64 0]) rfl rfl HY4.out rfl (by kernel_rfl) rfl rfl rfl ?_;intro wz hx hT;have HZ:=Lib.hid hx;have HBZ:=Lib.hid (hT.below HB4.out HB4.out.size (fun k hk => by rw [hk];exact HGE.out));clear hx hT))
   refine bodyPost_ret (results_ct rfl _ _ g4 32 #[.int .i64 0, .int .i64 0, .int .i64 0, .int .i64 0, .slice none 0 0, .slice none 0 0, .slice none 0 0, .slice none 0 0, .int .i64 0, .int .i64 0] (0,0) _ rfl HZ.out Try.underlying32 rfl (by kernel_rfl)) rfl ?_
   exact ⟨_,rfl,⟨_,_,_,_,fun _ => 0,rfl,Kd.R_nil _ _ _ _ _,Kd.S_nil _ _ _ _ _,Kd.S_nil _ _ _ _ _,Kd.S_nil _ _ _ _ _⟩,HBZ.out⟩
  | true =>
   have HC:=Lib.hid (goodConfig_is H1.out)
   have HF:=Lib.hid (goodFilters_is H2.out)
   go_enter Try.func18,Try.ntmps18
   go_upto_region 5 with (first | ((with_reducible refine gate_dst (N:=2) rfl ?_);refine box_event ?hg (N:=2) ?hd (cs := #[.int .i64 a, .int .i64 b, .int .i64 c, .int .i64 d]) (t:=26) ?hr ?_;(case hd => rfl);(case hg => rfl);(case hr => first | (go_simp;done) | (go_simp;rfl));intro g2 hg w1 hbox hb;have HG2:=Lib.hid hg;have HX1:=Lib.hid hbox;have HB1:=Lib.hid hb;clear hg hbox hb) | ((with_reducible refine gate_dst (N:=4) rfl ?_);refine box_event ?hg (N:=4) ?hd (cs := #[.int .i64 0, .int .i64 0, .int .i64 0, .int .i64 0, .slice none 0 0, .slice none 0 0, .slice none 0 0, .slice none 0 0, .int .i64 0, .int .i64 0]) (t:=32) ?hr ?_;(case hd => rfl);(case hg => rfl);(case hr => first | (go_simp;done) | (go_simp;rfl));intro g4 hg w2 hbox hb;have HY2:=Lib.hid hbox;have HX2:=Lib.hid (blk_below HX1.out hb);have HB2:=Lib.hid (below_then HB1.out HB1.out.size hb);have HGE : Hid (w.heap.size ≤ g4):=Lib.hid (by rw [hg];exact HB1.out.size);have HNE : Hid (g2 ≠ g4):=Lib.hid (fun e => by have h1:=blk_lt HX1.out;rw [e,hg] at h1;omega);clear hg hbox hb) | ((with_reducible refine gate_dst (N:=6) rfl ?_);refine load_all rfl rfl (g:=g2) rfl HX2.out hu26.out (by kernel_rfl) ?_) | (go_at_call 61;refine (impl_goodConfig.calls a b c d true w2 H1.out).mono ?_;rintro e w3 ⟨rfl,hb⟩;have HX3:=Lib.hid (blk_below HX2.out hb);have HY3:=Lib.hid (blk_below HY2.out hb);have HB3:=Lib.hid (below_then HB2.out HB2.out.size hb);clear hb) | (go_at_call 62;refine (impl_goodFilters.calls k A cf fs true w3 (Kd.C_below RF.out HB3.out) LF.out H2.out).mono ?_;rintro e w4 ⟨rfl,hb⟩;have HX4:=Lib.hid (blk_below HX3.out hb);have HY4:=Lib.hid (blk_below HY3.out hb);have HB4:=Lib.hid (below_then HB3.out HB3.out.size hb);clear hb))
   obtain ⟨wd,hwd⟩ : ∃ wd,wd = w4.drew:=⟨_,rfl⟩
   have HXd : Hid (wd.heap[g2]? = some (.cells #[.int .i64 a, .int .i64 b, .int .i64 c, .int .i64 d] 26 (0,0))):=by rw [hwd];exact Lib.hid (blk_drew HX4.out)
   have HYd : Hid (wd.heap[g4]? = some (.cells #[.int .i64 0, .int .i64 0, .int .i64 0, .int .i64 0, .slice none 0 0, .slice none 0 0, .slice none 0 0, .slice none 0 0, .int .i64 0, .int .i64 0] 32 (0,0))):=by rw [hwd];exact Lib.hid (blk_drew HY4.out)
   have HBd : Hid (Below w.heap.size w wd):=by rw [hwd];exact Lib.hid (below_drew HB4.out)
   refine start_ (n:=10) (S:=fun w' : World => w'.heap[g2]? = some (.cells #[.int .i64 a, .int .i64 b, .int .i64 c, .int .i64 d] 26 (0,0))) (ds := [8]) #[false,false,false,false,false,false,false,false,false,false] (by kernel_rfl) rfl rfl (hwd ▸ HXd.out) (fun hHeld => ?_)
   rw [← hwd] at hHeld ⊢
   clear hwd
   refine take_ (i:=0) (N:=some 14) (v := ?_) (a' := ?_) #[true,false,false,false,false,false,false,false,false,false] rfl rfl (by kernel_rfl) (fun _ _ _ h => h) (Or.inl ⟨by rfl, ?_⟩) hHeld ?_ ?_
   rotate_left
   ·intro w' s0
    have e0 : w'.cell? ⟨g2,0,none⟩ = some (.int .i64 a):=blk_cell s0 0
    have e1 : w'.cell? ⟨g2,1,none⟩ = some (.int .i64 b):=blk_cell s0 1
    have e2 : w'.cell? ⟨g2,2,none⟩ = some (.int .i64 c):=blk_cell s0 2
    have e3 : w'.cell? ⟨g2,3,none⟩ = some (.int .i64 d):=blk_cell s0 3
    go_simp
    with_reducible rfl
   rotate_left
   ·simp only [Act.put,List.setIfInBounds_toArray,List.set_cons_zero,List.set_cons_succ,i64_w,i32_w]
    rfl
   refine pure_ (i:=1) (N:=some 15) (v := ?_) (a' := ?_) #[true,true,false,false,false,false,false,false,false,false] rfl rfl (by kernel_rfl) (fun _ _ _ h => h) (Or.inl ⟨by rfl, ?_⟩) ?_ ?_
   rotate_left
   ·intro w'
    go_simp
    with_reducible rfl
   rotate_left
   ·simp only [Act.put,List.setIfInBounds_toArray,List.set_cons_zero,List.set_cons_succ,i64_w,i32_w]
    rfl
   refine pure_ (i:=2) (N:=some 16) (v := ?_) (a' := ?_) #[true,true,true,false,false,false,false,false,false,false] rfl rfl (by kernel_rfl) (fun _ _ _ h => h) (Or.inl ⟨by rfl, ?_⟩) ?_ ?_
   rotate_left
   ·intro w'
    go_simp
    with_reducible rfl
   rotate_left
   ·simp only [Act.put,List.setIfInBounds_toArray,List.set_cons_zero,List.set_cons_succ,i64_w,i32_w]
    rfl
   refine take_ (i:=3) (N:=some 17) (v := ?_) (a' := ?_) #[true,true,true,true,false,false,false,false,false,false] rfl rfl (by kernel_rfl) (fun _ _ _ h => h) (Or.inl ⟨by rfl, ?_⟩) hHeld ?_ ?_
   rotate_left
   ·intro w' s0
    have e0 : w'.cell? ⟨g2,0,none⟩ = some (.int .i64 a):=blk_cell s0 0
    go_simp
    with_reducible rfl
   rotate_left
   ·simp only [Act.put,List.setIfInBounds_toArray,List.set_cons_zero,List.set_cons_succ,i64_w,i32_w]
    rfl
   refine one_ (i:=4) (N:=some 18) #[true,true,true,true,true,false,false,false,false,false] rfl rfl (by kernel_rfl) (by decide) (fun K hK => ?_)
   refine Kd.S_make_step k87 (w0:=w) w.heap.size 87 (by rfl) rfl 28 (.tmp 17) (.tmp 17) rfl a rfl rfl Try.underlying28 (.agg #[(.int .i64 0),(.int .i64 0),(.int .i64 0),(.bool false),(.int .u32 0),(.bool false),(.int .i64 0),(.slice none 0 0)]) 72 info87 rfl (by decide) (by omega) z87 (ok:=fun _ => True) (okp:=fun _ => False) (k87_mkM wd w.heap.size _ z87 (Kd.R_nil _ _ _ _ _)) (fun _ hk => hk.elim) trivial (by have:=HC.out;omega) (by have:=HC.out;omega) HBd.out HBd.out.size ?_
   intro v5 w5 hs hb hg hn
   have HS5:=Lib.hid hs
   have HB5:=Lib.hid hb
   have HE5:=Lib.hid (below_grown hg (fun k e => by cases e))
   clear hs hb hg hn
   have HX5:=Lib.hid (blk_below HXd.out HE5.out)
   have HY5:=Lib.hid (blk_below HYd.out HE5.out)
   obtain ⟨Ab,cb,eb⟩:=Kd.S_slice HS5.out
   obtain ⟨nb,hnb⟩ : ∃ nb,nb = (List.replicate a.toNat z87).length:=⟨_,rfl⟩
   rw [← hnb] at eb
   subst eb
   have HNB:=Lib.hid hnb
   clear hnb
   have HRD : Hid (HRead w5 (⟨a,b,c,d,fs,List.replicate a.toNat z87, [], [],0,0⟩ : HV) [.int .i64 a, .int .i64 b, .int .i64 c, .int .i64 d, .slice A fs.length cf, .slice Ab nb cb, .slice none 0 0, .slice none 0 0, .int .i64 0, .int .i64 0]):=Lib.hid (by { obtain ⟨q1,q2,q3⟩:=Kd.S_reads' HS5.out;exact ⟨A,cf,Ab,cb,none,0,none,0,by rw [HNB.out];rfl,Kd.C_below RF.out HB5.out,LF.out,q3,by rw [← q1];exact q2,(Kd.S_reads' (Kd.S_nil k45 45 w5 0 (fun _ => True))).2.2,Nat.le_refl _,(Kd.S_reads' (Kd.S_nil k56 56 w5 0 (fun _ => True))).2.2,Nat.le_refl _⟩ })
   have HFT : Hid (HFits (⟨a,b,c,d,fs,List.replicate a.toNat z87, [], [],0,0⟩ : HV)):=Lib.hid (by have h1:=HC.out;have h2:=HF.out;exact ⟨⟨by show fs.length ≤ _;omega,by show (List.replicate a.toNat z87).length ≤ _;rw [List.length_replicate];omega,by simp,by simp,(fun y hy => by rw [(List.mem_replicate.1 hy).2];decide),(fun y hy => by cases hy),(fun y hy => by cases hy)⟩,⟨by show 0 ≤ b;omega,by show b ≤ _;omega⟩,⟨by show 0 ≤ d;omega,by show d ≤ _;omega⟩,by show (0 : Int) ≤ b;omega,by show (0 : Int) ≤ d;omega⟩)
   refine hK.out _ _ HX5.out (fun hHeld => ?_)
   clear hK K
   refine norm_ (a' := ?_) ?_ ?_
   rotate_left
   ·show Act.put _ (some 18) _ = _
    simp only [Act.put,List.setIfInBounds_toArray,List.set_cons_zero,List.set_cons_succ,i64_w,i32_w]
    rfl
   refine pure_ (i:=5) (N:=some 19) (v := ?_) (a' := ?_) #[true,true,true,true,true,true,false,false,false,false] rfl rfl (by kernel_rfl) (fun _ _ _ h => h) (Or.inl ⟨by rfl, ?_⟩) ?_ ?_
   rotate_left
   ·intro w'
    go_simp
    with_reducible rfl
   rotate_left
   ·simp only [Act.put,List.setIfInBounds_toArray,List.set_cons_zero,List.set_cons_succ,i64_w,i32_w]
    rfl
   refine one_ (i:=6) (N:=some 20) #[true,true,true,true,true,true,true,false,false,false] rfl rfl (by kernel_rfl) (by decide) (fun K hK => ?_)
   refine goes_ Try.func63 (by kernel_rfl) rfl #[.agg #[.int .i64 a, .int .i64 b, .int .i64 c, .int .i64 d, .slice A fs.length cf, .slice Ab nb cb, .slice none 0 0, .slice none 0 0, .int .i64 0, .int .i64 0]] (by rfl) rfl rfl (by (try simp only [List.map_toArray,List.map_cons,List.map_nil]);first | done | rfl) ?_
   refine (open_v w5 (⟨a,b,c,d,fs,List.replicate a.toNat z87, [], [],0,0⟩ : HV) _ HRD.out HFT.out).mono ?_
   rintro e w6 ⟨p,m,vf,vb,vq,ve,rfl,hs⟩
   refine ⟨_,rfl, ?_⟩
   have HS6:=Lib.hid hs
   have HX6:=Lib.hid (blk_below HX5.out hs.bel)
   have HY6:=Lib.hid (blk_below HY5.out hs.bel)
   have HB6:=Lib.hid (below_then HB5.out HB5.out.size hs.bel)
   clear hs
   refine hK.out _ _ HX6.out (fun hHeld => ?_)
   clear hK K
   refine norm_ (a' := ?_) ?_ ?_
   rotate_left
   ·show Act.put _ (some 20) _ = _
    simp only [Act.put,List.setIfInBounds_toArray,List.set_cons_zero,List.set_cons_succ,i64_w,i32_w]
    rfl
   refine one_ (i:=7) (N:=some 21) #[true,true,true,true,true,true,true,true,false,false] rfl rfl (by kernel_rfl) (by decide) (fun K hK => ?_)
   refine goes_ Try.func64 (by kernel_rfl) rfl #[.pointer (some ⟨p,0,none⟩)] (by rfl) rfl rfl (by (try simp only [List.map_toArray,List.map_cons,List.map_nil]);first | done | rfl) ?_
   obtain ⟨o6,hr6⟩:=HS6.out.rows
   refine (close_v w6 p m (⟨a,b,c,d,fs,List.replicate a.toNat z87, [], [],0,0⟩ : HV) _ _ vf vb vq ve HS6.out.blk hr6.read HFT.out.small).mono ?_
   rintro e w7 ⟨C,rfl,ho,hb⟩
   refine ⟨_,rfl, ?_⟩
   have HO7:=Lib.hid ho
   have HX7:=Lib.hid (blk_below HX6.out hb)
   have HY7:=Lib.hid (blk_below HY6.out hb)
   have HB7:=Lib.hid (below_then HB6.out HB6.out.size hb)
   clear ho hb
   refine hK.out _ _ HX7.out (fun hHeld => ?_)
   clear hK K
   refine norm_ (a' := ?_) ?_ ?_
   rotate_left
   ·show Act.put _ (some 21) _ = _
    simp only [Act.put,List.setIfInBounds_toArray,List.set_cons_zero,List.set_cons_succ,i64_w,i32_w]
    rfl
   refine last_ (i:=8) (N:=none) #[true,true,true,true,true,true,true,true,true,false] rfl rfl (by kernel_rfl) (by decide) (fun K hK => ?_)
   obtain ⟨vf7,vb7,vq7,ve7,o7,rfl,hr7⟩:=HO7.out
   have HR7:=Lib.hid hr7
   clear hr7
   refine st_blk (by rfl) rfl rfl (g:=g4) (j:=0) (cs := #[.int .i64 0, .int .i64 0, .int .i64 0, .int .i64 0, .slice none 0 0, .slice none 0 0, .slice none 0 0, .slice none 0 0, .int .i64 0, .int .i64 0]) (cs':=⟨hostC (⟨a,b,c,d,fs,List.replicate a.toNat z87, [], [],0,0⟩ : HV) vf7 vb7 vq7 ve7⟩) (T:=32) (u := .agg ⟨hostC (⟨a,b,c,d,fs,List.replicate a.toNat z87, [], [],0,0⟩ : HV) vf7 vb7 vq7 ve7⟩) (seg:=hostC (⟨a,b,c,d,fs,List.replicate a.toNat z87, [], [],0,0⟩ : HV) vf7 vb7 vq7 ve7) rfl rfl HY7.out rfl (by kernel_rfl) (List.all_eq_true.2 (k_oneR HR7.out)) rfl rfl ?_
   intro w8 hx8 hT8
   have HZ8:=Lib.hid hx8
   have HR8 : Hid (HRows w8 w6.heap.size (fun _ => True) o7 (⟨a,b,c,d,fs,List.replicate a.toNat z87, [], [],0,0⟩ : HV) vf7 vb7 vq7 ve7):=Lib.hid ((HR7.out.bound.tch hT8 (fun k hk => host_other HY7.out hk.2)).mono (fun _ _ => trivial))
   have HB8:=Lib.hid (hT8.below HB7.out HB7.out.size (fun k hk => by rw [hk];exact HGE.out))
   clear hx8 hT8
   refine hK.out _ _ ?_
   clear hK K
   refine pure_ (i:=9) (N:=some 5) (v := ?_) (a' := ?_) #[true,true,true,true,true,true,true,true,true,true] rfl rfl (by kernel_rfl) (fun _ _ _ h => h) (Or.inl ⟨by rfl, ?_⟩) ?_ ?_
   rotate_left
   ·intro w'
    go_simp
    with_reducible rfl
   rotate_left
   ·simp only [Act.put,List.setIfInBounds_toArray,List.set_cons_zero,List.set_cons_succ,i64_w,i32_w]
    rfl
   refine done_ (by kernel_rfl) ?_
   go_wp2_with (fail)
   refine bodyPost_ret (results_ct rfl _ _ g4 32 ⟨hostC (⟨a,b,c,d,fs,List.replicate a.toNat z87, [], [],0,0⟩ : HV) vf7 vb7 vq7 ve7⟩ (0,0) _ rfl HZ8.out Try.underlying32 rfl (by kernel_rfl)) rfl ?_
   exact ⟨_,rfl,⟨_,_,_,_,_,rfl,HR8.out.lower HB6.out.size⟩,HB8.out⟩
end Go.Proofs.Ytcaefabbcjlkdaa.P
