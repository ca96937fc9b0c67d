/- Texts of the proof of FnExactAbort, joined. -/
import Derived.Test.YtcaefabbcjlkdaaSFnExactAbort30
import Derived.Test.YtcaefabbcjlkdaaSFnExactAbort26
import Derived.Test.YtcaefabbcjlkdaaSFnExactAbort24
import Derived.Deep.RegionHeld
import Derived.Test.YtcaefabbcjlkdaaSFnExactAbort25
import Derived.Test.YtcaefabbcjlkdaaSFnExactAbort28
import Derived.Test.YtcaefabbcjlkdaaSFnExactAbort22
import Derived.Test.YtcaefabbcjlkdaaSFnExactAbort1
import Derived.Deep.QuietTactic
import Derived.BigQuiet
namespace Go.Proofs.Ytcaefabbcjlkdaa.P
open Go Go.RowKit Go.Proofs.YtcaefabbcjlkdaaW.PrintWords Go.Proofs.YtcaefabbcjlkdaaW.PrintLast Go.Proofs.YtcaefabbcjlkdaaW.PrintMore
set_option linter.unusedVariables false
set_option linter.unusedSimpArgs false
theorem Tch.less {w w' : World} {S S2 : Nat → Prop} (h : Tch w w' S) (hs : ∀ k,k < w.heap.size → S k → S2 k) : Tch w w' S2:=⟨h.os,h.tape,h.output,⟨h.kept.1,fun k hk hn => h.kept.2 k hk (fun e => hn (hs k hk e))⟩⟩
def postV (h : HV) (kind a b : Int) (x : S45) : HV:=if (h.ev.length : Int) < h.ce then { h with ev:=h.ev ++ [⟨kind,a,b,x⟩] } else { h with lost:=if h.lost < 100000 then h.lost + 1 else h.lost }
theorem postV_in {h : HV} {kind a b : Int} {x : S45} (c : (h.ev.length : Int) < h.ce) : postV h kind a b x = { h with ev:=h.ev ++ [⟨kind,a,b,x⟩] }:=if_pos c
theorem postV_out {h : HV} {kind a b : Int} {x : S45} (c : ¬ (h.ev.length : Int) < h.ce) : postV h kind a b x = { h with lost:=if h.lost < 100000 then h.lost + 1 else h.lost }:=if_neg c
theorem tch_mine {w w' : World} {base : Nat} (h : Tch w w' (fun k => Mine w base k ∨ w.heap.size ≤ k)) : Tch w w' (fun k => Mine w base k) :=
 h.less (fun k hl hk => hk.elim id (fun h => absurd h (by omega)))
theorem tch_later {w w1 w' : World} {base : Nat} (hb : Below w.heap.size w w1) (h : Tch w1 w' (fun k => Mine w1 base k)) : Tch w1 w' (fun k => Mine w base k ∨ w.heap.size ≤ k) :=
 h.mono (fun k hk => by
  by_cases c : k < w.heap.size
  ·obtain ⟨h1,h2,q,hq,cs,hc⟩:=hk
   exact .inl ⟨h1,c,q,hq,cs,by rw [← hb.block k c];exact hc⟩
  ·exact .inr (by omega))
theorem HRows.mineE {w : World} {base : Nat} {ok : Nat → Prop} {o : Nat → Nat} {h : HV} {vf vb vq ve : Value} (H : HRows w base ok o h vf vb vq ve) {k : Nat} (hk : ve.ownBlock = some k) : Mine w base k:=(S_own_ok H.bound.e hk).1.2
structure Posts (h : HV) : Prop where
 ev : h.ev.length ≤ 1000
 ce : 0 ≤ h.ce ∧ h.ce ≤ 100000
 lost : 0 ≤ h.lost ∧ h.lost ≤ 100000
set_option maxRecDepth 100000 in
set_option maxHeartbeats 4000000 in
theorem post_v (w0 w : World) (p m : Nat) (h : HV) (l1 : Int) (vf vb vq ve : Value) (f : Int → Option Int) (n : Nat) (H : SideP w0 w p m h l1 h.ce vf vb vq ve f n) (hp : Posts h) (kind a b : Int) (x : S45) (A : Option Addr) (c : Nat) (hr : (Kd.int .u8).C w A x.f4.length x.f4) (hc : x.f4.length ≤ c) (hl : x.f4.length ≤ 10000000) :
  Calls Try.prog 118 #[.pointer (some ⟨p,0,none⟩), .int .i64 kind, .int .i64 a, .int .i64 b, .agg #[.bool x.f0, .int .u32 x.f1, .bool x.f2, .int .i64 x.f3, .slice A x.f4.length c]] w fun e w' => e = .returned (.tuple #[]) ∧ ∃ ve',SideP w0 w' p m (postV h kind a b x) l1 h.ce vf vb vq ve' f n:=by
 have HS_0:=Lib.hid H
 have HP:=Lib.hid hp
 have GA:=Lib.hid hr
 have LA:=Lib.hid hc
 have HL:=Lib.hid hl
 obtain ⟨o,HRr⟩:=H.rows
 obtain ⟨Ae,ce,rfl⟩:=Kd.S_slice HRr.e
 have HRo:=Lib.hid HRr
 clear H hp hr hc hl HRr
 go_enter Try.func118,Try.ntmps118
 go_upto_region 1 with (first | ((with_reducible refine gate_dst (N:=9) rfl ?_);refine box_event ?hg (N:=9) ?hd (cs:=⟨[.bool x.f0, .int .u32 x.f1, .bool x.f2, .int .i64 x.f3, .slice A x.f4.length c]⟩) (t:=45) ?hr ?_;(case hd => rfl);(case hg => rfl);(case hr => first | (go_simp;done) | (go_simp;rfl));intro gx hg w1 hbox hb;have HGX:=Lib.hid hg;have HX1:=Lib.hid hbox;have HB1:=Lib.hid hb;clear hg hbox hb))
 obtain ⟨we,hwe⟩ : ∃ we,we = w1.drew:=⟨_,rfl⟩
 have HTE : Hid (Below w.heap.size w we):=by rw [hwe];exact Lib.hid (below_drew HB1.out)
 have HXE : Hid (we.heap[gx]? = some (.cells ⟨[.bool x.f0, .int .u32 x.f1, .bool x.f2, .int .i64 x.f3, .slice A x.f4.length c]⟩ 45 (0,0))):=by rw [hwe];exact Lib.hid (blk_drew HX1.out)
 clear HB1 HX1
 by_cases cc : (h.ev.length : Int) < h.ce
 ·have CC:=Lib.hid cc
  clear cc
  refine start_ (n:=11) (S:=fun w' : World => w'.heap[gx]? = some (.cells ⟨[.bool x.f0, .int .u32 x.f1, .bool x.f2, .int .i64 x.f3, .slice A x.f4.length c]⟩ 45 (0,0))) (ds := [9]) #[false,false,false,false,false,false,false,false,false,false,false] (by kernel_rfl) rfl rfl (hwe ▸ HXE.out) (fun hHeld => ?_)
  rw [← hwe] at hHeld ⊢
  clear hwe
  refine pure_ (i:=0) (N:=some 10) (v := ?_) (a' := ?_) #[true,false,false,false,false,false,false,false,false,false,false] rfl rfl (by kernel_rfl) (fun _ _ _ h => h) (Or.inl ⟨by rfl, ?_⟩) ?_ ?_
  rotate_left
  ·intro w'
   go_simp
   with_reducible rfl
  rotate_left
  ·simp only [Act.put,List.setIfInBounds_toArray,List.set_cons_zero,List.set_cons_succ,i64_w,i32_w]
   rfl
  refine pure_ (i:=1) (N:=some 11) (v := ?_) (a' := ?_) #[true,true,false,false,false,false,false,false,false,false,false] rfl rfl (by kernel_rfl) (fun _ _ _ h => h) (Or.inl ⟨by rfl, ?_⟩) ?_ ?_
  rotate_left
  ·intro w'
   go_simp
   with_reducible rfl
  rotate_left
  ·simp only [Act.put,List.setIfInBounds_toArray,List.set_cons_zero,List.set_cons_succ,i64_w,i32_w]
   rfl
  refine pure_ (i:=2) (N:=some 12) (v := ?_) (a' := ?_) #[true,true,true,false,false,false,false,false,false,false,false] rfl rfl (by kernel_rfl) (fun _ _ _ h => h) (Or.inl ⟨by rfl, ?_⟩) ?_ ?_
  rotate_left
  ·intro w'
   go_simp
   with_reducible rfl
  rotate_left
  ·simp only [Act.put,List.setIfInBounds_toArray,List.set_cons_zero,List.set_cons_succ,i64_w,i32_w]
   rfl
  refine pure_ (i:=3) (N:=some 13) (v := ?_) (a' := ?_) #[true,true,true,true,false,false,false,false,false,false,false] rfl rfl (by kernel_rfl) (fun _ _ _ h => h) (Or.inl ⟨by rfl, ?_⟩) ?_ ?_
  rotate_left
  ·intro w'
   go_simp
   with_reducible rfl
  rotate_left
  ·simp only [Act.put,List.setIfInBounds_toArray,List.set_cons_zero,List.set_cons_succ,i64_w,i32_w]
   rfl
  refine pure_ (i:=4) (N:=some 14) (v := ?_) (a' := ?_) #[true,true,true,true,true,false,false,false,false,false,false] rfl rfl (by kernel_rfl) (fun _ _ _ h => h) (Or.inl ⟨by rfl, ?_⟩) ?_ ?_
  rotate_left
  ·intro w'
   go_simp
   with_reducible rfl
  rotate_left
  ·simp only [Act.put,List.setIfInBounds_toArray,List.set_cons_zero,List.set_cons_succ,i64_w,i32_w]
   rfl
  refine pure_ (i:=5) (N:=some 15) (v := ?_) (a' := ?_) #[true,true,true,true,true,true,false,false,false,false,false] rfl rfl (by kernel_rfl) (fun _ _ _ h => h) (Or.inl ⟨by rfl, ?_⟩) ?_ ?_
  rotate_left
  ·intro w'
   go_simp
   with_reducible rfl
  rotate_left
  ·simp only [Act.put,List.setIfInBounds_toArray,List.set_cons_zero,List.set_cons_succ,i64_w,i32_w]
   rfl
  refine take_ (i:=6) (N:=some 16) (v := ?_) (a' := ?_) #[true,true,true,true,true,true,true,false,false,false,false] rfl rfl (by kernel_rfl) (fun _ _ _ h => h) (Or.inl ⟨by rfl, ?_⟩) hHeld ?_ ?_
  rotate_left
  ·intro w' s0
   have e0 : w'.cell? ⟨gx,0,none⟩ = some (.bool x.f0):=blk_cell s0 0
   have e1 : w'.cell? ⟨gx,1,none⟩ = some (.int .u32 x.f1):=blk_cell s0 1
   have e2 : w'.cell? ⟨gx,2,none⟩ = some (.bool x.f2):=blk_cell s0 2
   have e3 : w'.cell? ⟨gx,3,none⟩ = some (.int .i64 x.f3):=blk_cell s0 3
   have e4 : w'.cell? ⟨gx,4,none⟩ = some (.slice A x.f4.length c):=blk_cell s0 4
   go_simp
   with_reducible rfl
  rotate_left
  ·simp only [Act.put,List.setIfInBounds_toArray,List.set_cons_zero,List.set_cons_succ,i64_w,i32_w]
   rfl
  refine one_ (i:=7) (N:=some 17) #[true,true,true,true,true,true,true,true,false,false,false] rfl rfl (by kernel_rfl) (by decide) (fun K hK => ?_)
  refine goes_ Try.func111 (by kernel_rfl) rfl #[.agg #[.bool x.f0, .int .u32 x.f1, .bool x.f2, .int .i64 x.f3, .slice A x.f4.length c]] (by rfl) rfl rfl (by (try simp only [List.map_toArray,List.map_cons,List.map_nil]);first | done | rfl) ?_
  refine (copyFrame_v x A c we (Kd.C_below GA.out HTE.out) LA.out HL.out).mono ?_
  rintro e wf ⟨A9,c9,rfl,hr9,hb9⟩
  refine ⟨_,rfl, ?_⟩
  have HR9:=Lib.hid hr9
  have HTF:=Lib.hid (below_then HTE.out HTE.out.size hb9)
  have HXF:=Lib.hid (blk_below HXE.out hb9)
  have HSF:=Lib.hid (HS_0.out.below HTF.out)
  clear hr9 hb9
  refine hK.out _ _ HXF.out (fun hHeld => ?_)
  clear hK K
  refine norm_ (a' := ?_) ?_ ?_
  rotate_left
  ·show Act.put _ (some 17) _ = _
   simp only [Act.put,List.setIfInBounds_toArray,List.set_cons_zero,List.set_cons_succ,i64_w,i32_w]
   rfl
  refine pure_ (i:=8) (N:=some 18) (v := ?_) (a' := ?_) #[true,true,true,true,true,true,true,true,true,false,false] rfl rfl (by kernel_rfl) (fun _ _ _ h => h) (Or.inl ⟨by rfl, ?_⟩) ?_ ?_
  rotate_left
  ·intro w'
   go_simp
   with_reducible rfl
  rotate_left
  ·simp only [Act.put,List.setIfInBounds_toArray,List.set_cons_zero,List.set_cons_succ,i64_w,i32_w]
   rfl
  refine last_ (i:=9) (N:=some 19) #[true,true,true,true,true,true,true,true,true,true,false] rfl rfl (by kernel_rfl) (by decide) (fun K hK => ?_)
  refine goes_ Try.func140 (by kernel_rfl) rfl #[.pointer (some ⟨p,9,none⟩), .agg #[.int .i64 kind, .int .i64 a, .int .i64 b, .bool x.f0, .int .u32 x.f1, .bool x.f2, .int .i64 x.f3, .slice A9 x.f4.length c9]] (by rfl) rfl rfl (by (try simp only [List.map_toArray,List.map_cons,List.map_nil]);first | done | rfl) ?_
  refine (pushE_v w0 wf p 9 (sideP h m l1 h.ce vf vb vq (.slice Ae h.ev.length ce)) 128 h.ce (.slice Ae h.ev.length ce) h.ev ⟨kind,a,b,x⟩ [.int .i64 kind, .int .i64 a, .int .i64 b, .bool x.f0, .int .u32 x.f1, .bool x.f2, .int .i64 x.f3, .slice A9 x.f4.length c9] (fun k => o k = 3 ∧ k < w.heap.size) (fun k => w.heap.size ≤ k) HSF.out.bel HSF.out.blk HSF.out.hp ⟨by decide,by decide⟩ rfl rfl HP.out.ce (Nat.le_trans HP.out.ev (by decide)) (Kd.S_mono (Kd.S_below (S_lt_own HRo.out.e) HTF.out) (fun k hk => ⟨hk.1.2,hk.2⟩)) (k56_mkM wf w0.heap.size _ ⟨kind,a,b,x⟩ (Kd.R_lower (Kd.R_mono HR9.out (fun k hk => Nat.le_trans HTE.out.size hk)) (Nat.le_trans HS_0.out.bel.size HTE.out.size))) (fun k h1 h2 => by have:=h2.2;omega)).mono ?_
  rintro e w3 ⟨h1,_⟩
  obtain ⟨rfl,v3,hx3,hS3,hT3⟩:=h1 CC.out
  refine ⟨_,rfl, ?_⟩
  have HS3:=Lib.hid (HS_0.out.newE (x' := { h with ev:=h.ev ++ [⟨kind,a,b,x⟩] }) HRo.out HTF.out hT3 hx3 rfl (Kd.S_mono hS3 (fun k hk => by rcases hk with hk | hk | hk;exact .inl hk;exact .inr hk;exact .inr (Nat.le_trans HTF.out.size hk))))
  clear h1 hx3 hS3 hT3
  refine hK.out _ _ ?_
  clear hK K
  refine norm_ (a' := ?_) ?_ ?_
  rotate_left
  ·show Act.put _ (some 19) _ = _
   simp only [Act.put,List.setIfInBounds_toArray,List.set_cons_zero,List.set_cons_succ,i64_w,i32_w]
   rfl
  refine pure_ (i:=10) (N:=some 20) (v := ?_) (a' := ?_) #[true,true,true,true,true,true,true,true,true,true,true] rfl rfl (by kernel_rfl) (fun _ _ _ h => h) (Or.inl ⟨by rfl, ?_⟩) ?_ ?_
  rotate_left
  ·intro w'
   go_simp
   with_reducible rfl
  rotate_left
  ·simp only [Act.put,List.setIfInBounds_toArray,List.set_cons_zero,List.set_cons_succ,i64_w,i32_w]
   rfl
  refine done_ (by kernel_rfl) ?_
  go_wp2_with (fail)
  go_end0
  exact ⟨rfl,_,by rw [postV_in CC.out];exact HS3.out⟩
 ·have CC:=Lib.hid cc
  clear cc
  refine start_ (n:=11) (S:=fun w' : World => w'.heap[gx]? = some (.cells ⟨[.bool x.f0, .int .u32 x.f1, .bool x.f2, .int .i64 x.f3, .slice A x.f4.length c]⟩ 45 (0,0))) (ds := [9]) #[false,false,false,false,false,false,false,false,false,false,false] (by kernel_rfl) rfl rfl (hwe ▸ HXE.out) (fun hHeld => ?_)
  rw [← hwe] at hHeld ⊢
  clear hwe
  refine pure_ (i:=0) (N:=some 10) (v := ?_) (a' := ?_) #[true,false,false,false,false,false,false,false,false,false,false] rfl rfl (by kernel_rfl) (fun _ _ _ h => h) (Or.inl ⟨by rfl, ?_⟩) ?_ ?_
  rotate_left
  ·intro w'
   go_simp
   with_reducible rfl
  rotate_left
  ·simp only [Act.put,List.setIfInBounds_toArray,List.set_cons_zero,List.set_cons_succ,i64_w,i32_w]
   rfl
  refine pure_ (i:=1) (N:=some 11) (v := ?_) (a' := ?_) #[true,true,false,false,false,false,false,false,false,false,false] rfl rfl (by kernel_rfl) (fun _ _ _ h => h) (Or.inl ⟨by rfl, ?_⟩) ?_ ?_
  rotate_left
  ·intro w'
   go_simp
   with_reducible rfl
  rotate_left
  ·simp only [Act.put,List.setIfInBounds_toArray,List.set_cons_zero,List.set_cons_succ,i64_w,i32_w]
   rfl
  refine pure_ (i:=2) (N:=some 12) (v := ?_) (a' := ?_) #[true,true,true,false,false,false,false,false,false,false,false] rfl rfl (by kernel_rfl) (fun _ _ _ h => h) (Or.inl ⟨by rfl, ?_⟩) ?_ ?_
  rotate_left
  ·intro w'
   go_simp
   with_reducible rfl
  rotate_left
  ·simp only [Act.put,List.setIfInBounds_toArray,List.set_cons_zero,List.set_cons_succ,i64_w,i32_w]
   rfl
  refine pure_ (i:=3) (N:=some 13) (v := ?_) (a' := ?_) #[true,true,true,true,false,false,false,false,false,false,false] rfl rfl (by kernel_rfl) (fun _ _ _ h => h) (Or.inl ⟨by rfl, ?_⟩) ?_ ?_
  rotate_left
  ·intro w'
   go_simp
   with_reducible rfl
  rotate_left
  ·simp only [Act.put,List.setIfInBounds_toArray,List.set_cons_zero,List.set_cons_succ,i64_w,i32_w]
   rfl
  refine pure_ (i:=4) (N:=some 14) (v := ?_) (a' := ?_) #[true,true,true,true,true,false,false,false,false,false,false] rfl rfl (by kernel_rfl) (fun _ _ _ h => h) (Or.inl ⟨by rfl, ?_⟩) ?_ ?_
  rotate_left
  ·intro w'
   go_simp
   with_reducible rfl
  rotate_left
  ·simp only [Act.put,List.setIfInBounds_toArray,List.set_cons_zero,List.set_cons_succ,i64_w,i32_w]
   rfl
  refine pure_ (i:=5) (N:=some 15) (v := ?_) (a' := ?_) #[true,true,true,true,true,true,false,false,false,false,false] rfl rfl (by kernel_rfl) (fun _ _ _ h => h) (Or.inl ⟨by rfl, ?_⟩) ?_ ?_
  rotate_left
  ·intro w'
   go_simp
   with_reducible rfl
  rotate_left
  ·simp only [Act.put,List.setIfInBounds_toArray,List.set_cons_zero,List.set_cons_succ,i64_w,i32_w]
   rfl
  refine take_ (i:=6) (N:=some 16) (v := ?_) (a' := ?_) #[true,true,true,true,true,true,true,false,false,false,false] rfl rfl (by kernel_rfl) (fun _ _ _ h => h) (Or.inl ⟨by rfl, ?_⟩) hHeld ?_ ?_
  rotate_left
  ·intro w' s0
   have e0 : w'.cell? ⟨gx,0,none⟩ = some (.bool x.f0):=blk_cell s0 0
   have e1 : w'.cell? ⟨gx,1,none⟩ = some (.int .u32 x.f1):=blk_cell s0 1
   have e2 : w'.cell? ⟨gx,2,none⟩ = some (.bool x.f2):=blk_cell s0 2
   have e3 : w'.cell? ⟨gx,3,none⟩ = some (.int .i64 x.f3):=blk_cell s0 3
   have e4 : w'.cell? ⟨gx,4,none⟩ = some (.slice A x.f4.length c):=blk_cell s0 4
   go_simp
   with_reducible rfl
  rotate_left
  ·simp only [Act.put,List.setIfInBounds_toArray,List.set_cons_zero,List.set_cons_succ,i64_w,i32_w]
   rfl
  refine one_ (i:=7) (N:=some 17) #[true,true,true,true,true,true,true,true,false,false,false] rfl rfl (by kernel_rfl) (by decide) (fun K hK => ?_)
  refine goes_ Try.func111 (by kernel_rfl) rfl #[.agg #[.bool x.f0, .int .u32 x.f1, .bool x.f2, .int .i64 x.f3, .slice A x.f4.length c]] (by rfl) rfl rfl (by (try simp only [List.map_toArray,List.map_cons,List.map_nil]);first | done | rfl) ?_
  refine (copyFrame_v x A c we (Kd.C_below GA.out HTE.out) LA.out HL.out).mono ?_
  rintro e wf ⟨A9,c9,rfl,hr9,hb9⟩
  refine ⟨_,rfl, ?_⟩
  have HR9:=Lib.hid hr9
  have HTF:=Lib.hid (below_then HTE.out HTE.out.size hb9)
  have HXF:=Lib.hid (blk_below HXE.out hb9)
  have HSF:=Lib.hid (HS_0.out.below HTF.out)
  clear hr9 hb9
  refine hK.out _ _ HXF.out (fun hHeld => ?_)
  clear hK K
  refine norm_ (a' := ?_) ?_ ?_
  rotate_left
  ·show Act.put _ (some 17) _ = _
   simp only [Act.put,List.setIfInBounds_toArray,List.set_cons_zero,List.set_cons_succ,i64_w,i32_w]
   rfl
  refine pure_ (i:=8) (N:=some 18) (v := ?_) (a' := ?_) #[true,true,true,true,true,true,true,true,true,false,false] rfl rfl (by kernel_rfl) (fun _ _ _ h => h) (Or.inl ⟨by rfl, ?_⟩) ?_ ?_
  rotate_left
  ·intro w'
   go_simp
   with_reducible rfl
  rotate_left
  ·simp only [Act.put,List.setIfInBounds_toArray,List.set_cons_zero,List.set_cons_succ,i64_w,i32_w]
   rfl
  refine last_ (i:=9) (N:=some 19) #[true,true,true,true,true,true,true,true,true,true,false] rfl rfl (by kernel_rfl) (by decide) (fun K hK => ?_)
  refine goes_ Try.func140 (by kernel_rfl) rfl #[.pointer (some ⟨p,9,none⟩), .agg #[.int .i64 kind, .int .i64 a, .int .i64 b, .bool x.f0, .int .u32 x.f1, .bool x.f2, .int .i64 x.f3, .slice A9 x.f4.length c9]] (by rfl) rfl rfl (by (try simp only [List.map_toArray,List.map_cons,List.map_nil]);first | done | rfl) ?_
  refine (pushE_v w0 wf p 9 (sideP h m l1 h.ce vf vb vq (.slice Ae h.ev.length ce)) 128 h.ce (.slice Ae h.ev.length ce) h.ev ⟨kind,a,b,x⟩ [.int .i64 kind, .int .i64 a, .int .i64 b, .bool x.f0, .int .u32 x.f1, .bool x.f2, .int .i64 x.f3, .slice A9 x.f4.length c9] (fun k => o k = 3 ∧ k < w.heap.size) (fun k => w.heap.size ≤ k) HSF.out.bel HSF.out.blk HSF.out.hp ⟨by decide,by decide⟩ rfl rfl HP.out.ce (Nat.le_trans HP.out.ev (by decide)) (Kd.S_mono (Kd.S_below (S_lt_own HRo.out.e) HTF.out) (fun k hk => ⟨hk.1.2,hk.2⟩)) (k56_mkM wf w0.heap.size _ ⟨kind,a,b,x⟩ (Kd.R_lower (Kd.R_mono HR9.out (fun k hk => Nat.le_trans HTE.out.size hk)) (Nat.le_trans HS_0.out.bel.size HTE.out.size))) (fun k h1 h2 => by have:=h2.2;omega)).mono ?_
  rintro e w3 ⟨_,h1⟩
  obtain ⟨rfl,hb3⟩:=h1 (by have:=CC.out;omega)
  refine ⟨_,rfl, ?_⟩
  have HS3:=Lib.hid (HSF.out.below hb3)
  clear h1 hb3
  refine hK.out _ _ ?_
  clear hK K
  refine norm_ (a' := ?_) ?_ ?_
  rotate_left
  ·show Act.put _ (some 19) _ = _
   simp only [Act.put,List.setIfInBounds_toArray,List.set_cons_zero,List.set_cons_succ,i64_w,i32_w]
   rfl
  refine pure_ (i:=10) (N:=some 20) (v := ?_) (a' := ?_) #[true,true,true,true,true,true,true,true,true,true,true] rfl rfl (by kernel_rfl) (fun _ _ _ h => h) (Or.inl ⟨by rfl, ?_⟩) ?_ ?_
  rotate_left
  ·intro w'
   go_simp
   with_reducible rfl
  rotate_left
  ·simp only [Act.put,List.setIfInBounds_toArray,List.set_cons_zero,List.set_cons_succ,i64_w,i32_w]
   rfl
  refine done_ (by kernel_rfl) ?_
  have y11 : w3.cell? ⟨p,11,none⟩ = some (.int .i64 h.lost):=blk_cell HS3.out.blk 11
  by_cases c2 : h.lost < 100000
  ·have hw : wrap64 (h.lost + 1) = h.lost + 1:=by have:=HP.out.lost;unfold wrap64;omega
   have c3 : ((100000 : Int) < wrap64 (h.lost + 1)) = False:=eq_false (by rw [hw];omega)
   have HWR:=Lib.hid hw
   have C2:=Lib.hid c2
   clear c2 hw
   go_wp2_with (first | ((with_reducible refine gate_store (t:=3) (p:=29) rfl ?_);refine store_box rfl rfl rfl (g:=p) (j:=11) (cs:=(sideP h m l1 h.ce vf vb vq (.slice Ae h.ev.length ce))) (cs':=(sideP { h with lost:=h.lost + 1 } m l1 h.ce vf vb vq (.slice Ae h.ev.length ce))) (T:=128) (u := .int .i64 (wrap64 (h.lost + 1))) (seg := [.int .i64 (wrap64 (h.lost + 1))]) rfl rfl HS3.out.blk rfl (by kernel_rfl) rfl rfl (by rw [HWR.out];rfl) ?_;intro w4 hx hT;have HS4 : Hid (SideP w0 w4 p m { h with lost:=h.lost + 1 } l1 h.ce vf vb vq (.slice Ae h.ev.length ce) f n):=Lib.hid (HS3.out.put hT hx rfl rfl rfl rfl);clear hx hT))
   go_end0
   exact ⟨rfl,_,by rw [postV_out (Int.not_lt.2 CC.out),if_pos C2.out];exact HS4.out⟩
  ·have he : h.lost = 100000:=by have:=HP.out.lost;omega
   have hw : wrap64 (h.lost + 1) = 100001:=by rw [he];unfold wrap64;omega
   have c3 : ((100000 : Int) < wrap64 (h.lost + 1)) = True:=eq_true (by rw [hw];omega)
   have HE:=Lib.hid he
   clear c2 hw he
   go_wp2_with (first | ((with_reducible refine gate_store (t:=3) (p:=29) rfl ?_);refine store_box rfl rfl rfl (g:=p) (j:=11) (cs:=(sideP h m l1 h.ce vf vb vq (.slice Ae h.ev.length ce))) (cs':=(sideP { h with lost:=100000 } m l1 h.ce vf vb vq (.slice Ae h.ev.length ce))) (T:=128) (u := .int .i64 (100000)) (seg := [.int .i64 (100000)]) rfl rfl HS3.out.blk rfl (by kernel_rfl) rfl rfl (by rfl) ?_;intro w4 hx hT;have HS4 : Hid (SideP w0 w4 p m { h with lost:=100000 } l1 h.ce vf vb vq (.slice Ae h.ev.length ce) f n):=Lib.hid (HS3.out.put hT hx rfl rfl rfl rfl);clear hx hT))
   go_end0
   exact ⟨rfl,_,by rw [postV_out (Int.not_lt.2 CC.out),if_neg (by rw [HE.out];decide),HE.out];exact HS4.out⟩
set_option maxRecDepth 100000 in
set_option maxHeartbeats 4000000 in
theorem l3post_v (w0 w : World) (hB : Below w0.heap.size w0 w) (h : HV) (C : List Value) (hO : HOwn w w0.heap.size (fun _ => True) h C) (hp : Posts h) (kind a b : Int) (x : S45) (A : Option Addr) (c : Nat) (hr : (Kd.int .u8).C w A x.f4.length x.f4) (hc : x.f4.length ≤ c) (hl : x.f4.length ≤ 10000000) :
  Calls Try.prog 135 #[.agg ⟨C⟩, .int .i64 kind, .int .i64 a, .int .i64 b, .agg #[.bool x.f0, .int .u32 x.f1, .bool x.f2, .int .i64 x.f3, .slice A x.f4.length c]] w fun e w' => ∃ C',e = .returned (.agg ⟨C'⟩) ∧ HOwn w' w0.heap.size (fun _ => True) (postV h kind a b x) C' ∧ Below w0.heap.size w0 w' ∧ Tch w w' (fun k => Mine w w0.heap.size k):=by
 obtain ⟨vf,vb,vq,ve,o,rfl,HRr⟩:=hO
 have HP:=Lib.hid hp
 have GA:=Lib.hid hr
 have LA:=Lib.hid hc
 have HL:=Lib.hid hl
 obtain ⟨Ae,ce,rfl⟩:=Kd.S_slice HRr.e
 have HRo:=Lib.hid HRr
 have HB_0:=Lib.hid hB
 have HW_0 : Hid (Below w.heap.size w w):=Lib.hid (Below.refl _ _)
 have hu:=Lib.hid Try.underlying32
 clear hp hr hc hl HRr hB
 go_enter Try.func135,Try.ntmps135
 go_upto_region 1 with (first | ((with_reducible refine gate_dst (N:=5) rfl ?_);refine box_event ?hg (N:=5) ?hd (cs:=⟨hostC h vf vb vq (.slice Ae h.ev.length ce)⟩) (t:=32) ?hr ?_;(case hd => rfl);(case hg => rfl);(case hr => first | (go_simp;done) | (go_simp;rfl));intro g1 hg w1 hbox hb;have LO_HB_g1 : Hid (w0.heap.size ≤ g1):=Lib.hid (by rw [hg];exact HB_0.out.size);have LO_HW_g1 : Hid (w.heap.size ≤ g1):=Lib.hid (by rw [hg];exact HW_0.out.size);have HEg1:=Lib.hid hg;have HB_1:=Lib.hid (below_then HB_0.out HB_0.out.size hb);have HW_1:=Lib.hid (below_then HW_0.out HW_0.out.size hb);have Xg1_1:=Lib.hid hbox;clear hg hbox hb) | ((with_reducible refine gate_dst (N:=9) rfl ?_);refine box_event ?hg (N:=9) ?hd (cs:=⟨[.bool x.f0, .int .u32 x.f1, .bool x.f2, .int .i64 x.f3, .slice A x.f4.length c]⟩) (t:=45) ?hr ?_;(case hd => rfl);(case hg => rfl);(case hr => first | (go_simp;done) | (go_simp;rfl));intro gx hg w2 hbox hb;have LO_HB_gx : Hid (w0.heap.size ≤ gx):=Lib.hid (by rw [hg];exact HB_1.out.size);have LO_HW_gx : Hid (w.heap.size ≤ gx):=Lib.hid (by rw [hg];exact HW_1.out.size);have NE_g1_gx : Hid (g1 ≠ gx):=Lib.hid (fun e => by have h1:=blk_lt Xg1_1.out;omega);have HEgx:=Lib.hid hg;have HB_2:=Lib.hid (below_then HB_1.out HB_1.out.size hb);have HW_2:=Lib.hid (below_then HW_1.out HW_1.out.size hb);have Xg1_2:=Lib.hid (blk_below Xg1_1.out hb);have Xgx_2:=Lib.hid hbox;clear hg hbox hb) | ((with_reducible refine gate_dst (N:=10) rfl ?_);refine box_event ?hg (N:=10) ?hd (cs:=⟨[.int .i64 0, .int .i64 0, .int .i64 0, .int .i64 0, .slice none 0 0, .slice none 0 0, .slice none 0 0, .slice none 0 0, .int .i64 0, .int .i64 0]⟩) (t:=32) ?hr ?_;(case hd => rfl);(case hg => rfl);(case hr => first | (go_simp;done) | (go_simp;rfl));intro g2 hg w3 hbox hb;have LO_HB_g2 : Hid (w0.heap.size ≤ g2):=Lib.hid (by rw [hg];exact HB_2.out.size);have LO_HW_g2 : Hid (w.heap.size ≤ g2):=Lib.hid (by rw [hg];exact HW_2.out.size);have NE_g1_g2 : Hid (g1 ≠ g2):=Lib.hid (fun e => by have h1:=blk_lt Xg1_2.out;omega);have NE_gx_g2 : Hid (gx ≠ g2):=Lib.hid (fun e => by have h1:=blk_lt Xgx_2.out;omega);have HEg2:=Lib.hid hg;have HB_3:=Lib.hid (below_then HB_2.out HB_2.out.size hb);have HW_3:=Lib.hid (below_then HW_2.out HW_2.out.size hb);have Xg1_3:=Lib.hid (blk_below Xg1_2.out hb);have Xgx_3:=Lib.hid (blk_below Xgx_2.out hb);have Xg2_3:=Lib.hid hbox;clear hg hbox hb))
 have TT_3 : Hid (Tch w w3 (fun k => Mine w w0.heap.size k ∨ w.heap.size ≤ k)):=Lib.hid (Tch.of_below _ HW_3.out)
 have HP_3 : Hid (HostP w0 w3 g1 h vf vb vq (.slice Ae h.ev.length ce)):=Lib.hid ⟨HB_3.out,Xg1_3.out,⟨o,HRo.out.below HW_3.out⟩,LO_HB_g1.out⟩
 have y7 : w3.cell? ⟨g1,7,none⟩ = some (.slice Ae h.ev.length ce):=blk_cell Xg1_3.out 7
 have y3 : w3.cell? ⟨g1,3,none⟩ = some (.int .i64 h.ce):=blk_cell Xg1_3.out 3
 have y8 : w3.cell? ⟨g1,8,none⟩ = some (.int .i64 h.lost):=blk_cell Xg1_3.out 8
 by_cases cc : (h.ev.length : Int) < h.ce
 rotate_left
 ·have c1 : decide ((h.ev.length : Int) ≥ h.ce) = true:=decide_eq_true (by omega)
  have CC:=Lib.hid cc
  clear cc
  by_cases c2 : h.lost < 100000
  rotate_left
  ·have c3 : decide (h.lost < 100000) = false:=decide_eq_false c2
   have C2:=Lib.hid c2
   clear c2
   go_wp2_with (first | ((with_reducible refine gate_dst (N:=25) rfl ?_);refine load_all rfl rfl (g:=g1) rfl HP_3.out.blk hu.out (by kernel_rfl) ?_) | ((with_reducible refine gate_store (t:=32) (p:=10) rfl ?_);refine store_all rfl rfl rfl (g:=g2) (C:=hostC h vf vb vq (.slice Ae h.ev.length ce)) rfl rfl Xg2_3.out (by kernel_rfl) ?hone rfl ?_;(case hone => exact HRead.one (HostP.read HP_3.out));intro wz hx hT;have HZX:=Lib.hid hx;have HZO:=Lib.hid (HostP.own2 HP_3.out hT Xg2_3.out);have HZB:=Lib.hid (hT.below HP_3.out.bel HP_3.out.bel.size (fun k hk => by rw [hk];exact LO_HB_g2.out));have HZT:=Lib.hid (tch_mine (TT_3.out.trans (hT.mono (fun k hk => .inr (by rw [hk];exact LO_HW_g2.out)))));clear hx hT))
   refine bodyPost_ret (results_cell_row rfl _ _ g2 32 ⟨hostC h vf vb vq (.slice Ae h.ev.length ce)⟩ (0,0) _ rfl HZX.out Try.underlying32 rfl (by kernel_rfl)) rfl ?_
   exact ⟨_,rfl,by rw [postV_out (Int.not_lt.2 CC.out),if_neg (Int.not_lt.2 C2.out)];exact HZO.out,HZB.out,HZT.out⟩
  have c3 : decide (h.lost < 100000) = true:=decide_eq_true c2
  have hw : wrap64 (h.lost + 1) = h.lost + 1:=by have:=HP.out.lost;unfold wrap64;omega
  have HWR:=Lib.hid hw
  have C2:=Lib.hid c2
  clear c2 hw
  go_upto_region 4 with (first | ((with_reducible refine gate_store (t:=3) (p:=24) rfl ?_);refine store_box rfl rfl rfl (g:=g1) (j:=8) (cs:=⟨hostC h vf vb vq (.slice Ae h.ev.length ce)⟩) (cs':=⟨hostC ({ h with lost:=h.lost + 1 } : HV) vf vb vq (.slice Ae h.ev.length ce)⟩) (T:=32) (u := .int .i64 (wrap64 (h.lost + 1))) (seg := [.int .i64 (wrap64 (h.lost + 1))]) rfl rfl HP_3.out.blk rfl (by kernel_rfl) rfl rfl (by rw [HWR.out];rfl) ?_;intro w4 hx hT;have HP_4:=Lib.hid (HP_3.out.put (x':=({ h with lost:=h.lost + 1 } : HV)) hT hx rfl rfl rfl rfl);have Xg2_4:=Lib.hid (hT.blk Xg2_3.out (fun e => NE_g1_g2.out e.symm));have TT_4:=Lib.hid (TT_3.out.trans (hT.mono (fun k hk => .inr (by rw [hk];exact LO_HW_g1.out))));clear hx hT))
  clear y7 y3 y8
  go_wp2_with (first | ((with_reducible refine gate_dst (N:=25) rfl ?_);refine load_all rfl rfl (g:=g1) rfl HP_4.out.blk hu.out (by kernel_rfl) ?_) | ((with_reducible refine gate_store (t:=32) (p:=10) rfl ?_);refine store_all rfl rfl rfl (g:=g2) (C:=hostC ({ h with lost:=h.lost + 1 } : HV) vf vb vq (.slice Ae h.ev.length ce)) rfl rfl Xg2_4.out (by kernel_rfl) ?hone rfl ?_;(case hone => exact HRead.one (HostP.read HP_4.out));intro wz hx hT;have HZX:=Lib.hid hx;have HZO:=Lib.hid (HostP.own2 HP_4.out hT Xg2_4.out);have HZB:=Lib.hid (hT.below HP_4.out.bel HP_4.out.bel.size (fun k hk => by rw [hk];exact LO_HB_g2.out));have HZT:=Lib.hid (tch_mine (TT_4.out.trans (hT.mono (fun k hk => .inr (by rw [hk];exact LO_HW_g2.out)))));clear hx hT))
  refine bodyPost_ret (results_cell_row rfl _ _ g2 32 ⟨hostC ({ h with lost:=h.lost + 1 } : HV) vf vb vq (.slice Ae h.ev.length ce)⟩ (0,0) _ rfl HZX.out Try.underlying32 rfl (by kernel_rfl)) rfl ?_
  exact ⟨_,rfl,by rw [postV_out (Int.not_lt.2 CC.out),if_pos C2.out];exact HZO.out,HZB.out,HZT.out⟩
 have c1 : decide ((h.ev.length : Int) ≥ h.ce) = false:=decide_eq_false (by omega)
 have CC:=Lib.hid cc
 clear cc
 go_upto_region 5 with (fail)
 clear y7 y3 y8 c1
 obtain ⟨we,hwe⟩ : ∃ we,we = w3.drew:=⟨_,rfl⟩
 have hbd : Below w3.heap.size w3 we:=by rw [hwe];exact below_drew (Below.refl _ _)
 have HTE:=Lib.hid (below_then HW_3.out HW_3.out.size hbd)
 have HPE:=Lib.hid (HP_3.out.below hbd)
 have X2E:=Lib.hid (blk_below Xg2_3.out hbd)
 have XXE:=Lib.hid (blk_below Xgx_3.out hbd)
 clear hbd
 have HR3:=Lib.hid (HRo.out.below HW_3.out)
 have HT3E : Hid (Below w3.heap.size w3 we):=by rw [hwe];exact Lib.hid (below_drew (Below.refl _ _))
 refine start_ (n:=12) (S:=fun w' : World => w'.heap[g1]? = some (.cells ⟨hostC h vf vb vq (.slice Ae h.ev.length ce)⟩ 32 (0,0)) ∧ w'.heap[gx]? = some (.cells ⟨[.bool x.f0, .int .u32 x.f1, .bool x.f2, .int .i64 x.f3, .slice A x.f4.length c]⟩ 45 (0,0))) (ds := [11]) #[false,false,false,false,false,false,false,false,false,false,false,false] (by kernel_rfl) rfl rfl (hwe ▸ ⟨HPE.out.blk,XXE.out⟩) (fun hHeld => ?_)
 rw [← hwe] at hHeld ⊢
 clear hwe
 refine pure_ (i:=0) (N:=some 26) (v := ?_) (a' := ?_) #[true,false,false,false,false,false,false,false,false,false,false,false] rfl rfl (by kernel_rfl) (fun _ _ _ h => h) (Or.inl ⟨by rfl, ?_⟩) ?_ ?_
 rotate_left
 ·intro w'
  go_simp
  with_reducible rfl
 rotate_left
 ·simp only [Act.put,List.setIfInBounds_toArray,List.set_cons_zero,List.set_cons_succ,i64_w,i32_w]
  rfl
 refine take_ (i:=1) (N:=some 27) (v := ?_) (a' := ?_) #[true,true,false,false,false,false,false,false,false,false,false,false] rfl rfl (by kernel_rfl) (fun _ _ _ h => h) (Or.inl ⟨by rfl, ?_⟩) hHeld ?_ ?_
 rotate_left
 ·rintro w' ⟨s0,s1⟩
  have e0 : w'.cell? ⟨g1,7,none⟩ = some (.slice Ae h.ev.length ce):=blk_cell s0 7
  go_simp
  with_reducible rfl
 rotate_left
 ·simp only [Act.put,List.setIfInBounds_toArray,List.set_cons_zero,List.set_cons_succ,i64_w,i32_w]
  rfl
 refine pure_ (i:=2) (N:=some 28) (v := ?_) (a' := ?_) #[true,true,true,false,false,false,false,false,false,false,false,false] rfl rfl (by kernel_rfl) (fun _ _ _ h => h) (Or.inl ⟨by rfl, ?_⟩) ?_ ?_
 rotate_left
 ·intro w'
  go_simp
  with_reducible rfl
 rotate_left
 ·simp only [Act.put,List.setIfInBounds_toArray,List.set_cons_zero,List.set_cons_succ,i64_w,i32_w]
  rfl
 refine pure_ (i:=3) (N:=some 29) (v := ?_) (a' := ?_) #[true,true,true,true,false,false,false,false,false,false,false,false] rfl rfl (by kernel_rfl) (fun _ _ _ h => h) (Or.inl ⟨by rfl, ?_⟩) ?_ ?_
 rotate_left
 ·intro w'
  go_simp
  with_reducible rfl
 rotate_left
 ·simp only [Act.put,List.setIfInBounds_toArray,List.set_cons_zero,List.set_cons_succ,i64_w,i32_w]
  rfl
 refine pure_ (i:=4) (N:=some 30) (v := ?_) (a' := ?_) #[true,true,true,true,true,false,false,false,false,false,false,false] rfl rfl (by kernel_rfl) (fun _ _ _ h => h) (Or.inl ⟨by rfl, ?_⟩) ?_ ?_
 rotate_left
 ·intro w'
  go_simp
  with_reducible rfl
 rotate_left
 ·simp only [Act.put,List.setIfInBounds_toArray,List.set_cons_zero,List.set_cons_succ,i64_w,i32_w]
  rfl
 refine take_ (i:=5) (N:=some 31) (v := ?_) (a' := ?_) #[true,true,true,true,true,true,false,false,false,false,false,false] rfl rfl (by kernel_rfl) (fun _ _ _ h => h) (Or.inl ⟨by rfl, ?_⟩) hHeld ?_ ?_
 rotate_left
 ·rintro w' ⟨s0,s1⟩
  have e0 : w'.cell? ⟨gx,0,none⟩ = some (.bool x.f0):=blk_cell s1 0
  have e1 : w'.cell? ⟨gx,1,none⟩ = some (.int .u32 x.f1):=blk_cell s1 1
  have e2 : w'.cell? ⟨gx,2,none⟩ = some (.bool x.f2):=blk_cell s1 2
  have e3 : w'.cell? ⟨gx,3,none⟩ = some (.int .i64 x.f3):=blk_cell s1 3
  have e4 : w'.cell? ⟨gx,4,none⟩ = some (.slice A x.f4.length c):=blk_cell s1 4
  go_simp
  with_reducible rfl
 rotate_left
 ·simp only [Act.put,List.setIfInBounds_toArray,List.set_cons_zero,List.set_cons_succ,i64_w,i32_w]
  rfl
 refine one_ (i:=6) (N:=some 32) #[true,true,true,true,true,true,true,false,false,false,false,false] rfl rfl (by kernel_rfl) (by decide) (fun K hK => ?_)
 refine goes_ Try.func109 (by kernel_rfl) rfl #[.agg #[.bool x.f0, .int .u32 x.f1, .bool x.f2, .int .i64 x.f3, .slice A x.f4.length c]] (by rfl) rfl rfl (by (try simp only [List.map_toArray,List.map_cons,List.map_nil]);first | done | rfl) ?_
 refine (specCopyFrame_v x A c we (Kd.C_below GA.out HTE.out) LA.out HL.out).mono ?_
 rintro e wf ⟨A9,c9,rfl,hr9,hb9⟩
 refine ⟨_,rfl, ?_⟩
 have HR9:=Lib.hid hr9
 have HTF:=Lib.hid (below_then HTE.out HTE.out.size hb9)
 have HT3F:=Lib.hid (below_then HT3E.out HT3E.out.size hb9)
 have HPF:=Lib.hid (HPE.out.below hb9)
 have XXF:=Lib.hid (blk_below XXE.out hb9)
 have X2F:=Lib.hid (blk_below X2E.out hb9)
 clear hr9 hb9
 refine hK.out _ _ ⟨HPF.out.blk,XXF.out⟩ (fun hHeld => ?_)
 clear hK K
 refine norm_ (a' := ?_) ?_ ?_
 rotate_left
 ·show Act.put _ (some 32) _ = _
  simp only [Act.put,List.setIfInBounds_toArray,List.set_cons_zero,List.set_cons_succ,i64_w,i32_w]
  rfl
 refine pure_ (i:=7) (N:=some 33) (v := ?_) (a' := ?_) #[true,true,true,true,true,true,true,true,false,false,false,false] rfl rfl (by kernel_rfl) (fun _ _ _ h => h) (Or.inl ⟨by rfl, ?_⟩) ?_ ?_
 rotate_left
 ·intro w'
  go_simp
  with_reducible rfl
 rotate_left
 ·simp only [Act.put,List.setIfInBounds_toArray,List.set_cons_zero,List.set_cons_succ,i64_w,i32_w]
  rfl
 refine one_ (i:=8) (N:=some 34) #[true,true,true,true,true,true,true,true,true,false,false,false] rfl rfl (by kernel_rfl) (by decide) (fun K hK => ?_)
 refine value_ (w1 := ?_) (v := ?_) (by rfl) rfl ?_ ?_
 rotate_left 2
 ·go_simp
  constructor
  ·rfl
  ·rfl
 refine hK.out _ _ ⟨blk_alloc HPF.out.blk _,blk_alloc XXF.out _⟩ (fun hHeld => ?_)
 clear hK K
 refine norm_ (a' := ?_) ?_ ?_
 rotate_left
 ·show Act.put _ (some 34) _ = _
  simp only [Act.put,List.setIfInBounds_toArray,List.set_cons_zero,List.set_cons_succ,i64_w,i32_w]
  rfl
 refine one_ (i:=9) (N:=some 35) #[true,true,true,true,true,true,true,true,true,true,false,false] rfl rfl (by kernel_rfl) (by decide) (fun K hK => ?_)
 refine Kd.S_append_step k56 (w0:=w0) w0.heap.size (by rfl) (.tmp 27) (.tmp 34) 30 56 (.agg #[.int .i64 0, .int .i64 0, .int .i64 0, .bool false, .int .u32 0, .bool false, .int .i64 0, .slice none 0 0]) 72 rfl Try.underlying30 info56 rfl (by decide) (by omega) (.slice Ae h.ev.length ce) h.ev (⟨kind,a,b,x⟩ : S56) [.int .i64 kind, .int .i64 a, .int .i64 b, .bool x.f0, .int .u32 x.f1, .bool x.f2, .int .i64 x.f3, .slice A9 x.f4.length c9] (fun k => (o k = 3 ∧ k < w3.heap.size) ∨ w3.heap.size ≤ k) (fun k => w3.heap.size ≤ k) rfl rfl ?aP ?aK ?aF ?aO ?aB ?aS ?aL ?_
 (case aP => exact (k56_mkM wf w0.heap.size _ ⟨kind,a,b,x⟩ (Kd.R_lower (Kd.R_mono HR9.out (fun k hk => Nat.le_trans HT3E.out.size hk)) (Nat.le_trans HB_3.out.size HT3E.out.size))))
 (case aK => exact fun k hk => ⟨.inr hk,fun e => by have:=Kd.S_lt HR3.out.e k e.symm;omega⟩)
 (case aF => exact fun k hk => .inr (Nat.le_trans HT3F.out.size hk))
 (case aO => exact Kd.S_mono (Kd.S_below (S_lt_own HR3.out.e) HT3F.out) (fun k hk => ⟨.inl ⟨hk.1.2,hk.2⟩,by have:=hk.2;omega⟩))
 (case aB => exact HPF.out.bel)
 (case aS => exact HPF.out.bel.size)
 (case aL => have h1:=HP.out.ev;omega)
 intro v1 w5 hS hb hg hat
 obtain ⟨bk,hbk⟩ : ∃ bk,bk = h.ev ++ [(⟨kind,a,b,x⟩ : S56)]:=⟨_,rfl⟩
 rw [← hbk] at hS
 have HBK:=Lib.hid hbk
 clear hbk
 have hRE:=HR3.out
 have hnp : some g1 ≠ (Value.slice Ae h.ev.length ce).ownBlock:=Kd.S_ne hRE.e HP_3.out.blk (by decide)
 have hn2 : some g2 ≠ (Value.slice Ae h.ev.length ce).ownBlock:=Kd.S_ne hRE.e Xg2_3.out (by decide)
 have hnx : some gx ≠ (Value.slice Ae h.ev.length ce).ownBlock:=Kd.S_ne hRE.e Xgx_3.out (by decide)
 have HP5:=Lib.hid (blk_grown (g:=g1) HPF.out.blk hg hnp)
 have HX5:=Lib.hid (blk_grown (g:=gx) XXF.out hg hnx)
 have HX25:=Lib.hid (blk_grown (g:=g2) X2F.out hg hn2)
 have HS5:=Lib.hid hS
 have HT5:=Lib.hid ((Tch.refl wf (fun k => k = g1 ∨ some k = (Value.slice Ae h.ev.length ce).ownBlock)).grown hg (fun k e => .inl (.inr e.symm)))
 clear hb hg hat hnp hn2 hnx hRE
 obtain ⟨A1,c1,rfl⟩:=Kd.S_slice hS
 clear hS
 refine hK.out _ _ ⟨HP5.out,HX5.out⟩ (fun hHeld => ?_)
 clear hK K
 refine norm_ (a' := ?_) ?_ ?_
 rotate_left
 ·show Act.put _ (some 35) _ = _
  simp only [Act.put,List.setIfInBounds_toArray,List.set_cons_zero,List.set_cons_succ,i64_w,i32_w]
  rfl
 refine pure_ (i:=10) (N:=some 36) (v := ?_) (a' := ?_) #[true,true,true,true,true,true,true,true,true,true,true,false] rfl rfl (by kernel_rfl) (fun _ _ _ h => h) (Or.inl ⟨by rfl, ?_⟩) ?_ ?_
 rotate_left
 ·intro w'
  go_simp
  with_reducible rfl
 rotate_left
 ·simp only [Act.put,List.setIfInBounds_toArray,List.set_cons_zero,List.set_cons_succ,i64_w,i32_w]
  rfl
 refine last_ (i:=11) (N:=none) #[true,true,true,true,true,true,true,true,true,true,true,true] rfl rfl (by kernel_rfl) (by decide) (fun K hK => ?_)
 refine st_one (by rfl) rfl rfl (g:=g1) (j:=7) (cs:=⟨hostC h vf vb vq (.slice Ae h.ev.length ce)⟩) (T:=32) (u:=(.slice A1 bk.length c1)) (u0:=(.slice Ae h.ev.length ce)) rfl rfl HP5.out rfl (by kernel_rfl) rfl rfl ?_
 intro w6 hx3 hT3
 have HP6 : Hid (HostP w0 w6 g1 ({ h with ev:=bk } : HV) vf vb vq (.slice A1 bk.length c1)):=Lib.hid (HP_3.out.newE HR3.out HT3F.out (HT5.out.trans (hT3.mono (fun k hk => .inl hk))) hx3 rfl (S_tch HS5.out HP5.out (by decide) hT3))
 have X26:=Lib.hid (hT3.blk HX25.out (fun e => NE_g1_g2.out e.symm))
 have TT_6:=Lib.hid ((((Tch.of_below (fun k => Mine w w0.heap.size k ∨ w.heap.size ≤ k) HTF.out).trans (HT5.out.mono (fun k hk => by rcases hk with hk | hk;exact .inr (by rw [hk];exact LO_HW_g1.out);exact .inl (HRo.out.mineE hk.symm)))).trans (hT3.mono (fun k hk => .inr (by rw [hk];exact LO_HW_g1.out)))))
 clear hx3 hT3
 refine hK.out _ _ ?_
 clear hK K
 refine done_ (by kernel_rfl) ?_
 go_wp2_with (first | ((with_reducible refine gate_dst (N:=37) rfl ?_);refine load_all rfl rfl (g:=g1) rfl HP6.out.blk hu.out (by kernel_rfl) ?_) | ((with_reducible refine gate_store (t:=32) (p:=10) rfl ?_);refine store_all rfl rfl rfl (g:=g2) (C:=hostC ({ h with ev:=bk } : HV) vf vb vq (.slice A1 bk.length c1)) rfl rfl X26.out (by kernel_rfl) ?hone rfl ?_;(case hone => exact HRead.one (HostP.read HP6.out));intro wz hx hT;have HZX:=Lib.hid hx;have HZO:=Lib.hid (HostP.own2 HP6.out hT X26.out);have HZB:=Lib.hid (hT.below HP6.out.bel HP6.out.bel.size (fun k hk => by rw [hk];exact LO_HB_g2.out));have HZT:=Lib.hid (tch_mine (TT_6.out.trans (hT.mono (fun k hk => .inr (by rw [hk];exact LO_HW_g2.out)))));clear hx hT))
 refine bodyPost_ret (results_cell_row rfl _ _ g2 32 ⟨hostC ({ h with ev:=bk } : HV) vf vb vq (.slice A1 bk.length c1)⟩ (0,0) _ rfl HZX.out Try.underlying32 rfl (by kernel_rfl)) rfl ?_
 exact ⟨_,rfl,by rw [postV_in CC.out, ← HBK.out];exact HZO.out,HZB.out,HZT.out⟩
def zF : S45:=⟨false,0,false,0, []⟩
theorem C_zero (w : World) : (Kd.int .u8).C w none 0 []:=(Kd.R_reads' (Kd.R_nil (Kd.int .u8) 5 w 0 (fun _ => True))).2.2
set_option maxRecDepth 100000 in
set_option maxHeartbeats 4000000 in
theorem l3say_v (w0 w : World) (hB : Below w0.heap.size w0 w) (h : HV) (C : List Value) (hO : HOwn w w0.heap.size (fun _ => True) h C) (hp : Posts h) (kind a b : Int) :
  Calls Try.prog 132 #[.agg ⟨C⟩, .int .i64 kind, .int .i64 a, .int .i64 b] w fun e w' => ∃ C',e = .returned (.agg ⟨C'⟩) ∧ HOwn w' w0.heap.size (fun _ => True) (postV h kind a b zF) C' ∧ Below w0.heap.size w0 w' ∧ Tch w w' (fun k => Mine w w0.heap.size k):=by
 have HO_0:=Lib.hid hO
 have HP:=Lib.hid hp
 have HI : Hid ((Try.prog.info? 32).map (·.size) = some C.length):=Lib.hid (by rw [hO.read.len];kernel_rfl)
 have HB_0:=Lib.hid hB
 have HW_0 : Hid (Below w.heap.size w w):=Lib.hid (Below.refl _ _)
 have hu:=Lib.hid Try.underlying32
 clear hO hp hB
 go_enter Try.func132,Try.ntmps132
 go_upto_region 1 with (first | ((with_reducible refine gate_dst (N:=4) rfl ?_);refine box_event ?hg (N:=4) ?hd (cs:=⟨C⟩) (t:=32) ?hr ?_;(case hd => rfl);(case hg => rfl);(case hr => first | (go_simp;done) | (go_simp;rfl));intro g1 hg w1 hbox hb;have LO_HB_g1 : Hid (w0.heap.size ≤ g1):=Lib.hid (by rw [hg];exact HB_0.out.size);have LO_HW_g1 : Hid (w.heap.size ≤ g1):=Lib.hid (by rw [hg];exact HW_0.out.size);have HEg1:=Lib.hid hg;have HB_1:=Lib.hid (below_then HB_0.out HB_0.out.size hb);have HW_1:=Lib.hid (below_then HW_0.out HW_0.out.size hb);have Xg1_1:=Lib.hid hbox;clear hg hbox hb) | ((with_reducible refine gate_dst (N:=8) rfl ?_);refine box_event ?hg (N:=8) ?hd (cs:=⟨[.int .i64 0, .int .i64 0, .int .i64 0, .int .i64 0, .slice none 0 0, .slice none 0 0, .slice none 0 0, .slice none 0 0, .int .i64 0, .int .i64 0]⟩) (t:=32) ?hr ?_;(case hd => rfl);(case hg => rfl);(case hr => first | (go_simp;done) | (go_simp;rfl));intro g2 hg w2 hbox hb;have LO_HB_g2 : Hid (w0.heap.size ≤ g2):=Lib.hid (by rw [hg];exact HB_1.out.size);have LO_HW_g2 : Hid (w.heap.size ≤ g2):=Lib.hid (by rw [hg];exact HW_1.out.size);have NE_g1_g2 : Hid (g1 ≠ g2):=Lib.hid (fun e => by have h1:=blk_lt Xg1_1.out;omega);have HEg2:=Lib.hid hg;have HB_2:=Lib.hid (below_then HB_1.out HB_1.out.size hb);have HW_2:=Lib.hid (below_then HW_1.out HW_1.out.size hb);have Xg1_2:=Lib.hid (blk_below Xg1_1.out hb);have Xg2_2:=Lib.hid hbox;clear hg hbox hb))
 have HO_2:=Lib.hid (HO_0.out.below HW_2.out)
 go_wp2_with (first | ((with_reducible refine gate_dst (N:=9) rfl ?_);refine load_all rfl rfl (g:=g1) rfl Xg1_2.out hu.out HI.out ?_) | (go_at_call 135;refine (l3post_v w0 w2 HB_2.out h C HO_2.out HP.out kind a b zF none 0 (C_zero w2) (Nat.le_refl _) (by decide)).mono ?_;rintro e w3 ⟨C',rfl,ho,hb,hT⟩;have Xg2_3:=Lib.hid (hT.blk Xg2_2.out (fun e => e.ne Xg2_2.out (by decide) rfl));have TT_3:=Lib.hid ((Tch.of_below (fun k => Mine w w0.heap.size k ∨ w.heap.size ≤ k) HW_2.out).trans (tch_later HW_2.out hT));have HO_3:=Lib.hid ho.bound;have HCL:=Lib.hid ho.read.len;have HC1:=Lib.hid (HRead.one ho.read);have HB_3:=Lib.hid hb;clear ho hb hT) | ((with_reducible refine gate_store (t:=32) (p:=8) rfl ?_);refine store_all rfl rfl rfl (g:=g2) (C:=C') rfl rfl Xg2_3.out (by rw [HCL.out];kernel_rfl) HC1.out HCL.out.symm ?_;intro wz hx hT;have HZX:=Lib.hid hx;have HZO:=Lib.hid (HO_3.out.tch hT (fun k hk e => hk.2.ne Xg2_3.out (by decide) e));have HZB:=Lib.hid (hT.below HB_3.out HB_3.out.size (fun k hk => by rw [hk];exact LO_HB_g2.out));have HZT:=Lib.hid (tch_mine (TT_3.out.trans (hT.mono (fun k hk => .inr (by rw [hk];exact LO_HW_g2.out)))));clear hx hT))
 refine bodyPost_ret (results_cell_row rfl _ _ g2 32 ⟨C'⟩ (0,0) _ rfl HZX.out Try.underlying32 rfl (by rw [show (⟨C'⟩ : Array Value).size = 10 from HCL.out];kernel_rfl)) rfl ?_
 exact ⟨C',rfl,HZO.out.mono (fun _ _ => trivial),HZB.out,HZT.out⟩
theorem S_puts {P : Program} {ops : Array Oper} {rest : List Oper} {o : Oper} {a : Act} {Q : Exit → Act → World → Prop} {α : Type} (d : Kd α) {w0 W : World} (base : Nat) (hN : o.dst = none) (hgd : o.guard = none) {t : TypeId} {p x : Operand} (ho : o.op = .store t p x) {e g n cap off i : Nat} {xs : List α} {x' : α} {u : Value} {seg : List Value} {ok : Nat → Prop} (z : α)
  (haddr : a.eval p = .pointer (some ⟨g,off,none⟩)) (hoff : off = i * d.sz) (hx : a.eval x = u) (hu : u.cells.toList = seg) (ht : (P.info? t).map (·.size) = some seg.length) (hone : ∀ q ∈ seg,q.oneCell' = true) (hsz : seg.length = d.sz)
  (HS : Kd.S d e W base ok (.slice (some ⟨g,0,none⟩) n cap) xs) (hi : i < n) (hM : d.M W base (fun _ => False) x' seg) (HB : Below base w0 W)
  (h : ∀ w1,Kd.S d e w1 base ok (.slice (some ⟨g,0,none⟩) n cap) (xs.set i x') → Below base w0 w1 → W.grownBy w1 (some g) → wpList P ops Q rest a w1) : wpList P ops Q (o :: rest) a W:=by
 obtain ⟨oki,c,hcl,hM0,hcc,hfr,hoki,hH⟩:=Kd.S_elem HS z (i : Int) (by omega) (by omega)
 exact Kd.H_store d base hN hgd t p x ho e (i : Int) 0 xs x' u seg c ok oki (fun _ => False) haddr (by rw [Int.toNat_natCast,Nat.add_zero];exact hoff) hx hu ht hone hH (by omega) (by omega) (by omega) (by rw [List.take_zero,List.nil_append,Nat.zero_add,List.drop_of_length_le (by omega),List.append_nil];exact hM) (fun _ h => h.elim) HB (fun w1 hS hb hg => h w1 (by rw [Int.toNat_natCast] at hS;exact hS) hb hg)
def zBox : S87:=⟨0,0,0,zF⟩
theorem zBox_M (W : World) (base : Nat) (ok : Nat → Prop) : k87.M W base ok zBox [.int .i64 0, .int .i64 0, .int .i64 0, .bool false, .int .u32 0, .bool false, .int .i64 0, .slice none 0 0]:=k87_mkM W base ok zBox (Kd.R_nil _ _ _ _ _)
set_option maxRecDepth 100000 in
set_option maxHeartbeats 4000000 in
theorem free_v (w0 w : World) (p m : Nat) (h : HV) (l1 l2 : Int) (vf vb vq ve : Value) (f : Int → Option Int) (n : Nat) (H : SideP w0 w p m h l1 l2 vf vb vq ve f n) (i : Nat) (hi : i < h.bs.length) :
  Calls Try.prog 124 #[.pointer (some ⟨p,0,none⟩), .int .i64 i] w fun e w' => e = .returned (.tuple #[]) ∧ SideP w0 w' p m { h with bs:=h.bs.set i zBox } l1 l2 vf vb vq ve (fun x => if x = (bxAt h.bs i).f1 then none else f x) (if (f (bxAt h.bs i).f1).isSome then n - 1 else n) ∧ Tch w w' (fun k => k = m ∨ some k = vb.ownBlock):=by
 obtain ⟨n',hn'⟩ : ∃ n',n' = (if (f (bxAt h.bs i).f1).isSome then n - 1 else n):=⟨_,rfl⟩
 obtain ⟨f',hf'⟩ : ∃ f',f' = (fun x => if x = (bxAt h.bs i).f1 then none else f x):=⟨_,rfl⟩
 rw [← hn', ← hf']
 have HNN:=Lib.hid hn'
 have HFF:=Lib.hid hf'
 clear hn' hf'
 obtain ⟨o,HRr⟩:=H.rows
 obtain ⟨Ab,cb,rfl,lb,rb⟩:=Kd.S_reads HRr.b
 obtain ⟨g,cp,e,_⟩:=Kd.S_form HRr.b (by omega)
 injection e with e1 e2 e3
 subst e1
 clear e2 e3
 obtain ⟨ad,A8,c8,ea,k0,k1,k2,k3,k4,k5,k6,k7,l8,g8⟩:=at_T87 rb (i : Int) (by omega) (by omega)
 cases ea
 clear k0 k2 k3 k4 k5 k6 k7 l8 g8
 rw [Int.toNat_natCast,add_plain] at k1
 obtain ⟨b,hb⟩ : ∃ b,b = rd_T87 h.bs (i : Int):=⟨_,rfl⟩
 rw [← hb] at k1
 have HBX : Hid (b = bxAt h.bs i):=Lib.hid hb
 have K1:=Lib.hid k1
 have HRo:=Lib.hid HRr
 have HS_0:=Lib.hid H
 have HI:=Lib.hid hi
 have p5 : (0 ≤ (i : Int)) = True:=eq_true (by omega)
 have q5 : ((i : Int) < (h.bs.length : Int)) = True:=eq_true (by omega)
 have qn : (i < h.bs.length) = True:=eq_true hi
 clear hb k1 HRr H rb lb hi
 go_enter Try.func124,Try.ntmps124
 go_upto_region 0 with (fail)
 obtain ⟨wd,hwd⟩ : ∃ wd,wd = w.drew:=⟨_,rfl⟩
 have HWd : Hid (Below w.heap.size w wd):=by rw [hwd];exact Lib.hid (below_drew (Below.refl _ _))
 have HSd:=Lib.hid (HS_0.out.below HWd.out)
 have HRd:=Lib.hid (HRo.out.below HWd.out)
 obtain ⟨wu,hup,hmu,hTu⟩:=delete_run (P:=Try.prog) Try.underlying122 Try.underlying3 HSd.out.map b.f1 3 0
 have HSu : Hid (SideP w0 wu p m h l1 l2 vf _ vq ve f' n'):=Lib.hid (by rw [HFF.out,HNN.out, ← HBX.out];exact HSd.out.mapped hTu hmu)
 have HTu:=Lib.hid hTu
 clear hmu hTu
 refine start_ (n:=13) (S:=fun w' : World => Below w.heap.size w w') (ds := [12]) #[false,false,false,false,false,false,false,false,false,false,false,false,false] (by kernel_rfl) rfl rfl (hwd ▸ HWd.out) (fun hHeld => ?_)
 rw [← hwd] at hHeld ⊢
 clear hwd
 refine pure_ (i:=0) (N:=some 4) (v := ?_) (a' := ?_) #[true,false,false,false,false,false,false,false,false,false,false,false,false] rfl rfl (by kernel_rfl) (fun _ _ _ h => h) (Or.inl ⟨by rfl, ?_⟩) ?_ ?_
 rotate_left
 ·intro w'
  go_simp
  with_reducible rfl
 rotate_left
 ·simp only [Act.put,List.setIfInBounds_toArray,List.set_cons_zero,List.set_cons_succ,i64_w,i32_w]
  rfl
 refine pure_ (i:=1) (N:=some 5) (v := ?_) (a' := ?_) #[true,true,false,false,false,false,false,false,false,false,false,false,false] rfl rfl (by kernel_rfl) (fun _ _ _ h => h) (Or.inl ⟨by rfl, ?_⟩) ?_ ?_
 rotate_left
 ·intro w'
  go_simp
  with_reducible rfl
 rotate_left
 ·simp only [Act.put,List.setIfInBounds_toArray,List.set_cons_zero,List.set_cons_succ,i64_w,i32_w]
  rfl
 refine pure_ (i:=2) (N:=some 6) (v := ?_) (a' := ?_) #[true,true,true,false,false,false,false,false,false,false,false,false,false] rfl rfl (by kernel_rfl) (fun _ _ _ h => h) (Or.inl ⟨by rfl, ?_⟩) ?_ ?_
 rotate_left
 ·intro w'
  go_simp
  with_reducible rfl
 rotate_left
 ·simp only [Act.put,List.setIfInBounds_toArray,List.set_cons_zero,List.set_cons_succ,i64_w,i32_w]
  rfl
 refine take_ (i:=3) (N:=some 7) (v := ?_) (a' := ?_) #[true,true,true,true,false,false,false,false,false,false,false,false,false] rfl rfl (by kernel_rfl) (fun _ _ _ h => h) (Or.inl ⟨by rfl, ?_⟩) hHeld ?_ ?_
 rotate_left
 ·intro w' s0
  have e0 : w'.cell? ⟨p,6,none⟩ = some (.map (some m)):=pw_cell_below s0 (blk_cell HS_0.out.blk 6)
  go_simp
  with_reducible rfl
 rotate_left
 ·simp only [Act.put,List.setIfInBounds_toArray,List.set_cons_zero,List.set_cons_succ,i64_w,i32_w]
  rfl
 refine pure_ (i:=4) (N:=some 8) (v := ?_) (a' := ?_) #[true,true,true,true,true,false,false,false,false,false,false,false,false] rfl rfl (by kernel_rfl) (fun _ _ _ h => h) (Or.inl ⟨by rfl, ?_⟩) ?_ ?_
 rotate_left
 ·intro w'
  go_simp
  with_reducible rfl
 rotate_left
 ·simp only [Act.put,List.setIfInBounds_toArray,List.set_cons_zero,List.set_cons_succ,i64_w,i32_w]
  rfl
 refine pure_ (i:=5) (N:=some 9) (v := ?_) (a' := ?_) #[true,true,true,true,true,true,false,false,false,false,false,false,false] rfl rfl (by kernel_rfl) (fun _ _ _ h => h) (Or.inl ⟨by rfl, ?_⟩) ?_ ?_
 rotate_left
 ·intro w'
  go_simp
  with_reducible rfl
 rotate_left
 ·simp only [Act.put,List.setIfInBounds_toArray,List.set_cons_zero,List.set_cons_succ,i64_w,i32_w]
  rfl
 refine pure_ (i:=6) (N:=some 10) (v := ?_) (a' := ?_) #[true,true,true,true,true,true,true,false,false,false,false,false,false] rfl rfl (by kernel_rfl) (fun _ _ _ h => h) (Or.inl ⟨by rfl, ?_⟩) ?_ ?_
 rotate_left
 ·intro w'
  go_simp
  with_reducible rfl
 rotate_left
 ·simp only [Act.put,List.setIfInBounds_toArray,List.set_cons_zero,List.set_cons_succ,i64_w,i32_w]
  rfl
 refine take_ (i:=7) (N:=some 11) (v := ?_) (a' := ?_) #[true,true,true,true,true,true,true,true,false,false,false,false,false] rfl rfl (by kernel_rfl) (fun _ _ _ h => h) (Or.inl ⟨by rfl, ?_⟩) hHeld ?_ ?_
 rotate_left
 ·intro w' s0
  have e0 : w'.cell? ⟨p,5,none⟩ = some (.slice (some ⟨g,0,none⟩) h.bs.length cb):=pw_cell_below s0 (blk_cell HS_0.out.blk 5)
  go_simp
  with_reducible rfl
 rotate_left
 ·simp only [Act.put,List.setIfInBounds_toArray,List.set_cons_zero,List.set_cons_succ,i64_w,i32_w]
  rfl
 refine pure_ (i:=8) (N:=some 12) (v := ?_) (a' := ?_) #[true,true,true,true,true,true,true,true,true,false,false,false,false] rfl rfl (by kernel_rfl) (fun _ _ _ h => h) (Or.inl ⟨by rfl, ?_⟩) ?_ ?_
 rotate_left
 ·intro w'
  go_simp
  with_reducible rfl
 rotate_left
 ·simp only [Act.put,List.setIfInBounds_toArray,List.set_cons_zero,List.set_cons_succ,i64_w,i32_w]
  rfl
 refine pure_ (i:=9) (N:=some 13) (v := ?_) (a' := ?_) #[true,true,true,true,true,true,true,true,true,true,false,false,false] rfl rfl (by kernel_rfl) (fun _ _ _ h => h) (Or.inl ⟨by rfl, ?_⟩) ?_ ?_
 rotate_left
 ·intro w'
  go_simp
  with_reducible rfl
 rotate_left
 ·simp only [Act.put,List.setIfInBounds_toArray,List.set_cons_zero,List.set_cons_succ,i64_w,i32_w]
  rfl
 refine pure_ (i:=10) (N:=some 14) (v := ?_) (a' := ?_) #[true,true,true,true,true,true,true,true,true,true,true,false,false] rfl rfl (by kernel_rfl) (fun _ _ _ h => h) (Or.inl ⟨by rfl, ?_⟩) ?_ ?_
 rotate_left
 ·intro w'
  go_simp
  with_reducible rfl
 rotate_left
 ·simp only [Act.put,List.setIfInBounds_toArray,List.set_cons_zero,List.set_cons_succ,i64_w,i32_w]
  rfl
 refine take_ (i:=11) (N:=some 15) (v := ?_) (a' := ?_) #[true,true,true,true,true,true,true,true,true,true,true,true,false] rfl rfl (by kernel_rfl) (fun _ _ _ h => h) (Or.inl ⟨by rfl, ?_⟩) hHeld ?_ ?_
 rotate_left
 ·intro w' s0
  have e0:=pw_cell_below s0 K1.out
  go_simp
  with_reducible rfl
 rotate_left
 ·simp only [Act.put,List.setIfInBounds_toArray,List.set_cons_zero,List.set_cons_succ,i64_w,i32_w]
  rfl
 refine last_ (i:=12) (N:=none) #[true,true,true,true,true,true,true,true,true,true,true,true,true] rfl rfl (by kernel_rfl) (by decide) (fun K hK => ?_)
 refine value_ (w1:=wu) (v := .tuple #[]) (by rfl) rfl ?_ ?_
 ·go_simp
 refine hK.out _ _ ?_
 clear hK K
 refine done_ (by kernel_rfl) ?_
 clear hup
 have y5 : wu.cell? ⟨p,5,none⟩ = some (.slice (some ⟨g,0,none⟩) h.bs.length cb):=blk_cell HSu.out.blk 5
 have HRu : Hid (∃ o',HRows wu w0.heap.size (fun _ => True) o' h vf (.slice (some ⟨g,0,none⟩) h.bs.length cb) vq ve):=Lib.hid HSu.out.rows
 obtain ⟨o',ho'⟩:=HRu.out
 have HRu':=Lib.hid ho'
 clear ho' HRu
 go_wp2_with (first | ((with_reducible refine gate_store (t:=87) (p:=22) rfl ?_);refine S_puts k87 (w0:=w0) w0.heap.size rfl rfl rfl (e:=87) (i:=i) (xs:=h.bs) (x':=zBox) (u := .agg ⟨[.int .i64 0, .int .i64 0, .int .i64 0, .bool false, .int .u32 0, .bool false, .int .i64 0, .slice none 0 0]⟩) (seg := [.int .i64 0, .int .i64 0, .int .i64 0, .bool false, .int .u32 0, .bool false, .int .i64 0, .slice none 0 0]) z87 rfl (by rfl) rfl rfl (by kernel_rfl) (by decide) rfl (S_own1 HRu'.out) HI.out (zBox_M _ _ _) HSu.out.bel ?_;intro w2 hs hb hg;have HTZ:=Lib.hid ((((Tch.of_below (fun k => k = m ∨ some k = (Value.slice (some ⟨g,0,none⟩) h.bs.length cb).ownBlock) HWd.out).trans (HTu.out.mono (fun k hk => .inl hk))).grown hg (fun k e => .inl (.inr e.symm))));have HS_2:=Lib.hid (HSu.out.putB HRu'.out ((Tch.refl wu (fun k => some k = (Value.slice (some ⟨g,0,none⟩) h.bs.length cb).ownBlock)).grown hg (fun k e => .inl e.symm)) hs);clear hs hb hg))
 go_end0
 exact ⟨rfl,HS_2.out,HTZ.out⟩
end Go.Proofs.Ytcaefabbcjlkdaa.P
namespace Go.Proofs.Ytcaefabbcjlkdaa.P
open Go Go.RowKit Go.Proofs.YtcaefabbcjlkdaaW.PrintWords Go.Proofs.YtcaefabbcjlkdaaW.PrintLast Go.Proofs.YtcaefabbcjlkdaaW.PrintMore
set_option linter.unusedVariables false
structure S8 (h : HV) : Prop where
 l1 : h.fs.length ≤ 16
 l2 : h.bs.length ≤ 8
 l3 : h.fr.length ≤ 16
 l4 : h.ev.length ≤ 32
 d2 : ∀ y ∈ h.bs,y.f3.f4.length ≤ 8
 d3 : ∀ y ∈ h.fr,y.f4.length ≤ 8
 d4 : ∀ y ∈ h.ev,y.f3.f4.length ≤ 8
theorem GoodH.s8 {h : HV} (H : GoodH h) : S8 h:=by
 have hl:=H.lens
 exact ⟨hl.1,hl.2.1,hl.2.2.1,hl.2.2.2,H.b8,H.q8,H.e8⟩
theorem S8.zero : S8 hv0:=⟨by decide,by decide,by decide,by decide,by simp [hv0],by simp [hv0],by simp [hv0]⟩
theorem S8.sm {h : HV} (H : S8 h) : HSm h:=⟨Nat.le_trans H.l1 (by decide),Nat.le_trans H.l2 (by decide),Nat.le_trans H.l3 (by decide),Nat.le_trans H.l4 (by decide),fun y hy => Nat.le_trans (H.d2 y hy) (by decide),fun y hy => Nat.le_trans (H.d3 y hy) (by decide),fun y hy => Nat.le_trans (H.d4 y hy) (by decide)⟩
theorem S8.small {h : HV} (H : S8 h) : HSmall h:=⟨Nat.le_trans H.l1 (by decide),Nat.le_trans H.l2 (by decide),Nat.le_trans H.l3 (by decide),Nat.le_trans H.l4 (by decide),fun y hy => Nat.le_trans (H.d2 y hy) (by decide),fun y hy => Nat.le_trans (H.d3 y hy) (by decide),fun y hy => Nat.le_trans (H.d4 y hy) (by decide)⟩
theorem S8.set {h : HV} (H : S8 h) (i : Nat) (b : S87) (hb : b.f3.f4.length ≤ 8) : S8 { h with bs:=h.bs.set i b }:=by
 refine ⟨H.l1,by rw [List.length_set];exact H.l2,H.l3,H.l4,fun y hy => ?_,H.d3,H.d4⟩
 rcases List.mem_or_eq_of_mem_set hy with e | rfl
 ·exact H.d2 y e
 ·exact hb
theorem S8.post {h : HV} (H : S8 h) (hc : h.ce ≤ 32) (kind a b : Int) (x : S45) (hx : x.f4.length ≤ 8) : S8 (postV h kind a b x):=by
 unfold postV
 split
 ·refine ⟨H.l1,H.l2,H.l3, ?_,H.d2,H.d3,fun y hy => ?_⟩
  ·show (h.ev ++ [_]).length ≤ 32
   rw [List.length_append]
   show h.ev.length + 1 ≤ 32
   omega
  ·have hy : y ∈ h.ev ++ [_]:=hy
   rcases List.mem_append.1 hy with e | e
   ·exact H.d4 y e
   ·rw [List.mem_singleton.1 e];exact hx
 ·exact ⟨H.l1,H.l2,H.l3,H.l4,H.d2,H.d3,H.d4⟩
theorem bx8 {h : HV} (H : S8 h) (i : Nat) : (bxAt h.bs i).f3.f4.length ≤ 8:=by
 unfold bxAt rd_T87
 rw [List.getD_eq_getElem?_getD]
 cases e : h.bs[(i : Int).toNat]? with
 | none => exact Nat.zero_le _
 | some y => exact H.d2 y (List.mem_of_getElem? e)
theorem GoodH.posts {h : HV} (H : GoodH h) : Posts h:=⟨Nat.le_trans H.lens.2.2.2 (by decide),by have:=H.conf;omega,H.lost⟩
theorem K_host_below {w w' : World} {x : S63} {C : List Value} (h : k63.K w x C) (hb : Below w.heap.size w w') : k63.K w' x C:=by
 obtain ⟨A4,c4,A5,c5,A6,c6,A7,c7,rfl,l4,g4,l5,g5,l6,g6,l7,g7⟩:=k63_open h
 exact k63_mk w' x l4 (Kd.C_below g4 hb) l5 (Kd.C_below g5 hb) l6 (Kd.C_below g6 hb) l7 (Kd.C_below g7 hb)
theorem getD_mem {α : Type} (l : List α) (n : Nat) (z : α) {p : α → Prop} (h : ∀ y ∈ l,p y) (hz : p z) : p (l.getD n z):=by
 rw [List.getD_eq_getElem?_getD]
 cases e : l[n]? with
 | none => exact hz
 | some y => exact h y (List.mem_of_getElem? e)
theorem S8.marks {h : HV} (H : S8 h) : HMarks 1 h:=by
 have S:=H.sm
 have b : ∀ n,offBox h.bs n ≤ 15 * (n : Int):=by
  intro n
  induction n with
  | zero => exact Int.le_refl _
  | succ n ih =>
   rw [offBox]
   have : (h.bs.getD n z87).f3.f4.length ≤ 8:=getD_mem h.bs n _ (p:=fun y => y.f3.f4.length ≤ 8) H.d2 (by decide)
   omega
 have q : ∀ n,offFrame h.fr n ≤ 12 * (n : Int):=by
  intro n
  induction n with
  | zero => exact Int.le_refl _
  | succ n ih =>
   rw [offFrame]
   have : (h.fr.getD n z45).f4.length ≤ 8:=getD_mem h.fr n _ (p:=fun y => y.f4.length ≤ 8) H.d3 (by decide)
   omega
 have e : ∀ n,offEvent h.ev n ≤ 15 * (n : Int):=by
  intro n
  induction n with
  | zero => exact Int.le_refl _
  | succ n ih =>
   rw [offEvent]
   have : (h.ev.getD n z56).f3.f4.length ≤ 8:=getD_mem h.ev n _ (p:=fun y => y.f3.f4.length ≤ 8) H.d4 (by decide)
   omega
 refine ⟨by decide, ?_,S.l2,S.l3,S.l4,S.d2,S.d3,S.d4⟩
 unfold cnt4 cnt3 cnt2 cnt1
 have h1:=b h.bs.length
 have h2:=q h.fr.length
 have h3:=e h.ev.length
 have l1:=H.l1
 have l2:=H.l2
 have l3:=H.l3
 have l4:=H.l4
 omega
theorem cnt4_nn {h : HV} {q : Int} (H : HMarks q h) : 0 ≤ cnt4 h q:=by
 have h1:=H.steps
 have h2:=offEvent_nn h.ev h.ev.length
 unfold cnt4
 omega
end Go.Proofs.Ytcaefabbcjlkdaa.P
namespace Go.Proofs.Ytcaefabbcjlkdaa.P
open Go Go.RowKit Go.Proofs.YtcaefabbcjlkdaaW.PrintWords Go.Proofs.YtcaefabbcjlkdaaW.PrintLast Go.Proofs.YtcaefabbcjlkdaaW.PrintMore
set_option linter.unusedVariables false
set_option linter.unusedSimpArgs false
section
variable {h : HV} {j : Nat}
end
def tagP (tag : Int) (b : S87) : Prop:=b.f0 ≠ 0 ∧ b.f1 = tag
set_option maxRecDepth 100000 in
set_option maxHeartbeats 4000000 in
theorem l3find_v (h : HV) (w : World) (C : List Value) (hR : HRead w h C) (hS : HSm h) (tag r : Int) (hr : IsFirst (tagP tag) h.bs r) :
  Calls Try.prog 133 #[.agg ⟨C⟩, .int .i64 tag] w fun e w' => e = .returned (.int .i64 r) ∧ Below w.heap.size w w':=by
 obtain ⟨Af,cf,Ab,cb,Aq,cq,Ae,ce,rfl,_,_,rb,lb,_,_,_,_⟩:=hR
 have RB:=Lib.hid rb
 have SM:=Lib.hid hS
 have HRF:=Lib.hid hr
 clear rb hS hr
 have HB_0 : Hid (Below w.heap.size w w):=Lib.hid (Below.refl _ _)
 go_enter Try.func133,Try.ntmps133
 go_upto_region 1 with (first | ((with_reducible refine gate_dst (N:=2) rfl ?_);refine box_event ?hg (N:=2) ?hd (cs:=⟨hostC h (.slice Af h.fs.length cf) (.slice Ab h.bs.length cb) (.slice Aq h.fr.length cq) (.slice Ae h.ev.length ce)⟩) (t:=32) ?hr ?_;(case hd => rfl);(case hg => rfl);(case hr => first | (go_simp;done) | (go_simp;rfl));intro g1 hg w1 hbox hb;have LO_HB_g1 : Hid (w.heap.size ≤ g1):=Lib.hid (by rw [hg];exact HB_0.out.size);have HEg1:=Lib.hid hg;have HB_1:=Lib.hid (below_then HB_0.out HB_0.out.size hb);have Xg1_1:=Lib.hid hbox;clear hg hbox hb))
 go_wp2_with (fail)
 go_loopw [5] (fun v5 wr => ∃ i : Nat,i ≤ h.bs.length ∧ v5 = .int .i64 i ∧ Aside0 (∀ j,j < i → ¬ tagP tag (bxAt h.bs j)) ∧ Aside0 (wr.heap[g1]? = some (.cells ⟨hostC h (.slice Af h.fs.length cf) (.slice Ab h.bs.length cb) (.slice Aq h.fr.length cq) (.slice Ae h.ev.length ce)⟩ 32 (0,0))) ∧ Aside0 (Below w.heap.size w wr)) (fun v5 _ => h.bs.length - (intOf v5).toNat)
 case atStart => exact ⟨0,Nat.zero_le _,rfl,⟨fun j hj => absurd hj (Nat.not_lt_zero _)⟩,⟨Xg1_1.out⟩,⟨HB_1.out⟩⟩
 case round =>
  clear Xg1_1 HB_1
  obtain ⟨i,hi,rfl,HN0,HX,HB⟩:=hrel
  have y5 : wr.cell? ⟨g1,5,none⟩ = some (.slice Ab h.bs.length cb):=blk_cell HX.out 5
  by_cases hlt : i < h.bs.length
  ·have b2 : decide ((i : Int) < (h.bs.length : Int)) = true:=decide_eq_true (by omega)
   have p5 : (0 ≤ (i : Int)) = True:=eq_true (by omega)
   have q5 : ((i : Int) < (h.bs.length : Int)) = True:=eq_true (by omega)
   have qn : (i < h.bs.length) = True:=eq_true hlt
   have hn : wrap64 ((i : Int) + 1) = (i : Int) + 1:=by have:=SM.out.l2;unfold wrap64;omega
   have HLT:=Lib.hid hlt
   have HI:=Lib.hid hi
   have HN:=Lib.hid hn
   obtain ⟨ad,A8,c8,ea,k0,k1,k2,k3,k4,k5,k6,k7,l8,g8⟩:=at_T87 (Kd.C_below RB.out HB.out) (i : Int) (by omega) (by omega)
   subst ea
   clear hlt hi
   rw [Int.toNat_natCast] at k0 k1 k2 k3 k4 k5 k6 k7
   obtain ⟨b,hb⟩ : ∃ b,b = rd_T87 h.bs (i : Int):=⟨_,rfl⟩
   rw [← hb] at k0 k1 k2 k3 k4 k5 k6 k7 l8 g8
   have HBX : Hid (b = bxAt h.bs i):=Lib.hid hb
   have HD8 : Hid (b.f3.f4.length ≤ 10000000):=Lib.hid (by rw [hb];exact SM.out.d2 _ (List.mem_of_getElem? (getD_at h.bs i z87 HLT.out)))
   have L8:=Lib.hid l8
   have G8:=Lib.hid g8
   clear hb l8 g8
   clear k2 k3 k4 k5 k6 k7
   by_cases q2 : b.f0 = 0
   ·have e2 : (b.f0 != 0) = false:=by rw [q2];rfl
    have HPN : Hid (¬ tagP tag (bxAt h.bs i)):=Lib.hid (by rw [tagP, ← HBX.out];rintro ⟨e,_⟩;exact e q2)
    clear q2
    go_wp2_with (fail)
    go_roundw
    case rel => exact ⟨i + 1,HLT.out,by rw [HN.out];rfl,⟨fun j hj => by by_cases e : j = i;rw [e];exact HPN.out;exact HN0.out j (by omega)⟩,⟨HX.out⟩,⟨HB.out⟩⟩
    case measure => rw [HN.out];have:=HLT.out;simp [intOf];omega
   have e2 : (b.f0 != 0) = true:=bne_iff_ne.2 q2
   by_cases q3 : b.f1 = tag
   ·have e3 : (b.f1 == tag) = true:=beq_iff_eq.2 q3
    have HPP : Hid (tagP tag (bxAt h.bs i)):=Lib.hid (by rw [tagP, ← HBX.out];exact ⟨q2,q3⟩)
    clear q2 q3
    go_wp2_with (fail)
    go_ret
    exact ⟨by rw [HRF.out.at HLT.out HPP.out HN0.out];rfl,HB.out⟩
   have e3 : (b.f1 == tag) = false:=beq_eq_false_iff_ne.2 q3
   have HPN : Hid (¬ tagP tag (bxAt h.bs i)):=Lib.hid (by rw [tagP, ← HBX.out];rintro ⟨_,e⟩;exact q3 e)
   clear q2
   go_wp2_with (fail)
   go_roundw
   case rel => exact ⟨i + 1,HLT.out,by rw [HN.out];rfl,⟨fun j hj => by by_cases e : j = i;rw [e];exact HPN.out;exact HN0.out j (by omega)⟩,⟨HX.out⟩,⟨HB.out⟩⟩
   case measure => rw [HN.out];have:=HLT.out;simp [intOf];omega
  ·have hii : i = h.bs.length:=by omega
   subst hii
   have b2 : decide ((h.bs.length : Int) < (h.bs.length : Int)) = false:=decide_eq_false (by omega)
   go_wp2_with (fail)
   go_ret
   exact ⟨by rw [HRF.out.none HN0.out];rfl,HB.out⟩
def okTag (tag : Int) : Int:=if tag < 0 then 0 else if tag > 9999 then 0 else tag
def abortV (h : HV) (tag r : Int) : HV:=if r < 0 then postV h 7 (okTag tag) 0 zF else if (bxAt h.bs r.toNat).f0 = 1 then postV { h with bs:=h.bs.set r.toNat zBox } 6 tag 0 zF else { h with bs:=h.bs.set r.toNat { bxAt h.bs r.toNat with f0:=3 } }
section
variable {h : HV} {j : Nat} {tag : Int}
theorem abortV_no {r : Int} (hr : r < 0) : abortV h tag r = postV h 7 (okTag tag) 0 zF:=if_pos hr
theorem abortV_wait (hd : (bxAt h.bs j).f0 = 1) : abortV h tag (j : Int) = postV { h with bs:=h.bs.set j zBox } 6 tag 0 zF:=by
 unfold abortV
 rw [if_neg (by omega),Int.toNat_natCast,if_pos hd]
theorem abortV_doom (hd : ¬ (bxAt h.bs j).f0 = 1) : abortV h tag (j : Int) = { h with bs:=h.bs.set j { bxAt h.bs j with f0:=3 } }:=by
 unfold abortV
 rw [if_neg (by omega),Int.toNat_natCast,if_neg hd]
theorem set_same (hj : j < h.bs.length) (b : S87) (hb : b = bxAt h.bs j) : ({ h with bs:=h.bs.set j b } : HV) = h:=by
 have e : h.bs.set j b = h.bs:=by
  apply List.ext_getElem?
  intro t
  rw [List.getElem?_set]
  by_cases c : j = t
  ·subst c
   rw [if_pos rfl,if_pos hj,hb,getD_at h.bs j z87 hj];rfl
  ·rw [if_neg c]
 rw [e]
end
set_option maxRecDepth 100000 in
set_option maxHeartbeats 8000000 in
theorem abort_v (w0 w : World) (p m : Nat) (h : HV) (l1 : Int) (vf vb vq ve : Value) (f : Int → Option Int) (n : Nat) (H : SideP w0 w p m h l1 h.ce vf vb vq ve f n) (hp : Posts h) (tag r : Int) (hr : IsFirst (tagP tag) h.bs r) (hf : f tag = if r < 0 then none else some r) (h3 : ∀ j,j < h.bs.length → (bxAt h.bs j).f0 ≠ 0 → 0 ≤ (bxAt h.bs j).f0 ∧ (bxAt h.bs j).f0 ≤ 3) :
  Calls Try.prog 92 #[.pointer (some ⟨p,0,none⟩), .int .i64 tag] w fun e w' => e = .returned (.tuple #[]) ∧ ∃ ve' f' n',SideP w0 w' p m (abortV h tag r) l1 h.ce vf vb vq ve' f' n':=by
 have HS_0:=Lib.hid H
 have HP:=Lib.hid hp
 have y6 : w.cell? ⟨p,6,none⟩ = some (.map (some m)):=blk_cell H.blk 6
 have hlk:=lookup_ok_run (P:=Try.prog) Try.underlying122 Try.underlying3 (by rfl) H.map tag
 clear H hp
 by_cases c0 : r < 0
 ·rw [if_pos c0] at hf
  replace hlk : Sem.run Try.prog (Instr.lookup 122 (.map (some m)) (.int .i64 tag) true) w = .ok (.tuple #[.int .i64 0, .bool false]) w:=by have e:=hlk;rw [hf] at e;exact e
  have C0:=Lib.hid c0
  clear c0 hr hf h3
  by_cases t1 : tag < 0
  ·have s1 : decide (tag < 0) = true:=decide_eq_true t1
   have T:=Lib.hid t1
   clear t1
   go_enter Try.func92,Try.ntmps92
   go_wp2_with (first | (go_at_call 118;refine (post_v w0 w p m _ l1 vf _ vq ve _ _ HS_0.out ⟨HP.out.ev,HP.out.ce,HP.out.lost⟩ 7 0 0 zF none 0 (C_zero _) (Nat.le_refl _) (by decide)).mono ?_;rintro e w5 ⟨rfl,ve',hs⟩;have HS_5:=Lib.hid hs;clear hs))
   refine bodyPost_ret (results_none rfl _ _ _) rfl ?_
   exact ⟨rfl,_,_,_,by rw [abortV_no C0.out,okTag,if_pos T.out];exact HS_5.out⟩
  have s1 : decide (tag < 0) = false:=decide_eq_false t1
  by_cases t2 : tag > 9999
  ·have s2 : decide (tag > 9999) = true:=decide_eq_true t2
   have T:=Lib.hid t1
   have T2:=Lib.hid t2
   clear t1 t2
   go_enter Try.func92,Try.ntmps92
   go_wp2_with (first | (go_at_call 118;refine (post_v w0 w p m _ l1 vf _ vq ve _ _ HS_0.out ⟨HP.out.ev,HP.out.ce,HP.out.lost⟩ 7 0 0 zF none 0 (C_zero _) (Nat.le_refl _) (by decide)).mono ?_;rintro e w5 ⟨rfl,ve',hs⟩;have HS_5:=Lib.hid hs;clear hs))
   refine bodyPost_ret (results_none rfl _ _ _) rfl ?_
   exact ⟨rfl,_,_,_,by rw [abortV_no C0.out,okTag,if_neg (by have:=T.out;omega),if_pos T2.out];exact HS_5.out⟩
  have s2 : decide (tag > 9999) = false:=decide_eq_false t2
  have T:=Lib.hid t1
  have T2:=Lib.hid t2
  clear t1 t2
  go_enter Try.func92,Try.ntmps92
  go_wp2_with (first | (go_at_call 118;refine (post_v w0 w p m _ l1 vf _ vq ve _ _ HS_0.out ⟨HP.out.ev,HP.out.ce,HP.out.lost⟩ 7 tag 0 zF none 0 (C_zero _) (Nat.le_refl _) (by decide)).mono ?_;rintro e w5 ⟨rfl,ve',hs⟩;have HS_5:=Lib.hid hs;clear hs))
  refine bodyPost_ret (results_none rfl _ _ _) rfl ?_
  exact ⟨rfl,_,_,_,by rw [abortV_no C0.out,okTag,if_neg (by have:=T.out;omega),if_neg (by have:=T2.out;omega)];exact HS_5.out⟩
 rw [if_neg c0] at hf
 rcases hr with ⟨e,_⟩ | ⟨j,hj,rfl,hpj,_⟩
 ·omega
 replace hlk : Sem.run Try.prog (Instr.lookup 122 (.map (some m)) (.int .i64 tag) true) w = .ok (.tuple #[.int .i64 (j : Int), .bool true]) w:=by have e:=hlk;rw [hf] at e;exact e
 have hj3:=h3 j hj hpj.1
 have hj0:=hpj.1
 clear c0 hf h3 hpj
 obtain ⟨o,HRr⟩:=HS_0.out.rows
 obtain ⟨Ab,cb,rfl,lb,rb⟩:=Kd.S_reads HRr.b
 obtain ⟨g,cp,e,_⟩:=Kd.S_form HRr.b (by omega)
 injection e with e1 e2 e3
 subst e1
 clear e2 e3
 obtain ⟨ad,A8,c8,ea,k0,k1,k2,k3,k4,k5,k6,k7,l8,g8⟩:=at_T87 rb (j : Int) (by omega) (by omega)
 cases ea
 clear k1 k2 k3 k4 k5 k6 k7 l8 g8 rb lb
 rw [Int.toNat_natCast,add_plain] at k0
 obtain ⟨b,hb⟩ : ∃ b,b = rd_T87 h.bs (j : Int):=⟨_,rfl⟩
 rw [← hb] at k0
 have HBX : Hid (b = bxAt h.bs j):=Lib.hid hb
 rw [show bxAt h.bs j = b from hb.symm] at hj3 hj0
 have HRo:=Lib.hid HRr
 have HJ:=Lib.hid hj
 have p5 : (0 ≤ (j : Int)) = True:=eq_true (by omega)
 have q5 : ((j : Int) < (h.bs.length : Int)) = True:=eq_true (by omega)
 have qn : (j < h.bs.length) = True:=eq_true hj
 clear hb HRr hj
 have y5 : w.cell? ⟨p,5,none⟩ = some (.slice (some ⟨g,0,none⟩) h.bs.length cb):=blk_cell HS_0.out.blk 5
 by_cases c1 : b.f0 = 1
 ·have s1 : (b.f0 == 1) = true:=beq_iff_eq.2 c1
  have C1:=Lib.hid c1
  clear c1 hj3 hj0
  go_enter Try.func92,Try.ntmps92
  go_wp2_with (first | (go_at_call 124;refine (free_v w0 w p m h l1 h.ce vf _ vq ve f n HS_0.out j HJ.out).mono ?_;rintro e w4 ⟨rfl,hs,hT⟩;have HS_4:=Lib.hid hs;clear hs hT) | (go_at_call 118;refine (post_v w0 w4 p m _ l1 vf _ vq ve _ _ HS_4.out ⟨HP.out.ev,HP.out.ce,HP.out.lost⟩ 6 tag 0 zF none 0 (C_zero _) (Nat.le_refl _) (by decide)).mono ?_;rintro e w5 ⟨rfl,ve',hs⟩;have HS_5:=Lib.hid hs;clear hs))
  go_end0
  exact ⟨rfl,_,_,_,by rw [abortV_wait (by rw [← HBX.out];exact C1.out)];exact HS_5.out⟩
 have s1 : (b.f0 == 1) = false:=beq_eq_false_iff_ne.2 c1
 have C1:=Lib.hid c1
 by_cases c2 : b.f0 = 2
 ·have s2 : (b.f0 == 2) = true:=beq_iff_eq.2 c2
  clear c1 c2 hj3 hj0
  go_enter Try.func92,Try.ntmps92
  go_wp2_with (first | ((with_reducible refine gate_store (t:=3) (p:=52) rfl ?_);refine S_put k87 (w0:=w0) w0.heap.size rfl rfl rfl (e:=87) (i:=j) (j:=0) (xs:=h.bs) (z:=z87) (x':=({ bxAt h.bs j with f0:=3 } : S87)) (u := .int .i64 3) rfl (by rfl) rfl rfl (by kernel_rfl) rfl (S_own1 HRo.out) HJ.out (by decide) (by intro oki c hc;obtain ⟨v7,rfl,g7⟩:=k87_openM hc;exact k87_mkM _ _ _ ({ bxAt h.bs j with f0:=3 } : S87) g7) HS_0.out.bel ?_;intro w4 hs hb hg;have HS_4:=Lib.hid (HS_0.out.putB HRo.out ((Tch.refl w (fun k => some k = (Value.slice (some ⟨g,0,none⟩) h.bs.length cb).ownBlock)).grown hg (fun k e => .inl e.symm)) hs);clear hs hb hg))
  go_end0
  exact ⟨rfl,_,_,_,by rw [abortV_doom (by rw [← HBX.out];exact C1.out)];exact HS_4.out⟩
 have s2 : (b.f0 == 2) = false:=beq_eq_false_iff_ne.2 c2
 have C3 : Hid (b.f0 = 3):=Lib.hid (by omega)
 clear c1 c2 hj3 hj0
 go_enter Try.func92,Try.ntmps92
 go_wp2_with (fail)
 go_end0
 exact ⟨rfl,_,_,_,by rw [abortV_doom (by rw [← HBX.out];exact C1.out),set_same HJ.out _ (by rw [← HBX.out, ← C3.out])];exact HS_0.out⟩
set_option maxRecDepth 100000 in
set_option maxHeartbeats 8000000 in
theorem l3doAbort_v (w0 w : World) (hB : Below w0.heap.size w0 w) (h : HV) (C : List Value) (hO : HOwn w w0.heap.size (fun _ => True) h C) (hS : HSm h) (hp : Posts h) (tag r : Int) (hr : IsFirst (tagP tag) h.bs r) :
  Calls Try.prog 93 #[.agg ⟨C⟩, .int .i64 tag] w fun e w' => ∃ C',e = .returned (.agg ⟨C'⟩) ∧ HOwn w' w0.heap.size (fun _ => True) (abortV h tag r) C' ∧ Below w0.heap.size w0 w':=by
 obtain ⟨vf,vb,vq,ve,o,rfl,HRr⟩:=hO
 have SM:=Lib.hid hS
 have HP:=Lib.hid hp
 have HRF:=Lib.hid hr
 have HRo:=Lib.hid HRr
 have HB_0:=Lib.hid hB
 have HW_0 : Hid (Below w.heap.size w w):=Lib.hid (Below.refl _ _)
 have hu:=Lib.hid Try.underlying32
 clear HRr hS hp hB
 by_cases c0 : r < 0
 ·have s0 : decide (r < 0) = true:=decide_eq_true c0
  have C0:=Lib.hid c0
  clear c0 hr
  by_cases t1 : tag < 0
  ·have s1 : decide (tag < 0) = true:=decide_eq_true t1
   have T:=Lib.hid t1
   clear t1
   go_enter Try.func93,Try.ntmps93
   go_upto_region 1 with (first | ((with_reducible refine gate_dst (N:=2) rfl ?_);refine box_event ?hg (N:=2) ?hd (cs:=⟨hostC h vf vb vq ve⟩) (t:=32) ?hr ?_;(case hd => rfl);(case hg => rfl);(case hr => first | (go_simp;done) | (go_simp;rfl));intro g1 hg w1 hbox hb;have LO_HB_g1 : Hid (w0.heap.size ≤ g1):=Lib.hid (by rw [hg];exact HB_0.out.size);have LO_HW_g1 : Hid (w.heap.size ≤ g1):=Lib.hid (by rw [hg];exact HW_0.out.size);have HEg1:=Lib.hid hg;have HB_1:=Lib.hid (below_then HB_0.out HB_0.out.size hb);have HW_1:=Lib.hid (below_then HW_0.out HW_0.out.size hb);have Xg1_1:=Lib.hid hbox;clear hg hbox hb) | ((with_reducible refine gate_dst (N:=4) rfl ?_);refine box_event ?hg (N:=4) ?hd (cs:=⟨[.int .i64 0, .int .i64 0, .int .i64 0, .int .i64 0, .slice none 0 0, .slice none 0 0, .slice none 0 0, .slice none 0 0, .int .i64 0, .int .i64 0]⟩) (t:=32) ?hr ?_;(case hd => rfl);(case hg => rfl);(case hr => first | (go_simp;done) | (go_simp;rfl));intro g2 hg w2 hbox hb;have LO_HB_g2 : Hid (w0.heap.size ≤ g2):=Lib.hid (by rw [hg];exact HB_1.out.size);have LO_HW_g2 : Hid (w.heap.size ≤ g2):=Lib.hid (by rw [hg];exact HW_1.out.size);have NE_g1_g2 : Hid (g1 ≠ g2):=Lib.hid (fun e => by have h1:=blk_lt Xg1_1.out;omega);have HEg2:=Lib.hid hg;have HB_2:=Lib.hid (below_then HB_1.out HB_1.out.size hb);have HW_2:=Lib.hid (below_then HW_1.out HW_1.out.size hb);have Xg1_2:=Lib.hid (blk_below Xg1_1.out hb);have Xg2_2:=Lib.hid hbox;clear hg hbox hb))
   have HP_2 : Hid (HostP w0 w2 g1 h vf vb vq ve):=Lib.hid ⟨HB_2.out,Xg1_2.out,⟨o,HRo.out.below HW_2.out⟩,LO_HB_g1.out⟩
   go_wp2_with (first | ((with_reducible refine gate_dst (N:=6) rfl ?_);refine load_all rfl rfl (g:=g1) rfl HP_2.out.blk hu.out (by kernel_rfl) ?_) | (go_at_call 133;refine (l3find_v h w2 _ (HostP.read HP_2.out) SM.out tag _ HRF.out).mono ?_;rintro e w3 ⟨rfl,hb⟩;have HP_3:=Lib.hid (HP_2.out.below hb);have X2_5:=Lib.hid (blk_below Xg2_2.out hb);have HW_3:=Lib.hid (below_then HW_2.out HW_2.out.size hb);clear hb) | ((with_reducible refine gate_dst (N:=17) rfl ?_);refine load_all rfl rfl (g:=g1) rfl HP_3.out.blk hu.out (by kernel_rfl) ?_) | (go_at_call 132;refine (l3say_v w0 w3 HP_3.out.bel h _ (by obtain ⟨o6,h6⟩:=HP_3.out.rows;exact ⟨_,_,_,_,o6,rfl,h6⟩) ⟨HP.out.ev,HP.out.ce,HP.out.lost⟩ 7 0 0).mono ?_;rintro e w9 ⟨C',rfl,ho,hb,hT⟩;have HO9:=Lib.hid ho.bound;have HCL:=Lib.hid ho.read.len;have HC1:=Lib.hid (HRead.one ho.read);have HB9:=Lib.hid hb;have X29:=Lib.hid (hT.blk X2_5.out (fun e => e.ne X2_5.out (by decide) rfl));clear ho hb hT) | ((with_reducible refine gate_store (t:=32) (p:=4) rfl ?_);refine store_all rfl rfl rfl (g:=g2) (C:=C') rfl rfl X29.out (by rw [HCL.out];kernel_rfl) HC1.out HCL.out.symm ?_;intro wz hx hT;have HZX:=Lib.hid hx;have HZO:=Lib.hid (HO9.out.tch hT (fun k hk e => hk.2.ne X29.out (by decide) e));have HZB:=Lib.hid (hT.below HB9.out HB9.out.size (fun k hk => by rw [hk];exact LO_HB_g2.out));clear hx hT))
   refine bodyPost_ret (results_cell_row rfl _ _ g2 32 ⟨C'⟩ (0,0) _ rfl HZX.out Try.underlying32 rfl (by rw [show (⟨C'⟩ : Array Value).size = 10 from HCL.out];kernel_rfl)) rfl ?_
   exact ⟨C',rfl,by rw [abortV_no C0.out,okTag,if_pos T.out];exact HZO.out.mono (fun _ _ => trivial),HZB.out⟩
  have s1 : decide (tag < 0) = false:=decide_eq_false t1
  by_cases t2 : tag > 9999
  ·have s2 : decide (tag > 9999) = true:=decide_eq_true t2
   have T:=Lib.hid t1
   have T2:=Lib.hid t2
   clear t1 t2
   go_enter Try.func93,Try.ntmps93
   go_upto_region 1 with (first | ((with_reducible refine gate_dst (N:=2) rfl ?_);refine box_event ?hg (N:=2) ?hd (cs:=⟨hostC h vf vb vq ve⟩) (t:=32) ?hr ?_;(case hd => rfl);(case hg => rfl);(case hr => first | (go_simp;done) | (go_simp;rfl));intro g1 hg w1 hbox hb;have LO_HB_g1 : Hid (w0.heap.size ≤ g1):=Lib.hid (by rw [hg];exact HB_0.out.size);have LO_HW_g1 : Hid (w.heap.size ≤ g1):=Lib.hid (by rw [hg];exact HW_0.out.size);have HEg1:=Lib.hid hg;have HB_1:=Lib.hid (below_then HB_0.out HB_0.out.size hb);have HW_1:=Lib.hid (below_then HW_0.out HW_0.out.size hb);have Xg1_1:=Lib.hid hbox;clear hg hbox hb) | ((with_reducible refine gate_dst (N:=4) rfl ?_);refine box_event ?hg (N:=4) ?hd (cs:=⟨[.int .i64 0, .int .i64 0, .int .i64 0, .int .i64 0, .slice none 0 0, .slice none 0 0, .slice none 0 0, .slice none 0 0, .int .i64 0, .int .i64 0]⟩) (t:=32) ?hr ?_;(case hd => rfl);(case hg => rfl);(case hr => first | (go_simp;done) | (go_simp;rfl));intro g2 hg w2 hbox hb;have LO_HB_g2 : Hid (w0.heap.size ≤ g2):=Lib.hid (by rw [hg];exact HB_1.out.size);have LO_HW_g2 : Hid (w.heap.size ≤ g2):=Lib.hid (by rw [hg];exact HW_1.out.size);have NE_g1_g2 : Hid (g1 ≠ g2):=Lib.hid (fun e => by have h1:=blk_lt Xg1_1.out;omega);have HEg2:=Lib.hid hg;have HB_2:=Lib.hid (below_then HB_1.out HB_1.out.size hb);have HW_2:=Lib.hid (below_then HW_1.out HW_1.out.size hb);have Xg1_2:=Lib.hid (blk_below Xg1_1.out hb);have Xg2_2:=Lib.hid hbox;clear hg hbox hb))
   have HP_2 : Hid (HostP w0 w2 g1 h vf vb vq ve):=Lib.hid ⟨HB_2.out,Xg1_2.out,⟨o,HRo.out.below HW_2.out⟩,LO_HB_g1.out⟩
   go_wp2_with (first | ((with_reducible refine gate_dst (N:=6) rfl ?_);refine load_all rfl rfl (g:=g1) rfl HP_2.out.blk hu.out (by kernel_rfl) ?_) | (go_at_call 133;refine (l3find_v h w2 _ (HostP.read HP_2.out) SM.out tag _ HRF.out).mono ?_;rintro e w3 ⟨rfl,hb⟩;have HP_3:=Lib.hid (HP_2.out.below hb);have X2_5:=Lib.hid (blk_below Xg2_2.out hb);have HW_3:=Lib.hid (below_then HW_2.out HW_2.out.size hb);clear hb) | ((with_reducible refine gate_dst (N:=17) rfl ?_);refine load_all rfl rfl (g:=g1) rfl HP_3.out.blk hu.out (by kernel_rfl) ?_) | (go_at_call 132;refine (l3say_v w0 w3 HP_3.out.bel h _ (by obtain ⟨o6,h6⟩:=HP_3.out.rows;exact ⟨_,_,_,_,o6,rfl,h6⟩) ⟨HP.out.ev,HP.out.ce,HP.out.lost⟩ 7 0 0).mono ?_;rintro e w9 ⟨C',rfl,ho,hb,hT⟩;have HO9:=Lib.hid ho.bound;have HCL:=Lib.hid ho.read.len;have HC1:=Lib.hid (HRead.one ho.read);have HB9:=Lib.hid hb;have X29:=Lib.hid (hT.blk X2_5.out (fun e => e.ne X2_5.out (by decide) rfl));clear ho hb hT) | ((with_reducible refine gate_store (t:=32) (p:=4) rfl ?_);refine store_all rfl rfl rfl (g:=g2) (C:=C') rfl rfl X29.out (by rw [HCL.out];kernel_rfl) HC1.out HCL.out.symm ?_;intro wz hx hT;have HZX:=Lib.hid hx;have HZO:=Lib.hid (HO9.out.tch hT (fun k hk e => hk.2.ne X29.out (by decide) e));have HZB:=Lib.hid (hT.below HB9.out HB9.out.size (fun k hk => by rw [hk];exact LO_HB_g2.out));clear hx hT))
   refine bodyPost_ret (results_cell_row rfl _ _ g2 32 ⟨C'⟩ (0,0) _ rfl HZX.out Try.underlying32 rfl (by rw [show (⟨C'⟩ : Array Value).size = 10 from HCL.out];kernel_rfl)) rfl ?_
   exact ⟨C',rfl,by rw [abortV_no C0.out,okTag,if_neg (by have:=T.out;omega),if_pos T2.out];exact HZO.out.mono (fun _ _ => trivial),HZB.out⟩
  have s2 : decide (tag > 9999) = false:=decide_eq_false t2
  have T:=Lib.hid t1
  have T2:=Lib.hid t2
  clear t1 t2
  go_enter Try.func93,Try.ntmps93
  go_upto_region 1 with (first | ((with_reducible refine gate_dst (N:=2) rfl ?_);refine box_event ?hg (N:=2) ?hd (cs:=⟨hostC h vf vb vq ve⟩) (t:=32) ?hr ?_;(case hd => rfl);(case hg => rfl);(case hr => first | (go_simp;done) | (go_simp;rfl));intro g1 hg w1 hbox hb;have LO_HB_g1 : Hid (w0.heap.size ≤ g1):=Lib.hid (by rw [hg];exact HB_0.out.size);have LO_HW_g1 : Hid (w.heap.size ≤ g1):=Lib.hid (by rw [hg];exact HW_0.out.size);have HEg1:=Lib.hid hg;have HB_1:=Lib.hid (below_then HB_0.out HB_0.out.size hb);have HW_1:=Lib.hid (below_then HW_0.out HW_0.out.size hb);have Xg1_1:=Lib.hid hbox;clear hg hbox hb) | ((with_reducible refine gate_dst (N:=4) rfl ?_);refine box_event ?hg (N:=4) ?hd (cs:=⟨[.int .i64 0, .int .i64 0, .int .i64 0, .int .i64 0, .slice none 0 0, .slice none 0 0, .slice none 0 0, .slice none 0 0, .int .i64 0, .int .i64 0]⟩) (t:=32) ?hr ?_;(case hd => rfl);(case hg => rfl);(case hr => first | (go_simp;done) | (go_simp;rfl));intro g2 hg w2 hbox hb;have LO_HB_g2 : Hid (w0.heap.size ≤ g2):=Lib.hid (by rw [hg];exact HB_1.out.size);have LO_HW_g2 : Hid (w.heap.size ≤ g2):=Lib.hid (by rw [hg];exact HW_1.out.size);have NE_g1_g2 : Hid (g1 ≠ g2):=Lib.hid (fun e => by have h1:=blk_lt Xg1_1.out;omega);have HEg2:=Lib.hid hg;have HB_2:=Lib.hid (below_then HB_1.out HB_1.out.size hb);have HW_2:=Lib.hid (below_then HW_1.out HW_1.out.size hb);have Xg1_2:=Lib.hid (blk_below Xg1_1.out hb);have Xg2_2:=Lib.hid hbox;clear hg hbox hb))
  have HP_2 : Hid (HostP w0 w2 g1 h vf vb vq ve):=Lib.hid ⟨HB_2.out,Xg1_2.out,⟨o,HRo.out.below HW_2.out⟩,LO_HB_g1.out⟩
  go_wp2_with (first | ((with_reducible refine gate_dst (N:=6) rfl ?_);refine load_all rfl rfl (g:=g1) rfl HP_2.out.blk hu.out (by kernel_rfl) ?_) | (go_at_call 133;refine (l3find_v h w2 _ (HostP.read HP_2.out) SM.out tag _ HRF.out).mono ?_;rintro e w3 ⟨rfl,hb⟩;have HP_3:=Lib.hid (HP_2.out.below hb);have X2_5:=Lib.hid (blk_below Xg2_2.out hb);have HW_3:=Lib.hid (below_then HW_2.out HW_2.out.size hb);clear hb) | ((with_reducible refine gate_dst (N:=17) rfl ?_);refine load_all rfl rfl (g:=g1) rfl HP_3.out.blk hu.out (by kernel_rfl) ?_) | (go_at_call 132;refine (l3say_v w0 w3 HP_3.out.bel h _ (by obtain ⟨o6,h6⟩:=HP_3.out.rows;exact ⟨_,_,_,_,o6,rfl,h6⟩) ⟨HP.out.ev,HP.out.ce,HP.out.lost⟩ 7 tag 0).mono ?_;rintro e w9 ⟨C',rfl,ho,hb,hT⟩;have HO9:=Lib.hid ho.bound;have HCL:=Lib.hid ho.read.len;have HC1:=Lib.hid (HRead.one ho.read);have HB9:=Lib.hid hb;have X29:=Lib.hid (hT.blk X2_5.out (fun e => e.ne X2_5.out (by decide) rfl));clear ho hb hT) | ((with_reducible refine gate_store (t:=32) (p:=4) rfl ?_);refine store_all rfl rfl rfl (g:=g2) (C:=C') rfl rfl X29.out (by rw [HCL.out];kernel_rfl) HC1.out HCL.out.symm ?_;intro wz hx hT;have HZX:=Lib.hid hx;have HZO:=Lib.hid (HO9.out.tch hT (fun k hk e => hk.2.ne X29.out (by decide) e));have HZB:=Lib.hid (hT.below HB9.out HB9.out.size (fun k hk => by rw [hk];exact LO_HB_g2.out));clear hx hT))
  refine bodyPost_ret (results_cell_row rfl _ _ g2 32 ⟨C'⟩ (0,0) _ rfl HZX.out Try.underlying32 rfl (by rw [show (⟨C'⟩ : Array Value).size = 10 from HCL.out];kernel_rfl)) rfl ?_
  exact ⟨C',rfl,by rw [abortV_no C0.out,okTag,if_neg (by have:=T.out;omega),if_neg (by have:=T2.out;omega)];exact HZO.out.mono (fun _ _ => trivial),HZB.out⟩
 have s0 : decide (r < 0) = false:=decide_eq_false c0
 rcases hr with ⟨e,_⟩ | ⟨j,hj,rfl,_,_⟩
 ·omega
 clear c0
 have HJ:=Lib.hid hj
 go_enter Try.func93,Try.ntmps93
 go_upto_region 1 with (first | ((with_reducible refine gate_dst (N:=2) rfl ?_);refine box_event ?hg (N:=2) ?hd (cs:=⟨hostC h vf vb vq ve⟩) (t:=32) ?hr ?_;(case hd => rfl);(case hg => rfl);(case hr => first | (go_simp;done) | (go_simp;rfl));intro g1 hg w1 hbox hb;have LO_HB_g1 : Hid (w0.heap.size ≤ g1):=Lib.hid (by rw [hg];exact HB_0.out.size);have LO_HW_g1 : Hid (w.heap.size ≤ g1):=Lib.hid (by rw [hg];exact HW_0.out.size);have HEg1:=Lib.hid hg;have HB_1:=Lib.hid (below_then HB_0.out HB_0.out.size hb);have HW_1:=Lib.hid (below_then HW_0.out HW_0.out.size hb);have Xg1_1:=Lib.hid hbox;clear hg hbox hb) | ((with_reducible refine gate_dst (N:=4) rfl ?_);refine box_event ?hg (N:=4) ?hd (cs:=⟨[.int .i64 0, .int .i64 0, .int .i64 0, .int .i64 0, .slice none 0 0, .slice none 0 0, .slice none 0 0, .slice none 0 0, .int .i64 0, .int .i64 0]⟩) (t:=32) ?hr ?_;(case hd => rfl);(case hg => rfl);(case hr => first | (go_simp;done) | (go_simp;rfl));intro g2 hg w2 hbox hb;have LO_HB_g2 : Hid (w0.heap.size ≤ g2):=Lib.hid (by rw [hg];exact HB_1.out.size);have LO_HW_g2 : Hid (w.heap.size ≤ g2):=Lib.hid (by rw [hg];exact HW_1.out.size);have NE_g1_g2 : Hid (g1 ≠ g2):=Lib.hid (fun e => by have h1:=blk_lt Xg1_1.out;omega);have HEg2:=Lib.hid hg;have HB_2:=Lib.hid (below_then HB_1.out HB_1.out.size hb);have HW_2:=Lib.hid (below_then HW_1.out HW_1.out.size hb);have Xg1_2:=Lib.hid (blk_below Xg1_1.out hb);have Xg2_2:=Lib.hid hbox;clear hg hbox hb))
 have HP_2 : Hid (HostP w0 w2 g1 h vf vb vq ve):=Lib.hid ⟨HB_2.out,Xg1_2.out,⟨o,HRo.out.below HW_2.out⟩,LO_HB_g1.out⟩
 go_upto_region 6 with (first | ((with_reducible refine gate_dst (N:=6) rfl ?_);refine load_all rfl rfl (g:=g1) rfl HP_2.out.blk hu.out (by kernel_rfl) ?_) | (go_at_call 133;refine (l3find_v h w2 _ (HostP.read HP_2.out) SM.out tag _ HRF.out).mono ?_;rintro e w3 ⟨rfl,hb⟩;have HP_3:=Lib.hid (HP_2.out.below hb);have X2_5:=Lib.hid (blk_below Xg2_2.out hb);have HW_3:=Lib.hid (below_then HW_2.out HW_2.out.size hb);clear hb))
 obtain ⟨o3,HR3r⟩:=HP_3.out.rows
 obtain ⟨Ab,cb,rfl,lb,rb⟩:=Kd.S_reads HR3r.b
 obtain ⟨g,cp,e,_⟩:=Kd.S_form HR3r.b (by omega)
 injection e with e1 e2 e3
 subst e1
 clear e2 e3
 obtain ⟨ad,A8,c8,ea,k0,k1,k2,k3,k4,k5,k6,k7,l8,g8⟩:=at_T87 rb (j : Int) (by omega) (by omega)
 cases ea
 clear k1 k2 k3 k4 k5 k6 k7 l8 g8 rb lb
 rw [Int.toNat_natCast,add_plain] at k0
 obtain ⟨b,hb⟩ : ∃ b,b = rd_T87 h.bs (j : Int):=⟨_,rfl⟩
 rw [← hb] at k0
 have HBX : Hid (b = bxAt h.bs j):=Lib.hid hb
 have HR_5:=Lib.hid HR3r
 have HP_5:=HP_3
 have p5 : (0 ≤ (j : Int)) = True:=eq_true (by omega)
 have q5 : ((j : Int) < (h.bs.length : Int)) = True:=eq_true (by omega)
 have qn : (j < h.bs.length) = True:=eq_true hj
 clear hb HR3r hj
 have y5 : w3.cell? ⟨g1,5,none⟩ = some (.slice (some ⟨g,0,none⟩) h.bs.length cb):=blk_cell HP_3.out.blk 5
 by_cases c1 : b.f0 = 1
 ·have s1 : (b.f0 == 1) = true:=beq_iff_eq.2 c1
  have C1:=Lib.hid c1
  clear c1
  go_upto_region 8 with (first | ((with_reducible refine gate_store (t:=87) (p:=31) rfl ?_);refine S_puts k87 (w0:=w0) w0.heap.size rfl rfl rfl (e:=87) (i:=j) (xs:=h.bs) (x':=zBox) (u := .agg ⟨[.int .i64 0, .int .i64 0, .int .i64 0, .bool false, .int .u32 0, .bool false, .int .i64 0, .slice none 0 0]⟩) (seg := [.int .i64 0, .int .i64 0, .int .i64 0, .bool false, .int .u32 0, .bool false, .int .i64 0, .slice none 0 0]) z87 rfl (by rfl) rfl rfl (by kernel_rfl) (by decide) rfl (S_own1 HR_5.out) HJ.out (zBox_M _ _ _) HP_5.out.bel ?_;intro w6 hs hb hg;have hT:=(Tch.refl w3 (fun k => some k = (Value.slice (some ⟨g,0,none⟩) h.bs.length cb).ownBlock)).grown hg (fun k e => .inl e.symm);have HP_6:=Lib.hid (HP_5.out.putB HR_5.out hT hs);have X2_6:=Lib.hid (hT.blk X2_5.out (Kd.S_ne HR_5.out.b X2_5.out (by decide)));skip;clear hs hb hg hT))
  go_wp2_with (first | ((with_reducible refine gate_dst (N:=32) rfl ?_);refine load_all rfl rfl (g:=g1) rfl HP_6.out.blk hu.out (by kernel_rfl) ?_) | (go_at_call 132;refine (l3say_v w0 w6 HP_6.out.bel ({ h with bs:=h.bs.set j zBox } : HV) _ (by obtain ⟨o6,h6⟩:=HP_6.out.rows;exact ⟨_,_,_,_,o6,rfl,h6⟩) ⟨HP.out.ev,HP.out.ce,HP.out.lost⟩ 6 tag 0).mono ?_;rintro e w9 ⟨C',rfl,ho,hb,hT⟩;have HO9:=Lib.hid ho.bound;have HCL:=Lib.hid ho.read.len;have HC1:=Lib.hid (HRead.one ho.read);have HB9:=Lib.hid hb;have X29:=Lib.hid (hT.blk X2_6.out (fun e => e.ne X2_6.out (by decide) rfl));clear ho hb hT) | ((with_reducible refine gate_store (t:=32) (p:=4) rfl ?_);refine store_all rfl rfl rfl (g:=g2) (C:=C') rfl rfl X29.out (by rw [HCL.out];kernel_rfl) HC1.out HCL.out.symm ?_;intro wz hx hT;have HZX:=Lib.hid hx;have HZO:=Lib.hid (HO9.out.tch hT (fun k hk e => hk.2.ne X29.out (by decide) e));have HZB:=Lib.hid (hT.below HB9.out HB9.out.size (fun k hk => by rw [hk];exact LO_HB_g2.out));clear hx hT))
  refine bodyPost_ret (results_cell_row rfl _ _ g2 32 ⟨C'⟩ (0,0) _ rfl HZX.out Try.underlying32 rfl (by rw [show (⟨C'⟩ : Array Value).size = 10 from HCL.out];kernel_rfl)) rfl ?_
  exact ⟨C',rfl,by rw [abortV_wait (by rw [← HBX.out];exact C1.out)];exact HZO.out.mono (fun _ _ => trivial),HZB.out⟩
 have s1 : (b.f0 == 1) = false:=beq_eq_false_iff_ne.2 c1
 have C1:=Lib.hid c1
 clear c1
 go_upto_region 10 with (first | ((with_reducible refine gate_store (t:=3) (p:=39) rfl ?_);refine S_put k87 (w0:=w0) w0.heap.size rfl rfl rfl (e:=87) (i:=j) (j:=0) (xs:=h.bs) (z:=z87) (x':=({ bxAt h.bs j with f0:=3 } : S87)) (u := .int .i64 3) rfl (by rfl) rfl rfl (by kernel_rfl) rfl (S_own1 HR_5.out) HJ.out (by decide) (by intro oki c hc;obtain ⟨v7,rfl,g7⟩:=k87_openM hc;exact k87_mkM _ _ _ ({ bxAt h.bs j with f0:=3 } : S87) g7) HP_5.out.bel ?_;intro w6 hs hb hg;have hT:=(Tch.refl w3 (fun k => some k = (Value.slice (some ⟨g,0,none⟩) h.bs.length cb).ownBlock)).grown hg (fun k e => .inl e.symm);have HP_6:=Lib.hid (HP_5.out.putB HR_5.out hT hs);have X2_6:=Lib.hid (hT.blk X2_5.out (Kd.S_ne HR_5.out.b X2_5.out (by decide)));clear hs hb hg hT))
 go_wp2_with (first | ((with_reducible refine gate_dst (N:=40) rfl ?_);refine load_all rfl rfl (g:=g1) rfl HP_6.out.blk hu.out (by kernel_rfl) ?_) | ((with_reducible refine gate_store (t:=32) (p:=4) rfl ?_);refine store_all rfl rfl rfl (g:=g2) (C:=hostC ({ h with bs:=h.bs.set j { bxAt h.bs j with f0:=3 } } : HV) vf (.slice (some ⟨g,0,none⟩) h.bs.length cb) vq ve) rfl rfl X2_6.out (by kernel_rfl) ?hone rfl ?_;(case hone => exact HRead.one (HostP.read HP_6.out));intro wz hx hT;have HZX:=Lib.hid hx;have HZO:=Lib.hid (HostP.own2 HP_6.out hT X2_6.out);have HZB:=Lib.hid (hT.below HP_6.out.bel HP_6.out.bel.size (fun k hk => by rw [hk];exact LO_HB_g2.out));clear hx hT))
 refine bodyPost_ret (results_cell_row rfl _ _ g2 32 ⟨hostC ({ h with bs:=h.bs.set j { bxAt h.bs j with f0:=3 } } : HV) vf (.slice (some ⟨g,0,none⟩) h.bs.length cb) vq ve⟩ (0,0) _ rfl HZX.out Try.underlying32 rfl (by kernel_rfl)) rfl ?_
 exact ⟨_,rfl,by rw [abortV_doom (by rw [← HBX.out];exact C1.out)];exact HZO.out,HZB.out⟩
end Go.Proofs.Ytcaefabbcjlkdaa.P
namespace Go.Proofs.Ytcaefabbcjlkdaa.P
open Go.RowKit Go.Proofs.YtcaefabbcjlkdaaW.PrintWords Go.Proofs.YtcaefabbcjlkdaaW.PrintLast Go.Proofs.YtcaefabbcjlkdaaW.PrintMore
set_option linter.unusedVariables false
set_option linter.unusedSimpArgs false
set_option maxHeartbeats 2000000 in
theorem impl_ValidFrame.any (a0_0 : Bool) (a0_1 : Int) (a0_2 : Bool) (a0_3 : Int) (A0_4 : Option Addr) (c0_4 n : Nat) (w : World) (hn : n ≤ 9223372036854775807) :
  Calls Try.prog 119 #[.agg #[.bool a0_0, .int .u32 a0_1, .bool a0_2, .int .i64 a0_3, .slice A0_4 n c0_4]] w fun e w' => e = .returned (.bool (validF a0_0 a0_1 a0_2 a0_3 n)) ∧ Below w.heap.size w w':=by
 obtain ⟨b1,h1⟩ : ∃ b,decide (a0_1 < vtop a0_0) = b:=⟨_,rfl⟩
 obtain ⟨b2,h2⟩ : ∃ b,decide (0 ≤ a0_3) = b:=⟨_,rfl⟩
 obtain ⟨b3,h3⟩ : ∃ b,decide (a0_3 ≤ 15) = b:=⟨_,rfl⟩
 obtain ⟨b4,h4⟩ : ∃ b,((n : Int) == dataB a0_2 a0_3) = b:=⟨_,rfl⟩
 obtain ⟨r,hr⟩ : ∃ r,validF a0_0 a0_1 a0_2 a0_3 n = r:=⟨_,rfl⟩
 have HR : Hid ((b1 && (b2 && (b3 && b4))) = r):=by
  refine Lib.hid ?_
  rw [← hr, ← h1, ← h2, ← h3, ← h4];rfl
 rw [hr]
 clear hr
 have e0 : vtop false = 2048:=rfl
 have e1 : vtop true = 536870912:=rfl
 cases a0_0
 all_goals (first | rw [e0] at h1 | rw [e1] at h1);clear e0 e1
 all_goals cases b1
 any_goals cases b2
 any_goals cases b3
 all_goals
  go_enter Try.func119,Try.ntmps119
  go_wp2
  go_quiet ((go_at_call 144;exact Calls.quiet_of_same (impl_dataBytes.same _ _ _)))
  go_wp2
  go_ret
  exact ⟨by rw [← HR.out];rfl,((Below.refl _ _).alloc (Nat.le_refl _) _).trans (pw_below_drewN (Below.refl _ _) _)⟩
end Go.Proofs.Ytcaefabbcjlkdaa.P
namespace Go.Proofs.Ytcaefabbcjlkdaa.P
open Go Go.RowKit Go.Proofs.YtcaefabbcjlkdaaW.PrintWords Go.Proofs.YtcaefabbcjlkdaaW.PrintLast Go.Proofs.YtcaefabbcjlkdaaW.PrintMore
set_option linter.unusedVariables false
set_option linter.unusedSimpArgs false
theorem len_run {P : Program} {W : World} {t kt et : TypeId} {m n : Nat} {f : Int → Option Int} (hm : P.underlying t = some (.map kt et)) (h : MapAt W m f n) (ty : TypeId) : Sem.run P (Builtin.len_ #[t] ty #[.map (some m)]) W = .ok (.int .i64 n) W:=by
 obtain ⟨es,cl,hb,_,_,_,hz⟩:=h
 have e : Sem.run P (Builtin.len_ #[t] ty #[.map (some m)]) W = (Builtin.len_ #[t] ty #[.map (some m)]).run P W:=rfl
 rw [e]
 simp [Builtin.len_,run_underlying hm,Go.MapKept.run_getObj_map hb,Result.andThen,hz,goInt]
theorem isF {o : Bool} {p : Prop} (h : o = true ↔ p) (hn : ¬ p) : o = false:=by
 cases o with
 | false => rfl
 | true => exact absurd (h.1 rfl) hn
theorem zeroFrame_at (x : S45) (A : Option Addr) (c : Nat) (w : World) (z : Bool) (hz : zeroB x = z) :
  Calls Try.prog 143 #[.agg #[.bool x.f0, .int .u32 x.f1, .bool x.f2, .int .i64 x.f3, .slice A x.f4.length c]] w fun e w' => e = .returned (.bool z) ∧ Below w.heap.size w w':=by
 rw [← hz];exact zeroFrame_v x A c w
theorem validFrame_at (x : S45) (A : Option Addr) (c : Nat) (w : World) (z : Bool) (hz : valF x = z) (hn : x.f4.length ≤ 10000000) :
  Calls Try.prog 119 #[.agg #[.bool x.f0, .int .u32 x.f1, .bool x.f2, .int .i64 x.f3, .slice A x.f4.length c]] w fun e w' => e = .returned (.bool z) ∧ Below w.heap.size w w':=by
 rw [← hz];exact impl_ValidFrame.any x.f0 x.f1 x.f2 x.f3 A c x.f4.length w (Nat.le_trans hn (by decide))
set_option maxRecDepth 100000 in
set_option maxHeartbeats 8000000 in
theorem goodBoxes_v (h : HV) (o : Bool) (ho : o = true ↔ GoodB h.stamp h.bs) (w : World) (C : List Value) (hR : HRead w h C) (hS : HSm h) :
  Calls Try.prog 117 #[.agg ⟨C⟩] w fun e w' => e = .returned (.bool o) ∧ Below w.heap.size w w':=by
 obtain ⟨Af,cf,Ab,cb,Aq,cq,Ae,ce,rfl,_,_,rb,lb,_,_,_,_⟩:=hR
 have RB:=Lib.hid rb
 have HO:=Lib.hid ho
 have SM:=Lib.hid hS
 clear rb ho hS
 have HB_0 : Hid (Below w.heap.size w w):=Lib.hid (Below.refl _ _)
 go_enter Try.func117,Try.ntmps117
 go_upto_region 1 with (first | ((with_reducible refine gate_dst (N:=1) rfl ?_);refine box_event ?hg (N:=1) ?hd (cs:=⟨hostC h (.slice Af h.fs.length cf) (.slice Ab h.bs.length cb) (.slice Aq h.fr.length cq) (.slice Ae h.ev.length ce)⟩) (t:=32) ?hr ?_;(case hd => rfl);(case hg => rfl);(case hr => first | (go_simp;done) | (go_simp;rfl));intro g1 hg w1 hbox hb;have LO_HB_g1 : Hid (w.heap.size ≤ g1):=Lib.hid (by rw [hg];exact HB_0.out.size);have HEg1:=Lib.hid hg;have HB_1:=Lib.hid (below_then HB_0.out HB_0.out.size hb);have Xg1_1:=Lib.hid hbox;clear hg hbox hb))
 go_upto_region 2 with (first | ((with_reducible refine gate_dst (N:=11) rfl ?_);refine map_event rfl ?hr ?_;(case hr => first | (go_simp;done) | (go_simp;rfl));intro m3 hm w2 hmap hb;have LMm3 : Hid (w.heap.size ≤ m3):=Lib.hid (by rw [hm];exact HB_1.out.size);have NE_g1_m3 : Hid (g1 ≠ m3):=Lib.hid (fun e => by have h1:=blk_lt Xg1_1.out;omega);have HB_2:=Lib.hid (below_then HB_1.out HB_1.out.size hb);have Xg1_2:=Lib.hid (blk_below Xg1_1.out hb);have M3_2:=Lib.hid (MapAt.new hmap);clear hm hmap hb) | ((with_reducible refine gate_dst (N:=12) rfl ?_);refine map_event rfl ?hr ?_;(case hr => first | (go_simp;done) | (go_simp;rfl));intro m4 hm w3 hmap hb;have LMm4 : Hid (w.heap.size ≤ m4):=Lib.hid (by rw [hm];exact HB_2.out.size);have NE_g1_m4 : Hid (g1 ≠ m4):=Lib.hid (fun e => by have h1:=blk_lt Xg1_2.out;omega);have NE_m3_m4 : Hid (m3 ≠ m4):=Lib.hid (fun e => by have h1:=M3_2.out.lt;omega);have HB_3:=Lib.hid (below_then HB_2.out HB_2.out.size hb);have Xg1_3:=Lib.hid (blk_below Xg1_2.out hb);have M3_3:=Lib.hid (M3_2.out.below hb);have M4_3:=Lib.hid (MapAt.new hmap);clear hm hmap hb))
 have y5 : w3.cell? ⟨g1,5,none⟩ = some (.slice Ab h.bs.length cb):=blk_cell Xg1_3.out 5
 go_wp2_with (fail)
 clear y5
 go_loopw [16,5] (fun v16 v5 wr => ∃ i : Nat,i ≤ h.bs.length ∧ v16 = .int .i64 i ∧ v5 = .int .i64 (busyN h.bs i) ∧ Aside0 (∀ j,j < i → boxOk h.stamp (bxAt h.bs j)) ∧ Aside0 (MapAt wr m3 (keyUp (·.f1) h.bs i).1 (keyUp (·.f1) h.bs i).2) ∧ Aside0 (MapAt wr m4 (keyUp (·.f2) h.bs i).1 (keyUp (·.f2) h.bs i).2) ∧ Aside0 ((keyUp (·.f1) h.bs i).2 = (keyUp (·.f2) h.bs i).2) ∧ Aside0 (wr.heap[g1]? = some (.cells ⟨hostC h (.slice Af h.fs.length cf) (.slice Ab h.bs.length cb) (.slice Aq h.fr.length cq) (.slice Ae h.ev.length ce)⟩ 32 (0,0))) ∧ Aside0 (Below w.heap.size w wr)) (fun v16 _ _ => h.bs.length - (intOf v16).toNat)
 case atStart => exact ⟨0,Nat.zero_le _,rfl,rfl,⟨fun j hj => absurd hj (Nat.not_lt_zero _)⟩,⟨M3_3.out⟩,⟨M4_3.out⟩,⟨rfl⟩,⟨Xg1_3.out⟩,⟨HB_3.out⟩⟩
 case round =>
  clear M3_3 M4_3 Xg1_3 HB_3
  obtain ⟨i,hi,rfl,rfl,HONE,HM3,HM4,HEQ,HX,HB⟩:=hrel
  by_cases hlt : i < h.bs.length
  ·have b2 : decide ((i : Int) < (h.bs.length : Int)) = true:=decide_eq_true (by omega)
   have p5 : (0 ≤ (i : Int)) = True:=eq_true (by omega)
   have q5 : ((i : Int) < (h.bs.length : Int)) = True:=eq_true (by omega)
   have qn : (i < h.bs.length) = True:=eq_true hlt
   have hn : wrap64 ((i : Int) + 1) = (i : Int) + 1:=by have:=SM.out.l2;unfold wrap64;omega
   have HLT:=Lib.hid hlt
   have HI:=Lib.hid hi
   have HN:=Lib.hid hn
   obtain ⟨ad,A8,c8,ea,k0,k1,k2,k3,k4,k5,k6,k7,l8,g8⟩:=at_T87 (Kd.C_below RB.out HB.out) (i : Int) (by omega) (by omega)
   subst ea
   clear hlt hi l8 g8
   rw [Int.toNat_natCast] at k0 k1 k2 k3 k4 k5 k6 k7
   obtain ⟨b,hb⟩ : ∃ b,b = rd_T87 h.bs (i : Int):=⟨_,rfl⟩
   rw [← hb] at k0 k1 k2 k3 k4 k5 k6 k7
   have HBE:=Lib.hid hb
   have HBX : Hid (b = bxAt h.bs i):=Lib.hid hb
   have HD8 : Hid (b.f3.f4.length ≤ 10000000):=Lib.hid (by rw [hb];exact SM.out.d2 _ (List.mem_of_getElem? (getD_at h.bs i z87 HLT.out)))
   clear hb
   go_upto_region 6 with (first | ((with_reducible refine gate_dst (N:=7) rfl ?_);refine box_event ?hg (N:=7) ?hd (cs := #[.int .i64 0, .int .i64 0, .int .i64 0, .bool false, .int .u32 0, .bool false, .int .i64 0, .slice none 0 0]) (t:=87) ?hr ?_;(case hd => rfl);(case hg => rfl);(case hr => first | (go_simp;done) | (go_simp;rfl));intro gb hg w1 hbox hb;have LO_HB_gb : Hid (w.heap.size ≤ gb):=Lib.hid (by rw [hg];exact HB.out.size);have NE_g1_gb : Hid (g1 ≠ gb):=Lib.hid (fun e => by have h1:=blk_lt HX.out;omega);have HEgb:=Lib.hid hg;have HB_1:=Lib.hid (below_then HB.out HB.out.size hb);have X_1:=Lib.hid (blk_below HX.out hb);have M3_1:=Lib.hid (HM3.out.below hb);have M4_1:=Lib.hid (HM4.out.below hb);have Xgb_1:=Lib.hid hbox;clear hg hbox hb) | ((with_reducible refine gate_store (t:=87) (p:=7) rfl ?_);refine store_box rfl rfl rfl (g:=gb) (j:=0) (cs := #[.int .i64 0, .int .i64 0, .int .i64 0, .bool false, .int .u32 0, .bool false, .int .i64 0, .slice none 0 0]) (cs':=⟨[.int .i64 b.f0, .int .i64 b.f1, .int .i64 b.f2, .bool b.f3.f0, .int .u32 b.f3.f1, .bool b.f3.f2, .int .i64 b.f3.f3, .slice A8 b.f3.f4.length c8]⟩) (seg := [.int .i64 b.f0, .int .i64 b.f1, .int .i64 b.f2, .bool b.f3.f0, .int .u32 b.f3.f1, .bool b.f3.f2, .int .i64 b.f3.f3, .slice A8 b.f3.f4.length c8]) rfl rfl Xgb_1.out rfl (by kernel_rfl) rfl rfl rfl ?_;intro w2 hx hT;have HB_2:=Lib.hid (hT.below HB_1.out HB_1.out.size (fun k hk => by rw [hk];exact LO_HB_gb.out));have X_2:=Lib.hid (hT.blk X_1.out NE_g1_gb.out);have M3_2:=Lib.hid (M3_1.out.tch hT (fun e => by have h1:=HM3.out.lt;have h2:=HEgb.out;omega));have M4_2:=Lib.hid (M4_1.out.tch hT (fun e => by have h1:=HM4.out.lt;have h2:=HEgb.out;omega));have Xgb_2:=Lib.hid hx;clear hx hT))
   clear k0 k1 k2 k3 k4 k5 k6 k7
   have y0 : w2.cell? ⟨gb,0,none⟩ = some (.int .i64 b.f0):=blk_cell Xgb_2.out 0
   have y1 : w2.cell? ⟨gb,1,none⟩ = some (.int .i64 b.f1):=blk_cell Xgb_2.out 1
   have y2 : w2.cell? ⟨gb,2,none⟩ = some (.int .i64 b.f2):=blk_cell Xgb_2.out 2
   have y3 : w2.cell? ⟨gb,3,none⟩ = some (.bool b.f3.f0):=blk_cell Xgb_2.out 3
   have y4 : w2.cell? ⟨gb,4,none⟩ = some (.int .u32 b.f3.f1):=blk_cell Xgb_2.out 4
   have y5 : w2.cell? ⟨gb,5,none⟩ = some (.bool b.f3.f2):=blk_cell Xgb_2.out 5
   have y6 : w2.cell? ⟨gb,6,none⟩ = some (.int .i64 b.f3.f3):=blk_cell Xgb_2.out 6
   have y7 : w2.cell? ⟨gb,7,none⟩ = some (.slice A8 b.f3.f4.length c8):=blk_cell Xgb_2.out 7
   have n9 : w2.cell? ⟨g1,9,none⟩ = some (.int .i64 h.stamp):=blk_cell X_2.out 9
   by_cases hz : b.f0 = 0
   ·have e0 : (b.f0 == 0) = true:=beq_iff_eq.2 hz
    have HZ:=Lib.hid hz
    clear hz
    by_cases q1 : b.f1 = 0
    rotate_left
    ·have e1 : (b.f1 != 0) = true:=bne_iff_ne.2 q1
     have Q1:=Lib.hid q1
     clear q1
     go_wp2_with (fail)
     go_ret
     exact ⟨by rw [isF HO.out (fun G => (by have h1:=(G.one i HLT.out).1;rw [← HBX.out] at h1;exact Q1.out (h1 HZ.out).1))];rfl,HB_2.out⟩
    have e1 : (b.f1 != 0) = false:=by rw [q1];rfl
    have Q1:=Lib.hid q1
    clear q1
    by_cases q2 : b.f2 = 0
    rotate_left
    ·have e2 : (b.f2 != 0) = true:=bne_iff_ne.2 q2
     have Q2:=Lib.hid q2
     clear q2
     go_wp2_with (fail)
     go_ret
     exact ⟨by rw [isF HO.out (fun G => (by have h1:=(G.one i HLT.out).1;rw [← HBX.out] at h1;exact Q2.out (h1 HZ.out).2.1))];rfl,HB_2.out⟩
    have e2 : (b.f2 != 0) = false:=by rw [q2];rfl
    have Q2:=Lib.hid q2
    clear q2
    cases q3 : zeroB b.f3 with
    | false =>
     have Q3:=Lib.hid q3
     clear q3
     go_wp2_with (first | (go_at_call 143;refine (zeroFrame_at b.f3 A8 c8 w2 false Q3.out).mono ?_;rintro e w3 ⟨rfl,hb⟩;have HB_3:=Lib.hid (below_then HB_2.out HB_2.out.size hb);have X_3:=Lib.hid (blk_below X_2.out hb);have M3_3:=Lib.hid (M3_2.out.below hb);have M4_3:=Lib.hid (M4_2.out.below hb);have Xgb_3:=Lib.hid (blk_below Xgb_2.out hb);clear hb))
     go_ret
     exact ⟨by rw [isF HO.out (fun G => (by have h1:=(G.one i HLT.out).1;rw [← HBX.out] at h1;exact by have h2:=(h1 HZ.out).2.2;rw [Q3.out] at h2;cases h2))];rfl,HB_3.out⟩
    | true =>
     have Q3:=Lib.hid q3
     clear q3
     go_wp2_with (first | (go_at_call 143;refine (zeroFrame_at b.f3 A8 c8 w2 true Q3.out).mono ?_;rintro e w3 ⟨rfl,hb⟩;have HB_3:=Lib.hid (below_then HB_2.out HB_2.out.size hb);have X_3:=Lib.hid (blk_below X_2.out hb);have M3_3:=Lib.hid (M3_2.out.below hb);have M4_3:=Lib.hid (M4_2.out.below hb);have Xgb_3:=Lib.hid (blk_below Xgb_2.out hb);clear hb))
     go_roundw
     case rel =>
      have hz : (bxAt h.bs i).f0 = 0:=by rw [← HBX.out];exact HZ.out
      have hkk : ∀ g,keyUp g h.bs (i + 1) = keyUp g h.bs i:=fun g => by rw [keyUp,if_pos hz]
      exact ⟨i + 1,HLT.out,by rw [HN.out];rfl,by rw [busyN,if_pos hz],⟨fun j hj => by by_cases e : j = i;subst e;exact (by rw [← HBX.out];exact ⟨fun _ => ⟨Q1.out,Q2.out,Q3.out⟩,fun h => absurd HZ.out h⟩);exact HONE.out j (by omega)⟩,⟨by rw [hkk];exact M3_3.out⟩,⟨by rw [hkk];exact M4_3.out⟩,⟨by rw [hkk,hkk];exact HEQ.out⟩,⟨X_3.out⟩,⟨HB_3.out⟩⟩
     case measure => rw [HN.out];have:=HLT.out;simp [intOf];omega
   ·have e0 : (b.f0 == 0) = false:=beq_eq_false_iff_ne.2 hz
    have HZ:=Lib.hid hz
    clear hz
    by_cases r0 : b.f0 < 0
    ·have s0 : decide (b.f0 < 0) = true:=decide_eq_true r0
     have R0:=Lib.hid r0
     clear r0
     go_wp2_with (fail)
     go_ret
     exact ⟨by rw [isF HO.out (fun G => (by have h1:=(G.one i HLT.out).2;rw [← HBX.out] at h1;have h2:=h1 HZ.out;exact by have:=R0.out;omega))];rfl,HB_2.out⟩
    have s0 : decide (b.f0 < 0) = false:=decide_eq_false r0
    have R0:=Lib.hid r0
    clear r0
    by_cases r1 : b.f0 > 3
    ·have s1 : decide (b.f0 > 3) = true:=decide_eq_true r1
     have R1:=Lib.hid r1
     clear r1
     go_wp2_with (fail)
     go_ret
     exact ⟨by rw [isF HO.out (fun G => (by have h1:=(G.one i HLT.out).2;rw [← HBX.out] at h1;have h2:=h1 HZ.out;exact by have:=R1.out;omega))];rfl,HB_2.out⟩
    have s1 : decide (b.f0 > 3) = false:=decide_eq_false r1
    have R1:=Lib.hid r1
    clear r1
    by_cases r2 : b.f1 < 0
    ·have s2 : decide (b.f1 < 0) = true:=decide_eq_true r2
     have R2:=Lib.hid r2
     clear r2
     go_wp2_with (fail)
     go_ret
     exact ⟨by rw [isF HO.out (fun G => (by have h1:=(G.one i HLT.out).2;rw [← HBX.out] at h1;have h2:=h1 HZ.out;exact by have:=R2.out;omega))];rfl,HB_2.out⟩
    have s2 : decide (b.f1 < 0) = false:=decide_eq_false r2
    have R2:=Lib.hid r2
    clear r2
    by_cases r3 : b.f1 > 9999
    ·have s3 : decide (b.f1 > 9999) = true:=decide_eq_true r3
     have R3:=Lib.hid r3
     clear r3
     go_wp2_with (fail)
     go_ret
     exact ⟨by rw [isF HO.out (fun G => (by have h1:=(G.one i HLT.out).2;rw [← HBX.out] at h1;have h2:=h1 HZ.out;exact by have:=R3.out;omega))];rfl,HB_2.out⟩
    have s3 : decide (b.f1 > 9999) = false:=decide_eq_false r3
    have R3:=Lib.hid r3
    clear r3
    by_cases r4 : b.f2 < 0
    ·have s4 : decide (b.f2 < 0) = true:=decide_eq_true r4
     have R4:=Lib.hid r4
     clear r4
     go_wp2_with (fail)
     go_ret
     exact ⟨by rw [isF HO.out (fun G => (by have h1:=(G.one i HLT.out).2;rw [← HBX.out] at h1;have h2:=h1 HZ.out;exact by have:=R4.out;omega))];rfl,HB_2.out⟩
    have s4 : decide (b.f2 < 0) = false:=decide_eq_false r4
    have R4:=Lib.hid r4
    clear r4
    by_cases r5 : b.f2 ≥ h.stamp
    ·have s5 : decide (b.f2 ≥ h.stamp) = true:=decide_eq_true r5
     have R5:=Lib.hid r5
     clear r5
     go_wp2_with (fail)
     go_ret
     exact ⟨by rw [isF HO.out (fun G => (by have h1:=(G.one i HLT.out).2;rw [← HBX.out] at h1;have h2:=h1 HZ.out;exact by have:=R5.out;omega))];rfl,HB_2.out⟩
    have s5 : decide (b.f2 ≥ h.stamp) = false:=decide_eq_false r5
    have R5:=Lib.hid r5
    clear r5
    cases q3 : valF b.f3 with
    | false =>
     have Q3:=Lib.hid q3
     clear q3
     go_wp2_with (first | (go_at_call 119;refine (validFrame_at b.f3 A8 c8 w2 false Q3.out HD8.out).mono ?_;rintro e w3 ⟨rfl,hb⟩;have HB_3:=Lib.hid (below_then HB_2.out HB_2.out.size hb);have X_3:=Lib.hid (blk_below X_2.out hb);have M3_3:=Lib.hid (M3_2.out.below hb);have M4_3:=Lib.hid (M4_2.out.below hb);have Xgb_3:=Lib.hid (blk_below Xgb_2.out hb);clear hb))
     go_ret
     exact ⟨by rw [isF HO.out (fun G => (by have h1:=(G.one i HLT.out).2;rw [← HBX.out] at h1;have h2:=h1 HZ.out;exact by have h3:=h2.2.2.2.2.2.2;rw [Q3.out] at h3;cases h3))];rfl,HB_3.out⟩
    | true =>
     have Q3:=Lib.hid q3
     clear q3
     go_upto_region 11 with (first | (go_at_call 119;refine (validFrame_at b.f3 A8 c8 w2 true Q3.out HD8.out).mono ?_;rintro e w3 ⟨rfl,hb⟩;have HB_3:=Lib.hid (below_then HB_2.out HB_2.out.size hb);have X_3:=Lib.hid (blk_below X_2.out hb);have M3_3:=Lib.hid (M3_2.out.below hb);have M4_3:=Lib.hid (M4_2.out.below hb);have Xgb_3:=Lib.hid (blk_below Xgb_2.out hb);clear hb))
     clear y0 y1 y2 y3 y4 y5 y6 y7 n9
     obtain ⟨wd,hwd⟩ : ∃ wd,wd = w3.drew:=⟨_,rfl⟩
     have M3d : Hid (MapAt wd m3 (keyUp (·.f1) h.bs i).1 (keyUp (·.f1) h.bs i).2):=by rw [hwd];exact Lib.hid (M3_3.out.below (below_drew (Below.refl _ _)))
     have M4d : Hid (MapAt wd m4 (keyUp (·.f2) h.bs i).1 (keyUp (·.f2) h.bs i).2):=by rw [hwd];exact Lib.hid (M4_3.out.below (below_drew (Below.refl _ _)))
     have Xbd : Hid (wd.heap[gb]? = some (.cells ⟨[.int .i64 b.f0, .int .i64 b.f1, .int .i64 b.f2, .bool b.f3.f0, .int .u32 b.f3.f1, .bool b.f3.f2, .int .i64 b.f3.f3, .slice A8 b.f3.f4.length c8]⟩ 87 (0,0))):=by rw [hwd];exact Lib.hid (blk_drew Xgb_3.out)
     have Xd : Hid (wd.heap[g1]? = some (.cells ⟨hostC h (.slice Af h.fs.length cf) (.slice (some ad) h.bs.length cb) (.slice Aq h.fr.length cq) (.slice Ae h.ev.length ce)⟩ 32 (0,0))):=by rw [hwd];exact Lib.hid (blk_drew X_3.out)
     have HBd : Hid (Below w.heap.size w wd):=by rw [hwd];exact Lib.hid (below_drew HB_3.out)
     have NB3 : Hid (gb ≠ m3):=Lib.hid (fun e => by obtain ⟨_,_,h1,_⟩:=M3d.out;rw [← e,Xbd.out] at h1;cases h1)
     have NB4 : Hid (gb ≠ m4):=Lib.hid (fun e => by obtain ⟨_,_,h1,_⟩:=M4d.out;rw [← e,Xbd.out] at h1;cases h1)
     obtain ⟨wu,hup,hmu,hTu⟩:=update_run (P:=Try.prog) Try.underlying122 Try.underlying3 M3d.out b.f1 (i : Int)
     have M3u:=Lib.hid hmu
     have M4u:=Lib.hid (M4d.out.tch hTu (fun e => NE_m3_m4.out e.symm))
     have Xbu:=Lib.hid (hTu.blk Xbd.out NB3.out)
     have Xu:=Lib.hid (hTu.blk Xd.out NE_g1_m3.out)
     have HBu:=Lib.hid (hTu.below HBd.out HBd.out.size (fun k hk => by rw [hk];exact LMm3.out))
     clear hmu hTu
     obtain ⟨wv,hup2,hmu,hTu⟩:=update_run (P:=Try.prog) Try.underlying122 Try.underlying3 M4u.out b.f2 (i : Int)
     have M4v:=Lib.hid hmu
     have M3v:=Lib.hid (M3u.out.tch hTu NE_m3_m4.out)
     have Xbv:=Lib.hid (hTu.blk Xbu.out NB4.out)
     have Xv:=Lib.hid (hTu.blk Xu.out NE_g1_m4.out)
     have HBv:=Lib.hid (hTu.below HBu.out HBu.out.size (fun k hk => by rw [hk];exact LMm4.out))
     clear hmu hTu
     refine start_ (n:=10) (S:=fun w' : World => w'.heap[gb]? = some (.cells ⟨[.int .i64 b.f0, .int .i64 b.f1, .int .i64 b.f2, .bool b.f3.f0, .int .u32 b.f3.f1, .bool b.f3.f2, .int .i64 b.f3.f3, .slice A8 b.f3.f4.length c8]⟩ 87 (0,0))) (ds := [9]) #[false,false,false,false,false,false,false,false,false,false] (by kernel_rfl) rfl rfl (hwd ▸ Xbd.out) (fun hHeld => ?_)
     rw [← hwd] at hHeld ⊢
     clear hwd
     refine pure_ (i:=0) (N:=some 74) (v := ?_) (a' := ?_) #[true,false,false,false,false,false,false,false,false,false] rfl rfl (by kernel_rfl) (fun _ _ _ h => h) (Or.inl ⟨by rfl, ?_⟩) ?_ ?_
     rotate_left
     ·intro w'
      go_simp
      with_reducible rfl
     rotate_left
     ·simp only [Act.put,List.setIfInBounds_toArray,List.set_cons_zero,List.set_cons_succ,i64_w,i32_w]
      rfl
     refine pure_ (i:=1) (N:=some 75) (v := ?_) (a' := ?_) #[true,true,false,false,false,false,false,false,false,false] rfl rfl (by kernel_rfl) (fun _ _ _ h => h) (Or.inl ⟨by rfl, ?_⟩) ?_ ?_
     rotate_left
     ·intro w'
      go_simp
      with_reducible rfl
     rotate_left
     ·simp only [Act.put,List.setIfInBounds_toArray,List.set_cons_zero,List.set_cons_succ,i64_w,i32_w]
      rfl
     refine take_ (i:=2) (N:=some 76) (v := ?_) (a' := ?_) #[true,true,true,false,false,false,false,false,false,false] rfl rfl (by kernel_rfl) (fun _ _ _ h => h) (Or.inl ⟨by rfl, ?_⟩) hHeld ?_ ?_
     rotate_left
     ·intro w' s0
      have e0 : w'.cell? ⟨gb,1,none⟩ = some (.int .i64 b.f1):=blk_cell s0 1
      go_simp
      with_reducible rfl
     rotate_left
     ·simp only [Act.put,List.setIfInBounds_toArray,List.set_cons_zero,List.set_cons_succ,i64_w,i32_w]
      rfl
     refine pure_ (i:=3) (N:=some 77) (v := ?_) (a' := ?_) #[true,true,true,true,false,false,false,false,false,false] rfl rfl (by kernel_rfl) (fun _ _ _ h => h) (Or.inl ⟨by rfl, ?_⟩) ?_ ?_
     rotate_left
     ·intro w'
      go_simp
      with_reducible rfl
     rotate_left
     ·simp only [Act.put,List.setIfInBounds_toArray,List.set_cons_zero,List.set_cons_succ,i64_w,i32_w]
      rfl
     refine pure_ (i:=4) (N:=some 78) (v := ?_) (a' := ?_) #[true,true,true,true,true,false,false,false,false,false] rfl rfl (by kernel_rfl) (fun _ _ _ h => h) (Or.inl ⟨by rfl, ?_⟩) ?_ ?_
     rotate_left
     ·intro w'
      go_simp
      with_reducible rfl
     rotate_left
     ·simp only [Act.put,List.setIfInBounds_toArray,List.set_cons_zero,List.set_cons_succ,i64_w,i32_w]
      rfl
     refine take_ (i:=5) (N:=some 79) (v := ?_) (a' := ?_) #[true,true,true,true,true,true,false,false,false,false] rfl rfl (by kernel_rfl) (fun _ _ _ h => h) (Or.inl ⟨by rfl, ?_⟩) hHeld ?_ ?_
     rotate_left
     ·intro w' s0
      have e0 : w'.cell? ⟨gb,2,none⟩ = some (.int .i64 b.f2):=blk_cell s0 2
      go_simp
      with_reducible rfl
     rotate_left
     ·simp only [Act.put,List.setIfInBounds_toArray,List.set_cons_zero,List.set_cons_succ,i64_w,i32_w]
      rfl
     refine pure_ (i:=6) (N:=some 80) (v := ?_) (a' := ?_) #[true,true,true,true,true,true,true,false,false,false] rfl rfl (by kernel_rfl) (fun _ _ _ h => h) (Or.inl ⟨by rfl, ?_⟩) ?_ ?_
     rotate_left
     ·intro w'
      go_simp
      with_reducible rfl
     rotate_left
     ·simp only [Act.put,List.setIfInBounds_toArray,List.set_cons_zero,List.set_cons_succ,i64_w,i32_w]
      rfl
     refine pure_ (i:=7) (N:=some 81) (v := ?_) (a' := ?_) #[true,true,true,true,true,true,true,true,false,false] rfl rfl (by kernel_rfl) (fun _ _ _ h => h) (Or.inl ⟨by rfl, ?_⟩) ?_ ?_
     rotate_left
     ·intro w'
      go_simp
      with_reducible rfl
     rotate_left
     ·simp only [Act.put,List.setIfInBounds_toArray,List.set_cons_zero,List.set_cons_succ,i64_w,i32_w]
      rfl
     refine one_ (i:=8) (N:=none) #[true,true,true,true,true,true,true,true,true,false] rfl rfl (by kernel_rfl) (by decide) (fun K hK => ?_)
     refine skip_ (w1:=wu) (by rfl) rfl ?_ ?_
     ·go_simp
     refine hK.out _ _ Xbu.out (fun hHeld => ?_)
     clear hK K
     refine last_ (i:=9) (N:=none) #[true,true,true,true,true,true,true,true,true,true] rfl rfl (by kernel_rfl) (by decide) (fun K hK => ?_)
     refine skip_ (w1:=wv) (by rfl) rfl ?_ ?_
     ·go_simp
     refine hK.out _ _ ?_
     clear hK K
     refine done_ (by kernel_rfl) ?_
     clear hup hup2
     have hk1 : keyUp (·.f1) h.bs (i + 1) = (fun x => if x = b.f1 then some (i : Int) else (keyUp (·.f1) h.bs i).1 x,if ((keyUp (·.f1) h.bs i).1 b.f1).isSome then (keyUp (·.f1) h.bs i).2 else (keyUp (·.f1) h.bs i).2 + 1):=by rw [keyUp, ← HBX.out,if_neg HZ.out]
     have hk2 : keyUp (·.f2) h.bs (i + 1) = (fun x => if x = b.f2 then some (i : Int) else (keyUp (·.f2) h.bs i).1 x,if ((keyUp (·.f2) h.bs i).1 b.f2).isSome then (keyUp (·.f2) h.bs i).2 else (keyUp (·.f2) h.bs i).2 + 1):=by rw [keyUp, ← HBX.out,if_neg HZ.out]
     have N3 : Hid (MapAt wv m3 (keyUp (·.f1) h.bs (i + 1)).1 (keyUp (·.f1) h.bs (i + 1)).2):=Lib.hid (by rw [hk1];exact M3v.out)
     have N4 : Hid (MapAt wv m4 (keyUp (·.f2) h.bs (i + 1)).1 (keyUp (·.f2) h.bs (i + 1)).2):=Lib.hid (by rw [hk2];exact M4v.out)
     clear hk1 hk2 M3v M4v M3u M4u
     obtain ⟨n1,hn1⟩ : ∃ n,n = (keyUp (·.f1) h.bs (i + 1)).2:=⟨_,rfl⟩
     obtain ⟨n2,hn2⟩ : ∃ n,n = (keyUp (·.f2) h.bs (i + 1)).2:=⟨_,rfl⟩
     have HN1:=Lib.hid hn1
     have HN2:=Lib.hid hn2
     have z3 : ∀ ty,Sem.run Try.prog (Builtin.len_ #[122] ty #[.map (some m3)]) wv = .ok (.int .i64 n1) wv:=fun ty => by rw [hn1];exact len_run Try.underlying122 N3.out ty
     have z4 : ∀ ty,Sem.run Try.prog (Builtin.len_ #[122] ty #[.map (some m4)]) wv = .ok (.int .i64 n2) wv:=fun ty => by rw [hn2];exact len_run Try.underlying122 N4.out ty
     clear hn1 hn2
     have y0 : wv.cell? ⟨gb,0,none⟩ = some (.int .i64 b.f0):=blk_cell Xbv.out 0
     by_cases q : n1 = n2
     rotate_left
     ·have q' : ((n1 : Int) != (n2 : Int)) = true:=bne_iff_ne.2 (by omega)
      have QN:=Lib.hid q
      clear q
      go_wp2_with (fail)
      go_ret
      exact ⟨by rw [isF HO.out (fun G => QN.out (by rw [HN1.out,HN2.out,keyUp_all.2 (G.tag.less HLT.out),keyUp_all.2 (G.stamp.less HLT.out)]))];rfl,HBv.out⟩
     subst q
     have q' : ((n1 : Int) != (n1 : Int)) = false:=bne_self_eq_false _
     have HONE1 : Hid (∀ j,j < i + 1 → boxOk h.stamp (bxAt h.bs j)):=Lib.hid (fun j hj => by by_cases e : j = i;subst e;exact (by rw [← HBX.out];exact ⟨fun h => absurd h HZ.out,fun _ => ⟨by have:=R0.out;omega,by have:=R1.out;omega,by have:=R2.out;omega,by have:=R3.out;omega,by have:=R4.out;omega,by have:=R5.out;omega,Q3.out⟩⟩);exact HONE.out j (by omega))
     by_cases q1 : b.f0 = 1
     ·have e1 : (b.f0 != 1) = false:=by rw [q1];rfl
      have Q1:=Lib.hid q1
      clear q1
      go_wp2_with (fail)
      go_roundw
      case rel => exact ⟨i + 1,HLT.out,by rw [HN.out];rfl,by rw [busyN, ← HBX.out,if_neg HZ.out,if_pos Q1.out],⟨HONE1.out⟩,⟨N3.out⟩,⟨N4.out⟩,⟨by rw [← HN1.out, ← HN2.out]⟩,⟨Xv.out⟩,⟨HBv.out⟩⟩
      case measure => rw [HN.out];have:=HLT.out;simp [intOf];omega
     ·have e1 : (b.f0 != 1) = true:=bne_iff_ne.2 q1
      have Q1:=Lib.hid q1
      clear q1
      have hw : wrap64 ((busyN h.bs i : Int) + 1) = ((busyN h.bs i + 1 : Nat) : Int):=by have h1:=busyN_le h.bs i;have h2:=SM.out.l2;have h3:=HLT.out;unfold wrap64;omega
      go_wp2_with (fail)
      go_roundw
      case rel => exact ⟨i + 1,HLT.out,by rw [HN.out];rfl,by rw [busyN, ← HBX.out,if_neg HZ.out,if_neg Q1.out];first | rw [hw] | rfl,⟨HONE1.out⟩,⟨N3.out⟩,⟨N4.out⟩,⟨by rw [← HN1.out, ← HN2.out]⟩,⟨Xv.out⟩,⟨HBv.out⟩⟩
      case measure => rw [HN.out];have:=HLT.out;simp [intOf];omega
  ·have hii : i = h.bs.length:=by omega
   subst hii
   have b2 : decide ((h.bs.length : Int) < (h.bs.length : Int)) = false:=decide_eq_false (by omega)
   have y5 : wr.cell? ⟨g1,5,none⟩ = some (.slice Ab h.bs.length cb):=blk_cell HX.out 5
   go_wp2_with (fail)
   clear y5 b2
   go_loopw [96,8] (fun v96 v8 wr => ∃ i : Nat,i ≤ h.bs.length ∧ v96 = .int .i64 i ∧ v8 = .int .i64 (liveN h.bs i) ∧ Aside0 (MapAt wr m3 (keyUp (·.f1) h.bs h.bs.length).1 (keyUp (·.f1) h.bs h.bs.length).2) ∧ Aside0 (wr.heap[g1]? = some (.cells ⟨hostC h (.slice Af h.fs.length cf) (.slice Ab h.bs.length cb) (.slice Aq h.fr.length cq) (.slice Ae h.ev.length ce)⟩ 32 (0,0))) ∧ Aside0 (Below w.heap.size w wr)) (fun v96 _ _ => h.bs.length - (intOf v96).toNat)
   case atStart => exact ⟨0,Nat.zero_le _,rfl,rfl,⟨HM3.out⟩,⟨HX.out⟩,⟨HB.out⟩⟩
   case round =>
    clear HM3 HM4 HX HB hi
    obtain ⟨i,hi,rfl,rfl,HM3,HX,HB⟩:=hrel
    by_cases hlt : i < h.bs.length
    ·have b2 : decide ((i : Int) < (h.bs.length : Int)) = true:=decide_eq_true (by omega)
     have p5 : (0 ≤ (i : Int)) = True:=eq_true (by omega)
     have q5 : ((i : Int) < (h.bs.length : Int)) = True:=eq_true (by omega)
     have qn : (i < h.bs.length) = True:=eq_true hlt
     have hn : wrap64 ((i : Int) + 1) = (i : Int) + 1:=by have:=SM.out.l2;unfold wrap64;omega
     have HLT:=Lib.hid hlt
     have HI:=Lib.hid hi
     have HN:=Lib.hid hn
     obtain ⟨ad,A8,c8,ea,k0,k1,k2,k3,k4,k5,k6,k7,l8,g8⟩:=at_T87 (Kd.C_below RB.out HB.out) (i : Int) (by omega) (by omega)
     subst ea
     clear hlt hi l8 g8
     rw [Int.toNat_natCast] at k0 k1 k2 k3 k4 k5 k6 k7
     obtain ⟨b,hb⟩ : ∃ b,b = rd_T87 h.bs (i : Int):=⟨_,rfl⟩
     rw [← hb] at k0 k1 k2 k3 k4 k5 k6 k7
     have HBE:=Lib.hid hb
     have HBX : Hid (b = bxAt h.bs i):=Lib.hid hb
     have HD8 : Hid (b.f3.f4.length ≤ 10000000):=Lib.hid (by rw [hb];exact SM.out.d2 _ (List.mem_of_getElem? (getD_at h.bs i z87 HLT.out)))
     clear hb
     go_upto_region 21 with (first | ((with_reducible refine gate_dst (N:=10) rfl ?_);refine box_event ?hg (N:=10) ?hd (cs := #[.int .i64 0, .int .i64 0, .int .i64 0, .bool false, .int .u32 0, .bool false, .int .i64 0, .slice none 0 0]) (t:=87) ?hr ?_;(case hd => rfl);(case hg => rfl);(case hr => first | (go_simp;done) | (go_simp;rfl));intro gb hg w1 hbox hb;have LO_HB_gb : Hid (w.heap.size ≤ gb):=Lib.hid (by rw [hg];exact HB.out.size);have NE_g1_gb : Hid (g1 ≠ gb):=Lib.hid (fun e => by have h1:=blk_lt HX.out;omega);have HEgb:=Lib.hid hg;have HB_1:=Lib.hid (below_then HB.out HB.out.size hb);have X_1:=Lib.hid (blk_below HX.out hb);have M3_1:=Lib.hid (HM3.out.below hb);have Xgb_1:=Lib.hid hbox;clear hg hbox hb) | ((with_reducible refine gate_store (t:=87) (p:=10) rfl ?_);refine store_box rfl rfl rfl (g:=gb) (j:=0) (cs := #[.int .i64 0, .int .i64 0, .int .i64 0, .bool false, .int .u32 0, .bool false, .int .i64 0, .slice none 0 0]) (cs':=⟨[.int .i64 b.f0, .int .i64 b.f1, .int .i64 b.f2, .bool b.f3.f0, .int .u32 b.f3.f1, .bool b.f3.f2, .int .i64 b.f3.f3, .slice A8 b.f3.f4.length c8]⟩) (seg := [.int .i64 b.f0, .int .i64 b.f1, .int .i64 b.f2, .bool b.f3.f0, .int .u32 b.f3.f1, .bool b.f3.f2, .int .i64 b.f3.f3, .slice A8 b.f3.f4.length c8]) rfl rfl Xgb_1.out rfl (by kernel_rfl) rfl rfl rfl ?_;intro w2 hx hT;have HB_2:=Lib.hid (hT.below HB_1.out HB_1.out.size (fun k hk => by rw [hk];exact LO_HB_gb.out));have X_2:=Lib.hid (hT.blk X_1.out NE_g1_gb.out);have M3_2:=Lib.hid (M3_1.out.tch hT (fun e => by have h1:=HM3.out.lt;have h2:=HEgb.out;omega));have Xgb_2:=Lib.hid hx;clear hx hT))
     clear k0 k1 k2 k3 k4 k5 k6 k7
     have y0 : w2.cell? ⟨gb,0,none⟩ = some (.int .i64 b.f0):=blk_cell Xgb_2.out 0
     by_cases q1 : b.f0 = 0
     ·have e1 : (b.f0 != 0) = false:=by rw [q1];rfl
      have Q1:=Lib.hid q1
      clear q1
      go_wp2_with (fail)
      go_roundw
      case rel => exact ⟨i + 1,HLT.out,by rw [HN.out];rfl,by rw [liveN,if_pos (show (bxAt h.bs i).f0 = 0 by rw [← HBX.out];exact Q1.out)],⟨M3_2.out⟩,⟨X_2.out⟩,⟨HB_2.out⟩⟩
      case measure => rw [HN.out];have:=HLT.out;simp [intOf];omega
     ·have e1 : (b.f0 != 0) = true:=bne_iff_ne.2 q1
      have Q1:=Lib.hid q1
      clear q1
      have hw : wrap64 ((liveN h.bs i : Int) + 1) = ((liveN h.bs i + 1 : Nat) : Int):=by have h1:=liveN_le h.bs i;have h2:=SM.out.l2;have h3:=HLT.out;unfold wrap64;omega
      go_wp2_with (fail)
      go_roundw
      case rel => exact ⟨i + 1,HLT.out,by rw [HN.out];rfl,by rw [liveN,if_neg (show ¬ (bxAt h.bs i).f0 = 0 by rw [← HBX.out];exact Q1.out)];first | rw [hw] | rfl,⟨M3_2.out⟩,⟨X_2.out⟩,⟨HB_2.out⟩⟩
      case measure => rw [HN.out];have:=HLT.out;simp [intOf];omega
    ·have hii : i = h.bs.length:=by omega
     subst hii
     have b2 : decide ((h.bs.length : Int) < (h.bs.length : Int)) = false:=decide_eq_false (by omega)
     obtain ⟨n1,hn1⟩ : ∃ n,n = (keyUp (·.f1) h.bs h.bs.length).2:=⟨_,rfl⟩
     have HN1:=Lib.hid hn1
     obtain ⟨nb,hnb⟩ : ∃ n,n = busyN h.bs h.bs.length:=⟨_,rfl⟩
     obtain ⟨nl,hnl⟩ : ∃ n,n = liveN h.bs h.bs.length:=⟨_,rfl⟩
     have z3 : ∀ ty,Sem.run Try.prog (Builtin.len_ #[122] ty #[.map (some m3)]) wr = .ok (.int .i64 n1) wr:=fun ty => by rw [hn1];exact len_run Try.underlying122 HM3.out ty
     rw [← hnb, ← hnl]
     have HNB:=Lib.hid hnb
     have HNL:=Lib.hid hnl
     clear hn1 hnb hnl hi
     by_cases q1 : nb ≤ 1
     rotate_left
     ·have s1 : decide ((nb : Int) ≤ 1) = false:=decide_eq_false (by omega)
      have Q1:=Lib.hid q1
      clear q1
      go_wp2_with (fail)
      go_ret
      exact ⟨by rw [isF HO.out (fun G => Q1.out (by rw [HNB.out];exact G.busy))];rfl,HB.out⟩
     have s1 : decide ((nb : Int) ≤ 1) = true:=decide_eq_true (by omega)
     have Q1:=Lib.hid q1
     clear q1
     by_cases q2 : n1 = nl
     rotate_left
     ·have s2 : ((n1 : Int) == (nl : Int)) = false:=beq_eq_false_iff_ne.2 (by omega)
      have Q2:=Lib.hid q2
      clear q2
      go_wp2_with (fail)
      go_ret
      exact ⟨by rw [isF HO.out (fun G => Q2.out (by rw [HN1.out,HNL.out,keyUp_all.2 G.tag]))];rfl,HB.out⟩
     subst q2
     have s2 : ((n1 : Int) == (n1 : Int)) = true:=beq_self_eq_true _
     go_wp2_with (fail)
     go_ret
     have G : GoodB h.stamp h.bs:=⟨HONE.out,keyUp_all.1 (by rw [← HN1.out,HNL.out]),keyUp_all.1 (by rw [← HEQ.out, ← HN1.out,HNL.out]),by rw [← HNB.out];exact Q1.out⟩
     exact ⟨by rw [HO.out.2 G];rfl,HB.out⟩
end Go.Proofs.Ytcaefabbcjlkdaa.P
