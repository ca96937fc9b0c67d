/- Texts of the proof of CFnScanner, joined. -/
import Derived.Test.YtdoclpgciadjaaaDoorSCFnScanner21
import Derived.Test.YtdoclpgciadjaaaDoorSCFnScanner27
import Derived.Test.YtdoclpgciadjaaaDoorSCFnScanner24
import Derived.Deep.RegionWith
namespace Go.Proofs.YtdoclpgciadjaaaDoor.P
open Go.RowKit Go.Proofs.YtdoclpgciadjaaaDoorW.PrintWords Go.Proofs.YtdoclpgciadjaaaDoorW.PrintLast Go.Proofs.YtdoclpgciadjaaaDoorW.PrintMore
set_option linter.unusedVariables false
set_option linter.unusedSimpArgs false
theorem impl_walk_next.calls (p : Nat) (v : Value) (s : WS) (w : World) (hp : w.heap[p]? = some (objW s v)) (h0 : 0 ≤ s.dlc) (l0 : 1 ≤ s.left) (l1 : s.left ≤ 64) (f0 : 1 ≤ s.field) (f1 : s.field ≤ 14) :
  Calls Tryd.prog 78 #[.pointer (some ⟨p,0,none⟩)] w (EndW w p (nextW s) v):=by
 have HP:=Lib.hid hp
 have hc1:=cW1 hp
 have hc2:=cW2 hp
 have hc7:=cW7 hp
 have hf:=fW hp
 have hf2:=hf 2
 clear hp hf
 by_cases c : s.left - 1 > 0
 ·have hL : Hid (nextW s = { s with left:=s.left - 1 }):=Lib.hid (by unfold nextW;rw [if_pos c])
  have cb : decide (0 < s.left - 1) = true:=decide_eq_true (by omega)
  have cb1 : decide (1 < s.left) = true:=decide_eq_true (by omega)
  go_enter Tryd.func78,Tryd.ntmps78
  go_wp2_with (fail)
  go_end0
  rw [hL.out]
  exact ⟨rfl,setW2 HP.out _,(Tch.refl1 _ _).one _ _⟩
 ·have cb : decide (0 < s.left - 1) = false:=decide_eq_false (by omega)
  have cb1 : decide (1 < s.left) = false:=decide_eq_false (by omega)
  have HS:=Lib.hid (setW2 HP.out (s.left - 1))
  have HT:=Lib.hid ((Tch.refl1 w p).one 2 (.int .i64 (s.left - 1)))
  by_cases c4 : s.field = 4
  ·have b4 : (s.field == 4) = true:=by simp [c4]
   obtain ⟨b,hb⟩ : ∃ b,s.ext = b:=⟨_,rfl⟩
   rw [hb] at hc7
   have hL : Hid (nextW s = if b = false then enterW { s with left:=s.left - 1 } 7 else enterW { s with left:=s.left - 1 } 5):=Lib.hid (by unfold nextW;rw [if_neg c, ← hb];simp [c4])
   clear hb
   cases b with
   | true =>
    go_enter Tryd.func78,Tryd.ntmps78
    go_wp2_with (fail)
    (refine (impl_walk_enter.calls p v _ _ _ HS.out h0).mono ?_;intro e w' hE;have HE:=Lib.hid hE;obtain rfl:=hE.ret;clear hE)
    go_wp2_with (fail)
    go_end0
    rw [hL.out]
    exact ⟨rfl,HE.out.obj,HT.out.trans HE.out.tch⟩
   | false =>
    go_enter Tryd.func78,Tryd.ntmps78
    go_wp2_with (fail)
    (refine (impl_walk_enter.calls p v _ _ _ HS.out h0).mono ?_;intro e w' hE;have HE:=Lib.hid hE;obtain rfl:=hE.ret;clear hE)
    go_wp2_with (fail)
    go_end0
    rw [hL.out]
    exact ⟨rfl,HE.out.obj,HT.out.trans HE.out.tch⟩
  ·have b4 : (s.field == 4) = false:=by simp [c4]
   have hL : Hid (nextW s = enterW { s with left:=s.left - 1 } (s.field + 1)):=Lib.hid (by unfold nextW;rw [if_neg c,if_neg (fun h => c4 h.1)])
   go_enter Tryd.func78,Tryd.ntmps78
   go_wp2_with (fail)
   (refine (impl_walk_enter.calls p v _ _ _ HS.out h0).mono ?_;intro e w' hE;have HE:=Lib.hid hE;obtain rfl:=hE.ret;clear hE)
   go_wp2_with (fail)
   go_end0
   rw [hL.out]
   exact ⟨rfl,HE.out.obj,HT.out.trans HE.out.tch⟩
theorem slice_sz (w : World) (p : Addr) (u : Value) : Value.slice (some ⟨w.heap.size,0,none⟩) 1 1 = Value.slice (some ⟨(w.setCell p u).heap.size,0,none⟩) 1 1:=by simp [World.setCell]
set_option maxHeartbeats 1000000 in
set_option maxRecDepth 100000 in
theorem plain_9_0_app (p : Nat) (v : Value) (s : WS) (S : Nat → Prop) (w0 w : World) (hp : w.heap[p]? = some (objW s v)) (hv : Kd.R (Kd.int .u8) 5 w w0.heap.size S v s.data) (hB : Below w0.heap.size w0 w) (hpl : w0.heap.size ≤ p) (hS : ¬ S p) (hF : ∀ k,w.heap.size ≤ k → S k) (ok : WOk s) (hfld : s.field = 9) (hm8 : s.left % 8 = 0) :
  Calls Tryd.prog 76 #[.pointer (some ⟨p,0,none⟩), .int .i64 0] w (EndP w0 w p S (plainW s 0)):=by
 have HP:=Lib.hid hp
 have HV:=Lib.hid hv
 have HB:=Lib.hid hB
 have OK:=Lib.hid ok
 have HF:=Lib.hid hfld
 have hc1:=cW1 hp
 have hc2:=cW2 hp
 have hc5:=cW5 hp
 have hc11:=cW11 hp
 have hf5:=fW hp 5
 have hf11:=fW hp 11
 have l0:=ok.l0
 have l1:=ok.l1
 have hdl:=ok.dl
 have hm : (Int.tmod s.left 8 == 0) = true:=by rw [Int.tmod_eq_emod_of_nonneg (by omega)];simp;omega
 have hm2 : (s.left % 8 == 0) = true:=by simp;omega
 rw [hfld] at hc1
 have HP1:=Lib.hid (setW5 HP.out (crcI s.sum 0))
 have HV1 : Hid (Kd.R (Kd.int .u8) 5 (w.setCell ⟨p,5,none⟩ (.int .i64 (crcI s.sum 0))) w0.heap.size S v s.data):=Lib.hid (Kd.R_step HV.out (fun k hk _ => Below.heap_setCell _ _ _ k (fun e => hS ((show k = p from e) ▸ hk))))
 have HB1 : Hid (Below w0.heap.size w0 (w.setCell ⟨p,5,none⟩ (.int .i64 (crcI s.sum 0)))):=Lib.hid (HB.out.setCell hpl _)
 have HT1 : Hid (Tch w (w.setCell ⟨p,5,none⟩ (.int .i64 (crcI s.sum 0))) (fun k => k = p ∨ S k)):=Lib.hid ((Tch.refl _ _).setCell (.inl (.inl rfl)) _)
 have HF1 : Hid (∀ k,(w.setCell ⟨p,5,none⟩ (.int .i64 (crcI s.sum 0))).heap.size ≤ k → S k):=Lib.hid fun k hk => hF k (by simpa [World.setCell] using hk)
 have HHM:=Lib.hid hm8
 clear hp hv hB ok hfld hm8 hF
 go_enter Tryd.func76,Tryd.ntmps76
 go_wp2_with (first | (go_at_call 30;refine (impl_crcBit.same _ _ _).mono ?_;rintro e w' ⟨rfl,rfl⟩) | (at_builtin;go_loud (refine Kd.R_append (Kd.int .u8) (w0:=w0) w0.heap.size rfl (.tmp 97) (.tmp 98) 23 5 (.int .u8 0) 1 rfl Tryd.underlying23 infoU8w rfl (by decide) (by omega) v s.data 0 [.int .u8 0] S (fun _ => False) rfl (slice_sz _ _ _) ?aP (fun _ hk => hk.elim) HF1.out ?aO ?aB ?aS ?aL ?_;(case aP => exact rfl);(case aO => exact HV1.out);(case aB => exact HB1.out);(case aS => exact HB1.out.size);(case aL => omega);intro v1 w1 ho hb hg hat;obtain ⟨g,c1,e1,hpk⟩:=w9_append HP1.out HV1.out hS ho hg;subst e1;have HPK:=Lib.hid hpk;clear ho hb hg hat hc1 hc2 hc5 hc11 hf5 hf11 hpk;obtain ⟨hgp,hpg,p5,q5,hx0,hfx0,hc11,hf11⟩:=W9At.facts HPK.out hS (by omega))))
 go_quiet (fail)
 have HPK4:=Lib.hid (w9_draw (w9_mid (V := .slice (some ⟨g,0,none⟩) (s.data.length + 1) c1) HPK.out hS) nq)
 clear hgp hpg p5 q5 hx0 hfx0 hc11 hf11
 generalize World.drewN _ nq = W4 at HPK4 ⊢
 obtain ⟨-, -, -, -,hx4,hfx4, -, -⟩:=W9At.facts HPK4.out hS (by omega)
 have HPUT:=Lib.hid (w9_put HPK4.out hS (Go.bits .or .u8 (rd (s.data ++ [0]) (s.data.length : Int) * 2 % 256) 0))
 go_wp2_with (fail)
 (refine (impl_walk_next.calls p _ ({ s with sum:=crcI s.sum 0 }) _ HPUT.out.obj OK.out.d0 OK.out.l0 OK.out.l1 OK.out.f0 OK.out.f1).mono ?_;intro e w2 hE;have HE:=Lib.hid hE;obtain rfl:=hE.ret;clear hE)
 go_wp2_with (fail)
 go_end0
 rw [plain9_eq s 0 (by omega) HF.out (s.data ++ [0]) s.data.length (by rw [if_pos HHM.out]) (by simp) (rd_range (fun x hx => by rcases List.mem_append.1 hx with h | h;exact OK.out.by_ x h;rw [List.mem_singleton] at h;omega) _)]
 exact ⟨rfl,⟨_,HE.out.obj,HE.out.tch.R HPUT.out.row (fun k hk e => hS (e ▸ hk))⟩,(HT1.out.trans HPUT.out.tch).trans (HE.out.tch.mono fun k hk => .inl hk)⟩
set_option maxHeartbeats 1000000 in
set_option maxRecDepth 100000 in
theorem plain_9_0_in (p : Nat) (v : Value) (s : WS) (S : Nat → Prop) (w0 w : World) (hp : w.heap[p]? = some (objW s v)) (hv : Kd.R (Kd.int .u8) 5 w w0.heap.size S v s.data) (hB : Below w0.heap.size w0 w) (hpl : w0.heap.size ≤ p) (hS : ¬ S p) (hF : ∀ k,w.heap.size ≤ k → S k) (ok : WOk s) (hfld : s.field = 9) (hm8 : ¬ s.left % 8 = 0) :
  Calls Tryd.prog 76 #[.pointer (some ⟨p,0,none⟩), .int .i64 0] w (EndP w0 w p S (plainW s 0)):=by
 have HP:=Lib.hid hp
 have HV:=Lib.hid hv
 have HB:=Lib.hid hB
 have OK:=Lib.hid ok
 have HF:=Lib.hid hfld
 have hc1:=cW1 hp
 have hc2:=cW2 hp
 have hc5:=cW5 hp
 have hc11:=cW11 hp
 have hf5:=fW hp 5
 have hf11:=fW hp 11
 have l0:=ok.l0
 have l1:=ok.l1
 have hdl:=ok.dl
 have hm : (Int.tmod s.left 8 == 0) = false:=by rw [Int.tmod_eq_emod_of_nonneg (by omega)];simp;omega
 have hm2 : (s.left % 8 == 0) = false:=by simp;omega
 rw [hfld] at hc1
 have HP1:=Lib.hid (setW5 HP.out (crcI s.sum 0))
 have HV1 : Hid (Kd.R (Kd.int .u8) 5 (w.setCell ⟨p,5,none⟩ (.int .i64 (crcI s.sum 0))) w0.heap.size S v s.data):=Lib.hid (Kd.R_step HV.out (fun k hk _ => Below.heap_setCell _ _ _ k (fun e => hS ((show k = p from e) ▸ hk))))
 have HB1 : Hid (Below w0.heap.size w0 (w.setCell ⟨p,5,none⟩ (.int .i64 (crcI s.sum 0)))):=Lib.hid (HB.out.setCell hpl _)
 have HT1 : Hid (Tch w (w.setCell ⟨p,5,none⟩ (.int .i64 (crcI s.sum 0))) (fun k => k = p ∨ S k)):=Lib.hid ((Tch.refl _ _).setCell (.inl (.inl rfl)) _)
 have HF1 : Hid (∀ k,(w.setCell ⟨p,5,none⟩ (.int .i64 (crcI s.sum 0))).heap.size ≤ k → S k):=Lib.hid fun k hk => hF k (by simpa [World.setCell] using hk)
 have HHM:=Lib.hid hm8
 clear hp hv hB ok hfld hm8 hF
 obtain ⟨m,hm0⟩ : ∃ m,s.data.length = m + 1:=⟨s.data.length - 1,by have h1:=OK.out.ne HF.out HHM.out;have:=List.length_pos_iff.2 h1;omega⟩
 obtain ⟨g,c1,e1,hpk⟩:=w9_same HP1.out HV1.out hm0
 subst e1
 have HPK:=Lib.hid hpk
 have HM0:=Lib.hid hm0
 have hmb : m < 1000:=by omega
 clear hpk hm0
 obtain ⟨hgp,hpg,p5,q5,hx0,hfx0,hc11b,hf11b⟩:=W9At.facts HPK.out hS hmb
 go_enter Tryd.func76,Tryd.ntmps76
 go_wp2_with (first | (go_at_call 30;refine (impl_crcBit.same _ _ _).mono ?_;rintro e w' ⟨rfl,rfl⟩))
 go_quiet (fail)
 have HPK4:=Lib.hid (w9_draw HPK.out nq)
 clear hgp hpg p5 q5 hx0 hfx0 hc11b hf11b hc1 hc2 hc5 hf5 hc11 hf11
 generalize World.drewN _ nq = W4 at HPK4 ⊢
 obtain ⟨-, -, -, -,hx4,hfx4, -, -⟩:=W9At.facts HPK4.out hS hmb
 have HPUT:=Lib.hid (w9_put HPK4.out hS (Go.bits .or .u8 (rd s.data (m : Int) * 2 % 256) 0))
 go_wp2_with (fail)
 (refine (impl_walk_next.calls p _ ({ s with sum:=crcI s.sum 0 }) _ HPUT.out.obj OK.out.d0 OK.out.l0 OK.out.l1 OK.out.f0 OK.out.f1).mono ?_;intro e w2 hE;have HE:=Lib.hid hE;obtain rfl:=hE.ret;clear hE)
 go_wp2_with (fail)
 go_end0
 rw [plain9_eq s 0 (by omega) HF.out s.data m (by rw [if_neg HHM.out]) HM0.out (rd_range OK.out.by_ _)]
 exact ⟨rfl,⟨_,HE.out.obj,HE.out.tch.R HPUT.out.row (fun k hk e => hS (e ▸ hk))⟩,(HT1.out.trans HPUT.out.tch).trans (HE.out.tch.mono fun k hk => .inl hk)⟩
set_option maxHeartbeats 1000000 in
set_option maxRecDepth 100000 in
theorem plain_9_1_app (p : Nat) (v : Value) (s : WS) (S : Nat → Prop) (w0 w : World) (hp : w.heap[p]? = some (objW s v)) (hv : Kd.R (Kd.int .u8) 5 w w0.heap.size S v s.data) (hB : Below w0.heap.size w0 w) (hpl : w0.heap.size ≤ p) (hS : ¬ S p) (hF : ∀ k,w.heap.size ≤ k → S k) (ok : WOk s) (hfld : s.field = 9) (hm8 : s.left % 8 = 0) :
  Calls Tryd.prog 76 #[.pointer (some ⟨p,0,none⟩), .int .i64 1] w (EndP w0 w p S (plainW s 1)):=by
 have HP:=Lib.hid hp
 have HV:=Lib.hid hv
 have HB:=Lib.hid hB
 have OK:=Lib.hid ok
 have HF:=Lib.hid hfld
 have hc1:=cW1 hp
 have hc2:=cW2 hp
 have hc5:=cW5 hp
 have hc11:=cW11 hp
 have hf5:=fW hp 5
 have hf11:=fW hp 11
 have l0:=ok.l0
 have l1:=ok.l1
 have hdl:=ok.dl
 have hm : (Int.tmod s.left 8 == 0) = true:=by rw [Int.tmod_eq_emod_of_nonneg (by omega)];simp;omega
 have hm2 : (s.left % 8 == 0) = true:=by simp;omega
 rw [hfld] at hc1
 have HP1:=Lib.hid (setW5 HP.out (crcI s.sum 1))
 have HV1 : Hid (Kd.R (Kd.int .u8) 5 (w.setCell ⟨p,5,none⟩ (.int .i64 (crcI s.sum 1))) w0.heap.size S v s.data):=Lib.hid (Kd.R_step HV.out (fun k hk _ => Below.heap_setCell _ _ _ k (fun e => hS ((show k = p from e) ▸ hk))))
 have HB1 : Hid (Below w0.heap.size w0 (w.setCell ⟨p,5,none⟩ (.int .i64 (crcI s.sum 1)))):=Lib.hid (HB.out.setCell hpl _)
 have HT1 : Hid (Tch w (w.setCell ⟨p,5,none⟩ (.int .i64 (crcI s.sum 1))) (fun k => k = p ∨ S k)):=Lib.hid ((Tch.refl _ _).setCell (.inl (.inl rfl)) _)
 have HF1 : Hid (∀ k,(w.setCell ⟨p,5,none⟩ (.int .i64 (crcI s.sum 1))).heap.size ≤ k → S k):=Lib.hid fun k hk => hF k (by simpa [World.setCell] using hk)
 have HHM:=Lib.hid hm8
 clear hp hv hB ok hfld hm8 hF
 go_enter Tryd.func76,Tryd.ntmps76
 go_wp2_with (first | (go_at_call 30;refine (impl_crcBit.same _ _ _).mono ?_;rintro e w' ⟨rfl,rfl⟩) | (at_builtin;go_loud (refine Kd.R_append (Kd.int .u8) (w0:=w0) w0.heap.size rfl (.tmp 97) (.tmp 98) 23 5 (.int .u8 0) 1 rfl Tryd.underlying23 infoU8w rfl (by decide) (by omega) v s.data 0 [.int .u8 0] S (fun _ => False) rfl (slice_sz _ _ _) ?aP (fun _ hk => hk.elim) HF1.out ?aO ?aB ?aS ?aL ?_;(case aP => exact rfl);(case aO => exact HV1.out);(case aB => exact HB1.out);(case aS => exact HB1.out.size);(case aL => omega);intro v1 w1 ho hb hg hat;obtain ⟨g,c1,e1,hpk⟩:=w9_append HP1.out HV1.out hS ho hg;subst e1;have HPK:=Lib.hid hpk;clear ho hb hg hat hc1 hc2 hc5 hc11 hf5 hf11 hpk;obtain ⟨hgp,hpg,p5,q5,hx0,hfx0,hc11,hf11⟩:=W9At.facts HPK.out hS (by omega))))
 go_quiet (fail)
 have HPK4:=Lib.hid (w9_draw (w9_mid (V := .slice (some ⟨g,0,none⟩) (s.data.length + 1) c1) HPK.out hS) nq)
 clear hgp hpg p5 q5 hx0 hfx0 hc11 hf11
 generalize World.drewN _ nq = W4 at HPK4 ⊢
 obtain ⟨-, -, -, -,hx4,hfx4, -, -⟩:=W9At.facts HPK4.out hS (by omega)
 have HPUT:=Lib.hid (w9_put HPK4.out hS (Go.bits .or .u8 (rd (s.data ++ [0]) (s.data.length : Int) * 2 % 256) 1))
 go_wp2_with (fail)
 (refine (impl_walk_next.calls p _ ({ s with sum:=crcI s.sum 1 }) _ HPUT.out.obj OK.out.d0 OK.out.l0 OK.out.l1 OK.out.f0 OK.out.f1).mono ?_;intro e w2 hE;have HE:=Lib.hid hE;obtain rfl:=hE.ret;clear hE)
 go_wp2_with (fail)
 go_end0
 rw [plain9_eq s 1 (by omega) HF.out (s.data ++ [0]) s.data.length (by rw [if_pos HHM.out]) (by simp) (rd_range (fun x hx => by rcases List.mem_append.1 hx with h | h;exact OK.out.by_ x h;rw [List.mem_singleton] at h;omega) _)]
 exact ⟨rfl,⟨_,HE.out.obj,HE.out.tch.R HPUT.out.row (fun k hk e => hS (e ▸ hk))⟩,(HT1.out.trans HPUT.out.tch).trans (HE.out.tch.mono fun k hk => .inl hk)⟩
set_option maxHeartbeats 1000000 in
set_option maxRecDepth 100000 in
theorem plain_9_1_in (p : Nat) (v : Value) (s : WS) (S : Nat → Prop) (w0 w : World) (hp : w.heap[p]? = some (objW s v)) (hv : Kd.R (Kd.int .u8) 5 w w0.heap.size S v s.data) (hB : Below w0.heap.size w0 w) (hpl : w0.heap.size ≤ p) (hS : ¬ S p) (hF : ∀ k,w.heap.size ≤ k → S k) (ok : WOk s) (hfld : s.field = 9) (hm8 : ¬ s.left % 8 = 0) :
  Calls Tryd.prog 76 #[.pointer (some ⟨p,0,none⟩), .int .i64 1] w (EndP w0 w p S (plainW s 1)):=by
 have HP:=Lib.hid hp
 have HV:=Lib.hid hv
 have HB:=Lib.hid hB
 have OK:=Lib.hid ok
 have HF:=Lib.hid hfld
 have hc1:=cW1 hp
 have hc2:=cW2 hp
 have hc5:=cW5 hp
 have hc11:=cW11 hp
 have hf5:=fW hp 5
 have hf11:=fW hp 11
 have l0:=ok.l0
 have l1:=ok.l1
 have hdl:=ok.dl
 have hm : (Int.tmod s.left 8 == 0) = false:=by rw [Int.tmod_eq_emod_of_nonneg (by omega)];simp;omega
 have hm2 : (s.left % 8 == 0) = false:=by simp;omega
 rw [hfld] at hc1
 have HP1:=Lib.hid (setW5 HP.out (crcI s.sum 1))
 have HV1 : Hid (Kd.R (Kd.int .u8) 5 (w.setCell ⟨p,5,none⟩ (.int .i64 (crcI s.sum 1))) w0.heap.size S v s.data):=Lib.hid (Kd.R_step HV.out (fun k hk _ => Below.heap_setCell _ _ _ k (fun e => hS ((show k = p from e) ▸ hk))))
 have HB1 : Hid (Below w0.heap.size w0 (w.setCell ⟨p,5,none⟩ (.int .i64 (crcI s.sum 1)))):=Lib.hid (HB.out.setCell hpl _)
 have HT1 : Hid (Tch w (w.setCell ⟨p,5,none⟩ (.int .i64 (crcI s.sum 1))) (fun k => k = p ∨ S k)):=Lib.hid ((Tch.refl _ _).setCell (.inl (.inl rfl)) _)
 have HF1 : Hid (∀ k,(w.setCell ⟨p,5,none⟩ (.int .i64 (crcI s.sum 1))).heap.size ≤ k → S k):=Lib.hid fun k hk => hF k (by simpa [World.setCell] using hk)
 have HHM:=Lib.hid hm8
 clear hp hv hB ok hfld hm8 hF
 obtain ⟨m,hm0⟩ : ∃ m,s.data.length = m + 1:=⟨s.data.length - 1,by have h1:=OK.out.ne HF.out HHM.out;have:=List.length_pos_iff.2 h1;omega⟩
 obtain ⟨g,c1,e1,hpk⟩:=w9_same HP1.out HV1.out hm0
 subst e1
 have HPK:=Lib.hid hpk
 have HM0:=Lib.hid hm0
 have hmb : m < 1000:=by omega
 clear hpk hm0
 obtain ⟨hgp,hpg,p5,q5,hx0,hfx0,hc11b,hf11b⟩:=W9At.facts HPK.out hS hmb
 go_enter Tryd.func76,Tryd.ntmps76
 go_wp2_with (first | (go_at_call 30;refine (impl_crcBit.same _ _ _).mono ?_;rintro e w' ⟨rfl,rfl⟩))
 go_quiet (fail)
 have HPK4:=Lib.hid (w9_draw HPK.out nq)
 clear hgp hpg p5 q5 hx0 hfx0 hc11b hf11b hc1 hc2 hc5 hf5 hc11 hf11
 generalize World.drewN _ nq = W4 at HPK4 ⊢
 obtain ⟨-, -, -, -,hx4,hfx4, -, -⟩:=W9At.facts HPK4.out hS hmb
 have HPUT:=Lib.hid (w9_put HPK4.out hS (Go.bits .or .u8 (rd s.data (m : Int) * 2 % 256) 1))
 go_wp2_with (fail)
 (refine (impl_walk_next.calls p _ ({ s with sum:=crcI s.sum 1 }) _ HPUT.out.obj OK.out.d0 OK.out.l0 OK.out.l1 OK.out.f0 OK.out.f1).mono ?_;intro e w2 hE;have HE:=Lib.hid hE;obtain rfl:=hE.ret;clear hE)
 go_wp2_with (fail)
 go_end0
 rw [plain9_eq s 1 (by omega) HF.out s.data m (by rw [if_neg HHM.out]) HM0.out (rd_range OK.out.by_ _)]
 exact ⟨rfl,⟨_,HE.out.obj,HE.out.tch.R HPUT.out.row (fun k hk e => hS (e ▸ hk))⟩,(HT1.out.trans HPUT.out.tch).trans (HE.out.tch.mono fun k hk => .inl hk)⟩
theorem endW_left (s : WS) (b : Int) : (endW s b).left = s.left:=by unfold endW;(repeat' split) <;> rfl
theorem endW_field (s : WS) (b : Int) : (endW s b).field = s.field:=by unfold endW;(repeat' split) <;> rfl
theorem endW_dlc (s : WS) (b : Int) : (endW s b).dlc = s.dlc:=by unfold endW;(repeat' split) <;> rfl
theorem plain_1_0 (p : Nat) (v : Value) (s : WS) (w : World) (hp : w.heap[p]? = some (objW s v)) (ok : WOk s) (hfld : s.field = 1) :
  Calls Tryd.prog 76 #[.pointer (some ⟨p,0,none⟩), .int .i64 0] w (EndW w p (plainW s 0) v):=by
 have HP:=Lib.hid hp
 have hc1:=cW1 hp
 have hc5:=cW5 hp
 have hf5:=fW hp 5
 have HF:=Lib.hid hfld
 have OK:=Lib.hid ok
 have hL : Hid (plainW s 0 = nextW { s with sum:=crcI s.sum 0 }):=Lib.hid (by
  have e0 : sumW s 0 = { s with sum:=crcI s.sum 0 }:=by unfold sumW;rw [if_pos (by omega)]
  unfold plainW
  rw [e0]
  unfold takeW
  simp only [hfld]
  rfl)
 rw [hfld] at hc1
 clear hp hfld ok
 go_enter Tryd.func76,Tryd.ntmps76
 go_wp2_with (first | (go_at_call 30;refine (impl_crcBit.same _ _ _).mono ?_;rintro e w' ⟨rfl,rfl⟩))
 (refine (impl_walk_next.calls p v ({ s with sum:=crcI s.sum 0 }) _ (setW5 HP.out _) OK.out.d0 OK.out.l0 OK.out.l1 OK.out.f0 OK.out.f1).mono ?_;intro e w2 hE;have HE:=Lib.hid hE;obtain rfl:=hE.ret;clear hE)
 go_wp2_with (fail)
 go_end0
 rw [hL.out]
 exact ⟨rfl,HE.out.obj,((Tch.refl1 _ _).one 5 _).trans HE.out.tch⟩
theorem plain_1_1 (p : Nat) (v : Value) (s : WS) (w : World) (hp : w.heap[p]? = some (objW s v)) (ok : WOk s) (hfld : s.field = 1) :
  Calls Tryd.prog 76 #[.pointer (some ⟨p,0,none⟩), .int .i64 1] w (EndW w p (plainW s 1) v):=by
 have HP:=Lib.hid hp
 have hc1:=cW1 hp
 have hc5:=cW5 hp
 have hf5:=fW hp 5
 have hf0:=fW hp 0
 have hc0:=cW0 hp
 have HF:=Lib.hid hfld
 have OK:=Lib.hid ok
 have hL : Hid (plainW s 1 = nextW { s with sum:=crcI s.sum 1,code:=4 }):=Lib.hid (by
  have e0 : sumW s 1 = { s with sum:=crcI s.sum 1 }:=by unfold sumW;rw [if_pos (by omega)]
  unfold plainW
  rw [e0]
  unfold takeW
  simp only [hfld]
  rfl)
 rw [hfld] at hc1
 clear hp hfld ok
 go_enter Tryd.func76,Tryd.ntmps76
 go_wp2_with (first | (go_at_call 30;refine (impl_crcBit.same _ _ _).mono ?_;rintro e w' ⟨rfl,rfl⟩))
 (refine (impl_walk_next.calls p v ({ s with sum:=crcI s.sum 1,code:=4 }) _ (setW0 (setW5 HP.out _) _) OK.out.d0 OK.out.l0 OK.out.l1 OK.out.f0 OK.out.f1).mono ?_;intro e w2 hE;have HE:=Lib.hid hE;obtain rfl:=hE.ret;clear hE)
 go_wp2_with (fail)
 go_end0
 rw [hL.out]
 exact ⟨rfl,HE.out.obj,(((Tch.refl1 _ _).one 5 _).one 0 _).trans HE.out.tch⟩
theorem plain_2_0 (p : Nat) (v : Value) (s : WS) (w : World) (hp : w.heap[p]? = some (objW s v)) (ok : WOk s) (hfld : s.field = 2) :
  Calls Tryd.prog 76 #[.pointer (some ⟨p,0,none⟩), .int .i64 0] w (EndW w p (plainW s 0) v):=by
 have HP:=Lib.hid hp
 have hc1:=cW1 hp
 have hc5:=cW5 hp
 have hc8:=cW8 hp
 have hf5:=fW hp 5
 have hf8:=fW hp 8
 have HF:=Lib.hid hfld
 have OK:=Lib.hid ok
 have hL : Hid (plainW s 0 = nextW { s with sum:=crcI s.sum 0,id:=Go.bits .or .u32 (s.id * 2 % 4294967296) 0 }):=Lib.hid (by
  have e0 : sumW s 0 = { s with sum:=crcI s.sum 0 }:=by unfold sumW;rw [if_pos (by omega)]
  unfold plainW
  rw [e0]
  unfold takeW
  simp only [hfld]
  rw [or_u32 s.id 0 ok.i0 (by omega)]
  rfl)
 rw [hfld] at hc1
 clear hp hfld ok
 go_enter Tryd.func76,Tryd.ntmps76
 go_wp2_with (first | (go_at_call 30;refine (impl_crcBit.same _ _ _).mono ?_;rintro e w' ⟨rfl,rfl⟩))
 (refine (impl_walk_next.calls p v ({ s with sum:=crcI s.sum 0,id:=Go.bits .or .u32 (s.id * 2 % 4294967296) 0 }) _ (setW8 (setW5 HP.out _) _) OK.out.d0 OK.out.l0 OK.out.l1 OK.out.f0 OK.out.f1).mono ?_;intro e w2 hE;have HE:=Lib.hid hE;obtain rfl:=hE.ret;clear hE)
 go_wp2_with (fail)
 go_end0
 rw [hL.out]
 exact ⟨rfl,HE.out.obj,(((Tch.refl1 _ _).one 5 _).one 8 _).trans HE.out.tch⟩
theorem plain_2_1 (p : Nat) (v : Value) (s : WS) (w : World) (hp : w.heap[p]? = some (objW s v)) (ok : WOk s) (hfld : s.field = 2) :
  Calls Tryd.prog 76 #[.pointer (some ⟨p,0,none⟩), .int .i64 1] w (EndW w p (plainW s 1) v):=by
 have HP:=Lib.hid hp
 have hc1:=cW1 hp
 have hc5:=cW5 hp
 have hc8:=cW8 hp
 have hf5:=fW hp 5
 have hf8:=fW hp 8
 have HF:=Lib.hid hfld
 have OK:=Lib.hid ok
 have hL : Hid (plainW s 1 = nextW { s with sum:=crcI s.sum 1,id:=Go.bits .or .u32 (s.id * 2 % 4294967296) 1 }):=Lib.hid (by
  have e0 : sumW s 1 = { s with sum:=crcI s.sum 1 }:=by unfold sumW;rw [if_pos (by omega)]
  unfold plainW
  rw [e0]
  unfold takeW
  simp only [hfld]
  rw [or_u32 s.id 1 ok.i0 (by omega)]
  rfl)
 rw [hfld] at hc1
 clear hp hfld ok
 go_enter Tryd.func76,Tryd.ntmps76
 go_wp2_with (first | (go_at_call 30;refine (impl_crcBit.same _ _ _).mono ?_;rintro e w' ⟨rfl,rfl⟩))
 (refine (impl_walk_next.calls p v ({ s with sum:=crcI s.sum 1,id:=Go.bits .or .u32 (s.id * 2 % 4294967296) 1 }) _ (setW8 (setW5 HP.out _) _) OK.out.d0 OK.out.l0 OK.out.l1 OK.out.f0 OK.out.f1).mono ?_;intro e w2 hE;have HE:=Lib.hid hE;obtain rfl:=hE.ret;clear hE)
 go_wp2_with (fail)
 go_end0
 rw [hL.out]
 exact ⟨rfl,HE.out.obj,(((Tch.refl1 _ _).one 5 _).one 8 _).trans HE.out.tch⟩
theorem plain_3_0 (p : Nat) (v : Value) (s : WS) (w : World) (hp : w.heap[p]? = some (objW s v)) (ok : WOk s) (hfld : s.field = 3) :
  Calls Tryd.prog 76 #[.pointer (some ⟨p,0,none⟩), .int .i64 0] w (EndW w p (plainW s 0) v):=by
 have HP:=Lib.hid hp
 have hc1:=cW1 hp
 have hc5:=cW5 hp
 have hc9:=cW9 hp
 have hf5:=fW hp 5
 have hf9:=fW hp 9
 have HF:=Lib.hid hfld
 have OK:=Lib.hid ok
 have hL : Hid (plainW s 0 = nextW { s with sum:=crcI s.sum 0,rtr:=false }):=Lib.hid (by
  have e0 : sumW s 0 = { s with sum:=crcI s.sum 0 }:=by unfold sumW;rw [if_pos (by omega)]
  unfold plainW
  rw [e0]
  unfold takeW
  simp only [hfld]
  rfl)
 rw [hfld] at hc1
 clear hp hfld ok
 go_enter Tryd.func76,Tryd.ntmps76
 go_wp2_with (first | (go_at_call 30;refine (impl_crcBit.same _ _ _).mono ?_;rintro e w' ⟨rfl,rfl⟩))
 (refine (impl_walk_next.calls p v ({ s with sum:=crcI s.sum 0,rtr:=false }) _ (setW9 (setW5 HP.out _) _) OK.out.d0 OK.out.l0 OK.out.l1 OK.out.f0 OK.out.f1).mono ?_;intro e w2 hE;have HE:=Lib.hid hE;obtain rfl:=hE.ret;clear hE)
 go_wp2_with (fail)
 go_end0
 rw [hL.out]
 exact ⟨rfl,HE.out.obj,(((Tch.refl1 _ _).one 5 _).one 9 _).trans HE.out.tch⟩
theorem plain_3_1 (p : Nat) (v : Value) (s : WS) (w : World) (hp : w.heap[p]? = some (objW s v)) (ok : WOk s) (hfld : s.field = 3) :
  Calls Tryd.prog 76 #[.pointer (some ⟨p,0,none⟩), .int .i64 1] w (EndW w p (plainW s 1) v):=by
 have HP:=Lib.hid hp
 have hc1:=cW1 hp
 have hc5:=cW5 hp
 have hc9:=cW9 hp
 have hf5:=fW hp 5
 have hf9:=fW hp 9
 have HF:=Lib.hid hfld
 have OK:=Lib.hid ok
 have hL : Hid (plainW s 1 = nextW { s with sum:=crcI s.sum 1,rtr:=true }):=Lib.hid (by
  have e0 : sumW s 1 = { s with sum:=crcI s.sum 1 }:=by unfold sumW;rw [if_pos (by omega)]
  unfold plainW
  rw [e0]
  unfold takeW
  simp only [hfld]
  rfl)
 rw [hfld] at hc1
 clear hp hfld ok
 go_enter Tryd.func76,Tryd.ntmps76
 go_wp2_with (first | (go_at_call 30;refine (impl_crcBit.same _ _ _).mono ?_;rintro e w' ⟨rfl,rfl⟩))
 (refine (impl_walk_next.calls p v ({ s with sum:=crcI s.sum 1,rtr:=true }) _ (setW9 (setW5 HP.out _) _) OK.out.d0 OK.out.l0 OK.out.l1 OK.out.f0 OK.out.f1).mono ?_;intro e w2 hE;have HE:=Lib.hid hE;obtain rfl:=hE.ret;clear hE)
 go_wp2_with (fail)
 go_end0
 rw [hL.out]
 exact ⟨rfl,HE.out.obj,(((Tch.refl1 _ _).one 5 _).one 9 _).trans HE.out.tch⟩
theorem plain_4_0 (p : Nat) (v : Value) (s : WS) (w : World) (hp : w.heap[p]? = some (objW s v)) (ok : WOk s) (hfld : s.field = 4) :
  Calls Tryd.prog 76 #[.pointer (some ⟨p,0,none⟩), .int .i64 0] w (EndW w p (plainW s 0) v):=by
 have HP:=Lib.hid hp
 have hc1:=cW1 hp
 have hc5:=cW5 hp
 have hc7:=cW7 hp
 have hf5:=fW hp 5
 have hf7:=fW hp 7
 have HF:=Lib.hid hfld
 have OK:=Lib.hid ok
 have hL : Hid (plainW s 0 = nextW { s with sum:=crcI s.sum 0,ext:=false }):=Lib.hid (by
  have e0 : sumW s 0 = { s with sum:=crcI s.sum 0 }:=by unfold sumW;rw [if_pos (by omega)]
  unfold plainW
  rw [e0]
  unfold takeW
  simp only [hfld]
  rfl)
 rw [hfld] at hc1
 clear hp hfld ok
 go_enter Tryd.func76,Tryd.ntmps76
 go_wp2_with (first | (go_at_call 30;refine (impl_crcBit.same _ _ _).mono ?_;rintro e w' ⟨rfl,rfl⟩))
 (refine (impl_walk_next.calls p v ({ s with sum:=crcI s.sum 0,ext:=false }) _ (setW7 (setW5 HP.out _) _) OK.out.d0 OK.out.l0 OK.out.l1 OK.out.f0 OK.out.f1).mono ?_;intro e w2 hE;have HE:=Lib.hid hE;obtain rfl:=hE.ret;clear hE)
 go_wp2_with (fail)
 go_end0
 rw [hL.out]
 exact ⟨rfl,HE.out.obj,(((Tch.refl1 _ _).one 5 _).one 7 _).trans HE.out.tch⟩
theorem plain_4_1 (p : Nat) (v : Value) (s : WS) (w : World) (hp : w.heap[p]? = some (objW s v)) (ok : WOk s) (hfld : s.field = 4) :
  Calls Tryd.prog 76 #[.pointer (some ⟨p,0,none⟩), .int .i64 1] w (EndW w p (plainW s 1) v):=by
 have HP:=Lib.hid hp
 have hc1:=cW1 hp
 have hc5:=cW5 hp
 have hc7:=cW7 hp
 have hf5:=fW hp 5
 have hf7:=fW hp 7
 have HF:=Lib.hid hfld
 have OK:=Lib.hid ok
 have hL : Hid (plainW s 1 = nextW { s with sum:=crcI s.sum 1,ext:=true }):=Lib.hid (by
  have e0 : sumW s 1 = { s with sum:=crcI s.sum 1 }:=by unfold sumW;rw [if_pos (by omega)]
  unfold plainW
  rw [e0]
  unfold takeW
  simp only [hfld]
  rfl)
 rw [hfld] at hc1
 clear hp hfld ok
 go_enter Tryd.func76,Tryd.ntmps76
 go_wp2_with (first | (go_at_call 30;refine (impl_crcBit.same _ _ _).mono ?_;rintro e w' ⟨rfl,rfl⟩))
 (refine (impl_walk_next.calls p v ({ s with sum:=crcI s.sum 1,ext:=true }) _ (setW7 (setW5 HP.out _) _) OK.out.d0 OK.out.l0 OK.out.l1 OK.out.f0 OK.out.f1).mono ?_;intro e w2 hE;have HE:=Lib.hid hE;obtain rfl:=hE.ret;clear hE)
 go_wp2_with (fail)
 go_end0
 rw [hL.out]
 exact ⟨rfl,HE.out.obj,(((Tch.refl1 _ _).one 5 _).one 7 _).trans HE.out.tch⟩
theorem plain_5_0 (p : Nat) (v : Value) (s : WS) (w : World) (hp : w.heap[p]? = some (objW s v)) (ok : WOk s) (hfld : s.field = 5) :
  Calls Tryd.prog 76 #[.pointer (some ⟨p,0,none⟩), .int .i64 0] w (EndW w p (plainW s 0) v):=by
 have HP:=Lib.hid hp
 have hc1:=cW1 hp
 have hc5:=cW5 hp
 have hc8:=cW8 hp
 have hf5:=fW hp 5
 have hf8:=fW hp 8
 have HF:=Lib.hid hfld
 have OK:=Lib.hid ok
 have hL : Hid (plainW s 0 = nextW { s with sum:=crcI s.sum 0,id:=Go.bits .or .u32 (s.id * 2 % 4294967296) 0 }):=Lib.hid (by
  have e0 : sumW s 0 = { s with sum:=crcI s.sum 0 }:=by unfold sumW;rw [if_pos (by omega)]
  unfold plainW
  rw [e0]
  unfold takeW
  simp only [hfld]
  rw [or_u32 s.id 0 ok.i0 (by omega)]
  rfl)
 rw [hfld] at hc1
 clear hp hfld ok
 go_enter Tryd.func76,Tryd.ntmps76
 go_wp2_with (first | (go_at_call 30;refine (impl_crcBit.same _ _ _).mono ?_;rintro e w' ⟨rfl,rfl⟩))
 (refine (impl_walk_next.calls p v ({ s with sum:=crcI s.sum 0,id:=Go.bits .or .u32 (s.id * 2 % 4294967296) 0 }) _ (setW8 (setW5 HP.out _) _) OK.out.d0 OK.out.l0 OK.out.l1 OK.out.f0 OK.out.f1).mono ?_;intro e w2 hE;have HE:=Lib.hid hE;obtain rfl:=hE.ret;clear hE)
 go_wp2_with (fail)
 go_end0
 rw [hL.out]
 exact ⟨rfl,HE.out.obj,(((Tch.refl1 _ _).one 5 _).one 8 _).trans HE.out.tch⟩
theorem plain_5_1 (p : Nat) (v : Value) (s : WS) (w : World) (hp : w.heap[p]? = some (objW s v)) (ok : WOk s) (hfld : s.field = 5) :
  Calls Tryd.prog 76 #[.pointer (some ⟨p,0,none⟩), .int .i64 1] w (EndW w p (plainW s 1) v):=by
 have HP:=Lib.hid hp
 have hc1:=cW1 hp
 have hc5:=cW5 hp
 have hc8:=cW8 hp
 have hf5:=fW hp 5
 have hf8:=fW hp 8
 have HF:=Lib.hid hfld
 have OK:=Lib.hid ok
 have hL : Hid (plainW s 1 = nextW { s with sum:=crcI s.sum 1,id:=Go.bits .or .u32 (s.id * 2 % 4294967296) 1 }):=Lib.hid (by
  have e0 : sumW s 1 = { s with sum:=crcI s.sum 1 }:=by unfold sumW;rw [if_pos (by omega)]
  unfold plainW
  rw [e0]
  unfold takeW
  simp only [hfld]
  rw [or_u32 s.id 1 ok.i0 (by omega)]
  rfl)
 rw [hfld] at hc1
 clear hp hfld ok
 go_enter Tryd.func76,Tryd.ntmps76
 go_wp2_with (first | (go_at_call 30;refine (impl_crcBit.same _ _ _).mono ?_;rintro e w' ⟨rfl,rfl⟩))
 (refine (impl_walk_next.calls p v ({ s with sum:=crcI s.sum 1,id:=Go.bits .or .u32 (s.id * 2 % 4294967296) 1 }) _ (setW8 (setW5 HP.out _) _) OK.out.d0 OK.out.l0 OK.out.l1 OK.out.f0 OK.out.f1).mono ?_;intro e w2 hE;have HE:=Lib.hid hE;obtain rfl:=hE.ret;clear hE)
 go_wp2_with (fail)
 go_end0
 rw [hL.out]
 exact ⟨rfl,HE.out.obj,(((Tch.refl1 _ _).one 5 _).one 8 _).trans HE.out.tch⟩
theorem plain_6_0 (p : Nat) (v : Value) (s : WS) (w : World) (hp : w.heap[p]? = some (objW s v)) (ok : WOk s) (hfld : s.field = 6) :
  Calls Tryd.prog 76 #[.pointer (some ⟨p,0,none⟩), .int .i64 0] w (EndW w p (plainW s 0) v):=by
 have HP:=Lib.hid hp
 have hc1:=cW1 hp
 have hc5:=cW5 hp
 have hc9:=cW9 hp
 have hf5:=fW hp 5
 have hf9:=fW hp 9
 have HF:=Lib.hid hfld
 have OK:=Lib.hid ok
 have hL : Hid (plainW s 0 = nextW { s with sum:=crcI s.sum 0,rtr:=false }):=Lib.hid (by
  have e0 : sumW s 0 = { s with sum:=crcI s.sum 0 }:=by unfold sumW;rw [if_pos (by omega)]
  unfold plainW
  rw [e0]
  unfold takeW
  simp only [hfld]
  rfl)
 rw [hfld] at hc1
 clear hp hfld ok
 go_enter Tryd.func76,Tryd.ntmps76
 go_wp2_with (first | (go_at_call 30;refine (impl_crcBit.same _ _ _).mono ?_;rintro e w' ⟨rfl,rfl⟩))
 (refine (impl_walk_next.calls p v ({ s with sum:=crcI s.sum 0,rtr:=false }) _ (setW9 (setW5 HP.out _) _) OK.out.d0 OK.out.l0 OK.out.l1 OK.out.f0 OK.out.f1).mono ?_;intro e w2 hE;have HE:=Lib.hid hE;obtain rfl:=hE.ret;clear hE)
 go_wp2_with (fail)
 go_end0
 rw [hL.out]
 exact ⟨rfl,HE.out.obj,(((Tch.refl1 _ _).one 5 _).one 9 _).trans HE.out.tch⟩
theorem plain_6_1 (p : Nat) (v : Value) (s : WS) (w : World) (hp : w.heap[p]? = some (objW s v)) (ok : WOk s) (hfld : s.field = 6) :
  Calls Tryd.prog 76 #[.pointer (some ⟨p,0,none⟩), .int .i64 1] w (EndW w p (plainW s 1) v):=by
 have HP:=Lib.hid hp
 have hc1:=cW1 hp
 have hc5:=cW5 hp
 have hc9:=cW9 hp
 have hf5:=fW hp 5
 have hf9:=fW hp 9
 have HF:=Lib.hid hfld
 have OK:=Lib.hid ok
 have hL : Hid (plainW s 1 = nextW { s with sum:=crcI s.sum 1,rtr:=true }):=Lib.hid (by
  have e0 : sumW s 1 = { s with sum:=crcI s.sum 1 }:=by unfold sumW;rw [if_pos (by omega)]
  unfold plainW
  rw [e0]
  unfold takeW
  simp only [hfld]
  rfl)
 rw [hfld] at hc1
 clear hp hfld ok
 go_enter Tryd.func76,Tryd.ntmps76
 go_wp2_with (first | (go_at_call 30;refine (impl_crcBit.same _ _ _).mono ?_;rintro e w' ⟨rfl,rfl⟩))
 (refine (impl_walk_next.calls p v ({ s with sum:=crcI s.sum 1,rtr:=true }) _ (setW9 (setW5 HP.out _) _) OK.out.d0 OK.out.l0 OK.out.l1 OK.out.f0 OK.out.f1).mono ?_;intro e w2 hE;have HE:=Lib.hid hE;obtain rfl:=hE.ret;clear hE)
 go_wp2_with (fail)
 go_end0
 rw [hL.out]
 exact ⟨rfl,HE.out.obj,(((Tch.refl1 _ _).one 5 _).one 9 _).trans HE.out.tch⟩
theorem plain_7_0 (p : Nat) (v : Value) (s : WS) (w : World) (hp : w.heap[p]? = some (objW s v)) (ok : WOk s) (hfld : s.field = 7) :
  Calls Tryd.prog 76 #[.pointer (some ⟨p,0,none⟩), .int .i64 0] w (EndW w p (plainW s 0) v):=by
 have HP:=Lib.hid hp
 have hc1:=cW1 hp
 have hc5:=cW5 hp
 have hf5:=fW hp 5
 have HF:=Lib.hid hfld
 have OK:=Lib.hid ok
 have hL : Hid (plainW s 0 = nextW { s with sum:=crcI s.sum 0 }):=Lib.hid (by
  have e0 : sumW s 0 = { s with sum:=crcI s.sum 0 }:=by unfold sumW;rw [if_pos (by omega)]
  unfold plainW
  rw [e0]
  unfold takeW
  simp only [hfld]
  rfl)
 rw [hfld] at hc1
 clear hp hfld ok
 go_enter Tryd.func76,Tryd.ntmps76
 go_wp2_with (first | (go_at_call 30;refine (impl_crcBit.same _ _ _).mono ?_;rintro e w' ⟨rfl,rfl⟩))
 (refine (impl_walk_next.calls p v ({ s with sum:=crcI s.sum 0 }) _ (setW5 HP.out _) OK.out.d0 OK.out.l0 OK.out.l1 OK.out.f0 OK.out.f1).mono ?_;intro e w2 hE;have HE:=Lib.hid hE;obtain rfl:=hE.ret;clear hE)
 go_wp2_with (fail)
 go_end0
 rw [hL.out]
 exact ⟨rfl,HE.out.obj,((Tch.refl1 _ _).one 5 _).trans HE.out.tch⟩
theorem plain_7_1 (p : Nat) (v : Value) (s : WS) (w : World) (hp : w.heap[p]? = some (objW s v)) (ok : WOk s) (hfld : s.field = 7) :
  Calls Tryd.prog 76 #[.pointer (some ⟨p,0,none⟩), .int .i64 1] w (EndW w p (plainW s 1) v):=by
 have HP:=Lib.hid hp
 have hc1:=cW1 hp
 have hc5:=cW5 hp
 have hf5:=fW hp 5
 have HF:=Lib.hid hfld
 have OK:=Lib.hid ok
 have hL : Hid (plainW s 1 = nextW { s with sum:=crcI s.sum 1 }):=Lib.hid (by
  have e0 : sumW s 1 = { s with sum:=crcI s.sum 1 }:=by unfold sumW;rw [if_pos (by omega)]
  unfold plainW
  rw [e0]
  unfold takeW
  simp only [hfld]
  rfl)
 rw [hfld] at hc1
 clear hp hfld ok
 go_enter Tryd.func76,Tryd.ntmps76
 go_wp2_with (first | (go_at_call 30;refine (impl_crcBit.same _ _ _).mono ?_;rintro e w' ⟨rfl,rfl⟩))
 (refine (impl_walk_next.calls p v ({ s with sum:=crcI s.sum 1 }) _ (setW5 HP.out _) OK.out.d0 OK.out.l0 OK.out.l1 OK.out.f0 OK.out.f1).mono ?_;intro e w2 hE;have HE:=Lib.hid hE;obtain rfl:=hE.ret;clear hE)
 go_wp2_with (fail)
 go_end0
 rw [hL.out]
 exact ⟨rfl,HE.out.obj,((Tch.refl1 _ _).one 5 _).trans HE.out.tch⟩
theorem plain_8_0 (p : Nat) (v : Value) (s : WS) (w : World) (hp : w.heap[p]? = some (objW s v)) (ok : WOk s) (hfld : s.field = 8) :
  Calls Tryd.prog 76 #[.pointer (some ⟨p,0,none⟩), .int .i64 0] w (EndW w p (plainW s 0) v):=by
 have HP:=Lib.hid hp
 have hc1:=cW1 hp
 have hc5:=cW5 hp
 have hc10:=cW10 hp
 have hf5:=fW hp 5
 have hf10:=fW hp 10
 have hd0:=ok.d0
 have hd1:=ok.d1
 have HF:=Lib.hid hfld
 have OK:=Lib.hid ok
 have HD : Hid (0 ≤ Go.bits .or .i64 (s.dlc * 2) 0):=Lib.hid (by rw [show s.dlc * 2 = wrap64 (s.dlc * 2) by unfold wrap64;omega,or_i64 s.dlc 0 ok.d0 (by omega) (by omega)];omega)
 have hL : Hid (plainW s 0 = nextW { s with sum:=crcI s.sum 0,dlc:=Go.bits .or .i64 (s.dlc * 2) 0 }):=Lib.hid (by
  have e0 : sumW s 0 = { s with sum:=crcI s.sum 0 }:=by unfold sumW;rw [if_pos (by omega)]
  unfold plainW
  rw [e0]
  unfold takeW
  simp only [hfld]
  rw [show s.dlc * 2 = wrap64 (s.dlc * 2) by unfold wrap64;omega,or_i64 s.dlc 0 ok.d0 (by omega) (by omega)]
  rfl)
 rw [hfld] at hc1
 clear hp hfld ok
 go_enter Tryd.func76,Tryd.ntmps76
 go_wp2_with (first | (go_at_call 30;refine (impl_crcBit.same _ _ _).mono ?_;rintro e w' ⟨rfl,rfl⟩))
 (refine (impl_walk_next.calls p v ({ s with sum:=crcI s.sum 0,dlc:=Go.bits .or .i64 (s.dlc * 2) 0 }) _ (setW10 (setW5 HP.out _) _) HD.out OK.out.l0 OK.out.l1 OK.out.f0 OK.out.f1).mono ?_;intro e w2 hE;have HE:=Lib.hid hE;obtain rfl:=hE.ret;clear hE)
 go_wp2_with (fail)
 go_end0
 rw [hL.out]
 exact ⟨rfl,HE.out.obj,(((Tch.refl1 _ _).one 5 _).one 10 _).trans HE.out.tch⟩
theorem plain_8_1 (p : Nat) (v : Value) (s : WS) (w : World) (hp : w.heap[p]? = some (objW s v)) (ok : WOk s) (hfld : s.field = 8) :
  Calls Tryd.prog 76 #[.pointer (some ⟨p,0,none⟩), .int .i64 1] w (EndW w p (plainW s 1) v):=by
 have HP:=Lib.hid hp
 have hc1:=cW1 hp
 have hc5:=cW5 hp
 have hc10:=cW10 hp
 have hf5:=fW hp 5
 have hf10:=fW hp 10
 have hd0:=ok.d0
 have hd1:=ok.d1
 have HF:=Lib.hid hfld
 have OK:=Lib.hid ok
 have HD : Hid (0 ≤ Go.bits .or .i64 (s.dlc * 2) 1):=Lib.hid (by rw [show s.dlc * 2 = wrap64 (s.dlc * 2) by unfold wrap64;omega,or_i64 s.dlc 1 ok.d0 (by omega) (by omega)];omega)
 have hL : Hid (plainW s 1 = nextW { s with sum:=crcI s.sum 1,dlc:=Go.bits .or .i64 (s.dlc * 2) 1 }):=Lib.hid (by
  have e0 : sumW s 1 = { s with sum:=crcI s.sum 1 }:=by unfold sumW;rw [if_pos (by omega)]
  unfold plainW
  rw [e0]
  unfold takeW
  simp only [hfld]
  rw [show s.dlc * 2 = wrap64 (s.dlc * 2) by unfold wrap64;omega,or_i64 s.dlc 1 ok.d0 (by omega) (by omega)]
  rfl)
 rw [hfld] at hc1
 clear hp hfld ok
 go_enter Tryd.func76,Tryd.ntmps76
 go_wp2_with (first | (go_at_call 30;refine (impl_crcBit.same _ _ _).mono ?_;rintro e w' ⟨rfl,rfl⟩))
 (refine (impl_walk_next.calls p v ({ s with sum:=crcI s.sum 1,dlc:=Go.bits .or .i64 (s.dlc * 2) 1 }) _ (setW10 (setW5 HP.out _) _) HD.out OK.out.l0 OK.out.l1 OK.out.f0 OK.out.f1).mono ?_;intro e w2 hE;have HE:=Lib.hid hE;obtain rfl:=hE.ret;clear hE)
 go_wp2_with (fail)
 go_end0
 rw [hL.out]
 exact ⟨rfl,HE.out.obj,(((Tch.refl1 _ _).one 5 _).one 10 _).trans HE.out.tch⟩
theorem plain_10_0 (p : Nat) (v : Value) (s : WS) (w : World) (hp : w.heap[p]? = some (objW s v)) (ok : WOk s) (hfld : s.field = 10) :
  Calls Tryd.prog 76 #[.pointer (some ⟨p,0,none⟩), .int .i64 0] w (EndW w p (plainW s 0) v):=by
 have HP:=Lib.hid hp
 have hc1:=cW1 hp
 have hc6:=cW6 hp
 have hf6:=fW hp 6
 have hg0:=ok.g0
 have hg1:=ok.g1
 have HF:=Lib.hid hfld
 have OK:=Lib.hid ok
 have hL : Hid (plainW s 0 = nextW { s with got:=Go.bits .or .i64 (s.got * 2) 0 }):=Lib.hid (by
  have e0 : sumW s 0 = s:=by unfold sumW;rw [if_neg (by omega)]
  unfold plainW
  rw [e0]
  unfold takeW
  simp only [hfld]
  rw [show s.got * 2 = wrap64 (s.got * 2) by unfold wrap64;omega,or_i64 s.got 0 ok.g0 (by omega) (by omega)]
  rfl)
 rw [hfld] at hc1
 clear hp hfld ok
 go_enter Tryd.func76,Tryd.ntmps76
 go_wp2_with (fail)
 (refine (impl_walk_next.calls p v ({ s with got:=Go.bits .or .i64 (s.got * 2) 0 }) _ (setW6 HP.out _) OK.out.d0 OK.out.l0 OK.out.l1 OK.out.f0 OK.out.f1).mono ?_;intro e w2 hE;have HE:=Lib.hid hE;obtain rfl:=hE.ret;clear hE)
 go_wp2_with (fail)
 go_end0
 rw [hL.out]
 exact ⟨rfl,HE.out.obj,((Tch.refl1 _ _).one 6 _).trans HE.out.tch⟩
theorem plain_10_1 (p : Nat) (v : Value) (s : WS) (w : World) (hp : w.heap[p]? = some (objW s v)) (ok : WOk s) (hfld : s.field = 10) :
  Calls Tryd.prog 76 #[.pointer (some ⟨p,0,none⟩), .int .i64 1] w (EndW w p (plainW s 1) v):=by
 have HP:=Lib.hid hp
 have hc1:=cW1 hp
 have hc6:=cW6 hp
 have hf6:=fW hp 6
 have hg0:=ok.g0
 have hg1:=ok.g1
 have HF:=Lib.hid hfld
 have OK:=Lib.hid ok
 have hL : Hid (plainW s 1 = nextW { s with got:=Go.bits .or .i64 (s.got * 2) 1 }):=Lib.hid (by
  have e0 : sumW s 1 = s:=by unfold sumW;rw [if_neg (by omega)]
  unfold plainW
  rw [e0]
  unfold takeW
  simp only [hfld]
  rw [show s.got * 2 = wrap64 (s.got * 2) by unfold wrap64;omega,or_i64 s.got 1 ok.g0 (by omega) (by omega)]
  rfl)
 rw [hfld] at hc1
 clear hp hfld ok
 go_enter Tryd.func76,Tryd.ntmps76
 go_wp2_with (fail)
 (refine (impl_walk_next.calls p v ({ s with got:=Go.bits .or .i64 (s.got * 2) 1 }) _ (setW6 HP.out _) OK.out.d0 OK.out.l0 OK.out.l1 OK.out.f0 OK.out.f1).mono ?_;intro e w2 hE;have HE:=Lib.hid hE;obtain rfl:=hE.ret;clear hE)
 go_wp2_with (fail)
 go_end0
 rw [hL.out]
 exact ⟨rfl,HE.out.obj,((Tch.refl1 _ _).one 6 _).trans HE.out.tch⟩
theorem plain_11_0 (p : Nat) (v : Value) (s : WS) (w : World) (hp : w.heap[p]? = some (objW s v)) (ok : WOk s) (hfld : s.field = 11) :
  Calls Tryd.prog 76 #[.pointer (some ⟨p,0,none⟩), .int .i64 0] w (EndW w p (plainW s 0) v):=by
 have HP:=Lib.hid hp
 have hc1:=cW1 hp
 have hf0:=fW hp 0
 have hc0:=cW0 hp
 have HF:=Lib.hid hfld
 have OK:=Lib.hid ok
 have hL : Hid (plainW s 0 = nextW { s with code:=4 }):=Lib.hid (by
  have e0 : sumW s 0 = s:=by unfold sumW;rw [if_neg (by omega)]
  unfold plainW
  rw [e0]
  unfold takeW
  simp only [hfld]
  rfl)
 rw [hfld] at hc1
 clear hp hfld ok
 go_enter Tryd.func76,Tryd.ntmps76
 go_wp2_with (fail)
 (refine (impl_walk_next.calls p v ({ s with code:=4 }) _ (setW0 HP.out _) OK.out.d0 OK.out.l0 OK.out.l1 OK.out.f0 OK.out.f1).mono ?_;intro e w2 hE;have HE:=Lib.hid hE;obtain rfl:=hE.ret;clear hE)
 go_wp2_with (fail)
 go_end0
 rw [hL.out]
 exact ⟨rfl,HE.out.obj,((Tch.refl1 _ _).one 0 _).trans HE.out.tch⟩
theorem plain_11_1 (p : Nat) (v : Value) (s : WS) (w : World) (hp : w.heap[p]? = some (objW s v)) (ok : WOk s) (hfld : s.field = 11) :
  Calls Tryd.prog 76 #[.pointer (some ⟨p,0,none⟩), .int .i64 1] w (EndW w p (plainW s 1) v):=by
 have HP:=Lib.hid hp
 have hc1:=cW1 hp
 have HF:=Lib.hid hfld
 have OK:=Lib.hid ok
 have hL : Hid (plainW s 1 = nextW s):=Lib.hid (by
  have e0 : sumW s 1 = s:=by unfold sumW;rw [if_neg (by omega)]
  unfold plainW
  rw [e0]
  unfold takeW
  simp only [hfld]
  rfl)
 rw [hfld] at hc1
 clear hp hfld ok
 go_enter Tryd.func76,Tryd.ntmps76
 go_wp2_with (fail)
 (refine (impl_walk_next.calls p v (s) _ HP.out OK.out.d0 OK.out.l0 OK.out.l1 OK.out.f0 OK.out.f1).mono ?_;intro e w2 hE;have HE:=Lib.hid hE;obtain rfl:=hE.ret;clear hE)
 go_wp2_with (fail)
 go_end0
 rw [hL.out]
 exact ⟨rfl,HE.out.obj,(Tch.refl1 _ _).trans HE.out.tch⟩
theorem plain_12_0 (p : Nat) (v : Value) (s : WS) (w : World) (hp : w.heap[p]? = some (objW s v)) (ok : WOk s) (hfld : s.field = 12) :
  Calls Tryd.prog 76 #[.pointer (some ⟨p,0,none⟩), .int .i64 0] w (EndW w p (plainW s 0) v):=by
 have HP:=Lib.hid hp
 have hc1:=cW1 hp
 have HF:=Lib.hid hfld
 have OK:=Lib.hid ok
 have hL : Hid (plainW s 0 = nextW s):=Lib.hid (by
  have e0 : sumW s 0 = s:=by unfold sumW;rw [if_neg (by omega)]
  unfold plainW
  rw [e0]
  unfold takeW
  simp only [hfld]
  rfl)
 rw [hfld] at hc1
 clear hp hfld ok
 go_enter Tryd.func76,Tryd.ntmps76
 go_wp2_with (fail)
 (refine (impl_walk_next.calls p v (s) _ HP.out OK.out.d0 OK.out.l0 OK.out.l1 OK.out.f0 OK.out.f1).mono ?_;intro e w2 hE;have HE:=Lib.hid hE;obtain rfl:=hE.ret;clear hE)
 go_wp2_with (fail)
 go_end0
 rw [hL.out]
 exact ⟨rfl,HE.out.obj,(Tch.refl1 _ _).trans HE.out.tch⟩
theorem plain_12_1 (p : Nat) (v : Value) (s : WS) (w : World) (hp : w.heap[p]? = some (objW s v)) (ok : WOk s) (hfld : s.field = 12) :
  Calls Tryd.prog 76 #[.pointer (some ⟨p,0,none⟩), .int .i64 1] w (EndW w p (plainW s 1) v):=by
 have HP:=Lib.hid hp
 have hc1:=cW1 hp
 have HF:=Lib.hid hfld
 have OK:=Lib.hid ok
 have hL : Hid (plainW s 1 = nextW s):=Lib.hid (by
  have e0 : sumW s 1 = s:=by unfold sumW;rw [if_neg (by omega)]
  unfold plainW
  rw [e0]
  unfold takeW
  simp only [hfld]
  rfl)
 rw [hfld] at hc1
 clear hp hfld ok
 go_enter Tryd.func76,Tryd.ntmps76
 go_wp2_with (fail)
 (refine (impl_walk_next.calls p v (s) _ HP.out OK.out.d0 OK.out.l0 OK.out.l1 OK.out.f0 OK.out.f1).mono ?_;intro e w2 hE;have HE:=Lib.hid hE;obtain rfl:=hE.ret;clear hE)
 go_wp2_with (fail)
 go_end0
 rw [hL.out]
 exact ⟨rfl,HE.out.obj,(Tch.refl1 _ _).trans HE.out.tch⟩
theorem plain_13_0 (p : Nat) (v : Value) (s : WS) (w : World) (hp : w.heap[p]? = some (objW s v)) (ok : WOk s) (hfld : s.field = 13) :
  Calls Tryd.prog 76 #[.pointer (some ⟨p,0,none⟩), .int .i64 0] w (EndW w p (plainW s 0) v):=by
 have HP:=Lib.hid hp
 have hc1:=cW1 hp
 have hf0:=fW hp 0
 have hc0:=cW0 hp
 have HF:=Lib.hid hfld
 have OK:=Lib.hid ok
 have hL : Hid (plainW s 0 = nextW { s with code:=4 }):=Lib.hid (by
  have e0 : sumW s 0 = s:=by unfold sumW;rw [if_neg (by omega)]
  unfold plainW
  rw [e0]
  unfold takeW
  simp only [hfld]
  rfl)
 rw [hfld] at hc1
 clear hp hfld ok
 go_enter Tryd.func76,Tryd.ntmps76
 go_wp2_with (fail)
 (refine (impl_walk_next.calls p v ({ s with code:=4 }) _ (setW0 HP.out _) OK.out.d0 OK.out.l0 OK.out.l1 OK.out.f0 OK.out.f1).mono ?_;intro e w2 hE;have HE:=Lib.hid hE;obtain rfl:=hE.ret;clear hE)
 go_wp2_with (fail)
 go_end0
 rw [hL.out]
 exact ⟨rfl,HE.out.obj,((Tch.refl1 _ _).one 0 _).trans HE.out.tch⟩
theorem plain_13_1_ok (p : Nat) (v : Value) (s : WS) (w : World) (hp : w.heap[p]? = some (objW s v)) (ok : WOk s) (hfld : s.field = 13) (hk : crcOkW s = true) :
  Calls Tryd.prog 76 #[.pointer (some ⟨p,0,none⟩), .int .i64 1] w (EndW w p (plainW s 1) v):=by
 have HP:=Lib.hid hp
 have hc1:=cW1 hp
 have HF:=Lib.hid hfld
 have OK:=Lib.hid ok
 have hL : Hid (plainW s 1 = nextW s):=Lib.hid (by
  have e0 : sumW s 1 = s:=by unfold sumW;rw [if_neg (by omega)]
  unfold plainW
  rw [e0]
  unfold takeW
  simp only [hfld]
  rw [hk]
  rfl)
 rw [hfld] at hc1
 have HKK:=Lib.hid hk
 clear hk
 clear hp hfld ok
 go_enter Tryd.func76,Tryd.ntmps76
 go_wp2_with (fail)
 (refine (crcOk_is p v s _ HP.out _ HKK.out).mono ?_;intro e w1 hE1;have HE1:=Lib.hid hE1;obtain rfl:=hE1.ret;clear hE1)
 go_wp2_with (fail)
 (refine (impl_walk_next.calls p v (s) _ HE1.out.obj OK.out.d0 OK.out.l0 OK.out.l1 OK.out.f0 OK.out.f1).mono ?_;intro e w2 hE;have HE:=Lib.hid hE;obtain rfl:=hE.ret;clear hE)
 go_wp2_with (fail)
 go_end0
 rw [hL.out]
 exact ⟨rfl,HE.out.obj,HE1.out.tch.trans HE.out.tch⟩
theorem plain_13_1_bad (p : Nat) (v : Value) (s : WS) (w : World) (hp : w.heap[p]? = some (objW s v)) (ok : WOk s) (hfld : s.field = 13) (hk : crcOkW s = false) :
  Calls Tryd.prog 76 #[.pointer (some ⟨p,0,none⟩), .int .i64 1] w (EndW w p (plainW s 1) v):=by
 have HP:=Lib.hid hp
 have hc1:=cW1 hp
 have hf0:=fW hp 0
 have hc0:=cW0 hp
 have HF:=Lib.hid hfld
 have OK:=Lib.hid ok
 have hL : Hid (plainW s 1 = nextW { s with code:=5 }):=Lib.hid (by
  have e0 : sumW s 1 = s:=by unfold sumW;rw [if_neg (by omega)]
  unfold plainW
  rw [e0]
  unfold takeW
  simp only [hfld]
  rw [hk]
  rfl)
 rw [hfld] at hc1
 have HKK:=Lib.hid hk
 clear hk
 clear hp hfld ok
 go_enter Tryd.func76,Tryd.ntmps76
 go_wp2_with (fail)
 (refine (crcOk_is p v s _ HP.out _ HKK.out).mono ?_;intro e w1 hE1;have HE1:=Lib.hid hE1;obtain rfl:=hE1.ret;clear hE1)
 have hc0b:=cW0 HE1.out.obj
 have hf0b:=fW HE1.out.obj 0
 go_wp2_with (fail)
 (refine (impl_walk_next.calls p v ({ s with code:=5 }) _ (setW0 HE1.out.obj _) OK.out.d0 OK.out.l0 OK.out.l1 OK.out.f0 OK.out.f1).mono ?_;intro e w2 hE;have HE:=Lib.hid hE;obtain rfl:=hE.ret;clear hE)
 go_wp2_with (fail)
 go_end0
 rw [hL.out]
 exact ⟨rfl,HE.out.obj,(HE1.out.tch.one 0 _).trans HE.out.tch⟩
theorem plain_14_0 (p : Nat) (v : Value) (s : WS) (w : World) (hp : w.heap[p]? = some (objW s v)) (ok : WOk s) (hfld : s.field = 14) :
  Calls Tryd.prog 76 #[.pointer (some ⟨p,0,none⟩), .int .i64 0] w (EndW w p (plainW s 0) v):=by
 have HP:=Lib.hid hp
 have hc1:=cW1 hp
 have HF:=Lib.hid hfld
 have OK:=Lib.hid ok
 have hL : Hid (plainW s 0 = nextW (endW s 0)):=Lib.hid (by
  have e0 : sumW s 0 = s:=by unfold sumW;rw [if_neg (by omega)]
  unfold plainW
  rw [e0]
  unfold takeW
  simp only [hfld]
  rfl)
 rw [hfld] at hc1
 clear hp hfld ok
 go_enter Tryd.func76,Tryd.ntmps76
 go_wp2_with (fail)
 (refine (impl_walk_end.calls p v s 0 (by omega) _ HP.out).mono ?_;intro e w1 hE1;have HE1:=Lib.hid hE1;obtain rfl:=hE1.ret;clear hE1)
 go_wp2_with (fail)
 (refine (impl_walk_next.calls p v (endW s 0) _ HE1.out.obj (by rw [endW_dlc];exact OK.out.d0) (by rw [endW_left];exact OK.out.l0) (by rw [endW_left];exact OK.out.l1) (by rw [endW_field];exact OK.out.f0) (by rw [endW_field];exact OK.out.f1)).mono ?_;intro e w2 hE;have HE:=Lib.hid hE;obtain rfl:=hE.ret;clear hE)
 go_wp2_with (fail)
 go_end0
 rw [hL.out]
 exact ⟨rfl,HE.out.obj,HE1.out.tch.trans HE.out.tch⟩
theorem plain_14_1 (p : Nat) (v : Value) (s : WS) (w : World) (hp : w.heap[p]? = some (objW s v)) (ok : WOk s) (hfld : s.field = 14) :
  Calls Tryd.prog 76 #[.pointer (some ⟨p,0,none⟩), .int .i64 1] w (EndW w p (plainW s 1) v):=by
 have HP:=Lib.hid hp
 have hc1:=cW1 hp
 have HF:=Lib.hid hfld
 have OK:=Lib.hid ok
 have hL : Hid (plainW s 1 = nextW (endW s 1)):=Lib.hid (by
  have e0 : sumW s 1 = s:=by unfold sumW;rw [if_neg (by omega)]
  unfold plainW
  rw [e0]
  unfold takeW
  simp only [hfld]
  rfl)
 rw [hfld] at hc1
 clear hp hfld ok
 go_enter Tryd.func76,Tryd.ntmps76
 go_wp2_with (fail)
 (refine (impl_walk_end.calls p v s 1 (by omega) _ HP.out).mono ?_;intro e w1 hE1;have HE1:=Lib.hid hE1;obtain rfl:=hE1.ret;clear hE1)
 go_wp2_with (fail)
 (refine (impl_walk_next.calls p v (endW s 1) _ HE1.out.obj (by rw [endW_dlc];exact OK.out.d0) (by rw [endW_left];exact OK.out.l0) (by rw [endW_left];exact OK.out.l1) (by rw [endW_field];exact OK.out.f0) (by rw [endW_field];exact OK.out.f1)).mono ?_;intro e w2 hE;have HE:=Lib.hid hE;obtain rfl:=hE.ret;clear hE)
 go_wp2_with (fail)
 go_end0
 rw [hL.out]
 exact ⟨rfl,HE.out.obj,HE1.out.tch.trans HE.out.tch⟩
theorem plain_lit (p : Nat) (v : Value) (s : WS) (b : Int) (hb : b = 0 ∨ b = 1) (w : World) (hp : w.heap[p]? = some (objW s v)) (ok : WOk s) (h9 : s.field ≠ 9) :
  Calls Tryd.prog 76 #[.pointer (some ⟨p,0,none⟩), .int .i64 b] w (EndW w p (plainW s b) v):=by
 have f0:=ok.f0
 have f1:=ok.f1
 by_cases c1 : s.field = 1
 ·rcases hb with rfl | rfl
  ·exact plain_1_0 p v s w hp ok c1
  ·exact plain_1_1 p v s w hp ok c1
 by_cases c2 : s.field = 2
 ·rcases hb with rfl | rfl
  ·exact plain_2_0 p v s w hp ok c2
  ·exact plain_2_1 p v s w hp ok c2
 by_cases c3 : s.field = 3
 ·rcases hb with rfl | rfl
  ·exact plain_3_0 p v s w hp ok c3
  ·exact plain_3_1 p v s w hp ok c3
 by_cases c4 : s.field = 4
 ·rcases hb with rfl | rfl
  ·exact plain_4_0 p v s w hp ok c4
  ·exact plain_4_1 p v s w hp ok c4
 by_cases c5 : s.field = 5
 ·rcases hb with rfl | rfl
  ·exact plain_5_0 p v s w hp ok c5
  ·exact plain_5_1 p v s w hp ok c5
 by_cases c6 : s.field = 6
 ·rcases hb with rfl | rfl
  ·exact plain_6_0 p v s w hp ok c6
  ·exact plain_6_1 p v s w hp ok c6
 by_cases c7 : s.field = 7
 ·rcases hb with rfl | rfl
  ·exact plain_7_0 p v s w hp ok c7
  ·exact plain_7_1 p v s w hp ok c7
 by_cases c8 : s.field = 8
 ·rcases hb with rfl | rfl
  ·exact plain_8_0 p v s w hp ok c8
  ·exact plain_8_1 p v s w hp ok c8
 by_cases c10 : s.field = 10
 ·rcases hb with rfl | rfl
  ·exact plain_10_0 p v s w hp ok c10
  ·exact plain_10_1 p v s w hp ok c10
 by_cases c11 : s.field = 11
 ·rcases hb with rfl | rfl
  ·exact plain_11_0 p v s w hp ok c11
  ·exact plain_11_1 p v s w hp ok c11
 by_cases c12 : s.field = 12
 ·rcases hb with rfl | rfl
  ·exact plain_12_0 p v s w hp ok c12
  ·exact plain_12_1 p v s w hp ok c12
 by_cases c13 : s.field = 13
 ·rcases hb with rfl | rfl
  ·exact plain_13_0 p v s w hp ok c13
  ·by_cases hk : crcOkW s = true
   ·exact plain_13_1_ok p v s w hp ok c13 hk
   ·exact plain_13_1_bad p v s w hp ok c13 (Bool.eq_false_iff.mpr hk)
 by_cases c14 : s.field = 14
 ·rcases hb with rfl | rfl
  ·exact plain_14_0 p v s w hp ok c14
  ·exact plain_14_1 p v s w hp ok c14
 omega
theorem impl_walk_plain.calls (p : Nat) (v : Value) (s : WS) (b : Int) (hb : b = 0 ∨ b = 1) (S : Nat → Prop) (w0 w : World) (hi : WIn w0 w p S s v) (hpl : w0.heap.size ≤ p) (hS : ¬ S p) (ok : WOk s) :
  Calls Tryd.prog 76 #[.pointer (some ⟨p,0,none⟩), .int .i64 b] w (EndP w0 w p S (plainW s b)):=by
 by_cases h9 : s.field = 9
 ·by_cases h8 : s.left % 8 = 0
  ·rcases hb with rfl | rfl
   ·exact plain_9_0_app p v s S w0 w hi.obj hi.row hi.below hpl hS hi.fresh ok h9 h8
   ·exact plain_9_1_app p v s S w0 w hi.obj hi.row hi.below hpl hS hi.fresh ok h9 h8
  ·rcases hb with rfl | rfl
   ·exact plain_9_0_in p v s S w0 w hi.obj hi.row hi.below hpl hS hi.fresh ok h9 h8
   ·exact plain_9_1_in p v s S w0 w hi.obj hi.row hi.below hpl hS hi.fresh ok h9 h8
 ·refine (plain_lit p v s b hb w hi.obj ok h9).mono ?_
  intro e w' h
  exact h.toP (by rw [plainW_data s b h9];exact hi.row) hS
theorem due_is (p : Nat) (v : Value) (s : WS) (w : World) (hp : w.heap[p]? = some (objW s v)) (k : Bool) (hk : dueW s = k) :
  Calls Tryd.prog 43 #[.pointer (some ⟨p,0,none⟩)] w fun e w' => e = .returned (.bool k) ∧ w = w':=by
 subst hk
 exact impl_walk_due.calls p v s w hp
theorem hear_48_stop (p : Nat) (v : Value) (s : WS) (S : Nat → Prop) (w0 w : World) (hi : WIn w0 w p S s v) (hpl : w0.heap.size ≤ p) (hS : ¬ S p) (ok : WOk s) (hd : dueW s = true) (hl : s.level = 48) :
  Calls Tryd.prog 63 #[.pointer (some ⟨p,0,none⟩), .int .i32 48] w (EndP w0 w p S (hearW s 48)):=by
 have HI:=Lib.hid hi
 have OK:=Lib.hid ok
 have hp:=hi.obj
 have hc0:=cW0 hp
 have hc1:=cW1 hp
 have hc3:=cW3 hp
 have hc4:=cW4 hp
 have hf0:=fW hp 0
 have hf3:=fW hp 3
 have hf4:=fW hp 4
 have r0:=ok.r0
 have r1:=ok.r1
 have HI1:=Lib.hid (hi.put hS hpl (setW0 hp 0) rfl)
 have HD : Hid (dueW { s with code:=0 } = true):=Lib.hid hd
 have HL : Hid (hearW s 48 = { s with code:=3,run:=1,level:=48 }):=Lib.hid (by unfold hearW;simp only [];rw [if_pos (show dueW { s with code:=0 } = true from hd),if_pos hl.symm])
 rw [hl] at hc4
 clear hi ok hp hd hl
 go_enter Tryd.func63,Tryd.ntmps63
 go_wp2_with (fail)
 (refine (due_is p v _ _ HI1.out.obj _ HD.out).mono ?_;rintro e w' ⟨rfl,rfl⟩)
 go_wp2_with (fail)
 go_end0
 rw [HL.out]
 have HI2:=(HI1.out.put hS hpl (setW0 HI1.out.obj 3) rfl)
 have HI3:=(HI2.put hS hpl (setW3 HI2.obj 1) rfl)
 have HI4:=(HI3.put hS hpl (setW4 HI3.obj 48) rfl)
 exact ⟨rfl,⟨v,HI4.obj,HI4.row⟩,(((((Tch.refl1 _ _).one 0 _).one 0 _).one 3 _).one 4 _).mono fun k hk => .inl hk⟩
theorem hear_48_skip (p : Nat) (v : Value) (s : WS) (S : Nat → Prop) (w0 w : World) (hi : WIn w0 w p S s v) (hpl : w0.heap.size ≤ p) (hS : ¬ S p) (ok : WOk s) (hd : dueW s = true) (hl : ¬ s.level = 48) :
  Calls Tryd.prog 63 #[.pointer (some ⟨p,0,none⟩), .int .i32 48] w (EndP w0 w p S (hearW s 48)):=by
 have HI:=Lib.hid hi
 have OK:=Lib.hid ok
 have hp:=hi.obj
 have hc0:=cW0 hp
 have hc1:=cW1 hp
 have hc3:=cW3 hp
 have hc4:=cW4 hp
 have hf0:=fW hp 0
 have hf3:=fW hp 3
 have hf4:=fW hp 4
 have r0:=ok.r0
 have r1:=ok.r1
 have HI1:=Lib.hid (hi.put hS hpl (setW0 hp 0) rfl)
 have HD : Hid (dueW { s with code:=0 } = true):=Lib.hid hd
 have HL : Hid (hearW s 48 = { s with code:=0,run:=1,level:=48 }):=Lib.hid (by unfold hearW;simp only [];rw [if_pos (show dueW { s with code:=0 } = true from hd),if_neg (fun h => hl h.symm)])
 have bl : (s.level == 48) = false:=by simp [hl]
 have bl2 : ((48 : Int) == s.level) = false:=by simp;omega
 clear hi ok hp hd hl
 go_enter Tryd.func63,Tryd.ntmps63
 go_wp2_with (fail)
 (refine (due_is p v _ _ HI1.out.obj _ HD.out).mono ?_;rintro e w' ⟨rfl,rfl⟩)
 go_wp2_with (fail)
 go_end0
 rw [HL.out]
 have HI3:=(HI1.out.put hS hpl (setW3 HI1.out.obj 1) rfl)
 have HI4:=(HI3.put hS hpl (setW4 HI3.obj 48) rfl)
 exact ⟨rfl,⟨v,HI4.obj,HI4.row⟩,((((Tch.refl1 _ _).one 0 _).one 3 _).one 4 _).mono fun k hk => .inl hk⟩
theorem hear_48_more (p : Nat) (v : Value) (s : WS) (S : Nat → Prop) (w0 w : World) (hi : WIn w0 w p S s v) (hpl : w0.heap.size ≤ p) (hS : ¬ S p) (ok : WOk s) (hd : dueW s = false) (hf : s.field ≤ 10) (hr : 0 < s.run) (hl : s.level = 48) :
  Calls Tryd.prog 63 #[.pointer (some ⟨p,0,none⟩), .int .i32 48] w (EndP w0 w p S (hearW s 48)):=by
 have HI:=Lib.hid hi
 have OK:=Lib.hid ok
 have hp:=hi.obj
 have hc0:=cW0 hp
 have hc1:=cW1 hp
 have hc3:=cW3 hp
 have hc4:=cW4 hp
 have hf0:=fW hp 0
 have hf3:=fW hp 3
 have hf4:=fW hp 4
 have r0:=ok.r0
 have r1:=ok.r1
 have HI1:=Lib.hid (hi.put hS hpl (setW0 hp 0) rfl)
 have HD : Hid (dueW { s with code:=0 } = false):=Lib.hid hd
 have HL : Hid (hearW s 48 = plainW { s with code:=0,run:=s.run + 1 } 0):=Lib.hid (by unfold hearW;simp only [];rw [if_neg (by rw [show dueW { s with code:=0 } = false from hd];decide),if_pos hf,if_pos ⟨hr,hl⟩];rfl)
 have HR : Hid (s.field ≤ 10 → s.run ≤ 4):=Lib.hid (fun hf2 => run_le4 hd hf2 r1)
 rw [hl] at hc4
 have bf : decide (s.field ≤ 10) = true:=decide_eq_true hf
 have br : decide (0 < s.run) = true:=decide_eq_true hr
 have HFF:=Lib.hid hf
 clear hi ok hp hd hl hf hr
 go_enter Tryd.func63,Tryd.ntmps63
 go_wp2_with (fail)
 (refine (due_is p v _ _ HI1.out.obj _ HD.out).mono ?_;rintro e w' ⟨rfl,rfl⟩)
 go_wp2_with (fail)
 have HI3:=Lib.hid (HI1.out.put hS hpl (setW3 HI1.out.obj (s.run + 1)) rfl)
 (refine (impl_walk_plain.calls p v _ 0 (by omega) S w0 _ HI3.out hpl hS ⟨OK.out.f0,OK.out.f1,OK.out.l0,OK.out.l1,by simp only [];omega,by have:=HR.out HFF.out;simp only [];omega,OK.out.d0,OK.out.d1,OK.out.g0,OK.out.g1,OK.out.i0,OK.out.i1,OK.out.ne,OK.out.by_,OK.out.dl⟩).mono ?_;intro e w2 hE;have HE:=Lib.hid hE;obtain rfl:=hE.ret;clear hE)
 go_wp2_with (fail)
 go_end0
 rw [HL.out]
 exact ⟨rfl,HE.out.at_,((((Tch.refl1 _ _).one 0 _).one 3 _).mono fun k hk => .inl hk).trans HE.out.tch⟩
theorem hear_48_first (p : Nat) (v : Value) (s : WS) (S : Nat → Prop) (w0 w : World) (hi : WIn w0 w p S s v) (hpl : w0.heap.size ≤ p) (hS : ¬ S p) (ok : WOk s) (hd : dueW s = false) (hf : s.field ≤ 10) (hr : ¬ 0 < s.run) :
  Calls Tryd.prog 63 #[.pointer (some ⟨p,0,none⟩), .int .i32 48] w (EndP w0 w p S (hearW s 48)):=by
 have HI:=Lib.hid hi
 have OK:=Lib.hid ok
 have hp:=hi.obj
 have hc0:=cW0 hp
 have hc1:=cW1 hp
 have hc3:=cW3 hp
 have hc4:=cW4 hp
 have hf0:=fW hp 0
 have hf3:=fW hp 3
 have hf4:=fW hp 4
 have r0:=ok.r0
 have r1:=ok.r1
 have HI1:=Lib.hid (hi.put hS hpl (setW0 hp 0) rfl)
 have HD : Hid (dueW { s with code:=0 } = false):=Lib.hid hd
 have HL : Hid (hearW s 48 = plainW { s with code:=0,run:=1,level:=48 } 0):=Lib.hid (by unfold hearW;simp only [];rw [if_neg (by rw [show dueW { s with code:=0 } = false from hd];decide),if_pos hf,if_neg (fun h => hr h.1)];rfl)
 have HR : Hid (s.field ≤ 10 → s.run ≤ 4):=Lib.hid (fun hf2 => run_le4 hd hf2 r1)
 have bf : decide (s.field ≤ 10) = true:=decide_eq_true hf
 have br : decide (0 < s.run) = false:=decide_eq_false hr
 have HFF:=Lib.hid hf
 clear hi ok hp hd hf hr
 go_enter Tryd.func63,Tryd.ntmps63
 go_wp2_with (fail)
 (refine (due_is p v _ _ HI1.out.obj _ HD.out).mono ?_;rintro e w' ⟨rfl,rfl⟩)
 go_wp2_with (fail)
 have HI3:=(HI1.out.put hS hpl (setW3 HI1.out.obj 1) rfl)
 have HI4:=Lib.hid (HI3.put hS hpl (setW4 HI3.obj 48) rfl)
 clear HI3
 (refine (impl_walk_plain.calls p v _ 0 (by omega) S w0 _ HI4.out hpl hS ⟨OK.out.f0,OK.out.f1,OK.out.l0,OK.out.l1,by simp only [];omega,by simp only [];omega,OK.out.d0,OK.out.d1,OK.out.g0,OK.out.g1,OK.out.i0,OK.out.i1,OK.out.ne,OK.out.by_,OK.out.dl⟩).mono ?_;intro e w2 hE;have HE:=Lib.hid hE;obtain rfl:=hE.ret;clear hE)
 go_wp2_with (fail)
 go_end0
 rw [HL.out]
 exact ⟨rfl,HE.out.at_,(((((Tch.refl1 _ _).one 0 _).one 3 _).one 4 _).mono fun k hk => .inl hk).trans HE.out.tch⟩
theorem hear_48_turn (p : Nat) (v : Value) (s : WS) (S : Nat → Prop) (w0 w : World) (hi : WIn w0 w p S s v) (hpl : w0.heap.size ≤ p) (hS : ¬ S p) (ok : WOk s) (hd : dueW s = false) (hf : s.field ≤ 10) (hr : 0 < s.run) (hl : ¬ s.level = 48) :
  Calls Tryd.prog 63 #[.pointer (some ⟨p,0,none⟩), .int .i32 48] w (EndP w0 w p S (hearW s 48)):=by
 have HI:=Lib.hid hi
 have OK:=Lib.hid ok
 have hp:=hi.obj
 have hc0:=cW0 hp
 have hc1:=cW1 hp
 have hc3:=cW3 hp
 have hc4:=cW4 hp
 have hf0:=fW hp 0
 have hf3:=fW hp 3
 have hf4:=fW hp 4
 have r0:=ok.r0
 have r1:=ok.r1
 have HI1:=Lib.hid (hi.put hS hpl (setW0 hp 0) rfl)
 have HD : Hid (dueW { s with code:=0 } = false):=Lib.hid hd
 have HL : Hid (hearW s 48 = plainW { s with code:=0,run:=1,level:=48 } 0):=Lib.hid (by unfold hearW;simp only [];rw [if_neg (by rw [show dueW { s with code:=0 } = false from hd];decide),if_pos hf,if_neg (fun h => hl h.2)];rfl)
 have HR : Hid (s.field ≤ 10 → s.run ≤ 4):=Lib.hid (fun hf2 => run_le4 hd hf2 r1)
 have bl : (s.level == 48) = false:=by simp [hl]
 have bl2 : ((48 : Int) == s.level) = false:=by simp;omega
 have bf : decide (s.field ≤ 10) = true:=decide_eq_true hf
 have br : decide (0 < s.run) = true:=decide_eq_true hr
 have HFF:=Lib.hid hf
 clear hi ok hp hd hl hf hr
 go_enter Tryd.func63,Tryd.ntmps63
 go_wp2_with (fail)
 (refine (due_is p v _ _ HI1.out.obj _ HD.out).mono ?_;rintro e w' ⟨rfl,rfl⟩)
 go_wp2_with (fail)
 have HI3:=(HI1.out.put hS hpl (setW3 HI1.out.obj 1) rfl)
 have HI4:=Lib.hid (HI3.put hS hpl (setW4 HI3.obj 48) rfl)
 clear HI3
 (refine (impl_walk_plain.calls p v _ 0 (by omega) S w0 _ HI4.out hpl hS ⟨OK.out.f0,OK.out.f1,OK.out.l0,OK.out.l1,by simp only [];omega,by simp only [];omega,OK.out.d0,OK.out.d1,OK.out.g0,OK.out.g1,OK.out.i0,OK.out.i1,OK.out.ne,OK.out.by_,OK.out.dl⟩).mono ?_;intro e w2 hE;have HE:=Lib.hid hE;obtain rfl:=hE.ret;clear hE)
 go_wp2_with (fail)
 go_end0
 rw [HL.out]
 exact ⟨rfl,HE.out.at_,(((((Tch.refl1 _ _).one 0 _).one 3 _).one 4 _).mono fun k hk => .inl hk).trans HE.out.tch⟩
theorem hear_48_late (p : Nat) (v : Value) (s : WS) (S : Nat → Prop) (w0 w : World) (hi : WIn w0 w p S s v) (hpl : w0.heap.size ≤ p) (hS : ¬ S p) (ok : WOk s) (hd : dueW s = false) (hf : ¬ s.field ≤ 10) :
  Calls Tryd.prog 63 #[.pointer (some ⟨p,0,none⟩), .int .i32 48] w (EndP w0 w p S (hearW s 48)):=by
 have HI:=Lib.hid hi
 have OK:=Lib.hid ok
 have hp:=hi.obj
 have hc0:=cW0 hp
 have hc1:=cW1 hp
 have hc3:=cW3 hp
 have hc4:=cW4 hp
 have hf0:=fW hp 0
 have hf3:=fW hp 3
 have hf4:=fW hp 4
 have r0:=ok.r0
 have r1:=ok.r1
 have HI1:=Lib.hid (hi.put hS hpl (setW0 hp 0) rfl)
 have HD : Hid (dueW { s with code:=0 } = false):=Lib.hid hd
 have HL : Hid (hearW s 48 = plainW { s with code:=0,run:=0 } 0):=Lib.hid (by unfold hearW;simp only [];rw [if_neg (by rw [show dueW { s with code:=0 } = false from hd];decide),if_neg hf];rfl)
 have HR : Hid (s.field ≤ 10 → s.run ≤ 4):=Lib.hid (fun hf2 => run_le4 hd hf2 r1)
 have bf : decide (s.field ≤ 10) = false:=decide_eq_false hf
 have HFF:=Lib.hid hf
 clear hi ok hp hd hf
 go_enter Tryd.func63,Tryd.ntmps63
 go_wp2_with (fail)
 (refine (due_is p v _ _ HI1.out.obj _ HD.out).mono ?_;rintro e w' ⟨rfl,rfl⟩)
 go_wp2_with (fail)
 have HI3:=Lib.hid (HI1.out.put hS hpl (setW3 HI1.out.obj 0) rfl)
 (refine (impl_walk_plain.calls p v _ 0 (by omega) S w0 _ HI3.out hpl hS ⟨OK.out.f0,OK.out.f1,OK.out.l0,OK.out.l1,by simp only [];omega,by simp only [];omega,OK.out.d0,OK.out.d1,OK.out.g0,OK.out.g1,OK.out.i0,OK.out.i1,OK.out.ne,OK.out.by_,OK.out.dl⟩).mono ?_;intro e w2 hE;have HE:=Lib.hid hE;obtain rfl:=hE.ret;clear hE)
 go_wp2_with (fail)
 go_end0
 rw [HL.out]
 exact ⟨rfl,HE.out.at_,((((Tch.refl1 _ _).one 0 _).one 3 _).mono fun k hk => .inl hk).trans HE.out.tch⟩
theorem hear_49_stop (p : Nat) (v : Value) (s : WS) (S : Nat → Prop) (w0 w : World) (hi : WIn w0 w p S s v) (hpl : w0.heap.size ≤ p) (hS : ¬ S p) (ok : WOk s) (hd : dueW s = true) (hl : s.level = 49) :
  Calls Tryd.prog 63 #[.pointer (some ⟨p,0,none⟩), .int .i32 49] w (EndP w0 w p S (hearW s 49)):=by
 have HI:=Lib.hid hi
 have OK:=Lib.hid ok
 have hp:=hi.obj
 have hc0:=cW0 hp
 have hc1:=cW1 hp
 have hc3:=cW3 hp
 have hc4:=cW4 hp
 have hf0:=fW hp 0
 have hf3:=fW hp 3
 have hf4:=fW hp 4
 have r0:=ok.r0
 have r1:=ok.r1
 have HI1:=Lib.hid (hi.put hS hpl (setW0 hp 0) rfl)
 have HD : Hid (dueW { s with code:=0 } = true):=Lib.hid hd
 have HL : Hid (hearW s 49 = { s with code:=3,run:=1,level:=49 }):=Lib.hid (by unfold hearW;simp only [];rw [if_pos (show dueW { s with code:=0 } = true from hd),if_pos hl.symm])
 rw [hl] at hc4
 clear hi ok hp hd hl
 go_enter Tryd.func63,Tryd.ntmps63
 go_wp2_with (fail)
 (refine (due_is p v _ _ HI1.out.obj _ HD.out).mono ?_;rintro e w' ⟨rfl,rfl⟩)
 go_wp2_with (fail)
 go_end0
 rw [HL.out]
 have HI2:=(HI1.out.put hS hpl (setW0 HI1.out.obj 3) rfl)
 have HI3:=(HI2.put hS hpl (setW3 HI2.obj 1) rfl)
 have HI4:=(HI3.put hS hpl (setW4 HI3.obj 49) rfl)
 exact ⟨rfl,⟨v,HI4.obj,HI4.row⟩,(((((Tch.refl1 _ _).one 0 _).one 0 _).one 3 _).one 4 _).mono fun k hk => .inl hk⟩
theorem hear_49_skip (p : Nat) (v : Value) (s : WS) (S : Nat → Prop) (w0 w : World) (hi : WIn w0 w p S s v) (hpl : w0.heap.size ≤ p) (hS : ¬ S p) (ok : WOk s) (hd : dueW s = true) (hl : ¬ s.level = 49) :
  Calls Tryd.prog 63 #[.pointer (some ⟨p,0,none⟩), .int .i32 49] w (EndP w0 w p S (hearW s 49)):=by
 have HI:=Lib.hid hi
 have OK:=Lib.hid ok
 have hp:=hi.obj
 have hc0:=cW0 hp
 have hc1:=cW1 hp
 have hc3:=cW3 hp
 have hc4:=cW4 hp
 have hf0:=fW hp 0
 have hf3:=fW hp 3
 have hf4:=fW hp 4
 have r0:=ok.r0
 have r1:=ok.r1
 have HI1:=Lib.hid (hi.put hS hpl (setW0 hp 0) rfl)
 have HD : Hid (dueW { s with code:=0 } = true):=Lib.hid hd
 have HL : Hid (hearW s 49 = { s with code:=0,run:=1,level:=49 }):=Lib.hid (by unfold hearW;simp only [];rw [if_pos (show dueW { s with code:=0 } = true from hd),if_neg (fun h => hl h.symm)])
 have bl : (s.level == 49) = false:=by simp [hl]
 have bl2 : ((49 : Int) == s.level) = false:=by simp;omega
 clear hi ok hp hd hl
 go_enter Tryd.func63,Tryd.ntmps63
 go_wp2_with (fail)
 (refine (due_is p v _ _ HI1.out.obj _ HD.out).mono ?_;rintro e w' ⟨rfl,rfl⟩)
 go_wp2_with (fail)
 go_end0
 rw [HL.out]
 have HI3:=(HI1.out.put hS hpl (setW3 HI1.out.obj 1) rfl)
 have HI4:=(HI3.put hS hpl (setW4 HI3.obj 49) rfl)
 exact ⟨rfl,⟨v,HI4.obj,HI4.row⟩,((((Tch.refl1 _ _).one 0 _).one 3 _).one 4 _).mono fun k hk => .inl hk⟩
theorem hear_49_more (p : Nat) (v : Value) (s : WS) (S : Nat → Prop) (w0 w : World) (hi : WIn w0 w p S s v) (hpl : w0.heap.size ≤ p) (hS : ¬ S p) (ok : WOk s) (hd : dueW s = false) (hf : s.field ≤ 10) (hr : 0 < s.run) (hl : s.level = 49) :
  Calls Tryd.prog 63 #[.pointer (some ⟨p,0,none⟩), .int .i32 49] w (EndP w0 w p S (hearW s 49)):=by
 have HI:=Lib.hid hi
 have OK:=Lib.hid ok
 have hp:=hi.obj
 have hc0:=cW0 hp
 have hc1:=cW1 hp
 have hc3:=cW3 hp
 have hc4:=cW4 hp
 have hf0:=fW hp 0
 have hf3:=fW hp 3
 have hf4:=fW hp 4
 have r0:=ok.r0
 have r1:=ok.r1
 have HI1:=Lib.hid (hi.put hS hpl (setW0 hp 0) rfl)
 have HD : Hid (dueW { s with code:=0 } = false):=Lib.hid hd
 have HL : Hid (hearW s 49 = plainW { s with code:=0,run:=s.run + 1 } 1):=Lib.hid (by unfold hearW;simp only [];rw [if_neg (by rw [show dueW { s with code:=0 } = false from hd];decide),if_pos hf,if_pos ⟨hr,hl⟩];rfl)
 have HR : Hid (s.field ≤ 10 → s.run ≤ 4):=Lib.hid (fun hf2 => run_le4 hd hf2 r1)
 rw [hl] at hc4
 have bf : decide (s.field ≤ 10) = true:=decide_eq_true hf
 have br : decide (0 < s.run) = true:=decide_eq_true hr
 have HFF:=Lib.hid hf
 clear hi ok hp hd hl hf hr
 go_enter Tryd.func63,Tryd.ntmps63
 go_wp2_with (fail)
 (refine (due_is p v _ _ HI1.out.obj _ HD.out).mono ?_;rintro e w' ⟨rfl,rfl⟩)
 go_wp2_with (fail)
 have HI3:=Lib.hid (HI1.out.put hS hpl (setW3 HI1.out.obj (s.run + 1)) rfl)
 (refine (impl_walk_plain.calls p v _ 1 (by omega) S w0 _ HI3.out hpl hS ⟨OK.out.f0,OK.out.f1,OK.out.l0,OK.out.l1,by simp only [];omega,by have:=HR.out HFF.out;simp only [];omega,OK.out.d0,OK.out.d1,OK.out.g0,OK.out.g1,OK.out.i0,OK.out.i1,OK.out.ne,OK.out.by_,OK.out.dl⟩).mono ?_;intro e w2 hE;have HE:=Lib.hid hE;obtain rfl:=hE.ret;clear hE)
 go_wp2_with (fail)
 go_end0
 rw [HL.out]
 exact ⟨rfl,HE.out.at_,((((Tch.refl1 _ _).one 0 _).one 3 _).mono fun k hk => .inl hk).trans HE.out.tch⟩
theorem hear_49_first (p : Nat) (v : Value) (s : WS) (S : Nat → Prop) (w0 w : World) (hi : WIn w0 w p S s v) (hpl : w0.heap.size ≤ p) (hS : ¬ S p) (ok : WOk s) (hd : dueW s = false) (hf : s.field ≤ 10) (hr : ¬ 0 < s.run) :
  Calls Tryd.prog 63 #[.pointer (some ⟨p,0,none⟩), .int .i32 49] w (EndP w0 w p S (hearW s 49)):=by
 have HI:=Lib.hid hi
 have OK:=Lib.hid ok
 have hp:=hi.obj
 have hc0:=cW0 hp
 have hc1:=cW1 hp
 have hc3:=cW3 hp
 have hc4:=cW4 hp
 have hf0:=fW hp 0
 have hf3:=fW hp 3
 have hf4:=fW hp 4
 have r0:=ok.r0
 have r1:=ok.r1
 have HI1:=Lib.hid (hi.put hS hpl (setW0 hp 0) rfl)
 have HD : Hid (dueW { s with code:=0 } = false):=Lib.hid hd
 have HL : Hid (hearW s 49 = plainW { s with code:=0,run:=1,level:=49 } 1):=Lib.hid (by unfold hearW;simp only [];rw [if_neg (by rw [show dueW { s with code:=0 } = false from hd];decide),if_pos hf,if_neg (fun h => hr h.1)];rfl)
 have HR : Hid (s.field ≤ 10 → s.run ≤ 4):=Lib.hid (fun hf2 => run_le4 hd hf2 r1)
 have bf : decide (s.field ≤ 10) = true:=decide_eq_true hf
 have br : decide (0 < s.run) = false:=decide_eq_false hr
 have HFF:=Lib.hid hf
 clear hi ok hp hd hf hr
 go_enter Tryd.func63,Tryd.ntmps63
 go_wp2_with (fail)
 (refine (due_is p v _ _ HI1.out.obj _ HD.out).mono ?_;rintro e w' ⟨rfl,rfl⟩)
 go_wp2_with (fail)
 have HI3:=(HI1.out.put hS hpl (setW3 HI1.out.obj 1) rfl)
 have HI4:=Lib.hid (HI3.put hS hpl (setW4 HI3.obj 49) rfl)
 clear HI3
 (refine (impl_walk_plain.calls p v _ 1 (by omega) S w0 _ HI4.out hpl hS ⟨OK.out.f0,OK.out.f1,OK.out.l0,OK.out.l1,by simp only [];omega,by simp only [];omega,OK.out.d0,OK.out.d1,OK.out.g0,OK.out.g1,OK.out.i0,OK.out.i1,OK.out.ne,OK.out.by_,OK.out.dl⟩).mono ?_;intro e w2 hE;have HE:=Lib.hid hE;obtain rfl:=hE.ret;clear hE)
 go_wp2_with (fail)
 go_end0
 rw [HL.out]
 exact ⟨rfl,HE.out.at_,(((((Tch.refl1 _ _).one 0 _).one 3 _).one 4 _).mono fun k hk => .inl hk).trans HE.out.tch⟩
theorem hear_49_turn (p : Nat) (v : Value) (s : WS) (S : Nat → Prop) (w0 w : World) (hi : WIn w0 w p S s v) (hpl : w0.heap.size ≤ p) (hS : ¬ S p) (ok : WOk s) (hd : dueW s = false) (hf : s.field ≤ 10) (hr : 0 < s.run) (hl : ¬ s.level = 49) :
  Calls Tryd.prog 63 #[.pointer (some ⟨p,0,none⟩), .int .i32 49] w (EndP w0 w p S (hearW s 49)):=by
 have HI:=Lib.hid hi
 have OK:=Lib.hid ok
 have hp:=hi.obj
 have hc0:=cW0 hp
 have hc1:=cW1 hp
 have hc3:=cW3 hp
 have hc4:=cW4 hp
 have hf0:=fW hp 0
 have hf3:=fW hp 3
 have hf4:=fW hp 4
 have r0:=ok.r0
 have r1:=ok.r1
 have HI1:=Lib.hid (hi.put hS hpl (setW0 hp 0) rfl)
 have HD : Hid (dueW { s with code:=0 } = false):=Lib.hid hd
 have HL : Hid (hearW s 49 = plainW { s with code:=0,run:=1,level:=49 } 1):=Lib.hid (by unfold hearW;simp only [];rw [if_neg (by rw [show dueW { s with code:=0 } = false from hd];decide),if_pos hf,if_neg (fun h => hl h.2)];rfl)
 have HR : Hid (s.field ≤ 10 → s.run ≤ 4):=Lib.hid (fun hf2 => run_le4 hd hf2 r1)
 have bl : (s.level == 49) = false:=by simp [hl]
 have bl2 : ((49 : Int) == s.level) = false:=by simp;omega
 have bf : decide (s.field ≤ 10) = true:=decide_eq_true hf
 have br : decide (0 < s.run) = true:=decide_eq_true hr
 have HFF:=Lib.hid hf
 clear hi ok hp hd hl hf hr
 go_enter Tryd.func63,Tryd.ntmps63
 go_wp2_with (fail)
 (refine (due_is p v _ _ HI1.out.obj _ HD.out).mono ?_;rintro e w' ⟨rfl,rfl⟩)
 go_wp2_with (fail)
 have HI3:=(HI1.out.put hS hpl (setW3 HI1.out.obj 1) rfl)
 have HI4:=Lib.hid (HI3.put hS hpl (setW4 HI3.obj 49) rfl)
 clear HI3
 (refine (impl_walk_plain.calls p v _ 1 (by omega) S w0 _ HI4.out hpl hS ⟨OK.out.f0,OK.out.f1,OK.out.l0,OK.out.l1,by simp only [];omega,by simp only [];omega,OK.out.d0,OK.out.d1,OK.out.g0,OK.out.g1,OK.out.i0,OK.out.i1,OK.out.ne,OK.out.by_,OK.out.dl⟩).mono ?_;intro e w2 hE;have HE:=Lib.hid hE;obtain rfl:=hE.ret;clear hE)
 go_wp2_with (fail)
 go_end0
 rw [HL.out]
 exact ⟨rfl,HE.out.at_,(((((Tch.refl1 _ _).one 0 _).one 3 _).one 4 _).mono fun k hk => .inl hk).trans HE.out.tch⟩
theorem hear_49_late (p : Nat) (v : Value) (s : WS) (S : Nat → Prop) (w0 w : World) (hi : WIn w0 w p S s v) (hpl : w0.heap.size ≤ p) (hS : ¬ S p) (ok : WOk s) (hd : dueW s = false) (hf : ¬ s.field ≤ 10) :
  Calls Tryd.prog 63 #[.pointer (some ⟨p,0,none⟩), .int .i32 49] w (EndP w0 w p S (hearW s 49)):=by
 have HI:=Lib.hid hi
 have OK:=Lib.hid ok
 have hp:=hi.obj
 have hc0:=cW0 hp
 have hc1:=cW1 hp
 have hc3:=cW3 hp
 have hc4:=cW4 hp
 have hf0:=fW hp 0
 have hf3:=fW hp 3
 have hf4:=fW hp 4
 have r0:=ok.r0
 have r1:=ok.r1
 have HI1:=Lib.hid (hi.put hS hpl (setW0 hp 0) rfl)
 have HD : Hid (dueW { s with code:=0 } = false):=Lib.hid hd
 have HL : Hid (hearW s 49 = plainW { s with code:=0,run:=0 } 1):=Lib.hid (by unfold hearW;simp only [];rw [if_neg (by rw [show dueW { s with code:=0 } = false from hd];decide),if_neg hf];rfl)
 have HR : Hid (s.field ≤ 10 → s.run ≤ 4):=Lib.hid (fun hf2 => run_le4 hd hf2 r1)
 have bf : decide (s.field ≤ 10) = false:=decide_eq_false hf
 have HFF:=Lib.hid hf
 clear hi ok hp hd hf
 go_enter Tryd.func63,Tryd.ntmps63
 go_wp2_with (fail)
 (refine (due_is p v _ _ HI1.out.obj _ HD.out).mono ?_;rintro e w' ⟨rfl,rfl⟩)
 go_wp2_with (fail)
 have HI3:=Lib.hid (HI1.out.put hS hpl (setW3 HI1.out.obj 0) rfl)
 (refine (impl_walk_plain.calls p v _ 1 (by omega) S w0 _ HI3.out hpl hS ⟨OK.out.f0,OK.out.f1,OK.out.l0,OK.out.l1,by simp only [];omega,by simp only [];omega,OK.out.d0,OK.out.d1,OK.out.g0,OK.out.g1,OK.out.i0,OK.out.i1,OK.out.ne,OK.out.by_,OK.out.dl⟩).mono ?_;intro e w2 hE;have HE:=Lib.hid hE;obtain rfl:=hE.ret;clear hE)
 go_wp2_with (fail)
 go_end0
 rw [HL.out]
 exact ⟨rfl,HE.out.at_,((((Tch.refl1 _ _).one 0 _).one 3 _).mono fun k hk => .inl hk).trans HE.out.tch⟩
theorem impl_walk_hear.calls (p : Nat) (v : Value) (s : WS) (c : Int) (hc : c = 48 ∨ c = 49) (S : Nat → Prop) (w0 w : World) (hi : WIn w0 w p S s v) (hpl : w0.heap.size ≤ p) (hS : ¬ S p) (ok : WOk s) :
  Calls Tryd.prog 63 #[.pointer (some ⟨p,0,none⟩), .int .i32 c] w (EndP w0 w p S (hearW s c)):=by
 rcases hc with rfl | rfl
 ·cases hd : dueW s with
  | true =>
   by_cases hl : s.level = 48
   ·exact hear_48_stop p v s S w0 w hi hpl hS ok hd hl
   ·exact hear_48_skip p v s S w0 w hi hpl hS ok hd hl
  | false =>
   by_cases hf : s.field ≤ 10
   ·by_cases hr : 0 < s.run
    ·by_cases hl : s.level = 48
     ·exact hear_48_more p v s S w0 w hi hpl hS ok hd hf hr hl
     ·exact hear_48_turn p v s S w0 w hi hpl hS ok hd hf hr hl
    ·exact hear_48_first p v s S w0 w hi hpl hS ok hd hf hr
   ·exact hear_48_late p v s S w0 w hi hpl hS ok hd hf
 ·cases hd : dueW s with
  | true =>
   by_cases hl : s.level = 49
   ·exact hear_49_stop p v s S w0 w hi hpl hS ok hd hl
   ·exact hear_49_skip p v s S w0 w hi hpl hS ok hd hl
  | false =>
   by_cases hf : s.field ≤ 10
   ·by_cases hr : 0 < s.run
    ·by_cases hl : s.level = 49
     ·exact hear_49_more p v s S w0 w hi hpl hS ok hd hf hr hl
     ·exact hear_49_turn p v s S w0 w hi hpl hS ok hd hf hr hl
    ·exact hear_49_first p v s S w0 w hi hpl hS ok hd hf hr
   ·exact hear_49_late p v s S w0 w hi hpl hS ok hd hf
structure WoIn (w wr : World) (p m : Nat) (s : WS) : Prop where
 at_ : ∃ v,WIn w wr p (fun k => m ≤ k) s v
 res : wr.heap[w.heap.size]? = some (objW zeroW (.slice none 0 0))
 size : m ≤ wr.heap.size
theorem walkG_step (l : List Int) (c : Int) (s : WS) (h : (hearW s c).code = 0 ∨ (hearW s c).code = 1) : walkG (c :: l) s = walkG l (hearW s c):=by rw [walkG,if_pos h]
theorem WoIn.next {w wr : World} {p m it n : Nat} {a0 : ByteArray} {s : WS} (h : WoIn w wr p m s) (hit : wr.heap[it]? = some (.stringIter a0 n)) (him : it < m) (hpm : p < m) (hwp : w.heap.size < p) (hwi : w.heap.size ≤ it) (ok : WOk s) (c : Int) (hc : c = 48 ∨ c = 49) :
  Calls Tryd.prog 63 #[.pointer (some ⟨p,0,none⟩), .int .i32 c] (wr.iterAt it a0 (n + 1)) fun e w' => e = .returned (.tuple #[]) ∧ w'.heap[it]? = some (.stringIter a0 (n + 1)) ∧ WoIn w w' p m (hearW s c):=by
 obtain ⟨v,hi⟩:=h.at_
 have hip : p ≠ it:=fun e => by have h1:=hi.obj;rw [e,hit] at h1;injection h1 with h1;cases h1
 have hir : w.heap.size ≠ it:=fun e => by have h1:=h.res;rw [e,hit] at h1;injection h1 with h1;cases h1
 have hil : w.heap.size ≤ it:=by omega
 have hsz:=Lib.iterAt_size wr it a0 (n + 1)
 have hms:=h.size
 have hiw : WIn w (wr.iterAt it a0 (n + 1)) p (fun k => m ≤ k) s v:=⟨(Lib.iterAt_other wr it p a0 (n + 1) hip).trans hi.obj,R_iterAt hi.row hit (n + 1),Lib.below_iterAt hi.below hil a0 (n + 1),fun k hk => by (try simp only []);omega⟩
 refine (impl_walk_hear.calls p v s c hc (fun k => m ≤ k) w (wr.iterAt it a0 (n + 1)) hiw (Nat.le_of_lt hwp) (by omega) ok).mono ?_
 rintro e w' ⟨rfl,⟨v',ha⟩,ht⟩
 refine ⟨rfl, ?_,⟨v',ha.obj,ha.row, ?_,fun k hk => ?_⟩, ?_, ?_⟩
 ·exact (ht.block (by rw [hsz];exact (Array.getElem?_eq_some_iff.1 hit).1) (by omega)).trans (Lib.iterAt_heap wr it a0 n (n + 1) hit)
 ·exact ht.below hiw.below hiw.below.size (fun k hk => by rcases hk with rfl | hk <;> omega)
 ·have:=ht.size;(try simp only []);omega
 ·exact (ht.block (by rw [hsz];exact (Array.getElem?_eq_some_iff.1 h.res).1) (by omega)).trans ((Lib.iterAt_other wr it _ a0 (n + 1) hir).trans h.res)
 ·have:=ht.size;omega
set_option maxHeartbeats 4000000 in
theorem impl_walkOver.yes (a0 : ByteArray) (w : World) (hsz : a0.size ≤ 4000) (hB0 : isBits a0 = true) :
  Calls Tryd.prog 42 #[.string a0] w fun e w' => ∃ v,e = .returned (.agg (cellsW (walkG (bytesOf a0) startW) v)) ∧ Kd.R (Kd.int .u8) 5 w' w.heap.size (fun _ => True) v (walkG (bytesOf a0) startW).data ∧ Below w.heap.size w w':=by
 have hbt : Hid (impl_bitText.f a0 4000 = some true):=by
  refine Lib.hid ?_
  unfold impl_bitText.f
  rw [hB0,decide_eq_true (by omega)];rfl
 have HBT:=Lib.hid hB0
 clear hB0
 go_enter Tryd.func42,Tryd.ntmps42
 go_wp2_with (fail)
 go_step3
 go_wp2_with (go_at_call 61;refine (impl_bitText.calls _ _ true _ hbt.out).mono ?_;rintro e w1 ⟨rfl,hb1⟩;have HRES : Hid (w1.heap[w.heap.size]? = some (objW zeroW (.slice none 0 0))):=Lib.hid (blk_below (blk_alloc (blk_new w _) _) hb1);have HOBJ : Hid (w1.heap[w.heap.size + 1]? = some (objW zeroW (.slice none 0 0))):=Lib.hid (by have h:=blk_below (blk_new (w.alloc (objW zeroW (.slice none 0 0))) _) hb1;rw [World.size_alloc] at h;exact h);have HB1 : Hid (Below w.heap.size w w1):=Lib.hid (Below.trans (((Below.refl _ _).alloc (Nat.le_refl _) _).alloc (by simp) _) (hb1.mono (by simp;omega)));clear hb1)
 (refine (impl_walk_enter.calls (w.heap.size + 1) _ zeroW 1 _ HOBJ.out (by decide)).mono ?_;intro e w2 hE;have HE:=Lib.hid hE;obtain rfl:=hE.ret;clear hE)
 have HRL : Hid (w.heap.size + 1 < w1.heap.size):=Lib.hid (Array.getElem?_eq_some_iff.1 HOBJ.out).1
 have HRL2 : Hid (w.heap.size + 1 < w2.heap.size):=Lib.hid (Array.getElem?_eq_some_iff.1 HE.out.obj).1
 have HRES2 : Hid (w2.heap[w.heap.size]? = some (objW zeroW (.slice none 0 0))):=Lib.hid ((HE.out.tch.block (by have:=HRL.out;omega) (by omega)).trans HRES.out)
 have HB2 : Hid (Below w.heap.size w w2):=Lib.hid (HE.out.tch.below HB1.out HB1.out.size (fun k hk => by omega))
 go_wp2_with (fail)
 go_step3
 go_wp2_with (fail)
 go_loopw [] (fun wr => ∃ (pos : Nat) (s : WS) (pl : List Int),pos ≤ a0.size ∧ wr.heap[w2.heap.size]? = some (.stringIter a0 pos) ∧ Aside0 (WoIn w wr (w.heap.size + 1) (w2.heap.size + 1) s) ∧ Aside0 (At (bytesOf a0) pos s pl) ∧ Aside0 (walkG ((bytesOf a0).drop pos) s = walkG (bytesOf a0) startW)) (fun wr => a0.size - wr.iterPos w2.heap.size)
 case atStart => exact ⟨0,startW, [],Nat.zero_le _,iter_new w2 a0 0,⟨⟨_,⟨blk_alloc HE.out.obj _,Kd.R_nil _ _ _ _ _,HB2.out.alloc HB2.out.size _,fun k hk => by simpa [World.iter] using hk⟩⟩,blk_alloc HRES2.out _,by simp [World.iter]⟩,⟨At.start _⟩,⟨by rw [List.drop_zero]⟩⟩
 case round =>
  obtain ⟨pos,s,pl,hle,hit,HWO,HAT,HWG⟩:=hrel
  by_cases hp : pos < a0.size
  ·have hbit:=isBits_at HBT.out hp
   have HBits : Hid (Bits (bytesOf a0)):=Lib.hid (bits_of_isBits HBT.out)
   rcases isBit_cases hbit with e | e
   ·have hnx:=fun ty => next_bit_at (P:=Tryd.prog) _ _ a0 pos ty hit hp (b:=48) (by rw [e];rfl) (by omega)
    have HRD : Hid (rd (bytesOf a0) (pos : Int) = 48):=Lib.hid (by rw [rd_bytesOf a0 pos hp,e];rfl)
    have HN:=Lib.hid (HWO.out.next hit (by omega) (by have:=HRL2.out;omega) (by omega) (by have:=HRL2.out;omega) HAT.out.ok 48 (by omega))
    have HST:=Lib.hid (HRD.out ▸ at_step HAT.out (by rw [bytesOf_length];exact hp) HBits.out)
    have HDR : Hid ((bytesOf a0).drop pos = 48 :: (bytesOf a0).drop (pos + 1)):=Lib.hid (drop_cons a0 pos hp (b:=48) (by rw [e];rfl))
    have HIT:=Lib.hid hit
    clear e hbit hit
    by_cases k0 : (hearW s 48).code = 0
    ·have HNX:=Lib.hid (step_next HST.out (.inl k0))
     have HKK:=Lib.hid k0
     clear k0
     go_wp2_with (go_at_call 63;refine HN.out.mono ?_;rintro e w3 ⟨rfl,hi3,hk3⟩;have HI3:=Lib.hid hi3;have HK3:=Aside0.mk hk3;clear hi3 hk3;obtain ⟨v3,hv3⟩:=HK3.out.at_;have hcode:=cW0 hv3.obj;have hcodef:=fW hv3.obj 0;clear hv3;rw [HKK.out] at hcode)
     go_roundw
     case rel => obtain ⟨pl2,ha2⟩:=HNX.out;exact ⟨pos + 1,hearW s 48,pl2,hp,HI3.out,HK3,⟨ha2⟩,⟨by rw [← HWG.out,HDR.out,walkG_step _ _ _ (.inl HKK.out)]⟩⟩
     case measure => rw [iterPos_at HI3.out,iterPos_at HIT.out];omega
    by_cases k1 : (hearW s 48).code = 1
    ·have HNX:=Lib.hid (step_next HST.out (.inr k1))
     have HKK:=Lib.hid k1
     clear k1
     go_wp2_with (go_at_call 63;refine HN.out.mono ?_;rintro e w3 ⟨rfl,hi3,hk3⟩;have HI3:=Lib.hid hi3;have HK3:=Aside0.mk hk3;clear hi3 hk3;obtain ⟨v3,hv3⟩:=HK3.out.at_;have hcode:=cW0 hv3.obj;have hcodef:=fW hv3.obj 0;clear hv3;rw [HKK.out] at hcode)
     go_roundw
     case rel => obtain ⟨pl2,ha2⟩:=HNX.out;exact ⟨pos + 1,hearW s 48,pl2,hp,HI3.out,HK3,⟨ha2⟩,⟨by rw [← HWG.out,HDR.out,walkG_step _ _ _ (.inr HKK.out)]⟩⟩
     case measure => rw [iterPos_at HI3.out,iterPos_at HIT.out];omega
    have HK0:=Lib.hid k0
    have HK1:=Lib.hid k1
    have b0 : ((hearW s 48).code == 0) = false:=by simp [k0]
    have b1 : ((hearW s 48).code == 1) = false:=by simp [k1]
    clear k0 k1
    by_cases hm : pos + 1 < a0.size
    ·have bm : decide ((pos : Int) < (a0.size : Int) - 1) = true:=decide_eq_true (by omega)
     have HM:=Lib.hid hm
     clear hm
     go_wp2_with (fail)
     (refine HN.out.mono ?_;rintro e w3 ⟨rfl,hi3,hk3⟩;have HK3:=Lib.hid hk3;clear hi3 hk3)
     obtain ⟨vz,hvz⟩:=HK3.out.at_
     obtain ⟨Az,cz,ez⟩:=Kd.R_slice hvz.row
     subst ez
     have HVZ:=Lib.hid hvz
     have hzo:=hvz.obj
     clear hvz
     have hz0:=cW0 hzo
     have hz1:=cW1 hzo
     have hz2:=cW2 hzo
     have hz3:=cW3 hzo
     have hz4:=cW4 hzo
     have hz5:=cW5 hzo
     have hz6:=cW6 hzo
     have hz7:=cW7 hzo
     have hz8:=cW8 hzo
     have hz9:=cW9 hzo
     have hz10:=cW10 hzo
     have hz11:=cW11 hzo
     have hzf0:=fW hzo 0
     have HZO:=Lib.hid hzo
     clear hzo
     have hzr:=HK3.out.res
     have hfr0:=fW hzr 0
     have hfr1:=fW hzr 1
     have hfr2:=fW hzr 2
     have hfr3:=fW hzr 3
     have hfr4:=fW hzr 4
     have hfr5:=fW hzr 5
     have hfr6:=fW hzr 6
     have hfr7:=fW hzr 7
     have hfr8:=fW hzr 8
     have hfr9:=fW hzr 9
     have hfr10:=fW hzr 10
     have hfr11:=fW hzr 11
     have hcr0:=cW0 hzr
     have hcr1:=cW1 hzr
     have hcr2:=cW2 hzr
     have hcr3:=cW3 hzr
     have hcr4:=cW4 hzr
     have hcr5:=cW5 hzr
     have hcr6:=cW6 hzr
     have hcr7:=cW7 hzr
     have hcr8:=cW8 hzr
     have hcr9:=cW9 hzr
     have hcr10:=cW10 hzr
     have hcr11:=cW11 hzr
     have HZR:=Lib.hid hzr
     clear hzr
     go_wp2_with (fail)
     have HV7:=Lib.hid (HVZ.out.put (u := .int .i64 7) (j:=0) (s' := { hearW s 48 with code:=7 }) (by have:=HRL2.out;omega) (by omega) (setW0 HZO.out 7) rfl)
     have HR7:=Lib.hid (((Tch.refl1 w3 (w.heap.size + 1)).one 0 (.int .i64 7)).block (Array.getElem?_eq_some_iff.1 HZR.out).1 (by omega) |>.trans HZR.out)
     rw [Exit.noGoto_ret]
     have HEQ : Hid (({ hearW s 48 with code:=7 } : WS) = walkG (bytesOf a0) startW):=Lib.hid (by rw [← HWG.out,HDR.out,walkG,if_neg (by rintro (h | h);exact HK0.out h;exact HK1.out h),if_neg (by intro h;have:=congrArg List.length h;rw [List.length_drop,bytesOf_length] at this;have:=HM.out;simp at *;omega)])
     have HT:=Lib.hid (put12_tch (w3.setCell ⟨w.heap.size + 1,0,none⟩ (.int .i64 7)) w.heap.size (({ hearW s 48 with code:=7 } : WS)) (.slice Az (({ hearW s 48 with code:=7 } : WS)).data.length cz))
     refine bodyPost_ret (results_cell_row rfl _ _ w.heap.size 64 (cellsW (({ hearW s 48 with code:=7 } : WS)) (.slice Az (({ hearW s 48 with code:=7 } : WS)).data.length cz)) (0,0) _ rfl (put12_obj HR7.out (({ hearW s 48 with code:=7 } : WS)) (.slice Az (({ hearW s 48 with code:=7 } : WS)).data.length cz)) Tryd.underlying64 rfl (by kernel_rfl)) rfl ?_
     rw [← HEQ.out]
     exact ⟨_,rfl,Kd.R_mono (HT.out.R HV7.out.row (by have:=HRL2.out;intro k hk;omega)) (fun _ _ => trivial),HT.out.below HV7.out.below (Below.size HV7.out.below) (fun k hk => Nat.le_of_eq hk.symm)⟩
    ·have bm : decide ((pos : Int) < (a0.size : Int) - 1) = false:=decide_eq_false (by omega)
     have HM:=Lib.hid hm
     clear hm
     go_wp2_with (fail)
     (refine HN.out.mono ?_;rintro e w3 ⟨rfl,hi3,hk3⟩;have HK3:=Lib.hid hk3;clear hi3 hk3)
     obtain ⟨vz,hvz⟩:=HK3.out.at_
     obtain ⟨Az,cz,ez⟩:=Kd.R_slice hvz.row
     subst ez
     have HVZ:=Lib.hid hvz
     have hzo:=hvz.obj
     clear hvz
     have hz0:=cW0 hzo
     have hz1:=cW1 hzo
     have hz2:=cW2 hzo
     have hz3:=cW3 hzo
     have hz4:=cW4 hzo
     have hz5:=cW5 hzo
     have hz6:=cW6 hzo
     have hz7:=cW7 hzo
     have hz8:=cW8 hzo
     have hz9:=cW9 hzo
     have hz10:=cW10 hzo
     have hz11:=cW11 hzo
     have hzf0:=fW hzo 0
     have HZO:=Lib.hid hzo
     clear hzo
     have hzr:=HK3.out.res
     have hfr0:=fW hzr 0
     have hfr1:=fW hzr 1
     have hfr2:=fW hzr 2
     have hfr3:=fW hzr 3
     have hfr4:=fW hzr 4
     have hfr5:=fW hzr 5
     have hfr6:=fW hzr 6
     have hfr7:=fW hzr 7
     have hfr8:=fW hzr 8
     have hfr9:=fW hzr 9
     have hfr10:=fW hzr 10
     have hfr11:=fW hzr 11
     have hcr0:=cW0 hzr
     have hcr1:=cW1 hzr
     have hcr2:=cW2 hzr
     have hcr3:=cW3 hzr
     have hcr4:=cW4 hzr
     have hcr5:=cW5 hzr
     have hcr6:=cW6 hzr
     have hcr7:=cW7 hzr
     have hcr8:=cW8 hzr
     have hcr9:=cW9 hzr
     have hcr10:=cW10 hzr
     have hcr11:=cW11 hzr
     have HZR:=Lib.hid hzr
     clear hzr
     go_wp2_with (fail)
     rw [Exit.noGoto_ret]
     have HEQ : Hid (hearW s 48 = walkG (bytesOf a0) startW):=Lib.hid (by rw [← HWG.out,HDR.out,walkG,if_neg (by rintro (h | h);exact HK0.out h;exact HK1.out h),if_pos (List.drop_eq_nil_of_le (by rw [bytesOf_length];have:=HM.out;omega))])
     have HT:=Lib.hid (put12_tch (w3) w.heap.size (hearW s 48) (.slice Az (hearW s 48).data.length cz))
     refine bodyPost_ret (results_cell_row rfl _ _ w.heap.size 64 (cellsW (hearW s 48) (.slice Az (hearW s 48).data.length cz)) (0,0) _ rfl (put12_obj HZR.out (hearW s 48) (.slice Az (hearW s 48).data.length cz)) Tryd.underlying64 rfl (by kernel_rfl)) rfl ?_
     rw [← HEQ.out]
     exact ⟨_,rfl,Kd.R_mono (HT.out.R HVZ.out.row (by have:=HRL2.out;intro k hk;omega)) (fun _ _ => trivial),HT.out.below HVZ.out.below (Below.size HVZ.out.below) (fun k hk => Nat.le_of_eq hk.symm)⟩
   ·have hnx:=fun ty => next_bit_at (P:=Tryd.prog) _ _ a0 pos ty hit hp (b:=49) (by rw [e];rfl) (by omega)
    have HRD : Hid (rd (bytesOf a0) (pos : Int) = 49):=Lib.hid (by rw [rd_bytesOf a0 pos hp,e];rfl)
    have HN:=Lib.hid (HWO.out.next hit (by omega) (by have:=HRL2.out;omega) (by omega) (by have:=HRL2.out;omega) HAT.out.ok 49 (by omega))
    have HST:=Lib.hid (HRD.out ▸ at_step HAT.out (by rw [bytesOf_length];exact hp) HBits.out)
    have HDR : Hid ((bytesOf a0).drop pos = 49 :: (bytesOf a0).drop (pos + 1)):=Lib.hid (drop_cons a0 pos hp (b:=49) (by rw [e];rfl))
    have HIT:=Lib.hid hit
    clear e hbit hit
    by_cases k0 : (hearW s 49).code = 0
    ·have HNX:=Lib.hid (step_next HST.out (.inl k0))
     have HKK:=Lib.hid k0
     clear k0
     go_wp2_with (go_at_call 63;refine HN.out.mono ?_;rintro e w3 ⟨rfl,hi3,hk3⟩;have HI3:=Lib.hid hi3;have HK3:=Aside0.mk hk3;clear hi3 hk3;obtain ⟨v3,hv3⟩:=HK3.out.at_;have hcode:=cW0 hv3.obj;have hcodef:=fW hv3.obj 0;clear hv3;rw [HKK.out] at hcode)
     go_roundw
     case rel => obtain ⟨pl2,ha2⟩:=HNX.out;exact ⟨pos + 1,hearW s 49,pl2,hp,HI3.out,HK3,⟨ha2⟩,⟨by rw [← HWG.out,HDR.out,walkG_step _ _ _ (.inl HKK.out)]⟩⟩
     case measure => rw [iterPos_at HI3.out,iterPos_at HIT.out];omega
    by_cases k1 : (hearW s 49).code = 1
    ·have HNX:=Lib.hid (step_next HST.out (.inr k1))
     have HKK:=Lib.hid k1
     clear k1
     go_wp2_with (go_at_call 63;refine HN.out.mono ?_;rintro e w3 ⟨rfl,hi3,hk3⟩;have HI3:=Lib.hid hi3;have HK3:=Aside0.mk hk3;clear hi3 hk3;obtain ⟨v3,hv3⟩:=HK3.out.at_;have hcode:=cW0 hv3.obj;have hcodef:=fW hv3.obj 0;clear hv3;rw [HKK.out] at hcode)
     go_roundw
     case rel => obtain ⟨pl2,ha2⟩:=HNX.out;exact ⟨pos + 1,hearW s 49,pl2,hp,HI3.out,HK3,⟨ha2⟩,⟨by rw [← HWG.out,HDR.out,walkG_step _ _ _ (.inr HKK.out)]⟩⟩
     case measure => rw [iterPos_at HI3.out,iterPos_at HIT.out];omega
    have HK0:=Lib.hid k0
    have HK1:=Lib.hid k1
    have b0 : ((hearW s 49).code == 0) = false:=by simp [k0]
    have b1 : ((hearW s 49).code == 1) = false:=by simp [k1]
    clear k0 k1
    by_cases hm : pos + 1 < a0.size
    ·have bm : decide ((pos : Int) < (a0.size : Int) - 1) = true:=decide_eq_true (by omega)
     have HM:=Lib.hid hm
     clear hm
     go_wp2_with (fail)
     (refine HN.out.mono ?_;rintro e w3 ⟨rfl,hi3,hk3⟩;have HK3:=Lib.hid hk3;clear hi3 hk3)
     obtain ⟨vz,hvz⟩:=HK3.out.at_
     obtain ⟨Az,cz,ez⟩:=Kd.R_slice hvz.row
     subst ez
     have HVZ:=Lib.hid hvz
     have hzo:=hvz.obj
     clear hvz
     have hz0:=cW0 hzo
     have hz1:=cW1 hzo
     have hz2:=cW2 hzo
     have hz3:=cW3 hzo
     have hz4:=cW4 hzo
     have hz5:=cW5 hzo
     have hz6:=cW6 hzo
     have hz7:=cW7 hzo
     have hz8:=cW8 hzo
     have hz9:=cW9 hzo
     have hz10:=cW10 hzo
     have hz11:=cW11 hzo
     have hzf0:=fW hzo 0
     have HZO:=Lib.hid hzo
     clear hzo
     have hzr:=HK3.out.res
     have hfr0:=fW hzr 0
     have hfr1:=fW hzr 1
     have hfr2:=fW hzr 2
     have hfr3:=fW hzr 3
     have hfr4:=fW hzr 4
     have hfr5:=fW hzr 5
     have hfr6:=fW hzr 6
     have hfr7:=fW hzr 7
     have hfr8:=fW hzr 8
     have hfr9:=fW hzr 9
     have hfr10:=fW hzr 10
     have hfr11:=fW hzr 11
     have hcr0:=cW0 hzr
     have hcr1:=cW1 hzr
     have hcr2:=cW2 hzr
     have hcr3:=cW3 hzr
     have hcr4:=cW4 hzr
     have hcr5:=cW5 hzr
     have hcr6:=cW6 hzr
     have hcr7:=cW7 hzr
     have hcr8:=cW8 hzr
     have hcr9:=cW9 hzr
     have hcr10:=cW10 hzr
     have hcr11:=cW11 hzr
     have HZR:=Lib.hid hzr
     clear hzr
     go_wp2_with (fail)
     have HV7:=Lib.hid (HVZ.out.put (u := .int .i64 7) (j:=0) (s' := { hearW s 49 with code:=7 }) (by have:=HRL2.out;omega) (by omega) (setW0 HZO.out 7) rfl)
     have HR7:=Lib.hid (((Tch.refl1 w3 (w.heap.size + 1)).one 0 (.int .i64 7)).block (Array.getElem?_eq_some_iff.1 HZR.out).1 (by omega) |>.trans HZR.out)
     rw [Exit.noGoto_ret]
     have HEQ : Hid (({ hearW s 49 with code:=7 } : WS) = walkG (bytesOf a0) startW):=Lib.hid (by rw [← HWG.out,HDR.out,walkG,if_neg (by rintro (h | h);exact HK0.out h;exact HK1.out h),if_neg (by intro h;have:=congrArg List.length h;rw [List.length_drop,bytesOf_length] at this;have:=HM.out;simp at *;omega)])
     have HT:=Lib.hid (put12_tch (w3.setCell ⟨w.heap.size + 1,0,none⟩ (.int .i64 7)) w.heap.size (({ hearW s 49 with code:=7 } : WS)) (.slice Az (({ hearW s 49 with code:=7 } : WS)).data.length cz))
     refine bodyPost_ret (results_cell_row rfl _ _ w.heap.size 64 (cellsW (({ hearW s 49 with code:=7 } : WS)) (.slice Az (({ hearW s 49 with code:=7 } : WS)).data.length cz)) (0,0) _ rfl (put12_obj HR7.out (({ hearW s 49 with code:=7 } : WS)) (.slice Az (({ hearW s 49 with code:=7 } : WS)).data.length cz)) Tryd.underlying64 rfl (by kernel_rfl)) rfl ?_
     rw [← HEQ.out]
     exact ⟨_,rfl,Kd.R_mono (HT.out.R HV7.out.row (by have:=HRL2.out;intro k hk;omega)) (fun _ _ => trivial),HT.out.below HV7.out.below (Below.size HV7.out.below) (fun k hk => Nat.le_of_eq hk.symm)⟩
    ·have bm : decide ((pos : Int) < (a0.size : Int) - 1) = false:=decide_eq_false (by omega)
     have HM:=Lib.hid hm
     clear hm
     go_wp2_with (fail)
     (refine HN.out.mono ?_;rintro e w3 ⟨rfl,hi3,hk3⟩;have HK3:=Lib.hid hk3;clear hi3 hk3)
     obtain ⟨vz,hvz⟩:=HK3.out.at_
     obtain ⟨Az,cz,ez⟩:=Kd.R_slice hvz.row
     subst ez
     have HVZ:=Lib.hid hvz
     have hzo:=hvz.obj
     clear hvz
     have hz0:=cW0 hzo
     have hz1:=cW1 hzo
     have hz2:=cW2 hzo
     have hz3:=cW3 hzo
     have hz4:=cW4 hzo
     have hz5:=cW5 hzo
     have hz6:=cW6 hzo
     have hz7:=cW7 hzo
     have hz8:=cW8 hzo
     have hz9:=cW9 hzo
     have hz10:=cW10 hzo
     have hz11:=cW11 hzo
     have hzf0:=fW hzo 0
     have HZO:=Lib.hid hzo
     clear hzo
     have hzr:=HK3.out.res
     have hfr0:=fW hzr 0
     have hfr1:=fW hzr 1
     have hfr2:=fW hzr 2
     have hfr3:=fW hzr 3
     have hfr4:=fW hzr 4
     have hfr5:=fW hzr 5
     have hfr6:=fW hzr 6
     have hfr7:=fW hzr 7
     have hfr8:=fW hzr 8
     have hfr9:=fW hzr 9
     have hfr10:=fW hzr 10
     have hfr11:=fW hzr 11
     have hcr0:=cW0 hzr
     have hcr1:=cW1 hzr
     have hcr2:=cW2 hzr
     have hcr3:=cW3 hzr
     have hcr4:=cW4 hzr
     have hcr5:=cW5 hzr
     have hcr6:=cW6 hzr
     have hcr7:=cW7 hzr
     have hcr8:=cW8 hzr
     have hcr9:=cW9 hzr
     have hcr10:=cW10 hzr
     have hcr11:=cW11 hzr
     have HZR:=Lib.hid hzr
     clear hzr
     go_wp2_with (fail)
     rw [Exit.noGoto_ret]
     have HEQ : Hid (hearW s 49 = walkG (bytesOf a0) startW):=Lib.hid (by rw [← HWG.out,HDR.out,walkG,if_neg (by rintro (h | h);exact HK0.out h;exact HK1.out h),if_pos (List.drop_eq_nil_of_le (by rw [bytesOf_length];have:=HM.out;omega))])
     have HT:=Lib.hid (put12_tch (w3) w.heap.size (hearW s 49) (.slice Az (hearW s 49).data.length cz))
     refine bodyPost_ret (results_cell_row rfl _ _ w.heap.size 64 (cellsW (hearW s 49) (.slice Az (hearW s 49).data.length cz)) (0,0) _ rfl (put12_obj HZR.out (hearW s 49) (.slice Az (hearW s 49).data.length cz)) Tryd.underlying64 rfl (by kernel_rfl)) rfl ?_
     rw [← HEQ.out]
     exact ⟨_,rfl,Kd.R_mono (HT.out.R HVZ.out.row (by have:=HRL2.out;intro k hk;omega)) (fun _ _ => trivial),HT.out.below HVZ.out.below (Below.size HVZ.out.below) (fun k hk => Nat.le_of_eq hk.symm)⟩
  ·have hnx:=fun ty => Lib.run_next_end_at (P:=Tryd.prog) _ _ a0 pos ty hit hp
   obtain rfl : pos = a0.size:=by omega
   obtain ⟨vz,hvz⟩:=HWO.out.at_
   obtain ⟨Az,cz,ez⟩:=Kd.R_slice hvz.row
   subst ez
   have HVZ:=Lib.hid hvz
   have hzo:=hvz.obj
   clear hvz
   have hz0:=cW0 hzo
   have hz1:=cW1 hzo
   have hz2:=cW2 hzo
   have hz3:=cW3 hzo
   have hz4:=cW4 hzo
   have hz5:=cW5 hzo
   have hz6:=cW6 hzo
   have hz7:=cW7 hzo
   have hz8:=cW8 hzo
   have hz9:=cW9 hzo
   have hz10:=cW10 hzo
   have hz11:=cW11 hzo
   have hzf0:=fW hzo 0
   have HZO:=Lib.hid hzo
   clear hzo
   have hzr:=HWO.out.res
   have hfr0:=fW hzr 0
   have hfr1:=fW hzr 1
   have hfr2:=fW hzr 2
   have hfr3:=fW hzr 3
   have hfr4:=fW hzr 4
   have hfr5:=fW hzr 5
   have hfr6:=fW hzr 6
   have hfr7:=fW hzr 7
   have hfr8:=fW hzr 8
   have hfr9:=fW hzr 9
   have hfr10:=fW hzr 10
   have hfr11:=fW hzr 11
   have hcr0:=cW0 hzr
   have hcr1:=cW1 hzr
   have hcr2:=cW2 hzr
   have hcr3:=cW3 hzr
   have hcr4:=cW4 hzr
   have hcr5:=cW5 hzr
   have hcr6:=cW6 hzr
   have hcr7:=cW7 hzr
   have hcr8:=cW8 hzr
   have hcr9:=cW9 hzr
   have hcr10:=cW10 hzr
   have hcr11:=cW11 hzr
   have HZR:=Lib.hid hzr
   clear hzr
   go_wp2_with (fail)
   rw [Exit.noGoto_ret]
   have HEQ : Hid (s = walkG (bytesOf a0) startW):=Lib.hid (by rw [← HWG.out,List.drop_eq_nil_of_le (by rw [bytesOf_length];exact Nat.le_refl _)];rfl)
   have HT:=Lib.hid (put12_tch (wr) w.heap.size (s) (.slice Az (s).data.length cz))
   refine bodyPost_ret (results_cell_row rfl _ _ w.heap.size 64 (cellsW (s) (.slice Az (s).data.length cz)) (0,0) _ rfl (put12_obj HZR.out (s) (.slice Az (s).data.length cz)) Tryd.underlying64 rfl (by kernel_rfl)) rfl ?_
   rw [← HEQ.out]
   exact ⟨_,rfl,Kd.R_mono (HT.out.R HVZ.out.row (by have:=HRL2.out;intro k hk;omega)) (fun _ _ => trivial),HT.out.below HVZ.out.below (Below.size HVZ.out.below) (fun k hk => Nat.le_of_eq hk.symm)⟩
theorem impl_walkOver.no (a0 : ByteArray) (w : World) (c : ¬ (a0.size ≤ 4000 ∧ isBits a0 = true)) :
  Calls Tryd.prog 42 #[.string a0] w fun e w' => ∃ v,e = .returned (.agg (cellsW { zeroW with code:=8 } v)) ∧ Kd.R (Kd.int .u8) 5 w' w.heap.size (fun _ => True) v [] ∧ Below w.heap.size w w':=by
 have hbt : Hid (impl_bitText.f a0 4000 = some false):=by
  refine Lib.hid ?_
  unfold impl_bitText.f
  congr 1
  rw [Bool.and_eq_false_iff]
  by_cases h : isBits a0 = true
  ·exact .inl (decide_eq_false fun h2 => c ⟨by omega,h⟩)
  ·exact .inr (by simpa using h)
 clear c
 go_enter Tryd.func42,Tryd.ntmps42
 go_wp2_with (fail)
 go_step3
 go_wp2_with (fail)
 (refine (impl_bitText.calls _ _ false _ hbt.out).mono ?_;rintro e w1 ⟨rfl,hb1⟩;have HRES : Hid (w1.heap[w.heap.size]? = some (objW zeroW (.slice none 0 0))):=Lib.hid (blk_below (blk_alloc (blk_new w _) _) hb1);have HOBJ : Hid (w1.heap[w.heap.size + 1]? = some (objW zeroW (.slice none 0 0))):=Lib.hid (by have h:=blk_below (blk_new (w.alloc (objW zeroW (.slice none 0 0))) _) hb1;rw [World.size_alloc] at h;exact h);have HB1 : Hid (Below w.heap.size w w1):=Lib.hid (Below.trans (((Below.refl _ _).alloc (Nat.le_refl _) _).alloc (by simp) _) (hb1.mono (by simp;omega)));clear hb1)
 have hzo:=HOBJ.out
 have hz0:=cW0 hzo
 have hz1:=cW1 hzo
 have hz2:=cW2 hzo
 have hz3:=cW3 hzo
 have hz4:=cW4 hzo
 have hz5:=cW5 hzo
 have hz6:=cW6 hzo
 have hz7:=cW7 hzo
 have hz8:=cW8 hzo
 have hz9:=cW9 hzo
 have hz10:=cW10 hzo
 have hz11:=cW11 hzo
 have hzf0:=fW hzo 0
 clear hzo
 have hzr:=HRES.out
 have hfr0:=fW hzr 0
 have hfr1:=fW hzr 1
 have hfr2:=fW hzr 2
 have hfr3:=fW hzr 3
 have hfr4:=fW hzr 4
 have hfr5:=fW hzr 5
 have hfr6:=fW hzr 6
 have hfr7:=fW hzr 7
 have hfr8:=fW hzr 8
 have hfr9:=fW hzr 9
 have hfr10:=fW hzr 10
 have hfr11:=fW hzr 11
 have hcr0:=cW0 hzr
 have hcr1:=cW1 hzr
 have hcr2:=cW2 hzr
 have hcr3:=cW3 hzr
 have hcr4:=cW4 hzr
 have hcr5:=cW5 hzr
 have hcr6:=cW6 hzr
 have hcr7:=cW7 hzr
 have hcr8:=cW8 hzr
 have hcr9:=cW9 hzr
 have hcr10:=cW10 hzr
 have hcr11:=cW11 hzr
 clear hzr
 simp only [zeroW] at hz0 hz1 hz2 hz3 hz4 hz5 hz6 hz7 hz8 hz9 hz10 hcr0 hcr1 hcr2 hcr3 hcr4 hcr5 hcr6 hcr7 hcr8 hcr9 hcr10
 go_wp2_with (fail)
 rw [Exit.noGoto_ret]
 have HR7:=Lib.hid (((Tch.refl1 w1 (w.heap.size + 1)).one 0 (.int .i64 8)).block (Array.getElem?_eq_some_iff.1 HRES.out).1 (by omega) |>.trans HRES.out)
 have HB7:=Lib.hid (((Tch.refl1 w1 (w.heap.size + 1)).one 0 (.int .i64 8)).below HB1.out HB1.out.size (fun k hk => by omega))
 have HT:=Lib.hid (put12_tch (w1.setCell ⟨w.heap.size + 1,0,none⟩ (.int .i64 8)) w.heap.size ({ zeroW with code:=8 }) (.slice none 0 0))
 refine bodyPost_ret (results_cell_row rfl _ _ w.heap.size 64 (cellsW ({ zeroW with code:=8 }) (.slice none 0 0)) (0,0) _ rfl (put12_obj HR7.out ({ zeroW with code:=8 }) (.slice none 0 0)) Tryd.underlying64 rfl (by kernel_rfl)) rfl ?_
 exact ⟨_,rfl,Kd.R_nil _ _ _ _ _,HT.out.below HB7.out (Below.size HB7.out) (fun k hk => Nat.le_of_eq hk.symm)⟩
theorem impl_walkOver.whole (a0 : ByteArray) (w : World) :
  Calls Tryd.prog 42 #[.string a0] w fun e w' => ∃ v,e = .returned (.agg (cellsW (walkV a0) v)) ∧ Kd.R (Kd.int .u8) 5 w' w.heap.size (fun _ => True) v (walkV a0).data ∧ Below w.heap.size w w':=by
 unfold walkV
 by_cases c : a0.size ≤ 4000 ∧ isBits a0 = true
 ·rw [if_pos c];exact impl_walkOver.yes a0 w c.1 c.2
 ·rw [if_neg c];exact impl_walkOver.no a0 w c
def impl_walkOver.f (a0 : ByteArray) : Option (Int × Int × Int × Int × Int × Int × Int × Bool × Int × Bool × Int × List Int):=some ((walkV a0).code,(walkV a0).field,(walkV a0).left,(walkV a0).run,(walkV a0).level,(walkV a0).sum,(walkV a0).got,(walkV a0).ext,(walkV a0).id,(walkV a0).rtr,(walkV a0).dlc,(walkV a0).data)
theorem impl_walkOver.calls (a0 : ByteArray) (r1 r2 r3 r4 r5 r6 r7 : Int) (r8 : Bool) (r9 : Int) (r10 : Bool) (r11 : Int) (r12 : List Int) (w : World) (h : impl_walkOver.f a0 = some (r1,r2,r3,r4,r5,r6,r7,r8,r9,r10,r11,r12)) :
  Calls Tryd.prog 42 #[.string a0] w fun e w' => ∃ v12_ : Value,e = .returned (.agg #[.int .i64 r1, .int .i64 r2, .int .i64 r3, .int .i64 r4, .int .i32 r5, .int .i64 r6, .int .i64 r7, .bool r8, .int .u32 r9, .bool r10, .int .i64 r11,v12_]) ∧ Kd.R (Kd.int .u8) 5 w' w.heap.size (fun _ => True) v12_ r12 ∧ Below w.heap.size w w':=by
 unfold impl_walkOver.f at h
 simp only [Option.some.injEq,Prod.mk.injEq] at h
 obtain ⟨rfl,rfl,rfl,rfl,rfl,rfl,rfl,rfl,rfl,rfl,rfl,rfl⟩:=h
 exact impl_walkOver.whole a0 w
def judgeV (a0 : ByteArray) : Int × Int × Bool × Bool:=if (walkV a0).code = 0 ∨ (walkV a0).code = 1 then ((walkV a0).code,(walkV a0).field,dueW (walkV a0),crcOkW (walkV a0)) else ((walkV a0).code,0,false,false)
def impl_Judge.f (a0 : ByteArray) : Option (Int × Int × Bool × Bool):=some (judgeV a0)
def objV (a b : Int) (c d : Bool) : Obj := .cells #[.int .i64 a, .int .i64 b, .bool c, .bool d] 40 (0,0)
theorem setV0 {w : World} {p : Nat} {a b : Int} {c d : Bool} (h : w.heap[p]? = some (objV a b c d)) (x : Int) : (w.setCell ⟨p,0,none⟩ (.int .i64 x)).heap[p]? = some (objV x b c d):=by simp only [World.setCell,Array.getElem?_modify,h];rfl
theorem setV1 {w : World} {p : Nat} {a b : Int} {c d : Bool} (h : w.heap[p]? = some (objV a b c d)) (x : Int) : (w.setCell ⟨p,1,none⟩ (.int .i64 x)).heap[p]? = some (objV a x c d):=by simp only [World.setCell,Array.getElem?_modify,h];rfl
theorem setV2 {w : World} {p : Nat} {a b : Int} {c d : Bool} (h : w.heap[p]? = some (objV a b c d)) (x : Bool) : (w.setCell ⟨p,2,none⟩ (.bool x)).heap[p]? = some (objV a b x d):=by simp only [World.setCell,Array.getElem?_modify,h];rfl
theorem setV3 {w : World} {p : Nat} {a b : Int} {c d : Bool} (h : w.heap[p]? = some (objV a b c d)) (x : Bool) : (w.setCell ⟨p,3,none⟩ (.bool x)).heap[p]? = some (objV a b c x):=by simp only [World.setCell,Array.getElem?_modify,h];rfl
theorem cV0 {w : World} {p : Nat} {a b : Int} {c d : Bool} (h : w.heap[p]? = some (objV a b c d)) : w.cell? ⟨p,0,none⟩ = some (.int .i64 a):=blk_cell h 0
theorem cV1 {w : World} {p : Nat} {a b : Int} {c d : Bool} (h : w.heap[p]? = some (objV a b c d)) : w.cell? ⟨p,1,none⟩ = some (.int .i64 b):=blk_cell h 1
theorem cV2 {w : World} {p : Nat} {a b : Int} {c d : Bool} (h : w.heap[p]? = some (objV a b c d)) : w.cell? ⟨p,2,none⟩ = some (.bool c):=blk_cell h 2
theorem cV3 {w : World} {p : Nat} {a b : Int} {c d : Bool} (h : w.heap[p]? = some (objV a b c d)) : w.cell? ⟨p,3,none⟩ = some (.bool d):=blk_cell h 3
theorem fV {w : World} {p : Nat} {a b : Int} {c d : Bool} (h : w.heap[p]? = some (objV a b c d)) (j : Nat) : w.frozen? ⟨p,j,none⟩ = false:=blk_frozen h j
set_option maxHeartbeats 2000000 in
theorem impl_Judge.other (a0 : ByteArray) (w : World) (h0 : ¬ (walkV a0).code = 0) (h1 : ¬ (walkV a0).code = 1) :
  Calls Tryd.prog 13 #[.string a0] w fun e w' => e = .returned (.agg #[.int .i64 (walkV a0).code, .int .i64 0, .bool false, .bool false]) ∧ Below w.heap.size w w':=by
 have b0 : ((walkV a0).code == 0) = false:=by simp [h0]
 have b1 : ((walkV a0).code == 1) = false:=by simp [h1]
 clear h0 h1
 go_enter Tryd.func13,Tryd.ntmps13
 go_wp2_with (fail)
 (refine (impl_walkOver.calls a0 _ _ _ _ _ _ _ _ _ _ _ _ _ rfl).mono ?_;rintro e w1 ⟨v,rfl,hr,hb⟩;obtain ⟨A,c,ev⟩:=Kd.R_slice hr;subst ev;have HRES : Hid (w1.heap[w.heap.size]? = some (objV 0 0 false false)):=Lib.hid (blk_below (blk_new w _) hb);have HB1 : Hid (Below w.heap.size w w1):=Lib.hid (Below.trans ((Below.refl _ _).alloc (Nat.le_refl _) _) (hb.mono (by simp)));clear hr hb)
 have hrl : w.heap.size < w1.heap.size:=(Array.getElem?_eq_some_iff.1 HRES.out).1
 have hne1 : w.heap.size ≠ w1.heap.size:=by omega
 have hne2 : w.heap.size ≠ w1.heap.size + 1:=by omega
 have hrl2 : w.heap.size < w1.heap.size + 1:=by omega
 have hr0:=cV0 HRES.out
 have hr1:=cV1 HRES.out
 have hr2:=cV2 HRES.out
 have hr3:=cV3 HRES.out
 have hf0:=fV HRES.out 0
 have hf1:=fV HRES.out 1
 have hf2:=fV HRES.out 2
 have hf3:=fV HRES.out 3
 go_wp2_with (fail)
 have HRS:=Lib.hid (blk_alloc (blk_alloc (setV3 (setV2 (setV1 (setV0 HRES.out (walkV a0).code) 0) false) false) (objW (walkV a0) (.slice A (walkV a0).data.length c))) (objV (walkV a0).code 0 false false))
 have HB2:=Lib.hid ((((((HB1.out.setCell (p:=⟨w.heap.size,0,none⟩) (Nat.le_refl _) (.int .i64 (walkV a0).code)).setCell (p:=⟨w.heap.size,1,none⟩) (Nat.le_refl _) (.int .i64 0)).setCell (p:=⟨w.heap.size,2,none⟩) (Nat.le_refl _) (.bool false)).setCell (p:=⟨w.heap.size,3,none⟩) (Nat.le_refl _) (.bool false)).alloc (by simp [World.setCell];omega) (objW (walkV a0) (.slice A (walkV a0).data.length c))).alloc (by simp [World.setCell];omega) (objV (walkV a0).code 0 false false))
 refine bodyPost_ret (results_cell_row rfl _ _ w.heap.size 40 #[.int .i64 (walkV a0).code, .int .i64 0, .bool false, .bool false] (0,0) _ rfl HRS.out Tryd.underlying40 rfl (by kernel_rfl)) rfl ?_
 exact ⟨rfl,HB2.out⟩
theorem blk_new2 (w : World) (X Y : Obj) : ((w.alloc X).alloc Y).heap[w.heap.size + 1]? = some Y:=by
 have h:=blk_new (w.alloc X) Y
 rwa [World.size_alloc] at h
theorem judge_below {w w1 : World} {p : Nat} (h : Below w.heap.size w w1) (hp : w.heap.size ≤ p) (j : Nat) (u : Value) : Below w.heap.size w (w1.setCell ⟨p,j,none⟩ u):=h.setCell hp u
theorem judge_rel (w w1 : World) (X : Obj) (k f : Int) (d c : Bool) (m : Nat) (W : World) (hW : W = ((((((w1.alloc X).alloc (.cells #[.int .i64 k, .int .i64 0, .bool false, .bool false] 40)).drewN m).setCell ⟨w1.heap.size + 1,1,none⟩ (.int .i64 f)).setCell ⟨w1.heap.size + 1,2,none⟩ (.bool d)).setCell ⟨w1.heap.size + 1,3,none⟩ (.bool c))) (hres : w1.heap[w.heap.size]? = some (objV 0 0 false false)) (hB : Below w.heap.size w w1) :
  Aside0 (W.heap[w1.heap.size + 1]? = some (objV k f d c)) ∧ Aside0 (W.heap[w.heap.size]? = some (objV 0 0 false false)) ∧ Aside0 (Below w.heap.size w W):=by
 subst hW
 have hlt : w.heap.size < w1.heap.size:=(Array.getElem?_eq_some_iff.1 hres).1
 have hne : w.heap.size ≠ w1.heap.size + 1:=by omega
 have h1 : (((w1.alloc X).alloc (objV k 0 false false)).drewN m).heap[w1.heap.size + 1]? = some (objV k 0 false false):=blk_drewN (blk_new2 w1 X _) m
 have h2 : (((w1.alloc X).alloc (objV k 0 false false)).drewN m).heap[w.heap.size]? = some (objV 0 0 false false):=blk_drewN (blk_alloc (blk_alloc hres X) _) m
 have h3 : Below w.heap.size w (((w1.alloc X).alloc (objV k 0 false false)).drewN m):=pw_below_drewN ((hB.alloc (Nat.le_of_lt hlt) X).alloc (by rw [World.size_alloc];omega) _) m
 have e : (((w1.alloc X).alloc (.cells #[.int .i64 k, .int .i64 0, .bool false, .bool false] 40)).drewN m) = (((w1.alloc X).alloc (objV k 0 false false)).drewN m):=rfl
 rw [e]
 generalize (((w1.alloc X).alloc (objV k 0 false false)).drewN m) = U at h1 h2 h3 ⊢
 exact ⟨⟨setV3 (setV2 (setV1 h1 f) d) c⟩,⟨(Below.heap_setCell _ _ _ _ hne).trans ((Below.heap_setCell _ _ _ _ hne).trans ((Below.heap_setCell _ _ _ _ hne).trans h2))⟩,⟨judge_below (judge_below (judge_below h3 (by omega) _ _) (by omega) _ _) (by omega) _ _⟩⟩
set_option maxHeartbeats 4000000 in
theorem impl_Judge.runs0 (a0 : ByteArray) (w : World) (h01 : (walkV a0).code = 0) :
  Calls Tryd.prog 13 #[.string a0] w fun e w' => e = .returned (.agg #[.int .i64 0, .int .i64 (walkV a0).field, .bool (dueW (walkV a0)), .bool (crcOkW (walkV a0))]) ∧ Below w.heap.size w w':=by
 have HKC:=Lib.hid h01
 clear h01
 go_enter Tryd.func13,Tryd.ntmps13
 go_wp2_with (fail)
 (refine (impl_walkOver.calls a0 _ _ _ _ _ _ _ _ _ _ _ _ _ rfl).mono ?_;rintro e w1 ⟨v,rfl,hr,hb⟩;obtain ⟨A,c,ev⟩:=Kd.R_slice hr;subst ev;have HRES : Hid (w1.heap[w.heap.size]? = some (objV 0 0 false false)):=Lib.hid (blk_below (blk_new w _) hb);have HB1 : Hid (Below w.heap.size w w1):=Lib.hid (Below.trans ((Below.refl _ _).alloc (Nat.le_refl _) _) (hb.mono (by simp)));clear hr hb)
 rw [HKC.out]
 have hrl : w.heap.size < w1.heap.size:=(Array.getElem?_eq_some_iff.1 HRES.out).1
 have hne1 : w.heap.size ≠ w1.heap.size:=by omega
 have hne2 : w.heap.size ≠ w1.heap.size + 1:=by omega
 have hrl2 : w.heap.size < w1.heap.size + 1:=by omega
 go_upto_region 5 with (fail)
 go_cut [] (fun wc => Aside0 (wc.heap[w1.heap.size + 1]? = some (objV 0 (walkV a0).field (dueW ({ walkV a0 with code:=0 } : WS)) (crcOkW ({ walkV a0 with code:=0 } : WS)))) ∧ Aside0 (wc.heap[w.heap.size]? = some (objV 0 0 false false)) ∧ Aside0 (Below w.heap.size w wc))
 case first =>
  go_region_with (first | (go_at_call 43;refine (impl_walk_due.calls w1.heap.size (.slice A (walkV a0).data.length c) ({ walkV a0 with code:=0 } : WS) _ (by repeat (first | exact blk_alloc (blk_new _ _) _ | refine (Below.heap_setCell _ _ _ _ (show w1.heap.size ≠ w1.heap.size + 1 by omega)).trans ?_ | refine blk_drewN ?_ _ | refine blk_drew ?_))).mono ?_;rintro e w' ⟨rfl,rfl⟩) | (go_at_call 44;refine (impl_walk_crcOk.calls w1.heap.size (.slice A (walkV a0).data.length c) ({ walkV a0 with code:=0 } : WS) _ (by repeat (first | exact blk_alloc (blk_new _ _) _ | refine (Below.heap_setCell _ _ _ _ (show w1.heap.size ≠ w1.heap.size + 1 by omega)).trans ?_ | refine blk_drewN ?_ _ | refine blk_drew ?_))).mono ?_;rintro e w' ⟨rfl,n,rfl⟩))
  all_goals
   go_wp2_with (fail)
   go_meet
   case rel => exact judge_rel w w1 _ _ _ _ _ _ _ rfl HRES.out HB1.out
 case rest =>
  obtain ⟨HO,HR,HB⟩:=hcut
  have hc0:=cV0 HO.out
  have hc1:=cV1 HO.out
  have hc2:=cV2 HO.out
  have hc3:=cV3 HO.out
  have hr0:=cV0 HR.out
  have hr1:=cV1 HR.out
  have hr2:=cV2 HR.out
  have hr3:=cV3 HR.out
  have hf0:=fV HR.out 0
  have hf1:=fV HR.out 1
  have hf2:=fV HR.out 2
  have hf3:=fV HR.out 3
  go_wp2_with (fail)
  refine bodyPost_ret (results_cell_row rfl _ _ w.heap.size 40 #[.int .i64 0, .int .i64 (walkV a0).field, .bool (dueW (walkV a0)), .bool (crcOkW (walkV a0))] (0,0) _ rfl (setV3 (setV2 (setV1 (setV0 HR.out 0) (walkV a0).field) (dueW (walkV a0))) (crcOkW (walkV a0))) Tryd.underlying40 rfl (by kernel_rfl)) rfl ?_
  exact ⟨rfl,(((HB.out.setCell (p:=⟨w.heap.size,0,none⟩) (Nat.le_refl _) _).setCell (p:=⟨w.heap.size,1,none⟩) (Nat.le_refl _) _).setCell (p:=⟨w.heap.size,2,none⟩) (Nat.le_refl _) _).setCell (p:=⟨w.heap.size,3,none⟩) (Nat.le_refl _) _⟩
set_option maxHeartbeats 4000000 in
theorem impl_Judge.runs1 (a0 : ByteArray) (w : World) (h01 : (walkV a0).code = 1) :
  Calls Tryd.prog 13 #[.string a0] w fun e w' => e = .returned (.agg #[.int .i64 1, .int .i64 (walkV a0).field, .bool (dueW (walkV a0)), .bool (crcOkW (walkV a0))]) ∧ Below w.heap.size w w':=by
 have HKC:=Lib.hid h01
 clear h01
 go_enter Tryd.func13,Tryd.ntmps13
 go_wp2_with (fail)
 (refine (impl_walkOver.calls a0 _ _ _ _ _ _ _ _ _ _ _ _ _ rfl).mono ?_;rintro e w1 ⟨v,rfl,hr,hb⟩;obtain ⟨A,c,ev⟩:=Kd.R_slice hr;subst ev;have HRES : Hid (w1.heap[w.heap.size]? = some (objV 0 0 false false)):=Lib.hid (blk_below (blk_new w _) hb);have HB1 : Hid (Below w.heap.size w w1):=Lib.hid (Below.trans ((Below.refl _ _).alloc (Nat.le_refl _) _) (hb.mono (by simp)));clear hr hb)
 rw [HKC.out]
 have hrl : w.heap.size < w1.heap.size:=(Array.getElem?_eq_some_iff.1 HRES.out).1
 have hne1 : w.heap.size ≠ w1.heap.size:=by omega
 have hne2 : w.heap.size ≠ w1.heap.size + 1:=by omega
 have hrl2 : w.heap.size < w1.heap.size + 1:=by omega
 go_upto_region 5 with (fail)
 go_cut [] (fun wc => Aside0 (wc.heap[w1.heap.size + 1]? = some (objV 1 (walkV a0).field (dueW ({ walkV a0 with code:=1 } : WS)) (crcOkW ({ walkV a0 with code:=1 } : WS)))) ∧ Aside0 (wc.heap[w.heap.size]? = some (objV 0 0 false false)) ∧ Aside0 (Below w.heap.size w wc))
 case first =>
  go_region_with (first | (go_at_call 43;refine (impl_walk_due.calls w1.heap.size (.slice A (walkV a0).data.length c) ({ walkV a0 with code:=1 } : WS) _ (by repeat (first | exact blk_alloc (blk_new _ _) _ | refine (Below.heap_setCell _ _ _ _ (show w1.heap.size ≠ w1.heap.size + 1 by omega)).trans ?_ | refine blk_drewN ?_ _ | refine blk_drew ?_))).mono ?_;rintro e w' ⟨rfl,rfl⟩) | (go_at_call 44;refine (impl_walk_crcOk.calls w1.heap.size (.slice A (walkV a0).data.length c) ({ walkV a0 with code:=1 } : WS) _ (by repeat (first | exact blk_alloc (blk_new _ _) _ | refine (Below.heap_setCell _ _ _ _ (show w1.heap.size ≠ w1.heap.size + 1 by omega)).trans ?_ | refine blk_drewN ?_ _ | refine blk_drew ?_))).mono ?_;rintro e w' ⟨rfl,n,rfl⟩))
  all_goals
   go_wp2_with (fail)
   go_meet
   case rel => exact judge_rel w w1 _ _ _ _ _ _ _ rfl HRES.out HB1.out
 case rest =>
  obtain ⟨HO,HR,HB⟩:=hcut
  have hc0:=cV0 HO.out
  have hc1:=cV1 HO.out
  have hc2:=cV2 HO.out
  have hc3:=cV3 HO.out
  have hr0:=cV0 HR.out
  have hr1:=cV1 HR.out
  have hr2:=cV2 HR.out
  have hr3:=cV3 HR.out
  have hf0:=fV HR.out 0
  have hf1:=fV HR.out 1
  have hf2:=fV HR.out 2
  have hf3:=fV HR.out 3
  go_wp2_with (fail)
  refine bodyPost_ret (results_cell_row rfl _ _ w.heap.size 40 #[.int .i64 1, .int .i64 (walkV a0).field, .bool (dueW (walkV a0)), .bool (crcOkW (walkV a0))] (0,0) _ rfl (setV3 (setV2 (setV1 (setV0 HR.out 1) (walkV a0).field) (dueW (walkV a0))) (crcOkW (walkV a0))) Tryd.underlying40 rfl (by kernel_rfl)) rfl ?_
  exact ⟨rfl,(((HB.out.setCell (p:=⟨w.heap.size,0,none⟩) (Nat.le_refl _) _).setCell (p:=⟨w.heap.size,1,none⟩) (Nat.le_refl _) _).setCell (p:=⟨w.heap.size,2,none⟩) (Nat.le_refl _) _).setCell (p:=⟨w.heap.size,3,none⟩) (Nat.le_refl _) _⟩
theorem impl_Judge.calls (a0 : ByteArray) (r1 r2 : Int) (r3 r4 : Bool) (w : World) (h : impl_Judge.f a0 = some (r1,r2,r3,r4)) :
  Calls Tryd.prog 13 #[.string a0] w fun e w' => e = .returned (.agg #[.int .i64 r1, .int .i64 r2, .bool r3, .bool r4]) ∧ Below w.heap.size w w':=by
 unfold impl_Judge.f judgeV at h
 have h:=Option.some.inj h
 by_cases h0 : (walkV a0).code = 0
 ·rw [if_pos (.inl h0),h0] at h
  simp only [Prod.mk.injEq] at h
  obtain ⟨rfl,rfl,rfl,rfl⟩:=h
  exact impl_Judge.runs0 a0 w h0
 by_cases h1 : (walkV a0).code = 1
 ·rw [if_pos (.inr h1),h1] at h
  simp only [Prod.mk.injEq] at h
  obtain ⟨rfl,rfl,rfl,rfl⟩:=h
  exact impl_Judge.runs1 a0 w h1
 ·rw [if_neg (by rintro (a | a);exact h0 a;exact h1 a)] at h
  simp only [Prod.mk.injEq] at h
  obtain ⟨rfl,rfl,rfl,rfl⟩:=h
  exact impl_Judge.other a0 w h0 h1
end Go.Proofs.YtdoclpgciadjaaaDoor.P
namespace Go.Proofs.YtdoclpgciadjaaaDoor.P
open Go Go.RowKit Go.Proofs.YtdoclpgciadjaaaDoorW.PrintWords Go.Proofs.YtdoclpgciadjaaaDoorW.PrintLast
set_option linter.unusedVariables false
def DecIs (P : ByteArray) (e : Bool) (i : Int) (r : Bool) (d : Int) (l : List Int) : Prop := ∃ S,walkV P = S ∧ S.code = 1 ∧ S.ext = e ∧ S.id = i ∧ S.rtr = r ∧ S.dlc = d ∧ S.data = l
theorem scan_one {a : SS} {b : Int} (hI : SInv a) (hb : b = 0 ∨ b = 1) (h : (scanV a b).2 = 1) : a.field = 14 ∧ a.left = 2:=by
 unfold scanV at h
 rw [if_pos ⟨hI.sound,hb⟩] at h
 by_cases h5 : a.run = 5
 ·rw [if_pos h5] at h
  split at h
  ·exact absurd h (by decide)
  ·exact absurd h (by simp)
 ·rw [if_neg h5] at h
  have hv : verdictV a b = 1:=by
   split at h
   ·exact h
   ·exact h
  unfold verdictV at hv
  by_cases c1 : (a.field = 1 ∧ b = 1) ∨ ((a.field = 11 ∨ a.field = 13) ∧ b = 0)
  ·rw [if_pos c1] at hv;omega
  rw [if_neg c1] at hv
  by_cases c2 : a.field = 13 ∧ a.acc ≠ a.crc
  ·rw [if_pos c2] at hv;omega
  rw [if_neg c2] at hv
  by_cases c3 : a.field ≠ 14
  ·rw [if_pos c3] at hv;omega
  rw [if_neg c3] at hv
  by_cases c4 : b = 0 ∧ 1 < a.left
  ·rw [if_pos c4] at hv;omega
  rw [if_neg c4] at hv
  by_cases c5 : b = 0
  ·rw [if_pos c5] at hv;omega
  rw [if_neg c5] at hv
  by_cases c6 : a.left = 2
  ·exact ⟨by omega,c6⟩
  rw [if_neg c6] at hv
  split at hv <;> omega
structure Ld (t : ByteArray) (i : Nat) (a : SS) (st : WS) : Prop where
 inv : SInv a
 rel : Rel (QI a) a st
 come : Come ((bytesOf t).take i) st
 bits : Bits ((bytesOf t).take i)
 mu : mu a + i ≤ 256
theorem Ld.start (t : ByteArray) : Ld t 0 startS startW:=⟨SInv.start,Rel.start,by rw [List.take_zero];exact Come.start,(by rw [List.take_zero];intro x hx;cases hx),by rw [mu_start];decide⟩
structure Rd (t : ByteArray) (i : Nat) (a : SS) (st : WS) (b : Int) : Prop where
 jud : ∃ x y z,impl_Judge.f (t.extract 0 (i + 1)) = some ((scanV a b).2,x,y,z) ∧ Ev (fun k => spec_Judge.f k (t.extract 0 (i + 1))) ((scanV a b).2,x,y,z) ∧ ((scanV a b).2 = 0 ∨ (scanV a b).2 = 1 → x = (scanV a b).1.field ∧ y = ((scanV a b).1.run == 5))
 on : (scanV a b).2 = 0 ∨ (scanV a b).2 = 1 → Ld t (i + 1) (scanV a b).1 (hearW st (b + 48))
 off : ¬ ((scanV a b).2 = 0 ∨ (scanV a b).2 = 1) → (scanV a b).1 = zeroS
 dec : (scanV a b).2 = 1 → DecIs (t.extract 0 (i + 1)) (scanV a b).1.ext (scanV a b).1.id (scanV a b).1.rtr (scanV a b).1.dlc (scanV a b).1.data
theorem Ld.round {t : ByteArray} {i : Nat} {a : SS} {st : WS} (h : Ld t i a st) (hi : i < t.size) {b : Int} (hb : b = 0 ∨ b = 1) (hbt : bt t (i : Int) = b + 48) : Rd t i a st b:=by
 have hG:=goes h.rel h.inv hb
 have hmu:=h.mu
 have hm0:=mu_nonneg h.inv
 have hil : i < (bytesOf t).length:=by rw [bytesOf_length];exact hi
 have hrd : rd (bytesOf t) (i : Int) = b + 48:=by
  rw [rd_bytesOf t i hi, ← hbt]
  unfold bt
  rw [dif_pos (by rw [Int.toNat_natCast];exact hi)]
  rfl
 have htk : (bytesOf t).take (i + 1) = (bytesOf t).take i ++ [b + 48]:=by rw [take_next _ i hil,hrd]
 have hex : t.extract 0 (i + 1) = strOfNums ((bytesOf t).take (i + 1)):=by
  conv => lhs;rw [← str_bytes t]
  rw [str_extract _ _ _ (by omega),List.drop_zero,Nat.sub_zero]
 have hbits : Bits ((bytesOf t).take (i + 1)):=by
  rw [htk]
  exact h.bits.append (fun x hx => by rw [List.mem_singleton] at hx;omega)
 have hlen : ((bytesOf t).take (i + 1)).length ≤ 4000:=by rw [List.length_take];omega
 have hw : walkV (t.extract 0 (i + 1)) = hearW st (b + 48):=by
  rw [hex,walkV_bits hbits hlen,htk,h.come [b + 48],walkG_one]
 have hcome : (scanV a b).2 = 0 ∨ (scanV a b).2 = 1 → Come ((bytesOf t).take (i + 1)) (hearW st (b + 48)):=by
  intro hc m
  rw [htk,List.append_assoc,h.come]
  show walkG ((b + 48) :: m) st = _
  exact walkG_run _ _ _ (by rw [← hG.code];exact hc)
 have hon : (scanV a b).2 = 0 ∨ (scanV a b).2 = 1 → Ld t (i + 1) (scanV a b).1 (hearW st (b + 48)):=fun hc => by
  obtain ⟨h1,h2,h3⟩:=hG.on hc
  exact ⟨h2,h1,hcome hc,hbits,by omega⟩
 refine ⟨?_,hon,hG.off,fun h1 => ?_⟩
 ·have hj:=specJudge_ev (t.extract 0 (i + 1))
  have hij : impl_Judge.f (t.extract 0 (i + 1)) = some (judgeS (t.extract 0 (i + 1))):=rfl
  unfold judgeS at hj hij
  rw [hw, ← hG.code] at hj hij
  by_cases hc : (scanV a b).2 = 0 ∨ (scanV a b).2 = 1
  ·rw [if_pos hc] at hj hij
   obtain ⟨h1,h2,h3⟩:=hG.on hc
   have hq:=h2.q
   have hr:=h1.r
   have hf:=h1.f
   refine ⟨_,_,_,hij,hj,fun _ => ⟨hf.symm, ?_⟩⟩
   unfold dueW
   rw [← hr, ← hf]
   by_cases h5 : (scanV a b).1.run = 5
   ·rw [decide_eq_true (by omega),Bool.and_true]
   ·rw [show ((scanV a b).1.run == 5) = false from beq_eq_false_iff_ne.mpr h5];rfl
  ·rw [if_neg hc] at hj hij
   exact ⟨_,_,_,hij,hj,fun x => absurd x hc⟩
 ·have hc : (scanV a b).2 = 0 ∨ (scanV a b).2 = 1 := .inr h1
  obtain ⟨k1,k2,k3⟩:=hG.on hc
  obtain ⟨f14,l2⟩:=scan_one h.inv hb h1
  have hf14:=hear14_field (s:=st) (by rw [← h.rel.f];exact f14) (by rw [← h.rel.l];exact l2) (b + 48)
  have hcode : (hearW st (b + 48)).code = 1:=by rw [← hG.code];exact h1
  have hxl:=k2.xl
  have hkf:=k1.f
  have hrtr : (scanV a b).1.rtr = (hearW st (b + 48)).rtr:=k1.t ⟨by omega,by omega⟩
  exact ⟨_,hw,hcode,k1.e.symm,k1.i.symm,hrtr.symm,k1.d.symm,k1.x.symm⟩
end Go.Proofs.YtdoclpgciadjaaaDoor.P
