/- Texts of the proof of FnFiveFlips, joined. -/
import Derived.Test.YtdoclpgciadjaaaSFnFiveFlips21
import Derived.Test.YtdoclpgciadjaaaSFnFiveFlips25
import Derived.Test.YtdoclpgciadjaaaSFnFiveFlips24
import Derived.Deep.RegionWith
import Derived.Test.YtdoclpgciadjaaaSFnFiveFlips23
import Derived.Lib.Hide
namespace Go.Proofs.Ytdoclpgciadjaaa.P
open Go.RowKit Go.Proofs.YtdoclpgciadjaaaW.PrintWords Go.Proofs.YtdoclpgciadjaaaW.PrintLast Go.Proofs.YtdoclpgciadjaaaW.PrintMore
set_option linter.unusedVariables false
set_option linter.unusedSimpArgs false
def judgeV (a0 : ByteArray) : Int × Int × Bool × Bool:=if (walkV a0).code = 0 ∨ (walkV a0).code = 1 then ((walkV a0).code,(walkV a0).field,dueW (walkV a0),crcOkW (walkV a0)) else ((walkV a0).code,0,false,false)
def impl_Judge.f (a0 : ByteArray) : Option (Int × Int × Bool × Bool):=some (judgeV a0)
def objV (a b : Int) (c d : Bool) : Obj := .cells #[.int .i64 a, .int .i64 b, .bool c, .bool d] 32 (0,0)
theorem setV0 {w : World} {p : Nat} {a b : Int} {c d : Bool} (h : w.heap[p]? = some (objV a b c d)) (x : Int) : (w.setCell ⟨p,0,none⟩ (.int .i64 x)).heap[p]? = some (objV x b c d):=by simp only [World.setCell,Array.getElem?_modify,h];rfl
theorem setV1 {w : World} {p : Nat} {a b : Int} {c d : Bool} (h : w.heap[p]? = some (objV a b c d)) (x : Int) : (w.setCell ⟨p,1,none⟩ (.int .i64 x)).heap[p]? = some (objV a x c d):=by simp only [World.setCell,Array.getElem?_modify,h];rfl
theorem setV2 {w : World} {p : Nat} {a b : Int} {c d : Bool} (h : w.heap[p]? = some (objV a b c d)) (x : Bool) : (w.setCell ⟨p,2,none⟩ (.bool x)).heap[p]? = some (objV a b x d):=by simp only [World.setCell,Array.getElem?_modify,h];rfl
theorem setV3 {w : World} {p : Nat} {a b : Int} {c d : Bool} (h : w.heap[p]? = some (objV a b c d)) (x : Bool) : (w.setCell ⟨p,3,none⟩ (.bool x)).heap[p]? = some (objV a b c x):=by simp only [World.setCell,Array.getElem?_modify,h];rfl
theorem cV0 {w : World} {p : Nat} {a b : Int} {c d : Bool} (h : w.heap[p]? = some (objV a b c d)) : w.cell? ⟨p,0,none⟩ = some (.int .i64 a):=blk_cell h 0
theorem cV1 {w : World} {p : Nat} {a b : Int} {c d : Bool} (h : w.heap[p]? = some (objV a b c d)) : w.cell? ⟨p,1,none⟩ = some (.int .i64 b):=blk_cell h 1
theorem cV2 {w : World} {p : Nat} {a b : Int} {c d : Bool} (h : w.heap[p]? = some (objV a b c d)) : w.cell? ⟨p,2,none⟩ = some (.bool c):=blk_cell h 2
theorem cV3 {w : World} {p : Nat} {a b : Int} {c d : Bool} (h : w.heap[p]? = some (objV a b c d)) : w.cell? ⟨p,3,none⟩ = some (.bool d):=blk_cell h 3
theorem fV {w : World} {p : Nat} {a b : Int} {c d : Bool} (h : w.heap[p]? = some (objV a b c d)) (j : Nat) : w.frozen? ⟨p,j,none⟩ = false:=blk_frozen h j
set_option maxHeartbeats 2000000 in
theorem impl_Judge.other (a0 : ByteArray) (w : World) (h0 : ¬ (walkV a0).code = 0) (h1 : ¬ (walkV a0).code = 1) :
  Calls Try.prog 19 #[.string a0] w fun e w' => e = .returned (.agg #[.int .i64 (walkV a0).code, .int .i64 0, .bool false, .bool false]) ∧ Below w.heap.size w w':=by
 have b0 : ((walkV a0).code == 0) = false:=by simp [h0]
 have b1 : ((walkV a0).code == 1) = false:=by simp [h1]
 clear h0 h1
 go_enter Try.func19,Try.ntmps19
 go_wp2_with (fail)
 (refine (impl_walkOver.calls a0 _ _ _ _ _ _ _ _ _ _ _ _ _ rfl).mono ?_;rintro e w1 ⟨v,rfl,hr,hb⟩;obtain ⟨A,c,ev⟩:=Kd.R_slice hr;subst ev;have HRES : Hid (w1.heap[w.heap.size]? = some (objV 0 0 false false)):=Lib.hid (blk_below (blk_new w _) hb);have HB1 : Hid (Below w.heap.size w w1):=Lib.hid (Below.trans ((Below.refl _ _).alloc (Nat.le_refl _) _) (hb.mono (by simp)));clear hr hb)
 have hrl : w.heap.size < w1.heap.size:=(Array.getElem?_eq_some_iff.1 HRES.out).1
 have hne1 : w.heap.size ≠ w1.heap.size:=by omega
 have hne2 : w.heap.size ≠ w1.heap.size + 1:=by omega
 have hrl2 : w.heap.size < w1.heap.size + 1:=by omega
 have hr0:=cV0 HRES.out
 have hr1:=cV1 HRES.out
 have hr2:=cV2 HRES.out
 have hr3:=cV3 HRES.out
 have hf0:=fV HRES.out 0
 have hf1:=fV HRES.out 1
 have hf2:=fV HRES.out 2
 have hf3:=fV HRES.out 3
 go_wp2_with (fail)
 have HRS:=Lib.hid (blk_alloc (blk_alloc (setV3 (setV2 (setV1 (setV0 HRES.out (walkV a0).code) 0) false) false) (objW (walkV a0) (.slice A (walkV a0).data.length c))) (objV (walkV a0).code 0 false false))
 have HB2:=Lib.hid ((((((HB1.out.setCell (p:=⟨w.heap.size,0,none⟩) (Nat.le_refl _) (.int .i64 (walkV a0).code)).setCell (p:=⟨w.heap.size,1,none⟩) (Nat.le_refl _) (.int .i64 0)).setCell (p:=⟨w.heap.size,2,none⟩) (Nat.le_refl _) (.bool false)).setCell (p:=⟨w.heap.size,3,none⟩) (Nat.le_refl _) (.bool false)).alloc (by simp [World.setCell];omega) (objW (walkV a0) (.slice A (walkV a0).data.length c))).alloc (by simp [World.setCell];omega) (objV (walkV a0).code 0 false false))
 refine bodyPost_ret (results_cell_row rfl _ _ w.heap.size 32 #[.int .i64 (walkV a0).code, .int .i64 0, .bool false, .bool false] (0,0) _ rfl HRS.out Try.underlying32 rfl (by kernel_rfl)) rfl ?_
 exact ⟨rfl,HB2.out⟩
theorem blk_new2 (w : World) (X Y : Obj) : ((w.alloc X).alloc Y).heap[w.heap.size + 1]? = some Y:=by
 have h:=blk_new (w.alloc X) Y
 rwa [World.size_alloc] at h
theorem judge_below {w w1 : World} {p : Nat} (h : Below w.heap.size w w1) (hp : w.heap.size ≤ p) (j : Nat) (u : Value) : Below w.heap.size w (w1.setCell ⟨p,j,none⟩ u):=h.setCell hp u
theorem judge_rel (w w1 : World) (X : Obj) (k f : Int) (d c : Bool) (m : Nat) (W : World) (hW : W = ((((((w1.alloc X).alloc (.cells #[.int .i64 k, .int .i64 0, .bool false, .bool false] 32)).drewN m).setCell ⟨w1.heap.size + 1,1,none⟩ (.int .i64 f)).setCell ⟨w1.heap.size + 1,2,none⟩ (.bool d)).setCell ⟨w1.heap.size + 1,3,none⟩ (.bool c))) (hres : w1.heap[w.heap.size]? = some (objV 0 0 false false)) (hB : Below w.heap.size w w1) :
  Aside0 (W.heap[w1.heap.size + 1]? = some (objV k f d c)) ∧ Aside0 (W.heap[w.heap.size]? = some (objV 0 0 false false)) ∧ Aside0 (Below w.heap.size w W):=by
 subst hW
 have hlt : w.heap.size < w1.heap.size:=(Array.getElem?_eq_some_iff.1 hres).1
 have hne : w.heap.size ≠ w1.heap.size + 1:=by omega
 have h1 : (((w1.alloc X).alloc (objV k 0 false false)).drewN m).heap[w1.heap.size + 1]? = some (objV k 0 false false):=blk_drewN (blk_new2 w1 X _) m
 have h2 : (((w1.alloc X).alloc (objV k 0 false false)).drewN m).heap[w.heap.size]? = some (objV 0 0 false false):=blk_drewN (blk_alloc (blk_alloc hres X) _) m
 have h3 : Below w.heap.size w (((w1.alloc X).alloc (objV k 0 false false)).drewN m):=pw_below_drewN ((hB.alloc (Nat.le_of_lt hlt) X).alloc (by rw [World.size_alloc];omega) _) m
 have e : (((w1.alloc X).alloc (.cells #[.int .i64 k, .int .i64 0, .bool false, .bool false] 32)).drewN m) = (((w1.alloc X).alloc (objV k 0 false false)).drewN m):=rfl
 rw [e]
 generalize (((w1.alloc X).alloc (objV k 0 false false)).drewN m) = U at h1 h2 h3 ⊢
 exact ⟨⟨setV3 (setV2 (setV1 h1 f) d) c⟩,⟨(Below.heap_setCell _ _ _ _ hne).trans ((Below.heap_setCell _ _ _ _ hne).trans ((Below.heap_setCell _ _ _ _ hne).trans h2))⟩,⟨judge_below (judge_below (judge_below h3 (by omega) _ _) (by omega) _ _) (by omega) _ _⟩⟩
set_option maxHeartbeats 4000000 in
theorem impl_Judge.runs0 (a0 : ByteArray) (w : World) (h01 : (walkV a0).code = 0) :
  Calls Try.prog 19 #[.string a0] w fun e w' => e = .returned (.agg #[.int .i64 0, .int .i64 (walkV a0).field, .bool (dueW (walkV a0)), .bool (crcOkW (walkV a0))]) ∧ Below w.heap.size w w':=by
 have HKC:=Lib.hid h01
 clear h01
 go_enter Try.func19,Try.ntmps19
 go_wp2_with (fail)
 (refine (impl_walkOver.calls a0 _ _ _ _ _ _ _ _ _ _ _ _ _ rfl).mono ?_;rintro e w1 ⟨v,rfl,hr,hb⟩;obtain ⟨A,c,ev⟩:=Kd.R_slice hr;subst ev;have HRES : Hid (w1.heap[w.heap.size]? = some (objV 0 0 false false)):=Lib.hid (blk_below (blk_new w _) hb);have HB1 : Hid (Below w.heap.size w w1):=Lib.hid (Below.trans ((Below.refl _ _).alloc (Nat.le_refl _) _) (hb.mono (by simp)));clear hr hb)
 rw [HKC.out]
 have hrl : w.heap.size < w1.heap.size:=(Array.getElem?_eq_some_iff.1 HRES.out).1
 have hne1 : w.heap.size ≠ w1.heap.size:=by omega
 have hne2 : w.heap.size ≠ w1.heap.size + 1:=by omega
 have hrl2 : w.heap.size < w1.heap.size + 1:=by omega
 go_upto_region 5 with (fail)
 go_cut [] (fun wc => Aside0 (wc.heap[w1.heap.size + 1]? = some (objV 0 (walkV a0).field (dueW ({ walkV a0 with code:=0 } : WS)) (crcOkW ({ walkV a0 with code:=0 } : WS)))) ∧ Aside0 (wc.heap[w.heap.size]? = some (objV 0 0 false false)) ∧ Aside0 (Below w.heap.size w wc))
 case first =>
  go_region_with (first | (go_at_call 82;refine (impl_walk_due.calls w1.heap.size (.slice A (walkV a0).data.length c) ({ walkV a0 with code:=0 } : WS) _ (by repeat (first | exact blk_alloc (blk_new _ _) _ | refine (Below.heap_setCell _ _ _ _ (show w1.heap.size ≠ w1.heap.size + 1 by omega)).trans ?_ | refine blk_drewN ?_ _ | refine blk_drew ?_))).mono ?_;rintro e w' ⟨rfl,rfl⟩) | (go_at_call 83;refine (impl_walk_crcOk.calls w1.heap.size (.slice A (walkV a0).data.length c) ({ walkV a0 with code:=0 } : WS) _ (by repeat (first | exact blk_alloc (blk_new _ _) _ | refine (Below.heap_setCell _ _ _ _ (show w1.heap.size ≠ w1.heap.size + 1 by omega)).trans ?_ | refine blk_drewN ?_ _ | refine blk_drew ?_))).mono ?_;rintro e w' ⟨rfl,n,rfl⟩))
  all_goals
   go_wp2_with (fail)
   go_meet
   case rel => exact judge_rel w w1 _ _ _ _ _ _ _ rfl HRES.out HB1.out
 case rest =>
  obtain ⟨HO,HR,HB⟩:=hcut
  have hc0:=cV0 HO.out
  have hc1:=cV1 HO.out
  have hc2:=cV2 HO.out
  have hc3:=cV3 HO.out
  have hr0:=cV0 HR.out
  have hr1:=cV1 HR.out
  have hr2:=cV2 HR.out
  have hr3:=cV3 HR.out
  have hf0:=fV HR.out 0
  have hf1:=fV HR.out 1
  have hf2:=fV HR.out 2
  have hf3:=fV HR.out 3
  go_wp2_with (fail)
  refine bodyPost_ret (results_cell_row rfl _ _ w.heap.size 32 #[.int .i64 0, .int .i64 (walkV a0).field, .bool (dueW (walkV a0)), .bool (crcOkW (walkV a0))] (0,0) _ rfl (setV3 (setV2 (setV1 (setV0 HR.out 0) (walkV a0).field) (dueW (walkV a0))) (crcOkW (walkV a0))) Try.underlying32 rfl (by kernel_rfl)) rfl ?_
  exact ⟨rfl,(((HB.out.setCell (p:=⟨w.heap.size,0,none⟩) (Nat.le_refl _) _).setCell (p:=⟨w.heap.size,1,none⟩) (Nat.le_refl _) _).setCell (p:=⟨w.heap.size,2,none⟩) (Nat.le_refl _) _).setCell (p:=⟨w.heap.size,3,none⟩) (Nat.le_refl _) _⟩
set_option maxHeartbeats 4000000 in
theorem impl_Judge.runs1 (a0 : ByteArray) (w : World) (h01 : (walkV a0).code = 1) :
  Calls Try.prog 19 #[.string a0] w fun e w' => e = .returned (.agg #[.int .i64 1, .int .i64 (walkV a0).field, .bool (dueW (walkV a0)), .bool (crcOkW (walkV a0))]) ∧ Below w.heap.size w w':=by
 have HKC:=Lib.hid h01
 clear h01
 go_enter Try.func19,Try.ntmps19
 go_wp2_with (fail)
 (refine (impl_walkOver.calls a0 _ _ _ _ _ _ _ _ _ _ _ _ _ rfl).mono ?_;rintro e w1 ⟨v,rfl,hr,hb⟩;obtain ⟨A,c,ev⟩:=Kd.R_slice hr;subst ev;have HRES : Hid (w1.heap[w.heap.size]? = some (objV 0 0 false false)):=Lib.hid (blk_below (blk_new w _) hb);have HB1 : Hid (Below w.heap.size w w1):=Lib.hid (Below.trans ((Below.refl _ _).alloc (Nat.le_refl _) _) (hb.mono (by simp)));clear hr hb)
 rw [HKC.out]
 have hrl : w.heap.size < w1.heap.size:=(Array.getElem?_eq_some_iff.1 HRES.out).1
 have hne1 : w.heap.size ≠ w1.heap.size:=by omega
 have hne2 : w.heap.size ≠ w1.heap.size + 1:=by omega
 have hrl2 : w.heap.size < w1.heap.size + 1:=by omega
 go_upto_region 5 with (fail)
 go_cut [] (fun wc => Aside0 (wc.heap[w1.heap.size + 1]? = some (objV 1 (walkV a0).field (dueW ({ walkV a0 with code:=1 } : WS)) (crcOkW ({ walkV a0 with code:=1 } : WS)))) ∧ Aside0 (wc.heap[w.heap.size]? = some (objV 0 0 false false)) ∧ Aside0 (Below w.heap.size w wc))
 case first =>
  go_region_with (first | (go_at_call 82;refine (impl_walk_due.calls w1.heap.size (.slice A (walkV a0).data.length c) ({ walkV a0 with code:=1 } : WS) _ (by repeat (first | exact blk_alloc (blk_new _ _) _ | refine (Below.heap_setCell _ _ _ _ (show w1.heap.size ≠ w1.heap.size + 1 by omega)).trans ?_ | refine blk_drewN ?_ _ | refine blk_drew ?_))).mono ?_;rintro e w' ⟨rfl,rfl⟩) | (go_at_call 83;refine (impl_walk_crcOk.calls w1.heap.size (.slice A (walkV a0).data.length c) ({ walkV a0 with code:=1 } : WS) _ (by repeat (first | exact blk_alloc (blk_new _ _) _ | refine (Below.heap_setCell _ _ _ _ (show w1.heap.size ≠ w1.heap.size + 1 by omega)).trans ?_ | refine blk_drewN ?_ _ | refine blk_drew ?_))).mono ?_;rintro e w' ⟨rfl,n,rfl⟩))
  all_goals
   go_wp2_with (fail)
   go_meet
   case rel => exact judge_rel w w1 _ _ _ _ _ _ _ rfl HRES.out HB1.out
 case rest =>
  obtain ⟨HO,HR,HB⟩:=hcut
  have hc0:=cV0 HO.out
  have hc1:=cV1 HO.out
  have hc2:=cV2 HO.out
  have hc3:=cV3 HO.out
  have hr0:=cV0 HR.out
  have hr1:=cV1 HR.out
  have hr2:=cV2 HR.out
  have hr3:=cV3 HR.out
  have hf0:=fV HR.out 0
  have hf1:=fV HR.out 1
  have hf2:=fV HR.out 2
  have hf3:=fV HR.out 3
  go_wp2_with (fail)
  refine bodyPost_ret (results_cell_row rfl _ _ w.heap.size 32 #[.int .i64 1, .int .i64 (walkV a0).field, .bool (dueW (walkV a0)), .bool (crcOkW (walkV a0))] (0,0) _ rfl (setV3 (setV2 (setV1 (setV0 HR.out 1) (walkV a0).field) (dueW (walkV a0))) (crcOkW (walkV a0))) Try.underlying32 rfl (by kernel_rfl)) rfl ?_
  exact ⟨rfl,(((HB.out.setCell (p:=⟨w.heap.size,0,none⟩) (Nat.le_refl _) _).setCell (p:=⟨w.heap.size,1,none⟩) (Nat.le_refl _) _).setCell (p:=⟨w.heap.size,2,none⟩) (Nat.le_refl _) _).setCell (p:=⟨w.heap.size,3,none⟩) (Nat.le_refl _) _⟩
theorem impl_Judge.calls (a0 : ByteArray) (r1 r2 : Int) (r3 r4 : Bool) (w : World) (h : impl_Judge.f a0 = some (r1,r2,r3,r4)) :
  Calls Try.prog 19 #[.string a0] w fun e w' => e = .returned (.agg #[.int .i64 r1, .int .i64 r2, .bool r3, .bool r4]) ∧ Below w.heap.size w w':=by
 unfold impl_Judge.f judgeV at h
 have h:=Option.some.inj h
 by_cases h0 : (walkV a0).code = 0
 ·rw [if_pos (.inl h0),h0] at h
  simp only [Prod.mk.injEq] at h
  obtain ⟨rfl,rfl,rfl,rfl⟩:=h
  exact impl_Judge.runs0 a0 w h0
 by_cases h1 : (walkV a0).code = 1
 ·rw [if_pos (.inr h1),h1] at h
  simp only [Prod.mk.injEq] at h
  obtain ⟨rfl,rfl,rfl,rfl⟩:=h
  exact impl_Judge.runs1 a0 w h1
 ·rw [if_neg (by rintro (a | a);exact h0 a;exact h1 a)] at h
  simp only [Prod.mk.injEq] at h
  obtain ⟨rfl,rfl,rfl,rfl⟩:=h
  exact impl_Judge.other a0 w h0 h1
end Go.Proofs.Ytdoclpgciadjaaa.P

namespace Go.Proofs.Ytdoclpgciadjaaa.P
open Go.RowKit Go.Proofs.YtdoclpgciadjaaaW.PrintWords Go.Proofs.YtdoclpgciadjaaaW.PrintLast Go.Proofs.YtdoclpgciadjaaaW.PrintMore
set_option linter.unusedVariables false
set_option linter.unusedSimpArgs false
def impl_Stuff.f (a0 : ByteArray) : Option (ByteArray):=some (if a0.size ≤ 2000 ∧ isBits a0 = true then strOfNums (stuffL (bytesOf a0)) else ⟨#[]⟩)
structure StuffAt (s : ByteArray) (pos : Nat) (out : List Int) (run last : Int) : Prop where mk :: (out : stuffTo s pos = (out,run,last))
theorem StuffAt.bounds {s : ByteArray} {pos : Nat} {out : List Int} {run last : Int} (h : StuffAt s pos out run last) : out.length ≤ 2 * pos ∧ 0 ≤ run ∧ run ≤ pos:=by
 have:=stuffTo_bounds s pos
 rw [h.out] at this
 exact this
set_option maxHeartbeats 2000000 in
theorem impl_Stuff.yes (a0 : ByteArray) (w : World) (hsz : a0.size ≤ 2000) (hB0 : isBits a0 = true) :
  Calls Try.prog 20 #[.string a0] w fun e w' => e = .returned (.string (strOfNums (stuffL (bytesOf a0)))) ∧ Below w.heap.size w w':=by
 have hbt : Hid (impl_bitText.f a0 2000 = some true):=by
  refine Lib.hid ?_
  unfold impl_bitText.f
  rw [hB0,decide_eq_true (by omega)];rfl
 have HB:=Lib.hid hB0
 clear hB0
 have hcap : ((a0.size * 5 / 4 + 1 : Nat) : Int) = (a0.size : Int) * 5 / 4 + 1:=by omega
 go_enter Try.func20,Try.ntmps20
 go_wp2_with (go_at_call 77;refine (impl_bitText.calls _ _ true _ hbt.out).mono ?_;rintro e w1 ⟨rfl,hb1⟩;obtain ⟨w2,cap,hmk,ho2,hg2⟩:=make_R (P:=Try.prog) (Kd.int .u8) w1 w.heap.size 22 5 (.int .u8 0) 1 Try.underlying22 infoU8 (a0.size * 5 / 4 + 1) (by omega) (by simp only [maxLen];omega) hb1.size;rw [hcap] at hmk;have HO2:=Lib.hid ho2;have HBL:=Lib.hid (hb1.grown hg2 hb1.size (fun k hk => by cases hk));clear ho2 hb1 hg2 hcap)
 go_loopw [3,4,5] (fun v3 v4 v5 wr => ∃ (pos : Nat) (out : List Int) (run last : Int),StuffAt a0 pos out run last ∧ wr.heap[w2.heap.size]? = some (.stringIter a0 pos) ∧ Aside0 (Kd.R (Kd.int .u8) 5 wr w.heap.size (fun _ => True) v3 out) ∧ Aside0 (Below w.heap.size w wr) ∧ v4 = .int .i64 run ∧ v5 = .int .i32 last) (fun _ _ _ wr => a0.size - wr.iterPos w2.heap.size)
 case atStart => exact ⟨0, [],0,120,⟨stuffTo_zero a0⟩,iter_new _ _ _,⟨R_iter HO2.out a0 0⟩,⟨HBL.out.alloc HBL.out.size _⟩,rfl,rfl⟩
 case round =>
  obtain ⟨pos,out,run,last,hst,hit,HO,HW,rfl,rfl⟩:=hrel
  obtain ⟨hl,hr0,hr1⟩:=hst.bounds
  by_cases hp : pos < a0.size
  ·have hbit:=isBits_at HB.out hp
   have HSZ : Hid (w.heap.size ≤ w2.heap.size):=Lib.hid HBL.out.size
   rcases isBit_cases hbit with e | e
   ·have hnx:=fun ty => next_bit_at (P:=Try.prog) _ _ a0 pos ty hit hp (b:=48) (by rw [e];rfl) (by omega)
    have hst':=stuffTo_succ a0 pos hp (b:=48) (by rw [e];rfl)
    rw [hst.out] at hst'
    have HIT:=Lib.hid hit
    clear e hbit hit
    by_cases c1 : 48 = last
    ·subst c1
     by_cases c2 : run = 4
     ·subst c2
      have HS:=Aside0.mk (show StuffAt a0 (pos + 1) (out ++ [48] ++ [49]) 1 49 from ⟨hst'⟩)
      clear hst' hst
      go_wp2_with (first | (at_builtin;refine Kd.R_append (Kd.int .u8) (w0:=w) w.heap.size rfl (.tmp 28) (.tmp 31) 22 5 (.int .u8 0) 1 rfl Try.underlying22 infoU8 rfl (by decide) (by omega) _ out 48 [.int .u8 48] (fun _ => True) (fun _ => False) rfl rfl ?aP (fun _ hk => hk.elim) ?aF ?aO ?aB ?aS ?aL ?_;(case aP => exact rfl);(case aF => exact fun _ _ => trivial);(case aO => exact R_iterAt HO.out HIT.out (pos + 1));(case aB => exact (Lib.below_iterAt HW.out HSZ.out a0 (pos + 1)));(case aS => exact (Lib.below_iterAt HW.out HSZ.out a0 (pos + 1)).size);(case aL => simp;omega);intro v1 wA ho1 hb1 hg1 hat1;have HO1:=Aside0.mk ho1;have HW1:=Aside0.mk hb1;have HIT1:=Lib.hid (iter_grown (R_iterAt HO.out HIT.out (pos + 1)) hg1 (Lib.iterAt_heap _ _ a0 pos (pos + 1) HIT.out));clear ho1 hb1 hg1 hat1) | (at_builtin;refine Kd.R_append (Kd.int .u8) (w0:=w) w.heap.size rfl (.tmp 37) (.tmp 40) 22 5 (.int .u8 0) 1 rfl Try.underlying22 infoU8 rfl (by decide) (by omega) _ (out ++ [48]) 49 [.int .u8 49] (fun _ => True) (fun _ => False) rfl rfl ?aP (fun _ hk => hk.elim) ?aF ?aO ?aB ?aS ?aL ?_;(case aP => exact rfl);(case aF => exact fun _ _ => trivial);(case aO => exact HO1.out);(case aB => exact HW1.out);(case aS => exact HW1.out.size);(case aL => simp;omega);intro v2 wB ho2 hb2 hg2 hat2;have HO2':=Aside0.mk ho2;have HW2:=Aside0.mk hb2;have HIT2:=Lib.hid (iter_grown HO1.out hg2 HIT1.out);clear ho2 hb2 hg2 hat2))
      go_roundw
      case rel => exact ⟨pos + 1,_,_,_,HS.out,HIT2.out,HO2',HW2,rfl,rfl⟩
      case measure => rw [iterPos_at HIT2.out,iterPos_at HIT.out];omega
     ·have HS:=Aside0.mk (show StuffAt a0 (pos + 1) (out ++ [48]) (run + 1) 48 from ⟨hst'.trans (if_neg (by simp;omega))⟩)
      have c3 : ((run + 1 : Int) == 5) = false:=by rw [beq_eq_false_iff_ne];omega
      clear hst' hst c2
      go_wp2_with (first | (at_builtin;refine Kd.R_append (Kd.int .u8) (w0:=w) w.heap.size rfl (.tmp 28) (.tmp 31) 22 5 (.int .u8 0) 1 rfl Try.underlying22 infoU8 rfl (by decide) (by omega) _ out 48 [.int .u8 48] (fun _ => True) (fun _ => False) rfl rfl ?aP (fun _ hk => hk.elim) ?aF ?aO ?aB ?aS ?aL ?_;(case aP => exact rfl);(case aF => exact fun _ _ => trivial);(case aO => exact R_iterAt HO.out HIT.out (pos + 1));(case aB => exact (Lib.below_iterAt HW.out HSZ.out a0 (pos + 1)));(case aS => exact (Lib.below_iterAt HW.out HSZ.out a0 (pos + 1)).size);(case aL => simp;omega);intro v1 wA ho1 hb1 hg1 hat1;have HO1:=Aside0.mk ho1;have HW1:=Aside0.mk hb1;have HIT1:=Lib.hid (iter_grown (R_iterAt HO.out HIT.out (pos + 1)) hg1 (Lib.iterAt_heap _ _ a0 pos (pos + 1) HIT.out));clear ho1 hb1 hg1 hat1))
      go_roundw
      case rel => exact ⟨pos + 1,_,_,_,HS.out,HIT1.out,HO1,HW1,rfl,rfl⟩
      case measure => rw [iterPos_at HIT1.out,iterPos_at HIT.out];omega
    ·have HS:=Aside0.mk (show StuffAt a0 (pos + 1) (out ++ [48]) 1 48 from ⟨by rw [hst'];unfold stuffStep;simp only [];rw [if_neg (show ¬ ((48 : Nat) : Int) = last from c1),if_neg (by decide)];rfl⟩)
     have c3 : ((48 : Int) == last) = false:=by rw [beq_eq_false_iff_ne];exact c1
     clear hst' hst c1
     go_wp2_with (first | (at_builtin;refine Kd.R_append (Kd.int .u8) (w0:=w) w.heap.size rfl (.tmp 28) (.tmp 31) 22 5 (.int .u8 0) 1 rfl Try.underlying22 infoU8 rfl (by decide) (by omega) _ out 48 [.int .u8 48] (fun _ => True) (fun _ => False) rfl rfl ?aP (fun _ hk => hk.elim) ?aF ?aO ?aB ?aS ?aL ?_;(case aP => exact rfl);(case aF => exact fun _ _ => trivial);(case aO => exact R_iterAt HO.out HIT.out (pos + 1));(case aB => exact (Lib.below_iterAt HW.out HSZ.out a0 (pos + 1)));(case aS => exact (Lib.below_iterAt HW.out HSZ.out a0 (pos + 1)).size);(case aL => simp;omega);intro v1 wA ho1 hb1 hg1 hat1;have HO1:=Aside0.mk ho1;have HW1:=Aside0.mk hb1;have HIT1:=Lib.hid (iter_grown (R_iterAt HO.out HIT.out (pos + 1)) hg1 (Lib.iterAt_heap _ _ a0 pos (pos + 1) HIT.out));clear ho1 hb1 hg1 hat1))
     go_roundw
     case rel => exact ⟨pos + 1,_,_,_,HS.out,HIT1.out,HO1,HW1,rfl,rfl⟩
     case measure => rw [iterPos_at HIT1.out,iterPos_at HIT.out];omega
   ·have hnx:=fun ty => next_bit_at (P:=Try.prog) _ _ a0 pos ty hit hp (b:=49) (by rw [e];rfl) (by omega)
    have hst':=stuffTo_succ a0 pos hp (b:=49) (by rw [e];rfl)
    rw [hst.out] at hst'
    have HIT:=Lib.hid hit
    clear e hbit hit
    by_cases c1 : 49 = last
    ·subst c1
     by_cases c2 : run = 4
     ·subst c2
      have HS:=Aside0.mk (show StuffAt a0 (pos + 1) (out ++ [49] ++ [48]) 1 48 from ⟨hst'⟩)
      clear hst' hst
      go_wp2_with (first | (at_builtin;refine Kd.R_append (Kd.int .u8) (w0:=w) w.heap.size rfl (.tmp 28) (.tmp 31) 22 5 (.int .u8 0) 1 rfl Try.underlying22 infoU8 rfl (by decide) (by omega) _ out 49 [.int .u8 49] (fun _ => True) (fun _ => False) rfl rfl ?aP (fun _ hk => hk.elim) ?aF ?aO ?aB ?aS ?aL ?_;(case aP => exact rfl);(case aF => exact fun _ _ => trivial);(case aO => exact R_iterAt HO.out HIT.out (pos + 1));(case aB => exact (Lib.below_iterAt HW.out HSZ.out a0 (pos + 1)));(case aS => exact (Lib.below_iterAt HW.out HSZ.out a0 (pos + 1)).size);(case aL => simp;omega);intro v1 wA ho1 hb1 hg1 hat1;have HO1:=Aside0.mk ho1;have HW1:=Aside0.mk hb1;have HIT1:=Lib.hid (iter_grown (R_iterAt HO.out HIT.out (pos + 1)) hg1 (Lib.iterAt_heap _ _ a0 pos (pos + 1) HIT.out));clear ho1 hb1 hg1 hat1) | (at_builtin;refine Kd.R_append (Kd.int .u8) (w0:=w) w.heap.size rfl (.tmp 37) (.tmp 40) 22 5 (.int .u8 0) 1 rfl Try.underlying22 infoU8 rfl (by decide) (by omega) _ (out ++ [49]) 48 [.int .u8 48] (fun _ => True) (fun _ => False) rfl rfl ?aP (fun _ hk => hk.elim) ?aF ?aO ?aB ?aS ?aL ?_;(case aP => exact rfl);(case aF => exact fun _ _ => trivial);(case aO => exact HO1.out);(case aB => exact HW1.out);(case aS => exact HW1.out.size);(case aL => simp;omega);intro v2 wB ho2 hb2 hg2 hat2;have HO2':=Aside0.mk ho2;have HW2:=Aside0.mk hb2;have HIT2:=Lib.hid (iter_grown HO1.out hg2 HIT1.out);clear ho2 hb2 hg2 hat2))
      go_roundw
      case rel => exact ⟨pos + 1,_,_,_,HS.out,HIT2.out,HO2',HW2,rfl,rfl⟩
      case measure => rw [iterPos_at HIT2.out,iterPos_at HIT.out];omega
     ·have HS:=Aside0.mk (show StuffAt a0 (pos + 1) (out ++ [49]) (run + 1) 49 from ⟨hst'.trans (if_neg (by simp;omega))⟩)
      have c3 : ((run + 1 : Int) == 5) = false:=by rw [beq_eq_false_iff_ne];omega
      clear hst' hst c2
      go_wp2_with (first | (at_builtin;refine Kd.R_append (Kd.int .u8) (w0:=w) w.heap.size rfl (.tmp 28) (.tmp 31) 22 5 (.int .u8 0) 1 rfl Try.underlying22 infoU8 rfl (by decide) (by omega) _ out 49 [.int .u8 49] (fun _ => True) (fun _ => False) rfl rfl ?aP (fun _ hk => hk.elim) ?aF ?aO ?aB ?aS ?aL ?_;(case aP => exact rfl);(case aF => exact fun _ _ => trivial);(case aO => exact R_iterAt HO.out HIT.out (pos + 1));(case aB => exact (Lib.below_iterAt HW.out HSZ.out a0 (pos + 1)));(case aS => exact (Lib.below_iterAt HW.out HSZ.out a0 (pos + 1)).size);(case aL => simp;omega);intro v1 wA ho1 hb1 hg1 hat1;have HO1:=Aside0.mk ho1;have HW1:=Aside0.mk hb1;have HIT1:=Lib.hid (iter_grown (R_iterAt HO.out HIT.out (pos + 1)) hg1 (Lib.iterAt_heap _ _ a0 pos (pos + 1) HIT.out));clear ho1 hb1 hg1 hat1))
      go_roundw
      case rel => exact ⟨pos + 1,_,_,_,HS.out,HIT1.out,HO1,HW1,rfl,rfl⟩
      case measure => rw [iterPos_at HIT1.out,iterPos_at HIT.out];omega
    ·have HS:=Aside0.mk (show StuffAt a0 (pos + 1) (out ++ [49]) 1 49 from ⟨by rw [hst'];unfold stuffStep;simp only [];rw [if_neg (show ¬ ((49 : Nat) : Int) = last from c1),if_neg (by decide)];rfl⟩)
     have c3 : ((49 : Int) == last) = false:=by rw [beq_eq_false_iff_ne];exact c1
     clear hst' hst c1
     go_wp2_with (first | (at_builtin;refine Kd.R_append (Kd.int .u8) (w0:=w) w.heap.size rfl (.tmp 28) (.tmp 31) 22 5 (.int .u8 0) 1 rfl Try.underlying22 infoU8 rfl (by decide) (by omega) _ out 49 [.int .u8 49] (fun _ => True) (fun _ => False) rfl rfl ?aP (fun _ hk => hk.elim) ?aF ?aO ?aB ?aS ?aL ?_;(case aP => exact rfl);(case aF => exact fun _ _ => trivial);(case aO => exact R_iterAt HO.out HIT.out (pos + 1));(case aB => exact (Lib.below_iterAt HW.out HSZ.out a0 (pos + 1)));(case aS => exact (Lib.below_iterAt HW.out HSZ.out a0 (pos + 1)).size);(case aL => simp;omega);intro v1 wA ho1 hb1 hg1 hat1;have HO1:=Aside0.mk ho1;have HW1:=Aside0.mk hb1;have HIT1:=Lib.hid (iter_grown (R_iterAt HO.out HIT.out (pos + 1)) hg1 (Lib.iterAt_heap _ _ a0 pos (pos + 1) HIT.out));clear ho1 hb1 hg1 hat1))
     go_roundw
     case rel => exact ⟨pos + 1,_,_,_,HS.out,HIT1.out,HO1,HW1,rfl,rfl⟩
     case measure => rw [iterPos_at HIT1.out,iterPos_at HIT.out];omega
  ·have hnx:=fun ty => Lib.run_next_end_at (P:=Try.prog) _ _ a0 pos ty hit hp
   have hcv:=own_string (P:=Try.prog) Try.underlying22 Try.underlying5 Try.underlying9 (Kd.own_of_R HO.out)
   go_wp2
   go_ret
   exact ⟨by rw [← stuffTo_end a0 pos hp,hst.out];rfl,HW.out⟩
theorem impl_Stuff.calls (a0 : ByteArray) (r : ByteArray) (w : World) (h : impl_Stuff.f a0 = some r) :
  Calls Try.prog 20 #[.string a0] w fun e w' => e = .returned (.string r) ∧ Below w.heap.size w w':=by
 by_cases c : a0.size ≤ 2000 ∧ isBits a0 = true
 ·obtain rfl : r = strOfNums (stuffL (bytesOf a0)):=(Option.some.inj h).symm.trans (if_pos c)
  exact impl_Stuff.yes a0 w c.1 c.2
 ·obtain rfl : r = ⟨#[]⟩:=(Option.some.inj h).symm.trans (if_neg c)
  clear h
  have hbt : Hid (impl_bitText.f a0 2000 = some false):=by
   refine Lib.hid ?_
   unfold impl_bitText.f
   congr 1
   rw [Bool.and_eq_false_iff]
   by_cases h : isBits a0 = true
   ·exact .inl (decide_eq_false fun h2 => c ⟨by omega,h⟩)
   ·exact .inr (by simpa using h)
  clear c
  go_enter Try.func20,Try.ntmps20
  go_wp2_with (go_at_call 77;refine (impl_bitText.calls _ _ false _ hbt.out).mono ?_;rintro e w1 ⟨rfl,hb1⟩)
  go_ret
  exact ⟨rfl,hb1⟩
end Go.Proofs.Ytdoclpgciadjaaa.P

namespace Go.Proofs.Ytdoclpgciadjaaa.P
open Go.RowKit Go.Proofs.YtdoclpgciadjaaaW.PrintWords Go.Proofs.YtdoclpgciadjaaaW.PrintLast Go.Proofs.YtdoclpgciadjaaaW.PrintMore
set_option linter.unusedVariables false
set_option linter.unusedSimpArgs false
mutual
def laws_wOpen.l0 : Nat → List Int → Int → Int → Bool → Int → Bool → Int → List Int → Option (List Int)
 | 0,_,_,_,_,_,_,_,_ => none
 | k + 1,x3,x4,x5,x197000,x197001,x197002,x197003,x197004 => if x5 < x4 then (if x5 = 12 then (laws_wOpen.j1 k x3 x4 x5 true x197000 x197001 x197002 x197003 x197004) else (laws_wOpen.j1 k x3 x4 x5 (x5 == 13) x197000 x197001 x197002 x197003 x197004)) else (some x3)
def laws_wOpen.j1 : Nat → List Int → Int → Int → Bool → Bool → Int → Bool → Int → List Int → Option (List Int)
 | 0,_,_,_,_,_,_,_,_,_ => none
 | k + 1,x3,x4,x5,x21,x197000,x197001,x197002,x197003,x197004 => if x21 = true then (laws_wOpen.l0 k x3 x4 (wrap64 (x5 + 1)) x197000 x197001 x197002 x197003 x197004) else (if x197000 = true then (if x5 = 32 then (laws_wOpen.j2 k x3 x4 x5 true x197000 x197001 x197002 x197003 x197004) else (if x5 ≥ 35 then (laws_wOpen.j2 k x3 x4 x5 (decide (x5 < 39)) x197000 x197001 x197002 x197003 x197004) else (laws_wOpen.j2 k x3 x4 x5 false x197000 x197001 x197002 x197003 x197004))) else (laws_wOpen.j2 k x3 x4 x5 false x197000 x197001 x197002 x197003 x197004))
def laws_wOpen.j2 : Nat → List Int → Int → Int → Bool → Bool → Int → Bool → Int → List Int → Option (List Int)
 | 0,_,_,_,_,_,_,_,_,_ => none
 | k + 1,x3,x4,x5,x35,x197000,x197001,x197002,x197003,x197004 => if x35 = true then (laws_wOpen.l0 k x3 x4 (wrap64 (x5 + 1)) x197000 x197001 x197002 x197003 x197004) else (if x197000 = true then (if x3.length < 17592186044416 then (laws_wOpen.l0 k (x3 ++ [x5]) x4 (wrap64 (x5 + 1)) x197000 x197001 x197002 x197003 x197004) else (none)) else (if x5 ≥ 15 then (if x5 < 19 then (laws_wOpen.l0 k x3 x4 (wrap64 (x5 + 1)) x197000 x197001 x197002 x197003 x197004) else (if x3.length < 17592186044416 then (laws_wOpen.l0 k (x3 ++ [x5]) x4 (wrap64 (x5 + 1)) x197000 x197001 x197002 x197003 x197004) else (none))) else (if x3.length < 17592186044416 then (laws_wOpen.l0 k (x3 ++ [x5]) x4 (wrap64 (x5 + 1)) x197000 x197001 x197002 x197003 x197004) else (none))))
end
def laws_wOpen.f (k : Nat) (a0_0 : Bool) (a0_1 : Int) (a0_2 : Bool) (a0_3 : Int) (l0_4 : List Int) : Option (List Int):=(spec_Body.f a0_0 a0_1 a0_2 a0_3 l0_4).bind fun t200 => (laws_wOpen.l0 k (([] : List Int)) (wrap64 ((t200.size : Int) + 15)) 1 a0_0 a0_1 a0_2 a0_3 l0_4)
set_option maxHeartbeats 8000000 in
set_option maxRecDepth 100000 in
theorem laws_wOpen.calls (k : Nat) (a0_0 : Bool) (a0_1 : Int) (a0_2 : Bool) (a0_3 : Int) (A0_4 : Option Addr) (c0_4 : Nat) (l0_4 : List Int) (r : List Int) (w : World) (hr0_4 : Kd.C (Kd.int .u8) w A0_4 l0_4.length l0_4) (hc0_4 : l0_4.length ≤ c0_4) (h : laws_wOpen.f k a0_0 a0_1 a0_2 a0_3 l0_4 = some r) :
  Calls Try.prog 21 #[.agg #[.bool a0_0, .int .u32 a0_1, .bool a0_2, .int .i64 a0_3, .slice A0_4 l0_4.length c0_4]] w fun e w' => ∃ v0_ : Value,e = .returned (v0_) ∧ Kd.R (Kd.int .i64) 3 w' w.heap.size (fun _ => True) v0_ r ∧ Below w.heap.size w w':=by
 have hu25:=Try.underlying25
 have HR0_4:=Aside0.mk hr0_4
 have HC0_4:=Aside0.mk hc0_4
 clear hr0_4 hc0_4
 have HB:=Aside0.mk (Below.refl w.heap.size w)
 have H : ((spec_Body.f a0_0 a0_1 a0_2 a0_3 l0_4).bind fun t200 => (laws_wOpen.l0 k (([] : List Int)) (wrap64 ((t200.size : Int) + 15)) 1 a0_0 a0_1 a0_2 a0_3 l0_4)) = some r:=h
 clear h
 obtain ⟨y197,hy197⟩ : ∃ y_ : List Int,y_ = (([] : List Int)):=⟨_,rfl⟩
 replace H : ((spec_Body.f a0_0 a0_1 a0_2 a0_3 l0_4).bind fun t200 => (laws_wOpen.l0 k y197 (wrap64 ((t200.size : Int) + 15)) 1 a0_0 a0_1 a0_2 a0_3 l0_4)) = some r:=by first | (rw [hy197];with_reducible exact H) | (have H2_:=(Option.bind_some _ _).symm.trans H;rw [hy197];with_reducible exact H2_) | (have H2_:=(Option.bind_some _ _).symm.trans H;with_reducible exact H2_) | with_reducible exact H | (rw [hy197];exact H) | exact H
 have Ny197:=Aside0.mk hy197
 clear hy197
 replace H:=Option.bind_eq_some_iff.mp H
 obtain ⟨t200,A20,H⟩:=H
 replace H : (laws_wOpen.l0 k y197 (wrap64 ((t200.size : Int) + 15)) 1 a0_0 a0_1 a0_2 a0_3 l0_4) = some r:=H
 have A2:=Aside0.mk A20
 clear A20
 have H':=Aside0.mk H
 clear H
 go_enter Try.func21,Try.ntmps21
 go_wp2_with (first | ((with_reducible refine gate_dst (N:=1) rfl ?_);refine box_event ?hg (N:=1) ?hd (cs := #[.bool a0_0, .int .u32 a0_1, .bool a0_2, .int .i64 a0_3, .slice A0_4 l0_4.length c0_4]) (t:=25) ?hr ?_;(case hd => rfl);(case hg => rfl);(case hr => first | (go_simp;done) | (go_simp;rfl));intro gb196 hg w3 hbox hb;have n0_:=Aside0.mk (below_step (by repeat (first | (with_reducible first | exact HB.out | apply below_alloc | apply pw_below_drewN | apply below_drew1) | exact HB.out)) hb);have n1_:=Aside0.mk (hbox);have n2_:=Aside0.mk ((by rw [hg];exact (below_size (by repeat (first | (with_reducible first | exact HB.out | apply below_alloc | apply pw_below_drewN | apply below_drew1) | exact HB.out))) : w.heap.size ≤ gb196));have n3_:=Aside0.mk ((by rw [hg];exact (below_size (by repeat (first | (with_reducible first | exact HB.out | apply below_alloc | apply pw_below_drewN | apply below_drew1) | exact HB.out))) : w.heap.size ≤ gb196));clear HB;have HB:=n0_;have BK196:=n1_;have GW196:=n2_;have GE196:=n3_;clear n0_ n1_ n2_ n3_;clear hb hbox hg) | ((with_reducible refine gate_dst (N:=6) rfl ?_);refine Kd.R_lit (Kd.int .i64) _ 3 ?hg (N:=6) ?hd (xs:=([] : List Int)) (inner := []) (ok:=fun _ => True) (okp:=fun _ => True) ?hr ?hp (fun _ hk => hk) trivial (Below.refl _ _) (Nat.le_refl _) (by simp) ?_;(case hd => rfl);(case hg => rfl);(case hr => first | (go_simp;done) | (go_simp;rfl));(case hp => exact (Reps.none _ _));intro v198 w4 ho5 hb hg_ hnew_;clear hg_ hnew_;(first | rw [← Ny197.out] at ho5 | (simp only [Int.reduceToNat] at ho5;rw [← Ny197.out] at ho5));have n0_:=Aside0.mk (Kd.R_lower ho5 (below_size (by repeat (first | (with_reducible first | exact HB.out | apply below_alloc | apply pw_below_drewN | apply below_drew1 | refine below_set ?_ GE196.out) | exact HB.out))));have n1_:=Aside0.mk (blk_below (g:=gb196) (o := .cells #[.bool a0_0, .int .u32 a0_1, .bool a0_2, .int .i64 a0_3, .slice A0_4 l0_4.length c0_4] 25 (0,0)) (by (with_reducible repeat (first | refine blk_drewN ?_ _ | refine blk_drew ?_ | refine blk_alloc ?_ _));exact BK196.out) hb);have n2_:=Aside0.mk (below_step (by repeat (first | (with_reducible first | exact HB.out | apply below_alloc | apply pw_below_drewN | apply below_drew1 | refine below_set ?_ GE196.out) | exact HB.out)) hb);clear BK196;clear HB;have HO199:=n0_;have BK196:=n1_;have HB:=n2_;clear n0_ n1_ n2_;clear hb ho5;have hcz6_0 : w4.cell? ⟨gb196,0,none⟩ = some (.bool a0_0):=(blk_cell BK196.out 0).trans rfl;have hcz6_1 : w4.cell? ⟨gb196,1,none⟩ = some (.int .u32 a0_1):=(blk_cell BK196.out 1).trans rfl;have hcz6_2 : w4.cell? ⟨gb196,2,none⟩ = some (.bool a0_2):=(blk_cell BK196.out 2).trans rfl;have hcz6_3 : w4.cell? ⟨gb196,3,none⟩ = some (.int .i64 a0_3):=(blk_cell BK196.out 3).trans rfl;have hcz6_4 : w4.cell? ⟨gb196,4,none⟩ = some (.slice A0_4 l0_4.length c0_4):=(blk_cell BK196.out 4).trans rfl;have hfz6_0:=blk_frozen BK196.out 0;have hfz6_1:=blk_frozen BK196.out 1;have hfz6_2:=blk_frozen BK196.out 2;have hfz6_3:=blk_frozen BK196.out 3;have hfz6_4:=blk_frozen BK196.out 4) | ((with_reducible refine gate_callee (f:=18) rfl ?_);refine goesL_ (some 8) rfl rfl Try.func18 (by kernel_rfl) rfl #[.agg #[.bool a0_0, .int .u32 a0_1, .bool a0_2, .int .i64 a0_3, .slice A0_4 l0_4.length c0_4]] rfl (by (try simp only [List.map_toArray,List.map_cons,List.map_nil]);first | done | rfl | (simp only [List.length_drop,List.length_take];rfl)) ?_;(with_reducible refine (spec_Body.calls a0_0 a0_1 a0_2 a0_3 _ _ l0_4 t200 _ ?side1 ?side2 A2.out).mono ?_);(case side1 => repeat (first | exact (Kd.C_below HR0_4.out HB.out) | (with_reducible refine Kd.C_alloc ?_ _) | (with_reducible refine Kd.C_drewN ?_ _) | (with_reducible refine Kd.C_drew ?_)));(case side2 => exact HC0_4.out);rintro e w7 ⟨rfl,hb⟩;refine ⟨_,rfl, ?_⟩;have n0_:=Aside0.mk (Kd.R_below (by (with_reducible repeat (first | apply Kd.R_alloc | apply Kd.R_drewN | apply Kd.R_drew));exact HO199.out) hb);have n1_:=Aside0.mk (blk_below (g:=gb196) (o := .cells #[.bool a0_0, .int .u32 a0_1, .bool a0_2, .int .i64 a0_3, .slice A0_4 l0_4.length c0_4] 25 (0,0)) (by (with_reducible repeat (first | refine blk_drewN ?_ _ | refine blk_drew ?_ | refine blk_alloc ?_ _));exact BK196.out) hb);have n2_:=Aside0.mk (below_step (by repeat (first | (with_reducible first | exact HB.out | apply below_alloc | apply pw_below_drewN | apply below_drew1 | refine below_set ?_ GE196.out) | exact HB.out)) hb);clear HO199;clear BK196;clear HB;have HO199:=n0_;have BK196:=n1_;have HB:=n2_;clear n0_ n1_ n2_;(try clear hb);(try clear hb2);(try clear hk);(try clear hi)))
 go_loopg [3,5] k (fun kq v3 v5 w' => ∃ (x3_1 : List Int) (x5_1 : Int),v5 = .int .i64 x5_1 ∧ Aside0 (laws_wOpen.l0 kq x3_1 (wrap64 ((t200.size : Int) + 15)) x5_1 a0_0 a0_1 a0_2 a0_3 l0_4 = some r) ∧ Aside0 (kq ≤ k) ∧ Aside0 (Kd.R (Kd.int .i64) 3 w' w.heap.size (fun _ => True) v3 x3_1) ∧ Aside0 (w'.heap[gb196]? = some (.cells #[.bool a0_0, .int .u32 a0_1, .bool a0_2, .int .i64 a0_3,(.slice A0_4 l0_4.length c0_4)] 25 (0,0))) ∧ Aside0 (Below w.heap.size w w'))
 case atStart => exact ⟨(y197),(1),(by first | rfl | (simp;done) | (simp [*];done)),H',⟨Nat.le_refl _⟩,⟨by (with_reducible repeat (first | apply Kd.R_alloc | apply Kd.R_drewN | apply Kd.R_drew));exact HO199.out⟩,⟨by (with_reducible repeat (first | refine blk_drewN ?_ _ | refine blk_drew ?_ | refine blk_alloc ?_ _));exact BK196.out⟩,⟨by repeat (first | (with_reducible first | exact HB.out | apply below_alloc | apply pw_below_drewN | apply below_drew1 | refine below_set ?_ GE196.out) | exact HB.out)⟩⟩
 case round =>
  clear H'
  try clear c1
  try clear c2
  try clear p2
  try clear p6
  try clear hcz6_0
  try clear hcz6_1
  try clear hcz6_2
  try clear hcz6_3
  try clear hcz6_4
  try clear hfz6_0
  try clear hfz6_1
  try clear hfz6_2
  try clear hfz6_3
  try clear hfz6_4
  obtain ⟨x3_1,x5_1,rfl,HA,HK1,HO_3,BK196,HB⟩:=hrel
  cases gk with
  | zero => exact absurd HA.out (by simp [laws_wOpen.l0])
  | succ k1 =>
   have H:=HA.out
   clear HA
   simp only [laws_wOpen.l0] at H
   by_cases c8 : x5_1 < (wrap64 ((t200.size : Int) + 15))
   ·rw [if_pos c8] at H
    have c8b0 : decide (x5_1 < (wrap64 ((t200.size : Int) + 15))) = true:=decide_eq_true c8
    clear c8
    have HC9:=Aside0.mk H
    clear H
    go_upto_region 6 with (fail)
    go_cut [21] (fun v21 wc => ∃ (kq : Nat) (x21_8 : Bool),v21 = .bool x21_8 ∧ Aside0 (laws_wOpen.j1 kq x3_1 (wrap64 ((t200.size : Int) + 15)) x5_1 x21_8 a0_0 a0_1 a0_2 a0_3 l0_4 = some r) ∧ Aside0 (kq ≤ k1) ∧ Aside0 (Kd.R (Kd.int .i64) 3 wc w.heap.size (fun _ => True) u3 x3_1) ∧ Aside0 (wc.heap[gb196]? = some (.cells #[.bool a0_0, .int .u32 a0_1, .bool a0_2, .int .i64 a0_3,(.slice A0_4 l0_4.length c0_4)] 25 (0,0))) ∧ Aside0 (Below w.heap.size w wc))
    case first =>
     have H:=HC9.out
     clear HC9
     by_cases c10 : x5_1 = 12
     ·rw [if_pos c10] at H
      have c10b0 : (x5_1 == 12) = true:=beq_iff_eq.mpr c10
      have c10b1 : (x5_1 != 12) = false:=bne_eq_false_iff_eq.mpr c10
      clear c10
      (first | rw [c10b0] | (simp only [i64_w,i32_w];rw [c10b0]) | skip)
      have H':=Aside0.mk H
      clear H
      go_wp2
      go_meet
      case rel => exact ⟨_,(true),(by first | rfl | (simp;done) | (simp [*];done)),H',⟨by have:=HK1.out;first | omega | exact Nat.le_refl _⟩,⟨by (with_reducible repeat (first | apply Kd.R_alloc | apply Kd.R_drewN | apply Kd.R_drew));exact HO_3.out⟩,⟨by (with_reducible repeat (first | refine blk_drewN ?_ _ | refine blk_drew ?_ | refine blk_alloc ?_ _));exact BK196.out⟩,⟨by repeat (first | (with_reducible first | exact HB.out | apply below_alloc | apply pw_below_drewN | apply below_drew1 | refine below_set ?_ GE196.out) | exact HB.out)⟩⟩
     ·rw [if_neg c10] at H
      have c10b0 : (x5_1 == 12) = false:=beq_eq_false_iff_ne.mpr c10
      have c10b1 : (x5_1 != 12) = true:=bne_iff_ne.mpr c10
      (first | rw [c10b0] | (simp only [i64_w,i32_w];rw [c10b0]) | skip)
      have H':=Aside0.mk H
      clear H
      go_wp2
      go_meet
      case rel => exact ⟨_,((x5_1 == 13)),(by first | rfl | (simp;done) | (simp [*];done)),H',⟨by have:=HK1.out;first | omega | exact Nat.le_refl _⟩,⟨by (with_reducible repeat (first | apply Kd.R_alloc | apply Kd.R_drewN | apply Kd.R_drew));exact HO_3.out⟩,⟨by (with_reducible repeat (first | refine blk_drewN ?_ _ | refine blk_drew ?_ | refine blk_alloc ?_ _));exact BK196.out⟩,⟨by repeat (first | (with_reducible first | exact HB.out | apply below_alloc | apply pw_below_drewN | apply below_drew1 | refine below_set ?_ GE196.out) | exact HB.out)⟩⟩
    case rest =>
     clear HC9
     try clear c1
     try clear c2
     try clear p2
     try clear p6
     try clear c8
     try clear c8b0
     try clear c10
     try clear c10b0
     try clear c10b1
     try clear hcz6_0
     try clear hcz6_1
     try clear hcz6_2
     try clear hcz6_3
     try clear hcz6_4
     try clear hfz6_0
     try clear hfz6_1
     try clear hfz6_2
     try clear hfz6_3
     try clear hfz6_4
     try clear p2
     try clear p6
     obtain ⟨kq,x21_8,rfl,HA,HJ8,HO_3,BK196,HB⟩:=hcut
     cases kq with
     | zero => exact absurd HA.out (by simp [laws_wOpen.j1])
     | succ kj8 =>
      have H:=HA.out
      clear HA
      simp only [laws_wOpen.j1] at H
      by_cases c11 : x21_8 = true
      ·subst c11
       have H1 : (laws_wOpen.l0 kj8 x3_1 (wrap64 ((t200.size : Int) + 15)) (wrap64 (x5_1 + 1)) a0_0 a0_1 a0_2 a0_3 l0_4) = some r:=by rw [if_pos rfl] at H;exact H
       clear H
       have H:=H1
       clear H1
       have H':=Aside0.mk H
       clear H
       go_wp2
       go_roundg kj8
       case measure => have:=HK1.out;have:=HJ8.out;omega
       case rel => exact ⟨(x3_1),(wrap64 (x5_1 + 1)),(by first | rfl | (simp;done) | (simp [*];done)),H',⟨by have:=HK1.out;have:=HJ8.out;omega⟩,⟨by (with_reducible repeat (first | apply Kd.R_alloc | apply Kd.R_drewN | apply Kd.R_drew));exact HO_3.out⟩,⟨by (with_reducible repeat (first | refine blk_drewN ?_ _ | refine blk_drew ?_ | refine blk_alloc ?_ _));exact BK196.out⟩,⟨by repeat (first | (with_reducible first | exact HB.out | apply below_alloc | apply pw_below_drewN | apply below_drew1 | refine below_set ?_ GE196.out) | exact HB.out)⟩⟩
      ·replace c11:=Bool.eq_false_iff.mpr c11
       subst c11
       have H1 : (if a0_0 = true then (if x5_1 = 32 then (laws_wOpen.j2 kj8 x3_1 (wrap64 ((t200.size : Int) + 15)) x5_1 true a0_0 a0_1 a0_2 a0_3 l0_4) else (if x5_1 ≥ 35 then (laws_wOpen.j2 kj8 x3_1 (wrap64 ((t200.size : Int) + 15)) x5_1 (decide (x5_1 < 39)) a0_0 a0_1 a0_2 a0_3 l0_4) else (laws_wOpen.j2 kj8 x3_1 (wrap64 ((t200.size : Int) + 15)) x5_1 false a0_0 a0_1 a0_2 a0_3 l0_4))) else (laws_wOpen.j2 kj8 x3_1 (wrap64 ((t200.size : Int) + 15)) x5_1 false a0_0 a0_1 a0_2 a0_3 l0_4)) = some r:=by rw [if_neg (show ¬ (false = true) by decide)] at H;exact H
       clear H
       have H:=H1
       clear H1
       have HC12:=Aside0.mk H
       clear H
       go_upto_region 7 with (fail)
       go_cut [35] (fun v35 wc => ∃ (kq : Nat) (x35_11 : Bool),v35 = .bool x35_11 ∧ Aside0 (laws_wOpen.j2 kq x3_1 (wrap64 ((t200.size : Int) + 15)) x5_1 x35_11 a0_0 a0_1 a0_2 a0_3 l0_4 = some r) ∧ Aside0 (kq ≤ kj8) ∧ Aside0 (Kd.R (Kd.int .i64) 3 wc w.heap.size (fun _ => True) u3 x3_1) ∧ Aside0 (wc.heap[gb196]? = some (.cells #[.bool a0_0, .int .u32 a0_1, .bool a0_2, .int .i64 a0_3,(.slice A0_4 l0_4.length c0_4)] 25 (0,0))) ∧ Aside0 (Below w.heap.size w wc))
       case first =>
        have H:=HC12.out
        clear HC12
        by_cases c13 : a0_0 = true
        ·subst c13
         have H1 : (if x5_1 = 32 then (laws_wOpen.j2 kj8 x3_1 (wrap64 ((t200.size : Int) + 15)) x5_1 true true a0_1 a0_2 a0_3 l0_4) else (if x5_1 ≥ 35 then (laws_wOpen.j2 kj8 x3_1 (wrap64 ((t200.size : Int) + 15)) x5_1 (decide (x5_1 < 39)) true a0_1 a0_2 a0_3 l0_4) else (laws_wOpen.j2 kj8 x3_1 (wrap64 ((t200.size : Int) + 15)) x5_1 false true a0_1 a0_2 a0_3 l0_4))) = some r:=by rw [if_pos rfl] at H;exact H
         clear H
         have H:=H1
         clear H1
         by_cases c14 : x5_1 = 32
         ·rw [if_pos c14] at H
          have c14b0 : (x5_1 == 32) = true:=beq_iff_eq.mpr c14
          have c14b1 : (x5_1 != 32) = false:=bne_eq_false_iff_eq.mpr c14
          clear c14
          (first | rw [c14b0] | (simp only [i64_w,i32_w];rw [c14b0]) | skip)
          have H':=Aside0.mk H
          clear H
          have hcz15_0 : wc.cell? ⟨gb196,0,none⟩ = some (.bool true):=(blk_cell BK196.out 0).trans rfl
          have hcz15_1 : wc.cell? ⟨gb196,1,none⟩ = some (.int .u32 a0_1):=(blk_cell BK196.out 1).trans rfl
          have hcz15_2 : wc.cell? ⟨gb196,2,none⟩ = some (.bool a0_2):=(blk_cell BK196.out 2).trans rfl
          have hcz15_3 : wc.cell? ⟨gb196,3,none⟩ = some (.int .i64 a0_3):=(blk_cell BK196.out 3).trans rfl
          have hcz15_4 : wc.cell? ⟨gb196,4,none⟩ = some (.slice A0_4 l0_4.length c0_4):=(blk_cell BK196.out 4).trans rfl
          have hfz15_0:=blk_frozen BK196.out 0
          have hfz15_1:=blk_frozen BK196.out 1
          have hfz15_2:=blk_frozen BK196.out 2
          have hfz15_3:=blk_frozen BK196.out 3
          have hfz15_4:=blk_frozen BK196.out 4
          go_wp2
          go_meet
          case rel => exact ⟨_,(true),(by first | rfl | (simp;done) | (simp [*];done)),H',⟨by have:=HK1.out;have:=HJ8.out;first | omega | exact Nat.le_refl _⟩,⟨by (with_reducible repeat (first | apply Kd.R_alloc | apply Kd.R_drewN | apply Kd.R_drew));exact HO_3.out⟩,⟨by (with_reducible repeat (first | refine blk_drewN ?_ _ | refine blk_drew ?_ | refine blk_alloc ?_ _));exact BK196.out⟩,⟨by repeat (first | (with_reducible first | exact HB.out | apply below_alloc | apply pw_below_drewN | apply below_drew1 | refine below_set ?_ GE196.out) | exact HB.out)⟩⟩
         ·rw [if_neg c14] at H
          have c14b0 : (x5_1 == 32) = false:=beq_eq_false_iff_ne.mpr c14
          have c14b1 : (x5_1 != 32) = true:=bne_iff_ne.mpr c14
          (first | rw [c14b0] | (simp only [i64_w,i32_w];rw [c14b0]) | skip)
          by_cases c16 : x5_1 ≥ 35
          ·rw [if_pos c16] at H
           have c16b0 : decide (35 ≤ x5_1) = true:=decide_eq_true c16
           clear c16
           have H':=Aside0.mk H
           clear H
           have hcz17_0 : wc.cell? ⟨gb196,0,none⟩ = some (.bool true):=(blk_cell BK196.out 0).trans rfl
           have hcz17_1 : wc.cell? ⟨gb196,1,none⟩ = some (.int .u32 a0_1):=(blk_cell BK196.out 1).trans rfl
           have hcz17_2 : wc.cell? ⟨gb196,2,none⟩ = some (.bool a0_2):=(blk_cell BK196.out 2).trans rfl
           have hcz17_3 : wc.cell? ⟨gb196,3,none⟩ = some (.int .i64 a0_3):=(blk_cell BK196.out 3).trans rfl
           have hcz17_4 : wc.cell? ⟨gb196,4,none⟩ = some (.slice A0_4 l0_4.length c0_4):=(blk_cell BK196.out 4).trans rfl
           have hfz17_0:=blk_frozen BK196.out 0
           have hfz17_1:=blk_frozen BK196.out 1
           have hfz17_2:=blk_frozen BK196.out 2
           have hfz17_3:=blk_frozen BK196.out 3
           have hfz17_4:=blk_frozen BK196.out 4
           go_wp2
           go_meet
           case rel => exact ⟨_,(decide (x5_1 < 39)),(by first | rfl | (simp;done) | (simp [*];done)),H',⟨by have:=HK1.out;have:=HJ8.out;first | omega | exact Nat.le_refl _⟩,⟨by (with_reducible repeat (first | apply Kd.R_alloc | apply Kd.R_drewN | apply Kd.R_drew));exact HO_3.out⟩,⟨by (with_reducible repeat (first | refine blk_drewN ?_ _ | refine blk_drew ?_ | refine blk_alloc ?_ _));exact BK196.out⟩,⟨by repeat (first | (with_reducible first | exact HB.out | apply below_alloc | apply pw_below_drewN | apply below_drew1 | refine below_set ?_ GE196.out) | exact HB.out)⟩⟩
          ·rw [if_neg c16] at H
           have c16b0 : decide (35 ≤ x5_1) = false:=decide_eq_false c16
           clear c16
           have H':=Aside0.mk H
           clear H
           have hcz18_0 : wc.cell? ⟨gb196,0,none⟩ = some (.bool true):=(blk_cell BK196.out 0).trans rfl
           have hcz18_1 : wc.cell? ⟨gb196,1,none⟩ = some (.int .u32 a0_1):=(blk_cell BK196.out 1).trans rfl
           have hcz18_2 : wc.cell? ⟨gb196,2,none⟩ = some (.bool a0_2):=(blk_cell BK196.out 2).trans rfl
           have hcz18_3 : wc.cell? ⟨gb196,3,none⟩ = some (.int .i64 a0_3):=(blk_cell BK196.out 3).trans rfl
           have hcz18_4 : wc.cell? ⟨gb196,4,none⟩ = some (.slice A0_4 l0_4.length c0_4):=(blk_cell BK196.out 4).trans rfl
           have hfz18_0:=blk_frozen BK196.out 0
           have hfz18_1:=blk_frozen BK196.out 1
           have hfz18_2:=blk_frozen BK196.out 2
           have hfz18_3:=blk_frozen BK196.out 3
           have hfz18_4:=blk_frozen BK196.out 4
           go_wp2
           go_meet
           case rel => exact ⟨_,(false),(by first | rfl | (simp;done) | (simp [*];done)),H',⟨by have:=HK1.out;have:=HJ8.out;first | omega | exact Nat.le_refl _⟩,⟨by (with_reducible repeat (first | apply Kd.R_alloc | apply Kd.R_drewN | apply Kd.R_drew));exact HO_3.out⟩,⟨by (with_reducible repeat (first | refine blk_drewN ?_ _ | refine blk_drew ?_ | refine blk_alloc ?_ _));exact BK196.out⟩,⟨by repeat (first | (with_reducible first | exact HB.out | apply below_alloc | apply pw_below_drewN | apply below_drew1 | refine below_set ?_ GE196.out) | exact HB.out)⟩⟩
        ·replace c13:=Bool.eq_false_iff.mpr c13
         subst c13
         have H1 : (laws_wOpen.j2 kj8 x3_1 (wrap64 ((t200.size : Int) + 15)) x5_1 false false a0_1 a0_2 a0_3 l0_4) = some r:=by rw [if_neg (show ¬ (false = true) by decide)] at H;exact H
         clear H
         have H:=H1
         clear H1
         have H':=Aside0.mk H
         clear H
         have hcz19_0 : wc.cell? ⟨gb196,0,none⟩ = some (.bool false):=(blk_cell BK196.out 0).trans rfl
         have hcz19_1 : wc.cell? ⟨gb196,1,none⟩ = some (.int .u32 a0_1):=(blk_cell BK196.out 1).trans rfl
         have hcz19_2 : wc.cell? ⟨gb196,2,none⟩ = some (.bool a0_2):=(blk_cell BK196.out 2).trans rfl
         have hcz19_3 : wc.cell? ⟨gb196,3,none⟩ = some (.int .i64 a0_3):=(blk_cell BK196.out 3).trans rfl
         have hcz19_4 : wc.cell? ⟨gb196,4,none⟩ = some (.slice A0_4 l0_4.length c0_4):=(blk_cell BK196.out 4).trans rfl
         have hfz19_0:=blk_frozen BK196.out 0
         have hfz19_1:=blk_frozen BK196.out 1
         have hfz19_2:=blk_frozen BK196.out 2
         have hfz19_3:=blk_frozen BK196.out 3
         have hfz19_4:=blk_frozen BK196.out 4
         go_wp2
         go_meet
         case rel => exact ⟨_,(false),(by first | rfl | (simp;done) | (simp [*];done)),H',⟨by have:=HK1.out;have:=HJ8.out;first | omega | exact Nat.le_refl _⟩,⟨by (with_reducible repeat (first | apply Kd.R_alloc | apply Kd.R_drewN | apply Kd.R_drew));exact HO_3.out⟩,⟨by (with_reducible repeat (first | refine blk_drewN ?_ _ | refine blk_drew ?_ | refine blk_alloc ?_ _));exact BK196.out⟩,⟨by repeat (first | (with_reducible first | exact HB.out | apply below_alloc | apply pw_below_drewN | apply below_drew1 | refine below_set ?_ GE196.out) | exact HB.out)⟩⟩
       case rest =>
        clear HC12
        try clear c1
        try clear c2
        try clear p2
        try clear p6
        try clear c8
        try clear c8b0
        try clear c10
        try clear c10b0
        try clear c10b1
        try clear c11
        try clear c13
        try clear c14
        try clear c14b0
        try clear c14b1
        try clear c16
        try clear c16b0
        try clear c18
        try clear hcz15_0
        try clear hcz15_1
        try clear hcz15_2
        try clear hcz15_3
        try clear hcz15_4
        try clear hcz17_0
        try clear hcz17_1
        try clear hcz17_2
        try clear hcz17_3
        try clear hcz17_4
        try clear hcz18_0
        try clear hcz18_1
        try clear hcz18_2
        try clear hcz18_3
        try clear hcz18_4
        try clear hcz19_0
        try clear hcz19_1
        try clear hcz19_2
        try clear hcz19_3
        try clear hcz19_4
        try clear hcz6_0
        try clear hcz6_1
        try clear hcz6_2
        try clear hcz6_3
        try clear hcz6_4
        try clear hfz15_0
        try clear hfz15_1
        try clear hfz15_2
        try clear hfz15_3
        try clear hfz15_4
        try clear hfz17_0
        try clear hfz17_1
        try clear hfz17_2
        try clear hfz17_3
        try clear hfz17_4
        try clear hfz18_0
        try clear hfz18_1
        try clear hfz18_2
        try clear hfz18_3
        try clear hfz18_4
        try clear hfz19_0
        try clear hfz19_1
        try clear hfz19_2
        try clear hfz19_3
        try clear hfz19_4
        try clear hfz6_0
        try clear hfz6_1
        try clear hfz6_2
        try clear hfz6_3
        try clear hfz6_4
        try clear p2
        try clear p6
        obtain ⟨kq,x35_11,rfl,HA,HJ11,HO_3,BK196,HB⟩:=hcut
        cases kq with
        | zero => exact absurd HA.out (by simp [laws_wOpen.j2])
        | succ kj11 =>
         have H:=HA.out
         clear HA
         simp only [laws_wOpen.j2] at H
         by_cases c20 : x35_11 = true
         ·subst c20
          have H1 : (laws_wOpen.l0 kj11 x3_1 (wrap64 ((t200.size : Int) + 15)) (wrap64 (x5_1 + 1)) a0_0 a0_1 a0_2 a0_3 l0_4) = some r:=by rw [if_pos rfl] at H;exact H
          clear H
          have H:=H1
          clear H1
          have H':=Aside0.mk H
          clear H
          go_wp2
          go_roundg kj11
          case measure => have:=HK1.out;have:=HJ8.out;have:=HJ11.out;omega
          case rel => exact ⟨(x3_1),(wrap64 (x5_1 + 1)),(by first | rfl | (simp;done) | (simp [*];done)),H',⟨by have:=HK1.out;have:=HJ8.out;have:=HJ11.out;omega⟩,⟨by (with_reducible repeat (first | apply Kd.R_alloc | apply Kd.R_drewN | apply Kd.R_drew));exact HO_3.out⟩,⟨by (with_reducible repeat (first | refine blk_drewN ?_ _ | refine blk_drew ?_ | refine blk_alloc ?_ _));exact BK196.out⟩,⟨by repeat (first | (with_reducible first | exact HB.out | apply below_alloc | apply pw_below_drewN | apply below_drew1 | refine below_set ?_ GE196.out) | exact HB.out)⟩⟩
         ·replace c20:=Bool.eq_false_iff.mpr c20
          subst c20
          have H1 : (if a0_0 = true then (if x3_1.length < 17592186044416 then (laws_wOpen.l0 kj11 (x3_1 ++ [x5_1]) (wrap64 ((t200.size : Int) + 15)) (wrap64 (x5_1 + 1)) a0_0 a0_1 a0_2 a0_3 l0_4) else (none)) else (if x5_1 ≥ 15 then (if x5_1 < 19 then (laws_wOpen.l0 kj11 x3_1 (wrap64 ((t200.size : Int) + 15)) (wrap64 (x5_1 + 1)) a0_0 a0_1 a0_2 a0_3 l0_4) else (if x3_1.length < 17592186044416 then (laws_wOpen.l0 kj11 (x3_1 ++ [x5_1]) (wrap64 ((t200.size : Int) + 15)) (wrap64 (x5_1 + 1)) a0_0 a0_1 a0_2 a0_3 l0_4) else (none))) else (if x3_1.length < 17592186044416 then (laws_wOpen.l0 kj11 (x3_1 ++ [x5_1]) (wrap64 ((t200.size : Int) + 15)) (wrap64 (x5_1 + 1)) a0_0 a0_1 a0_2 a0_3 l0_4) else (none)))) = some r:=by rw [if_neg (show ¬ (false = true) by decide)] at H;exact H
          clear H
          have H:=H1
          clear H1
          by_cases c21 : a0_0 = true
          ·subst c21
           have H1 : (if x3_1.length < 17592186044416 then (laws_wOpen.l0 kj11 (x3_1 ++ [x5_1]) (wrap64 ((t200.size : Int) + 15)) (wrap64 (x5_1 + 1)) true a0_1 a0_2 a0_3 l0_4) else (none)) = some r:=by rw [if_pos rfl] at H;exact H
           clear H
           have H:=H1
           clear H1
           by_cases c22 : x3_1.length < 17592186044416
           ·rw [if_pos c22] at H
            have LMc22:=Aside0.mk c22
            clear c22
            obtain ⟨y201,hy201⟩ : ∃ y_ : List Int,y_ = (x3_1 ++ [x5_1]):=⟨_,rfl⟩
            replace H : (laws_wOpen.l0 kj11 y201 (wrap64 ((t200.size : Int) + 15)) (wrap64 (x5_1 + 1)) true a0_1 a0_2 a0_3 l0_4) = some r:=by first | (rw [hy201];with_reducible exact H) | (have H2_:=(Option.bind_some _ _).symm.trans H;rw [hy201];with_reducible exact H2_) | (have H2_:=(Option.bind_some _ _).symm.trans H;with_reducible exact H2_) | with_reducible exact H | (rw [hy201];exact H) | exact H
            have Ny201:=Aside0.mk hy201
            clear hy201
            have H':=Aside0.mk H
            clear H
            have hcz23_0 : wc.cell? ⟨gb196,0,none⟩ = some (.bool true):=(blk_cell BK196.out 0).trans rfl
            have hcz23_1 : wc.cell? ⟨gb196,1,none⟩ = some (.int .u32 a0_1):=(blk_cell BK196.out 1).trans rfl
            have hcz23_2 : wc.cell? ⟨gb196,2,none⟩ = some (.bool a0_2):=(blk_cell BK196.out 2).trans rfl
            have hcz23_3 : wc.cell? ⟨gb196,3,none⟩ = some (.int .i64 a0_3):=(blk_cell BK196.out 3).trans rfl
            have hcz23_4 : wc.cell? ⟨gb196,4,none⟩ = some (.slice A0_4 l0_4.length c0_4):=(blk_cell BK196.out 4).trans rfl
            have hfz23_0:=blk_frozen BK196.out 0
            have hfz23_1:=blk_frozen BK196.out 1
            have hfz23_2:=blk_frozen BK196.out 2
            have hfz23_3:=blk_frozen BK196.out 3
            have hfz23_4:=blk_frozen BK196.out 4
            go_wp2_with (first | ((with_reducible refine gate_builtin (b := .append) (xs := #[.tmp 47, .tmp 49]) rfl ?_);at_builtin;refine Kd.R_append (Kd.int .i64) (w0:=w) w.heap.size rfl (.tmp 47) (.tmp 49) 35 3 (.int .i64 0) 8 rfl Try.underlying35 info3 rfl (by decide) (by omega) u3 x3_1 x5_1 [.int .i64 x5_1] (fun _ => True) (fun _ => False) rfl rfl ?aP (fun _ hk => hk.elim) ?aF ?aO ?aB ?aS ?aL ?_;(case aP => exact rfl);(case aB => exact (by repeat (first | (with_reducible first | exact HB.out | apply below_alloc | apply pw_below_drewN | apply below_drew1 | refine below_set ?_ GE196.out) | exact HB.out)));(case aF => exact (fun _ _ => trivial));(case aO => exact (by (with_reducible repeat (first | apply Kd.R_alloc | apply Kd.R_drewN | apply Kd.R_drew));exact HO_3.out));(case aS => exact (below_size (by repeat (first | (with_reducible first | exact HB.out | apply below_alloc | apply pw_below_drewN | apply below_drew1 | refine below_set ?_ GE196.out) | exact HB.out))));(case aL => have:=LMc22.out;omega);intro v202 w24 ho hb hg hat;rw [← Ny201.out] at ho;have n0_:=Aside0.mk (blk_grown (g:=gb196) (o := .cells #[.bool true, .int .u32 a0_1, .bool a0_2, .int .i64 a0_3, .slice A0_4 l0_4.length c0_4] 25 (0,0)) (by (with_reducible repeat (first | refine blk_drewN ?_ _ | refine blk_drew ?_ | refine blk_alloc ?_ _));exact BK196.out) hg (Kd.R_ne HO_3.out BK196.out (by decide)));have n1_:=Aside0.mk (hb);have n2_:=Aside0.mk (ho);clear BK196;clear HB;clear HO_3;have BK196:=n0_;have HB:=n1_;have HO203:=n2_;clear n0_ n1_ n2_;clear ho hb hg hat))
            go_roundg kj11
            case measure => have:=HK1.out;have:=HJ8.out;have:=HJ11.out;omega
            case rel => exact ⟨(y201),(wrap64 (x5_1 + 1)),(by first | rfl | (simp;done) | (simp [*];done)),H',⟨by have:=HK1.out;have:=HJ8.out;have:=HJ11.out;omega⟩,⟨by (with_reducible repeat (first | apply Kd.R_alloc | apply Kd.R_drewN | apply Kd.R_drew));exact HO203.out⟩,⟨by (with_reducible repeat (first | refine blk_drewN ?_ _ | refine blk_drew ?_ | refine blk_alloc ?_ _));exact BK196.out⟩,⟨by repeat (first | (with_reducible first | exact HB.out | apply below_alloc | apply pw_below_drewN | apply below_drew1 | refine below_set ?_ GE196.out) | exact HB.out)⟩⟩
           ·rw [if_neg c22] at H
            exact absurd H (by simp)
          ·replace c21:=Bool.eq_false_iff.mpr c21
           subst c21
           have H1 : (if x5_1 ≥ 15 then (if x5_1 < 19 then (laws_wOpen.l0 kj11 x3_1 (wrap64 ((t200.size : Int) + 15)) (wrap64 (x5_1 + 1)) false a0_1 a0_2 a0_3 l0_4) else (if x3_1.length < 17592186044416 then (laws_wOpen.l0 kj11 (x3_1 ++ [x5_1]) (wrap64 ((t200.size : Int) + 15)) (wrap64 (x5_1 + 1)) false a0_1 a0_2 a0_3 l0_4) else (none))) else (if x3_1.length < 17592186044416 then (laws_wOpen.l0 kj11 (x3_1 ++ [x5_1]) (wrap64 ((t200.size : Int) + 15)) (wrap64 (x5_1 + 1)) false a0_1 a0_2 a0_3 l0_4) else (none))) = some r:=by rw [if_neg (show ¬ (false = true) by decide)] at H;exact H
           clear H
           have H:=H1
           clear H1
           by_cases c25 : x5_1 ≥ 15
           ·rw [if_pos c25] at H
            have c25b0 : decide (15 ≤ x5_1) = true:=decide_eq_true c25
            clear c25
            by_cases c26 : x5_1 < 19
            ·rw [if_pos c26] at H
             have c26b0 : decide (x5_1 < 19) = true:=decide_eq_true c26
             clear c26
             have H':=Aside0.mk H
             clear H
             have hcz27_0 : wc.cell? ⟨gb196,0,none⟩ = some (.bool false):=(blk_cell BK196.out 0).trans rfl
             have hcz27_1 : wc.cell? ⟨gb196,1,none⟩ = some (.int .u32 a0_1):=(blk_cell BK196.out 1).trans rfl
             have hcz27_2 : wc.cell? ⟨gb196,2,none⟩ = some (.bool a0_2):=(blk_cell BK196.out 2).trans rfl
             have hcz27_3 : wc.cell? ⟨gb196,3,none⟩ = some (.int .i64 a0_3):=(blk_cell BK196.out 3).trans rfl
             have hcz27_4 : wc.cell? ⟨gb196,4,none⟩ = some (.slice A0_4 l0_4.length c0_4):=(blk_cell BK196.out 4).trans rfl
             have hfz27_0:=blk_frozen BK196.out 0
             have hfz27_1:=blk_frozen BK196.out 1
             have hfz27_2:=blk_frozen BK196.out 2
             have hfz27_3:=blk_frozen BK196.out 3
             have hfz27_4:=blk_frozen BK196.out 4
             go_wp2
             go_roundg kj11
             case measure => have:=HK1.out;have:=HJ8.out;have:=HJ11.out;omega
             case rel => exact ⟨(x3_1),(wrap64 (x5_1 + 1)),(by first | rfl | (simp;done) | (simp [*];done)),H',⟨by have:=HK1.out;have:=HJ8.out;have:=HJ11.out;omega⟩,⟨by (with_reducible repeat (first | apply Kd.R_alloc | apply Kd.R_drewN | apply Kd.R_drew));exact HO_3.out⟩,⟨by (with_reducible repeat (first | refine blk_drewN ?_ _ | refine blk_drew ?_ | refine blk_alloc ?_ _));exact BK196.out⟩,⟨by repeat (first | (with_reducible first | exact HB.out | apply below_alloc | apply pw_below_drewN | apply below_drew1 | refine below_set ?_ GE196.out) | exact HB.out)⟩⟩
            ·rw [if_neg c26] at H
             have c26b0 : decide (x5_1 < 19) = false:=decide_eq_false c26
             clear c26
             by_cases c28 : x3_1.length < 17592186044416
             ·rw [if_pos c28] at H
              have LMc28:=Aside0.mk c28
              clear c28
              obtain ⟨y204,hy204⟩ : ∃ y_ : List Int,y_ = (x3_1 ++ [x5_1]):=⟨_,rfl⟩
              replace H : (laws_wOpen.l0 kj11 y204 (wrap64 ((t200.size : Int) + 15)) (wrap64 (x5_1 + 1)) false a0_1 a0_2 a0_3 l0_4) = some r:=by first | (rw [hy204];with_reducible exact H) | (have H2_:=(Option.bind_some _ _).symm.trans H;rw [hy204];with_reducible exact H2_) | (have H2_:=(Option.bind_some _ _).symm.trans H;with_reducible exact H2_) | with_reducible exact H | (rw [hy204];exact H) | exact H
              have Ny204:=Aside0.mk hy204
              clear hy204
              have H':=Aside0.mk H
              clear H
              have hcz29_0 : wc.cell? ⟨gb196,0,none⟩ = some (.bool false):=(blk_cell BK196.out 0).trans rfl
              have hcz29_1 : wc.cell? ⟨gb196,1,none⟩ = some (.int .u32 a0_1):=(blk_cell BK196.out 1).trans rfl
              have hcz29_2 : wc.cell? ⟨gb196,2,none⟩ = some (.bool a0_2):=(blk_cell BK196.out 2).trans rfl
              have hcz29_3 : wc.cell? ⟨gb196,3,none⟩ = some (.int .i64 a0_3):=(blk_cell BK196.out 3).trans rfl
              have hcz29_4 : wc.cell? ⟨gb196,4,none⟩ = some (.slice A0_4 l0_4.length c0_4):=(blk_cell BK196.out 4).trans rfl
              have hfz29_0:=blk_frozen BK196.out 0
              have hfz29_1:=blk_frozen BK196.out 1
              have hfz29_2:=blk_frozen BK196.out 2
              have hfz29_3:=blk_frozen BK196.out 3
              have hfz29_4:=blk_frozen BK196.out 4
              go_wp2_with (first | ((with_reducible refine gate_builtin (b := .append) (xs := #[.tmp 47, .tmp 49]) rfl ?_);at_builtin;refine Kd.R_append (Kd.int .i64) (w0:=w) w.heap.size rfl (.tmp 47) (.tmp 49) 35 3 (.int .i64 0) 8 rfl Try.underlying35 info3 rfl (by decide) (by omega) u3 x3_1 x5_1 [.int .i64 x5_1] (fun _ => True) (fun _ => False) rfl rfl ?aP (fun _ hk => hk.elim) ?aF ?aO ?aB ?aS ?aL ?_;(case aP => exact rfl);(case aB => exact (by repeat (first | (with_reducible first | exact HB.out | apply below_alloc | apply pw_below_drewN | apply below_drew1 | refine below_set ?_ GE196.out) | exact HB.out)));(case aF => exact (fun _ _ => trivial));(case aO => exact (by (with_reducible repeat (first | apply Kd.R_alloc | apply Kd.R_drewN | apply Kd.R_drew));exact HO_3.out));(case aS => exact (below_size (by repeat (first | (with_reducible first | exact HB.out | apply below_alloc | apply pw_below_drewN | apply below_drew1 | refine below_set ?_ GE196.out) | exact HB.out))));(case aL => have:=LMc28.out;omega);intro v205 w30 ho hb hg hat;rw [← Ny204.out] at ho;have n0_:=Aside0.mk (blk_grown (g:=gb196) (o := .cells #[.bool false, .int .u32 a0_1, .bool a0_2, .int .i64 a0_3, .slice A0_4 l0_4.length c0_4] 25 (0,0)) (by (with_reducible repeat (first | refine blk_drewN ?_ _ | refine blk_drew ?_ | refine blk_alloc ?_ _));exact BK196.out) hg (Kd.R_ne HO_3.out BK196.out (by decide)));have n1_:=Aside0.mk (hb);have n2_:=Aside0.mk (ho);clear BK196;clear HB;clear HO_3;have BK196:=n0_;have HB:=n1_;have HO206:=n2_;clear n0_ n1_ n2_;clear ho hb hg hat))
              go_roundg kj11
              case measure => have:=HK1.out;have:=HJ8.out;have:=HJ11.out;omega
              case rel => exact ⟨(y204),(wrap64 (x5_1 + 1)),(by first | rfl | (simp;done) | (simp [*];done)),H',⟨by have:=HK1.out;have:=HJ8.out;have:=HJ11.out;omega⟩,⟨by (with_reducible repeat (first | apply Kd.R_alloc | apply Kd.R_drewN | apply Kd.R_drew));exact HO206.out⟩,⟨by (with_reducible repeat (first | refine blk_drewN ?_ _ | refine blk_drew ?_ | refine blk_alloc ?_ _));exact BK196.out⟩,⟨by repeat (first | (with_reducible first | exact HB.out | apply below_alloc | apply pw_below_drewN | apply below_drew1 | refine below_set ?_ GE196.out) | exact HB.out)⟩⟩
             ·rw [if_neg c28] at H
              exact absurd H (by simp)
           ·rw [if_neg c25] at H
            have c25b0 : decide (15 ≤ x5_1) = false:=decide_eq_false c25
            clear c25
            by_cases c31 : x3_1.length < 17592186044416
            ·rw [if_pos c31] at H
             have LMc31:=Aside0.mk c31
             clear c31
             obtain ⟨y207,hy207⟩ : ∃ y_ : List Int,y_ = (x3_1 ++ [x5_1]):=⟨_,rfl⟩
             replace H : (laws_wOpen.l0 kj11 y207 (wrap64 ((t200.size : Int) + 15)) (wrap64 (x5_1 + 1)) false a0_1 a0_2 a0_3 l0_4) = some r:=by first | (rw [hy207];with_reducible exact H) | (have H2_:=(Option.bind_some _ _).symm.trans H;rw [hy207];with_reducible exact H2_) | (have H2_:=(Option.bind_some _ _).symm.trans H;with_reducible exact H2_) | with_reducible exact H | (rw [hy207];exact H) | exact H
             have Ny207:=Aside0.mk hy207
             clear hy207
             have H':=Aside0.mk H
             clear H
             have hcz32_0 : wc.cell? ⟨gb196,0,none⟩ = some (.bool false):=(blk_cell BK196.out 0).trans rfl
             have hcz32_1 : wc.cell? ⟨gb196,1,none⟩ = some (.int .u32 a0_1):=(blk_cell BK196.out 1).trans rfl
             have hcz32_2 : wc.cell? ⟨gb196,2,none⟩ = some (.bool a0_2):=(blk_cell BK196.out 2).trans rfl
             have hcz32_3 : wc.cell? ⟨gb196,3,none⟩ = some (.int .i64 a0_3):=(blk_cell BK196.out 3).trans rfl
             have hcz32_4 : wc.cell? ⟨gb196,4,none⟩ = some (.slice A0_4 l0_4.length c0_4):=(blk_cell BK196.out 4).trans rfl
             have hfz32_0:=blk_frozen BK196.out 0
             have hfz32_1:=blk_frozen BK196.out 1
             have hfz32_2:=blk_frozen BK196.out 2
             have hfz32_3:=blk_frozen BK196.out 3
             have hfz32_4:=blk_frozen BK196.out 4
             go_wp2_with (first | ((with_reducible refine gate_builtin (b := .append) (xs := #[.tmp 47, .tmp 49]) rfl ?_);at_builtin;refine Kd.R_append (Kd.int .i64) (w0:=w) w.heap.size rfl (.tmp 47) (.tmp 49) 35 3 (.int .i64 0) 8 rfl Try.underlying35 info3 rfl (by decide) (by omega) u3 x3_1 x5_1 [.int .i64 x5_1] (fun _ => True) (fun _ => False) rfl rfl ?aP (fun _ hk => hk.elim) ?aF ?aO ?aB ?aS ?aL ?_;(case aP => exact rfl);(case aB => exact (by repeat (first | (with_reducible first | exact HB.out | apply below_alloc | apply pw_below_drewN | apply below_drew1 | refine below_set ?_ GE196.out) | exact HB.out)));(case aF => exact (fun _ _ => trivial));(case aO => exact (by (with_reducible repeat (first | apply Kd.R_alloc | apply Kd.R_drewN | apply Kd.R_drew));exact HO_3.out));(case aS => exact (below_size (by repeat (first | (with_reducible first | exact HB.out | apply below_alloc | apply pw_below_drewN | apply below_drew1 | refine below_set ?_ GE196.out) | exact HB.out))));(case aL => have:=LMc31.out;omega);intro v208 w33 ho hb hg hat;rw [← Ny207.out] at ho;have n0_:=Aside0.mk (blk_grown (g:=gb196) (o := .cells #[.bool false, .int .u32 a0_1, .bool a0_2, .int .i64 a0_3, .slice A0_4 l0_4.length c0_4] 25 (0,0)) (by (with_reducible repeat (first | refine blk_drewN ?_ _ | refine blk_drew ?_ | refine blk_alloc ?_ _));exact BK196.out) hg (Kd.R_ne HO_3.out BK196.out (by decide)));have n1_:=Aside0.mk (hb);have n2_:=Aside0.mk (ho);clear BK196;clear HB;clear HO_3;have BK196:=n0_;have HB:=n1_;have HO209:=n2_;clear n0_ n1_ n2_;clear ho hb hg hat))
             go_roundg kj11
             case measure => have:=HK1.out;have:=HJ8.out;have:=HJ11.out;omega
             case rel => exact ⟨(y207),(wrap64 (x5_1 + 1)),(by first | rfl | (simp;done) | (simp [*];done)),H',⟨by have:=HK1.out;have:=HJ8.out;have:=HJ11.out;omega⟩,⟨by (with_reducible repeat (first | apply Kd.R_alloc | apply Kd.R_drewN | apply Kd.R_drew));exact HO209.out⟩,⟨by (with_reducible repeat (first | refine blk_drewN ?_ _ | refine blk_drew ?_ | refine blk_alloc ?_ _));exact BK196.out⟩,⟨by repeat (first | (with_reducible first | exact HB.out | apply below_alloc | apply pw_below_drewN | apply below_drew1 | refine below_set ?_ GE196.out) | exact HB.out)⟩⟩
            ·rw [if_neg c31] at H
             exact absurd H (by simp)
   ·rw [if_neg c8] at H
    have c8b0 : decide (x5_1 < (wrap64 ((t200.size : Int) + 15))) = false:=decide_eq_false c8
    clear c8
    obtain rfl:=Option.some.inj H
    go_wp2
    go_ret
    exact ⟨_,by first | rfl | (simp [errW_none,errW_some] <;> rfl) | (simp [*,errW_none,errW_some] <;> rfl),by (with_reducible repeat (first | apply Kd.R_alloc | apply Kd.R_drewN | apply Kd.R_drew));exact HO_3.out,by repeat (first | (with_reducible first | exact HB.out | apply below_alloc | apply pw_below_drewN | apply below_drew1 | refine below_set ?_ GE196.out) | exact HB.out)⟩
end Go.Proofs.Ytdoclpgciadjaaa.P

namespace Go.Proofs.Ytdoclpgciadjaaa.P
open Go.RowKit Go.Proofs.YtdoclpgciadjaaaW.PrintWords Go.Proofs.YtdoclpgciadjaaaW.PrintLast Go.Proofs.YtdoclpgciadjaaaW.PrintMore
set_option linter.unusedVariables false
set_option linter.unusedSimpArgs false
def laws_wByte.f (l0 : List Int) (a1 : Int) : Option (Int):=if (l0.length : Int) = 0 then (some (Int.tmod (wrap64 (7 * a1)) 256)) else (if 0 ≤ (Int.tmod a1 (l0.length : Int)) then (if (Int.tmod a1 (l0.length : Int)) < (l0.length : Int) then (some (wrap64 (rd l0 (Int.tmod a1 (l0.length : Int))))) else (none)) else (none))
set_option maxHeartbeats 8000000 in
set_option maxRecDepth 100000 in
theorem laws_wByte.calls (A0 : Option Addr) (c0 : Nat) (l0 : List Int) (a1 : Int) (r : Int) (w : World) (hr0 : Kd.C (Kd.int .u8) w A0 l0.length l0) (hc0 : l0.length ≤ c0) (h : laws_wByte.f l0 a1 = some r) :
  Calls Try.prog 22 #[.slice A0 l0.length c0, .int .i64 a1] w fun e w' => e = .returned (.int .i64 r) ∧ Drawn0 w w':=by
 have HR0:=Aside0.mk hr0
 have HC0:=Aside0.mk hc0
 clear hr0 hc0
 have H : (if (l0.length : Int) = 0 then (some (Int.tmod (wrap64 (7 * a1)) 256)) else (if 0 ≤ (Int.tmod a1 (l0.length : Int)) then (if (Int.tmod a1 (l0.length : Int)) < (l0.length : Int) then (some (wrap64 (rd l0 (Int.tmod a1 (l0.length : Int))))) else (none)) else (none))) = some r:=h
 clear h
 by_cases c3 : (l0.length : Int) = 0
 ·rw [if_pos c3] at H
  have c3b0 : ((l0.length : Int) == 0) = true:=beq_iff_eq.mpr c3
  have c3b1 : ((l0.length : Int) != 0) = false:=bne_eq_false_iff_eq.mpr c3
  clear c3
  obtain rfl:=Option.some.inj H
  go_enter Try.func22,Try.ntmps22
  go_wp2
  go_ret
  exact ⟨by first | rfl | (simp;done) | (simp [*];done),by repeat (first | exact Drawn0.refl _ | apply Drawn0.step)⟩
 ·rw [if_neg c3] at H
  have c3b0 : ((l0.length : Int) == 0) = false:=beq_eq_false_iff_ne.mpr c3
  have c3b1 : ((l0.length : Int) != 0) = true:=bne_iff_ne.mpr c3
  have c3b2 : ¬ (l0 = []):=fun h_ => c3 (by rw [h_];rfl)
  obtain ⟨ji4,hji4⟩ : ∃ j_ : Int,(Int.tmod a1 (l0.length : Int)) = j_:=⟨_,rfl⟩
  replace H : (if 0 ≤ (ji4) then (if (ji4) < (l0.length : Int) then (some (wrap64 (rd l0 (ji4)))) else (none)) else (none)) = some r:=by first | (rw [hji4] at H;exact H) | (simp only [hji4] at H ⊢;exact H)
  by_cases c5 : 0 ≤ (ji4)
  ·rw [if_pos c5] at H
   have c5b0 : decide (0 ≤ (ji4)) = true:=decide_eq_true c5
   clear c5
   by_cases c6 : (ji4) < (l0.length : Int)
   ·rw [if_pos c6] at H
    have c6b0 : decide ((ji4) < (l0.length : Int)) = true:=decide_eq_true c6
    clear c6
    obtain rfl:=Option.some.inj H
    have p210 : 0 ≤ ((ji4) : Int):=of_decide_eq_true (by first | (with_reducible assumption) | assumption)
    have q210 : (ji4) < (l0.length : Int):=of_decide_eq_true (by first | (with_reducible assumption) | assumption)
    obtain ⟨ad210,e210,hx210_0⟩:=Kd.at_int HR0.out (ji4) p210 q210
    cases e210
    replace p210:=eq_true p210
    replace q210:=eq_true q210
    go_enter Try.func22,Try.ntmps22
    go_wp2
    go_ret
    exact ⟨by first | rfl | (simp;done) | (simp only [← hji4] <;> (first | rfl | simp)) | (simp [*];done),by repeat (first | exact Drawn0.refl _ | apply Drawn0.step)⟩
   ·rw [if_neg c6] at H
    exact absurd H (by simp)
  ·rw [if_neg c5] at H
   exact absurd H (by simp)
end Go.Proofs.Ytdoclpgciadjaaa.P

namespace Go.Proofs.Ytdoclpgciadjaaa.P
open Go.RowKit Go.Proofs.YtdoclpgciadjaaaW.PrintWords Go.Proofs.YtdoclpgciadjaaaW.PrintLast Go.Proofs.YtdoclpgciadjaaaW.PrintMore
set_option linter.unusedVariables false
set_option linter.unusedSimpArgs false
def flipS (a0 : ByteArray) (j : Nat) : ByteArray:=(a0.extract 0 j ++ (if bt a0 (j : Int) = 49 then (⟨#[48]⟩ : ByteArray) else ⟨#[49]⟩)) ++ a0.extract (j + 1) a0.size
def laws_wFlip.f (a0 : ByteArray) (a1 : Int) : Option (ByteArray):=if 0 ≤ a1 ∧ a1 < (a0.size : Int) ∧ a0.size ≤ 1000000 then some (flipS a0 a1.toNat) else none
theorem laws_wFlip.at_ (a0 : ByteArray) (j : Nat) (w : World) (hj : j < a0.size) (hs : a0.size ≤ 1000000) :
  Calls Try.prog 23 #[.string a0, .int .i64 (j : Int)] w fun e w' => e = .returned (.string (flipS a0 j)) ∧ Drawn0 w w':=by
 have hx : ∀ h : j < a0.size,(((a0[j]'h).toNat : Nat) : Int) = bt a0 (j : Int):=fun h => by have:=bt_at a0 (j : Int) (by rw [Int.toNat_natCast];exact h);simpa using this
 have p5 : (0 ≤ (j : Int)) = True:=eq_true (by omega)
 have q5 : ((j : Int) < (a0.size : Int)) = True:=eq_true (by omega)
 have q6 : ((j : Int) ≤ (a0.size : Int)) = True:=eq_true (by omega)
 have qn : (j < a0.size) = True:=eq_true hj
 have qm : (j ≤ a0.size) = True:=eq_true (by omega)
 obtain ⟨t,ht⟩ : ∃ t : Int,t = (j : Int) + 1:=⟨_,rfl⟩
 have w1 : wrap64 ((j : Int) + 1) = t:=by unfold wrap64;omega
 have w2 : IntKind.i64.wrap ((j : Int) + 1) = t:=by have h:=w1;unfold wrap64 at h;rw [IntKind.wrap_i64];exact h
 have t0 : (0 ≤ t) = True:=eq_true (by omega)
 have t1 : (t ≤ (a0.size : Int)) = True:=eq_true (by omega)
 have t2 : t.toNat = j + 1:=by omega
 obtain ⟨X,hX⟩ : ∃ X,X = a0.extract 0 j:=⟨_,rfl⟩
 obtain ⟨Y,hY⟩ : ∃ Y,Y = a0.extract (j + 1) a0.size:=⟨_,rfl⟩
 have sX : X.size = j:=by rw [hX,ByteArray.size_extract];omega
 have sY : Y.size = a0.size - (j + 1):=by rw [hY,ByteArray.size_extract];omega
 have HF : Hid (flipS a0 j = (X ++ (if bt a0 (j : Int) = 49 then (⟨#[48]⟩ : ByteArray) else ⟨#[49]⟩)) ++ Y):=Lib.hid (by unfold flipS;rw [← hX, ← hY])
 have hX':=hX.symm
 have hY':=hY.symm
 have HT:=Lib.hid ht
 clear hX hY ht
 rw [HF.out]
 have z1 : (9223372036854775807 < X.size + 1) = False:=eq_false (by omega)
 have z2 : (9223372036854775807 < X.size + 1 + Y.size) = False:=eq_false (by omega)
 by_cases hb : bt a0 (j : Int) = 49
 ·have hb0 : (bt a0 (j : Int) == 49) = true:=beq_iff_eq.mpr hb
  rw [if_pos hb]
  clear hb
  go_enter Try.func23,Try.ntmps23
  go_wp2_with (fail)
  go_region_with (fail)
  go_wp2_with (fail)
  go_ret
  exact ⟨rfl,⟨⟨_,rfl⟩⟩⟩
 ·have hb0 : (bt a0 (j : Int) == 49) = false:=beq_eq_false_iff_ne.mpr hb
  rw [if_neg hb]
  clear hb
  go_enter Try.func23,Try.ntmps23
  go_wp2_with (fail)
  go_region_with (fail)
  go_wp2_with (fail)
  go_ret
  exact ⟨rfl,⟨⟨_,rfl⟩⟩⟩
theorem laws_wFlip.calls (a0 : ByteArray) (a1 : Int) (r : ByteArray) (w : World) (h : laws_wFlip.f a0 a1 = some r) :
  Calls Try.prog 23 #[.string a0, .int .i64 a1] w fun e w' => e = .returned (.string r) ∧ Drawn0 w w':=by
 unfold laws_wFlip.f at h
 by_cases c : 0 ≤ a1 ∧ a1 < (a0.size : Int) ∧ a0.size ≤ 1000000
 ·rw [if_pos c] at h
  obtain rfl:=Option.some.inj h
  obtain ⟨j,rfl⟩ : ∃ j : Nat,a1 = (j : Int):=⟨a1.toNat,by omega⟩
  rw [Int.toNat_natCast]
  exact laws_wFlip.at_ a0 j w (by omega) c.2.2
 ·rw [if_neg c] at h;cases h
end Go.Proofs.Ytdoclpgciadjaaa.P

namespace Go.Proofs.Ytdoclpgciadjaaa.P
open Go.RowKit Go.Proofs.YtdoclpgciadjaaaW.PrintWords Go.Proofs.YtdoclpgciadjaaaW.PrintLast Go.Proofs.YtdoclpgciadjaaaW.PrintMore
set_option linter.unusedVariables false
set_option linter.unusedSimpArgs false
def impl_copyFrame.f (a0_0 : Bool) (a0_1 : Int) (a0_2 : Bool) (a0_3 : Int) (l0_4 : List Int) : Option (Bool × Int × Bool × Int × List Int):=(some (([] : List Int) : List Int)).bind fun y213 => (if y213.length + l0_4.length < 140737488355328 then (some (a0_0,a0_1,a0_2,a0_3,(y213 ++ l0_4))) else (none))
set_option maxHeartbeats 8000000 in
set_option maxRecDepth 100000 in
theorem impl_copyFrame.calls (a0_0 : Bool) (a0_1 : Int) (a0_2 : Bool) (a0_3 : Int) (A0_4 : Option Addr) (c0_4 : Nat) (l0_4 : List Int) (r1 : Bool) (r2 : Int) (r3 : Bool) (r4 : Int) (r5 : List Int) (w : World) (hr0_4 : Kd.C (Kd.int .u8) w A0_4 l0_4.length l0_4) (hc0_4 : l0_4.length ≤ c0_4) (h : impl_copyFrame.f a0_0 a0_1 a0_2 a0_3 l0_4 = some (r1,r2,r3,r4,r5)) :
  Calls Try.prog 84 #[.agg #[.bool a0_0, .int .u32 a0_1, .bool a0_2, .int .i64 a0_3, .slice A0_4 l0_4.length c0_4]] w fun e w' => ∃ v4_ : Value,e = .returned (.agg #[.bool r1, .int .u32 r2, .bool r3, .int .i64 r4,v4_]) ∧ Kd.R (Kd.int .u8) 5 w' w.heap.size (fun _ => True) v4_ r5 ∧ Below w.heap.size w w':=by
 have hu25:=Try.underlying25
 have HR0_4:=Aside0.mk hr0_4
 have HC0_4:=Aside0.mk hc0_4
 clear hr0_4 hc0_4
 have HB:=Aside0.mk (Below.refl w.heap.size w)
 have H : ((some (([] : List Int) : List Int)).bind fun y213 => (if y213.length + l0_4.length < 140737488355328 then (some (a0_0,a0_1,a0_2,a0_3,(y213 ++ l0_4))) else (none))) = some (r1,r2,r3,r4,r5):=h
 clear h
 obtain ⟨y213,hy213⟩ : ∃ y_ : List Int,y_ = (([] : List Int)):=⟨_,rfl⟩
 replace H : (if y213.length + l0_4.length < 140737488355328 then (some (a0_0,a0_1,a0_2,a0_3,(y213 ++ l0_4))) else (none)) = some (r1,r2,r3,r4,r5):=by first | (rw [hy213];with_reducible exact H) | (have H2_:=(Option.bind_some _ _).symm.trans H;rw [hy213];with_reducible exact H2_) | (have H2_:=(Option.bind_some _ _).symm.trans H;with_reducible exact H2_) | with_reducible exact H | (rw [hy213];exact H) | exact H
 have Ny213:=Aside0.mk hy213
 clear hy213
 by_cases c2 : y213.length + l0_4.length < 140737488355328
 ·rw [if_pos c2] at H
  have LMc2:=Aside0.mk c2
  clear c2
  obtain ⟨y216,hy216⟩ : ∃ y_ : List Int,y_ = (y213 ++ l0_4):=⟨_,rfl⟩
  replace H : (some (a0_0,a0_1,a0_2,a0_3,y216)) = some (r1,r2,r3,r4,r5):=by first | (rw [hy216];with_reducible exact H) | (have H2_:=(Option.bind_some _ _).symm.trans H;rw [hy216];with_reducible exact H2_) | (have H2_:=(Option.bind_some _ _).symm.trans H;with_reducible exact H2_) | with_reducible exact H | (rw [hy216];exact H) | exact H
  have Ny216:=Aside0.mk hy216
  clear hy216
  simp only [Option.some.injEq,Prod.mk.injEq] at H
  obtain ⟨rfl,rfl,rfl,rfl,rfl⟩:=H
  go_enter Try.func84,Try.ntmps84
  go_wp2_with (first | ((with_reducible refine gate_dst (N:=1) rfl ?_);refine box_event ?hg (N:=1) ?hd (cs := #[.bool a0_0, .int .u32 a0_1, .bool a0_2, .int .i64 a0_3, .slice A0_4 l0_4.length c0_4]) (t:=25) ?hr ?_;(case hd => rfl);(case hg => rfl);(case hr => first | (go_simp;done) | (go_simp;rfl));intro gb211 hg w3 hbox hb;have n0_:=Aside0.mk (below_step (by repeat (first | (with_reducible first | exact HB.out | apply below_alloc | apply pw_below_drewN | apply below_drew1) | exact HB.out)) hb);have n1_:=Aside0.mk (hbox);have n2_:=Aside0.mk ((by rw [hg];exact (below_size (by repeat (first | (with_reducible first | exact HB.out | apply below_alloc | apply pw_below_drewN | apply below_drew1) | exact HB.out))) : w.heap.size ≤ gb211));have n3_:=Aside0.mk ((by rw [hg];exact (below_size (by repeat (first | (with_reducible first | exact HB.out | apply below_alloc | apply pw_below_drewN | apply below_drew1) | exact HB.out))) : w.heap.size ≤ gb211));clear HB;have HB:=n0_;have BK211:=n1_;have GW211:=n2_;have GE211:=n3_;clear n0_ n1_ n2_ n3_;clear hb hbox hg) | ((with_reducible refine gate_dst (N:=2) rfl ?_);refine box_event ?hg (N:=2) ?hd (cs := #[.bool false, .int .u32 0, .bool false, .int .i64 0, .slice none 0 0]) (t:=25) ?hr ?_;(case hd => rfl);(case hg => rfl);(case hr => first | (go_simp;done) | (go_simp;rfl));intro gb212 hg w4 hbox hb;have n0_:=Aside0.mk (blk_below (g:=gb211) (o := .cells #[.bool a0_0, .int .u32 a0_1, .bool a0_2, .int .i64 a0_3, .slice A0_4 l0_4.length c0_4] 25 (0,0)) (by (with_reducible repeat (first | refine blk_drewN ?_ _ | refine blk_drew ?_ | refine blk_alloc ?_ _));exact BK211.out) hb);have n1_:=Aside0.mk (below_step (by repeat (first | (with_reducible first | exact HB.out | apply below_alloc | apply pw_below_drewN | apply below_drew1 | refine below_set ?_ GE211.out) | exact HB.out)) hb);have n2_:=Aside0.mk (hbox);have n3_:=Aside0.mk ((by rw [hg];exact (below_size (by repeat (first | (with_reducible first | exact HB.out | apply below_alloc | apply pw_below_drewN | apply below_drew1 | refine below_set ?_ GE211.out) | exact HB.out))) : w.heap.size ≤ gb212));have n4_:=Aside0.mk ((by rw [hg];exact (below_size (by repeat (first | (with_reducible first | exact HB.out | apply below_alloc | apply pw_below_drewN | apply below_drew1 | refine below_set ?_ GE211.out) | exact HB.out))) : w.heap.size ≤ gb212));have n5_:=Aside0.mk ((by rw [hg];exact Nat.ne_of_lt (blk_lt (g:=gb211) (o := .cells #[.bool a0_0, .int .u32 a0_1, .bool a0_2, .int .i64 a0_3, .slice A0_4 l0_4.length c0_4] 25 (0,0)) (by (with_reducible repeat (first | refine blk_drewN ?_ _ | refine blk_drew ?_ | refine blk_alloc ?_ _));exact BK211.out)) : gb211 ≠ gb212));have n6_:=Aside0.mk ((by rw [hg];exact Nat.ne_of_gt (blk_lt (g:=gb211) (o := .cells #[.bool a0_0, .int .u32 a0_1, .bool a0_2, .int .i64 a0_3, .slice A0_4 l0_4.length c0_4] 25 (0,0)) (by (with_reducible repeat (first | refine blk_drewN ?_ _ | refine blk_drew ?_ | refine blk_alloc ?_ _));exact BK211.out)) : gb212 ≠ gb211));clear BK211;clear HB;have BK211:=n0_;have HB:=n1_;have BK212:=n2_;have GW212:=n3_;have GE212:=n4_;have NB211_212:=n5_;have NB212_211:=n6_;clear n0_ n1_ n2_ n3_ n4_ n5_ n6_;clear hb hbox hg) | ((with_reducible refine gate_dst (N:=3) rfl ?_);refine Kd.R_lit (Kd.int .u8) _ 5 ?hg (N:=3) ?hd (xs:=([] : List Int)) (inner := []) (ok:=fun _ => True) (okp:=fun _ => True) ?hr ?hp (fun _ hk => hk) trivial (Below.refl _ _) (Nat.le_refl _) (by simp) ?_;(case hd => rfl);(case hg => rfl);(case hr => first | (go_simp;done) | (go_simp;rfl));(case hp => exact (Reps.none _ _));intro v214 w5 ho6 hb hg_ hnew_;clear hg_ hnew_;(first | rw [← Ny213.out] at ho6 | (simp only [Int.reduceToNat] at ho6;rw [← Ny213.out] at ho6));have n0_:=Aside0.mk (Kd.R_lower ho6 (below_size (by repeat (first | (with_reducible first | exact HB.out | apply below_alloc | apply pw_below_drewN | apply below_drew1 | refine below_set ?_ GE211.out | refine below_set ?_ GE212.out) | exact HB.out))));have n1_:=Aside0.mk (blk_below (g:=gb211) (o := .cells #[.bool a0_0, .int .u32 a0_1, .bool a0_2, .int .i64 a0_3, .slice A0_4 l0_4.length c0_4] 25 (0,0)) (by (with_reducible repeat (first | refine blk_drewN ?_ _ | refine blk_drew ?_ | refine blk_alloc ?_ _));exact BK211.out) hb);have n2_:=Aside0.mk (blk_below (g:=gb212) (o := .cells #[.bool false, .int .u32 0, .bool false, .int .i64 0, .slice none 0 0] 25 (0,0)) (by (with_reducible repeat (first | refine blk_drewN ?_ _ | refine blk_drew ?_ | refine blk_alloc ?_ _));exact BK212.out) hb);have n3_:=Aside0.mk (below_step (by repeat (first | (with_reducible first | exact HB.out | apply below_alloc | apply pw_below_drewN | apply below_drew1 | refine below_set ?_ GE211.out | refine below_set ?_ GE212.out) | exact HB.out)) hb);clear BK211;clear BK212;clear HB;have HO215:=n0_;have BK211:=n1_;have BK212:=n2_;have HB:=n3_;clear n0_ n1_ n2_ n3_;clear hb ho6;have hnb7:=NB211_212.out;have hnc7:=NB212_211.out;have hcz8_0 : w5.cell? ⟨gb211,0,none⟩ = some (.bool a0_0):=(blk_cell BK211.out 0).trans rfl;have hcz8_1 : w5.cell? ⟨gb211,1,none⟩ = some (.int .u32 a0_1):=(blk_cell BK211.out 1).trans rfl;have hcz8_2 : w5.cell? ⟨gb211,2,none⟩ = some (.bool a0_2):=(blk_cell BK211.out 2).trans rfl;have hcz8_3 : w5.cell? ⟨gb211,3,none⟩ = some (.int .i64 a0_3):=(blk_cell BK211.out 3).trans rfl;have hcz8_4 : w5.cell? ⟨gb211,4,none⟩ = some (.slice A0_4 l0_4.length c0_4):=(blk_cell BK211.out 4).trans rfl;have hfz8_0:=blk_frozen BK211.out 0;have hfz8_1:=blk_frozen BK211.out 1;have hfz8_2:=blk_frozen BK211.out 2;have hfz8_3:=blk_frozen BK211.out 3;have hfz8_4:=blk_frozen BK211.out 4) | ((with_reducible refine gate_builtin (b := .append) (xs := #[.tmp 3, .tmp 5]) rfl ?_);at_builtin;refine Kd.R_append_rows (Kd.int .u8) (w0:=w) w.heap.size rfl (.tmp 3) (.tmp 5) 22 5 (.int .u8 0) 1 rfl Try.underlying22 info5 rfl (by decide) (by omega) v214 y213 l0_4 _ _ _ (fun _ => True) (fun _ => False) rfl rfl ?aO ?aR (fun _ _ h => h) (fun _ h => h.elim) ?aF ?aB ?aS ?aL ?_;(case aR => repeat (first | exact (Kd.C_below HR0_4.out HB.out) | (with_reducible refine Kd.C_alloc ?_ _) | (with_reducible refine Kd.C_drewN ?_ _) | (with_reducible refine Kd.C_drew ?_)));(case aB => exact (by repeat (first | (with_reducible first | exact HB.out | apply below_alloc | apply pw_below_drewN | apply below_drew1 | refine below_set ?_ GE211.out | refine below_set ?_ GE212.out) | exact HB.out)));(case aF => exact (fun _ _ => trivial));(case aO => exact (by (with_reducible repeat (first | apply Kd.R_alloc | apply Kd.R_drewN | apply Kd.R_drew));exact HO215.out));(case aS => exact (below_size (by repeat (first | (with_reducible first | exact HB.out | apply below_alloc | apply pw_below_drewN | apply below_drew1 | refine below_set ?_ GE211.out | refine below_set ?_ GE212.out) | exact HB.out))));(case aL => have:=LMc2.out;omega);intro v217 w9 ho hb hg hat;rw [← Ny216.out] at ho;have n0_:=Aside0.mk (blk_grown (g:=gb211) (o := .cells #[.bool a0_0, .int .u32 a0_1, .bool a0_2, .int .i64 a0_3, .slice A0_4 l0_4.length c0_4] 25 (0,0)) (by (with_reducible repeat (first | refine blk_drewN ?_ _ | refine blk_drew ?_ | refine blk_alloc ?_ _));exact BK211.out) hg (Kd.R_ne HO215.out BK211.out (by decide)));have n1_:=Aside0.mk (blk_grown (g:=gb212) (o := .cells #[.bool false, .int .u32 0, .bool false, .int .i64 0, .slice none 0 0] 25 (0,0)) (by (with_reducible repeat (first | refine blk_drewN ?_ _ | refine blk_drew ?_ | refine blk_alloc ?_ _));exact BK212.out) hg (Kd.R_ne HO215.out BK212.out (by decide)));have n2_:=Aside0.mk (hb);have n3_:=Aside0.mk (ho);clear BK211;clear BK212;clear HB;clear HO215;have BK211:=n0_;have BK212:=n1_;have HB:=n2_;have HO218:=n3_;clear n0_ n1_ n2_ n3_;clear ho hb hg hat;obtain ⟨Ao10,co10,eo10⟩:=Kd.R_slice HO218.out;subst eo10;have hcz11_0 : w9.cell? ⟨gb211,0,none⟩ = some (.bool a0_0):=(blk_cell BK211.out 0).trans rfl;have hcz11_1 : w9.cell? ⟨gb211,1,none⟩ = some (.int .u32 a0_1):=(blk_cell BK211.out 1).trans rfl;have hcz11_2 : w9.cell? ⟨gb211,2,none⟩ = some (.bool a0_2):=(blk_cell BK211.out 2).trans rfl;have hcz11_3 : w9.cell? ⟨gb211,3,none⟩ = some (.int .i64 a0_3):=(blk_cell BK211.out 3).trans rfl;have hcz11_4 : w9.cell? ⟨gb211,4,none⟩ = some (.slice A0_4 l0_4.length c0_4):=(blk_cell BK211.out 4).trans rfl;have hfz11_0:=blk_frozen BK211.out 0;have hfz11_1:=blk_frozen BK211.out 1;have hfz11_2:=blk_frozen BK211.out 2;have hfz11_3:=blk_frozen BK211.out 3;have hfz11_4:=blk_frozen BK211.out 4;have hcz12_0 : w9.cell? ⟨gb212,0,none⟩ = some (.bool false):=(blk_cell BK212.out 0).trans rfl;have hcz12_1 : w9.cell? ⟨gb212,1,none⟩ = some (.int .u32 0):=(blk_cell BK212.out 1).trans rfl;have hcz12_2 : w9.cell? ⟨gb212,2,none⟩ = some (.bool false):=(blk_cell BK212.out 2).trans rfl;have hcz12_3 : w9.cell? ⟨gb212,3,none⟩ = some (.int .i64 0):=(blk_cell BK212.out 3).trans rfl;have hcz12_4 : w9.cell? ⟨gb212,4,none⟩ = some (.slice none 0 0):=(blk_cell BK212.out 4).trans rfl;have hfz12_0:=blk_frozen BK212.out 0;have hfz12_1:=blk_frozen BK212.out 1;have hfz12_2:=blk_frozen BK212.out 2;have hfz12_3:=blk_frozen BK212.out 3;have hfz12_4:=blk_frozen BK212.out 4))
  refine bodyPost_ret (results_cell_row rfl _ _ gb212 25 #[.bool a0_0, .int .u32 a0_1, .bool a0_2, .int .i64 a0_3, .slice Ao10 y216.length co10] (0,0) _ rfl (by (with_reducible repeat (first | refine blk_drewN ?_ _ | refine blk_drew ?_ | refine blk_alloc ?_ _));refine blk_put (cs := #[.bool a0_0, .int .u32 a0_1, .bool a0_2, .int .i64 a0_3, .slice none 0 0]) ?_ 4 _ rfl;(with_reducible repeat (first | refine blk_drewN ?_ _ | refine blk_drew ?_ | refine blk_alloc ?_ _));refine blk_put (cs := #[.bool a0_0, .int .u32 a0_1, .bool a0_2, .int .i64 0, .slice none 0 0]) ?_ 3 _ rfl;(with_reducible repeat (first | refine blk_drewN ?_ _ | refine blk_drew ?_ | refine blk_alloc ?_ _));refine blk_put (cs := #[.bool a0_0, .int .u32 a0_1, .bool false, .int .i64 0, .slice none 0 0]) ?_ 2 _ rfl;(with_reducible repeat (first | refine blk_drewN ?_ _ | refine blk_drew ?_ | refine blk_alloc ?_ _));refine blk_put (cs := #[.bool a0_0, .int .u32 0, .bool false, .int .i64 0, .slice none 0 0]) ?_ 1 _ rfl;(with_reducible repeat (first | refine blk_drewN ?_ _ | refine blk_drew ?_ | refine blk_alloc ?_ _));refine blk_put (cs := #[.bool false, .int .u32 0, .bool false, .int .i64 0, .slice none 0 0]) ?_ 0 _ rfl;(with_reducible repeat (first | refine blk_drewN ?_ _ | refine blk_drew ?_ | refine blk_alloc ?_ _));refine blk_far ?_ NB212_211.out _;(with_reducible repeat (first | refine blk_drewN ?_ _ | refine blk_drew ?_ | refine blk_alloc ?_ _));exact BK212.out) Try.underlying25 rfl (by kernel_rfl)) rfl ?_
  exact ⟨_,by first | rfl | (simp [errW_none,errW_some] <;> rfl) | (simp [*,errW_none,errW_some] <;> rfl),by (with_reducible repeat (first | apply Kd.R_alloc | apply Kd.R_drewN | apply Kd.R_drew));exact Kd.R_mono (Kd.R_far (p:=⟨gb212,4,none⟩) (Kd.R_far (p:=⟨gb212,3,none⟩) (Kd.R_far (p:=⟨gb212,2,none⟩) (Kd.R_far (p:=⟨gb212,1,none⟩) (Kd.R_far (p:=⟨gb212,0,none⟩) (Kd.R_far (p:=⟨gb211,4,none⟩) (Kd.R_types (Kd.R_types HO218.out BK211.out (by decide)) BK212.out (by decide)) (fun _ hk => hk.1.2) (.slice Ao10 y216.length co10)) (fun _ hk => hk.2) (.bool a0_0)) (fun _ hk => hk.2) (.int .u32 a0_1)) (fun _ hk => hk.2) (.bool a0_2)) (fun _ hk => hk.2) (.int .i64 a0_3)) (fun _ hk => hk.2) (.slice Ao10 y216.length co10)) (fun _ hk => trivial),by repeat (first | (with_reducible first | exact HB.out | apply below_alloc | apply pw_below_drewN | apply below_drew1 | refine below_set ?_ GE211.out | refine below_set ?_ GE212.out) | exact HB.out)⟩
 ·rw [if_neg c2] at H
  exact absurd H (by simp)
end Go.Proofs.Ytdoclpgciadjaaa.P
