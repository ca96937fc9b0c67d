/- Texts of the proof of FnFiveFlips, joined. -/
import Derived.Test.YtdoclpgciadjaaaProg
import Derived.Below
import Derived.Deep.Draws
import Derived.Deep.AppendLies
import Derived.Maps.AppendAt
import Derived.OwnWalk
import Derived.Laws.BytesArg
import Derived.Laws.MakeOwn
import Derived.Laws.OwnMore
import Derived.Deep.OwnRows
import Derived.Tactics
import Derived.Lib.ConvBytes
import Derived.Laws.Slices
import Derived.WalkKit
import Derived.KernelRfl
import Derived.RowKit3
import Derived.Deep.LoopGhost
import Derived.Deep.QuietTactic
import Derived.BigQuiet
import Derived.WideLaws
import Derived.Deep.DeepCutAuto
import Derived.Deep.CutBlock
import Derived.Deep.RegionHeld3
import Derived.Laws.Rows
import Derived.Lib.AppendStr
import Derived.ArgAppend
import Derived.Laws.IdiomCopy
import Derived.OrdersHeld
import Derived.Laws.BitsLemmas
import Derived.RowKit
import Derived.Test.YtdoclpgciadjaaaSFnFiveFlips0
import Derived.Test.YtdoclpgciadjaaaSFnFiveFlips1
import Derived.Test.YtdoclpgciadjaaaSFnFiveFlips2
import Derived.Test.YtdoclpgciadjaaaSFnFiveFlips3
import Derived.Test.YtdoclpgciadjaaaSFnFiveFlips4
import Derived.Test.YtdoclpgciadjaaaSFnFiveFlips5
import Derived.Test.YtdoclpgciadjaaaSFnFiveFlips6
import Derived.Test.YtdoclpgciadjaaaSFnFiveFlips7
import Derived.Test.YtdoclpgciadjaaaSFnFiveFlips8
import Derived.Test.YtdoclpgciadjaaaSFnFiveFlips9
import Derived.Test.YtdoclpgciadjaaaSFnFiveFlips10
import Derived.Test.YtdoclpgciadjaaaSFnFiveFlips11
import Derived.Test.YtdoclpgciadjaaaSFnFiveFlips12
import Derived.Test.YtdoclpgciadjaaaSFnFiveFlips13
import Derived.Test.YtdoclpgciadjaaaSFnFiveFlips14
import Derived.Test.YtdoclpgciadjaaaSFnFiveFlips15
import Derived.Test.YtdoclpgciadjaaaSFnFiveFlips16
import Derived.Test.YtdoclpgciadjaaaSFnFiveFlips17
import Derived.Test.YtdoclpgciadjaaaSFnFiveFlips18
import Derived.Test.YtdoclpgciadjaaaSFnFiveFlips19
import Derived.Test.YtdoclpgciadjaaaSFnFiveFlips20
namespace Go.Proofs.Ytdoclpgciadjaaa.P
open Go.RowKit Go.Proofs.YtdoclpgciadjaaaW.PrintWords Go.Proofs.YtdoclpgciadjaaaW.PrintLast Go.Proofs.YtdoclpgciadjaaaW.PrintMore
set_option linter.unusedVariables false
set_option linter.unusedSimpArgs false
def errW : Option Int → Value
 | none => .nilIface
 | some c => .iface 0 (.int .i64 c)
theorem errW_none : errW none = .nilIface:=rfl
theorem errW_some (c : Int) : errW (some c) = .iface 0 (.int .i64 c):=rfl
theorem info3 : (Try.prog.info? 3).map (fun i => (i.zero,i.size,i.bytes)) = some (some (.int .i64 0),1,8):=by kernel_rfl
theorem info5 : (Try.prog.info? 5).map (fun i => (i.zero,i.size,i.bytes)) = some (some (.int .u8 0),1,1):=by kernel_rfl
end Go.Proofs.Ytdoclpgciadjaaa.P

namespace Go.Proofs.Ytdoclpgciadjaaa.P
open Go.RowKit Go.Proofs.YtdoclpgciadjaaaW.PrintWords Go.Proofs.YtdoclpgciadjaaaW.PrintLast Go.Proofs.YtdoclpgciadjaaaW.PrintMore
set_option linter.unusedVariables false
set_option linter.unusedSimpArgs false
def spec_l1dataLen.f (a0_0 : Bool) (a0_1 : Int) (a0_2 : Bool) (a0_3 : Int) (l0_4 : List Int) : Option (Int):=if a0_2 = true then (some 0) else (if a0_3 > 8 then (some 8) else (some a0_3))
set_option maxHeartbeats 8000000 in
set_option maxRecDepth 100000 in
theorem spec_l1dataLen.calls (a0_0 : Bool) (a0_1 : Int) (a0_2 : Bool) (a0_3 : Int) (A0_4 : Option Addr) (c0_4 : Nat) (l0_4 : List Int) (r : Int) (w : World) (hr0_4 : Kd.C (Kd.int .u8) w A0_4 l0_4.length l0_4) (hc0_4 : l0_4.length ≤ c0_4) (h : spec_l1dataLen.f a0_0 a0_1 a0_2 a0_3 l0_4 = some r) :
  Calls Try.prog 73 #[.agg #[.bool a0_0, .int .u32 a0_1, .bool a0_2, .int .i64 a0_3, .slice A0_4 l0_4.length c0_4]] w fun e w' => e = .returned (.int .i64 r) ∧ Below w.heap.size w w':=by
 have hu25:=Try.underlying25
 have HR0_4:=Aside0.mk hr0_4
 have HC0_4:=Aside0.mk hc0_4
 clear hr0_4 hc0_4
 have HB:=Aside0.mk (Below.refl w.heap.size w)
 have H : (if a0_2 = true then (some 0) else (if a0_3 > 8 then (some 8) else (some a0_3))) = some r:=h
 clear h
 by_cases c2 : a0_2 = true
 ·subst c2
  have H1 : (some 0) = some r:=by rw [if_pos rfl] at H;exact H
  clear H
  have H:=H1
  clear H1
  obtain rfl:=Option.some.inj H
  go_enter Try.func73,Try.ntmps73
  go_wp2_with (first | ((with_reducible refine gate_dst (N:=1) rfl ?_);refine box_event ?hg (N:=1) ?hd (cs := #[.bool a0_0, .int .u32 a0_1, .bool true, .int .i64 a0_3, .slice A0_4 l0_4.length c0_4]) (t:=25) ?hr ?_;(case hd => rfl);(case hg => rfl);(case hr => first | (go_simp;done) | (go_simp;rfl));intro gb101 hg w3 hbox hb;have n0_:=Aside0.mk (below_step (by repeat (first | (with_reducible first | exact HB.out | apply below_alloc | apply pw_below_drewN | apply below_drew1) | exact HB.out)) hb);have n1_:=Aside0.mk (hbox);have n2_:=Aside0.mk ((by rw [hg];exact (below_size (by repeat (first | (with_reducible first | exact HB.out | apply below_alloc | apply pw_below_drewN | apply below_drew1) | exact HB.out))) : w.heap.size ≤ gb101));have n3_:=Aside0.mk ((by rw [hg];exact (below_size (by repeat (first | (with_reducible first | exact HB.out | apply below_alloc | apply pw_below_drewN | apply below_drew1) | exact HB.out))) : w.heap.size ≤ gb101));clear HB;have HB:=n0_;have BK101:=n1_;have GW101:=n2_;have GE101:=n3_;clear n0_ n1_ n2_ n3_;clear hb hbox hg;have hcz4_0 : w3.cell? ⟨gb101,0,none⟩ = some (.bool a0_0):=(blk_cell BK101.out 0).trans rfl;have hcz4_1 : w3.cell? ⟨gb101,1,none⟩ = some (.int .u32 a0_1):=(blk_cell BK101.out 1).trans rfl;have hcz4_2 : w3.cell? ⟨gb101,2,none⟩ = some (.bool true):=(blk_cell BK101.out 2).trans rfl;have hcz4_3 : w3.cell? ⟨gb101,3,none⟩ = some (.int .i64 a0_3):=(blk_cell BK101.out 3).trans rfl;have hcz4_4 : w3.cell? ⟨gb101,4,none⟩ = some (.slice A0_4 l0_4.length c0_4):=(blk_cell BK101.out 4).trans rfl;have hfz4_0:=blk_frozen BK101.out 0;have hfz4_1:=blk_frozen BK101.out 1;have hfz4_2:=blk_frozen BK101.out 2;have hfz4_3:=blk_frozen BK101.out 3;have hfz4_4:=blk_frozen BK101.out 4))
  go_ret
  exact ⟨by first | rfl | (simp [errW_none,errW_some] <;> rfl) | (simp [*,errW_none,errW_some] <;> rfl),by repeat (first | (with_reducible first | exact HB.out | apply below_alloc | apply pw_below_drewN | apply below_drew1 | refine below_set ?_ GE101.out) | exact HB.out)⟩
 ·replace c2:=Bool.eq_false_iff.mpr c2
  subst c2
  have H1 : (if a0_3 > 8 then (some 8) else (some a0_3)) = some r:=by rw [if_neg (show ¬ (false = true) by decide)] at H;exact H
  clear H
  have H:=H1
  clear H1
  by_cases c5 : a0_3 > 8
  ·rw [if_pos c5] at H
   have c5b0 : decide (8 < a0_3) = true:=decide_eq_true c5
   clear c5
   obtain rfl:=Option.some.inj H
   go_enter Try.func73,Try.ntmps73
   go_wp2_with (first | ((with_reducible refine gate_dst (N:=1) rfl ?_);refine box_event ?hg (N:=1) ?hd (cs := #[.bool a0_0, .int .u32 a0_1, .bool false, .int .i64 a0_3, .slice A0_4 l0_4.length c0_4]) (t:=25) ?hr ?_;(case hd => rfl);(case hg => rfl);(case hr => first | (go_simp;done) | (go_simp;rfl));intro gb101 hg w6 hbox hb;have n0_:=Aside0.mk (below_step (by repeat (first | (with_reducible first | exact HB.out | apply below_alloc | apply pw_below_drewN | apply below_drew1) | exact HB.out)) hb);have n1_:=Aside0.mk (hbox);have n2_:=Aside0.mk ((by rw [hg];exact (below_size (by repeat (first | (with_reducible first | exact HB.out | apply below_alloc | apply pw_below_drewN | apply below_drew1) | exact HB.out))) : w.heap.size ≤ gb101));have n3_:=Aside0.mk ((by rw [hg];exact (below_size (by repeat (first | (with_reducible first | exact HB.out | apply below_alloc | apply pw_below_drewN | apply below_drew1) | exact HB.out))) : w.heap.size ≤ gb101));clear HB;have HB:=n0_;have BK101:=n1_;have GW101:=n2_;have GE101:=n3_;clear n0_ n1_ n2_ n3_;clear hb hbox hg;have hcz7_0 : w6.cell? ⟨gb101,0,none⟩ = some (.bool a0_0):=(blk_cell BK101.out 0).trans rfl;have hcz7_1 : w6.cell? ⟨gb101,1,none⟩ = some (.int .u32 a0_1):=(blk_cell BK101.out 1).trans rfl;have hcz7_2 : w6.cell? ⟨gb101,2,none⟩ = some (.bool false):=(blk_cell BK101.out 2).trans rfl;have hcz7_3 : w6.cell? ⟨gb101,3,none⟩ = some (.int .i64 a0_3):=(blk_cell BK101.out 3).trans rfl;have hcz7_4 : w6.cell? ⟨gb101,4,none⟩ = some (.slice A0_4 l0_4.length c0_4):=(blk_cell BK101.out 4).trans rfl;have hfz7_0:=blk_frozen BK101.out 0;have hfz7_1:=blk_frozen BK101.out 1;have hfz7_2:=blk_frozen BK101.out 2;have hfz7_3:=blk_frozen BK101.out 3;have hfz7_4:=blk_frozen BK101.out 4))
   go_ret
   exact ⟨by first | rfl | (simp [errW_none,errW_some] <;> rfl) | (simp [*,errW_none,errW_some] <;> rfl),by repeat (first | (with_reducible first | exact HB.out | apply below_alloc | apply pw_below_drewN | apply below_drew1 | refine below_set ?_ GE101.out) | exact HB.out)⟩
  ·rw [if_neg c5] at H
   have c5b0 : decide (8 < a0_3) = false:=decide_eq_false c5
   clear c5
   obtain rfl:=Option.some.inj H
   go_enter Try.func73,Try.ntmps73
   go_wp2_with (first | ((with_reducible refine gate_dst (N:=1) rfl ?_);refine box_event ?hg (N:=1) ?hd (cs := #[.bool a0_0, .int .u32 a0_1, .bool false, .int .i64 a0_3, .slice A0_4 l0_4.length c0_4]) (t:=25) ?hr ?_;(case hd => rfl);(case hg => rfl);(case hr => first | (go_simp;done) | (go_simp;rfl));intro gb101 hg w8 hbox hb;have n0_:=Aside0.mk (below_step (by repeat (first | (with_reducible first | exact HB.out | apply below_alloc | apply pw_below_drewN | apply below_drew1) | exact HB.out)) hb);have n1_:=Aside0.mk (hbox);have n2_:=Aside0.mk ((by rw [hg];exact (below_size (by repeat (first | (with_reducible first | exact HB.out | apply below_alloc | apply pw_below_drewN | apply below_drew1) | exact HB.out))) : w.heap.size ≤ gb101));have n3_:=Aside0.mk ((by rw [hg];exact (below_size (by repeat (first | (with_reducible first | exact HB.out | apply below_alloc | apply pw_below_drewN | apply below_drew1) | exact HB.out))) : w.heap.size ≤ gb101));clear HB;have HB:=n0_;have BK101:=n1_;have GW101:=n2_;have GE101:=n3_;clear n0_ n1_ n2_ n3_;clear hb hbox hg;have hcz9_0 : w8.cell? ⟨gb101,0,none⟩ = some (.bool a0_0):=(blk_cell BK101.out 0).trans rfl;have hcz9_1 : w8.cell? ⟨gb101,1,none⟩ = some (.int .u32 a0_1):=(blk_cell BK101.out 1).trans rfl;have hcz9_2 : w8.cell? ⟨gb101,2,none⟩ = some (.bool false):=(blk_cell BK101.out 2).trans rfl;have hcz9_3 : w8.cell? ⟨gb101,3,none⟩ = some (.int .i64 a0_3):=(blk_cell BK101.out 3).trans rfl;have hcz9_4 : w8.cell? ⟨gb101,4,none⟩ = some (.slice A0_4 l0_4.length c0_4):=(blk_cell BK101.out 4).trans rfl;have hfz9_0:=blk_frozen BK101.out 0;have hfz9_1:=blk_frozen BK101.out 1;have hfz9_2:=blk_frozen BK101.out 2;have hfz9_3:=blk_frozen BK101.out 3;have hfz9_4:=blk_frozen BK101.out 4))
   go_ret
   exact ⟨by first | rfl | (simp [errW_none,errW_some] <;> rfl) | (simp [*,errW_none,errW_some] <;> rfl),by repeat (first | (with_reducible first | exact HB.out | apply below_alloc | apply pw_below_drewN | apply below_drew1 | refine below_set ?_ GE101.out) | exact HB.out)⟩
end Go.Proofs.Ytdoclpgciadjaaa.P

namespace Go.Proofs.Ytdoclpgciadjaaa.P
open Go.RowKit Go.Proofs.YtdoclpgciadjaaaW.PrintWords Go.Proofs.YtdoclpgciadjaaaW.PrintLast Go.Proofs.YtdoclpgciadjaaaW.PrintMore
set_option linter.unusedVariables false
set_option linter.unusedSimpArgs false
def IsS172 (w0 W : World) (g : Nat) (f0 : List Int) (f1 : Int) (f2 : Int) : Prop := ∃ A0 c0,W.heap[g]? = some (.cells #[.slice A0 f0.length c0, .int .i64 f1, .int .u64 f2] 172 (0,0)) ∧ w0.heap.size ≤ g ∧ Kd.C (Kd.int .u8) w0 A0 f0.length f0
theorem IsS172.grown {w0 W : World} {g : Nat} {f0 : List Int} {f1 : Int} {f2 : Int} {W1 : World} {row : Option Nat} (h : IsS172 w0 W g f0 f1 f2) (hw : W.grownBy W1 row) (hne : some g ≠ row) : IsS172 w0 W1 g f0 f1 f2:=by
 obtain ⟨A0,c0,hb,hg,hr0⟩:=h
 exact ⟨A0,c0,blk_grown hb hw hne,hg,hr0⟩
theorem IsS172.fresh {w0 W : World} {g : Nat} {f0 : List Int} {f1 : Int} {f2 : Int} (h : IsS172 w0 W g f0 f1 f2) : ∀ k,W.heap.size ≤ k → k ≠ g:=by
 obtain ⟨A0,c0,hb,hg,hr0⟩:=h
 exact Kd.freshB hb
theorem IsS172.kept {w0 W : World} {g : Nat} {f0 : List Int} {f1 : Int} {f2 : Int} {W1 : World} {S : Nat → Prop} (h : IsS172 w0 W g f0 f1 f2) (hk : Kept W W1 S) (hne : ¬ S g) : IsS172 w0 W1 g f0 f1 f2:=by
 obtain ⟨A0,c0,hb,hg,hr0⟩:=h
 exact ⟨A0,c0,blk_kept hb hk hne,hg,hr0⟩
theorem IsS172.below {w0 W : World} {g : Nat} {f0 : List Int} {f1 : Int} {f2 : Int} {W1 : World} (h : IsS172 w0 W g f0 f1 f2) (hw : Below W.heap.size W W1) : IsS172 w0 W1 g f0 f1 f2:=h.grown (grown_of_below hw none) (by simp)
theorem IsS172.alloc {w0 W : World} {g : Nat} {f0 : List Int} {f1 : Int} {f2 : Int} (h : IsS172 w0 W g f0 f1 f2) (o : Obj) : IsS172 w0 (W.alloc o) g f0 f1 f2:=h.below (below_alloc (Below.refl _ _) o)
theorem IsS172.drewN {w0 W : World} {g : Nat} {f0 : List Int} {f1 : Int} {f2 : Int} (h : IsS172 w0 W g f0 f1 f2) (m : Nat) : IsS172 w0 (W.drewN m) g f0 f1 f2:=h
theorem IsS172.drew {w0 W : World} {g : Nat} {f0 : List Int} {f1 : Int} {f2 : Int} (h : IsS172 w0 W g f0 f1 f2) : IsS172 w0 W.drew g f0 f1 f2:=h
theorem IsS172.at_ {w0 W : World} {g : Nat} {f0 : List Int} {f1 : Int} {f2 : Int} {w' : World} {m : Nat} (hq : W.drewN m = w') (h : IsS172 w0 W g f0 f1 f2) : IsS172 w0 w' g f0 f1 f2:=by subst hq;exact IsS172.drewN h m
theorem IsS172.apart {w0 W : World} {g : Nat} {f0 : List Int} {f1 : Int} {f2 : Int} {α : Type} {d : Kd α} {e : Nat} {base : Nat} {ok : Nat → Prop} {v : Value} {xs : List α} (h : IsS172 w0 W g f0 f1 f2) (ho : d.R e W base ok v xs) (ht : ∀ q,q ∈ e :: d.E → q ≠ 172) : d.R e W base (fun k => ok k ∧ k ≠ g) v xs:=by
 obtain ⟨A0,c0,hb,hg,hr0⟩:=h
 exact Kd.R_types ho hb ht
theorem IsS172.own_ne {w0 W : World} {g : Nat} {f0 : List Int} {f1 : Int} {f2 : Int} {α : Type} {d : Kd α} {e : Nat} {base : Nat} {ok : Nat → Prop} {v : Value} {xs : List α} (h : IsS172 w0 W g f0 f1 f2) (ho : d.R e W base ok v xs) (ht : e ≠ 172) : some g ≠ v.ownBlock:=by
 obtain ⟨A0,c0,hb,hg,hr0⟩:=h
 exact Kd.R_ne ho hb ht
theorem IsS172.lt {w0 W : World} {g : Nat} {f0 : List Int} {f1 : Int} {f2 : Int} (h : IsS172 w0 W g f0 f1 f2) : g < W.heap.size:=by
 obtain ⟨A0,c0,hb,hg,hr0⟩:=h
 exact blk_lt hb
theorem IsS172.ge {w0 W : World} {g : Nat} {f0 : List Int} {f1 : Int} {f2 : Int} (h : IsS172 w0 W g f0 f1 f2) : w0.heap.size ≤ g:=by
 obtain ⟨A0,c0,hb,hg,hr0⟩:=h
 exact hg
theorem IsS172.ne_blk {w0 W : World} {g : Nat} {f0 : List Int} {f1 : Int} {f2 : Int} {a : Nat} {cs : Array Value} {t : TypeId} {fr : Nat × Nat} (h : IsS172 w0 W g f0 f1 f2) (hb2 : W.heap[a]? = some (.cells cs t fr)) (ht : t ≠ 172) : g ≠ a:=by
 obtain ⟨A0,c0,hb,hg,hr0⟩:=h
 rintro rfl
 rw [hb] at hb2
 injection hb2 with hb2
 injection hb2 with _ ht2
 exact ht ht2.symm
theorem IsS172.far {w0 W : World} {g : Nat} {f0 : List Int} {f1 : Int} {f2 : Int} {p : Addr} (h : IsS172 w0 W g f0 f1 f2) (hne : g ≠ p.block) (u : Value) : IsS172 w0 (W.setCell p u) g f0 f1 f2:=by
 obtain ⟨A0,c0,hb,hg,hr0⟩:=h
 exact ⟨A0,c0,blk_far hb hne u,hg,hr0⟩
theorem cellS172_0 {W : World} {g : Nat} {A0 : Option Addr} {c0 : Nat} {f0 : List Int} {f1 : Int} {f2 : Int} (h : W.heap[g]? = some (.cells #[.slice A0 f0.length c0, .int .i64 f1, .int .u64 f2] 172 (0,0))) : W.cell? ⟨g,0,none⟩ = some (.slice A0 f0.length c0):=(blk_cell h 0).trans rfl
theorem cellS172_1 {W : World} {g : Nat} {A0 : Option Addr} {c0 : Nat} {f0 : List Int} {f1 : Int} {f2 : Int} (h : W.heap[g]? = some (.cells #[.slice A0 f0.length c0, .int .i64 f1, .int .u64 f2] 172 (0,0))) : W.cell? ⟨g,1,none⟩ = some (.int .i64 f1):=(blk_cell h 1).trans rfl
theorem IsS172.set_1 {w0 W : World} {g : Nat} {f0 : List Int} {f1 : Int} {f2 : Int} (h : IsS172 w0 W g f0 f1 f2) (x : Int) : IsS172 w0 (W.setCell ⟨g,1,none⟩ (.int .i64 x)) g f0 x f2:=by
 obtain ⟨A0,c0,hb,hg,hr0⟩:=h
 exact ⟨A0,c0,by simpa using blk_set hb 1 (.int .i64 x),hg,hr0⟩
theorem cellS172_2 {W : World} {g : Nat} {A0 : Option Addr} {c0 : Nat} {f0 : List Int} {f1 : Int} {f2 : Int} (h : W.heap[g]? = some (.cells #[.slice A0 f0.length c0, .int .i64 f1, .int .u64 f2] 172 (0,0))) : W.cell? ⟨g,2,none⟩ = some (.int .u64 f2):=(blk_cell h 2).trans rfl
theorem IsS172.set_2 {w0 W : World} {g : Nat} {f0 : List Int} {f1 : Int} {f2 : Int} (h : IsS172 w0 W g f0 f1 f2) (x : Int) : IsS172 w0 (W.setCell ⟨g,2,none⟩ (.int .u64 x)) g f0 f1 x:=by
 obtain ⟨A0,c0,hb,hg,hr0⟩:=h
 exact ⟨A0,c0,by simpa using blk_set hb 2 (.int .u64 x),hg,hr0⟩
def spec_l1src_n.f (s0_0 : List Int) (s0_1 : Int) (s0_2 : Int) (a1 : Int) : Option (Int × Int × Int):=if s0_1 < (s0_0.length : Int) then (if 0 ≤ s0_1 then (if a1 ≤ 1 then (some (0,wrap64 (s0_1 + 1),IntKind.u64.wrap ((IntKind.u64.wrap ((IntKind.u64.wrap ((IntKind.u64.wrap (s0_2 + (IntKind.u64.wrap (rd s0_0 s0_1)))) + 1)) * 6364136223846793005)) + 1442695040888963407))) else (if (IntKind.u64.wrap (a1)) = 0 then (none) else (some (wrap64 (Int.tmod ((IntKind.u64.wrap ((IntKind.u64.wrap ((IntKind.u64.wrap ((IntKind.u64.wrap (s0_2 + (IntKind.u64.wrap (rd s0_0 s0_1)))) + 1)) * 6364136223846793005)) + 1442695040888963407)) / 8589934592) (IntKind.u64.wrap (a1))),wrap64 (s0_1 + 1),IntKind.u64.wrap ((IntKind.u64.wrap ((IntKind.u64.wrap ((IntKind.u64.wrap (s0_2 + (IntKind.u64.wrap (rd s0_0 s0_1)))) + 1)) * 6364136223846793005)) + 1442695040888963407))))) else (none)) else (if a1 ≤ 1 then (some (0,wrap64 (s0_1 + 1),IntKind.u64.wrap ((IntKind.u64.wrap ((IntKind.u64.wrap ((IntKind.u64.wrap s0_2) + 1)) * 6364136223846793005)) + 1442695040888963407))) else (if (IntKind.u64.wrap (a1)) = 0 then (none) else (some (wrap64 (Int.tmod ((IntKind.u64.wrap ((IntKind.u64.wrap ((IntKind.u64.wrap ((IntKind.u64.wrap s0_2) + 1)) * 6364136223846793005)) + 1442695040888963407)) / 8589934592) (IntKind.u64.wrap (a1))),wrap64 (s0_1 + 1),IntKind.u64.wrap ((IntKind.u64.wrap ((IntKind.u64.wrap ((IntKind.u64.wrap s0_2) + 1)) * 6364136223846793005)) + 1442695040888963407)))))
set_option maxHeartbeats 8000000 in
set_option maxRecDepth 100000 in
theorem spec_l1src_n.calls (g : Nat) (s0_0 : List Int) (s0_1 : Int) (s0_2 : Int) (a1 : Int) (r1 : Int) (r2 : Int) (r3 : Int) (w0 w : World) (hI : IsS172 w0 w g s0_0 s0_1 s0_2) (hB : Below w0.heap.size w0 w) (h : spec_l1src_n.f s0_0 s0_1 s0_2 a1 = some (r1,r2,r3)) :
  Calls Try.prog 137 #[.pointer (some ⟨g,0,none⟩), .int .i64 a1] w fun e w' => e = .returned (.int .i64 r1) ∧ IsS172 w0 w' g s0_0 r2 r3 ∧ Below w0.heap.size w0 w' ∧ KeepBut w w' g none:=by
 have HI0:=Aside0.mk hI
 have HK:=Aside0.mk (KeepBut.refl w g none)
 have HL:=Aside0.mk hB.size
 clear hI
 have HW0:=Aside0.mk hB.size
 have HB:=Aside0.mk hB
 clear hB
 have H : (if s0_1 < (s0_0.length : Int) then (if 0 ≤ s0_1 then (if a1 ≤ 1 then (some (0,wrap64 (s0_1 + 1),IntKind.u64.wrap ((IntKind.u64.wrap ((IntKind.u64.wrap ((IntKind.u64.wrap (s0_2 + (IntKind.u64.wrap (rd s0_0 s0_1)))) + 1)) * 6364136223846793005)) + 1442695040888963407))) else (if (IntKind.u64.wrap (a1)) = 0 then (none) else (some (wrap64 (Int.tmod ((IntKind.u64.wrap ((IntKind.u64.wrap ((IntKind.u64.wrap ((IntKind.u64.wrap (s0_2 + (IntKind.u64.wrap (rd s0_0 s0_1)))) + 1)) * 6364136223846793005)) + 1442695040888963407)) / 8589934592) (IntKind.u64.wrap (a1))),wrap64 (s0_1 + 1),IntKind.u64.wrap ((IntKind.u64.wrap ((IntKind.u64.wrap ((IntKind.u64.wrap (s0_2 + (IntKind.u64.wrap (rd s0_0 s0_1)))) + 1)) * 6364136223846793005)) + 1442695040888963407))))) else (none)) else (if a1 ≤ 1 then (some (0,wrap64 (s0_1 + 1),IntKind.u64.wrap ((IntKind.u64.wrap ((IntKind.u64.wrap ((IntKind.u64.wrap s0_2) + 1)) * 6364136223846793005)) + 1442695040888963407))) else (if (IntKind.u64.wrap (a1)) = 0 then (none) else (some (wrap64 (Int.tmod ((IntKind.u64.wrap ((IntKind.u64.wrap ((IntKind.u64.wrap ((IntKind.u64.wrap s0_2) + 1)) * 6364136223846793005)) + 1442695040888963407)) / 8589934592) (IntKind.u64.wrap (a1))),wrap64 (s0_1 + 1),IntKind.u64.wrap ((IntKind.u64.wrap ((IntKind.u64.wrap ((IntKind.u64.wrap s0_2) + 1)) * 6364136223846793005)) + 1442695040888963407)))))) = some (r1,r2,r3):=h
 clear h
 by_cases c3 : s0_1 < (s0_0.length : Int)
 ·rw [if_pos c3] at H
  have c3b0 : decide (s0_1 < (s0_0.length : Int)) = true:=decide_eq_true c3
  clear c3
  by_cases c4 : 0 ≤ s0_1
  ·rw [if_pos c4] at H
   have c4b0 : decide (0 ≤ s0_1) = true:=decide_eq_true c4
   clear c4
   by_cases c5 : a1 ≤ 1
   ·rw [if_pos c5] at H
    have c5b0 : decide (a1 ≤ 1) = true:=decide_eq_true c5
    clear c5
    simp only [Option.some.injEq,Prod.mk.injEq] at H
    obtain ⟨rfl,rfl,rfl⟩:=H
    obtain ⟨ASz6_0,cSz6_0,HGz6,hgz6,HSz6_0⟩:=HI0.out
    have hcz6_0:=cellS172_0 HGz6
    have hcz6_1:=cellS172_1 HGz6
    have hcz6_2:=cellS172_2 HGz6
    have hfz6_1:=blk_frozen HGz6 1
    have hfz6_2:=blk_frozen HGz6 2
    clear HGz6 hgz6
    have p102 : 0 ≤ (s0_1 : Int):=of_decide_eq_true (by first | (with_reducible assumption) | assumption)
    have q102 : s0_1 < (s0_0.length : Int):=of_decide_eq_true (by first | (with_reducible assumption) | assumption)
    obtain ⟨ad102,e102,hx102_0⟩:=Kd.at_int HSz6_0 s0_1 p102 q102
    cases e102
    replace hx102_0:=pw_cell_below HB.out hx102_0
    replace p102:=eq_true p102
    replace q102:=eq_true q102
    go_enter Try.func137,Try.ntmps137
    go_wp2
    repeat (go_quiet (fail);try go_wp2)
    go_ret
    exact ⟨by first | rfl | (simp [errW_none,errW_some] <;> rfl) | (simp [*,errW_none,errW_some] <;> rfl),by repeat (first | (with_reducible first | exact HI0.out | apply IsS172.alloc | apply IsS172.drewN | apply IsS172.drew | apply IsS172.set_1 | apply IsS172.set_2) | exact HI0.out),by repeat (first | (with_reducible first | exact HB.out | apply below_alloc | apply pw_below_drewN | apply below_drew1 | refine below_set ?_ (IsS172.ge HI0.out)) | exact HB.out),by repeat (first | (with_reducible first | exact HK.out | apply KeepBut.set_ | apply keep_drewN | apply keep_drew | apply keep_alloc) | exact HK.out)⟩
   ·rw [if_neg c5] at H
    have c5b0 : decide (a1 ≤ 1) = false:=decide_eq_false c5
    clear c5
    by_cases c7 : (IntKind.u64.wrap (a1)) = 0
    ·rw [if_pos c7] at H
     exact absurd H (by simp)
    ·rw [if_neg c7] at H
     have c7b0 : ((IntKind.u64.wrap (a1)) == 0) = false:=beq_eq_false_iff_ne.mpr c7
     have c7b1 : ((IntKind.u64.wrap (a1)) != 0) = true:=bne_iff_ne.mpr c7
     simp only [Option.some.injEq,Prod.mk.injEq] at H
     obtain ⟨rfl,rfl,rfl⟩:=H
     obtain ⟨ASz8_0,cSz8_0,HGz8,hgz8,HSz8_0⟩:=HI0.out
     have hcz8_0:=cellS172_0 HGz8
     have hcz8_1:=cellS172_1 HGz8
     have hcz8_2:=cellS172_2 HGz8
     have hfz8_1:=blk_frozen HGz8 1
     have hfz8_2:=blk_frozen HGz8 2
     clear HGz8 hgz8
     have p102 : 0 ≤ (s0_1 : Int):=of_decide_eq_true (by first | (with_reducible assumption) | assumption)
     have q102 : s0_1 < (s0_0.length : Int):=of_decide_eq_true (by first | (with_reducible assumption) | assumption)
     obtain ⟨ad102,e102,hx102_0⟩:=Kd.at_int HSz8_0 s0_1 p102 q102
     cases e102
     replace hx102_0:=pw_cell_below HB.out hx102_0
     replace p102:=eq_true p102
     replace q102:=eq_true q102
     go_enter Try.func137,Try.ntmps137
     go_wp2
     repeat (go_quiet (fail);try go_wp2)
     go_ret
     exact ⟨by first | rfl | (simp [errW_none,errW_some] <;> rfl) | (simp [*,errW_none,errW_some] <;> rfl),by repeat (first | (with_reducible first | exact HI0.out | apply IsS172.alloc | apply IsS172.drewN | apply IsS172.drew | apply IsS172.set_1 | apply IsS172.set_2) | exact HI0.out),by repeat (first | (with_reducible first | exact HB.out | apply below_alloc | apply pw_below_drewN | apply below_drew1 | refine below_set ?_ (IsS172.ge HI0.out)) | exact HB.out),by repeat (first | (with_reducible first | exact HK.out | apply KeepBut.set_ | apply keep_drewN | apply keep_drew | apply keep_alloc) | exact HK.out)⟩
  ·rw [if_neg c4] at H
   exact absurd H (by simp)
 ·rw [if_neg c3] at H
  have c3b0 : decide (s0_1 < (s0_0.length : Int)) = false:=decide_eq_false c3
  clear c3
  by_cases c9 : a1 ≤ 1
  ·rw [if_pos c9] at H
   have c9b0 : decide (a1 ≤ 1) = true:=decide_eq_true c9
   clear c9
   simp only [Option.some.injEq,Prod.mk.injEq] at H
   obtain ⟨rfl,rfl,rfl⟩:=H
   obtain ⟨ASz10_0,cSz10_0,HGz10,hgz10,HSz10_0⟩:=HI0.out
   have hcz10_0:=cellS172_0 HGz10
   have hcz10_1:=cellS172_1 HGz10
   have hcz10_2:=cellS172_2 HGz10
   have hfz10_1:=blk_frozen HGz10 1
   have hfz10_2:=blk_frozen HGz10 2
   clear HGz10 hgz10
   go_enter Try.func137,Try.ntmps137
   go_wp2
   repeat (go_quiet (fail);try go_wp2)
   go_ret
   exact ⟨by first | rfl | (simp [errW_none,errW_some] <;> rfl) | (simp [*,errW_none,errW_some] <;> rfl),by repeat (first | (with_reducible first | exact HI0.out | apply IsS172.alloc | apply IsS172.drewN | apply IsS172.drew | apply IsS172.set_1 | apply IsS172.set_2) | exact HI0.out),by repeat (first | (with_reducible first | exact HB.out | apply below_alloc | apply pw_below_drewN | apply below_drew1 | refine below_set ?_ (IsS172.ge HI0.out)) | exact HB.out),by repeat (first | (with_reducible first | exact HK.out | apply KeepBut.set_ | apply keep_drewN | apply keep_drew | apply keep_alloc) | exact HK.out)⟩
  ·rw [if_neg c9] at H
   have c9b0 : decide (a1 ≤ 1) = false:=decide_eq_false c9
   clear c9
   by_cases c11 : (IntKind.u64.wrap (a1)) = 0
   ·rw [if_pos c11] at H
    exact absurd H (by simp)
   ·rw [if_neg c11] at H
    have c11b0 : ((IntKind.u64.wrap (a1)) == 0) = false:=beq_eq_false_iff_ne.mpr c11
    have c11b1 : ((IntKind.u64.wrap (a1)) != 0) = true:=bne_iff_ne.mpr c11
    simp only [Option.some.injEq,Prod.mk.injEq] at H
    obtain ⟨rfl,rfl,rfl⟩:=H
    obtain ⟨ASz12_0,cSz12_0,HGz12,hgz12,HSz12_0⟩:=HI0.out
    have hcz12_0:=cellS172_0 HGz12
    have hcz12_1:=cellS172_1 HGz12
    have hcz12_2:=cellS172_2 HGz12
    have hfz12_1:=blk_frozen HGz12 1
    have hfz12_2:=blk_frozen HGz12 2
    clear HGz12 hgz12
    go_enter Try.func137,Try.ntmps137
    go_wp2
    repeat (go_quiet (fail);try go_wp2)
    go_ret
    exact ⟨by first | rfl | (simp [errW_none,errW_some] <;> rfl) | (simp [*,errW_none,errW_some] <;> rfl),by repeat (first | (with_reducible first | exact HI0.out | apply IsS172.alloc | apply IsS172.drewN | apply IsS172.drew | apply IsS172.set_1 | apply IsS172.set_2) | exact HI0.out),by repeat (first | (with_reducible first | exact HB.out | apply below_alloc | apply pw_below_drewN | apply below_drew1 | refine below_set ?_ (IsS172.ge HI0.out)) | exact HB.out),by repeat (first | (with_reducible first | exact HK.out | apply KeepBut.set_ | apply keep_drewN | apply keep_drew | apply keep_alloc) | exact HK.out)⟩
end Go.Proofs.Ytdoclpgciadjaaa.P

namespace Go.Proofs.Ytdoclpgciadjaaa.P
open Go.RowKit Go.Proofs.YtdoclpgciadjaaaW.PrintWords Go.Proofs.YtdoclpgciadjaaaW.PrintLast Go.Proofs.YtdoclpgciadjaaaW.PrintMore
set_option linter.unusedVariables false
set_option linter.unusedSimpArgs false
def spec_l1genId.j0 : Nat → Int → List Int → Int → Int → Option (Int × Int × Int)
 | 0,_,_,_,_ => none
 | k + 1,x5,x1000,x1001,x1002 => (spec_l1src_n.f x1000 x1001 x1002 6).bind fun bt103 => (if bt103.1 = 0 then (some (0,bt103.2.1,bt103.2.2)) else (if bt103.1 = 1 then (some ((wrap64 (x5 - 1)) % 4294967296,bt103.2.1,bt103.2.2)) else (if bt103.1 = 2 then ((spec_l1src_n.f x1000 bt103.2.1 bt103.2.2 8).bind fun bt106 => (some ((bt106.1) % 4294967296,bt106.2.1,bt106.2.2))) else (if bt103.1 = 3 then ((spec_l1src_n.f x1000 bt103.2.1 bt103.2.2 64).bind fun bt109 => (some ((wrap64 ((wrap64 (x5 - 1)) - bt109.1)) % 4294967296,bt109.2.1,bt109.2.2))) else ((spec_l1src_n.f x1000 bt103.2.1 bt103.2.2 x5).bind fun bt112 => (some ((bt112.1) % 4294967296,bt112.2.1,bt112.2.2)))))))
def spec_l1genId.f (k : Nat) (s0_0 : List Int) (s0_1 : Int) (s0_2 : Int) (a1 : Bool) : Option (Int × Int × Int):=if a1 = true then (spec_l1genId.j0 k 536870912 s0_0 s0_1 s0_2) else (spec_l1genId.j0 k 2048 s0_0 s0_1 s0_2)
set_option maxHeartbeats 8000000 in
set_option maxRecDepth 100000 in
theorem spec_l1genId.calls (k : Nat) (g : Nat) (s0_0 : List Int) (s0_1 : Int) (s0_2 : Int) (a1 : Bool) (r1 : Int) (r2 : Int) (r3 : Int) (w0 w : World) (hI : IsS172 w0 w g s0_0 s0_1 s0_2) (hB : Below w0.heap.size w0 w) (h : spec_l1genId.f k s0_0 s0_1 s0_2 a1 = some (r1,r2,r3)) :
  Calls Try.prog 157 #[.pointer (some ⟨g,0,none⟩), .bool a1] w fun e w' => e = .returned (.int .u32 r1) ∧ IsS172 w0 w' g s0_0 r2 r3 ∧ Below w0.heap.size w0 w' ∧ KeepBut w w' g none:=by
 have HI0:=Aside0.mk hI
 have HK:=Aside0.mk (KeepBut.refl w g none)
 have HL:=Aside0.mk hB.size
 clear hI
 have HW0:=Aside0.mk hB.size
 have HB:=Aside0.mk hB
 clear hB
 have H : (if a1 = true then (spec_l1genId.j0 k 536870912 s0_0 s0_1 s0_2) else (spec_l1genId.j0 k 2048 s0_0 s0_1 s0_2)) = some (r1,r2,r3):=h
 clear h
 have HC3:=Aside0.mk H
 clear H
 go_enter Try.func157,Try.ntmps157
 go_upto_if 6 with (fail)
 go_cut [5] (fun v5 wc => ∃ (kq : Nat) (x5_2 : Int),v5 = .int .i64 x5_2 ∧ Aside0 (spec_l1genId.j0 kq x5_2 s0_0 s0_1 s0_2 = some (r1,r2,r3)) ∧ Aside0 (kq ≤ k) ∧ Aside0 (IsS172 w0 wc g s0_0 s0_1 s0_2) ∧ Aside0 (KeepBut w wc g none) ∧ Aside0 (Below w0.heap.size w0 wc))
 case first =>
  have H:=HC3.out
  clear HC3
  by_cases c4 : a1 = true
  ·subst c4
   have H1 : (spec_l1genId.j0 k 536870912 s0_0 s0_1 s0_2) = some (r1,r2,r3):=by rw [if_pos rfl] at H;exact H
   clear H
   have H:=H1
   clear H1
   have H':=Aside0.mk H
   clear H
   go_wp2
   go_meet
   case rel => exact ⟨_,(536870912),(by first | rfl | (simp;done) | (simp [*];done)),H',⟨by first | omega | exact Nat.le_refl _⟩,⟨by repeat (first | (with_reducible first | exact HI0.out | apply IsS172.alloc | apply IsS172.drewN | apply IsS172.drew | apply IsS172.set_1 | apply IsS172.set_2) | exact HI0.out)⟩,⟨by repeat (first | (with_reducible first | exact HK.out | apply KeepBut.set_ | apply keep_drewN | apply keep_drew | apply keep_alloc) | exact HK.out)⟩,⟨by repeat (first | (with_reducible first | exact HB.out | apply below_alloc | apply pw_below_drewN | apply below_drew1 | refine below_set ?_ (IsS172.ge HI0.out)) | exact HB.out)⟩⟩
  ·replace c4:=Bool.eq_false_iff.mpr c4
   subst c4
   have H1 : (spec_l1genId.j0 k 2048 s0_0 s0_1 s0_2) = some (r1,r2,r3):=by rw [if_neg (show ¬ (false = true) by decide)] at H;exact H
   clear H
   have H:=H1
   clear H1
   have H':=Aside0.mk H
   clear H
   go_wp2
   go_meet
   case rel => exact ⟨_,(2048),(by first | rfl | (simp;done) | (simp [*];done)),H',⟨by first | omega | exact Nat.le_refl _⟩,⟨by repeat (first | (with_reducible first | exact HI0.out | apply IsS172.alloc | apply IsS172.drewN | apply IsS172.drew | apply IsS172.set_1 | apply IsS172.set_2) | exact HI0.out)⟩,⟨by repeat (first | (with_reducible first | exact HK.out | apply KeepBut.set_ | apply keep_drewN | apply keep_drew | apply keep_alloc) | exact HK.out)⟩,⟨by repeat (first | (with_reducible first | exact HB.out | apply below_alloc | apply pw_below_drewN | apply below_drew1 | refine below_set ?_ (IsS172.ge HI0.out)) | exact HB.out)⟩⟩
 case rest =>
  clear HC3
  try clear c1
  try clear p2
  try clear c4
  obtain ⟨kq,x5_2,rfl,HA,HJ2,HI0,HK,HB⟩:=hcut
  cases kq with
  | zero => exact absurd HA.out (by simp [spec_l1genId.j0])
  | succ kj2 =>
   have H:=HA.out
   clear HA
   simp only [spec_l1genId.j0] at H
   replace H:=Option.bind_eq_some_iff.mp H
   obtain ⟨⟨t103,t104,t105⟩,A50,H⟩:=H
   replace H : (if t103 = 0 then (some (0,t104,t105)) else (if t103 = 1 then (some ((wrap64 (x5_2 - 1)) % 4294967296,t104,t105)) else (if t103 = 2 then ((spec_l1src_n.f s0_0 t104 t105 8).bind fun bt106 => (some ((bt106.1) % 4294967296,bt106.2.1,bt106.2.2))) else (if t103 = 3 then ((spec_l1src_n.f s0_0 t104 t105 64).bind fun bt109 => (some ((wrap64 ((wrap64 (x5_2 - 1)) - bt109.1)) % 4294967296,bt109.2.1,bt109.2.2))) else ((spec_l1src_n.f s0_0 t104 t105 x5_2).bind fun bt112 => (some ((bt112.1) % 4294967296,bt112.2.1,bt112.2.2))))))) = some (r1,r2,r3):=H
   have A5:=Aside0.mk A50
   clear A50
   by_cases c6 : t103 = 0
   ·rw [if_pos c6] at H
    have c6b0 : (t103 == 0) = true:=beq_iff_eq.mpr c6
    have c6b1 : (t103 != 0) = false:=bne_eq_false_iff_eq.mpr c6
    clear c6
    simp only [Option.some.injEq,Prod.mk.injEq] at H
    obtain ⟨rfl,rfl,rfl⟩:=H
    go_wp2_with (first | ((with_reducible refine gate_callee (f:=137) rfl ?_);refine goesL_ (some 8) rfl rfl Try.func137 (by kernel_rfl) rfl #[.pointer (some ⟨g,0,none⟩), .int .i64 6] rfl (by (try simp only [List.map_toArray,List.map_cons,List.map_nil]);first | done | rfl | (simp only [List.length_drop,List.length_take];rfl)) ?_;(with_reducible refine (spec_l1src_n.calls g s0_0 s0_1 s0_2 6 t103 t104 t105 w0 _ ?side1 ?side2 A5.out).mono ?_);(case side1 => repeat (first | (with_reducible first | exact HI0.out | apply IsS172.alloc | apply IsS172.drewN | apply IsS172.drew | apply IsS172.set_1 | apply IsS172.set_2) | exact HI0.out));(case side2 => repeat (first | (with_reducible first | exact HB.out | apply below_alloc | apply pw_below_drewN | apply below_drew1 | refine below_set ?_ (IsS172.ge HI0.out)) | exact HB.out));rintro e w7 ⟨rfl,hi,hb,hk⟩;refine ⟨_,rfl, ?_⟩;have n0_:=Aside0.mk (KeepBut.trans (by repeat (first | (with_reducible first | exact HK.out | apply KeepBut.set_ | apply keep_drewN | apply keep_drew | apply keep_alloc) | exact HK.out)) hk (.inl rfl));have n1_:=Aside0.mk (hb);have n2_:=Aside0.mk (hi);clear HK;clear HB;clear HI0;have HK:=n0_;have HB:=n1_;have HI0:=n2_;clear n0_ n1_ n2_;(try clear hb);(try clear hb2);(try clear hk);(try clear hi)))
    go_ret
    exact ⟨by first | rfl | (simp [errW_none,errW_some] <;> rfl) | (simp [*,errW_none,errW_some] <;> rfl),by repeat (first | (with_reducible first | exact HI0.out | apply IsS172.alloc | apply IsS172.drewN | apply IsS172.drew | apply IsS172.set_1 | apply IsS172.set_2) | exact HI0.out),by repeat (first | (with_reducible first | exact HB.out | apply below_alloc | apply pw_below_drewN | apply below_drew1 | refine below_set ?_ (IsS172.ge HI0.out)) | exact HB.out),by repeat (first | (with_reducible first | exact HK.out | apply KeepBut.set_ | apply keep_drewN | apply keep_drew | apply keep_alloc) | exact HK.out)⟩
   ·rw [if_neg c6] at H
    have c6b0 : (t103 == 0) = false:=beq_eq_false_iff_ne.mpr c6
    have c6b1 : (t103 != 0) = true:=bne_iff_ne.mpr c6
    by_cases c8 : t103 = 1
    ·rw [if_pos c8] at H
     have c8b0 : (t103 == 1) = true:=beq_iff_eq.mpr c8
     have c8b1 : (t103 != 1) = false:=bne_eq_false_iff_eq.mpr c8
     clear c8
     simp only [Option.some.injEq,Prod.mk.injEq] at H
     obtain ⟨rfl,rfl,rfl⟩:=H
     go_wp2_with (first | ((with_reducible refine gate_callee (f:=137) rfl ?_);refine goesL_ (some 8) rfl rfl Try.func137 (by kernel_rfl) rfl #[.pointer (some ⟨g,0,none⟩), .int .i64 6] rfl (by (try simp only [List.map_toArray,List.map_cons,List.map_nil]);first | done | rfl | (simp only [List.length_drop,List.length_take];rfl)) ?_;(with_reducible refine (spec_l1src_n.calls g s0_0 s0_1 s0_2 6 t103 t104 t105 w0 _ ?side1 ?side2 A5.out).mono ?_);(case side1 => repeat (first | (with_reducible first | exact HI0.out | apply IsS172.alloc | apply IsS172.drewN | apply IsS172.drew | apply IsS172.set_1 | apply IsS172.set_2) | exact HI0.out));(case side2 => repeat (first | (with_reducible first | exact HB.out | apply below_alloc | apply pw_below_drewN | apply below_drew1 | refine below_set ?_ (IsS172.ge HI0.out)) | exact HB.out));rintro e w9 ⟨rfl,hi,hb,hk⟩;refine ⟨_,rfl, ?_⟩;have n0_:=Aside0.mk (KeepBut.trans (by repeat (first | (with_reducible first | exact HK.out | apply KeepBut.set_ | apply keep_drewN | apply keep_drew | apply keep_alloc) | exact HK.out)) hk (.inl rfl));have n1_:=Aside0.mk (hb);have n2_:=Aside0.mk (hi);clear HK;clear HB;clear HI0;have HK:=n0_;have HB:=n1_;have HI0:=n2_;clear n0_ n1_ n2_;(try clear hb);(try clear hb2);(try clear hk);(try clear hi)))
     go_ret
     exact ⟨by first | rfl | (simp [errW_none,errW_some] <;> rfl) | (simp [*,errW_none,errW_some] <;> rfl),by repeat (first | (with_reducible first | exact HI0.out | apply IsS172.alloc | apply IsS172.drewN | apply IsS172.drew | apply IsS172.set_1 | apply IsS172.set_2) | exact HI0.out),by repeat (first | (with_reducible first | exact HB.out | apply below_alloc | apply pw_below_drewN | apply below_drew1 | refine below_set ?_ (IsS172.ge HI0.out)) | exact HB.out),by repeat (first | (with_reducible first | exact HK.out | apply KeepBut.set_ | apply keep_drewN | apply keep_drew | apply keep_alloc) | exact HK.out)⟩
    ·rw [if_neg c8] at H
     have c8b0 : (t103 == 1) = false:=beq_eq_false_iff_ne.mpr c8
     have c8b1 : (t103 != 1) = true:=bne_iff_ne.mpr c8
     by_cases c10 : t103 = 2
     ·rw [if_pos c10] at H
      have c10b0 : (t103 == 2) = true:=beq_iff_eq.mpr c10
      have c10b1 : (t103 != 2) = false:=bne_eq_false_iff_eq.mpr c10
      clear c10
      replace H:=Option.bind_eq_some_iff.mp H
      obtain ⟨⟨t106,t107,t108⟩,A110,H⟩:=H
      replace H : (some ((t106) % 4294967296,t107,t108)) = some (r1,r2,r3):=H
      have A11:=Aside0.mk A110
      clear A110
      simp only [Option.some.injEq,Prod.mk.injEq] at H
      obtain ⟨rfl,rfl,rfl⟩:=H
      go_wp2_with (first | ((with_reducible refine gate_callee (f:=137) rfl ?_);refine goesL_ (some 8) rfl rfl Try.func137 (by kernel_rfl) rfl #[.pointer (some ⟨g,0,none⟩), .int .i64 6] rfl (by (try simp only [List.map_toArray,List.map_cons,List.map_nil]);first | done | rfl | (simp only [List.length_drop,List.length_take];rfl)) ?_;(with_reducible refine (spec_l1src_n.calls g s0_0 s0_1 s0_2 6 t103 t104 t105 w0 _ ?side1 ?side2 A5.out).mono ?_);(case side1 => repeat (first | (with_reducible first | exact HI0.out | apply IsS172.alloc | apply IsS172.drewN | apply IsS172.drew | apply IsS172.set_1 | apply IsS172.set_2) | exact HI0.out));(case side2 => repeat (first | (with_reducible first | exact HB.out | apply below_alloc | apply pw_below_drewN | apply below_drew1 | refine below_set ?_ (IsS172.ge HI0.out)) | exact HB.out));rintro e w12 ⟨rfl,hi,hb,hk⟩;refine ⟨_,rfl, ?_⟩;have n0_:=Aside0.mk (KeepBut.trans (by repeat (first | (with_reducible first | exact HK.out | apply KeepBut.set_ | apply keep_drewN | apply keep_drew | apply keep_alloc) | exact HK.out)) hk (.inl rfl));have n1_:=Aside0.mk (hb);have n2_:=Aside0.mk (hi);clear HK;clear HB;clear HI0;have HK:=n0_;have HB:=n1_;have HI0:=n2_;clear n0_ n1_ n2_;(try clear hb);(try clear hb2);(try clear hk);(try clear hi)) | ((with_reducible refine gate_callee (f:=137) rfl ?_);refine goesL_ (some 19) rfl rfl Try.func137 (by kernel_rfl) rfl #[.pointer (some ⟨g,0,none⟩), .int .i64 8] rfl (by (try simp only [List.map_toArray,List.map_cons,List.map_nil]);first | done | rfl | (simp only [List.length_drop,List.length_take];rfl)) ?_;(with_reducible refine (spec_l1src_n.calls g s0_0 t104 t105 8 t106 t107 t108 w0 _ ?side1 ?side2 A11.out).mono ?_);(case side1 => repeat (first | (with_reducible first | exact HI0.out | apply IsS172.alloc | apply IsS172.drewN | apply IsS172.drew | apply IsS172.set_1 | apply IsS172.set_2) | exact HI0.out));(case side2 => repeat (first | (with_reducible first | exact HB.out | apply below_alloc | apply pw_below_drewN | apply below_drew1 | refine below_set ?_ (IsS172.ge HI0.out)) | exact HB.out));rintro e w13 ⟨rfl,hi,hb,hk⟩;refine ⟨_,rfl, ?_⟩;have n0_:=Aside0.mk (KeepBut.trans (by repeat (first | (with_reducible first | exact HK.out | apply KeepBut.set_ | apply keep_drewN | apply keep_drew | apply keep_alloc) | exact HK.out)) hk (.inl rfl));have n1_:=Aside0.mk (hb);have n2_:=Aside0.mk (hi);clear HK;clear HB;clear HI0;have HK:=n0_;have HB:=n1_;have HI0:=n2_;clear n0_ n1_ n2_;(try clear hb);(try clear hb2);(try clear hk);(try clear hi)))
      go_ret
      exact ⟨by first | rfl | (simp [errW_none,errW_some] <;> rfl) | (simp [*,errW_none,errW_some] <;> rfl),by repeat (first | (with_reducible first | exact HI0.out | apply IsS172.alloc | apply IsS172.drewN | apply IsS172.drew | apply IsS172.set_1 | apply IsS172.set_2) | exact HI0.out),by repeat (first | (with_reducible first | exact HB.out | apply below_alloc | apply pw_below_drewN | apply below_drew1 | refine below_set ?_ (IsS172.ge HI0.out)) | exact HB.out),by repeat (first | (with_reducible first | exact HK.out | apply KeepBut.set_ | apply keep_drewN | apply keep_drew | apply keep_alloc) | exact HK.out)⟩
     ·rw [if_neg c10] at H
      have c10b0 : (t103 == 2) = false:=beq_eq_false_iff_ne.mpr c10
      have c10b1 : (t103 != 2) = true:=bne_iff_ne.mpr c10
      by_cases c14 : t103 = 3
      ·rw [if_pos c14] at H
       have c14b0 : (t103 == 3) = true:=beq_iff_eq.mpr c14
       have c14b1 : (t103 != 3) = false:=bne_eq_false_iff_eq.mpr c14
       clear c14
       replace H:=Option.bind_eq_some_iff.mp H
       obtain ⟨⟨t109,t110,t111⟩,A150,H⟩:=H
       replace H : (some ((wrap64 ((wrap64 (x5_2 - 1)) - t109)) % 4294967296,t110,t111)) = some (r1,r2,r3):=H
       have A15:=Aside0.mk A150
       clear A150
       simp only [Option.some.injEq,Prod.mk.injEq] at H
       obtain ⟨rfl,rfl,rfl⟩:=H
       go_wp2_with (first | ((with_reducible refine gate_callee (f:=137) rfl ?_);refine goesL_ (some 8) rfl rfl Try.func137 (by kernel_rfl) rfl #[.pointer (some ⟨g,0,none⟩), .int .i64 6] rfl (by (try simp only [List.map_toArray,List.map_cons,List.map_nil]);first | done | rfl | (simp only [List.length_drop,List.length_take];rfl)) ?_;(with_reducible refine (spec_l1src_n.calls g s0_0 s0_1 s0_2 6 t103 t104 t105 w0 _ ?side1 ?side2 A5.out).mono ?_);(case side1 => repeat (first | (with_reducible first | exact HI0.out | apply IsS172.alloc | apply IsS172.drewN | apply IsS172.drew | apply IsS172.set_1 | apply IsS172.set_2) | exact HI0.out));(case side2 => repeat (first | (with_reducible first | exact HB.out | apply below_alloc | apply pw_below_drewN | apply below_drew1 | refine below_set ?_ (IsS172.ge HI0.out)) | exact HB.out));rintro e w16 ⟨rfl,hi,hb,hk⟩;refine ⟨_,rfl, ?_⟩;have n0_:=Aside0.mk (KeepBut.trans (by repeat (first | (with_reducible first | exact HK.out | apply KeepBut.set_ | apply keep_drewN | apply keep_drew | apply keep_alloc) | exact HK.out)) hk (.inl rfl));have n1_:=Aside0.mk (hb);have n2_:=Aside0.mk (hi);clear HK;clear HB;clear HI0;have HK:=n0_;have HB:=n1_;have HI0:=n2_;clear n0_ n1_ n2_;(try clear hb);(try clear hb2);(try clear hk);(try clear hi)) | ((with_reducible refine gate_callee (f:=137) rfl ?_);refine goesL_ (some 26) rfl rfl Try.func137 (by kernel_rfl) rfl #[.pointer (some ⟨g,0,none⟩), .int .i64 64] rfl (by (try simp only [List.map_toArray,List.map_cons,List.map_nil]);first | done | rfl | (simp only [List.length_drop,List.length_take];rfl)) ?_;(with_reducible refine (spec_l1src_n.calls g s0_0 t104 t105 64 t109 t110 t111 w0 _ ?side1 ?side2 A15.out).mono ?_);(case side1 => repeat (first | (with_reducible first | exact HI0.out | apply IsS172.alloc | apply IsS172.drewN | apply IsS172.drew | apply IsS172.set_1 | apply IsS172.set_2) | exact HI0.out));(case side2 => repeat (first | (with_reducible first | exact HB.out | apply below_alloc | apply pw_below_drewN | apply below_drew1 | refine below_set ?_ (IsS172.ge HI0.out)) | exact HB.out));rintro e w17 ⟨rfl,hi,hb,hk⟩;refine ⟨_,rfl, ?_⟩;have n0_:=Aside0.mk (KeepBut.trans (by repeat (first | (with_reducible first | exact HK.out | apply KeepBut.set_ | apply keep_drewN | apply keep_drew | apply keep_alloc) | exact HK.out)) hk (.inl rfl));have n1_:=Aside0.mk (hb);have n2_:=Aside0.mk (hi);clear HK;clear HB;clear HI0;have HK:=n0_;have HB:=n1_;have HI0:=n2_;clear n0_ n1_ n2_;(try clear hb);(try clear hb2);(try clear hk);(try clear hi)))
       go_ret
       exact ⟨by first | rfl | (simp [errW_none,errW_some] <;> rfl) | (simp [*,errW_none,errW_some] <;> rfl),by repeat (first | (with_reducible first | exact HI0.out | apply IsS172.alloc | apply IsS172.drewN | apply IsS172.drew | apply IsS172.set_1 | apply IsS172.set_2) | exact HI0.out),by repeat (first | (with_reducible first | exact HB.out | apply below_alloc | apply pw_below_drewN | apply below_drew1 | refine below_set ?_ (IsS172.ge HI0.out)) | exact HB.out),by repeat (first | (with_reducible first | exact HK.out | apply KeepBut.set_ | apply keep_drewN | apply keep_drew | apply keep_alloc) | exact HK.out)⟩
      ·rw [if_neg c14] at H
       have c14b0 : (t103 == 3) = false:=beq_eq_false_iff_ne.mpr c14
       have c14b1 : (t103 != 3) = true:=bne_iff_ne.mpr c14
       replace H:=Option.bind_eq_some_iff.mp H
       obtain ⟨⟨t112,t113,t114⟩,A180,H⟩:=H
       replace H : (some ((t112) % 4294967296,t113,t114)) = some (r1,r2,r3):=H
       have A18:=Aside0.mk A180
       clear A180
       simp only [Option.some.injEq,Prod.mk.injEq] at H
       obtain ⟨rfl,rfl,rfl⟩:=H
       go_wp2_with (first | ((with_reducible refine gate_callee (f:=137) rfl ?_);refine goesL_ (some 8) rfl rfl Try.func137 (by kernel_rfl) rfl #[.pointer (some ⟨g,0,none⟩), .int .i64 6] rfl (by (try simp only [List.map_toArray,List.map_cons,List.map_nil]);first | done | rfl | (simp only [List.length_drop,List.length_take];rfl)) ?_;(with_reducible refine (spec_l1src_n.calls g s0_0 s0_1 s0_2 6 t103 t104 t105 w0 _ ?side1 ?side2 A5.out).mono ?_);(case side1 => repeat (first | (with_reducible first | exact HI0.out | apply IsS172.alloc | apply IsS172.drewN | apply IsS172.drew | apply IsS172.set_1 | apply IsS172.set_2) | exact HI0.out));(case side2 => repeat (first | (with_reducible first | exact HB.out | apply below_alloc | apply pw_below_drewN | apply below_drew1 | refine below_set ?_ (IsS172.ge HI0.out)) | exact HB.out));rintro e w19 ⟨rfl,hi,hb,hk⟩;refine ⟨_,rfl, ?_⟩;have n0_:=Aside0.mk (KeepBut.trans (by repeat (first | (with_reducible first | exact HK.out | apply KeepBut.set_ | apply keep_drewN | apply keep_drew | apply keep_alloc) | exact HK.out)) hk (.inl rfl));have n1_:=Aside0.mk (hb);have n2_:=Aside0.mk (hi);clear HK;clear HB;clear HI0;have HK:=n0_;have HB:=n1_;have HI0:=n2_;clear n0_ n1_ n2_;(try clear hb);(try clear hb2);(try clear hk);(try clear hi)) | ((with_reducible refine gate_callee (f:=137) rfl ?_);refine goesL_ (some 31) rfl rfl Try.func137 (by kernel_rfl) rfl #[.pointer (some ⟨g,0,none⟩), .int .i64 x5_2] rfl (by (try simp only [List.map_toArray,List.map_cons,List.map_nil]);first | done | rfl | (simp only [List.length_drop,List.length_take];rfl)) ?_;(with_reducible refine (spec_l1src_n.calls g s0_0 t104 t105 x5_2 t112 t113 t114 w0 _ ?side1 ?side2 A18.out).mono ?_);(case side1 => repeat (first | (with_reducible first | exact HI0.out | apply IsS172.alloc | apply IsS172.drewN | apply IsS172.drew | apply IsS172.set_1 | apply IsS172.set_2) | exact HI0.out));(case side2 => repeat (first | (with_reducible first | exact HB.out | apply below_alloc | apply pw_below_drewN | apply below_drew1 | refine below_set ?_ (IsS172.ge HI0.out)) | exact HB.out));rintro e w20 ⟨rfl,hi,hb,hk⟩;refine ⟨_,rfl, ?_⟩;have n0_:=Aside0.mk (KeepBut.trans (by repeat (first | (with_reducible first | exact HK.out | apply KeepBut.set_ | apply keep_drewN | apply keep_drew | apply keep_alloc) | exact HK.out)) hk (.inl rfl));have n1_:=Aside0.mk (hb);have n2_:=Aside0.mk (hi);clear HK;clear HB;clear HI0;have HK:=n0_;have HB:=n1_;have HI0:=n2_;clear n0_ n1_ n2_;(try clear hb);(try clear hb2);(try clear hk);(try clear hi)))
       go_ret
       exact ⟨by first | rfl | (simp [errW_none,errW_some] <;> rfl) | (simp [*,errW_none,errW_some] <;> rfl),by repeat (first | (with_reducible first | exact HI0.out | apply IsS172.alloc | apply IsS172.drewN | apply IsS172.drew | apply IsS172.set_1 | apply IsS172.set_2) | exact HI0.out),by repeat (first | (with_reducible first | exact HB.out | apply below_alloc | apply pw_below_drewN | apply below_drew1 | refine below_set ?_ (IsS172.ge HI0.out)) | exact HB.out),by repeat (first | (with_reducible first | exact HK.out | apply KeepBut.set_ | apply keep_drewN | apply keep_drew | apply keep_alloc) | exact HK.out)⟩
end Go.Proofs.Ytdoclpgciadjaaa.P

namespace Go.Proofs.Ytdoclpgciadjaaa.P
open Go.RowKit Go.Proofs.YtdoclpgciadjaaaW.PrintWords Go.Proofs.YtdoclpgciadjaaaW.PrintLast Go.Proofs.YtdoclpgciadjaaaW.PrintMore
set_option linter.unusedVariables false
set_option linter.unusedSimpArgs false
def spec_l1genByte.f (s0_0 : List Int) (s0_1 : Int) (s0_2 : Int) : Option (Int × Int × Int):=(spec_l1src_n.f s0_0 s0_1 s0_2 4).bind fun bt115 => (if bt115.1 = 0 then (some (0,bt115.2.1,bt115.2.2)) else (if bt115.1 = 1 then (some (255,bt115.2.1,bt115.2.2)) else ((spec_l1src_n.f s0_0 bt115.2.1 bt115.2.2 256).bind fun bt118 => (some ((bt118.1) % 256,bt118.2.1,bt118.2.2)))))
set_option maxHeartbeats 8000000 in
set_option maxRecDepth 100000 in
theorem spec_l1genByte.calls (g : Nat) (s0_0 : List Int) (s0_1 : Int) (s0_2 : Int) (r1 : Int) (r2 : Int) (r3 : Int) (w0 w : World) (hI : IsS172 w0 w g s0_0 s0_1 s0_2) (hB : Below w0.heap.size w0 w) (h : spec_l1genByte.f s0_0 s0_1 s0_2 = some (r1,r2,r3)) :
  Calls Try.prog 158 #[.pointer (some ⟨g,0,none⟩)] w fun e w' => e = .returned (.int .u8 r1) ∧ IsS172 w0 w' g s0_0 r2 r3 ∧ Below w0.heap.size w0 w' ∧ KeepBut w w' g none:=by
 have HI0:=Aside0.mk hI
 have HK:=Aside0.mk (KeepBut.refl w g none)
 have HL:=Aside0.mk hB.size
 clear hI
 have HW0:=Aside0.mk hB.size
 have HB:=Aside0.mk hB
 clear hB
 have H : ((spec_l1src_n.f s0_0 s0_1 s0_2 4).bind fun bt115 => (if bt115.1 = 0 then (some (0,bt115.2.1,bt115.2.2)) else (if bt115.1 = 1 then (some (255,bt115.2.1,bt115.2.2)) else ((spec_l1src_n.f s0_0 bt115.2.1 bt115.2.2 256).bind fun bt118 => (some ((bt118.1) % 256,bt118.2.1,bt118.2.2)))))) = some (r1,r2,r3):=h
 clear h
 replace H:=Option.bind_eq_some_iff.mp H
 obtain ⟨⟨t115,t116,t117⟩,A20,H⟩:=H
 replace H : (if t115 = 0 then (some (0,t116,t117)) else (if t115 = 1 then (some (255,t116,t117)) else ((spec_l1src_n.f s0_0 t116 t117 256).bind fun bt118 => (some ((bt118.1) % 256,bt118.2.1,bt118.2.2))))) = some (r1,r2,r3):=H
 have A2:=Aside0.mk A20
 clear A20
 by_cases c3 : t115 = 0
 ·rw [if_pos c3] at H
  have c3b0 : (t115 == 0) = true:=beq_iff_eq.mpr c3
  have c3b1 : (t115 != 0) = false:=bne_eq_false_iff_eq.mpr c3
  clear c3
  simp only [Option.some.injEq,Prod.mk.injEq] at H
  obtain ⟨rfl,rfl,rfl⟩:=H
  go_enter Try.func158,Try.ntmps158
  go_wp2_with (first | ((with_reducible refine gate_callee (f:=137) rfl ?_);refine goesL_ (some 4) rfl rfl Try.func137 (by kernel_rfl) rfl #[.pointer (some ⟨g,0,none⟩), .int .i64 4] rfl (by (try simp only [List.map_toArray,List.map_cons,List.map_nil]);first | done | rfl | (simp only [List.length_drop,List.length_take];rfl)) ?_;(with_reducible refine (spec_l1src_n.calls g s0_0 s0_1 s0_2 4 t115 t116 t117 w0 _ ?side1 ?side2 A2.out).mono ?_);(case side1 => repeat (first | (with_reducible first | exact HI0.out | apply IsS172.alloc | apply IsS172.drewN | apply IsS172.drew | apply IsS172.set_1 | apply IsS172.set_2) | exact HI0.out));(case side2 => repeat (first | (with_reducible first | exact HB.out | apply below_alloc | apply pw_below_drewN | apply below_drew1 | refine below_set ?_ (IsS172.ge HI0.out)) | exact HB.out));rintro e w4 ⟨rfl,hi,hb,hk⟩;refine ⟨_,rfl, ?_⟩;have n0_:=Aside0.mk (KeepBut.trans (by repeat (first | (with_reducible first | exact HK.out | apply KeepBut.set_ | apply keep_drewN | apply keep_drew | apply keep_alloc) | exact HK.out)) hk (.inl rfl));have n1_:=Aside0.mk (hb);have n2_:=Aside0.mk (hi);clear HK;clear HB;clear HI0;have HK:=n0_;have HB:=n1_;have HI0:=n2_;clear n0_ n1_ n2_;(try clear hb);(try clear hb2);(try clear hk);(try clear hi)))
  go_ret
  exact ⟨by first | rfl | (simp [errW_none,errW_some] <;> rfl) | (simp [*,errW_none,errW_some] <;> rfl),by repeat (first | (with_reducible first | exact HI0.out | apply IsS172.alloc | apply IsS172.drewN | apply IsS172.drew | apply IsS172.set_1 | apply IsS172.set_2) | exact HI0.out),by repeat (first | (with_reducible first | exact HB.out | apply below_alloc | apply pw_below_drewN | apply below_drew1 | refine below_set ?_ (IsS172.ge HI0.out)) | exact HB.out),by repeat (first | (with_reducible first | exact HK.out | apply KeepBut.set_ | apply keep_drewN | apply keep_drew | apply keep_alloc) | exact HK.out)⟩
 ·rw [if_neg c3] at H
  have c3b0 : (t115 == 0) = false:=beq_eq_false_iff_ne.mpr c3
  have c3b1 : (t115 != 0) = true:=bne_iff_ne.mpr c3
  by_cases c5 : t115 = 1
  ·rw [if_pos c5] at H
   have c5b0 : (t115 == 1) = true:=beq_iff_eq.mpr c5
   have c5b1 : (t115 != 1) = false:=bne_eq_false_iff_eq.mpr c5
   clear c5
   simp only [Option.some.injEq,Prod.mk.injEq] at H
   obtain ⟨rfl,rfl,rfl⟩:=H
   go_enter Try.func158,Try.ntmps158
   go_wp2_with (first | ((with_reducible refine gate_callee (f:=137) rfl ?_);refine goesL_ (some 4) rfl rfl Try.func137 (by kernel_rfl) rfl #[.pointer (some ⟨g,0,none⟩), .int .i64 4] rfl (by (try simp only [List.map_toArray,List.map_cons,List.map_nil]);first | done | rfl | (simp only [List.length_drop,List.length_take];rfl)) ?_;(with_reducible refine (spec_l1src_n.calls g s0_0 s0_1 s0_2 4 t115 t116 t117 w0 _ ?side1 ?side2 A2.out).mono ?_);(case side1 => repeat (first | (with_reducible first | exact HI0.out | apply IsS172.alloc | apply IsS172.drewN | apply IsS172.drew | apply IsS172.set_1 | apply IsS172.set_2) | exact HI0.out));(case side2 => repeat (first | (with_reducible first | exact HB.out | apply below_alloc | apply pw_below_drewN | apply below_drew1 | refine below_set ?_ (IsS172.ge HI0.out)) | exact HB.out));rintro e w6 ⟨rfl,hi,hb,hk⟩;refine ⟨_,rfl, ?_⟩;have n0_:=Aside0.mk (KeepBut.trans (by repeat (first | (with_reducible first | exact HK.out | apply KeepBut.set_ | apply keep_drewN | apply keep_drew | apply keep_alloc) | exact HK.out)) hk (.inl rfl));have n1_:=Aside0.mk (hb);have n2_:=Aside0.mk (hi);clear HK;clear HB;clear HI0;have HK:=n0_;have HB:=n1_;have HI0:=n2_;clear n0_ n1_ n2_;(try clear hb);(try clear hb2);(try clear hk);(try clear hi)))
   go_ret
   exact ⟨by first | rfl | (simp [errW_none,errW_some] <;> rfl) | (simp [*,errW_none,errW_some] <;> rfl),by repeat (first | (with_reducible first | exact HI0.out | apply IsS172.alloc | apply IsS172.drewN | apply IsS172.drew | apply IsS172.set_1 | apply IsS172.set_2) | exact HI0.out),by repeat (first | (with_reducible first | exact HB.out | apply below_alloc | apply pw_below_drewN | apply below_drew1 | refine below_set ?_ (IsS172.ge HI0.out)) | exact HB.out),by repeat (first | (with_reducible first | exact HK.out | apply KeepBut.set_ | apply keep_drewN | apply keep_drew | apply keep_alloc) | exact HK.out)⟩
  ·rw [if_neg c5] at H
   have c5b0 : (t115 == 1) = false:=beq_eq_false_iff_ne.mpr c5
   have c5b1 : (t115 != 1) = true:=bne_iff_ne.mpr c5
   replace H:=Option.bind_eq_some_iff.mp H
   obtain ⟨⟨t118,t119,t120⟩,A70,H⟩:=H
   replace H : (some ((t118) % 256,t119,t120)) = some (r1,r2,r3):=H
   have A7:=Aside0.mk A70
   clear A70
   simp only [Option.some.injEq,Prod.mk.injEq] at H
   obtain ⟨rfl,rfl,rfl⟩:=H
   go_enter Try.func158,Try.ntmps158
   go_wp2_with (first | ((with_reducible refine gate_callee (f:=137) rfl ?_);refine goesL_ (some 4) rfl rfl Try.func137 (by kernel_rfl) rfl #[.pointer (some ⟨g,0,none⟩), .int .i64 4] rfl (by (try simp only [List.map_toArray,List.map_cons,List.map_nil]);first | done | rfl | (simp only [List.length_drop,List.length_take];rfl)) ?_;(with_reducible refine (spec_l1src_n.calls g s0_0 s0_1 s0_2 4 t115 t116 t117 w0 _ ?side1 ?side2 A2.out).mono ?_);(case side1 => repeat (first | (with_reducible first | exact HI0.out | apply IsS172.alloc | apply IsS172.drewN | apply IsS172.drew | apply IsS172.set_1 | apply IsS172.set_2) | exact HI0.out));(case side2 => repeat (first | (with_reducible first | exact HB.out | apply below_alloc | apply pw_below_drewN | apply below_drew1 | refine below_set ?_ (IsS172.ge HI0.out)) | exact HB.out));rintro e w8 ⟨rfl,hi,hb,hk⟩;refine ⟨_,rfl, ?_⟩;have n0_:=Aside0.mk (KeepBut.trans (by repeat (first | (with_reducible first | exact HK.out | apply KeepBut.set_ | apply keep_drewN | apply keep_drew | apply keep_alloc) | exact HK.out)) hk (.inl rfl));have n1_:=Aside0.mk (hb);have n2_:=Aside0.mk (hi);clear HK;clear HB;clear HI0;have HK:=n0_;have HB:=n1_;have HI0:=n2_;clear n0_ n1_ n2_;(try clear hb);(try clear hb2);(try clear hk);(try clear hi)) | ((with_reducible refine gate_callee (f:=137) rfl ?_);refine goesL_ (some 10) rfl rfl Try.func137 (by kernel_rfl) rfl #[.pointer (some ⟨g,0,none⟩), .int .i64 256] rfl (by (try simp only [List.map_toArray,List.map_cons,List.map_nil]);first | done | rfl | (simp only [List.length_drop,List.length_take];rfl)) ?_;(with_reducible refine (spec_l1src_n.calls g s0_0 t116 t117 256 t118 t119 t120 w0 _ ?side1 ?side2 A7.out).mono ?_);(case side1 => repeat (first | (with_reducible first | exact HI0.out | apply IsS172.alloc | apply IsS172.drewN | apply IsS172.drew | apply IsS172.set_1 | apply IsS172.set_2) | exact HI0.out));(case side2 => repeat (first | (with_reducible first | exact HB.out | apply below_alloc | apply pw_below_drewN | apply below_drew1 | refine below_set ?_ (IsS172.ge HI0.out)) | exact HB.out));rintro e w9 ⟨rfl,hi,hb,hk⟩;refine ⟨_,rfl, ?_⟩;have n0_:=Aside0.mk (KeepBut.trans (by repeat (first | (with_reducible first | exact HK.out | apply KeepBut.set_ | apply keep_drewN | apply keep_drew | apply keep_alloc) | exact HK.out)) hk (.inl rfl));have n1_:=Aside0.mk (hb);have n2_:=Aside0.mk (hi);clear HK;clear HB;clear HI0;have HK:=n0_;have HB:=n1_;have HI0:=n2_;clear n0_ n1_ n2_;(try clear hb);(try clear hb2);(try clear hk);(try clear hi)))
   go_ret
   exact ⟨by first | rfl | (simp [errW_none,errW_some] <;> rfl) | (simp [*,errW_none,errW_some] <;> rfl),by repeat (first | (with_reducible first | exact HI0.out | apply IsS172.alloc | apply IsS172.drewN | apply IsS172.drew | apply IsS172.set_1 | apply IsS172.set_2) | exact HI0.out),by repeat (first | (with_reducible first | exact HB.out | apply below_alloc | apply pw_below_drewN | apply below_drew1 | refine below_set ?_ (IsS172.ge HI0.out)) | exact HB.out),by repeat (first | (with_reducible first | exact HK.out | apply KeepBut.set_ | apply keep_drewN | apply keep_drew | apply keep_alloc) | exact HK.out)⟩
end Go.Proofs.Ytdoclpgciadjaaa.P

namespace Go.Proofs.Ytdoclpgciadjaaa.P
open Go.RowKit Go.Proofs.YtdoclpgciadjaaaW.PrintWords Go.Proofs.YtdoclpgciadjaaaW.PrintLast Go.Proofs.YtdoclpgciadjaaaW.PrintMore
set_option linter.unusedVariables false
set_option linter.unusedSimpArgs false
mutual
def spec_l1genFrame.j0 : Nat → List Int → Int → Int → Bool → Int → Bool → Int → List Int → Option (Bool × Int × Bool × Int × List Int × Int × Int)
 | 0,_,_,_,_,_,_,_,_ => none
 | k + 1,x1000,x1001,x1002,x135000,x135001,x135002,x135003,x135004 => (spec_l1genId.f k x1000 x1001 x1002 x135000).bind fun bt141 => ((spec_l1dataLen.f x135000 bt141.1 x135002 x135003 x135004).bind fun t144 => (spec_l1genFrame.l0 k t144 0 x1000 bt141.2.1 bt141.2.2 x135000 bt141.1 x135002 x135003 x135004))
def spec_l1genFrame.l0 : Nat → Int → Int → List Int → Int → Int → Bool → Int → Bool → Int → List Int → Option (Bool × Int × Bool × Int × List Int × Int × Int)
 | 0,_,_,_,_,_,_,_,_,_,_ => none
 | k + 1,x4,x5,x1000,x1001,x1002,x135000,x135001,x135002,x135003,x135004 => if x5 < x4 then ((spec_l1genByte.f x1000 x1001 x1002).bind fun bt145 => (if x135004.length < 140737488355328 then (spec_l1genFrame.l0 k x4 (wrap64 (x5 + 1)) x1000 bt145.2.1 bt145.2.2 x135000 x135001 x135002 x135003 (x135004 ++ [bt145.1])) else (none))) else (some (x135000,x135001,x135002,x135003,x135004,x1001,x1002))
end
def spec_l1genFrame.f (k : Nat) (s0_0 : List Int) (s0_1 : Int) (s0_2 : Int) : Option (Bool × Int × Bool × Int × List Int × Int × Int):=(spec_l1src_n.f s0_0 s0_1 s0_2 2).bind fun bt122 => ((spec_l1src_n.f s0_0 bt122.2.1 bt122.2.2 4).bind fun bt125 => ((spec_l1src_n.f s0_0 bt125.2.1 bt125.2.2 9).bind fun bt128 => ((some (([] : List Int) : List Int)).bind fun y131 => ((spec_l1src_n.f s0_0 bt128.2.1 bt128.2.2 6).bind fun bt135 => (if bt135.1 = 0 then ((spec_l1src_n.f s0_0 bt135.2.1 bt135.2.2 16).bind fun bt138 => (spec_l1genFrame.j0 k s0_0 bt138.2.1 bt138.2.2 (bt122.1 == 1) 0 (bt125.1 == 0) bt138.1 y131)) else (spec_l1genFrame.j0 k s0_0 bt135.2.1 bt135.2.2 (bt122.1 == 1) 0 (bt125.1 == 0) bt128.1 y131))))))
def spec_l1genFrame.T9 : Bool × List (List Nat × List Nat):=(true, [([], []),([0], [0]),([], []),([2], [2]),([3], [3]),([1,4,3], [1,4]),([0,1,2,3,4,5], []),([6,5,5,0,1,2,3,4,5], [5,6])])
def spec_l1genFrame.B9 : List Nat := [0,1,0,4,12,31,63,127]
theorem spec_l1genFrame.tab9 : rtab .any (opsOf Try.f136 9) = spec_l1genFrame.T9:=by kernel_rfl
theorem spec_l1genFrame.bits9 : waitsOk spec_l1genFrame.T9.2 spec_l1genFrame.B9 = true:=by kernel_rfl
set_option maxHeartbeats 8000000 in
set_option maxRecDepth 100000 in
theorem spec_l1genFrame.calls (k : Nat) (g : Nat) (s0_0 : List Int) (s0_1 : Int) (s0_2 : Int) (r1 : Bool) (r2 : Int) (r3 : Bool) (r4 : Int) (r5 : List Int) (r6 : Int) (r7 : Int) (w0 w : World) (hI : IsS172 w0 w g s0_0 s0_1 s0_2) (hB : Below w0.heap.size w0 w) (h : spec_l1genFrame.f k s0_0 s0_1 s0_2 = some (r1,r2,r3,r4,r5,r6,r7)) :
  Calls Try.prog 136 #[.pointer (some ⟨g,0,none⟩)] w fun e w' => ∃ v4_ : Value,e = .returned (.agg #[.bool r1, .int .u32 r2, .bool r3, .int .i64 r4,v4_]) ∧ Kd.R (Kd.int .u8) 5 w' w.heap.size (fun _ => True) v4_ r5 ∧ IsS172 w0 w' g s0_0 r6 r7 ∧ Below w0.heap.size w0 w' ∧ KeepBut w w' g none:=by
 have hu25:=Try.underlying25
 have HI0:=Aside0.mk hI
 have HK:=Aside0.mk (KeepBut.refl w g none)
 have HL:=Aside0.mk hB.size
 clear hI
 have HW0:=Aside0.mk hB.size
 have HB:=Aside0.mk hB
 clear hB
 have H : ((spec_l1src_n.f s0_0 s0_1 s0_2 2).bind fun bt122 => ((spec_l1src_n.f s0_0 bt122.2.1 bt122.2.2 4).bind fun bt125 => ((spec_l1src_n.f s0_0 bt125.2.1 bt125.2.2 9).bind fun bt128 => ((some (([] : List Int) : List Int)).bind fun y131 => ((spec_l1src_n.f s0_0 bt128.2.1 bt128.2.2 6).bind fun bt135 => (if bt135.1 = 0 then ((spec_l1src_n.f s0_0 bt135.2.1 bt135.2.2 16).bind fun bt138 => (spec_l1genFrame.j0 k s0_0 bt138.2.1 bt138.2.2 (bt122.1 == 1) 0 (bt125.1 == 0) bt138.1 y131)) else (spec_l1genFrame.j0 k s0_0 bt135.2.1 bt135.2.2 (bt122.1 == 1) 0 (bt125.1 == 0) bt128.1 y131))))))) = some (r1,r2,r3,r4,r5,r6,r7):=h
 clear h
 replace H:=Option.bind_eq_some_iff.mp H
 obtain ⟨⟨t122,t123,t124⟩,A20,H⟩:=H
 replace H : ((spec_l1src_n.f s0_0 t123 t124 4).bind fun bt125 => ((spec_l1src_n.f s0_0 bt125.2.1 bt125.2.2 9).bind fun bt128 => ((some (([] : List Int) : List Int)).bind fun y131 => ((spec_l1src_n.f s0_0 bt128.2.1 bt128.2.2 6).bind fun bt135 => (if bt135.1 = 0 then ((spec_l1src_n.f s0_0 bt135.2.1 bt135.2.2 16).bind fun bt138 => (spec_l1genFrame.j0 k s0_0 bt138.2.1 bt138.2.2 (t122 == 1) 0 (bt125.1 == 0) bt138.1 y131)) else (spec_l1genFrame.j0 k s0_0 bt135.2.1 bt135.2.2 (t122 == 1) 0 (bt125.1 == 0) bt128.1 y131)))))) = some (r1,r2,r3,r4,r5,r6,r7):=H
 have A2:=Aside0.mk A20
 clear A20
 replace H:=Option.bind_eq_some_iff.mp H
 obtain ⟨⟨t125,t126,t127⟩,A30,H⟩:=H
 replace H : ((spec_l1src_n.f s0_0 t126 t127 9).bind fun bt128 => ((some (([] : List Int) : List Int)).bind fun y131 => ((spec_l1src_n.f s0_0 bt128.2.1 bt128.2.2 6).bind fun bt135 => (if bt135.1 = 0 then ((spec_l1src_n.f s0_0 bt135.2.1 bt135.2.2 16).bind fun bt138 => (spec_l1genFrame.j0 k s0_0 bt138.2.1 bt138.2.2 (t122 == 1) 0 (t125 == 0) bt138.1 y131)) else (spec_l1genFrame.j0 k s0_0 bt135.2.1 bt135.2.2 (t122 == 1) 0 (t125 == 0) bt128.1 y131))))) = some (r1,r2,r3,r4,r5,r6,r7):=H
 have A3:=Aside0.mk A30
 clear A30
 replace H:=Option.bind_eq_some_iff.mp H
 obtain ⟨⟨t128,t129,t130⟩,A40,H⟩:=H
 replace H : ((some (([] : List Int) : List Int)).bind fun y131 => ((spec_l1src_n.f s0_0 t129 t130 6).bind fun bt135 => (if bt135.1 = 0 then ((spec_l1src_n.f s0_0 bt135.2.1 bt135.2.2 16).bind fun bt138 => (spec_l1genFrame.j0 k s0_0 bt138.2.1 bt138.2.2 (t122 == 1) 0 (t125 == 0) bt138.1 y131)) else (spec_l1genFrame.j0 k s0_0 bt135.2.1 bt135.2.2 (t122 == 1) 0 (t125 == 0) t128 y131)))) = some (r1,r2,r3,r4,r5,r6,r7):=H
 have A4:=Aside0.mk A40
 clear A40
 obtain ⟨y131,hy131⟩ : ∃ y_ : List Int,y_ = (([] : List Int)):=⟨_,rfl⟩
 replace H : ((spec_l1src_n.f s0_0 t129 t130 6).bind fun bt135 => (if bt135.1 = 0 then ((spec_l1src_n.f s0_0 bt135.2.1 bt135.2.2 16).bind fun bt138 => (spec_l1genFrame.j0 k s0_0 bt138.2.1 bt138.2.2 (t122 == 1) 0 (t125 == 0) bt138.1 y131)) else (spec_l1genFrame.j0 k s0_0 bt135.2.1 bt135.2.2 (t122 == 1) 0 (t125 == 0) t128 y131))) = some (r1,r2,r3,r4,r5,r6,r7):=by first | (rw [hy131];with_reducible exact H) | (have H2_:=(Option.bind_some _ _).symm.trans H;rw [hy131];with_reducible exact H2_) | (have H2_:=(Option.bind_some _ _).symm.trans H;with_reducible exact H2_) | with_reducible exact H | (rw [hy131];exact H) | exact H
 have Ny131:=Aside0.mk hy131
 clear hy131
 replace H:=Option.bind_eq_some_iff.mp H
 obtain ⟨⟨t135,t136,t137⟩,A50,H⟩:=H
 replace H : (if t135 = 0 then ((spec_l1src_n.f s0_0 t136 t137 16).bind fun bt138 => (spec_l1genFrame.j0 k s0_0 bt138.2.1 bt138.2.2 (t122 == 1) 0 (t125 == 0) bt138.1 y131)) else (spec_l1genFrame.j0 k s0_0 t136 t137 (t122 == 1) 0 (t125 == 0) t128 y131)) = some (r1,r2,r3,r4,r5,r6,r7):=H
 have A5:=Aside0.mk A50
 clear A50
 have HC6:=Aside0.mk H
 clear H
 go_enter Try.func136,Try.ntmps136
 go_upto_if 18 with (first | ((with_reducible refine gate_dst (N:=2) rfl ?_);refine box_event ?hg (N:=2) ?hd (cs := #[.bool false, .int .u32 0, .bool false, .int .i64 0, .slice none 0 0]) (t:=25) ?hr ?_;(case hd => rfl);(case hg => rfl);(case hr => first | (go_simp;done) | (go_simp;rfl));intro gb121 hg w7 hbox hb;have n0_:=Aside0.mk (IsS172.below (by repeat (first | (with_reducible first | exact HI0.out | apply IsS172.alloc | apply IsS172.drewN | apply IsS172.drew | apply IsS172.set_1 | apply IsS172.set_2) | exact HI0.out)) hb);have n1_:=Aside0.mk (KeepBut.trans (by repeat (first | (with_reducible first | exact HK.out | apply KeepBut.set_ | apply keep_drewN | apply keep_drew | apply keep_alloc) | exact HK.out)) (KeepBut.of_below hb g none) (.inl rfl));have n2_:=Aside0.mk (below_step (by repeat (first | (with_reducible first | exact HB.out | apply below_alloc | apply pw_below_drewN | apply below_drew1 | refine below_set ?_ (IsS172.ge HI0.out)) | exact HB.out)) hb);have n3_:=Aside0.mk (hbox);have n4_:=Aside0.mk ((by rw [hg];exact (keep_size (w:=w) (g:=g) (row:=none) (by repeat (first | (with_reducible first | exact HK.out | apply KeepBut.set_ | apply keep_drewN | apply keep_drew | apply keep_alloc) | exact HK.out))) : w.heap.size ≤ gb121));have n5_:=Aside0.mk ((Nat.le_trans HW0.out (by rw [hg];exact (keep_size (w:=w) (g:=g) (row:=none) (by repeat (first | (with_reducible first | exact HK.out | apply KeepBut.set_ | apply keep_drewN | apply keep_drew | apply keep_alloc) | exact HK.out))) : w.heap.size ≤ gb121) : w0.heap.size ≤ gb121));have n6_:=Aside0.mk ((by rw [hg];exact Nat.ne_of_lt (IsS172.lt (show IsS172 w0 _ g s0_0 s0_1 s0_2 from by repeat (first | (with_reducible first | exact HI0.out | apply IsS172.alloc | apply IsS172.drewN | apply IsS172.drew | apply IsS172.set_1 | apply IsS172.set_2) | exact HI0.out))) : g ≠ gb121));have n7_:=Aside0.mk ((by rw [hg];exact Nat.ne_of_gt (IsS172.lt (show IsS172 w0 _ g s0_0 s0_1 s0_2 from by repeat (first | (with_reducible first | exact HI0.out | apply IsS172.alloc | apply IsS172.drewN | apply IsS172.drew | apply IsS172.set_1 | apply IsS172.set_2) | exact HI0.out))) : gb121 ≠ g));clear HI0;clear HK;clear HB;have HI0:=n0_;have HK:=n1_;have HB:=n2_;have BK121:=n3_;have GW121:=n4_;have GE121:=n5_;have NB0_121:=n6_;have NB121_0:=n7_;clear n0_ n1_ n2_ n3_ n4_ n5_ n6_ n7_;clear hb hbox hg) | ((with_reducible refine gate_callee (f:=137) rfl ?_);refine goesL_ (some 7) rfl rfl Try.func137 (by kernel_rfl) rfl #[.pointer (some ⟨g,0,none⟩), .int .i64 2] rfl (by (try simp only [List.map_toArray,List.map_cons,List.map_nil]);first | done | rfl | (simp only [List.length_drop,List.length_take];rfl)) ?_;(with_reducible refine (spec_l1src_n.calls g s0_0 s0_1 s0_2 2 t122 t123 t124 w0 _ ?side1 ?side2 A2.out).mono ?_);(case side1 => repeat (first | (with_reducible first | exact HI0.out | apply IsS172.alloc | apply IsS172.drewN | apply IsS172.drew | apply IsS172.set_1 | apply IsS172.set_2 | refine IsS172.far ?_ NB0_121.out _) | exact HI0.out));(case side2 => repeat (first | (with_reducible first | exact HB.out | apply below_alloc | apply pw_below_drewN | apply below_drew1 | refine below_set ?_ (IsS172.ge HI0.out) | refine below_set ?_ GE121.out) | exact HB.out));rintro e w8 ⟨rfl,hi,hb,hk⟩;refine ⟨_,rfl, ?_⟩;have n0_:=Aside0.mk (KeepBut.blk hk (g':=gb121) (o := .cells #[.bool false, .int .u32 0, .bool false, .int .i64 0, .slice none 0 0] 25 (0,0)) (by (with_reducible repeat (first | refine blk_drewN ?_ _ | refine blk_drew ?_ | refine blk_alloc ?_ _));exact BK121.out) NB121_0.out (by simp));have n1_:=Aside0.mk (KeepBut.trans (by repeat (first | (with_reducible first | exact HK.out | apply KeepBut.set_ | apply keep_drewN | apply keep_drew | apply keep_alloc | refine keep_far ?_ GW121.out _) | exact HK.out)) hk (.inl rfl));have n2_:=Aside0.mk (hb);have n3_:=Aside0.mk (hi);clear BK121;clear HK;clear HB;clear HI0;have BK121:=n0_;have HK:=n1_;have HB:=n2_;have HI0:=n3_;clear n0_ n1_ n2_ n3_;(try clear hb);(try clear hb2);(try clear hk);(try clear hi)) | ((with_reducible refine gate_callee (f:=137) rfl ?_);refine goesL_ (some 10) rfl rfl Try.func137 (by kernel_rfl) rfl #[.pointer (some ⟨g,0,none⟩), .int .i64 4] rfl (by (try simp only [List.map_toArray,List.map_cons,List.map_nil]);first | done | rfl | (simp only [List.length_drop,List.length_take];rfl)) ?_;(with_reducible refine (spec_l1src_n.calls g s0_0 t123 t124 4 t125 t126 t127 w0 _ ?side1 ?side2 A3.out).mono ?_);(case side1 => repeat (first | (with_reducible first | exact HI0.out | apply IsS172.alloc | apply IsS172.drewN | apply IsS172.drew | apply IsS172.set_1 | apply IsS172.set_2 | refine IsS172.far ?_ NB0_121.out _) | exact HI0.out));(case side2 => repeat (first | (with_reducible first | exact HB.out | apply below_alloc | apply pw_below_drewN | apply below_drew1 | refine below_set ?_ (IsS172.ge HI0.out) | refine below_set ?_ GE121.out) | exact HB.out));rintro e w9 ⟨rfl,hi,hb,hk⟩;refine ⟨_,rfl, ?_⟩;have n0_:=Aside0.mk (KeepBut.blk hk (g':=gb121) (o := .cells #[.bool false, .int .u32 0, .bool false, .int .i64 0, .slice none 0 0] 25 (0,0)) (by (with_reducible repeat (first | refine blk_drewN ?_ _ | refine blk_drew ?_ | refine blk_alloc ?_ _));exact BK121.out) NB121_0.out (by simp));have n1_:=Aside0.mk (KeepBut.trans (by repeat (first | (with_reducible first | exact HK.out | apply KeepBut.set_ | apply keep_drewN | apply keep_drew | apply keep_alloc | refine keep_far ?_ GW121.out _) | exact HK.out)) hk (.inl rfl));have n2_:=Aside0.mk (hb);have n3_:=Aside0.mk (hi);clear BK121;clear HK;clear HB;clear HI0;have BK121:=n0_;have HK:=n1_;have HB:=n2_;have HI0:=n3_;clear n0_ n1_ n2_ n3_;(try clear hb);(try clear hb2);(try clear hk);(try clear hi)) | ((with_reducible refine gate_callee (f:=137) rfl ?_);refine goesL_ (some 13) rfl rfl Try.func137 (by kernel_rfl) rfl #[.pointer (some ⟨g,0,none⟩), .int .i64 9] rfl (by (try simp only [List.map_toArray,List.map_cons,List.map_nil]);first | done | rfl | (simp only [List.length_drop,List.length_take];rfl)) ?_;(with_reducible refine (spec_l1src_n.calls g s0_0 t126 t127 9 t128 t129 t130 w0 _ ?side1 ?side2 A4.out).mono ?_);(case side1 => repeat (first | (with_reducible first | exact HI0.out | apply IsS172.alloc | apply IsS172.drewN | apply IsS172.drew | apply IsS172.set_1 | apply IsS172.set_2 | refine IsS172.far ?_ NB0_121.out _) | exact HI0.out));(case side2 => repeat (first | (with_reducible first | exact HB.out | apply below_alloc | apply pw_below_drewN | apply below_drew1 | refine below_set ?_ (IsS172.ge HI0.out) | refine below_set ?_ GE121.out) | exact HB.out));rintro e w10 ⟨rfl,hi,hb,hk⟩;refine ⟨_,rfl, ?_⟩;have n0_:=Aside0.mk (KeepBut.blk hk (g':=gb121) (o := .cells #[.bool false, .int .u32 0, .bool false, .int .i64 0, .slice none 0 0] 25 (0,0)) (by (with_reducible repeat (first | refine blk_drewN ?_ _ | refine blk_drew ?_ | refine blk_alloc ?_ _));exact BK121.out) NB121_0.out (by simp));have n1_:=Aside0.mk (KeepBut.trans (by repeat (first | (with_reducible first | exact HK.out | apply KeepBut.set_ | apply keep_drewN | apply keep_drew | apply keep_alloc | refine keep_far ?_ GW121.out _) | exact HK.out)) hk (.inl rfl));have n2_:=Aside0.mk (hb);have n3_:=Aside0.mk (hi);clear BK121;clear HK;clear HB;clear HI0;have BK121:=n0_;have HK:=n1_;have HB:=n2_;have HI0:=n3_;clear n0_ n1_ n2_ n3_;(try clear hb);(try clear hb2);(try clear hk);(try clear hi)) | ((with_reducible refine gate_dst (N:=14) rfl ?_);refine Kd.R_lit (Kd.int .u8) _ 5 ?hg (N:=14) ?hd (xs:=([] : List Int)) (inner := []) (ok:=fun _ => True) (okp:=fun _ => True) ?hr ?hp (fun _ hk => hk) trivial (Below.refl _ _) (Nat.le_refl _) (by simp) ?_;(case hd => rfl);(case hg => rfl);(case hr => first | (go_simp;done) | (go_simp;rfl));(case hp => exact (Reps.none _ _));intro v132 w11 ho12 hb hg_ hnew_;clear hg_ hnew_;(first | rw [← Ny131.out] at ho12 | (simp only [Int.reduceToNat] at ho12;rw [← Ny131.out] at ho12));have n0_:=Aside0.mk (Kd.R_lower ho12 (keep_size (w:=w) (g:=g) (row:=none) (by repeat (first | (with_reducible first | exact HK.out | apply KeepBut.set_ | apply keep_drewN | apply keep_drew | apply keep_alloc | refine keep_far ?_ GW121.out _) | exact HK.out))));have n1_:=Aside0.mk (IsS172.below (by repeat (first | (with_reducible first | exact HI0.out | apply IsS172.alloc | apply IsS172.drewN | apply IsS172.drew | apply IsS172.set_1 | apply IsS172.set_2 | refine IsS172.far ?_ NB0_121.out _) | exact HI0.out)) hb);have n2_:=Aside0.mk (blk_below (g:=gb121) (o := .cells #[.bool false, .int .u32 0, .bool false, .int .i64 0, .slice none 0 0] 25 (0,0)) (by (with_reducible repeat (first | refine blk_drewN ?_ _ | refine blk_drew ?_ | refine blk_alloc ?_ _));exact BK121.out) hb);have n3_:=Aside0.mk (KeepBut.trans (by repeat (first | (with_reducible first | exact HK.out | apply KeepBut.set_ | apply keep_drewN | apply keep_drew | apply keep_alloc | refine keep_far ?_ GW121.out _) | exact HK.out)) (KeepBut.of_below hb g none) (.inl rfl));have n4_:=Aside0.mk (below_step (by repeat (first | (with_reducible first | exact HB.out | apply below_alloc | apply pw_below_drewN | apply below_drew1 | refine below_set ?_ (IsS172.ge HI0.out) | refine below_set ?_ GE121.out) | exact HB.out)) hb);clear HI0;clear BK121;clear HK;clear HB;have HO133:=n0_;have HI0:=n1_;have BK121:=n2_;have HK:=n3_;have HB:=n4_;clear n0_ n1_ n2_ n3_ n4_;clear hb ho12;obtain ⟨Ao13,co13,eo13⟩:=Kd.R_slice HO133.out;subst eo13) | ((with_reducible refine gate_dst (N:=3) rfl ?_);refine box_event ?hg (N:=3) ?hd (cs := #[.bool false, .int .u32 0, .bool false, .int .i64 0, .slice none 0 0]) (t:=25) ?hr ?_;(case hd => rfl);(case hg => rfl);(case hr => first | (go_simp;done) | (go_simp;rfl));intro gb134 hg w14 hbox hb;have n0_:=Aside0.mk (Kd.R_below (by (with_reducible repeat (first | apply Kd.R_alloc | apply Kd.R_drewN | apply Kd.R_drew));exact HO133.out) hb);have n1_:=Aside0.mk (IsS172.below (by repeat (first | (with_reducible first | exact HI0.out | apply IsS172.alloc | apply IsS172.drewN | apply IsS172.drew | apply IsS172.set_1 | apply IsS172.set_2 | refine IsS172.far ?_ NB0_121.out _) | exact HI0.out)) hb);have n2_:=Aside0.mk (blk_below (g:=gb121) (o := .cells #[.bool false, .int .u32 0, .bool false, .int .i64 0, .slice none 0 0] 25 (0,0)) (by (with_reducible repeat (first | refine blk_drewN ?_ _ | refine blk_drew ?_ | refine blk_alloc ?_ _));exact BK121.out) hb);have n3_:=Aside0.mk (KeepBut.trans (by repeat (first | (with_reducible first | exact HK.out | apply KeepBut.set_ | apply keep_drewN | apply keep_drew | apply keep_alloc | refine keep_far ?_ GW121.out _) | exact HK.out)) (KeepBut.of_below hb g none) (.inl rfl));have n4_:=Aside0.mk (below_step (by repeat (first | (with_reducible first | exact HB.out | apply below_alloc | apply pw_below_drewN | apply below_drew1 | refine below_set ?_ (IsS172.ge HI0.out) | refine below_set ?_ GE121.out) | exact HB.out)) hb);have n5_:=Aside0.mk (hbox);have n6_:=Aside0.mk ((by rw [hg];exact (keep_size (w:=w) (g:=g) (row:=none) (by repeat (first | (with_reducible first | exact HK.out | apply KeepBut.set_ | apply keep_drewN | apply keep_drew | apply keep_alloc | refine keep_far ?_ GW121.out _) | exact HK.out))) : w.heap.size ≤ gb134));have n7_:=Aside0.mk ((Nat.le_trans HW0.out (by rw [hg];exact (keep_size (w:=w) (g:=g) (row:=none) (by repeat (first | (with_reducible first | exact HK.out | apply KeepBut.set_ | apply keep_drewN | apply keep_drew | apply keep_alloc | refine keep_far ?_ GW121.out _) | exact HK.out))) : w.heap.size ≤ gb134) : w0.heap.size ≤ gb134));have n8_:=Aside0.mk ((by rw [hg];exact Nat.ne_of_lt (blk_lt (g:=gb121) (o := .cells #[.bool false, .int .u32 0, .bool false, .int .i64 0, .slice none 0 0] 25 (0,0)) (by (with_reducible repeat (first | refine blk_drewN ?_ _ | refine blk_drew ?_ | refine blk_alloc ?_ _));exact BK121.out)) : gb121 ≠ gb134));have n9_:=Aside0.mk ((by rw [hg];exact Nat.ne_of_gt (blk_lt (g:=gb121) (o := .cells #[.bool false, .int .u32 0, .bool false, .int .i64 0, .slice none 0 0] 25 (0,0)) (by (with_reducible repeat (first | refine blk_drewN ?_ _ | refine blk_drew ?_ | refine blk_alloc ?_ _));exact BK121.out)) : gb134 ≠ gb121));have n10_:=Aside0.mk ((by rw [hg];exact Nat.ne_of_lt (IsS172.lt (show IsS172 w0 _ g s0_0 t129 t130 from by repeat (first | (with_reducible first | exact HI0.out | apply IsS172.alloc | apply IsS172.drewN | apply IsS172.drew | apply IsS172.set_1 | apply IsS172.set_2 | refine IsS172.far ?_ NB0_121.out _) | exact HI0.out))) : g ≠ gb134));have n11_:=Aside0.mk ((by rw [hg];exact Nat.ne_of_gt (IsS172.lt (show IsS172 w0 _ g s0_0 t129 t130 from by repeat (first | (with_reducible first | exact HI0.out | apply IsS172.alloc | apply IsS172.drewN | apply IsS172.drew | apply IsS172.set_1 | apply IsS172.set_2 | refine IsS172.far ?_ NB0_121.out _) | exact HI0.out))) : gb134 ≠ g));clear HO133;clear HI0;clear BK121;clear HK;clear HB;have HO133:=n0_;have HI0:=n1_;have BK121:=n2_;have HK:=n3_;have HB:=n4_;have BK134:=n5_;have GW134:=n6_;have GE134:=n7_;have NB121_134:=n8_;have NB134_121:=n9_;have NB0_134:=n10_;have NB134_0:=n11_;clear n0_ n1_ n2_ n3_ n4_ n5_ n6_ n7_ n8_ n9_ n10_ n11_;clear hb hbox hg;have hnb15:=NB134_121.out;have hnc15:=NB121_134.out;have hnb16:=NB134_0.out;have hnc16:=NB0_134.out;have hcz17_0 : w14.cell? ⟨gb134,0,none⟩ = some (.bool false):=(blk_cell BK134.out 0).trans rfl;have hcz17_1 : w14.cell? ⟨gb134,1,none⟩ = some (.int .u32 0):=(blk_cell BK134.out 1).trans rfl;have hcz17_2 : w14.cell? ⟨gb134,2,none⟩ = some (.bool false):=(blk_cell BK134.out 2).trans rfl;have hcz17_3 : w14.cell? ⟨gb134,3,none⟩ = some (.int .i64 0):=(blk_cell BK134.out 3).trans rfl;have hcz17_4 : w14.cell? ⟨gb134,4,none⟩ = some (.slice none 0 0):=(blk_cell BK134.out 4).trans rfl;have hfz17_0:=blk_frozen BK134.out 0;have hfz17_1:=blk_frozen BK134.out 1;have hfz17_2:=blk_frozen BK134.out 2;have hfz17_3:=blk_frozen BK134.out 3;have hfz17_4:=blk_frozen BK134.out 4) | ((with_reducible refine gate_callee (f:=137) rfl ?_);refine goesL_ (some 17) rfl rfl Try.func137 (by kernel_rfl) rfl #[.pointer (some ⟨g,0,none⟩), .int .i64 6] rfl (by (try simp only [List.map_toArray,List.map_cons,List.map_nil]);first | done | rfl | (simp only [List.length_drop,List.length_take];rfl)) ?_;(with_reducible refine (spec_l1src_n.calls g s0_0 t129 t130 6 t135 t136 t137 w0 _ ?side1 ?side2 A5.out).mono ?_);(case side1 => repeat (first | (with_reducible first | exact HI0.out | apply IsS172.alloc | apply IsS172.drewN | apply IsS172.drew | apply IsS172.set_1 | apply IsS172.set_2 | refine IsS172.far ?_ NB0_121.out _ | refine IsS172.far ?_ NB0_134.out _) | exact HI0.out));(case side2 => repeat (first | (with_reducible first | exact HB.out | apply below_alloc | apply pw_below_drewN | apply below_drew1 | refine below_set ?_ (IsS172.ge HI0.out) | refine below_set ?_ GE121.out | refine below_set ?_ GE134.out) | exact HB.out));rintro e w18 ⟨rfl,hi,hb,hk⟩;refine ⟨_,rfl, ?_⟩;have n0_:=Aside0.mk (KeepBut.blk hk (g':=gb121) (o := .cells #[.bool false, .int .u32 0, .bool false, .int .i64 0, .slice none 0 0] 25 (0,0)) (by (with_reducible repeat (first | refine blk_drewN ?_ _ | refine blk_drew ?_ | refine blk_alloc ?_ _));refine blk_far ?_ NB121_134.out _;(with_reducible repeat (first | refine blk_drewN ?_ _ | refine blk_drew ?_ | refine blk_alloc ?_ _));refine blk_far ?_ NB121_134.out _;(with_reducible repeat (first | refine blk_drewN ?_ _ | refine blk_drew ?_ | refine blk_alloc ?_ _));refine blk_far ?_ NB121_134.out _;(with_reducible repeat (first | refine blk_drewN ?_ _ | refine blk_drew ?_ | refine blk_alloc ?_ _));refine blk_far ?_ NB121_134.out _;(with_reducible repeat (first | refine blk_drewN ?_ _ | refine blk_drew ?_ | refine blk_alloc ?_ _));refine blk_far ?_ NB121_134.out _;(with_reducible repeat (first | refine blk_drewN ?_ _ | refine blk_drew ?_ | refine blk_alloc ?_ _));exact BK121.out) NB121_0.out (by simp));have n1_:=Aside0.mk (Kd.R_mono (Kd.R_keep (IsS172.apart (show IsS172 w0 _ g s0_0 t129 t130 from by repeat (first | (with_reducible first | exact HI0.out | apply IsS172.alloc | apply IsS172.drewN | apply IsS172.drew | apply IsS172.set_1 | apply IsS172.set_2 | refine IsS172.far ?_ NB0_121.out _ | refine IsS172.far ?_ NB0_134.out _) | exact HI0.out)) (by (with_reducible repeat (first | apply Kd.R_alloc | apply Kd.R_drewN | apply Kd.R_drew));exact (Kd.R_mono (Kd.R_far (p:=⟨gb134,4,none⟩) (Kd.R_far (p:=⟨gb134,3,none⟩) (Kd.R_far (p:=⟨gb134,2,none⟩) (Kd.R_far (p:=⟨gb134,1,none⟩) (Kd.R_far (p:=⟨gb134,0,none⟩) (Kd.R_types HO133.out BK134.out (by decide)) (fun _ hk => hk.2) (.bool (t122 == 1))) (fun _ hk => hk.2) (.int .u32 0)) (fun _ hk => hk.2) (.bool (t125 == 0))) (fun _ hk => hk.2) (.int .i64 t128)) (fun _ hk => hk.2) (.slice Ao13 y131.length co13)) (fun _ h_ => h_.1))) (by decide)) hk (fun _ h => h.2)) (fun _ h => h.1));have n2_:=Aside0.mk (KeepBut.blk hk (g':=gb134) (o := .cells #[.bool (t122 == 1), .int .u32 0, .bool (t125 == 0), .int .i64 t128, .slice Ao13 y131.length co13] 25 (0,0)) (by (with_reducible repeat (first | refine blk_drewN ?_ _ | refine blk_drew ?_ | refine blk_alloc ?_ _));refine blk_put (cs := #[.bool (t122 == 1), .int .u32 0, .bool (t125 == 0), .int .i64 t128, .slice none 0 0]) ?_ 4 _ rfl;(with_reducible repeat (first | refine blk_drewN ?_ _ | refine blk_drew ?_ | refine blk_alloc ?_ _));refine blk_put (cs := #[.bool (t122 == 1), .int .u32 0, .bool (t125 == 0), .int .i64 0, .slice none 0 0]) ?_ 3 _ rfl;(with_reducible repeat (first | refine blk_drewN ?_ _ | refine blk_drew ?_ | refine blk_alloc ?_ _));refine blk_put (cs := #[.bool (t122 == 1), .int .u32 0, .bool false, .int .i64 0, .slice none 0 0]) ?_ 2 _ rfl;(with_reducible repeat (first | refine blk_drewN ?_ _ | refine blk_drew ?_ | refine blk_alloc ?_ _));refine blk_put (cs := #[.bool (t122 == 1), .int .u32 0, .bool false, .int .i64 0, .slice none 0 0]) ?_ 1 _ rfl;(with_reducible repeat (first | refine blk_drewN ?_ _ | refine blk_drew ?_ | refine blk_alloc ?_ _));refine blk_put (cs := #[.bool false, .int .u32 0, .bool false, .int .i64 0, .slice none 0 0]) ?_ 0 _ rfl;(with_reducible repeat (first | refine blk_drewN ?_ _ | refine blk_drew ?_ | refine blk_alloc ?_ _));exact BK134.out) NB134_0.out (by simp));have n3_:=Aside0.mk (KeepBut.trans (by repeat (first | (with_reducible first | exact HK.out | apply KeepBut.set_ | apply keep_drewN | apply keep_drew | apply keep_alloc | refine keep_far ?_ GW121.out _ | refine keep_far ?_ GW134.out _) | exact HK.out)) hk (.inl rfl));have n4_:=Aside0.mk (hb);have n5_:=Aside0.mk (hi);clear BK121;clear HO133;clear BK134;clear HK;clear HB;clear HI0;have BK121:=n0_;have HO133:=n1_;have BK134:=n2_;have HK:=n3_;have HB:=n4_;have HI0:=n5_;clear n0_ n1_ n2_ n3_ n4_ n5_;(try clear hb);(try clear hb2);(try clear hk);(try clear hi)))
 (try simp only [Act.put,List.setIfInBounds_toArray,List.set_cons_zero,List.set_cons_succ])
 go_cut [] (fun wc => ∃ (kq : Nat) (x1001_5 : Int) (x1002_5 : Int) (x135003_5 : Int),Aside0 (spec_l1genFrame.j0 kq s0_0 x1001_5 x1002_5 (t122 == 1) 0 (t125 == 0) x135003_5 y131 = some (r1,r2,r3,r4,r5,r6,r7)) ∧ Aside0 (kq ≤ k) ∧ Aside0 (Kd.R (Kd.int .u8) 5 wc w.heap.size (fun _ => True) (.slice Ao13 y131.length co13) y131) ∧ Aside0 (wc.heap[gb121]? = some (.cells #[.bool false, .int .u32 0, .bool false, .int .i64 0,(.slice none 0 0)] 25 (0,0))) ∧ Aside0 (wc.heap[gb134]? = some (.cells #[.bool (t122 == 1), .int .u32 0, .bool (t125 == 0), .int .i64 x135003_5,(.slice Ao13 y131.length co13)] 25 (0,0))) ∧ Aside0 (IsS172 w0 wc g s0_0 x1001_5 x1002_5) ∧ Aside0 (KeepBut w wc g none) ∧ Aside0 (Below w0.heap.size w0 wc))
 case first =>
  have H:=HC6.out
  clear HC6
  by_cases c19 : t135 = 0
  ·rw [if_pos c19] at H
   have c19b0 : (t135 == 0) = true:=beq_iff_eq.mpr c19
   have c19b1 : (t135 != 0) = false:=bne_eq_false_iff_eq.mpr c19
   clear c19
   (first | rw [c19b0] | (simp only [i64_w,i32_w];rw [c19b0]) | skip)
   replace H:=Option.bind_eq_some_iff.mp H
   obtain ⟨⟨t138,t139,t140⟩,A200,H⟩:=H
   replace H : (spec_l1genFrame.j0 k s0_0 t139 t140 (t122 == 1) 0 (t125 == 0) t138 y131) = some (r1,r2,r3,r4,r5,r6,r7):=H
   have A20:=Aside0.mk A200
   clear A200
   have H':=Aside0.mk H
   clear H
   go_wp2_with (first | ((with_reducible refine gate_callee (f:=137) rfl ?_);refine goesL_ (some 20) rfl rfl Try.func137 (by kernel_rfl) rfl #[.pointer (some ⟨g,0,none⟩), .int .i64 16] rfl (by (try simp only [List.map_toArray,List.map_cons,List.map_nil]);first | done | rfl | (simp only [List.length_drop,List.length_take];rfl)) ?_;(with_reducible refine (spec_l1src_n.calls g s0_0 t136 t137 16 t138 t139 t140 w0 _ ?side1 ?side2 A20.out).mono ?_);(case side1 => repeat (first | (with_reducible first | exact HI0.out | apply IsS172.alloc | apply IsS172.drewN | apply IsS172.drew | apply IsS172.set_1 | apply IsS172.set_2 | refine IsS172.far ?_ NB0_121.out _ | refine IsS172.far ?_ NB0_134.out _) | exact HI0.out));(case side2 => repeat (first | (with_reducible first | exact HB.out | apply below_alloc | apply pw_below_drewN | apply below_drew1 | refine below_set ?_ (IsS172.ge HI0.out) | refine below_set ?_ GE121.out | refine below_set ?_ GE134.out) | exact HB.out));rintro e w21 ⟨rfl,hi,hb,hk⟩;refine ⟨_,rfl, ?_⟩;have n0_:=Aside0.mk (KeepBut.blk hk (g':=gb121) (o := .cells #[.bool false, .int .u32 0, .bool false, .int .i64 0, .slice none 0 0] 25 (0,0)) (by (with_reducible repeat (first | refine blk_drewN ?_ _ | refine blk_drew ?_ | refine blk_alloc ?_ _));exact BK121.out) NB121_0.out (by simp));have n1_:=Aside0.mk (Kd.R_mono (Kd.R_keep (IsS172.apart (show IsS172 w0 _ g s0_0 t136 t137 from by repeat (first | (with_reducible first | exact HI0.out | apply IsS172.alloc | apply IsS172.drewN | apply IsS172.drew | apply IsS172.set_1 | apply IsS172.set_2 | refine IsS172.far ?_ NB0_121.out _ | refine IsS172.far ?_ NB0_134.out _) | exact HI0.out)) (by (with_reducible repeat (first | apply Kd.R_alloc | apply Kd.R_drewN | apply Kd.R_drew));exact HO133.out) (by decide)) hk (fun _ h => h.2)) (fun _ h => h.1));have n2_:=Aside0.mk (KeepBut.blk hk (g':=gb134) (o := .cells #[.bool (t122 == 1), .int .u32 0, .bool (t125 == 0), .int .i64 t128, .slice Ao13 y131.length co13] 25 (0,0)) (by (with_reducible repeat (first | refine blk_drewN ?_ _ | refine blk_drew ?_ | refine blk_alloc ?_ _));exact BK134.out) NB134_0.out (by simp));have n3_:=Aside0.mk (KeepBut.trans (by repeat (first | (with_reducible first | exact HK.out | apply KeepBut.set_ | apply keep_drewN | apply keep_drew | apply keep_alloc | refine keep_far ?_ GW121.out _ | refine keep_far ?_ GW134.out _) | exact HK.out)) hk (.inl rfl));have n4_:=Aside0.mk (hb);have n5_:=Aside0.mk (hi);clear BK121;clear HO133;clear BK134;clear HK;clear HB;clear HI0;have BK121:=n0_;have HO133:=n1_;have BK134:=n2_;have HK:=n3_;have HB:=n4_;have HI0:=n5_;clear n0_ n1_ n2_ n3_ n4_ n5_;(try clear hb);(try clear hb2);(try clear hk);(try clear hi);have hnb22:=NB134_121.out;have hnc22:=NB121_134.out;have hnb23:=NB134_0.out;have hnc23:=NB0_134.out;have hcz24_0 : w21.cell? ⟨gb134,0,none⟩ = some (.bool (t122 == 1)):=(blk_cell BK134.out 0).trans rfl;have hcz24_1 : w21.cell? ⟨gb134,1,none⟩ = some (.int .u32 0):=(blk_cell BK134.out 1).trans rfl;have hcz24_2 : w21.cell? ⟨gb134,2,none⟩ = some (.bool (t125 == 0)):=(blk_cell BK134.out 2).trans rfl;have hcz24_3 : w21.cell? ⟨gb134,3,none⟩ = some (.int .i64 t128):=(blk_cell BK134.out 3).trans rfl;have hcz24_4 : w21.cell? ⟨gb134,4,none⟩ = some (.slice Ao13 y131.length co13):=(blk_cell BK134.out 4).trans rfl;have hfz24_0:=blk_frozen BK134.out 0;have hfz24_1:=blk_frozen BK134.out 1;have hfz24_2:=blk_frozen BK134.out 2;have hfz24_3:=blk_frozen BK134.out 3;have hfz24_4:=blk_frozen BK134.out 4))
   go_meet
   case rel => exact ⟨_,(t139),(t140),(t138),H',⟨by first | omega | exact Nat.le_refl _⟩,⟨by (with_reducible repeat (first | apply Kd.R_alloc | apply Kd.R_drewN | apply Kd.R_drew));exact Kd.R_mono (Kd.R_far (p:=⟨gb134,3,none⟩) (Kd.R_types HO133.out BK134.out (by decide)) (fun _ hk => hk.2) (.int .i64 t138)) (fun _ hk => trivial)⟩,⟨by (with_reducible repeat (first | refine blk_drewN ?_ _ | refine blk_drew ?_ | refine blk_alloc ?_ _));refine blk_far ?_ NB121_134.out _;(with_reducible repeat (first | refine blk_drewN ?_ _ | refine blk_drew ?_ | refine blk_alloc ?_ _));exact BK121.out⟩,⟨by (with_reducible repeat (first | refine blk_drewN ?_ _ | refine blk_drew ?_ | refine blk_alloc ?_ _));refine blk_put (cs := #[.bool (t122 == 1), .int .u32 0, .bool (t125 == 0), .int .i64 t128, .slice Ao13 y131.length co13]) ?_ 3 _ rfl;(with_reducible repeat (first | refine blk_drewN ?_ _ | refine blk_drew ?_ | refine blk_alloc ?_ _));exact BK134.out⟩,⟨by repeat (first | (with_reducible first | exact HI0.out | apply IsS172.alloc | apply IsS172.drewN | apply IsS172.drew | apply IsS172.set_1 | apply IsS172.set_2 | refine IsS172.far ?_ NB0_121.out _ | refine IsS172.far ?_ NB0_134.out _) | exact HI0.out)⟩,⟨by repeat (first | (with_reducible first | exact HK.out | apply KeepBut.set_ | apply keep_drewN | apply keep_drew | apply keep_alloc | refine keep_far ?_ GW121.out _ | refine keep_far ?_ GW134.out _) | exact HK.out)⟩,⟨by repeat (first | (with_reducible first | exact HB.out | apply below_alloc | apply pw_below_drewN | apply below_drew1 | refine below_set ?_ (IsS172.ge HI0.out) | refine below_set ?_ GE121.out | refine below_set ?_ GE134.out) | exact HB.out)⟩⟩
  ·rw [if_neg c19] at H
   have c19b0 : (t135 == 0) = false:=beq_eq_false_iff_ne.mpr c19
   have c19b1 : (t135 != 0) = true:=bne_iff_ne.mpr c19
   (first | rw [c19b0] | (simp only [i64_w,i32_w];rw [c19b0]) | skip)
   have H':=Aside0.mk H
   clear H
   go_wp2
   go_meet
   case rel => exact ⟨_,(t136),(t137),(t128),H',⟨by first | omega | exact Nat.le_refl _⟩,⟨by (with_reducible repeat (first | apply Kd.R_alloc | apply Kd.R_drewN | apply Kd.R_drew));exact HO133.out⟩,⟨by (with_reducible repeat (first | refine blk_drewN ?_ _ | refine blk_drew ?_ | refine blk_alloc ?_ _));exact BK121.out⟩,⟨by (with_reducible repeat (first | refine blk_drewN ?_ _ | refine blk_drew ?_ | refine blk_alloc ?_ _));exact BK134.out⟩,⟨by repeat (first | (with_reducible first | exact HI0.out | apply IsS172.alloc | apply IsS172.drewN | apply IsS172.drew | apply IsS172.set_1 | apply IsS172.set_2 | refine IsS172.far ?_ NB0_121.out _ | refine IsS172.far ?_ NB0_134.out _) | exact HI0.out)⟩,⟨by repeat (first | (with_reducible first | exact HK.out | apply KeepBut.set_ | apply keep_drewN | apply keep_drew | apply keep_alloc | refine keep_far ?_ GW121.out _ | refine keep_far ?_ GW134.out _) | exact HK.out)⟩,⟨by repeat (first | (with_reducible first | exact HB.out | apply below_alloc | apply pw_below_drewN | apply below_drew1 | refine below_set ?_ (IsS172.ge HI0.out) | refine below_set ?_ GE121.out | refine below_set ?_ GE134.out) | exact HB.out)⟩⟩
 case rest =>
  clear HC6
  try clear c1
  try clear c2
  try clear p2
  try clear c13
  try clear c15
  try clear c16
  try clear c19
  try clear c19b0
  try clear c19b1
  try clear c22
  try clear c23
  try clear hcz17_0
  try clear hcz17_1
  try clear hcz17_2
  try clear hcz17_3
  try clear hcz17_4
  try clear hcz24_0
  try clear hcz24_1
  try clear hcz24_2
  try clear hcz24_3
  try clear hcz24_4
  try clear hfz17_0
  try clear hfz17_1
  try clear hfz17_2
  try clear hfz17_3
  try clear hfz17_4
  try clear hfz24_0
  try clear hfz24_1
  try clear hfz24_2
  try clear hfz24_3
  try clear hfz24_4
  obtain ⟨kq,x1001_5,x1002_5,x135003_5,HA,HJ5,HO_135004,BK121,BK134,HI0,HK,HB⟩:=hcut
  cases kq with
  | zero => exact absurd HA.out (by simp [spec_l1genFrame.j0])
  | succ kj5 =>
   have H:=HA.out
   clear HA
   simp only [spec_l1genFrame.j0] at H
   replace H:=Option.bind_eq_some_iff.mp H
   obtain ⟨⟨t141,t142,t143⟩,A250,H⟩:=H
   replace H : ((spec_l1dataLen.f (t122 == 1) t141 (t125 == 0) x135003_5 y131).bind fun t144 => (spec_l1genFrame.l0 kj5 t144 0 s0_0 t142 t143 (t122 == 1) t141 (t125 == 0) x135003_5 y131)) = some (r1,r2,r3,r4,r5,r6,r7):=H
   have A25:=Aside0.mk A250
   clear A250
   replace H:=Option.bind_eq_some_iff.mp H
   obtain ⟨t144,A260,H⟩:=H
   replace H : (spec_l1genFrame.l0 kj5 t144 0 s0_0 t142 t143 (t122 == 1) t141 (t125 == 0) x135003_5 y131) = some (r1,r2,r3,r4,r5,r6,r7):=H
   have A26:=Aside0.mk A260
   clear A260
   have H':=Aside0.mk H
   clear H
   have hnb27:=NB134_121.out
   have hnc27:=NB121_134.out
   have hnb28:=NB134_0.out
   have hnc28:=NB0_134.out
   have hcz29_0 : wc.cell? ⟨gb134,0,none⟩ = some (.bool (t122 == 1)):=(blk_cell BK134.out 0).trans rfl
   have hcz29_1 : wc.cell? ⟨gb134,1,none⟩ = some (.int .u32 0):=(blk_cell BK134.out 1).trans rfl
   have hcz29_2 : wc.cell? ⟨gb134,2,none⟩ = some (.bool (t125 == 0)):=(blk_cell BK134.out 2).trans rfl
   have hcz29_3 : wc.cell? ⟨gb134,3,none⟩ = some (.int .i64 x135003_5):=(blk_cell BK134.out 3).trans rfl
   have hcz29_4 : wc.cell? ⟨gb134,4,none⟩ = some (.slice Ao13 y131.length co13):=(blk_cell BK134.out 4).trans rfl
   have hfz29_0:=blk_frozen BK134.out 0
   have hfz29_1:=blk_frozen BK134.out 1
   have hfz29_2:=blk_frozen BK134.out 2
   have hfz29_3:=blk_frozen BK134.out 3
   have hfz29_4:=blk_frozen BK134.out 4
   go_wp2_with (first | ((with_reducible refine gate_callee (f:=157) rfl ?_);refine goesL_ (some 25) rfl rfl Try.func157 (by kernel_rfl) rfl #[.pointer (some ⟨g,0,none⟩), .bool (t122 == 1)] rfl (by (try simp only [List.map_toArray,List.map_cons,List.map_nil]);first | done | rfl | (simp only [List.length_drop,List.length_take];rfl)) ?_;(with_reducible refine (spec_l1genId.calls kj5 g s0_0 x1001_5 x1002_5 (t122 == 1) t141 t142 t143 w0 _ ?side1 ?side2 A25.out).mono ?_);(case side1 => repeat (first | (with_reducible first | exact HI0.out | apply IsS172.alloc | apply IsS172.drewN | apply IsS172.drew | apply IsS172.set_1 | apply IsS172.set_2 | refine IsS172.far ?_ NB0_121.out _ | refine IsS172.far ?_ NB0_134.out _) | exact HI0.out));(case side2 => repeat (first | (with_reducible first | exact HB.out | apply below_alloc | apply pw_below_drewN | apply below_drew1 | refine below_set ?_ (IsS172.ge HI0.out) | refine below_set ?_ GE121.out | refine below_set ?_ GE134.out) | exact HB.out));rintro e w30 ⟨rfl,hi,hb,hk⟩;refine ⟨_,rfl, ?_⟩;have n0_:=Aside0.mk (Kd.R_mono (Kd.R_keep (IsS172.apart (show IsS172 w0 _ g s0_0 x1001_5 x1002_5 from by repeat (first | (with_reducible first | exact HI0.out | apply IsS172.alloc | apply IsS172.drewN | apply IsS172.drew | apply IsS172.set_1 | apply IsS172.set_2 | refine IsS172.far ?_ NB0_121.out _ | refine IsS172.far ?_ NB0_134.out _) | exact HI0.out)) (by (with_reducible repeat (first | apply Kd.R_alloc | apply Kd.R_drewN | apply Kd.R_drew));exact HO_135004.out) (by decide)) hk (fun _ h => h.2)) (fun _ h => h.1));have n1_:=Aside0.mk (KeepBut.blk hk (g':=gb121) (o := .cells #[.bool false, .int .u32 0, .bool false, .int .i64 0, .slice none 0 0] 25 (0,0)) (by (with_reducible repeat (first | refine blk_drewN ?_ _ | refine blk_drew ?_ | refine blk_alloc ?_ _));exact BK121.out) NB121_0.out (by simp));have n2_:=Aside0.mk (KeepBut.blk hk (g':=gb134) (o := .cells #[.bool (t122 == 1), .int .u32 0, .bool (t125 == 0), .int .i64 x135003_5, .slice Ao13 y131.length co13] 25 (0,0)) (by (with_reducible repeat (first | refine blk_drewN ?_ _ | refine blk_drew ?_ | refine blk_alloc ?_ _));exact BK134.out) NB134_0.out (by simp));have n3_:=Aside0.mk (KeepBut.trans (by repeat (first | (with_reducible first | exact HK.out | apply KeepBut.set_ | apply keep_drewN | apply keep_drew | apply keep_alloc | refine keep_far ?_ GW121.out _ | refine keep_far ?_ GW134.out _) | exact HK.out)) hk (.inl rfl));have n4_:=Aside0.mk (hb);have n5_:=Aside0.mk (hi);clear HO_135004;clear BK121;clear BK134;clear HK;clear HB;clear HI0;have HO_135004:=n0_;have BK121:=n1_;have BK134:=n2_;have HK:=n3_;have HB:=n4_;have HI0:=n5_;clear n0_ n1_ n2_ n3_ n4_ n5_;(try clear hb);(try clear hb2);(try clear hk);(try clear hi);have hcz31_0 : w30.cell? ⟨gb134,0,none⟩ = some (.bool (t122 == 1)):=(blk_cell BK134.out 0).trans rfl;have hcz31_1 : w30.cell? ⟨gb134,1,none⟩ = some (.int .u32 0):=(blk_cell BK134.out 1).trans rfl;have hcz31_2 : w30.cell? ⟨gb134,2,none⟩ = some (.bool (t125 == 0)):=(blk_cell BK134.out 2).trans rfl;have hcz31_3 : w30.cell? ⟨gb134,3,none⟩ = some (.int .i64 x135003_5):=(blk_cell BK134.out 3).trans rfl;have hcz31_4 : w30.cell? ⟨gb134,4,none⟩ = some (.slice Ao13 y131.length co13):=(blk_cell BK134.out 4).trans rfl;have hfz31_0:=blk_frozen BK134.out 0;have hfz31_1:=blk_frozen BK134.out 1;have hfz31_2:=blk_frozen BK134.out 2;have hfz31_3:=blk_frozen BK134.out 3;have hfz31_4:=blk_frozen BK134.out 4) | ((with_reducible refine gate_callee (f:=73) rfl ?_);refine goesL_ (some 28) rfl rfl Try.func73 (by kernel_rfl) rfl #[.agg #[.bool (t122 == 1), .int .u32 t141, .bool (t125 == 0), .int .i64 x135003_5, .slice Ao13 y131.length co13]] rfl (by (try simp only [List.map_toArray,List.map_cons,List.map_nil]);first | done | rfl | (simp only [List.length_drop,List.length_take];rfl)) ?_;(with_reducible refine (spec_l1dataLen.calls (t122 == 1) t141 (t125 == 0) x135003_5 _ _ y131 t144 _ ?side1 ?side2 A26.out).mono ?_);(case side1 => refine (Kd.R_reads' (e:=5) (base:=w.heap.size) (ok:=fun k_ => True) (n:=y131.length) (c:=co13) ?_).2.2;exact (by (with_reducible repeat (first | apply Kd.R_alloc | apply Kd.R_drewN | apply Kd.R_drew));exact (Kd.R_mono (Kd.R_far (p:=⟨gb134,1,none⟩) (Kd.R_types HO_135004.out BK134.out (by decide)) (fun _ hk => hk.2) (.int .u32 t141)) (fun _ h_ => h_.1))));(case side2 => exact (Kd.R_reads' HO_135004.out).2.1);rintro e w32 ⟨rfl,hb⟩;refine ⟨_,rfl, ?_⟩;have n0_:=Aside0.mk (Kd.R_below (by (with_reducible repeat (first | apply Kd.R_alloc | apply Kd.R_drewN | apply Kd.R_drew));exact (Kd.R_mono (Kd.R_far (p:=⟨gb134,1,none⟩) (Kd.R_types HO_135004.out BK134.out (by decide)) (fun _ hk => hk.2) (.int .u32 t141)) (fun _ h_ => h_.1))) hb);have n1_:=Aside0.mk (blk_below (g:=gb121) (o := .cells #[.bool false, .int .u32 0, .bool false, .int .i64 0, .slice none 0 0] 25 (0,0)) (by (with_reducible repeat (first | refine blk_drewN ?_ _ | refine blk_drew ?_ | refine blk_alloc ?_ _));refine blk_far ?_ NB121_134.out _;(with_reducible repeat (first | refine blk_drewN ?_ _ | refine blk_drew ?_ | refine blk_alloc ?_ _));exact BK121.out) hb);have n2_:=Aside0.mk (blk_below (g:=gb134) (o := .cells #[.bool (t122 == 1), .int .u32 t141, .bool (t125 == 0), .int .i64 x135003_5, .slice Ao13 y131.length co13] 25 (0,0)) (by (with_reducible repeat (first | refine blk_drewN ?_ _ | refine blk_drew ?_ | refine blk_alloc ?_ _));refine blk_put (cs := #[.bool (t122 == 1), .int .u32 0, .bool (t125 == 0), .int .i64 x135003_5, .slice Ao13 y131.length co13]) ?_ 1 _ rfl;(with_reducible repeat (first | refine blk_drewN ?_ _ | refine blk_drew ?_ | refine blk_alloc ?_ _));exact BK134.out) hb);have n3_:=Aside0.mk (IsS172.below (show IsS172 w0 (w30.setCell ⟨gb134,1,none⟩ (.int .u32 t141)) g s0_0 t142 t143 from by repeat (first | (with_reducible first | exact HI0.out | apply IsS172.alloc | apply IsS172.drewN | apply IsS172.drew | apply IsS172.set_1 | apply IsS172.set_2 | refine IsS172.far ?_ NB0_121.out _ | refine IsS172.far ?_ NB0_134.out _) | exact HI0.out)) hb);have n4_:=Aside0.mk (KeepBut.trans (by repeat (first | (with_reducible first | exact HK.out | apply KeepBut.set_ | apply keep_drewN | apply keep_drew | apply keep_alloc | refine keep_far ?_ GW121.out _ | refine keep_far ?_ GW134.out _) | exact HK.out)) (KeepBut.of_below hb g none) (.inl rfl));have n5_:=Aside0.mk (below_step (by repeat (first | (with_reducible first | exact HB.out | apply below_alloc | apply pw_below_drewN | apply below_drew1 | refine below_set ?_ (IsS172.ge HI0.out) | refine below_set ?_ GE121.out | refine below_set ?_ GE134.out) | exact HB.out)) hb);clear HO_135004;clear BK121;clear BK134;clear HI0;clear HK;clear HB;have HO_135004:=n0_;have BK121:=n1_;have BK134:=n2_;have HI0:=n3_;have HK:=n4_;have HB:=n5_;clear n0_ n1_ n2_ n3_ n4_ n5_;(try clear hb);(try clear hb2);(try clear hk);(try clear hi)))
   go_loopg [5] kj5 (fun kq v5 w' => ∃ (x5_2 : Int) (x1001_2 : Int) (x1002_2 : Int) (x135004_2 : List Int) (u135004 : Value),v5 = .int .i64 x5_2 ∧ Aside0 (spec_l1genFrame.l0 kq t144 x5_2 s0_0 x1001_2 x1002_2 (t122 == 1) t141 (t125 == 0) x135003_5 x135004_2 = some (r1,r2,r3,r4,r5,r6,r7)) ∧ Aside0 (kq ≤ kj5) ∧ Aside0 (Kd.R (Kd.int .u8) 5 w' w.heap.size (fun _ => True) u135004 x135004_2) ∧ Aside0 (w'.heap[gb121]? = some (.cells #[.bool false, .int .u32 0, .bool false, .int .i64 0,(.slice none 0 0)] 25 (0,0))) ∧ Aside0 (w'.heap[gb134]? = some (.cells #[.bool (t122 == 1), .int .u32 t141, .bool (t125 == 0), .int .i64 x135003_5,u135004] 25 (0,0))) ∧ Aside0 (IsS172 w0 w' g s0_0 x1001_2 x1002_2) ∧ Aside0 (KeepBut w w' g none) ∧ Aside0 (Below w0.heap.size w0 w'))
   case atStart => exact ⟨(0),(t142),(t143),(y131),(.slice Ao13 y131.length co13),(by first | rfl | (simp;done) | (simp [*];done)),H',⟨Nat.le_refl _⟩,⟨by (with_reducible repeat (first | apply Kd.R_alloc | apply Kd.R_drewN | apply Kd.R_drew));exact HO_135004.out⟩,⟨by (with_reducible repeat (first | refine blk_drewN ?_ _ | refine blk_drew ?_ | refine blk_alloc ?_ _));exact BK121.out⟩,⟨by (with_reducible repeat (first | refine blk_drewN ?_ _ | refine blk_drew ?_ | refine blk_alloc ?_ _));exact BK134.out⟩,⟨by repeat (first | (with_reducible first | exact HI0.out | apply IsS172.alloc | apply IsS172.drewN | apply IsS172.drew | apply IsS172.set_1 | apply IsS172.set_2 | refine IsS172.far ?_ NB0_121.out _ | refine IsS172.far ?_ NB0_134.out _) | exact HI0.out)⟩,⟨by repeat (first | (with_reducible first | exact HK.out | apply KeepBut.set_ | apply keep_drewN | apply keep_drew | apply keep_alloc | refine keep_far ?_ GW121.out _ | refine keep_far ?_ GW134.out _) | exact HK.out)⟩,⟨by repeat (first | (with_reducible first | exact HB.out | apply below_alloc | apply pw_below_drewN | apply below_drew1 | refine below_set ?_ (IsS172.ge HI0.out) | refine below_set ?_ GE121.out | refine below_set ?_ GE134.out) | exact HB.out)⟩⟩
   case round =>
    clear H'
    try clear c1
    try clear c2
    try clear p2
    try clear c7
    try clear c13
    try clear c15
    try clear c16
    try clear c19
    try clear c19b0
    try clear c19b1
    try clear c22
    try clear c23
    try clear c27
    try clear c28
    try clear hcz17_0
    try clear hcz17_1
    try clear hcz17_2
    try clear hcz17_3
    try clear hcz17_4
    try clear hcz24_0
    try clear hcz24_1
    try clear hcz24_2
    try clear hcz24_3
    try clear hcz24_4
    try clear hcz29_0
    try clear hcz29_1
    try clear hcz29_2
    try clear hcz29_3
    try clear hcz29_4
    try clear hcz31_0
    try clear hcz31_1
    try clear hcz31_2
    try clear hcz31_3
    try clear hcz31_4
    try clear hfz17_0
    try clear hfz17_1
    try clear hfz17_2
    try clear hfz17_3
    try clear hfz17_4
    try clear hfz24_0
    try clear hfz24_1
    try clear hfz24_2
    try clear hfz24_3
    try clear hfz24_4
    try clear hfz29_0
    try clear hfz29_1
    try clear hfz29_2
    try clear hfz29_3
    try clear hfz29_4
    try clear hfz31_0
    try clear hfz31_1
    try clear hfz31_2
    try clear hfz31_3
    try clear hfz31_4
    try clear p2
    obtain ⟨x5_2,x1001_2,x1002_2,x135004_2,u135004,rfl,HA,HK2,HO_135004,BK121,BK134,HI0,HK,HB⟩:=hrel
    cases gk with
    | zero => exact absurd HA.out (by simp [spec_l1genFrame.l0])
    | succ k2 =>
     have H:=HA.out
     clear HA
     simp only [spec_l1genFrame.l0] at H
     by_cases c33 : x5_2 < t144
     ·rw [if_pos c33] at H
      have c33b0 : decide (x5_2 < t144) = true:=decide_eq_true c33
      clear c33
      replace H:=Option.bind_eq_some_iff.mp H
      obtain ⟨⟨t145,t146,t147⟩,A340,H⟩:=H
      replace H : (if x135004_2.length < 140737488355328 then (spec_l1genFrame.l0 k2 t144 (wrap64 (x5_2 + 1)) s0_0 t146 t147 (t122 == 1) t141 (t125 == 0) x135003_5 (x135004_2 ++ [t145])) else (none)) = some (r1,r2,r3,r4,r5,r6,r7):=H
      have A34:=Aside0.mk A340
      clear A340
      by_cases c35 : x135004_2.length < 140737488355328
      ·rw [if_pos c35] at H
       have LMc35:=Aside0.mk c35
       clear c35
       obtain ⟨y148,hy148⟩ : ∃ y_ : List Int,y_ = (x135004_2 ++ [t145]):=⟨_,rfl⟩
       replace H : (spec_l1genFrame.l0 k2 t144 (wrap64 (x5_2 + 1)) s0_0 t146 t147 (t122 == 1) t141 (t125 == 0) x135003_5 y148) = some (r1,r2,r3,r4,r5,r6,r7):=by first | (rw [hy148];with_reducible exact H) | (have H2_:=(Option.bind_some _ _).symm.trans H;rw [hy148];with_reducible exact H2_) | (have H2_:=(Option.bind_some _ _).symm.trans H;with_reducible exact H2_) | with_reducible exact H | (rw [hy148];exact H) | exact H
       have Ny148:=Aside0.mk hy148
       clear hy148
       have H':=Aside0.mk H
       clear H
       try go_wp2
       have n0_:=Aside0.mk (Kd.R_drew HO_135004.out)
       have n1_:=Aside0.mk (blk_drew BK121.out)
       have n2_:=Aside0.mk (blk_drew BK134.out)
       have n3_:=Aside0.mk (IsS172.drew HI0.out)
       have n4_:=Aside0.mk (keep_drew HK.out)
       have n5_:=Aside0.mk (below_drew1 HB.out)
       clear HO_135004
       clear BK121
       clear BK134
       clear HI0
       clear HK
       clear HB
       have HO_135004:=n0_
       have BK121:=n1_
       have BK134:=n2_
       have HI0:=n3_
       have HK:=n4_
       have HB:=n5_
       clear n0_ n1_ n2_ n3_ n4_ n5_
       refine start_ (n:=8) (S:=fun w' => w'.cell? ⟨gb134,0,none⟩ = some (.bool (t122 == 1)) ∧ w'.cell? ⟨gb134,1,none⟩ = some (.int .u32 t141) ∧ w'.cell? ⟨gb134,2,none⟩ = some (.bool (t125 == 0)) ∧ w'.cell? ⟨gb134,3,none⟩ = some (.int .i64 x135003_5) ∧ w'.cell? ⟨gb134,4,none⟩ = some (u135004)) (ds := [7]) #[false,false,false,false,false,false,false,false] (by kernel_rfl) rfl rfl ⟨(blk_cell BK134.out 0).trans rfl,(blk_cell BK134.out 1).trans rfl,(blk_cell BK134.out 2).trans rfl,(blk_cell BK134.out 3).trans rfl,(blk_cell BK134.out 4).trans rfl⟩ (fun hHeld => ?_);refine with_tabW spec_l1genFrame.tab9 spec_l1genFrame.bits9 (fun HT_ HW_ => ?_)
       generalize wr.drew = w36 at HO_135004 BK121 BK134 HI0 HK HB hHeld ⊢
       refine pure_ (i:=0) (N:=some 34) (v := ?_) (a' := ?_) #[true,false,false,false,false,false,false,false] rfl rfl (any_of HT_.out (by kernel_rfl)) (fun _ _ _ h => h) (Or.inl ⟨by rfl, ?_⟩) ?_ ?_
       rotate_left
       ·intro w'
        go_simp
        with_reducible rfl
       rotate_left
       ·simp only [Act.put,List.setIfInBounds_toArray,List.set_cons_zero,List.set_cons_succ,i64_w,i32_w]
        rfl
       refine pure_ (i:=2) (N:=some 36) (v := ?_) (a' := ?_) #[true,false,true,false,false,false,false,false] rfl rfl (any_of HT_.out (by kernel_rfl)) (fun _ _ _ h => h) (Or.inl ⟨by rfl, ?_⟩) ?_ ?_
       rotate_left
       ·intro w'
        go_simp
        with_reducible rfl
       rotate_left
       ·simp only [Act.put,List.setIfInBounds_toArray,List.set_cons_zero,List.set_cons_succ,i64_w,i32_w]
        rfl
       refine take_ (i:=1) (N:=some 35) (v := ?_) (a' := ?_) #[true,true,true,false,false,false,false,false] rfl rfl (take_ofW HT_.out HW_.out (by kernel_rfl)) (fun _ _ _ h => h) (Or.inl ⟨by rfl, ?_⟩) hHeld ?_ ?_
       rotate_left
       ·rintro w' ⟨s0,s1,s2,s3,s4⟩
        go_simp
        with_reducible rfl
       rotate_left
       ·simp only [Act.put,List.setIfInBounds_toArray,List.set_cons_zero,List.set_cons_succ,i64_w,i32_w]
        rfl
       refine one_ (i:=3) (N:=some 37) #[true,true,true,true,false,false,false,false] rfl rfl (one_of HT_.out (by kernel_rfl)) (by decide) (fun K hK => ?_)
       refine goes_ Try.func158 (by kernel_rfl) rfl #[.pointer (some ⟨g,0,none⟩)] (by rfl) rfl rfl (by (try simp only [List.map_toArray,List.map_cons,List.map_nil]);first | done | rfl | (simp only [List.length_drop,List.length_take];rfl)) ?_
       with_reducible refine (spec_l1genByte.calls g s0_0 x1001_2 x1002_2 t145 t146 t147 w0 _ ?side1 ?side2 A34.out).mono ?_
       (case side1 => repeat (first | (with_reducible first | exact HI0.out | apply IsS172.alloc | apply IsS172.drewN | apply IsS172.drew | apply IsS172.set_1 | apply IsS172.set_2 | refine IsS172.far ?_ NB0_121.out _ | refine IsS172.far ?_ NB0_134.out _) | exact HI0.out))
       (case side2 => repeat (first | (with_reducible first | exact HB.out | apply below_alloc | apply pw_below_drewN | apply below_drew1 | refine below_set ?_ (IsS172.ge HI0.out) | refine below_set ?_ GE121.out | refine below_set ?_ GE134.out) | exact HB.out))
       rintro e w37 ⟨rfl,hi,hb,hk⟩
       refine ⟨_,rfl, ?_⟩
       have n0_:=Aside0.mk (Kd.R_mono (Kd.R_keep (IsS172.apart (show IsS172 w0 _ g s0_0 x1001_2 x1002_2 from by repeat (first | (with_reducible first | exact HI0.out | apply IsS172.alloc | apply IsS172.drewN | apply IsS172.drew | apply IsS172.set_1 | apply IsS172.set_2 | refine IsS172.far ?_ NB0_121.out _ | refine IsS172.far ?_ NB0_134.out _) | exact HI0.out)) (by (with_reducible repeat (first | apply Kd.R_alloc | apply Kd.R_drewN | apply Kd.R_drew));exact HO_135004.out) (by decide)) hk (fun _ h => h.2)) (fun _ h => h.1))
       have n1_:=Aside0.mk (KeepBut.blk hk (g':=gb121) (o := .cells #[.bool false, .int .u32 0, .bool false, .int .i64 0, .slice none 0 0] 25 (0,0)) (by (with_reducible repeat (first | refine blk_drewN ?_ _ | refine blk_drew ?_ | refine blk_alloc ?_ _));exact BK121.out) NB121_0.out (by simp))
       have n2_:=Aside0.mk (KeepBut.blk hk (g':=gb134) (o := .cells #[.bool (t122 == 1), .int .u32 t141, .bool (t125 == 0), .int .i64 x135003_5,u135004] 25 (0,0)) (by (with_reducible repeat (first | refine blk_drewN ?_ _ | refine blk_drew ?_ | refine blk_alloc ?_ _));exact BK134.out) NB134_0.out (by simp))
       have n3_:=Aside0.mk (KeepBut.trans (by repeat (first | (with_reducible first | exact HK.out | apply KeepBut.set_ | apply keep_drewN | apply keep_drew | apply keep_alloc | refine keep_far ?_ GW121.out _ | refine keep_far ?_ GW134.out _) | exact HK.out)) hk (.inl rfl))
       have n4_:=Aside0.mk (hb)
       have n5_:=Aside0.mk (hi)
       clear HO_135004
       clear BK121
       clear BK134
       clear HK
       clear HB
       clear HI0
       have HO_135004:=n0_
       have BK121:=n1_
       have BK134:=n2_
       have HK:=n3_
       have HB:=n4_
       have HI0:=n5_
       clear n0_ n1_ n2_ n3_ n4_ n5_
       (try clear hb)
       (try clear hb2)
       (try clear hk)
       (try clear hi)
       refine hK.out _ _ ⟨(blk_cell BK134.out 0).trans rfl,(blk_cell BK134.out 1).trans rfl,(blk_cell BK134.out 2).trans rfl,(blk_cell BK134.out 3).trans rfl,(blk_cell BK134.out 4).trans rfl⟩ (fun hHeld => ?_)
       clear hK K
       refine norm_ (a' := ?_) ?_ ?_
       rotate_left
       ·show Act.put _ (some 37) _ = _
        simp only [Act.put,List.setIfInBounds_toArray,List.set_cons_zero,List.set_cons_succ,i64_w,i32_w]
        rfl
       refine one_ (i:=4) (N:=some 38) #[true,true,true,true,true,false,false,false] rfl rfl (one_of HT_.out (by kernel_rfl)) (by decide) (fun K hK => ?_)
       refine value_ (w1 := ?_) (v := ?_) (by rfl) rfl ?_ ?_
       rotate_left 2
       ·go_simp
        constructor
        ·rfl
        ·rfl
       refine hK.out _ _ ⟨(blk_cell (blk_alloc BK134.out _) 0).trans rfl,(blk_cell (blk_alloc BK134.out _) 1).trans rfl,(blk_cell (blk_alloc BK134.out _) 2).trans rfl,(blk_cell (blk_alloc BK134.out _) 3).trans rfl,(blk_cell (blk_alloc BK134.out _) 4).trans rfl⟩ (fun hHeld => ?_)
       clear hK K
       refine norm_ (a' := ?_) ?_ ?_
       rotate_left
       ·show Act.put _ (some 38) _ = _
        simp only [Act.put,List.setIfInBounds_toArray,List.set_cons_zero,List.set_cons_succ,i64_w,i32_w]
        rfl
       refine one_ (i:=5) (N:=some 39) #[true,true,true,true,true,true,false,false] rfl rfl (one_of HT_.out (by kernel_rfl)) (by decide) (fun K hK => ?_)
       refine Kd.R_append_step (Kd.int .u8) w.heap.size (by rfl) (.tmp 35) (.tmp 38) 22 5 (.int .u8 0) 1 rfl Try.underlying22 info5 rfl (by decide) (by omega) u135004 x135004_2 t145 [.int .u8 t145] (fun _ => True) (fun _ => False) rfl rfl ?aP (fun _ hk => hk.elim) ?aF ?aO (Below.refl _ _) ?aS ?aL ?_
       (case aP => exact rfl)
       (case aF => exact (fun _ _ => trivial))
       (case aO => exact (by (with_reducible repeat (first | apply Kd.R_alloc | apply Kd.R_drewN | apply Kd.R_drew));exact HO_135004.out))
       (case aS => exact (keep_size (w:=w) (g:=g) (row:=none) (by repeat (first | (with_reducible first | exact HK.out | apply KeepBut.set_ | apply keep_drewN | apply keep_drew | apply keep_alloc | refine keep_far ?_ GW121.out _ | refine keep_far ?_ GW134.out _) | exact HK.out))))
       (case aL => have:=LMc35.out;omega)
       intro v149 w38 ho hb hg hat
       rw [← Ny148.out] at ho
       have n0_:=Aside0.mk (blk_grown (g:=gb121) (o := .cells #[.bool false, .int .u32 0, .bool false, .int .i64 0, .slice none 0 0] 25 (0,0)) (by (with_reducible repeat (first | refine blk_drewN ?_ _ | refine blk_drew ?_ | refine blk_alloc ?_ _));exact BK121.out) hg (Kd.R_ne HO_135004.out BK121.out (by decide)))
       have n1_:=Aside0.mk (blk_grown (g:=gb134) (o := .cells #[.bool (t122 == 1), .int .u32 t141, .bool (t125 == 0), .int .i64 x135003_5,u135004] 25 (0,0)) (by (with_reducible repeat (first | refine blk_drewN ?_ _ | refine blk_drew ?_ | refine blk_alloc ?_ _));exact BK134.out) hg (Kd.R_ne HO_135004.out BK134.out (by decide)))
       have n2_:=Aside0.mk (IsS172.grown (by repeat (first | (with_reducible first | exact HI0.out | apply IsS172.alloc | apply IsS172.drewN | apply IsS172.drew | apply IsS172.set_1 | apply IsS172.set_2 | refine IsS172.far ?_ NB0_121.out _ | refine IsS172.far ?_ NB0_134.out _) | exact HI0.out)) hg (IsS172.own_ne HI0.out HO_135004.out (by decide)))
       have n3_:=Aside0.mk (below_weaken (by repeat (first | (with_reducible first | exact HB.out | apply below_alloc | apply pw_below_drewN | apply below_drew1 | refine below_set ?_ (IsS172.ge HI0.out) | refine below_set ?_ GE121.out | refine below_set ?_ GE134.out) | exact HB.out)) HL.out hb)
       have n4_:=Aside0.mk (KeepBut.trans (by repeat (first | (with_reducible first | exact HK.out | apply KeepBut.set_ | apply keep_drewN | apply keep_drew | apply keep_alloc | refine keep_far ?_ GW121.out _ | refine keep_far ?_ GW134.out _) | exact HK.out)) (KeepBut.of_grown hg g) (Kd.R_base2 HO_135004.out))
       have n5_:=Aside0.mk (ho)
       clear BK121
       clear BK134
       clear HI0
       clear HB
       clear HK
       clear HO_135004
       have BK121:=n0_
       have BK134:=n1_
       have HI0:=n2_
       have HB:=n3_
       have HK:=n4_
       have HO150:=n5_
       clear n0_ n1_ n2_ n3_ n4_ n5_
       clear ho hb hg hat
       obtain ⟨Ao39,co39,eo39⟩:=Kd.R_slice HO150.out
       (first | subst eo39 | (injection eo39 with f1_ f2_ f3_;have f4_:=f1_.symm;have f5_:=f3_.symm;clear f1_ f2_ f3_;subst f4_;subst f5_))
       refine hK.out _ _ ⟨(blk_cell BK134.out 0).trans rfl,(blk_cell BK134.out 1).trans rfl,(blk_cell BK134.out 2).trans rfl,(blk_cell BK134.out 3).trans rfl,(blk_cell BK134.out 4).trans rfl⟩ (fun hHeld => ?_)
       clear hK K
       refine norm_ (a' := ?_) ?_ ?_
       rotate_left
       ·show Act.put _ (some 39) _ = _
        simp only [Act.put,List.setIfInBounds_toArray,List.set_cons_zero,List.set_cons_succ,i64_w,i32_w]
        rfl
       refine pure_ (i:=6) (N:=some 40) (v := ?_) (a' := ?_) #[true,true,true,true,true,true,true,false] rfl rfl (any_of HT_.out (by kernel_rfl)) (fun _ _ _ h => h) (Or.inl ⟨by rfl, ?_⟩) ?_ ?_
       rotate_left
       ·intro w'
        go_simp
        with_reducible rfl
       rotate_left
       ·simp only [Act.put,List.setIfInBounds_toArray,List.set_cons_zero,List.set_cons_succ,i64_w,i32_w]
        rfl
       refine last_ (i:=7) (N:=none) #[true,true,true,true,true,true,true,true] rfl rfl (one_of HT_.out (by kernel_rfl)) (by decide) (fun K hK => ?_)
       have hs40 : w38.cell? ⟨gb134,4,none⟩ = some (u135004):=(blk_cell BK134.out 4).trans rfl
       have hfs40:=blk_frozen BK134.out 4
       have hns40_0:=NB121_134.out
       have hms40_0:=NB134_121.out
       refine skip_ (w1 := ?_) (by rfl) rfl ?_ ?_
       rotate_left
       ·go_simp
        rfl
       refine hK.out _ _ ?_
       clear hK K
       refine done_ (done_of HT_.out (by kernel_rfl)) ?_
       try go_wp2
       go_roundg k2
       case measure => have:=HJ5.out;have:=HK2.out;omega
       case rel => exact ⟨(wrap64 (x5_2 + 1)),(t146),(t147),(y148),(.slice Ao39 y148.length co39),(by first | rfl | (simp;done) | (simp [*];done)),H',⟨by have:=HJ5.out;have:=HK2.out;omega⟩,⟨by (with_reducible repeat (first | apply Kd.R_alloc | apply Kd.R_drewN | apply Kd.R_drew));exact Kd.R_mono (Kd.R_far (p:=⟨gb134,4,none⟩) (Kd.R_types HO150.out BK134.out (by decide)) (fun _ hk => hk.2) (.slice Ao39 y148.length co39)) (fun _ hk => trivial)⟩,⟨by (with_reducible repeat (first | refine blk_drewN ?_ _ | refine blk_drew ?_ | refine blk_alloc ?_ _));refine blk_far ?_ NB121_134.out _;(with_reducible repeat (first | refine blk_drewN ?_ _ | refine blk_drew ?_ | refine blk_alloc ?_ _));exact BK121.out⟩,⟨by (with_reducible repeat (first | refine blk_drewN ?_ _ | refine blk_drew ?_ | refine blk_alloc ?_ _));refine blk_put (cs := #[.bool (t122 == 1), .int .u32 t141, .bool (t125 == 0), .int .i64 x135003_5,u135004]) ?_ 4 _ rfl;(with_reducible repeat (first | refine blk_drewN ?_ _ | refine blk_drew ?_ | refine blk_alloc ?_ _));exact BK134.out⟩,⟨by repeat (first | (with_reducible first | exact HI0.out | apply IsS172.alloc | apply IsS172.drewN | apply IsS172.drew | apply IsS172.set_1 | apply IsS172.set_2 | refine IsS172.far ?_ NB0_121.out _ | refine IsS172.far ?_ NB0_134.out _) | exact HI0.out)⟩,⟨by repeat (first | (with_reducible first | exact HK.out | apply KeepBut.set_ | apply keep_drewN | apply keep_drew | apply keep_alloc | refine keep_far ?_ GW121.out _ | refine keep_far ?_ GW134.out _) | exact HK.out)⟩,⟨by repeat (first | (with_reducible first | exact HB.out | apply below_alloc | apply pw_below_drewN | apply below_drew1 | refine below_set ?_ (IsS172.ge HI0.out) | refine below_set ?_ GE121.out | refine below_set ?_ GE134.out) | exact HB.out)⟩⟩
      ·rw [if_neg c35] at H
       exact absurd H (by simp)
     ·rw [if_neg c33] at H
      have c33b0 : decide (x5_2 < t144) = false:=decide_eq_false c33
      clear c33
      simp only [Option.some.injEq,Prod.mk.injEq] at H
      obtain ⟨rfl,rfl,rfl,rfl,rfl,rfl,rfl⟩:=H
      have hnb41:=NB134_121.out
      have hnc41:=NB121_134.out
      have hnb42:=NB134_0.out
      have hnc42:=NB0_134.out
      have hcz43_0 : wr.cell? ⟨gb134,0,none⟩ = some (.bool (t122 == 1)):=(blk_cell BK134.out 0).trans rfl
      have hcz43_1 : wr.cell? ⟨gb134,1,none⟩ = some (.int .u32 t141):=(blk_cell BK134.out 1).trans rfl
      have hcz43_2 : wr.cell? ⟨gb134,2,none⟩ = some (.bool (t125 == 0)):=(blk_cell BK134.out 2).trans rfl
      have hcz43_3 : wr.cell? ⟨gb134,3,none⟩ = some (.int .i64 x135003_5):=(blk_cell BK134.out 3).trans rfl
      have hcz43_4 : wr.cell? ⟨gb134,4,none⟩ = some (u135004):=(blk_cell BK134.out 4).trans rfl
      have hfz43_0:=blk_frozen BK134.out 0
      have hfz43_1:=blk_frozen BK134.out 1
      have hfz43_2:=blk_frozen BK134.out 2
      have hfz43_3:=blk_frozen BK134.out 3
      have hfz43_4:=blk_frozen BK134.out 4
      have hnb44:=NB121_0.out
      have hnc44:=NB0_121.out
      have hcz45_0 : wr.cell? ⟨gb121,0,none⟩ = some (.bool false):=(blk_cell BK121.out 0).trans rfl
      have hcz45_1 : wr.cell? ⟨gb121,1,none⟩ = some (.int .u32 0):=(blk_cell BK121.out 1).trans rfl
      have hcz45_2 : wr.cell? ⟨gb121,2,none⟩ = some (.bool false):=(blk_cell BK121.out 2).trans rfl
      have hcz45_3 : wr.cell? ⟨gb121,3,none⟩ = some (.int .i64 0):=(blk_cell BK121.out 3).trans rfl
      have hcz45_4 : wr.cell? ⟨gb121,4,none⟩ = some (.slice none 0 0):=(blk_cell BK121.out 4).trans rfl
      have hfz45_0:=blk_frozen BK121.out 0
      have hfz45_1:=blk_frozen BK121.out 1
      have hfz45_2:=blk_frozen BK121.out 2
      have hfz45_3:=blk_frozen BK121.out 3
      have hfz45_4:=blk_frozen BK121.out 4
      obtain ⟨Ao46,co46,eo46⟩:=Kd.R_slice HO_135004.out
      subst eo46
      go_wp2
      refine bodyPost_ret (results_cell_row rfl _ _ gb121 25 #[.bool (t122 == 1), .int .u32 t141, .bool (t125 == 0), .int .i64 x135003_5, .slice Ao46 x135004_2.length co46] (0,0) _ rfl (by (with_reducible repeat (first | refine blk_drewN ?_ _ | refine blk_drew ?_ | refine blk_alloc ?_ _));refine blk_put (cs := #[.bool (t122 == 1), .int .u32 t141, .bool (t125 == 0), .int .i64 x135003_5, .slice none 0 0]) ?_ 4 _ rfl;(with_reducible repeat (first | refine blk_drewN ?_ _ | refine blk_drew ?_ | refine blk_alloc ?_ _));refine blk_put (cs := #[.bool (t122 == 1), .int .u32 t141, .bool (t125 == 0), .int .i64 0, .slice none 0 0]) ?_ 3 _ rfl;(with_reducible repeat (first | refine blk_drewN ?_ _ | refine blk_drew ?_ | refine blk_alloc ?_ _));refine blk_put (cs := #[.bool (t122 == 1), .int .u32 t141, .bool false, .int .i64 0, .slice none 0 0]) ?_ 2 _ rfl;(with_reducible repeat (first | refine blk_drewN ?_ _ | refine blk_drew ?_ | refine blk_alloc ?_ _));refine blk_put (cs := #[.bool (t122 == 1), .int .u32 0, .bool false, .int .i64 0, .slice none 0 0]) ?_ 1 _ rfl;(with_reducible repeat (first | refine blk_drewN ?_ _ | refine blk_drew ?_ | refine blk_alloc ?_ _));refine blk_put (cs := #[.bool false, .int .u32 0, .bool false, .int .i64 0, .slice none 0 0]) ?_ 0 _ rfl;(with_reducible repeat (first | refine blk_drewN ?_ _ | refine blk_drew ?_ | refine blk_alloc ?_ _));exact BK121.out) Try.underlying25 rfl (by kernel_rfl)) rfl ?_
      exact ⟨_,by first | rfl | (simp [errW_none,errW_some] <;> rfl) | (simp [*,errW_none,errW_some] <;> rfl),by (with_reducible repeat (first | apply Kd.R_alloc | apply Kd.R_drewN | apply Kd.R_drew));exact Kd.R_mono (Kd.R_far (p:=⟨gb121,4,none⟩) (Kd.R_far (p:=⟨gb121,3,none⟩) (Kd.R_far (p:=⟨gb121,2,none⟩) (Kd.R_far (p:=⟨gb121,1,none⟩) (Kd.R_far (p:=⟨gb121,0,none⟩) (Kd.R_types HO_135004.out BK121.out (by decide)) (fun _ hk => hk.2) (.bool (t122 == 1))) (fun _ hk => hk.2) (.int .u32 t141)) (fun _ hk => hk.2) (.bool (t125 == 0))) (fun _ hk => hk.2) (.int .i64 x135003_5)) (fun _ hk => hk.2) (.slice Ao46 x135004_2.length co46)) (fun _ hk => trivial),by repeat (first | (with_reducible first | exact HI0.out | apply IsS172.alloc | apply IsS172.drewN | apply IsS172.drew | apply IsS172.set_1 | apply IsS172.set_2 | refine IsS172.far ?_ NB0_121.out _ | refine IsS172.far ?_ NB0_134.out _) | exact HI0.out),by repeat (first | (with_reducible first | exact HB.out | apply below_alloc | apply pw_below_drewN | apply below_drew1 | refine below_set ?_ (IsS172.ge HI0.out) | refine below_set ?_ GE121.out | refine below_set ?_ GE134.out) | exact HB.out),by repeat (first | (with_reducible first | exact HK.out | apply KeepBut.set_ | apply keep_drewN | apply keep_drew | apply keep_alloc | refine keep_far ?_ GW121.out _ | refine keep_far ?_ GW134.out _) | exact HK.out)⟩
end Go.Proofs.Ytdoclpgciadjaaa.P
