/- Texts of the proof of CFnScanner, joined. -/
import Derived.Test.YtdoclpgciadjaaaDoorSCFnScanner21
import Derived.Deep.RegionWith
namespace Go.Proofs.YtdoclpgciadjaaaDoor.P
open Go Go.RowKit Go.Proofs.YtdoclpgciadjaaaDoorW.PrintWords Go.Proofs.YtdoclpgciadjaaaDoorW.PrintLast Go.Proofs.YtdoclpgciadjaaaDoorW.PrintMore
set_option linter.unusedVariables false
def objF (e : Bool) (i : Int) (r : Bool) (d : Int) (A : Option Addr) (n c : Nat) : Obj := .cells #[.bool e, .int .u32 i, .bool r, .int .i64 d, .slice A n c] 29 (0,0)
structure Wf (w W : World) (g2 g3 : Nat) (e : Bool) (i : Int) (r : Bool) (d : Int) (l : List Int) (A : Option Addr) (c : Nat) (A' : Option Addr) (c' : Nat) : Prop where
 b2 : W.heap[g2]? = some (objF e i r d A l.length c)
 b3 : W.heap[g3]? = some (objF e i r d A' l.length c')
 r2 : Kd.C (Kd.int .u8) W A l.length l
 r3 : Kd.C (Kd.int .u8) W A' l.length l
 bel : Below w.heap.size w W
theorem Wf.step {w W W2 : World} {g2 g3 : Nat} {e : Bool} {i : Int} {r : Bool} {d : Int} {l : List Int} {A : Option Addr} {c : Nat} {A' : Option Addr} {c' : Nat} (h : Wf w W g2 g3 e i r d l A c A' c') (hb : Below W.heap.size W W2) : Wf w W2 g2 g3 e i r d l A c A' c' :=
 ⟨blk_below h.b2 hb,blk_below h.b3 hb,Kd.C_below h.r2 hb,Kd.C_below h.r3 hb,h.bel.trans (hb.mono h.bel.size)⟩
set_option maxRecDepth 100000 in
set_option maxHeartbeats 2000000 in
theorem wFrame_v (e : Bool) (i : Int) (r : Bool) (d : Int) (l : List Int) (hl : l.length ≤ 1000) (A : Option Addr) (c : Nat) (A' : Option Addr) (c' : Nat) (w : World) (hr : Kd.C (Kd.int .u8) w A l.length l) (hr' : Kd.C (Kd.int .u8) w A' l.length l) :
  Calls Tryd.prog 17 #[.agg #[.bool e, .int .u32 i, .bool r, .int .i64 d, .slice A l.length c], .agg #[.bool e, .int .u32 i, .bool r, .int .i64 d, .slice A' l.length c']] w fun x w' => x = .returned (.bool true) ∧ Below w.heap.size w w':=by
 have HW : Hid (Wf w ((w.alloc (objF e i r d A l.length c)).alloc (objF e i r d A' l.length c')) w.heap.size (w.heap.size + 1) e i r d l A c A' c'):=Lib.hid ⟨blk_alloc (blk_new w _) _,by have h:=blk_new (w.alloc (objF e i r d A l.length c)) (objF e i r d A' l.length c');rwa [World.size_alloc] at h,Kd.C_alloc (Kd.C_alloc hr _) _,Kd.C_alloc (Kd.C_alloc hr' _) _,((Below.refl _ _).alloc (Nat.le_refl _) _).alloc (by simp) _⟩
 clear hr hr'
 have hb0 : (e != e) = false:=bne_self_eq_false _
 have hb1 : (i != i) = false:=bne_self_eq_false _
 have hb2 : (r != r) = false:=bne_self_eq_false _
 have hb3 : (d != d) = false:=bne_self_eq_false _
 have hb4 : ((l.length : Int) != (l.length : Int)) = false:=bne_self_eq_false _
 go_enter Tryd.func17,Tryd.ntmps17
 go_upto_region 1 with (fail)
 have hy0:=blk_cell HW.out.b2 0;have hy1:=blk_cell HW.out.b2 1;have hy2:=blk_cell HW.out.b2 2;have hy3:=blk_cell HW.out.b2 3;have hy4:=blk_cell HW.out.b2 4
 have hz0:=blk_cell HW.out.b3 0;have hz1:=blk_cell HW.out.b3 1;have hz2:=blk_cell HW.out.b3 2;have hz3:=blk_cell HW.out.b3 3;have hz4:=blk_cell HW.out.b3 4
 unfold objF at hy0 hy1 hy2 hy3 hy4 hz0 hz1 hz2 hz3 hz4
 go_wp2_with (fail)
 clear hy0 hy1 hy2 hy3 hy4 hz0 hz1 hz2 hz3 hz4
 go_loopw [5] (fun v5 wr => ∃ j : Nat,j ≤ l.length ∧ v5 = .int .i64 j ∧ Aside0 (Wf w wr w.heap.size (w.heap.size + 1) e i r d l A c A' c')) (fun v5 _ => l.length - (intOf v5).toNat)
 case atStart => exact ⟨0,Nat.zero_le _,rfl,⟨HW.out⟩⟩
 case round =>
  obtain ⟨j,hj,rfl,HWR⟩:=hrel
  have hy4 : wr.cell? ⟨w.heap.size,4,none⟩ = some (.slice A l.length c):=blk_cell HWR.out.b2 4
  have hz4 : wr.cell? ⟨w.heap.size + 1,4,none⟩ = some (.slice A' l.length c'):=blk_cell HWR.out.b3 4
  by_cases hlt : j < l.length
  ·have b2 : decide ((j : Int) < (l.length : Int)) = true:=decide_eq_true (by omega)
   have p5 : (0 ≤ (j : Int)) = True:=eq_true (by omega)
   have q5 : ((j : Int) < (l.length : Int)) = True:=eq_true (by omega)
   have qn : (j < l.length) = True:=eq_true hlt
   obtain ⟨ad,ea,hcell⟩:=Kd.at_int HWR.out.r2 (j : Int) (by omega) (by omega)
   subst ea
   obtain ⟨ad',ea',hcell'⟩:=Kd.at_int HWR.out.r3 (j : Int) (by omega) (by omega)
   subst ea'
   rw [Int.toNat_natCast] at hcell hcell'
   have hbx : (rd l (j : Int) != rd l (j : Int)) = false:=bne_self_eq_false _
   have hn : wrap64 ((j : Int) + 1) = (j : Int) + 1:=by unfold wrap64;omega
   have hn2 : IntKind.i64.wrap ((j : Int) + 1) = (j : Int) + 1:=by rw [IntKind.wrap_i64];omega
   have HLT:=Lib.hid hlt
   have HJ:=Lib.hid hj
   clear hlt hj
   go_wp2_with (fail)
   go_region_with (fail)
   all_goals
    go_wp2_with (fail)
    go_roundw
    case rel => exact ⟨j + 1,HLT.out,rfl,⟨HWR.out.step (below_drew (Below.refl _ _))⟩⟩
    case measure => have:=HLT.out;simp [intOf];omega
  ·have b2 : decide ((j : Int) < (l.length : Int)) = false:=decide_eq_false (by omega)
   have qn : (j < l.length) = False:=eq_false hlt
   clear hlt
   go_wp2_with (fail)
   go_ret
   exact ⟨rfl,HWR.out.bel⟩
set_option maxRecDepth 100000 in
set_option maxHeartbeats 4000000 in
theorem wScan_z (A : Option Addr) (c : Nat) (A' : Option Addr) (c' : Nat) (w : World) (hr : Kd.C (Kd.int .u8) w A 0 []) (hr' : Kd.C (Kd.int .u8) w A' 0 []) :
  Calls Tryd.prog 15 #[.agg #[.int .i64 0, .int .i64 0, .int .i64 0, .int .i64 0, .int .i64 0, .int .i64 0, .bool false, .int .u32 0, .bool false, .int .i64 0, .slice A 0 c], .agg #[.int .i64 0, .int .i64 0, .int .i64 0, .int .i64 0, .int .i64 0, .int .i64 0, .bool false, .int .u32 0, .bool false, .int .i64 0, .slice A' 0 c']] w fun x w' => x = .returned (.bool true) ∧ Below w.heap.size w w':=by
 have HR:=Lib.hid hr
 have HR':=Lib.hid hr'
 clear hr hr'
 have HN : Hid (w.heap.size ≤ w.heap.size):=Lib.hid (Nat.le_refl _)
 go_enter Tryd.func15,Tryd.ntmps15
 go_upto_region 1 with (first | ((with_reducible refine gate_dst (N:=2) rfl ?_);refine box_event ?hg (N:=2) ?hd (cs := #[.int .i64 0, .int .i64 0, .int .i64 0, .int .i64 0, .int .i64 0, .int .i64 0, .bool false, .int .u32 0, .bool false, .int .i64 0, .slice A 0 c]) (t:=31) ?hr ?_;(case hd => rfl);(case hg => rfl);(case hr => first | (go_simp;done) | (go_simp;rfl));intro g2 hg w1 hbox hb;have HX1 : Hid (w1.heap[g2]? = some (objS zeroS (.slice A 0 c))):=Lib.hid hbox;have HB1:=Lib.hid hb;clear hg hbox hb) | ((with_reducible refine gate_dst (N:=3) rfl ?_);refine box_event ?hg (N:=3) ?hd (cs := #[.int .i64 0, .int .i64 0, .int .i64 0, .int .i64 0, .int .i64 0, .int .i64 0, .bool false, .int .u32 0, .bool false, .int .i64 0, .slice A' 0 c']) (t:=31) ?hr ?_;(case hd => rfl);(case hg => rfl);(case hr => first | (go_simp;done) | (go_simp;rfl));intro g3 hg w2 hbox hb;have HX2 : Hid (w2.heap[g2]? = some (objS zeroS (.slice A 0 c))):=Lib.hid (blk_below HX1.out hb);have HY2 : Hid (w2.heap[g3]? = some (objS zeroS (.slice A' 0 c'))):=Lib.hid hbox;have HB2:=Lib.hid (HB1.out.trans (hb.mono HB1.out.size));clear hg hbox hb))
 have hx0:=cS0 HX2.out;have hx1:=cS1 HX2.out;have hx2:=cS2 HX2.out;have hx3:=cS3 HX2.out;have hx4:=cS4 HX2.out;have hx5:=cS5 HX2.out;have hx6:=cS6 HX2.out;have hx7:=cS7 HX2.out;have hx8:=cS8 HX2.out;have hx9:=cS9 HX2.out;have hx10:=cS10 HX2.out
 have hy0:=cS0 HY2.out;have hy1:=cS1 HY2.out;have hy2:=cS2 HY2.out;have hy3:=cS3 HY2.out;have hy4:=cS4 HY2.out;have hy5:=cS5 HY2.out;have hy6:=cS6 HY2.out;have hy7:=cS7 HY2.out;have hy8:=cS8 HY2.out;have hy9:=cS9 HY2.out;have hy10:=cS10 HY2.out
 simp only [zeroS] at hx0 hx1 hx2 hx3 hx4 hx5 hx6 hx7 hx8 hx9 hy0 hy1 hy2 hy3 hy4 hy5 hy6 hy7 hy8 hy9
 go_wp2_with (first | (go_at_call 17;refine (wFrame_v false 0 false 0 [] (by decide) A c A' c' w2 (Kd.C_below HR.out HB2.out) (Kd.C_below HR'.out HB2.out)).mono ?_;rintro e w3 ⟨rfl,hb⟩;have HB3:=Lib.hid (HB2.out.trans (hb.mono HB2.out.size));clear hb))
 go_ret
 exact ⟨rfl,HB3.out⟩
end Go.Proofs.YtdoclpgciadjaaaDoor.P
