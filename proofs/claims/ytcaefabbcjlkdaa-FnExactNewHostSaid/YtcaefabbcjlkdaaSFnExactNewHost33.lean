/- Texts of the proof of FnExactNewHost, joined. -/
import Derived.Test.YtcaefabbcjlkdaaSFnExactNewHost22
import Derived.Test.YtcaefabbcjlkdaaSFnExactNewHost32
import Derived.Deep.Slices
import Derived.Deep.Fields
import Derived.ChangeSame
import Derived.WideShapes
import Derived.Test.YtcaefabbcjlkdaaSFnExactNewHost27
import Derived.Test.YtcaefabbcjlkdaaSFnExactNewHost30
import Derived.Deep.RegionHeld
namespace Go.Proofs.Ytcaefabbcjlkdaa.P
open Go Go.RowKit Go.Proofs.YtcaefabbcjlkdaaW.PrintWords Go.Proofs.YtcaefabbcjlkdaaW.PrintLast Go.Proofs.YtcaefabbcjlkdaaW.PrintMore
set_option linter.unusedVariables false
set_option linter.unusedSimpArgs false
structure HSm (h : HV) : Prop where
 l1 : h.fs.length ≤ 10000000
 l2 : h.bs.length ≤ 10000000
 l3 : h.fr.length ≤ 10000000
 l4 : h.ev.length ≤ 10000000
 d2 : ∀ y ∈ h.bs,y.f3.f4.length ≤ 10000000
 d3 : ∀ y ∈ h.fr,y.f4.length ≤ 10000000
 d4 : ∀ y ∈ h.ev,y.f3.f4.length ≤ 10000000
set_option maxRecDepth 100000 in
set_option maxHeartbeats 2000000 in
theorem eqConfig_v (a b c d : Int) (w : World) : Calls Try.prog 65 #[.agg #[.int .i64 a, .int .i64 b, .int .i64 c, .int .i64 d], .agg #[.int .i64 a, .int .i64 b, .int .i64 c, .int .i64 d]] w fun e w' => e = .returned (.bool true) ∧ Below w.heap.size w w':=by
 have b0 : (a != a) = false:=bne_self_eq_false _
 have b1 : (b != b) = false:=bne_self_eq_false _
 have b2 : (c != c) = false:=bne_self_eq_false _
 have b3 : (d != d) = false:=bne_self_eq_false _
 go_enter Try.func65,Try.ntmps65
 go_upto_region 1 with (first | ((with_reducible refine gate_dst (N:=2) rfl ?_);refine box_event ?hg (N:=2) ?hd (cs := #[.int .i64 a, .int .i64 b, .int .i64 c, .int .i64 d]) (t:=26) ?hr ?_;(case hd => rfl);(case hg => rfl);(case hr => first | (go_simp;done) | (go_simp;rfl));intro g2 hg w1 hbox hb;have X1:=Lib.hid hbox;have HB1:=Lib.hid hb;clear hg hbox hb) | ((with_reducible refine gate_dst (N:=3) rfl ?_);refine box_event ?hg (N:=3) ?hd (cs := #[.int .i64 a, .int .i64 b, .int .i64 c, .int .i64 d]) (t:=26) ?hr ?_;(case hd => rfl);(case hg => rfl);(case hr => first | (go_simp;done) | (go_simp;rfl));intro g3 hg w2 hbox hb;have Y2:=Lib.hid hbox;have X2:=Lib.hid (blk_below X1.out hb);have HB2:=Lib.hid (below_then HB1.out HB1.out.size hb);clear hg hbox hb))
 have x0 : w2.cell? ⟨g2,0,none⟩ = some (.int .i64 a):=blk_cell X2.out 0
 have x1 : w2.cell? ⟨g2,1,none⟩ = some (.int .i64 b):=blk_cell X2.out 1
 have x2 : w2.cell? ⟨g2,2,none⟩ = some (.int .i64 c):=blk_cell X2.out 2
 have x3 : w2.cell? ⟨g2,3,none⟩ = some (.int .i64 d):=blk_cell X2.out 3
 have y0 : w2.cell? ⟨g3,0,none⟩ = some (.int .i64 a):=blk_cell Y2.out 0
 have y1 : w2.cell? ⟨g3,1,none⟩ = some (.int .i64 b):=blk_cell Y2.out 1
 have y2 : w2.cell? ⟨g3,2,none⟩ = some (.int .i64 c):=blk_cell Y2.out 2
 have y3 : w2.cell? ⟨g3,3,none⟩ = some (.int .i64 d):=blk_cell Y2.out 3
 go_wp2_with (fail)
 go_ret
 exact ⟨rfl,HB2.out⟩
set_option maxRecDepth 100000 in
set_option maxHeartbeats 4000000 in
theorem eqHost_v (h : HV) (hs : HSm h) (w : World) (C D : List Value) (hC : HRead w h C) (hD : HRead w h D) :
  Calls Try.prog 19 #[.agg ⟨C⟩, .agg ⟨D⟩] w fun e w' => e = .returned (.bool true) ∧ Below w.heap.size w w':=by
 obtain ⟨A1,c1,A2,c2,A3,c3,A4,c4,rfl,r1,l1,r2,l2,r3,l3,r4,l4⟩:=hC
 obtain ⟨B1,e1,B2,e2,B3,e3,B4,e4,rfl,s1,m1,s2,m2,s3,m3,s4,m4⟩:=hD
 have HS:=Lib.hid hs
 have R1:=Lib.hid r1;have R2:=Lib.hid r2;have R3:=Lib.hid r3;have R4:=Lib.hid r4
 have S1:=Lib.hid s1;have S2:=Lib.hid s2;have S3:=Lib.hid s3;have S4:=Lib.hid s4
 have L1:=Lib.hid l1;have L2:=Lib.hid l2;have L3:=Lib.hid l3;have L4:=Lib.hid l4
 have M1:=Lib.hid m1;have M2:=Lib.hid m2;have M3:=Lib.hid m3;have M4:=Lib.hid m4
 clear hs r1 r2 r3 r4 s1 s2 s3 s4 l1 l2 l3 l4 m1 m2 m3 m4
 have b0 : (h.lost != h.lost) = false:=bne_self_eq_false _
 have b1 : (h.stamp != h.stamp) = false:=bne_self_eq_false _
 go_enter Try.func19,Try.ntmps19
 go_upto_region 1 with (first | ((with_reducible refine gate_dst (N:=2) rfl ?_);refine box_event ?hg (N:=2) ?hd (cs:=⟨hostC h (.slice A1 h.fs.length c1) (.slice A2 h.bs.length c2) (.slice A3 h.fr.length c3) (.slice A4 h.ev.length c4)⟩) (t:=32) ?hr ?_;(case hd => rfl);(case hg => rfl);(case hr => first | (go_simp;done) | (go_simp;rfl));intro g2 hg w1 hbox hb;have X1:=Lib.hid hbox;have HB1:=Lib.hid hb;clear hg hbox hb) | ((with_reducible refine gate_dst (N:=3) rfl ?_);refine box_event ?hg (N:=3) ?hd (cs:=⟨hostC h (.slice B1 h.fs.length e1) (.slice B2 h.bs.length e2) (.slice B3 h.fr.length e3) (.slice B4 h.ev.length e4)⟩) (t:=32) ?hr ?_;(case hd => rfl);(case hg => rfl);(case hr => first | (go_simp;done) | (go_simp;rfl));intro g3 hg w2 hbox hb;have Y2:=Lib.hid hbox;have X2:=Lib.hid (blk_below X1.out hb);have HB2:=Lib.hid (below_then HB1.out HB1.out.size hb);clear hg hbox hb))
 have x0 : w2.cell? ⟨g2,0,none⟩ = some (.int .i64 h.cb):=blk_cell X2.out 0
 have x1 : w2.cell? ⟨g2,1,none⟩ = some (.int .i64 h.cf):=blk_cell X2.out 1
 have x2 : w2.cell? ⟨g2,2,none⟩ = some (.int .i64 h.cp):=blk_cell X2.out 2
 have x3 : w2.cell? ⟨g2,3,none⟩ = some (.int .i64 h.ce):=blk_cell X2.out 3
 have y0 : w2.cell? ⟨g3,0,none⟩ = some (.int .i64 h.cb):=blk_cell Y2.out 0
 have y1 : w2.cell? ⟨g3,1,none⟩ = some (.int .i64 h.cf):=blk_cell Y2.out 1
 have y2 : w2.cell? ⟨g3,2,none⟩ = some (.int .i64 h.cp):=blk_cell Y2.out 2
 have y3 : w2.cell? ⟨g3,3,none⟩ = some (.int .i64 h.ce):=blk_cell Y2.out 3
 go_upto_region 3 with (first | (go_at_call 65;refine (eqConfig_v h.cb h.cf h.cp h.ce w2).mono ?_;rintro e w3 ⟨rfl,hb⟩;have X3:=Lib.hid (blk_below X2.out hb);have Y3:=Lib.hid (blk_below Y2.out hb);have HB3:=Lib.hid (below_then HB2.out HB2.out.size hb);clear hb))
 clear x0 x1 x2 x3 y0 y1 y2 y3
 have x4 : w3.cell? ⟨g2,4,none⟩ = some (.slice A1 h.fs.length c1):=blk_cell X3.out 4
 have y4 : w3.cell? ⟨g3,4,none⟩ = some (.slice B1 h.fs.length e1):=blk_cell Y3.out 4
 go_upto_region 5 with (first | (go_at_call 20;obtain ⟨k,hk⟩:=(eqFilterS_ev h.fs HS.out.l1).rounds;refine (laws_eqFilterS.calls k A1 c1 h.fs B1 e1 h.fs true w3 (Kd.C_below R1.out HB3.out) L1.out (Kd.C_below S1.out HB3.out) M1.out hk).mono ?_;clear hk;rintro e w4 ⟨rfl,hb⟩;have X4:=Lib.hid (blk_below X3.out hb);have Y4:=Lib.hid (blk_below Y3.out hb);have HB4:=Lib.hid (below_then HB3.out HB3.out.size hb);clear hb))
 clear x4 y4
 have x5 : w4.cell? ⟨g2,5,none⟩ = some (.slice A2 h.bs.length c2):=blk_cell X4.out 5
 have y5 : w4.cell? ⟨g3,5,none⟩ = some (.slice B2 h.bs.length e2):=blk_cell Y4.out 5
 go_upto_region 7 with (first | (go_at_call 66;obtain ⟨k,hk⟩:=(eqBoxS_ev h.bs HS.out.l2 HS.out.d2).rounds;refine (laws_eqBoxS.calls k A2 c2 h.bs B2 e2 h.bs true w4 (Kd.C_below R2.out HB4.out) L2.out (Kd.C_below S2.out HB4.out) M2.out hk).mono ?_;clear hk;rintro e w5 ⟨rfl,hb⟩;have X5:=Lib.hid (blk_below X4.out hb);have Y5:=Lib.hid (blk_below Y4.out hb);have HB5:=Lib.hid (below_then HB4.out HB4.out.size hb);clear hb))
 clear x5 y5
 have x6 : w5.cell? ⟨g2,6,none⟩ = some (.slice A3 h.fr.length c3):=blk_cell X5.out 6
 have y6 : w5.cell? ⟨g3,6,none⟩ = some (.slice B3 h.fr.length e3):=blk_cell Y5.out 6
 go_upto_region 9 with (first | (go_at_call 67;obtain ⟨k,hk⟩:=(eqFrameS_ev h.fr HS.out.l3 HS.out.d3).rounds;refine (laws_eqFrameS.calls k A3 c3 h.fr B3 e3 h.fr true w5 (Kd.C_below R3.out HB5.out) L3.out (Kd.C_below S3.out HB5.out) M3.out hk).mono ?_;clear hk;rintro e w6 ⟨rfl,hb⟩;have X6:=Lib.hid (blk_below X5.out hb);have Y6:=Lib.hid (blk_below Y5.out hb);have HB6:=Lib.hid (below_then HB5.out HB5.out.size hb);clear hb))
 clear x6 y6
 have x7 : w6.cell? ⟨g2,7,none⟩ = some (.slice A4 h.ev.length c4):=blk_cell X6.out 7
 have y7 : w6.cell? ⟨g3,7,none⟩ = some (.slice B4 h.ev.length e4):=blk_cell Y6.out 7
 go_upto_region 11 with (first | (go_at_call 46;obtain ⟨k,hk⟩:=(eqEventS_ev h.ev HS.out.l4 HS.out.d4).rounds;refine (laws_eqEventS.calls k A4 c4 h.ev B4 e4 h.ev true w6 (Kd.C_below R4.out HB6.out) L4.out (Kd.C_below S4.out HB6.out) M4.out hk).mono ?_;clear hk;rintro e w7 ⟨rfl,hb⟩;have X7:=Lib.hid (blk_below X6.out hb);have Y7:=Lib.hid (blk_below Y6.out hb);have HB7:=Lib.hid (below_then HB6.out HB6.out.size hb);clear hb))
 clear x7 y7
 have x8 : w7.cell? ⟨g2,8,none⟩ = some (.int .i64 h.lost):=blk_cell X7.out 8
 have y8 : w7.cell? ⟨g3,8,none⟩ = some (.int .i64 h.lost):=blk_cell Y7.out 8
 have x9 : w7.cell? ⟨g2,9,none⟩ = some (.int .i64 h.stamp):=blk_cell X7.out 9
 have y9 : w7.cell? ⟨g3,9,none⟩ = some (.int .i64 h.stamp):=blk_cell Y7.out 9
 go_wp2_with (fail)
 go_ret
 exact ⟨rfl,HB7.out⟩
end Go.Proofs.Ytcaefabbcjlkdaa.P
namespace Go.Proofs.Ytcaefabbcjlkdaa.P
open Go Go.RowKit Go.Deep Go.Proofs.YtcaefabbcjlkdaaW.PrintWords
set_option linter.unusedVariables false
def Reads (P : Program) (t : TypeId) {α : Type} (d : Kd α) (B : α → Prop) : Prop :=
 ∀ (H : Type) (enc : TypeId × Value → H) (w : World) (base : Nat) (spare : Nat → Bool) (held : Bool) (fuel : Nat) (cs : List Value) (x : DataW H × List MemPlace),DataW.trod enc P w base spare held fuel t cs = some x → ∃ v : α,d.K w v cs ∧ B v
theorem reads_int {P : Program} {t : TypeId} {k : IntKind} (h : P.underlying t = some (.int k)) : Reads P t (Kd.int k) (fun n => (Lit.int k n).wf = true):=by
 intro H enc w base spare held fuel cs x hx
 obtain ⟨n,hc,_,hw⟩:=DataW.trod_int h hx
 exact ⟨n,hc,hw⟩
theorem reads_bool {P : Program} {t : TypeId} (h : P.underlying t = some .bool) : Reads P t Kd.bool (fun _ => True):=by
 intro H enc w base spare held fuel cs x hx
 obtain ⟨n,hc,_⟩:=DataW.trod_bool h hx
 exact ⟨n,hc,trivial⟩
theorem reads_slice {P : Program} {t e : TypeId} {α : Type} {d : Kd α} {B : α → Prop} (h : P.underlying t = some (.slice e)) (hc : P.cellsOf e = d.sz) (hd : Reads P e d B) : Reads P t (Kd.slice e d) (fun xs => xs.length ≤ maxLen ∧ ∀ x ∈ xs,B x):=by
 intro H enc w base spare held fuel cs x hx
 rcases open_slice h hx with ⟨rfl,_⟩ | ⟨a,len,cap,m,n,D,Pl,rfl,_,hl,hm,hmm,_,hi⟩
 ·exact ⟨[],⟨none,0,rfl,Nat.le_refl _,rfl,by simp,fun h => absurd h (by simp)⟩,by simp [maxLen],fun x hx => by cases hx⟩
 ·have hlm : len ≤ m:=by rw [hmm];split <;> omega
  have key : ∀ i : Fin len, ∃ v : α,B v ∧ ∃ c,c.length = d.sz ∧ d.K w v c ∧ ∀ j u,c[j]? = some u → w.cell? (a.add (i.val * d.sz + j)) = some u:=by
   intro i
   obtain ⟨cs',h1,h2⟩:=hi i.val (by omega)
   obtain ⟨v,hk,hb⟩:=hd H enc w base spare held n cs' _ h2
   obtain ⟨_,hcl,hat⟩:=World.cells?_some h1
   refine ⟨v,hb,cs',d.K_len hk,hk,fun j u hj => ?_⟩
   have hjl : j < cs'.length:=(List.getElem?_eq_some_iff.1 hj).1
   have:=hat j (by omega)
   rw [← hc, ← Go.Deep.add_add,this,hj]
  have hv : ∃ f : Fin len → α, ∀ i,B (f i) ∧ ∃ c,c.length = d.sz ∧ d.K w (f i) c ∧ ∀ j u,c[j]? = some u → w.cell? (a.add (i.val * d.sz + j)) = some u:=⟨fun i => (key i).choose,fun i => (key i).choose_spec⟩
  obtain ⟨f,hf⟩:=hv
  have hml : len ≤ 9223372036854775807:=by simp only [maxLen] at hm;omega
  refine ⟨List.ofFn f,⟨some a,cap,by rw [List.length_ofFn],by rw [List.length_ofFn];exact hl,rfl,by rw [List.length_ofFn];exact hml,fun _ => ⟨a,rfl,fun j p hj => ?_⟩⟩,by rw [List.length_ofFn];omega,fun x hx => ?_⟩
  ·obtain ⟨hjl,rfl⟩:=List.getElem?_eq_some_iff.1 hj
   rw [List.length_ofFn] at hjl
   rw [List.getElem_ofFn]
   obtain ⟨_,c,h1,h2,h3⟩:=hf ⟨j,hjl⟩
   exact ⟨c,h1,h2,h3⟩
  ·obtain ⟨i,rfl⟩:=(List.mem_ofFn).1 hx
   exact (hf i).1
def ReadsFields (P : Program) (fs : List Field) (o : Nat) {α : Type} (d : Kd α) (B : α → Prop) : Prop :=
 ∀ (H : Type) (enc : TypeId × Value → H) (w : World) (base : Nat) (spare : Nat → Bool) (held : Bool) (fuel : Nat) (cs : List Value),cs.length = o + d.sz →
  (∀ f ∈ fs, ∃ x,DataW.trod enc P w base spare held fuel f.type ((cs.drop f.offset).take (P.cellsOf f.type)) = some x) → ∃ v : α,d.K w v (cs.drop o) ∧ B v
theorem rf_last {P : Program} {f : Field} {o : Nat} {α : Type} {d : Kd α} {B : α → Prop} (ho : f.offset = o) (hc : P.cellsOf f.type = d.sz) (hd : Reads P f.type d B) : ReadsFields P [f] o d B:=by
 intro H enc w base spare held fuel cs hl hf
 obtain ⟨x,hx⟩:=hf f (by simp)
 rw [ho,hc,List.take_of_length_le (by rw [List.length_drop];omega)] at hx
 exact hd H enc w base spare held fuel _ _ hx
theorem rf_cons {P : Program} {f : Field} {fs : List Field} {o : Nat} {α β : Type} {a : Kd α} {b : Kd β} {A : α → Prop} {B : β → Prop} (ho : f.offset = o) (hc : P.cellsOf f.type = a.sz) (ha : Reads P f.type a A) (hb : ReadsFields P fs (o + a.sz) b B) :
  ReadsFields P (f :: fs) o (Kd.pair a b) (fun x => A x.1 ∧ B x.2):=by
 intro H enc w base spare held fuel cs hl hf
 have hl' : cs.length = o + (a.sz + b.sz):=hl
 obtain ⟨x,hx⟩:=hf f List.mem_cons_self
 rw [ho,hc] at hx
 obtain ⟨v,hv,hA⟩:=ha H enc w base spare held fuel _ _ hx
 obtain ⟨u,hu,hB⟩:=hb H enc w base spare held fuel cs (by omega) (fun g hg => hf g (List.mem_cons_of_mem _ hg))
 refine ⟨(v,u),⟨(cs.drop o).take a.sz,cs.drop (o + a.sz), ?_,hv,hu⟩,hA,hB⟩
 rw [← List.drop_drop,List.take_append_drop]
theorem reads_struct {P : Program} {t : TypeId} {fs : Array Field} {α β : Type} {d : Kd α} {B : α → Prop} (f : β → α) (g : α → β) (hfg : ∀ x,f (g x) = x) (h : P.underlying t = some (.struct fs)) (hc : P.cellsOf t = d.sz) (hr : ReadsFields P fs.toList 0 d B) : Reads P t (Kd.iso d f) (fun x => B (f x)):=by
 intro H enc w base spare held fuel cs x hx
 obtain ⟨xs,n,_,_,hl,hxl,hg⟩:=DataW.trod_struct h hx
 obtain ⟨v,hv,hB⟩:=hr H enc w base spare held n cs (by rw [hl,hc];omega) (fun fd hfd => by
  obtain ⟨i,hi,rfl⟩:=List.getElem_of_mem hfd
  have hi' : i < fs.size:=by simpa using hi
  have:=hg i fs[i] (by rw [Array.getElem?_eq_getElem hi'])
  rw [List.getElem?_eq_getElem (show i < xs.length by omega)] at this
  rw [Array.getElem_toList]
  exact ⟨_,this⟩)
 refine ⟨g v, ?_,by show B (f (g v));rw [hfg];exact hB⟩
 show d.K w (f (g v)) cs
 rw [hfg]
 exact hv
end Go.Proofs.Ytcaefabbcjlkdaa.P
namespace Go.Proofs.Ytcaefabbcjlkdaa.P
open Go.RowKit Go.Proofs.YtcaefabbcjlkdaaW.PrintWords Go.Proofs.YtcaefabbcjlkdaaW.PrintLast Go.Proofs.YtcaefabbcjlkdaaW.PrintMore
set_option linter.unusedVariables false
set_option linter.unusedSimpArgs false
def b23 (x : S23) : Prop:=(Lit.int .i64 x.f0).wf = true ∧ (Lit.int .i64 x.f1).wf = true ∧ (Lit.int .i64 x.f2).wf = true ∧ (Lit.int .i64 x.f3).wf = true
theorem reads23 : Reads Try.prog 23 k23 b23:=reads_struct (fun x : S23 => (x.f0,x.f1,x.f2,x.f3)) (fun y => ⟨y.1,y.2.1,y.2.2.1,y.2.2.2⟩) (fun _ => rfl) Try.underlying23 (by kernel_rfl) (rf_cons rfl (by kernel_rfl) (reads_int Try.underlying3) (rf_cons rfl (by kernel_rfl) (reads_int Try.underlying3) (rf_cons rfl (by kernel_rfl) (reads_int Try.underlying3) (rf_last rfl (by kernel_rfl) (reads_int Try.underlying3)))))
def b91 (x : S91) : Prop:=True ∧ (Lit.int .u32 x.f1).wf = true ∧ (Lit.int .u32 x.f2).wf = true
theorem reads91 : Reads Try.prog 91 k91 b91:=reads_struct (fun x : S91 => (x.f0,x.f1,x.f2)) (fun y => ⟨y.1,y.2.1,y.2.2⟩) (fun _ => rfl) Try.underlying91 (by kernel_rfl) (rf_cons rfl (by kernel_rfl) (reads_bool Try.underlying4) (rf_cons rfl (by kernel_rfl) (reads_int Try.underlying43) (rf_last rfl (by kernel_rfl) (reads_int Try.underlying43))))
def laws_toConfig.f (a0_0 : Int) (a0_1 : Int) (a0_2 : Int) (a0_3 : Int) : Option (Int × Int × Int × Int):=some (a0_0,a0_1,a0_2,a0_3)
set_option maxHeartbeats 8000000 in
set_option maxRecDepth 100000 in
theorem laws_toConfig.calls (a0_0 : Int) (a0_1 : Int) (a0_2 : Int) (a0_3 : Int) (r1 : Int) (r2 : Int) (r3 : Int) (r4 : Int) (w : World) (h : laws_toConfig.f a0_0 a0_1 a0_2 a0_3 = some (r1,r2,r3,r4)) :
  Calls Try.prog 16 #[.agg #[.int .i64 a0_0, .int .i64 a0_1, .int .i64 a0_2, .int .i64 a0_3]] w fun e w' => e = .returned (.agg #[.int .i64 r1, .int .i64 r2, .int .i64 r3, .int .i64 r4]) ∧ Below w.heap.size w w':=by
 have hu23:=Try.underlying23
 have hu26:=Try.underlying26
 have HB:=Aside0.mk (Below.refl w.heap.size w)
 have H : (some (a0_0,a0_1,a0_2,a0_3)) = some (r1,r2,r3,r4):=h
 clear h
 simp only [Option.some.injEq,Prod.mk.injEq] at H
 obtain ⟨rfl,rfl,rfl,rfl⟩:=H
 go_enter Try.func16,Try.ntmps16
 go_wp2_with (first | ((with_reducible refine gate_dst (N:=1) rfl ?_);refine box_event ?hg (N:=1) ?hd (cs := #[.int .i64 a0_0, .int .i64 a0_1, .int .i64 a0_2, .int .i64 a0_3]) (t:=23) ?hr ?_;(case hd => rfl);(case hg => rfl);(case hr => first | (go_simp;done) | (go_simp;rfl));intro gb675 hg w2 hbox hb;have n0_:=Aside0.mk (below_step (by repeat (first | (with_reducible first | exact HB.out | apply below_alloc | apply pw_below_drewN | apply below_drew1) | exact HB.out)) hb);have n1_:=Aside0.mk (hbox);have n2_:=Aside0.mk ((by rw [hg];exact (below_size (by repeat (first | (with_reducible first | exact HB.out | apply below_alloc | apply pw_below_drewN | apply below_drew1) | exact HB.out))) : w.heap.size ≤ gb675));have n3_:=Aside0.mk ((by rw [hg];exact (below_size (by repeat (first | (with_reducible first | exact HB.out | apply below_alloc | apply pw_below_drewN | apply below_drew1) | exact HB.out))) : w.heap.size ≤ gb675));clear HB;have HB:=n0_;have BK675:=n1_;have GW675:=n2_;have GE675:=n3_;clear n0_ n1_ n2_ n3_;clear hb hbox hg) | ((with_reducible refine gate_dst (N:=2) rfl ?_);refine box_event ?hg (N:=2) ?hd (cs := #[.int .i64 0, .int .i64 0, .int .i64 0, .int .i64 0]) (t:=26) ?hr ?_;(case hd => rfl);(case hg => rfl);(case hr => first | (go_simp;done) | (go_simp;rfl));intro gb676 hg w3 hbox hb;have n0_:=Aside0.mk (blk_below (g:=gb675) (o := .cells #[.int .i64 a0_0, .int .i64 a0_1, .int .i64 a0_2, .int .i64 a0_3] 23 (0,0)) (by (with_reducible repeat (first | refine blk_drewN ?_ _ | refine blk_drew ?_ | refine blk_alloc ?_ _));exact BK675.out) hb);have n1_:=Aside0.mk (below_step (by repeat (first | (with_reducible first | exact HB.out | apply below_alloc | apply pw_below_drewN | apply below_drew1 | refine below_set ?_ GE675.out) | exact HB.out)) hb);have n2_:=Aside0.mk (hbox);have n3_:=Aside0.mk ((by rw [hg];exact (below_size (by repeat (first | (with_reducible first | exact HB.out | apply below_alloc | apply pw_below_drewN | apply below_drew1 | refine below_set ?_ GE675.out) | exact HB.out))) : w.heap.size ≤ gb676));have n4_:=Aside0.mk ((by rw [hg];exact (below_size (by repeat (first | (with_reducible first | exact HB.out | apply below_alloc | apply pw_below_drewN | apply below_drew1 | refine below_set ?_ GE675.out) | exact HB.out))) : w.heap.size ≤ gb676));have n5_:=Aside0.mk ((by rw [hg];exact Nat.ne_of_lt (blk_lt (g:=gb675) (o := .cells #[.int .i64 a0_0, .int .i64 a0_1, .int .i64 a0_2, .int .i64 a0_3] 23 (0,0)) (by (with_reducible repeat (first | refine blk_drewN ?_ _ | refine blk_drew ?_ | refine blk_alloc ?_ _));exact BK675.out)) : gb675 ≠ gb676));have n6_:=Aside0.mk ((by rw [hg];exact Nat.ne_of_gt (blk_lt (g:=gb675) (o := .cells #[.int .i64 a0_0, .int .i64 a0_1, .int .i64 a0_2, .int .i64 a0_3] 23 (0,0)) (by (with_reducible repeat (first | refine blk_drewN ?_ _ | refine blk_drew ?_ | refine blk_alloc ?_ _));exact BK675.out)) : gb676 ≠ gb675));clear BK675;clear HB;have BK675:=n0_;have HB:=n1_;have BK676:=n2_;have GW676:=n3_;have GE676:=n4_;have NB675_676:=n5_;have NB676_675:=n6_;clear n0_ n1_ n2_ n3_ n4_ n5_ n6_;clear hb hbox hg) | ((with_reducible refine gate_dst (N:=3) rfl ?_);refine box_event ?hg (N:=3) ?hd (cs := #[.int .i64 0, .int .i64 0, .int .i64 0, .int .i64 0]) (t:=26) ?hr ?_;(case hd => rfl);(case hg => rfl);(case hr => first | (go_simp;done) | (go_simp;rfl));intro gb677 hg w4 hbox hb;have n0_:=Aside0.mk (blk_below (g:=gb675) (o := .cells #[.int .i64 a0_0, .int .i64 a0_1, .int .i64 a0_2, .int .i64 a0_3] 23 (0,0)) (by (with_reducible repeat (first | refine blk_drewN ?_ _ | refine blk_drew ?_ | refine blk_alloc ?_ _));exact BK675.out) hb);have n1_:=Aside0.mk (blk_below (g:=gb676) (o := .cells #[.int .i64 0, .int .i64 0, .int .i64 0, .int .i64 0] 26 (0,0)) (by (with_reducible repeat (first | refine blk_drewN ?_ _ | refine blk_drew ?_ | refine blk_alloc ?_ _));exact BK676.out) hb);have n2_:=Aside0.mk (below_step (by repeat (first | (with_reducible first | exact HB.out | apply below_alloc | apply pw_below_drewN | apply below_drew1 | refine below_set ?_ GE675.out | refine below_set ?_ GE676.out) | exact HB.out)) hb);have n3_:=Aside0.mk (hbox);have n4_:=Aside0.mk ((by rw [hg];exact (below_size (by repeat (first | (with_reducible first | exact HB.out | apply below_alloc | apply pw_below_drewN | apply below_drew1 | refine below_set ?_ GE675.out | refine below_set ?_ GE676.out) | exact HB.out))) : w.heap.size ≤ gb677));have n5_:=Aside0.mk ((by rw [hg];exact (below_size (by repeat (first | (with_reducible first | exact HB.out | apply below_alloc | apply pw_below_drewN | apply below_drew1 | refine below_set ?_ GE675.out | refine below_set ?_ GE676.out) | exact HB.out))) : w.heap.size ≤ gb677));have n6_:=Aside0.mk ((by rw [hg];exact Nat.ne_of_lt (blk_lt (g:=gb675) (o := .cells #[.int .i64 a0_0, .int .i64 a0_1, .int .i64 a0_2, .int .i64 a0_3] 23 (0,0)) (by (with_reducible repeat (first | refine blk_drewN ?_ _ | refine blk_drew ?_ | refine blk_alloc ?_ _));exact BK675.out)) : gb675 ≠ gb677));have n7_:=Aside0.mk ((by rw [hg];exact Nat.ne_of_gt (blk_lt (g:=gb675) (o := .cells #[.int .i64 a0_0, .int .i64 a0_1, .int .i64 a0_2, .int .i64 a0_3] 23 (0,0)) (by (with_reducible repeat (first | refine blk_drewN ?_ _ | refine blk_drew ?_ | refine blk_alloc ?_ _));exact BK675.out)) : gb677 ≠ gb675));have n8_:=Aside0.mk ((by rw [hg];exact Nat.ne_of_lt (blk_lt (g:=gb676) (o := .cells #[.int .i64 0, .int .i64 0, .int .i64 0, .int .i64 0] 26 (0,0)) (by (with_reducible repeat (first | refine blk_drewN ?_ _ | refine blk_drew ?_ | refine blk_alloc ?_ _));exact BK676.out)) : gb676 ≠ gb677));have n9_:=Aside0.mk ((by rw [hg];exact Nat.ne_of_gt (blk_lt (g:=gb676) (o := .cells #[.int .i64 0, .int .i64 0, .int .i64 0, .int .i64 0] 26 (0,0)) (by (with_reducible repeat (first | refine blk_drewN ?_ _ | refine blk_drew ?_ | refine blk_alloc ?_ _));exact BK676.out)) : gb677 ≠ gb676));clear BK675;clear BK676;clear HB;have BK675:=n0_;have BK676:=n1_;have HB:=n2_;have BK677:=n3_;have GW677:=n4_;have GE677:=n5_;have NB675_677:=n6_;have NB677_675:=n7_;have NB676_677:=n8_;have NB677_676:=n9_;clear n0_ n1_ n2_ n3_ n4_ n5_ n6_ n7_ n8_ n9_;clear hb hbox hg;have hnb5:=NB675_676.out;have hnc5:=NB676_675.out;have hnb6:=NB675_677.out;have hnc6:=NB677_675.out;have hcz7_0 : w4.cell? ⟨gb675,0,none⟩ = some (.int .i64 a0_0):=(blk_cell BK675.out 0).trans rfl;have hcz7_1 : w4.cell? ⟨gb675,1,none⟩ = some (.int .i64 a0_1):=(blk_cell BK675.out 1).trans rfl;have hcz7_2 : w4.cell? ⟨gb675,2,none⟩ = some (.int .i64 a0_2):=(blk_cell BK675.out 2).trans rfl;have hcz7_3 : w4.cell? ⟨gb675,3,none⟩ = some (.int .i64 a0_3):=(blk_cell BK675.out 3).trans rfl;have hfz7_0:=blk_frozen BK675.out 0;have hfz7_1:=blk_frozen BK675.out 1;have hfz7_2:=blk_frozen BK675.out 2;have hfz7_3:=blk_frozen BK675.out 3;have hnb8:=NB677_676.out;have hnc8:=NB676_677.out;have hcz9_0 : w4.cell? ⟨gb677,0,none⟩ = some (.int .i64 0):=(blk_cell BK677.out 0).trans rfl;have hcz9_1 : w4.cell? ⟨gb677,1,none⟩ = some (.int .i64 0):=(blk_cell BK677.out 1).trans rfl;have hcz9_2 : w4.cell? ⟨gb677,2,none⟩ = some (.int .i64 0):=(blk_cell BK677.out 2).trans rfl;have hcz9_3 : w4.cell? ⟨gb677,3,none⟩ = some (.int .i64 0):=(blk_cell BK677.out 3).trans rfl;have hfz9_0:=blk_frozen BK677.out 0;have hfz9_1:=blk_frozen BK677.out 1;have hfz9_2:=blk_frozen BK677.out 2;have hfz9_3:=blk_frozen BK677.out 3;have hcz10_0 : w4.cell? ⟨gb676,0,none⟩ = some (.int .i64 0):=(blk_cell BK676.out 0).trans rfl;have hcz10_1 : w4.cell? ⟨gb676,1,none⟩ = some (.int .i64 0):=(blk_cell BK676.out 1).trans rfl;have hcz10_2 : w4.cell? ⟨gb676,2,none⟩ = some (.int .i64 0):=(blk_cell BK676.out 2).trans rfl;have hcz10_3 : w4.cell? ⟨gb676,3,none⟩ = some (.int .i64 0):=(blk_cell BK676.out 3).trans rfl;have hfz10_0:=blk_frozen BK676.out 0;have hfz10_1:=blk_frozen BK676.out 1;have hfz10_2:=blk_frozen BK676.out 2;have hfz10_3:=blk_frozen BK676.out 3))
 refine bodyPost_ret (results_cell_row rfl _ _ gb676 26 #[.int .i64 a0_0, .int .i64 a0_1, .int .i64 a0_2, .int .i64 a0_3] (0,0) _ rfl (by (with_reducible repeat (first | refine blk_drewN ?_ _ | refine blk_drew ?_ | refine blk_alloc ?_ _));refine blk_put (cs := #[.int .i64 a0_0, .int .i64 a0_1, .int .i64 a0_2, .int .i64 0]) ?_ 3 _ rfl;(with_reducible repeat (first | refine blk_drewN ?_ _ | refine blk_drew ?_ | refine blk_alloc ?_ _));refine blk_put (cs := #[.int .i64 a0_0, .int .i64 a0_1, .int .i64 0, .int .i64 0]) ?_ 2 _ rfl;(with_reducible repeat (first | refine blk_drewN ?_ _ | refine blk_drew ?_ | refine blk_alloc ?_ _));refine blk_put (cs := #[.int .i64 a0_0, .int .i64 0, .int .i64 0, .int .i64 0]) ?_ 1 _ rfl;(with_reducible repeat (first | refine blk_drewN ?_ _ | refine blk_drew ?_ | refine blk_alloc ?_ _));refine blk_put (cs := #[.int .i64 0, .int .i64 0, .int .i64 0, .int .i64 0]) ?_ 0 _ rfl;(with_reducible repeat (first | refine blk_drewN ?_ _ | refine blk_drew ?_ | refine blk_alloc ?_ _));refine blk_far ?_ NB676_677.out _;(with_reducible repeat (first | refine blk_drewN ?_ _ | refine blk_drew ?_ | refine blk_alloc ?_ _));refine blk_far ?_ NB676_677.out _;(with_reducible repeat (first | refine blk_drewN ?_ _ | refine blk_drew ?_ | refine blk_alloc ?_ _));refine blk_far ?_ NB676_677.out _;(with_reducible repeat (first | refine blk_drewN ?_ _ | refine blk_drew ?_ | refine blk_alloc ?_ _));refine blk_far ?_ NB676_677.out _;(with_reducible repeat (first | refine blk_drewN ?_ _ | refine blk_drew ?_ | refine blk_alloc ?_ _));exact BK676.out) Try.underlying26 rfl (by kernel_rfl)) rfl ?_
 exact ⟨by first | rfl | (simp [errW_none,errW_some] <;> rfl) | (simp [*,errW_none,errW_some] <;> rfl),by repeat (first | (with_reducible first | exact HB.out | apply below_alloc | apply pw_below_drewN | apply below_drew1 | refine below_set ?_ GE675.out | refine below_set ?_ GE676.out | refine below_set ?_ GE677.out) | exact HB.out)⟩
end Go.Proofs.Ytcaefabbcjlkdaa.P
namespace Go.Proofs.Ytcaefabbcjlkdaa.Pure
open Go Go.RowKit Go.Proofs.Ytcaefabbcjlkdaa.P Go.Proofs.YtcaefabbcjlkdaaW.PrintWords Go.Proofs.YtcaefabbcjlkdaaW.PrintLast Go.Proofs.YtcaefabbcjlkdaaW.PrintMore
set_option linter.unusedVariables false
set_option linter.unusedSimpArgs false
theorem heldHost_v (h : HV) (q : Int) (hm : HMarks q h) (w : World) (C : List Value) (hC : HRead w (markHV q h) C) :
  Calls Try.prog 23 #[.agg ⟨C⟩, .int .i64 q] w fun e w' => e = .returned (.int .i64 (cnt4 h q)) ∧ Below w.heap.size w w':=by
 obtain ⟨A1,c1,A2,c2,A3,c3,A4,c4,rfl,r1,l1,r2,l2,r3,l3,r4,l4⟩:=hC
 obtain ⟨k,hk⟩:=(heldHost_ev h q hm).rounds
 exact laws_heldHost.calls k _ _ _ _ _ _ _ _ _ _ _ _ _ _ _ _ _ _ q _ w r1 l1 r2 l2 r3 l3 r4 l4 hk
theorem specNewHost_v (a b c d : Int) (fs : List S89) (o1 o2 : Bool) (hl : fs.length ≤ 10000000) (h1 : impl_goodConfig.f a b c d = some o1) (h2 : Ev (fun k => spec_l3okFilters.f k fs) o2) (w : World) (A : Option Addr) (cp : Nat) (hr : (k89).C w A fs.length fs) (hc : fs.length ≤ cp) :
  Calls Try.prog 15 #[.agg #[.int .i64 a, .int .i64 b, .int .i64 c, .int .i64 d], .slice A fs.length cp] w fun e w' => ∃ C,e = .returned (.tuple #[.agg ⟨C⟩, .int .i64 (nhCode o1 o2)]) ∧ HRead w' (nhV o1 o2 a b c d fs) C ∧ Below w.heap.size w w':=by
 obtain ⟨k,hk⟩:=(specNewHost_ev a b c d fs o1 o2 hl h1 h2).rounds
 refine (spec_NewHost.calls k a b c d A cp fs _ _ _ _ _ _ _ _ _ _ _ w hr hc hk).mono ?_
 rintro e w' ⟨v4,v5,v6,v7,rfl,g4,g5,g6,g7,hb⟩
 obtain ⟨A1,c1,rfl,l1,r1⟩:=Kd.R_reads g4
 obtain ⟨A2,c2,rfl,l2,r2⟩:=Kd.S_reads g5
 obtain ⟨A3,c3,rfl,l3,r3⟩:=Kd.S_reads g6
 obtain ⟨A4,c4,rfl,l4,r4⟩:=Kd.S_reads g7
 exact ⟨_,rfl,⟨A1,c1,A2,c2,A3,c3,A4,c4,rfl,r1,l1,r2,l2,r3,l3,r4,l4⟩,hb⟩
theorem toFilterS_v (l : List S91) (y : List S89) (hy : y = l.map cFilter) (hl : l.length ≤ 10000000) (w : World) (A : Option Addr) (c : Nat) (hr : (k91).C w A l.length l) (hc : l.length ≤ c) :
  Calls Try.prog 17 #[.slice A l.length c] w fun e w' => ∃ A' c',e = .returned (.slice A' y.length c') ∧ (k89).R 89 w' w.heap.size (fun _ => True) (.slice A' y.length c') y ∧ Below w.heap.size w w':=by
 subst hy
 obtain ⟨k,hk⟩:=(toFilterS_ev l hl).rounds
 refine (laws_toFilterS.calls k A c l _ w hr hc hk).mono ?_
 rintro e w' ⟨v,rfl,h,hb⟩
 obtain ⟨A',c',rfl⟩:=Kd.R_slice h
 exact ⟨A',c',rfl,h,hb⟩
theorem nhV_small {o1 o2 : Bool} {a b c d : Int} {fs : List S89} {k : Nat} (h1 : impl_goodConfig.f a b c d = some o1) (h2 : impl_goodFilters.f k fs = some o2) : HSm (nhV o1 o2 a b c d fs) ∧ HMarks 1 (nhV o1 o2 a b c d fs):=by
 have z : HSm hv0 ∧ HMarks 1 hv0:=⟨⟨by decide,by decide,by decide,by decide,by simp [hv0],by simp [hv0],by simp [hv0]⟩,⟨by decide,by decide,by decide,by decide,by decide,by simp [hv0],by simp [hv0],by simp [hv0]⟩⟩
 cases o1 with
 | false => exact z
 | true =>
  cases o2 with
  | false => exact z
  | true =>
   have hc:=goodConfig_is h1
   have hf:=goodFilters_is h2
   have hlen : (List.replicate a.toNat z87).length ≤ 8:=by rw [List.length_replicate];omega
   have hoff : ∀ n,offBox (List.replicate a.toNat z87) n ≤ 7 * (n : Int):=by
    intro n
    induction n with
    | zero => exact Int.le_refl _
    | succ n ih =>
     rw [offBox]
     have e : ((List.replicate a.toNat z87).getD n z87).f3.f4.length = 0:=by
      have : (List.replicate a.toNat z87).getD n z87 = z87:=by
       rw [List.getD_eq_getElem?_getD,List.getElem?_replicate]
       split <;> rfl
      rw [this];rfl
     omega
   have hd : ∀ y ∈ List.replicate a.toNat z87,y.f3.f4.length ≤ 10000000:=fun y hy => by rw [(List.mem_replicate.1 hy).2];decide
   refine ⟨⟨by show fs.length ≤ _;omega,by show (List.replicate a.toNat z87).length ≤ _;omega,by simp [nhV],by simp [nhV],hd,by simp [nhV],by simp [nhV]⟩,⟨by decide, ?_,by show (List.replicate a.toNat z87).length ≤ _;omega,by simp [nhV],by simp [nhV],hd,by simp [nhV],by simp [nhV]⟩⟩
   show 1 + 3 * (fs.length : Int) + offBox (List.replicate a.toNat z87) (List.replicate a.toNat z87).length + 0 + 0 ≤ 50000000
   have:=hoff (List.replicate a.toNat z87).length
   omega
theorem HRead.one {w : World} {h : HV} {C : List Value} (H : HRead w h C) : ∀ u ∈ C,u.oneCell' = true:=by
 obtain ⟨Af,cf,Ab,cb,Aq,cq,Ae,ce,rfl,_⟩:=H
 intro u hu
 simp only [hostC,List.mem_cons,List.not_mem_nil,or_false] at hu
 rcases hu with rfl | rfl | rfl | rfl | rfl | rfl | rfl | rfl | rfl | rfl <;> rfl
set_option maxRecDepth 100000 in
set_option maxHeartbeats 8000000 in
theorem FnExactNewHost_walk (x0 : S23) (hB0 : b23 x0) (x1 : List S91) (hB1 : x1.length ≤ maxLen ∧ ∀ y_ ∈ x1,b91 y_) (w : World) (C0 : List Value) (hK0 : k23.K w x0 C0) (A1 : Option Addr) (c1 : Nat) (g1 : (k91).C w A1 x1.length x1) (l1 : x1.length ≤ c1) :
  Calls Try.prog 3 #[.agg ⟨C0⟩, .slice A1 x1.length c1] w fun e w' => e = .returned (.bool true) ∧ Below w.heap.size w w':=by
 obtain rfl:=k23_open hK0
 have hu23:=Lib.hid Try.underlying23
 have hu32:=Lib.hid Try.underlying32
 have GC:=Lib.hid g1
 have LC:=Lib.hid l1
 have HM:=Lib.hid hB1.1
 clear g1 l1 hB1 hK0 hB0
 by_cases c : (1048576 : Int) < (x1.length : Int)
 ·have hsz:=szFilterS_eq x1 1048576 HM.out (by omega) (by omega)
  rw [if_pos c] at hsz
  have HSZ:=Lib.hid hsz
  clear hsz c
  go_enter Try.func3,Try.ntmps3
  go_wp2_with (first | ((with_reducible refine gate_dst (N:=2) rfl ?_);refine box_event ?hg (N:=2) ?hd (cs := #[.int .i64 x0.f0, .int .i64 x0.f1, .int .i64 x0.f2, .int .i64 x0.f3]) (t:=23) ?hr ?_;(case hd => rfl);(case hg => rfl);(case hr => first | (go_simp;done) | (go_simp;rfl));intro g2 hg w1 hbox hb;have HB_1:=Lib.hid hb;clear hg hbox hb) | (go_at_call 14;refine (laws_szFilterS.calls A1 c1 x1 1048576 (-1) w1 (Kd.C_below GC.out HB_1.out) LC.out HSZ.out).mono ?_;rintro e w2 ⟨rfl,hd⟩;have HB_2:=Lib.hid (below_then HB_1.out HB_1.out.size hd.below);clear hd))
  go_ret
  exact ⟨rfl,HB_2.out⟩
 ·have hsz:=szFilterS_eq x1 1048576 HM.out (by omega) (by omega)
  rw [if_neg c] at hsz
  obtain ⟨r,hr⟩ : ∃ r : Int,r = 1048576 - (x1.length : Int):=⟨_,rfl⟩
  rw [← hr] at hsz
  have c1' : decide (r < 0) = false:=decide_eq_false (by omega)
  have HSZ:=Lib.hid hsz
  have HL : Hid (x1.length ≤ 10000000):=Lib.hid (by omega)
  obtain ⟨y1,hy1⟩ : ∃ y1,y1 = x1.map cFilter:=⟨_,rfl⟩
  have HY:=Lib.hid hy1
  have HLM : Hid (y1.length ≤ 10000000):=Lib.hid (by rw [hy1,List.length_map];omega)
  clear hsz c hr hy1
  obtain ⟨o1,ho1,_⟩:=config_ev x0.f0 x0.f1 x0.f2 x0.f3
  obtain ⟨o2,hf1,hf2⟩:=filters_ev y1 HLM.out
  obtain ⟨kf,hkf⟩:=hf1.rounds
  have O1:=Lib.hid ho1
  have OK:=Lib.hid hkf
  have OS:=Lib.hid hf2
  have SM:=Lib.hid (nhV_small ho1 hkf)
  obtain ⟨cd,hcd⟩ : ∃ cd,cd = nhCode o1 o2:=⟨_,rfl⟩
  have HCD:=Lib.hid hcd
  clear ho1 hf1 hf2 hkf hcd
  have hbne : (cd != cd) = false:=bne_self_eq_false _
  go_enter Try.func3,Try.ntmps3
  go_upto_region 5 with (first | ((with_reducible refine gate_dst (N:=2) rfl ?_);refine box_event ?hg (N:=2) ?hd (cs := #[.int .i64 x0.f0, .int .i64 x0.f1, .int .i64 x0.f2, .int .i64 x0.f3]) (t:=23) ?hr ?_;(case hd => rfl);(case hg => rfl);(case hr => first | (go_simp;done) | (go_simp;rfl));intro g2 hg w1 hbox hb;have HB_1:=Lib.hid hb;have G2_1:=Lib.hid hbox;clear hg hbox hb) | (go_at_call 14;refine (laws_szFilterS.calls A1 c1 x1 1048576 r w1 (Kd.C_below GC.out HB_1.out) LC.out HSZ.out).mono ?_;rintro e w2 ⟨rfl,hd⟩;have hb:=hd.below;have HB_2:=Lib.hid (below_then HB_1.out HB_1.out.size hb);have G2_2:=Lib.hid (blk_below G2_1.out hb);clear hd hb))
  go_upto_region 6 with (first | ((with_reducible refine gate_dst (N:=22) rfl ?_);refine load_all rfl rfl (g:=g2) rfl G2_2.out hu23.out (by kernel_rfl) ?_) | (go_at_call 16;refine (laws_toConfig.calls x0.f0 x0.f1 x0.f2 x0.f3 _ _ _ _ w2 rfl).mono ?_;rintro e w3 ⟨rfl,hb⟩;have HB_3:=Lib.hid (below_then HB_2.out HB_2.out.size hb);have G2_3:=Lib.hid (blk_below G2_2.out hb);clear hb) | (go_at_call 17;refine (toFilterS_v x1 y1 HY.out HL.out w3 A1 c1 (Kd.C_below GC.out HB_3.out) LC.out).mono ?_;rintro e w4 ⟨A4,c4,rfl,hr,hb⟩;have HR_4:=Lib.hid hr;have HB_4:=Lib.hid (below_then HB_3.out HB_3.out.size hb);have G2_4:=Lib.hid (blk_below G2_3.out hb);clear hr hb) | (go_at_call 15;refine (specNewHost_v x0.f0 x0.f1 x0.f2 x0.f3 y1 o1 o2 HLM.out O1.out OS.out w4 A4 c4 (Kd.R_reads' HR_4.out).2.2 (Kd.R_reads' HR_4.out).2.1).mono ?_;rintro e w5 ⟨Cw,rfl,hw,hb⟩;have HW_5:=Lib.hid hw;rw [← HCD.out];have HB_5:=Lib.hid (below_then HB_4.out HB_4.out.size hb);have G2_5:=Lib.hid (blk_below G2_4.out hb);clear hw hb) | ((with_reducible refine gate_dst (N:=6) rfl ?_);refine box_event ?hg (N:=6) ?hd (cs := #[.int .i64 0, .int .i64 0, .int .i64 0, .int .i64 0, .slice none 0 0, .slice none 0 0, .slice none 0 0, .slice none 0 0, .int .i64 0, .int .i64 0]) (t:=32) ?hr ?_;(case hd => rfl);(case hg => rfl);(case hr => first | (go_simp;done) | (go_simp;rfl));intro g6 hg w6 hbox hb;have Z_6:=Lib.hid hbox;have HEg6:=Lib.hid hg;have HB_6:=Lib.hid (below_then HB_5.out HB_5.out.size hb);have G2_6:=Lib.hid (blk_below G2_5.out hb);have HW_6:=Lib.hid (HW_5.out.below hb);have HNg6 : Hid (∀ k o,w5.heap[k]? = some o → k ≠ g6):=Lib.hid (fun k o h e => by have h1:=blk_lt h;omega);have HW56:=Lib.hid hb;clear hg hbox hb) | ((with_reducible refine gate_store (t:=32) (p:=6) rfl ?_);refine store_all rfl rfl rfl (g:=g6) (C:=Cw) rfl rfl Z_6.out (by rw [HW_6.out.len];kernel_rfl) (HRead.one HW_6.out) HW_6.out.len.symm ?_;intro w7 hx hT;have G6_7:=Lib.hid hx;have HB_7:=Lib.hid (hT.below HB_6.out HB_6.out.size (fun k hk => by rw [hk,HEg6.out];exact HB_5.out.size));have G2_7:=Lib.hid (hT.blk G2_6.out (fun e => HNg6.out _ _ G2_5.out e));have HWT : Hid (HRead w7 (nhV o1 o2 x0.f0 x0.f1 x0.f2 x0.f3 y1) Cw):=Lib.hid (HW_5.out.below (hT.below HW56.out HW56.out.size (fun k hk => by rw [hk,HEg6.out];exact Nat.le_refl _)));clear hx hT))
  have HT_7 : Hid (Below w7.heap.size w7 w7):=Lib.hid (Below.refl _ _)
  go_upto_region 7 with (first | (go_at_call 17;refine (toFilterS_v x1 y1 HY.out HL.out w7 A1 c1 (Kd.C_below GC.out HB_7.out) LC.out).mono ?_;rintro e w8 ⟨A8,c8,rfl,hr,hb⟩;have X_8:=Lib.hid (Kd.R_tight rfl hr);have XB:=Lib.hid (Kd.R_base hr);have HB_8:=Lib.hid (below_then HB_7.out HB_7.out.size hb);have G2_8:=Lib.hid (blk_below G2_7.out hb);have G6_8:=Lib.hid (blk_below G6_7.out hb);have HT_8:=Lib.hid (below_then HT_7.out HT_7.out.size hb);clear hr hb))
  go_upto_region 8 with (first | ((with_reducible refine gate_dst (N:=32) rfl ?_);refine load_all rfl rfl (g:=g2) rfl G2_8.out hu23.out (by kernel_rfl) ?_) | (go_at_call 16;refine (laws_toConfig.calls x0.f0 x0.f1 x0.f2 x0.f3 _ _ _ _ w8 rfl).mono ?_;rintro e w9 ⟨rfl,hb⟩;have HB_9:=Lib.hid (below_then HB_8.out HB_8.out.size hb);have G2_9:=Lib.hid (blk_below G2_8.out hb);have G6_9:=Lib.hid (blk_below G6_8.out hb);have HT_9:=Lib.hid (below_then HT_8.out HT_8.out.size hb);have X_9:=Lib.hid (Kd.R_below X_8.out hb);clear hb) | (go_at_call 18;refine (newHost_v w9 x0.f0 x0.f1 x0.f2 x0.f3 y1 A8 c8 o1 o2 kf (Kd.R_reads' X_9.out).2.2 (Kd.R_reads' X_9.out).2.1 O1.out OK.out).mono ?_;rintro e w10 ⟨Cg,rfl,ho,hb⟩;have HO_10:=Lib.hid ho.bound;rw [← HCD.out];have HB_10:=Lib.hid (below_then HB_9.out HB_9.out.size hb);have G2_10:=Lib.hid (blk_below G2_9.out hb);have G6_10:=Lib.hid (blk_below G6_9.out hb);have HT_10:=Lib.hid (below_then HT_9.out HT_9.out.size hb);have X_10:=Lib.hid (Kd.R_below X_9.out hb);clear ho hb) | ((with_reducible refine gate_dst (N:=9) rfl ?_);refine box_event ?hg (N:=9) ?hd (cs := #[.int .i64 0, .int .i64 0, .int .i64 0, .int .i64 0, .slice none 0 0, .slice none 0 0, .slice none 0 0, .slice none 0 0, .int .i64 0, .int .i64 0]) (t:=32) ?hr ?_;(case hd => rfl);(case hg => rfl);(case hr => first | (go_simp;done) | (go_simp;rfl));intro g9 hg w11 hbox hb;have Z_11:=Lib.hid hbox;have HEg9:=Lib.hid hg;have HB_11:=Lib.hid (below_then HB_10.out HB_10.out.size hb);have G2_11:=Lib.hid (blk_below G2_10.out hb);have G6_11:=Lib.hid (blk_below G6_10.out hb);have HT_11:=Lib.hid (below_then HT_10.out HT_10.out.size hb);have X_11:=Lib.hid (Kd.R_below X_10.out hb);have HO_11:=Lib.hid (HO_10.out.below hb);have HNg9 : Hid (∀ k o,w10.heap[k]? = some o → k ≠ g9):=Lib.hid (fun k o h e => by have h1:=blk_lt h;omega);have HW1011:=Lib.hid hb;clear hg hbox hb) | ((with_reducible refine gate_store (t:=32) (p:=9) rfl ?_);refine store_all rfl rfl rfl (g:=g9) (C:=Cg) rfl rfl Z_11.out (by rw [HO_11.out.read.len];kernel_rfl) (HRead.one HO_11.out.read) HO_11.out.read.len.symm ?_;intro w12 hx hT;have G9_12:=Lib.hid hx;have HB_12:=Lib.hid (hT.below HB_11.out HB_11.out.size (fun k hk => by rw [hk,HEg9.out];exact HB_10.out.size));have HT_12:=Lib.hid (hT.below HT_11.out HT_11.out.size (fun k hk => by rw [hk,HEg9.out];exact HT_10.out.size));have G2_12:=Lib.hid (hT.blk G2_11.out (fun e => HNg9.out _ _ G2_10.out e));have G6_12:=Lib.hid (hT.blk G6_11.out (fun e => HNg9.out _ _ G6_10.out e));have X_12:=Lib.hid (R_tch X_11.out Z_11.out (by decide) hT);have HO_12:=Lib.hid (HO_11.out.tch hT (fun k hk e => by have h1:=hk.2.2.1;have h2:=HEg9.out;omega));clear hx hT))
  go_upto_region 10 with (first | ((with_reducible refine gate_dst (N:=38) rfl ?_);refine load_all rfl rfl (g:=g9) rfl G9_12.out hu32.out (by rw [HO_12.out.read.len];kernel_rfl) ?_) | ((with_reducible refine gate_dst (N:=39) rfl ?_);refine load_all rfl rfl (g:=g6) rfl G6_12.out hu32.out (by rw [HWT.out.len];kernel_rfl) ?_) | (go_at_call 19;refine (eqHost_v (nhV o1 o2 x0.f0 x0.f1 x0.f2 x0.f3 y1) SM.out.1 w12 Cg Cw HO_12.out.read (HWT.out.below HT_12.out)).mono ?_;rintro e w13 ⟨rfl,hb⟩;have HB_13:=Lib.hid (below_then HB_12.out HB_12.out.size hb);have G2_13:=Lib.hid (blk_below G2_12.out hb);have G6_13:=Lib.hid (blk_below G6_12.out hb);have HT_13:=Lib.hid (below_then HT_12.out HT_12.out.size hb);have X_13:=Lib.hid (Kd.R_below X_12.out hb);have HO_13:=Lib.hid (HO_12.out.below hb);have G9_13:=Lib.hid (blk_below G9_12.out hb);clear hb))
  go_upto_region 13 with (first | (go_at_call 17;refine (toFilterS_v x1 y1 HY.out HL.out w13 A1 c1 (Kd.C_below GC.out HB_13.out) LC.out).mono ?_;rintro e w14 ⟨A14,c14,rfl,hr,hb⟩;have HR_14:=Lib.hid hr;have HB_14:=Lib.hid (below_then HB_13.out HB_13.out.size hb);have G2_14:=Lib.hid (blk_below G2_13.out hb);have G6_14:=Lib.hid (blk_below G6_13.out hb);have HT_14:=Lib.hid (below_then HT_13.out HT_13.out.size hb);have X_14:=Lib.hid (Kd.R_below X_13.out hb);have HO_14:=Lib.hid (HO_13.out.below hb);have G9_14:=Lib.hid (blk_below G9_13.out hb);clear hr hb) | (go_at_call 20;obtain ⟨ke,hke⟩:=(eqFilterS_ev y1 HLM.out).rounds;refine (laws_eqFilterS.calls ke A8 c8 y1 A14 c14 y1 true w14 (Kd.R_reads' X_14.out).2.2 (Kd.R_reads' X_14.out).2.1 (Kd.R_reads' HR_14.out).2.2 (Kd.R_reads' HR_14.out).2.1 hke).mono ?_;clear hke;rintro e w15 ⟨rfl,hb⟩;have HB_15:=Lib.hid (below_then HB_14.out HB_14.out.size hb);have G2_15:=Lib.hid (blk_below G2_14.out hb);have G6_15:=Lib.hid (blk_below G6_14.out hb);have HT_15:=Lib.hid (below_then HT_14.out HT_14.out.size hb);have X_15:=Lib.hid (Kd.R_below X_14.out hb);have HO_15:=Lib.hid (HO_14.out.below hb);have G9_15:=Lib.hid (blk_below G9_14.out hb);clear hb))
  go_upto_region 14 with (first | (go_at_call 21;refine (markFilterS_v w7 w15 _ _ y1 1 HT_15.out (Kd.R_lower X_15.out (Nat.le_refl _)) (by omega) (by have:=HLM.out;omega)).mono ?_;rintro e w16 ⟨rfl,hr,hb2,hT⟩;have HT_16:=Lib.hid hb2;have HB_16:=Lib.hid (hT.below HB_15.out HB_15.out.size (fun k hk => Nat.le_trans HB_7.out.size (XB.out k hk.symm)));have G2_16:=Lib.hid (hT.blk G2_15.out (Kd.R_ne X_15.out G2_15.out (by decide)));have G6_16:=Lib.hid (hT.blk G6_15.out (Kd.R_ne X_15.out G6_15.out (by decide)));have G9_16:=Lib.hid (hT.blk G9_15.out (Kd.R_ne X_15.out G9_15.out (by decide)));have HO_16:=Lib.hid (HO_15.out.tch hT (fun k hk e => by have h1:=hk.2.1;have h2:=Kd.R_lt X_9.out k e.symm;omega));clear hr hb2 hT))
  have c16 : decide (1 + 3 * (y1.length : Int) < 0) = false:=decide_eq_false (by omega)
  go_upto_region 17 with (first | ((with_reducible refine gate_dst (N:=58) rfl ?_);refine gate_guard (by rfl) ?_;refine load_all rfl rfl (g:=g9) rfl G9_16.out hu32.out (by rw [HO_16.out.read.len];kernel_rfl) ?_) | ((with_reducible refine gate_dst (N:=59) rfl ?_);refine gate_guard (by rfl) ?_;refine load_all rfl rfl (g:=g6) rfl G6_16.out hu32.out (by rw [HWT.out.len];kernel_rfl) ?_) | (go_at_call 19;refine (eqHost_v (nhV o1 o2 x0.f0 x0.f1 x0.f2 x0.f3 y1) SM.out.1 w16 Cg Cw HO_16.out.read (HWT.out.below HT_16.out)).mono ?_;rintro e w17 ⟨rfl,hb⟩;have HB_17:=Lib.hid (below_then HB_16.out HB_16.out.size hb);have G2_17:=Lib.hid (blk_below G2_16.out hb);have G6_17:=Lib.hid (blk_below G6_16.out hb);have HT_17:=Lib.hid (below_then HT_16.out HT_16.out.size hb);have HO_17:=Lib.hid (HO_16.out.below hb);have G9_17:=Lib.hid (blk_below G9_16.out hb);clear hb))
  go_upto_region 18 with (first | ((with_reducible refine gate_dst (N:=68) rfl ?_);refine load_all rfl rfl (g:=g9) rfl G9_17.out hu32.out (by rw [HO_17.out.read.len];kernel_rfl) ?_) | (go_at_call 22;refine (markHost_v w7 w17 _ (nhV o1 o2 x0.f0 x0.f1 x0.f2 x0.f3 y1) Cg 1 HT_17.out (HO_17.out.lower HT_9.out.size) SM.out.2).mono ?_;rintro e w18 ⟨rfl,ho,hb2,hT⟩;have HO_18:=Lib.hid ho;have HT_18:=Lib.hid hb2;have HB_18:=Lib.hid (hT.below HB_17.out HB_17.out.size (fun k hk => Nat.le_trans HB_7.out.size hk.2.1));have G2_18:=Lib.hid (hT.blk G2_17.out (fun e => e.2.ne G2_17.out (by decide) rfl));have G6_18:=Lib.hid (hT.blk G6_17.out (fun e => e.2.ne G6_17.out (by decide) rfl));have G9_18:=Lib.hid (hT.blk G9_17.out (fun e => e.2.ne G9_17.out (by decide) rfl));clear ho hb2 hT))
  go_upto_region 20 with (first | ((with_reducible refine gate_dst (N:=71) rfl ?_);refine load_all rfl rfl (g:=g9) rfl G9_18.out hu32.out (by rw [HO_18.out.read.len];kernel_rfl) ?_) | (go_at_call 23;refine (heldHost_v (nhV o1 o2 x0.f0 x0.f1 x0.f2 x0.f3 y1) 1 SM.out.2 w18 Cg HO_18.out.read).mono ?_;rintro e w19 ⟨rfl,hb⟩;have HB_19:=Lib.hid (below_then HB_18.out HB_18.out.size hb);have G2_19:=Lib.hid (blk_below G2_18.out hb);have G6_19:=Lib.hid (blk_below G6_18.out hb);have HT_19:=Lib.hid (below_then HT_18.out HT_18.out.size hb);have HO_19:=Lib.hid (HO_18.out.below hb);have G9_19:=Lib.hid (blk_below G9_18.out hb);clear hb))
  obtain ⟨cq,hcq⟩ : ∃ cq,cq = cnt4 (nhV o1 o2 x0.f0 x0.f1 x0.f2 x0.f3 y1) 1:=⟨_,rfl⟩
  rw [← hcq]
  have c20 : decide (cq < 0) = false:=decide_eq_false (by rw [hcq];have h1:=SM.out.2.steps;have h2:=offEvent_nn (nhV o1 o2 x0.f0 x0.f1 x0.f2 x0.f3 y1).ev (nhV o1 o2 x0.f0 x0.f1 x0.f2 x0.f3 y1).ev.length;unfold cnt4;omega)
  have c22 : (cq != cq) = false:=bne_self_eq_false _
  clear hcq
  go_upto_region 24 with (fail)
  go_upto_region 25 with (first | ((with_reducible refine gate_dst (N:=80) rfl ?_);refine load_all rfl rfl (g:=g2) rfl G2_19.out hu23.out (by kernel_rfl) ?_) | (go_at_call 16;refine (laws_toConfig.calls x0.f0 x0.f1 x0.f2 x0.f3 _ _ _ _ w19 rfl).mono ?_;rintro e w20 ⟨rfl,hb⟩;have HB_20:=Lib.hid (below_then HB_19.out HB_19.out.size hb);have G2_20:=Lib.hid (blk_below G2_19.out hb);have G6_20:=Lib.hid (blk_below G6_19.out hb);have HT_20:=Lib.hid (below_then HT_19.out HT_19.out.size hb);have HO_20:=Lib.hid (HO_19.out.below hb);have G9_20:=Lib.hid (blk_below G9_19.out hb);clear hb) | (go_at_call 17;refine (toFilterS_v x1 y1 HY.out HL.out w20 A1 c1 (Kd.C_below GC.out HB_20.out) LC.out).mono ?_;rintro e w21 ⟨A21,c21,rfl,hr,hb⟩;have HR_21:=Lib.hid hr;have HB_21:=Lib.hid (below_then HB_20.out HB_20.out.size hb);have G2_21:=Lib.hid (blk_below G2_20.out hb);have G6_21:=Lib.hid (blk_below G6_20.out hb);have HT_21:=Lib.hid (below_then HT_20.out HT_20.out.size hb);have HO_21:=Lib.hid (HO_20.out.below hb);have G9_21:=Lib.hid (blk_below G9_20.out hb);clear hr hb) | (go_at_call 18;refine (newHost_v w21 x0.f0 x0.f1 x0.f2 x0.f3 y1 A21 c21 o1 o2 kf (Kd.R_reads' HR_21.out).2.2 (Kd.R_reads' HR_21.out).2.1 O1.out OK.out).mono ?_;rintro e w22 ⟨Ch,rfl,ho,hb⟩;have HP_22:=Lib.hid ho.bound;rw [← HCD.out];have HB_22:=Lib.hid (below_then HB_21.out HB_21.out.size hb);have G2_22:=Lib.hid (blk_below G2_21.out hb);have G6_22:=Lib.hid (blk_below G6_21.out hb);have HT_22:=Lib.hid (below_then HT_21.out HT_21.out.size hb);have HO_22:=Lib.hid (HO_21.out.below hb);have G9_22:=Lib.hid (blk_below G9_21.out hb);clear ho hb) | ((with_reducible refine gate_dst (N:=14) rfl ?_);refine box_event ?hg (N:=14) ?hd (cs := #[.int .i64 0, .int .i64 0, .int .i64 0, .int .i64 0, .slice none 0 0, .slice none 0 0, .slice none 0 0, .slice none 0 0, .int .i64 0, .int .i64 0]) (t:=32) ?hr ?_;(case hd => rfl);(case hg => rfl);(case hr => first | (go_simp;done) | (go_simp;rfl));intro g14 hg w23 hbox hb;have Z_23:=Lib.hid hbox;have HEg14:=Lib.hid hg;have HB_23:=Lib.hid (below_then HB_22.out HB_22.out.size hb);have G2_23:=Lib.hid (blk_below G2_22.out hb);have G6_23:=Lib.hid (blk_below G6_22.out hb);have HT_23:=Lib.hid (below_then HT_22.out HT_22.out.size hb);have HO_23:=Lib.hid (HO_22.out.below hb);have G9_23:=Lib.hid (blk_below G9_22.out hb);have HP_23:=Lib.hid (HP_22.out.below hb);have HNg14 : Hid (∀ k o,w22.heap[k]? = some o → k ≠ g14):=Lib.hid (fun k o h e => by have h1:=blk_lt h;omega);clear hg hbox hb) | ((with_reducible refine gate_store (t:=32) (p:=14) rfl ?_);refine store_all rfl rfl rfl (g:=g14) (C:=Ch) rfl rfl Z_23.out (by rw [HP_23.out.read.len];kernel_rfl) (HRead.one HP_23.out.read) HP_23.out.read.len.symm ?_;intro w24 hx hT;have G14_24:=Lib.hid hx;have HB_24:=Lib.hid (hT.below HB_23.out HB_23.out.size (fun k hk => by rw [hk,HEg14.out];exact HB_22.out.size));have HT_24:=Lib.hid (hT.below HT_23.out HT_23.out.size (fun k hk => by rw [hk,HEg14.out];exact HT_22.out.size));have G6_24:=Lib.hid (hT.blk G6_23.out (fun e => HNg14.out _ _ G6_22.out e));have HP_24:=Lib.hid (HP_23.out.tch hT (fun k hk e => by have h1:=hk.2.2.1;have h2:=HEg14.out;omega));clear hx hT))
  go_wp2_with (first | ((with_reducible refine gate_dst (N:=87) rfl ?_);refine load_all rfl rfl (g:=g14) rfl G14_24.out hu32.out (by rw [HP_24.out.read.len];kernel_rfl) ?_) | ((with_reducible refine gate_dst (N:=88) rfl ?_);refine load_all rfl rfl (g:=g6) rfl G6_24.out hu32.out (by rw [HWT.out.len];kernel_rfl) ?_) | (go_at_call 19;refine (eqHost_v (nhV o1 o2 x0.f0 x0.f1 x0.f2 x0.f3 y1) SM.out.1 w24 Ch Cw HP_24.out.read (HWT.out.below HT_24.out)).mono ?_;rintro e w25 ⟨rfl,hb⟩;have HB_25:=Lib.hid (below_then HB_24.out HB_24.out.size hb);clear hb))
  go_ret
  exact ⟨rfl,HB_25.out⟩
end Go.Proofs.Ytcaefabbcjlkdaa.Pure
