/- Texts of the proof of FnFiveFlips, joined. -/
import Derived.Test.YtdoclpgciadjaaaSFnFiveFlips21
import Derived.Test.YtdoclpgciadjaaaSFnFiveFlips22
import Derived.Lib.Hide
import Derived.Laws.RangeAny
import Derived.Lib.OthersKept
import Derived.Test.YtdoclpgciadjaaaSFnFiveFlips0
import Derived.Test.YtdoclpgciadjaaaSFnFiveFlips20
import Derived.Deep.QuietTactic
import Derived.BigQuiet
import Derived.Laws.MakeOwn
import Derived.Lib.ConvBytes
import Derived.ArgAppend
import Derived.Test.YtdoclpgciadjaaaSFnFiveFlips4
import Derived.Laws.BitsAllLaws
import Derived.Laws.BitsLemmas
import Derived.Lib.Strings
import Derived.Lib.SmallJoins
namespace Go.Proofs.Ytdoclpgciadjaaa.P
open Go.RowKit Go.Proofs.YtdoclpgciadjaaaW.PrintWords Go.Proofs.YtdoclpgciadjaaaW.PrintLast Go.Proofs.YtdoclpgciadjaaaW.PrintMore
set_option linter.unusedVariables false
set_option linter.unusedSimpArgs false
def spec_l1new.f (l0 : List Int) : Option (List Int × Int × Int):=some (l0,0,IntKind.u64.wrap ((IntKind.u64.wrap ((l0.length : Int))) + 77))
set_option maxHeartbeats 8000000 in
set_option maxRecDepth 100000 in
theorem spec_l1new.calls (A0 : Option Addr) (c0 : Nat) (l0 : List Int) (r1 : List Int) (r2 : Int) (r3 : Int) (w0 w : World) (hB : Below w0.heap.size w0 w) (hr0 : Kd.C (Kd.int .u8) w0 A0 l0.length l0) (hc0 : l0.length ≤ c0) (h : spec_l1new.f l0 = some (r1,r2,r3)) :
  Calls Try.prog 72 #[.slice A0 l0.length c0] w fun e w' => ∃ g_ : Nat,e = .returned (.pointer (some ⟨g_,0,none⟩)) ∧ IsS172 w0 w' g_ r1 r2 r3 ∧ Below w0.heap.size w0 w' ∧ Below w.heap.size w w':=by
 have hu172:=Try.underlying172
 have HR0:=Aside0.mk hr0
 have HC0:=Aside0.mk hc0
 clear hr0 hc0
 have HBW:=Aside0.mk (Below.refl w.heap.size w)
 have HW0:=Aside0.mk hB.size
 have HB:=Aside0.mk hB
 clear hB
 have H : (some (l0,0,IntKind.u64.wrap ((IntKind.u64.wrap ((l0.length : Int))) + 77))) = some (r1,r2,r3):=h
 clear h
 simp only [Option.some.injEq,Prod.mk.injEq] at H
 obtain ⟨rfl,rfl,rfl⟩:=H
 go_enter Try.func72,Try.ntmps72
 go_wp2_with (first | ((with_reducible refine gate_dst (N:=9) rfl ?_);refine box_event ?hg (N:=9) ?hd (cs := #[.slice A0 l0.length c0, .int .i64 0, .int .u64 (IntKind.u64.wrap ((IntKind.u64.wrap ((l0.length : Int))) + 77))]) (t:=172) ?hr ?_;(case hd => rfl);(case hg => rfl);(case hr => first | (go_simp;done) | (go_simp;rfl));intro gb171 hg w2 hbox hb;have n0_:=Aside0.mk (below_step HBW.out hb);have n1_:=Aside0.mk (below_step (by repeat (first | (with_reducible first | exact HB.out | apply below_alloc | apply pw_below_drewN | apply below_drew1) | exact HB.out)) hb);have n2_:=Aside0.mk (hbox);have n3_:=Aside0.mk ((by rw [hg];exact (below_size (by repeat (first | (with_reducible first | exact HBW.out | apply below_alloc | apply pw_below_drewN | apply below_drew1) | exact HBW.out))) : w.heap.size ≤ gb171));have n4_:=Aside0.mk ((Nat.le_trans HW0.out (by rw [hg];exact (below_size (by repeat (first | (with_reducible first | exact HBW.out | apply below_alloc | apply pw_below_drewN | apply below_drew1) | exact HBW.out))) : w.heap.size ≤ gb171) : w0.heap.size ≤ gb171));clear HBW;clear HB;have HBW:=n0_;have HB:=n1_;have BK171:=n2_;have GW171:=n3_;have GE171:=n4_;clear n0_ n1_ n2_ n3_ n4_;clear hb hbox hg))
 go_ret
 exact ⟨_,rfl,(show IsS172 w0 _ gb171 l0 0 (IntKind.u64.wrap ((IntKind.u64.wrap ((l0.length : Int))) + 77)) from ⟨_,_,by (with_reducible repeat (first | refine blk_drewN ?_ _ | refine blk_drew ?_ | refine blk_alloc ?_ _));exact BK171.out,GE171.out,HR0.out⟩),by repeat (first | (with_reducible first | exact HB.out | apply below_alloc | apply pw_below_drewN | apply below_drew1 | refine below_set ?_ GE171.out) | exact HB.out),by repeat (first | (with_reducible first | exact HBW.out | apply below_alloc | apply pw_below_drewN | apply below_drew1 | refine below_set ?_ GW171.out) | exact HBW.out)⟩
end Go.Proofs.Ytdoclpgciadjaaa.P

namespace Go.Proofs.Ytdoclpgciadjaaa.P
open Go.RowKit Go.Proofs.YtdoclpgciadjaaaW.PrintWords Go.Proofs.YtdoclpgciadjaaaW.PrintLast Go.Proofs.YtdoclpgciadjaaaW.PrintMore
set_option linter.unusedVariables false
set_option linter.unusedSimpArgs false
def spec_DrawEncode.f (k : Nat) (l0 : List Int) : Option (Bool × Int × Bool × Int × List Int):=(spec_l1new.f l0).bind fun bt173 => ((spec_l1genAny.f k bt173.1 bt173.2.1 bt173.2.2).bind fun bt177 => (some (bt177.1,bt177.2.1,bt177.2.2.1,bt177.2.2.2.1,bt177.2.2.2.2.1)))
set_option maxHeartbeats 8000000 in
set_option maxRecDepth 100000 in
theorem spec_DrawEncode.calls (k : Nat) (A0 : Option Addr) (c0 : Nat) (l0 : List Int) (r1 : Bool) (r2 : Int) (r3 : Bool) (r4 : Int) (r5 : List Int) (w : World) (hr0 : Kd.C (Kd.int .u8) w A0 l0.length l0) (hc0 : l0.length ≤ c0) (h : spec_DrawEncode.f k l0 = some (r1,r2,r3,r4,r5)) :
  Calls Try.prog 13 #[.slice A0 l0.length c0] w fun e w' => ∃ v4_ : Value,e = .returned (.agg #[.bool r1, .int .u32 r2, .bool r3, .int .i64 r4,v4_]) ∧ Kd.R (Kd.int .u8) 5 w' w.heap.size (fun _ => True) v4_ r5 ∧ Below w.heap.size w w':=by
 have hu25:=Try.underlying25
 have HR0:=Aside0.mk hr0
 have HC0:=Aside0.mk hc0
 clear hr0 hc0
 have HB:=Aside0.mk (Below.refl w.heap.size w)
 have H : ((spec_l1new.f l0).bind fun bt173 => ((spec_l1genAny.f k bt173.1 bt173.2.1 bt173.2.2).bind fun bt177 => (some (bt177.1,bt177.2.1,bt177.2.2.1,bt177.2.2.2.1,bt177.2.2.2.2.1)))) = some (r1,r2,r3,r4,r5):=h
 clear h
 replace H:=Option.bind_eq_some_iff.mp H
 obtain ⟨⟨t173,t174,t175⟩,A20,H⟩:=H
 replace H : ((spec_l1genAny.f k t173 t174 t175).bind fun bt177 => (some (bt177.1,bt177.2.1,bt177.2.2.1,bt177.2.2.2.1,bt177.2.2.2.2.1))) = some (r1,r2,r3,r4,r5):=H
 have A2:=Aside0.mk A20
 clear A20
 replace H:=Option.bind_eq_some_iff.mp H
 obtain ⟨⟨t177,t178,t179,t180,t181,t184,t185⟩,A30,H⟩:=H
 replace H : (some (t177,t178,t179,t180,t181)) = some (r1,r2,r3,r4,r5):=H
 have A3:=Aside0.mk A30
 clear A30
 simp only [Option.some.injEq,Prod.mk.injEq] at H
 obtain ⟨rfl,rfl,rfl,rfl,rfl⟩:=H
 go_enter Try.func13,Try.ntmps13
 go_wp2_with (first | ((with_reducible refine gate_dst (N:=2) rfl ?_);refine box_event ?hg (N:=2) ?hd (cs := #[.bool false, .int .u32 0, .bool false, .int .i64 0, .slice none 0 0]) (t:=25) ?hr ?_;(case hd => rfl);(case hg => rfl);(case hr => first | (go_simp;done) | (go_simp;rfl));intro gb172 hg w4 hbox hb;have n0_:=Aside0.mk (below_step (by repeat (first | (with_reducible first | exact HB.out | apply below_alloc | apply pw_below_drewN | apply below_drew1) | exact HB.out)) hb);have n1_:=Aside0.mk (hbox);have n2_:=Aside0.mk ((by rw [hg];exact (below_size (by repeat (first | (with_reducible first | exact HB.out | apply below_alloc | apply pw_below_drewN | apply below_drew1) | exact HB.out))) : w.heap.size ≤ gb172));have n3_:=Aside0.mk ((by rw [hg];exact (below_size (by repeat (first | (with_reducible first | exact HB.out | apply below_alloc | apply pw_below_drewN | apply below_drew1) | exact HB.out))) : w.heap.size ≤ gb172));clear HB;have HB:=n0_;have BK172:=n1_;have GW172:=n2_;have GE172:=n3_;clear n0_ n1_ n2_ n3_;clear hb hbox hg) | ((with_reducible refine gate_callee (f:=72) rfl ?_);refine goesL_ (some 4) rfl rfl Try.func72 (by kernel_rfl) rfl #[.slice A0 l0.length c0] rfl (by (try simp only [List.map_toArray,List.map_cons,List.map_nil]);first | done | rfl | (simp only [List.length_drop,List.length_take];rfl)) ?_;(with_reducible refine (spec_l1new.calls _ _ l0 t173 t174 t175 w _ ?side1 ?side2 ?side3 A2.out).mono ?_);(case side1 => repeat (first | (with_reducible first | exact HB.out | apply below_alloc | apply pw_below_drewN | apply below_drew1 | refine below_set ?_ GE172.out) | exact HB.out));(case side2 => exact HR0.out);(case side3 => exact HC0.out);rintro e w5 ⟨g176,rfl,hi,hb,hb2⟩;refine ⟨_,rfl, ?_⟩;have n0_:=Aside0.mk (blk_below (g:=gb172) (o := .cells #[.bool false, .int .u32 0, .bool false, .int .i64 0, .slice none 0 0] 25 (0,0)) (by (with_reducible repeat (first | refine blk_drewN ?_ _ | refine blk_drew ?_ | refine blk_alloc ?_ _));exact BK172.out) hb2);have n1_:=Aside0.mk (hb);have n2_:=Aside0.mk (hi);have n3_:=Aside0.mk (IsS172.ne_blk hi (blk_below (g:=gb172) (o := .cells #[.bool false, .int .u32 0, .bool false, .int .i64 0, .slice none 0 0] 25 (0,0)) (by (with_reducible repeat (first | refine blk_drewN ?_ _ | refine blk_drew ?_ | refine blk_alloc ?_ _));exact BK172.out) hb2) (by decide));have n4_:=Aside0.mk (Ne.symm (IsS172.ne_blk hi (blk_below (g:=gb172) (o := .cells #[.bool false, .int .u32 0, .bool false, .int .i64 0, .slice none 0 0] 25 (0,0)) (by (with_reducible repeat (first | refine blk_drewN ?_ _ | refine blk_drew ?_ | refine blk_alloc ?_ _));exact BK172.out) hb2) (by decide)));clear BK172;clear HB;have BK172:=n0_;have HB:=n1_;have HI176:=n2_;have NB176_172:=n3_;have NB172_176:=n4_;clear n0_ n1_ n2_ n3_ n4_;(try clear hb);(try clear hb2);(try clear hk);(try clear hi)) | ((with_reducible refine gate_callee (f:=71) rfl ?_);refine goesL_ (some 5) rfl rfl Try.func71 (by kernel_rfl) rfl #[.pointer (some ⟨g176,0,none⟩)] rfl (by (try simp only [List.map_toArray,List.map_cons,List.map_nil]);first | done | rfl | (simp only [List.length_drop,List.length_take];rfl)) ?_;(with_reducible refine (spec_l1genAny.calls k g176 t173 t174 t175 t177 t178 t179 t180 t181 t184 t185 w _ ?side1 ?side2 A3.out).mono ?_);(case side1 => repeat (first | (with_reducible first | exact HI176.out | apply IsS172.alloc | apply IsS172.drewN | apply IsS172.drew | apply IsS172.set_1 | apply IsS172.set_2 | refine IsS172.far ?_ NB176_172.out _) | exact HI176.out));(case side2 => repeat (first | (with_reducible first | exact HB.out | apply below_alloc | apply pw_below_drewN | apply below_drew1 | refine below_set ?_ (IsS172.ge HI176.out) | refine below_set ?_ GE172.out) | exact HB.out));rintro e w6 ⟨v182,rfl,ho0,hi,hb,hk⟩;refine ⟨_,rfl, ?_⟩;have n0_:=Aside0.mk (KeepBut.blk hk (g':=gb172) (o := .cells #[.bool false, .int .u32 0, .bool false, .int .i64 0, .slice none 0 0] 25 (0,0)) (by (with_reducible repeat (first | refine blk_drewN ?_ _ | refine blk_drew ?_ | refine blk_alloc ?_ _));exact BK172.out) NB172_176.out (by simp));have n1_:=Aside0.mk (Kd.R_lower ho0 (below_size (by repeat (first | (with_reducible first | exact HB.out | apply below_alloc | apply pw_below_drewN | apply below_drew1 | refine below_set ?_ (IsS172.ge HI176.out) | refine below_set ?_ GE172.out) | exact HB.out))));have n2_:=Aside0.mk (hb);have n3_:=Aside0.mk (hi);clear BK172;clear HB;clear HI176;have BK172:=n0_;have HO183:=n1_;have HB:=n2_;have HI176:=n3_;clear n0_ n1_ n2_ n3_;(try clear hb);(try clear hb2);(try clear hk);(try clear hi);(try clear ho0);have hnb7:=NB172_176.out;have hnc7:=NB176_172.out;have hcz8_0 : w6.cell? ⟨gb172,0,none⟩ = some (.bool false):=(blk_cell BK172.out 0).trans rfl;have hcz8_1 : w6.cell? ⟨gb172,1,none⟩ = some (.int .u32 0):=(blk_cell BK172.out 1).trans rfl;have hcz8_2 : w6.cell? ⟨gb172,2,none⟩ = some (.bool false):=(blk_cell BK172.out 2).trans rfl;have hcz8_3 : w6.cell? ⟨gb172,3,none⟩ = some (.int .i64 0):=(blk_cell BK172.out 3).trans rfl;have hcz8_4 : w6.cell? ⟨gb172,4,none⟩ = some (.slice none 0 0):=(blk_cell BK172.out 4).trans rfl;have hfz8_0:=blk_frozen BK172.out 0;have hfz8_1:=blk_frozen BK172.out 1;have hfz8_2:=blk_frozen BK172.out 2;have hfz8_3:=blk_frozen BK172.out 3;have hfz8_4:=blk_frozen BK172.out 4;obtain ⟨Ao9,co9,eo9⟩:=Kd.R_slice HO183.out;subst eo9))
 refine bodyPost_ret (results_cell_row rfl _ _ gb172 25 #[.bool t177, .int .u32 t178, .bool t179, .int .i64 t180, .slice Ao9 t181.length co9] (0,0) _ rfl (by (with_reducible repeat (first | refine blk_drewN ?_ _ | refine blk_drew ?_ | refine blk_alloc ?_ _));refine blk_put (cs := #[.bool t177, .int .u32 t178, .bool t179, .int .i64 t180, .slice none 0 0]) ?_ 4 _ rfl;(with_reducible repeat (first | refine blk_drewN ?_ _ | refine blk_drew ?_ | refine blk_alloc ?_ _));refine blk_put (cs := #[.bool t177, .int .u32 t178, .bool t179, .int .i64 0, .slice none 0 0]) ?_ 3 _ rfl;(with_reducible repeat (first | refine blk_drewN ?_ _ | refine blk_drew ?_ | refine blk_alloc ?_ _));refine blk_put (cs := #[.bool t177, .int .u32 t178, .bool false, .int .i64 0, .slice none 0 0]) ?_ 2 _ rfl;(with_reducible repeat (first | refine blk_drewN ?_ _ | refine blk_drew ?_ | refine blk_alloc ?_ _));refine blk_put (cs := #[.bool t177, .int .u32 0, .bool false, .int .i64 0, .slice none 0 0]) ?_ 1 _ rfl;(with_reducible repeat (first | refine blk_drewN ?_ _ | refine blk_drew ?_ | refine blk_alloc ?_ _));refine blk_put (cs := #[.bool false, .int .u32 0, .bool false, .int .i64 0, .slice none 0 0]) ?_ 0 _ rfl;(with_reducible repeat (first | refine blk_drewN ?_ _ | refine blk_drew ?_ | refine blk_alloc ?_ _));exact BK172.out) Try.underlying25 rfl (by kernel_rfl)) rfl ?_
 exact ⟨_,by first | rfl | (simp [errW_none,errW_some] <;> rfl) | (simp [*,errW_none,errW_some] <;> rfl),by (with_reducible repeat (first | apply Kd.R_alloc | apply Kd.R_drewN | apply Kd.R_drew));exact Kd.R_mono (Kd.R_far (p:=⟨gb172,4,none⟩) (Kd.R_far (p:=⟨gb172,3,none⟩) (Kd.R_far (p:=⟨gb172,2,none⟩) (Kd.R_far (p:=⟨gb172,1,none⟩) (Kd.R_far (p:=⟨gb172,0,none⟩) (Kd.R_types HO183.out BK172.out (by decide)) (fun _ hk => hk.2) (.bool t177)) (fun _ hk => hk.2) (.int .u32 t178)) (fun _ hk => hk.2) (.bool t179)) (fun _ hk => hk.2) (.int .i64 t180)) (fun _ hk => hk.2) (.slice Ao9 t181.length co9)) (fun _ hk => trivial),by repeat (first | (with_reducible first | exact HB.out | apply below_alloc | apply pw_below_drewN | apply below_drew1 | refine below_set ?_ (IsS172.ge HI176.out) | refine below_set ?_ GE172.out) | exact HB.out)⟩
end Go.Proofs.Ytdoclpgciadjaaa.P

namespace Go.Proofs.Ytdoclpgciadjaaa.P
open Go.RowKit Go.Proofs.YtdoclpgciadjaaaW.PrintWords Go.Proofs.YtdoclpgciadjaaaW.PrintLast Go.Proofs.YtdoclpgciadjaaaW.PrintMore
set_option linter.unusedVariables false
set_option linter.unusedSimpArgs false
mutual
def spec_ValidFrame.j0 : Nat → Bool → Bool → Int → Bool → Int → List Int → Option (Bool)
 | 0,_,_,_,_,_,_ => none
 | k + 1,x9,x187000,x187001,x187002,x187003,x187004 => if x9 = true then (some false) else (if x187000 = true then (spec_ValidFrame.j1 k false x187000 x187001 x187002 x187003 x187004) else (spec_ValidFrame.j1 k (decide (x187001 ≥ 2048)) x187000 x187001 x187002 x187003 x187004))
def spec_ValidFrame.j1 : Nat → Bool → Bool → Int → Bool → Int → List Int → Option (Bool)
 | 0,_,_,_,_,_,_ => none
 | k + 1,x17,x187000,x187001,x187002,x187003,x187004 => if x17 = true then (some false) else (if x187003 < 0 then (some false) else (if x187003 > 15 then (some false) else ((spec_l1dataLen.f x187000 x187001 x187002 x187003 x187004).bind fun t187 => (some ((x187004.length : Int) == t187)))))
end
def spec_ValidFrame.f (k : Nat) (a0_0 : Bool) (a0_1 : Int) (a0_2 : Bool) (a0_3 : Int) (l0_4 : List Int) : Option (Bool):=if a0_0 = true then (spec_ValidFrame.j0 k (decide (a0_1 ≥ 536870912)) a0_0 a0_1 a0_2 a0_3 l0_4) else (spec_ValidFrame.j0 k false a0_0 a0_1 a0_2 a0_3 l0_4)
set_option maxHeartbeats 8000000 in
set_option maxRecDepth 100000 in
theorem spec_ValidFrame.calls (k : Nat) (a0_0 : Bool) (a0_1 : Int) (a0_2 : Bool) (a0_3 : Int) (A0_4 : Option Addr) (c0_4 : Nat) (l0_4 : List Int) (r : Bool) (w : World) (hr0_4 : Kd.C (Kd.int .u8) w A0_4 l0_4.length l0_4) (hc0_4 : l0_4.length ≤ c0_4) (h : spec_ValidFrame.f k a0_0 a0_1 a0_2 a0_3 l0_4 = some r) :
  Calls Try.prog 14 #[.agg #[.bool a0_0, .int .u32 a0_1, .bool a0_2, .int .i64 a0_3, .slice A0_4 l0_4.length c0_4]] w fun e w' => e = .returned (.bool r) ∧ Below w.heap.size w w':=by
 have hu25:=Try.underlying25
 have HR0_4:=Aside0.mk hr0_4
 have HC0_4:=Aside0.mk hc0_4
 clear hr0_4 hc0_4
 have HB:=Aside0.mk (Below.refl w.heap.size w)
 have H : (if a0_0 = true then (spec_ValidFrame.j0 k (decide (a0_1 ≥ 536870912)) a0_0 a0_1 a0_2 a0_3 l0_4) else (spec_ValidFrame.j0 k false a0_0 a0_1 a0_2 a0_3 l0_4)) = some r:=h
 clear h
 have HC2:=Aside0.mk H
 clear H
 go_enter Try.func14,Try.ntmps14
 go_upto_region 1 with (first | ((with_reducible refine gate_dst (N:=1) rfl ?_);refine box_event ?hg (N:=1) ?hd (cs := #[.bool a0_0, .int .u32 a0_1, .bool a0_2, .int .i64 a0_3, .slice A0_4 l0_4.length c0_4]) (t:=25) ?hr ?_;(case hd => rfl);(case hg => rfl);(case hr => first | (go_simp;done) | (go_simp;rfl));intro gb186 hg w3 hbox hb;have n0_:=Aside0.mk (below_step (by repeat (first | (with_reducible first | exact HB.out | apply below_alloc | apply pw_below_drewN | apply below_drew1) | exact HB.out)) hb);have n1_:=Aside0.mk (hbox);have n2_:=Aside0.mk ((by rw [hg];exact (below_size (by repeat (first | (with_reducible first | exact HB.out | apply below_alloc | apply pw_below_drewN | apply below_drew1) | exact HB.out))) : w.heap.size ≤ gb186));have n3_:=Aside0.mk ((by rw [hg];exact (below_size (by repeat (first | (with_reducible first | exact HB.out | apply below_alloc | apply pw_below_drewN | apply below_drew1) | exact HB.out))) : w.heap.size ≤ gb186));clear HB;have HB:=n0_;have BK186:=n1_;have GW186:=n2_;have GE186:=n3_;clear n0_ n1_ n2_ n3_;clear hb hbox hg))
 (try simp only [Act.put,List.setIfInBounds_toArray,List.set_cons_zero,List.set_cons_succ])
 go_cut [9] (fun v9 wc => ∃ (kq : Nat) (x9_1 : Bool),v9 = .bool x9_1 ∧ Aside0 (spec_ValidFrame.j0 kq x9_1 a0_0 a0_1 a0_2 a0_3 l0_4 = some r) ∧ Aside0 (kq ≤ k) ∧ Aside0 (wc.heap[gb186]? = some (.cells #[.bool a0_0, .int .u32 a0_1, .bool a0_2, .int .i64 a0_3,(.slice A0_4 l0_4.length c0_4)] 25 (0,0))) ∧ Aside0 (Below w.heap.size w wc))
 case first =>
  have H:=HC2.out
  clear HC2
  by_cases c4 : a0_0 = true
  ·subst c4
   have H1 : (spec_ValidFrame.j0 k (decide (a0_1 ≥ 536870912)) true a0_1 a0_2 a0_3 l0_4) = some r:=by rw [if_pos rfl] at H;exact H
   clear H
   have H:=H1
   clear H1
   have H':=Aside0.mk H
   clear H
   have hcz5_0 : w3.cell? ⟨gb186,0,none⟩ = some (.bool true):=(blk_cell BK186.out 0).trans rfl
   have hcz5_1 : w3.cell? ⟨gb186,1,none⟩ = some (.int .u32 a0_1):=(blk_cell BK186.out 1).trans rfl
   have hcz5_2 : w3.cell? ⟨gb186,2,none⟩ = some (.bool a0_2):=(blk_cell BK186.out 2).trans rfl
   have hcz5_3 : w3.cell? ⟨gb186,3,none⟩ = some (.int .i64 a0_3):=(blk_cell BK186.out 3).trans rfl
   have hcz5_4 : w3.cell? ⟨gb186,4,none⟩ = some (.slice A0_4 l0_4.length c0_4):=(blk_cell BK186.out 4).trans rfl
   have hfz5_0:=blk_frozen BK186.out 0
   have hfz5_1:=blk_frozen BK186.out 1
   have hfz5_2:=blk_frozen BK186.out 2
   have hfz5_3:=blk_frozen BK186.out 3
   have hfz5_4:=blk_frozen BK186.out 4
   go_wp2
   go_meet
   case rel => exact ⟨_,(decide (a0_1 ≥ 536870912)),(by first | rfl | (simp;done) | (simp [*];done)),H',⟨by first | omega | exact Nat.le_refl _⟩,⟨by (with_reducible repeat (first | refine blk_drewN ?_ _ | refine blk_drew ?_ | refine blk_alloc ?_ _));exact BK186.out⟩,⟨by repeat (first | (with_reducible first | exact HB.out | apply below_alloc | apply pw_below_drewN | apply below_drew1 | refine below_set ?_ GE186.out) | exact HB.out)⟩⟩
  ·replace c4:=Bool.eq_false_iff.mpr c4
   subst c4
   have H1 : (spec_ValidFrame.j0 k false false a0_1 a0_2 a0_3 l0_4) = some r:=by rw [if_neg (show ¬ (false = true) by decide)] at H;exact H
   clear H
   have H:=H1
   clear H1
   have H':=Aside0.mk H
   clear H
   have hcz6_0 : w3.cell? ⟨gb186,0,none⟩ = some (.bool false):=(blk_cell BK186.out 0).trans rfl
   have hcz6_1 : w3.cell? ⟨gb186,1,none⟩ = some (.int .u32 a0_1):=(blk_cell BK186.out 1).trans rfl
   have hcz6_2 : w3.cell? ⟨gb186,2,none⟩ = some (.bool a0_2):=(blk_cell BK186.out 2).trans rfl
   have hcz6_3 : w3.cell? ⟨gb186,3,none⟩ = some (.int .i64 a0_3):=(blk_cell BK186.out 3).trans rfl
   have hcz6_4 : w3.cell? ⟨gb186,4,none⟩ = some (.slice A0_4 l0_4.length c0_4):=(blk_cell BK186.out 4).trans rfl
   have hfz6_0:=blk_frozen BK186.out 0
   have hfz6_1:=blk_frozen BK186.out 1
   have hfz6_2:=blk_frozen BK186.out 2
   have hfz6_3:=blk_frozen BK186.out 3
   have hfz6_4:=blk_frozen BK186.out 4
   go_wp2
   go_meet
   case rel => exact ⟨_,(false),(by first | rfl | (simp;done) | (simp [*];done)),H',⟨by first | omega | exact Nat.le_refl _⟩,⟨by (with_reducible repeat (first | refine blk_drewN ?_ _ | refine blk_drew ?_ | refine blk_alloc ?_ _));exact BK186.out⟩,⟨by repeat (first | (with_reducible first | exact HB.out | apply below_alloc | apply pw_below_drewN | apply below_drew1 | refine below_set ?_ GE186.out) | exact HB.out)⟩⟩
 case rest =>
  clear HC2
  try clear c1
  try clear p2
  try clear c4
  try clear hcz5_0
  try clear hcz5_1
  try clear hcz5_2
  try clear hcz5_3
  try clear hcz5_4
  try clear hcz6_0
  try clear hcz6_1
  try clear hcz6_2
  try clear hcz6_3
  try clear hcz6_4
  try clear hfz5_0
  try clear hfz5_1
  try clear hfz5_2
  try clear hfz5_3
  try clear hfz5_4
  try clear hfz6_0
  try clear hfz6_1
  try clear hfz6_2
  try clear hfz6_3
  try clear hfz6_4
  obtain ⟨kq,x9_1,rfl,HA,HJ1,BK186,HB⟩:=hcut
  cases kq with
  | zero => exact absurd HA.out (by simp [spec_ValidFrame.j0])
  | succ kj1 =>
   have H:=HA.out
   clear HA
   simp only [spec_ValidFrame.j0] at H
   by_cases c7 : x9_1 = true
   ·subst c7
    have H1 : (some false) = some r:=by rw [if_pos rfl] at H;exact H
    clear H
    have H:=H1
    clear H1
    obtain rfl:=Option.some.inj H
    go_wp2
    go_ret
    exact ⟨by first | rfl | (simp [errW_none,errW_some] <;> rfl) | (simp [*,errW_none,errW_some] <;> rfl),by repeat (first | (with_reducible first | exact HB.out | apply below_alloc | apply pw_below_drewN | apply below_drew1 | refine below_set ?_ GE186.out) | exact HB.out)⟩
   ·replace c7:=Bool.eq_false_iff.mpr c7
    subst c7
    have H1 : (if a0_0 = true then (spec_ValidFrame.j1 kj1 false a0_0 a0_1 a0_2 a0_3 l0_4) else (spec_ValidFrame.j1 kj1 (decide (a0_1 ≥ 2048)) a0_0 a0_1 a0_2 a0_3 l0_4)) = some r:=by rw [if_neg (show ¬ (false = true) by decide)] at H;exact H
    clear H
    have H:=H1
    clear H1
    have HC8:=Aside0.mk H
    clear H
    go_upto_region 3 with (fail)
    go_cut [17] (fun v17 wc => ∃ (kq : Nat) (x17_7 : Bool),v17 = .bool x17_7 ∧ Aside0 (spec_ValidFrame.j1 kq x17_7 a0_0 a0_1 a0_2 a0_3 l0_4 = some r) ∧ Aside0 (kq ≤ kj1) ∧ Aside0 (wc.heap[gb186]? = some (.cells #[.bool a0_0, .int .u32 a0_1, .bool a0_2, .int .i64 a0_3,(.slice A0_4 l0_4.length c0_4)] 25 (0,0))) ∧ Aside0 (Below w.heap.size w wc))
    case first =>
     have H:=HC8.out
     clear HC8
     by_cases c9 : a0_0 = true
     ·subst c9
      have H1 : (spec_ValidFrame.j1 kj1 false true a0_1 a0_2 a0_3 l0_4) = some r:=by rw [if_pos rfl] at H;exact H
      clear H
      have H:=H1
      clear H1
      have H':=Aside0.mk H
      clear H
      have hcz10_0 : wc.cell? ⟨gb186,0,none⟩ = some (.bool true):=(blk_cell BK186.out 0).trans rfl
      have hcz10_1 : wc.cell? ⟨gb186,1,none⟩ = some (.int .u32 a0_1):=(blk_cell BK186.out 1).trans rfl
      have hcz10_2 : wc.cell? ⟨gb186,2,none⟩ = some (.bool a0_2):=(blk_cell BK186.out 2).trans rfl
      have hcz10_3 : wc.cell? ⟨gb186,3,none⟩ = some (.int .i64 a0_3):=(blk_cell BK186.out 3).trans rfl
      have hcz10_4 : wc.cell? ⟨gb186,4,none⟩ = some (.slice A0_4 l0_4.length c0_4):=(blk_cell BK186.out 4).trans rfl
      have hfz10_0:=blk_frozen BK186.out 0
      have hfz10_1:=blk_frozen BK186.out 1
      have hfz10_2:=blk_frozen BK186.out 2
      have hfz10_3:=blk_frozen BK186.out 3
      have hfz10_4:=blk_frozen BK186.out 4
      go_wp2
      go_meet
      case rel => exact ⟨_,(false),(by first | rfl | (simp;done) | (simp [*];done)),H',⟨by have:=HJ1.out;first | omega | exact Nat.le_refl _⟩,⟨by (with_reducible repeat (first | refine blk_drewN ?_ _ | refine blk_drew ?_ | refine blk_alloc ?_ _));exact BK186.out⟩,⟨by repeat (first | (with_reducible first | exact HB.out | apply below_alloc | apply pw_below_drewN | apply below_drew1 | refine below_set ?_ GE186.out) | exact HB.out)⟩⟩
     ·replace c9:=Bool.eq_false_iff.mpr c9
      subst c9
      have H1 : (spec_ValidFrame.j1 kj1 (decide (a0_1 ≥ 2048)) false a0_1 a0_2 a0_3 l0_4) = some r:=by rw [if_neg (show ¬ (false = true) by decide)] at H;exact H
      clear H
      have H:=H1
      clear H1
      have H':=Aside0.mk H
      clear H
      have hcz11_0 : wc.cell? ⟨gb186,0,none⟩ = some (.bool false):=(blk_cell BK186.out 0).trans rfl
      have hcz11_1 : wc.cell? ⟨gb186,1,none⟩ = some (.int .u32 a0_1):=(blk_cell BK186.out 1).trans rfl
      have hcz11_2 : wc.cell? ⟨gb186,2,none⟩ = some (.bool a0_2):=(blk_cell BK186.out 2).trans rfl
      have hcz11_3 : wc.cell? ⟨gb186,3,none⟩ = some (.int .i64 a0_3):=(blk_cell BK186.out 3).trans rfl
      have hcz11_4 : wc.cell? ⟨gb186,4,none⟩ = some (.slice A0_4 l0_4.length c0_4):=(blk_cell BK186.out 4).trans rfl
      have hfz11_0:=blk_frozen BK186.out 0
      have hfz11_1:=blk_frozen BK186.out 1
      have hfz11_2:=blk_frozen BK186.out 2
      have hfz11_3:=blk_frozen BK186.out 3
      have hfz11_4:=blk_frozen BK186.out 4
      go_wp2
      go_meet
      case rel => exact ⟨_,(decide (a0_1 ≥ 2048)),(by first | rfl | (simp;done) | (simp [*];done)),H',⟨by have:=HJ1.out;first | omega | exact Nat.le_refl _⟩,⟨by (with_reducible repeat (first | refine blk_drewN ?_ _ | refine blk_drew ?_ | refine blk_alloc ?_ _));exact BK186.out⟩,⟨by repeat (first | (with_reducible first | exact HB.out | apply below_alloc | apply pw_below_drewN | apply below_drew1 | refine below_set ?_ GE186.out) | exact HB.out)⟩⟩
    case rest =>
     clear HC8
     try clear c1
     try clear p2
     try clear c4
     try clear c7
     try clear c9
     try clear hcz10_0
     try clear hcz10_1
     try clear hcz10_2
     try clear hcz10_3
     try clear hcz10_4
     try clear hcz11_0
     try clear hcz11_1
     try clear hcz11_2
     try clear hcz11_3
     try clear hcz11_4
     try clear hcz5_0
     try clear hcz5_1
     try clear hcz5_2
     try clear hcz5_3
     try clear hcz5_4
     try clear hcz6_0
     try clear hcz6_1
     try clear hcz6_2
     try clear hcz6_3
     try clear hcz6_4
     try clear hfz10_0
     try clear hfz10_1
     try clear hfz10_2
     try clear hfz10_3
     try clear hfz10_4
     try clear hfz11_0
     try clear hfz11_1
     try clear hfz11_2
     try clear hfz11_3
     try clear hfz11_4
     try clear hfz5_0
     try clear hfz5_1
     try clear hfz5_2
     try clear hfz5_3
     try clear hfz5_4
     try clear hfz6_0
     try clear hfz6_1
     try clear hfz6_2
     try clear hfz6_3
     try clear hfz6_4
     try clear p2
     obtain ⟨kq,x17_7,rfl,HA,HJ7,BK186,HB⟩:=hcut
     cases kq with
     | zero => exact absurd HA.out (by simp [spec_ValidFrame.j1])
     | succ kj7 =>
      have H:=HA.out
      clear HA
      simp only [spec_ValidFrame.j1] at H
      by_cases c12 : x17_7 = true
      ·subst c12
       have H1 : (some false) = some r:=by rw [if_pos rfl] at H;exact H
       clear H
       have H:=H1
       clear H1
       obtain rfl:=Option.some.inj H
       go_wp2
       go_ret
       exact ⟨by first | rfl | (simp [errW_none,errW_some] <;> rfl) | (simp [*,errW_none,errW_some] <;> rfl),by repeat (first | (with_reducible first | exact HB.out | apply below_alloc | apply pw_below_drewN | apply below_drew1 | refine below_set ?_ GE186.out) | exact HB.out)⟩
      ·replace c12:=Bool.eq_false_iff.mpr c12
       subst c12
       have H1 : (if a0_3 < 0 then (some false) else (if a0_3 > 15 then (some false) else ((spec_l1dataLen.f a0_0 a0_1 a0_2 a0_3 l0_4).bind fun t187 => (some ((l0_4.length : Int) == t187))))) = some r:=by rw [if_neg (show ¬ (false = true) by decide)] at H;exact H
       clear H
       have H:=H1
       clear H1
       by_cases c13 : a0_3 < 0
       ·rw [if_pos c13] at H
        have c13b0 : decide (a0_3 < 0) = true:=decide_eq_true c13
        clear c13
        obtain rfl:=Option.some.inj H
        have hcz14_0 : wc.cell? ⟨gb186,0,none⟩ = some (.bool a0_0):=(blk_cell BK186.out 0).trans rfl
        have hcz14_1 : wc.cell? ⟨gb186,1,none⟩ = some (.int .u32 a0_1):=(blk_cell BK186.out 1).trans rfl
        have hcz14_2 : wc.cell? ⟨gb186,2,none⟩ = some (.bool a0_2):=(blk_cell BK186.out 2).trans rfl
        have hcz14_3 : wc.cell? ⟨gb186,3,none⟩ = some (.int .i64 a0_3):=(blk_cell BK186.out 3).trans rfl
        have hcz14_4 : wc.cell? ⟨gb186,4,none⟩ = some (.slice A0_4 l0_4.length c0_4):=(blk_cell BK186.out 4).trans rfl
        have hfz14_0:=blk_frozen BK186.out 0
        have hfz14_1:=blk_frozen BK186.out 1
        have hfz14_2:=blk_frozen BK186.out 2
        have hfz14_3:=blk_frozen BK186.out 3
        have hfz14_4:=blk_frozen BK186.out 4
        go_wp2
        go_ret
        exact ⟨by first | rfl | (simp [errW_none,errW_some] <;> rfl) | (simp [*,errW_none,errW_some] <;> rfl),by repeat (first | (with_reducible first | exact HB.out | apply below_alloc | apply pw_below_drewN | apply below_drew1 | refine below_set ?_ GE186.out) | exact HB.out)⟩
       ·rw [if_neg c13] at H
        have c13b0 : decide (a0_3 < 0) = false:=decide_eq_false c13
        clear c13
        by_cases c15 : a0_3 > 15
        ·rw [if_pos c15] at H
         have c15b0 : decide (15 < a0_3) = true:=decide_eq_true c15
         clear c15
         obtain rfl:=Option.some.inj H
         have hcz16_0 : wc.cell? ⟨gb186,0,none⟩ = some (.bool a0_0):=(blk_cell BK186.out 0).trans rfl
         have hcz16_1 : wc.cell? ⟨gb186,1,none⟩ = some (.int .u32 a0_1):=(blk_cell BK186.out 1).trans rfl
         have hcz16_2 : wc.cell? ⟨gb186,2,none⟩ = some (.bool a0_2):=(blk_cell BK186.out 2).trans rfl
         have hcz16_3 : wc.cell? ⟨gb186,3,none⟩ = some (.int .i64 a0_3):=(blk_cell BK186.out 3).trans rfl
         have hcz16_4 : wc.cell? ⟨gb186,4,none⟩ = some (.slice A0_4 l0_4.length c0_4):=(blk_cell BK186.out 4).trans rfl
         have hfz16_0:=blk_frozen BK186.out 0
         have hfz16_1:=blk_frozen BK186.out 1
         have hfz16_2:=blk_frozen BK186.out 2
         have hfz16_3:=blk_frozen BK186.out 3
         have hfz16_4:=blk_frozen BK186.out 4
         go_wp2
         go_ret
         exact ⟨by first | rfl | (simp [errW_none,errW_some] <;> rfl) | (simp [*,errW_none,errW_some] <;> rfl),by repeat (first | (with_reducible first | exact HB.out | apply below_alloc | apply pw_below_drewN | apply below_drew1 | refine below_set ?_ GE186.out) | exact HB.out)⟩
        ·rw [if_neg c15] at H
         have c15b0 : decide (15 < a0_3) = false:=decide_eq_false c15
         clear c15
         replace H:=Option.bind_eq_some_iff.mp H
         obtain ⟨t187,A170,H⟩:=H
         replace H : (some ((l0_4.length : Int) == t187)) = some r:=H
         have A17:=Aside0.mk A170
         clear A170
         obtain rfl:=Option.some.inj H
         have hcz18_0 : wc.cell? ⟨gb186,0,none⟩ = some (.bool a0_0):=(blk_cell BK186.out 0).trans rfl
         have hcz18_1 : wc.cell? ⟨gb186,1,none⟩ = some (.int .u32 a0_1):=(blk_cell BK186.out 1).trans rfl
         have hcz18_2 : wc.cell? ⟨gb186,2,none⟩ = some (.bool a0_2):=(blk_cell BK186.out 2).trans rfl
         have hcz18_3 : wc.cell? ⟨gb186,3,none⟩ = some (.int .i64 a0_3):=(blk_cell BK186.out 3).trans rfl
         have hcz18_4 : wc.cell? ⟨gb186,4,none⟩ = some (.slice A0_4 l0_4.length c0_4):=(blk_cell BK186.out 4).trans rfl
         have hfz18_0:=blk_frozen BK186.out 0
         have hfz18_1:=blk_frozen BK186.out 1
         have hfz18_2:=blk_frozen BK186.out 2
         have hfz18_3:=blk_frozen BK186.out 3
         have hfz18_4:=blk_frozen BK186.out 4
         try go_wp2
         have n0_:=Aside0.mk (blk_drew BK186.out)
         have n1_:=Aside0.mk (below_drew1 HB.out)
         clear BK186
         clear HB
         have BK186:=n0_
         have HB:=n1_
         clear n0_ n1_
         refine start_ (n:=7) (S:=fun w' => w'.cell? ⟨gb186,0,none⟩ = some (.bool a0_0) ∧ w'.cell? ⟨gb186,1,none⟩ = some (.int .u32 a0_1) ∧ w'.cell? ⟨gb186,2,none⟩ = some (.bool a0_2) ∧ w'.cell? ⟨gb186,3,none⟩ = some (.int .i64 a0_3) ∧ w'.cell? ⟨gb186,4,none⟩ = some (.slice A0_4 l0_4.length c0_4)) (ds := []) #[false,false,false,false,false,false,false] (by kernel_rfl) rfl rfl ⟨(blk_cell BK186.out 0).trans rfl,(blk_cell BK186.out 1).trans rfl,(blk_cell BK186.out 2).trans rfl,(blk_cell BK186.out 3).trans rfl,(blk_cell BK186.out 4).trans rfl⟩ (fun hHeld => ?_)
         generalize wc.drew = w19 at BK186 HB hHeld ⊢
         refine pure_ (i:=0) (N:=some 26) (v := ?_) (a' := ?_) #[true,false,false,false,false,false,false] rfl rfl (by kernel_rfl) (fun _ _ _ h => h) (Or.inl ⟨by rfl, ?_⟩) ?_ ?_
         rotate_left
         ·intro w'
          go_simp
          with_reducible rfl
         rotate_left
         ·simp only [Act.put,List.setIfInBounds_toArray,List.set_cons_zero,List.set_cons_succ,i64_w,i32_w]
          rfl
         refine take_ (i:=1) (N:=some 27) (v := ?_) (a' := ?_) #[true,true,false,false,false,false,false] rfl rfl (by kernel_rfl) (fun _ _ _ h => h) (Or.inl ⟨by rfl, ?_⟩) hHeld ?_ ?_
         rotate_left
         ·rintro w' ⟨s0,s1,s2,s3,s4⟩
          go_simp
          with_reducible rfl
         rotate_left
         ·simp only [Act.put,List.setIfInBounds_toArray,List.set_cons_zero,List.set_cons_succ,i64_w,i32_w]
          rfl
         refine pure_ (i:=2) (N:=some 28) (v := ?_) (a' := ?_) #[true,true,true,false,false,false,false] rfl rfl (by kernel_rfl) (fun _ _ _ h => h) (Or.inl ⟨by rfl, ?_⟩) ?_ ?_
         rotate_left
         ·intro w'
          go_simp
          with_reducible rfl
         rotate_left
         ·simp only [Act.put,List.setIfInBounds_toArray,List.set_cons_zero,List.set_cons_succ,i64_w,i32_w]
          rfl
         refine take_ (i:=3) (N:=some 29) (v := ?_) (a' := ?_) #[true,true,true,true,false,false,false] rfl rfl (by kernel_rfl) (fun _ _ _ h => h) (Or.inl ⟨by rfl, ?_⟩) hHeld ?_ ?_
         rotate_left
         ·rintro w' ⟨s0,s1,s2,s3,s4⟩
          go_simp
          with_reducible rfl
         rotate_left
         ·simp only [Act.put,List.setIfInBounds_toArray,List.set_cons_zero,List.set_cons_succ,i64_w,i32_w]
          rfl
         refine one_ (i:=4) (N:=some 30) #[true,true,true,true,true,false,false] rfl rfl (by kernel_rfl) (by decide) (fun K hK => ?_)
         refine goes_ Try.func73 (by kernel_rfl) rfl #[.agg #[.bool a0_0, .int .u32 a0_1, .bool a0_2, .int .i64 a0_3, .slice A0_4 l0_4.length c0_4]] (by rfl) rfl rfl (by (try simp only [List.map_toArray,List.map_cons,List.map_nil]);first | done | rfl | (simp only [List.length_drop,List.length_take];rfl)) ?_
         with_reducible refine (spec_l1dataLen.calls a0_0 a0_1 a0_2 a0_3 _ _ l0_4 t187 _ ?side1 ?side2 A17.out).mono ?_
         (case side1 => repeat (first | exact (Kd.C_below HR0_4.out HB.out) | (with_reducible refine Kd.C_alloc ?_ _) | (with_reducible refine Kd.C_drewN ?_ _) | (with_reducible refine Kd.C_drew ?_)))
         (case side2 => exact HC0_4.out)
         rintro e w20 ⟨rfl,hb⟩
         refine ⟨_,rfl, ?_⟩
         have n0_:=Aside0.mk (blk_below (g:=gb186) (o := .cells #[.bool a0_0, .int .u32 a0_1, .bool a0_2, .int .i64 a0_3, .slice A0_4 l0_4.length c0_4] 25 (0,0)) (by (with_reducible repeat (first | refine blk_drewN ?_ _ | refine blk_drew ?_ | refine blk_alloc ?_ _));exact BK186.out) hb)
         have n1_:=Aside0.mk (below_step (by repeat (first | (with_reducible first | exact HB.out | apply below_alloc | apply pw_below_drewN | apply below_drew1 | refine below_set ?_ GE186.out) | exact HB.out)) hb)
         clear BK186
         clear HB
         have BK186:=n0_
         have HB:=n1_
         clear n0_ n1_
         (try clear hb)
         (try clear hb2)
         (try clear hk)
         (try clear hi)
         refine hK.out _ _ ⟨(blk_cell BK186.out 0).trans rfl,(blk_cell BK186.out 1).trans rfl,(blk_cell BK186.out 2).trans rfl,(blk_cell BK186.out 3).trans rfl,(blk_cell BK186.out 4).trans rfl⟩ (fun hHeld => ?_)
         clear hK K
         refine norm_ (a' := ?_) ?_ ?_
         rotate_left
         ·show Act.put _ (some 30) _ = _
          simp only [Act.put,List.setIfInBounds_toArray,List.set_cons_zero,List.set_cons_succ,i64_w,i32_w]
          rfl
         refine pure_ (i:=5) (N:=some 31) (v := ?_) (a' := ?_) #[true,true,true,true,true,true,false] rfl rfl (by kernel_rfl) (fun _ _ _ h => h) (Or.inl ⟨by rfl, ?_⟩) ?_ ?_
         rotate_left
         ·intro w'
          go_simp
          with_reducible rfl
         rotate_left
         ·simp only [Act.put,List.setIfInBounds_toArray,List.set_cons_zero,List.set_cons_succ,i64_w,i32_w]
          rfl
         refine pure_ (i:=6) (N:=some 2) (v := ?_) (a' := ?_) #[true,true,true,true,true,true,true] rfl rfl (by kernel_rfl) (fun _ _ _ h => h) (Or.inl ⟨by rfl, ?_⟩) ?_ ?_
         rotate_left
         ·intro w'
          go_simp
          with_reducible rfl
         rotate_left
         ·simp only [Act.put,List.setIfInBounds_toArray,List.set_cons_zero,List.set_cons_succ,i64_w,i32_w]
          rfl
         refine done_ (by kernel_rfl) ?_
         try go_wp2
         go_ret
         exact ⟨by first | rfl | (simp [errW_none,errW_some] <;> rfl) | (simp [*,errW_none,errW_some] <;> rfl),by repeat (first | (with_reducible first | exact HB.out | apply below_alloc | apply pw_below_drewN | apply below_drew1 | refine below_set ?_ GE186.out) | exact HB.out)⟩
end Go.Proofs.Ytdoclpgciadjaaa.P

namespace Go.Proofs.Ytdoclpgciadjaaa.P
open Go Go.RowKit Go.Proofs.YtdoclpgciadjaaaW.PrintWords
set_option linter.unusedVariables false
def isBit (c : UInt8) : Bool:=c == 48 || c == 49
def isBits (s : ByteArray) : Bool:=s.data.toList.all isBit
def BitsTo (s : ByteArray) (pos : Nat) : Prop := ∀ i (h : i < s.size),i < pos → isBit (s[i]'h) = true
theorem bitsTo_zero (s : ByteArray) : BitsTo s 0:=fun i _ h => absurd h (Nat.not_lt_zero i)
theorem bitsTo_succ {s : ByteArray} {pos : Nat} (h : BitsTo s pos) (hp : pos < s.size) (hb : isBit (s[pos]'hp) = true) : BitsTo s (pos + 1):=by
 intro i hi hlt
 by_cases e : i = pos
 ·subst e;exact hb
 ·exact h i hi (by omega)
theorem isBits_iff (s : ByteArray) : isBits s = true ↔ BitsTo s s.size:=by
 unfold isBits BitsTo
 rw [List.all_eq_true]
 constructor
 ·intro h i hi _
  exact h _ (by show s.data[i] ∈ _;simp)
 ·intro h x hx
  obtain ⟨i,hi,rfl⟩:=List.getElem_of_mem hx
  have hs : i < s.size:=by simpa using hi
  have h2:=h i hs hs
  rw [Array.getElem_toList]
  exact h2
theorem isBits_of (s : ByteArray) {pos : Nat} (hb : BitsTo s pos) (hp : ¬ pos < s.size) : isBits s = true :=
 (isBits_iff s).2 fun i hi _ => hb i hi (by omega)
theorem isBits_not (s : ByteArray) {pos : Nat} (hp : pos < s.size) (hn : isBit (s[pos]'hp) = false) : isBits s = false:=by
 cases h : isBits s with
 | false => rfl
 | true => have:=(isBits_iff s).1 h pos hp hp;rw [this] at hn;cases hn
theorem isBits_at {s : ByteArray} (h : isBits s = true) {pos : Nat} (hp : pos < s.size) : isBit (s[pos]'hp) = true:=(isBits_iff s).1 h pos hp hp
theorem isBit_cases {c : UInt8} (h : isBit c = true) : c = 48 ∨ c = 49:=by
 unfold isBit at h;simpa using h
theorem not_bit {c : UInt8} (h : isBit c = false) : c.toNat ≠ 48 ∧ c.toNat ≠ 49:=by
 unfold isBit at h
 rw [Bool.or_eq_false_iff] at h
 obtain ⟨h1,h2⟩:=h
 rw [beq_eq_false_iff_ne] at h1 h2
 exact ⟨fun e => h1 (UInt8.toNat_inj.1 e),fun e => h2 (UInt8.toNat_inj.1 e)⟩
theorem decode_notBit (s : ByteArray) (pos : Nat) (hp : pos < s.size) (hn : isBit (s[pos]'hp) = false) : ((((Utf8.decode s pos).1 : Nat) : Int) == 48) = false ∧ ((((Utf8.decode s pos).1 : Nat) : Int) == 49) = false:=by
 obtain ⟨h1,h2⟩:=not_bit hn
 by_cases ha : (s[pos]'hp).toNat < 128
 ·rw [decode_ascii s pos hp ha]
  constructor <;> rw [beq_eq_false_iff_ne] <;> simp only <;> omega
 ·have:=(decode_high s pos hp (by omega)).1
  constructor <;> rw [beq_eq_false_iff_ne] <;> omega
theorem next_bit {P : Program} (w : World) (s : ByteArray) (pos : Nat) (ty : TypeId) (hp : pos < s.size) {b : Nat} (hb : (s[pos]'hp).toNat = b) (hlt : b < 128) :
  (Instr.next (.pointer (some ⟨w.heap.size,0,none⟩)) true ty).run P (w.iter s pos) = .ok (.tuple #[.bool true, .int .i64 pos, .int .i32 b]) (w.iter s (pos + 1)):=by
 rw [run_next_ascii w s pos ty hp (by omega),hb]
theorem below_iter (w : World) (s : ByteArray) (pos : Nat) : Below w.heap.size w (w.iter s pos):=(Below.refl _ _).alloc (Nat.le_refl _) _
def crcI (r b : Int) : Int:=if (Go.bits .xor .i64 (Go.bits .and .i64 (r / 16384) 1) b) = 1 then Go.bits .xor .i64 (Go.bits .and .i64 (wrap64 (r * 2)) 32767) 17817 else Go.bits .and .i64 (wrap64 (r * 2)) 32767
def foldTo {α : Type} (f : α → Int → α) (z : α) (s : ByteArray) (pos : Nat) : α:=((bytesOf s).take pos).foldl f z
theorem foldTo_zero {α : Type} (f : α → Int → α) (z : α) (s : ByteArray) : foldTo f z s 0 = z:=by simp [foldTo]
theorem foldTo_succ {α : Type} (f : α → Int → α) (z : α) (s : ByteArray) (pos : Nat) (hp : pos < s.size) {b : Nat} (hb : (s[pos]'hp).toNat = b) : foldTo f z s (pos + 1) = f (foldTo f z s pos) b:=by
 have hl : pos < (bytesOf s).length:=by rw [bytesOf_length];exact hp
 have he : (bytesOf s)[pos]'hl = (b : Int):=by
  have h2 : (bytesOf s)[pos]? = some (b : Int):=by
   unfold bytesOf
   rw [List.getElem?_map,Array.getElem?_toList,Array.getElem?_eq_getElem (show pos < s.data.size from hp), ← hb]
   rfl
  rw [List.getElem?_eq_getElem hl] at h2
  exact Option.some.inj h2
 unfold foldTo
 rw [List.take_succ_eq_append_getElem hl,List.foldl_append,he]
 rfl
theorem foldTo_end {α : Type} (f : α → Int → α) (z : α) (s : ByteArray) (pos : Nat) (hp : ¬ pos < s.size) : foldTo f z s pos = (bytesOf s).foldl f z:=by
 unfold foldTo
 rw [List.take_of_length_le (by rw [bytesOf_length];omega)]
def crcOf (s : ByteArray) : Int:=(bytesOf s).foldl (fun r c => crcI r (c - 48)) 0
def stuffStep (st : List Int × Int × Int) (c : Int) : List Int × Int × Int :=
 if (if c = st.2.2 then st.2.1 + 1 else 1) = 5 then (st.1 ++ [c] ++ [97 - c],1,97 - c) else (st.1 ++ [c],(if c = st.2.2 then st.2.1 + 1 else 1),c)
def stuffTo (s : ByteArray) (pos : Nat) : List Int × Int × Int:=foldTo stuffStep ([],0,120) s pos
def stuffL (l : List Int) : List Int:=(l.foldl stuffStep ([],0,120)).1
theorem stuffTo_zero (s : ByteArray) : stuffTo s 0 = ([],0,120):=foldTo_zero _ _ _
theorem stuffTo_succ (s : ByteArray) (pos : Nat) (hp : pos < s.size) {b : Nat} (hb : (s[pos]'hp).toNat = b) : stuffTo s (pos + 1) = stuffStep (stuffTo s pos) b:=foldTo_succ _ _ _ _ hp hb
theorem stuffTo_end (s : ByteArray) (pos : Nat) (hp : ¬ pos < s.size) : (stuffTo s pos).1 = stuffL (bytesOf s):=by
 unfold stuffTo stuffL;rw [foldTo_end _ _ _ _ hp]
theorem foldTo_over {α : Type} (f : α → Int → α) (z : α) (s : ByteArray) (pos : Nat) (hp : ¬ pos < s.size) : foldTo f z s (pos + 1) = foldTo f z s pos:=by
 rw [foldTo_end _ _ _ _ hp,foldTo_end _ _ _ _ (by omega)]
theorem foldTo_inv {α : Type} (f : α → Int → α) (z : α) (s : ByteArray) (I : Nat → α → Prop) (h0 : I 0 z) (h1 : ∀ n a c,I n a → I (n + 1) (f a c)) (hm : ∀ n a,I n a → I (n + 1) a) (pos : Nat) : I pos (foldTo f z s pos):=by
 induction pos with
 | zero => rw [foldTo_zero];exact h0
 | succ n ih =>
  by_cases hp : n < s.size
  ·rw [foldTo_succ f z s n hp rfl];exact h1 _ _ _ ih
  ·rw [foldTo_over f z s n hp];exact hm _ _ ih
theorem stuffTo_bounds (s : ByteArray) (pos : Nat) : (stuffTo s pos).1.length ≤ 2 * pos ∧ 0 ≤ (stuffTo s pos).2.1 ∧ (stuffTo s pos).2.1 ≤ pos:=by
 refine foldTo_inv stuffStep ([],0,120) s (fun n a => a.1.length ≤ 2 * n ∧ 0 ≤ a.2.1 ∧ a.2.1 ≤ n) ⟨by simp,by simp,by simp⟩ (fun n a c h => ?_) (fun n a h => ⟨by omega,h.2.1,by omega⟩) pos
 obtain ⟨h1,h2,h3⟩:=h
 have hr : 0 ≤ (if c = a.2.2 then a.2.1 + 1 else 1) ∧ (if c = a.2.2 then a.2.1 + 1 else 1) ≤ (n : Int) + 1:=by split <;> omega
 unfold stuffStep
 generalize (if c = a.2.2 then a.2.1 + 1 else 1) = run at *
 split
 ·exact ⟨by simp;omega,by simp,by simp;omega⟩
 ·exact ⟨by simp;omega,hr.1,by have:=hr.2;simp only [];omega⟩
def destuffL : List Int → Int → Int → Int → List Int → List Int × Int
 | [],_,_,_,out => (out, -1)
 | c :: l,i,run,last,out => if run = 5 then (if c = last then (out,i) else destuffL l (i + 1) 1 c out) else destuffL l (i + 1) (if c = last then run + 1 else 1) c (out ++ [c])
theorem drop_cons (s : ByteArray) (pos : Nat) (hp : pos < s.size) {b : Nat} (hb : (s[pos]'hp).toNat = b) : (bytesOf s).drop pos = (b : Int) :: (bytesOf s).drop (pos + 1):=by
 have hl : pos < (bytesOf s).length:=by rw [bytesOf_length];exact hp
 rw [List.drop_eq_getElem_cons hl]
 congr 1
 have h2 : (bytesOf s)[pos]? = some (b : Int):=by
  unfold bytesOf
  rw [List.getElem?_map,Array.getElem?_toList,Array.getElem?_eq_getElem (show pos < s.data.size from hp), ← hb]
  rfl
 rw [List.getElem?_eq_getElem hl] at h2
 exact Option.some.inj h2
theorem drop_end (s : ByteArray) (pos : Nat) (hp : ¬ pos < s.size) : (bytesOf s).drop pos = []:=List.drop_eq_nil_of_le (by rw [bytesOf_length];omega)
structure DesAt (s : ByteArray) (R : List Int × Int) (pos : Nat) (out : List Int) (run last : Int) : Prop where
 eq : destuffL ((bytesOf s).drop pos) pos run last out = R
 len : out.length ≤ pos
 lo : 0 ≤ run
 hi : run ≤ 5
theorem DesAt.zero (s : ByteArray) : DesAt s (destuffL (bytesOf s) 0 0 120 []) 0 [] 0 120:=⟨by rw [List.drop_zero];rfl,by simp,by omega,by omega⟩
theorem DesAt.step {s : ByteArray} {R : List Int × Int} {pos : Nat} {out : List Int} {run last : Int} (h : DesAt s R pos out run last) (hp : pos < s.size) {b : Nat} (hb : (s[pos]'hp).toNat = b) (hr : run ≠ 5) : DesAt s R (pos + 1) (out ++ [(b : Int)]) (if (b : Int) = last then run + 1 else 1) b:=by
 have e:=h.eq
 have h1:=h.len;have h2:=h.lo;have h3:=h.hi
 rw [drop_cons s pos hp hb,destuffL,if_neg hr] at e
 refine ⟨e,by rw [List.length_append];simp;omega, ?_, ?_⟩
 ·split <;> omega
 ·split <;> omega
theorem DesAt.skip {s : ByteArray} {R : List Int × Int} {pos : Nat} {out : List Int} {last : Int} (h : DesAt s R pos out 5 last) (hp : pos < s.size) {b : Nat} (hb : (s[pos]'hp).toNat = b) (hl : (b : Int) ≠ last) : DesAt s R (pos + 1) out 1 b:=by
 have e:=h.eq
 have h1:=h.len
 rw [drop_cons s pos hp hb,destuffL,if_pos rfl,if_neg hl] at e
 exact ⟨e,by omega,by omega,by omega⟩
theorem DesAt.stop {s : ByteArray} {R : List Int × Int} {pos : Nat} {out : List Int} {last : Int} (h : DesAt s R pos out 5 last) (hp : pos < s.size) {b : Nat} (hb : (s[pos]'hp).toNat = b) (hl : (b : Int) = last) : R = (out,(pos : Int)):=by
 have e:=h.eq
 rw [drop_cons s pos hp hb,destuffL,if_pos rfl,if_pos hl] at e
 exact e.symm
theorem DesAt.over {s : ByteArray} {R : List Int × Int} {pos : Nat} {out : List Int} {run last : Int} (h : DesAt s R pos out run last) (hp : ¬ pos < s.size) : R = (out, -1):=by
 have e:=h.eq
 rw [drop_end s pos hp,destuffL] at e
 exact e.symm
end Go.Proofs.Ytdoclpgciadjaaa.P

namespace Go.Proofs.Ytdoclpgciadjaaa.P
open Go.RowKit Go.Proofs.YtdoclpgciadjaaaW.PrintWords Go.Proofs.YtdoclpgciadjaaaW.PrintLast Go.Proofs.YtdoclpgciadjaaaW.PrintMore
set_option linter.unusedVariables false
set_option linter.unusedSimpArgs false
def dataB (rtr : Bool) (dlc : Int) : Int:=if rtr = true then 0 else (if 8 < dlc then 8 else dlc)
theorem impl_dataBytes.same (a0 : Bool) (a1 : Int) (w : World) :
  Calls Try.prog 105 #[.bool a0, .int .i64 a1] w fun e w' => e = .returned (.int .i64 (dataB a0 a1)) ∧ w' = w:=by
 unfold dataB
 cases a0
 ·by_cases c : 8 < a1
  ·have c1 : decide (8 < a1) = true:=decide_eq_true c
   go_enter Try.func105,Try.ntmps105
   go_wp2
   go_ret
   exact ⟨rfl,rfl⟩
  ·have c1 : decide (8 < a1) = false:=decide_eq_false c
   go_enter Try.func105,Try.ntmps105
   go_wp2
   go_ret
   exact ⟨rfl,rfl⟩
 ·go_enter Try.func105,Try.ntmps105
  go_wp2
  go_ret
  exact ⟨rfl,rfl⟩
end Go.Proofs.Ytdoclpgciadjaaa.P

namespace Go.Proofs.Ytdoclpgciadjaaa.P
open Go.RowKit Go.Proofs.YtdoclpgciadjaaaW.PrintWords Go.Proofs.YtdoclpgciadjaaaW.PrintLast Go.Proofs.YtdoclpgciadjaaaW.PrintMore
set_option linter.unusedVariables false
set_option linter.unusedSimpArgs false
def vtop (ext : Bool) : Int:=if ext = true then 536870912 else 2048
def validF (ext : Bool) (id : Int) (rtr : Bool) (dlc : Int) (n : Nat) : Bool:=decide (id < vtop ext) && (decide (0 ≤ dlc) && (decide (dlc ≤ 15) && ((n : Int) == dataB rtr dlc)))
def impl_ValidFrame.f (a0_0 : Bool) (a0_1 : Int) (a0_2 : Bool) (a0_3 : Int) (l0_4 : List Int) : Option (Bool):=some (validF a0_0 a0_1 a0_2 a0_3 l0_4.length)
set_option maxHeartbeats 2000000 in
theorem impl_ValidFrame.any (a0_0 : Bool) (a0_1 : Int) (a0_2 : Bool) (a0_3 : Int) (A0_4 : Option Addr) (c0_4 n : Nat) (w : World) (hn : n ≤ 9223372036854775807) :
  Calls Try.prog 47 #[.agg #[.bool a0_0, .int .u32 a0_1, .bool a0_2, .int .i64 a0_3, .slice A0_4 n c0_4]] w fun e w' => e = .returned (.bool (validF a0_0 a0_1 a0_2 a0_3 n)) ∧ Below w.heap.size w w':=by
 obtain ⟨b1,h1⟩ : ∃ b,decide (a0_1 < vtop a0_0) = b:=⟨_,rfl⟩
 obtain ⟨b2,h2⟩ : ∃ b,decide (0 ≤ a0_3) = b:=⟨_,rfl⟩
 obtain ⟨b3,h3⟩ : ∃ b,decide (a0_3 ≤ 15) = b:=⟨_,rfl⟩
 obtain ⟨b4,h4⟩ : ∃ b,((n : Int) == dataB a0_2 a0_3) = b:=⟨_,rfl⟩
 obtain ⟨r,hr⟩ : ∃ r,validF a0_0 a0_1 a0_2 a0_3 n = r:=⟨_,rfl⟩
 have HR : Hid ((b1 && (b2 && (b3 && b4))) = r):=by
  refine Lib.hid ?_
  rw [← hr, ← h1, ← h2, ← h3, ← h4];rfl
 rw [hr]
 clear hr
 have e0 : vtop false = 2048:=rfl
 have e1 : vtop true = 536870912:=rfl
 cases a0_0
 all_goals (first | rw [e0] at h1 | rw [e1] at h1);clear e0 e1
 all_goals cases b1
 any_goals cases b2
 any_goals cases b3
 all_goals
  go_enter Try.func47,Try.ntmps47
  go_wp2
  go_quiet ((go_at_call 105;exact Calls.quiet_of_same (impl_dataBytes.same _ _ _)))
  go_wp2
  go_ret
  exact ⟨by rw [← HR.out];rfl,((Below.refl _ _).alloc (Nat.le_refl _) _).trans (pw_below_drewN (Below.refl _ _) _)⟩
theorem impl_ValidFrame.calls (a0_0 : Bool) (a0_1 : Int) (a0_2 : Bool) (a0_3 : Int) (A0_4 : Option Addr) (c0_4 : Nat) (l0_4 : List Int) (r : Bool) (w : World) (hr0_4 : Kd.C (Kd.int .u8) w A0_4 l0_4.length l0_4) (hc0_4 : l0_4.length ≤ c0_4) (h : impl_ValidFrame.f a0_0 a0_1 a0_2 a0_3 l0_4 = some r) :
  Calls Try.prog 47 #[.agg #[.bool a0_0, .int .u32 a0_1, .bool a0_2, .int .i64 a0_3, .slice A0_4 l0_4.length c0_4]] w fun e w' => e = .returned (.bool r) ∧ Below w.heap.size w w':=by
 obtain rfl:=Option.some.inj h
 exact impl_ValidFrame.any a0_0 a0_1 a0_2 a0_3 A0_4 c0_4 l0_4.length w hr0_4.2.1
end Go.Proofs.Ytdoclpgciadjaaa.P

namespace Go.Proofs.Ytdoclpgciadjaaa.P
open Go Go.RowKit Go.Proofs.YtdoclpgciadjaaaW.PrintWords
set_option linter.unusedVariables false
theorem infoU8 : (Try.prog.info? 5).map (fun i => (i.zero,i.size,i.bytes)) = some (some (.int .u8 0),1,1):=by kernel_rfl
theorem R_iterAt {α : Type} {d : Kd α} {e : Nat} {w : World} {base : Nat} {ok : Nat → Prop} {v : Value} {xs : List α} (h : d.R e w base ok v xs) {k : Nat} {s : ByteArray} {pos : Nat} (hk : w.heap[k]? = some (.stringIter s pos)) (pos' : Nat) :
  d.R e (w.iterAt k s pos') base ok v xs :=
 Kd.R_mono (Kd.R_move (Kd.R_bound h) (fun j hj => by
  obtain ⟨_,_,_,q,_,cells,hc⟩:=hj
  refine Lib.iterAt_other w k j s pos' ?_
  rintro rfl
  rw [hk] at hc
  cases hc)) (fun _ hj => hj.1)
theorem iter_grown {α : Type} {d : Kd α} {e : Nat} {W w1 : World} {base : Nat} {ok : Nat → Prop} {v : Value} {xs : List α} (h : d.R e W base ok v xs) (hg : W.grownBy w1 v.ownBlock) {k : Nat} {s : ByteArray} {pos : Nat} (hk : W.heap[k]? = some (.stringIter s pos)) : w1.heap[k]? = some (.stringIter s pos):=by
 rw [hg.block k (Array.getElem?_eq_some_iff.1 hk).1 ?_,hk]
 intro e1
 obtain ⟨inner,ho⟩:=Kd.R_own h
 obtain ⟨cells,hc⟩:=own_typed ho k e1.symm
 rw [hk] at hc
 cases hc
theorem iter_new (w : World) (s : ByteArray) (pos : Nat) : (w.iter s pos).heap[w.heap.size]? = some (.stringIter s pos):=World.iter_heap w s pos
theorem next_bit_at {P : Program} (w : World) (k : Nat) (s : ByteArray) (pos : Nat) (ty : TypeId) (hk : w.heap[k]? = some (.stringIter s pos)) (hp : pos < s.size) {b : Nat} (hb : (s[pos]'hp).toNat = b) (hlt : b < 128) :
  (Instr.next (.pointer (some ⟨k,0,none⟩)) true ty).run P w = .ok (.tuple #[.bool true, .int .i64 pos, .int .i32 b]) (w.iterAt k s (pos + 1)):=by
 rw [Lib.run_next_ascii_at w k s pos ty hk hp (by omega),hb]
theorem R_iter {α : Type} {d : Kd α} {e : Nat} {w : World} {base : Nat} {ok : Nat → Prop} {v : Value} {xs : List α} (h : d.R e w base ok v xs) (s : ByteArray) (pos : Nat) : d.R e (w.iter s pos) base ok v xs:=Kd.R_below h (below_iter w s pos)
theorem iterPos_at {w : World} {k : Nat} {s : ByteArray} {pos : Nat} (hk : w.heap[k]? = some (.stringIter s pos)) : w.iterPos k = pos:=by
 unfold World.iterPos;rw [hk]
theorem make_R {P : Program} {α : Type} (d : Kd α) (w : World) (base : Nat) (t e : TypeId) (z : Value) (bytes : Nat) (ht : P.underlying t = some (.slice e)) (hinfo : (P.info? e).map (fun i => (i.zero,i.size,i.bytes)) = some (some z,d.sz,bytes)) (c : Nat) (hb : bytes * c ≤ 281474976710656) (h63 : c ≤ maxLen) (hbase : base ≤ w.heap.size) :
  ∃ w' cap,(Instr.makeSlice t (.int .i64 0) (.int .i64 (c : Int))).run P w = .ok (.slice (some ⟨w.heap.size,0,none⟩) 0 cap) w' ∧
   d.R e w' base (fun _ => True) (.slice (some ⟨w.heap.size,0,none⟩) 0 cap) [] ∧ w.grownBy w' none:=by
 obtain ⟨i,hi,hh⟩:=Option.map_eq_some_iff.1 hinfo
 simp only [Prod.mk.injEq] at hh
 obtain ⟨hz,hs,hby⟩:=hh
 obtain ⟨w',h1,h2,h3⟩:=run_make_own (P:=P) w base t e i z d.sz ht hi hz hs .i64 .i64 c (by rw [hby];exact hb) h63 hbase
 exact ⟨w',c,h1,⟨fun _ _ => trivial, [],h2,Reps.none _ _⟩,h3⟩
end Go.Proofs.Ytdoclpgciadjaaa.P

namespace Go.Proofs.Ytdoclpgciadjaaa.P
open Go Go.RowKit Go.Proofs.YtdoclpgciadjaaaW.PrintWords
set_option linter.unusedVariables false
def b2 (b : Bool) : Int:=if b then 1 else 0
theorem w64 {x : Int} (h0 : 0 ≤ x) (h1 : x < 1000000000) : wrap64 x = x:=by unfold wrap64;omega
theorem rd_set (v : List Int) (i : Nat) (x : Int) (t : Nat) (hi : i < v.length) : rd (v.set i x) (t : Int) = if t = i then x else rd v (t : Int):=by
 unfold rd
 rw [Int.toNat_natCast,List.getD_eq_getElem?_getD,List.getD_eq_getElem?_getD,List.getElem?_set]
 by_cases e : i = t
 ·subst e;simp [hi]
 ·rw [if_neg e,if_neg (fun h => e h.symm)]
theorem rd_snoc (v : List Int) (x : Int) (t : Nat) : rd (v ++ [x]) (t : Int) = if t < v.length then rd v t else if t = v.length then x else 0:=by
 unfold rd
 rw [Int.toNat_natCast,List.getD_eq_getElem?_getD,List.getD_eq_getElem?_getD,List.getElem?_append]
 by_cases h : t < v.length
 ·rw [if_pos h,if_pos h]
 ·rw [if_neg h,if_neg h]
  by_cases e : t = v.length
  ·rw [if_pos e,e,Nat.sub_self];rfl
  ·rw [if_neg e,List.getElem?_eq_none (by simp;omega)];rfl
theorem rd_get (v : List Int) (t : Nat) (h : t < v.length) : v[t]? = some (rd v (t : Int)):=by
 unfold rd
 rw [Int.toNat_natCast,List.getD_eq_getElem?_getD,List.getElem?_eq_getElem h];rfl
def SameTo (x l : List Int) (i : Nat) : Prop:=x.length = l.length ∧ ∀ t,t < i → x[t]? = l[t]?
theorem SameTo.zero {x l : List Int} (h : x.length = l.length) : SameTo x l 0:=⟨h,fun t ht => absurd ht (Nat.not_lt_zero t)⟩
theorem SameTo.all {x l : List Int} {i : Nat} (h : SameTo x l i) (hi : l.length ≤ i) : x = l:=by
 apply List.ext_getElem?
 intro t
 by_cases c : t < l.length
 ·exact h.2 t (by omega)
 ·rw [List.getElem?_eq_none (by have:=h.1;omega),List.getElem?_eq_none (by omega)]
theorem SameTo.next {x l : List Int} {i : Nat} (h : SameTo x l i) (hi : i < l.length) : SameTo (x.set i (rd l (i : Int))) l (i + 1):=by
 refine ⟨by rw [List.length_set];exact h.1,fun t ht => ?_⟩
 rw [List.getElem?_set]
 by_cases e : i = t
 ·subst e
  rw [if_pos rfl,if_pos (by have:=h.1;omega),rd_get l i hi]
 ·rw [if_neg e]
  exact h.2 t (by omega)
theorem ev_neg {α : Type} {c : Prop} [Decidable c] {f g : Nat → Option α} {r : α} (h : ¬ c) (k : Ev g r) : Ev (fun n => if c then f n else g n) r :=
 Ev.congr (fun _ => if_neg h) k
theorem ev_pos {α : Type} {c : Prop} [Decidable c] {f g : Nat → Option α} {r : α} (h : c) (k : Ev f r) : Ev (fun n => if c then f n else g n) r :=
 Ev.congr (fun _ => if_pos h) k
theorem ev_some {α β : Type} {a : Option β} {b : β} {f : Nat → β → Option α} {r : α} (h : a = some b) (k : Ev (fun n => f n b) r) : Ev (fun n => a.bind (f n)) r :=
 Ev.congr (fun _ => by rw [h];rfl) k
end Go.Proofs.Ytdoclpgciadjaaa.P

namespace Go.Proofs.Ytdoclpgciadjaaa.P
open Go Go.RowKit Go.Proofs.YtdoclpgciadjaaaW.PrintWords
set_option linter.unusedVariables false
def RowM (e : TypeId) (w : World) (base : Nat) (v : Value) (xs : List Int) : Prop :=
 w.ownsRow base e 1 v xs.length (nums .u8 xs) ∨
 ∃ g cap cur fz,v = .slice (some ⟨g,0,none⟩) xs.length cap ∧ base ≤ g ∧ w.heap[g]? = some (.cells cur e fz) ∧ cap ≤ fz.1 ∧ xs.length ≤ cap ∧ cap ≤ maxLen ∧ cur.size = cap ∧ cur.toList.take xs.length = nums .u8 xs
theorem RowM.typed {e : TypeId} {w : World} {base : Nat} {v : Value} {xs : List Int} (h : RowM e w base v xs) {k : Nat} (hk : v.ownBlock = some k) : base ≤ k ∧ k < w.heap.size ∧ ∃ cur fz,w.heap[k]? = some (.cells cur e fz):=by
 rcases h with h | ⟨g,cap,cur,fz,rfl,hb,hh,_⟩
 ·obtain ⟨cells,hc⟩:=own_typed h k hk
  exact ⟨own_base h k hk,own_lt h k hk,cells,_,hc⟩
 ·obtain rfl : g = k:=Option.some.inj hk
  exact ⟨hb,(Array.getElem?_eq_some_iff.1 hh).1,cur,fz,hh⟩
theorem RowM.slice {e : TypeId} {w : World} {base : Nat} {v : Value} {xs : List Int} (h : RowM e w base v xs) : ∃ A n c,v = .slice A n c:=by
 rcases h with h | ⟨g,cap,cur,fz,rfl,_⟩
 ·obtain ⟨A,c,e⟩:=own_slice h
  exact ⟨A,_,c,e⟩
 ·exact ⟨_,_,_,rfl⟩
theorem RowM.move {e : TypeId} {w w1 : World} {base : Nat} {v : Value} {xs : List Int} (h : RowM e w base v xs) (hm : ∀ k,v.ownBlock = some k → w1.heap[k]? = w.heap[k]?) : RowM e w1 base v xs:=by
 rcases h with h | ⟨g,cap,cur,fz,rfl,hb,hh,r⟩
 ·exact .inl (own_move h hm)
 ·exact .inr ⟨g,cap,cur,fz,rfl,hb,(hm g rfl).trans hh,r⟩
structure Fr (w w' : World) (p : Nat) (row row' : Option Nat) : Prop where
 os : w'.os = w.os
 tape : w'.tape = w.tape
 output : w'.output = w.output
 size : w.heap.size ≤ w'.heap.size
 block : ∀ k,k < w.heap.size → k ≠ p → some k ≠ row → w'.heap[k]? = w.heap[k]?
 goes : row' = row ∨ ∃ b,row' = some b ∧ w.heap.size ≤ b
theorem Fr.refl (w : World) (p : Nat) (row : Option Nat) : Fr w w p row row:=⟨rfl,rfl,rfl,Nat.le_refl _,fun _ _ _ _ => rfl, .inl rfl⟩
theorem Fr.trans {w w1 w2 : World} {p : Nat} {r r1 r2 : Option Nat} (h : Fr w w1 p r r1) (k : Fr w1 w2 p r1 r2) : Fr w w2 p r r2:=by
 refine ⟨k.os.trans h.os,k.tape.trans h.tape,k.output.trans h.output,Nat.le_trans h.size k.size,fun j hj hp hr => ?_, ?_⟩
 ·refine (k.block j (Nat.lt_of_lt_of_le hj h.size) hp ?_).trans (h.block j hj hp hr)
  rcases h.goes with e | ⟨b,e,hb⟩
  ·rw [e];exact hr
  ·rw [e];intro e2;have:=Option.some.inj e2;omega
 ·rcases k.goes with e | ⟨b,e,hb⟩
  ·rw [e];exact h.goes
  ·exact .inr ⟨b,e,Nat.le_trans h.size hb⟩
theorem Fr.below {B : Nat} {w0 w w' : World} {p : Nat} {r r' : Option Nat} (h : Fr w w' p r r') (hb : Below B w0 w) (hB : B ≤ w.heap.size) (hp : B ≤ p) (hr : ∀ k,r = some k → B ≤ k) : Below B w0 w' :=
 hb.trans ⟨h.os,h.tape,h.output,h.size,fun k hk => h.block k (by omega) (by omega) (fun e => by have:=hr k e.symm;omega)⟩
theorem nums_one (x : Int) : nums .u8 [x] = [.int .u8 x]:=rfl
theorem RowM.append {P : Program} {ops : Array Oper} {rest : List Oper} {o : Oper} {a : Act} {Q : Exit → Act → World → Prop} {W : World} (base : Nat) (hgd : o.guard = none) (s x : Operand) (t e : TypeId)
  (ho : o.op = .call { callee := .builtin .append,args := #[s,x],argTypes := #[t,t] })
  (ht : P.underlying t = some (.slice e)) (hinfo : (P.info? e).map (fun i => (i.zero,i.size,i.bytes)) = some (some (.int .u8 0),1,1))
  (v : Value) (xs : List Int) (b : Int) (hs : a.eval s = v) (hx : a.eval x = .slice (some ⟨W.heap.size,0,none⟩) 1 1)
  (HO : RowM e W base v xs) (hbase : base ≤ W.heap.size) (hl : xs.length + 1 ≤ 1000000)
  (h : ∀ v1 w1,RowM e w1 base v1 (xs ++ [b]) → Fr W w1 W.heap.size v.ownBlock v1.ownBlock → wpList P ops Q rest (a.put o.dst v1) w1) :
  wpList P ops Q (o :: rest) a (W.alloc (.cells #[.int .u8 b] e)):=by
 have hn : (xs ++ [b]).length = xs.length + 1:=by simp
 rcases HO with HO | ⟨g,cap,cur,fz,rfl,hb,hh,hfz,hlc,hcm,hcs,htk⟩
 ·refine print_append_cells (w0:=W) (ys := [.int .u8 b]) base hgd s x t e (.int .u8 0) 1 1 ho ht hinfo rfl (by decide) (by decide) v xs.length (nums .u8 xs) hs hx rfl (by simp [Value.oneCell']) HO (Below.refl _ _) hbase (by omega) ?_
  intro v1 w1 hown _ hg hat
  refine h v1 w1 (.inl (by rw [hn,nums_append];exact hown)) ⟨hg.os,hg.tape,hg.output,hg.size,fun k hk _ hr => hg.block k hk hr, ?_⟩
  rcases hat with e1 | ⟨c,e1,hc⟩
  ·exact .inl e1
  ·exact .inr ⟨c,e1,hc⟩
 ·obtain ⟨i0,hi,hzz⟩:=Option.map_eq_some_iff.1 hinfo
  simp only [Prod.mk.injEq] at hzz
  obtain ⟨hz0,hz1,hz2⟩:=hzz
  have hgl : g < W.heap.size:=(Array.getElem?_eq_some_iff.1 hh).1
  have hhA : (W.alloc (.cells #[.int .u8 b] e)).heap[g]? = some (.cells cur e fz):=(heap_alloc_old W _ hgl).trans hh
  have hcell : ∀ j,(W.alloc (.cells #[.int .u8 b] e)).cell? ⟨g,j,none⟩ = cur[j]?:=fun j => by simp only [World.cell?,hhA];simp
  have hol : (nums .u8 xs).length = xs.length * 1:=by rw [nums_length,Nat.mul_one]
  refine wpList_append_arg (W.alloc (.cells #[.int .u8 b] e)) hgd s x t ho e i0 (.int .u8 0) 1 1 ht hi hz0 hz1 hz2 rfl (by decide) g 0 xs.length cap (nums .u8 xs) hs hol (fun j u hj => ?_) ⟨W.heap.size,0,none⟩ 1 1 [.int .u8 b] hx rfl
   (by simpa using World.news_of_block (cs := #[.int .u8 b]) (t:=e) (fr:=(0,0)) (heap_alloc_new W (.cells #[.int .u8 b] e))) (by simp [Value.oneCell']) (fun hroom j hj => ⟨?_, ?_⟩) (by simp only [maxLen];omega) (by omega) (fun hroom => ?_) (fun _ v1 w1 hown hg => ?_)
  ·rw [Nat.zero_add,hcell]
   have hjl : j < xs.length:=by have:=(List.getElem?_eq_some_iff.1 hj).1;rw [nums_length] at this;exact this
   rw [← htk,List.getElem?_take_of_lt hjl,Array.getElem?_toList] at hj
   exact hj
  ·have hj1 : j < 1:=hj
   rw [hcell,Array.getElem?_eq_getElem (by omega)];rfl
  ·have hj1 : j < 1:=hj
   obtain ⟨lo,hi'⟩:=fz
   simp only [World.frozen?,hhA]
   have hlo : cap ≤ lo:=hfz
   rw [decide_eq_false (show ¬ lo ≤ 0 + xs.length * 1 + j by omega),Bool.false_and]
  ·have e0 : 0 + xs.length * 1 = xs.length:=by omega
   rw [e0]
   have hset : ((W.alloc (.cells #[.int .u8 b] e)).setCell ⟨g,xs.length,none⟩ (.int .u8 b)).heap[g]? = some (.cells (cur.setIfInBounds xs.length (.int .u8 b)) e fz):=by
    simp only [World.setCell,Array.getElem?_modify,hhA]
    simp
   have hs1 : ((W.alloc (.cells #[.int .u8 b] e)).setCell ⟨g,xs.length,none⟩ (.int .u8 b)).heap.size = W.heap.size + 1:=by simp
   refine h _ _ (.inr ⟨g,cap,_,fz,by rw [hn],hb,hset,hfz,by rw [hn];exact hroom,hcm,by simp [hcs], ?_⟩) ⟨rfl,rfl,rfl, ?_,fun k hk _ hr => ?_, .inl rfl⟩
   ·rw [hn,nums_append,nums_one,Array.toList_setIfInBounds,List.take_add_one,List.take_set_of_le (Nat.le_refl _),htk,List.getElem?_set_self (by simpa using (show xs.length < cur.size by omega))]
    rfl
   ·show W.heap.size ≤ ((W.alloc (.cells #[.int .u8 b] e)).setCell ⟨g,xs.length,none⟩ (.int .u8 b)).heap.size
    rw [hs1];omega
   ·show ((W.alloc (.cells #[.int .u8 b] e)).setCell ⟨g,xs.length,none⟩ (.int .u8 b)).heap[k]? = W.heap[k]?
    rw [Below.heap_setCell _ _ _ k (fun e1 => hr (by rw [e1];rfl)),heap_alloc_old W _ hk]
  ·have e1 : nums .u8 xs ++ [Value.int .u8 b] = nums .u8 (xs ++ [b]):=by rw [nums_append,nums_one]
   rw [e1] at hown
   have hw : w1.ownsRow base e 1 v1 (xs ++ [b]).length (nums .u8 (xs ++ [b])):=by rw [hn];exact own_weaken hown (by simp;omega)
   refine h v1 w1 (.inl hw) ⟨hg.os,hg.tape,hg.output,Nat.le_trans (by simp) hg.size,fun k hk hk2 hr => ?_, ?_⟩
   ·rw [hg.block k (by simp;omega) (by simp),heap_alloc_old W _ hk]
   ·rcases hown.2 with ⟨_,h0⟩ | ⟨g',c',cu',rfl,hb',_⟩
    ·omega
    ·exact .inr ⟨g',rfl,by simp at hb';omega⟩
theorem RowM.string {P : Program} {w : World} {base : Nat} {src dst e' e : TypeId} {v : Value} {xs : List Int} (hs : P.underlying src = some (.slice e)) (he : P.underlying e = some (.int .u8)) (hd : P.underlying dst = some .string) (h : RowM e' w base v xs) : (convert src dst v).run P w = .ok (.string (strOfNums xs)) w:=by
 rcases h with h | ⟨g,cap,cur,fz,rfl,hb,hh,hfz,hlc,hcm,hcs,htk⟩
 ·exact own_string hs he hd h
 ·refine run_convert_bytes_arg w src e hs he g 0 xs.length cap xs rfl (fun i hi => ?_) dst hd
  have h1 : (nums .u8 xs)[i]? = some (.int .u8 (xs.getD i 0)):=by simp [nums,List.getElem?_eq_getElem hi,List.getD_eq_getElem?_getD]
  rw [← htk,List.getElem?_take_of_lt hi,Array.getElem?_toList] at h1
  simp only [World.cell?,hh]
  simpa using h1
def numL (u : Nat) : Nat → List Int
 | 0 => []
 | n + 1 => (48 + ((u / 2 ^ n % 2 : Nat) : Int)) :: numL u n
theorem numL_length (u : Nat) : ∀ n,(numL u n).length = n
 | 0 => rfl
 | n + 1 => by rw [numL,List.length_cons,numL_length u n]
theorem Fr.store {w w1 : World} {p : Nat} {r : Option Nat} {v1 : Value} (h : Fr w w1 w.heap.size r v1.ownBlock) (hp : p < w.heap.size) : Fr w (w1.setCell ⟨p,0,none⟩ v1) p r v1.ownBlock :=
 ⟨h.os,h.tape,h.output,by simpa using h.size,fun k hk hkp hr => by
  rw [Below.heap_setCell _ _ _ k hkp];exact h.block k hk (by omega) hr,h.goes⟩
theorem cell_block {w : World} {p : Nat} {v : Value} {t : TypeId} (h : w.heap[p]? = some (.cells #[v] t (0,0))) : w.cell? ⟨p,0,none⟩ = some v:=by simp only [World.cell?,h];simp
theorem frozen_block {w : World} {p : Nat} {v : Value} {t : TypeId} (h : w.heap[p]? = some (.cells #[v] t (0,0))) (j : Nat) : w.frozen? ⟨p,j,none⟩ = false:=by simp only [World.frozen?,h];simp
theorem set_block {w : World} {p : Nat} {v u : Value} {t : TypeId} (h : w.heap[p]? = some (.cells #[v] t (0,0))) : (w.setCell ⟨p,0,none⟩ u).heap[p]? = some (.cells #[u] t (0,0)):=by
 simp only [World.setCell,Array.getElem?_modify,h]
 simp
theorem RowM.bytes (w : World) (e : TypeId) (s : ByteArray) (base : Nat) (hb : base ≤ w.heap.size) (hs : s.size ≤ maxLen) : RowM e (Lib.bytesWorld w e s) base (.slice (some ⟨w.heap.size,0,none⟩) s.size (grownCap w s.size 0 e)) (bytesOf s):=by
 have hg:=grownCap_ge w s.size 0 e
 have hz : (Lib.bytesCells w e s).size = grownCap w s.size 0 e:=by simp [Lib.bytesCells];have : s.data.size = s.size:=rfl;omega
 refine .inr ⟨w.heap.size,_,_,_,by rw [bytesOf_length],hb,Lib.bytesWorld_at_new w e s,by rw [hz];exact Nat.le_refl _,by rw [bytesOf_length];exact hg,grownCap_le_maxLen w s.size 0 e hs,hz, ?_⟩
 rw [bytesOf_length]
 unfold Lib.bytesCells nums bytesOf
 rw [Array.toList_append,List.take_append_of_le_length (by simp),List.take_of_length_le (by simp)]
 simp
structure BW (e t : TypeId) (w wr : World) (b p : Nat) (box : Array Value) (tb : TypeId) (v : Value) (xs : List Int) : Prop where
 box : wr.heap[b]? = some (.cells box tb (0,0))
 ptr : wr.heap[p]? = some (.cells #[v] t (0,0))
 row : RowM e wr w.heap.size v xs
 below : Below w.heap.size w wr
 lo : w.heap.size ≤ b
 lp : w.heap.size ≤ p
 ne : b ≠ p
theorem BW.step {e t : TypeId} {w wr w' : World} {b p : Nat} {box : Array Value} {tb : TypeId} {v v' : Value} {xs ys : List Int} (h : BW e t w wr b p box tb v xs) (he : e ≠ tb) (hp : w'.heap[p]? = some (.cells #[v'] t (0,0))) (hv : RowM e w' w.heap.size v' ys) (hf : Fr wr w' p v.ownBlock v'.ownBlock) : BW e t w w' b p box tb v' ys:=by
 refine ⟨(hf.block b (Array.getElem?_eq_some_iff.1 h.box).1 h.ne (fun e1 => ?_)).trans h.box,hp,hv,hf.below h.below h.below.size h.lp (fun k hk => (h.row.typed hk).1),h.lo,h.lp,h.ne⟩
 obtain ⟨_,_,cur,fz,hc⟩:=h.row.typed e1.symm
 rw [h.box] at hc
 injection hc with hc
 injection hc with _ hc
 exact he hc.symm
theorem RowM.nil (e : TypeId) (w : World) (base : Nat) : RowM e w base (.slice none 0 0) [] := .inl (own_nil w base e 1)
def flagL (b : Bool) : List Int := [48 + b2 b]
def dataL (l : List Int) : List Int:=l.flatMap fun x => numL x.toNat 8
def headL (ext : Bool) (id : Int) (rtr : Bool) : List Int :=
 if ext = true then numL 0 1 ++ numL (id.toNat / 262144) 11 ++ numL 3 2 ++ numL id.toNat 18 ++ flagL rtr ++ numL 0 2 else numL 0 1 ++ numL id.toNat 11 ++ flagL rtr ++ numL 0 2
def bodyL (ext : Bool) (id : Int) (rtr : Bool) (dlc : Int) (data : List Int) : List Int:=headL ext id rtr ++ numL dlc.toNat 4 ++ dataL data
theorem headL_length (ext : Bool) (id : Int) (rtr : Bool) : (headL ext id rtr).length ≤ 35:=by
 cases ext <;> simp [headL,numL_length,flagL]
theorem dataL_length (l : List Int) : (dataL l).length = 8 * l.length:=by
 induction l with
 | nil => rfl
 | cons a l ih => rw [dataL,List.flatMap_cons,List.length_append,numL_length,List.length_cons];unfold dataL at ih;omega
theorem dataL_snoc (l : List Int) (x : Int) : dataL (l ++ [x]) = dataL l ++ numL x.toNat 8:=by simp [dataL,List.flatMap_append]
end Go.Proofs.Ytdoclpgciadjaaa.P

namespace Go.Proofs.Ytdoclpgciadjaaa.P
open Go.RowKit Go.Proofs.YtdoclpgciadjaaaW.PrintWords Go.Proofs.YtdoclpgciadjaaaW.PrintLast Go.Proofs.YtdoclpgciadjaaaW.PrintMore
set_option linter.unusedVariables false
set_option linter.unusedSimpArgs false
set_option maxHeartbeats 1000000 in
theorem impl_letters_number.calls (p : Nat) (v : Value) (xs : List Int) (u n B : Nat) (w : World) (hp : w.heap[p]? = some (.cells #[v] 107 (0,0))) (hv : RowM 5 w B v xs) (hB : B ≤ w.heap.size) (hu : u < 4294967296) (hn : n ≤ 32) (hx : xs.length ≤ 10000) :
  Calls Try.prog 74 #[.pointer (some ⟨p,0,none⟩), .int .u32 (u : Int), .int .i64 (n : Int)] w fun e w' => e = .returned (.tuple #[]) ∧ ∃ v',w'.heap[p]? = some (.cells #[v'] 107 (0,0)) ∧ RowM 5 w' B v' (xs ++ numL u n) ∧ Fr w w' p v.ownBlock v'.ownBlock:=by
 have HV:=Lib.hid hv
 have HP:=Lib.hid hp
 have HB:=Lib.hid hB
 have HX:=Lib.hid hx
 clear hv hp hB hx
 go_enter Try.func74,Try.ntmps74
 go_wp2
 go_loopw [6] (fun v6 wr => ∃ (m : Nat) (out : List Int) (v1 : Value),m ≤ n ∧ v6 = .int .i64 ((m : Int) - 1) ∧ Aside0 (out ++ numL u m = xs ++ numL u n ∧ out.length + m = xs.length + n) ∧ Aside0 (wr.heap[p]? = some (.cells #[v1] 107 (0,0))) ∧ Aside0 (RowM 5 wr B v1 out) ∧ Aside0 (Fr w wr p v.ownBlock v1.ownBlock)) (fun v6 _ => (intOf v6 + 1).toNat)
 case atStart => exact ⟨n,xs,v,Nat.le_refl _,rfl,⟨rfl,rfl⟩,⟨HP.out⟩,⟨HV.out⟩,⟨Fr.refl _ _ _⟩⟩
 case round =>
  obtain ⟨m,out,v1,hm,rfl,HL,HP1,HV1,HF⟩:=hrel
  cases m with
  | zero =>
   go_wp2
   go_end0
   have h1:=HL.out.1
   rw [numL,List.append_nil] at h1
   exact ⟨rfl,v1,HP1.out,h1 ▸ HV1.out,HF.out⟩
  | succ m =>
   have hcell:=cell_block HP1.out
   have HBIT : Hid ((48 + Go.bits .and .u32 ((u : Int) / 2 ^ m) 1) % 256 = 48 + ((u / 2 ^ m % 2 : Nat) : Int)):=by
    refine Lib.hid ?_
    have e1 : (u : Int) / 2 ^ m = ((u / 2 ^ m : Nat) : Int):=by push_cast;rfl
    have hlt : u / 2 ^ m < 4294967296:=Nat.lt_of_le_of_lt (Nat.div_le_self _ _) hu
    have h2:=u32_and_nat (u / 2 ^ m) 1 hlt (by decide)
    rw [show ((1 : Nat) : Int) = 1 from rfl] at h2
    rw [e1,h2,Nat.and_one_is_mod]
    omega
   have HPL : Hid (p < wr.heap.size):=Lib.hid (Array.getElem?_eq_some_iff.1 HP1.out).1
   have HPN : Hid (some p ≠ v1.ownBlock):=Lib.hid (fun e1 => by
    obtain ⟨_,_,cur,fz,hc⟩:=HV1.out.typed e1.symm
    rw [HP1.out] at hc
    injection hc with hc
    injection hc with _ hc
    exact absurd hc (by decide))
   go_wp2_with (at_builtin;refine RowM.append B rfl (.tmp 16) (.tmp 24) 107 5 rfl Try.underlying107 infoU8 v1 out ((48 + Go.bits .and .u32 ((u : Int) / 2 ^ m) 1) % 256) rfl rfl HV1.out ?aS ?aL ?_;(case aS => exact Nat.le_trans HB.out HF.out.size);(case aL => have:=HL.out.2;have:=HX.out;omega);intro v2 w2 hv2 hf2;rw [HBIT.out] at hv2;obtain ⟨A2,n2,c2,ev2⟩:=hv2.slice;subst ev2;have HV2:=Lib.hid hv2;have HF2:=Lib.hid hf2;have HP2:=Lib.hid ((hf2.block p HPL.out (Nat.ne_of_lt HPL.out) HPN.out).trans HP1.out);clear hv2 hf2;have hcell2:=cell_block HP2.out;have hfr2:=frozen_block HP2.out 0)
   go_roundw
   case rel =>
    refine ⟨m,out ++ [48 + ((u / 2 ^ m % 2 : Nat) : Int)],_,by omega,by go_num,⟨?_, ?_⟩,⟨set_block HP2.out⟩,⟨HV2.out.move (fun k hk => ?_)⟩,⟨HF.out.trans (HF2.out.store HPL.out)⟩⟩
    ·rw [← HL.out.1,numL,List.append_assoc];rfl
    ·have:=HL.out.2;rw [List.length_append];simp;omega
    ·refine Below.heap_setCell _ _ _ k (fun e1 => ?_)
     obtain ⟨_,_,cur,fz,hc⟩:=HV2.out.typed hk
     rw [show k = p from e1,HP2.out] at hc
     injection hc with hc
     injection hc with _ hc
     exact absurd hc (by decide)
   case measure => first | (simp [intOf];done) | (simp [intOf];omega)
theorem impl_letters_number.at (x y : Int) (p : Nat) (v : Value) (xs : List Int) (u n B : Nat) (w : World) (hp : w.heap[p]? = some (.cells #[v] 107 (0,0))) (hv : RowM 5 w B v xs) (hB : B ≤ w.heap.size) (hx : x = (u : Int)) (hu : u < 4294967296) (hy : y = (n : Int)) (hn : n ≤ 32) (hl : xs.length ≤ 10000) :
  Calls Try.prog 74 #[.pointer (some ⟨p,0,none⟩), .int .u32 x, .int .i64 y] w fun e w' => e = .returned (.tuple #[]) ∧ ∃ v',w'.heap[p]? = some (.cells #[v'] 107 (0,0)) ∧ RowM 5 w' B v' (xs ++ numL u n) ∧ Fr w w' p v.ownBlock v'.ownBlock:=by
 subst hx hy
 exact impl_letters_number.calls p v xs u n B w hp hv hB hu hn hl
end Go.Proofs.Ytdoclpgciadjaaa.P

namespace Go.Proofs.Ytdoclpgciadjaaa.P
open Go.RowKit Go.Proofs.YtdoclpgciadjaaaW.PrintWords Go.Proofs.YtdoclpgciadjaaaW.PrintLast Go.Proofs.YtdoclpgciadjaaaW.PrintMore
set_option linter.unusedVariables false
set_option linter.unusedSimpArgs false
theorem impl_letters_flag.calls (p : Nat) (v : Value) (xs : List Int) (b : Bool) (B : Nat) (w : World) (hp : w.heap[p]? = some (.cells #[v] 107 (0,0))) (hv : RowM 5 w B v xs) (hB : B ≤ w.heap.size) (hl : xs.length ≤ 10000) :
  Calls Try.prog 75 #[.pointer (some ⟨p,0,none⟩), .bool b] w fun e w' => e = .returned (.tuple #[]) ∧ ∃ v',w'.heap[p]? = some (.cells #[v'] 107 (0,0)) ∧ RowM 5 w' B v' (xs ++ [48 + b2 b]) ∧ Fr w w' p v.ownBlock v'.ownBlock:=by
 have H0:=Lib.hid (impl_letters_number.at 0 1 p v xs 0 1 B w hp hv hB rfl (by omega) rfl (by omega) hl)
 have H1:=Lib.hid (impl_letters_number.at 1 1 p v xs 1 1 B w hp hv hB rfl (by omega) rfl (by omega) hl)
 clear hp hv hB hl
 cases b
 ·go_enter Try.func75,Try.ntmps75
  go_wp2_with (go_at_call 74;refine H0.out.mono ?_;rintro e w' ⟨rfl,v',h1,h2,h3⟩;have R1:=Lib.hid h1;have R2:=Lib.hid h2;have R3:=Lib.hid h3;clear h1 h2 h3)
  go_end0
  exact ⟨rfl,v',R1.out,R2.out,R3.out⟩
 ·go_enter Try.func75,Try.ntmps75
  go_wp2_with (go_at_call 74;refine H1.out.mono ?_;rintro e w' ⟨rfl,v',h1,h2,h3⟩;have R1:=Lib.hid h1;have R2:=Lib.hid h2;have R3:=Lib.hid h3;clear h1 h2 h3)
  go_end0
  exact ⟨rfl,v',R1.out,R2.out,R3.out⟩
end Go.Proofs.Ytdoclpgciadjaaa.P

namespace Go.Proofs.Ytdoclpgciadjaaa.P
open Go.RowKit Go.Proofs.YtdoclpgciadjaaaW.PrintWords Go.Proofs.YtdoclpgciadjaaaW.PrintLast Go.Proofs.YtdoclpgciadjaaaW.PrintMore
set_option linter.unusedVariables false
set_option linter.unusedSimpArgs false
def okBytes (l : List Int) : Bool:=l.all fun x => decide (0 ≤ x) && decide (x < 256)
theorem okBytes_at {l : List Int} (h : okBytes l = true) (i : Nat) (hi : i < l.length) : 0 ≤ rd l (i : Int) ∧ rd l (i : Int) < 256:=by
 have:=List.all_eq_true.1 h _ (List.mem_of_getElem? (rd_get l i hi))
 simpa using this
def bodyV (ext : Bool) (id : Int) (rtr : Bool) (dlc : Int) (data : List Int) : ByteArray:=if validF ext id rtr dlc data.length = true then strOfNums (bodyL ext id rtr dlc data) else ⟨#[]⟩
def impl_Body.f (a0_0 : Bool) (a0_1 : Int) (a0_2 : Bool) (a0_3 : Int) (l0_4 : List Int) : Option (ByteArray):=if 0 ≤ a0_1 ∧ okBytes l0_4 = true then some (bodyV a0_0 a0_1 a0_2 a0_3 l0_4) else none
theorem valid_parts {ext : Bool} {id : Int} {rtr : Bool} {dlc : Int} {n : Nat} (h : validF ext id rtr dlc n = true) : id < vtop ext ∧ 0 ≤ dlc ∧ dlc ≤ 15 ∧ (n : Int) = dataB rtr dlc ∧ n ≤ 8:=by
 unfold validF at h
 rw [Bool.and_eq_true,Bool.and_eq_true,Bool.and_eq_true] at h
 obtain ⟨h1,h2,h3,h4⟩:=h
 have h5 : (n : Int) = dataB rtr dlc:=by simpa using h4
 refine ⟨of_decide_eq_true h1,of_decide_eq_true h2,of_decide_eq_true h3,h5, ?_⟩
 unfold dataB at h5
 split at h5
 ·omega
 ·split at h5
  ·omega
  ·have:=of_decide_eq_true h2;have:=of_decide_eq_true h3;omega
section
variable {v0 v1 v2 v3 v4 : Value}
theorem box5_0 : (#[v0,v1,v2,v3,v4] : Array Value)[0]? = some v0:=rfl
theorem box5_1 : (#[v0,v1,v2,v3,v4] : Array Value)[1]? = some v1:=rfl
theorem box5_2 : (#[v0,v1,v2,v3,v4] : Array Value)[2]? = some v2:=rfl
theorem box5_3 : (#[v0,v1,v2,v3,v4] : Array Value)[3]? = some v3:=rfl
theorem box1_0 : (#[v0] : Array Value)[0]? = some v0:=rfl
theorem box5_4 : (#[v0,v1,v2,v3,v4] : Array Value)[4]? = some v4:=rfl
end
theorem take_next (l : List Int) (i : Nat) (h : i < l.length) : l.take (i + 1) = l.take i ++ [rd l (i : Int)]:=by
 rw [List.take_succ_eq_append_getElem h]
 have:=rd_get l i h
 rw [List.getElem?_eq_getElem h] at this
 rw [Option.some.inj this]
set_option maxHeartbeats 4000000 in
theorem impl_Body.yes (ext : Bool) (id : Int) (rtr : Bool) (dlc : Int) (A : Option Addr) (c : Nat) (l : List Int) (w : World) (hr : Kd.C (Kd.int .u8) w A l.length l) (hc : l.length ≤ c) (h0 : 0 ≤ id) (hb : okBytes l = true) (hv : validF ext id rtr dlc l.length = true) :
  Calls Try.prog 15 #[.agg #[.bool ext, .int .u32 id, .bool rtr, .int .i64 dlc, .slice A l.length c]] w fun e w' => e = .returned (.string (strOfNums (bodyL ext id rtr dlc l))) ∧ Below w.heap.size w w':=by
 obtain ⟨hid,hd0,hd1, -,hn8⟩:=valid_parts hv
 have HV : Hid (impl_ValidFrame.f ext id rtr dlc l = some true):=Lib.hid (by unfold impl_ValidFrame.f;rw [hv])
 have HR:=Lib.hid hr
 have HC:=Lib.hid hc
 have HOB:=Lib.hid hb
 have hid2 : id < 536870912:=by unfold vtop at hid;split at hid <;> omega
 have HID : Hid (ext = false → id < 2048):=Lib.hid (fun e => by rw [e] at hid;exact hid)
 have HU : Hid (id = (id.toNat : Int)):=Lib.hid (by omega)
 have HD : Hid (dlc = (dlc.toNat : Int)):=Lib.hid (by omega)
 have HU2 : Hid (id / 262144 = ((id.toNat / 262144 : Nat) : Int)):=Lib.hid (by omega)
 have HL : Hid (l.length ≤ 8):=Lib.hid hn8
 have hm8 : l.length ≤ 9223372036854775807:=by omega
 clear hv hr hc hb hid hn8
 cases ext
 ·go_enter Try.func15,Try.ntmps15
  go_wp2_with (fail)
  (refine (impl_ValidFrame.calls false id rtr dlc A c l true _ (Kd.C_below HR.out ((Below.refl _ _).alloc (Nat.le_refl _) _)) HC.out HV.out).mono ?_;rintro e w1 ⟨rfl,hb1⟩;have HB1:=Lib.hid hb1;clear hb1;have HBW : Hid (BW 5 107 w (w1.alloc (.cells #[.slice none 0 0] 107)) w.heap.size w1.heap.size #[.bool false, .int .u32 id, .bool rtr, .int .i64 dlc, .slice A l.length c] 25 (.slice none 0 0) []):=Lib.hid ⟨blk_alloc (blk_below (blk_new w _) HB1.out) _,blk_new _ _,RowM.nil _ _ _,((Below.refl _ _).alloc (Nat.le_refl _) _).trans ⟨HB1.out.os,HB1.out.tape,HB1.out.output,HB1.out.size,fun k hk => HB1.out.block k (by simp;omega)⟩ |>.alloc (by have:=HB1.out.size;simp at this;omega) _,Nat.le_refl _,by have:=HB1.out.size;simp at this;omega,by have:=HB1.out.size;simp at this;omega⟩;have hc0:=blk_cell HBW.out.box 0;have hc1:=blk_cell HBW.out.box 1;have hc2:=blk_cell HBW.out.box 2;have hc3:=blk_cell HBW.out.box 3;have hc4:=blk_cell HBW.out.box 4;simp only [box5_0,box5_1,box5_2,box5_3,box5_4] at hc0 hc1 hc2 hc3 hc4)
  go_wp2_with (fail)
  ((with_reducible refine (impl_letters_number.at 0 1 _ _ _ 0 1 w.heap.size _ HBW.out.ptr HBW.out.row HBW.out.below.size rfl ?hu rfl (by omega) ?hl).mono ?_);(case hu => omega);(case hl => simp [numL_length,flagL]);rintro e w' ⟨rfl,v',hq1,hq2,hq3⟩;have HN:=Lib.hid (HBW.out.step (by decide) hq1 hq2 hq3);clear hq1 hq2 hq3 hc0 hc1 hc2 hc3 hc4 HBW;have HBW:=HN;clear HN;have hc0:=blk_cell HBW.out.box 0;have hc1:=blk_cell HBW.out.box 1;have hc2:=blk_cell HBW.out.box 2;have hc3:=blk_cell HBW.out.box 3;have hc4:=blk_cell HBW.out.box 4;simp only [box5_0,box5_1,box5_2,box5_3,box5_4] at hc0 hc1 hc2 hc3 hc4)
  go_wp2_with (fail)
  ((with_reducible refine (impl_letters_number.at id 11 _ _ _ id.toNat 11 w.heap.size _ HBW.out.ptr HBW.out.row HBW.out.below.size HU.out ?hu rfl (by omega) ?hl).mono ?_);(case hu => omega);(case hl => simp [numL_length,flagL]);rintro e w' ⟨rfl,v',hq1,hq2,hq3⟩;have HN:=Lib.hid (HBW.out.step (by decide) hq1 hq2 hq3);clear hq1 hq2 hq3 hc0 hc1 hc2 hc3 hc4 HBW;have HBW:=HN;clear HN;have hc0:=blk_cell HBW.out.box 0;have hc1:=blk_cell HBW.out.box 1;have hc2:=blk_cell HBW.out.box 2;have hc3:=blk_cell HBW.out.box 3;have hc4:=blk_cell HBW.out.box 4;simp only [box5_0,box5_1,box5_2,box5_3,box5_4] at hc0 hc1 hc2 hc3 hc4)
  go_wp2_with (fail)
  ((with_reducible refine (impl_letters_flag.calls _ _ _ rtr w.heap.size _ HBW.out.ptr HBW.out.row HBW.out.below.size ?hl).mono ?_);(case hl => simp [numL_length,flagL]);rintro e w' ⟨rfl,v',hq1,hq2,hq3⟩;have HN:=Lib.hid (HBW.out.step (by decide) hq1 hq2 hq3);clear hq1 hq2 hq3 hc0 hc1 hc2 hc3 hc4 HBW;have HBW:=HN;clear HN;have hc0:=blk_cell HBW.out.box 0;have hc1:=blk_cell HBW.out.box 1;have hc2:=blk_cell HBW.out.box 2;have hc3:=blk_cell HBW.out.box 3;have hc4:=blk_cell HBW.out.box 4;simp only [box5_0,box5_1,box5_2,box5_3,box5_4] at hc0 hc1 hc2 hc3 hc4)
  go_wp2_with (fail)
  ((with_reducible refine (impl_letters_number.at 0 2 _ _ _ 0 2 w.heap.size _ HBW.out.ptr HBW.out.row HBW.out.below.size rfl ?hu rfl (by omega) ?hl).mono ?_);(case hu => omega);(case hl => simp [numL_length,flagL]);rintro e w' ⟨rfl,v',hq1,hq2,hq3⟩;have HN:=Lib.hid (HBW.out.step (by decide) hq1 hq2 hq3);clear hq1 hq2 hq3 hc0 hc1 hc2 hc3 hc4 HBW;have HBW:=HN;clear HN;have hc0:=blk_cell HBW.out.box 0;have hc1:=blk_cell HBW.out.box 1;have hc2:=blk_cell HBW.out.box 2;have hc3:=blk_cell HBW.out.box 3;have hc4:=blk_cell HBW.out.box 4;simp only [box5_0,box5_1,box5_2,box5_3,box5_4] at hc0 hc1 hc2 hc3 hc4)
  go_wp2_with (fail)
  ((with_reducible refine (impl_letters_number.at dlc 4 _ _ _ dlc.toNat 4 w.heap.size _ HBW.out.ptr HBW.out.row HBW.out.below.size HD.out ?hu rfl (by omega) ?hl).mono ?_);(case hu => omega);(case hl => simp [numL_length,flagL]);rintro e w' ⟨rfl,v',hq1,hq2,hq3⟩;have HN:=Lib.hid (HBW.out.step (by decide) hq1 hq2 hq3);clear hq1 hq2 hq3 hc0 hc1 hc2 hc3 hc4 HBW;have HBW:=HN;clear HN;have hc0:=blk_cell HBW.out.box 0;have hc1:=blk_cell HBW.out.box 1;have hc2:=blk_cell HBW.out.box 2;have hc3:=blk_cell HBW.out.box 3;have hc4:=blk_cell HBW.out.box 4;simp only [box5_0,box5_1,box5_2,box5_3,box5_4] at hc0 hc1 hc2 hc3 hc4)
  go_wp2_with (fail)
  have HBW' : Hid (BW 5 107 w _ w.heap.size w1.heap.size _ 25 _ (headL false id rtr ++ numL dlc.toNat 4 ++ dataL (l.take 0))):=Lib.hid (by have h:=HBW.out;simpa [headL,dataL,flagL] using h)
  clear hc0 hc1 hc2 hc3 hc4 HBW
  go_loopw [38] (fun v38 wr => ∃ (i : Nat) (v : Value),i ≤ l.length ∧ Aside0 (BW 5 107 w wr w.heap.size w1.heap.size #[.bool false, .int .u32 id, .bool rtr, .int .i64 dlc, .slice A l.length c] 25 v (headL false id rtr ++ numL dlc.toNat 4 ++ dataL (l.take i))) ∧ v38 = .int .i64 i) (fun v38 _ => l.length - (intOf v38).toNat)
  case atStart => exact ⟨0,_,Nat.zero_le _,⟨HBW'.out⟩,rfl⟩
  case round =>
   obtain ⟨i,v,hi,HBW,rfl⟩:=hrel
   have hptr:=blk_cell HBW.out.ptr 0
   simp only [box1_0] at hptr
   by_cases hlt : i < l.length
   ·obtain ⟨ad,ea,hcell⟩:=Kd.at_int (Kd.C_below HR.out HBW.out.below) (i : Int) (by omega) (by omega)
    subst ea
    have HBY:=Lib.hid (okBytes_at HOB.out i hlt)
    have HX : Hid (rd l (i : Int) = ((rd l (i : Int)).toNat : Int)):=Lib.hid (by have:=HBY.out;omega)
    rw [HX.out,Int.toNat_natCast] at hcell
    generalize hxx : (rd l (i : Int)).toNat = x at hcell
    have HXX : Hid (x = (rd l (i : Int)).toNat ∧ x < 256):=Lib.hid ⟨hxx.symm,by have:=HBY.out;omega⟩
    have hx256 : x < 256:=HXX.out.2
    clear hxx
    go_wp2_with (fail)
    ((with_reducible refine (impl_letters_number.at (x : Int) 8 _ _ _ x 8 w.heap.size _ HBW.out.ptr HBW.out.row HBW.out.below.size rfl ?hu rfl (by omega) ?hl).mono ?_);(case hu => omega);(case hl => have h1:=headL_length false id rtr;have h2:=dataL_length (l.take i);have h3:=HL.out;simp [numL_length] at h1 h2 ⊢;omega);rintro e w' ⟨rfl,v',hq1,hq2,hq3⟩;have HN:=Lib.hid (HBW.out.step (by decide) hq1 hq2 hq3);clear hq1 hq2 hq3)
    go_wp2_with (fail)
    go_roundw
    case rel => exact ⟨i + 1,_,hlt,⟨by have h:=HN.out;rw [HXX.out.1] at h;rw [take_next l i hlt,dataL_snoc];simpa [List.append_assoc] using h⟩,by go_num⟩
    case measure => simp [intOf];omega
   ·obtain rfl : i = l.length:=by omega
    have hcv:=RowM.string (P:=Try.prog) Try.underlying107 Try.underlying5 Try.underlying9 HBW.out.row
    go_wp2
    go_ret
    exact ⟨by rw [bodyL,List.append_assoc];rfl,HBW.out.below⟩
 ·go_enter Try.func15,Try.ntmps15
  go_wp2_with (fail)
  (refine (impl_ValidFrame.calls true id rtr dlc A c l true _ (Kd.C_below HR.out ((Below.refl _ _).alloc (Nat.le_refl _) _)) HC.out HV.out).mono ?_;rintro e w1 ⟨rfl,hb1⟩;have HB1:=Lib.hid hb1;clear hb1;have HBW : Hid (BW 5 107 w (w1.alloc (.cells #[.slice none 0 0] 107)) w.heap.size w1.heap.size #[.bool true, .int .u32 id, .bool rtr, .int .i64 dlc, .slice A l.length c] 25 (.slice none 0 0) []):=Lib.hid ⟨blk_alloc (blk_below (blk_new w _) HB1.out) _,blk_new _ _,RowM.nil _ _ _,((Below.refl _ _).alloc (Nat.le_refl _) _).trans ⟨HB1.out.os,HB1.out.tape,HB1.out.output,HB1.out.size,fun k hk => HB1.out.block k (by simp;omega)⟩ |>.alloc (by have:=HB1.out.size;simp at this;omega) _,Nat.le_refl _,by have:=HB1.out.size;simp at this;omega,by have:=HB1.out.size;simp at this;omega⟩;have hc0:=blk_cell HBW.out.box 0;have hc1:=blk_cell HBW.out.box 1;have hc2:=blk_cell HBW.out.box 2;have hc3:=blk_cell HBW.out.box 3;have hc4:=blk_cell HBW.out.box 4;simp only [box5_0,box5_1,box5_2,box5_3,box5_4] at hc0 hc1 hc2 hc3 hc4)
  go_wp2_with (fail)
  ((with_reducible refine (impl_letters_number.at 0 1 _ _ _ 0 1 w.heap.size _ HBW.out.ptr HBW.out.row HBW.out.below.size rfl ?hu rfl (by omega) ?hl).mono ?_);(case hu => omega);(case hl => simp [numL_length,flagL]);rintro e w' ⟨rfl,v',hq1,hq2,hq3⟩;have HN:=Lib.hid (HBW.out.step (by decide) hq1 hq2 hq3);clear hq1 hq2 hq3 hc0 hc1 hc2 hc3 hc4 HBW;have HBW:=HN;clear HN;have hc0:=blk_cell HBW.out.box 0;have hc1:=blk_cell HBW.out.box 1;have hc2:=blk_cell HBW.out.box 2;have hc3:=blk_cell HBW.out.box 3;have hc4:=blk_cell HBW.out.box 4;simp only [box5_0,box5_1,box5_2,box5_3,box5_4] at hc0 hc1 hc2 hc3 hc4)
  go_wp2_with (fail)
  ((with_reducible refine (impl_letters_number.at (id / 262144) 11 _ _ _ (id.toNat / 262144) 11 w.heap.size _ HBW.out.ptr HBW.out.row HBW.out.below.size HU2.out ?hu rfl (by omega) ?hl).mono ?_);(case hu => omega);(case hl => simp [numL_length,flagL]);rintro e w' ⟨rfl,v',hq1,hq2,hq3⟩;have HN:=Lib.hid (HBW.out.step (by decide) hq1 hq2 hq3);clear hq1 hq2 hq3 hc0 hc1 hc2 hc3 hc4 HBW;have HBW:=HN;clear HN;have hc0:=blk_cell HBW.out.box 0;have hc1:=blk_cell HBW.out.box 1;have hc2:=blk_cell HBW.out.box 2;have hc3:=blk_cell HBW.out.box 3;have hc4:=blk_cell HBW.out.box 4;simp only [box5_0,box5_1,box5_2,box5_3,box5_4] at hc0 hc1 hc2 hc3 hc4)
  go_wp2_with (fail)
  ((with_reducible refine (impl_letters_number.at 3 2 _ _ _ 3 2 w.heap.size _ HBW.out.ptr HBW.out.row HBW.out.below.size rfl ?hu rfl (by omega) ?hl).mono ?_);(case hu => omega);(case hl => simp [numL_length,flagL]);rintro e w' ⟨rfl,v',hq1,hq2,hq3⟩;have HN:=Lib.hid (HBW.out.step (by decide) hq1 hq2 hq3);clear hq1 hq2 hq3 hc0 hc1 hc2 hc3 hc4 HBW;have HBW:=HN;clear HN;have hc0:=blk_cell HBW.out.box 0;have hc1:=blk_cell HBW.out.box 1;have hc2:=blk_cell HBW.out.box 2;have hc3:=blk_cell HBW.out.box 3;have hc4:=blk_cell HBW.out.box 4;simp only [box5_0,box5_1,box5_2,box5_3,box5_4] at hc0 hc1 hc2 hc3 hc4)
  go_wp2_with (fail)
  ((with_reducible refine (impl_letters_number.at id 18 _ _ _ id.toNat 18 w.heap.size _ HBW.out.ptr HBW.out.row HBW.out.below.size HU.out ?hu rfl (by omega) ?hl).mono ?_);(case hu => omega);(case hl => simp [numL_length,flagL]);rintro e w' ⟨rfl,v',hq1,hq2,hq3⟩;have HN:=Lib.hid (HBW.out.step (by decide) hq1 hq2 hq3);clear hq1 hq2 hq3 hc0 hc1 hc2 hc3 hc4 HBW;have HBW:=HN;clear HN;have hc0:=blk_cell HBW.out.box 0;have hc1:=blk_cell HBW.out.box 1;have hc2:=blk_cell HBW.out.box 2;have hc3:=blk_cell HBW.out.box 3;have hc4:=blk_cell HBW.out.box 4;simp only [box5_0,box5_1,box5_2,box5_3,box5_4] at hc0 hc1 hc2 hc3 hc4)
  go_wp2_with (fail)
  ((with_reducible refine (impl_letters_flag.calls _ _ _ rtr w.heap.size _ HBW.out.ptr HBW.out.row HBW.out.below.size ?hl).mono ?_);(case hl => simp [numL_length,flagL]);rintro e w' ⟨rfl,v',hq1,hq2,hq3⟩;have HN:=Lib.hid (HBW.out.step (by decide) hq1 hq2 hq3);clear hq1 hq2 hq3 hc0 hc1 hc2 hc3 hc4 HBW;have HBW:=HN;clear HN;have hc0:=blk_cell HBW.out.box 0;have hc1:=blk_cell HBW.out.box 1;have hc2:=blk_cell HBW.out.box 2;have hc3:=blk_cell HBW.out.box 3;have hc4:=blk_cell HBW.out.box 4;simp only [box5_0,box5_1,box5_2,box5_3,box5_4] at hc0 hc1 hc2 hc3 hc4)
  go_wp2_with (fail)
  ((with_reducible refine (impl_letters_number.at 0 2 _ _ _ 0 2 w.heap.size _ HBW.out.ptr HBW.out.row HBW.out.below.size rfl ?hu rfl (by omega) ?hl).mono ?_);(case hu => omega);(case hl => simp [numL_length,flagL]);rintro e w' ⟨rfl,v',hq1,hq2,hq3⟩;have HN:=Lib.hid (HBW.out.step (by decide) hq1 hq2 hq3);clear hq1 hq2 hq3 hc0 hc1 hc2 hc3 hc4 HBW;have HBW:=HN;clear HN;have hc0:=blk_cell HBW.out.box 0;have hc1:=blk_cell HBW.out.box 1;have hc2:=blk_cell HBW.out.box 2;have hc3:=blk_cell HBW.out.box 3;have hc4:=blk_cell HBW.out.box 4;simp only [box5_0,box5_1,box5_2,box5_3,box5_4] at hc0 hc1 hc2 hc3 hc4)
  go_wp2_with (fail)
  ((with_reducible refine (impl_letters_number.at dlc 4 _ _ _ dlc.toNat 4 w.heap.size _ HBW.out.ptr HBW.out.row HBW.out.below.size HD.out ?hu rfl (by omega) ?hl).mono ?_);(case hu => omega);(case hl => simp [numL_length,flagL]);rintro e w' ⟨rfl,v',hq1,hq2,hq3⟩;have HN:=Lib.hid (HBW.out.step (by decide) hq1 hq2 hq3);clear hq1 hq2 hq3 hc0 hc1 hc2 hc3 hc4 HBW;have HBW:=HN;clear HN;have hc0:=blk_cell HBW.out.box 0;have hc1:=blk_cell HBW.out.box 1;have hc2:=blk_cell HBW.out.box 2;have hc3:=blk_cell HBW.out.box 3;have hc4:=blk_cell HBW.out.box 4;simp only [box5_0,box5_1,box5_2,box5_3,box5_4] at hc0 hc1 hc2 hc3 hc4)
  go_wp2_with (fail)
  have HBW' : Hid (BW 5 107 w _ w.heap.size w1.heap.size _ 25 _ (headL true id rtr ++ numL dlc.toNat 4 ++ dataL (l.take 0))):=Lib.hid (by have h:=HBW.out;simpa [headL,dataL,flagL] using h)
  clear hc0 hc1 hc2 hc3 hc4 HBW
  go_loopw [38] (fun v38 wr => ∃ (i : Nat) (v : Value),i ≤ l.length ∧ Aside0 (BW 5 107 w wr w.heap.size w1.heap.size #[.bool true, .int .u32 id, .bool rtr, .int .i64 dlc, .slice A l.length c] 25 v (headL true id rtr ++ numL dlc.toNat 4 ++ dataL (l.take i))) ∧ v38 = .int .i64 i) (fun v38 _ => l.length - (intOf v38).toNat)
  case atStart => exact ⟨0,_,Nat.zero_le _,⟨HBW'.out⟩,rfl⟩
  case round =>
   obtain ⟨i,v,hi,HBW,rfl⟩:=hrel
   have hptr:=blk_cell HBW.out.ptr 0
   simp only [box1_0] at hptr
   by_cases hlt : i < l.length
   ·obtain ⟨ad,ea,hcell⟩:=Kd.at_int (Kd.C_below HR.out HBW.out.below) (i : Int) (by omega) (by omega)
    subst ea
    have HBY:=Lib.hid (okBytes_at HOB.out i hlt)
    have HX : Hid (rd l (i : Int) = ((rd l (i : Int)).toNat : Int)):=Lib.hid (by have:=HBY.out;omega)
    rw [HX.out,Int.toNat_natCast] at hcell
    generalize hxx : (rd l (i : Int)).toNat = x at hcell
    have HXX : Hid (x = (rd l (i : Int)).toNat ∧ x < 256):=Lib.hid ⟨hxx.symm,by have:=HBY.out;omega⟩
    have hx256 : x < 256:=HXX.out.2
    clear hxx
    go_wp2_with (fail)
    ((with_reducible refine (impl_letters_number.at (x : Int) 8 _ _ _ x 8 w.heap.size _ HBW.out.ptr HBW.out.row HBW.out.below.size rfl ?hu rfl (by omega) ?hl).mono ?_);(case hu => omega);(case hl => have h1:=headL_length true id rtr;have h2:=dataL_length (l.take i);have h3:=HL.out;simp [numL_length] at h1 h2 ⊢;omega);rintro e w' ⟨rfl,v',hq1,hq2,hq3⟩;have HN:=Lib.hid (HBW.out.step (by decide) hq1 hq2 hq3);clear hq1 hq2 hq3)
    go_wp2_with (fail)
    go_roundw
    case rel => exact ⟨i + 1,_,hlt,⟨by have h:=HN.out;rw [HXX.out.1] at h;rw [take_next l i hlt,dataL_snoc];simpa [List.append_assoc] using h⟩,by go_num⟩
    case measure => simp [intOf];omega
   ·obtain rfl : i = l.length:=by omega
    have hcv:=RowM.string (P:=Try.prog) Try.underlying107 Try.underlying5 Try.underlying9 HBW.out.row
    go_wp2
    go_ret
    exact ⟨by rw [bodyL,List.append_assoc];rfl,HBW.out.below⟩
theorem impl_Body.calls (a0_0 : Bool) (a0_1 : Int) (a0_2 : Bool) (a0_3 : Int) (A0_4 : Option Addr) (c0_4 : Nat) (l0_4 : List Int) (r : ByteArray) (w : World) (hr0_4 : Kd.C (Kd.int .u8) w A0_4 l0_4.length l0_4) (hc0_4 : l0_4.length ≤ c0_4) (h : impl_Body.f a0_0 a0_1 a0_2 a0_3 l0_4 = some r) :
  Calls Try.prog 15 #[.agg #[.bool a0_0, .int .u32 a0_1, .bool a0_2, .int .i64 a0_3, .slice A0_4 l0_4.length c0_4]] w fun e w' => e = .returned (.string r) ∧ Below w.heap.size w w':=by
 unfold impl_Body.f at h
 by_cases c : 0 ≤ a0_1 ∧ okBytes l0_4 = true
 ·rw [if_pos c] at h
  have hr:=(Option.some.inj h).symm
  unfold bodyV at hr
  cases hv : validF a0_0 a0_1 a0_2 a0_3 l0_4.length with
  | true =>
   rw [hv,if_pos rfl] at hr
   subst hr
   exact impl_Body.yes a0_0 a0_1 a0_2 a0_3 A0_4 c0_4 l0_4 w hr0_4 hc0_4 c.1 c.2 hv
  | false =>
   rw [hv,if_neg (by decide)] at hr
   subst hr
   have HV : Hid (impl_ValidFrame.f a0_0 a0_1 a0_2 a0_3 l0_4 = some false):=Lib.hid (by unfold impl_ValidFrame.f;rw [hv])
   have HR:=Lib.hid hr0_4
   have HC:=Lib.hid hc0_4
   clear hv h c hr0_4 hc0_4
   go_enter Try.func15,Try.ntmps15
   go_wp2_with (fail)
   (refine (impl_ValidFrame.calls a0_0 a0_1 a0_2 a0_3 A0_4 c0_4 l0_4 false _ (Kd.C_below HR.out ((Below.refl _ _).alloc (Nat.le_refl _) _)) HC.out HV.out).mono ?_;rintro e w1 ⟨rfl,hb1⟩;have HB1:=Lib.hid hb1;clear hb1)
   go_wp2
   go_ret
   exact ⟨rfl,((Below.refl _ _).alloc (Nat.le_refl _) _).trans ⟨HB1.out.os,HB1.out.tape,HB1.out.output,HB1.out.size,fun k hk => HB1.out.block k (by simp;omega)⟩⟩
 ·rw [if_neg c] at h;cases h
end Go.Proofs.Ytdoclpgciadjaaa.P

namespace Go.Proofs.Ytdoclpgciadjaaa.P
open Go.RowKit Go.Proofs.YtdoclpgciadjaaaW.PrintWords Go.Proofs.YtdoclpgciadjaaaW.PrintLast Go.Proofs.YtdoclpgciadjaaaW.PrintMore
set_option linter.unusedVariables false
set_option linter.unusedSimpArgs false
def laws_wDec.f : Nat → Int → Option (ByteArray)
 | 0,_ => none
 | k + 1,a0 => if a0 < 10 then (some (strOfNums (([(wrap64 (48 + a0)) % 256] : List Int)))) else ((laws_wDec.f k (wrap64 (Int.tdiv a0 10))).bind fun t191 => ((laws_wDec.f k (Int.tmod a0 10)).bind fun t192 => (if t191.size + t192.size ≤ 9223372036854775807 then (some (t191 ++ t192)) else (none))))
set_option maxHeartbeats 8000000 in
set_option maxRecDepth 100000 in
theorem laws_wDec.calls (k : Nat) : ∀ (a0 : Int) (r : ByteArray) (w : World) (h : laws_wDec.f k a0 = some r),
  Calls Try.prog 76 #[.int .i64 a0] w fun e w' => e = .returned (.string r) ∧ Below w.heap.size w w':=by
 induction k using Nat.strongRecOn with
 | _ k ih =>
 intro a0 r w h
 cases k with
 | zero => exact absurd h (by simp [laws_wDec.f])
 | succ k =>
 simp only [laws_wDec.f] at h
 have HB:=Aside0.mk (Below.refl w.heap.size w)
 have H : (if a0 < 10 then (some (strOfNums (([(wrap64 (48 + a0)) % 256] : List Int)))) else ((laws_wDec.f k (wrap64 (Int.tdiv a0 10))).bind fun t191 => ((laws_wDec.f k (Int.tmod a0 10)).bind fun t192 => (if t191.size + t192.size ≤ 9223372036854775807 then (some (t191 ++ t192)) else (none))))) = some r:=h
 clear h
 by_cases c2 : a0 < 10
 ·rw [if_pos c2] at H
  have c2b0 : decide (a0 < 10) = true:=decide_eq_true c2
  clear c2
  obtain ⟨y188,hy188⟩ : ∃ y_ : List Int,y_ = (([(wrap64 (48 + a0)) % 256] : List Int)):=⟨_,rfl⟩
  replace H : (some (strOfNums y188)) = some r:=by first | (rw [hy188];with_reducible exact H) | (have H2_:=(Option.bind_some _ _).symm.trans H;rw [hy188];with_reducible exact H2_) | (have H2_:=(Option.bind_some _ _).symm.trans H;with_reducible exact H2_) | with_reducible exact H | (rw [hy188];exact H) | exact H
  have Ny188:=Aside0.mk hy188
  clear hy188
  obtain rfl:=Option.some.inj H
  go_enter Try.func76,Try.ntmps76
  go_wp2_with (first | ((with_reducible refine gate_dst (N:=8) rfl ?_);refine Kd.R_lit (Kd.int .u8) _ 5 ?hg (N:=8) ?hd (xs:=([(wrap64 (48 + a0)) % 256] : List Int)) (inner := [.int .u8 ((wrap64 (48 + a0)) % 256)]) (ok:=fun _ => True) (okp:=fun _ => True) ?hr ?hp (fun _ hk => hk) trivial (Below.refl _ _) (Nat.le_refl _) (by simp) ?_;(case hd => rfl);(case hg => rfl);(case hr => first | (go_simp;done) | (go_simp;rfl));(case hp => exact (Reps.one (show Kd.M (Kd.int .u8) _ _ _ ((wrap64 (48 + a0)) % 256) [.int .u8 ((wrap64 (48 + a0)) % 256)] from rfl) (Reps.none _ _)));intro v189 w3 ho4 hb hg_ hnew_;clear hg_ hnew_;(first | rw [← Ny188.out] at ho4 | (simp only [Int.reduceToNat] at ho4;rw [← Ny188.out] at ho4));have n0_:=Aside0.mk (Kd.R_lower ho4 (below_size (by repeat (first | (with_reducible first | exact HB.out | apply below_alloc | apply pw_below_drewN | apply below_drew1) | exact HB.out))));have n1_:=Aside0.mk (below_step (by repeat (first | (with_reducible first | exact HB.out | apply below_alloc | apply pw_below_drewN | apply below_drew1) | exact HB.out)) hb);clear HB;have HO190:=n0_;have HB:=n1_;clear n0_ n1_;clear hb ho4;have hcv5:=own_string (P:=Try.prog) Try.underlying22 Try.underlying5 Try.underlying9 (Kd.own_of_R HO190.out)))
  go_ret
  exact ⟨by first | rfl | (simp [errW_none,errW_some] <;> rfl) | (simp [*,errW_none,errW_some] <;> rfl),by repeat (first | (with_reducible first | exact HB.out | apply below_alloc | apply pw_below_drewN | apply below_drew1) | exact HB.out)⟩
 ·rw [if_neg c2] at H
  have c2b0 : decide (a0 < 10) = false:=decide_eq_false c2
  clear c2
  replace H:=Option.bind_eq_some_iff.mp H
  obtain ⟨t191,A60,H⟩:=H
  replace H : ((laws_wDec.f k (Int.tmod a0 10)).bind fun t192 => (if t191.size + t192.size ≤ 9223372036854775807 then (some (t191 ++ t192)) else (none))) = some r:=H
  have A6:=Aside0.mk A60
  clear A60
  replace H:=Option.bind_eq_some_iff.mp H
  obtain ⟨t192,A70,H⟩:=H
  replace H : (if t191.size + t192.size ≤ 9223372036854775807 then (some (t191 ++ t192)) else (none)) = some r:=H
  have A7:=Aside0.mk A70
  clear A70
  by_cases c8 : t191.size + t192.size ≤ 9223372036854775807
  ·rw [if_pos c8] at H
   have c8b0:=eq_true c8
   have c8b1 : decide (t191.size + t192.size ≤ 9223372036854775807) = true:=decide_eq_true c8
   try have c8b2 : (9223372036854775807 < t191.size + t192.size) = False:=eq_false (Nat.not_lt.2 c8)
   obtain rfl:=Option.some.inj H
   go_enter Try.func76,Try.ntmps76
   go_wp2_with (first | ((with_reducible refine gate_callee (f:=76) rfl ?_);refine goesL_ (some 12) rfl rfl Try.func76 (by kernel_rfl) rfl #[.int .i64 (wrap64 (Int.tdiv a0 10))] rfl (by (try simp only [List.map_toArray,List.map_cons,List.map_nil]);first | done | rfl | (simp only [List.length_drop,List.length_take];rfl)) ?_;(with_reducible refine (ih k (by omega) (wrap64 (Int.tdiv a0 10)) t191 _ A6.out).mono ?_);rintro e w9 ⟨rfl,hb⟩;refine ⟨_,rfl, ?_⟩;have n0_:=Aside0.mk (below_step (by repeat (first | (with_reducible first | exact HB.out | apply below_alloc | apply pw_below_drewN | apply below_drew1) | exact HB.out)) hb);clear HB;have HB:=n0_;clear n0_;(try clear hb);(try clear hb2);(try clear hk);(try clear hi)) | ((with_reducible refine gate_callee (f:=76) rfl ?_);refine goesL_ (some 15) rfl rfl Try.func76 (by kernel_rfl) rfl #[.int .i64 (Int.tmod a0 10)] rfl (by (try simp only [List.map_toArray,List.map_cons,List.map_nil]);first | done | rfl | (simp only [List.length_drop,List.length_take];rfl)) ?_;(with_reducible refine (ih k (by omega) (Int.tmod a0 10) t192 _ A7.out).mono ?_);rintro e w10 ⟨rfl,hb⟩;refine ⟨_,rfl, ?_⟩;have n0_:=Aside0.mk (below_step (by repeat (first | (with_reducible first | exact HB.out | apply below_alloc | apply pw_below_drewN | apply below_drew1) | exact HB.out)) hb);clear HB;have HB:=n0_;clear n0_;(try clear hb);(try clear hb2);(try clear hk);(try clear hi)))
   go_ret
   exact ⟨by first | rfl | (simp [errW_none,errW_some] <;> rfl) | (simp [*,errW_none,errW_some] <;> rfl),by repeat (first | (with_reducible first | exact HB.out | apply below_alloc | apply pw_below_drewN | apply below_drew1) | exact HB.out)⟩
  ·rw [if_neg c8] at H
   exact absurd H (by simp)
end Go.Proofs.Ytdoclpgciadjaaa.P

namespace Go.Proofs.Ytdoclpgciadjaaa.P
open Go.RowKit Go.Proofs.YtdoclpgciadjaaaW.PrintWords Go.Proofs.YtdoclpgciadjaaaW.PrintLast Go.Proofs.YtdoclpgciadjaaaW.PrintMore
set_option linter.unusedVariables false
set_option linter.unusedSimpArgs false
def laws_wBits.l0 : Nat → Int → ByteArray → Int → Option (ByteArray)
 | 0,_,_,_ => none
 | k + 1,x0,x5,x6 => if x6 ≥ 0 then (if 0 ≤ (IntKind.u64.wrap (x6)) then ((laws_wDec.f k (Go.bits .and .i64 (shr .i64 x0 (IntKind.u64.wrap (x6))) 1)).bind fun t193 => (if x5.size + t193.size ≤ 9223372036854775807 then (laws_wBits.l0 k x0 (x5 ++ t193) (wrap64 (x6 - 1))) else (none))) else (none)) else (some x5)
def laws_wBits.f (k : Nat) (a0 : Int) (a1 : Int) : Option (ByteArray):=laws_wBits.l0 k a0 (⟨#[]⟩ : ByteArray) (wrap64 (a1 - 1))
set_option maxHeartbeats 8000000 in
set_option maxRecDepth 100000 in
theorem laws_wBits.calls (k : Nat) (a0 : Int) (a1 : Int) (r : ByteArray) (w : World) (h : laws_wBits.f k a0 a1 = some r) :
  Calls Try.prog 16 #[.int .i64 a0, .int .i64 a1] w fun e w' => e = .returned (.string r) ∧ Below w.heap.size w w':=by
 have HB:=Aside0.mk (Below.refl w.heap.size w)
 have H : (laws_wBits.l0 k a0 (⟨#[]⟩ : ByteArray) (wrap64 (a1 - 1))) = some r:=h
 clear h
 have H':=Aside0.mk H
 clear H
 go_enter Try.func16,Try.ntmps16
 go_wp2
 go_loopg [5,6] k (fun kq v5 v6 w' => ∃ (x5_1 : ByteArray) (x6_1 : Int),v5 = .string x5_1 ∧ v6 = .int .i64 x6_1 ∧ Aside0 (laws_wBits.l0 kq a0 x5_1 x6_1 = some r) ∧ Aside0 (kq ≤ k) ∧ Aside0 (Below w.heap.size w w'))
 case atStart => exact ⟨((⟨#[]⟩ : ByteArray)),(wrap64 (a1 - 1)),(by first | rfl | (simp;done) | (simp [*];done)),(by first | rfl | (simp;done) | (simp [*];done)),H',⟨Nat.le_refl _⟩,⟨by repeat (first | (with_reducible first | exact HB.out | apply below_alloc | apply pw_below_drewN | apply below_drew1) | exact HB.out)⟩⟩
 case round =>
  clear H'
  try clear c1
  try clear p2
  obtain ⟨x5_1,x6_1,rfl,rfl,HA,HK1,HB⟩:=hrel
  cases gk with
  | zero => exact absurd HA.out (by simp [laws_wBits.l0])
  | succ k1 =>
   have H:=HA.out
   clear HA
   simp only [laws_wBits.l0] at H
   by_cases c3 : x6_1 ≥ 0
   ·rw [if_pos c3] at H
    have c3b0 : decide (0 ≤ x6_1) = true:=decide_eq_true c3
    clear c3
    obtain ⟨ji4,hji4⟩ : ∃ j_ : Int,(IntKind.u64.wrap (x6_1)) = j_:=⟨_,rfl⟩
    replace H : (if 0 ≤ (ji4) then ((laws_wDec.f k1 (Go.bits .and .i64 (shr .i64 a0 (ji4)) 1)).bind fun t193 => (if x5_1.size + t193.size ≤ 9223372036854775807 then (laws_wBits.l0 k1 a0 (x5_1 ++ t193) (wrap64 (x6_1 - 1))) else (none))) else (none)) = some r:=by first | (rw [hji4] at H;exact H) | (simp only [hji4] at H ⊢;exact H)
    by_cases c5 : 0 ≤ (ji4)
    ·rw [if_pos c5] at H
     have c5b0:=eq_true c5
     have c5b1 : decide (0 ≤ (ji4)) = true:=decide_eq_true c5
     clear c5
     obtain ⟨ji6,hji6⟩ : ∃ j_ : Int,(shr .i64 a0 (ji4)) = j_:=⟨_,rfl⟩
     replace H : ((laws_wDec.f k1 (Go.bits .and .i64 (ji6) 1)).bind fun t193 => (if x5_1.size + t193.size ≤ 9223372036854775807 then (laws_wBits.l0 k1 a0 (x5_1 ++ t193) (wrap64 (x6_1 - 1))) else (none))) = some r:=by first | (rw [hji6] at H;exact H) | (simp only [hji6] at H ⊢;exact H)
     have hji6_ : (a0 / 2 ^ min (ji4).toNat 64) = ji6:=hji6
     have hji6z : (ji4) ≤ 64 → (a0 / 2 ^ (ji4).toNat) = ji6:=shr_small hji6
     replace H:=Option.bind_eq_some_iff.mp H
     obtain ⟨t193,A70,H⟩:=H
     replace H : (if x5_1.size + t193.size ≤ 9223372036854775807 then (laws_wBits.l0 k1 a0 (x5_1 ++ t193) (wrap64 (x6_1 - 1))) else (none)) = some r:=H
     have A7:=Aside0.mk A70
     clear A70
     by_cases c8 : x5_1.size + t193.size ≤ 9223372036854775807
     ·rw [if_pos c8] at H
      have c8b0:=eq_true c8
      have c8b1 : decide (x5_1.size + t193.size ≤ 9223372036854775807) = true:=decide_eq_true c8
      try have c8b2 : (9223372036854775807 < x5_1.size + t193.size) = False:=eq_false (Nat.not_lt.2 c8)
      have H':=Aside0.mk H
      clear H
      go_wp2_with (first | ((with_reducible refine gate_callee (f:=76) rfl ?_);refine goesL_ (some 19) rfl rfl Try.func76 (by kernel_rfl) rfl #[.int .i64 (Go.bits .and .i64 (ji6) 1)] rfl (by (try simp only [List.map_toArray,List.map_cons,List.map_nil]);first | done | (simp only [hji6];rfl) | rfl | (simp only [List.length_drop,List.length_take];rfl)) ?_;(with_reducible refine (laws_wDec.calls k1 (Go.bits .and .i64 (ji6) 1) t193 _ A7.out).mono ?_);rintro e w9 ⟨rfl,hb⟩;refine ⟨_,rfl, ?_⟩;have n0_:=Aside0.mk (below_step (by repeat (first | (with_reducible first | exact HB.out | apply below_alloc | apply pw_below_drewN | apply below_drew1) | exact HB.out)) hb);clear HB;have HB:=n0_;clear n0_;(try clear hb);(try clear hb2);(try clear hk);(try clear hi)))
      go_roundg k1
      case measure => have:=HK1.out;omega
      case rel => exact ⟨(x5_1 ++ t193),(wrap64 (x6_1 - 1)),(by first | rfl | (simp;done) | (simp [*];done)),(by first | rfl | (simp;done) | (simp [*];done)),H',⟨by have:=HK1.out;omega⟩,⟨by repeat (first | (with_reducible first | exact HB.out | apply below_alloc | apply pw_below_drewN | apply below_drew1) | exact HB.out)⟩⟩
     ·rw [if_neg c8] at H
      exact absurd H (by simp)
    ·rw [if_neg c5] at H
     exact absurd H (by simp)
   ·rw [if_neg c3] at H
    have c3b0 : decide (0 ≤ x6_1) = false:=decide_eq_false c3
    clear c3
    obtain rfl:=Option.some.inj H
    go_wp2
    go_ret
    exact ⟨by first | rfl | (simp [errW_none,errW_some] <;> rfl) | (simp [*,errW_none,errW_some] <;> rfl),by repeat (first | (with_reducible first | exact HB.out | apply below_alloc | apply pw_below_drewN | apply below_drew1) | exact HB.out)⟩
end Go.Proofs.Ytdoclpgciadjaaa.P

namespace Go.Proofs.Ytdoclpgciadjaaa.P
open Go.RowKit Go.Proofs.YtdoclpgciadjaaaW.PrintWords Go.Proofs.YtdoclpgciadjaaaW.PrintLast Go.Proofs.YtdoclpgciadjaaaW.PrintMore
set_option linter.unusedVariables false
set_option linter.unusedSimpArgs false
def impl_bitText.f (a0 : ByteArray) (a1 : Int) : Option (Bool):=some (decide ((a0.size : Int) ≤ a1) && isBits a0)
theorem impl_bitText.calls (a0 : ByteArray) (a1 : Int) (r : Bool) (w : World) (h : impl_bitText.f a0 a1 = some r) :
  Calls Try.prog 77 #[.string a0, .int .i64 a1] w fun e w' => e = .returned (.bool r) ∧ Below w.heap.size w w':=by
 by_cases c1 : (a0.size : Int) ≤ a1
 ·have c1b : decide (a1 < (a0.size : Int)) = false:=decide_eq_false (by omega)
  have hr : Hid (r = isBits a0):=by
   have h1:=Option.some.inj h
   rw [decide_eq_true c1,Bool.true_and] at h1
   exact Lib.hid h1.symm
  clear h c1
  go_enter Try.func77,Try.ntmps77
  go_wp2
  go_loopw [] (fun w' => ∃ pos : Nat,w' = w.iter a0 pos ∧ BitsTo a0 pos) (fun w' => a0.size - w'.iterPos w.heap.size)
  case atStart => exact ⟨0,rfl,bitsTo_zero a0⟩
  case round =>
   obtain ⟨pos,rfl,hb⟩:=hrel
   have HB:=Lib.hid hb
   clear hb
   by_cases hp : pos < a0.size
   ·cases hbit : isBit (a0[pos]'hp) with
    | true =>
     have HT : Hid (isBit (a0[pos]'hp) = true):=Lib.hid hbit
     rcases isBit_cases hbit with e | e
     ·have hnx:=fun ty => next_bit (P:=Try.prog) w a0 pos ty hp (b:=48) (by rw [e];rfl) (by omega)
      clear e hbit
      go_wp2
      go_roundw
      case rel => exact ⟨pos + 1,rfl,bitsTo_succ HB.out hp HT.out⟩
      case measure => simp;omega
     ·have hnx:=fun ty => next_bit (P:=Try.prog) w a0 pos ty hp (b:=49) (by rw [e];rfl) (by omega)
      clear e hbit
      go_wp2
      go_roundw
      case rel => exact ⟨pos + 1,rfl,bitsTo_succ HB.out hp HT.out⟩
      case measure => simp;omega
    | false =>
     have HF:=Lib.hid (isBits_not a0 hp hbit)
     obtain ⟨h48,h49⟩:=decode_notBit a0 pos hp hbit
     have h48' : ((((Utf8.decode a0 pos).1 : Nat) : Int) != 48) = true:=by rw [bne,h48];rfl
     have h49' : ((((Utf8.decode a0 pos).1 : Nat) : Int) != 49) = true:=by rw [bne,h49];rfl
     have hnx:=fun ty => run_next_any (P:=Try.prog) w a0 pos ty hp
     clear hbit
     go_wp2
     go_ret
     exact ⟨by rw [hr.out,HF.out];rfl,below_iter _ _ _⟩
   ·have hnx:=fun ty => run_next_end (P:=Try.prog) w a0 pos ty hp
    have HF:=Lib.hid (isBits_of a0 HB.out hp)
    go_wp2
    go_ret
    exact ⟨by rw [hr.out,HF.out];rfl,below_iter _ _ _⟩
 ·have c1b : decide (a1 < (a0.size : Int)) = true:=decide_eq_true (by omega)
  have hr : r = false:=by
   have h1:=Option.some.inj h
   rw [decide_eq_false c1,Bool.false_and] at h1
   exact h1.symm
  subst hr
  clear h c1
  go_enter Try.func77,Try.ntmps77
  go_wp2
  go_ret
  exact ⟨rfl,Below.refl _ _⟩
end Go.Proofs.Ytdoclpgciadjaaa.P

namespace Go.Proofs.Ytdoclpgciadjaaa.P
open Go.RowKit Go.Proofs.YtdoclpgciadjaaaW.PrintWords Go.Proofs.YtdoclpgciadjaaaW.PrintLast Go.Proofs.YtdoclpgciadjaaaW.PrintMore
set_option linter.unusedVariables false
set_option linter.unusedSimpArgs false
theorem impl_crcBit.same (a0 : Int) (a1 : Int) (w : World) :
  Calls Try.prog 78 #[.int .i64 a0, .int .i64 a1] w fun e w' => e = .returned (.int .i64 (crcI a0 a1)) ∧ w = w':=by
 by_cases c3 : (Go.bits .xor .i64 (Go.bits .and .i64 (a0 / 16384) 1) a1) = 1
 ·have c3b0 : ((Go.bits .xor .i64 (Go.bits .and .i64 (a0 / 16384) 1) a1) == 1) = true:=beq_iff_eq.mpr c3
  have HC:=Lib.hid c3
  clear c3
  go_enter Try.func78,Try.ntmps78
  go_wp2
  go_ret
  exact ⟨by unfold crcI;rw [if_pos HC.out];rfl,rfl⟩
 ·have c3b0 : ((Go.bits .xor .i64 (Go.bits .and .i64 (a0 / 16384) 1) a1) == 1) = false:=beq_eq_false_iff_ne.mpr c3
  have HC:=Lib.hid c3
  clear c3
  go_enter Try.func78,Try.ntmps78
  go_wp2
  go_ret
  exact ⟨by unfold crcI;rw [if_neg HC.out];rfl,rfl⟩
end Go.Proofs.Ytdoclpgciadjaaa.P

namespace Go.Proofs.Ytdoclpgciadjaaa.P
open Go.RowKit Go.Proofs.YtdoclpgciadjaaaW.PrintWords Go.Proofs.YtdoclpgciadjaaaW.PrintLast Go.Proofs.YtdoclpgciadjaaaW.PrintMore
set_option linter.unusedVariables false
set_option linter.unusedSimpArgs false
def impl_Crc15.f (a0 : ByteArray) : Option (Int):=some (if a0.size ≤ 2000 ∧ isBits a0 = true then crcOf a0 else -1)
theorem impl_Crc15.calls (a0 : ByteArray) (r : Int) (w : World) (h : impl_Crc15.f a0 = some r) :
  Calls Try.prog 17 #[.string a0] w fun e w' => e = .returned (.int .i64 r) ∧ Below w.heap.size w w':=by
 by_cases c : a0.size ≤ 2000 ∧ isBits a0 = true
 ·have HR : Hid (r = crcOf a0):=Lib.hid ((Option.some.inj h).symm.trans (if_pos c))
  clear h
  have hbt : Hid (impl_bitText.f a0 2000 = some true):=by
   refine Lib.hid ?_
   unfold impl_bitText.f
   rw [c.2,decide_eq_true (by omega)];rfl
  have HB:=Lib.hid c.2
  clear c
  go_enter Try.func17,Try.ntmps17
  go_wp2_with (go_at_call 77;refine (impl_bitText.calls _ _ true _ hbt.out).mono ?_;rintro e w1 ⟨rfl,hb1⟩)
  have HW:=Lib.hid hb1
  clear hb1
  go_loopw [3] (fun n w' => ∃ pos : Nat,w' = w1.iter a0 pos ∧ n = .int .i64 (foldTo (fun r c => crcI r (c - 48)) 0 a0 pos)) (fun _ w' => a0.size - w'.iterPos w1.heap.size)
  case atStart => exact ⟨0,rfl,by rw [foldTo_zero]⟩
  case round =>
   obtain ⟨pos,rfl,rfl⟩:=hrel
   by_cases hp : pos < a0.size
   ·have hbit:=isBits_at HB.out hp
    rcases isBit_cases hbit with e | e
    ·have hs:=Lib.hid (foldTo_succ (fun r c => crcI r (c - 48)) 0 a0 pos hp (b:=48) (by rw [e];rfl))
     have hnx:=fun ty => next_bit (P:=Try.prog) w1 a0 pos ty hp (b:=48) (by rw [e];rfl) (by omega)
     clear e hbit
     go_wp2_with (go_at_call 78;refine (impl_crcBit.same _ _ _).mono ?_;rintro e w' ⟨rfl,rfl⟩)
     go_roundw
     case rel => exact ⟨pos + 1,rfl,by rw [hs.out];rfl⟩
     case measure => simp;omega
    ·have hs:=Lib.hid (foldTo_succ (fun r c => crcI r (c - 48)) 0 a0 pos hp (b:=49) (by rw [e];rfl))
     have hnx:=fun ty => next_bit (P:=Try.prog) w1 a0 pos ty hp (b:=49) (by rw [e];rfl) (by omega)
     clear e hbit
     go_wp2_with (go_at_call 78;refine (impl_crcBit.same _ _ _).mono ?_;rintro e w' ⟨rfl,rfl⟩)
     go_roundw
     case rel => exact ⟨pos + 1,rfl,by rw [hs.out];rfl⟩
     case measure => simp;omega
   ·have hnx:=fun ty => run_next_end (P:=Try.prog) w1 a0 pos ty hp
    have hs:=Lib.hid (foldTo_end (fun r c => crcI r (c - 48)) 0 a0 pos hp)
    go_wp2
    go_ret
    exact ⟨by rw [HR.out];unfold crcOf;rw [← hs.out];rfl,HW.out.alloc HW.out.size _⟩
 ·obtain rfl : r = -1:=(Option.some.inj h).symm.trans (if_neg c)
  clear h
  have hbt : Hid (impl_bitText.f a0 2000 = some false):=by
   refine Lib.hid ?_
   unfold impl_bitText.f
   congr 1
   rw [Bool.and_eq_false_iff]
   by_cases h : isBits a0 = true
   ·exact .inl (decide_eq_false fun h2 => c ⟨by omega,h⟩)
   ·exact .inr (by simpa using h)
  clear c
  go_enter Try.func17,Try.ntmps17
  go_wp2_with (go_at_call 77;refine (impl_bitText.calls _ _ false _ hbt.out).mono ?_;rintro e w1 ⟨rfl,hb1⟩)
  go_ret
  exact ⟨rfl,hb1⟩
end Go.Proofs.Ytdoclpgciadjaaa.P

namespace Go.Proofs.Ytdoclpgciadjaaa.P
open Go.RowKit Go.Proofs.YtdoclpgciadjaaaW.PrintWords Go.Proofs.YtdoclpgciadjaaaW.PrintLast Go.Proofs.YtdoclpgciadjaaaW.PrintMore
set_option linter.unusedVariables false
set_option linter.unusedSimpArgs false
def spec_l1num.f : Nat → Int → Int → Option (ByteArray)
 | 0,_,_ => none
 | k + 1,a0,a1 => if a1 ≤ 0 then (some (⟨#[]⟩ : ByteArray)) else (if (Int.tmod a0 2) = 1 then ((spec_l1num.f k (wrap64 (Int.tdiv a0 2)) (wrap64 (a1 - 1))).bind fun t194 => (if t194.size + 1 ≤ 9223372036854775807 then (some (t194 ++ (⟨#[49]⟩ : ByteArray))) else (none))) else ((spec_l1num.f k (wrap64 (Int.tdiv a0 2)) (wrap64 (a1 - 1))).bind fun t195 => (if t195.size + 1 ≤ 9223372036854775807 then (some (t195 ++ (⟨#[48]⟩ : ByteArray))) else (none))))
set_option maxHeartbeats 8000000 in
set_option maxRecDepth 100000 in
theorem spec_l1num.calls (k : Nat) : ∀ (a0 : Int) (a1 : Int) (r : ByteArray) (w : World) (h : spec_l1num.f k a0 a1 = some r),
  Calls Try.prog 79 #[.int .i64 a0, .int .i64 a1] w fun e w' => e = .returned (.string r) ∧ Drawn0 w w':=by
 induction k using Nat.strongRecOn with
 | _ k ih =>
 intro a0 a1 r w h
 cases k with
 | zero => exact absurd h (by simp [spec_l1num.f])
 | succ k =>
 simp only [spec_l1num.f] at h
 have H : (if a1 ≤ 0 then (some (⟨#[]⟩ : ByteArray)) else (if (Int.tmod a0 2) = 1 then ((spec_l1num.f k (wrap64 (Int.tdiv a0 2)) (wrap64 (a1 - 1))).bind fun t194 => (if t194.size + 1 ≤ 9223372036854775807 then (some (t194 ++ (⟨#[49]⟩ : ByteArray))) else (none))) else ((spec_l1num.f k (wrap64 (Int.tdiv a0 2)) (wrap64 (a1 - 1))).bind fun t195 => (if t195.size + 1 ≤ 9223372036854775807 then (some (t195 ++ (⟨#[48]⟩ : ByteArray))) else (none))))) = some r:=h
 clear h
 by_cases c3 : a1 ≤ 0
 ·rw [if_pos c3] at H
  have c3b0 : decide (a1 ≤ 0) = true:=decide_eq_true c3
  clear c3
  obtain rfl:=Option.some.inj H
  go_enter Try.func79,Try.ntmps79
  go_wp2
  go_ret
  exact ⟨by first | rfl | (simp;done) | (simp [*];done),by repeat (first | exact Drawn0.refl _ | apply Drawn0.step)⟩
 ·rw [if_neg c3] at H
  have c3b0 : decide (a1 ≤ 0) = false:=decide_eq_false c3
  clear c3
  by_cases c4 : (Int.tmod a0 2) = 1
  ·rw [if_pos c4] at H
   have c4b0 : ((Int.tmod a0 2) == 1) = true:=beq_iff_eq.mpr c4
   have c4b1 : ((Int.tmod a0 2) != 1) = false:=bne_eq_false_iff_eq.mpr c4
   clear c4
   replace H:=Option.bind_eq_some_iff.mp H
   obtain ⟨t194,A50,H⟩:=H
   replace H : (if t194.size + 1 ≤ 9223372036854775807 then (some (t194 ++ (⟨#[49]⟩ : ByteArray))) else (none)) = some r:=H
   have A5:=Aside0.mk A50
   clear A50
   by_cases c6 : t194.size + 1 ≤ 9223372036854775807
   ·rw [if_pos c6] at H
    have c6b0:=eq_true c6
    have c6b1 : decide (t194.size + 1 ≤ 9223372036854775807) = true:=decide_eq_true c6
    try have c6b2 : (9223372036854775807 < t194.size + 1) = False:=eq_false (Nat.not_lt.2 c6)
    obtain rfl:=Option.some.inj H
    go_enter Try.func79,Try.ntmps79
    go_wp2_with (first | ((with_reducible refine gate_callee (f:=79) rfl ?_);refine goesL_ (some 15) rfl rfl Try.func79 (by kernel_rfl) rfl #[.int .i64 (wrap64 (Int.tdiv a0 2)), .int .i64 (wrap64 (a1 - 1))] rfl (by (try simp only [List.map_toArray,List.map_cons,List.map_nil]);first | done | rfl | (simp only [List.length_drop,List.length_take];rfl)) ?_;(with_reducible refine (ih k (by omega) (wrap64 (Int.tdiv a0 2)) (wrap64 (a1 - 1)) t194 _ A5.out).mono ?_);rintro e w' ⟨rfl,⟨nd,rfl⟩⟩;refine ⟨_,rfl, ?_⟩))
    go_ret
    exact ⟨by first | rfl | (simp;done) | (simp [*];done),by repeat (first | exact Drawn0.refl _ | apply Drawn0.step)⟩
   ·rw [if_neg c6] at H
    exact absurd H (by simp)
  ·rw [if_neg c4] at H
   have c4b0 : ((Int.tmod a0 2) == 1) = false:=beq_eq_false_iff_ne.mpr c4
   have c4b1 : ((Int.tmod a0 2) != 1) = true:=bne_iff_ne.mpr c4
   replace H:=Option.bind_eq_some_iff.mp H
   obtain ⟨t195,A70,H⟩:=H
   replace H : (if t195.size + 1 ≤ 9223372036854775807 then (some (t195 ++ (⟨#[48]⟩ : ByteArray))) else (none)) = some r:=H
   have A7:=Aside0.mk A70
   clear A70
   by_cases c8 : t195.size + 1 ≤ 9223372036854775807
   ·rw [if_pos c8] at H
    have c8b0:=eq_true c8
    have c8b1 : decide (t195.size + 1 ≤ 9223372036854775807) = true:=decide_eq_true c8
    try have c8b2 : (9223372036854775807 < t195.size + 1) = False:=eq_false (Nat.not_lt.2 c8)
    obtain rfl:=Option.some.inj H
    go_enter Try.func79,Try.ntmps79
    go_wp2_with (first | ((with_reducible refine gate_callee (f:=79) rfl ?_);refine goesL_ (some 15) rfl rfl Try.func79 (by kernel_rfl) rfl #[.int .i64 (wrap64 (Int.tdiv a0 2)), .int .i64 (wrap64 (a1 - 1))] rfl (by (try simp only [List.map_toArray,List.map_cons,List.map_nil]);first | done | rfl | (simp only [List.length_drop,List.length_take];rfl)) ?_;(with_reducible refine (ih k (by omega) (wrap64 (Int.tdiv a0 2)) (wrap64 (a1 - 1)) t195 _ A7.out).mono ?_);rintro e w' ⟨rfl,⟨nd,rfl⟩⟩;refine ⟨_,rfl, ?_⟩))
    go_ret
    exact ⟨by first | rfl | (simp;done) | (simp [*];done),by repeat (first | exact Drawn0.refl _ | apply Drawn0.step)⟩
   ·rw [if_neg c8] at H
    exact absurd H (by simp)
end Go.Proofs.Ytdoclpgciadjaaa.P

namespace Go.Proofs.Ytdoclpgciadjaaa.P
open Go.RowKit Go.Proofs.YtdoclpgciadjaaaW.PrintWords Go.Proofs.YtdoclpgciadjaaaW.PrintLast Go.Proofs.YtdoclpgciadjaaaW.PrintMore
set_option linter.unusedVariables false
set_option linter.unusedSimpArgs false
def spec_l1flag.f (a0 : Bool) : Option (ByteArray):=if a0 = true then (some (⟨#[49]⟩ : ByteArray)) else (some (⟨#[48]⟩ : ByteArray))
set_option maxHeartbeats 8000000 in
set_option maxRecDepth 100000 in
theorem spec_l1flag.calls (a0 : Bool) (r : ByteArray) (w : World) (h : spec_l1flag.f a0 = some r) :
  Calls Try.prog 80 #[.bool a0] w fun e w' => e = .returned (.string r) ∧ Drawn0 w w':=by
 have H : (if a0 = true then (some (⟨#[49]⟩ : ByteArray)) else (some (⟨#[48]⟩ : ByteArray))) = some r:=h
 clear h
 by_cases c2 : a0 = true
 ·subst c2
  have H1 : (some (⟨#[49]⟩ : ByteArray)) = some r:=by rw [if_pos rfl] at H;exact H
  clear H
  have H:=H1
  clear H1
  obtain rfl:=Option.some.inj H
  go_enter Try.func80,Try.ntmps80
  go_wp2
  go_ret
  exact ⟨by first | rfl | (simp;done) | (simp [*];done),by repeat (first | exact Drawn0.refl _ | apply Drawn0.step)⟩
 ·replace c2:=Bool.eq_false_iff.mpr c2
  subst c2
  have H1 : (some (⟨#[48]⟩ : ByteArray)) = some r:=by rw [if_neg (show ¬ (false = true) by decide)] at H;exact H
  clear H
  have H:=H1
  clear H1
  obtain rfl:=Option.some.inj H
  go_enter Try.func80,Try.ntmps80
  go_wp2
  go_ret
  exact ⟨by first | rfl | (simp;done) | (simp [*];done),by repeat (first | exact Drawn0.refl _ | apply Drawn0.step)⟩
end Go.Proofs.Ytdoclpgciadjaaa.P

namespace Go.Proofs.Ytdoclpgciadjaaa.P
open Go Go.RowKit Go.Proofs.YtdoclpgciadjaaaW.PrintWords
set_option linter.unusedVariables false
def crcN (r b : Nat) : Nat:=if (r / 16384) ^^^ b = 1 then (2 * r % 32768) ^^^ 17817 else 2 * r % 32768
theorem bits_xor_i64 (a b : Nat) (ha : a < 2 ^ 62) (hb : b < 2 ^ 62) : bits .xor .i64 (a : Int) (b : Int) = ((a ^^^ b : Nat) : Int):=by
 have hp : (2 : Nat) ^ 62 ≤ 2 ^ IntKind.i64.bits:=Nat.pow_le_pow_right (by decide) (by decide)
 have ha' : a % 2 ^ IntKind.i64.bits = a:=Nat.mod_eq_of_lt (Nat.lt_of_lt_of_le ha hp)
 have hb' : b % 2 ^ IntKind.i64.bits = b:=Nat.mod_eq_of_lt (Nat.lt_of_lt_of_le hb hp)
 simp only [bits,BitVec.ofInt_natCast,BitVec.toNat_xor,BitVec.toNat_ofNat,ha',hb']
 have h:=Nat.xor_lt_two_pow ha hb
 rw [IntKind.wrap_i64]
 omega
theorem bits_and_i64 (a b : Nat) (ha : a < 2 ^ 62) (hb : b < 2 ^ 62) : bits .and .i64 (a : Int) (b : Int) = ((a &&& b : Nat) : Int) :=
 (bits_nat .i64 62 (by decide) (fun n h0 h1 => by rw [IntKind.wrap_i64];omega) a b ha hb).1
theorem crcI_nat (r b : Nat) (hr : r < 32768) (hb : b ≤ 1) : crcI r b = crcN r b:=by
 have h1 : ((r : Int) / 16384) = ((r / 16384 : Nat) : Int):=by omega
 have h2 : bits .and .i64 ((r : Int) / 16384) 1 = ((r / 16384 : Nat) : Int):=by
  rw [h1]
  have:=bits_and_i64 (r / 16384) 1 (by omega) (by decide)
  rw [show ((1 : Nat) : Int) = 1 from rfl] at this
  rw [this,Nat.and_one_is_mod]
  omega
 have h3 : bits .and .i64 (wrap64 ((r : Int) * 2)) 32767 = ((2 * r % 32768 : Nat) : Int):=by
  have hw : wrap64 ((r : Int) * 2) = ((2 * r : Nat) : Int):=by unfold wrap64;omega
  rw [hw]
  have:=bits_and_i64 (2 * r) 32767 (by omega) (by decide)
  rw [show ((32767 : Nat) : Int) = 32767 from rfl] at this
  rw [this,show (32767 : Nat) = 2 ^ 15 - 1 from rfl,Nat.and_two_pow_sub_one_eq_mod]
 have h4 : bits .xor .i64 ((r / 16384 : Nat) : Int) (b : Int) = ((r / 16384 ^^^ b : Nat) : Int):=bits_xor_i64 _ _ (by omega) (by omega)
 have h5 : bits .xor .i64 ((2 * r % 32768 : Nat) : Int) 17817 = ((2 * r % 32768 ^^^ 17817 : Nat) : Int):=bits_xor_i64 _ 17817 (by omega) (by decide)
 unfold crcI crcN
 rw [h2,h3,h4,h5]
 by_cases c : r / 16384 ^^^ b = 1
 ·rw [if_pos c,if_pos (by rw [c];rfl)]
 ·rw [if_neg c,if_neg (by omega)]
theorem crcN_lt (r b : Nat) : crcN r b < 32768:=by
 unfold crcN
 split
 ·exact Nat.xor_lt_two_pow (n:=15) (by omega) (by decide)
 ·omega
def bitN (c : Int) : Nat:=if c = 49 then 1 else 0
def bitB (c : Int) : Bool:=decide (c = 49)
def crcL (l : List Int) : Nat:=l.foldl (fun r c => crcN r (bitN c)) 0
theorem crcL_snoc (l : List Int) (c : Int) : crcL (l ++ [c]) = crcN (crcL l) (bitN c):=by
 unfold crcL;rw [List.foldl_append];rfl
theorem snoc_ind {α : Type} {p : List α → Prop} (h0 : p []) (h1 : ∀ l c,p l → p (l ++ [c])) (l : List α) : p l:=by
 have key : ∀ m : List α,p m.reverse:=by
  intro m
  induction m with
  | nil => exact h0
  | cons a m ih => rw [List.reverse_cons];exact h1 _ _ ih
 have:=key l.reverse
 rwa [List.reverse_reverse] at this
theorem crcL_lt (l : List Int) : crcL l < 32768:=by
 induction l using snoc_ind with
 | h0 => decide
 | h1 l c _ => rw [crcL_snoc];exact crcN_lt _ _
theorem crcI_list (l : List Int) (hl : ∀ c ∈ l,c = 48 ∨ c = 49) : l.foldl (fun r c => crcI r (c - 48)) 0 = (crcL l : Int):=by
 induction l using snoc_ind with
 | h0 => rfl
 | h1 l c ih =>
  rw [List.foldl_append,ih (fun x hx => hl x (List.mem_append_left _ hx)),crcL_snoc,List.foldl_cons,List.foldl_nil]
  rcases hl c (by simp) with rfl | rfl
  ·exact crcI_nat _ 0 (crcL_lt l) (by decide)
  ·exact crcI_nat _ 1 (crcL_lt l) (by decide)
theorem crcN_testBit (r b : Nat) (hr : r < 32768) (hb : b ≤ 1) (j : Nat) (hj : j < 15) :
  (crcN r b).testBit j = (((decide (0 < j)) && r.testBit (j - 1)) ^^ ((r.testBit 14 ^^ decide (b = 1)) && Nat.testBit 17817 j)):=by
 have h14 : r.testBit 14 = decide (r / 16384 = 1):=by
  rw [Nat.testBit_eq_decide_div_mod_eq]
  congr 1
  have : r / 2 ^ 14 % 2 = r / 16384:=by omega
  rw [this]
 have hy : (2 * r % 32768).testBit j = (decide (0 < j) && r.testBit (j - 1)):=by
  rw [show (32768 : Nat) = 2 ^ 15 from rfl,Nat.testBit_mod_two_pow,show 2 * r = r <<< 1 by omega,Nat.testBit_shiftLeft]
  simp [hj]
  rfl
 have hx : (r / 16384 ^^^ b = 1) ↔ (r.testBit 14 ^^ decide (b = 1)) = true:=by
  rw [h14]
  have h0 : r / 16384 = 0 ∨ r / 16384 = 1:=by omega
  have h1 : b = 0 ∨ b = 1:=by omega
  rcases h0 with h0 | h0 <;> rcases h1 with h1 | h1 <;> rw [h0,h1] <;> decide
 unfold crcN
 by_cases c : r / 16384 ^^^ b = 1
 ·rw [if_pos c,Nat.testBit_xor,hy,hx.1 c,Bool.true_and]
 ·rw [if_neg c,hy]
  have : (r.testBit 14 ^^ decide (b = 1)) = false:=by
   cases h : (r.testBit 14 ^^ decide (b = 1)) with
   | false => rfl
   | true => exact absurd (hx.2 h) c
  rw [this];simp
end Go.Proofs.Ytdoclpgciadjaaa.P

namespace Go.Proofs.Ytdoclpgciadjaaa.P
open Go Go.RowKit Go.Proofs.YtdoclpgciadjaaaW.PrintWords
set_option linter.unusedVariables false
theorem text_ext {a b : ByteArray} (h : a.data.toList = b.data.toList) : a = b:=by
 cases a;cases b
 exact congrArg ByteArray.mk (Array.toList_inj.1 h)
theorem str_append (a b : List Int) : strOfNums (a ++ b) = strOfNums a ++ strOfNums b:=by
 apply text_ext
 rw [Joins.data_append,strOfNums_data,strOfNums_data,strOfNums_data,List.map_append]
theorem str_extract_left (a b : List Int) : (strOfNums (a ++ b)).extract 0 a.length = strOfNums a:=by
 apply text_ext
 rw [Lib.extract_data,strOfNums_data,strOfNums_data,List.drop_zero,List.map_append,Nat.sub_zero]
 exact List.take_left' (by simp)
theorem str_extract_right (a b : List Int) : (strOfNums (a ++ b)).extract a.length (strOfNums (a ++ b)).size = strOfNums b:=by
 apply text_ext
 rw [Lib.extract_data,strOfNums_data,strOfNums_data,List.map_append,List.drop_left' (by simp),strOfNums_size,List.length_append,List.take_of_length_le (by simp)]
theorem str_extract (l : List Int) (a b : Nat) (h : a ≤ b) : (strOfNums l).extract a b = strOfNums ((l.drop a).take (b - a)):=by
 apply text_ext
 rw [Lib.extract_data,strOfNums_data,strOfNums_data,List.map_take,List.map_drop]
theorem bytes_str (l : List Int) (h : ∀ x ∈ l,0 ≤ x ∧ x < 256) : bytesOf (strOfNums l) = l:=by
 unfold bytesOf
 rw [strOfNums_data,List.map_map]
 conv => rhs;rw [← List.map_id l]
 refine List.map_congr_left fun x hx => ?_
 have:=h x hx
 simp only [Function.comp,id]
 rw [UInt8.toNat_ofNat_of_lt' (show x.toNat < UInt8.size by simp [UInt8.size];omega)]
 omega
theorem numL_snoc (u n : Nat) : numL u (n + 1) = numL (u / 2) n ++ [48 + ((u % 2 : Nat) : Int)]:=by
 induction n with
 | zero => simp [numL]
 | succ n ih =>
  rw [numL,ih,numL,List.cons_append]
  congr 3
  rw [Nat.div_div_eq_div_mul,Nat.pow_succ,Nat.mul_comm]
theorem numL_add (u a b : Nat) : numL u (a + b) = numL (u / 2 ^ b) a ++ numL u b:=by
 induction a with
 | zero => rw [Nat.zero_add];rfl
 | succ a ih =>
  rw [show a + 1 + b = (a + b) + 1 by omega,numL,ih,numL,List.cons_append,Nat.div_div_eq_div_mul, ← Nat.pow_add,Nat.add_comm b a]
theorem numL_bits (u n : Nat) : ∀ x ∈ numL u n,x = 48 ∨ x = 49:=by
 induction n with
 | zero => intro x hx;cases hx
 | succ n ih =>
  intro x hx
  rw [numL] at hx
  rcases List.mem_cons.1 hx with rfl | hx
  ·have : u / 2 ^ n % 2 < 2:=Nat.mod_lt _ (by decide)
   omega
  ·exact ih x hx
def Bits (l : List Int) : Prop := ∀ x ∈ l,x = 48 ∨ x = 49
theorem Bits.range {l : List Int} (h : Bits l) : ∀ x ∈ l,0 ≤ x ∧ x < 256:=fun x hx => by rcases h x hx with rfl | rfl <;> omega
theorem Bits.append {a b : List Int} (h : Bits a) (k : Bits b) : Bits (a ++ b):=fun x hx => (List.mem_append.1 hx).elim (h x) (k x)
theorem isBits_str {l : List Int} (h : Bits l) : isBits (strOfNums l) = true:=by
 unfold isBits
 rw [strOfNums_data,List.all_map,List.all_eq_true]
 intro x hx
 rcases h x hx with rfl | rfl <;> rfl
theorem crcOf_str {l : List Int} (h : Bits l) : crcOf (strOfNums l) = (crcL l : Int):=by
 unfold crcOf
 rw [bytes_str l h.range]
 exact crcI_list l h
theorem flagL_bits (b : Bool) : Bits (flagL b):=by cases b <;> intro x hx <;> simp [flagL,b2] at hx <;> omega
theorem dataL_bits (l : List Int) : Bits (dataL l):=by
 intro x hx
 obtain ⟨y,_,hy⟩:=List.mem_flatMap.1 hx
 exact numL_bits _ _ x hy
theorem bodyL_bits (ext : Bool) (id : Int) (rtr : Bool) (dlc : Int) (l : List Int) : Bits (bodyL ext id rtr dlc l):=by
 unfold bodyL headL
 refine ((?_ : Bits _).append (numL_bits _ _)).append (dataL_bits l)
 cases ext
 ·exact (((Bits.append (numL_bits _ _) (numL_bits _ _)).append (flagL_bits rtr)).append (numL_bits _ _))
 ·exact ((((Bits.append (Bits.append (numL_bits _ _) (numL_bits _ _)) (numL_bits _ _)).append (numL_bits _ _)).append (flagL_bits rtr)).append (numL_bits _ _))
theorem bodyL_length (ext : Bool) (id : Int) (rtr : Bool) (dlc : Int) (l : List Int) (h : l.length ≤ 8) : (bodyL ext id rtr dlc l).length ≤ 103:=by
 unfold bodyL
 rw [List.length_append,List.length_append,numL_length,dataL_length]
 have:=headL_length ext id rtr
 omega
def plainL (ext : Bool) (id : Int) (rtr : Bool) (dlc : Int) (l : List Int) : List Int:=bodyL ext id rtr dlc l ++ numL (crcL (bodyL ext id rtr dlc l)) 15
theorem plainL_bits (ext : Bool) (id : Int) (rtr : Bool) (dlc : Int) (l : List Int) : Bits (plainL ext id rtr dlc l):=(bodyL_bits ext id rtr dlc l).append (numL_bits _ _)
theorem plainL_length (ext : Bool) (id : Int) (rtr : Bool) (dlc : Int) (l : List Int) (h : l.length ≤ 8) : (plainL ext id rtr dlc l).length ≤ 118:=by
 unfold plainL
 rw [List.length_append,numL_length]
 have:=bodyL_length ext id rtr dlc l h
 omega
end Go.Proofs.Ytdoclpgciadjaaa.P
