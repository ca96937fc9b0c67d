/- Texts of the proof of FnImage, joined. -/
import Derived.Test.YtdoclpgciadjaaaSFnImage21
import Derived.Test.YtdoclpgciadjaaaSFnImage26
import Derived.Test.YtdoclpgciadjaaaSFnImage23
namespace Go.Proofs.Ytdoclpgciadjaaa.P
open Go.RowKit Go.Proofs.YtdoclpgciadjaaaW.PrintWords Go.Proofs.YtdoclpgciadjaaaW.PrintLast Go.Proofs.YtdoclpgciadjaaaW.PrintMore
set_option linter.unusedVariables false
set_option linter.unusedSimpArgs false
def impl_Decode.f (a0 : ByteArray) : Option (Bool × Int × Bool × Int × List Int × Int):=(impl_walkOver.f a0).bind fun bt205 => (if bt205.1 = 1 then ((impl_copyFrame.f bt205.2.2.2.2.2.2.2.1 bt205.2.2.2.2.2.2.2.2.1 bt205.2.2.2.2.2.2.2.2.2.1 bt205.2.2.2.2.2.2.2.2.2.2.1 bt205.2.2.2.2.2.2.2.2.2.2.2).bind fun bt220 => (some (bt220.1,bt220.2.1,bt220.2.2.1,bt220.2.2.2.1,bt220.2.2.2.2,bt205.1))) else (if bt205.1 = 2 then ((impl_copyFrame.f bt205.2.2.2.2.2.2.2.1 bt205.2.2.2.2.2.2.2.2.1 bt205.2.2.2.2.2.2.2.2.2.1 bt205.2.2.2.2.2.2.2.2.2.2.1 bt205.2.2.2.2.2.2.2.2.2.2.2).bind fun bt227 => (some (bt227.1,bt227.2.1,bt227.2.2.1,bt227.2.2.2.1,bt227.2.2.2.2,bt205.1))) else (some (false,0,false,0,([] : List Int),bt205.1))))
set_option maxHeartbeats 8000000 in
set_option maxRecDepth 100000 in
theorem impl_Decode.calls (a0 : ByteArray) (r1 : Bool) (r2 : Int) (r3 : Bool) (r4 : Int) (r5 : List Int) (r6 : Int) (w : World) (h : impl_Decode.f a0 = some (r1,r2,r3,r4,r5,r6)) :
  Calls Try.prog 24 #[.string a0] w fun e w' => ∃ v4_ : Value,e = .returned (.tuple #[.agg #[.bool r1, .int .u32 r2, .bool r3, .int .i64 r4,v4_], .int .i64 r6]) ∧ Kd.R (Kd.int .u8) 5 w' w.heap.size (fun _ => True) v4_ r5 ∧ Below w.heap.size w w':=by
 have hu25:=Try.underlying25
 have hu116:=Try.underlying116
 have HB:=Aside0.mk (Below.refl w.heap.size w)
 have H : ((impl_walkOver.f a0).bind fun bt205 => (if bt205.1 = 1 then ((impl_copyFrame.f bt205.2.2.2.2.2.2.2.1 bt205.2.2.2.2.2.2.2.2.1 bt205.2.2.2.2.2.2.2.2.2.1 bt205.2.2.2.2.2.2.2.2.2.2.1 bt205.2.2.2.2.2.2.2.2.2.2.2).bind fun bt220 => (some (bt220.1,bt220.2.1,bt220.2.2.1,bt220.2.2.2.1,bt220.2.2.2.2,bt205.1))) else (if bt205.1 = 2 then ((impl_copyFrame.f bt205.2.2.2.2.2.2.2.1 bt205.2.2.2.2.2.2.2.2.1 bt205.2.2.2.2.2.2.2.2.2.1 bt205.2.2.2.2.2.2.2.2.2.2.1 bt205.2.2.2.2.2.2.2.2.2.2.2).bind fun bt227 => (some (bt227.1,bt227.2.1,bt227.2.2.1,bt227.2.2.2.1,bt227.2.2.2.2,bt205.1))) else (some (false,0,false,0,([] : List Int),bt205.1))))) = some (r1,r2,r3,r4,r5,r6):=h
 clear h
 replace H:=Option.bind_eq_some_iff.mp H
 obtain ⟨⟨t205,t206,t207,t208,t209,t210,t211,t212,t213,t214,t215,t216⟩,A20,H⟩:=H
 replace H : (if t205 = 1 then ((impl_copyFrame.f t212 t213 t214 t215 t216).bind fun bt220 => (some (bt220.1,bt220.2.1,bt220.2.2.1,bt220.2.2.2.1,bt220.2.2.2.2,t205))) else (if t205 = 2 then ((impl_copyFrame.f t212 t213 t214 t215 t216).bind fun bt227 => (some (bt227.1,bt227.2.1,bt227.2.2.1,bt227.2.2.2.1,bt227.2.2.2.2,t205))) else (some (false,0,false,0,([] : List Int),t205)))) = some (r1,r2,r3,r4,r5,r6):=H
 have A2:=Aside0.mk A20
 clear A20
 by_cases c3 : t205 = 1
 ·rw [if_pos c3] at H
  have c3b0 : (t205 == 1) = true:=beq_iff_eq.mpr c3
  have c3b1 : (t205 != 1) = false:=bne_eq_false_iff_eq.mpr c3
  clear c3
  replace H:=Option.bind_eq_some_iff.mp H
  obtain ⟨⟨t220,t221,t222,t223,t224⟩,A40,H⟩:=H
  replace H : (some (t220,t221,t222,t223,t224,t205)) = some (r1,r2,r3,r4,r5,r6):=H
  have A4:=Aside0.mk A40
  clear A40
  simp only [Option.some.injEq,Prod.mk.injEq] at H
  obtain ⟨rfl,rfl,rfl,rfl,rfl,rfl⟩:=H
  go_enter Try.func24,Try.ntmps24
  try go_wp2_with (first | ((with_reducible refine gate_dst (N:=2) rfl ?_);refine box_event ?hg (N:=2) ?hd (cs := #[.bool false, .int .u32 0, .bool false, .int .i64 0, .slice none 0 0]) (t:=25) ?hr ?_;(case hd => rfl);(case hg => rfl);(case hr => first | (go_simp;done) | (go_simp;rfl));intro gb204 hg w5 hbox hb;have n0_:=Aside0.mk (below_step (by repeat (first | (with_reducible first | exact HB.out | apply below_alloc | apply pw_below_drewN | apply below_drew1) | exact HB.out)) hb);have n1_:=Aside0.mk (hbox);have n2_:=Aside0.mk ((by rw [hg];exact (below_size (by repeat (first | (with_reducible first | exact HB.out | apply below_alloc | apply pw_below_drewN | apply below_drew1) | exact HB.out))) : w.heap.size ≤ gb204));have n3_:=Aside0.mk ((by rw [hg];exact (below_size (by repeat (first | (with_reducible first | exact HB.out | apply below_alloc | apply pw_below_drewN | apply below_drew1) | exact HB.out))) : w.heap.size ≤ gb204));clear HB;have HB:=n0_;have BK204:=n1_;have GW204:=n2_;have GE204:=n3_;clear n0_ n1_ n2_ n3_;clear hb hbox hg) | ((with_reducible refine gate_callee (f:=81) rfl ?_);refine goesL_ (some 6) rfl rfl Try.func81 (by kernel_rfl) rfl #[.string a0] rfl (by (try simp only [List.map_toArray,List.map_cons,List.map_nil]);first | done | rfl | (simp only [List.length_drop,List.length_take];rfl)) ?_;(with_reducible refine (impl_walkOver.calls a0 t205 t206 t207 t208 t209 t210 t211 t212 t213 t214 t215 t216 _ A2.out).mono ?_);rintro e w6 ⟨v217,rfl,ho0,hb⟩;refine ⟨_,rfl, ?_⟩;have n0_:=Aside0.mk (Kd.R_lower ho0 (below_size (by repeat (first | (with_reducible first | exact HB.out | apply below_alloc | apply pw_below_drewN | apply below_drew1 | refine below_set ?_ GE204.out) | exact HB.out))));have n1_:=Aside0.mk (blk_below (g:=gb204) (o := .cells #[.bool false, .int .u32 0, .bool false, .int .i64 0, .slice none 0 0] 25 (0,0)) (by (with_reducible repeat (first | refine blk_drewN ?_ _ | refine blk_drew ?_ | refine blk_alloc ?_ _));exact BK204.out) hb);have n2_:=Aside0.mk (below_step (by repeat (first | (with_reducible first | exact HB.out | apply below_alloc | apply pw_below_drewN | apply below_drew1 | refine below_set ?_ GE204.out) | exact HB.out)) hb);clear BK204;clear HB;have HO218:=n0_;have BK204:=n1_;have HB:=n2_;clear n0_ n1_ n2_;(try clear hb);(try clear hb2);(try clear hk);(try clear hi);(try clear ho0)) | ((with_reducible refine gate_dst (N:=4) rfl ?_);refine box_event ?hg (N:=4) ?hd (cs := #[.int .i64 0, .int .i64 0, .int .i64 0, .int .i64 0, .int .i32 0, .int .i64 0, .int .i64 0, .bool false, .int .u32 0, .bool false, .int .i64 0, .slice none 0 0]) (t:=116) ?hr ?_;(case hd => rfl);(case hg => rfl);(case hr => first | (go_simp;done) | (go_simp;rfl));intro gb219 hg w7 hbox hb;have n0_:=Aside0.mk (Kd.R_below (by (with_reducible repeat (first | apply Kd.R_alloc | apply Kd.R_drewN | apply Kd.R_drew));exact HO218.out) hb);have n1_:=Aside0.mk (blk_below (g:=gb204) (o := .cells #[.bool false, .int .u32 0, .bool false, .int .i64 0, .slice none 0 0] 25 (0,0)) (by (with_reducible repeat (first | refine blk_drewN ?_ _ | refine blk_drew ?_ | refine blk_alloc ?_ _));exact BK204.out) hb);have n2_:=Aside0.mk (below_step (by repeat (first | (with_reducible first | exact HB.out | apply below_alloc | apply pw_below_drewN | apply below_drew1 | refine below_set ?_ GE204.out) | exact HB.out)) hb);have n3_:=Aside0.mk (hbox);have n4_:=Aside0.mk ((by rw [hg];exact (below_size (by repeat (first | (with_reducible first | exact HB.out | apply below_alloc | apply pw_below_drewN | apply below_drew1 | refine below_set ?_ GE204.out) | exact HB.out))) : w.heap.size ≤ gb219));have n5_:=Aside0.mk ((by rw [hg];exact (below_size (by repeat (first | (with_reducible first | exact HB.out | apply below_alloc | apply pw_below_drewN | apply below_drew1 | refine below_set ?_ GE204.out) | exact HB.out))) : w.heap.size ≤ gb219));have n6_:=Aside0.mk ((by rw [hg];exact Nat.ne_of_lt (blk_lt (g:=gb204) (o := .cells #[.bool false, .int .u32 0, .bool false, .int .i64 0, .slice none 0 0] 25 (0,0)) (by (with_reducible repeat (first | refine blk_drewN ?_ _ | refine blk_drew ?_ | refine blk_alloc ?_ _));exact BK204.out)) : gb204 ≠ gb219));have n7_:=Aside0.mk ((by rw [hg];exact Nat.ne_of_gt (blk_lt (g:=gb204) (o := .cells #[.bool false, .int .u32 0, .bool false, .int .i64 0, .slice none 0 0] 25 (0,0)) (by (with_reducible repeat (first | refine blk_drewN ?_ _ | refine blk_drew ?_ | refine blk_alloc ?_ _));exact BK204.out)) : gb219 ≠ gb204));clear HO218;clear BK204;clear HB;have HO218:=n0_;have BK204:=n1_;have HB:=n2_;have BK219:=n3_;have GW219:=n4_;have GE219:=n5_;have NB204_219:=n6_;have NB219_204:=n7_;clear n0_ n1_ n2_ n3_ n4_ n5_ n6_ n7_;clear hb hbox hg;have hnb8:=NB219_204.out;have hnc8:=NB204_219.out;have hcz9_0 : w7.cell? ⟨gb219,0,none⟩ = some (.int .i64 0):=(blk_cell BK219.out 0).trans rfl;have hcz9_1 : w7.cell? ⟨gb219,1,none⟩ = some (.int .i64 0):=(blk_cell BK219.out 1).trans rfl;have hcz9_2 : w7.cell? ⟨gb219,2,none⟩ = some (.int .i64 0):=(blk_cell BK219.out 2).trans rfl;have hcz9_3 : w7.cell? ⟨gb219,3,none⟩ = some (.int .i64 0):=(blk_cell BK219.out 3).trans rfl;have hcz9_4 : w7.cell? ⟨gb219,4,none⟩ = some (.int .i32 0):=(blk_cell BK219.out 4).trans rfl;have hcz9_5 : w7.cell? ⟨gb219,5,none⟩ = some (.int .i64 0):=(blk_cell BK219.out 5).trans rfl;have hcz9_6 : w7.cell? ⟨gb219,6,none⟩ = some (.int .i64 0):=(blk_cell BK219.out 6).trans rfl;have hcz9_7 : w7.cell? ⟨gb219,7,none⟩ = some (.bool false):=(blk_cell BK219.out 7).trans rfl;have hcz9_8 : w7.cell? ⟨gb219,8,none⟩ = some (.int .u32 0):=(blk_cell BK219.out 8).trans rfl;have hcz9_9 : w7.cell? ⟨gb219,9,none⟩ = some (.bool false):=(blk_cell BK219.out 9).trans rfl;have hcz9_10 : w7.cell? ⟨gb219,10,none⟩ = some (.int .i64 0):=(blk_cell BK219.out 10).trans rfl;have hcz9_11 : w7.cell? ⟨gb219,11,none⟩ = some (.slice none 0 0):=(blk_cell BK219.out 11).trans rfl;have hfz9_0:=blk_frozen BK219.out 0;have hfz9_1:=blk_frozen BK219.out 1;have hfz9_2:=blk_frozen BK219.out 2;have hfz9_3:=blk_frozen BK219.out 3;have hfz9_4:=blk_frozen BK219.out 4;have hfz9_5:=blk_frozen BK219.out 5;have hfz9_6:=blk_frozen BK219.out 6;have hfz9_7:=blk_frozen BK219.out 7;have hfz9_8:=blk_frozen BK219.out 8;have hfz9_9:=blk_frozen BK219.out 9;have hfz9_10:=blk_frozen BK219.out 10;have hfz9_11:=blk_frozen BK219.out 11;obtain ⟨Ao10,co10,eo10⟩:=Kd.R_slice HO218.out;subst eo10))
  have n0_ : Aside0 (Kd.R (Kd.int .u8) 5 ((((((((((((w7.setCell ⟨gb219,0,none⟩ (.int .i64 t205)).setCell ⟨gb219,1,none⟩ (.int .i64 t206)).setCell ⟨gb219,2,none⟩ (.int .i64 t207)).setCell ⟨gb219,3,none⟩ (.int .i64 t208)).setCell ⟨gb219,4,none⟩ (.int .i32 t209)).setCell ⟨gb219,5,none⟩ (.int .i64 t210)).setCell ⟨gb219,6,none⟩ (.int .i64 t211)).setCell ⟨gb219,7,none⟩ (.bool t212)).setCell ⟨gb219,8,none⟩ (.int .u32 t213)).setCell ⟨gb219,9,none⟩ (.bool t214)).setCell ⟨gb219,10,none⟩ (.int .i64 t215)).setCell ⟨gb219,11,none⟩ (.slice Ao10 t216.length co10)) w.heap.size (fun _ => True) (.slice Ao10 t216.length co10) t216):=⟨by (with_reducible repeat (first | apply Kd.R_alloc | apply Kd.R_drewN | apply Kd.R_drew));exact Kd.R_mono (Kd.R_far (p:=⟨gb219,11,none⟩) (Kd.R_far (p:=⟨gb219,10,none⟩) (Kd.R_far (p:=⟨gb219,9,none⟩) (Kd.R_far (p:=⟨gb219,8,none⟩) (Kd.R_far (p:=⟨gb219,7,none⟩) (Kd.R_far (p:=⟨gb219,6,none⟩) (Kd.R_far (p:=⟨gb219,5,none⟩) (Kd.R_far (p:=⟨gb219,4,none⟩) (Kd.R_far (p:=⟨gb219,3,none⟩) (Kd.R_far (p:=⟨gb219,2,none⟩) (Kd.R_far (p:=⟨gb219,1,none⟩) (Kd.R_far (p:=⟨gb219,0,none⟩) (Kd.R_types HO218.out BK219.out (by decide)) (fun _ hk => hk.2) (.int .i64 t205)) (fun _ hk => hk.2) (.int .i64 t206)) (fun _ hk => hk.2) (.int .i64 t207)) (fun _ hk => hk.2) (.int .i64 t208)) (fun _ hk => hk.2) (.int .i32 t209)) (fun _ hk => hk.2) (.int .i64 t210)) (fun _ hk => hk.2) (.int .i64 t211)) (fun _ hk => hk.2) (.bool t212)) (fun _ hk => hk.2) (.int .u32 t213)) (fun _ hk => hk.2) (.bool t214)) (fun _ hk => hk.2) (.int .i64 t215)) (fun _ hk => hk.2) (.slice Ao10 t216.length co10)) (fun _ hk => trivial)⟩
  have n1_ : Aside0 (((((((((((((w7.setCell ⟨gb219,0,none⟩ (.int .i64 t205)).setCell ⟨gb219,1,none⟩ (.int .i64 t206)).setCell ⟨gb219,2,none⟩ (.int .i64 t207)).setCell ⟨gb219,3,none⟩ (.int .i64 t208)).setCell ⟨gb219,4,none⟩ (.int .i32 t209)).setCell ⟨gb219,5,none⟩ (.int .i64 t210)).setCell ⟨gb219,6,none⟩ (.int .i64 t211)).setCell ⟨gb219,7,none⟩ (.bool t212)).setCell ⟨gb219,8,none⟩ (.int .u32 t213)).setCell ⟨gb219,9,none⟩ (.bool t214)).setCell ⟨gb219,10,none⟩ (.int .i64 t215)).setCell ⟨gb219,11,none⟩ (.slice Ao10 t216.length co10)).heap[gb204]? = some (.cells #[.bool false, .int .u32 0, .bool false, .int .i64 0, .slice none 0 0] 25 (0,0))):=⟨by (with_reducible repeat (first | refine blk_drewN ?_ _ | refine blk_drew ?_ | refine blk_alloc ?_ _));refine blk_far ?_ NB204_219.out _;(with_reducible repeat (first | refine blk_drewN ?_ _ | refine blk_drew ?_ | refine blk_alloc ?_ _));refine blk_far ?_ NB204_219.out _;(with_reducible repeat (first | refine blk_drewN ?_ _ | refine blk_drew ?_ | refine blk_alloc ?_ _));refine blk_far ?_ NB204_219.out _;(with_reducible repeat (first | refine blk_drewN ?_ _ | refine blk_drew ?_ | refine blk_alloc ?_ _));refine blk_far ?_ NB204_219.out _;(with_reducible repeat (first | refine blk_drewN ?_ _ | refine blk_drew ?_ | refine blk_alloc ?_ _));refine blk_far ?_ NB204_219.out _;(with_reducible repeat (first | refine blk_drewN ?_ _ | refine blk_drew ?_ | refine blk_alloc ?_ _));refine blk_far ?_ NB204_219.out _;(with_reducible repeat (first | refine blk_drewN ?_ _ | refine blk_drew ?_ | refine blk_alloc ?_ _));refine blk_far ?_ NB204_219.out _;(with_reducible repeat (first | refine blk_drewN ?_ _ | refine blk_drew ?_ | refine blk_alloc ?_ _));refine blk_far ?_ NB204_219.out _;(with_reducible repeat (first | refine blk_drewN ?_ _ | refine blk_drew ?_ | refine blk_alloc ?_ _));refine blk_far ?_ NB204_219.out _;(with_reducible repeat (first | refine blk_drewN ?_ _ | refine blk_drew ?_ | refine blk_alloc ?_ _));refine blk_far ?_ NB204_219.out _;(with_reducible repeat (first | refine blk_drewN ?_ _ | refine blk_drew ?_ | refine blk_alloc ?_ _));refine blk_far ?_ NB204_219.out _;(with_reducible repeat (first | refine blk_drewN ?_ _ | refine blk_drew ?_ | refine blk_alloc ?_ _));refine blk_far ?_ NB204_219.out _;(with_reducible repeat (first | refine blk_drewN ?_ _ | refine blk_drew ?_ | refine blk_alloc ?_ _));exact BK204.out⟩
  have n2_ : Aside0 (((((((((((((w7.setCell ⟨gb219,0,none⟩ (.int .i64 t205)).setCell ⟨gb219,1,none⟩ (.int .i64 t206)).setCell ⟨gb219,2,none⟩ (.int .i64 t207)).setCell ⟨gb219,3,none⟩ (.int .i64 t208)).setCell ⟨gb219,4,none⟩ (.int .i32 t209)).setCell ⟨gb219,5,none⟩ (.int .i64 t210)).setCell ⟨gb219,6,none⟩ (.int .i64 t211)).setCell ⟨gb219,7,none⟩ (.bool t212)).setCell ⟨gb219,8,none⟩ (.int .u32 t213)).setCell ⟨gb219,9,none⟩ (.bool t214)).setCell ⟨gb219,10,none⟩ (.int .i64 t215)).setCell ⟨gb219,11,none⟩ (.slice Ao10 t216.length co10)).heap[gb219]? = some (.cells #[.int .i64 t205, .int .i64 t206, .int .i64 t207, .int .i64 t208, .int .i32 t209, .int .i64 t210, .int .i64 t211, .bool t212, .int .u32 t213, .bool t214, .int .i64 t215, .slice Ao10 t216.length co10] 116 (0,0))):=⟨by (with_reducible repeat (first | refine blk_drewN ?_ _ | refine blk_drew ?_ | refine blk_alloc ?_ _));refine blk_put (cs := #[.int .i64 t205, .int .i64 t206, .int .i64 t207, .int .i64 t208, .int .i32 t209, .int .i64 t210, .int .i64 t211, .bool t212, .int .u32 t213, .bool t214, .int .i64 t215, .slice none 0 0]) ?_ 11 _ rfl;(with_reducible repeat (first | refine blk_drewN ?_ _ | refine blk_drew ?_ | refine blk_alloc ?_ _));refine blk_put (cs := #[.int .i64 t205, .int .i64 t206, .int .i64 t207, .int .i64 t208, .int .i32 t209, .int .i64 t210, .int .i64 t211, .bool t212, .int .u32 t213, .bool t214, .int .i64 0, .slice none 0 0]) ?_ 10 _ rfl;(with_reducible repeat (first | refine blk_drewN ?_ _ | refine blk_drew ?_ | refine blk_alloc ?_ _));refine blk_put (cs := #[.int .i64 t205, .int .i64 t206, .int .i64 t207, .int .i64 t208, .int .i32 t209, .int .i64 t210, .int .i64 t211, .bool t212, .int .u32 t213, .bool false, .int .i64 0, .slice none 0 0]) ?_ 9 _ rfl;(with_reducible repeat (first | refine blk_drewN ?_ _ | refine blk_drew ?_ | refine blk_alloc ?_ _));refine blk_put (cs := #[.int .i64 t205, .int .i64 t206, .int .i64 t207, .int .i64 t208, .int .i32 t209, .int .i64 t210, .int .i64 t211, .bool t212, .int .u32 0, .bool false, .int .i64 0, .slice none 0 0]) ?_ 8 _ rfl;(with_reducible repeat (first | refine blk_drewN ?_ _ | refine blk_drew ?_ | refine blk_alloc ?_ _));refine blk_put (cs := #[.int .i64 t205, .int .i64 t206, .int .i64 t207, .int .i64 t208, .int .i32 t209, .int .i64 t210, .int .i64 t211, .bool false, .int .u32 0, .bool false, .int .i64 0, .slice none 0 0]) ?_ 7 _ rfl;(with_reducible repeat (first | refine blk_drewN ?_ _ | refine blk_drew ?_ | refine blk_alloc ?_ _));refine blk_put (cs := #[.int .i64 t205, .int .i64 t206, .int .i64 t207, .int .i64 t208, .int .i32 t209, .int .i64 t210, .int .i64 0, .bool false, .int .u32 0, .bool false, .int .i64 0, .slice none 0 0]) ?_ 6 _ rfl;(with_reducible repeat (first | refine blk_drewN ?_ _ | refine blk_drew ?_ | refine blk_alloc ?_ _));refine blk_put (cs := #[.int .i64 t205, .int .i64 t206, .int .i64 t207, .int .i64 t208, .int .i32 t209, .int .i64 0, .int .i64 0, .bool false, .int .u32 0, .bool false, .int .i64 0, .slice none 0 0]) ?_ 5 _ rfl;(with_reducible repeat (first | refine blk_drewN ?_ _ | refine blk_drew ?_ | refine blk_alloc ?_ _));refine blk_put (cs := #[.int .i64 t205, .int .i64 t206, .int .i64 t207, .int .i64 t208, .int .i32 0, .int .i64 0, .int .i64 0, .bool false, .int .u32 0, .bool false, .int .i64 0, .slice none 0 0]) ?_ 4 _ rfl;(with_reducible repeat (first | refine blk_drewN ?_ _ | refine blk_drew ?_ | refine blk_alloc ?_ _));refine blk_put (cs := #[.int .i64 t205, .int .i64 t206, .int .i64 t207, .int .i64 0, .int .i32 0, .int .i64 0, .int .i64 0, .bool false, .int .u32 0, .bool false, .int .i64 0, .slice none 0 0]) ?_ 3 _ rfl;(with_reducible repeat (first | refine blk_drewN ?_ _ | refine blk_drew ?_ | refine blk_alloc ?_ _));refine blk_put (cs := #[.int .i64 t205, .int .i64 t206, .int .i64 0, .int .i64 0, .int .i32 0, .int .i64 0, .int .i64 0, .bool false, .int .u32 0, .bool false, .int .i64 0, .slice none 0 0]) ?_ 2 _ rfl;(with_reducible repeat (first | refine blk_drewN ?_ _ | refine blk_drew ?_ | refine blk_alloc ?_ _));refine blk_put (cs := #[.int .i64 t205, .int .i64 0, .int .i64 0, .int .i64 0, .int .i32 0, .int .i64 0, .int .i64 0, .bool false, .int .u32 0, .bool false, .int .i64 0, .slice none 0 0]) ?_ 1 _ rfl;(with_reducible repeat (first | refine blk_drewN ?_ _ | refine blk_drew ?_ | refine blk_alloc ?_ _));refine blk_put (cs := #[.int .i64 0, .int .i64 0, .int .i64 0, .int .i64 0, .int .i32 0, .int .i64 0, .int .i64 0, .bool false, .int .u32 0, .bool false, .int .i64 0, .slice none 0 0]) ?_ 0 _ rfl;(with_reducible repeat (first | refine blk_drewN ?_ _ | refine blk_drew ?_ | refine blk_alloc ?_ _));exact BK219.out⟩
  have n3_ : Aside0 (Below w.heap.size w ((((((((((((w7.setCell ⟨gb219,0,none⟩ (.int .i64 t205)).setCell ⟨gb219,1,none⟩ (.int .i64 t206)).setCell ⟨gb219,2,none⟩ (.int .i64 t207)).setCell ⟨gb219,3,none⟩ (.int .i64 t208)).setCell ⟨gb219,4,none⟩ (.int .i32 t209)).setCell ⟨gb219,5,none⟩ (.int .i64 t210)).setCell ⟨gb219,6,none⟩ (.int .i64 t211)).setCell ⟨gb219,7,none⟩ (.bool t212)).setCell ⟨gb219,8,none⟩ (.int .u32 t213)).setCell ⟨gb219,9,none⟩ (.bool t214)).setCell ⟨gb219,10,none⟩ (.int .i64 t215)).setCell ⟨gb219,11,none⟩ (.slice Ao10 t216.length co10))):=⟨by repeat (first | (with_reducible first | exact HB.out | apply below_alloc | apply pw_below_drewN | apply below_drew1 | refine below_set ?_ GE204.out | refine below_set ?_ GE219.out) | exact HB.out)⟩
  (try clear HO218)
  (try clear BK204)
  (try clear BK219)
  (try clear HB)
  generalize ((((((((((((w7.setCell ⟨gb219,0,none⟩ (.int .i64 t205)).setCell ⟨gb219,1,none⟩ (.int .i64 t206)).setCell ⟨gb219,2,none⟩ (.int .i64 t207)).setCell ⟨gb219,3,none⟩ (.int .i64 t208)).setCell ⟨gb219,4,none⟩ (.int .i32 t209)).setCell ⟨gb219,5,none⟩ (.int .i64 t210)).setCell ⟨gb219,6,none⟩ (.int .i64 t211)).setCell ⟨gb219,7,none⟩ (.bool t212)).setCell ⟨gb219,8,none⟩ (.int .u32 t213)).setCell ⟨gb219,9,none⟩ (.bool t214)).setCell ⟨gb219,10,none⟩ (.int .i64 t215)).setCell ⟨gb219,11,none⟩ (.slice Ao10 t216.length co10)) = w11 at n0_ n1_ n2_ n3_ ⊢
  have HO218:=n0_
  have BK204:=n1_
  have BK219:=n2_
  have HB:=n3_
  clear n0_ n1_ n2_ n3_
  have n0_:=Aside0.mk (Kd.R_drew HO218.out)
  have n1_:=Aside0.mk (blk_drew BK204.out)
  have n2_:=Aside0.mk (blk_drew BK219.out)
  have n3_:=Aside0.mk (below_drew1 HB.out)
  clear HO218
  clear BK204
  clear BK219
  clear HB
  have HO218:=n0_
  have BK204:=n1_
  have BK219:=n2_
  have HB:=n3_
  clear n0_ n1_ n2_ n3_
  refine start_ (n:=7) (S:=fun w' => w'.cell? ⟨gb219,0,none⟩ = some (.int .i64 t205) ∧ w'.cell? ⟨gb219,1,none⟩ = some (.int .i64 t206) ∧ w'.cell? ⟨gb219,2,none⟩ = some (.int .i64 t207) ∧ w'.cell? ⟨gb219,3,none⟩ = some (.int .i64 t208) ∧ w'.cell? ⟨gb219,4,none⟩ = some (.int .i32 t209) ∧ w'.cell? ⟨gb219,5,none⟩ = some (.int .i64 t210) ∧ w'.cell? ⟨gb219,6,none⟩ = some (.int .i64 t211) ∧ w'.cell? ⟨gb219,7,none⟩ = some (.bool t212) ∧ w'.cell? ⟨gb219,8,none⟩ = some (.int .u32 t213) ∧ w'.cell? ⟨gb219,9,none⟩ = some (.bool t214) ∧ w'.cell? ⟨gb219,10,none⟩ = some (.int .i64 t215) ∧ w'.cell? ⟨gb219,11,none⟩ = some (.slice Ao10 t216.length co10)) (ds := []) #[false,false,false,false,false,false,false] (by kernel_rfl) rfl rfl ⟨(blk_cell BK219.out 0).trans rfl,(blk_cell BK219.out 1).trans rfl,(blk_cell BK219.out 2).trans rfl,(blk_cell BK219.out 3).trans rfl,(blk_cell BK219.out 4).trans rfl,(blk_cell BK219.out 5).trans rfl,(blk_cell BK219.out 6).trans rfl,(blk_cell BK219.out 7).trans rfl,(blk_cell BK219.out 8).trans rfl,(blk_cell BK219.out 9).trans rfl,(blk_cell BK219.out 10).trans rfl,(blk_cell BK219.out 11).trans rfl⟩ (fun hHeld => ?_)
  generalize w11.drew = w12 at HO218 BK204 BK219 HB hHeld ⊢
  refine pure_ (i:=0) (N:=some 18) (v := ?_) (a' := ?_) #[true,false,false,false,false,false,false] rfl rfl (by kernel_rfl) (fun _ _ _ h => h) (Or.inl ⟨by rfl, ?_⟩) ?_ ?_
  rotate_left
  ·intro w'
   go_simp
   with_reducible rfl
  rotate_left
  ·simp only [Act.put,List.setIfInBounds_toArray,List.set_cons_zero,List.set_cons_succ,i64_w,i32_w]
   rfl
  refine pure_ (i:=3) (N:=some 21) (v := ?_) (a' := ?_) #[true,false,false,true,false,false,false] rfl rfl (by kernel_rfl) (fun _ _ _ h => h) (Or.inl ⟨by rfl, ?_⟩) ?_ ?_
  rotate_left
  ·intro w'
   go_simp
   with_reducible rfl
  rotate_left
  ·simp only [Act.put,List.setIfInBounds_toArray,List.set_cons_zero,List.set_cons_succ,i64_w,i32_w]
   rfl
  refine take_ (i:=1) (N:=some 19) (v := ?_) (a' := ?_) #[true,true,false,true,false,false,false] rfl rfl (by kernel_rfl) (fun _ _ _ h => h) (Or.inl ⟨by rfl, ?_⟩) hHeld ?_ ?_
  rotate_left
  ·rintro w' ⟨s0,s1,s2,s3,s4,s5,s6,s7,s8,s9,s10,s11⟩
   go_simp
   with_reducible rfl
  rotate_left
  ·simp only [Act.put,List.setIfInBounds_toArray,List.set_cons_zero,List.set_cons_succ,i64_w,i32_w]
   rfl
  refine take_ (i:=4) (N:=some 22) (v := ?_) (a' := ?_) #[true,true,false,true,true,false,false] rfl rfl (by kernel_rfl) (fun _ _ _ h => h) (Or.inl ⟨by rfl, ?_⟩) hHeld ?_ ?_
  rotate_left
  ·rintro w' ⟨s0,s1,s2,s3,s4,s5,s6,s7,s8,s9,s10,s11⟩
   go_simp
   with_reducible rfl
  rotate_left
  ·simp only [Act.put,List.setIfInBounds_toArray,List.set_cons_zero,List.set_cons_succ,i64_w,i32_w]
   rfl
  refine one_ (i:=2) (N:=some 20) #[true,true,true,true,true,false,false] rfl rfl (by kernel_rfl) (by decide) (fun K hK => ?_)
  refine goes_ Try.func84 (by kernel_rfl) rfl #[.agg #[.bool t212, .int .u32 t213, .bool t214, .int .i64 t215, .slice Ao10 t216.length co10]] (by rfl) rfl rfl (by (try simp only [List.map_toArray,List.map_cons,List.map_nil]);first | done | rfl | (simp only [List.length_drop,List.length_take];rfl)) ?_
  with_reducible refine (impl_copyFrame.calls t212 t213 t214 t215 _ _ t216 t220 t221 t222 t223 t224 _ ?side1 ?side2 A4.out).mono ?_
  (case side1 => repeat (first | exact (Kd.R_reads' HO218.out).2.2 | (with_reducible refine Kd.C_alloc ?_ _) | (with_reducible refine Kd.C_drewN ?_ _) | (with_reducible refine Kd.C_drew ?_)))
  (case side2 => exact (Kd.R_reads' HO218.out).2.1)
  rintro e w13 ⟨v225,rfl,ho0,hb⟩
  refine ⟨_,rfl, ?_⟩
  have n0_:=Aside0.mk (Kd.R_elder' (by (with_reducible repeat (first | apply Kd.R_alloc | apply Kd.R_drewN | apply Kd.R_drew));exact HO218.out) (Kd.R_base ho0) hb)
  have n1_:=Aside0.mk (Kd.R_lower (Kd.R_new' ho0 (Kd.R_lt (by (with_reducible repeat (first | apply Kd.R_alloc | apply Kd.R_drewN | apply Kd.R_drew));exact HO218.out))) (below_size (by repeat (first | (with_reducible first | exact HB.out | apply below_alloc | apply pw_below_drewN | apply below_drew1 | refine below_set ?_ GE204.out | refine below_set ?_ GE219.out) | exact HB.out))))
  have n2_:=Aside0.mk (blk_below (g:=gb204) (o := .cells #[.bool false, .int .u32 0, .bool false, .int .i64 0, .slice none 0 0] 25 (0,0)) (by (with_reducible repeat (first | refine blk_drewN ?_ _ | refine blk_drew ?_ | refine blk_alloc ?_ _));exact BK204.out) hb)
  have n3_:=Aside0.mk (blk_below (g:=gb219) (o := .cells #[.int .i64 t205, .int .i64 t206, .int .i64 t207, .int .i64 t208, .int .i32 t209, .int .i64 t210, .int .i64 t211, .bool t212, .int .u32 t213, .bool t214, .int .i64 t215, .slice Ao10 t216.length co10] 116 (0,0)) (by (with_reducible repeat (first | refine blk_drewN ?_ _ | refine blk_drew ?_ | refine blk_alloc ?_ _));exact BK219.out) hb)
  have n4_:=Aside0.mk (below_step (by repeat (first | (with_reducible first | exact HB.out | apply below_alloc | apply pw_below_drewN | apply below_drew1 | refine below_set ?_ GE204.out | refine below_set ?_ GE219.out) | exact HB.out)) hb)
  clear HO218
  clear BK204
  clear BK219
  clear HB
  have HO218:=n0_
  have HO226:=n1_
  have BK204:=n2_
  have BK219:=n3_
  have HB:=n4_
  clear n0_ n1_ n2_ n3_ n4_
  (try clear hb)
  (try clear hb2)
  (try clear hk)
  (try clear hi)
  (try clear ho0)
  obtain ⟨Ao18,co18,eo18⟩:=Kd.R_slice HO226.out
  (first | subst eo18 | (injection eo18 with f1_ f2_ f3_;have f4_:=f1_.symm;have f5_:=f3_.symm;clear f1_ f2_ f3_;subst f4_;subst f5_))
  refine hK.out _ _ ⟨(blk_cell BK219.out 0).trans rfl,(blk_cell BK219.out 1).trans rfl,(blk_cell BK219.out 2).trans rfl,(blk_cell BK219.out 3).trans rfl,(blk_cell BK219.out 4).trans rfl,(blk_cell BK219.out 5).trans rfl,(blk_cell BK219.out 6).trans rfl,(blk_cell BK219.out 7).trans rfl,(blk_cell BK219.out 8).trans rfl,(blk_cell BK219.out 9).trans rfl,(blk_cell BK219.out 10).trans rfl,(blk_cell BK219.out 11).trans rfl⟩ (fun hHeld => ?_)
  clear hK K
  refine norm_ (a' := ?_) ?_ ?_
  rotate_left
  ·show Act.put _ (some 20) _ = _
   simp only [Act.put,List.setIfInBounds_toArray,List.set_cons_zero,List.set_cons_succ,i64_w,i32_w]
   rfl
  refine one_ (i:=5) (N:=none) #[true,true,true,true,true,true,false] rfl rfl (by kernel_rfl) (by decide) (fun K hK => ?_)
  have hs14 : w13.cell? ⟨gb204,0,none⟩ = some (.bool false):=(blk_cell BK204.out 0).trans rfl
  have hfs14:=blk_frozen BK204.out 0
  have hns14_1:=NB219_204.out
  have hms14_1:=NB204_219.out
  have hs15 : w13.cell? ⟨gb204,1,none⟩ = some (.int .u32 0):=(blk_cell BK204.out 1).trans rfl
  have hfs15:=blk_frozen BK204.out 1
  have hns15_1:=NB219_204.out
  have hms15_1:=NB204_219.out
  have hs16 : w13.cell? ⟨gb204,2,none⟩ = some (.bool false):=(blk_cell BK204.out 2).trans rfl
  have hfs16:=blk_frozen BK204.out 2
  have hns16_1:=NB219_204.out
  have hms16_1:=NB204_219.out
  have hs17 : w13.cell? ⟨gb204,3,none⟩ = some (.int .i64 0):=(blk_cell BK204.out 3).trans rfl
  have hfs17:=blk_frozen BK204.out 3
  have hns17_1:=NB219_204.out
  have hms17_1:=NB204_219.out
  have hs19 : w13.cell? ⟨gb204,4,none⟩ = some (.slice none 0 0):=(blk_cell BK204.out 4).trans rfl
  have hfs19:=blk_frozen BK204.out 4
  have hns19_1:=NB219_204.out
  have hms19_1:=NB204_219.out
  refine skip_ (w1 := ?_) (by rfl) rfl ?_ ?_
  rotate_left
  ·go_simp
   rfl
  refine hK.out _ _ ⟨((cell_far (p:=⟨gb204,_,none⟩) NB219_204.out _).trans (((cell_far (p:=⟨gb204,_,none⟩) NB219_204.out _).trans (((cell_far (p:=⟨gb204,_,none⟩) NB219_204.out _).trans (((cell_far (p:=⟨gb204,_,none⟩) NB219_204.out _).trans (((cell_far (p:=⟨gb204,_,none⟩) NB219_204.out _).trans (hHeld.1)))))))))),((cell_far (p:=⟨gb204,_,none⟩) NB219_204.out _).trans (((cell_far (p:=⟨gb204,_,none⟩) NB219_204.out _).trans (((cell_far (p:=⟨gb204,_,none⟩) NB219_204.out _).trans (((cell_far (p:=⟨gb204,_,none⟩) NB219_204.out _).trans (((cell_far (p:=⟨gb204,_,none⟩) NB219_204.out _).trans (hHeld.2.1)))))))))),((cell_far (p:=⟨gb204,_,none⟩) NB219_204.out _).trans (((cell_far (p:=⟨gb204,_,none⟩) NB219_204.out _).trans (((cell_far (p:=⟨gb204,_,none⟩) NB219_204.out _).trans (((cell_far (p:=⟨gb204,_,none⟩) NB219_204.out _).trans (((cell_far (p:=⟨gb204,_,none⟩) NB219_204.out _).trans (hHeld.2.2.1)))))))))),((cell_far (p:=⟨gb204,_,none⟩) NB219_204.out _).trans (((cell_far (p:=⟨gb204,_,none⟩) NB219_204.out _).trans (((cell_far (p:=⟨gb204,_,none⟩) NB219_204.out _).trans (((cell_far (p:=⟨gb204,_,none⟩) NB219_204.out _).trans (((cell_far (p:=⟨gb204,_,none⟩) NB219_204.out _).trans (hHeld.2.2.2.1)))))))))),((cell_far (p:=⟨gb204,_,none⟩) NB219_204.out _).trans (((cell_far (p:=⟨gb204,_,none⟩) NB219_204.out _).trans (((cell_far (p:=⟨gb204,_,none⟩) NB219_204.out _).trans (((cell_far (p:=⟨gb204,_,none⟩) NB219_204.out _).trans (((cell_far (p:=⟨gb204,_,none⟩) NB219_204.out _).trans (hHeld.2.2.2.2.1)))))))))),((cell_far (p:=⟨gb204,_,none⟩) NB219_204.out _).trans (((cell_far (p:=⟨gb204,_,none⟩) NB219_204.out _).trans (((cell_far (p:=⟨gb204,_,none⟩) NB219_204.out _).trans (((cell_far (p:=⟨gb204,_,none⟩) NB219_204.out _).trans (((cell_far (p:=⟨gb204,_,none⟩) NB219_204.out _).trans (hHeld.2.2.2.2.2.1)))))))))),((cell_far (p:=⟨gb204,_,none⟩) NB219_204.out _).trans (((cell_far (p:=⟨gb204,_,none⟩) NB219_204.out _).trans (((cell_far (p:=⟨gb204,_,none⟩) NB219_204.out _).trans (((cell_far (p:=⟨gb204,_,none⟩) NB219_204.out _).trans (((cell_far (p:=⟨gb204,_,none⟩) NB219_204.out _).trans (hHeld.2.2.2.2.2.2.1)))))))))),((cell_far (p:=⟨gb204,_,none⟩) NB219_204.out _).trans (((cell_far (p:=⟨gb204,_,none⟩) NB219_204.out _).trans (((cell_far (p:=⟨gb204,_,none⟩) NB219_204.out _).trans (((cell_far (p:=⟨gb204,_,none⟩) NB219_204.out _).trans (((cell_far (p:=⟨gb204,_,none⟩) NB219_204.out _).trans (hHeld.2.2.2.2.2.2.2.1)))))))))),((cell_far (p:=⟨gb204,_,none⟩) NB219_204.out _).trans (((cell_far (p:=⟨gb204,_,none⟩) NB219_204.out _).trans (((cell_far (p:=⟨gb204,_,none⟩) NB219_204.out _).trans (((cell_far (p:=⟨gb204,_,none⟩) NB219_204.out _).trans (((cell_far (p:=⟨gb204,_,none⟩) NB219_204.out _).trans (hHeld.2.2.2.2.2.2.2.2.1)))))))))),((cell_far (p:=⟨gb204,_,none⟩) NB219_204.out _).trans (((cell_far (p:=⟨gb204,_,none⟩) NB219_204.out _).trans (((cell_far (p:=⟨gb204,_,none⟩) NB219_204.out _).trans (((cell_far (p:=⟨gb204,_,none⟩) NB219_204.out _).trans (((cell_far (p:=⟨gb204,_,none⟩) NB219_204.out _).trans (hHeld.2.2.2.2.2.2.2.2.2.1)))))))))),((cell_far (p:=⟨gb204,_,none⟩) NB219_204.out _).trans (((cell_far (p:=⟨gb204,_,none⟩) NB219_204.out _).trans (((cell_far (p:=⟨gb204,_,none⟩) NB219_204.out _).trans (((cell_far (p:=⟨gb204,_,none⟩) NB219_204.out _).trans (((cell_far (p:=⟨gb204,_,none⟩) NB219_204.out _).trans (hHeld.2.2.2.2.2.2.2.2.2.2.1)))))))))),((cell_far (p:=⟨gb204,_,none⟩) NB219_204.out _).trans (((cell_far (p:=⟨gb204,_,none⟩) NB219_204.out _).trans (((cell_far (p:=⟨gb204,_,none⟩) NB219_204.out _).trans (((cell_far (p:=⟨gb204,_,none⟩) NB219_204.out _).trans (((cell_far (p:=⟨gb204,_,none⟩) NB219_204.out _).trans (hHeld.2.2.2.2.2.2.2.2.2.2.2))))))))))⟩ (fun hHeld => ?_)
  clear hK K
  refine pure_ (i:=6) (N:=some 3) (v := ?_) (a' := ?_) #[true,true,true,true,true,true,true] rfl rfl (by kernel_rfl) (fun _ _ _ h => h) (Or.inl ⟨by rfl, ?_⟩) ?_ ?_
  rotate_left
  ·intro w'
   go_simp
   with_reducible rfl
  rotate_left
  ·simp only [Act.put,List.setIfInBounds_toArray,List.set_cons_zero,List.set_cons_succ,i64_w,i32_w]
   rfl
  refine done_ (by kernel_rfl) ?_
  try go_wp2
  refine bodyPost_ret (results_ct rfl _ _ gb204 25 #[.bool t220, .int .u32 t221, .bool t222, .int .i64 t223, .slice Ao18 t224.length co18] (0,0) _ rfl (by (with_reducible repeat (first | refine blk_drewN ?_ _ | refine blk_drew ?_ | refine blk_alloc ?_ _));refine blk_put (cs := #[.bool t220, .int .u32 t221, .bool t222, .int .i64 t223, .slice none 0 0]) ?_ 4 _ rfl;(with_reducible repeat (first | refine blk_drewN ?_ _ | refine blk_drew ?_ | refine blk_alloc ?_ _));refine blk_put (cs := #[.bool t220, .int .u32 t221, .bool t222, .int .i64 0, .slice none 0 0]) ?_ 3 _ rfl;(with_reducible repeat (first | refine blk_drewN ?_ _ | refine blk_drew ?_ | refine blk_alloc ?_ _));refine blk_put (cs := #[.bool t220, .int .u32 t221, .bool false, .int .i64 0, .slice none 0 0]) ?_ 2 _ rfl;(with_reducible repeat (first | refine blk_drewN ?_ _ | refine blk_drew ?_ | refine blk_alloc ?_ _));refine blk_put (cs := #[.bool t220, .int .u32 0, .bool false, .int .i64 0, .slice none 0 0]) ?_ 1 _ rfl;(with_reducible repeat (first | refine blk_drewN ?_ _ | refine blk_drew ?_ | refine blk_alloc ?_ _));refine blk_put (cs := #[.bool false, .int .u32 0, .bool false, .int .i64 0, .slice none 0 0]) ?_ 0 _ rfl;(with_reducible repeat (first | refine blk_drewN ?_ _ | refine blk_drew ?_ | refine blk_alloc ?_ _));exact BK204.out) Try.underlying25 rfl (by kernel_rfl)) rfl ?_
  exact ⟨_,by first | rfl | (simp [errW_none,errW_some] <;> rfl) | (simp [*,errW_none,errW_some] <;> rfl),by (with_reducible repeat (first | apply Kd.R_alloc | apply Kd.R_drewN | apply Kd.R_drew));exact Kd.R_mono (Kd.R_far (p:=⟨gb204,4,none⟩) (Kd.R_far (p:=⟨gb204,3,none⟩) (Kd.R_far (p:=⟨gb204,2,none⟩) (Kd.R_far (p:=⟨gb204,1,none⟩) (Kd.R_far (p:=⟨gb204,0,none⟩) (Kd.R_types HO226.out BK204.out (by decide)) (fun _ hk => hk.2) (.bool t220)) (fun _ hk => hk.2) (.int .u32 t221)) (fun _ hk => hk.2) (.bool t222)) (fun _ hk => hk.2) (.int .i64 t223)) (fun _ hk => hk.2) (.slice Ao18 t224.length co18)) (fun _ hk => trivial),by repeat (first | (with_reducible first | exact HB.out | apply below_alloc | apply pw_below_drewN | apply below_drew1 | refine below_set ?_ GE204.out | refine below_set ?_ GE219.out) | exact HB.out)⟩
 ·rw [if_neg c3] at H
  have c3b0 : (t205 == 1) = false:=beq_eq_false_iff_ne.mpr c3
  have c3b1 : (t205 != 1) = true:=bne_iff_ne.mpr c3
  by_cases c20 : t205 = 2
  ·rw [if_pos c20] at H
   have c20b0 : (t205 == 2) = true:=beq_iff_eq.mpr c20
   have c20b1 : (t205 != 2) = false:=bne_eq_false_iff_eq.mpr c20
   clear c20
   replace H:=Option.bind_eq_some_iff.mp H
   obtain ⟨⟨t227,t228,t229,t230,t231⟩,A210,H⟩:=H
   replace H : (some (t227,t228,t229,t230,t231,t205)) = some (r1,r2,r3,r4,r5,r6):=H
   have A21:=Aside0.mk A210
   clear A210
   simp only [Option.some.injEq,Prod.mk.injEq] at H
   obtain ⟨rfl,rfl,rfl,rfl,rfl,rfl⟩:=H
   go_enter Try.func24,Try.ntmps24
   try go_wp2_with (first | ((with_reducible refine gate_dst (N:=2) rfl ?_);refine box_event ?hg (N:=2) ?hd (cs := #[.bool false, .int .u32 0, .bool false, .int .i64 0, .slice none 0 0]) (t:=25) ?hr ?_;(case hd => rfl);(case hg => rfl);(case hr => first | (go_simp;done) | (go_simp;rfl));intro gb204 hg w22 hbox hb;have n0_:=Aside0.mk (below_step (by repeat (first | (with_reducible first | exact HB.out | apply below_alloc | apply pw_below_drewN | apply below_drew1) | exact HB.out)) hb);have n1_:=Aside0.mk (hbox);have n2_:=Aside0.mk ((by rw [hg];exact (below_size (by repeat (first | (with_reducible first | exact HB.out | apply below_alloc | apply pw_below_drewN | apply below_drew1) | exact HB.out))) : w.heap.size ≤ gb204));have n3_:=Aside0.mk ((by rw [hg];exact (below_size (by repeat (first | (with_reducible first | exact HB.out | apply below_alloc | apply pw_below_drewN | apply below_drew1) | exact HB.out))) : w.heap.size ≤ gb204));clear HB;have HB:=n0_;have BK204:=n1_;have GW204:=n2_;have GE204:=n3_;clear n0_ n1_ n2_ n3_;clear hb hbox hg) | ((with_reducible refine gate_callee (f:=81) rfl ?_);refine goesL_ (some 6) rfl rfl Try.func81 (by kernel_rfl) rfl #[.string a0] rfl (by (try simp only [List.map_toArray,List.map_cons,List.map_nil]);first | done | rfl | (simp only [List.length_drop,List.length_take];rfl)) ?_;(with_reducible refine (impl_walkOver.calls a0 t205 t206 t207 t208 t209 t210 t211 t212 t213 t214 t215 t216 _ A2.out).mono ?_);rintro e w23 ⟨v217,rfl,ho0,hb⟩;refine ⟨_,rfl, ?_⟩;have n0_:=Aside0.mk (Kd.R_lower ho0 (below_size (by repeat (first | (with_reducible first | exact HB.out | apply below_alloc | apply pw_below_drewN | apply below_drew1 | refine below_set ?_ GE204.out) | exact HB.out))));have n1_:=Aside0.mk (blk_below (g:=gb204) (o := .cells #[.bool false, .int .u32 0, .bool false, .int .i64 0, .slice none 0 0] 25 (0,0)) (by (with_reducible repeat (first | refine blk_drewN ?_ _ | refine blk_drew ?_ | refine blk_alloc ?_ _));exact BK204.out) hb);have n2_:=Aside0.mk (below_step (by repeat (first | (with_reducible first | exact HB.out | apply below_alloc | apply pw_below_drewN | apply below_drew1 | refine below_set ?_ GE204.out) | exact HB.out)) hb);clear BK204;clear HB;have HO218:=n0_;have BK204:=n1_;have HB:=n2_;clear n0_ n1_ n2_;(try clear hb);(try clear hb2);(try clear hk);(try clear hi);(try clear ho0)) | ((with_reducible refine gate_dst (N:=4) rfl ?_);refine box_event ?hg (N:=4) ?hd (cs := #[.int .i64 0, .int .i64 0, .int .i64 0, .int .i64 0, .int .i32 0, .int .i64 0, .int .i64 0, .bool false, .int .u32 0, .bool false, .int .i64 0, .slice none 0 0]) (t:=116) ?hr ?_;(case hd => rfl);(case hg => rfl);(case hr => first | (go_simp;done) | (go_simp;rfl));intro gb219 hg w24 hbox hb;have n0_:=Aside0.mk (Kd.R_below (by (with_reducible repeat (first | apply Kd.R_alloc | apply Kd.R_drewN | apply Kd.R_drew));exact HO218.out) hb);have n1_:=Aside0.mk (blk_below (g:=gb204) (o := .cells #[.bool false, .int .u32 0, .bool false, .int .i64 0, .slice none 0 0] 25 (0,0)) (by (with_reducible repeat (first | refine blk_drewN ?_ _ | refine blk_drew ?_ | refine blk_alloc ?_ _));exact BK204.out) hb);have n2_:=Aside0.mk (below_step (by repeat (first | (with_reducible first | exact HB.out | apply below_alloc | apply pw_below_drewN | apply below_drew1 | refine below_set ?_ GE204.out) | exact HB.out)) hb);have n3_:=Aside0.mk (hbox);have n4_:=Aside0.mk ((by rw [hg];exact (below_size (by repeat (first | (with_reducible first | exact HB.out | apply below_alloc | apply pw_below_drewN | apply below_drew1 | refine below_set ?_ GE204.out) | exact HB.out))) : w.heap.size ≤ gb219));have n5_:=Aside0.mk ((by rw [hg];exact (below_size (by repeat (first | (with_reducible first | exact HB.out | apply below_alloc | apply pw_below_drewN | apply below_drew1 | refine below_set ?_ GE204.out) | exact HB.out))) : w.heap.size ≤ gb219));have n6_:=Aside0.mk ((by rw [hg];exact Nat.ne_of_lt (blk_lt (g:=gb204) (o := .cells #[.bool false, .int .u32 0, .bool false, .int .i64 0, .slice none 0 0] 25 (0,0)) (by (with_reducible repeat (first | refine blk_drewN ?_ _ | refine blk_drew ?_ | refine blk_alloc ?_ _));exact BK204.out)) : gb204 ≠ gb219));have n7_:=Aside0.mk ((by rw [hg];exact Nat.ne_of_gt (blk_lt (g:=gb204) (o := .cells #[.bool false, .int .u32 0, .bool false, .int .i64 0, .slice none 0 0] 25 (0,0)) (by (with_reducible repeat (first | refine blk_drewN ?_ _ | refine blk_drew ?_ | refine blk_alloc ?_ _));exact BK204.out)) : gb219 ≠ gb204));clear HO218;clear BK204;clear HB;have HO218:=n0_;have BK204:=n1_;have HB:=n2_;have BK219:=n3_;have GW219:=n4_;have GE219:=n5_;have NB204_219:=n6_;have NB219_204:=n7_;clear n0_ n1_ n2_ n3_ n4_ n5_ n6_ n7_;clear hb hbox hg;have hnb25:=NB219_204.out;have hnc25:=NB204_219.out;have hcz26_0 : w24.cell? ⟨gb219,0,none⟩ = some (.int .i64 0):=(blk_cell BK219.out 0).trans rfl;have hcz26_1 : w24.cell? ⟨gb219,1,none⟩ = some (.int .i64 0):=(blk_cell BK219.out 1).trans rfl;have hcz26_2 : w24.cell? ⟨gb219,2,none⟩ = some (.int .i64 0):=(blk_cell BK219.out 2).trans rfl;have hcz26_3 : w24.cell? ⟨gb219,3,none⟩ = some (.int .i64 0):=(blk_cell BK219.out 3).trans rfl;have hcz26_4 : w24.cell? ⟨gb219,4,none⟩ = some (.int .i32 0):=(blk_cell BK219.out 4).trans rfl;have hcz26_5 : w24.cell? ⟨gb219,5,none⟩ = some (.int .i64 0):=(blk_cell BK219.out 5).trans rfl;have hcz26_6 : w24.cell? ⟨gb219,6,none⟩ = some (.int .i64 0):=(blk_cell BK219.out 6).trans rfl;have hcz26_7 : w24.cell? ⟨gb219,7,none⟩ = some (.bool false):=(blk_cell BK219.out 7).trans rfl;have hcz26_8 : w24.cell? ⟨gb219,8,none⟩ = some (.int .u32 0):=(blk_cell BK219.out 8).trans rfl;have hcz26_9 : w24.cell? ⟨gb219,9,none⟩ = some (.bool false):=(blk_cell BK219.out 9).trans rfl;have hcz26_10 : w24.cell? ⟨gb219,10,none⟩ = some (.int .i64 0):=(blk_cell BK219.out 10).trans rfl;have hcz26_11 : w24.cell? ⟨gb219,11,none⟩ = some (.slice none 0 0):=(blk_cell BK219.out 11).trans rfl;have hfz26_0:=blk_frozen BK219.out 0;have hfz26_1:=blk_frozen BK219.out 1;have hfz26_2:=blk_frozen BK219.out 2;have hfz26_3:=blk_frozen BK219.out 3;have hfz26_4:=blk_frozen BK219.out 4;have hfz26_5:=blk_frozen BK219.out 5;have hfz26_6:=blk_frozen BK219.out 6;have hfz26_7:=blk_frozen BK219.out 7;have hfz26_8:=blk_frozen BK219.out 8;have hfz26_9:=blk_frozen BK219.out 9;have hfz26_10:=blk_frozen BK219.out 10;have hfz26_11:=blk_frozen BK219.out 11;obtain ⟨Ao27,co27,eo27⟩:=Kd.R_slice HO218.out;subst eo27))
   have n0_ : Aside0 (Kd.R (Kd.int .u8) 5 ((((((((((((w24.setCell ⟨gb219,0,none⟩ (.int .i64 t205)).setCell ⟨gb219,1,none⟩ (.int .i64 t206)).setCell ⟨gb219,2,none⟩ (.int .i64 t207)).setCell ⟨gb219,3,none⟩ (.int .i64 t208)).setCell ⟨gb219,4,none⟩ (.int .i32 t209)).setCell ⟨gb219,5,none⟩ (.int .i64 t210)).setCell ⟨gb219,6,none⟩ (.int .i64 t211)).setCell ⟨gb219,7,none⟩ (.bool t212)).setCell ⟨gb219,8,none⟩ (.int .u32 t213)).setCell ⟨gb219,9,none⟩ (.bool t214)).setCell ⟨gb219,10,none⟩ (.int .i64 t215)).setCell ⟨gb219,11,none⟩ (.slice Ao27 t216.length co27)) w.heap.size (fun _ => True) (.slice Ao27 t216.length co27) t216):=⟨by (with_reducible repeat (first | apply Kd.R_alloc | apply Kd.R_drewN | apply Kd.R_drew));exact Kd.R_mono (Kd.R_far (p:=⟨gb219,11,none⟩) (Kd.R_far (p:=⟨gb219,10,none⟩) (Kd.R_far (p:=⟨gb219,9,none⟩) (Kd.R_far (p:=⟨gb219,8,none⟩) (Kd.R_far (p:=⟨gb219,7,none⟩) (Kd.R_far (p:=⟨gb219,6,none⟩) (Kd.R_far (p:=⟨gb219,5,none⟩) (Kd.R_far (p:=⟨gb219,4,none⟩) (Kd.R_far (p:=⟨gb219,3,none⟩) (Kd.R_far (p:=⟨gb219,2,none⟩) (Kd.R_far (p:=⟨gb219,1,none⟩) (Kd.R_far (p:=⟨gb219,0,none⟩) (Kd.R_types HO218.out BK219.out (by decide)) (fun _ hk => hk.2) (.int .i64 t205)) (fun _ hk => hk.2) (.int .i64 t206)) (fun _ hk => hk.2) (.int .i64 t207)) (fun _ hk => hk.2) (.int .i64 t208)) (fun _ hk => hk.2) (.int .i32 t209)) (fun _ hk => hk.2) (.int .i64 t210)) (fun _ hk => hk.2) (.int .i64 t211)) (fun _ hk => hk.2) (.bool t212)) (fun _ hk => hk.2) (.int .u32 t213)) (fun _ hk => hk.2) (.bool t214)) (fun _ hk => hk.2) (.int .i64 t215)) (fun _ hk => hk.2) (.slice Ao27 t216.length co27)) (fun _ hk => trivial)⟩
   have n1_ : Aside0 (((((((((((((w24.setCell ⟨gb219,0,none⟩ (.int .i64 t205)).setCell ⟨gb219,1,none⟩ (.int .i64 t206)).setCell ⟨gb219,2,none⟩ (.int .i64 t207)).setCell ⟨gb219,3,none⟩ (.int .i64 t208)).setCell ⟨gb219,4,none⟩ (.int .i32 t209)).setCell ⟨gb219,5,none⟩ (.int .i64 t210)).setCell ⟨gb219,6,none⟩ (.int .i64 t211)).setCell ⟨gb219,7,none⟩ (.bool t212)).setCell ⟨gb219,8,none⟩ (.int .u32 t213)).setCell ⟨gb219,9,none⟩ (.bool t214)).setCell ⟨gb219,10,none⟩ (.int .i64 t215)).setCell ⟨gb219,11,none⟩ (.slice Ao27 t216.length co27)).heap[gb204]? = some (.cells #[.bool false, .int .u32 0, .bool false, .int .i64 0, .slice none 0 0] 25 (0,0))):=⟨by (with_reducible repeat (first | refine blk_drewN ?_ _ | refine blk_drew ?_ | refine blk_alloc ?_ _));refine blk_far ?_ NB204_219.out _;(with_reducible repeat (first | refine blk_drewN ?_ _ | refine blk_drew ?_ | refine blk_alloc ?_ _));refine blk_far ?_ NB204_219.out _;(with_reducible repeat (first | refine blk_drewN ?_ _ | refine blk_drew ?_ | refine blk_alloc ?_ _));refine blk_far ?_ NB204_219.out _;(with_reducible repeat (first | refine blk_drewN ?_ _ | refine blk_drew ?_ | refine blk_alloc ?_ _));refine blk_far ?_ NB204_219.out _;(with_reducible repeat (first | refine blk_drewN ?_ _ | refine blk_drew ?_ | refine blk_alloc ?_ _));refine blk_far ?_ NB204_219.out _;(with_reducible repeat (first | refine blk_drewN ?_ _ | refine blk_drew ?_ | refine blk_alloc ?_ _));refine blk_far ?_ NB204_219.out _;(with_reducible repeat (first | refine blk_drewN ?_ _ | refine blk_drew ?_ | refine blk_alloc ?_ _));refine blk_far ?_ NB204_219.out _;(with_reducible repeat (first | refine blk_drewN ?_ _ | refine blk_drew ?_ | refine blk_alloc ?_ _));refine blk_far ?_ NB204_219.out _;(with_reducible repeat (first | refine blk_drewN ?_ _ | refine blk_drew ?_ | refine blk_alloc ?_ _));refine blk_far ?_ NB204_219.out _;(with_reducible repeat (first | refine blk_drewN ?_ _ | refine blk_drew ?_ | refine blk_alloc ?_ _));refine blk_far ?_ NB204_219.out _;(with_reducible repeat (first | refine blk_drewN ?_ _ | refine blk_drew ?_ | refine blk_alloc ?_ _));refine blk_far ?_ NB204_219.out _;(with_reducible repeat (first | refine blk_drewN ?_ _ | refine blk_drew ?_ | refine blk_alloc ?_ _));refine blk_far ?_ NB204_219.out _;(with_reducible repeat (first | refine blk_drewN ?_ _ | refine blk_drew ?_ | refine blk_alloc ?_ _));exact BK204.out⟩
   have n2_ : Aside0 (((((((((((((w24.setCell ⟨gb219,0,none⟩ (.int .i64 t205)).setCell ⟨gb219,1,none⟩ (.int .i64 t206)).setCell ⟨gb219,2,none⟩ (.int .i64 t207)).setCell ⟨gb219,3,none⟩ (.int .i64 t208)).setCell ⟨gb219,4,none⟩ (.int .i32 t209)).setCell ⟨gb219,5,none⟩ (.int .i64 t210)).setCell ⟨gb219,6,none⟩ (.int .i64 t211)).setCell ⟨gb219,7,none⟩ (.bool t212)).setCell ⟨gb219,8,none⟩ (.int .u32 t213)).setCell ⟨gb219,9,none⟩ (.bool t214)).setCell ⟨gb219,10,none⟩ (.int .i64 t215)).setCell ⟨gb219,11,none⟩ (.slice Ao27 t216.length co27)).heap[gb219]? = some (.cells #[.int .i64 t205, .int .i64 t206, .int .i64 t207, .int .i64 t208, .int .i32 t209, .int .i64 t210, .int .i64 t211, .bool t212, .int .u32 t213, .bool t214, .int .i64 t215, .slice Ao27 t216.length co27] 116 (0,0))):=⟨by (with_reducible repeat (first | refine blk_drewN ?_ _ | refine blk_drew ?_ | refine blk_alloc ?_ _));refine blk_put (cs := #[.int .i64 t205, .int .i64 t206, .int .i64 t207, .int .i64 t208, .int .i32 t209, .int .i64 t210, .int .i64 t211, .bool t212, .int .u32 t213, .bool t214, .int .i64 t215, .slice none 0 0]) ?_ 11 _ rfl;(with_reducible repeat (first | refine blk_drewN ?_ _ | refine blk_drew ?_ | refine blk_alloc ?_ _));refine blk_put (cs := #[.int .i64 t205, .int .i64 t206, .int .i64 t207, .int .i64 t208, .int .i32 t209, .int .i64 t210, .int .i64 t211, .bool t212, .int .u32 t213, .bool t214, .int .i64 0, .slice none 0 0]) ?_ 10 _ rfl;(with_reducible repeat (first | refine blk_drewN ?_ _ | refine blk_drew ?_ | refine blk_alloc ?_ _));refine blk_put (cs := #[.int .i64 t205, .int .i64 t206, .int .i64 t207, .int .i64 t208, .int .i32 t209, .int .i64 t210, .int .i64 t211, .bool t212, .int .u32 t213, .bool false, .int .i64 0, .slice none 0 0]) ?_ 9 _ rfl;(with_reducible repeat (first | refine blk_drewN ?_ _ | refine blk_drew ?_ | refine blk_alloc ?_ _));refine blk_put (cs := #[.int .i64 t205, .int .i64 t206, .int .i64 t207, .int .i64 t208, .int .i32 t209, .int .i64 t210, .int .i64 t211, .bool t212, .int .u32 0, .bool false, .int .i64 0, .slice none 0 0]) ?_ 8 _ rfl;(with_reducible repeat (first | refine blk_drewN ?_ _ | refine blk_drew ?_ | refine blk_alloc ?_ _));refine blk_put (cs := #[.int .i64 t205, .int .i64 t206, .int .i64 t207, .int .i64 t208, .int .i32 t209, .int .i64 t210, .int .i64 t211, .bool false, .int .u32 0, .bool false, .int .i64 0, .slice none 0 0]) ?_ 7 _ rfl;(with_reducible repeat (first | refine blk_drewN ?_ _ | refine blk_drew ?_ | refine blk_alloc ?_ _));refine blk_put (cs := #[.int .i64 t205, .int .i64 t206, .int .i64 t207, .int .i64 t208, .int .i32 t209, .int .i64 t210, .int .i64 0, .bool false, .int .u32 0, .bool false, .int .i64 0, .slice none 0 0]) ?_ 6 _ rfl;(with_reducible repeat (first | refine blk_drewN ?_ _ | refine blk_drew ?_ | refine blk_alloc ?_ _));refine blk_put (cs := #[.int .i64 t205, .int .i64 t206, .int .i64 t207, .int .i64 t208, .int .i32 t209, .int .i64 0, .int .i64 0, .bool false, .int .u32 0, .bool false, .int .i64 0, .slice none 0 0]) ?_ 5 _ rfl;(with_reducible repeat (first | refine blk_drewN ?_ _ | refine blk_drew ?_ | refine blk_alloc ?_ _));refine blk_put (cs := #[.int .i64 t205, .int .i64 t206, .int .i64 t207, .int .i64 t208, .int .i32 0, .int .i64 0, .int .i64 0, .bool false, .int .u32 0, .bool false, .int .i64 0, .slice none 0 0]) ?_ 4 _ rfl;(with_reducible repeat (first | refine blk_drewN ?_ _ | refine blk_drew ?_ | refine blk_alloc ?_ _));refine blk_put (cs := #[.int .i64 t205, .int .i64 t206, .int .i64 t207, .int .i64 0, .int .i32 0, .int .i64 0, .int .i64 0, .bool false, .int .u32 0, .bool false, .int .i64 0, .slice none 0 0]) ?_ 3 _ rfl;(with_reducible repeat (first | refine blk_drewN ?_ _ | refine blk_drew ?_ | refine blk_alloc ?_ _));refine blk_put (cs := #[.int .i64 t205, .int .i64 t206, .int .i64 0, .int .i64 0, .int .i32 0, .int .i64 0, .int .i64 0, .bool false, .int .u32 0, .bool false, .int .i64 0, .slice none 0 0]) ?_ 2 _ rfl;(with_reducible repeat (first | refine blk_drewN ?_ _ | refine blk_drew ?_ | refine blk_alloc ?_ _));refine blk_put (cs := #[.int .i64 t205, .int .i64 0, .int .i64 0, .int .i64 0, .int .i32 0, .int .i64 0, .int .i64 0, .bool false, .int .u32 0, .bool false, .int .i64 0, .slice none 0 0]) ?_ 1 _ rfl;(with_reducible repeat (first | refine blk_drewN ?_ _ | refine blk_drew ?_ | refine blk_alloc ?_ _));refine blk_put (cs := #[.int .i64 0, .int .i64 0, .int .i64 0, .int .i64 0, .int .i32 0, .int .i64 0, .int .i64 0, .bool false, .int .u32 0, .bool false, .int .i64 0, .slice none 0 0]) ?_ 0 _ rfl;(with_reducible repeat (first | refine blk_drewN ?_ _ | refine blk_drew ?_ | refine blk_alloc ?_ _));exact BK219.out⟩
   have n3_ : Aside0 (Below w.heap.size w ((((((((((((w24.setCell ⟨gb219,0,none⟩ (.int .i64 t205)).setCell ⟨gb219,1,none⟩ (.int .i64 t206)).setCell ⟨gb219,2,none⟩ (.int .i64 t207)).setCell ⟨gb219,3,none⟩ (.int .i64 t208)).setCell ⟨gb219,4,none⟩ (.int .i32 t209)).setCell ⟨gb219,5,none⟩ (.int .i64 t210)).setCell ⟨gb219,6,none⟩ (.int .i64 t211)).setCell ⟨gb219,7,none⟩ (.bool t212)).setCell ⟨gb219,8,none⟩ (.int .u32 t213)).setCell ⟨gb219,9,none⟩ (.bool t214)).setCell ⟨gb219,10,none⟩ (.int .i64 t215)).setCell ⟨gb219,11,none⟩ (.slice Ao27 t216.length co27))):=⟨by repeat (first | (with_reducible first | exact HB.out | apply below_alloc | apply pw_below_drewN | apply below_drew1 | refine below_set ?_ GE204.out | refine below_set ?_ GE219.out) | exact HB.out)⟩
   (try clear HO218)
   (try clear BK204)
   (try clear BK219)
   (try clear HB)
   generalize ((((((((((((w24.setCell ⟨gb219,0,none⟩ (.int .i64 t205)).setCell ⟨gb219,1,none⟩ (.int .i64 t206)).setCell ⟨gb219,2,none⟩ (.int .i64 t207)).setCell ⟨gb219,3,none⟩ (.int .i64 t208)).setCell ⟨gb219,4,none⟩ (.int .i32 t209)).setCell ⟨gb219,5,none⟩ (.int .i64 t210)).setCell ⟨gb219,6,none⟩ (.int .i64 t211)).setCell ⟨gb219,7,none⟩ (.bool t212)).setCell ⟨gb219,8,none⟩ (.int .u32 t213)).setCell ⟨gb219,9,none⟩ (.bool t214)).setCell ⟨gb219,10,none⟩ (.int .i64 t215)).setCell ⟨gb219,11,none⟩ (.slice Ao27 t216.length co27)) = w28 at n0_ n1_ n2_ n3_ ⊢
   have HO218:=n0_
   have BK204:=n1_
   have BK219:=n2_
   have HB:=n3_
   clear n0_ n1_ n2_ n3_
   have n0_:=Aside0.mk (Kd.R_drew HO218.out)
   have n1_:=Aside0.mk (blk_drew BK204.out)
   have n2_:=Aside0.mk (blk_drew BK219.out)
   have n3_:=Aside0.mk (below_drew1 HB.out)
   clear HO218
   clear BK204
   clear BK219
   clear HB
   have HO218:=n0_
   have BK204:=n1_
   have BK219:=n2_
   have HB:=n3_
   clear n0_ n1_ n2_ n3_
   refine start_ (n:=7) (S:=fun w' => w'.cell? ⟨gb219,0,none⟩ = some (.int .i64 t205) ∧ w'.cell? ⟨gb219,1,none⟩ = some (.int .i64 t206) ∧ w'.cell? ⟨gb219,2,none⟩ = some (.int .i64 t207) ∧ w'.cell? ⟨gb219,3,none⟩ = some (.int .i64 t208) ∧ w'.cell? ⟨gb219,4,none⟩ = some (.int .i32 t209) ∧ w'.cell? ⟨gb219,5,none⟩ = some (.int .i64 t210) ∧ w'.cell? ⟨gb219,6,none⟩ = some (.int .i64 t211) ∧ w'.cell? ⟨gb219,7,none⟩ = some (.bool t212) ∧ w'.cell? ⟨gb219,8,none⟩ = some (.int .u32 t213) ∧ w'.cell? ⟨gb219,9,none⟩ = some (.bool t214) ∧ w'.cell? ⟨gb219,10,none⟩ = some (.int .i64 t215) ∧ w'.cell? ⟨gb219,11,none⟩ = some (.slice Ao27 t216.length co27)) (ds := []) #[false,false,false,false,false,false,false] (by kernel_rfl) rfl rfl ⟨(blk_cell BK219.out 0).trans rfl,(blk_cell BK219.out 1).trans rfl,(blk_cell BK219.out 2).trans rfl,(blk_cell BK219.out 3).trans rfl,(blk_cell BK219.out 4).trans rfl,(blk_cell BK219.out 5).trans rfl,(blk_cell BK219.out 6).trans rfl,(blk_cell BK219.out 7).trans rfl,(blk_cell BK219.out 8).trans rfl,(blk_cell BK219.out 9).trans rfl,(blk_cell BK219.out 10).trans rfl,(blk_cell BK219.out 11).trans rfl⟩ (fun hHeld => ?_)
   generalize w28.drew = w29 at HO218 BK204 BK219 HB hHeld ⊢
   refine pure_ (i:=0) (N:=some 18) (v := ?_) (a' := ?_) #[true,false,false,false,false,false,false] rfl rfl (by kernel_rfl) (fun _ _ _ h => h) (Or.inl ⟨by rfl, ?_⟩) ?_ ?_
   rotate_left
   ·intro w'
    go_simp
    with_reducible rfl
   rotate_left
   ·simp only [Act.put,List.setIfInBounds_toArray,List.set_cons_zero,List.set_cons_succ,i64_w,i32_w]
    rfl
   refine pure_ (i:=3) (N:=some 21) (v := ?_) (a' := ?_) #[true,false,false,true,false,false,false] rfl rfl (by kernel_rfl) (fun _ _ _ h => h) (Or.inl ⟨by rfl, ?_⟩) ?_ ?_
   rotate_left
   ·intro w'
    go_simp
    with_reducible rfl
   rotate_left
   ·simp only [Act.put,List.setIfInBounds_toArray,List.set_cons_zero,List.set_cons_succ,i64_w,i32_w]
    rfl
   refine take_ (i:=1) (N:=some 19) (v := ?_) (a' := ?_) #[true,true,false,true,false,false,false] rfl rfl (by kernel_rfl) (fun _ _ _ h => h) (Or.inl ⟨by rfl, ?_⟩) hHeld ?_ ?_
   rotate_left
   ·rintro w' ⟨s0,s1,s2,s3,s4,s5,s6,s7,s8,s9,s10,s11⟩
    go_simp
    with_reducible rfl
   rotate_left
   ·simp only [Act.put,List.setIfInBounds_toArray,List.set_cons_zero,List.set_cons_succ,i64_w,i32_w]
    rfl
   refine take_ (i:=4) (N:=some 22) (v := ?_) (a' := ?_) #[true,true,false,true,true,false,false] rfl rfl (by kernel_rfl) (fun _ _ _ h => h) (Or.inl ⟨by rfl, ?_⟩) hHeld ?_ ?_
   rotate_left
   ·rintro w' ⟨s0,s1,s2,s3,s4,s5,s6,s7,s8,s9,s10,s11⟩
    go_simp
    with_reducible rfl
   rotate_left
   ·simp only [Act.put,List.setIfInBounds_toArray,List.set_cons_zero,List.set_cons_succ,i64_w,i32_w]
    rfl
   refine one_ (i:=2) (N:=some 20) #[true,true,true,true,true,false,false] rfl rfl (by kernel_rfl) (by decide) (fun K hK => ?_)
   refine goes_ Try.func84 (by kernel_rfl) rfl #[.agg #[.bool t212, .int .u32 t213, .bool t214, .int .i64 t215, .slice Ao27 t216.length co27]] (by rfl) rfl rfl (by (try simp only [List.map_toArray,List.map_cons,List.map_nil]);first | done | rfl | (simp only [List.length_drop,List.length_take];rfl)) ?_
   with_reducible refine (impl_copyFrame.calls t212 t213 t214 t215 _ _ t216 t227 t228 t229 t230 t231 _ ?side1 ?side2 A21.out).mono ?_
   (case side1 => repeat (first | exact (Kd.R_reads' HO218.out).2.2 | (with_reducible refine Kd.C_alloc ?_ _) | (with_reducible refine Kd.C_drewN ?_ _) | (with_reducible refine Kd.C_drew ?_)))
   (case side2 => exact (Kd.R_reads' HO218.out).2.1)
   rintro e w30 ⟨v232,rfl,ho0,hb⟩
   refine ⟨_,rfl, ?_⟩
   have n0_:=Aside0.mk (Kd.R_elder' (by (with_reducible repeat (first | apply Kd.R_alloc | apply Kd.R_drewN | apply Kd.R_drew));exact HO218.out) (Kd.R_base ho0) hb)
   have n1_:=Aside0.mk (Kd.R_lower (Kd.R_new' ho0 (Kd.R_lt (by (with_reducible repeat (first | apply Kd.R_alloc | apply Kd.R_drewN | apply Kd.R_drew));exact HO218.out))) (below_size (by repeat (first | (with_reducible first | exact HB.out | apply below_alloc | apply pw_below_drewN | apply below_drew1 | refine below_set ?_ GE204.out | refine below_set ?_ GE219.out) | exact HB.out))))
   have n2_:=Aside0.mk (blk_below (g:=gb204) (o := .cells #[.bool false, .int .u32 0, .bool false, .int .i64 0, .slice none 0 0] 25 (0,0)) (by (with_reducible repeat (first | refine blk_drewN ?_ _ | refine blk_drew ?_ | refine blk_alloc ?_ _));exact BK204.out) hb)
   have n3_:=Aside0.mk (blk_below (g:=gb219) (o := .cells #[.int .i64 t205, .int .i64 t206, .int .i64 t207, .int .i64 t208, .int .i32 t209, .int .i64 t210, .int .i64 t211, .bool t212, .int .u32 t213, .bool t214, .int .i64 t215, .slice Ao27 t216.length co27] 116 (0,0)) (by (with_reducible repeat (first | refine blk_drewN ?_ _ | refine blk_drew ?_ | refine blk_alloc ?_ _));exact BK219.out) hb)
   have n4_:=Aside0.mk (below_step (by repeat (first | (with_reducible first | exact HB.out | apply below_alloc | apply pw_below_drewN | apply below_drew1 | refine below_set ?_ GE204.out | refine below_set ?_ GE219.out) | exact HB.out)) hb)
   clear HO218
   clear BK204
   clear BK219
   clear HB
   have HO218:=n0_
   have HO233:=n1_
   have BK204:=n2_
   have BK219:=n3_
   have HB:=n4_
   clear n0_ n1_ n2_ n3_ n4_
   (try clear hb)
   (try clear hb2)
   (try clear hk)
   (try clear hi)
   (try clear ho0)
   obtain ⟨Ao35,co35,eo35⟩:=Kd.R_slice HO233.out
   (first | subst eo35 | (injection eo35 with f1_ f2_ f3_;have f4_:=f1_.symm;have f5_:=f3_.symm;clear f1_ f2_ f3_;subst f4_;subst f5_))
   refine hK.out _ _ ⟨(blk_cell BK219.out 0).trans rfl,(blk_cell BK219.out 1).trans rfl,(blk_cell BK219.out 2).trans rfl,(blk_cell BK219.out 3).trans rfl,(blk_cell BK219.out 4).trans rfl,(blk_cell BK219.out 5).trans rfl,(blk_cell BK219.out 6).trans rfl,(blk_cell BK219.out 7).trans rfl,(blk_cell BK219.out 8).trans rfl,(blk_cell BK219.out 9).trans rfl,(blk_cell BK219.out 10).trans rfl,(blk_cell BK219.out 11).trans rfl⟩ (fun hHeld => ?_)
   clear hK K
   refine norm_ (a' := ?_) ?_ ?_
   rotate_left
   ·show Act.put _ (some 20) _ = _
    simp only [Act.put,List.setIfInBounds_toArray,List.set_cons_zero,List.set_cons_succ,i64_w,i32_w]
    rfl
   refine one_ (i:=5) (N:=none) #[true,true,true,true,true,true,false] rfl rfl (by kernel_rfl) (by decide) (fun K hK => ?_)
   have hs31 : w30.cell? ⟨gb204,0,none⟩ = some (.bool false):=(blk_cell BK204.out 0).trans rfl
   have hfs31:=blk_frozen BK204.out 0
   have hns31_1:=NB219_204.out
   have hms31_1:=NB204_219.out
   have hs32 : w30.cell? ⟨gb204,1,none⟩ = some (.int .u32 0):=(blk_cell BK204.out 1).trans rfl
   have hfs32:=blk_frozen BK204.out 1
   have hns32_1:=NB219_204.out
   have hms32_1:=NB204_219.out
   have hs33 : w30.cell? ⟨gb204,2,none⟩ = some (.bool false):=(blk_cell BK204.out 2).trans rfl
   have hfs33:=blk_frozen BK204.out 2
   have hns33_1:=NB219_204.out
   have hms33_1:=NB204_219.out
   have hs34 : w30.cell? ⟨gb204,3,none⟩ = some (.int .i64 0):=(blk_cell BK204.out 3).trans rfl
   have hfs34:=blk_frozen BK204.out 3
   have hns34_1:=NB219_204.out
   have hms34_1:=NB204_219.out
   have hs36 : w30.cell? ⟨gb204,4,none⟩ = some (.slice none 0 0):=(blk_cell BK204.out 4).trans rfl
   have hfs36:=blk_frozen BK204.out 4
   have hns36_1:=NB219_204.out
   have hms36_1:=NB204_219.out
   refine skip_ (w1 := ?_) (by rfl) rfl ?_ ?_
   rotate_left
   ·go_simp
    rfl
   refine hK.out _ _ ⟨((cell_far (p:=⟨gb204,_,none⟩) NB219_204.out _).trans (((cell_far (p:=⟨gb204,_,none⟩) NB219_204.out _).trans (((cell_far (p:=⟨gb204,_,none⟩) NB219_204.out _).trans (((cell_far (p:=⟨gb204,_,none⟩) NB219_204.out _).trans (((cell_far (p:=⟨gb204,_,none⟩) NB219_204.out _).trans (hHeld.1)))))))))),((cell_far (p:=⟨gb204,_,none⟩) NB219_204.out _).trans (((cell_far (p:=⟨gb204,_,none⟩) NB219_204.out _).trans (((cell_far (p:=⟨gb204,_,none⟩) NB219_204.out _).trans (((cell_far (p:=⟨gb204,_,none⟩) NB219_204.out _).trans (((cell_far (p:=⟨gb204,_,none⟩) NB219_204.out _).trans (hHeld.2.1)))))))))),((cell_far (p:=⟨gb204,_,none⟩) NB219_204.out _).trans (((cell_far (p:=⟨gb204,_,none⟩) NB219_204.out _).trans (((cell_far (p:=⟨gb204,_,none⟩) NB219_204.out _).trans (((cell_far (p:=⟨gb204,_,none⟩) NB219_204.out _).trans (((cell_far (p:=⟨gb204,_,none⟩) NB219_204.out _).trans (hHeld.2.2.1)))))))))),((cell_far (p:=⟨gb204,_,none⟩) NB219_204.out _).trans (((cell_far (p:=⟨gb204,_,none⟩) NB219_204.out _).trans (((cell_far (p:=⟨gb204,_,none⟩) NB219_204.out _).trans (((cell_far (p:=⟨gb204,_,none⟩) NB219_204.out _).trans (((cell_far (p:=⟨gb204,_,none⟩) NB219_204.out _).trans (hHeld.2.2.2.1)))))))))),((cell_far (p:=⟨gb204,_,none⟩) NB219_204.out _).trans (((cell_far (p:=⟨gb204,_,none⟩) NB219_204.out _).trans (((cell_far (p:=⟨gb204,_,none⟩) NB219_204.out _).trans (((cell_far (p:=⟨gb204,_,none⟩) NB219_204.out _).trans (((cell_far (p:=⟨gb204,_,none⟩) NB219_204.out _).trans (hHeld.2.2.2.2.1)))))))))),((cell_far (p:=⟨gb204,_,none⟩) NB219_204.out _).trans (((cell_far (p:=⟨gb204,_,none⟩) NB219_204.out _).trans (((cell_far (p:=⟨gb204,_,none⟩) NB219_204.out _).trans (((cell_far (p:=⟨gb204,_,none⟩) NB219_204.out _).trans (((cell_far (p:=⟨gb204,_,none⟩) NB219_204.out _).trans (hHeld.2.2.2.2.2.1)))))))))),((cell_far (p:=⟨gb204,_,none⟩) NB219_204.out _).trans (((cell_far (p:=⟨gb204,_,none⟩) NB219_204.out _).trans (((cell_far (p:=⟨gb204,_,none⟩) NB219_204.out _).trans (((cell_far (p:=⟨gb204,_,none⟩) NB219_204.out _).trans (((cell_far (p:=⟨gb204,_,none⟩) NB219_204.out _).trans (hHeld.2.2.2.2.2.2.1)))))))))),((cell_far (p:=⟨gb204,_,none⟩) NB219_204.out _).trans (((cell_far (p:=⟨gb204,_,none⟩) NB219_204.out _).trans (((cell_far (p:=⟨gb204,_,none⟩) NB219_204.out _).trans (((cell_far (p:=⟨gb204,_,none⟩) NB219_204.out _).trans (((cell_far (p:=⟨gb204,_,none⟩) NB219_204.out _).trans (hHeld.2.2.2.2.2.2.2.1)))))))))),((cell_far (p:=⟨gb204,_,none⟩) NB219_204.out _).trans (((cell_far (p:=⟨gb204,_,none⟩) NB219_204.out _).trans (((cell_far (p:=⟨gb204,_,none⟩) NB219_204.out _).trans (((cell_far (p:=⟨gb204,_,none⟩) NB219_204.out _).trans (((cell_far (p:=⟨gb204,_,none⟩) NB219_204.out _).trans (hHeld.2.2.2.2.2.2.2.2.1)))))))))),((cell_far (p:=⟨gb204,_,none⟩) NB219_204.out _).trans (((cell_far (p:=⟨gb204,_,none⟩) NB219_204.out _).trans (((cell_far (p:=⟨gb204,_,none⟩) NB219_204.out _).trans (((cell_far (p:=⟨gb204,_,none⟩) NB219_204.out _).trans (((cell_far (p:=⟨gb204,_,none⟩) NB219_204.out _).trans (hHeld.2.2.2.2.2.2.2.2.2.1)))))))))),((cell_far (p:=⟨gb204,_,none⟩) NB219_204.out _).trans (((cell_far (p:=⟨gb204,_,none⟩) NB219_204.out _).trans (((cell_far (p:=⟨gb204,_,none⟩) NB219_204.out _).trans (((cell_far (p:=⟨gb204,_,none⟩) NB219_204.out _).trans (((cell_far (p:=⟨gb204,_,none⟩) NB219_204.out _).trans (hHeld.2.2.2.2.2.2.2.2.2.2.1)))))))))),((cell_far (p:=⟨gb204,_,none⟩) NB219_204.out _).trans (((cell_far (p:=⟨gb204,_,none⟩) NB219_204.out _).trans (((cell_far (p:=⟨gb204,_,none⟩) NB219_204.out _).trans (((cell_far (p:=⟨gb204,_,none⟩) NB219_204.out _).trans (((cell_far (p:=⟨gb204,_,none⟩) NB219_204.out _).trans (hHeld.2.2.2.2.2.2.2.2.2.2.2))))))))))⟩ (fun hHeld => ?_)
   clear hK K
   refine pure_ (i:=6) (N:=some 3) (v := ?_) (a' := ?_) #[true,true,true,true,true,true,true] rfl rfl (by kernel_rfl) (fun _ _ _ h => h) (Or.inl ⟨by rfl, ?_⟩) ?_ ?_
   rotate_left
   ·intro w'
    go_simp
    with_reducible rfl
   rotate_left
   ·simp only [Act.put,List.setIfInBounds_toArray,List.set_cons_zero,List.set_cons_succ,i64_w,i32_w]
    rfl
   refine done_ (by kernel_rfl) ?_
   try go_wp2
   refine bodyPost_ret (results_ct rfl _ _ gb204 25 #[.bool t227, .int .u32 t228, .bool t229, .int .i64 t230, .slice Ao35 t231.length co35] (0,0) _ rfl (by (with_reducible repeat (first | refine blk_drewN ?_ _ | refine blk_drew ?_ | refine blk_alloc ?_ _));refine blk_put (cs := #[.bool t227, .int .u32 t228, .bool t229, .int .i64 t230, .slice none 0 0]) ?_ 4 _ rfl;(with_reducible repeat (first | refine blk_drewN ?_ _ | refine blk_drew ?_ | refine blk_alloc ?_ _));refine blk_put (cs := #[.bool t227, .int .u32 t228, .bool t229, .int .i64 0, .slice none 0 0]) ?_ 3 _ rfl;(with_reducible repeat (first | refine blk_drewN ?_ _ | refine blk_drew ?_ | refine blk_alloc ?_ _));refine blk_put (cs := #[.bool t227, .int .u32 t228, .bool false, .int .i64 0, .slice none 0 0]) ?_ 2 _ rfl;(with_reducible repeat (first | refine blk_drewN ?_ _ | refine blk_drew ?_ | refine blk_alloc ?_ _));refine blk_put (cs := #[.bool t227, .int .u32 0, .bool false, .int .i64 0, .slice none 0 0]) ?_ 1 _ rfl;(with_reducible repeat (first | refine blk_drewN ?_ _ | refine blk_drew ?_ | refine blk_alloc ?_ _));refine blk_put (cs := #[.bool false, .int .u32 0, .bool false, .int .i64 0, .slice none 0 0]) ?_ 0 _ rfl;(with_reducible repeat (first | refine blk_drewN ?_ _ | refine blk_drew ?_ | refine blk_alloc ?_ _));exact BK204.out) Try.underlying25 rfl (by kernel_rfl)) rfl ?_
   exact ⟨_,by first | rfl | (simp [errW_none,errW_some] <;> rfl) | (simp [*,errW_none,errW_some] <;> rfl),by (with_reducible repeat (first | apply Kd.R_alloc | apply Kd.R_drewN | apply Kd.R_drew));exact Kd.R_mono (Kd.R_far (p:=⟨gb204,4,none⟩) (Kd.R_far (p:=⟨gb204,3,none⟩) (Kd.R_far (p:=⟨gb204,2,none⟩) (Kd.R_far (p:=⟨gb204,1,none⟩) (Kd.R_far (p:=⟨gb204,0,none⟩) (Kd.R_types HO233.out BK204.out (by decide)) (fun _ hk => hk.2) (.bool t227)) (fun _ hk => hk.2) (.int .u32 t228)) (fun _ hk => hk.2) (.bool t229)) (fun _ hk => hk.2) (.int .i64 t230)) (fun _ hk => hk.2) (.slice Ao35 t231.length co35)) (fun _ hk => trivial),by repeat (first | (with_reducible first | exact HB.out | apply below_alloc | apply pw_below_drewN | apply below_drew1 | refine below_set ?_ GE204.out | refine below_set ?_ GE219.out) | exact HB.out)⟩
  ·rw [if_neg c20] at H
   have c20b0 : (t205 == 2) = false:=beq_eq_false_iff_ne.mpr c20
   have c20b1 : (t205 != 2) = true:=bne_iff_ne.mpr c20
   simp only [Option.some.injEq,Prod.mk.injEq] at H
   obtain ⟨rfl,rfl,rfl,rfl,rfl,rfl⟩:=H
   go_enter Try.func24,Try.ntmps24
   try go_wp2_with (first | ((with_reducible refine gate_dst (N:=2) rfl ?_);refine box_event ?hg (N:=2) ?hd (cs := #[.bool false, .int .u32 0, .bool false, .int .i64 0, .slice none 0 0]) (t:=25) ?hr ?_;(case hd => rfl);(case hg => rfl);(case hr => first | (go_simp;done) | (go_simp;rfl));intro gb204 hg w37 hbox hb;have n0_:=Aside0.mk (below_step (by repeat (first | (with_reducible first | exact HB.out | apply below_alloc | apply pw_below_drewN | apply below_drew1) | exact HB.out)) hb);have n1_:=Aside0.mk (hbox);have n2_:=Aside0.mk ((by rw [hg];exact (below_size (by repeat (first | (with_reducible first | exact HB.out | apply below_alloc | apply pw_below_drewN | apply below_drew1) | exact HB.out))) : w.heap.size ≤ gb204));have n3_:=Aside0.mk ((by rw [hg];exact (below_size (by repeat (first | (with_reducible first | exact HB.out | apply below_alloc | apply pw_below_drewN | apply below_drew1) | exact HB.out))) : w.heap.size ≤ gb204));clear HB;have HB:=n0_;have BK204:=n1_;have GW204:=n2_;have GE204:=n3_;clear n0_ n1_ n2_ n3_;clear hb hbox hg) | ((with_reducible refine gate_callee (f:=81) rfl ?_);refine goesL_ (some 6) rfl rfl Try.func81 (by kernel_rfl) rfl #[.string a0] rfl (by (try simp only [List.map_toArray,List.map_cons,List.map_nil]);first | done | rfl | (simp only [List.length_drop,List.length_take];rfl)) ?_;(with_reducible refine (impl_walkOver.calls a0 t205 t206 t207 t208 t209 t210 t211 t212 t213 t214 t215 t216 _ A2.out).mono ?_);rintro e w38 ⟨v217,rfl,ho0,hb⟩;refine ⟨_,rfl, ?_⟩;have n0_:=Aside0.mk (Kd.R_lower ho0 (below_size (by repeat (first | (with_reducible first | exact HB.out | apply below_alloc | apply pw_below_drewN | apply below_drew1 | refine below_set ?_ GE204.out) | exact HB.out))));have n1_:=Aside0.mk (blk_below (g:=gb204) (o := .cells #[.bool false, .int .u32 0, .bool false, .int .i64 0, .slice none 0 0] 25 (0,0)) (by (with_reducible repeat (first | refine blk_drewN ?_ _ | refine blk_drew ?_ | refine blk_alloc ?_ _));exact BK204.out) hb);have n2_:=Aside0.mk (below_step (by repeat (first | (with_reducible first | exact HB.out | apply below_alloc | apply pw_below_drewN | apply below_drew1 | refine below_set ?_ GE204.out) | exact HB.out)) hb);clear BK204;clear HB;have HO218:=n0_;have BK204:=n1_;have HB:=n2_;clear n0_ n1_ n2_;(try clear hb);(try clear hb2);(try clear hk);(try clear hi);(try clear ho0)) | ((with_reducible refine gate_dst (N:=4) rfl ?_);refine box_event ?hg (N:=4) ?hd (cs := #[.int .i64 0, .int .i64 0, .int .i64 0, .int .i64 0, .int .i32 0, .int .i64 0, .int .i64 0, .bool false, .int .u32 0, .bool false, .int .i64 0, .slice none 0 0]) (t:=116) ?hr ?_;(case hd => rfl);(case hg => rfl);(case hr => first | (go_simp;done) | (go_simp;rfl));intro gb219 hg w39 hbox hb;have n0_:=Aside0.mk (Kd.R_below (by (with_reducible repeat (first | apply Kd.R_alloc | apply Kd.R_drewN | apply Kd.R_drew));exact HO218.out) hb);have n1_:=Aside0.mk (blk_below (g:=gb204) (o := .cells #[.bool false, .int .u32 0, .bool false, .int .i64 0, .slice none 0 0] 25 (0,0)) (by (with_reducible repeat (first | refine blk_drewN ?_ _ | refine blk_drew ?_ | refine blk_alloc ?_ _));exact BK204.out) hb);have n2_:=Aside0.mk (below_step (by repeat (first | (with_reducible first | exact HB.out | apply below_alloc | apply pw_below_drewN | apply below_drew1 | refine below_set ?_ GE204.out) | exact HB.out)) hb);have n3_:=Aside0.mk (hbox);have n4_:=Aside0.mk ((by rw [hg];exact (below_size (by repeat (first | (with_reducible first | exact HB.out | apply below_alloc | apply pw_below_drewN | apply below_drew1 | refine below_set ?_ GE204.out) | exact HB.out))) : w.heap.size ≤ gb219));have n5_:=Aside0.mk ((by rw [hg];exact (below_size (by repeat (first | (with_reducible first | exact HB.out | apply below_alloc | apply pw_below_drewN | apply below_drew1 | refine below_set ?_ GE204.out) | exact HB.out))) : w.heap.size ≤ gb219));have n6_:=Aside0.mk ((by rw [hg];exact Nat.ne_of_lt (blk_lt (g:=gb204) (o := .cells #[.bool false, .int .u32 0, .bool false, .int .i64 0, .slice none 0 0] 25 (0,0)) (by (with_reducible repeat (first | refine blk_drewN ?_ _ | refine blk_drew ?_ | refine blk_alloc ?_ _));exact BK204.out)) : gb204 ≠ gb219));have n7_:=Aside0.mk ((by rw [hg];exact Nat.ne_of_gt (blk_lt (g:=gb204) (o := .cells #[.bool false, .int .u32 0, .bool false, .int .i64 0, .slice none 0 0] 25 (0,0)) (by (with_reducible repeat (first | refine blk_drewN ?_ _ | refine blk_drew ?_ | refine blk_alloc ?_ _));exact BK204.out)) : gb219 ≠ gb204));clear HO218;clear BK204;clear HB;have HO218:=n0_;have BK204:=n1_;have HB:=n2_;have BK219:=n3_;have GW219:=n4_;have GE219:=n5_;have NB204_219:=n6_;have NB219_204:=n7_;clear n0_ n1_ n2_ n3_ n4_ n5_ n6_ n7_;clear hb hbox hg;have hnb40:=NB219_204.out;have hnc40:=NB204_219.out;have hcz41_0 : w39.cell? ⟨gb219,0,none⟩ = some (.int .i64 0):=(blk_cell BK219.out 0).trans rfl;have hcz41_1 : w39.cell? ⟨gb219,1,none⟩ = some (.int .i64 0):=(blk_cell BK219.out 1).trans rfl;have hcz41_2 : w39.cell? ⟨gb219,2,none⟩ = some (.int .i64 0):=(blk_cell BK219.out 2).trans rfl;have hcz41_3 : w39.cell? ⟨gb219,3,none⟩ = some (.int .i64 0):=(blk_cell BK219.out 3).trans rfl;have hcz41_4 : w39.cell? ⟨gb219,4,none⟩ = some (.int .i32 0):=(blk_cell BK219.out 4).trans rfl;have hcz41_5 : w39.cell? ⟨gb219,5,none⟩ = some (.int .i64 0):=(blk_cell BK219.out 5).trans rfl;have hcz41_6 : w39.cell? ⟨gb219,6,none⟩ = some (.int .i64 0):=(blk_cell BK219.out 6).trans rfl;have hcz41_7 : w39.cell? ⟨gb219,7,none⟩ = some (.bool false):=(blk_cell BK219.out 7).trans rfl;have hcz41_8 : w39.cell? ⟨gb219,8,none⟩ = some (.int .u32 0):=(blk_cell BK219.out 8).trans rfl;have hcz41_9 : w39.cell? ⟨gb219,9,none⟩ = some (.bool false):=(blk_cell BK219.out 9).trans rfl;have hcz41_10 : w39.cell? ⟨gb219,10,none⟩ = some (.int .i64 0):=(blk_cell BK219.out 10).trans rfl;have hcz41_11 : w39.cell? ⟨gb219,11,none⟩ = some (.slice none 0 0):=(blk_cell BK219.out 11).trans rfl;have hfz41_0:=blk_frozen BK219.out 0;have hfz41_1:=blk_frozen BK219.out 1;have hfz41_2:=blk_frozen BK219.out 2;have hfz41_3:=blk_frozen BK219.out 3;have hfz41_4:=blk_frozen BK219.out 4;have hfz41_5:=blk_frozen BK219.out 5;have hfz41_6:=blk_frozen BK219.out 6;have hfz41_7:=blk_frozen BK219.out 7;have hfz41_8:=blk_frozen BK219.out 8;have hfz41_9:=blk_frozen BK219.out 9;have hfz41_10:=blk_frozen BK219.out 10;have hfz41_11:=blk_frozen BK219.out 11;obtain ⟨Ao42,co42,eo42⟩:=Kd.R_slice HO218.out;subst eo42))
   have n0_ : Aside0 (Kd.R (Kd.int .u8) 5 ((((((((((((w39.setCell ⟨gb219,0,none⟩ (.int .i64 t205)).setCell ⟨gb219,1,none⟩ (.int .i64 t206)).setCell ⟨gb219,2,none⟩ (.int .i64 t207)).setCell ⟨gb219,3,none⟩ (.int .i64 t208)).setCell ⟨gb219,4,none⟩ (.int .i32 t209)).setCell ⟨gb219,5,none⟩ (.int .i64 t210)).setCell ⟨gb219,6,none⟩ (.int .i64 t211)).setCell ⟨gb219,7,none⟩ (.bool t212)).setCell ⟨gb219,8,none⟩ (.int .u32 t213)).setCell ⟨gb219,9,none⟩ (.bool t214)).setCell ⟨gb219,10,none⟩ (.int .i64 t215)).setCell ⟨gb219,11,none⟩ (.slice Ao42 t216.length co42)) w.heap.size (fun _ => True) (.slice Ao42 t216.length co42) t216):=⟨by (with_reducible repeat (first | apply Kd.R_alloc | apply Kd.R_drewN | apply Kd.R_drew));exact Kd.R_mono (Kd.R_far (p:=⟨gb219,11,none⟩) (Kd.R_far (p:=⟨gb219,10,none⟩) (Kd.R_far (p:=⟨gb219,9,none⟩) (Kd.R_far (p:=⟨gb219,8,none⟩) (Kd.R_far (p:=⟨gb219,7,none⟩) (Kd.R_far (p:=⟨gb219,6,none⟩) (Kd.R_far (p:=⟨gb219,5,none⟩) (Kd.R_far (p:=⟨gb219,4,none⟩) (Kd.R_far (p:=⟨gb219,3,none⟩) (Kd.R_far (p:=⟨gb219,2,none⟩) (Kd.R_far (p:=⟨gb219,1,none⟩) (Kd.R_far (p:=⟨gb219,0,none⟩) (Kd.R_types HO218.out BK219.out (by decide)) (fun _ hk => hk.2) (.int .i64 t205)) (fun _ hk => hk.2) (.int .i64 t206)) (fun _ hk => hk.2) (.int .i64 t207)) (fun _ hk => hk.2) (.int .i64 t208)) (fun _ hk => hk.2) (.int .i32 t209)) (fun _ hk => hk.2) (.int .i64 t210)) (fun _ hk => hk.2) (.int .i64 t211)) (fun _ hk => hk.2) (.bool t212)) (fun _ hk => hk.2) (.int .u32 t213)) (fun _ hk => hk.2) (.bool t214)) (fun _ hk => hk.2) (.int .i64 t215)) (fun _ hk => hk.2) (.slice Ao42 t216.length co42)) (fun _ hk => trivial)⟩
   have n1_ : Aside0 (((((((((((((w39.setCell ⟨gb219,0,none⟩ (.int .i64 t205)).setCell ⟨gb219,1,none⟩ (.int .i64 t206)).setCell ⟨gb219,2,none⟩ (.int .i64 t207)).setCell ⟨gb219,3,none⟩ (.int .i64 t208)).setCell ⟨gb219,4,none⟩ (.int .i32 t209)).setCell ⟨gb219,5,none⟩ (.int .i64 t210)).setCell ⟨gb219,6,none⟩ (.int .i64 t211)).setCell ⟨gb219,7,none⟩ (.bool t212)).setCell ⟨gb219,8,none⟩ (.int .u32 t213)).setCell ⟨gb219,9,none⟩ (.bool t214)).setCell ⟨gb219,10,none⟩ (.int .i64 t215)).setCell ⟨gb219,11,none⟩ (.slice Ao42 t216.length co42)).heap[gb204]? = some (.cells #[.bool false, .int .u32 0, .bool false, .int .i64 0, .slice none 0 0] 25 (0,0))):=⟨by (with_reducible repeat (first | refine blk_drewN ?_ _ | refine blk_drew ?_ | refine blk_alloc ?_ _));refine blk_far ?_ NB204_219.out _;(with_reducible repeat (first | refine blk_drewN ?_ _ | refine blk_drew ?_ | refine blk_alloc ?_ _));refine blk_far ?_ NB204_219.out _;(with_reducible repeat (first | refine blk_drewN ?_ _ | refine blk_drew ?_ | refine blk_alloc ?_ _));refine blk_far ?_ NB204_219.out _;(with_reducible repeat (first | refine blk_drewN ?_ _ | refine blk_drew ?_ | refine blk_alloc ?_ _));refine blk_far ?_ NB204_219.out _;(with_reducible repeat (first | refine blk_drewN ?_ _ | refine blk_drew ?_ | refine blk_alloc ?_ _));refine blk_far ?_ NB204_219.out _;(with_reducible repeat (first | refine blk_drewN ?_ _ | refine blk_drew ?_ | refine blk_alloc ?_ _));refine blk_far ?_ NB204_219.out _;(with_reducible repeat (first | refine blk_drewN ?_ _ | refine blk_drew ?_ | refine blk_alloc ?_ _));refine blk_far ?_ NB204_219.out _;(with_reducible repeat (first | refine blk_drewN ?_ _ | refine blk_drew ?_ | refine blk_alloc ?_ _));refine blk_far ?_ NB204_219.out _;(with_reducible repeat (first | refine blk_drewN ?_ _ | refine blk_drew ?_ | refine blk_alloc ?_ _));refine blk_far ?_ NB204_219.out _;(with_reducible repeat (first | refine blk_drewN ?_ _ | refine blk_drew ?_ | refine blk_alloc ?_ _));refine blk_far ?_ NB204_219.out _;(with_reducible repeat (first | refine blk_drewN ?_ _ | refine blk_drew ?_ | refine blk_alloc ?_ _));refine blk_far ?_ NB204_219.out _;(with_reducible repeat (first | refine blk_drewN ?_ _ | refine blk_drew ?_ | refine blk_alloc ?_ _));refine blk_far ?_ NB204_219.out _;(with_reducible repeat (first | refine blk_drewN ?_ _ | refine blk_drew ?_ | refine blk_alloc ?_ _));exact BK204.out⟩
   have n2_ : Aside0 (((((((((((((w39.setCell ⟨gb219,0,none⟩ (.int .i64 t205)).setCell ⟨gb219,1,none⟩ (.int .i64 t206)).setCell ⟨gb219,2,none⟩ (.int .i64 t207)).setCell ⟨gb219,3,none⟩ (.int .i64 t208)).setCell ⟨gb219,4,none⟩ (.int .i32 t209)).setCell ⟨gb219,5,none⟩ (.int .i64 t210)).setCell ⟨gb219,6,none⟩ (.int .i64 t211)).setCell ⟨gb219,7,none⟩ (.bool t212)).setCell ⟨gb219,8,none⟩ (.int .u32 t213)).setCell ⟨gb219,9,none⟩ (.bool t214)).setCell ⟨gb219,10,none⟩ (.int .i64 t215)).setCell ⟨gb219,11,none⟩ (.slice Ao42 t216.length co42)).heap[gb219]? = some (.cells #[.int .i64 t205, .int .i64 t206, .int .i64 t207, .int .i64 t208, .int .i32 t209, .int .i64 t210, .int .i64 t211, .bool t212, .int .u32 t213, .bool t214, .int .i64 t215, .slice Ao42 t216.length co42] 116 (0,0))):=⟨by (with_reducible repeat (first | refine blk_drewN ?_ _ | refine blk_drew ?_ | refine blk_alloc ?_ _));refine blk_put (cs := #[.int .i64 t205, .int .i64 t206, .int .i64 t207, .int .i64 t208, .int .i32 t209, .int .i64 t210, .int .i64 t211, .bool t212, .int .u32 t213, .bool t214, .int .i64 t215, .slice none 0 0]) ?_ 11 _ rfl;(with_reducible repeat (first | refine blk_drewN ?_ _ | refine blk_drew ?_ | refine blk_alloc ?_ _));refine blk_put (cs := #[.int .i64 t205, .int .i64 t206, .int .i64 t207, .int .i64 t208, .int .i32 t209, .int .i64 t210, .int .i64 t211, .bool t212, .int .u32 t213, .bool t214, .int .i64 0, .slice none 0 0]) ?_ 10 _ rfl;(with_reducible repeat (first | refine blk_drewN ?_ _ | refine blk_drew ?_ | refine blk_alloc ?_ _));refine blk_put (cs := #[.int .i64 t205, .int .i64 t206, .int .i64 t207, .int .i64 t208, .int .i32 t209, .int .i64 t210, .int .i64 t211, .bool t212, .int .u32 t213, .bool false, .int .i64 0, .slice none 0 0]) ?_ 9 _ rfl;(with_reducible repeat (first | refine blk_drewN ?_ _ | refine blk_drew ?_ | refine blk_alloc ?_ _));refine blk_put (cs := #[.int .i64 t205, .int .i64 t206, .int .i64 t207, .int .i64 t208, .int .i32 t209, .int .i64 t210, .int .i64 t211, .bool t212, .int .u32 0, .bool false, .int .i64 0, .slice none 0 0]) ?_ 8 _ rfl;(with_reducible repeat (first | refine blk_drewN ?_ _ | refine blk_drew ?_ | refine blk_alloc ?_ _));refine blk_put (cs := #[.int .i64 t205, .int .i64 t206, .int .i64 t207, .int .i64 t208, .int .i32 t209, .int .i64 t210, .int .i64 t211, .bool false, .int .u32 0, .bool false, .int .i64 0, .slice none 0 0]) ?_ 7 _ rfl;(with_reducible repeat (first | refine blk_drewN ?_ _ | refine blk_drew ?_ | refine blk_alloc ?_ _));refine blk_put (cs := #[.int .i64 t205, .int .i64 t206, .int .i64 t207, .int .i64 t208, .int .i32 t209, .int .i64 t210, .int .i64 0, .bool false, .int .u32 0, .bool false, .int .i64 0, .slice none 0 0]) ?_ 6 _ rfl;(with_reducible repeat (first | refine blk_drewN ?_ _ | refine blk_drew ?_ | refine blk_alloc ?_ _));refine blk_put (cs := #[.int .i64 t205, .int .i64 t206, .int .i64 t207, .int .i64 t208, .int .i32 t209, .int .i64 0, .int .i64 0, .bool false, .int .u32 0, .bool false, .int .i64 0, .slice none 0 0]) ?_ 5 _ rfl;(with_reducible repeat (first | refine blk_drewN ?_ _ | refine blk_drew ?_ | refine blk_alloc ?_ _));refine blk_put (cs := #[.int .i64 t205, .int .i64 t206, .int .i64 t207, .int .i64 t208, .int .i32 0, .int .i64 0, .int .i64 0, .bool false, .int .u32 0, .bool false, .int .i64 0, .slice none 0 0]) ?_ 4 _ rfl;(with_reducible repeat (first | refine blk_drewN ?_ _ | refine blk_drew ?_ | refine blk_alloc ?_ _));refine blk_put (cs := #[.int .i64 t205, .int .i64 t206, .int .i64 t207, .int .i64 0, .int .i32 0, .int .i64 0, .int .i64 0, .bool false, .int .u32 0, .bool false, .int .i64 0, .slice none 0 0]) ?_ 3 _ rfl;(with_reducible repeat (first | refine blk_drewN ?_ _ | refine blk_drew ?_ | refine blk_alloc ?_ _));refine blk_put (cs := #[.int .i64 t205, .int .i64 t206, .int .i64 0, .int .i64 0, .int .i32 0, .int .i64 0, .int .i64 0, .bool false, .int .u32 0, .bool false, .int .i64 0, .slice none 0 0]) ?_ 2 _ rfl;(with_reducible repeat (first | refine blk_drewN ?_ _ | refine blk_drew ?_ | refine blk_alloc ?_ _));refine blk_put (cs := #[.int .i64 t205, .int .i64 0, .int .i64 0, .int .i64 0, .int .i32 0, .int .i64 0, .int .i64 0, .bool false, .int .u32 0, .bool false, .int .i64 0, .slice none 0 0]) ?_ 1 _ rfl;(with_reducible repeat (first | refine blk_drewN ?_ _ | refine blk_drew ?_ | refine blk_alloc ?_ _));refine blk_put (cs := #[.int .i64 0, .int .i64 0, .int .i64 0, .int .i64 0, .int .i32 0, .int .i64 0, .int .i64 0, .bool false, .int .u32 0, .bool false, .int .i64 0, .slice none 0 0]) ?_ 0 _ rfl;(with_reducible repeat (first | refine blk_drewN ?_ _ | refine blk_drew ?_ | refine blk_alloc ?_ _));exact BK219.out⟩
   have n3_ : Aside0 (Below w.heap.size w ((((((((((((w39.setCell ⟨gb219,0,none⟩ (.int .i64 t205)).setCell ⟨gb219,1,none⟩ (.int .i64 t206)).setCell ⟨gb219,2,none⟩ (.int .i64 t207)).setCell ⟨gb219,3,none⟩ (.int .i64 t208)).setCell ⟨gb219,4,none⟩ (.int .i32 t209)).setCell ⟨gb219,5,none⟩ (.int .i64 t210)).setCell ⟨gb219,6,none⟩ (.int .i64 t211)).setCell ⟨gb219,7,none⟩ (.bool t212)).setCell ⟨gb219,8,none⟩ (.int .u32 t213)).setCell ⟨gb219,9,none⟩ (.bool t214)).setCell ⟨gb219,10,none⟩ (.int .i64 t215)).setCell ⟨gb219,11,none⟩ (.slice Ao42 t216.length co42))):=⟨by repeat (first | (with_reducible first | exact HB.out | apply below_alloc | apply pw_below_drewN | apply below_drew1 | refine below_set ?_ GE204.out | refine below_set ?_ GE219.out) | exact HB.out)⟩
   (try clear HO218)
   (try clear BK204)
   (try clear BK219)
   (try clear HB)
   generalize ((((((((((((w39.setCell ⟨gb219,0,none⟩ (.int .i64 t205)).setCell ⟨gb219,1,none⟩ (.int .i64 t206)).setCell ⟨gb219,2,none⟩ (.int .i64 t207)).setCell ⟨gb219,3,none⟩ (.int .i64 t208)).setCell ⟨gb219,4,none⟩ (.int .i32 t209)).setCell ⟨gb219,5,none⟩ (.int .i64 t210)).setCell ⟨gb219,6,none⟩ (.int .i64 t211)).setCell ⟨gb219,7,none⟩ (.bool t212)).setCell ⟨gb219,8,none⟩ (.int .u32 t213)).setCell ⟨gb219,9,none⟩ (.bool t214)).setCell ⟨gb219,10,none⟩ (.int .i64 t215)).setCell ⟨gb219,11,none⟩ (.slice Ao42 t216.length co42)) = w43 at n0_ n1_ n2_ n3_ ⊢
   have HO218:=n0_
   have BK204:=n1_
   have BK219:=n2_
   have HB:=n3_
   clear n0_ n1_ n2_ n3_
   have n0_:=Aside0.mk (Kd.R_drew HO218.out)
   have n1_:=Aside0.mk (blk_drew BK204.out)
   have n2_:=Aside0.mk (blk_drew BK219.out)
   have n3_:=Aside0.mk (below_drew1 HB.out)
   clear HO218
   clear BK204
   clear BK219
   clear HB
   have HO218:=n0_
   have BK204:=n1_
   have BK219:=n2_
   have HB:=n3_
   clear n0_ n1_ n2_ n3_
   refine start_ (n:=5) (S:=fun w' => w'.cell? ⟨gb219,0,none⟩ = some (.int .i64 t205) ∧ w'.cell? ⟨gb219,1,none⟩ = some (.int .i64 t206) ∧ w'.cell? ⟨gb219,2,none⟩ = some (.int .i64 t207) ∧ w'.cell? ⟨gb219,3,none⟩ = some (.int .i64 t208) ∧ w'.cell? ⟨gb219,4,none⟩ = some (.int .i32 t209) ∧ w'.cell? ⟨gb219,5,none⟩ = some (.int .i64 t210) ∧ w'.cell? ⟨gb219,6,none⟩ = some (.int .i64 t211) ∧ w'.cell? ⟨gb219,7,none⟩ = some (.bool t212) ∧ w'.cell? ⟨gb219,8,none⟩ = some (.int .u32 t213) ∧ w'.cell? ⟨gb219,9,none⟩ = some (.bool t214) ∧ w'.cell? ⟨gb219,10,none⟩ = some (.int .i64 t215) ∧ w'.cell? ⟨gb219,11,none⟩ = some (.slice Ao42 t216.length co42)) (ds := []) #[false,false,false,false,false] (by kernel_rfl) rfl rfl ⟨(blk_cell BK219.out 0).trans rfl,(blk_cell BK219.out 1).trans rfl,(blk_cell BK219.out 2).trans rfl,(blk_cell BK219.out 3).trans rfl,(blk_cell BK219.out 4).trans rfl,(blk_cell BK219.out 5).trans rfl,(blk_cell BK219.out 6).trans rfl,(blk_cell BK219.out 7).trans rfl,(blk_cell BK219.out 8).trans rfl,(blk_cell BK219.out 9).trans rfl,(blk_cell BK219.out 10).trans rfl,(blk_cell BK219.out 11).trans rfl⟩ (fun hHeld => ?_)
   generalize w43.drew = w44 at HO218 BK204 BK219 HB hHeld ⊢
   refine pure_ (i:=0) (N:=some 15) (v := ?_) (a' := ?_) #[true,false,false,false,false] rfl rfl (by kernel_rfl) (fun _ _ _ h => h) (Or.inl ⟨by rfl, ?_⟩) ?_ ?_
   rotate_left
   ·intro w'
    go_simp
    with_reducible rfl
   rotate_left
   ·simp only [Act.put,List.setIfInBounds_toArray,List.set_cons_zero,List.set_cons_succ,i64_w,i32_w]
    rfl
   refine pure_ (i:=1) (N:=some 16) (v := ?_) (a' := ?_) #[true,true,false,false,false] rfl rfl (by kernel_rfl) (fun _ _ _ h => h) (Or.inl ⟨by rfl, ?_⟩) ?_ ?_
   rotate_left
   ·intro w'
    go_simp
    with_reducible rfl
   rotate_left
   ·simp only [Act.put,List.setIfInBounds_toArray,List.set_cons_zero,List.set_cons_succ,i64_w,i32_w]
    rfl
   refine take_ (i:=2) (N:=some 17) (v := ?_) (a' := ?_) #[true,true,true,false,false] rfl rfl (by kernel_rfl) (fun _ _ _ h => h) (Or.inl ⟨by rfl, ?_⟩) hHeld ?_ ?_
   rotate_left
   ·rintro w' ⟨s0,s1,s2,s3,s4,s5,s6,s7,s8,s9,s10,s11⟩
    go_simp
    with_reducible rfl
   rotate_left
   ·simp only [Act.put,List.setIfInBounds_toArray,List.set_cons_zero,List.set_cons_succ,i64_w,i32_w]
    rfl
   refine one_ (i:=3) (N:=none) #[true,true,true,true,false] rfl rfl (by kernel_rfl) (by decide) (fun K hK => ?_)
   have hs45 : w44.cell? ⟨gb204,0,none⟩ = some (.bool false):=(blk_cell BK204.out 0).trans rfl
   have hfs45:=blk_frozen BK204.out 0
   have hns45_1:=NB219_204.out
   have hms45_1:=NB204_219.out
   have hs46 : w44.cell? ⟨gb204,1,none⟩ = some (.int .u32 0):=(blk_cell BK204.out 1).trans rfl
   have hfs46:=blk_frozen BK204.out 1
   have hns46_1:=NB219_204.out
   have hms46_1:=NB204_219.out
   have hs47 : w44.cell? ⟨gb204,2,none⟩ = some (.bool false):=(blk_cell BK204.out 2).trans rfl
   have hfs47:=blk_frozen BK204.out 2
   have hns47_1:=NB219_204.out
   have hms47_1:=NB204_219.out
   have hs48 : w44.cell? ⟨gb204,3,none⟩ = some (.int .i64 0):=(blk_cell BK204.out 3).trans rfl
   have hfs48:=blk_frozen BK204.out 3
   have hns48_1:=NB219_204.out
   have hms48_1:=NB204_219.out
   have hs49 : w44.cell? ⟨gb204,4,none⟩ = some (.slice none 0 0):=(blk_cell BK204.out 4).trans rfl
   have hfs49:=blk_frozen BK204.out 4
   have hns49_1:=NB219_204.out
   have hms49_1:=NB204_219.out
   refine skip_ (w1 := ?_) (by rfl) rfl ?_ ?_
   rotate_left
   ·go_simp
    rfl
   refine hK.out _ _ ⟨((cell_far (p:=⟨gb204,_,none⟩) NB219_204.out _).trans (((cell_far (p:=⟨gb204,_,none⟩) NB219_204.out _).trans (((cell_far (p:=⟨gb204,_,none⟩) NB219_204.out _).trans (((cell_far (p:=⟨gb204,_,none⟩) NB219_204.out _).trans (((cell_far (p:=⟨gb204,_,none⟩) NB219_204.out _).trans (hHeld.1)))))))))),((cell_far (p:=⟨gb204,_,none⟩) NB219_204.out _).trans (((cell_far (p:=⟨gb204,_,none⟩) NB219_204.out _).trans (((cell_far (p:=⟨gb204,_,none⟩) NB219_204.out _).trans (((cell_far (p:=⟨gb204,_,none⟩) NB219_204.out _).trans (((cell_far (p:=⟨gb204,_,none⟩) NB219_204.out _).trans (hHeld.2.1)))))))))),((cell_far (p:=⟨gb204,_,none⟩) NB219_204.out _).trans (((cell_far (p:=⟨gb204,_,none⟩) NB219_204.out _).trans (((cell_far (p:=⟨gb204,_,none⟩) NB219_204.out _).trans (((cell_far (p:=⟨gb204,_,none⟩) NB219_204.out _).trans (((cell_far (p:=⟨gb204,_,none⟩) NB219_204.out _).trans (hHeld.2.2.1)))))))))),((cell_far (p:=⟨gb204,_,none⟩) NB219_204.out _).trans (((cell_far (p:=⟨gb204,_,none⟩) NB219_204.out _).trans (((cell_far (p:=⟨gb204,_,none⟩) NB219_204.out _).trans (((cell_far (p:=⟨gb204,_,none⟩) NB219_204.out _).trans (((cell_far (p:=⟨gb204,_,none⟩) NB219_204.out _).trans (hHeld.2.2.2.1)))))))))),((cell_far (p:=⟨gb204,_,none⟩) NB219_204.out _).trans (((cell_far (p:=⟨gb204,_,none⟩) NB219_204.out _).trans (((cell_far (p:=⟨gb204,_,none⟩) NB219_204.out _).trans (((cell_far (p:=⟨gb204,_,none⟩) NB219_204.out _).trans (((cell_far (p:=⟨gb204,_,none⟩) NB219_204.out _).trans (hHeld.2.2.2.2.1)))))))))),((cell_far (p:=⟨gb204,_,none⟩) NB219_204.out _).trans (((cell_far (p:=⟨gb204,_,none⟩) NB219_204.out _).trans (((cell_far (p:=⟨gb204,_,none⟩) NB219_204.out _).trans (((cell_far (p:=⟨gb204,_,none⟩) NB219_204.out _).trans (((cell_far (p:=⟨gb204,_,none⟩) NB219_204.out _).trans (hHeld.2.2.2.2.2.1)))))))))),((cell_far (p:=⟨gb204,_,none⟩) NB219_204.out _).trans (((cell_far (p:=⟨gb204,_,none⟩) NB219_204.out _).trans (((cell_far (p:=⟨gb204,_,none⟩) NB219_204.out _).trans (((cell_far (p:=⟨gb204,_,none⟩) NB219_204.out _).trans (((cell_far (p:=⟨gb204,_,none⟩) NB219_204.out _).trans (hHeld.2.2.2.2.2.2.1)))))))))),((cell_far (p:=⟨gb204,_,none⟩) NB219_204.out _).trans (((cell_far (p:=⟨gb204,_,none⟩) NB219_204.out _).trans (((cell_far (p:=⟨gb204,_,none⟩) NB219_204.out _).trans (((cell_far (p:=⟨gb204,_,none⟩) NB219_204.out _).trans (((cell_far (p:=⟨gb204,_,none⟩) NB219_204.out _).trans (hHeld.2.2.2.2.2.2.2.1)))))))))),((cell_far (p:=⟨gb204,_,none⟩) NB219_204.out _).trans (((cell_far (p:=⟨gb204,_,none⟩) NB219_204.out _).trans (((cell_far (p:=⟨gb204,_,none⟩) NB219_204.out _).trans (((cell_far (p:=⟨gb204,_,none⟩) NB219_204.out _).trans (((cell_far (p:=⟨gb204,_,none⟩) NB219_204.out _).trans (hHeld.2.2.2.2.2.2.2.2.1)))))))))),((cell_far (p:=⟨gb204,_,none⟩) NB219_204.out _).trans (((cell_far (p:=⟨gb204,_,none⟩) NB219_204.out _).trans (((cell_far (p:=⟨gb204,_,none⟩) NB219_204.out _).trans (((cell_far (p:=⟨gb204,_,none⟩) NB219_204.out _).trans (((cell_far (p:=⟨gb204,_,none⟩) NB219_204.out _).trans (hHeld.2.2.2.2.2.2.2.2.2.1)))))))))),((cell_far (p:=⟨gb204,_,none⟩) NB219_204.out _).trans (((cell_far (p:=⟨gb204,_,none⟩) NB219_204.out _).trans (((cell_far (p:=⟨gb204,_,none⟩) NB219_204.out _).trans (((cell_far (p:=⟨gb204,_,none⟩) NB219_204.out _).trans (((cell_far (p:=⟨gb204,_,none⟩) NB219_204.out _).trans (hHeld.2.2.2.2.2.2.2.2.2.2.1)))))))))),((cell_far (p:=⟨gb204,_,none⟩) NB219_204.out _).trans (((cell_far (p:=⟨gb204,_,none⟩) NB219_204.out _).trans (((cell_far (p:=⟨gb204,_,none⟩) NB219_204.out _).trans (((cell_far (p:=⟨gb204,_,none⟩) NB219_204.out _).trans (((cell_far (p:=⟨gb204,_,none⟩) NB219_204.out _).trans (hHeld.2.2.2.2.2.2.2.2.2.2.2))))))))))⟩ (fun hHeld => ?_)
   clear hK K
   refine pure_ (i:=4) (N:=some 3) (v := ?_) (a' := ?_) #[true,true,true,true,true] rfl rfl (by kernel_rfl) (fun _ _ _ h => h) (Or.inl ⟨by rfl, ?_⟩) ?_ ?_
   rotate_left
   ·intro w'
    go_simp
    with_reducible rfl
   rotate_left
   ·simp only [Act.put,List.setIfInBounds_toArray,List.set_cons_zero,List.set_cons_succ,i64_w,i32_w]
    rfl
   refine done_ (by kernel_rfl) ?_
   try go_wp2
   refine bodyPost_ret (results_ct rfl _ _ gb204 25 #[.bool false, .int .u32 0, .bool false, .int .i64 0, .slice none 0 0] (0,0) _ rfl (by (with_reducible repeat (first | refine blk_drewN ?_ _ | refine blk_drew ?_ | refine blk_alloc ?_ _));refine blk_put (cs := #[.bool false, .int .u32 0, .bool false, .int .i64 0, .slice none 0 0]) ?_ 4 _ rfl;(with_reducible repeat (first | refine blk_drewN ?_ _ | refine blk_drew ?_ | refine blk_alloc ?_ _));refine blk_put (cs := #[.bool false, .int .u32 0, .bool false, .int .i64 0, .slice none 0 0]) ?_ 3 _ rfl;(with_reducible repeat (first | refine blk_drewN ?_ _ | refine blk_drew ?_ | refine blk_alloc ?_ _));refine blk_put (cs := #[.bool false, .int .u32 0, .bool false, .int .i64 0, .slice none 0 0]) ?_ 2 _ rfl;(with_reducible repeat (first | refine blk_drewN ?_ _ | refine blk_drew ?_ | refine blk_alloc ?_ _));refine blk_put (cs := #[.bool false, .int .u32 0, .bool false, .int .i64 0, .slice none 0 0]) ?_ 1 _ rfl;(with_reducible repeat (first | refine blk_drewN ?_ _ | refine blk_drew ?_ | refine blk_alloc ?_ _));refine blk_put (cs := #[.bool false, .int .u32 0, .bool false, .int .i64 0, .slice none 0 0]) ?_ 0 _ rfl;(with_reducible repeat (first | refine blk_drewN ?_ _ | refine blk_drew ?_ | refine blk_alloc ?_ _));exact BK204.out) Try.underlying25 rfl (by kernel_rfl)) rfl ?_
   exact ⟨_,by first | rfl | (simp [errW_none,errW_some] <;> rfl) | (simp [*,errW_none,errW_some] <;> rfl),by first | exact Kd.R_nil _ _ _ _ _ | exact Kd.N_nil _ _ _ _ _ | exact Kd.V_nil _ _ _ _ _ | exact Kd.Q_nil _ _ _ _ _ | exact Kd.S_nil _ _ _ _ _,by repeat (first | (with_reducible first | exact HB.out | apply below_alloc | apply pw_below_drewN | apply below_drew1 | refine below_set ?_ GE204.out | refine below_set ?_ GE219.out) | exact HB.out)⟩
end Go.Proofs.Ytdoclpgciadjaaa.P

namespace Go.Proofs.Ytdoclpgciadjaaa.P
open Go.RowKit Go.Proofs.YtdoclpgciadjaaaW.PrintWords Go.Proofs.YtdoclpgciadjaaaW.PrintLast Go.Proofs.YtdoclpgciadjaaaW.PrintMore
set_option linter.unusedVariables false
set_option linter.unusedSimpArgs false
def impl_Arb.f (a0_0 : Bool) (a0_1 : Int) (a0_2 : Bool) (a0_3 : Int) (l0_4 : List Int) : Option (ByteArray):=(impl_Body.f a0_0 a0_1 a0_2 a0_3 l0_4).bind fun t235 => (if t235.toList = ([] : List UInt8) then (some (⟨#[]⟩ : ByteArray)) else (if a0_0 = true then (if 1 ≤ 33 then (if 33 ≤ (t235.size : Int) then (some (t235.extract 1 33)) else (none)) else (none)) else (if 1 ≤ 14 then (if 14 ≤ (t235.size : Int) then (some (t235.extract 1 14)) else (none)) else (none))))
set_option maxHeartbeats 8000000 in
set_option maxRecDepth 100000 in
theorem impl_Arb.calls (a0_0 : Bool) (a0_1 : Int) (a0_2 : Bool) (a0_3 : Int) (A0_4 : Option Addr) (c0_4 : Nat) (l0_4 : List Int) (r : ByteArray) (w : World) (hr0_4 : Kd.C (Kd.int .u8) w A0_4 l0_4.length l0_4) (hc0_4 : l0_4.length ≤ c0_4) (h : impl_Arb.f a0_0 a0_1 a0_2 a0_3 l0_4 = some r) :
  Calls Try.prog 26 #[.agg #[.bool a0_0, .int .u32 a0_1, .bool a0_2, .int .i64 a0_3, .slice A0_4 l0_4.length c0_4]] w fun e w' => e = .returned (.string r) ∧ Below w.heap.size w w':=by
 have hu25:=Try.underlying25
 have HR0_4:=Aside0.mk hr0_4
 have HC0_4:=Aside0.mk hc0_4
 clear hr0_4 hc0_4
 have HB:=Aside0.mk (Below.refl w.heap.size w)
 have H : ((impl_Body.f a0_0 a0_1 a0_2 a0_3 l0_4).bind fun t235 => (if t235.toList = ([] : List UInt8) then (some (⟨#[]⟩ : ByteArray)) else (if a0_0 = true then (if 1 ≤ 33 then (if 33 ≤ (t235.size : Int) then (some (t235.extract 1 33)) else (none)) else (none)) else (if 1 ≤ 14 then (if 14 ≤ (t235.size : Int) then (some (t235.extract 1 14)) else (none)) else (none))))) = some r:=h
 clear h
 replace H:=Option.bind_eq_some_iff.mp H
 obtain ⟨t235,A20,H⟩:=H
 replace H : (if t235.toList = ([] : List UInt8) then (some (⟨#[]⟩ : ByteArray)) else (if a0_0 = true then (if 1 ≤ 33 then (if 33 ≤ (t235.size : Int) then (some (t235.extract 1 33)) else (none)) else (none)) else (if 1 ≤ 14 then (if 14 ≤ (t235.size : Int) then (some (t235.extract 1 14)) else (none)) else (none)))) = some r:=H
 have A2:=Aside0.mk A20
 clear A20
 by_cases c3 : t235.toList = ([] : List UInt8)
 ·rw [if_pos c3] at H
  have c3b0 : (t235.toList == ([] : List UInt8)) = true:=beq_iff_eq.mpr c3
  have c3b1 : (t235.toList != ([] : List UInt8)) = false:=bne_eq_false_iff_eq.mpr c3
  clear c3
  obtain rfl:=Option.some.inj H
  go_enter Try.func26,Try.ntmps26
  go_wp2_with (first | ((with_reducible refine gate_dst (N:=1) rfl ?_);refine box_event ?hg (N:=1) ?hd (cs := #[.bool a0_0, .int .u32 a0_1, .bool a0_2, .int .i64 a0_3, .slice A0_4 l0_4.length c0_4]) (t:=25) ?hr ?_;(case hd => rfl);(case hg => rfl);(case hr => first | (go_simp;done) | (go_simp;rfl));intro gb234 hg w4 hbox hb;have n0_:=Aside0.mk (below_step (by repeat (first | (with_reducible first | exact HB.out | apply below_alloc | apply pw_below_drewN | apply below_drew1) | exact HB.out)) hb);have n1_:=Aside0.mk (hbox);have n2_:=Aside0.mk ((by rw [hg];exact (below_size (by repeat (first | (with_reducible first | exact HB.out | apply below_alloc | apply pw_below_drewN | apply below_drew1) | exact HB.out))) : w.heap.size ≤ gb234));have n3_:=Aside0.mk ((by rw [hg];exact (below_size (by repeat (first | (with_reducible first | exact HB.out | apply below_alloc | apply pw_below_drewN | apply below_drew1) | exact HB.out))) : w.heap.size ≤ gb234));clear HB;have HB:=n0_;have BK234:=n1_;have GW234:=n2_;have GE234:=n3_;clear n0_ n1_ n2_ n3_;clear hb hbox hg;have hcz5_0 : w4.cell? ⟨gb234,0,none⟩ = some (.bool a0_0):=(blk_cell BK234.out 0).trans rfl;have hcz5_1 : w4.cell? ⟨gb234,1,none⟩ = some (.int .u32 a0_1):=(blk_cell BK234.out 1).trans rfl;have hcz5_2 : w4.cell? ⟨gb234,2,none⟩ = some (.bool a0_2):=(blk_cell BK234.out 2).trans rfl;have hcz5_3 : w4.cell? ⟨gb234,3,none⟩ = some (.int .i64 a0_3):=(blk_cell BK234.out 3).trans rfl;have hcz5_4 : w4.cell? ⟨gb234,4,none⟩ = some (.slice A0_4 l0_4.length c0_4):=(blk_cell BK234.out 4).trans rfl;have hfz5_0:=blk_frozen BK234.out 0;have hfz5_1:=blk_frozen BK234.out 1;have hfz5_2:=blk_frozen BK234.out 2;have hfz5_3:=blk_frozen BK234.out 3;have hfz5_4:=blk_frozen BK234.out 4) | ((with_reducible refine gate_callee (f:=15) rfl ?_);refine goesL_ (some 5) rfl rfl Try.func15 (by kernel_rfl) rfl #[.agg #[.bool a0_0, .int .u32 a0_1, .bool a0_2, .int .i64 a0_3, .slice A0_4 l0_4.length c0_4]] rfl (by (try simp only [List.map_toArray,List.map_cons,List.map_nil]);first | done | rfl | (simp only [List.length_drop,List.length_take];rfl)) ?_;(with_reducible refine (impl_Body.calls a0_0 a0_1 a0_2 a0_3 _ _ l0_4 t235 _ ?side1 ?side2 A2.out).mono ?_);(case side1 => repeat (first | exact (Kd.C_below HR0_4.out HB.out) | (with_reducible refine Kd.C_alloc ?_ _) | (with_reducible refine Kd.C_drewN ?_ _) | (with_reducible refine Kd.C_drew ?_)));(case side2 => exact HC0_4.out);rintro e w6 ⟨rfl,hb⟩;refine ⟨_,rfl, ?_⟩;have n0_:=Aside0.mk (blk_below (g:=gb234) (o := .cells #[.bool a0_0, .int .u32 a0_1, .bool a0_2, .int .i64 a0_3, .slice A0_4 l0_4.length c0_4] 25 (0,0)) (by (with_reducible repeat (first | refine blk_drewN ?_ _ | refine blk_drew ?_ | refine blk_alloc ?_ _));exact BK234.out) hb);have n1_:=Aside0.mk (below_step (by repeat (first | (with_reducible first | exact HB.out | apply below_alloc | apply pw_below_drewN | apply below_drew1 | refine below_set ?_ GE234.out) | exact HB.out)) hb);clear BK234;clear HB;have BK234:=n0_;have HB:=n1_;clear n0_ n1_;(try clear hb);(try clear hb2);(try clear hk);(try clear hi)))
  go_ret
  exact ⟨by first | rfl | (simp [errW_none,errW_some] <;> rfl) | (simp [*,errW_none,errW_some] <;> rfl),by repeat (first | (with_reducible first | exact HB.out | apply below_alloc | apply pw_below_drewN | apply below_drew1 | refine below_set ?_ GE234.out) | exact HB.out)⟩
 ·rw [if_neg c3] at H
  have c3b0 : (t235.toList == ([] : List UInt8)) = false:=beq_eq_false_iff_ne.mpr c3
  have c3b1 : (t235.toList != ([] : List UInt8)) = true:=bne_iff_ne.mpr c3
  by_cases c7 : a0_0 = true
  ·subst c7
   have H1 : (if 1 ≤ 33 then (if 33 ≤ (t235.size : Int) then (some (t235.extract 1 33)) else (none)) else (none)) = some r:=by rw [if_pos rfl] at H;exact H
   clear H
   have H:=H1
   clear H1
   by_cases c8 : 1 ≤ 33
   ·rw [if_pos c8] at H
    have c8b0:=eq_true c8
    have c8b1 : decide (1 ≤ 33) = true:=decide_eq_true c8
    clear c8
    by_cases c9 : 33 ≤ (t235.size : Int)
    ·rw [if_pos c9] at H
     have c9b0:=eq_true c9
     have c9b1 : decide (33 ≤ (t235.size : Int)) = true:=decide_eq_true c9
     clear c9
     obtain rfl:=Option.some.inj H
     go_enter Try.func26,Try.ntmps26
     go_wp2_with (first | ((with_reducible refine gate_dst (N:=1) rfl ?_);refine box_event ?hg (N:=1) ?hd (cs := #[.bool true, .int .u32 a0_1, .bool a0_2, .int .i64 a0_3, .slice A0_4 l0_4.length c0_4]) (t:=25) ?hr ?_;(case hd => rfl);(case hg => rfl);(case hr => first | (go_simp;done) | (go_simp;rfl));intro gb234 hg w10 hbox hb;have n0_:=Aside0.mk (below_step (by repeat (first | (with_reducible first | exact HB.out | apply below_alloc | apply pw_below_drewN | apply below_drew1) | exact HB.out)) hb);have n1_:=Aside0.mk (hbox);have n2_:=Aside0.mk ((by rw [hg];exact (below_size (by repeat (first | (with_reducible first | exact HB.out | apply below_alloc | apply pw_below_drewN | apply below_drew1) | exact HB.out))) : w.heap.size ≤ gb234));have n3_:=Aside0.mk ((by rw [hg];exact (below_size (by repeat (first | (with_reducible first | exact HB.out | apply below_alloc | apply pw_below_drewN | apply below_drew1) | exact HB.out))) : w.heap.size ≤ gb234));clear HB;have HB:=n0_;have BK234:=n1_;have GW234:=n2_;have GE234:=n3_;clear n0_ n1_ n2_ n3_;clear hb hbox hg;have hcz11_0 : w10.cell? ⟨gb234,0,none⟩ = some (.bool true):=(blk_cell BK234.out 0).trans rfl;have hcz11_1 : w10.cell? ⟨gb234,1,none⟩ = some (.int .u32 a0_1):=(blk_cell BK234.out 1).trans rfl;have hcz11_2 : w10.cell? ⟨gb234,2,none⟩ = some (.bool a0_2):=(blk_cell BK234.out 2).trans rfl;have hcz11_3 : w10.cell? ⟨gb234,3,none⟩ = some (.int .i64 a0_3):=(blk_cell BK234.out 3).trans rfl;have hcz11_4 : w10.cell? ⟨gb234,4,none⟩ = some (.slice A0_4 l0_4.length c0_4):=(blk_cell BK234.out 4).trans rfl;have hfz11_0:=blk_frozen BK234.out 0;have hfz11_1:=blk_frozen BK234.out 1;have hfz11_2:=blk_frozen BK234.out 2;have hfz11_3:=blk_frozen BK234.out 3;have hfz11_4:=blk_frozen BK234.out 4) | ((with_reducible refine gate_callee (f:=15) rfl ?_);refine goesL_ (some 5) rfl rfl Try.func15 (by kernel_rfl) rfl #[.agg #[.bool true, .int .u32 a0_1, .bool a0_2, .int .i64 a0_3, .slice A0_4 l0_4.length c0_4]] rfl (by (try simp only [List.map_toArray,List.map_cons,List.map_nil]);first | done | rfl | (simp only [List.length_drop,List.length_take];rfl)) ?_;(with_reducible refine (impl_Body.calls true a0_1 a0_2 a0_3 _ _ l0_4 t235 _ ?side1 ?side2 A2.out).mono ?_);(case side1 => repeat (first | exact (Kd.C_below HR0_4.out HB.out) | (with_reducible refine Kd.C_alloc ?_ _) | (with_reducible refine Kd.C_drewN ?_ _) | (with_reducible refine Kd.C_drew ?_)));(case side2 => exact HC0_4.out);rintro e w12 ⟨rfl,hb⟩;refine ⟨_,rfl, ?_⟩;have n0_:=Aside0.mk (blk_below (g:=gb234) (o := .cells #[.bool true, .int .u32 a0_1, .bool a0_2, .int .i64 a0_3, .slice A0_4 l0_4.length c0_4] 25 (0,0)) (by (with_reducible repeat (first | refine blk_drewN ?_ _ | refine blk_drew ?_ | refine blk_alloc ?_ _));exact BK234.out) hb);have n1_:=Aside0.mk (below_step (by repeat (first | (with_reducible first | exact HB.out | apply below_alloc | apply pw_below_drewN | apply below_drew1 | refine below_set ?_ GE234.out) | exact HB.out)) hb);clear BK234;clear HB;have BK234:=n0_;have HB:=n1_;clear n0_ n1_;(try clear hb);(try clear hb2);(try clear hk);(try clear hi);have hcz13_0 : w12.cell? ⟨gb234,0,none⟩ = some (.bool true):=(blk_cell BK234.out 0).trans rfl;have hcz13_1 : w12.cell? ⟨gb234,1,none⟩ = some (.int .u32 a0_1):=(blk_cell BK234.out 1).trans rfl;have hcz13_2 : w12.cell? ⟨gb234,2,none⟩ = some (.bool a0_2):=(blk_cell BK234.out 2).trans rfl;have hcz13_3 : w12.cell? ⟨gb234,3,none⟩ = some (.int .i64 a0_3):=(blk_cell BK234.out 3).trans rfl;have hcz13_4 : w12.cell? ⟨gb234,4,none⟩ = some (.slice A0_4 l0_4.length c0_4):=(blk_cell BK234.out 4).trans rfl;have hfz13_0:=blk_frozen BK234.out 0;have hfz13_1:=blk_frozen BK234.out 1;have hfz13_2:=blk_frozen BK234.out 2;have hfz13_3:=blk_frozen BK234.out 3;have hfz13_4:=blk_frozen BK234.out 4))
     go_ret
     exact ⟨by first | rfl | (simp [errW_none,errW_some] <;> rfl) | (simp [*,errW_none,errW_some] <;> rfl),by repeat (first | (with_reducible first | exact HB.out | apply below_alloc | apply pw_below_drewN | apply below_drew1 | refine below_set ?_ GE234.out) | exact HB.out)⟩
    ·rw [if_neg c9] at H
     exact absurd H (by simp)
   ·rw [if_neg c8] at H
    exact absurd H (by simp)
  ·replace c7:=Bool.eq_false_iff.mpr c7
   subst c7
   have H1 : (if 1 ≤ 14 then (if 14 ≤ (t235.size : Int) then (some (t235.extract 1 14)) else (none)) else (none)) = some r:=by rw [if_neg (show ¬ (false = true) by decide)] at H;exact H
   clear H
   have H:=H1
   clear H1
   by_cases c14 : 1 ≤ 14
   ·rw [if_pos c14] at H
    have c14b0:=eq_true c14
    have c14b1 : decide (1 ≤ 14) = true:=decide_eq_true c14
    clear c14
    by_cases c15 : 14 ≤ (t235.size : Int)
    ·rw [if_pos c15] at H
     have c15b0:=eq_true c15
     have c15b1 : decide (14 ≤ (t235.size : Int)) = true:=decide_eq_true c15
     clear c15
     obtain rfl:=Option.some.inj H
     go_enter Try.func26,Try.ntmps26
     go_wp2_with (first | ((with_reducible refine gate_dst (N:=1) rfl ?_);refine box_event ?hg (N:=1) ?hd (cs := #[.bool false, .int .u32 a0_1, .bool a0_2, .int .i64 a0_3, .slice A0_4 l0_4.length c0_4]) (t:=25) ?hr ?_;(case hd => rfl);(case hg => rfl);(case hr => first | (go_simp;done) | (go_simp;rfl));intro gb234 hg w16 hbox hb;have n0_:=Aside0.mk (below_step (by repeat (first | (with_reducible first | exact HB.out | apply below_alloc | apply pw_below_drewN | apply below_drew1) | exact HB.out)) hb);have n1_:=Aside0.mk (hbox);have n2_:=Aside0.mk ((by rw [hg];exact (below_size (by repeat (first | (with_reducible first | exact HB.out | apply below_alloc | apply pw_below_drewN | apply below_drew1) | exact HB.out))) : w.heap.size ≤ gb234));have n3_:=Aside0.mk ((by rw [hg];exact (below_size (by repeat (first | (with_reducible first | exact HB.out | apply below_alloc | apply pw_below_drewN | apply below_drew1) | exact HB.out))) : w.heap.size ≤ gb234));clear HB;have HB:=n0_;have BK234:=n1_;have GW234:=n2_;have GE234:=n3_;clear n0_ n1_ n2_ n3_;clear hb hbox hg;have hcz17_0 : w16.cell? ⟨gb234,0,none⟩ = some (.bool false):=(blk_cell BK234.out 0).trans rfl;have hcz17_1 : w16.cell? ⟨gb234,1,none⟩ = some (.int .u32 a0_1):=(blk_cell BK234.out 1).trans rfl;have hcz17_2 : w16.cell? ⟨gb234,2,none⟩ = some (.bool a0_2):=(blk_cell BK234.out 2).trans rfl;have hcz17_3 : w16.cell? ⟨gb234,3,none⟩ = some (.int .i64 a0_3):=(blk_cell BK234.out 3).trans rfl;have hcz17_4 : w16.cell? ⟨gb234,4,none⟩ = some (.slice A0_4 l0_4.length c0_4):=(blk_cell BK234.out 4).trans rfl;have hfz17_0:=blk_frozen BK234.out 0;have hfz17_1:=blk_frozen BK234.out 1;have hfz17_2:=blk_frozen BK234.out 2;have hfz17_3:=blk_frozen BK234.out 3;have hfz17_4:=blk_frozen BK234.out 4) | ((with_reducible refine gate_callee (f:=15) rfl ?_);refine goesL_ (some 5) rfl rfl Try.func15 (by kernel_rfl) rfl #[.agg #[.bool false, .int .u32 a0_1, .bool a0_2, .int .i64 a0_3, .slice A0_4 l0_4.length c0_4]] rfl (by (try simp only [List.map_toArray,List.map_cons,List.map_nil]);first | done | rfl | (simp only [List.length_drop,List.length_take];rfl)) ?_;(with_reducible refine (impl_Body.calls false a0_1 a0_2 a0_3 _ _ l0_4 t235 _ ?side1 ?side2 A2.out).mono ?_);(case side1 => repeat (first | exact (Kd.C_below HR0_4.out HB.out) | (with_reducible refine Kd.C_alloc ?_ _) | (with_reducible refine Kd.C_drewN ?_ _) | (with_reducible refine Kd.C_drew ?_)));(case side2 => exact HC0_4.out);rintro e w18 ⟨rfl,hb⟩;refine ⟨_,rfl, ?_⟩;have n0_:=Aside0.mk (blk_below (g:=gb234) (o := .cells #[.bool false, .int .u32 a0_1, .bool a0_2, .int .i64 a0_3, .slice A0_4 l0_4.length c0_4] 25 (0,0)) (by (with_reducible repeat (first | refine blk_drewN ?_ _ | refine blk_drew ?_ | refine blk_alloc ?_ _));exact BK234.out) hb);have n1_:=Aside0.mk (below_step (by repeat (first | (with_reducible first | exact HB.out | apply below_alloc | apply pw_below_drewN | apply below_drew1 | refine below_set ?_ GE234.out) | exact HB.out)) hb);clear BK234;clear HB;have BK234:=n0_;have HB:=n1_;clear n0_ n1_;(try clear hb);(try clear hb2);(try clear hk);(try clear hi);have hcz19_0 : w18.cell? ⟨gb234,0,none⟩ = some (.bool false):=(blk_cell BK234.out 0).trans rfl;have hcz19_1 : w18.cell? ⟨gb234,1,none⟩ = some (.int .u32 a0_1):=(blk_cell BK234.out 1).trans rfl;have hcz19_2 : w18.cell? ⟨gb234,2,none⟩ = some (.bool a0_2):=(blk_cell BK234.out 2).trans rfl;have hcz19_3 : w18.cell? ⟨gb234,3,none⟩ = some (.int .i64 a0_3):=(blk_cell BK234.out 3).trans rfl;have hcz19_4 : w18.cell? ⟨gb234,4,none⟩ = some (.slice A0_4 l0_4.length c0_4):=(blk_cell BK234.out 4).trans rfl;have hfz19_0:=blk_frozen BK234.out 0;have hfz19_1:=blk_frozen BK234.out 1;have hfz19_2:=blk_frozen BK234.out 2;have hfz19_3:=blk_frozen BK234.out 3;have hfz19_4:=blk_frozen BK234.out 4))
     go_ret
     exact ⟨by first | rfl | (simp [errW_none,errW_some] <;> rfl) | (simp [*,errW_none,errW_some] <;> rfl),by repeat (first | (with_reducible first | exact HB.out | apply below_alloc | apply pw_below_drewN | apply below_drew1 | refine below_set ?_ GE234.out) | exact HB.out)⟩
    ·rw [if_neg c15] at H
     exact absurd H (by simp)
   ·rw [if_neg c14] at H
    exact absurd H (by simp)
end Go.Proofs.Ytdoclpgciadjaaa.P

namespace Go.Proofs.Ytdoclpgciadjaaa.P
open Go.RowKit Go.Proofs.YtdoclpgciadjaaaW.PrintWords Go.Proofs.YtdoclpgciadjaaaW.PrintLast Go.Proofs.YtdoclpgciadjaaaW.PrintMore
set_option linter.unusedVariables false
set_option linter.unusedSimpArgs false
def impl_Stuff.f (a0 : ByteArray) : Option (ByteArray):=some (if a0.size ≤ 2000 ∧ isBits a0 = true then strOfNums (stuffL (bytesOf a0)) else ⟨#[]⟩)
structure StuffAt (s : ByteArray) (pos : Nat) (out : List Int) (run last : Int) : Prop where mk :: (out : stuffTo s pos = (out,run,last))
theorem StuffAt.bounds {s : ByteArray} {pos : Nat} {out : List Int} {run last : Int} (h : StuffAt s pos out run last) : out.length ≤ 2 * pos ∧ 0 ≤ run ∧ run ≤ pos:=by
 have:=stuffTo_bounds s pos
 rw [h.out] at this
 exact this
set_option maxHeartbeats 2000000 in
theorem impl_Stuff.yes (a0 : ByteArray) (w : World) (hsz : a0.size ≤ 2000) (hB0 : isBits a0 = true) :
  Calls Try.prog 20 #[.string a0] w fun e w' => e = .returned (.string (strOfNums (stuffL (bytesOf a0)))) ∧ Below w.heap.size w w':=by
 have hbt : Hid (impl_bitText.f a0 2000 = some true):=by
  refine Lib.hid ?_
  unfold impl_bitText.f
  rw [hB0,decide_eq_true (by omega)];rfl
 have HB:=Lib.hid hB0
 clear hB0
 have hcap : ((a0.size * 5 / 4 + 1 : Nat) : Int) = (a0.size : Int) * 5 / 4 + 1:=by omega
 go_enter Try.func20,Try.ntmps20
 go_wp2_with (go_at_call 77;refine (impl_bitText.calls _ _ true _ hbt.out).mono ?_;rintro e w1 ⟨rfl,hb1⟩;obtain ⟨w2,cap,hmk,ho2,hg2⟩:=make_R (P:=Try.prog) (Kd.int .u8) w1 w.heap.size 22 5 (.int .u8 0) 1 Try.underlying22 infoU8 (a0.size * 5 / 4 + 1) (by omega) (by simp only [maxLen];omega) hb1.size;rw [hcap] at hmk;have HO2:=Lib.hid ho2;have HBL:=Lib.hid (hb1.grown hg2 hb1.size (fun k hk => by cases hk));clear ho2 hb1 hg2 hcap)
 go_loopw [3,4,5] (fun v3 v4 v5 wr => ∃ (pos : Nat) (out : List Int) (run last : Int),StuffAt a0 pos out run last ∧ wr.heap[w2.heap.size]? = some (.stringIter a0 pos) ∧ Aside0 (Kd.R (Kd.int .u8) 5 wr w.heap.size (fun _ => True) v3 out) ∧ Aside0 (Below w.heap.size w wr) ∧ v4 = .int .i64 run ∧ v5 = .int .i32 last) (fun _ _ _ wr => a0.size - wr.iterPos w2.heap.size)
 case atStart => exact ⟨0, [],0,120,⟨stuffTo_zero a0⟩,iter_new _ _ _,⟨R_iter HO2.out a0 0⟩,⟨HBL.out.alloc HBL.out.size _⟩,rfl,rfl⟩
 case round =>
  obtain ⟨pos,out,run,last,hst,hit,HO,HW,rfl,rfl⟩:=hrel
  obtain ⟨hl,hr0,hr1⟩:=hst.bounds
  by_cases hp : pos < a0.size
  ·have hbit:=isBits_at HB.out hp
   have HSZ : Hid (w.heap.size ≤ w2.heap.size):=Lib.hid HBL.out.size
   rcases isBit_cases hbit with e | e
   ·have hnx:=fun ty => next_bit_at (P:=Try.prog) _ _ a0 pos ty hit hp (b:=48) (by rw [e];rfl) (by omega)
    have hst':=stuffTo_succ a0 pos hp (b:=48) (by rw [e];rfl)
    rw [hst.out] at hst'
    have HIT:=Lib.hid hit
    clear e hbit hit
    by_cases c1 : 48 = last
    ·subst c1
     by_cases c2 : run = 4
     ·subst c2
      have HS:=Aside0.mk (show StuffAt a0 (pos + 1) (out ++ [48] ++ [49]) 1 49 from ⟨hst'⟩)
      clear hst' hst
      go_wp2_with (first | (at_builtin;refine Kd.R_append (Kd.int .u8) (w0:=w) w.heap.size rfl (.tmp 28) (.tmp 31) 22 5 (.int .u8 0) 1 rfl Try.underlying22 infoU8 rfl (by decide) (by omega) _ out 48 [.int .u8 48] (fun _ => True) (fun _ => False) rfl rfl ?aP (fun _ hk => hk.elim) ?aF ?aO ?aB ?aS ?aL ?_;(case aP => exact rfl);(case aF => exact fun _ _ => trivial);(case aO => exact R_iterAt HO.out HIT.out (pos + 1));(case aB => exact (Lib.below_iterAt HW.out HSZ.out a0 (pos + 1)));(case aS => exact (Lib.below_iterAt HW.out HSZ.out a0 (pos + 1)).size);(case aL => simp;omega);intro v1 wA ho1 hb1 hg1 hat1;have HO1:=Aside0.mk ho1;have HW1:=Aside0.mk hb1;have HIT1:=Lib.hid (iter_grown (R_iterAt HO.out HIT.out (pos + 1)) hg1 (Lib.iterAt_heap _ _ a0 pos (pos + 1) HIT.out));clear ho1 hb1 hg1 hat1) | (at_builtin;refine Kd.R_append (Kd.int .u8) (w0:=w) w.heap.size rfl (.tmp 37) (.tmp 40) 22 5 (.int .u8 0) 1 rfl Try.underlying22 infoU8 rfl (by decide) (by omega) _ (out ++ [48]) 49 [.int .u8 49] (fun _ => True) (fun _ => False) rfl rfl ?aP (fun _ hk => hk.elim) ?aF ?aO ?aB ?aS ?aL ?_;(case aP => exact rfl);(case aF => exact fun _ _ => trivial);(case aO => exact HO1.out);(case aB => exact HW1.out);(case aS => exact HW1.out.size);(case aL => simp;omega);intro v2 wB ho2 hb2 hg2 hat2;have HO2':=Aside0.mk ho2;have HW2:=Aside0.mk hb2;have HIT2:=Lib.hid (iter_grown HO1.out hg2 HIT1.out);clear ho2 hb2 hg2 hat2))
      go_roundw
      case rel => exact ⟨pos + 1,_,_,_,HS.out,HIT2.out,HO2',HW2,rfl,rfl⟩
      case measure => rw [iterPos_at HIT2.out,iterPos_at HIT.out];omega
     ·have HS:=Aside0.mk (show StuffAt a0 (pos + 1) (out ++ [48]) (run + 1) 48 from ⟨hst'.trans (if_neg (by simp;omega))⟩)
      have c3 : ((run + 1 : Int) == 5) = false:=by rw [beq_eq_false_iff_ne];omega
      clear hst' hst c2
      go_wp2_with (first | (at_builtin;refine Kd.R_append (Kd.int .u8) (w0:=w) w.heap.size rfl (.tmp 28) (.tmp 31) 22 5 (.int .u8 0) 1 rfl Try.underlying22 infoU8 rfl (by decide) (by omega) _ out 48 [.int .u8 48] (fun _ => True) (fun _ => False) rfl rfl ?aP (fun _ hk => hk.elim) ?aF ?aO ?aB ?aS ?aL ?_;(case aP => exact rfl);(case aF => exact fun _ _ => trivial);(case aO => exact R_iterAt HO.out HIT.out (pos + 1));(case aB => exact (Lib.below_iterAt HW.out HSZ.out a0 (pos + 1)));(case aS => exact (Lib.below_iterAt HW.out HSZ.out a0 (pos + 1)).size);(case aL => simp;omega);intro v1 wA ho1 hb1 hg1 hat1;have HO1:=Aside0.mk ho1;have HW1:=Aside0.mk hb1;have HIT1:=Lib.hid (iter_grown (R_iterAt HO.out HIT.out (pos + 1)) hg1 (Lib.iterAt_heap _ _ a0 pos (pos + 1) HIT.out));clear ho1 hb1 hg1 hat1))
      go_roundw
      case rel => exact ⟨pos + 1,_,_,_,HS.out,HIT1.out,HO1,HW1,rfl,rfl⟩
      case measure => rw [iterPos_at HIT1.out,iterPos_at HIT.out];omega
    ·have HS:=Aside0.mk (show StuffAt a0 (pos + 1) (out ++ [48]) 1 48 from ⟨by rw [hst'];unfold stuffStep;simp only [];rw [if_neg (show ¬ ((48 : Nat) : Int) = last from c1),if_neg (by decide)];rfl⟩)
     have c3 : ((48 : Int) == last) = false:=by rw [beq_eq_false_iff_ne];exact c1
     clear hst' hst c1
     go_wp2_with (first | (at_builtin;refine Kd.R_append (Kd.int .u8) (w0:=w) w.heap.size rfl (.tmp 28) (.tmp 31) 22 5 (.int .u8 0) 1 rfl Try.underlying22 infoU8 rfl (by decide) (by omega) _ out 48 [.int .u8 48] (fun _ => True) (fun _ => False) rfl rfl ?aP (fun _ hk => hk.elim) ?aF ?aO ?aB ?aS ?aL ?_;(case aP => exact rfl);(case aF => exact fun _ _ => trivial);(case aO => exact R_iterAt HO.out HIT.out (pos + 1));(case aB => exact (Lib.below_iterAt HW.out HSZ.out a0 (pos + 1)));(case aS => exact (Lib.below_iterAt HW.out HSZ.out a0 (pos + 1)).size);(case aL => simp;omega);intro v1 wA ho1 hb1 hg1 hat1;have HO1:=Aside0.mk ho1;have HW1:=Aside0.mk hb1;have HIT1:=Lib.hid (iter_grown (R_iterAt HO.out HIT.out (pos + 1)) hg1 (Lib.iterAt_heap _ _ a0 pos (pos + 1) HIT.out));clear ho1 hb1 hg1 hat1))
     go_roundw
     case rel => exact ⟨pos + 1,_,_,_,HS.out,HIT1.out,HO1,HW1,rfl,rfl⟩
     case measure => rw [iterPos_at HIT1.out,iterPos_at HIT.out];omega
   ·have hnx:=fun ty => next_bit_at (P:=Try.prog) _ _ a0 pos ty hit hp (b:=49) (by rw [e];rfl) (by omega)
    have hst':=stuffTo_succ a0 pos hp (b:=49) (by rw [e];rfl)
    rw [hst.out] at hst'
    have HIT:=Lib.hid hit
    clear e hbit hit
    by_cases c1 : 49 = last
    ·subst c1
     by_cases c2 : run = 4
     ·subst c2
      have HS:=Aside0.mk (show StuffAt a0 (pos + 1) (out ++ [49] ++ [48]) 1 48 from ⟨hst'⟩)
      clear hst' hst
      go_wp2_with (first | (at_builtin;refine Kd.R_append (Kd.int .u8) (w0:=w) w.heap.size rfl (.tmp 28) (.tmp 31) 22 5 (.int .u8 0) 1 rfl Try.underlying22 infoU8 rfl (by decide) (by omega) _ out 49 [.int .u8 49] (fun _ => True) (fun _ => False) rfl rfl ?aP (fun _ hk => hk.elim) ?aF ?aO ?aB ?aS ?aL ?_;(case aP => exact rfl);(case aF => exact fun _ _ => trivial);(case aO => exact R_iterAt HO.out HIT.out (pos + 1));(case aB => exact (Lib.below_iterAt HW.out HSZ.out a0 (pos + 1)));(case aS => exact (Lib.below_iterAt HW.out HSZ.out a0 (pos + 1)).size);(case aL => simp;omega);intro v1 wA ho1 hb1 hg1 hat1;have HO1:=Aside0.mk ho1;have HW1:=Aside0.mk hb1;have HIT1:=Lib.hid (iter_grown (R_iterAt HO.out HIT.out (pos + 1)) hg1 (Lib.iterAt_heap _ _ a0 pos (pos + 1) HIT.out));clear ho1 hb1 hg1 hat1) | (at_builtin;refine Kd.R_append (Kd.int .u8) (w0:=w) w.heap.size rfl (.tmp 37) (.tmp 40) 22 5 (.int .u8 0) 1 rfl Try.underlying22 infoU8 rfl (by decide) (by omega) _ (out ++ [49]) 48 [.int .u8 48] (fun _ => True) (fun _ => False) rfl rfl ?aP (fun _ hk => hk.elim) ?aF ?aO ?aB ?aS ?aL ?_;(case aP => exact rfl);(case aF => exact fun _ _ => trivial);(case aO => exact HO1.out);(case aB => exact HW1.out);(case aS => exact HW1.out.size);(case aL => simp;omega);intro v2 wB ho2 hb2 hg2 hat2;have HO2':=Aside0.mk ho2;have HW2:=Aside0.mk hb2;have HIT2:=Lib.hid (iter_grown HO1.out hg2 HIT1.out);clear ho2 hb2 hg2 hat2))
      go_roundw
      case rel => exact ⟨pos + 1,_,_,_,HS.out,HIT2.out,HO2',HW2,rfl,rfl⟩
      case measure => rw [iterPos_at HIT2.out,iterPos_at HIT.out];omega
     ·have HS:=Aside0.mk (show StuffAt a0 (pos + 1) (out ++ [49]) (run + 1) 49 from ⟨hst'.trans (if_neg (by simp;omega))⟩)
      have c3 : ((run + 1 : Int) == 5) = false:=by rw [beq_eq_false_iff_ne];omega
      clear hst' hst c2
      go_wp2_with (first | (at_builtin;refine Kd.R_append (Kd.int .u8) (w0:=w) w.heap.size rfl (.tmp 28) (.tmp 31) 22 5 (.int .u8 0) 1 rfl Try.underlying22 infoU8 rfl (by decide) (by omega) _ out 49 [.int .u8 49] (fun _ => True) (fun _ => False) rfl rfl ?aP (fun _ hk => hk.elim) ?aF ?aO ?aB ?aS ?aL ?_;(case aP => exact rfl);(case aF => exact fun _ _ => trivial);(case aO => exact R_iterAt HO.out HIT.out (pos + 1));(case aB => exact (Lib.below_iterAt HW.out HSZ.out a0 (pos + 1)));(case aS => exact (Lib.below_iterAt HW.out HSZ.out a0 (pos + 1)).size);(case aL => simp;omega);intro v1 wA ho1 hb1 hg1 hat1;have HO1:=Aside0.mk ho1;have HW1:=Aside0.mk hb1;have HIT1:=Lib.hid (iter_grown (R_iterAt HO.out HIT.out (pos + 1)) hg1 (Lib.iterAt_heap _ _ a0 pos (pos + 1) HIT.out));clear ho1 hb1 hg1 hat1))
      go_roundw
      case rel => exact ⟨pos + 1,_,_,_,HS.out,HIT1.out,HO1,HW1,rfl,rfl⟩
      case measure => rw [iterPos_at HIT1.out,iterPos_at HIT.out];omega
    ·have HS:=Aside0.mk (show StuffAt a0 (pos + 1) (out ++ [49]) 1 49 from ⟨by rw [hst'];unfold stuffStep;simp only [];rw [if_neg (show ¬ ((49 : Nat) : Int) = last from c1),if_neg (by decide)];rfl⟩)
     have c3 : ((49 : Int) == last) = false:=by rw [beq_eq_false_iff_ne];exact c1
     clear hst' hst c1
     go_wp2_with (first | (at_builtin;refine Kd.R_append (Kd.int .u8) (w0:=w) w.heap.size rfl (.tmp 28) (.tmp 31) 22 5 (.int .u8 0) 1 rfl Try.underlying22 infoU8 rfl (by decide) (by omega) _ out 49 [.int .u8 49] (fun _ => True) (fun _ => False) rfl rfl ?aP (fun _ hk => hk.elim) ?aF ?aO ?aB ?aS ?aL ?_;(case aP => exact rfl);(case aF => exact fun _ _ => trivial);(case aO => exact R_iterAt HO.out HIT.out (pos + 1));(case aB => exact (Lib.below_iterAt HW.out HSZ.out a0 (pos + 1)));(case aS => exact (Lib.below_iterAt HW.out HSZ.out a0 (pos + 1)).size);(case aL => simp;omega);intro v1 wA ho1 hb1 hg1 hat1;have HO1:=Aside0.mk ho1;have HW1:=Aside0.mk hb1;have HIT1:=Lib.hid (iter_grown (R_iterAt HO.out HIT.out (pos + 1)) hg1 (Lib.iterAt_heap _ _ a0 pos (pos + 1) HIT.out));clear ho1 hb1 hg1 hat1))
     go_roundw
     case rel => exact ⟨pos + 1,_,_,_,HS.out,HIT1.out,HO1,HW1,rfl,rfl⟩
     case measure => rw [iterPos_at HIT1.out,iterPos_at HIT.out];omega
  ·have hnx:=fun ty => Lib.run_next_end_at (P:=Try.prog) _ _ a0 pos ty hit hp
   have hcv:=own_string (P:=Try.prog) Try.underlying22 Try.underlying5 Try.underlying9 (Kd.own_of_R HO.out)
   go_wp2
   go_ret
   exact ⟨by rw [← stuffTo_end a0 pos hp,hst.out];rfl,HW.out⟩
theorem impl_Stuff.calls (a0 : ByteArray) (r : ByteArray) (w : World) (h : impl_Stuff.f a0 = some r) :
  Calls Try.prog 20 #[.string a0] w fun e w' => e = .returned (.string r) ∧ Below w.heap.size w w':=by
 by_cases c : a0.size ≤ 2000 ∧ isBits a0 = true
 ·obtain rfl : r = strOfNums (stuffL (bytesOf a0)):=(Option.some.inj h).symm.trans (if_pos c)
  exact impl_Stuff.yes a0 w c.1 c.2
 ·obtain rfl : r = ⟨#[]⟩:=(Option.some.inj h).symm.trans (if_neg c)
  clear h
  have hbt : Hid (impl_bitText.f a0 2000 = some false):=by
   refine Lib.hid ?_
   unfold impl_bitText.f
   congr 1
   rw [Bool.and_eq_false_iff]
   by_cases h : isBits a0 = true
   ·exact .inl (decide_eq_false fun h2 => c ⟨by omega,h⟩)
   ·exact .inr (by simpa using h)
  clear c
  go_enter Try.func20,Try.ntmps20
  go_wp2_with (go_at_call 77;refine (impl_bitText.calls _ _ false _ hbt.out).mono ?_;rintro e w1 ⟨rfl,hb1⟩)
  go_ret
  exact ⟨rfl,hb1⟩
end Go.Proofs.Ytdoclpgciadjaaa.P

namespace Go.Proofs.Ytdoclpgciadjaaa.P
open Go.RowKit Go.Proofs.YtdoclpgciadjaaaW.PrintWords Go.Proofs.YtdoclpgciadjaaaW.PrintLast Go.Proofs.YtdoclpgciadjaaaW.PrintMore
set_option linter.unusedVariables false
set_option linter.unusedSimpArgs false
def encodeV (ext : Bool) (id : Int) (rtr : Bool) (dlc : Int) (data : List Int) : ByteArray:=if validF ext id rtr dlc data.length = true then strOfNums (stuffL (plainL ext id rtr dlc data) ++ onesL) else ⟨#[]⟩
def impl_Encode.f (a0_0 : Bool) (a0_1 : Int) (a0_2 : Bool) (a0_3 : Int) (l0_4 : List Int) : Option (ByteArray):=if 0 ≤ a0_1 ∧ okBytes l0_4 = true then some (encodeV a0_0 a0_1 a0_2 a0_3 l0_4) else none
theorem stuff_str {l : List Int} (h : Bits l) (hl : l.length ≤ 2000) : impl_Stuff.f (strOfNums l) = some (strOfNums (stuffL l)):=by
 unfold impl_Stuff.f
 rw [if_pos ⟨by rw [strOfNums_size];exact hl,isBits_str h⟩,bytes_str l h.range]
theorem crc15_str {l : List Int} (h : Bits l) (hl : l.length ≤ 2000) : impl_Crc15.f (strOfNums l) = some (crcL l : Int):=by
 unfold impl_Crc15.f
 rw [if_pos ⟨by rw [strOfNums_size];exact hl,isBits_str h⟩,crcOf_str h]
theorem body_str {ext : Bool} {id : Int} {rtr : Bool} {dlc : Int} {l : List Int} (h0 : 0 ≤ id) (hb : okBytes l = true) (hv : validF ext id rtr dlc l.length = true) : impl_Body.f ext id rtr dlc l = some (strOfNums (bodyL ext id rtr dlc l)):=by
 unfold impl_Body.f bodyV
 rw [if_pos ⟨h0,hb⟩,if_pos hv]
theorem stuffL_len (l : List Int) : (stuffL l).length ≤ 2 * l.length:=by
 unfold stuffL
 have key : ∀ (l : List Int) (st : List Int × Int × Int),(l.foldl stuffStep st).1.length ≤ st.1.length + 2 * l.length:=by
  intro l
  induction l with
  | nil => intro st;simp
  | cons c l ih =>
   intro st
   have h1 : (stuffStep st c).1.length ≤ st.1.length + 2:=by
    unfold stuffStep
    generalize (if c = st.2.2 then st.2.1 + 1 else 1) = q
    split <;> simp
   have:=ih (stuffStep st c)
   rw [List.foldl_cons,List.length_cons]
   omega
 have:=key l ([],0,120)
 simpa using this
set_option maxHeartbeats 4000000 in
theorem impl_Encode.yes (ext : Bool) (id : Int) (rtr : Bool) (dlc : Int) (A : Option Addr) (c : Nat) (l : List Int) (w : World) (hr : Kd.C (Kd.int .u8) w A l.length l) (hc : l.length ≤ c) (h0 : 0 ≤ id) (hb : okBytes l = true) (hv : validF ext id rtr dlc l.length = true) :
  Calls Try.prog 28 #[.agg #[.bool ext, .int .u32 id, .bool rtr, .int .i64 dlc, .slice A l.length c]] w fun e w' => e = .returned (.string (strOfNums (stuffL (plainL ext id rtr dlc l) ++ onesL))) ∧ Below w.heap.size w w':=by
 have HV : Hid (impl_ValidFrame.f ext id rtr dlc l = some true):=Lib.hid (by unfold impl_ValidFrame.f;rw [hv])
 have HBD:=Lib.hid (body_str h0 hb hv)
 have HR:=Lib.hid hr
 have HC:=Lib.hid hc
 obtain ⟨-, -, -, -,hn8⟩:=valid_parts hv
 obtain ⟨B,hB⟩ : ∃ B,bodyL ext id rtr dlc l = B:=⟨_,rfl⟩
 have HBB : Hid (Bits B ∧ B.length ≤ 103):=Lib.hid (hB ▸ ⟨bodyL_bits ext id rtr dlc l,bodyL_length ext id rtr dlc l hn8⟩)
 have HPL : Hid (plainL ext id rtr dlc l = B ++ numL (crcL B) 15):=Lib.hid (by unfold plainL;rw [hB])
 have HPB : Hid (Bits (B ++ numL (crcL B) 15) ∧ (B ++ numL (crcL B) 15).length ≤ 118):=Lib.hid (HPL.out ▸ ⟨plainL_bits ext id rtr dlc l,plainL_length ext id rtr dlc l hn8⟩)
 rw [hB] at HBD
 have HM8 : Hid (l.length ≤ 9223372036854775807):=Lib.hid hr.2.1
 clear hv hr hc hb hn8 h0 hB
 go_enter Try.func28,Try.ntmps28
 go_wp2_with (fail)
 (refine (impl_ValidFrame.calls ext id rtr dlc A c l true _ (Kd.C_below HR.out ((Below.refl _ _).alloc (Nat.le_refl _) _)) HC.out HV.out).mono ?_;rintro e w1 ⟨rfl,hb1⟩;have HB1:=Lib.hid hb1;clear hb1;have HBOX:=Lib.hid (blk_below (blk_new w _) HB1.out);have hc0:=blk_cell HBOX.out 0;have hc1:=blk_cell HBOX.out 1;have hc2:=blk_cell HBOX.out 2;have hc3:=blk_cell HBOX.out 3;have hc4:=blk_cell HBOX.out 4;simp only [box5_0,box5_1,box5_2,box5_3,box5_4] at hc0 hc1 hc2 hc3 hc4)
 go_wp2_with (fail)
 (refine (impl_Body.calls ext id rtr dlc A c l _ _ (Kd.C_below (Kd.C_below HR.out ((Below.refl _ _).alloc (Nat.le_refl _) _)) HB1.out) HC.out HBD.out).mono ?_;rintro e w2 ⟨rfl,hb2⟩;have HB2:=Lib.hid hb2;clear hb2 hc0 hc1 hc2 hc3 hc4;have hcv0:=Lib.run_convert_string_bytes (P:=Try.prog) w2 9 107 5 (strOfNums B) Try.underlying9 Try.underlying107 Try.underlying5)
 go_wp2_with (fail)
 (refine (impl_Crc15.calls _ (crcL B : Int) _ (crc15_str HBB.out.1 (by have:=HBB.out.2;omega))).mono ?_;rintro e w3 ⟨rfl,hb3⟩)
 have HZ : Hid (w.heap.size ≤ w1.heap.size ∧ w1.heap.size ≤ w2.heap.size ∧ (Lib.bytesWorld w2 5 (strOfNums B)).heap.size = w2.heap.size + 1):=Lib.hid ⟨by have:=HB1.out.size;simp at this;omega,HB2.out.size,Lib.bytesWorld_size _ _ _⟩
 obtain ⟨p,hp⟩ : ∃ p,p = (Lib.bytesWorld w2 5 (strOfNums B)).heap.size:=⟨_,rfl⟩
 have HP:=Lib.hid hp
 have HQ1 : Hid (w3.heap[p]? = some (.cells #[.slice (some ⟨w2.heap.size,0,none⟩) (strOfNums B).size (grownCap w2 (strOfNums B).size 0 5)] 107 (0,0))):=Lib.hid (by rw [hp];exact blk_below (blk_new _ _) hb3)
 have HQ2 : Hid (RowM 5 w3 w.heap.size (.slice (some ⟨w2.heap.size,0,none⟩) (strOfNums B).size (grownCap w2 (strOfNums B).size 0 5)) B):=Lib.hid (by
  have h:=RowM.bytes w2 5 (strOfNums B) w.heap.size (by have:=HZ.out;omega) (by rw [strOfNums_size];have:=HBB.out.2;unfold maxLen;omega)
  rw [bytes_str B HBB.out.1.range] at h
  refine h.move fun k hk => ?_
  have hk2:=(h.typed hk).2.1
  rw [hb3.block k (by simp;omega),Below.heap_alloc _ _ _ hk2])
 have HQ3 : Hid (Below w.heap.size w w3):=Lib.hid (by
  have h1 : Below w.heap.size w w1:=Below.trans ((Below.refl _ _).alloc (Nat.le_refl _) _) (HB1.out.mono (by simp))
  have h2 : Below w.heap.size w w2:=h1.trans (HB2.out.mono HZ.out.1)
  refine ((below_bytes h2 (by have:=HZ.out;omega) _ _).alloc (by have:=HZ.out;omega) _).trans (hb3.mono (by simp;have:=HZ.out;omega)))
 rw [← hp]
 clear hb3 hp hcv0 HB1 HB2 HBOX
 go_wp2_with (fail)
 ((with_reducible refine (impl_letters_number.at _ 15 _ _ _ (crcL B) 15 w.heap.size _ HQ1.out HQ2.out HQ3.out.size ?hx ?hu rfl (by omega) ?hl).mono ?_);(case hx => have:=crcL_lt B;first | (rw [IntKind.wrap_u32];omega) | omega);(case hu => have:=crcL_lt B;omega);(case hl => have:=HBB.out.2;omega);rintro e w4 ⟨rfl,v',hq1,hq2,hq3⟩;have HB4:=Lib.hid (hq3.below HQ3.out HQ3.out.size (by have:=HP.out;have:=HZ.out;omega) (fun k hk => (HQ2.out.typed hk).1));have HQ4:=Lib.hid hq1;have HQ5:=Lib.hid hq2;clear hq1 hq2 hq3;have hptr:=blk_cell HQ4.out 0;simp only [box1_0] at hptr;have hcv:=RowM.string (P:=Try.prog) Try.underlying107 Try.underlying5 Try.underlying9 HQ5.out)
 go_wp2_with (fail)
 (refine (impl_Stuff.calls _ _ _ (stuff_str HPB.out.1 (by have:=HPB.out.2;omega))).mono ?_;rintro e w5 ⟨rfl,hb5⟩;have HB5:=Lib.hid hb5;clear hb5)
 have hsz : (strOfNums (stuffL (B ++ numL (crcL B) 15))).size ≤ 236:=by rw [strOfNums_size];have h1:=stuffL_len (B ++ numL (crcL B) 15);have:=HPB.out.2;omega
 go_wp2_with (fail)
 go_ret
 exact ⟨by rw [HPL.out,str_append (stuffL _) onesL];rfl,HB4.out.trans (HB5.out.mono HB4.out.size)⟩
theorem impl_Encode.calls (a0_0 : Bool) (a0_1 : Int) (a0_2 : Bool) (a0_3 : Int) (A0_4 : Option Addr) (c0_4 : Nat) (l0_4 : List Int) (r : ByteArray) (w : World) (hr0_4 : Kd.C (Kd.int .u8) w A0_4 l0_4.length l0_4) (hc0_4 : l0_4.length ≤ c0_4) (h : impl_Encode.f a0_0 a0_1 a0_2 a0_3 l0_4 = some r) :
  Calls Try.prog 28 #[.agg #[.bool a0_0, .int .u32 a0_1, .bool a0_2, .int .i64 a0_3, .slice A0_4 l0_4.length c0_4]] w fun e w' => e = .returned (.string r) ∧ Below w.heap.size w w':=by
 unfold impl_Encode.f at h
 by_cases c : 0 ≤ a0_1 ∧ okBytes l0_4 = true
 ·rw [if_pos c] at h
  have hr:=(Option.some.inj h).symm
  unfold encodeV at hr
  cases hv : validF a0_0 a0_1 a0_2 a0_3 l0_4.length with
  | true =>
   rw [hv,if_pos rfl] at hr
   subst hr
   exact impl_Encode.yes a0_0 a0_1 a0_2 a0_3 A0_4 c0_4 l0_4 w hr0_4 hc0_4 c.1 c.2 hv
  | false =>
   rw [hv] at hr
   subst hr
   have HV : Hid (impl_ValidFrame.f a0_0 a0_1 a0_2 a0_3 l0_4 = some false):=Lib.hid (by unfold impl_ValidFrame.f;rw [hv])
   have HR:=Lib.hid hr0_4
   have HC:=Lib.hid hc0_4
   have HM8 : Hid (l0_4.length ≤ 9223372036854775807):=Lib.hid hr0_4.2.1
   clear hr0_4 hc0_4 hv c h
   go_enter Try.func28,Try.ntmps28
   go_wp2_with (fail)
   (refine (impl_ValidFrame.calls a0_0 a0_1 a0_2 a0_3 A0_4 c0_4 l0_4 false _ (Kd.C_below HR.out ((Below.refl _ _).alloc (Nat.le_refl _) _)) HC.out HV.out).mono ?_;rintro e w1 ⟨rfl,hb1⟩;have HB1 : Hid (Below w.heap.size w w1):=Lib.hid (Below.trans ((Below.refl _ _).alloc (Nat.le_refl _) _) (hb1.mono (by simp)));clear hb1)
   go_wp2_with (fail)
   go_ret
   exact ⟨rfl,HB1.out⟩
 ·rw [if_neg c] at h
  cases h
end Go.Proofs.Ytdoclpgciadjaaa.P

namespace Go.Proofs.Ytdoclpgciadjaaa.P
open Go.RowKit Go.Proofs.YtdoclpgciadjaaaW.PrintWords Go.Proofs.YtdoclpgciadjaaaW.PrintLast Go.Proofs.YtdoclpgciadjaaaW.PrintMore
set_option linter.unusedVariables false
set_option linter.unusedSimpArgs false
def spec_l1other.f (a0 : Int) : Option (Int):=if a0 = 48 then (some 49) else (some 48)
set_option maxHeartbeats 8000000 in
set_option maxRecDepth 100000 in
theorem spec_l1other.calls (a0 : Int) (r : Int) (w : World) (h : spec_l1other.f a0 = some r) :
  Calls Try.prog 148 #[.int .u8 a0] w fun e w' => e = .returned (.int .u8 r) ∧ Drawn0 w w':=by
 have H : (if a0 = 48 then (some 49) else (some 48)) = some r:=h
 clear h
 by_cases c2 : a0 = 48
 ·rw [if_pos c2] at H
  have c2b0 : (a0 == 48) = true:=beq_iff_eq.mpr c2
  have c2b1 : (a0 != 48) = false:=bne_eq_false_iff_eq.mpr c2
  clear c2
  obtain rfl:=Option.some.inj H
  go_enter Try.func148,Try.ntmps148
  go_wp2
  go_ret
  exact ⟨by first | rfl | (simp;done) | (simp [*];done),by repeat (first | exact Drawn0.refl _ | apply Drawn0.step)⟩
 ·rw [if_neg c2] at H
  have c2b0 : (a0 == 48) = false:=beq_eq_false_iff_ne.mpr c2
  have c2b1 : (a0 != 48) = true:=bne_iff_ne.mpr c2
  obtain rfl:=Option.some.inj H
  go_enter Try.func148,Try.ntmps148
  go_wp2
  go_ret
  exact ⟨by first | rfl | (simp;done) | (simp [*];done),by repeat (first | exact Drawn0.refl _ | apply Drawn0.step)⟩
end Go.Proofs.Ytdoclpgciadjaaa.P
