/- Texts of the proof of FnExactNewHost, joined. -/
import Derived.Test.YtcaefabbcjlkdaaSFnExactNewHost22
import Derived.Test.YtcaefabbcjlkdaaSFnExactNewHost25
import Derived.Test.YtcaefabbcjlkdaaSFnExactNewHost26
import Derived.Test.YtcaefabbcjlkdaaSFnExactNewHost1
import Derived.Test.YtcaefabbcjlkdaaSFnExactNewHost24
namespace Go.Proofs.Ytcaefabbcjlkdaa.P
open Go.RowKit Go.Proofs.YtcaefabbcjlkdaaW.PrintWords Go.Proofs.YtcaefabbcjlkdaaW.PrintLast Go.Proofs.YtcaefabbcjlkdaaW.PrintMore
set_option linter.unusedVariables false
set_option linter.unusedSimpArgs false
def spec_NewHost.l0 : Nat → Int → Int → Int → Int → Int → Int → Int → Int → Int → List (S89) → List (S87) → Int → Int → Option (Int × Int × Int × Int × (List (S89)) × (List (S87)) × (List (S45)) × (List (S56)) × Int × Int × Int)
 | 0,_,_,_,_,_,_,_,_,_,_,_,_,_ => none
 | k + 1,x7,x370000,x370001,x370002,x370003,x374000,x374001,x374002,x374003,x374004,x374005,x374008,x374009 => if x7 < x370000 then (if x374005.length < 1954687338268 then (spec_NewHost.l0 k (wrap64 (x7 + 1)) x370000 x370001 x370002 x370003 x374000 x374001 x374002 x374003 x374004 (x374005 ++ [(⟨0,0,0,(⟨false,0,false,0,([] : List Int)⟩ : S45)⟩ : S87)]) x374008 x374009) else (none)) else ((spec_l3copy.f k x374000 x374001 x374002 x374003 x374004 x374005 ([] : List (S45)) ([] : List (S56)) x374008 x374009).bind fun bt377 => (some (bt377.1,bt377.2.1,bt377.2.2.1,bt377.2.2.2.1,bt377.2.2.2.2.1,bt377.2.2.2.2.2.1,bt377.2.2.2.2.2.2.1,bt377.2.2.2.2.2.2.2.1,bt377.2.2.2.2.2.2.2.2.1,bt377.2.2.2.2.2.2.2.2.2,0)))
def spec_NewHost.f (k : Nat) (a0_0 : Int) (a0_1 : Int) (a0_2 : Int) (a0_3 : Int) (l1 : List (S89)) : Option (Int × Int × Int × Int × (List (S89)) × (List (S87)) × (List (S45)) × (List (S56)) × Int × Int × Int):=(spec_l3okConfig.f a0_0 a0_1 a0_2 a0_3).bind fun t371 => (if t371 = true then ((spec_l3okFilters.f k l1).bind fun t372 => (if t372 = true then (spec_NewHost.l0 k 0 a0_0 a0_1 a0_2 a0_3 a0_0 a0_1 a0_2 a0_3 l1 ([] : List (S87)) 0 0) else (some (0,0,0,0,([] : List (S89)),([] : List (S87)),([] : List (S45)),([] : List (S56)),0,0,2)))) else (some (0,0,0,0,([] : List (S89)),([] : List (S87)),([] : List (S45)),([] : List (S56)),0,0,1)))
set_option maxHeartbeats 8000000 in
set_option maxRecDepth 100000 in
theorem spec_NewHost.calls (k : Nat) (a0_0 : Int) (a0_1 : Int) (a0_2 : Int) (a0_3 : Int) (A1 : Option Addr) (c1 : Nat) (l1 : List (S89)) (r1 : Int) (r2 : Int) (r3 : Int) (r4 : Int) (r5 : List (S89)) (r6 : List (S87)) (r7 : List (S45)) (r8 : List (S56)) (r9 : Int) (r10 : Int) (r11 : Int) (w : World) (hr1 : Kd.C k89 w A1 l1.length l1) (hc1 : l1.length ≤ c1) (h : spec_NewHost.f k a0_0 a0_1 a0_2 a0_3 l1 = some (r1,r2,r3,r4,r5,r6,r7,r8,r9,r10,r11)) :
  Calls Try.prog 15 #[.agg #[.int .i64 a0_0, .int .i64 a0_1, .int .i64 a0_2, .int .i64 a0_3], .slice A1 l1.length c1] w fun e w' => ∃ v4_ v5_ v6_ v7_ : Value,e = .returned (.tuple #[.agg #[.int .i64 r1, .int .i64 r2, .int .i64 r3, .int .i64 r4,v4_,v5_,v6_,v7_, .int .i64 r9, .int .i64 r10], .int .i64 r11]) ∧ Kd.R k89 89 w' w.heap.size (fun _ => True) v4_ r5 ∧ Kd.S k87 87 w' w.heap.size (fun _ => True) v5_ r6 ∧ Kd.S k45 45 w' w.heap.size (fun _ => True) v6_ r7 ∧ Kd.S k56 56 w' w.heap.size (fun _ => True) v7_ r8 ∧ Below w.heap.size w w':=by
 have hu26:=Try.underlying26
 have hu32:=Try.underlying32
 have hu87:=Try.underlying87
 have HR1:=Aside0.mk hr1
 have HC1:=Aside0.mk hc1
 clear hr1 hc1
 have HB:=Aside0.mk (Below.refl w.heap.size w)
 have H : ((spec_l3okConfig.f a0_0 a0_1 a0_2 a0_3).bind fun t371 => (if t371 = true then ((spec_l3okFilters.f k l1).bind fun t372 => (if t372 = true then (spec_NewHost.l0 k 0 a0_0 a0_1 a0_2 a0_3 a0_0 a0_1 a0_2 a0_3 l1 ([] : List (S87)) 0 0) else (some (0,0,0,0,([] : List (S89)),([] : List (S87)),([] : List (S45)),([] : List (S56)),0,0,2)))) else (some (0,0,0,0,([] : List (S89)),([] : List (S87)),([] : List (S45)),([] : List (S56)),0,0,1)))) = some (r1,r2,r3,r4,r5,r6,r7,r8,r9,r10,r11):=h
 clear h
 replace H:=Option.bind_eq_some_iff.mp H
 obtain ⟨t371,A30,H⟩:=H
 replace H : (if t371 = true then ((spec_l3okFilters.f k l1).bind fun t372 => (if t372 = true then (spec_NewHost.l0 k 0 a0_0 a0_1 a0_2 a0_3 a0_0 a0_1 a0_2 a0_3 l1 ([] : List (S87)) 0 0) else (some (0,0,0,0,([] : List (S89)),([] : List (S87)),([] : List (S45)),([] : List (S56)),0,0,2)))) else (some (0,0,0,0,([] : List (S89)),([] : List (S87)),([] : List (S45)),([] : List (S56)),0,0,1))) = some (r1,r2,r3,r4,r5,r6,r7,r8,r9,r10,r11):=H
 have A3:=Aside0.mk A30
 clear A30
 by_cases c4 : t371 = true
 ·subst c4
  have H1 : ((spec_l3okFilters.f k l1).bind fun t372 => (if t372 = true then (spec_NewHost.l0 k 0 a0_0 a0_1 a0_2 a0_3 a0_0 a0_1 a0_2 a0_3 l1 ([] : List (S87)) 0 0) else (some (0,0,0,0,([] : List (S89)),([] : List (S87)),([] : List (S45)),([] : List (S56)),0,0,2)))) = some (r1,r2,r3,r4,r5,r6,r7,r8,r9,r10,r11):=by rw [if_pos rfl] at H;exact H
  clear H
  have H:=H1
  clear H1
  replace H:=Option.bind_eq_some_iff.mp H
  obtain ⟨t372,A50,H⟩:=H
  replace H : (if t372 = true then (spec_NewHost.l0 k 0 a0_0 a0_1 a0_2 a0_3 a0_0 a0_1 a0_2 a0_3 l1 ([] : List (S87)) 0 0) else (some (0,0,0,0,([] : List (S89)),([] : List (S87)),([] : List (S45)),([] : List (S56)),0,0,2))) = some (r1,r2,r3,r4,r5,r6,r7,r8,r9,r10,r11):=H
  have A5:=Aside0.mk A50
  clear A50
  by_cases c6 : t372 = true
  ·subst c6
   have H1 : (spec_NewHost.l0 k 0 a0_0 a0_1 a0_2 a0_3 a0_0 a0_1 a0_2 a0_3 l1 ([] : List (S87)) 0 0) = some (r1,r2,r3,r4,r5,r6,r7,r8,r9,r10,r11):=by rw [if_pos rfl] at H;exact H
   clear H
   have H:=H1
   clear H1
   have H':=Aside0.mk H
   clear H
   go_enter Try.func15,Try.ntmps15
   go_wp2_with (first | ((with_reducible refine gate_dst (N:=2) rfl ?_);refine box_event ?hg (N:=2) ?hd (cs := #[.int .i64 a0_0, .int .i64 a0_1, .int .i64 a0_2, .int .i64 a0_3]) (t:=26) ?hr ?_;(case hd => rfl);(case hg => rfl);(case hr => first | (go_simp;done) | (go_simp;rfl));intro gb369 hg w7 hbox hb;have n0_:=Aside0.mk (below_step (by repeat (first | (with_reducible first | exact HB.out | apply below_alloc | apply pw_below_drewN | apply below_drew1) | exact HB.out)) hb);have n1_:=Aside0.mk (hbox);have n2_:=Aside0.mk ((by rw [hg];exact (below_size (by repeat (first | (with_reducible first | exact HB.out | apply below_alloc | apply pw_below_drewN | apply below_drew1) | exact HB.out))) : w.heap.size ≤ gb369));have n3_:=Aside0.mk ((by rw [hg];exact (below_size (by repeat (first | (with_reducible first | exact HB.out | apply below_alloc | apply pw_below_drewN | apply below_drew1) | exact HB.out))) : w.heap.size ≤ gb369));clear HB;have HB:=n0_;have BK369:=n1_;have GW369:=n2_;have GE369:=n3_;clear n0_ n1_ n2_ n3_;clear hb hbox hg) | ((with_reducible refine gate_dst (N:=4) rfl ?_);refine box_event ?hg (N:=4) ?hd (cs := #[.int .i64 0, .int .i64 0, .int .i64 0, .int .i64 0, .slice none 0 0, .slice none 0 0, .slice none 0 0, .slice none 0 0, .int .i64 0, .int .i64 0]) (t:=32) ?hr ?_;(case hd => rfl);(case hg => rfl);(case hr => first | (go_simp;done) | (go_simp;rfl));intro gb370 hg w8 hbox hb;have n0_:=Aside0.mk (blk_below (g:=gb369) (o := .cells #[.int .i64 a0_0, .int .i64 a0_1, .int .i64 a0_2, .int .i64 a0_3] 26 (0,0)) (by (with_reducible repeat (first | refine blk_drewN ?_ _ | refine blk_drew ?_ | refine blk_alloc ?_ _));exact BK369.out) hb);have n1_:=Aside0.mk (below_step (by repeat (first | (with_reducible first | exact HB.out | apply below_alloc | apply pw_below_drewN | apply below_drew1 | refine below_set ?_ GE369.out) | exact HB.out)) hb);have n2_:=Aside0.mk (hbox);have n3_:=Aside0.mk ((by rw [hg];exact (below_size (by repeat (first | (with_reducible first | exact HB.out | apply below_alloc | apply pw_below_drewN | apply below_drew1 | refine below_set ?_ GE369.out) | exact HB.out))) : w.heap.size ≤ gb370));have n4_:=Aside0.mk ((by rw [hg];exact (below_size (by repeat (first | (with_reducible first | exact HB.out | apply below_alloc | apply pw_below_drewN | apply below_drew1 | refine below_set ?_ GE369.out) | exact HB.out))) : w.heap.size ≤ gb370));have n5_:=Aside0.mk ((by rw [hg];exact Nat.ne_of_lt (blk_lt (g:=gb369) (o := .cells #[.int .i64 a0_0, .int .i64 a0_1, .int .i64 a0_2, .int .i64 a0_3] 26 (0,0)) (by (with_reducible repeat (first | refine blk_drewN ?_ _ | refine blk_drew ?_ | refine blk_alloc ?_ _));exact BK369.out)) : gb369 ≠ gb370));have n6_:=Aside0.mk ((by rw [hg];exact Nat.ne_of_gt (blk_lt (g:=gb369) (o := .cells #[.int .i64 a0_0, .int .i64 a0_1, .int .i64 a0_2, .int .i64 a0_3] 26 (0,0)) (by (with_reducible repeat (first | refine blk_drewN ?_ _ | refine blk_drew ?_ | refine blk_alloc ?_ _));exact BK369.out)) : gb370 ≠ gb369));clear BK369;clear HB;have BK369:=n0_;have HB:=n1_;have BK370:=n2_;have GW370:=n3_;have GE370:=n4_;have NB369_370:=n5_;have NB370_369:=n6_;clear n0_ n1_ n2_ n3_ n4_ n5_ n6_;clear hb hbox hg;have hnb9:=NB369_370.out;have hnc9:=NB370_369.out;have hcz10_0 : w8.cell? ⟨gb369,0,none⟩ = some (.int .i64 a0_0):=(blk_cell BK369.out 0).trans rfl;have hcz10_1 : w8.cell? ⟨gb369,1,none⟩ = some (.int .i64 a0_1):=(blk_cell BK369.out 1).trans rfl;have hcz10_2 : w8.cell? ⟨gb369,2,none⟩ = some (.int .i64 a0_2):=(blk_cell BK369.out 2).trans rfl;have hcz10_3 : w8.cell? ⟨gb369,3,none⟩ = some (.int .i64 a0_3):=(blk_cell BK369.out 3).trans rfl;have hfz10_0:=blk_frozen BK369.out 0;have hfz10_1:=blk_frozen BK369.out 1;have hfz10_2:=blk_frozen BK369.out 2;have hfz10_3:=blk_frozen BK369.out 3) | ((with_reducible refine gate_callee (f:=57) rfl ?_);refine goesL_ (some 9) rfl rfl Try.func57 (by kernel_rfl) rfl #[.agg #[.int .i64 a0_0, .int .i64 a0_1, .int .i64 a0_2, .int .i64 a0_3]] rfl (by (try simp only [List.map_toArray,List.map_cons,List.map_nil]);first | done | rfl | (simp only [List.length_drop,List.length_take];rfl)) ?_;(with_reducible refine (spec_l3okConfig.calls a0_0 a0_1 a0_2 a0_3 true _ A3.out).mono ?_);rintro e w11 ⟨rfl,hb⟩;refine ⟨_,rfl, ?_⟩;have n0_:=Aside0.mk (blk_below (g:=gb369) (o := .cells #[.int .i64 a0_0, .int .i64 a0_1, .int .i64 a0_2, .int .i64 a0_3] 26 (0,0)) (by (with_reducible repeat (first | refine blk_drewN ?_ _ | refine blk_drew ?_ | refine blk_alloc ?_ _));exact BK369.out) hb);have n1_:=Aside0.mk (blk_below (g:=gb370) (o := .cells #[.int .i64 0, .int .i64 0, .int .i64 0, .int .i64 0, .slice none 0 0, .slice none 0 0, .slice none 0 0, .slice none 0 0, .int .i64 0, .int .i64 0] 32 (0,0)) (by (with_reducible repeat (first | refine blk_drewN ?_ _ | refine blk_drew ?_ | refine blk_alloc ?_ _));exact BK370.out) hb);have n2_:=Aside0.mk (below_step (by repeat (first | (with_reducible first | exact HB.out | apply below_alloc | apply pw_below_drewN | apply below_drew1 | refine below_set ?_ GE369.out | refine below_set ?_ GE370.out) | exact HB.out)) hb);clear BK369;clear BK370;clear HB;have BK369:=n0_;have BK370:=n1_;have HB:=n2_;clear n0_ n1_ n2_;(try clear hb);(try clear hb2);(try clear hk);(try clear hi)) | ((with_reducible refine gate_callee (f:=58) rfl ?_);refine goesL_ (some 13) rfl rfl Try.func58 (by kernel_rfl) rfl #[.slice A1 l1.length c1] rfl (by (try simp only [List.map_toArray,List.map_cons,List.map_nil]);first | done | rfl | (simp only [List.length_drop,List.length_take];rfl)) ?_;(with_reducible refine (spec_l3okFilters.calls k _ _ l1 true _ ?side1 ?side2 A5.out).mono ?_);(case side1 => repeat (first | exact (Kd.C_below HR1.out HB.out) | (with_reducible refine Kd.C_alloc ?_ _) | (with_reducible refine Kd.C_drewN ?_ _) | (with_reducible refine Kd.C_drew ?_)));(case side2 => exact HC1.out);rintro e w' ⟨rfl,⟨nd,rfl⟩⟩;refine ⟨_,rfl, ?_⟩;(try (rw [drewN_self w11];generalize hq_ : World.drewN w11 _ = w11;have n0_ : Aside0 (w11.heap[gb369]? = some (.cells #[.int .i64 a0_0, .int .i64 a0_1, .int .i64 a0_2, .int .i64 a0_3] 26 (0,0))):=⟨by rw [← hq_];exact (by (with_reducible repeat (first | refine blk_drewN ?_ _ | refine blk_drew ?_ | refine blk_alloc ?_ _));exact BK369.out)⟩;have n1_ : Aside0 (w11.heap[gb370]? = some (.cells #[.int .i64 0, .int .i64 0, .int .i64 0, .int .i64 0, .slice none 0 0, .slice none 0 0, .slice none 0 0, .slice none 0 0, .int .i64 0, .int .i64 0] 32 (0,0))):=⟨by rw [← hq_];exact (by (with_reducible repeat (first | refine blk_drewN ?_ _ | refine blk_drew ?_ | refine blk_alloc ?_ _));exact BK370.out)⟩;have n2_ : Aside0 (Below w.heap.size w w11):=⟨by rw [← hq_];exact (by repeat (first | (with_reducible first | exact HB.out | apply below_alloc | apply pw_below_drewN | apply below_drew1 | refine below_set ?_ GE369.out | refine below_set ?_ GE370.out) | exact HB.out))⟩;clear BK369 BK370 HB hq_;have BK369:=n0_;have BK370:=n1_;have HB:=n2_;clear n0_ n1_ n2_));have hcz12_0 : w11.cell? ⟨gb369,0,none⟩ = some (.int .i64 a0_0):=(blk_cell BK369.out 0).trans rfl;have hcz12_1 : w11.cell? ⟨gb369,1,none⟩ = some (.int .i64 a0_1):=(blk_cell BK369.out 1).trans rfl;have hcz12_2 : w11.cell? ⟨gb369,2,none⟩ = some (.int .i64 a0_2):=(blk_cell BK369.out 2).trans rfl;have hcz12_3 : w11.cell? ⟨gb369,3,none⟩ = some (.int .i64 a0_3):=(blk_cell BK369.out 3).trans rfl;have hfz12_0:=blk_frozen BK369.out 0;have hfz12_1:=blk_frozen BK369.out 1;have hfz12_2:=blk_frozen BK369.out 2;have hfz12_3:=blk_frozen BK369.out 3) | ((with_reducible refine gate_dst (N:=6) rfl ?_);refine box_event ?hg (N:=6) ?hd (cs := #[.int .i64 0, .int .i64 0, .int .i64 0, .int .i64 0, .slice none 0 0, .slice none 0 0, .slice none 0 0, .slice none 0 0, .int .i64 0, .int .i64 0]) (t:=32) ?hr ?_;(case hd => rfl);(case hg => rfl);(case hr => first | (go_simp;done) | (go_simp;rfl));intro gb373 hg w13 hbox hb;have n0_:=Aside0.mk (blk_below (g:=gb369) (o := .cells #[.int .i64 a0_0, .int .i64 a0_1, .int .i64 a0_2, .int .i64 a0_3] 26 (0,0)) (by (with_reducible repeat (first | refine blk_drewN ?_ _ | refine blk_drew ?_ | refine blk_alloc ?_ _));exact BK369.out) hb);have n1_:=Aside0.mk (blk_below (g:=gb370) (o := .cells #[.int .i64 0, .int .i64 0, .int .i64 0, .int .i64 0, .slice none 0 0, .slice none 0 0, .slice none 0 0, .slice none 0 0, .int .i64 0, .int .i64 0] 32 (0,0)) (by (with_reducible repeat (first | refine blk_drewN ?_ _ | refine blk_drew ?_ | refine blk_alloc ?_ _));exact BK370.out) hb);have n2_:=Aside0.mk (below_step (by repeat (first | (with_reducible first | exact HB.out | apply below_alloc | apply pw_below_drewN | apply below_drew1 | refine below_set ?_ GE369.out | refine below_set ?_ GE370.out) | exact HB.out)) hb);have n3_:=Aside0.mk (hbox);have n4_:=Aside0.mk ((by rw [hg];exact (below_size (by repeat (first | (with_reducible first | exact HB.out | apply below_alloc | apply pw_below_drewN | apply below_drew1 | refine below_set ?_ GE369.out | refine below_set ?_ GE370.out) | exact HB.out))) : w.heap.size ≤ gb373));have n5_:=Aside0.mk ((by rw [hg];exact (below_size (by repeat (first | (with_reducible first | exact HB.out | apply below_alloc | apply pw_below_drewN | apply below_drew1 | refine below_set ?_ GE369.out | refine below_set ?_ GE370.out) | exact HB.out))) : w.heap.size ≤ gb373));have n6_:=Aside0.mk ((by rw [hg];exact Nat.ne_of_lt (blk_lt (g:=gb369) (o := .cells #[.int .i64 a0_0, .int .i64 a0_1, .int .i64 a0_2, .int .i64 a0_3] 26 (0,0)) (by (with_reducible repeat (first | refine blk_drewN ?_ _ | refine blk_drew ?_ | refine blk_alloc ?_ _));exact BK369.out)) : gb369 ≠ gb373));have n7_:=Aside0.mk ((by rw [hg];exact Nat.ne_of_gt (blk_lt (g:=gb369) (o := .cells #[.int .i64 a0_0, .int .i64 a0_1, .int .i64 a0_2, .int .i64 a0_3] 26 (0,0)) (by (with_reducible repeat (first | refine blk_drewN ?_ _ | refine blk_drew ?_ | refine blk_alloc ?_ _));exact BK369.out)) : gb373 ≠ gb369));have n8_:=Aside0.mk ((by rw [hg];exact Nat.ne_of_lt (blk_lt (g:=gb370) (o := .cells #[.int .i64 0, .int .i64 0, .int .i64 0, .int .i64 0, .slice none 0 0, .slice none 0 0, .slice none 0 0, .slice none 0 0, .int .i64 0, .int .i64 0] 32 (0,0)) (by (with_reducible repeat (first | refine blk_drewN ?_ _ | refine blk_drew ?_ | refine blk_alloc ?_ _));exact BK370.out)) : gb370 ≠ gb373));have n9_:=Aside0.mk ((by rw [hg];exact Nat.ne_of_gt (blk_lt (g:=gb370) (o := .cells #[.int .i64 0, .int .i64 0, .int .i64 0, .int .i64 0, .slice none 0 0, .slice none 0 0, .slice none 0 0, .slice none 0 0, .int .i64 0, .int .i64 0] 32 (0,0)) (by (with_reducible repeat (first | refine blk_drewN ?_ _ | refine blk_drew ?_ | refine blk_alloc ?_ _));exact BK370.out)) : gb373 ≠ gb370));clear BK369;clear BK370;clear HB;have BK369:=n0_;have BK370:=n1_;have HB:=n2_;have BK373:=n3_;have GW373:=n4_;have GE373:=n5_;have NB369_373:=n6_;have NB373_369:=n7_;have NB370_373:=n8_;have NB373_370:=n9_;clear n0_ n1_ n2_ n3_ n4_ n5_ n6_ n7_ n8_ n9_;clear hb hbox hg;have hnb14:=NB373_369.out;have hnc14:=NB369_373.out;have hnb15:=NB373_370.out;have hnc15:=NB370_373.out;have hcz16_0 : w13.cell? ⟨gb373,0,none⟩ = some (.int .i64 0):=(blk_cell BK373.out 0).trans rfl;have hcz16_1 : w13.cell? ⟨gb373,1,none⟩ = some (.int .i64 0):=(blk_cell BK373.out 1).trans rfl;have hcz16_2 : w13.cell? ⟨gb373,2,none⟩ = some (.int .i64 0):=(blk_cell BK373.out 2).trans rfl;have hcz16_3 : w13.cell? ⟨gb373,3,none⟩ = some (.int .i64 0):=(blk_cell BK373.out 3).trans rfl;have hcz16_4 : w13.cell? ⟨gb373,4,none⟩ = some (.slice none 0 0):=(blk_cell BK373.out 4).trans rfl;have hcz16_5 : w13.cell? ⟨gb373,5,none⟩ = some (.slice none 0 0):=(blk_cell BK373.out 5).trans rfl;have hcz16_6 : w13.cell? ⟨gb373,6,none⟩ = some (.slice none 0 0):=(blk_cell BK373.out 6).trans rfl;have hcz16_7 : w13.cell? ⟨gb373,7,none⟩ = some (.slice none 0 0):=(blk_cell BK373.out 7).trans rfl;have hcz16_8 : w13.cell? ⟨gb373,8,none⟩ = some (.int .i64 0):=(blk_cell BK373.out 8).trans rfl;have hcz16_9 : w13.cell? ⟨gb373,9,none⟩ = some (.int .i64 0):=(blk_cell BK373.out 9).trans rfl;have hfz16_0:=blk_frozen BK373.out 0;have hfz16_1:=blk_frozen BK373.out 1;have hfz16_2:=blk_frozen BK373.out 2;have hfz16_3:=blk_frozen BK373.out 3;have hfz16_4:=blk_frozen BK373.out 4;have hfz16_5:=blk_frozen BK373.out 5;have hfz16_6:=blk_frozen BK373.out 6;have hfz16_7:=blk_frozen BK373.out 7;have hfz16_8:=blk_frozen BK373.out 8;have hfz16_9:=blk_frozen BK373.out 9))
   go_loopg [7] k (fun kq v7 w' => ∃ (x7_1 : Int) (x374005_1 : List (S87)) (u374005 : Value),v7 = .int .i64 x7_1 ∧ Aside0 (spec_NewHost.l0 kq x7_1 a0_0 a0_1 a0_2 a0_3 a0_0 a0_1 a0_2 a0_3 l1 x374005_1 0 0 = some (r1,r2,r3,r4,r5,r6,r7,r8,r9,r10,r11)) ∧ Aside0 (kq ≤ k) ∧ Aside0 (Kd.S k87 87 w' w.heap.size (fun _ => True) u374005 x374005_1) ∧ Aside0 (w'.heap[gb369]? = some (.cells #[.int .i64 a0_0, .int .i64 a0_1, .int .i64 a0_2, .int .i64 a0_3] 26 (0,0))) ∧ Aside0 (w'.heap[gb370]? = some (.cells #[.int .i64 0, .int .i64 0, .int .i64 0, .int .i64 0,(.slice none 0 0),(.slice none 0 0),(.slice none 0 0),(.slice none 0 0), .int .i64 0, .int .i64 0] 32 (0,0))) ∧ Aside0 (w'.heap[gb373]? = some (.cells #[.int .i64 a0_0, .int .i64 a0_1, .int .i64 a0_2, .int .i64 a0_3,(.slice A1 l1.length c1),u374005,(.slice none 0 0),(.slice none 0 0), .int .i64 0, .int .i64 0] 32 (0,0))) ∧ Aside0 (Below w.heap.size w w'))
   case atStart => exact ⟨(0),(([] : List (S87))),(.slice none 0 0),(by first | rfl | (simp;done) | (simp [*];done)),H',⟨Nat.le_refl _⟩,⟨by first | exact Kd.S_nil _ _ _ _ _ | exact Kd.N_nil _ _ _ _ _ | exact Kd.V_nil _ _ _ _ _ | exact Kd.Q_nil _ _ _ _ _ | exact Kd.R_nil _ _ _ _ _⟩,⟨by (with_reducible repeat (first | refine blk_drewN ?_ _ | refine blk_drew ?_ | refine blk_alloc ?_ _));refine blk_far ?_ NB369_373.out _;(with_reducible repeat (first | refine blk_drewN ?_ _ | refine blk_drew ?_ | refine blk_alloc ?_ _));refine blk_far ?_ NB369_373.out _;(with_reducible repeat (first | refine blk_drewN ?_ _ | refine blk_drew ?_ | refine blk_alloc ?_ _));refine blk_far ?_ NB369_373.out _;(with_reducible repeat (first | refine blk_drewN ?_ _ | refine blk_drew ?_ | refine blk_alloc ?_ _));refine blk_far ?_ NB369_373.out _;(with_reducible repeat (first | refine blk_drewN ?_ _ | refine blk_drew ?_ | refine blk_alloc ?_ _));refine blk_far ?_ NB369_373.out _;(with_reducible repeat (first | refine blk_drewN ?_ _ | refine blk_drew ?_ | refine blk_alloc ?_ _));refine blk_far ?_ NB369_373.out _;(with_reducible repeat (first | refine blk_drewN ?_ _ | refine blk_drew ?_ | refine blk_alloc ?_ _));refine blk_far ?_ NB369_373.out _;(with_reducible repeat (first | refine blk_drewN ?_ _ | refine blk_drew ?_ | refine blk_alloc ?_ _));refine blk_far ?_ NB369_373.out _;(with_reducible repeat (first | refine blk_drewN ?_ _ | refine blk_drew ?_ | refine blk_alloc ?_ _));refine blk_far ?_ NB369_373.out _;(with_reducible repeat (first | refine blk_drewN ?_ _ | refine blk_drew ?_ | refine blk_alloc ?_ _));refine blk_far ?_ NB369_373.out _;(with_reducible repeat (first | refine blk_drewN ?_ _ | refine blk_drew ?_ | refine blk_alloc ?_ _));exact BK369.out⟩,⟨by (with_reducible repeat (first | refine blk_drewN ?_ _ | refine blk_drew ?_ | refine blk_alloc ?_ _));refine blk_far ?_ NB370_373.out _;(with_reducible repeat (first | refine blk_drewN ?_ _ | refine blk_drew ?_ | refine blk_alloc ?_ _));refine blk_far ?_ NB370_373.out _;(with_reducible repeat (first | refine blk_drewN ?_ _ | refine blk_drew ?_ | refine blk_alloc ?_ _));refine blk_far ?_ NB370_373.out _;(with_reducible repeat (first | refine blk_drewN ?_ _ | refine blk_drew ?_ | refine blk_alloc ?_ _));refine blk_far ?_ NB370_373.out _;(with_reducible repeat (first | refine blk_drewN ?_ _ | refine blk_drew ?_ | refine blk_alloc ?_ _));refine blk_far ?_ NB370_373.out _;(with_reducible repeat (first | refine blk_drewN ?_ _ | refine blk_drew ?_ | refine blk_alloc ?_ _));refine blk_far ?_ NB370_373.out _;(with_reducible repeat (first | refine blk_drewN ?_ _ | refine blk_drew ?_ | refine blk_alloc ?_ _));refine blk_far ?_ NB370_373.out _;(with_reducible repeat (first | refine blk_drewN ?_ _ | refine blk_drew ?_ | refine blk_alloc ?_ _));refine blk_far ?_ NB370_373.out _;(with_reducible repeat (first | refine blk_drewN ?_ _ | refine blk_drew ?_ | refine blk_alloc ?_ _));refine blk_far ?_ NB370_373.out _;(with_reducible repeat (first | refine blk_drewN ?_ _ | refine blk_drew ?_ | refine blk_alloc ?_ _));refine blk_far ?_ NB370_373.out _;(with_reducible repeat (first | refine blk_drewN ?_ _ | refine blk_drew ?_ | refine blk_alloc ?_ _));exact BK370.out⟩,⟨by (with_reducible repeat (first | refine blk_drewN ?_ _ | refine blk_drew ?_ | refine blk_alloc ?_ _));refine blk_put (cs := #[.int .i64 a0_0, .int .i64 a0_1, .int .i64 a0_2, .int .i64 a0_3, .slice A1 l1.length c1, .slice none 0 0, .slice none 0 0, .slice none 0 0, .int .i64 0, .int .i64 0]) ?_ 9 _ rfl;(with_reducible repeat (first | refine blk_drewN ?_ _ | refine blk_drew ?_ | refine blk_alloc ?_ _));refine blk_put (cs := #[.int .i64 a0_0, .int .i64 a0_1, .int .i64 a0_2, .int .i64 a0_3, .slice A1 l1.length c1, .slice none 0 0, .slice none 0 0, .slice none 0 0, .int .i64 0, .int .i64 0]) ?_ 8 _ rfl;(with_reducible repeat (first | refine blk_drewN ?_ _ | refine blk_drew ?_ | refine blk_alloc ?_ _));refine blk_put (cs := #[.int .i64 a0_0, .int .i64 a0_1, .int .i64 a0_2, .int .i64 a0_3, .slice A1 l1.length c1, .slice none 0 0, .slice none 0 0, .slice none 0 0, .int .i64 0, .int .i64 0]) ?_ 7 _ rfl;(with_reducible repeat (first | refine blk_drewN ?_ _ | refine blk_drew ?_ | refine blk_alloc ?_ _));refine blk_put (cs := #[.int .i64 a0_0, .int .i64 a0_1, .int .i64 a0_2, .int .i64 a0_3, .slice A1 l1.length c1, .slice none 0 0, .slice none 0 0, .slice none 0 0, .int .i64 0, .int .i64 0]) ?_ 6 _ rfl;(with_reducible repeat (first | refine blk_drewN ?_ _ | refine blk_drew ?_ | refine blk_alloc ?_ _));refine blk_put (cs := #[.int .i64 a0_0, .int .i64 a0_1, .int .i64 a0_2, .int .i64 a0_3, .slice A1 l1.length c1, .slice none 0 0, .slice none 0 0, .slice none 0 0, .int .i64 0, .int .i64 0]) ?_ 5 _ rfl;(with_reducible repeat (first | refine blk_drewN ?_ _ | refine blk_drew ?_ | refine blk_alloc ?_ _));refine blk_put (cs := #[.int .i64 a0_0, .int .i64 a0_1, .int .i64 a0_2, .int .i64 a0_3, .slice none 0 0, .slice none 0 0, .slice none 0 0, .slice none 0 0, .int .i64 0, .int .i64 0]) ?_ 4 _ rfl;(with_reducible repeat (first | refine blk_drewN ?_ _ | refine blk_drew ?_ | refine blk_alloc ?_ _));refine blk_put (cs := #[.int .i64 a0_0, .int .i64 a0_1, .int .i64 a0_2, .int .i64 0, .slice none 0 0, .slice none 0 0, .slice none 0 0, .slice none 0 0, .int .i64 0, .int .i64 0]) ?_ 3 _ rfl;(with_reducible repeat (first | refine blk_drewN ?_ _ | refine blk_drew ?_ | refine blk_alloc ?_ _));refine blk_put (cs := #[.int .i64 a0_0, .int .i64 a0_1, .int .i64 0, .int .i64 0, .slice none 0 0, .slice none 0 0, .slice none 0 0, .slice none 0 0, .int .i64 0, .int .i64 0]) ?_ 2 _ rfl;(with_reducible repeat (first | refine blk_drewN ?_ _ | refine blk_drew ?_ | refine blk_alloc ?_ _));refine blk_put (cs := #[.int .i64 a0_0, .int .i64 0, .int .i64 0, .int .i64 0, .slice none 0 0, .slice none 0 0, .slice none 0 0, .slice none 0 0, .int .i64 0, .int .i64 0]) ?_ 1 _ rfl;(with_reducible repeat (first | refine blk_drewN ?_ _ | refine blk_drew ?_ | refine blk_alloc ?_ _));refine blk_put (cs := #[.int .i64 0, .int .i64 0, .int .i64 0, .int .i64 0, .slice none 0 0, .slice none 0 0, .slice none 0 0, .slice none 0 0, .int .i64 0, .int .i64 0]) ?_ 0 _ rfl;(with_reducible repeat (first | refine blk_drewN ?_ _ | refine blk_drew ?_ | refine blk_alloc ?_ _));exact BK373.out⟩,⟨by repeat (first | (with_reducible first | exact HB.out | apply below_alloc | apply pw_below_drewN | apply below_drew1 | refine below_set ?_ GE369.out | refine below_set ?_ GE370.out | refine below_set ?_ GE373.out) | exact HB.out)⟩⟩
   case round =>
    clear H'
    try clear c1
    try clear p2
    try clear c4
    try clear c5
    try clear c6
    try clear c9
    try clear c14
    try clear c15
    try clear hcz10_0
    try clear hcz10_1
    try clear hcz10_2
    try clear hcz10_3
    try clear hcz12_0
    try clear hcz12_1
    try clear hcz12_2
    try clear hcz12_3
    try clear hcz16_0
    try clear hcz16_1
    try clear hcz16_2
    try clear hcz16_3
    try clear hcz16_4
    try clear hcz16_5
    try clear hcz16_6
    try clear hcz16_7
    try clear hcz16_8
    try clear hcz16_9
    try clear hfz10_0
    try clear hfz10_1
    try clear hfz10_2
    try clear hfz10_3
    try clear hfz12_0
    try clear hfz12_1
    try clear hfz12_2
    try clear hfz12_3
    try clear hfz16_0
    try clear hfz16_1
    try clear hfz16_2
    try clear hfz16_3
    try clear hfz16_4
    try clear hfz16_5
    try clear hfz16_6
    try clear hfz16_7
    try clear hfz16_8
    try clear hfz16_9
    obtain ⟨x7_1,x374005_1,u374005,rfl,HA,HK1,HO_374005,BK369,BK370,BK373,HB⟩:=hrel
    cases gk with
    | zero => exact absurd HA.out (by simp [spec_NewHost.l0])
    | succ k1 =>
     have H:=HA.out
     clear HA
     simp only [spec_NewHost.l0] at H
     by_cases c17 : x7_1 < a0_0
     ·rw [if_pos c17] at H
      have c17b0 : decide (x7_1 < a0_0) = true:=decide_eq_true c17
      clear c17
      by_cases c18 : x374005_1.length < 1954687338268
      ·rw [if_pos c18] at H
       have LMc18:=Aside0.mk c18
       clear c18
       obtain ⟨y374,hy374⟩ : ∃ y_ : List (S87),y_ = (x374005_1 ++ [(⟨0,0,0,(⟨false,0,false,0,([] : List Int)⟩ : S45)⟩ : S87)]):=⟨_,rfl⟩
       replace H : (spec_NewHost.l0 k1 (wrap64 (x7_1 + 1)) a0_0 a0_1 a0_2 a0_3 a0_0 a0_1 a0_2 a0_3 l1 y374 0 0) = some (r1,r2,r3,r4,r5,r6,r7,r8,r9,r10,r11):=by first | (rw [hy374];with_reducible exact H) | (have H2_:=(Option.bind_some _ _).symm.trans H;rw [hy374];with_reducible exact H2_) | (have H2_:=(Option.bind_some _ _).symm.trans H;with_reducible exact H2_) | with_reducible exact H | (rw [hy374];exact H) | exact H
       have Ny374:=Aside0.mk hy374
       clear hy374
       have H':=Aside0.mk H
       clear H
       have hnb19:=NB369_370.out
       have hnc19:=NB370_369.out
       have hnb20:=NB369_373.out
       have hnc20:=NB373_369.out
       have hcz21_0 : wr.cell? ⟨gb369,0,none⟩ = some (.int .i64 a0_0):=(blk_cell BK369.out 0).trans rfl
       have hcz21_1 : wr.cell? ⟨gb369,1,none⟩ = some (.int .i64 a0_1):=(blk_cell BK369.out 1).trans rfl
       have hcz21_2 : wr.cell? ⟨gb369,2,none⟩ = some (.int .i64 a0_2):=(blk_cell BK369.out 2).trans rfl
       have hcz21_3 : wr.cell? ⟨gb369,3,none⟩ = some (.int .i64 a0_3):=(blk_cell BK369.out 3).trans rfl
       have hfz21_0:=blk_frozen BK369.out 0
       have hfz21_1:=blk_frozen BK369.out 1
       have hfz21_2:=blk_frozen BK369.out 2
       have hfz21_3:=blk_frozen BK369.out 3
       have hnb22:=NB373_370.out
       have hnc22:=NB370_373.out
       have hcz23_0 : wr.cell? ⟨gb373,0,none⟩ = some (.int .i64 a0_0):=(blk_cell BK373.out 0).trans rfl
       have hcz23_1 : wr.cell? ⟨gb373,1,none⟩ = some (.int .i64 a0_1):=(blk_cell BK373.out 1).trans rfl
       have hcz23_2 : wr.cell? ⟨gb373,2,none⟩ = some (.int .i64 a0_2):=(blk_cell BK373.out 2).trans rfl
       have hcz23_3 : wr.cell? ⟨gb373,3,none⟩ = some (.int .i64 a0_3):=(blk_cell BK373.out 3).trans rfl
       have hcz23_4 : wr.cell? ⟨gb373,4,none⟩ = some (.slice A1 l1.length c1):=(blk_cell BK373.out 4).trans rfl
       have hcz23_5 : wr.cell? ⟨gb373,5,none⟩ = some (u374005):=(blk_cell BK373.out 5).trans rfl
       have hcz23_6 : wr.cell? ⟨gb373,6,none⟩ = some (.slice none 0 0):=(blk_cell BK373.out 6).trans rfl
       have hcz23_7 : wr.cell? ⟨gb373,7,none⟩ = some (.slice none 0 0):=(blk_cell BK373.out 7).trans rfl
       have hcz23_8 : wr.cell? ⟨gb373,8,none⟩ = some (.int .i64 0):=(blk_cell BK373.out 8).trans rfl
       have hcz23_9 : wr.cell? ⟨gb373,9,none⟩ = some (.int .i64 0):=(blk_cell BK373.out 9).trans rfl
       have hfz23_0:=blk_frozen BK373.out 0
       have hfz23_1:=blk_frozen BK373.out 1
       have hfz23_2:=blk_frozen BK373.out 2
       have hfz23_3:=blk_frozen BK373.out 3
       have hfz23_4:=blk_frozen BK373.out 4
       have hfz23_5:=blk_frozen BK373.out 5
       have hfz23_6:=blk_frozen BK373.out 6
       have hfz23_7:=blk_frozen BK373.out 7
       have hfz23_8:=blk_frozen BK373.out 8
       have hfz23_9:=blk_frozen BK373.out 9
       go_wp2_with (first | ((with_reducible refine gate_builtin (b := .append) (xs := #[.tmp 26, .tmp 28]) rfl ?_);at_builtin;refine Kd.S_append k87 (w0:=w) w.heap.size rfl (.tmp 26) (.tmp 28) 28 87 (.agg #[(.int .i64 0),(.int .i64 0),(.int .i64 0),(.bool false),(.int .u32 0),(.bool false),(.int .i64 0),(.slice none 0 0)]) 72 rfl Try.underlying28 info87 rfl (by decide) (by omega) u374005 x374005_1 (⟨0,0,0,(⟨false,0,false,0,([] : List Int)⟩ : S45)⟩ : S87) [.int .i64 0, .int .i64 0, .int .i64 0, .bool false, .int .u32 0, .bool false, .int .i64 0, .slice none 0 0] (fun _ => True) (fun _ => False) rfl rfl ?aP (fun k_ hk_ => hk_.elim) ?aF ?aO ?aB ?aS ?aL ?_;(case aP => exact k87_mkM _ _ _ (⟨0,0,0,(⟨false,0,false,0,([] : List Int)⟩ : S45)⟩ : S87) (Kd.R_nil _ _ _ _ _));(case aB => exact (by repeat (first | (with_reducible first | exact HB.out | apply below_alloc | apply pw_below_drewN | apply below_drew1 | refine below_set ?_ GE369.out | refine below_set ?_ GE370.out | refine below_set ?_ GE373.out) | exact HB.out)));(case aF => exact (fun _ _ => trivial));(case aO => exact (by (with_reducible repeat (first | apply Kd.S_alloc | apply Kd.S_drewN | apply Kd.S_drew));exact Kd.S_mono HO_374005.out (fun k_ hk => ⟨trivial,fun e_ => e_⟩)));(case aS => exact (below_size (by repeat (first | (with_reducible first | exact HB.out | apply below_alloc | apply pw_below_drewN | apply below_drew1 | refine below_set ?_ GE369.out | refine below_set ?_ GE370.out | refine below_set ?_ GE373.out) | exact HB.out))));(case aL => have:=LMc18.out;omega);intro v375 w24 ho hb hg hat;rw [← Ny374.out] at ho;have n0_:=Aside0.mk (blk_grown (g:=gb369) (o := .cells #[.int .i64 a0_0, .int .i64 a0_1, .int .i64 a0_2, .int .i64 a0_3] 26 (0,0)) (by (with_reducible repeat (first | refine blk_drewN ?_ _ | refine blk_drew ?_ | refine blk_alloc ?_ _));exact BK369.out) hg (Kd.S_ne HO_374005.out BK369.out (by decide)));have n1_:=Aside0.mk (blk_grown (g:=gb370) (o := .cells #[.int .i64 0, .int .i64 0, .int .i64 0, .int .i64 0, .slice none 0 0, .slice none 0 0, .slice none 0 0, .slice none 0 0, .int .i64 0, .int .i64 0] 32 (0,0)) (by (with_reducible repeat (first | refine blk_drewN ?_ _ | refine blk_drew ?_ | refine blk_alloc ?_ _));exact BK370.out) hg (Kd.S_ne HO_374005.out BK370.out (by decide)));have n2_:=Aside0.mk (blk_grown (g:=gb373) (o := .cells #[.int .i64 a0_0, .int .i64 a0_1, .int .i64 a0_2, .int .i64 a0_3, .slice A1 l1.length c1,u374005, .slice none 0 0, .slice none 0 0, .int .i64 0, .int .i64 0] 32 (0,0)) (by (with_reducible repeat (first | refine blk_drewN ?_ _ | refine blk_drew ?_ | refine blk_alloc ?_ _));exact BK373.out) hg (Kd.S_ne HO_374005.out BK373.out (by decide)));have n3_:=Aside0.mk (hb);have n4_:=Aside0.mk (ho);clear BK369;clear BK370;clear BK373;clear HB;clear HO_374005;have BK369:=n0_;have BK370:=n1_;have BK373:=n2_;have HB:=n3_;have HO376:=n4_;clear n0_ n1_ n2_ n3_ n4_;clear ho hb hg hat;obtain ⟨Ao25,co25,eo25⟩:=Kd.S_slice HO376.out;subst eo25;have hcz26_0 : w24.cell? ⟨gb373,0,none⟩ = some (.int .i64 a0_0):=(blk_cell BK373.out 0).trans rfl;have hcz26_1 : w24.cell? ⟨gb373,1,none⟩ = some (.int .i64 a0_1):=(blk_cell BK373.out 1).trans rfl;have hcz26_2 : w24.cell? ⟨gb373,2,none⟩ = some (.int .i64 a0_2):=(blk_cell BK373.out 2).trans rfl;have hcz26_3 : w24.cell? ⟨gb373,3,none⟩ = some (.int .i64 a0_3):=(blk_cell BK373.out 3).trans rfl;have hcz26_4 : w24.cell? ⟨gb373,4,none⟩ = some (.slice A1 l1.length c1):=(blk_cell BK373.out 4).trans rfl;have hcz26_5 : w24.cell? ⟨gb373,5,none⟩ = some (u374005):=(blk_cell BK373.out 5).trans rfl;have hcz26_6 : w24.cell? ⟨gb373,6,none⟩ = some (.slice none 0 0):=(blk_cell BK373.out 6).trans rfl;have hcz26_7 : w24.cell? ⟨gb373,7,none⟩ = some (.slice none 0 0):=(blk_cell BK373.out 7).trans rfl;have hcz26_8 : w24.cell? ⟨gb373,8,none⟩ = some (.int .i64 0):=(blk_cell BK373.out 8).trans rfl;have hcz26_9 : w24.cell? ⟨gb373,9,none⟩ = some (.int .i64 0):=(blk_cell BK373.out 9).trans rfl;have hfz26_0:=blk_frozen BK373.out 0;have hfz26_1:=blk_frozen BK373.out 1;have hfz26_2:=blk_frozen BK373.out 2;have hfz26_3:=blk_frozen BK373.out 3;have hfz26_4:=blk_frozen BK373.out 4;have hfz26_5:=blk_frozen BK373.out 5;have hfz26_6:=blk_frozen BK373.out 6;have hfz26_7:=blk_frozen BK373.out 7;have hfz26_8:=blk_frozen BK373.out 8;have hfz26_9:=blk_frozen BK373.out 9))
       go_roundg k1
       case measure => have:=HK1.out;omega
       case rel => exact ⟨(wrap64 (x7_1 + 1)),(y374),(.slice Ao25 y374.length co25),(by first | rfl | (simp;done) | (simp [*];done)),H',⟨by have:=HK1.out;omega⟩,⟨by (with_reducible repeat (first | apply Kd.S_alloc | apply Kd.S_drewN | apply Kd.S_drew));exact Kd.S_mono (Kd.S_far (p:=⟨gb373,5,none⟩) (Kd.S_types HO376.out BK373.out (by decide)) (fun _ hk => hk.2) (.slice Ao25 y374.length co25)) (fun _ hk => trivial)⟩,⟨by (with_reducible repeat (first | refine blk_drewN ?_ _ | refine blk_drew ?_ | refine blk_alloc ?_ _));refine blk_far ?_ NB369_373.out _;(with_reducible repeat (first | refine blk_drewN ?_ _ | refine blk_drew ?_ | refine blk_alloc ?_ _));exact BK369.out⟩,⟨by (with_reducible repeat (first | refine blk_drewN ?_ _ | refine blk_drew ?_ | refine blk_alloc ?_ _));refine blk_far ?_ NB370_373.out _;(with_reducible repeat (first | refine blk_drewN ?_ _ | refine blk_drew ?_ | refine blk_alloc ?_ _));exact BK370.out⟩,⟨by (with_reducible repeat (first | refine blk_drewN ?_ _ | refine blk_drew ?_ | refine blk_alloc ?_ _));refine blk_put (cs := #[.int .i64 a0_0, .int .i64 a0_1, .int .i64 a0_2, .int .i64 a0_3, .slice A1 l1.length c1,u374005, .slice none 0 0, .slice none 0 0, .int .i64 0, .int .i64 0]) ?_ 5 _ rfl;(with_reducible repeat (first | refine blk_drewN ?_ _ | refine blk_drew ?_ | refine blk_alloc ?_ _));exact BK373.out⟩,⟨by repeat (first | (with_reducible first | exact HB.out | apply below_alloc | apply pw_below_drewN | apply below_drew1 | refine below_set ?_ GE369.out | refine below_set ?_ GE370.out | refine below_set ?_ GE373.out) | exact HB.out)⟩⟩
      ·rw [if_neg c18] at H
       exact absurd H (by simp)
     ·rw [if_neg c17] at H
      have c17b0 : decide (x7_1 < a0_0) = false:=decide_eq_false c17
      clear c17
      replace H:=Option.bind_eq_some_iff.mp H
      obtain ⟨⟨t377,t378,t379,t380,t381,t384,t387,t390,t393,t394⟩,A270,H⟩:=H
      replace H : (some (t377,t378,t379,t380,t381,t384,t387,t390,t393,t394,0)) = some (r1,r2,r3,r4,r5,r6,r7,r8,r9,r10,r11):=H
      have A27:=Aside0.mk A270
      clear A270
      simp only [Option.some.injEq,Prod.mk.injEq] at H
      obtain ⟨rfl,rfl,rfl,rfl,rfl,rfl,rfl,rfl,rfl,rfl,rfl⟩:=H
      have hnb28:=NB369_370.out
      have hnc28:=NB370_369.out
      have hnb29:=NB369_373.out
      have hnc29:=NB373_369.out
      have hcz30_0 : wr.cell? ⟨gb369,0,none⟩ = some (.int .i64 a0_0):=(blk_cell BK369.out 0).trans rfl
      have hcz30_1 : wr.cell? ⟨gb369,1,none⟩ = some (.int .i64 a0_1):=(blk_cell BK369.out 1).trans rfl
      have hcz30_2 : wr.cell? ⟨gb369,2,none⟩ = some (.int .i64 a0_2):=(blk_cell BK369.out 2).trans rfl
      have hcz30_3 : wr.cell? ⟨gb369,3,none⟩ = some (.int .i64 a0_3):=(blk_cell BK369.out 3).trans rfl
      have hfz30_0:=blk_frozen BK369.out 0
      have hfz30_1:=blk_frozen BK369.out 1
      have hfz30_2:=blk_frozen BK369.out 2
      have hfz30_3:=blk_frozen BK369.out 3
      have hnb31:=NB373_370.out
      have hnc31:=NB370_373.out
      have hcz32_0 : wr.cell? ⟨gb373,0,none⟩ = some (.int .i64 a0_0):=(blk_cell BK373.out 0).trans rfl
      have hcz32_1 : wr.cell? ⟨gb373,1,none⟩ = some (.int .i64 a0_1):=(blk_cell BK373.out 1).trans rfl
      have hcz32_2 : wr.cell? ⟨gb373,2,none⟩ = some (.int .i64 a0_2):=(blk_cell BK373.out 2).trans rfl
      have hcz32_3 : wr.cell? ⟨gb373,3,none⟩ = some (.int .i64 a0_3):=(blk_cell BK373.out 3).trans rfl
      have hcz32_4 : wr.cell? ⟨gb373,4,none⟩ = some (.slice A1 l1.length c1):=(blk_cell BK373.out 4).trans rfl
      have hcz32_5 : wr.cell? ⟨gb373,5,none⟩ = some (u374005):=(blk_cell BK373.out 5).trans rfl
      have hcz32_6 : wr.cell? ⟨gb373,6,none⟩ = some (.slice none 0 0):=(blk_cell BK373.out 6).trans rfl
      have hcz32_7 : wr.cell? ⟨gb373,7,none⟩ = some (.slice none 0 0):=(blk_cell BK373.out 7).trans rfl
      have hcz32_8 : wr.cell? ⟨gb373,8,none⟩ = some (.int .i64 0):=(blk_cell BK373.out 8).trans rfl
      have hcz32_9 : wr.cell? ⟨gb373,9,none⟩ = some (.int .i64 0):=(blk_cell BK373.out 9).trans rfl
      have hfz32_0:=blk_frozen BK373.out 0
      have hfz32_1:=blk_frozen BK373.out 1
      have hfz32_2:=blk_frozen BK373.out 2
      have hfz32_3:=blk_frozen BK373.out 3
      have hfz32_4:=blk_frozen BK373.out 4
      have hfz32_5:=blk_frozen BK373.out 5
      have hfz32_6:=blk_frozen BK373.out 6
      have hfz32_7:=blk_frozen BK373.out 7
      have hfz32_8:=blk_frozen BK373.out 8
      have hfz32_9:=blk_frozen BK373.out 9
      obtain ⟨Ao33,co33,eo33⟩:=Kd.S_slice HO_374005.out
      subst eo33
      go_wp2_with (first | ((with_reducible refine gate_callee (f:=59) rfl ?_);refine goesL_ (some 32) rfl rfl Try.func59 (by kernel_rfl) rfl #[.agg #[.int .i64 a0_0, .int .i64 a0_1, .int .i64 a0_2, .int .i64 a0_3, .slice A1 l1.length c1, .slice Ao33 x374005_1.length co33, .slice none 0 0, .slice none 0 0, .int .i64 0, .int .i64 0]] rfl (by (try simp only [List.map_toArray,List.map_cons,List.map_nil]);first | done | rfl | (simp only [List.length_drop,List.length_take];rfl)) ?_;(refine (spec_l3copy.calls k1 a0_0 a0_1 a0_2 a0_3 _ _ l1 _ _ x374005_1 _ _ ([] : List (S45)) _ _ ([] : List (S56)) 0 0 t377 t378 t379 t380 t381 t384 t387 t390 t393 t394 _ ?side1 ?side2 ?side3 ?side4 ?side5 ?side6 ?side7 ?side8 A27.out).mono ?_);(case side1 => repeat (first | exact (Kd.C_below HR1.out HB.out) | (with_reducible refine Kd.C_alloc ?_ _) | (with_reducible refine Kd.C_drewN ?_ _) | (with_reducible refine Kd.C_drew ?_)));(case side2 => exact HC1.out);(case side3 => repeat (first | exact (Kd.S_reads' HO_374005.out).2.2 | (with_reducible refine Kd.C_alloc ?_ _) | (with_reducible refine Kd.C_drewN ?_ _) | (with_reducible refine Kd.C_drew ?_)));(case side4 => exact (Kd.S_reads' HO_374005.out).2.1);(case side5 => exact Kd.C_nil _ _);(case side6 => exact Nat.le_refl _);(case side7 => exact Kd.C_nil _ _);(case side8 => exact Nat.le_refl _);rintro e w34 ⟨v382,v385,v388,v391,rfl,ho0,ho1,ho2,ho3,hb⟩;refine ⟨_,rfl, ?_⟩;have n0_:=Aside0.mk (Kd.S_elder' (by (with_reducible repeat (first | apply Kd.S_alloc | apply Kd.S_drewN | apply Kd.S_drew));exact HO_374005.out) (Kd.S_base ho1) hb);have n1_:=Aside0.mk (Kd.R_lower ho0 (below_size (by repeat (first | (with_reducible first | exact HB.out | apply below_alloc | apply pw_below_drewN | apply below_drew1 | refine below_set ?_ GE369.out | refine below_set ?_ GE370.out | refine below_set ?_ GE373.out) | exact HB.out))));have n2_:=Aside0.mk (Kd.S_lower (Kd.S_new' ho1 (Kd.S_lt (by (with_reducible repeat (first | apply Kd.S_alloc | apply Kd.S_drewN | apply Kd.S_drew));exact HO_374005.out))) (below_size (by repeat (first | (with_reducible first | exact HB.out | apply below_alloc | apply pw_below_drewN | apply below_drew1 | refine below_set ?_ GE369.out | refine below_set ?_ GE370.out | refine below_set ?_ GE373.out) | exact HB.out))));have n3_:=Aside0.mk (Kd.S_lower ho2 (below_size (by repeat (first | (with_reducible first | exact HB.out | apply below_alloc | apply pw_below_drewN | apply below_drew1 | refine below_set ?_ GE369.out | refine below_set ?_ GE370.out | refine below_set ?_ GE373.out) | exact HB.out))));have n4_:=Aside0.mk (Kd.S_lower ho3 (below_size (by repeat (first | (with_reducible first | exact HB.out | apply below_alloc | apply pw_below_drewN | apply below_drew1 | refine below_set ?_ GE369.out | refine below_set ?_ GE370.out | refine below_set ?_ GE373.out) | exact HB.out))));have n5_:=Aside0.mk (blk_below (g:=gb369) (o := .cells #[.int .i64 a0_0, .int .i64 a0_1, .int .i64 a0_2, .int .i64 a0_3] 26 (0,0)) (by (with_reducible repeat (first | refine blk_drewN ?_ _ | refine blk_drew ?_ | refine blk_alloc ?_ _));exact BK369.out) hb);have n6_:=Aside0.mk (blk_below (g:=gb370) (o := .cells #[.int .i64 0, .int .i64 0, .int .i64 0, .int .i64 0, .slice none 0 0, .slice none 0 0, .slice none 0 0, .slice none 0 0, .int .i64 0, .int .i64 0] 32 (0,0)) (by (with_reducible repeat (first | refine blk_drewN ?_ _ | refine blk_drew ?_ | refine blk_alloc ?_ _));exact BK370.out) hb);have n7_:=Aside0.mk (blk_below (g:=gb373) (o := .cells #[.int .i64 a0_0, .int .i64 a0_1, .int .i64 a0_2, .int .i64 a0_3, .slice A1 l1.length c1, .slice Ao33 x374005_1.length co33, .slice none 0 0, .slice none 0 0, .int .i64 0, .int .i64 0] 32 (0,0)) (by (with_reducible repeat (first | refine blk_drewN ?_ _ | refine blk_drew ?_ | refine blk_alloc ?_ _));exact BK373.out) hb);have n8_:=Aside0.mk (below_step (by repeat (first | (with_reducible first | exact HB.out | apply below_alloc | apply pw_below_drewN | apply below_drew1 | refine below_set ?_ GE369.out | refine below_set ?_ GE370.out | refine below_set ?_ GE373.out) | exact HB.out)) hb);clear HO_374005;clear BK369;clear BK370;clear BK373;clear HB;have HO_374005:=n0_;have HO383:=n1_;have HO386:=n2_;have HO389:=n3_;have HO392:=n4_;have BK369:=n5_;have BK370:=n6_;have BK373:=n7_;have HB:=n8_;clear n0_ n1_ n2_ n3_ n4_ n5_ n6_ n7_ n8_;(try clear hb);(try clear hb2);(try clear hk);(try clear hi);(try clear ho0);(try clear ho1);(try clear ho2);(try clear ho3);have hcz35_0 : w34.cell? ⟨gb370,0,none⟩ = some (.int .i64 0):=(blk_cell BK370.out 0).trans rfl;have hcz35_1 : w34.cell? ⟨gb370,1,none⟩ = some (.int .i64 0):=(blk_cell BK370.out 1).trans rfl;have hcz35_2 : w34.cell? ⟨gb370,2,none⟩ = some (.int .i64 0):=(blk_cell BK370.out 2).trans rfl;have hcz35_3 : w34.cell? ⟨gb370,3,none⟩ = some (.int .i64 0):=(blk_cell BK370.out 3).trans rfl;have hcz35_4 : w34.cell? ⟨gb370,4,none⟩ = some (.slice none 0 0):=(blk_cell BK370.out 4).trans rfl;have hcz35_5 : w34.cell? ⟨gb370,5,none⟩ = some (.slice none 0 0):=(blk_cell BK370.out 5).trans rfl;have hcz35_6 : w34.cell? ⟨gb370,6,none⟩ = some (.slice none 0 0):=(blk_cell BK370.out 6).trans rfl;have hcz35_7 : w34.cell? ⟨gb370,7,none⟩ = some (.slice none 0 0):=(blk_cell BK370.out 7).trans rfl;have hcz35_8 : w34.cell? ⟨gb370,8,none⟩ = some (.int .i64 0):=(blk_cell BK370.out 8).trans rfl;have hcz35_9 : w34.cell? ⟨gb370,9,none⟩ = some (.int .i64 0):=(blk_cell BK370.out 9).trans rfl;have hfz35_0:=blk_frozen BK370.out 0;have hfz35_1:=blk_frozen BK370.out 1;have hfz35_2:=blk_frozen BK370.out 2;have hfz35_3:=blk_frozen BK370.out 3;have hfz35_4:=blk_frozen BK370.out 4;have hfz35_5:=blk_frozen BK370.out 5;have hfz35_6:=blk_frozen BK370.out 6;have hfz35_7:=blk_frozen BK370.out 7;have hfz35_8:=blk_frozen BK370.out 8;have hfz35_9:=blk_frozen BK370.out 9;obtain ⟨Ao36,co36,eo36⟩:=Kd.R_slice HO383.out;subst eo36;obtain ⟨Ao37,co37,eo37⟩:=Kd.S_slice HO386.out;subst eo37;obtain ⟨Ao38,co38,eo38⟩:=Kd.S_slice HO389.out;subst eo38;obtain ⟨Ao39,co39,eo39⟩:=Kd.S_slice HO392.out;subst eo39))
      refine bodyPost_ret (results_ct rfl _ _ gb370 32 #[.int .i64 t377, .int .i64 t378, .int .i64 t379, .int .i64 t380, .slice Ao36 t381.length co36, .slice Ao37 t384.length co37, .slice Ao38 t387.length co38, .slice Ao39 t390.length co39, .int .i64 t393, .int .i64 t394] (0,0) _ rfl (by (with_reducible repeat (first | refine blk_drewN ?_ _ | refine blk_drew ?_ | refine blk_alloc ?_ _));refine blk_put (cs := #[.int .i64 t377, .int .i64 t378, .int .i64 t379, .int .i64 t380, .slice Ao36 t381.length co36, .slice Ao37 t384.length co37, .slice Ao38 t387.length co38, .slice Ao39 t390.length co39, .int .i64 t393, .int .i64 0]) ?_ 9 _ rfl;(with_reducible repeat (first | refine blk_drewN ?_ _ | refine blk_drew ?_ | refine blk_alloc ?_ _));refine blk_put (cs := #[.int .i64 t377, .int .i64 t378, .int .i64 t379, .int .i64 t380, .slice Ao36 t381.length co36, .slice Ao37 t384.length co37, .slice Ao38 t387.length co38, .slice Ao39 t390.length co39, .int .i64 0, .int .i64 0]) ?_ 8 _ rfl;(with_reducible repeat (first | refine blk_drewN ?_ _ | refine blk_drew ?_ | refine blk_alloc ?_ _));refine blk_put (cs := #[.int .i64 t377, .int .i64 t378, .int .i64 t379, .int .i64 t380, .slice Ao36 t381.length co36, .slice Ao37 t384.length co37, .slice Ao38 t387.length co38, .slice none 0 0, .int .i64 0, .int .i64 0]) ?_ 7 _ rfl;(with_reducible repeat (first | refine blk_drewN ?_ _ | refine blk_drew ?_ | refine blk_alloc ?_ _));refine blk_put (cs := #[.int .i64 t377, .int .i64 t378, .int .i64 t379, .int .i64 t380, .slice Ao36 t381.length co36, .slice Ao37 t384.length co37, .slice none 0 0, .slice none 0 0, .int .i64 0, .int .i64 0]) ?_ 6 _ rfl;(with_reducible repeat (first | refine blk_drewN ?_ _ | refine blk_drew ?_ | refine blk_alloc ?_ _));refine blk_put (cs := #[.int .i64 t377, .int .i64 t378, .int .i64 t379, .int .i64 t380, .slice Ao36 t381.length co36, .slice none 0 0, .slice none 0 0, .slice none 0 0, .int .i64 0, .int .i64 0]) ?_ 5 _ rfl;(with_reducible repeat (first | refine blk_drewN ?_ _ | refine blk_drew ?_ | refine blk_alloc ?_ _));refine blk_put (cs := #[.int .i64 t377, .int .i64 t378, .int .i64 t379, .int .i64 t380, .slice none 0 0, .slice none 0 0, .slice none 0 0, .slice none 0 0, .int .i64 0, .int .i64 0]) ?_ 4 _ rfl;(with_reducible repeat (first | refine blk_drewN ?_ _ | refine blk_drew ?_ | refine blk_alloc ?_ _));refine blk_put (cs := #[.int .i64 t377, .int .i64 t378, .int .i64 t379, .int .i64 0, .slice none 0 0, .slice none 0 0, .slice none 0 0, .slice none 0 0, .int .i64 0, .int .i64 0]) ?_ 3 _ rfl;(with_reducible repeat (first | refine blk_drewN ?_ _ | refine blk_drew ?_ | refine blk_alloc ?_ _));refine blk_put (cs := #[.int .i64 t377, .int .i64 t378, .int .i64 0, .int .i64 0, .slice none 0 0, .slice none 0 0, .slice none 0 0, .slice none 0 0, .int .i64 0, .int .i64 0]) ?_ 2 _ rfl;(with_reducible repeat (first | refine blk_drewN ?_ _ | refine blk_drew ?_ | refine blk_alloc ?_ _));refine blk_put (cs := #[.int .i64 t377, .int .i64 0, .int .i64 0, .int .i64 0, .slice none 0 0, .slice none 0 0, .slice none 0 0, .slice none 0 0, .int .i64 0, .int .i64 0]) ?_ 1 _ rfl;(with_reducible repeat (first | refine blk_drewN ?_ _ | refine blk_drew ?_ | refine blk_alloc ?_ _));refine blk_put (cs := #[.int .i64 0, .int .i64 0, .int .i64 0, .int .i64 0, .slice none 0 0, .slice none 0 0, .slice none 0 0, .slice none 0 0, .int .i64 0, .int .i64 0]) ?_ 0 _ rfl;(with_reducible repeat (first | refine blk_drewN ?_ _ | refine blk_drew ?_ | refine blk_alloc ?_ _));exact BK370.out) Try.underlying32 rfl (by kernel_rfl)) rfl ?_
      exact ⟨_,_,_,_,by first | rfl | (simp [errW_none,errW_some] <;> rfl) | (simp [*,errW_none,errW_some] <;> rfl),by (with_reducible repeat (first | apply Kd.R_alloc | apply Kd.R_drewN | apply Kd.R_drew));exact Kd.R_mono (Kd.R_far (p:=⟨gb370,9,none⟩) (Kd.R_far (p:=⟨gb370,8,none⟩) (Kd.R_far (p:=⟨gb370,7,none⟩) (Kd.R_far (p:=⟨gb370,6,none⟩) (Kd.R_far (p:=⟨gb370,5,none⟩) (Kd.R_far (p:=⟨gb370,4,none⟩) (Kd.R_far (p:=⟨gb370,3,none⟩) (Kd.R_far (p:=⟨gb370,2,none⟩) (Kd.R_far (p:=⟨gb370,1,none⟩) (Kd.R_far (p:=⟨gb370,0,none⟩) (Kd.R_types HO383.out BK370.out (by decide)) (fun _ hk => hk.2) (.int .i64 t377)) (fun _ hk => hk.2) (.int .i64 t378)) (fun _ hk => hk.2) (.int .i64 t379)) (fun _ hk => hk.2) (.int .i64 t380)) (fun _ hk => hk.2) (.slice Ao36 t381.length co36)) (fun _ hk => hk.2) (.slice Ao37 t384.length co37)) (fun _ hk => hk.2) (.slice Ao38 t387.length co38)) (fun _ hk => hk.2) (.slice Ao39 t390.length co39)) (fun _ hk => hk.2) (.int .i64 t393)) (fun _ hk => hk.2) (.int .i64 t394)) (fun _ hk => trivial),by (with_reducible repeat (first | apply Kd.S_alloc | apply Kd.S_drewN | apply Kd.S_drew));exact Kd.S_mono (Kd.S_far (p:=⟨gb370,9,none⟩) (Kd.S_far (p:=⟨gb370,8,none⟩) (Kd.S_far (p:=⟨gb370,7,none⟩) (Kd.S_far (p:=⟨gb370,6,none⟩) (Kd.S_far (p:=⟨gb370,5,none⟩) (Kd.S_far (p:=⟨gb370,4,none⟩) (Kd.S_far (p:=⟨gb370,3,none⟩) (Kd.S_far (p:=⟨gb370,2,none⟩) (Kd.S_far (p:=⟨gb370,1,none⟩) (Kd.S_far (p:=⟨gb370,0,none⟩) (Kd.S_types HO386.out BK370.out (by decide)) (fun _ hk => hk.2) (.int .i64 t377)) (fun _ hk => hk.2) (.int .i64 t378)) (fun _ hk => hk.2) (.int .i64 t379)) (fun _ hk => hk.2) (.int .i64 t380)) (fun _ hk => hk.2) (.slice Ao36 t381.length co36)) (fun _ hk => hk.2) (.slice Ao37 t384.length co37)) (fun _ hk => hk.2) (.slice Ao38 t387.length co38)) (fun _ hk => hk.2) (.slice Ao39 t390.length co39)) (fun _ hk => hk.2) (.int .i64 t393)) (fun _ hk => hk.2) (.int .i64 t394)) (fun _ hk => trivial),by (with_reducible repeat (first | apply Kd.S_alloc | apply Kd.S_drewN | apply Kd.S_drew));exact Kd.S_mono (Kd.S_far (p:=⟨gb370,9,none⟩) (Kd.S_far (p:=⟨gb370,8,none⟩) (Kd.S_far (p:=⟨gb370,7,none⟩) (Kd.S_far (p:=⟨gb370,6,none⟩) (Kd.S_far (p:=⟨gb370,5,none⟩) (Kd.S_far (p:=⟨gb370,4,none⟩) (Kd.S_far (p:=⟨gb370,3,none⟩) (Kd.S_far (p:=⟨gb370,2,none⟩) (Kd.S_far (p:=⟨gb370,1,none⟩) (Kd.S_far (p:=⟨gb370,0,none⟩) (Kd.S_types HO389.out BK370.out (by decide)) (fun _ hk => hk.2) (.int .i64 t377)) (fun _ hk => hk.2) (.int .i64 t378)) (fun _ hk => hk.2) (.int .i64 t379)) (fun _ hk => hk.2) (.int .i64 t380)) (fun _ hk => hk.2) (.slice Ao36 t381.length co36)) (fun _ hk => hk.2) (.slice Ao37 t384.length co37)) (fun _ hk => hk.2) (.slice Ao38 t387.length co38)) (fun _ hk => hk.2) (.slice Ao39 t390.length co39)) (fun _ hk => hk.2) (.int .i64 t393)) (fun _ hk => hk.2) (.int .i64 t394)) (fun _ hk => trivial),by (with_reducible repeat (first | apply Kd.S_alloc | apply Kd.S_drewN | apply Kd.S_drew));exact Kd.S_mono (Kd.S_far (p:=⟨gb370,9,none⟩) (Kd.S_far (p:=⟨gb370,8,none⟩) (Kd.S_far (p:=⟨gb370,7,none⟩) (Kd.S_far (p:=⟨gb370,6,none⟩) (Kd.S_far (p:=⟨gb370,5,none⟩) (Kd.S_far (p:=⟨gb370,4,none⟩) (Kd.S_far (p:=⟨gb370,3,none⟩) (Kd.S_far (p:=⟨gb370,2,none⟩) (Kd.S_far (p:=⟨gb370,1,none⟩) (Kd.S_far (p:=⟨gb370,0,none⟩) (Kd.S_types HO392.out BK370.out (by decide)) (fun _ hk => hk.2) (.int .i64 t377)) (fun _ hk => hk.2) (.int .i64 t378)) (fun _ hk => hk.2) (.int .i64 t379)) (fun _ hk => hk.2) (.int .i64 t380)) (fun _ hk => hk.2) (.slice Ao36 t381.length co36)) (fun _ hk => hk.2) (.slice Ao37 t384.length co37)) (fun _ hk => hk.2) (.slice Ao38 t387.length co38)) (fun _ hk => hk.2) (.slice Ao39 t390.length co39)) (fun _ hk => hk.2) (.int .i64 t393)) (fun _ hk => hk.2) (.int .i64 t394)) (fun _ hk => trivial),by repeat (first | (with_reducible first | exact HB.out | apply below_alloc | apply pw_below_drewN | apply below_drew1 | refine below_set ?_ GE369.out | refine below_set ?_ GE370.out | refine below_set ?_ GE373.out) | exact HB.out)⟩
  ·replace c6:=Bool.eq_false_iff.mpr c6
   subst c6
   have H1 : (some (0,0,0,0,([] : List (S89)),([] : List (S87)),([] : List (S45)),([] : List (S56)),0,0,2)) = some (r1,r2,r3,r4,r5,r6,r7,r8,r9,r10,r11):=by rw [if_neg (show ¬ (false = true) by decide)] at H;exact H
   clear H
   have H:=H1
   clear H1
   simp only [Option.some.injEq,Prod.mk.injEq] at H
   obtain ⟨rfl,rfl,rfl,rfl,rfl,rfl,rfl,rfl,rfl,rfl,rfl⟩:=H
   go_enter Try.func15,Try.ntmps15
   go_wp2_with (first | ((with_reducible refine gate_dst (N:=2) rfl ?_);refine box_event ?hg (N:=2) ?hd (cs := #[.int .i64 a0_0, .int .i64 a0_1, .int .i64 a0_2, .int .i64 a0_3]) (t:=26) ?hr ?_;(case hd => rfl);(case hg => rfl);(case hr => first | (go_simp;done) | (go_simp;rfl));intro gb369 hg w40 hbox hb;have n0_:=Aside0.mk (below_step (by repeat (first | (with_reducible first | exact HB.out | apply below_alloc | apply pw_below_drewN | apply below_drew1) | exact HB.out)) hb);have n1_:=Aside0.mk (hbox);have n2_:=Aside0.mk ((by rw [hg];exact (below_size (by repeat (first | (with_reducible first | exact HB.out | apply below_alloc | apply pw_below_drewN | apply below_drew1) | exact HB.out))) : w.heap.size ≤ gb369));have n3_:=Aside0.mk ((by rw [hg];exact (below_size (by repeat (first | (with_reducible first | exact HB.out | apply below_alloc | apply pw_below_drewN | apply below_drew1) | exact HB.out))) : w.heap.size ≤ gb369));clear HB;have HB:=n0_;have BK369:=n1_;have GW369:=n2_;have GE369:=n3_;clear n0_ n1_ n2_ n3_;clear hb hbox hg) | ((with_reducible refine gate_dst (N:=4) rfl ?_);refine box_event ?hg (N:=4) ?hd (cs := #[.int .i64 0, .int .i64 0, .int .i64 0, .int .i64 0, .slice none 0 0, .slice none 0 0, .slice none 0 0, .slice none 0 0, .int .i64 0, .int .i64 0]) (t:=32) ?hr ?_;(case hd => rfl);(case hg => rfl);(case hr => first | (go_simp;done) | (go_simp;rfl));intro gb370 hg w41 hbox hb;have n0_:=Aside0.mk (blk_below (g:=gb369) (o := .cells #[.int .i64 a0_0, .int .i64 a0_1, .int .i64 a0_2, .int .i64 a0_3] 26 (0,0)) (by (with_reducible repeat (first | refine blk_drewN ?_ _ | refine blk_drew ?_ | refine blk_alloc ?_ _));exact BK369.out) hb);have n1_:=Aside0.mk (below_step (by repeat (first | (with_reducible first | exact HB.out | apply below_alloc | apply pw_below_drewN | apply below_drew1 | refine below_set ?_ GE369.out) | exact HB.out)) hb);have n2_:=Aside0.mk (hbox);have n3_:=Aside0.mk ((by rw [hg];exact (below_size (by repeat (first | (with_reducible first | exact HB.out | apply below_alloc | apply pw_below_drewN | apply below_drew1 | refine below_set ?_ GE369.out) | exact HB.out))) : w.heap.size ≤ gb370));have n4_:=Aside0.mk ((by rw [hg];exact (below_size (by repeat (first | (with_reducible first | exact HB.out | apply below_alloc | apply pw_below_drewN | apply below_drew1 | refine below_set ?_ GE369.out) | exact HB.out))) : w.heap.size ≤ gb370));have n5_:=Aside0.mk ((by rw [hg];exact Nat.ne_of_lt (blk_lt (g:=gb369) (o := .cells #[.int .i64 a0_0, .int .i64 a0_1, .int .i64 a0_2, .int .i64 a0_3] 26 (0,0)) (by (with_reducible repeat (first | refine blk_drewN ?_ _ | refine blk_drew ?_ | refine blk_alloc ?_ _));exact BK369.out)) : gb369 ≠ gb370));have n6_:=Aside0.mk ((by rw [hg];exact Nat.ne_of_gt (blk_lt (g:=gb369) (o := .cells #[.int .i64 a0_0, .int .i64 a0_1, .int .i64 a0_2, .int .i64 a0_3] 26 (0,0)) (by (with_reducible repeat (first | refine blk_drewN ?_ _ | refine blk_drew ?_ | refine blk_alloc ?_ _));exact BK369.out)) : gb370 ≠ gb369));clear BK369;clear HB;have BK369:=n0_;have HB:=n1_;have BK370:=n2_;have GW370:=n3_;have GE370:=n4_;have NB369_370:=n5_;have NB370_369:=n6_;clear n0_ n1_ n2_ n3_ n4_ n5_ n6_;clear hb hbox hg;have hnb42:=NB369_370.out;have hnc42:=NB370_369.out;have hcz43_0 : w41.cell? ⟨gb369,0,none⟩ = some (.int .i64 a0_0):=(blk_cell BK369.out 0).trans rfl;have hcz43_1 : w41.cell? ⟨gb369,1,none⟩ = some (.int .i64 a0_1):=(blk_cell BK369.out 1).trans rfl;have hcz43_2 : w41.cell? ⟨gb369,2,none⟩ = some (.int .i64 a0_2):=(blk_cell BK369.out 2).trans rfl;have hcz43_3 : w41.cell? ⟨gb369,3,none⟩ = some (.int .i64 a0_3):=(blk_cell BK369.out 3).trans rfl;have hfz43_0:=blk_frozen BK369.out 0;have hfz43_1:=blk_frozen BK369.out 1;have hfz43_2:=blk_frozen BK369.out 2;have hfz43_3:=blk_frozen BK369.out 3) | ((with_reducible refine gate_callee (f:=57) rfl ?_);refine goesL_ (some 9) rfl rfl Try.func57 (by kernel_rfl) rfl #[.agg #[.int .i64 a0_0, .int .i64 a0_1, .int .i64 a0_2, .int .i64 a0_3]] rfl (by (try simp only [List.map_toArray,List.map_cons,List.map_nil]);first | done | rfl | (simp only [List.length_drop,List.length_take];rfl)) ?_;(with_reducible refine (spec_l3okConfig.calls a0_0 a0_1 a0_2 a0_3 true _ A3.out).mono ?_);rintro e w44 ⟨rfl,hb⟩;refine ⟨_,rfl, ?_⟩;have n0_:=Aside0.mk (blk_below (g:=gb369) (o := .cells #[.int .i64 a0_0, .int .i64 a0_1, .int .i64 a0_2, .int .i64 a0_3] 26 (0,0)) (by (with_reducible repeat (first | refine blk_drewN ?_ _ | refine blk_drew ?_ | refine blk_alloc ?_ _));exact BK369.out) hb);have n1_:=Aside0.mk (blk_below (g:=gb370) (o := .cells #[.int .i64 0, .int .i64 0, .int .i64 0, .int .i64 0, .slice none 0 0, .slice none 0 0, .slice none 0 0, .slice none 0 0, .int .i64 0, .int .i64 0] 32 (0,0)) (by (with_reducible repeat (first | refine blk_drewN ?_ _ | refine blk_drew ?_ | refine blk_alloc ?_ _));exact BK370.out) hb);have n2_:=Aside0.mk (below_step (by repeat (first | (with_reducible first | exact HB.out | apply below_alloc | apply pw_below_drewN | apply below_drew1 | refine below_set ?_ GE369.out | refine below_set ?_ GE370.out) | exact HB.out)) hb);clear BK369;clear BK370;clear HB;have BK369:=n0_;have BK370:=n1_;have HB:=n2_;clear n0_ n1_ n2_;(try clear hb);(try clear hb2);(try clear hk);(try clear hi)) | ((with_reducible refine gate_callee (f:=58) rfl ?_);refine goesL_ (some 13) rfl rfl Try.func58 (by kernel_rfl) rfl #[.slice A1 l1.length c1] rfl (by (try simp only [List.map_toArray,List.map_cons,List.map_nil]);first | done | rfl | (simp only [List.length_drop,List.length_take];rfl)) ?_;(with_reducible refine (spec_l3okFilters.calls k _ _ l1 false _ ?side1 ?side2 A5.out).mono ?_);(case side1 => repeat (first | exact (Kd.C_below HR1.out HB.out) | (with_reducible refine Kd.C_alloc ?_ _) | (with_reducible refine Kd.C_drewN ?_ _) | (with_reducible refine Kd.C_drew ?_)));(case side2 => exact HC1.out);rintro e w' ⟨rfl,⟨nd,rfl⟩⟩;refine ⟨_,rfl, ?_⟩;(try (rw [drewN_self w44];generalize hq_ : World.drewN w44 _ = w44;have n0_ : Aside0 (w44.heap[gb369]? = some (.cells #[.int .i64 a0_0, .int .i64 a0_1, .int .i64 a0_2, .int .i64 a0_3] 26 (0,0))):=⟨by rw [← hq_];exact (by (with_reducible repeat (first | refine blk_drewN ?_ _ | refine blk_drew ?_ | refine blk_alloc ?_ _));exact BK369.out)⟩;have n1_ : Aside0 (w44.heap[gb370]? = some (.cells #[.int .i64 0, .int .i64 0, .int .i64 0, .int .i64 0, .slice none 0 0, .slice none 0 0, .slice none 0 0, .slice none 0 0, .int .i64 0, .int .i64 0] 32 (0,0))):=⟨by rw [← hq_];exact (by (with_reducible repeat (first | refine blk_drewN ?_ _ | refine blk_drew ?_ | refine blk_alloc ?_ _));exact BK370.out)⟩;have n2_ : Aside0 (Below w.heap.size w w44):=⟨by rw [← hq_];exact (by repeat (first | (with_reducible first | exact HB.out | apply below_alloc | apply pw_below_drewN | apply below_drew1 | refine below_set ?_ GE369.out | refine below_set ?_ GE370.out) | exact HB.out))⟩;clear BK369 BK370 HB hq_;have BK369:=n0_;have BK370:=n1_;have HB:=n2_;clear n0_ n1_ n2_));have hcz45_0 : w44.cell? ⟨gb370,0,none⟩ = some (.int .i64 0):=(blk_cell BK370.out 0).trans rfl;have hcz45_1 : w44.cell? ⟨gb370,1,none⟩ = some (.int .i64 0):=(blk_cell BK370.out 1).trans rfl;have hcz45_2 : w44.cell? ⟨gb370,2,none⟩ = some (.int .i64 0):=(blk_cell BK370.out 2).trans rfl;have hcz45_3 : w44.cell? ⟨gb370,3,none⟩ = some (.int .i64 0):=(blk_cell BK370.out 3).trans rfl;have hcz45_4 : w44.cell? ⟨gb370,4,none⟩ = some (.slice none 0 0):=(blk_cell BK370.out 4).trans rfl;have hcz45_5 : w44.cell? ⟨gb370,5,none⟩ = some (.slice none 0 0):=(blk_cell BK370.out 5).trans rfl;have hcz45_6 : w44.cell? ⟨gb370,6,none⟩ = some (.slice none 0 0):=(blk_cell BK370.out 6).trans rfl;have hcz45_7 : w44.cell? ⟨gb370,7,none⟩ = some (.slice none 0 0):=(blk_cell BK370.out 7).trans rfl;have hcz45_8 : w44.cell? ⟨gb370,8,none⟩ = some (.int .i64 0):=(blk_cell BK370.out 8).trans rfl;have hcz45_9 : w44.cell? ⟨gb370,9,none⟩ = some (.int .i64 0):=(blk_cell BK370.out 9).trans rfl;have hfz45_0:=blk_frozen BK370.out 0;have hfz45_1:=blk_frozen BK370.out 1;have hfz45_2:=blk_frozen BK370.out 2;have hfz45_3:=blk_frozen BK370.out 3;have hfz45_4:=blk_frozen BK370.out 4;have hfz45_5:=blk_frozen BK370.out 5;have hfz45_6:=blk_frozen BK370.out 6;have hfz45_7:=blk_frozen BK370.out 7;have hfz45_8:=blk_frozen BK370.out 8;have hfz45_9:=blk_frozen BK370.out 9))
   refine bodyPost_ret (results_ct rfl _ _ gb370 32 #[.int .i64 0, .int .i64 0, .int .i64 0, .int .i64 0, .slice none 0 0, .slice none 0 0, .slice none 0 0, .slice none 0 0, .int .i64 0, .int .i64 0] (0,0) _ rfl (by (with_reducible repeat (first | refine blk_drewN ?_ _ | refine blk_drew ?_ | refine blk_alloc ?_ _));refine blk_put (cs := #[.int .i64 0, .int .i64 0, .int .i64 0, .int .i64 0, .slice none 0 0, .slice none 0 0, .slice none 0 0, .slice none 0 0, .int .i64 0, .int .i64 0]) ?_ 9 _ rfl;(with_reducible repeat (first | refine blk_drewN ?_ _ | refine blk_drew ?_ | refine blk_alloc ?_ _));refine blk_put (cs := #[.int .i64 0, .int .i64 0, .int .i64 0, .int .i64 0, .slice none 0 0, .slice none 0 0, .slice none 0 0, .slice none 0 0, .int .i64 0, .int .i64 0]) ?_ 8 _ rfl;(with_reducible repeat (first | refine blk_drewN ?_ _ | refine blk_drew ?_ | refine blk_alloc ?_ _));refine blk_put (cs := #[.int .i64 0, .int .i64 0, .int .i64 0, .int .i64 0, .slice none 0 0, .slice none 0 0, .slice none 0 0, .slice none 0 0, .int .i64 0, .int .i64 0]) ?_ 7 _ rfl;(with_reducible repeat (first | refine blk_drewN ?_ _ | refine blk_drew ?_ | refine blk_alloc ?_ _));refine blk_put (cs := #[.int .i64 0, .int .i64 0, .int .i64 0, .int .i64 0, .slice none 0 0, .slice none 0 0, .slice none 0 0, .slice none 0 0, .int .i64 0, .int .i64 0]) ?_ 6 _ rfl;(with_reducible repeat (first | refine blk_drewN ?_ _ | refine blk_drew ?_ | refine blk_alloc ?_ _));refine blk_put (cs := #[.int .i64 0, .int .i64 0, .int .i64 0, .int .i64 0, .slice none 0 0, .slice none 0 0, .slice none 0 0, .slice none 0 0, .int .i64 0, .int .i64 0]) ?_ 5 _ rfl;(with_reducible repeat (first | refine blk_drewN ?_ _ | refine blk_drew ?_ | refine blk_alloc ?_ _));refine blk_put (cs := #[.int .i64 0, .int .i64 0, .int .i64 0, .int .i64 0, .slice none 0 0, .slice none 0 0, .slice none 0 0, .slice none 0 0, .int .i64 0, .int .i64 0]) ?_ 4 _ rfl;(with_reducible repeat (first | refine blk_drewN ?_ _ | refine blk_drew ?_ | refine blk_alloc ?_ _));refine blk_put (cs := #[.int .i64 0, .int .i64 0, .int .i64 0, .int .i64 0, .slice none 0 0, .slice none 0 0, .slice none 0 0, .slice none 0 0, .int .i64 0, .int .i64 0]) ?_ 3 _ rfl;(with_reducible repeat (first | refine blk_drewN ?_ _ | refine blk_drew ?_ | refine blk_alloc ?_ _));refine blk_put (cs := #[.int .i64 0, .int .i64 0, .int .i64 0, .int .i64 0, .slice none 0 0, .slice none 0 0, .slice none 0 0, .slice none 0 0, .int .i64 0, .int .i64 0]) ?_ 2 _ rfl;(with_reducible repeat (first | refine blk_drewN ?_ _ | refine blk_drew ?_ | refine blk_alloc ?_ _));refine blk_put (cs := #[.int .i64 0, .int .i64 0, .int .i64 0, .int .i64 0, .slice none 0 0, .slice none 0 0, .slice none 0 0, .slice none 0 0, .int .i64 0, .int .i64 0]) ?_ 1 _ rfl;(with_reducible repeat (first | refine blk_drewN ?_ _ | refine blk_drew ?_ | refine blk_alloc ?_ _));refine blk_put (cs := #[.int .i64 0, .int .i64 0, .int .i64 0, .int .i64 0, .slice none 0 0, .slice none 0 0, .slice none 0 0, .slice none 0 0, .int .i64 0, .int .i64 0]) ?_ 0 _ rfl;(with_reducible repeat (first | refine blk_drewN ?_ _ | refine blk_drew ?_ | refine blk_alloc ?_ _));exact BK370.out) Try.underlying32 rfl (by kernel_rfl)) rfl ?_
   exact ⟨_,_,_,_,by first | rfl | (simp [errW_none,errW_some] <;> rfl) | (simp [*,errW_none,errW_some] <;> rfl),by first | exact Kd.R_nil _ _ _ _ _ | exact Kd.N_nil _ _ _ _ _ | exact Kd.V_nil _ _ _ _ _ | exact Kd.Q_nil _ _ _ _ _ | exact Kd.S_nil _ _ _ _ _,by first | exact Kd.S_nil _ _ _ _ _ | exact Kd.N_nil _ _ _ _ _ | exact Kd.V_nil _ _ _ _ _ | exact Kd.Q_nil _ _ _ _ _ | exact Kd.R_nil _ _ _ _ _,by first | exact Kd.S_nil _ _ _ _ _ | exact Kd.N_nil _ _ _ _ _ | exact Kd.V_nil _ _ _ _ _ | exact Kd.Q_nil _ _ _ _ _ | exact Kd.R_nil _ _ _ _ _,by first | exact Kd.S_nil _ _ _ _ _ | exact Kd.N_nil _ _ _ _ _ | exact Kd.V_nil _ _ _ _ _ | exact Kd.Q_nil _ _ _ _ _ | exact Kd.R_nil _ _ _ _ _,by repeat (first | (with_reducible first | exact HB.out | apply below_alloc | apply pw_below_drewN | apply below_drew1 | refine below_set ?_ GE369.out | refine below_set ?_ GE370.out) | exact HB.out)⟩
 ·replace c4:=Bool.eq_false_iff.mpr c4
  subst c4
  have H1 : (some (0,0,0,0,([] : List (S89)),([] : List (S87)),([] : List (S45)),([] : List (S56)),0,0,1)) = some (r1,r2,r3,r4,r5,r6,r7,r8,r9,r10,r11):=by rw [if_neg (show ¬ (false = true) by decide)] at H;exact H
  clear H
  have H:=H1
  clear H1
  simp only [Option.some.injEq,Prod.mk.injEq] at H
  obtain ⟨rfl,rfl,rfl,rfl,rfl,rfl,rfl,rfl,rfl,rfl,rfl⟩:=H
  go_enter Try.func15,Try.ntmps15
  go_wp2_with (first | ((with_reducible refine gate_dst (N:=2) rfl ?_);refine box_event ?hg (N:=2) ?hd (cs := #[.int .i64 a0_0, .int .i64 a0_1, .int .i64 a0_2, .int .i64 a0_3]) (t:=26) ?hr ?_;(case hd => rfl);(case hg => rfl);(case hr => first | (go_simp;done) | (go_simp;rfl));intro gb369 hg w46 hbox hb;have n0_:=Aside0.mk (below_step (by repeat (first | (with_reducible first | exact HB.out | apply below_alloc | apply pw_below_drewN | apply below_drew1) | exact HB.out)) hb);have n1_:=Aside0.mk (hbox);have n2_:=Aside0.mk ((by rw [hg];exact (below_size (by repeat (first | (with_reducible first | exact HB.out | apply below_alloc | apply pw_below_drewN | apply below_drew1) | exact HB.out))) : w.heap.size ≤ gb369));have n3_:=Aside0.mk ((by rw [hg];exact (below_size (by repeat (first | (with_reducible first | exact HB.out | apply below_alloc | apply pw_below_drewN | apply below_drew1) | exact HB.out))) : w.heap.size ≤ gb369));clear HB;have HB:=n0_;have BK369:=n1_;have GW369:=n2_;have GE369:=n3_;clear n0_ n1_ n2_ n3_;clear hb hbox hg) | ((with_reducible refine gate_dst (N:=4) rfl ?_);refine box_event ?hg (N:=4) ?hd (cs := #[.int .i64 0, .int .i64 0, .int .i64 0, .int .i64 0, .slice none 0 0, .slice none 0 0, .slice none 0 0, .slice none 0 0, .int .i64 0, .int .i64 0]) (t:=32) ?hr ?_;(case hd => rfl);(case hg => rfl);(case hr => first | (go_simp;done) | (go_simp;rfl));intro gb370 hg w47 hbox hb;have n0_:=Aside0.mk (blk_below (g:=gb369) (o := .cells #[.int .i64 a0_0, .int .i64 a0_1, .int .i64 a0_2, .int .i64 a0_3] 26 (0,0)) (by (with_reducible repeat (first | refine blk_drewN ?_ _ | refine blk_drew ?_ | refine blk_alloc ?_ _));exact BK369.out) hb);have n1_:=Aside0.mk (below_step (by repeat (first | (with_reducible first | exact HB.out | apply below_alloc | apply pw_below_drewN | apply below_drew1 | refine below_set ?_ GE369.out) | exact HB.out)) hb);have n2_:=Aside0.mk (hbox);have n3_:=Aside0.mk ((by rw [hg];exact (below_size (by repeat (first | (with_reducible first | exact HB.out | apply below_alloc | apply pw_below_drewN | apply below_drew1 | refine below_set ?_ GE369.out) | exact HB.out))) : w.heap.size ≤ gb370));have n4_:=Aside0.mk ((by rw [hg];exact (below_size (by repeat (first | (with_reducible first | exact HB.out | apply below_alloc | apply pw_below_drewN | apply below_drew1 | refine below_set ?_ GE369.out) | exact HB.out))) : w.heap.size ≤ gb370));have n5_:=Aside0.mk ((by rw [hg];exact Nat.ne_of_lt (blk_lt (g:=gb369) (o := .cells #[.int .i64 a0_0, .int .i64 a0_1, .int .i64 a0_2, .int .i64 a0_3] 26 (0,0)) (by (with_reducible repeat (first | refine blk_drewN ?_ _ | refine blk_drew ?_ | refine blk_alloc ?_ _));exact BK369.out)) : gb369 ≠ gb370));have n6_:=Aside0.mk ((by rw [hg];exact Nat.ne_of_gt (blk_lt (g:=gb369) (o := .cells #[.int .i64 a0_0, .int .i64 a0_1, .int .i64 a0_2, .int .i64 a0_3] 26 (0,0)) (by (with_reducible repeat (first | refine blk_drewN ?_ _ | refine blk_drew ?_ | refine blk_alloc ?_ _));exact BK369.out)) : gb370 ≠ gb369));clear BK369;clear HB;have BK369:=n0_;have HB:=n1_;have BK370:=n2_;have GW370:=n3_;have GE370:=n4_;have NB369_370:=n5_;have NB370_369:=n6_;clear n0_ n1_ n2_ n3_ n4_ n5_ n6_;clear hb hbox hg;have hnb48:=NB369_370.out;have hnc48:=NB370_369.out;have hcz49_0 : w47.cell? ⟨gb369,0,none⟩ = some (.int .i64 a0_0):=(blk_cell BK369.out 0).trans rfl;have hcz49_1 : w47.cell? ⟨gb369,1,none⟩ = some (.int .i64 a0_1):=(blk_cell BK369.out 1).trans rfl;have hcz49_2 : w47.cell? ⟨gb369,2,none⟩ = some (.int .i64 a0_2):=(blk_cell BK369.out 2).trans rfl;have hcz49_3 : w47.cell? ⟨gb369,3,none⟩ = some (.int .i64 a0_3):=(blk_cell BK369.out 3).trans rfl;have hfz49_0:=blk_frozen BK369.out 0;have hfz49_1:=blk_frozen BK369.out 1;have hfz49_2:=blk_frozen BK369.out 2;have hfz49_3:=blk_frozen BK369.out 3) | ((with_reducible refine gate_callee (f:=57) rfl ?_);refine goesL_ (some 9) rfl rfl Try.func57 (by kernel_rfl) rfl #[.agg #[.int .i64 a0_0, .int .i64 a0_1, .int .i64 a0_2, .int .i64 a0_3]] rfl (by (try simp only [List.map_toArray,List.map_cons,List.map_nil]);first | done | rfl | (simp only [List.length_drop,List.length_take];rfl)) ?_;(with_reducible refine (spec_l3okConfig.calls a0_0 a0_1 a0_2 a0_3 false _ A3.out).mono ?_);rintro e w50 ⟨rfl,hb⟩;refine ⟨_,rfl, ?_⟩;have n0_:=Aside0.mk (blk_below (g:=gb369) (o := .cells #[.int .i64 a0_0, .int .i64 a0_1, .int .i64 a0_2, .int .i64 a0_3] 26 (0,0)) (by (with_reducible repeat (first | refine blk_drewN ?_ _ | refine blk_drew ?_ | refine blk_alloc ?_ _));exact BK369.out) hb);have n1_:=Aside0.mk (blk_below (g:=gb370) (o := .cells #[.int .i64 0, .int .i64 0, .int .i64 0, .int .i64 0, .slice none 0 0, .slice none 0 0, .slice none 0 0, .slice none 0 0, .int .i64 0, .int .i64 0] 32 (0,0)) (by (with_reducible repeat (first | refine blk_drewN ?_ _ | refine blk_drew ?_ | refine blk_alloc ?_ _));exact BK370.out) hb);have n2_:=Aside0.mk (below_step (by repeat (first | (with_reducible first | exact HB.out | apply below_alloc | apply pw_below_drewN | apply below_drew1 | refine below_set ?_ GE369.out | refine below_set ?_ GE370.out) | exact HB.out)) hb);clear BK369;clear BK370;clear HB;have BK369:=n0_;have BK370:=n1_;have HB:=n2_;clear n0_ n1_ n2_;(try clear hb);(try clear hb2);(try clear hk);(try clear hi);have hcz51_0 : w50.cell? ⟨gb370,0,none⟩ = some (.int .i64 0):=(blk_cell BK370.out 0).trans rfl;have hcz51_1 : w50.cell? ⟨gb370,1,none⟩ = some (.int .i64 0):=(blk_cell BK370.out 1).trans rfl;have hcz51_2 : w50.cell? ⟨gb370,2,none⟩ = some (.int .i64 0):=(blk_cell BK370.out 2).trans rfl;have hcz51_3 : w50.cell? ⟨gb370,3,none⟩ = some (.int .i64 0):=(blk_cell BK370.out 3).trans rfl;have hcz51_4 : w50.cell? ⟨gb370,4,none⟩ = some (.slice none 0 0):=(blk_cell BK370.out 4).trans rfl;have hcz51_5 : w50.cell? ⟨gb370,5,none⟩ = some (.slice none 0 0):=(blk_cell BK370.out 5).trans rfl;have hcz51_6 : w50.cell? ⟨gb370,6,none⟩ = some (.slice none 0 0):=(blk_cell BK370.out 6).trans rfl;have hcz51_7 : w50.cell? ⟨gb370,7,none⟩ = some (.slice none 0 0):=(blk_cell BK370.out 7).trans rfl;have hcz51_8 : w50.cell? ⟨gb370,8,none⟩ = some (.int .i64 0):=(blk_cell BK370.out 8).trans rfl;have hcz51_9 : w50.cell? ⟨gb370,9,none⟩ = some (.int .i64 0):=(blk_cell BK370.out 9).trans rfl;have hfz51_0:=blk_frozen BK370.out 0;have hfz51_1:=blk_frozen BK370.out 1;have hfz51_2:=blk_frozen BK370.out 2;have hfz51_3:=blk_frozen BK370.out 3;have hfz51_4:=blk_frozen BK370.out 4;have hfz51_5:=blk_frozen BK370.out 5;have hfz51_6:=blk_frozen BK370.out 6;have hfz51_7:=blk_frozen BK370.out 7;have hfz51_8:=blk_frozen BK370.out 8;have hfz51_9:=blk_frozen BK370.out 9))
  refine bodyPost_ret (results_ct rfl _ _ gb370 32 #[.int .i64 0, .int .i64 0, .int .i64 0, .int .i64 0, .slice none 0 0, .slice none 0 0, .slice none 0 0, .slice none 0 0, .int .i64 0, .int .i64 0] (0,0) _ rfl (by (with_reducible repeat (first | refine blk_drewN ?_ _ | refine blk_drew ?_ | refine blk_alloc ?_ _));refine blk_put (cs := #[.int .i64 0, .int .i64 0, .int .i64 0, .int .i64 0, .slice none 0 0, .slice none 0 0, .slice none 0 0, .slice none 0 0, .int .i64 0, .int .i64 0]) ?_ 9 _ rfl;(with_reducible repeat (first | refine blk_drewN ?_ _ | refine blk_drew ?_ | refine blk_alloc ?_ _));refine blk_put (cs := #[.int .i64 0, .int .i64 0, .int .i64 0, .int .i64 0, .slice none 0 0, .slice none 0 0, .slice none 0 0, .slice none 0 0, .int .i64 0, .int .i64 0]) ?_ 8 _ rfl;(with_reducible repeat (first | refine blk_drewN ?_ _ | refine blk_drew ?_ | refine blk_alloc ?_ _));refine blk_put (cs := #[.int .i64 0, .int .i64 0, .int .i64 0, .int .i64 0, .slice none 0 0, .slice none 0 0, .slice none 0 0, .slice none 0 0, .int .i64 0, .int .i64 0]) ?_ 7 _ rfl;(with_reducible repeat (first | refine blk_drewN ?_ _ | refine blk_drew ?_ | refine blk_alloc ?_ _));refine blk_put (cs := #[.int .i64 0, .int .i64 0, .int .i64 0, .int .i64 0, .slice none 0 0, .slice none 0 0, .slice none 0 0, .slice none 0 0, .int .i64 0, .int .i64 0]) ?_ 6 _ rfl;(with_reducible repeat (first | refine blk_drewN ?_ _ | refine blk_drew ?_ | refine blk_alloc ?_ _));refine blk_put (cs := #[.int .i64 0, .int .i64 0, .int .i64 0, .int .i64 0, .slice none 0 0, .slice none 0 0, .slice none 0 0, .slice none 0 0, .int .i64 0, .int .i64 0]) ?_ 5 _ rfl;(with_reducible repeat (first | refine blk_drewN ?_ _ | refine blk_drew ?_ | refine blk_alloc ?_ _));refine blk_put (cs := #[.int .i64 0, .int .i64 0, .int .i64 0, .int .i64 0, .slice none 0 0, .slice none 0 0, .slice none 0 0, .slice none 0 0, .int .i64 0, .int .i64 0]) ?_ 4 _ rfl;(with_reducible repeat (first | refine blk_drewN ?_ _ | refine blk_drew ?_ | refine blk_alloc ?_ _));refine blk_put (cs := #[.int .i64 0, .int .i64 0, .int .i64 0, .int .i64 0, .slice none 0 0, .slice none 0 0, .slice none 0 0, .slice none 0 0, .int .i64 0, .int .i64 0]) ?_ 3 _ rfl;(with_reducible repeat (first | refine blk_drewN ?_ _ | refine blk_drew ?_ | refine blk_alloc ?_ _));refine blk_put (cs := #[.int .i64 0, .int .i64 0, .int .i64 0, .int .i64 0, .slice none 0 0, .slice none 0 0, .slice none 0 0, .slice none 0 0, .int .i64 0, .int .i64 0]) ?_ 2 _ rfl;(with_reducible repeat (first | refine blk_drewN ?_ _ | refine blk_drew ?_ | refine blk_alloc ?_ _));refine blk_put (cs := #[.int .i64 0, .int .i64 0, .int .i64 0, .int .i64 0, .slice none 0 0, .slice none 0 0, .slice none 0 0, .slice none 0 0, .int .i64 0, .int .i64 0]) ?_ 1 _ rfl;(with_reducible repeat (first | refine blk_drewN ?_ _ | refine blk_drew ?_ | refine blk_alloc ?_ _));refine blk_put (cs := #[.int .i64 0, .int .i64 0, .int .i64 0, .int .i64 0, .slice none 0 0, .slice none 0 0, .slice none 0 0, .slice none 0 0, .int .i64 0, .int .i64 0]) ?_ 0 _ rfl;(with_reducible repeat (first | refine blk_drewN ?_ _ | refine blk_drew ?_ | refine blk_alloc ?_ _));exact BK370.out) Try.underlying32 rfl (by kernel_rfl)) rfl ?_
  exact ⟨_,_,_,_,by first | rfl | (simp [errW_none,errW_some] <;> rfl) | (simp [*,errW_none,errW_some] <;> rfl),by first | exact Kd.R_nil _ _ _ _ _ | exact Kd.N_nil _ _ _ _ _ | exact Kd.V_nil _ _ _ _ _ | exact Kd.Q_nil _ _ _ _ _ | exact Kd.S_nil _ _ _ _ _,by first | exact Kd.S_nil _ _ _ _ _ | exact Kd.N_nil _ _ _ _ _ | exact Kd.V_nil _ _ _ _ _ | exact Kd.Q_nil _ _ _ _ _ | exact Kd.R_nil _ _ _ _ _,by first | exact Kd.S_nil _ _ _ _ _ | exact Kd.N_nil _ _ _ _ _ | exact Kd.V_nil _ _ _ _ _ | exact Kd.Q_nil _ _ _ _ _ | exact Kd.R_nil _ _ _ _ _,by first | exact Kd.S_nil _ _ _ _ _ | exact Kd.N_nil _ _ _ _ _ | exact Kd.V_nil _ _ _ _ _ | exact Kd.Q_nil _ _ _ _ _ | exact Kd.R_nil _ _ _ _ _,by repeat (first | (with_reducible first | exact HB.out | apply below_alloc | apply pw_below_drewN | apply below_drew1 | refine below_set ?_ GE369.out | refine below_set ?_ GE370.out) | exact HB.out)⟩
end Go.Proofs.Ytcaefabbcjlkdaa.P
namespace Go.Proofs.Ytcaefabbcjlkdaa.P
open Go Go.RowKit Go.Proofs.YtcaefabbcjlkdaaW.PrintWords Go.Proofs.YtcaefabbcjlkdaaW.PrintLast Go.Proofs.YtcaefabbcjlkdaaW.PrintMore
set_option linter.unusedVariables false
theorem takeD_next {α : Type} (l : List α) (i : Nat) (z : α) (h : i < l.length) : l.take i ++ [l.getD (i : Int).toNat z] = l.take (i + 1):=by
 rw [List.take_add_one,getD_at l i z h];rfl
theorem specCopyFrame_ev (x : S45) (h : x.f4.length ≤ 10000000) : Ev (fun k => spec_l1copyFrame.f k x.f0 x.f1 x.f2 x.f3 x.f4) (x.f0,x.f1,x.f2,x.f3,x.f4):=by
 have loop : ∀ (d i : Nat),i + d = x.f4.length → Ev (fun k => spec_l1copyFrame.l0 k (x.f4.take i) (i : Int) x.f0 x.f1 x.f2 x.f3 x.f4) (x.f0,x.f1,x.f2,x.f3,x.f4):=by
  intro d
  induction d with
  | zero =>
   intro i hi
   refine Ev.step (f:=fun _ => some (x.f0,x.f1,x.f2,x.f3,x.f4)) (fun k => ?_) (Ev.now _)
   simp only [spec_l1copyFrame.l0]
   rw [if_neg (by omega),List.take_of_length_le (by omega)]
  | succ d ih =>
   intro i hi
   refine Ev.step (f:=fun k => spec_l1copyFrame.l0 k (x.f4.take (i + 1)) ((i + 1 : Nat) : Int) x.f0 x.f1 x.f2 x.f3 x.f4) (fun k => ?_) (ih (i + 1) (by omega))
   simp only [spec_l1copyFrame.l0]
   have ht : x.f4.take i ++ [rd x.f4 (i : Int)] = x.f4.take (i + 1):=by
    have hg:=rd_get x.f4 i (by omega)
    rw [List.take_add_one,hg];rfl
   rw [if_pos (by omega),if_pos (by omega),if_pos (by rw [List.length_take];omega),ht,w64 (x:=(i : Int) + 1) (by omega) (by omega)]
   rfl
 exact Ev.congr (fun k => by unfold spec_l1copyFrame.f;rfl) (by have:=loop x.f4.length 0 (by omega);simpa using this)
theorem specCopyEvents_ev (l : List S56) (hl : l.length ≤ 10000000) (hd : ∀ x ∈ l,x.f3.f4.length ≤ 10000000) : Ev (fun k => spec_l3copyEvents.f k l) l:=by
 have loop : ∀ (d i : Nat),i + d = l.length → Ev (fun k => spec_l3copyEvents.l0 k l (l.take i) (i : Int)) l:=by
  intro d
  induction d with
  | zero =>
   intro i hi
   refine Ev.step (f:=fun _ => some l) (fun k => ?_) (Ev.now _)
   simp only [spec_l3copyEvents.l0]
   rw [if_neg (by omega),List.take_of_length_le (by omega)]
  | succ d ih =>
   intro i hi
   have one:=specCopyFrame_ev (rd_T56 l (i : Int)).f3 (hd _ (List.mem_of_getElem? (getD_at l i z56 (by omega))))
   refine Ev.step (fun k => by simp only [spec_l3copyEvents.l0];rw [if_pos (by omega),if_pos (by omega)];try rfl) (Ev.bind one ?_)
   have hw : wrap64 ((i : Int) + 1) = ((i + 1 : Nat) : Int):=by rw [w64 (by omega) (by omega)];rfl
   refine ev_pos (by rw [List.length_take];omega) ?_
   have e:=takeD_next l i z56 (by omega)
   refine Ev.congr (fun k => ?_) (ih (i + 1) (by omega))
   rw [hw, ← e];rfl
 exact Ev.congr (fun k => by unfold spec_l3copyEvents.f;rfl) (by have:=loop l.length 0 (by omega);simpa using this)
theorem specCopy_ev (a b c d : Int) (fs : List S89) (bs : List S87) (fr : List S45) (ev : List S56) (x y : Int) (l1 : fs.length ≤ 10000000) (l2 : bs.length ≤ 10000000) (l3 : fr.length ≤ 10000000) (l4 : ev.length ≤ 10000000) (d2 : ∀ x ∈ bs,x.f3.f4.length ≤ 10000000) (d3 : ∀ x ∈ fr,x.f4.length ≤ 10000000) (d4 : ∀ x ∈ ev,x.f3.f4.length ≤ 10000000) :
  Ev (fun k => spec_l3copy.f k a b c d fs bs fr ev x y) (a,b,c,d,fs,bs,fr,ev,x,y):=by
 have loop2 : ∀ (e i : Nat),i + e = fr.length → Ev (fun k => spec_l3copy.l2 k (i : Int) a b c d fs bs fr ev x y a b c d fs bs (fr.take i) ev x y) (a,b,c,d,fs,bs,fr,ev,x,y):=by
  intro e
  induction e with
  | zero =>
   intro i hi
   refine Ev.step (fun k => by simp only [spec_l3copy.l2];rw [if_neg (by omega)];try rfl) (Ev.bind (specCopyEvents_ev ev l4 d4) ?_)
   rw [List.take_of_length_le (by omega)]
   exact Ev.now _
  | succ e ih =>
   intro i hi
   have one:=specCopyFrame_ev (rd_T45 fr (i : Int)) (d3 _ (List.mem_of_getElem? (getD_at fr i z45 (by omega))))
   refine Ev.step (fun k => by simp only [spec_l3copy.l2];rw [if_pos (by omega),if_pos (by omega)];try rfl) (Ev.bind one ?_)
   have hw : wrap64 ((i : Int) + 1) = ((i + 1 : Nat) : Int):=by rw [w64 (by omega) (by omega)];rfl
   refine ev_pos (by rw [List.length_take];omega) ?_
   have e:=takeD_next fr i z45 (by omega)
   refine Ev.congr (fun k => ?_) (ih (i + 1) (by omega))
   rw [hw, ← e];rfl
 have loop1 : ∀ (e i : Nat),i + e = bs.length → Ev (fun k => spec_l3copy.l1 k (i : Int) a b c d fs bs fr ev x y a b c d fs (bs.take i) fr ev x y) (a,b,c,d,fs,bs,fr,ev,x,y):=by
  intro e
  induction e with
  | zero =>
   intro i hi
   have h2:=loop2 fr.length 0 (by omega)
   refine Ev.step (fun k => by simp only [spec_l3copy.l1];rw [if_neg (by omega)];try rfl) (Ev.congr (fun k => ?_) h2)
   rw [List.take_of_length_le (l:=bs) (by omega),List.take_zero];rfl
  | succ e ih =>
   intro i hi
   have one:=specCopyFrame_ev (rd_T87 bs (i : Int)).f3 (d2 _ (List.mem_of_getElem? (getD_at bs i z87 (by omega))))
   have one' : Ev (fun k => spec_l3copyBox.f k (rd_T87 bs (i : Int)).f0 (rd_T87 bs (i : Int)).f1 (rd_T87 bs (i : Int)).f2 (rd_T87 bs (i : Int)).f3.f0 (rd_T87 bs (i : Int)).f3.f1 (rd_T87 bs (i : Int)).f3.f2 (rd_T87 bs (i : Int)).f3.f3 (rd_T87 bs (i : Int)).f3.f4) ((rd_T87 bs (i : Int)).f0,(rd_T87 bs (i : Int)).f1,(rd_T87 bs (i : Int)).f2,(rd_T87 bs (i : Int)).f3.f0,(rd_T87 bs (i : Int)).f3.f1,(rd_T87 bs (i : Int)).f3.f2,(rd_T87 bs (i : Int)).f3.f3,(rd_T87 bs (i : Int)).f3.f4):=by
    unfold spec_l3copyBox.f
    exact Ev.bind one (Ev.now _)
   refine Ev.step (fun k => by simp only [spec_l3copy.l1];rw [if_pos (by omega),if_pos (by omega)];try rfl) (Ev.bind one' ?_)
   have hw : wrap64 ((i : Int) + 1) = ((i + 1 : Nat) : Int):=by rw [w64 (by omega) (by omega)];rfl
   refine ev_pos (by rw [List.length_take];omega) ?_
   have e:=takeD_next bs i z87 (by omega)
   refine Ev.congr (fun k => ?_) (ih (i + 1) (by omega))
   rw [hw, ← e];rfl
 have loop0 : ∀ (e i : Nat),i + e = fs.length → Ev (fun k => spec_l3copy.l0 k (i : Int) a b c d fs bs fr ev x y a b c d (fs.take i) bs fr ev x y) (a,b,c,d,fs,bs,fr,ev,x,y):=by
  intro e
  induction e with
  | zero =>
   intro i hi
   have h2:=loop1 bs.length 0 (by omega)
   refine Ev.step (fun k => by simp only [spec_l3copy.l0];rw [if_neg (by omega)];try rfl) (Ev.congr (fun k => ?_) h2)
   rw [List.take_of_length_le (l:=fs) (by omega),List.take_zero];rfl
  | succ e ih =>
   intro i hi
   have hw : wrap64 ((i : Int) + 1) = ((i + 1 : Nat) : Int):=by rw [w64 (by omega) (by omega)];rfl
   have e:=takeD_next fs i z89 (by omega)
   refine Ev.step (f:=fun k => spec_l3copy.l0 k ((i + 1 : Nat) : Int) a b c d fs bs fr ev x y a b c d (fs.take (i + 1)) bs fr ev x y) (fun k => ?_) (ih (i + 1) (by omega))
   simp only [spec_l3copy.l0]
   rw [if_pos (by omega),if_pos (by omega),if_pos (by rw [List.length_take];omega),hw, ← e]
   rfl
 exact Ev.congr (fun k => by unfold spec_l3copy.f;rfl) (by have:=loop0 fs.length 0 (by omega);simpa using this)
theorem mx_ge (a b t : Int) : mx a b ≥ t ↔ (a ≥ t ∨ b ≥ t):=by unfold mx;split <;> omega
theorem filters_ev (l : List S89) (hl : l.length ≤ 10000000) : ∃ o,Ev (fun k => impl_goodFilters.f k l) o ∧ Ev (fun k => spec_l3okFilters.f k l) o:=by
 by_cases c : (l.length : Int) > 16
 ·refine ⟨false,Ev.congr (fun k => by unfold impl_goodFilters.f;rw [if_pos c]) (Ev.now _),Ev.congr (fun k => by unfold spec_l3okFilters.f;rw [if_pos c]) (Ev.now _)⟩
 have loop : ∀ (d i : Nat),i + d = l.length → ∃ o,Ev (fun k => impl_goodFilters.l0 k l (l.length : Int) (i : Int)) o ∧ Ev (fun k => spec_l3okFilters.l0 k l (i : Int)) o:=by
  intro d
  induction d with
  | zero =>
   intro i hi
   exact ⟨true,Ev.step (f:=fun _ => some true) (fun k => by simp only [impl_goodFilters.l0];rw [if_neg (by omega)]) (Ev.now _),Ev.step (f:=fun _ => some true) (fun k => by simp only [spec_l3okFilters.l0];rw [if_neg (by omega)]) (Ev.now _)⟩
  | succ d ih =>
   intro i hi
   obtain ⟨o,h1,h2⟩:=ih (i + 1) (by omega)
   have hw : wrap64 ((i : Int) + 1) = ((i + 1 : Nat) : Int):=by rw [w64 (by omega) (by omega)];rfl
   have one : ∀ t : Int,(mx (rd_T89 l (i : Int)).f1 (rd_T89 l (i : Int)).f2 ≥ t → (rd_T89 l (i : Int)).f1 ≥ t ∨ (¬ (rd_T89 l (i : Int)).f1 ≥ t ∧ (rd_T89 l (i : Int)).f2 ≥ t)) ∧ (¬ mx (rd_T89 l (i : Int)).f1 (rd_T89 l (i : Int)).f2 ≥ t → ¬ (rd_T89 l (i : Int)).f1 ≥ t ∧ ¬ (rd_T89 l (i : Int)).f2 ≥ t):=fun t => by rw [mx_ge];omega
   have main : ∀ t : Int, ∃ o',Ev (fun k => if mx (rd_T89 l (i : Int)).f1 (rd_T89 l (i : Int)).f2 ≥ t then some false else impl_goodFilters.l0 k l (l.length : Int) ((i + 1 : Nat) : Int)) o' ∧ Ev (fun k => if (rd_T89 l (i : Int)).f1 ≥ t then some false else if (rd_T89 l (i : Int)).f2 ≥ t then some false else spec_l3okFilters.l0 k l ((i + 1 : Nat) : Int)) o':=by
    intro t
    by_cases q : mx (rd_T89 l (i : Int)).f1 (rd_T89 l (i : Int)).f2 ≥ t
    ·refine ⟨false,ev_pos q (Ev.now _), ?_⟩
     rcases (one t).1 q with g | ⟨g,g'⟩
     ·exact ev_pos g (Ev.now _)
     ·exact ev_neg g (ev_pos g' (Ev.now _))
    ·obtain ⟨g,g'⟩:=(one t).2 q
     exact ⟨o,ev_neg q h1,ev_neg g (ev_neg g' h2)⟩
   by_cases e : (rd_T89 l (i : Int)).f0 = true
   ·obtain ⟨o',g1,g2⟩:=main 536870912
    exact ⟨o',Ev.step (fun k => by simp only [impl_goodFilters.l0];rw [if_pos (by omega),if_pos (by omega),if_pos (by omega),if_pos e,hw]) g1,Ev.step (fun k => by simp only [spec_l3okFilters.l0];rw [if_pos (by omega),if_pos (by omega),if_pos e,hw]) g2⟩
   ·obtain ⟨o',g1,g2⟩:=main 2048
    exact ⟨o',Ev.step (fun k => by simp only [impl_goodFilters.l0];rw [if_pos (by omega),if_pos (by omega),if_pos (by omega),if_neg e,hw]) g1,Ev.step (fun k => by simp only [spec_l3okFilters.l0];rw [if_pos (by omega),if_pos (by omega),if_neg e,hw]) g2⟩
 obtain ⟨o,h1,h2⟩:=loop l.length 0 (by omega)
 exact ⟨o,Ev.congr (fun k => by unfold impl_goodFilters.f;rw [if_neg c];rfl) h1,Ev.congr (fun k => by unfold spec_l3okFilters.f;rw [if_neg c];rfl) h2⟩
theorem config_ev (a b c d : Int) : ∃ o,impl_goodConfig.f a b c d = some o ∧ spec_l3okConfig.f a b c d = some o:=by
 have e : spec_l3okConfig.f a b c d = impl_goodConfig.f a b c d:=rfl
 rw [e]
 have : ∃ o,impl_goodConfig.f a b c d = some o:=by
  unfold impl_goodConfig.f
  repeat' split
  all_goals exact ⟨_,rfl⟩
 obtain ⟨o,h⟩:=this
 exact ⟨o,h,h⟩
theorem specNewHost_ev (a b c d : Int) (fs : List S89) (o1 o2 : Bool) (hl : fs.length ≤ 10000000) (h1 : impl_goodConfig.f a b c d = some o1) (h2 : Ev (fun k => spec_l3okFilters.f k fs) o2) :
  Ev (fun k => spec_NewHost.f k a b c d fs) ((nhV o1 o2 a b c d fs).cb,(nhV o1 o2 a b c d fs).cf,(nhV o1 o2 a b c d fs).cp,(nhV o1 o2 a b c d fs).ce,(nhV o1 o2 a b c d fs).fs,(nhV o1 o2 a b c d fs).bs,(nhV o1 o2 a b c d fs).fr,(nhV o1 o2 a b c d fs).ev,(nhV o1 o2 a b c d fs).lost,(nhV o1 o2 a b c d fs).stamp,nhCode o1 o2):=by
 have hc : spec_l3okConfig.f a b c d = some o1:=h1
 unfold spec_NewHost.f
 simp only [hc,Option.bind_some]
 cases o1 with
 | false => exact ev_neg (by simp) (Ev.now _)
 | true =>
  refine ev_pos rfl (Ev.bind h2 ?_)
  cases o2 with
  | false => exact ev_neg (by simp) (Ev.now _)
  | true =>
   refine ev_pos rfl ?_
   have hb:=goodConfig_is h1
   have loop : ∀ (e i : Nat),i + e = a.toNat → Ev (fun k => spec_NewHost.l0 k (i : Int) a b c d a b c d fs (List.replicate i z87) 0 0) (a,b,c,d,fs,List.replicate a.toNat z87, [], [],0,0,0):=by
    intro e
    induction e with
    | zero =>
     intro i hi
     have h3:=specCopy_ev a b c d fs (List.replicate i z87) [] [] 0 0 hl (by simp;omega) (by simp) (by simp) (fun x hx => by rw [(List.mem_replicate.1 hx).2];decide) (by simp) (by simp)
     refine Ev.step (fun k => by simp only [spec_NewHost.l0];rw [if_neg (by omega)];try rfl) (Ev.bind h3 ?_)
     rw [show i = a.toNat by omega]
     exact Ev.now _
    | succ e ih =>
     intro i hi
     have hw : wrap64 ((i : Int) + 1) = ((i + 1 : Nat) : Int):=by rw [w64 (by omega) (by omega)];rfl
     refine Ev.step (f:=fun k => spec_NewHost.l0 k ((i + 1 : Nat) : Int) a b c d a b c d fs (List.replicate (i + 1) z87) 0 0) (fun k => ?_) (ih (i + 1) (by omega))
     simp only [spec_NewHost.l0]
     rw [if_pos (by omega),if_pos (by simp;omega),hw,List.replicate_succ']
     rfl
   exact loop a.toNat 0 (by omega)
end Go.Proofs.Ytcaefabbcjlkdaa.P
namespace Go.Proofs.Ytcaefabbcjlkdaa.P
open Go.RowKit Go.Proofs.YtcaefabbcjlkdaaW.PrintWords Go.Proofs.YtcaefabbcjlkdaaW.PrintLast Go.Proofs.YtcaefabbcjlkdaaW.PrintMore
set_option linter.unusedVariables false
set_option linter.unusedSimpArgs false
def laws_markByteS.l0 : Nat → List Int → Int → Int → Option (Int × List Int)
 | 0,_,_,_ => none
 | k + 1,x0,x1,x5 => if x5 < (x0.length : Int) then (if 0 ≤ x5 then (laws_markByteS.l0 k (x0.set (x5 : Int).toNat ((x1) % 256)) (wrap64 (x1 + 1)) (wrap64 (x5 + 1))) else (none)) else (some (x1,x0))
def laws_markByteS.f (k : Nat) (l0 : List Int) (a1 : Int) : Option (Int × List Int):=laws_markByteS.l0 k l0 a1 0
set_option maxHeartbeats 8000000 in
set_option maxRecDepth 100000 in
theorem laws_markByteS.calls (k : Nat) (P0_ : Nat → Prop) (u9000_ : Value) (l0 : List Int) (a1 : Int) (r1 : Int) (r2 : List Int) (w0 w : World) (hB : Below w0.heap.size w0 w) (ho0 : Kd.R (Kd.int .u8) 5 w w0.heap.size P0_ u9000_ l0) (h : laws_markByteS.f k l0 a1 = some (r1,r2)) :
  Calls Try.prog 99 #[u9000_, .int .i64 a1] w fun e w' => e = .returned (.int .i64 r1) ∧ Kd.R (Kd.int .u8) 5 w' w0.heap.size (fun k_ => (P0_ k_ ∨ w.heap.size ≤ k_)) u9000_ r2 ∧ Below w0.heap.size w0 w' ∧ Kept w w' (fun k_ => P0_ k_):=by
 have HO0:=Aside0.mk (show Kd.R (Kd.int .u8) 5 w w0.heap.size (fun k_ => (P0_ k_ ∨ w.heap.size ≤ k_)) u9000_ l0 from Kd.R_mono ho0 (fun k_ hk => (.inl hk)))
 have HK:=Aside0.mk (Kept.refl w (fun k_ => P0_ k_))
 have HW0:=Aside0.mk hB.size
 have HB:=Aside0.mk hB
 clear hB
 have H : (laws_markByteS.l0 k l0 a1 0) = some (r1,r2):=h
 clear h
 have H':=Aside0.mk H
 clear H
 go_enter Try.func99,Try.ntmps99
 go_wp2
 go_loopg [1,5] k (fun kq v1 v5 w' => ∃ (x0_1 : List Int) (x1_1 : Int) (x5_1 : Int),v1 = .int .i64 x1_1 ∧ v5 = .int .i64 x5_1 ∧ Aside0 (laws_markByteS.l0 kq x0_1 x1_1 x5_1 = some (r1,r2)) ∧ Aside0 (kq ≤ k) ∧ Aside0 (Kd.R (Kd.int .u8) 5 w' w0.heap.size (fun k_ => (P0_ k_ ∨ w.heap.size ≤ k_)) u9000_ x0_1) ∧ Aside0 (Kept w w' (fun k_ => P0_ k_)) ∧ Aside0 (Below w0.heap.size w0 w'))
 case atStart => exact ⟨(l0),(a1),(0),(by first | rfl | (simp;done) | (simp [*];done)),(by first | rfl | (simp;done) | (simp [*];done)),H',⟨Nat.le_refl _⟩,⟨by (with_reducible repeat (first | apply Kd.R_alloc | apply Kd.R_drewN | apply Kd.R_drew));exact HO0.out⟩,⟨by repeat (first | (with_reducible first | exact HK.out | apply Kept.alloc | apply Kept.drewN | apply Kept.drew) | exact HK.out)⟩,⟨by repeat (first | (with_reducible first | exact HB.out | apply below_alloc | apply pw_below_drewN | apply below_drew1) | exact HB.out)⟩⟩
 case round =>
  clear H'
  try clear p2
  obtain ⟨x0_1,x1_1,x5_1,rfl,rfl,HA,HK1,HO_0,HK,HB⟩:=hrel
  cases gk with
  | zero => exact absurd HA.out (by simp [laws_markByteS.l0])
  | succ k1 =>
   have H:=HA.out
   clear HA
   simp only [laws_markByteS.l0] at H
   by_cases c3 : x5_1 < (x0_1.length : Int)
   ·rw [if_pos c3] at H
    have c3b0 : decide (x5_1 < (x0_1.length : Int)) = true:=decide_eq_true c3
    clear c3
    by_cases c4 : 0 ≤ x5_1
    ·rw [if_pos c4] at H
     have c4b0 : decide (0 ≤ x5_1) = true:=decide_eq_true c4
     clear c4
     obtain ⟨y824,hy824⟩ : ∃ y_ : List Int,y_ = (x0_1.set (x5_1 : Int).toNat ((x1_1) % 256)):=⟨_,rfl⟩
     replace H : (laws_markByteS.l0 k1 y824 (wrap64 (x1_1 + 1)) (wrap64 (x5_1 + 1))) = some (r1,r2):=by first | (rw [hy824];with_reducible exact H) | (have H2_:=(Option.bind_some _ _).symm.trans H;rw [hy824];with_reducible exact H2_) | (have H2_:=(Option.bind_some _ _).symm.trans H;with_reducible exact H2_) | with_reducible exact H | (rw [hy824];exact H) | exact H
     have Ny824:=Aside0.mk hy824
     clear hy824
     have H':=Aside0.mk H
     clear H
     obtain ⟨Ao6,co6,eo6⟩:=Kd.R_slice HO_0.out
     subst eo6
     have p5 : 0 ≤ (x5_1 : Int):=of_decide_eq_true (by first | (with_reducible assumption) | assumption)
     have q5 : (x5_1 : Int) < ((x0_1.length : Int) : Int):=of_decide_eq_true (by first | (with_reducible assumption) | assumption)
     obtain ⟨go5,co5,eo5,gb5,gl5,cl5,HG5⟩:=Kd.R_form HO_0.out (by omega)
     (first | cases eo5 | (injection eo5 with ea_ en_ ec_;(first | subst ea_ | (injection ea_ with ea_;subst ea_));subst ec_;clear en_))
     have GB5:=Aside0.mk gb5
     have GG5:=Aside0.mk HG5
     clear gb5 gl5 HG5
     have HMgo5:=Aside0.mk (show (P0_ go5 ∨ w.heap.size ≤ go5) from (HO_0.out.1 _ rfl))
     obtain ⟨hx5_0,hf5_0⟩:=Kd.R_celln 0 HO_0.out (x5_1 : Int) p5 q5
     replace p5:=eq_true p5
     replace q5:=eq_true q5
     have HP7:=Kd.R_putg HO_0.out (x5_1 : Int) ((x1_1) % 256)
     go_wp2_with (first | ((with_reducible refine gate_store (t:=5) (p:=16) rfl ?_);refine store_event (t:=5) (p:=16) (v := ?vo_w8) (w1:=(wr.setCell ⟨go5,(x5_1 : Int).toNat,none⟩ (.int .u8 ((x1_1) % 256)))) ?hg ?ho ?hn ?hr ?_;(case ho => rfl);(case hg => rfl);(case hn => rfl);(case hr => first | (go_simp;done) | (go_simp;rfl));intro w8 hw;have hg : wr.grownBy w8 (some go5):=(by rw [hw];exact HP7.2);have hp_ : Kd.R (Kd.int .u8) 5 w8 w0.heap.size (fun k_ => (P0_ k_ ∨ w.heap.size ≤ k_)) (.slice (some ⟨go5,0,none⟩) x0_1.length co6) y824:=(by rw [hw,Ny824.out];exact HP7.1);clear HP7;have n0_:=Aside0.mk (hp_);have n1_:=Aside0.mk ((by rw [hw];exact below_set (HB.out) GB5.out : Below w0.heap.size w0 w8));have n2_:=Aside0.mk (Kept.of_grown (S:=(fun k_ => P0_ k_)) hg (by repeat (first | (with_reducible first | exact HK.out | apply Kept.alloc | apply Kept.drewN | apply Kept.drew) | exact HK.out)) (fun k_ e_ => (HO_0.out.1 k_ e_)));clear HO_0;clear HB;clear HK;have HO_0:=n0_;have HB:=n1_;have HK:=n2_;clear n0_ n1_ n2_;clear hg hw hp_))
     go_roundg k1
     case measure => have:=HK1.out;omega
     case rel => exact ⟨(y824),(wrap64 (x1_1 + 1)),(wrap64 (x5_1 + 1)),(by first | rfl | (simp;done) | (simp [*];done)),(by first | rfl | (simp;done) | (simp [*];done)),H',⟨by have:=HK1.out;omega⟩,⟨by (with_reducible repeat (first | apply Kd.R_alloc | apply Kd.R_drewN | apply Kd.R_drew));exact HO_0.out⟩,⟨by repeat (first | (with_reducible first | exact HK.out | apply Kept.alloc | apply Kept.drewN | apply Kept.drew) | exact HK.out)⟩,⟨by repeat (first | (with_reducible first | exact HB.out | apply below_alloc | apply pw_below_drewN | apply below_drew1) | exact HB.out)⟩⟩
    ·rw [if_neg c4] at H
     exact absurd H (by simp)
   ·rw [if_neg c3] at H
    have c3b0 : decide (x5_1 < (x0_1.length : Int)) = false:=decide_eq_false c3
    clear c3
    simp only [Option.some.injEq,Prod.mk.injEq] at H
    obtain ⟨rfl,rfl⟩:=H
    obtain ⟨Ao9,co9,eo9⟩:=Kd.R_slice HO_0.out
    subst eo9
    go_wp2
    go_ret
    exact ⟨by first | rfl | (simp [errW_none,errW_some] <;> rfl) | (simp [*,errW_none,errW_some] <;> rfl),by (with_reducible repeat (first | apply Kd.R_alloc | apply Kd.R_drewN | apply Kd.R_drew));exact HO_0.out,by repeat (first | (with_reducible first | exact HB.out | apply below_alloc | apply pw_below_drewN | apply below_drew1) | exact HB.out),by repeat (first | (with_reducible first | exact HK.out | apply Kept.alloc | apply Kept.drewN | apply Kept.drew) | exact HK.out)⟩
def laws_heldByteS.l0 : Nat → List Int → Int → Int → Option (Int)
 | 0,_,_,_ => none
 | k + 1,x0,x1,x5 => if x5 < (x0.length : Int) then (if 0 ≤ x5 then (if (rd x0 x5) = ((x1) % 256) then (laws_heldByteS.l0 k x0 (wrap64 (x1 + 1)) (wrap64 (x5 + 1))) else (some (-1))) else (none)) else (some x1)
def laws_heldByteS.f (k : Nat) (l0 : List Int) (a1 : Int) : Option (Int):=laws_heldByteS.l0 k l0 a1 0
set_option maxHeartbeats 8000000 in
set_option maxRecDepth 100000 in
theorem laws_heldByteS.calls (k : Nat) (A0 : Option Addr) (c0 : Nat) (l0 : List Int) (a1 : Int) (r : Int) (w : World) (hr0 : Kd.C (Kd.int .u8) w A0 l0.length l0) (hc0 : l0.length ≤ c0) (h : laws_heldByteS.f k l0 a1 = some r) :
  Calls Try.prog 100 #[.slice A0 l0.length c0, .int .i64 a1] w fun e w' => e = .returned (.int .i64 r) ∧ Drawn0 w w':=by
 have HR0:=Aside0.mk hr0
 have HC0:=Aside0.mk hc0
 clear hr0 hc0
 have H : (laws_heldByteS.l0 k l0 a1 0) = some r:=h
 clear h
 have H':=Aside0.mk H
 clear H
 go_enter Try.func100,Try.ntmps100
 go_wp2
 go_loopg [1,5] k (fun kq v1 v5 w' => ∃ (x1_1 : Int) (x5_1 : Int),v1 = .int .i64 x1_1 ∧ v5 = .int .i64 x5_1 ∧ Aside0 (laws_heldByteS.l0 kq l0 x1_1 x5_1 = some r) ∧ Aside0 (kq ≤ k) ∧ Drawn0 w w')
 case atStart => exact ⟨(a1),(0),(by first | rfl | (simp;done) | (simp [*];done)),(by first | rfl | (simp;done) | (simp [*];done)),H',⟨Nat.le_refl _⟩,by repeat (first | exact Drawn0.refl _ | apply Drawn0.step)⟩
 case round =>
  clear H'
  try clear c1
  try clear p2
  obtain ⟨x1_1,x5_1,rfl,rfl,HA,HK1,⟨m1,rfl⟩⟩:=hrel
  cases gk with
  | zero => exact absurd HA.out (by simp [laws_heldByteS.l0])
  | succ k1 =>
   have H:=HA.out
   clear HA
   simp only [laws_heldByteS.l0] at H
   by_cases c3 : x5_1 < (l0.length : Int)
   ·rw [if_pos c3] at H
    have c3b0 : decide (x5_1 < (l0.length : Int)) = true:=decide_eq_true c3
    clear c3
    by_cases c4 : 0 ≤ x5_1
    ·rw [if_pos c4] at H
     have c4b0 : decide (0 ≤ x5_1) = true:=decide_eq_true c4
     clear c4
     by_cases c5 : (rd l0 x5_1) = ((x1_1) % 256)
     ·rw [if_pos c5] at H
      have c5b0 : ((rd l0 x5_1) == ((x1_1) % 256)) = true:=beq_iff_eq.mpr c5
      have c5b1 : ((rd l0 x5_1) != ((x1_1) % 256)) = false:=bne_eq_false_iff_eq.mpr c5
      clear c5
      have H':=Aside0.mk H
      clear H
      have p828 : 0 ≤ (x5_1 : Int):=of_decide_eq_true (by first | (with_reducible assumption) | assumption)
      have q828 : x5_1 < (l0.length : Int):=of_decide_eq_true (by first | (with_reducible assumption) | assumption)
      obtain ⟨ad828,e828,hx828_0⟩:=Kd.at_int HR0.out x5_1 p828 q828
      cases e828
      replace p828:=eq_true p828
      replace q828:=eq_true q828
      go_wp2
      go_roundg k1
      case measure => have:=HK1.out;omega
      case rel => exact ⟨(wrap64 (x1_1 + 1)),(wrap64 (x5_1 + 1)),(by first | rfl | (simp;done) | (simp [*];done)),(by first | rfl | (simp;done) | (simp [*];done)),H',⟨by have:=HK1.out;omega⟩,by repeat (first | exact Drawn0.refl _ | apply Drawn0.step)⟩
     ·rw [if_neg c5] at H
      have c5b0 : ((rd l0 x5_1) == ((x1_1) % 256)) = false:=beq_eq_false_iff_ne.mpr c5
      have c5b1 : ((rd l0 x5_1) != ((x1_1) % 256)) = true:=bne_iff_ne.mpr c5
      obtain rfl:=Option.some.inj H
      have p828 : 0 ≤ (x5_1 : Int):=of_decide_eq_true (by first | (with_reducible assumption) | assumption)
      have q828 : x5_1 < (l0.length : Int):=of_decide_eq_true (by first | (with_reducible assumption) | assumption)
      obtain ⟨ad828,e828,hx828_0⟩:=Kd.at_int HR0.out x5_1 p828 q828
      cases e828
      replace p828:=eq_true p828
      replace q828:=eq_true q828
      go_wp2
      go_ret
      exact ⟨by first | rfl | (simp;done) | (simp [*];done),by repeat (first | exact Drawn0.refl _ | apply Drawn0.step)⟩
    ·rw [if_neg c4] at H
     exact absurd H (by simp)
   ·rw [if_neg c3] at H
    have c3b0 : decide (x5_1 < (l0.length : Int)) = false:=decide_eq_false c3
    clear c3
    obtain rfl:=Option.some.inj H
    go_wp2
    go_ret
    exact ⟨by first | rfl | (simp;done) | (simp [*];done),by repeat (first | exact Drawn0.refl _ | apply Drawn0.step)⟩
end Go.Proofs.Ytcaefabbcjlkdaa.P
namespace Go.Proofs.Ytcaefabbcjlkdaa.P
open Go Go.RowKit Go.Proofs.YtcaefabbcjlkdaaW.PrintWords
set_option linter.unusedVariables false
def marks (a : Int) : Nat → List Int
 | 0 => []
 | n + 1 => a % 256 :: marks (a + 1) n
theorem marks_length (n : Nat) : ∀ a,(marks a n).length = n:=by
 induction n with
 | zero => intro a;rfl
 | succ n ih => intro a;rw [marks,List.length_cons,ih]
theorem marks_get (n : Nat) : ∀ (a : Int) (i : Nat),i < n → (marks a n)[i]? = some ((a + i) % 256):=by
 induction n with
 | zero => intro a i h;omega
 | succ n ih =>
  intro a i h
  cases i with
  | zero => simp [marks]
  | succ i =>
   rw [marks,List.getElem?_cons_succ,ih (a + 1) i (by omega)]
   congr 2;push_cast;omega
theorem markByteS_ev (l : List Int) (hl : l.length ≤ 10000000) (a : Int) (h0 : 0 ≤ a) (h1 : a ≤ 100000000) : Ev (fun m => laws_markByteS.f m l a) (a + (l.length : Int),marks a l.length):=by
 have loop : ∀ (d i : Nat) (x : List Int),i + d = l.length → x.length = l.length → (∀ t,t < i → x[t]? = (marks a l.length)[t]?) → Ev (fun m => laws_markByteS.l0 m x (a + (i : Int)) (i : Int)) (a + (l.length : Int),marks a l.length):=by
  intro d
  induction d with
  | zero =>
   intro i x hi hx hs
   have e : x = marks a l.length:=by
    apply List.ext_getElem?
    intro t
    by_cases c : t < l.length
    ·exact hs t (by omega)
    ·rw [List.getElem?_eq_none (by omega),List.getElem?_eq_none (by rw [marks_length];omega)]
   refine Ev.step (f:=fun _ => some (a + (l.length : Int),marks a l.length)) (fun m => ?_) (Ev.now _)
   simp only [laws_markByteS.l0]
   rw [if_neg (by omega),show i = l.length by omega,e]
  | succ d ih =>
   intro i x hi hx hs
   refine Ev.step (f:=fun m => laws_markByteS.l0 m (x.set i ((a + (i : Int)) % 256)) (a + ((i + 1 : Nat) : Int)) ((i + 1 : Nat) : Int)) (fun m => ?_) (ih (i + 1) _ (by omega) (by rw [List.length_set];exact hx) (fun t ht => ?_))
   ·simp only [laws_markByteS.l0]
    rw [if_pos (by omega),if_pos (by omega),w64 (x:=a + (i : Int) + 1) (by omega) (by omega),w64 (x:=(i : Int) + 1) (by omega) (by omega),Int.toNat_natCast,show a + (i : Int) + 1 = a + ((i + 1 : Nat) : Int) by omega]
    rfl
   ·rw [List.getElem?_set]
    by_cases e : i = t
    ·subst e;rw [if_pos rfl,if_pos (by omega),marks_get _ _ _ (by omega)]
    ·rw [if_neg e];exact hs t (by omega)
 refine Ev.congr (fun m => by unfold laws_markByteS.f;rfl) (by have:=loop l.length 0 l (by omega) rfl (fun t ht => by omega);simpa using this)
theorem heldByteS_ev (n : Nat) (hn : n ≤ 10000000) (a : Int) (h0 : 0 ≤ a) (h1 : a ≤ 100000000) : Ev (fun m => laws_heldByteS.f m (marks a n) a) (a + (n : Int)):=by
 have loop : ∀ (d i : Nat),i + d = n → Ev (fun m => laws_heldByteS.l0 m (marks a n) (a + (i : Int)) (i : Int)) (a + (n : Int)):=by
  intro d
  induction d with
  | zero =>
   intro i hi
   refine Ev.step (f:=fun _ => some (a + (n : Int))) (fun m => ?_) (Ev.now _)
   simp only [laws_heldByteS.l0]
   rw [if_neg (by rw [marks_length];omega),show i = n by omega]
  | succ d ih =>
   intro i hi
   have hr : rd (marks a n) (i : Int) = (a + (i : Int)) % 256:=by
    have h1:=rd_get (marks a n) i (by rw [marks_length];omega)
    rw [marks_get _ _ _ (by omega)] at h1
    exact (Option.some.inj h1).symm
   refine Ev.step (f:=fun m => laws_heldByteS.l0 m (marks a n) (a + ((i + 1 : Nat) : Int)) ((i + 1 : Nat) : Int)) (fun m => ?_) (ih (i + 1) (by omega))
   simp only [laws_heldByteS.l0]
   rw [if_pos (by rw [marks_length];omega),if_pos (by omega),if_pos hr,w64 (x:=a + (i : Int) + 1) (by omega) (by omega),w64 (x:=(i : Int) + 1) (by omega) (by omega),show a + (i : Int) + 1 = a + ((i + 1 : Nat) : Int) by omega]
   rfl
 refine Ev.congr (fun m => by unfold laws_heldByteS.f;rfl) (by have:=loop n 0 (by omega);simpa using this)
theorem S_put {P : Program} {ops : Array Oper} {rest : List Oper} {o : Oper} {a : Act} {Q : Exit → Act → World → Prop} {α : Type} (d : Kd α) {w0 W : World} (base : Nat) (hN : o.dst = none) (hgd : o.guard = none) {t : TypeId} {p x : Operand} (ho : o.op = .store t p x) {e g n cap off i j : Nat} {xs : List α} {z x' : α} {u : Value} {ok : Nat → Prop}
  (haddr : a.eval p = .pointer (some ⟨g,off,none⟩)) (hoff : off = i * d.sz + j) (hx : a.eval x = u) (hu : u.cells.toList = [u]) (ht : (P.info? t).map (·.size) = some 1) (hone : u.oneCell' = true)
  (HS : Kd.S d e W base ok (.slice (some ⟨g,0,none⟩) n cap) xs) (hi : i < n) (hj : j < d.sz)
  (hM : ∀ (oki : Nat → Prop) (c : List Value),d.M W base oki (xs.getD i z) c → d.M W base oki x' (c.take j ++ [u] ++ c.drop (j + 1))) (HB : Below base w0 W)
  (h : ∀ w1,Kd.S d e w1 base ok (.slice (some ⟨g,0,none⟩) n cap) (xs.set i x') → Below base w0 w1 → W.grownBy w1 (some g) → wpList P ops Q rest a w1) : wpList P ops Q (o :: rest) a W:=by
 obtain ⟨oki,c,hcl,hM0,hcc,hfr,hoki,hH⟩:=Kd.S_elem HS z (i : Int) (by omega) (by omega)
 exact Kd.H_store d base hN hgd t p x ho e (i : Int) j xs x' u [u] c ok oki oki haddr (by rw [Int.toNat_natCast];exact hoff) hx hu ht (by simp [hone]) hH (by omega) (by omega) (by simp;omega) (hM oki c (by rw [Int.toNat_natCast] at hM0;exact hM0)) (fun _ h => h) HB (fun w1 hS hb hg => h w1 (by rw [Int.toNat_natCast] at hS;exact hS) hb hg)
theorem markByteS_v (w0 w : World) (P0 : Nat → Prop) (v : Value) (l : List Int) (a : Int) (hB : Below w0.heap.size w0 w) (hr : (Kd.int .u8).R 5 w w0.heap.size P0 v l) (hl : l.length ≤ 10000000) (h0 : 0 ≤ a) (h1 : a ≤ 100000000) :
  Calls Try.prog 99 #[v, .int .i64 a] w fun e w' => e = .returned (.int .i64 (a + l.length)) ∧ (Kd.int .u8).R 5 w' w0.heap.size P0 v (marks a l.length) ∧ Below w0.heap.size w0 w' ∧ w.grownBy w' v.ownBlock:=by
 obtain ⟨k,hk⟩:=(markByteS_ev l hl a h0 h1).rounds
 refine (laws_markByteS.calls k (fun k => some k = v.ownBlock) v l a _ _ w0 w hB (Kd.R_tight rfl hr) hk).mono ?_
 rintro e w' ⟨rfl,h2,h3,h4⟩
 refine ⟨rfl,Kd.R_mono (Kd.R_tight rfl h2) (fun k hk => R_own_ok hr hk.symm),h3,h3.os.trans hB.os.symm,h3.tape.trans hB.tape.symm,h3.output.trans hB.output.symm,h4.1,fun k hk hn => h4.2 k hk hn⟩
structure Mk {α : Type} (l xs : List α) (i : Nat) (ys : List α) : Prop where
 len : ys.length = xs.length
 ll : l.length = xs.length
 done : ∀ j,j < i → ys[j]? = l[j]?
 left : ∀ j,i ≤ j → ys[j]? = xs[j]?
theorem Mk.start {α : Type} {l xs : List α} (h : l.length = xs.length) : Mk l xs 0 xs:=⟨rfl,h,fun j hj => absurd hj (Nat.not_lt_zero j),fun _ _ => rfl⟩
theorem Mk.all {α : Type} {l xs ys : List α} {i : Nat} (h : Mk l xs i ys) (hi : xs.length ≤ i) : ys = l:=by
 apply List.ext_getElem?
 intro j
 by_cases c : j < i
 ·exact h.done j c
 ·rw [List.getElem?_eq_none (by have:=h.len;omega),List.getElem?_eq_none (by have:=h.ll;omega)]
theorem Mk.next {α : Type} {l xs ys : List α} {i : Nat} (h : Mk l xs i ys) {v : α} (hi : i < xs.length) (hv : l[i]? = some v) : Mk l xs (i + 1) (ys.set i v):=by
 refine ⟨by rw [List.length_set];exact h.len,h.ll,fun j hj => ?_,fun j hj => ?_⟩
 ·rw [List.getElem?_set]
  by_cases e : i = j
  ·subst e;rw [if_pos rfl,if_pos (by have:=h.len;omega),hv]
  ·rw [if_neg e];exact h.done j (by omega)
 ·rw [List.getElem?_set,if_neg (by omega)];exact h.left j (by omega)
theorem Mk.at {α : Type} {l xs ys : List α} {i : Nat} (h : Mk l xs i ys) (z : α) : ys.getD i z = xs.getD i z:=by
 rw [List.getD_eq_getElem?_getD,List.getD_eq_getElem?_getD,h.left i (Nat.le_refl i)]
theorem getD_set {α : Type} (l : List α) (i : Nat) (v z : α) (h : i < l.length) : (l.set i v).getD i z = v:=by
 rw [List.getD_eq_getElem?_getD,List.getElem?_set,if_pos rfl,if_pos h];rfl
def tm (k : Int) : Bool:=Int.tmod k 3 == 0
end Go.Proofs.Ytcaefabbcjlkdaa.P
