/- Texts of the proof of FnExactNewHost, joined. -/
import Derived.Test.YtcaefabbcjlkdaaSFnExactNewHost22
import Derived.Test.YtcaefabbcjlkdaaSFnExactNewHost25
namespace Go.Proofs.Ytcaefabbcjlkdaa.P
open Go.RowKit Go.Proofs.YtcaefabbcjlkdaaW.PrintWords Go.Proofs.YtcaefabbcjlkdaaW.PrintLast Go.Proofs.YtcaefabbcjlkdaaW.PrintMore
set_option linter.unusedVariables false
set_option linter.unusedSimpArgs false
mutual
def spec_l3copy.l0 : Nat → Int → Int → Int → Int → Int → List (S89) → List (S87) → List (S45) → List (S56) → Int → Int → Int → Int → Int → Int → List (S89) → List (S87) → List (S45) → List (S56) → Int → Int → Option (Int × Int × Int × Int × (List (S89)) × (List (S87)) × (List (S45)) × (List (S56)) × Int × Int)
 | 0,_,_,_,_,_,_,_,_,_,_,_,_,_,_,_,_,_,_,_,_,_ => none
 | k + 1,x4,x326000,x326001,x326002,x326003,x326004,x326005,x326006,x326007,x326008,x326009,x328000,x328001,x328002,x328003,x328004,x328005,x328006,x328007,x328008,x328009 => if x4 < (x326004.length : Int) then (if 0 ≤ x4 then (if x328004.length < 11728124029610 then (spec_l3copy.l0 k (wrap64 (x4 + 1)) x326000 x326001 x326002 x326003 x326004 x326005 x326006 x326007 x326008 x326009 x328000 x328001 x328002 x328003 (x328004 ++ [(⟨(rd_T89 x326004 x4).f0,(rd_T89 x326004 x4).f1,(rd_T89 x326004 x4).f2⟩ : S89)]) x328005 x328006 x328007 x328008 x328009) else (none)) else (none)) else (spec_l3copy.l1 k 0 x326000 x326001 x326002 x326003 x326004 x326005 x326006 x326007 x326008 x326009 x328000 x328001 x328002 x328003 x328004 (([] : List (S87))) x328006 x328007 x328008 x328009)
def spec_l3copy.l1 : Nat → Int → Int → Int → Int → Int → List (S89) → List (S87) → List (S45) → List (S56) → Int → Int → Int → Int → Int → Int → List (S89) → List (S87) → List (S45) → List (S56) → Int → Int → Option (Int × Int × Int × Int × (List (S89)) × (List (S87)) × (List (S45)) × (List (S56)) × Int × Int)
 | 0,_,_,_,_,_,_,_,_,_,_,_,_,_,_,_,_,_,_,_,_,_ => none
 | k + 1,x5,x326000,x326001,x326002,x326003,x326004,x326005,x326006,x326007,x326008,x326009,x328000,x328001,x328002,x328003,x328004,x328005,x328006,x328007,x328008,x328009 => if x5 < (x326005.length : Int) then (if 0 ≤ x5 then ((spec_l3copyBox.f k ((rd_T87 x326005 x5).f0) ((rd_T87 x326005 x5).f1) ((rd_T87 x326005 x5).f2) ((rd_T87 x326005 x5).f3.f0) ((rd_T87 x326005 x5).f3.f1) ((rd_T87 x326005 x5).f3.f2) ((rd_T87 x326005 x5).f3.f3) ((rd_T87 x326005 x5).f3.f4)).bind fun bt339 => (if x328005.length < 1954687338268 then (spec_l3copy.l1 k (wrap64 (x5 + 1)) x326000 x326001 x326002 x326003 x326004 x326005 x326006 x326007 x326008 x326009 x328000 x328001 x328002 x328003 x328004 (x328005 ++ [(⟨bt339.1,bt339.2.1,bt339.2.2.1,(⟨bt339.2.2.2.1,bt339.2.2.2.2.1,bt339.2.2.2.2.2.1,bt339.2.2.2.2.2.2.1,bt339.2.2.2.2.2.2.2⟩ : S45)⟩ : S87)]) x328006 x328007 x328008 x328009) else (none))) else (none)) else (spec_l3copy.l2 k 0 x326000 x326001 x326002 x326003 x326004 x326005 x326006 x326007 x326008 x326009 x328000 x328001 x328002 x328003 x328004 x328005 (([] : List (S45))) x328007 x328008 x328009)
def spec_l3copy.l2 : Nat → Int → Int → Int → Int → Int → List (S89) → List (S87) → List (S45) → List (S56) → Int → Int → Int → Int → Int → Int → List (S89) → List (S87) → List (S45) → List (S56) → Int → Int → Option (Int × Int × Int × Int × (List (S89)) × (List (S87)) × (List (S45)) × (List (S56)) × Int × Int)
 | 0,_,_,_,_,_,_,_,_,_,_,_,_,_,_,_,_,_,_,_,_,_ => none
 | k + 1,x6,x326000,x326001,x326002,x326003,x326004,x326005,x326006,x326007,x326008,x326009,x328000,x328001,x328002,x328003,x328004,x328005,x328006,x328007,x328008,x328009 => if x6 < (x326006.length : Int) then (if 0 ≤ x6 then ((spec_l1copyFrame.f k ((rd_T45 x326006 x6).f0) ((rd_T45 x326006 x6).f1) ((rd_T45 x326006 x6).f2) ((rd_T45 x326006 x6).f3) ((rd_T45 x326006 x6).f4)).bind fun bt356 => (if x328006.length < 2932031007402 then (spec_l3copy.l2 k (wrap64 (x6 + 1)) x326000 x326001 x326002 x326003 x326004 x326005 x326006 x326007 x326008 x326009 x328000 x328001 x328002 x328003 x328004 x328005 (x328006 ++ [(⟨bt356.1,bt356.2.1,bt356.2.2.1,bt356.2.2.2.1,bt356.2.2.2.2⟩ : S45)]) x328007 x328008 x328009) else (none))) else (none)) else ((spec_l3copyEvents.f k x326007).bind fun t366 => (some (x328000,x328001,x328002,x328003,x328004,x328005,x328006,t366,x328008,x328009)))
end
def spec_l3copy.f (k : Nat) (a0_0 : Int) (a0_1 : Int) (a0_2 : Int) (a0_3 : Int) (l0_4 : List (S89)) (l0_5 : List (S87)) (l0_6 : List (S45)) (l0_7 : List (S56)) (a0_8 : Int) (a0_9 : Int) : Option (Int × Int × Int × Int × (List (S89)) × (List (S87)) × (List (S45)) × (List (S56)) × Int × Int):=spec_l3copy.l0 k 0 a0_0 a0_1 a0_2 a0_3 l0_4 l0_5 l0_6 l0_7 a0_8 a0_9 a0_0 a0_1 a0_2 a0_3 (([] : List (S89))) l0_5 l0_6 l0_7 a0_8 a0_9
def spec_l3copy.T6 : Bool × List (List Nat × List Nat):=(true, [([], []),([0], [0]),([], []),([2], [2]),([], []),([3,4], [3,4]),([5], [5]),([6], [6]),([1,7], [1,7]),([0,1,2,3,4,5,6,7,8], []),([9,8,8,0,1,2,3,4,5,6,7,8], [8,9])])
def spec_l3copy.B6 : List Nat := [0,1,0,4,0,28,60,124,255,511,1023]
theorem spec_l3copy.tab6 : rtab .any (opsOf Try.f59 6) = spec_l3copy.T6:=by kernel_rfl
theorem spec_l3copy.bits6 : waitsOk spec_l3copy.T6.2 spec_l3copy.B6 = true:=by kernel_rfl
def spec_l3copy.T11 : Bool × List (List Nat × List Nat):=(true, [([], []),([0], [0]),([], []),([2], [2]),([], []),([3,4], [3,4]),([5], [5]),([6], [6]),([7], [7]),([1,8,7], [1,8]),([0,1,2,3,4,5,6,7,8,9], []),([10,9,9,0,1,2,3,4,5,6,7,8,9], [9,10])])
def spec_l3copy.B11 : List Nat := [0,1,0,4,0,28,60,124,252,511,1023,2047]
theorem spec_l3copy.tab11 : rtab .any (opsOf Try.f59 11) = spec_l3copy.T11:=by kernel_rfl
theorem spec_l3copy.bits11 : waitsOk spec_l3copy.T11.2 spec_l3copy.B11 = true:=by kernel_rfl
def spec_l3copy.T16 : Bool × List (List Nat × List Nat):=(true, [([], []),([0], [0]),([], []),([2], [2]),([], []),([3,4], [3,4]),([5], [5]),([6], [6]),([7], [7]),([1,8,7], [1,8]),([0,1,2,3,4,5,6,7,8,9], []),([10,9,9,0,1,2,3,4,5,6,7,8,9], [9,10])])
def spec_l3copy.B16 : List Nat := [0,1,0,4,0,28,60,124,252,511,1023,2047]
theorem spec_l3copy.tab16 : rtab .any (opsOf Try.f59 16) = spec_l3copy.T16:=by kernel_rfl
theorem spec_l3copy.bits16 : waitsOk spec_l3copy.T16.2 spec_l3copy.B16 = true:=by kernel_rfl
set_option maxHeartbeats 8000000 in
set_option maxRecDepth 100000 in
theorem spec_l3copy.calls (k : Nat) (a0_0 : Int) (a0_1 : Int) (a0_2 : Int) (a0_3 : Int) (A0_4 : Option Addr) (c0_4 : Nat) (l0_4 : List (S89)) (A0_5 : Option Addr) (c0_5 : Nat) (l0_5 : List (S87)) (A0_6 : Option Addr) (c0_6 : Nat) (l0_6 : List (S45)) (A0_7 : Option Addr) (c0_7 : Nat) (l0_7 : List (S56)) (a0_8 : Int) (a0_9 : Int) (r1 : Int) (r2 : Int) (r3 : Int) (r4 : Int) (r5 : List (S89)) (r6 : List (S87)) (r7 : List (S45)) (r8 : List (S56)) (r9 : Int) (r10 : Int) (w : World) (hr0_4 : Kd.C k89 w A0_4 l0_4.length l0_4) (hc0_4 : l0_4.length ≤ c0_4) (hr0_5 : Kd.C k87 w A0_5 l0_5.length l0_5) (hc0_5 : l0_5.length ≤ c0_5) (hr0_6 : Kd.C k45 w A0_6 l0_6.length l0_6) (hc0_6 : l0_6.length ≤ c0_6) (hr0_7 : Kd.C k56 w A0_7 l0_7.length l0_7) (hc0_7 : l0_7.length ≤ c0_7) (h : spec_l3copy.f k a0_0 a0_1 a0_2 a0_3 l0_4 l0_5 l0_6 l0_7 a0_8 a0_9 = some (r1,r2,r3,r4,r5,r6,r7,r8,r9,r10)) :
  Calls Try.prog 59 #[.agg #[.int .i64 a0_0, .int .i64 a0_1, .int .i64 a0_2, .int .i64 a0_3, .slice A0_4 l0_4.length c0_4, .slice A0_5 l0_5.length c0_5, .slice A0_6 l0_6.length c0_6, .slice A0_7 l0_7.length c0_7, .int .i64 a0_8, .int .i64 a0_9]] w fun e w' => ∃ v4_ v5_ v6_ v7_ : Value,e = .returned (.agg #[.int .i64 r1, .int .i64 r2, .int .i64 r3, .int .i64 r4,v4_,v5_,v6_,v7_, .int .i64 r9, .int .i64 r10]) ∧ Kd.R k89 89 w' w.heap.size (fun _ => True) v4_ r5 ∧ Kd.S k87 87 w' w.heap.size (fun _ => True) v5_ r6 ∧ Kd.S k45 45 w' w.heap.size (fun _ => True) v6_ r7 ∧ Kd.S k56 56 w' w.heap.size (fun _ => True) v7_ r8 ∧ Below w.heap.size w w':=by
 have hu32:=Try.underlying32
 have hu89:=Try.underlying89
 have hu87:=Try.underlying87
 have hu45:=Try.underlying45
 have HR0_4:=Aside0.mk hr0_4
 have HC0_4:=Aside0.mk hc0_4
 clear hr0_4 hc0_4
 have HR0_5:=Aside0.mk hr0_5
 have HC0_5:=Aside0.mk hc0_5
 clear hr0_5 hc0_5
 have HR0_6:=Aside0.mk hr0_6
 have HC0_6:=Aside0.mk hc0_6
 clear hr0_6 hc0_6
 have HR0_7:=Aside0.mk hr0_7
 have HC0_7:=Aside0.mk hc0_7
 clear hr0_7 hc0_7
 have HB:=Aside0.mk (Below.refl w.heap.size w)
 have H : (spec_l3copy.l0 k 0 a0_0 a0_1 a0_2 a0_3 l0_4 l0_5 l0_6 l0_7 a0_8 a0_9 a0_0 a0_1 a0_2 a0_3 (([] : List (S89))) l0_5 l0_6 l0_7 a0_8 a0_9) = some (r1,r2,r3,r4,r5,r6,r7,r8,r9,r10):=h
 clear h
 obtain ⟨y328,hy328⟩ : ∃ y_ : List (S89),y_ = (([] : List (S89))):=⟨_,rfl⟩
 replace H : (spec_l3copy.l0 k 0 a0_0 a0_1 a0_2 a0_3 l0_4 l0_5 l0_6 l0_7 a0_8 a0_9 a0_0 a0_1 a0_2 a0_3 y328 l0_5 l0_6 l0_7 a0_8 a0_9) = some (r1,r2,r3,r4,r5,r6,r7,r8,r9,r10):=by first | (rw [hy328];with_reducible exact H) | (have H2_:=(Option.bind_some _ _).symm.trans H;rw [hy328];with_reducible exact H2_) | (have H2_:=(Option.bind_some _ _).symm.trans H;with_reducible exact H2_) | with_reducible exact H | (rw [hy328];exact H) | exact H
 have Ny328:=Aside0.mk hy328
 clear hy328
 have H':=Aside0.mk H
 clear H
 go_enter Try.func59,Try.ntmps59
 go_wp2_with (first | ((with_reducible refine gate_dst (N:=1) rfl ?_);refine box_event ?hg (N:=1) ?hd (cs := #[.int .i64 a0_0, .int .i64 a0_1, .int .i64 a0_2, .int .i64 a0_3, .slice A0_4 l0_4.length c0_4, .slice A0_5 l0_5.length c0_5, .slice A0_6 l0_6.length c0_6, .slice A0_7 l0_7.length c0_7, .int .i64 a0_8, .int .i64 a0_9]) (t:=32) ?hr ?_;(case hd => rfl);(case hg => rfl);(case hr => first | (go_simp;done) | (go_simp;rfl));intro gb325 hg w2 hbox hb;have n0_:=Aside0.mk (below_step (by repeat (first | (with_reducible first | exact HB.out | apply below_alloc | apply pw_below_drewN | apply below_drew1) | exact HB.out)) hb);have n1_:=Aside0.mk (hbox);have n2_:=Aside0.mk ((by rw [hg];exact (below_size (by repeat (first | (with_reducible first | exact HB.out | apply below_alloc | apply pw_below_drewN | apply below_drew1) | exact HB.out))) : w.heap.size ≤ gb325));have n3_:=Aside0.mk ((by rw [hg];exact (below_size (by repeat (first | (with_reducible first | exact HB.out | apply below_alloc | apply pw_below_drewN | apply below_drew1) | exact HB.out))) : w.heap.size ≤ gb325));clear HB;have HB:=n0_;have BK325:=n1_;have GW325:=n2_;have GE325:=n3_;clear n0_ n1_ n2_ n3_;clear hb hbox hg) | ((with_reducible refine gate_dst (N:=2) rfl ?_);refine box_event ?hg (N:=2) ?hd (cs := #[.int .i64 0, .int .i64 0, .int .i64 0, .int .i64 0, .slice none 0 0, .slice none 0 0, .slice none 0 0, .slice none 0 0, .int .i64 0, .int .i64 0]) (t:=32) ?hr ?_;(case hd => rfl);(case hg => rfl);(case hr => first | (go_simp;done) | (go_simp;rfl));intro gb326 hg w3 hbox hb;have n0_:=Aside0.mk (blk_below (g:=gb325) (o := .cells #[.int .i64 a0_0, .int .i64 a0_1, .int .i64 a0_2, .int .i64 a0_3, .slice A0_4 l0_4.length c0_4, .slice A0_5 l0_5.length c0_5, .slice A0_6 l0_6.length c0_6, .slice A0_7 l0_7.length c0_7, .int .i64 a0_8, .int .i64 a0_9] 32 (0,0)) (by (with_reducible repeat (first | refine blk_drewN ?_ _ | refine blk_drew ?_ | refine blk_alloc ?_ _));exact BK325.out) hb);have n1_:=Aside0.mk (below_step (by repeat (first | (with_reducible first | exact HB.out | apply below_alloc | apply pw_below_drewN | apply below_drew1 | refine below_set ?_ GE325.out) | exact HB.out)) hb);have n2_:=Aside0.mk (hbox);have n3_:=Aside0.mk ((by rw [hg];exact (below_size (by repeat (first | (with_reducible first | exact HB.out | apply below_alloc | apply pw_below_drewN | apply below_drew1 | refine below_set ?_ GE325.out) | exact HB.out))) : w.heap.size ≤ gb326));have n4_:=Aside0.mk ((by rw [hg];exact (below_size (by repeat (first | (with_reducible first | exact HB.out | apply below_alloc | apply pw_below_drewN | apply below_drew1 | refine below_set ?_ GE325.out) | exact HB.out))) : w.heap.size ≤ gb326));have n5_:=Aside0.mk ((by rw [hg];exact Nat.ne_of_lt (blk_lt (g:=gb325) (o := .cells #[.int .i64 a0_0, .int .i64 a0_1, .int .i64 a0_2, .int .i64 a0_3, .slice A0_4 l0_4.length c0_4, .slice A0_5 l0_5.length c0_5, .slice A0_6 l0_6.length c0_6, .slice A0_7 l0_7.length c0_7, .int .i64 a0_8, .int .i64 a0_9] 32 (0,0)) (by (with_reducible repeat (first | refine blk_drewN ?_ _ | refine blk_drew ?_ | refine blk_alloc ?_ _));exact BK325.out)) : gb325 ≠ gb326));have n6_:=Aside0.mk ((by rw [hg];exact Nat.ne_of_gt (blk_lt (g:=gb325) (o := .cells #[.int .i64 a0_0, .int .i64 a0_1, .int .i64 a0_2, .int .i64 a0_3, .slice A0_4 l0_4.length c0_4, .slice A0_5 l0_5.length c0_5, .slice A0_6 l0_6.length c0_6, .slice A0_7 l0_7.length c0_7, .int .i64 a0_8, .int .i64 a0_9] 32 (0,0)) (by (with_reducible repeat (first | refine blk_drewN ?_ _ | refine blk_drew ?_ | refine blk_alloc ?_ _));exact BK325.out)) : gb326 ≠ gb325));clear BK325;clear HB;have BK325:=n0_;have HB:=n1_;have BK326:=n2_;have GW326:=n3_;have GE326:=n4_;have NB325_326:=n5_;have NB326_325:=n6_;clear n0_ n1_ n2_ n3_ n4_ n5_ n6_;clear hb hbox hg;have hnb4:=NB325_326.out;have hnc4:=NB326_325.out;have hcz5_0 : w3.cell? ⟨gb325,0,none⟩ = some (.int .i64 a0_0):=(blk_cell BK325.out 0).trans rfl;have hcz5_1 : w3.cell? ⟨gb325,1,none⟩ = some (.int .i64 a0_1):=(blk_cell BK325.out 1).trans rfl;have hcz5_2 : w3.cell? ⟨gb325,2,none⟩ = some (.int .i64 a0_2):=(blk_cell BK325.out 2).trans rfl;have hcz5_3 : w3.cell? ⟨gb325,3,none⟩ = some (.int .i64 a0_3):=(blk_cell BK325.out 3).trans rfl;have hcz5_4 : w3.cell? ⟨gb325,4,none⟩ = some (.slice A0_4 l0_4.length c0_4):=(blk_cell BK325.out 4).trans rfl;have hcz5_5 : w3.cell? ⟨gb325,5,none⟩ = some (.slice A0_5 l0_5.length c0_5):=(blk_cell BK325.out 5).trans rfl;have hcz5_6 : w3.cell? ⟨gb325,6,none⟩ = some (.slice A0_6 l0_6.length c0_6):=(blk_cell BK325.out 6).trans rfl;have hcz5_7 : w3.cell? ⟨gb325,7,none⟩ = some (.slice A0_7 l0_7.length c0_7):=(blk_cell BK325.out 7).trans rfl;have hcz5_8 : w3.cell? ⟨gb325,8,none⟩ = some (.int .i64 a0_8):=(blk_cell BK325.out 8).trans rfl;have hcz5_9 : w3.cell? ⟨gb325,9,none⟩ = some (.int .i64 a0_9):=(blk_cell BK325.out 9).trans rfl;have hfz5_0:=blk_frozen BK325.out 0;have hfz5_1:=blk_frozen BK325.out 1;have hfz5_2:=blk_frozen BK325.out 2;have hfz5_3:=blk_frozen BK325.out 3;have hfz5_4:=blk_frozen BK325.out 4;have hfz5_5:=blk_frozen BK325.out 5;have hfz5_6:=blk_frozen BK325.out 6;have hfz5_7:=blk_frozen BK325.out 7;have hfz5_8:=blk_frozen BK325.out 8;have hfz5_9:=blk_frozen BK325.out 9) | ((with_reducible refine gate_dst (N:=3) rfl ?_);refine box_event ?hg (N:=3) ?hd (cs := #[.int .i64 0, .int .i64 0, .int .i64 0, .int .i64 0, .slice none 0 0, .slice none 0 0, .slice none 0 0, .slice none 0 0, .int .i64 0, .int .i64 0]) (t:=32) ?hr ?_;(case hd => rfl);(case hg => rfl);(case hr => first | (go_simp;done) | (go_simp;rfl));intro gb327 hg w6 hbox hb;have n0_:=Aside0.mk (blk_below (g:=gb325) (o := .cells #[.int .i64 a0_0, .int .i64 a0_1, .int .i64 a0_2, .int .i64 a0_3, .slice A0_4 l0_4.length c0_4, .slice A0_5 l0_5.length c0_5, .slice A0_6 l0_6.length c0_6, .slice A0_7 l0_7.length c0_7, .int .i64 a0_8, .int .i64 a0_9] 32 (0,0)) (by (with_reducible repeat (first | refine blk_drewN ?_ _ | refine blk_drew ?_ | refine blk_alloc ?_ _));exact BK325.out) hb);have n1_:=Aside0.mk (blk_below (g:=gb326) (o := .cells #[.int .i64 0, .int .i64 0, .int .i64 0, .int .i64 0, .slice none 0 0, .slice none 0 0, .slice none 0 0, .slice none 0 0, .int .i64 0, .int .i64 0] 32 (0,0)) (by (with_reducible repeat (first | refine blk_drewN ?_ _ | refine blk_drew ?_ | refine blk_alloc ?_ _));exact BK326.out) hb);have n2_:=Aside0.mk (below_step (by repeat (first | (with_reducible first | exact HB.out | apply below_alloc | apply pw_below_drewN | apply below_drew1 | refine below_set ?_ GE325.out | refine below_set ?_ GE326.out) | exact HB.out)) hb);have n3_:=Aside0.mk (hbox);have n4_:=Aside0.mk ((by rw [hg];exact (below_size (by repeat (first | (with_reducible first | exact HB.out | apply below_alloc | apply pw_below_drewN | apply below_drew1 | refine below_set ?_ GE325.out | refine below_set ?_ GE326.out) | exact HB.out))) : w.heap.size ≤ gb327));have n5_:=Aside0.mk ((by rw [hg];exact (below_size (by repeat (first | (with_reducible first | exact HB.out | apply below_alloc | apply pw_below_drewN | apply below_drew1 | refine below_set ?_ GE325.out | refine below_set ?_ GE326.out) | exact HB.out))) : w.heap.size ≤ gb327));have n6_:=Aside0.mk ((by rw [hg];exact Nat.ne_of_lt (blk_lt (g:=gb325) (o := .cells #[.int .i64 a0_0, .int .i64 a0_1, .int .i64 a0_2, .int .i64 a0_3, .slice A0_4 l0_4.length c0_4, .slice A0_5 l0_5.length c0_5, .slice A0_6 l0_6.length c0_6, .slice A0_7 l0_7.length c0_7, .int .i64 a0_8, .int .i64 a0_9] 32 (0,0)) (by (with_reducible repeat (first | refine blk_drewN ?_ _ | refine blk_drew ?_ | refine blk_alloc ?_ _));exact BK325.out)) : gb325 ≠ gb327));have n7_:=Aside0.mk ((by rw [hg];exact Nat.ne_of_gt (blk_lt (g:=gb325) (o := .cells #[.int .i64 a0_0, .int .i64 a0_1, .int .i64 a0_2, .int .i64 a0_3, .slice A0_4 l0_4.length c0_4, .slice A0_5 l0_5.length c0_5, .slice A0_6 l0_6.length c0_6, .slice A0_7 l0_7.length c0_7, .int .i64 a0_8, .int .i64 a0_9] 32 (0,0)) (by (with_reducible repeat (first | refine blk_drewN ?_ _ | refine blk_drew ?_ | refine blk_alloc ?_ _));exact BK325.out)) : gb327 ≠ gb325));have n8_:=Aside0.mk ((by rw [hg];exact Nat.ne_of_lt (blk_lt (g:=gb326) (o := .cells #[.int .i64 0, .int .i64 0, .int .i64 0, .int .i64 0, .slice none 0 0, .slice none 0 0, .slice none 0 0, .slice none 0 0, .int .i64 0, .int .i64 0] 32 (0,0)) (by (with_reducible repeat (first | refine blk_drewN ?_ _ | refine blk_drew ?_ | refine blk_alloc ?_ _));exact BK326.out)) : gb326 ≠ gb327));have n9_:=Aside0.mk ((by rw [hg];exact Nat.ne_of_gt (blk_lt (g:=gb326) (o := .cells #[.int .i64 0, .int .i64 0, .int .i64 0, .int .i64 0, .slice none 0 0, .slice none 0 0, .slice none 0 0, .slice none 0 0, .int .i64 0, .int .i64 0] 32 (0,0)) (by (with_reducible repeat (first | refine blk_drewN ?_ _ | refine blk_drew ?_ | refine blk_alloc ?_ _));exact BK326.out)) : gb327 ≠ gb326));clear BK325;clear BK326;clear HB;have BK325:=n0_;have BK326:=n1_;have HB:=n2_;have BK327:=n3_;have GW327:=n4_;have GE327:=n5_;have NB325_327:=n6_;have NB327_325:=n7_;have NB326_327:=n8_;have NB327_326:=n9_;clear n0_ n1_ n2_ n3_ n4_ n5_ n6_ n7_ n8_ n9_;clear hb hbox hg;have hnb7:=NB327_325.out;have hnc7:=NB325_327.out;have hnb8:=NB327_326.out;have hnc8:=NB326_327.out;have hcz9_0 : w6.cell? ⟨gb327,0,none⟩ = some (.int .i64 0):=(blk_cell BK327.out 0).trans rfl;have hcz9_1 : w6.cell? ⟨gb327,1,none⟩ = some (.int .i64 0):=(blk_cell BK327.out 1).trans rfl;have hcz9_2 : w6.cell? ⟨gb327,2,none⟩ = some (.int .i64 0):=(blk_cell BK327.out 2).trans rfl;have hcz9_3 : w6.cell? ⟨gb327,3,none⟩ = some (.int .i64 0):=(blk_cell BK327.out 3).trans rfl;have hcz9_4 : w6.cell? ⟨gb327,4,none⟩ = some (.slice none 0 0):=(blk_cell BK327.out 4).trans rfl;have hcz9_5 : w6.cell? ⟨gb327,5,none⟩ = some (.slice none 0 0):=(blk_cell BK327.out 5).trans rfl;have hcz9_6 : w6.cell? ⟨gb327,6,none⟩ = some (.slice none 0 0):=(blk_cell BK327.out 6).trans rfl;have hcz9_7 : w6.cell? ⟨gb327,7,none⟩ = some (.slice none 0 0):=(blk_cell BK327.out 7).trans rfl;have hcz9_8 : w6.cell? ⟨gb327,8,none⟩ = some (.int .i64 0):=(blk_cell BK327.out 8).trans rfl;have hcz9_9 : w6.cell? ⟨gb327,9,none⟩ = some (.int .i64 0):=(blk_cell BK327.out 9).trans rfl;have hfz9_0:=blk_frozen BK327.out 0;have hfz9_1:=blk_frozen BK327.out 1;have hfz9_2:=blk_frozen BK327.out 2;have hfz9_3:=blk_frozen BK327.out 3;have hfz9_4:=blk_frozen BK327.out 4;have hfz9_5:=blk_frozen BK327.out 5;have hfz9_6:=blk_frozen BK327.out 6;have hfz9_7:=blk_frozen BK327.out 7;have hfz9_8:=blk_frozen BK327.out 8;have hfz9_9:=blk_frozen BK327.out 9) | ((with_reducible refine gate_dst (N:=8) rfl ?_);refine Kd.R_lit k89 _ 89 ?hg (N:=8) ?hd (xs:=([] : List (S89))) (inner := []) (ok:=fun _ => True) (okp:=fun _ => True) ?hr ?hp (fun _ hk => hk) trivial (Below.refl _ _) (Nat.le_refl _) (by simp) ?_;(case hd => rfl);(case hg => rfl);(case hr => first | (go_simp;done) | (go_simp;rfl));(case hp => exact (Reps.none _ _));intro v329 w10 ho11 hb hg_ hnew_;clear hg_ hnew_;(first | rw [← Ny328.out] at ho11 | (simp only [Int.reduceToNat] at ho11;rw [← Ny328.out] at ho11));have n0_:=Aside0.mk (Kd.R_lower ho11 (below_size (by repeat (first | (with_reducible first | exact HB.out | apply below_alloc | apply pw_below_drewN | apply below_drew1 | refine below_set ?_ GE325.out | refine below_set ?_ GE326.out | refine below_set ?_ GE327.out) | exact HB.out))));have n1_:=Aside0.mk (blk_below (g:=gb325) (o := .cells #[.int .i64 a0_0, .int .i64 a0_1, .int .i64 a0_2, .int .i64 a0_3, .slice A0_4 l0_4.length c0_4, .slice A0_5 l0_5.length c0_5, .slice A0_6 l0_6.length c0_6, .slice A0_7 l0_7.length c0_7, .int .i64 a0_8, .int .i64 a0_9] 32 (0,0)) (by (with_reducible repeat (first | refine blk_drewN ?_ _ | refine blk_drew ?_ | refine blk_alloc ?_ _));refine blk_far ?_ NB325_327.out _;(with_reducible repeat (first | refine blk_drewN ?_ _ | refine blk_drew ?_ | refine blk_alloc ?_ _));refine blk_far ?_ NB325_327.out _;(with_reducible repeat (first | refine blk_drewN ?_ _ | refine blk_drew ?_ | refine blk_alloc ?_ _));refine blk_far ?_ NB325_327.out _;(with_reducible repeat (first | refine blk_drewN ?_ _ | refine blk_drew ?_ | refine blk_alloc ?_ _));refine blk_far ?_ NB325_327.out _;(with_reducible repeat (first | refine blk_drewN ?_ _ | refine blk_drew ?_ | refine blk_alloc ?_ _));refine blk_far ?_ NB325_327.out _;(with_reducible repeat (first | refine blk_drewN ?_ _ | refine blk_drew ?_ | refine blk_alloc ?_ _));refine blk_far ?_ NB325_327.out _;(with_reducible repeat (first | refine blk_drewN ?_ _ | refine blk_drew ?_ | refine blk_alloc ?_ _));refine blk_far ?_ NB325_327.out _;(with_reducible repeat (first | refine blk_drewN ?_ _ | refine blk_drew ?_ | refine blk_alloc ?_ _));refine blk_far ?_ NB325_327.out _;(with_reducible repeat (first | refine blk_drewN ?_ _ | refine blk_drew ?_ | refine blk_alloc ?_ _));refine blk_far ?_ NB325_327.out _;(with_reducible repeat (first | refine blk_drewN ?_ _ | refine blk_drew ?_ | refine blk_alloc ?_ _));refine blk_far ?_ NB325_327.out _;(with_reducible repeat (first | refine blk_drewN ?_ _ | refine blk_drew ?_ | refine blk_alloc ?_ _));exact BK325.out) hb);have n2_:=Aside0.mk (blk_below (g:=gb326) (o := .cells #[.int .i64 0, .int .i64 0, .int .i64 0, .int .i64 0, .slice none 0 0, .slice none 0 0, .slice none 0 0, .slice none 0 0, .int .i64 0, .int .i64 0] 32 (0,0)) (by (with_reducible repeat (first | refine blk_drewN ?_ _ | refine blk_drew ?_ | refine blk_alloc ?_ _));refine blk_far ?_ NB326_327.out _;(with_reducible repeat (first | refine blk_drewN ?_ _ | refine blk_drew ?_ | refine blk_alloc ?_ _));refine blk_far ?_ NB326_327.out _;(with_reducible repeat (first | refine blk_drewN ?_ _ | refine blk_drew ?_ | refine blk_alloc ?_ _));refine blk_far ?_ NB326_327.out _;(with_reducible repeat (first | refine blk_drewN ?_ _ | refine blk_drew ?_ | refine blk_alloc ?_ _));refine blk_far ?_ NB326_327.out _;(with_reducible repeat (first | refine blk_drewN ?_ _ | refine blk_drew ?_ | refine blk_alloc ?_ _));refine blk_far ?_ NB326_327.out _;(with_reducible repeat (first | refine blk_drewN ?_ _ | refine blk_drew ?_ | refine blk_alloc ?_ _));refine blk_far ?_ NB326_327.out _;(with_reducible repeat (first | refine blk_drewN ?_ _ | refine blk_drew ?_ | refine blk_alloc ?_ _));refine blk_far ?_ NB326_327.out _;(with_reducible repeat (first | refine blk_drewN ?_ _ | refine blk_drew ?_ | refine blk_alloc ?_ _));refine blk_far ?_ NB326_327.out _;(with_reducible repeat (first | refine blk_drewN ?_ _ | refine blk_drew ?_ | refine blk_alloc ?_ _));refine blk_far ?_ NB326_327.out _;(with_reducible repeat (first | refine blk_drewN ?_ _ | refine blk_drew ?_ | refine blk_alloc ?_ _));refine blk_far ?_ NB326_327.out _;(with_reducible repeat (first | refine blk_drewN ?_ _ | refine blk_drew ?_ | refine blk_alloc ?_ _));exact BK326.out) hb);have n3_:=Aside0.mk (blk_below (g:=gb327) (o := .cells #[.int .i64 a0_0, .int .i64 a0_1, .int .i64 a0_2, .int .i64 a0_3, .slice A0_4 l0_4.length c0_4, .slice A0_5 l0_5.length c0_5, .slice A0_6 l0_6.length c0_6, .slice A0_7 l0_7.length c0_7, .int .i64 a0_8, .int .i64 a0_9] 32 (0,0)) (by (with_reducible repeat (first | refine blk_drewN ?_ _ | refine blk_drew ?_ | refine blk_alloc ?_ _));refine blk_put (cs := #[.int .i64 a0_0, .int .i64 a0_1, .int .i64 a0_2, .int .i64 a0_3, .slice A0_4 l0_4.length c0_4, .slice A0_5 l0_5.length c0_5, .slice A0_6 l0_6.length c0_6, .slice A0_7 l0_7.length c0_7, .int .i64 a0_8, .int .i64 0]) ?_ 9 _ rfl;(with_reducible repeat (first | refine blk_drewN ?_ _ | refine blk_drew ?_ | refine blk_alloc ?_ _));refine blk_put (cs := #[.int .i64 a0_0, .int .i64 a0_1, .int .i64 a0_2, .int .i64 a0_3, .slice A0_4 l0_4.length c0_4, .slice A0_5 l0_5.length c0_5, .slice A0_6 l0_6.length c0_6, .slice A0_7 l0_7.length c0_7, .int .i64 0, .int .i64 0]) ?_ 8 _ rfl;(with_reducible repeat (first | refine blk_drewN ?_ _ | refine blk_drew ?_ | refine blk_alloc ?_ _));refine blk_put (cs := #[.int .i64 a0_0, .int .i64 a0_1, .int .i64 a0_2, .int .i64 a0_3, .slice A0_4 l0_4.length c0_4, .slice A0_5 l0_5.length c0_5, .slice A0_6 l0_6.length c0_6, .slice none 0 0, .int .i64 0, .int .i64 0]) ?_ 7 _ rfl;(with_reducible repeat (first | refine blk_drewN ?_ _ | refine blk_drew ?_ | refine blk_alloc ?_ _));refine blk_put (cs := #[.int .i64 a0_0, .int .i64 a0_1, .int .i64 a0_2, .int .i64 a0_3, .slice A0_4 l0_4.length c0_4, .slice A0_5 l0_5.length c0_5, .slice none 0 0, .slice none 0 0, .int .i64 0, .int .i64 0]) ?_ 6 _ rfl;(with_reducible repeat (first | refine blk_drewN ?_ _ | refine blk_drew ?_ | refine blk_alloc ?_ _));refine blk_put (cs := #[.int .i64 a0_0, .int .i64 a0_1, .int .i64 a0_2, .int .i64 a0_3, .slice A0_4 l0_4.length c0_4, .slice none 0 0, .slice none 0 0, .slice none 0 0, .int .i64 0, .int .i64 0]) ?_ 5 _ rfl;(with_reducible repeat (first | refine blk_drewN ?_ _ | refine blk_drew ?_ | refine blk_alloc ?_ _));refine blk_put (cs := #[.int .i64 a0_0, .int .i64 a0_1, .int .i64 a0_2, .int .i64 a0_3, .slice none 0 0, .slice none 0 0, .slice none 0 0, .slice none 0 0, .int .i64 0, .int .i64 0]) ?_ 4 _ rfl;(with_reducible repeat (first | refine blk_drewN ?_ _ | refine blk_drew ?_ | refine blk_alloc ?_ _));refine blk_put (cs := #[.int .i64 a0_0, .int .i64 a0_1, .int .i64 a0_2, .int .i64 0, .slice none 0 0, .slice none 0 0, .slice none 0 0, .slice none 0 0, .int .i64 0, .int .i64 0]) ?_ 3 _ rfl;(with_reducible repeat (first | refine blk_drewN ?_ _ | refine blk_drew ?_ | refine blk_alloc ?_ _));refine blk_put (cs := #[.int .i64 a0_0, .int .i64 a0_1, .int .i64 0, .int .i64 0, .slice none 0 0, .slice none 0 0, .slice none 0 0, .slice none 0 0, .int .i64 0, .int .i64 0]) ?_ 2 _ rfl;(with_reducible repeat (first | refine blk_drewN ?_ _ | refine blk_drew ?_ | refine blk_alloc ?_ _));refine blk_put (cs := #[.int .i64 a0_0, .int .i64 0, .int .i64 0, .int .i64 0, .slice none 0 0, .slice none 0 0, .slice none 0 0, .slice none 0 0, .int .i64 0, .int .i64 0]) ?_ 1 _ rfl;(with_reducible repeat (first | refine blk_drewN ?_ _ | refine blk_drew ?_ | refine blk_alloc ?_ _));refine blk_put (cs := #[.int .i64 0, .int .i64 0, .int .i64 0, .int .i64 0, .slice none 0 0, .slice none 0 0, .slice none 0 0, .slice none 0 0, .int .i64 0, .int .i64 0]) ?_ 0 _ rfl;(with_reducible repeat (first | refine blk_drewN ?_ _ | refine blk_drew ?_ | refine blk_alloc ?_ _));exact BK327.out) hb);have n4_:=Aside0.mk (below_step (by repeat (first | (with_reducible first | exact HB.out | apply below_alloc | apply pw_below_drewN | apply below_drew1 | refine below_set ?_ GE325.out | refine below_set ?_ GE326.out | refine below_set ?_ GE327.out) | exact HB.out)) hb);clear BK325;clear BK326;clear BK327;clear HB;have HO330:=n0_;have BK325:=n1_;have BK326:=n2_;have BK327:=n3_;have HB:=n4_;clear n0_ n1_ n2_ n3_ n4_;clear hb ho11;obtain ⟨Ao12,co12,eo12⟩:=Kd.R_slice HO330.out;subst eo12;have hcz13_0 : w10.cell? ⟨gb327,0,none⟩ = some (.int .i64 a0_0):=(blk_cell BK327.out 0).trans rfl;have hcz13_1 : w10.cell? ⟨gb327,1,none⟩ = some (.int .i64 a0_1):=(blk_cell BK327.out 1).trans rfl;have hcz13_2 : w10.cell? ⟨gb327,2,none⟩ = some (.int .i64 a0_2):=(blk_cell BK327.out 2).trans rfl;have hcz13_3 : w10.cell? ⟨gb327,3,none⟩ = some (.int .i64 a0_3):=(blk_cell BK327.out 3).trans rfl;have hcz13_4 : w10.cell? ⟨gb327,4,none⟩ = some (.slice A0_4 l0_4.length c0_4):=(blk_cell BK327.out 4).trans rfl;have hcz13_5 : w10.cell? ⟨gb327,5,none⟩ = some (.slice A0_5 l0_5.length c0_5):=(blk_cell BK327.out 5).trans rfl;have hcz13_6 : w10.cell? ⟨gb327,6,none⟩ = some (.slice A0_6 l0_6.length c0_6):=(blk_cell BK327.out 6).trans rfl;have hcz13_7 : w10.cell? ⟨gb327,7,none⟩ = some (.slice A0_7 l0_7.length c0_7):=(blk_cell BK327.out 7).trans rfl;have hcz13_8 : w10.cell? ⟨gb327,8,none⟩ = some (.int .i64 a0_8):=(blk_cell BK327.out 8).trans rfl;have hcz13_9 : w10.cell? ⟨gb327,9,none⟩ = some (.int .i64 a0_9):=(blk_cell BK327.out 9).trans rfl;have hfz13_0:=blk_frozen BK327.out 0;have hfz13_1:=blk_frozen BK327.out 1;have hfz13_2:=blk_frozen BK327.out 2;have hfz13_3:=blk_frozen BK327.out 3;have hfz13_4:=blk_frozen BK327.out 4;have hfz13_5:=blk_frozen BK327.out 5;have hfz13_6:=blk_frozen BK327.out 6;have hfz13_7:=blk_frozen BK327.out 7;have hfz13_8:=blk_frozen BK327.out 8;have hfz13_9:=blk_frozen BK327.out 9))
 go_loopg [4] k (fun kq v4 w' => ∃ (x4_1 : Int) (x328004_1 : List (S89)) (u328004 : Value),v4 = .int .i64 x4_1 ∧ Aside0 (spec_l3copy.l0 kq x4_1 a0_0 a0_1 a0_2 a0_3 l0_4 l0_5 l0_6 l0_7 a0_8 a0_9 a0_0 a0_1 a0_2 a0_3 x328004_1 l0_5 l0_6 l0_7 a0_8 a0_9 = some (r1,r2,r3,r4,r5,r6,r7,r8,r9,r10)) ∧ Aside0 (kq ≤ k) ∧ Aside0 (Kd.R k89 89 w' w.heap.size (fun _ => True) u328004 x328004_1) ∧ Aside0 (w'.heap[gb325]? = some (.cells #[.int .i64 a0_0, .int .i64 a0_1, .int .i64 a0_2, .int .i64 a0_3,(.slice A0_4 l0_4.length c0_4),(.slice A0_5 l0_5.length c0_5),(.slice A0_6 l0_6.length c0_6),(.slice A0_7 l0_7.length c0_7), .int .i64 a0_8, .int .i64 a0_9] 32 (0,0))) ∧ Aside0 (w'.heap[gb326]? = some (.cells #[.int .i64 0, .int .i64 0, .int .i64 0, .int .i64 0,(.slice none 0 0),(.slice none 0 0),(.slice none 0 0),(.slice none 0 0), .int .i64 0, .int .i64 0] 32 (0,0))) ∧ Aside0 (w'.heap[gb327]? = some (.cells #[.int .i64 a0_0, .int .i64 a0_1, .int .i64 a0_2, .int .i64 a0_3,u328004,(.slice A0_5 l0_5.length c0_5),(.slice A0_6 l0_6.length c0_6),(.slice A0_7 l0_7.length c0_7), .int .i64 a0_8, .int .i64 a0_9] 32 (0,0))) ∧ Aside0 (Below w.heap.size w w'))
 case atStart => exact ⟨(0),(y328),(.slice Ao12 y328.length co12),(by first | rfl | (simp;done) | (simp [*];done)),H',⟨Nat.le_refl _⟩,⟨by (with_reducible repeat (first | apply Kd.R_alloc | apply Kd.R_drewN | apply Kd.R_drew));exact Kd.R_mono (Kd.R_far (p:=⟨gb327,4,none⟩) (Kd.R_types HO330.out BK327.out (by decide)) (fun _ hk => hk.2) (.slice Ao12 y328.length co12)) (fun _ hk => trivial)⟩,⟨by (with_reducible repeat (first | refine blk_drewN ?_ _ | refine blk_drew ?_ | refine blk_alloc ?_ _));refine blk_far ?_ NB325_327.out _;(with_reducible repeat (first | refine blk_drewN ?_ _ | refine blk_drew ?_ | refine blk_alloc ?_ _));exact BK325.out⟩,⟨by (with_reducible repeat (first | refine blk_drewN ?_ _ | refine blk_drew ?_ | refine blk_alloc ?_ _));refine blk_far ?_ NB326_327.out _;(with_reducible repeat (first | refine blk_drewN ?_ _ | refine blk_drew ?_ | refine blk_alloc ?_ _));exact BK326.out⟩,⟨by (with_reducible repeat (first | refine blk_drewN ?_ _ | refine blk_drew ?_ | refine blk_alloc ?_ _));refine blk_put (cs := #[.int .i64 a0_0, .int .i64 a0_1, .int .i64 a0_2, .int .i64 a0_3, .slice A0_4 l0_4.length c0_4, .slice A0_5 l0_5.length c0_5, .slice A0_6 l0_6.length c0_6, .slice A0_7 l0_7.length c0_7, .int .i64 a0_8, .int .i64 a0_9]) ?_ 4 _ rfl;(with_reducible repeat (first | refine blk_drewN ?_ _ | refine blk_drew ?_ | refine blk_alloc ?_ _));exact BK327.out⟩,⟨by repeat (first | (with_reducible first | exact HB.out | apply below_alloc | apply pw_below_drewN | apply below_drew1 | refine below_set ?_ GE325.out | refine below_set ?_ GE326.out | refine below_set ?_ GE327.out) | exact HB.out)⟩⟩
 case round =>
  clear H'
  try clear p2
  try clear c4
  try clear c5
  try clear c7
  try clear c8
  try clear hcz13_0
  try clear hcz13_1
  try clear hcz13_2
  try clear hcz13_3
  try clear hcz13_4
  try clear hcz13_5
  try clear hcz13_6
  try clear hcz13_7
  try clear hcz13_8
  try clear hcz13_9
  try clear hcz5_0
  try clear hcz5_1
  try clear hcz5_2
  try clear hcz5_3
  try clear hcz5_4
  try clear hcz5_5
  try clear hcz5_6
  try clear hcz5_7
  try clear hcz5_8
  try clear hcz5_9
  try clear hcz9_0
  try clear hcz9_1
  try clear hcz9_2
  try clear hcz9_3
  try clear hcz9_4
  try clear hcz9_5
  try clear hcz9_6
  try clear hcz9_7
  try clear hcz9_8
  try clear hcz9_9
  try clear hfz13_0
  try clear hfz13_1
  try clear hfz13_2
  try clear hfz13_3
  try clear hfz13_4
  try clear hfz13_5
  try clear hfz13_6
  try clear hfz13_7
  try clear hfz13_8
  try clear hfz13_9
  try clear hfz5_0
  try clear hfz5_1
  try clear hfz5_2
  try clear hfz5_3
  try clear hfz5_4
  try clear hfz5_5
  try clear hfz5_6
  try clear hfz5_7
  try clear hfz5_8
  try clear hfz5_9
  try clear hfz9_0
  try clear hfz9_1
  try clear hfz9_2
  try clear hfz9_3
  try clear hfz9_4
  try clear hfz9_5
  try clear hfz9_6
  try clear hfz9_7
  try clear hfz9_8
  try clear hfz9_9
  (try clear BK325)
  (try clear BK326)
  (try clear BK327)
  obtain ⟨x4_1,x328004_1,u328004,rfl,HA,HK1,HO_328004,BK325,BK326,BK327,HB⟩:=hrel
  cases gk with
  | zero => exact absurd HA.out (by simp [spec_l3copy.l0])
  | succ k1 =>
   have H:=HA.out
   clear HA
   simp only [spec_l3copy.l0] at H
   by_cases c14 : x4_1 < (l0_4.length : Int)
   ·rw [if_pos c14] at H
    have c14b0 : decide (x4_1 < (l0_4.length : Int)) = true:=decide_eq_true c14
    clear c14
    by_cases c15 : 0 ≤ x4_1
    ·rw [if_pos c15] at H
     have c15b0 : decide (0 ≤ x4_1) = true:=decide_eq_true c15
     clear c15
     by_cases c16 : x328004_1.length < 11728124029610
     ·rw [if_pos c16] at H
      have LMc16:=Aside0.mk c16
      clear c16
      obtain ⟨y332,hy332⟩ : ∃ y_ : List (S89),y_ = (x328004_1 ++ [(⟨(rd_T89 l0_4 x4_1).f0,(rd_T89 l0_4 x4_1).f1,(rd_T89 l0_4 x4_1).f2⟩ : S89)]):=⟨_,rfl⟩
      replace H : (spec_l3copy.l0 k1 (wrap64 (x4_1 + 1)) a0_0 a0_1 a0_2 a0_3 l0_4 l0_5 l0_6 l0_7 a0_8 a0_9 a0_0 a0_1 a0_2 a0_3 y332 l0_5 l0_6 l0_7 a0_8 a0_9) = some (r1,r2,r3,r4,r5,r6,r7,r8,r9,r10):=by first | (rw [hy332];with_reducible exact H) | (have H2_:=(Option.bind_some _ _).symm.trans H;rw [hy332];with_reducible exact H2_) | (have H2_:=(Option.bind_some _ _).symm.trans H;with_reducible exact H2_) | with_reducible exact H | (rw [hy332];exact H) | exact H
      have Ny332:=Aside0.mk hy332
      clear hy332
      have H':=Aside0.mk H
      clear H
      have hnb17:=NB325_326.out
      have hnc17:=NB326_325.out
      have hnb18:=NB325_327.out
      have hnc18:=NB327_325.out
      have hcz19_0 : wr.cell? ⟨gb325,0,none⟩ = some (.int .i64 a0_0):=(blk_cell BK325.out 0).trans rfl
      have hcz19_1 : wr.cell? ⟨gb325,1,none⟩ = some (.int .i64 a0_1):=(blk_cell BK325.out 1).trans rfl
      have hcz19_2 : wr.cell? ⟨gb325,2,none⟩ = some (.int .i64 a0_2):=(blk_cell BK325.out 2).trans rfl
      have hcz19_3 : wr.cell? ⟨gb325,3,none⟩ = some (.int .i64 a0_3):=(blk_cell BK325.out 3).trans rfl
      have hcz19_4 : wr.cell? ⟨gb325,4,none⟩ = some (.slice A0_4 l0_4.length c0_4):=(blk_cell BK325.out 4).trans rfl
      have hcz19_5 : wr.cell? ⟨gb325,5,none⟩ = some (.slice A0_5 l0_5.length c0_5):=(blk_cell BK325.out 5).trans rfl
      have hcz19_6 : wr.cell? ⟨gb325,6,none⟩ = some (.slice A0_6 l0_6.length c0_6):=(blk_cell BK325.out 6).trans rfl
      have hcz19_7 : wr.cell? ⟨gb325,7,none⟩ = some (.slice A0_7 l0_7.length c0_7):=(blk_cell BK325.out 7).trans rfl
      have hcz19_8 : wr.cell? ⟨gb325,8,none⟩ = some (.int .i64 a0_8):=(blk_cell BK325.out 8).trans rfl
      have hcz19_9 : wr.cell? ⟨gb325,9,none⟩ = some (.int .i64 a0_9):=(blk_cell BK325.out 9).trans rfl
      have hfz19_0:=blk_frozen BK325.out 0
      have hfz19_1:=blk_frozen BK325.out 1
      have hfz19_2:=blk_frozen BK325.out 2
      have hfz19_3:=blk_frozen BK325.out 3
      have hfz19_4:=blk_frozen BK325.out 4
      have hfz19_5:=blk_frozen BK325.out 5
      have hfz19_6:=blk_frozen BK325.out 6
      have hfz19_7:=blk_frozen BK325.out 7
      have hfz19_8:=blk_frozen BK325.out 8
      have hfz19_9:=blk_frozen BK325.out 9
      try go_wp2
      have n0_:=Aside0.mk (Kd.R_drew HO_328004.out)
      have n1_:=Aside0.mk (blk_drew BK325.out)
      have n2_:=Aside0.mk (blk_drew BK326.out)
      have n3_:=Aside0.mk (blk_drew BK327.out)
      have n4_:=Aside0.mk (below_drew1 HB.out)
      clear HO_328004
      clear BK325
      clear BK326
      clear BK327
      clear HB
      have HO_328004:=n0_
      have BK325:=n1_
      have BK326:=n2_
      have BK327:=n3_
      have HB:=n4_
      clear n0_ n1_ n2_ n3_ n4_
      have p331 : 0 ≤ (x4_1 : Int):=of_decide_eq_true (by first | (with_reducible assumption) | assumption)
      have q331 : x4_1 < (l0_4.length : Int):=of_decide_eq_true (by first | (with_reducible assumption) | assumption)
      obtain ⟨ad331,e331,hx331_0,hx331_1,hx331_2⟩:=at_T89 HR0_4.out x4_1 p331 q331
      have hw331_2:=hx331_2
      have hw331_1:=hx331_1
      have hw331_0:=hx331_0
      cases e331
      replace hx331_0:=(HB.out.cell (World.block_lt_of_cell? w _ hx331_0)).trans hx331_0
      replace hx331_1:=(HB.out.cell (World.block_lt_of_cell? w _ hx331_1)).trans hx331_1
      replace hx331_2:=(HB.out.cell (World.block_lt_of_cell? w _ hx331_2)).trans hx331_2
      replace p331:=eq_true p331
      replace q331:=eq_true q331
      refine start_ (n:=11) (S:=fun w' => w'.cell? ⟨gb327,0,none⟩ = some (.int .i64 a0_0) ∧ w'.cell? ⟨gb327,1,none⟩ = some (.int .i64 a0_1) ∧ w'.cell? ⟨gb327,2,none⟩ = some (.int .i64 a0_2) ∧ w'.cell? ⟨gb327,3,none⟩ = some (.int .i64 a0_3) ∧ w'.cell? ⟨gb327,4,none⟩ = some (u328004) ∧ w'.cell? ⟨gb327,5,none⟩ = some (.slice A0_5 l0_5.length c0_5) ∧ w'.cell? ⟨gb327,6,none⟩ = some (.slice A0_6 l0_6.length c0_6) ∧ w'.cell? ⟨gb327,7,none⟩ = some (.slice A0_7 l0_7.length c0_7) ∧ w'.cell? ⟨gb327,8,none⟩ = some (.int .i64 a0_8) ∧ w'.cell? ⟨gb327,9,none⟩ = some (.int .i64 a0_9) ∧ w'.cell? ⟨gb325,0,none⟩ = some (.int .i64 a0_0) ∧ w'.cell? ⟨gb325,1,none⟩ = some (.int .i64 a0_1) ∧ w'.cell? ⟨gb325,2,none⟩ = some (.int .i64 a0_2) ∧ w'.cell? ⟨gb325,3,none⟩ = some (.int .i64 a0_3) ∧ w'.cell? ⟨gb325,4,none⟩ = some (.slice (some ad331) l0_4.length c0_4) ∧ w'.cell? ⟨gb325,5,none⟩ = some (.slice A0_5 l0_5.length c0_5) ∧ w'.cell? ⟨gb325,6,none⟩ = some (.slice A0_6 l0_6.length c0_6) ∧ w'.cell? ⟨gb325,7,none⟩ = some (.slice A0_7 l0_7.length c0_7) ∧ w'.cell? ⟨gb325,8,none⟩ = some (.int .i64 a0_8) ∧ w'.cell? ⟨gb325,9,none⟩ = some (.int .i64 a0_9) ∧ w'.cell? (ad331.add ((x4_1).toNat * 3)) = some (.bool ((rd_T89 l0_4 x4_1).f0)) ∧ w'.cell? ⟨(ad331.add ((x4_1).toNat * 3)).block,(ad331.add ((x4_1).toNat * 3)).off + 1,none⟩ = some (.int .u32 ((rd_T89 l0_4 x4_1).f1)) ∧ w'.cell? ⟨(ad331.add ((x4_1).toNat * 3)).block,(ad331.add ((x4_1).toNat * 3)).off + 2,none⟩ = some (.int .u32 ((rd_T89 l0_4 x4_1).f2))) (ds := [10]) #[false,false,false,false,false,false,false,false,false,false,false] (by kernel_rfl) rfl rfl ⟨(blk_cell BK327.out 0).trans rfl,(blk_cell BK327.out 1).trans rfl,(blk_cell BK327.out 2).trans rfl,(blk_cell BK327.out 3).trans rfl,(blk_cell BK327.out 4).trans rfl,(blk_cell BK327.out 5).trans rfl,(blk_cell BK327.out 6).trans rfl,(blk_cell BK327.out 7).trans rfl,(blk_cell BK327.out 8).trans rfl,(blk_cell BK327.out 9).trans rfl,(blk_cell BK325.out 0).trans rfl,(blk_cell BK325.out 1).trans rfl,(blk_cell BK325.out 2).trans rfl,(blk_cell BK325.out 3).trans rfl,(blk_cell BK325.out 4).trans rfl,(blk_cell BK325.out 5).trans rfl,(blk_cell BK325.out 6).trans rfl,(blk_cell BK325.out 7).trans rfl,(blk_cell BK325.out 8).trans rfl,(blk_cell BK325.out 9).trans rfl,((HB.out.cell (World.block_lt_of_cell? w _ hw331_0)).trans hw331_0),((HB.out.cell (World.block_lt_of_cell? w _ hw331_1)).trans hw331_1),((HB.out.cell (World.block_lt_of_cell? w _ hw331_2)).trans hw331_2)⟩ (fun hHeld => ?_);refine with_tabW spec_l3copy.tab6 spec_l3copy.bits6 (fun HT_ HW_ => ?_)
      generalize wr.drew = w20 at HO_328004 BK325 BK326 BK327 HB hx331_0 hx331_1 hx331_2 hHeld ⊢
      refine pure_ (i:=0) (N:=some 17) (v := ?_) (a' := ?_) #[true,false,false,false,false,false,false,false,false,false,false] rfl rfl (any_of HT_.out (by kernel_rfl)) (fun _ _ _ h => h) (Or.inl ⟨by rfl, ?_⟩) ?_ ?_
      rotate_left
      ·intro w'
       go_simp
       with_reducible rfl
      rotate_left
      ·simp only [Act.put,List.setIfInBounds_toArray,List.set_cons_zero,List.set_cons_succ,i64_w,i32_w]
       rfl
      refine pure_ (i:=2) (N:=some 19) (v := ?_) (a' := ?_) #[true,false,true,false,false,false,false,false,false,false,false] rfl rfl (any_of HT_.out (by kernel_rfl)) (fun _ _ _ h => h) (Or.inl ⟨by rfl, ?_⟩) ?_ ?_
      rotate_left
      ·intro w'
       go_simp
       with_reducible rfl
      rotate_left
      ·simp only [Act.put,List.setIfInBounds_toArray,List.set_cons_zero,List.set_cons_succ,i64_w,i32_w]
       rfl
      refine pure_ (i:=4) (N:=some 21) (v := ?_) (a' := ?_) #[true,false,true,false,true,false,false,false,false,false,false] rfl rfl (any_of HT_.out (by kernel_rfl)) (fun _ _ _ h => h) (Or.inl ⟨by rfl, ?_⟩) ?_ ?_
      rotate_left
      ·intro w'
       go_simp
       with_reducible rfl
      rotate_left
      ·simp only [Act.put,List.setIfInBounds_toArray,List.set_cons_zero,List.set_cons_succ,i64_w,i32_w]
       rfl
      refine take_ (i:=1) (N:=some 18) (v := ?_) (a' := ?_) #[true,true,true,false,true,false,false,false,false,false,false] rfl rfl (take_ofW HT_.out HW_.out (by kernel_rfl)) (fun _ _ _ h => h) (Or.inl ⟨by rfl, ?_⟩) hHeld ?_ ?_
      rotate_left
      ·rintro w' ⟨s0,s1,s2,s3,s4,s5,s6,s7,s8,s9,s10,s11,s12,s13,s14,s15,s16,s17,s18,s19,s20,s21,s22⟩
       go_simp
       with_reducible rfl
      rotate_left
      ·simp only [Act.put,List.setIfInBounds_toArray,List.set_cons_zero,List.set_cons_succ,i64_w,i32_w]
       rfl
      refine take_ (i:=3) (N:=some 20) (v := ?_) (a' := ?_) #[true,true,true,true,true,false,false,false,false,false,false] rfl rfl (take_ofW HT_.out HW_.out (by kernel_rfl)) (fun _ _ _ h => h) (Or.inl ⟨by rfl, ?_⟩) hHeld ?_ ?_
      rotate_left
      ·rintro w' ⟨s0,s1,s2,s3,s4,s5,s6,s7,s8,s9,s10,s11,s12,s13,s14,s15,s16,s17,s18,s19,s20,s21,s22⟩
       go_simp
       with_reducible rfl
      rotate_left
      ·simp only [Act.put,List.setIfInBounds_toArray,List.set_cons_zero,List.set_cons_succ,i64_w,i32_w]
       rfl
      refine pure_ (i:=5) (N:=some 22) (v := ?_) (a' := ?_) #[true,true,true,true,true,true,false,false,false,false,false] rfl rfl (any_of HT_.out (by kernel_rfl)) (fun _ _ _ h => h) (Or.inl ⟨by rfl, ?_⟩) ?_ ?_
      rotate_left
      ·intro w'
       go_simp
       with_reducible rfl
      rotate_left
      ·simp only [Act.put,List.setIfInBounds_toArray,List.set_cons_zero,List.set_cons_succ,i64_w,i32_w]
       rfl
      refine take_ (i:=6) (N:=some 23) (v := ?_) (a' := ?_) #[true,true,true,true,true,true,true,false,false,false,false] rfl rfl (take_ofW HT_.out HW_.out (by kernel_rfl)) (fun _ _ _ h => h) (Or.inl ⟨by rfl, ?_⟩) hHeld ?_ ?_
      rotate_left
      ·rintro w' ⟨s0,s1,s2,s3,s4,s5,s6,s7,s8,s9,s10,s11,s12,s13,s14,s15,s16,s17,s18,s19,s20,s21,s22⟩
       go_simp
       with_reducible rfl
      rotate_left
      ·simp only [Act.put,List.setIfInBounds_toArray,List.set_cons_zero,List.set_cons_succ,i64_w,i32_w]
       rfl
      refine one_ (i:=7) (N:=some 24) #[true,true,true,true,true,true,true,true,false,false,false] rfl rfl (one_of HT_.out (by kernel_rfl)) (by decide) (fun K hK => ?_)
      refine value_ (w1 := ?_) (v := ?_) (by rfl) rfl ?_ ?_
      rotate_left 2
      ·go_simp
       constructor
       ·rfl
       ·rfl
      refine hK.out _ _ ⟨(blk_cell (blk_alloc BK327.out _) 0).trans rfl,(blk_cell (blk_alloc BK327.out _) 1).trans rfl,(blk_cell (blk_alloc BK327.out _) 2).trans rfl,(blk_cell (blk_alloc BK327.out _) 3).trans rfl,(blk_cell (blk_alloc BK327.out _) 4).trans rfl,(blk_cell (blk_alloc BK327.out _) 5).trans rfl,(blk_cell (blk_alloc BK327.out _) 6).trans rfl,(blk_cell (blk_alloc BK327.out _) 7).trans rfl,(blk_cell (blk_alloc BK327.out _) 8).trans rfl,(blk_cell (blk_alloc BK327.out _) 9).trans rfl,(blk_cell (blk_alloc BK325.out _) 0).trans rfl,(blk_cell (blk_alloc BK325.out _) 1).trans rfl,(blk_cell (blk_alloc BK325.out _) 2).trans rfl,(blk_cell (blk_alloc BK325.out _) 3).trans rfl,(blk_cell (blk_alloc BK325.out _) 4).trans rfl,(blk_cell (blk_alloc BK325.out _) 5).trans rfl,(blk_cell (blk_alloc BK325.out _) 6).trans rfl,(blk_cell (blk_alloc BK325.out _) 7).trans rfl,(blk_cell (blk_alloc BK325.out _) 8).trans rfl,(blk_cell (blk_alloc BK325.out _) 9).trans rfl,(World.cell?_alloc_lt _ _ _ (World.block_lt_of_cell? _ _ (((HB.out.cell (World.block_lt_of_cell? w _ hw331_0)).trans hw331_0)))).trans (((HB.out.cell (World.block_lt_of_cell? w _ hw331_0)).trans hw331_0)),(World.cell?_alloc_lt _ _ _ (World.block_lt_of_cell? _ _ (((HB.out.cell (World.block_lt_of_cell? w _ hw331_1)).trans hw331_1)))).trans (((HB.out.cell (World.block_lt_of_cell? w _ hw331_1)).trans hw331_1)),(World.cell?_alloc_lt _ _ _ (World.block_lt_of_cell? _ _ (((HB.out.cell (World.block_lt_of_cell? w _ hw331_2)).trans hw331_2)))).trans (((HB.out.cell (World.block_lt_of_cell? w _ hw331_2)).trans hw331_2))⟩ (fun hHeld => ?_)
      clear hK K
      refine norm_ (a' := ?_) ?_ ?_
      rotate_left
      ·show Act.put _ (some 24) _ = _
       simp only [Act.put,List.setIfInBounds_toArray,List.set_cons_zero,List.set_cons_succ,i64_w,i32_w]
       rfl
      refine one_ (i:=8) (N:=some 25) #[true,true,true,true,true,true,true,true,true,false,false] rfl rfl (one_of HT_.out (by kernel_rfl)) (by decide) (fun K hK => ?_)
      refine Kd.R_append_step k89 (w0:=w) w.heap.size (by rfl) (.tmp 18) (.tmp 24) 27 89 (.agg #[(.bool false),(.int .u32 0),(.int .u32 0)]) 12 rfl Try.underlying27 info89 rfl (by decide) (by omega) u328004 x328004_1 (⟨(rd_T89 l0_4 x4_1).f0,(rd_T89 l0_4 x4_1).f1,(rd_T89 l0_4 x4_1).f2⟩ : S89) [.bool ((rd_T89 l0_4 x4_1).f0), .int .u32 ((rd_T89 l0_4 x4_1).f1), .int .u32 ((rd_T89 l0_4 x4_1).f2)] (fun _ => True) (fun _ => False) rfl rfl ?aP (fun _ hk => hk.elim) ?aF ?aO ?aB ?aS ?aL ?_
      (case aP => exact k89_mkM _ _ _ (⟨(rd_T89 l0_4 x4_1).f0,(rd_T89 l0_4 x4_1).f1,(rd_T89 l0_4 x4_1).f2⟩ : S89))
      (case aB => exact (by repeat (first | (with_reducible first | exact HB.out | apply below_alloc | apply pw_below_drewN | apply below_drew1 | refine below_set ?_ GE325.out | refine below_set ?_ GE326.out | refine below_set ?_ GE327.out) | exact HB.out)))
      (case aF => exact (fun _ _ => trivial))
      (case aO => exact (by (with_reducible repeat (first | apply Kd.R_alloc | apply Kd.R_drewN | apply Kd.R_drew));exact HO_328004.out))
      (case aS => exact (below_size (by repeat (first | (with_reducible first | exact HB.out | apply below_alloc | apply pw_below_drewN | apply below_drew1 | refine below_set ?_ GE325.out | refine below_set ?_ GE326.out | refine below_set ?_ GE327.out) | exact HB.out))))
      (case aL => have:=LMc16.out;omega)
      intro v333 w21 ho hb hg hat
      rw [← Ny332.out] at ho
      have n0_:=Aside0.mk (blk_grown (g:=gb325) (o := .cells #[.int .i64 a0_0, .int .i64 a0_1, .int .i64 a0_2, .int .i64 a0_3, .slice (some ad331) l0_4.length c0_4, .slice A0_5 l0_5.length c0_5, .slice A0_6 l0_6.length c0_6, .slice A0_7 l0_7.length c0_7, .int .i64 a0_8, .int .i64 a0_9] 32 (0,0)) (by (with_reducible repeat (first | refine blk_drewN ?_ _ | refine blk_drew ?_ | refine blk_alloc ?_ _));exact BK325.out) hg (Kd.R_ne HO_328004.out BK325.out (by decide)))
      have n1_:=Aside0.mk (blk_grown (g:=gb326) (o := .cells #[.int .i64 0, .int .i64 0, .int .i64 0, .int .i64 0, .slice none 0 0, .slice none 0 0, .slice none 0 0, .slice none 0 0, .int .i64 0, .int .i64 0] 32 (0,0)) (by (with_reducible repeat (first | refine blk_drewN ?_ _ | refine blk_drew ?_ | refine blk_alloc ?_ _));exact BK326.out) hg (Kd.R_ne HO_328004.out BK326.out (by decide)))
      have n2_:=Aside0.mk (blk_grown (g:=gb327) (o := .cells #[.int .i64 a0_0, .int .i64 a0_1, .int .i64 a0_2, .int .i64 a0_3,u328004, .slice A0_5 l0_5.length c0_5, .slice A0_6 l0_6.length c0_6, .slice A0_7 l0_7.length c0_7, .int .i64 a0_8, .int .i64 a0_9] 32 (0,0)) (by (with_reducible repeat (first | refine blk_drewN ?_ _ | refine blk_drew ?_ | refine blk_alloc ?_ _));exact BK327.out) hg (Kd.R_ne HO_328004.out BK327.out (by decide)))
      have n3_:=Aside0.mk (hb)
      have n4_:=Aside0.mk (ho)
      clear BK325
      clear BK326
      clear BK327
      clear HB
      clear HO_328004
      have BK325:=n0_
      have BK326:=n1_
      have BK327:=n2_
      have HB:=n3_
      have HO334:=n4_
      clear n0_ n1_ n2_ n3_ n4_
      clear ho hb hg hat
      obtain ⟨Ao22,co22,eo22⟩:=Kd.R_slice HO334.out
      (first | subst eo22 | (injection eo22 with f1_ f2_ f3_;have f4_:=f1_.symm;have f5_:=f3_.symm;clear f1_ f2_ f3_;subst f4_;subst f5_))
      refine hK.out _ _ ⟨(blk_cell BK327.out 0).trans rfl,(blk_cell BK327.out 1).trans rfl,(blk_cell BK327.out 2).trans rfl,(blk_cell BK327.out 3).trans rfl,(blk_cell BK327.out 4).trans rfl,(blk_cell BK327.out 5).trans rfl,(blk_cell BK327.out 6).trans rfl,(blk_cell BK327.out 7).trans rfl,(blk_cell BK327.out 8).trans rfl,(blk_cell BK327.out 9).trans rfl,(blk_cell BK325.out 0).trans rfl,(blk_cell BK325.out 1).trans rfl,(blk_cell BK325.out 2).trans rfl,(blk_cell BK325.out 3).trans rfl,(blk_cell BK325.out 4).trans rfl,(blk_cell BK325.out 5).trans rfl,(blk_cell BK325.out 6).trans rfl,(blk_cell BK325.out 7).trans rfl,(blk_cell BK325.out 8).trans rfl,(blk_cell BK325.out 9).trans rfl,((HB.out.cell (World.block_lt_of_cell? w _ hw331_0)).trans hw331_0),((HB.out.cell (World.block_lt_of_cell? w _ hw331_1)).trans hw331_1),((HB.out.cell (World.block_lt_of_cell? w _ hw331_2)).trans hw331_2)⟩ (fun hHeld => ?_)
      clear hK K
      refine norm_ (a' := ?_) ?_ ?_
      rotate_left
      ·show Act.put _ (some 25) _ = _
       simp only [Act.put,List.setIfInBounds_toArray,List.set_cons_zero,List.set_cons_succ,i64_w,i32_w]
       rfl
      refine pure_ (i:=9) (N:=some 26) (v := ?_) (a' := ?_) #[true,true,true,true,true,true,true,true,true,true,false] rfl rfl (any_of HT_.out (by kernel_rfl)) (fun _ _ _ h => h) (Or.inl ⟨by rfl, ?_⟩) ?_ ?_
      rotate_left
      ·intro w'
       go_simp
       with_reducible rfl
      rotate_left
      ·simp only [Act.put,List.setIfInBounds_toArray,List.set_cons_zero,List.set_cons_succ,i64_w,i32_w]
       rfl
      refine last_ (i:=10) (N:=none) #[true,true,true,true,true,true,true,true,true,true,true] rfl rfl (one_of HT_.out (by kernel_rfl)) (by decide) (fun K hK => ?_)
      have hs23 : w21.cell? ⟨gb327,4,none⟩ = some (u328004):=(blk_cell BK327.out 4).trans rfl
      have hfs23:=blk_frozen BK327.out 4
      have hns23_0:=NB325_327.out
      have hns23_1:=NB326_327.out
      have hms23_0:=NB327_325.out
      have hms23_1:=NB327_326.out
      refine skip_ (w1 := ?_) (by rfl) rfl ?_ ?_
      rotate_left
      ·go_simp
       rfl
      refine hK.out _ _ ?_
      clear hK K
      refine done_ (done_of HT_.out (by kernel_rfl)) ?_
      try go_wp2
      go_roundg k1
      case measure => have:=HK1.out;omega
      case rel => exact ⟨(wrap64 (x4_1 + 1)),(y332),(.slice Ao22 y332.length co22),(by first | rfl | (simp;done) | (simp [*];done)),H',⟨by have:=HK1.out;omega⟩,⟨by (with_reducible repeat (first | apply Kd.R_alloc | apply Kd.R_drewN | apply Kd.R_drew));exact Kd.R_mono (Kd.R_far (p:=⟨gb327,4,none⟩) (Kd.R_types HO334.out BK327.out (by decide)) (fun _ hk => hk.2) (.slice Ao22 y332.length co22)) (fun _ hk => trivial)⟩,⟨by (with_reducible repeat (first | refine blk_drewN ?_ _ | refine blk_drew ?_ | refine blk_alloc ?_ _));refine blk_far ?_ NB325_327.out _;(with_reducible repeat (first | refine blk_drewN ?_ _ | refine blk_drew ?_ | refine blk_alloc ?_ _));exact BK325.out⟩,⟨by (with_reducible repeat (first | refine blk_drewN ?_ _ | refine blk_drew ?_ | refine blk_alloc ?_ _));refine blk_far ?_ NB326_327.out _;(with_reducible repeat (first | refine blk_drewN ?_ _ | refine blk_drew ?_ | refine blk_alloc ?_ _));exact BK326.out⟩,⟨by (with_reducible repeat (first | refine blk_drewN ?_ _ | refine blk_drew ?_ | refine blk_alloc ?_ _));refine blk_put (cs := #[.int .i64 a0_0, .int .i64 a0_1, .int .i64 a0_2, .int .i64 a0_3,u328004, .slice A0_5 l0_5.length c0_5, .slice A0_6 l0_6.length c0_6, .slice A0_7 l0_7.length c0_7, .int .i64 a0_8, .int .i64 a0_9]) ?_ 4 _ rfl;(with_reducible repeat (first | refine blk_drewN ?_ _ | refine blk_drew ?_ | refine blk_alloc ?_ _));exact BK327.out⟩,⟨by repeat (first | (with_reducible first | exact HB.out | apply below_alloc | apply pw_below_drewN | apply below_drew1 | refine below_set ?_ GE325.out | refine below_set ?_ GE326.out | refine below_set ?_ GE327.out) | exact HB.out)⟩⟩
     ·rw [if_neg c16] at H
      exact absurd H (by simp)
    ·rw [if_neg c15] at H
     exact absurd H (by simp)
   ·rw [if_neg c14] at H
    have c14b0 : decide (x4_1 < (l0_4.length : Int)) = false:=decide_eq_false c14
    clear c14
    obtain ⟨y335,hy335⟩ : ∃ y_ : List (S87),y_ = (([] : List (S87))):=⟨_,rfl⟩
    replace H : (spec_l3copy.l1 k1 0 a0_0 a0_1 a0_2 a0_3 l0_4 l0_5 l0_6 l0_7 a0_8 a0_9 a0_0 a0_1 a0_2 a0_3 x328004_1 y335 l0_6 l0_7 a0_8 a0_9) = some (r1,r2,r3,r4,r5,r6,r7,r8,r9,r10):=by first | (rw [hy335];with_reducible exact H) | (have H2_:=(Option.bind_some _ _).symm.trans H;rw [hy335];with_reducible exact H2_) | (have H2_:=(Option.bind_some _ _).symm.trans H;with_reducible exact H2_) | with_reducible exact H | (rw [hy335];exact H) | exact H
    have Ny335:=Aside0.mk hy335
    clear hy335
    have H':=Aside0.mk H
    clear H
    have hnb24:=NB325_326.out
    have hnc24:=NB326_325.out
    have hnb25:=NB325_327.out
    have hnc25:=NB327_325.out
    have hcz26_0 : wr.cell? ⟨gb325,0,none⟩ = some (.int .i64 a0_0):=(blk_cell BK325.out 0).trans rfl
    have hcz26_1 : wr.cell? ⟨gb325,1,none⟩ = some (.int .i64 a0_1):=(blk_cell BK325.out 1).trans rfl
    have hcz26_2 : wr.cell? ⟨gb325,2,none⟩ = some (.int .i64 a0_2):=(blk_cell BK325.out 2).trans rfl
    have hcz26_3 : wr.cell? ⟨gb325,3,none⟩ = some (.int .i64 a0_3):=(blk_cell BK325.out 3).trans rfl
    have hcz26_4 : wr.cell? ⟨gb325,4,none⟩ = some (.slice A0_4 l0_4.length c0_4):=(blk_cell BK325.out 4).trans rfl
    have hcz26_5 : wr.cell? ⟨gb325,5,none⟩ = some (.slice A0_5 l0_5.length c0_5):=(blk_cell BK325.out 5).trans rfl
    have hcz26_6 : wr.cell? ⟨gb325,6,none⟩ = some (.slice A0_6 l0_6.length c0_6):=(blk_cell BK325.out 6).trans rfl
    have hcz26_7 : wr.cell? ⟨gb325,7,none⟩ = some (.slice A0_7 l0_7.length c0_7):=(blk_cell BK325.out 7).trans rfl
    have hcz26_8 : wr.cell? ⟨gb325,8,none⟩ = some (.int .i64 a0_8):=(blk_cell BK325.out 8).trans rfl
    have hcz26_9 : wr.cell? ⟨gb325,9,none⟩ = some (.int .i64 a0_9):=(blk_cell BK325.out 9).trans rfl
    have hfz26_0:=blk_frozen BK325.out 0
    have hfz26_1:=blk_frozen BK325.out 1
    have hfz26_2:=blk_frozen BK325.out 2
    have hfz26_3:=blk_frozen BK325.out 3
    have hfz26_4:=blk_frozen BK325.out 4
    have hfz26_5:=blk_frozen BK325.out 5
    have hfz26_6:=blk_frozen BK325.out 6
    have hfz26_7:=blk_frozen BK325.out 7
    have hfz26_8:=blk_frozen BK325.out 8
    have hfz26_9:=blk_frozen BK325.out 9
    go_wp2_with (first | ((with_reducible refine gate_dst (N:=27) rfl ?_);refine Kd.S_lit k87 _ 87 ?hg (N:=27) ?hd (xs:=([] : List (S87))) (inner := []) (ok:=fun _ => True) (okp:=fun _ => True) ?hr ?hp (fun _ hk => hk) trivial (Below.refl _ _) (Nat.le_refl _) (by simp) ?_;(case hd => rfl);(case hg => rfl);(case hr => first | (go_simp;done) | (go_simp;rfl));(case hp => exact (Reps.none _ _));intro v336 w27 ho28 hb hg_ hnew_;clear hg_ hnew_;(first | rw [← Ny335.out] at ho28 | (simp only [Int.reduceToNat] at ho28;rw [← Ny335.out] at ho28));have n0_:=Aside0.mk (Kd.R_below (by (with_reducible repeat (first | apply Kd.R_alloc | apply Kd.R_drewN | apply Kd.R_drew));exact HO_328004.out) hb);have n1_:=Aside0.mk (Kd.S_lower ho28 (below_size (by repeat (first | (with_reducible first | exact HB.out | apply below_alloc | apply pw_below_drewN | apply below_drew1 | refine below_set ?_ GE325.out | refine below_set ?_ GE326.out | refine below_set ?_ GE327.out) | exact HB.out))));have n2_:=Aside0.mk (blk_below (g:=gb325) (o := .cells #[.int .i64 a0_0, .int .i64 a0_1, .int .i64 a0_2, .int .i64 a0_3, .slice A0_4 l0_4.length c0_4, .slice A0_5 l0_5.length c0_5, .slice A0_6 l0_6.length c0_6, .slice A0_7 l0_7.length c0_7, .int .i64 a0_8, .int .i64 a0_9] 32 (0,0)) (by (with_reducible repeat (first | refine blk_drewN ?_ _ | refine blk_drew ?_ | refine blk_alloc ?_ _));exact BK325.out) hb);have n3_:=Aside0.mk (blk_below (g:=gb326) (o := .cells #[.int .i64 0, .int .i64 0, .int .i64 0, .int .i64 0, .slice none 0 0, .slice none 0 0, .slice none 0 0, .slice none 0 0, .int .i64 0, .int .i64 0] 32 (0,0)) (by (with_reducible repeat (first | refine blk_drewN ?_ _ | refine blk_drew ?_ | refine blk_alloc ?_ _));exact BK326.out) hb);have n4_:=Aside0.mk (blk_below (g:=gb327) (o := .cells #[.int .i64 a0_0, .int .i64 a0_1, .int .i64 a0_2, .int .i64 a0_3,u328004, .slice A0_5 l0_5.length c0_5, .slice A0_6 l0_6.length c0_6, .slice A0_7 l0_7.length c0_7, .int .i64 a0_8, .int .i64 a0_9] 32 (0,0)) (by (with_reducible repeat (first | refine blk_drewN ?_ _ | refine blk_drew ?_ | refine blk_alloc ?_ _));exact BK327.out) hb);have n5_:=Aside0.mk (below_step (by repeat (first | (with_reducible first | exact HB.out | apply below_alloc | apply pw_below_drewN | apply below_drew1 | refine below_set ?_ GE325.out | refine below_set ?_ GE326.out | refine below_set ?_ GE327.out) | exact HB.out)) hb);clear HO_328004;clear BK325;clear BK326;clear BK327;clear HB;have HO_328004:=n0_;have HO337:=n1_;have BK325:=n2_;have BK326:=n3_;have BK327:=n4_;have HB:=n5_;clear n0_ n1_ n2_ n3_ n4_ n5_;clear hb ho28;obtain ⟨Ao29,co29,eo29⟩:=Kd.S_slice HO337.out;subst eo29;have hnb30:=NB327_326.out;have hnc30:=NB326_327.out;have hcz31_0 : w27.cell? ⟨gb327,0,none⟩ = some (.int .i64 a0_0):=(blk_cell BK327.out 0).trans rfl;have hcz31_1 : w27.cell? ⟨gb327,1,none⟩ = some (.int .i64 a0_1):=(blk_cell BK327.out 1).trans rfl;have hcz31_2 : w27.cell? ⟨gb327,2,none⟩ = some (.int .i64 a0_2):=(blk_cell BK327.out 2).trans rfl;have hcz31_3 : w27.cell? ⟨gb327,3,none⟩ = some (.int .i64 a0_3):=(blk_cell BK327.out 3).trans rfl;have hcz31_4 : w27.cell? ⟨gb327,4,none⟩ = some (u328004):=(blk_cell BK327.out 4).trans rfl;have hcz31_5 : w27.cell? ⟨gb327,5,none⟩ = some (.slice A0_5 l0_5.length c0_5):=(blk_cell BK327.out 5).trans rfl;have hcz31_6 : w27.cell? ⟨gb327,6,none⟩ = some (.slice A0_6 l0_6.length c0_6):=(blk_cell BK327.out 6).trans rfl;have hcz31_7 : w27.cell? ⟨gb327,7,none⟩ = some (.slice A0_7 l0_7.length c0_7):=(blk_cell BK327.out 7).trans rfl;have hcz31_8 : w27.cell? ⟨gb327,8,none⟩ = some (.int .i64 a0_8):=(blk_cell BK327.out 8).trans rfl;have hcz31_9 : w27.cell? ⟨gb327,9,none⟩ = some (.int .i64 a0_9):=(blk_cell BK327.out 9).trans rfl;have hfz31_0:=blk_frozen BK327.out 0;have hfz31_1:=blk_frozen BK327.out 1;have hfz31_2:=blk_frozen BK327.out 2;have hfz31_3:=blk_frozen BK327.out 3;have hfz31_4:=blk_frozen BK327.out 4;have hfz31_5:=blk_frozen BK327.out 5;have hfz31_6:=blk_frozen BK327.out 6;have hfz31_7:=blk_frozen BK327.out 7;have hfz31_8:=blk_frozen BK327.out 8;have hfz31_9:=blk_frozen BK327.out 9))
    go_loopg [5] k1 (fun kq v5 w' => ∃ (x5_2 : Int) (x328005_2 : List (S87)) (u328005 : Value),v5 = .int .i64 x5_2 ∧ Aside0 (spec_l3copy.l1 kq x5_2 a0_0 a0_1 a0_2 a0_3 l0_4 l0_5 l0_6 l0_7 a0_8 a0_9 a0_0 a0_1 a0_2 a0_3 x328004_1 x328005_2 l0_6 l0_7 a0_8 a0_9 = some (r1,r2,r3,r4,r5,r6,r7,r8,r9,r10)) ∧ Aside0 (kq ≤ k1) ∧ Aside0 (Kd.R k89 89 w' w.heap.size (fun _ => True) u328004 x328004_1) ∧ Aside0 (Kd.S k87 87 w' w.heap.size (fun _ => True) u328005 x328005_2) ∧ Aside0 (w'.heap[gb325]? = some (.cells #[.int .i64 a0_0, .int .i64 a0_1, .int .i64 a0_2, .int .i64 a0_3,(.slice A0_4 l0_4.length c0_4),(.slice A0_5 l0_5.length c0_5),(.slice A0_6 l0_6.length c0_6),(.slice A0_7 l0_7.length c0_7), .int .i64 a0_8, .int .i64 a0_9] 32 (0,0))) ∧ Aside0 (w'.heap[gb326]? = some (.cells #[.int .i64 0, .int .i64 0, .int .i64 0, .int .i64 0,(.slice none 0 0),(.slice none 0 0),(.slice none 0 0),(.slice none 0 0), .int .i64 0, .int .i64 0] 32 (0,0))) ∧ Aside0 (w'.heap[gb327]? = some (.cells #[.int .i64 a0_0, .int .i64 a0_1, .int .i64 a0_2, .int .i64 a0_3,u328004,u328005,(.slice A0_6 l0_6.length c0_6),(.slice A0_7 l0_7.length c0_7), .int .i64 a0_8, .int .i64 a0_9] 32 (0,0))) ∧ Aside0 (Below w.heap.size w w'))
    case atStart => exact ⟨(0),(y335),(.slice Ao29 y335.length co29),(by first | rfl | (simp;done) | (simp [*];done)),H',⟨Nat.le_refl _⟩,⟨by (with_reducible repeat (first | apply Kd.R_alloc | apply Kd.R_drewN | apply Kd.R_drew));exact Kd.R_mono (Kd.R_far (p:=⟨gb327,5,none⟩) (Kd.R_types HO_328004.out BK327.out (by decide)) (fun _ hk => hk.2) (.slice Ao29 y335.length co29)) (fun _ hk => trivial)⟩,⟨by (with_reducible repeat (first | apply Kd.S_alloc | apply Kd.S_drewN | apply Kd.S_drew));exact Kd.S_mono (Kd.S_far (p:=⟨gb327,5,none⟩) (Kd.S_types HO337.out BK327.out (by decide)) (fun _ hk => hk.2) (.slice Ao29 y335.length co29)) (fun _ hk => trivial)⟩,⟨by (with_reducible repeat (first | refine blk_drewN ?_ _ | refine blk_drew ?_ | refine blk_alloc ?_ _));refine blk_far ?_ NB325_327.out _;(with_reducible repeat (first | refine blk_drewN ?_ _ | refine blk_drew ?_ | refine blk_alloc ?_ _));exact BK325.out⟩,⟨by (with_reducible repeat (first | refine blk_drewN ?_ _ | refine blk_drew ?_ | refine blk_alloc ?_ _));refine blk_far ?_ NB326_327.out _;(with_reducible repeat (first | refine blk_drewN ?_ _ | refine blk_drew ?_ | refine blk_alloc ?_ _));exact BK326.out⟩,⟨by (with_reducible repeat (first | refine blk_drewN ?_ _ | refine blk_drew ?_ | refine blk_alloc ?_ _));refine blk_put (cs := #[.int .i64 a0_0, .int .i64 a0_1, .int .i64 a0_2, .int .i64 a0_3,u328004, .slice A0_5 l0_5.length c0_5, .slice A0_6 l0_6.length c0_6, .slice A0_7 l0_7.length c0_7, .int .i64 a0_8, .int .i64 a0_9]) ?_ 5 _ rfl;(with_reducible repeat (first | refine blk_drewN ?_ _ | refine blk_drew ?_ | refine blk_alloc ?_ _));exact BK327.out⟩,⟨by repeat (first | (with_reducible first | exact HB.out | apply below_alloc | apply pw_below_drewN | apply below_drew1 | refine below_set ?_ GE325.out | refine below_set ?_ GE326.out | refine below_set ?_ GE327.out) | exact HB.out)⟩⟩
    case round =>
     clear H'
     try clear c1
     try clear c2
     try clear p2
     try clear c3
     try clear p3
     try clear q3
     try clear hx3
     try clear c4
     try clear c5
     try clear p6
     try clear c7
     try clear c8
     try clear c14
     try clear c14b0
     try clear c15
     try clear c15b0
     try clear c16
     try clear c17
     try clear c18
     try clear c24
     try clear c25
     try clear c30
     try clear hcz13_0
     try clear hcz13_1
     try clear hcz13_2
     try clear hcz13_3
     try clear hcz13_4
     try clear hcz13_5
     try clear hcz13_6
     try clear hcz13_7
     try clear hcz13_8
     try clear hcz13_9
     try clear hcz19_0
     try clear hcz19_1
     try clear hcz19_2
     try clear hcz19_3
     try clear hcz19_4
     try clear hcz19_5
     try clear hcz19_6
     try clear hcz19_7
     try clear hcz19_8
     try clear hcz19_9
     try clear hcz26_0
     try clear hcz26_1
     try clear hcz26_2
     try clear hcz26_3
     try clear hcz26_4
     try clear hcz26_5
     try clear hcz26_6
     try clear hcz26_7
     try clear hcz26_8
     try clear hcz26_9
     try clear hcz31_0
     try clear hcz31_1
     try clear hcz31_2
     try clear hcz31_3
     try clear hcz31_4
     try clear hcz31_5
     try clear hcz31_6
     try clear hcz31_7
     try clear hcz31_8
     try clear hcz31_9
     try clear hcz5_0
     try clear hcz5_1
     try clear hcz5_2
     try clear hcz5_3
     try clear hcz5_4
     try clear hcz5_5
     try clear hcz5_6
     try clear hcz5_7
     try clear hcz5_8
     try clear hcz5_9
     try clear hcz9_0
     try clear hcz9_1
     try clear hcz9_2
     try clear hcz9_3
     try clear hcz9_4
     try clear hcz9_5
     try clear hcz9_6
     try clear hcz9_7
     try clear hcz9_8
     try clear hcz9_9
     try clear hfz13_0
     try clear hfz13_1
     try clear hfz13_2
     try clear hfz13_3
     try clear hfz13_4
     try clear hfz13_5
     try clear hfz13_6
     try clear hfz13_7
     try clear hfz13_8
     try clear hfz13_9
     try clear hfz19_0
     try clear hfz19_1
     try clear hfz19_2
     try clear hfz19_3
     try clear hfz19_4
     try clear hfz19_5
     try clear hfz19_6
     try clear hfz19_7
     try clear hfz19_8
     try clear hfz19_9
     try clear hfz26_0
     try clear hfz26_1
     try clear hfz26_2
     try clear hfz26_3
     try clear hfz26_4
     try clear hfz26_5
     try clear hfz26_6
     try clear hfz26_7
     try clear hfz26_8
     try clear hfz26_9
     try clear hfz31_0
     try clear hfz31_1
     try clear hfz31_2
     try clear hfz31_3
     try clear hfz31_4
     try clear hfz31_5
     try clear hfz31_6
     try clear hfz31_7
     try clear hfz31_8
     try clear hfz31_9
     try clear hfz5_0
     try clear hfz5_1
     try clear hfz5_2
     try clear hfz5_3
     try clear hfz5_4
     try clear hfz5_5
     try clear hfz5_6
     try clear hfz5_7
     try clear hfz5_8
     try clear hfz5_9
     try clear hfz9_0
     try clear hfz9_1
     try clear hfz9_2
     try clear hfz9_3
     try clear hfz9_4
     try clear hfz9_5
     try clear hfz9_6
     try clear hfz9_7
     try clear hfz9_8
     try clear hfz9_9
     try clear hx331_0
     try clear hx331_1
     try clear hx331_2
     try clear p2
     try clear p331
     try clear q331
     (try clear BK325)
     (try clear BK326)
     (try clear BK327)
     obtain ⟨x5_2,x328005_2,u328005,rfl,HA,HK2,HO_328004,HO_328005,BK325,BK326,BK327,HB⟩:=hrel
     cases gk with
     | zero => exact absurd HA.out (by simp [spec_l3copy.l1])
     | succ k2 =>
      have H:=HA.out
      clear HA
      simp only [spec_l3copy.l1] at H
      by_cases c32 : x5_2 < (l0_5.length : Int)
      ·rw [if_pos c32] at H
       have c32b0 : decide (x5_2 < (l0_5.length : Int)) = true:=decide_eq_true c32
       clear c32
       by_cases c33 : 0 ≤ x5_2
       ·rw [if_pos c33] at H
        have c33b0 : decide (0 ≤ x5_2) = true:=decide_eq_true c33
        clear c33
        replace H:=Option.bind_eq_some_iff.mp H
        obtain ⟨⟨t339,t340,t341,t342,t343,t344,t345,t346⟩,A340,H⟩:=H
        replace H : (if x328005_2.length < 1954687338268 then (spec_l3copy.l1 k2 (wrap64 (x5_2 + 1)) a0_0 a0_1 a0_2 a0_3 l0_4 l0_5 l0_6 l0_7 a0_8 a0_9 a0_0 a0_1 a0_2 a0_3 x328004_1 (x328005_2 ++ [(⟨t339,t340,t341,(⟨t342,t343,t344,t345,t346⟩ : S45)⟩ : S87)]) l0_6 l0_7 a0_8 a0_9) else (none)) = some (r1,r2,r3,r4,r5,r6,r7,r8,r9,r10):=H
        have A34:=Aside0.mk A340
        clear A340
        by_cases c35 : x328005_2.length < 1954687338268
        ·rw [if_pos c35] at H
         have LMc35:=Aside0.mk c35
         clear c35
         obtain ⟨y349,hy349⟩ : ∃ y_ : List (S87),y_ = (x328005_2 ++ [(⟨t339,t340,t341,(⟨t342,t343,t344,t345,t346⟩ : S45)⟩ : S87)]):=⟨_,rfl⟩
         replace H : (spec_l3copy.l1 k2 (wrap64 (x5_2 + 1)) a0_0 a0_1 a0_2 a0_3 l0_4 l0_5 l0_6 l0_7 a0_8 a0_9 a0_0 a0_1 a0_2 a0_3 x328004_1 y349 l0_6 l0_7 a0_8 a0_9) = some (r1,r2,r3,r4,r5,r6,r7,r8,r9,r10):=by first | (rw [hy349];with_reducible exact H) | (have H2_:=(Option.bind_some _ _).symm.trans H;rw [hy349];with_reducible exact H2_) | (have H2_:=(Option.bind_some _ _).symm.trans H;with_reducible exact H2_) | with_reducible exact H | (rw [hy349];exact H) | exact H
         have Ny349:=Aside0.mk hy349
         clear hy349
         have H':=Aside0.mk H
         clear H
         have hnb36:=NB325_326.out
         have hnc36:=NB326_325.out
         have hnb37:=NB325_327.out
         have hnc37:=NB327_325.out
         have hcz38_0 : wr.cell? ⟨gb325,0,none⟩ = some (.int .i64 a0_0):=(blk_cell BK325.out 0).trans rfl
         have hcz38_1 : wr.cell? ⟨gb325,1,none⟩ = some (.int .i64 a0_1):=(blk_cell BK325.out 1).trans rfl
         have hcz38_2 : wr.cell? ⟨gb325,2,none⟩ = some (.int .i64 a0_2):=(blk_cell BK325.out 2).trans rfl
         have hcz38_3 : wr.cell? ⟨gb325,3,none⟩ = some (.int .i64 a0_3):=(blk_cell BK325.out 3).trans rfl
         have hcz38_4 : wr.cell? ⟨gb325,4,none⟩ = some (.slice A0_4 l0_4.length c0_4):=(blk_cell BK325.out 4).trans rfl
         have hcz38_5 : wr.cell? ⟨gb325,5,none⟩ = some (.slice A0_5 l0_5.length c0_5):=(blk_cell BK325.out 5).trans rfl
         have hcz38_6 : wr.cell? ⟨gb325,6,none⟩ = some (.slice A0_6 l0_6.length c0_6):=(blk_cell BK325.out 6).trans rfl
         have hcz38_7 : wr.cell? ⟨gb325,7,none⟩ = some (.slice A0_7 l0_7.length c0_7):=(blk_cell BK325.out 7).trans rfl
         have hcz38_8 : wr.cell? ⟨gb325,8,none⟩ = some (.int .i64 a0_8):=(blk_cell BK325.out 8).trans rfl
         have hcz38_9 : wr.cell? ⟨gb325,9,none⟩ = some (.int .i64 a0_9):=(blk_cell BK325.out 9).trans rfl
         have hfz38_0:=blk_frozen BK325.out 0
         have hfz38_1:=blk_frozen BK325.out 1
         have hfz38_2:=blk_frozen BK325.out 2
         have hfz38_3:=blk_frozen BK325.out 3
         have hfz38_4:=blk_frozen BK325.out 4
         have hfz38_5:=blk_frozen BK325.out 5
         have hfz38_6:=blk_frozen BK325.out 6
         have hfz38_7:=blk_frozen BK325.out 7
         have hfz38_8:=blk_frozen BK325.out 8
         have hfz38_9:=blk_frozen BK325.out 9
         try go_wp2
         have n0_:=Aside0.mk (Kd.R_drew HO_328004.out)
         have n1_:=Aside0.mk (Kd.S_drew HO_328005.out)
         have n2_:=Aside0.mk (blk_drew BK325.out)
         have n3_:=Aside0.mk (blk_drew BK326.out)
         have n4_:=Aside0.mk (blk_drew BK327.out)
         have n5_:=Aside0.mk (below_drew1 HB.out)
         clear HO_328004
         clear HO_328005
         clear BK325
         clear BK326
         clear BK327
         clear HB
         have HO_328004:=n0_
         have HO_328005:=n1_
         have BK325:=n2_
         have BK326:=n3_
         have BK327:=n4_
         have HB:=n5_
         clear n0_ n1_ n2_ n3_ n4_ n5_
         have p338 : 0 ≤ (x5_2 : Int):=of_decide_eq_true (by first | (with_reducible assumption) | assumption)
         have q338 : x5_2 < (l0_5.length : Int):=of_decide_eq_true (by first | (with_reducible assumption) | assumption)
         obtain ⟨ad338,A338_7,c338_7,e338,hx338_0,hx338_1,hx338_2,hx338_3,hx338_4,hx338_5,hx338_6,hx338_7,hl338_7,hi338_7⟩:=at_T87 HR0_5.out x5_2 p338 q338
         have hw338_7:=hx338_7
         have hw338_6:=hx338_6
         have hw338_5:=hx338_5
         have hw338_4:=hx338_4
         have hw338_3:=hx338_3
         have hw338_2:=hx338_2
         have hw338_1:=hx338_1
         have hw338_0:=hx338_0
         cases e338
         replace hx338_0:=(HB.out.cell (World.block_lt_of_cell? w _ hx338_0)).trans hx338_0
         replace hx338_1:=(HB.out.cell (World.block_lt_of_cell? w _ hx338_1)).trans hx338_1
         replace hx338_2:=(HB.out.cell (World.block_lt_of_cell? w _ hx338_2)).trans hx338_2
         replace hx338_3:=(HB.out.cell (World.block_lt_of_cell? w _ hx338_3)).trans hx338_3
         replace hx338_4:=(HB.out.cell (World.block_lt_of_cell? w _ hx338_4)).trans hx338_4
         replace hx338_5:=(HB.out.cell (World.block_lt_of_cell? w _ hx338_5)).trans hx338_5
         replace hx338_6:=(HB.out.cell (World.block_lt_of_cell? w _ hx338_6)).trans hx338_6
         replace hx338_7:=(HB.out.cell (World.block_lt_of_cell? w _ hx338_7)).trans hx338_7
         have HR338_7:=Aside0.mk hi338_7
         have HC338_7:=Aside0.mk hl338_7
         clear hi338_7 hl338_7
         replace p338:=eq_true p338
         replace q338:=eq_true q338
         refine start_ (n:=12) (S:=fun w' => w'.cell? ⟨gb327,0,none⟩ = some (.int .i64 a0_0) ∧ w'.cell? ⟨gb327,1,none⟩ = some (.int .i64 a0_1) ∧ w'.cell? ⟨gb327,2,none⟩ = some (.int .i64 a0_2) ∧ w'.cell? ⟨gb327,3,none⟩ = some (.int .i64 a0_3) ∧ w'.cell? ⟨gb327,4,none⟩ = some (u328004) ∧ w'.cell? ⟨gb327,5,none⟩ = some (u328005) ∧ w'.cell? ⟨gb327,6,none⟩ = some (.slice A0_6 l0_6.length c0_6) ∧ w'.cell? ⟨gb327,7,none⟩ = some (.slice A0_7 l0_7.length c0_7) ∧ w'.cell? ⟨gb327,8,none⟩ = some (.int .i64 a0_8) ∧ w'.cell? ⟨gb327,9,none⟩ = some (.int .i64 a0_9) ∧ w'.cell? ⟨gb325,0,none⟩ = some (.int .i64 a0_0) ∧ w'.cell? ⟨gb325,1,none⟩ = some (.int .i64 a0_1) ∧ w'.cell? ⟨gb325,2,none⟩ = some (.int .i64 a0_2) ∧ w'.cell? ⟨gb325,3,none⟩ = some (.int .i64 a0_3) ∧ w'.cell? ⟨gb325,4,none⟩ = some (.slice A0_4 l0_4.length c0_4) ∧ w'.cell? ⟨gb325,5,none⟩ = some (.slice (some ad338) l0_5.length c0_5) ∧ w'.cell? ⟨gb325,6,none⟩ = some (.slice A0_6 l0_6.length c0_6) ∧ w'.cell? ⟨gb325,7,none⟩ = some (.slice A0_7 l0_7.length c0_7) ∧ w'.cell? ⟨gb325,8,none⟩ = some (.int .i64 a0_8) ∧ w'.cell? ⟨gb325,9,none⟩ = some (.int .i64 a0_9) ∧ w'.cell? (ad338.add ((x5_2).toNat * 8)) = some (.int .i64 ((rd_T87 l0_5 x5_2).f0)) ∧ w'.cell? ⟨(ad338.add ((x5_2).toNat * 8)).block,(ad338.add ((x5_2).toNat * 8)).off + 1,none⟩ = some (.int .i64 ((rd_T87 l0_5 x5_2).f1)) ∧ w'.cell? ⟨(ad338.add ((x5_2).toNat * 8)).block,(ad338.add ((x5_2).toNat * 8)).off + 2,none⟩ = some (.int .i64 ((rd_T87 l0_5 x5_2).f2)) ∧ w'.cell? ⟨(ad338.add ((x5_2).toNat * 8)).block,(ad338.add ((x5_2).toNat * 8)).off + 3,none⟩ = some (.bool ((rd_T87 l0_5 x5_2).f3.f0)) ∧ w'.cell? ⟨(ad338.add ((x5_2).toNat * 8)).block,(ad338.add ((x5_2).toNat * 8)).off + 4,none⟩ = some (.int .u32 ((rd_T87 l0_5 x5_2).f3.f1)) ∧ w'.cell? ⟨(ad338.add ((x5_2).toNat * 8)).block,(ad338.add ((x5_2).toNat * 8)).off + 5,none⟩ = some (.bool ((rd_T87 l0_5 x5_2).f3.f2)) ∧ w'.cell? ⟨(ad338.add ((x5_2).toNat * 8)).block,(ad338.add ((x5_2).toNat * 8)).off + 6,none⟩ = some (.int .i64 ((rd_T87 l0_5 x5_2).f3.f3)) ∧ w'.cell? ⟨(ad338.add ((x5_2).toNat * 8)).block,(ad338.add ((x5_2).toNat * 8)).off + 7,none⟩ = some (.slice A338_7 ((rd_T87 l0_5 x5_2).f3.f4).length c338_7)) (ds := [11]) #[false,false,false,false,false,false,false,false,false,false,false,false] (by kernel_rfl) rfl rfl ⟨(blk_cell BK327.out 0).trans rfl,(blk_cell BK327.out 1).trans rfl,(blk_cell BK327.out 2).trans rfl,(blk_cell BK327.out 3).trans rfl,(blk_cell BK327.out 4).trans rfl,(blk_cell BK327.out 5).trans rfl,(blk_cell BK327.out 6).trans rfl,(blk_cell BK327.out 7).trans rfl,(blk_cell BK327.out 8).trans rfl,(blk_cell BK327.out 9).trans rfl,(blk_cell BK325.out 0).trans rfl,(blk_cell BK325.out 1).trans rfl,(blk_cell BK325.out 2).trans rfl,(blk_cell BK325.out 3).trans rfl,(blk_cell BK325.out 4).trans rfl,(blk_cell BK325.out 5).trans rfl,(blk_cell BK325.out 6).trans rfl,(blk_cell BK325.out 7).trans rfl,(blk_cell BK325.out 8).trans rfl,(blk_cell BK325.out 9).trans rfl,((HB.out.cell (World.block_lt_of_cell? w _ hw338_0)).trans hw338_0),((HB.out.cell (World.block_lt_of_cell? w _ hw338_1)).trans hw338_1),((HB.out.cell (World.block_lt_of_cell? w _ hw338_2)).trans hw338_2),((HB.out.cell (World.block_lt_of_cell? w _ hw338_3)).trans hw338_3),((HB.out.cell (World.block_lt_of_cell? w _ hw338_4)).trans hw338_4),((HB.out.cell (World.block_lt_of_cell? w _ hw338_5)).trans hw338_5),((HB.out.cell (World.block_lt_of_cell? w _ hw338_6)).trans hw338_6),((HB.out.cell (World.block_lt_of_cell? w _ hw338_7)).trans hw338_7)⟩ (fun hHeld => ?_);refine with_tabW spec_l3copy.tab11 spec_l3copy.bits11 (fun HT_ HW_ => ?_)
         generalize wr.drew = w39 at HO_328004 HO_328005 BK325 BK326 BK327 HB HR338_7 hx338_0 hx338_1 hx338_2 hx338_3 hx338_4 hx338_5 hx338_6 hx338_7 hHeld ⊢
         refine pure_ (i:=0) (N:=some 36) (v := ?_) (a' := ?_) #[true,false,false,false,false,false,false,false,false,false,false,false] rfl rfl (any_of HT_.out (by kernel_rfl)) (fun _ _ _ h => h) (Or.inl ⟨by rfl, ?_⟩) ?_ ?_
         rotate_left
         ·intro w'
          go_simp
          with_reducible rfl
         rotate_left
         ·simp only [Act.put,List.setIfInBounds_toArray,List.set_cons_zero,List.set_cons_succ,i64_w,i32_w]
          rfl
         refine pure_ (i:=2) (N:=some 38) (v := ?_) (a' := ?_) #[true,false,true,false,false,false,false,false,false,false,false,false] rfl rfl (any_of HT_.out (by kernel_rfl)) (fun _ _ _ h => h) (Or.inl ⟨by rfl, ?_⟩) ?_ ?_
         rotate_left
         ·intro w'
          go_simp
          with_reducible rfl
         rotate_left
         ·simp only [Act.put,List.setIfInBounds_toArray,List.set_cons_zero,List.set_cons_succ,i64_w,i32_w]
          rfl
         refine pure_ (i:=4) (N:=some 40) (v := ?_) (a' := ?_) #[true,false,true,false,true,false,false,false,false,false,false,false] rfl rfl (any_of HT_.out (by kernel_rfl)) (fun _ _ _ h => h) (Or.inl ⟨by rfl, ?_⟩) ?_ ?_
         rotate_left
         ·intro w'
          go_simp
          with_reducible rfl
         rotate_left
         ·simp only [Act.put,List.setIfInBounds_toArray,List.set_cons_zero,List.set_cons_succ,i64_w,i32_w]
          rfl
         refine take_ (i:=1) (N:=some 37) (v := ?_) (a' := ?_) #[true,true,true,false,true,false,false,false,false,false,false,false] rfl rfl (take_ofW HT_.out HW_.out (by kernel_rfl)) (fun _ _ _ h => h) (Or.inl ⟨by rfl, ?_⟩) hHeld ?_ ?_
         rotate_left
         ·rintro w' ⟨s0,s1,s2,s3,s4,s5,s6,s7,s8,s9,s10,s11,s12,s13,s14,s15,s16,s17,s18,s19,s20,s21,s22,s23,s24,s25,s26,s27⟩
          go_simp
          with_reducible rfl
         rotate_left
         ·simp only [Act.put,List.setIfInBounds_toArray,List.set_cons_zero,List.set_cons_succ,i64_w,i32_w]
          rfl
         refine take_ (i:=3) (N:=some 39) (v := ?_) (a' := ?_) #[true,true,true,true,true,false,false,false,false,false,false,false] rfl rfl (take_ofW HT_.out HW_.out (by kernel_rfl)) (fun _ _ _ h => h) (Or.inl ⟨by rfl, ?_⟩) hHeld ?_ ?_
         rotate_left
         ·rintro w' ⟨s0,s1,s2,s3,s4,s5,s6,s7,s8,s9,s10,s11,s12,s13,s14,s15,s16,s17,s18,s19,s20,s21,s22,s23,s24,s25,s26,s27⟩
          go_simp
          with_reducible rfl
         rotate_left
         ·simp only [Act.put,List.setIfInBounds_toArray,List.set_cons_zero,List.set_cons_succ,i64_w,i32_w]
          rfl
         refine pure_ (i:=5) (N:=some 41) (v := ?_) (a' := ?_) #[true,true,true,true,true,true,false,false,false,false,false,false] rfl rfl (any_of HT_.out (by kernel_rfl)) (fun _ _ _ h => h) (Or.inl ⟨by rfl, ?_⟩) ?_ ?_
         rotate_left
         ·intro w'
          go_simp
          with_reducible rfl
         rotate_left
         ·simp only [Act.put,List.setIfInBounds_toArray,List.set_cons_zero,List.set_cons_succ,i64_w,i32_w]
          rfl
         refine take_ (i:=6) (N:=some 42) (v := ?_) (a' := ?_) #[true,true,true,true,true,true,true,false,false,false,false,false] rfl rfl (take_ofW HT_.out HW_.out (by kernel_rfl)) (fun _ _ _ h => h) (Or.inl ⟨by rfl, ?_⟩) hHeld ?_ ?_
         rotate_left
         ·rintro w' ⟨s0,s1,s2,s3,s4,s5,s6,s7,s8,s9,s10,s11,s12,s13,s14,s15,s16,s17,s18,s19,s20,s21,s22,s23,s24,s25,s26,s27⟩
          go_simp
          with_reducible rfl
         rotate_left
         ·simp only [Act.put,List.setIfInBounds_toArray,List.set_cons_zero,List.set_cons_succ,i64_w,i32_w]
          rfl
         refine one_ (i:=7) (N:=some 43) #[true,true,true,true,true,true,true,true,false,false,false,false] rfl rfl (one_of HT_.out (by kernel_rfl)) (by decide) (fun K hK => ?_)
         refine goes_ Try.func108 (by kernel_rfl) rfl #[.agg #[.int .i64 ((rd_T87 l0_5 x5_2).f0), .int .i64 ((rd_T87 l0_5 x5_2).f1), .int .i64 ((rd_T87 l0_5 x5_2).f2), .bool ((rd_T87 l0_5 x5_2).f3.f0), .int .u32 ((rd_T87 l0_5 x5_2).f3.f1), .bool ((rd_T87 l0_5 x5_2).f3.f2), .int .i64 ((rd_T87 l0_5 x5_2).f3.f3), .slice A338_7 ((rd_T87 l0_5 x5_2).f3.f4).length c338_7]] (by rfl) rfl rfl (by (try simp only [List.map_toArray,List.map_cons,List.map_nil]);first | done | rfl | (simp only [List.length_drop,List.length_take];rfl)) ?_
         with_reducible refine (spec_l3copyBox.calls k2 ((rd_T87 l0_5 x5_2).f0) ((rd_T87 l0_5 x5_2).f1) ((rd_T87 l0_5 x5_2).f2) ((rd_T87 l0_5 x5_2).f3.f0) ((rd_T87 l0_5 x5_2).f3.f1) ((rd_T87 l0_5 x5_2).f3.f2) ((rd_T87 l0_5 x5_2).f3.f3) _ _ ((rd_T87 l0_5 x5_2).f3.f4) t339 t340 t341 t342 t343 t344 t345 t346 _ ?side1 ?side2 A34.out).mono ?_
         (case side1 => repeat (first | exact (Kd.C_below HR338_7.out HB.out) | (with_reducible refine Kd.C_alloc ?_ _) | (with_reducible refine Kd.C_drewN ?_ _) | (with_reducible refine Kd.C_drew ?_)))
         (case side2 => exact HC338_7.out)
         rintro e w40 ⟨v347,rfl,ho0,hb⟩
         refine ⟨_,rfl, ?_⟩
         have n0_:=Aside0.mk (Kd.R_below (by (with_reducible repeat (first | apply Kd.R_alloc | apply Kd.R_drewN | apply Kd.R_drew));exact HO_328004.out) hb)
         have n1_:=Aside0.mk (Kd.S_elder' (by (with_reducible repeat (first | apply Kd.S_alloc | apply Kd.S_drewN | apply Kd.S_drew));exact HO_328005.out) (Kd.R_base ho0) hb)
         have n2_:=Aside0.mk (Kd.R_lower ho0 (below_size (by repeat (first | (with_reducible first | exact HB.out | apply below_alloc | apply pw_below_drewN | apply below_drew1 | refine below_set ?_ GE325.out | refine below_set ?_ GE326.out | refine below_set ?_ GE327.out) | exact HB.out))))
         have n3_:=Aside0.mk (blk_below (g:=gb325) (o := .cells #[.int .i64 a0_0, .int .i64 a0_1, .int .i64 a0_2, .int .i64 a0_3, .slice A0_4 l0_4.length c0_4, .slice (some ad338) l0_5.length c0_5, .slice A0_6 l0_6.length c0_6, .slice A0_7 l0_7.length c0_7, .int .i64 a0_8, .int .i64 a0_9] 32 (0,0)) (by (with_reducible repeat (first | refine blk_drewN ?_ _ | refine blk_drew ?_ | refine blk_alloc ?_ _));exact BK325.out) hb)
         have n4_:=Aside0.mk (blk_below (g:=gb326) (o := .cells #[.int .i64 0, .int .i64 0, .int .i64 0, .int .i64 0, .slice none 0 0, .slice none 0 0, .slice none 0 0, .slice none 0 0, .int .i64 0, .int .i64 0] 32 (0,0)) (by (with_reducible repeat (first | refine blk_drewN ?_ _ | refine blk_drew ?_ | refine blk_alloc ?_ _));exact BK326.out) hb)
         have n5_:=Aside0.mk (blk_below (g:=gb327) (o := .cells #[.int .i64 a0_0, .int .i64 a0_1, .int .i64 a0_2, .int .i64 a0_3,u328004,u328005, .slice A0_6 l0_6.length c0_6, .slice A0_7 l0_7.length c0_7, .int .i64 a0_8, .int .i64 a0_9] 32 (0,0)) (by (with_reducible repeat (first | refine blk_drewN ?_ _ | refine blk_drew ?_ | refine blk_alloc ?_ _));exact BK327.out) hb)
         have n6_:=Aside0.mk (below_step (by repeat (first | (with_reducible first | exact HB.out | apply below_alloc | apply pw_below_drewN | apply below_drew1 | refine below_set ?_ GE325.out | refine below_set ?_ GE326.out | refine below_set ?_ GE327.out) | exact HB.out)) hb)
         clear HO_328004
         clear HO_328005
         clear BK325
         clear BK326
         clear BK327
         clear HB
         have HO_328004:=n0_
         have HO_328005:=n1_
         have HO348:=n2_
         have BK325:=n3_
         have BK326:=n4_
         have BK327:=n5_
         have HB:=n6_
         clear n0_ n1_ n2_ n3_ n4_ n5_ n6_
         (try clear hb)
         (try clear hb2)
         (try clear hk)
         (try clear hi)
         (try clear ho0)
         obtain ⟨Ao42,co42,eo42⟩:=Kd.R_slice HO348.out
         (first | subst eo42 | (injection eo42 with f1_ f2_ f3_;have f4_:=f1_.symm;have f5_:=f3_.symm;clear f1_ f2_ f3_;subst f4_;subst f5_))
         refine hK.out _ _ ⟨(blk_cell BK327.out 0).trans rfl,(blk_cell BK327.out 1).trans rfl,(blk_cell BK327.out 2).trans rfl,(blk_cell BK327.out 3).trans rfl,(blk_cell BK327.out 4).trans rfl,(blk_cell BK327.out 5).trans rfl,(blk_cell BK327.out 6).trans rfl,(blk_cell BK327.out 7).trans rfl,(blk_cell BK327.out 8).trans rfl,(blk_cell BK327.out 9).trans rfl,(blk_cell BK325.out 0).trans rfl,(blk_cell BK325.out 1).trans rfl,(blk_cell BK325.out 2).trans rfl,(blk_cell BK325.out 3).trans rfl,(blk_cell BK325.out 4).trans rfl,(blk_cell BK325.out 5).trans rfl,(blk_cell BK325.out 6).trans rfl,(blk_cell BK325.out 7).trans rfl,(blk_cell BK325.out 8).trans rfl,(blk_cell BK325.out 9).trans rfl,((HB.out.cell (World.block_lt_of_cell? w _ hw338_0)).trans hw338_0),((HB.out.cell (World.block_lt_of_cell? w _ hw338_1)).trans hw338_1),((HB.out.cell (World.block_lt_of_cell? w _ hw338_2)).trans hw338_2),((HB.out.cell (World.block_lt_of_cell? w _ hw338_3)).trans hw338_3),((HB.out.cell (World.block_lt_of_cell? w _ hw338_4)).trans hw338_4),((HB.out.cell (World.block_lt_of_cell? w _ hw338_5)).trans hw338_5),((HB.out.cell (World.block_lt_of_cell? w _ hw338_6)).trans hw338_6),((HB.out.cell (World.block_lt_of_cell? w _ hw338_7)).trans hw338_7)⟩ (fun hHeld => ?_)
         clear hK K
         refine norm_ (a' := ?_) ?_ ?_
         rotate_left
         ·show Act.put _ (some 43) _ = _
          simp only [Act.put,List.setIfInBounds_toArray,List.set_cons_zero,List.set_cons_succ,i64_w,i32_w]
          rfl
         refine one_ (i:=8) (N:=some 44) #[true,true,true,true,true,true,true,true,true,false,false,false] rfl rfl (one_of HT_.out (by kernel_rfl)) (by decide) (fun K hK => ?_)
         refine value_ (w1 := ?_) (v := ?_) (by rfl) rfl ?_ ?_
         rotate_left 2
         ·go_simp
          constructor
          ·rfl
          ·rfl
         refine hK.out _ _ ⟨(blk_cell (blk_alloc BK327.out _) 0).trans rfl,(blk_cell (blk_alloc BK327.out _) 1).trans rfl,(blk_cell (blk_alloc BK327.out _) 2).trans rfl,(blk_cell (blk_alloc BK327.out _) 3).trans rfl,(blk_cell (blk_alloc BK327.out _) 4).trans rfl,(blk_cell (blk_alloc BK327.out _) 5).trans rfl,(blk_cell (blk_alloc BK327.out _) 6).trans rfl,(blk_cell (blk_alloc BK327.out _) 7).trans rfl,(blk_cell (blk_alloc BK327.out _) 8).trans rfl,(blk_cell (blk_alloc BK327.out _) 9).trans rfl,(blk_cell (blk_alloc BK325.out _) 0).trans rfl,(blk_cell (blk_alloc BK325.out _) 1).trans rfl,(blk_cell (blk_alloc BK325.out _) 2).trans rfl,(blk_cell (blk_alloc BK325.out _) 3).trans rfl,(blk_cell (blk_alloc BK325.out _) 4).trans rfl,(blk_cell (blk_alloc BK325.out _) 5).trans rfl,(blk_cell (blk_alloc BK325.out _) 6).trans rfl,(blk_cell (blk_alloc BK325.out _) 7).trans rfl,(blk_cell (blk_alloc BK325.out _) 8).trans rfl,(blk_cell (blk_alloc BK325.out _) 9).trans rfl,(World.cell?_alloc_lt _ _ _ (World.block_lt_of_cell? _ _ (((HB.out.cell (World.block_lt_of_cell? w _ hw338_0)).trans hw338_0)))).trans (((HB.out.cell (World.block_lt_of_cell? w _ hw338_0)).trans hw338_0)),(World.cell?_alloc_lt _ _ _ (World.block_lt_of_cell? _ _ (((HB.out.cell (World.block_lt_of_cell? w _ hw338_1)).trans hw338_1)))).trans (((HB.out.cell (World.block_lt_of_cell? w _ hw338_1)).trans hw338_1)),(World.cell?_alloc_lt _ _ _ (World.block_lt_of_cell? _ _ (((HB.out.cell (World.block_lt_of_cell? w _ hw338_2)).trans hw338_2)))).trans (((HB.out.cell (World.block_lt_of_cell? w _ hw338_2)).trans hw338_2)),(World.cell?_alloc_lt _ _ _ (World.block_lt_of_cell? _ _ (((HB.out.cell (World.block_lt_of_cell? w _ hw338_3)).trans hw338_3)))).trans (((HB.out.cell (World.block_lt_of_cell? w _ hw338_3)).trans hw338_3)),(World.cell?_alloc_lt _ _ _ (World.block_lt_of_cell? _ _ (((HB.out.cell (World.block_lt_of_cell? w _ hw338_4)).trans hw338_4)))).trans (((HB.out.cell (World.block_lt_of_cell? w _ hw338_4)).trans hw338_4)),(World.cell?_alloc_lt _ _ _ (World.block_lt_of_cell? _ _ (((HB.out.cell (World.block_lt_of_cell? w _ hw338_5)).trans hw338_5)))).trans (((HB.out.cell (World.block_lt_of_cell? w _ hw338_5)).trans hw338_5)),(World.cell?_alloc_lt _ _ _ (World.block_lt_of_cell? _ _ (((HB.out.cell (World.block_lt_of_cell? w _ hw338_6)).trans hw338_6)))).trans (((HB.out.cell (World.block_lt_of_cell? w _ hw338_6)).trans hw338_6)),(World.cell?_alloc_lt _ _ _ (World.block_lt_of_cell? _ _ (((HB.out.cell (World.block_lt_of_cell? w _ hw338_7)).trans hw338_7)))).trans (((HB.out.cell (World.block_lt_of_cell? w _ hw338_7)).trans hw338_7))⟩ (fun hHeld => ?_)
         clear hK K
         refine norm_ (a' := ?_) ?_ ?_
         rotate_left
         ·show Act.put _ (some 44) _ = _
          simp only [Act.put,List.setIfInBounds_toArray,List.set_cons_zero,List.set_cons_succ,i64_w,i32_w]
          rfl
         refine one_ (i:=9) (N:=some 45) #[true,true,true,true,true,true,true,true,true,true,false,false] rfl rfl (one_of HT_.out (by kernel_rfl)) (by decide) (fun K hK => ?_)
         refine Kd.S_append_step k87 (w0:=w) w.heap.size (by rfl) (.tmp 37) (.tmp 44) 28 87 (.agg #[(.int .i64 0),(.int .i64 0),(.int .i64 0),(.bool false),(.int .u32 0),(.bool false),(.int .i64 0),(.slice none 0 0)]) 72 rfl Try.underlying28 info87 rfl (by decide) (by omega) u328005 x328005_2 (⟨t339,t340,t341,(⟨t342,t343,t344,t345,t346⟩ : S45)⟩ : S87) [.int .i64 t339, .int .i64 t340, .int .i64 t341, .bool t342, .int .u32 t343, .bool t344, .int .i64 t345, .slice Ao42 t346.length co42] (fun _ => True) (fun k_ => some k_ = (.slice Ao42 t346.length co42 : Value).ownBlock) rfl rfl ?aP (fun k_ hk_ => ((Kd.R_mono (ok':=fun k_ => ((fun _ => True)) k_ ∧ some k_ ≠ (u328005 : Value).ownBlock) (Kd.R_apart' (HO348.out) (Kd.S_typed HO_328005.out) (by decide)) (fun k_ hk => ⟨trivial,hk.2⟩))).1 k_ hk_.symm) ?aF ?aO ?aB ?aS ?aL ?_
         (case aP => exact k87_mkM _ _ _ (⟨t339,t340,t341,(⟨t342,t343,t344,t345,t346⟩ : S45)⟩ : S87) (Kd.R_mono (Kd.R_tight rfl (Kd.R_mono (ok':=fun k_ => ((fun _ => True)) k_ ∧ some k_ ≠ (u328005 : Value).ownBlock) (Kd.R_apart' (HO348.out) (Kd.S_typed HO_328005.out) (by decide)) (fun k_ hk => ⟨trivial,hk.2⟩))) (fun _ h_ => h_)))
         (case aB => exact (by repeat (first | (with_reducible first | exact HB.out | apply below_alloc | apply pw_below_drewN | apply below_drew1 | refine below_set ?_ GE325.out | refine below_set ?_ GE326.out | refine below_set ?_ GE327.out) | exact HB.out)))
         (case aF => exact (fun _ _ => trivial))
         (case aO => exact (by (with_reducible repeat (first | apply Kd.S_alloc | apply Kd.S_drewN | apply Kd.S_drew));exact Kd.S_mono HO_328005.out (fun k_ hk => ⟨trivial,fun e_ => hk.2 e_⟩)))
         (case aS => exact (below_size (by repeat (first | (with_reducible first | exact HB.out | apply below_alloc | apply pw_below_drewN | apply below_drew1 | refine below_set ?_ GE325.out | refine below_set ?_ GE326.out | refine below_set ?_ GE327.out) | exact HB.out))))
         (case aL => have:=LMc35.out;omega)
         intro v350 w41 ho hb hg hat
         rw [← Ny349.out] at ho
         have n0_:=Aside0.mk (Kd.R_over' (by (with_reducible repeat (first | apply Kd.R_alloc | apply Kd.R_drewN | apply Kd.R_drew));exact HO_328004.out) (Kd.S_typed (by (with_reducible repeat (first | apply Kd.S_alloc | apply Kd.S_drewN | apply Kd.S_drew));exact HO_328005.out)) (by decide) hg)
         have n1_:=Aside0.mk (blk_grown (g:=gb325) (o := .cells #[.int .i64 a0_0, .int .i64 a0_1, .int .i64 a0_2, .int .i64 a0_3, .slice A0_4 l0_4.length c0_4, .slice (some ad338) l0_5.length c0_5, .slice A0_6 l0_6.length c0_6, .slice A0_7 l0_7.length c0_7, .int .i64 a0_8, .int .i64 a0_9] 32 (0,0)) (by (with_reducible repeat (first | refine blk_drewN ?_ _ | refine blk_drew ?_ | refine blk_alloc ?_ _));exact BK325.out) hg (Kd.S_ne HO_328005.out BK325.out (by decide)))
         have n2_:=Aside0.mk (blk_grown (g:=gb326) (o := .cells #[.int .i64 0, .int .i64 0, .int .i64 0, .int .i64 0, .slice none 0 0, .slice none 0 0, .slice none 0 0, .slice none 0 0, .int .i64 0, .int .i64 0] 32 (0,0)) (by (with_reducible repeat (first | refine blk_drewN ?_ _ | refine blk_drew ?_ | refine blk_alloc ?_ _));exact BK326.out) hg (Kd.S_ne HO_328005.out BK326.out (by decide)))
         have n3_:=Aside0.mk (blk_grown (g:=gb327) (o := .cells #[.int .i64 a0_0, .int .i64 a0_1, .int .i64 a0_2, .int .i64 a0_3,u328004,u328005, .slice A0_6 l0_6.length c0_6, .slice A0_7 l0_7.length c0_7, .int .i64 a0_8, .int .i64 a0_9] 32 (0,0)) (by (with_reducible repeat (first | refine blk_drewN ?_ _ | refine blk_drew ?_ | refine blk_alloc ?_ _));exact BK327.out) hg (Kd.S_ne HO_328005.out BK327.out (by decide)))
         have n4_:=Aside0.mk (hb)
         have n5_:=Aside0.mk (ho)
         clear HO_328004
         clear BK325
         clear BK326
         clear BK327
         clear HB
         clear HO_328005
         clear HO348
         have HO_328004:=n0_
         have BK325:=n1_
         have BK326:=n2_
         have BK327:=n3_
         have HB:=n4_
         have HO351:=n5_
         clear n0_ n1_ n2_ n3_ n4_ n5_
         clear ho hb hg hat
         obtain ⟨Ao43,co43,eo43⟩:=Kd.S_slice HO351.out
         (first | subst eo43 | (injection eo43 with f1_ f2_ f3_;have f4_:=f1_.symm;have f5_:=f3_.symm;clear f1_ f2_ f3_;subst f4_;subst f5_))
         refine hK.out _ _ ⟨(blk_cell BK327.out 0).trans rfl,(blk_cell BK327.out 1).trans rfl,(blk_cell BK327.out 2).trans rfl,(blk_cell BK327.out 3).trans rfl,(blk_cell BK327.out 4).trans rfl,(blk_cell BK327.out 5).trans rfl,(blk_cell BK327.out 6).trans rfl,(blk_cell BK327.out 7).trans rfl,(blk_cell BK327.out 8).trans rfl,(blk_cell BK327.out 9).trans rfl,(blk_cell BK325.out 0).trans rfl,(blk_cell BK325.out 1).trans rfl,(blk_cell BK325.out 2).trans rfl,(blk_cell BK325.out 3).trans rfl,(blk_cell BK325.out 4).trans rfl,(blk_cell BK325.out 5).trans rfl,(blk_cell BK325.out 6).trans rfl,(blk_cell BK325.out 7).trans rfl,(blk_cell BK325.out 8).trans rfl,(blk_cell BK325.out 9).trans rfl,((HB.out.cell (World.block_lt_of_cell? w _ hw338_0)).trans hw338_0),((HB.out.cell (World.block_lt_of_cell? w _ hw338_1)).trans hw338_1),((HB.out.cell (World.block_lt_of_cell? w _ hw338_2)).trans hw338_2),((HB.out.cell (World.block_lt_of_cell? w _ hw338_3)).trans hw338_3),((HB.out.cell (World.block_lt_of_cell? w _ hw338_4)).trans hw338_4),((HB.out.cell (World.block_lt_of_cell? w _ hw338_5)).trans hw338_5),((HB.out.cell (World.block_lt_of_cell? w _ hw338_6)).trans hw338_6),((HB.out.cell (World.block_lt_of_cell? w _ hw338_7)).trans hw338_7)⟩ (fun hHeld => ?_)
         clear hK K
         refine norm_ (a' := ?_) ?_ ?_
         rotate_left
         ·show Act.put _ (some 45) _ = _
          simp only [Act.put,List.setIfInBounds_toArray,List.set_cons_zero,List.set_cons_succ,i64_w,i32_w]
          rfl
         refine pure_ (i:=10) (N:=some 46) (v := ?_) (a' := ?_) #[true,true,true,true,true,true,true,true,true,true,true,false] rfl rfl (any_of HT_.out (by kernel_rfl)) (fun _ _ _ h => h) (Or.inl ⟨by rfl, ?_⟩) ?_ ?_
         rotate_left
         ·intro w'
          go_simp
          with_reducible rfl
         rotate_left
         ·simp only [Act.put,List.setIfInBounds_toArray,List.set_cons_zero,List.set_cons_succ,i64_w,i32_w]
          rfl
         refine last_ (i:=11) (N:=none) #[true,true,true,true,true,true,true,true,true,true,true,true] rfl rfl (one_of HT_.out (by kernel_rfl)) (by decide) (fun K hK => ?_)
         have hs44 : w41.cell? ⟨gb327,5,none⟩ = some (u328005):=(blk_cell BK327.out 5).trans rfl
         have hfs44:=blk_frozen BK327.out 5
         have hns44_0:=NB325_327.out
         have hns44_1:=NB326_327.out
         have hms44_0:=NB327_325.out
         have hms44_1:=NB327_326.out
         refine skip_ (w1 := ?_) (by rfl) rfl ?_ ?_
         rotate_left
         ·go_simp
          rfl
         refine hK.out _ _ ?_
         clear hK K
         refine done_ (done_of HT_.out (by kernel_rfl)) ?_
         try go_wp2
         go_roundg k2
         case measure => have:=HK1.out;have:=HK2.out;omega
         case rel => exact ⟨(wrap64 (x5_2 + 1)),(y349),(.slice Ao43 y349.length co43),(by first | rfl | (simp;done) | (simp [*];done)),H',⟨by have:=HK1.out;have:=HK2.out;omega⟩,⟨by (with_reducible repeat (first | apply Kd.R_alloc | apply Kd.R_drewN | apply Kd.R_drew));exact Kd.R_mono (Kd.R_far (p:=⟨gb327,5,none⟩) (Kd.R_types HO_328004.out BK327.out (by decide)) (fun _ hk => hk.2) (.slice Ao43 y349.length co43)) (fun _ hk => trivial)⟩,⟨by (with_reducible repeat (first | apply Kd.S_alloc | apply Kd.S_drewN | apply Kd.S_drew));exact Kd.S_mono (Kd.S_far (p:=⟨gb327,5,none⟩) (Kd.S_types HO351.out BK327.out (by decide)) (fun _ hk => hk.2) (.slice Ao43 y349.length co43)) (fun _ hk => trivial)⟩,⟨by (with_reducible repeat (first | refine blk_drewN ?_ _ | refine blk_drew ?_ | refine blk_alloc ?_ _));refine blk_far ?_ NB325_327.out _;(with_reducible repeat (first | refine blk_drewN ?_ _ | refine blk_drew ?_ | refine blk_alloc ?_ _));exact BK325.out⟩,⟨by (with_reducible repeat (first | refine blk_drewN ?_ _ | refine blk_drew ?_ | refine blk_alloc ?_ _));refine blk_far ?_ NB326_327.out _;(with_reducible repeat (first | refine blk_drewN ?_ _ | refine blk_drew ?_ | refine blk_alloc ?_ _));exact BK326.out⟩,⟨by (with_reducible repeat (first | refine blk_drewN ?_ _ | refine blk_drew ?_ | refine blk_alloc ?_ _));refine blk_put (cs := #[.int .i64 a0_0, .int .i64 a0_1, .int .i64 a0_2, .int .i64 a0_3,u328004,u328005, .slice A0_6 l0_6.length c0_6, .slice A0_7 l0_7.length c0_7, .int .i64 a0_8, .int .i64 a0_9]) ?_ 5 _ rfl;(with_reducible repeat (first | refine blk_drewN ?_ _ | refine blk_drew ?_ | refine blk_alloc ?_ _));exact BK327.out⟩,⟨by repeat (first | (with_reducible first | exact HB.out | apply below_alloc | apply pw_below_drewN | apply below_drew1 | refine below_set ?_ GE325.out | refine below_set ?_ GE326.out | refine below_set ?_ GE327.out) | exact HB.out)⟩⟩
        ·rw [if_neg c35] at H
         exact absurd H (by simp)
       ·rw [if_neg c33] at H
        exact absurd H (by simp)
      ·rw [if_neg c32] at H
       have c32b0 : decide (x5_2 < (l0_5.length : Int)) = false:=decide_eq_false c32
       clear c32
       obtain ⟨y352,hy352⟩ : ∃ y_ : List (S45),y_ = (([] : List (S45))):=⟨_,rfl⟩
       replace H : (spec_l3copy.l2 k2 0 a0_0 a0_1 a0_2 a0_3 l0_4 l0_5 l0_6 l0_7 a0_8 a0_9 a0_0 a0_1 a0_2 a0_3 x328004_1 x328005_2 y352 l0_7 a0_8 a0_9) = some (r1,r2,r3,r4,r5,r6,r7,r8,r9,r10):=by first | (rw [hy352];with_reducible exact H) | (have H2_:=(Option.bind_some _ _).symm.trans H;rw [hy352];with_reducible exact H2_) | (have H2_:=(Option.bind_some _ _).symm.trans H;with_reducible exact H2_) | with_reducible exact H | (rw [hy352];exact H) | exact H
       have Ny352:=Aside0.mk hy352
       clear hy352
       have H':=Aside0.mk H
       clear H
       have hnb45:=NB325_326.out
       have hnc45:=NB326_325.out
       have hnb46:=NB325_327.out
       have hnc46:=NB327_325.out
       have hcz47_0 : wr.cell? ⟨gb325,0,none⟩ = some (.int .i64 a0_0):=(blk_cell BK325.out 0).trans rfl
       have hcz47_1 : wr.cell? ⟨gb325,1,none⟩ = some (.int .i64 a0_1):=(blk_cell BK325.out 1).trans rfl
       have hcz47_2 : wr.cell? ⟨gb325,2,none⟩ = some (.int .i64 a0_2):=(blk_cell BK325.out 2).trans rfl
       have hcz47_3 : wr.cell? ⟨gb325,3,none⟩ = some (.int .i64 a0_3):=(blk_cell BK325.out 3).trans rfl
       have hcz47_4 : wr.cell? ⟨gb325,4,none⟩ = some (.slice A0_4 l0_4.length c0_4):=(blk_cell BK325.out 4).trans rfl
       have hcz47_5 : wr.cell? ⟨gb325,5,none⟩ = some (.slice A0_5 l0_5.length c0_5):=(blk_cell BK325.out 5).trans rfl
       have hcz47_6 : wr.cell? ⟨gb325,6,none⟩ = some (.slice A0_6 l0_6.length c0_6):=(blk_cell BK325.out 6).trans rfl
       have hcz47_7 : wr.cell? ⟨gb325,7,none⟩ = some (.slice A0_7 l0_7.length c0_7):=(blk_cell BK325.out 7).trans rfl
       have hcz47_8 : wr.cell? ⟨gb325,8,none⟩ = some (.int .i64 a0_8):=(blk_cell BK325.out 8).trans rfl
       have hcz47_9 : wr.cell? ⟨gb325,9,none⟩ = some (.int .i64 a0_9):=(blk_cell BK325.out 9).trans rfl
       have hfz47_0:=blk_frozen BK325.out 0
       have hfz47_1:=blk_frozen BK325.out 1
       have hfz47_2:=blk_frozen BK325.out 2
       have hfz47_3:=blk_frozen BK325.out 3
       have hfz47_4:=blk_frozen BK325.out 4
       have hfz47_5:=blk_frozen BK325.out 5
       have hfz47_6:=blk_frozen BK325.out 6
       have hfz47_7:=blk_frozen BK325.out 7
       have hfz47_8:=blk_frozen BK325.out 8
       have hfz47_9:=blk_frozen BK325.out 9
       go_wp2_with (first | ((with_reducible refine gate_dst (N:=47) rfl ?_);refine Kd.S_lit k45 _ 45 ?hg (N:=47) ?hd (xs:=([] : List (S45))) (inner := []) (ok:=fun _ => True) (okp:=fun _ => True) ?hr ?hp (fun _ hk => hk) trivial (Below.refl _ _) (Nat.le_refl _) (by simp) ?_;(case hd => rfl);(case hg => rfl);(case hr => first | (go_simp;done) | (go_simp;rfl));(case hp => exact (Reps.none _ _));intro v353 w48 ho49 hb hg_ hnew_;clear hg_ hnew_;(first | rw [← Ny352.out] at ho49 | (simp only [Int.reduceToNat] at ho49;rw [← Ny352.out] at ho49));have n0_:=Aside0.mk (Kd.R_below (by (with_reducible repeat (first | apply Kd.R_alloc | apply Kd.R_drewN | apply Kd.R_drew));exact HO_328004.out) hb);have n1_:=Aside0.mk (Kd.S_below (by (with_reducible repeat (first | apply Kd.S_alloc | apply Kd.S_drewN | apply Kd.S_drew));exact HO_328005.out) hb);have n2_:=Aside0.mk (Kd.S_lower ho49 (below_size (by repeat (first | (with_reducible first | exact HB.out | apply below_alloc | apply pw_below_drewN | apply below_drew1 | refine below_set ?_ GE325.out | refine below_set ?_ GE326.out | refine below_set ?_ GE327.out) | exact HB.out))));have n3_:=Aside0.mk (blk_below (g:=gb325) (o := .cells #[.int .i64 a0_0, .int .i64 a0_1, .int .i64 a0_2, .int .i64 a0_3, .slice A0_4 l0_4.length c0_4, .slice A0_5 l0_5.length c0_5, .slice A0_6 l0_6.length c0_6, .slice A0_7 l0_7.length c0_7, .int .i64 a0_8, .int .i64 a0_9] 32 (0,0)) (by (with_reducible repeat (first | refine blk_drewN ?_ _ | refine blk_drew ?_ | refine blk_alloc ?_ _));exact BK325.out) hb);have n4_:=Aside0.mk (blk_below (g:=gb326) (o := .cells #[.int .i64 0, .int .i64 0, .int .i64 0, .int .i64 0, .slice none 0 0, .slice none 0 0, .slice none 0 0, .slice none 0 0, .int .i64 0, .int .i64 0] 32 (0,0)) (by (with_reducible repeat (first | refine blk_drewN ?_ _ | refine blk_drew ?_ | refine blk_alloc ?_ _));exact BK326.out) hb);have n5_:=Aside0.mk (blk_below (g:=gb327) (o := .cells #[.int .i64 a0_0, .int .i64 a0_1, .int .i64 a0_2, .int .i64 a0_3,u328004,u328005, .slice A0_6 l0_6.length c0_6, .slice A0_7 l0_7.length c0_7, .int .i64 a0_8, .int .i64 a0_9] 32 (0,0)) (by (with_reducible repeat (first | refine blk_drewN ?_ _ | refine blk_drew ?_ | refine blk_alloc ?_ _));exact BK327.out) hb);have n6_:=Aside0.mk (below_step (by repeat (first | (with_reducible first | exact HB.out | apply below_alloc | apply pw_below_drewN | apply below_drew1 | refine below_set ?_ GE325.out | refine below_set ?_ GE326.out | refine below_set ?_ GE327.out) | exact HB.out)) hb);clear HO_328004;clear HO_328005;clear BK325;clear BK326;clear BK327;clear HB;have HO_328004:=n0_;have HO_328005:=n1_;have HO354:=n2_;have BK325:=n3_;have BK326:=n4_;have BK327:=n5_;have HB:=n6_;clear n0_ n1_ n2_ n3_ n4_ n5_ n6_;clear hb ho49;obtain ⟨Ao50,co50,eo50⟩:=Kd.S_slice HO354.out;subst eo50;have hnb51:=NB327_326.out;have hnc51:=NB326_327.out;have hcz52_0 : w48.cell? ⟨gb327,0,none⟩ = some (.int .i64 a0_0):=(blk_cell BK327.out 0).trans rfl;have hcz52_1 : w48.cell? ⟨gb327,1,none⟩ = some (.int .i64 a0_1):=(blk_cell BK327.out 1).trans rfl;have hcz52_2 : w48.cell? ⟨gb327,2,none⟩ = some (.int .i64 a0_2):=(blk_cell BK327.out 2).trans rfl;have hcz52_3 : w48.cell? ⟨gb327,3,none⟩ = some (.int .i64 a0_3):=(blk_cell BK327.out 3).trans rfl;have hcz52_4 : w48.cell? ⟨gb327,4,none⟩ = some (u328004):=(blk_cell BK327.out 4).trans rfl;have hcz52_5 : w48.cell? ⟨gb327,5,none⟩ = some (u328005):=(blk_cell BK327.out 5).trans rfl;have hcz52_6 : w48.cell? ⟨gb327,6,none⟩ = some (.slice A0_6 l0_6.length c0_6):=(blk_cell BK327.out 6).trans rfl;have hcz52_7 : w48.cell? ⟨gb327,7,none⟩ = some (.slice A0_7 l0_7.length c0_7):=(blk_cell BK327.out 7).trans rfl;have hcz52_8 : w48.cell? ⟨gb327,8,none⟩ = some (.int .i64 a0_8):=(blk_cell BK327.out 8).trans rfl;have hcz52_9 : w48.cell? ⟨gb327,9,none⟩ = some (.int .i64 a0_9):=(blk_cell BK327.out 9).trans rfl;have hfz52_0:=blk_frozen BK327.out 0;have hfz52_1:=blk_frozen BK327.out 1;have hfz52_2:=blk_frozen BK327.out 2;have hfz52_3:=blk_frozen BK327.out 3;have hfz52_4:=blk_frozen BK327.out 4;have hfz52_5:=blk_frozen BK327.out 5;have hfz52_6:=blk_frozen BK327.out 6;have hfz52_7:=blk_frozen BK327.out 7;have hfz52_8:=blk_frozen BK327.out 8;have hfz52_9:=blk_frozen BK327.out 9))
       go_loopg [6] k2 (fun kq v6 w' => ∃ (x6_3 : Int) (x328006_3 : List (S45)) (u328006 : Value),v6 = .int .i64 x6_3 ∧ Aside0 (spec_l3copy.l2 kq x6_3 a0_0 a0_1 a0_2 a0_3 l0_4 l0_5 l0_6 l0_7 a0_8 a0_9 a0_0 a0_1 a0_2 a0_3 x328004_1 x328005_2 x328006_3 l0_7 a0_8 a0_9 = some (r1,r2,r3,r4,r5,r6,r7,r8,r9,r10)) ∧ Aside0 (kq ≤ k2) ∧ Aside0 (Kd.R k89 89 w' w.heap.size (fun _ => True) u328004 x328004_1) ∧ Aside0 (Kd.S k87 87 w' w.heap.size (fun _ => True) u328005 x328005_2) ∧ Aside0 (Kd.S k45 45 w' w.heap.size (fun _ => True) u328006 x328006_3) ∧ Aside0 (w'.heap[gb325]? = some (.cells #[.int .i64 a0_0, .int .i64 a0_1, .int .i64 a0_2, .int .i64 a0_3,(.slice A0_4 l0_4.length c0_4),(.slice A0_5 l0_5.length c0_5),(.slice A0_6 l0_6.length c0_6),(.slice A0_7 l0_7.length c0_7), .int .i64 a0_8, .int .i64 a0_9] 32 (0,0))) ∧ Aside0 (w'.heap[gb326]? = some (.cells #[.int .i64 0, .int .i64 0, .int .i64 0, .int .i64 0,(.slice none 0 0),(.slice none 0 0),(.slice none 0 0),(.slice none 0 0), .int .i64 0, .int .i64 0] 32 (0,0))) ∧ Aside0 (w'.heap[gb327]? = some (.cells #[.int .i64 a0_0, .int .i64 a0_1, .int .i64 a0_2, .int .i64 a0_3,u328004,u328005,u328006,(.slice A0_7 l0_7.length c0_7), .int .i64 a0_8, .int .i64 a0_9] 32 (0,0))) ∧ Aside0 (Below w.heap.size w w'))
       case atStart => exact ⟨(0),(y352),(.slice Ao50 y352.length co50),(by first | rfl | (simp;done) | (simp [*];done)),H',⟨Nat.le_refl _⟩,⟨by (with_reducible repeat (first | apply Kd.R_alloc | apply Kd.R_drewN | apply Kd.R_drew));exact Kd.R_mono (Kd.R_far (p:=⟨gb327,6,none⟩) (Kd.R_types HO_328004.out BK327.out (by decide)) (fun _ hk => hk.2) (.slice Ao50 y352.length co50)) (fun _ hk => trivial)⟩,⟨by (with_reducible repeat (first | apply Kd.S_alloc | apply Kd.S_drewN | apply Kd.S_drew));exact Kd.S_mono (Kd.S_far (p:=⟨gb327,6,none⟩) (Kd.S_types HO_328005.out BK327.out (by decide)) (fun _ hk => hk.2) (.slice Ao50 y352.length co50)) (fun _ hk => trivial)⟩,⟨by (with_reducible repeat (first | apply Kd.S_alloc | apply Kd.S_drewN | apply Kd.S_drew));exact Kd.S_mono (Kd.S_far (p:=⟨gb327,6,none⟩) (Kd.S_types HO354.out BK327.out (by decide)) (fun _ hk => hk.2) (.slice Ao50 y352.length co50)) (fun _ hk => trivial)⟩,⟨by (with_reducible repeat (first | refine blk_drewN ?_ _ | refine blk_drew ?_ | refine blk_alloc ?_ _));refine blk_far ?_ NB325_327.out _;(with_reducible repeat (first | refine blk_drewN ?_ _ | refine blk_drew ?_ | refine blk_alloc ?_ _));exact BK325.out⟩,⟨by (with_reducible repeat (first | refine blk_drewN ?_ _ | refine blk_drew ?_ | refine blk_alloc ?_ _));refine blk_far ?_ NB326_327.out _;(with_reducible repeat (first | refine blk_drewN ?_ _ | refine blk_drew ?_ | refine blk_alloc ?_ _));exact BK326.out⟩,⟨by (with_reducible repeat (first | refine blk_drewN ?_ _ | refine blk_drew ?_ | refine blk_alloc ?_ _));refine blk_put (cs := #[.int .i64 a0_0, .int .i64 a0_1, .int .i64 a0_2, .int .i64 a0_3,u328004,u328005, .slice A0_6 l0_6.length c0_6, .slice A0_7 l0_7.length c0_7, .int .i64 a0_8, .int .i64 a0_9]) ?_ 6 _ rfl;(with_reducible repeat (first | refine blk_drewN ?_ _ | refine blk_drew ?_ | refine blk_alloc ?_ _));exact BK327.out⟩,⟨by repeat (first | (with_reducible first | exact HB.out | apply below_alloc | apply pw_below_drewN | apply below_drew1 | refine below_set ?_ GE325.out | refine below_set ?_ GE326.out | refine below_set ?_ GE327.out) | exact HB.out)⟩⟩
       case round =>
        clear H'
        try clear c1
        try clear c2
        try clear p2
        try clear c3
        try clear p3
        try clear q3
        try clear hx3
        try clear c4
        try clear c5
        try clear p6
        try clear c7
        try clear c8
        try clear c10
        try clear c14
        try clear c14b0
        try clear c15
        try clear c15b0
        try clear c16
        try clear c17
        try clear c18
        try clear c24
        try clear c25
        try clear c30
        try clear c32
        try clear c32b0
        try clear c33
        try clear c33b0
        try clear p33
        try clear q33
        try clear hx33
        try clear c35
        try clear c36
        try clear c37
        try clear c45
        try clear c46
        try clear c51
        try clear hcz13_0
        try clear hcz13_1
        try clear hcz13_2
        try clear hcz13_3
        try clear hcz13_4
        try clear hcz13_5
        try clear hcz13_6
        try clear hcz13_7
        try clear hcz13_8
        try clear hcz13_9
        try clear hcz19_0
        try clear hcz19_1
        try clear hcz19_2
        try clear hcz19_3
        try clear hcz19_4
        try clear hcz19_5
        try clear hcz19_6
        try clear hcz19_7
        try clear hcz19_8
        try clear hcz19_9
        try clear hcz26_0
        try clear hcz26_1
        try clear hcz26_2
        try clear hcz26_3
        try clear hcz26_4
        try clear hcz26_5
        try clear hcz26_6
        try clear hcz26_7
        try clear hcz26_8
        try clear hcz26_9
        try clear hcz31_0
        try clear hcz31_1
        try clear hcz31_2
        try clear hcz31_3
        try clear hcz31_4
        try clear hcz31_5
        try clear hcz31_6
        try clear hcz31_7
        try clear hcz31_8
        try clear hcz31_9
        try clear hcz38_0
        try clear hcz38_1
        try clear hcz38_2
        try clear hcz38_3
        try clear hcz38_4
        try clear hcz38_5
        try clear hcz38_6
        try clear hcz38_7
        try clear hcz38_8
        try clear hcz38_9
        try clear hcz47_0
        try clear hcz47_1
        try clear hcz47_2
        try clear hcz47_3
        try clear hcz47_4
        try clear hcz47_5
        try clear hcz47_6
        try clear hcz47_7
        try clear hcz47_8
        try clear hcz47_9
        try clear hcz52_0
        try clear hcz52_1
        try clear hcz52_2
        try clear hcz52_3
        try clear hcz52_4
        try clear hcz52_5
        try clear hcz52_6
        try clear hcz52_7
        try clear hcz52_8
        try clear hcz52_9
        try clear hcz5_0
        try clear hcz5_1
        try clear hcz5_2
        try clear hcz5_3
        try clear hcz5_4
        try clear hcz5_5
        try clear hcz5_6
        try clear hcz5_7
        try clear hcz5_8
        try clear hcz5_9
        try clear hcz9_0
        try clear hcz9_1
        try clear hcz9_2
        try clear hcz9_3
        try clear hcz9_4
        try clear hcz9_5
        try clear hcz9_6
        try clear hcz9_7
        try clear hcz9_8
        try clear hcz9_9
        try clear hfz13_0
        try clear hfz13_1
        try clear hfz13_2
        try clear hfz13_3
        try clear hfz13_4
        try clear hfz13_5
        try clear hfz13_6
        try clear hfz13_7
        try clear hfz13_8
        try clear hfz13_9
        try clear hfz19_0
        try clear hfz19_1
        try clear hfz19_2
        try clear hfz19_3
        try clear hfz19_4
        try clear hfz19_5
        try clear hfz19_6
        try clear hfz19_7
        try clear hfz19_8
        try clear hfz19_9
        try clear hfz26_0
        try clear hfz26_1
        try clear hfz26_2
        try clear hfz26_3
        try clear hfz26_4
        try clear hfz26_5
        try clear hfz26_6
        try clear hfz26_7
        try clear hfz26_8
        try clear hfz26_9
        try clear hfz31_0
        try clear hfz31_1
        try clear hfz31_2
        try clear hfz31_3
        try clear hfz31_4
        try clear hfz31_5
        try clear hfz31_6
        try clear hfz31_7
        try clear hfz31_8
        try clear hfz31_9
        try clear hfz38_0
        try clear hfz38_1
        try clear hfz38_2
        try clear hfz38_3
        try clear hfz38_4
        try clear hfz38_5
        try clear hfz38_6
        try clear hfz38_7
        try clear hfz38_8
        try clear hfz38_9
        try clear hfz47_0
        try clear hfz47_1
        try clear hfz47_2
        try clear hfz47_3
        try clear hfz47_4
        try clear hfz47_5
        try clear hfz47_6
        try clear hfz47_7
        try clear hfz47_8
        try clear hfz47_9
        try clear hfz52_0
        try clear hfz52_1
        try clear hfz52_2
        try clear hfz52_3
        try clear hfz52_4
        try clear hfz52_5
        try clear hfz52_6
        try clear hfz52_7
        try clear hfz52_8
        try clear hfz52_9
        try clear hfz5_0
        try clear hfz5_1
        try clear hfz5_2
        try clear hfz5_3
        try clear hfz5_4
        try clear hfz5_5
        try clear hfz5_6
        try clear hfz5_7
        try clear hfz5_8
        try clear hfz5_9
        try clear hfz9_0
        try clear hfz9_1
        try clear hfz9_2
        try clear hfz9_3
        try clear hfz9_4
        try clear hfz9_5
        try clear hfz9_6
        try clear hfz9_7
        try clear hfz9_8
        try clear hfz9_9
        try clear hx331_0
        try clear hx331_1
        try clear hx331_2
        try clear hx338_0
        try clear hx338_1
        try clear hx338_2
        try clear hx338_3
        try clear hx338_4
        try clear hx338_5
        try clear hx338_6
        try clear hx338_7
        try clear p2
        try clear p3
        try clear p331
        try clear p338
        try clear p6
        try clear q3
        try clear q331
        try clear q338
        (try clear BK325)
        (try clear BK326)
        (try clear BK327)
        obtain ⟨x6_3,x328006_3,u328006,rfl,HA,HK3,HO_328004,HO_328005,HO_328006,BK325,BK326,BK327,HB⟩:=hrel
        cases gk with
        | zero => exact absurd HA.out (by simp [spec_l3copy.l2])
        | succ k3 =>
         have H:=HA.out
         clear HA
         simp only [spec_l3copy.l2] at H
         by_cases c53 : x6_3 < (l0_6.length : Int)
         ·rw [if_pos c53] at H
          have c53b0 : decide (x6_3 < (l0_6.length : Int)) = true:=decide_eq_true c53
          clear c53
          by_cases c54 : 0 ≤ x6_3
          ·rw [if_pos c54] at H
           have c54b0 : decide (0 ≤ x6_3) = true:=decide_eq_true c54
           clear c54
           replace H:=Option.bind_eq_some_iff.mp H
           obtain ⟨⟨t356,t357,t358,t359,t360⟩,A550,H⟩:=H
           replace H : (if x328006_3.length < 2932031007402 then (spec_l3copy.l2 k3 (wrap64 (x6_3 + 1)) a0_0 a0_1 a0_2 a0_3 l0_4 l0_5 l0_6 l0_7 a0_8 a0_9 a0_0 a0_1 a0_2 a0_3 x328004_1 x328005_2 (x328006_3 ++ [(⟨t356,t357,t358,t359,t360⟩ : S45)]) l0_7 a0_8 a0_9) else (none)) = some (r1,r2,r3,r4,r5,r6,r7,r8,r9,r10):=H
           have A55:=Aside0.mk A550
           clear A550
           by_cases c56 : x328006_3.length < 2932031007402
           ·rw [if_pos c56] at H
            have LMc56:=Aside0.mk c56
            clear c56
            obtain ⟨y363,hy363⟩ : ∃ y_ : List (S45),y_ = (x328006_3 ++ [(⟨t356,t357,t358,t359,t360⟩ : S45)]):=⟨_,rfl⟩
            replace H : (spec_l3copy.l2 k3 (wrap64 (x6_3 + 1)) a0_0 a0_1 a0_2 a0_3 l0_4 l0_5 l0_6 l0_7 a0_8 a0_9 a0_0 a0_1 a0_2 a0_3 x328004_1 x328005_2 y363 l0_7 a0_8 a0_9) = some (r1,r2,r3,r4,r5,r6,r7,r8,r9,r10):=by first | (rw [hy363];with_reducible exact H) | (have H2_:=(Option.bind_some _ _).symm.trans H;rw [hy363];with_reducible exact H2_) | (have H2_:=(Option.bind_some _ _).symm.trans H;with_reducible exact H2_) | with_reducible exact H | (rw [hy363];exact H) | exact H
            have Ny363:=Aside0.mk hy363
            clear hy363
            have H':=Aside0.mk H
            clear H
            have hnb57:=NB325_326.out
            have hnc57:=NB326_325.out
            have hnb58:=NB325_327.out
            have hnc58:=NB327_325.out
            have hcz59_0 : wr.cell? ⟨gb325,0,none⟩ = some (.int .i64 a0_0):=(blk_cell BK325.out 0).trans rfl
            have hcz59_1 : wr.cell? ⟨gb325,1,none⟩ = some (.int .i64 a0_1):=(blk_cell BK325.out 1).trans rfl
            have hcz59_2 : wr.cell? ⟨gb325,2,none⟩ = some (.int .i64 a0_2):=(blk_cell BK325.out 2).trans rfl
            have hcz59_3 : wr.cell? ⟨gb325,3,none⟩ = some (.int .i64 a0_3):=(blk_cell BK325.out 3).trans rfl
            have hcz59_4 : wr.cell? ⟨gb325,4,none⟩ = some (.slice A0_4 l0_4.length c0_4):=(blk_cell BK325.out 4).trans rfl
            have hcz59_5 : wr.cell? ⟨gb325,5,none⟩ = some (.slice A0_5 l0_5.length c0_5):=(blk_cell BK325.out 5).trans rfl
            have hcz59_6 : wr.cell? ⟨gb325,6,none⟩ = some (.slice A0_6 l0_6.length c0_6):=(blk_cell BK325.out 6).trans rfl
            have hcz59_7 : wr.cell? ⟨gb325,7,none⟩ = some (.slice A0_7 l0_7.length c0_7):=(blk_cell BK325.out 7).trans rfl
            have hcz59_8 : wr.cell? ⟨gb325,8,none⟩ = some (.int .i64 a0_8):=(blk_cell BK325.out 8).trans rfl
            have hcz59_9 : wr.cell? ⟨gb325,9,none⟩ = some (.int .i64 a0_9):=(blk_cell BK325.out 9).trans rfl
            have hfz59_0:=blk_frozen BK325.out 0
            have hfz59_1:=blk_frozen BK325.out 1
            have hfz59_2:=blk_frozen BK325.out 2
            have hfz59_3:=blk_frozen BK325.out 3
            have hfz59_4:=blk_frozen BK325.out 4
            have hfz59_5:=blk_frozen BK325.out 5
            have hfz59_6:=blk_frozen BK325.out 6
            have hfz59_7:=blk_frozen BK325.out 7
            have hfz59_8:=blk_frozen BK325.out 8
            have hfz59_9:=blk_frozen BK325.out 9
            try go_wp2
            have n0_:=Aside0.mk (Kd.R_drew HO_328004.out)
            have n1_:=Aside0.mk (Kd.S_drew HO_328005.out)
            have n2_:=Aside0.mk (Kd.S_drew HO_328006.out)
            have n3_:=Aside0.mk (blk_drew BK325.out)
            have n4_:=Aside0.mk (blk_drew BK326.out)
            have n5_:=Aside0.mk (blk_drew BK327.out)
            have n6_:=Aside0.mk (below_drew1 HB.out)
            clear HO_328004
            clear HO_328005
            clear HO_328006
            clear BK325
            clear BK326
            clear BK327
            clear HB
            have HO_328004:=n0_
            have HO_328005:=n1_
            have HO_328006:=n2_
            have BK325:=n3_
            have BK326:=n4_
            have BK327:=n5_
            have HB:=n6_
            clear n0_ n1_ n2_ n3_ n4_ n5_ n6_
            have p355 : 0 ≤ (x6_3 : Int):=of_decide_eq_true (by first | (with_reducible assumption) | assumption)
            have q355 : x6_3 < (l0_6.length : Int):=of_decide_eq_true (by first | (with_reducible assumption) | assumption)
            obtain ⟨ad355,A355_4,c355_4,e355,hx355_0,hx355_1,hx355_2,hx355_3,hx355_4,hl355_4,hi355_4⟩:=at_T45 HR0_6.out x6_3 p355 q355
            have hw355_4:=hx355_4
            have hw355_3:=hx355_3
            have hw355_2:=hx355_2
            have hw355_1:=hx355_1
            have hw355_0:=hx355_0
            cases e355
            replace hx355_0:=(HB.out.cell (World.block_lt_of_cell? w _ hx355_0)).trans hx355_0
            replace hx355_1:=(HB.out.cell (World.block_lt_of_cell? w _ hx355_1)).trans hx355_1
            replace hx355_2:=(HB.out.cell (World.block_lt_of_cell? w _ hx355_2)).trans hx355_2
            replace hx355_3:=(HB.out.cell (World.block_lt_of_cell? w _ hx355_3)).trans hx355_3
            replace hx355_4:=(HB.out.cell (World.block_lt_of_cell? w _ hx355_4)).trans hx355_4
            have HR355_4:=Aside0.mk hi355_4
            have HC355_4:=Aside0.mk hl355_4
            clear hi355_4 hl355_4
            replace p355:=eq_true p355
            replace q355:=eq_true q355
            refine start_ (n:=12) (S:=fun w' => w'.cell? ⟨gb327,0,none⟩ = some (.int .i64 a0_0) ∧ w'.cell? ⟨gb327,1,none⟩ = some (.int .i64 a0_1) ∧ w'.cell? ⟨gb327,2,none⟩ = some (.int .i64 a0_2) ∧ w'.cell? ⟨gb327,3,none⟩ = some (.int .i64 a0_3) ∧ w'.cell? ⟨gb327,4,none⟩ = some (u328004) ∧ w'.cell? ⟨gb327,5,none⟩ = some (u328005) ∧ w'.cell? ⟨gb327,6,none⟩ = some (u328006) ∧ w'.cell? ⟨gb327,7,none⟩ = some (.slice A0_7 l0_7.length c0_7) ∧ w'.cell? ⟨gb327,8,none⟩ = some (.int .i64 a0_8) ∧ w'.cell? ⟨gb327,9,none⟩ = some (.int .i64 a0_9) ∧ w'.cell? ⟨gb325,0,none⟩ = some (.int .i64 a0_0) ∧ w'.cell? ⟨gb325,1,none⟩ = some (.int .i64 a0_1) ∧ w'.cell? ⟨gb325,2,none⟩ = some (.int .i64 a0_2) ∧ w'.cell? ⟨gb325,3,none⟩ = some (.int .i64 a0_3) ∧ w'.cell? ⟨gb325,4,none⟩ = some (.slice A0_4 l0_4.length c0_4) ∧ w'.cell? ⟨gb325,5,none⟩ = some (.slice A0_5 l0_5.length c0_5) ∧ w'.cell? ⟨gb325,6,none⟩ = some (.slice (some ad355) l0_6.length c0_6) ∧ w'.cell? ⟨gb325,7,none⟩ = some (.slice A0_7 l0_7.length c0_7) ∧ w'.cell? ⟨gb325,8,none⟩ = some (.int .i64 a0_8) ∧ w'.cell? ⟨gb325,9,none⟩ = some (.int .i64 a0_9) ∧ w'.cell? (ad355.add ((x6_3).toNat * 5)) = some (.bool ((rd_T45 l0_6 x6_3).f0)) ∧ w'.cell? ⟨(ad355.add ((x6_3).toNat * 5)).block,(ad355.add ((x6_3).toNat * 5)).off + 1,none⟩ = some (.int .u32 ((rd_T45 l0_6 x6_3).f1)) ∧ w'.cell? ⟨(ad355.add ((x6_3).toNat * 5)).block,(ad355.add ((x6_3).toNat * 5)).off + 2,none⟩ = some (.bool ((rd_T45 l0_6 x6_3).f2)) ∧ w'.cell? ⟨(ad355.add ((x6_3).toNat * 5)).block,(ad355.add ((x6_3).toNat * 5)).off + 3,none⟩ = some (.int .i64 ((rd_T45 l0_6 x6_3).f3)) ∧ w'.cell? ⟨(ad355.add ((x6_3).toNat * 5)).block,(ad355.add ((x6_3).toNat * 5)).off + 4,none⟩ = some (.slice A355_4 ((rd_T45 l0_6 x6_3).f4).length c355_4)) (ds := [11]) #[false,false,false,false,false,false,false,false,false,false,false,false] (by kernel_rfl) rfl rfl ⟨(blk_cell BK327.out 0).trans rfl,(blk_cell BK327.out 1).trans rfl,(blk_cell BK327.out 2).trans rfl,(blk_cell BK327.out 3).trans rfl,(blk_cell BK327.out 4).trans rfl,(blk_cell BK327.out 5).trans rfl,(blk_cell BK327.out 6).trans rfl,(blk_cell BK327.out 7).trans rfl,(blk_cell BK327.out 8).trans rfl,(blk_cell BK327.out 9).trans rfl,(blk_cell BK325.out 0).trans rfl,(blk_cell BK325.out 1).trans rfl,(blk_cell BK325.out 2).trans rfl,(blk_cell BK325.out 3).trans rfl,(blk_cell BK325.out 4).trans rfl,(blk_cell BK325.out 5).trans rfl,(blk_cell BK325.out 6).trans rfl,(blk_cell BK325.out 7).trans rfl,(blk_cell BK325.out 8).trans rfl,(blk_cell BK325.out 9).trans rfl,((HB.out.cell (World.block_lt_of_cell? w _ hw355_0)).trans hw355_0),((HB.out.cell (World.block_lt_of_cell? w _ hw355_1)).trans hw355_1),((HB.out.cell (World.block_lt_of_cell? w _ hw355_2)).trans hw355_2),((HB.out.cell (World.block_lt_of_cell? w _ hw355_3)).trans hw355_3),((HB.out.cell (World.block_lt_of_cell? w _ hw355_4)).trans hw355_4)⟩ (fun hHeld => ?_);refine with_tabW spec_l3copy.tab16 spec_l3copy.bits16 (fun HT_ HW_ => ?_)
            generalize wr.drew = w60 at HO_328004 HO_328005 HO_328006 BK325 BK326 BK327 HB HR355_4 hx355_0 hx355_1 hx355_2 hx355_3 hx355_4 hHeld ⊢
            refine pure_ (i:=0) (N:=some 56) (v := ?_) (a' := ?_) #[true,false,false,false,false,false,false,false,false,false,false,false] rfl rfl (any_of HT_.out (by kernel_rfl)) (fun _ _ _ h => h) (Or.inl ⟨by rfl, ?_⟩) ?_ ?_
            rotate_left
            ·intro w'
             go_simp
             with_reducible rfl
            rotate_left
            ·simp only [Act.put,List.setIfInBounds_toArray,List.set_cons_zero,List.set_cons_succ,i64_w,i32_w]
             rfl
            refine pure_ (i:=2) (N:=some 58) (v := ?_) (a' := ?_) #[true,false,true,false,false,false,false,false,false,false,false,false] rfl rfl (any_of HT_.out (by kernel_rfl)) (fun _ _ _ h => h) (Or.inl ⟨by rfl, ?_⟩) ?_ ?_
            rotate_left
            ·intro w'
             go_simp
             with_reducible rfl
            rotate_left
            ·simp only [Act.put,List.setIfInBounds_toArray,List.set_cons_zero,List.set_cons_succ,i64_w,i32_w]
             rfl
            refine pure_ (i:=4) (N:=some 60) (v := ?_) (a' := ?_) #[true,false,true,false,true,false,false,false,false,false,false,false] rfl rfl (any_of HT_.out (by kernel_rfl)) (fun _ _ _ h => h) (Or.inl ⟨by rfl, ?_⟩) ?_ ?_
            rotate_left
            ·intro w'
             go_simp
             with_reducible rfl
            rotate_left
            ·simp only [Act.put,List.setIfInBounds_toArray,List.set_cons_zero,List.set_cons_succ,i64_w,i32_w]
             rfl
            refine take_ (i:=1) (N:=some 57) (v := ?_) (a' := ?_) #[true,true,true,false,true,false,false,false,false,false,false,false] rfl rfl (take_ofW HT_.out HW_.out (by kernel_rfl)) (fun _ _ _ h => h) (Or.inl ⟨by rfl, ?_⟩) hHeld ?_ ?_
            rotate_left
            ·rintro w' ⟨s0,s1,s2,s3,s4,s5,s6,s7,s8,s9,s10,s11,s12,s13,s14,s15,s16,s17,s18,s19,s20,s21,s22,s23,s24⟩
             go_simp
             with_reducible rfl
            rotate_left
            ·simp only [Act.put,List.setIfInBounds_toArray,List.set_cons_zero,List.set_cons_succ,i64_w,i32_w]
             rfl
            refine take_ (i:=3) (N:=some 59) (v := ?_) (a' := ?_) #[true,true,true,true,true,false,false,false,false,false,false,false] rfl rfl (take_ofW HT_.out HW_.out (by kernel_rfl)) (fun _ _ _ h => h) (Or.inl ⟨by rfl, ?_⟩) hHeld ?_ ?_
            rotate_left
            ·rintro w' ⟨s0,s1,s2,s3,s4,s5,s6,s7,s8,s9,s10,s11,s12,s13,s14,s15,s16,s17,s18,s19,s20,s21,s22,s23,s24⟩
             go_simp
             with_reducible rfl
            rotate_left
            ·simp only [Act.put,List.setIfInBounds_toArray,List.set_cons_zero,List.set_cons_succ,i64_w,i32_w]
             rfl
            refine pure_ (i:=5) (N:=some 61) (v := ?_) (a' := ?_) #[true,true,true,true,true,true,false,false,false,false,false,false] rfl rfl (any_of HT_.out (by kernel_rfl)) (fun _ _ _ h => h) (Or.inl ⟨by rfl, ?_⟩) ?_ ?_
            rotate_left
            ·intro w'
             go_simp
             with_reducible rfl
            rotate_left
            ·simp only [Act.put,List.setIfInBounds_toArray,List.set_cons_zero,List.set_cons_succ,i64_w,i32_w]
             rfl
            refine take_ (i:=6) (N:=some 62) (v := ?_) (a' := ?_) #[true,true,true,true,true,true,true,false,false,false,false,false] rfl rfl (take_ofW HT_.out HW_.out (by kernel_rfl)) (fun _ _ _ h => h) (Or.inl ⟨by rfl, ?_⟩) hHeld ?_ ?_
            rotate_left
            ·rintro w' ⟨s0,s1,s2,s3,s4,s5,s6,s7,s8,s9,s10,s11,s12,s13,s14,s15,s16,s17,s18,s19,s20,s21,s22,s23,s24⟩
             go_simp
             with_reducible rfl
            rotate_left
            ·simp only [Act.put,List.setIfInBounds_toArray,List.set_cons_zero,List.set_cons_succ,i64_w,i32_w]
             rfl
            refine one_ (i:=7) (N:=some 63) #[true,true,true,true,true,true,true,true,false,false,false,false] rfl rfl (one_of HT_.out (by kernel_rfl)) (by decide) (fun K hK => ?_)
            refine goes_ Try.func109 (by kernel_rfl) rfl #[.agg #[.bool ((rd_T45 l0_6 x6_3).f0), .int .u32 ((rd_T45 l0_6 x6_3).f1), .bool ((rd_T45 l0_6 x6_3).f2), .int .i64 ((rd_T45 l0_6 x6_3).f3), .slice A355_4 ((rd_T45 l0_6 x6_3).f4).length c355_4]] (by rfl) rfl rfl (by (try simp only [List.map_toArray,List.map_cons,List.map_nil]);first | done | rfl | (simp only [List.length_drop,List.length_take];rfl)) ?_
            with_reducible refine (spec_l1copyFrame.calls k3 ((rd_T45 l0_6 x6_3).f0) ((rd_T45 l0_6 x6_3).f1) ((rd_T45 l0_6 x6_3).f2) ((rd_T45 l0_6 x6_3).f3) _ _ ((rd_T45 l0_6 x6_3).f4) t356 t357 t358 t359 t360 _ ?side1 ?side2 A55.out).mono ?_
            (case side1 => repeat (first | exact (Kd.C_below HR355_4.out HB.out) | (with_reducible refine Kd.C_alloc ?_ _) | (with_reducible refine Kd.C_drewN ?_ _) | (with_reducible refine Kd.C_drew ?_)))
            (case side2 => exact HC355_4.out)
            rintro e w61 ⟨v361,rfl,ho0,hb⟩
            refine ⟨_,rfl, ?_⟩
            have n0_:=Aside0.mk (Kd.R_below (by (with_reducible repeat (first | apply Kd.R_alloc | apply Kd.R_drewN | apply Kd.R_drew));exact HO_328004.out) hb)
            have n1_:=Aside0.mk (Kd.S_elder' (by (with_reducible repeat (first | apply Kd.S_alloc | apply Kd.S_drewN | apply Kd.S_drew));exact HO_328005.out) (Kd.R_base ho0) hb)
            have n2_:=Aside0.mk (Kd.S_elder' (by (with_reducible repeat (first | apply Kd.S_alloc | apply Kd.S_drewN | apply Kd.S_drew));exact HO_328006.out) (Kd.R_base ho0) hb)
            have n3_:=Aside0.mk (Kd.R_lower ho0 (below_size (by repeat (first | (with_reducible first | exact HB.out | apply below_alloc | apply pw_below_drewN | apply below_drew1 | refine below_set ?_ GE325.out | refine below_set ?_ GE326.out | refine below_set ?_ GE327.out) | exact HB.out))))
            have n4_:=Aside0.mk (blk_below (g:=gb325) (o := .cells #[.int .i64 a0_0, .int .i64 a0_1, .int .i64 a0_2, .int .i64 a0_3, .slice A0_4 l0_4.length c0_4, .slice A0_5 l0_5.length c0_5, .slice (some ad355) l0_6.length c0_6, .slice A0_7 l0_7.length c0_7, .int .i64 a0_8, .int .i64 a0_9] 32 (0,0)) (by (with_reducible repeat (first | refine blk_drewN ?_ _ | refine blk_drew ?_ | refine blk_alloc ?_ _));exact BK325.out) hb)
            have n5_:=Aside0.mk (blk_below (g:=gb326) (o := .cells #[.int .i64 0, .int .i64 0, .int .i64 0, .int .i64 0, .slice none 0 0, .slice none 0 0, .slice none 0 0, .slice none 0 0, .int .i64 0, .int .i64 0] 32 (0,0)) (by (with_reducible repeat (first | refine blk_drewN ?_ _ | refine blk_drew ?_ | refine blk_alloc ?_ _));exact BK326.out) hb)
            have n6_:=Aside0.mk (blk_below (g:=gb327) (o := .cells #[.int .i64 a0_0, .int .i64 a0_1, .int .i64 a0_2, .int .i64 a0_3,u328004,u328005,u328006, .slice A0_7 l0_7.length c0_7, .int .i64 a0_8, .int .i64 a0_9] 32 (0,0)) (by (with_reducible repeat (first | refine blk_drewN ?_ _ | refine blk_drew ?_ | refine blk_alloc ?_ _));exact BK327.out) hb)
            have n7_:=Aside0.mk (below_step (by repeat (first | (with_reducible first | exact HB.out | apply below_alloc | apply pw_below_drewN | apply below_drew1 | refine below_set ?_ GE325.out | refine below_set ?_ GE326.out | refine below_set ?_ GE327.out) | exact HB.out)) hb)
            clear HO_328004
            clear HO_328005
            clear HO_328006
            clear BK325
            clear BK326
            clear BK327
            clear HB
            have HO_328004:=n0_
            have HO_328005:=n1_
            have HO_328006:=n2_
            have HO362:=n3_
            have BK325:=n4_
            have BK326:=n5_
            have BK327:=n6_
            have HB:=n7_
            clear n0_ n1_ n2_ n3_ n4_ n5_ n6_ n7_
            (try clear hb)
            (try clear hb2)
            (try clear hk)
            (try clear hi)
            (try clear ho0)
            obtain ⟨Ao63,co63,eo63⟩:=Kd.R_slice HO362.out
            (first | subst eo63 | (injection eo63 with f1_ f2_ f3_;have f4_:=f1_.symm;have f5_:=f3_.symm;clear f1_ f2_ f3_;subst f4_;subst f5_))
            refine hK.out _ _ ⟨(blk_cell BK327.out 0).trans rfl,(blk_cell BK327.out 1).trans rfl,(blk_cell BK327.out 2).trans rfl,(blk_cell BK327.out 3).trans rfl,(blk_cell BK327.out 4).trans rfl,(blk_cell BK327.out 5).trans rfl,(blk_cell BK327.out 6).trans rfl,(blk_cell BK327.out 7).trans rfl,(blk_cell BK327.out 8).trans rfl,(blk_cell BK327.out 9).trans rfl,(blk_cell BK325.out 0).trans rfl,(blk_cell BK325.out 1).trans rfl,(blk_cell BK325.out 2).trans rfl,(blk_cell BK325.out 3).trans rfl,(blk_cell BK325.out 4).trans rfl,(blk_cell BK325.out 5).trans rfl,(blk_cell BK325.out 6).trans rfl,(blk_cell BK325.out 7).trans rfl,(blk_cell BK325.out 8).trans rfl,(blk_cell BK325.out 9).trans rfl,((HB.out.cell (World.block_lt_of_cell? w _ hw355_0)).trans hw355_0),((HB.out.cell (World.block_lt_of_cell? w _ hw355_1)).trans hw355_1),((HB.out.cell (World.block_lt_of_cell? w _ hw355_2)).trans hw355_2),((HB.out.cell (World.block_lt_of_cell? w _ hw355_3)).trans hw355_3),((HB.out.cell (World.block_lt_of_cell? w _ hw355_4)).trans hw355_4)⟩ (fun hHeld => ?_)
            clear hK K
            refine norm_ (a' := ?_) ?_ ?_
            rotate_left
            ·show Act.put _ (some 63) _ = _
             simp only [Act.put,List.setIfInBounds_toArray,List.set_cons_zero,List.set_cons_succ,i64_w,i32_w]
             rfl
            refine one_ (i:=8) (N:=some 64) #[true,true,true,true,true,true,true,true,true,false,false,false] rfl rfl (one_of HT_.out (by kernel_rfl)) (by decide) (fun K hK => ?_)
            refine value_ (w1 := ?_) (v := ?_) (by rfl) rfl ?_ ?_
            rotate_left 2
            ·go_simp
             constructor
             ·rfl
             ·rfl
            refine hK.out _ _ ⟨(blk_cell (blk_alloc BK327.out _) 0).trans rfl,(blk_cell (blk_alloc BK327.out _) 1).trans rfl,(blk_cell (blk_alloc BK327.out _) 2).trans rfl,(blk_cell (blk_alloc BK327.out _) 3).trans rfl,(blk_cell (blk_alloc BK327.out _) 4).trans rfl,(blk_cell (blk_alloc BK327.out _) 5).trans rfl,(blk_cell (blk_alloc BK327.out _) 6).trans rfl,(blk_cell (blk_alloc BK327.out _) 7).trans rfl,(blk_cell (blk_alloc BK327.out _) 8).trans rfl,(blk_cell (blk_alloc BK327.out _) 9).trans rfl,(blk_cell (blk_alloc BK325.out _) 0).trans rfl,(blk_cell (blk_alloc BK325.out _) 1).trans rfl,(blk_cell (blk_alloc BK325.out _) 2).trans rfl,(blk_cell (blk_alloc BK325.out _) 3).trans rfl,(blk_cell (blk_alloc BK325.out _) 4).trans rfl,(blk_cell (blk_alloc BK325.out _) 5).trans rfl,(blk_cell (blk_alloc BK325.out _) 6).trans rfl,(blk_cell (blk_alloc BK325.out _) 7).trans rfl,(blk_cell (blk_alloc BK325.out _) 8).trans rfl,(blk_cell (blk_alloc BK325.out _) 9).trans rfl,(World.cell?_alloc_lt _ _ _ (World.block_lt_of_cell? _ _ (((HB.out.cell (World.block_lt_of_cell? w _ hw355_0)).trans hw355_0)))).trans (((HB.out.cell (World.block_lt_of_cell? w _ hw355_0)).trans hw355_0)),(World.cell?_alloc_lt _ _ _ (World.block_lt_of_cell? _ _ (((HB.out.cell (World.block_lt_of_cell? w _ hw355_1)).trans hw355_1)))).trans (((HB.out.cell (World.block_lt_of_cell? w _ hw355_1)).trans hw355_1)),(World.cell?_alloc_lt _ _ _ (World.block_lt_of_cell? _ _ (((HB.out.cell (World.block_lt_of_cell? w _ hw355_2)).trans hw355_2)))).trans (((HB.out.cell (World.block_lt_of_cell? w _ hw355_2)).trans hw355_2)),(World.cell?_alloc_lt _ _ _ (World.block_lt_of_cell? _ _ (((HB.out.cell (World.block_lt_of_cell? w _ hw355_3)).trans hw355_3)))).trans (((HB.out.cell (World.block_lt_of_cell? w _ hw355_3)).trans hw355_3)),(World.cell?_alloc_lt _ _ _ (World.block_lt_of_cell? _ _ (((HB.out.cell (World.block_lt_of_cell? w _ hw355_4)).trans hw355_4)))).trans (((HB.out.cell (World.block_lt_of_cell? w _ hw355_4)).trans hw355_4))⟩ (fun hHeld => ?_)
            clear hK K
            refine norm_ (a' := ?_) ?_ ?_
            rotate_left
            ·show Act.put _ (some 64) _ = _
             simp only [Act.put,List.setIfInBounds_toArray,List.set_cons_zero,List.set_cons_succ,i64_w,i32_w]
             rfl
            refine one_ (i:=9) (N:=some 65) #[true,true,true,true,true,true,true,true,true,true,false,false] rfl rfl (one_of HT_.out (by kernel_rfl)) (by decide) (fun K hK => ?_)
            refine Kd.S_append_step k45 (w0:=w) w.heap.size (by rfl) (.tmp 57) (.tmp 64) 29 45 (.agg #[(.bool false),(.int .u32 0),(.bool false),(.int .i64 0),(.slice none 0 0)]) 48 rfl Try.underlying29 info45 rfl (by decide) (by omega) u328006 x328006_3 (⟨t356,t357,t358,t359,t360⟩ : S45) [.bool t356, .int .u32 t357, .bool t358, .int .i64 t359, .slice Ao63 t360.length co63] (fun _ => True) (fun k_ => some k_ = (.slice Ao63 t360.length co63 : Value).ownBlock) rfl rfl ?aP (fun k_ hk_ => ((Kd.R_mono (ok':=fun k_ => ((fun _ => True)) k_ ∧ some k_ ≠ (u328006 : Value).ownBlock) (Kd.R_apart' (HO362.out) (Kd.S_typed HO_328006.out) (by decide)) (fun k_ hk => ⟨trivial,hk.2⟩))).1 k_ hk_.symm) ?aF ?aO ?aB ?aS ?aL ?_
            (case aP => exact k45_mkM _ _ _ (⟨t356,t357,t358,t359,t360⟩ : S45) (Kd.R_mono (Kd.R_tight rfl (Kd.R_mono (ok':=fun k_ => ((fun _ => True)) k_ ∧ some k_ ≠ (u328006 : Value).ownBlock) (Kd.R_apart' (HO362.out) (Kd.S_typed HO_328006.out) (by decide)) (fun k_ hk => ⟨trivial,hk.2⟩))) (fun _ h_ => h_)))
            (case aB => exact (by repeat (first | (with_reducible first | exact HB.out | apply below_alloc | apply pw_below_drewN | apply below_drew1 | refine below_set ?_ GE325.out | refine below_set ?_ GE326.out | refine below_set ?_ GE327.out) | exact HB.out)))
            (case aF => exact (fun _ _ => trivial))
            (case aO => exact (by (with_reducible repeat (first | apply Kd.S_alloc | apply Kd.S_drewN | apply Kd.S_drew));exact Kd.S_mono HO_328006.out (fun k_ hk => ⟨trivial,fun e_ => hk.2 e_⟩)))
            (case aS => exact (below_size (by repeat (first | (with_reducible first | exact HB.out | apply below_alloc | apply pw_below_drewN | apply below_drew1 | refine below_set ?_ GE325.out | refine below_set ?_ GE326.out | refine below_set ?_ GE327.out) | exact HB.out))))
            (case aL => have:=LMc56.out;omega)
            intro v364 w62 ho hb hg hat
            rw [← Ny363.out] at ho
            have n0_:=Aside0.mk (Kd.R_over' (by (with_reducible repeat (first | apply Kd.R_alloc | apply Kd.R_drewN | apply Kd.R_drew));exact HO_328004.out) (Kd.S_typed (by (with_reducible repeat (first | apply Kd.S_alloc | apply Kd.S_drewN | apply Kd.S_drew));exact HO_328006.out)) (by decide) hg)
            have n1_:=Aside0.mk (Kd.S_over' (by (with_reducible repeat (first | apply Kd.S_alloc | apply Kd.S_drewN | apply Kd.S_drew));exact HO_328005.out) (Kd.S_typed (by (with_reducible repeat (first | apply Kd.S_alloc | apply Kd.S_drewN | apply Kd.S_drew));exact HO_328006.out)) (by decide) hg)
            have n2_:=Aside0.mk (blk_grown (g:=gb325) (o := .cells #[.int .i64 a0_0, .int .i64 a0_1, .int .i64 a0_2, .int .i64 a0_3, .slice A0_4 l0_4.length c0_4, .slice A0_5 l0_5.length c0_5, .slice (some ad355) l0_6.length c0_6, .slice A0_7 l0_7.length c0_7, .int .i64 a0_8, .int .i64 a0_9] 32 (0,0)) (by (with_reducible repeat (first | refine blk_drewN ?_ _ | refine blk_drew ?_ | refine blk_alloc ?_ _));exact BK325.out) hg (Kd.S_ne HO_328006.out BK325.out (by decide)))
            have n3_:=Aside0.mk (blk_grown (g:=gb326) (o := .cells #[.int .i64 0, .int .i64 0, .int .i64 0, .int .i64 0, .slice none 0 0, .slice none 0 0, .slice none 0 0, .slice none 0 0, .int .i64 0, .int .i64 0] 32 (0,0)) (by (with_reducible repeat (first | refine blk_drewN ?_ _ | refine blk_drew ?_ | refine blk_alloc ?_ _));exact BK326.out) hg (Kd.S_ne HO_328006.out BK326.out (by decide)))
            have n4_:=Aside0.mk (blk_grown (g:=gb327) (o := .cells #[.int .i64 a0_0, .int .i64 a0_1, .int .i64 a0_2, .int .i64 a0_3,u328004,u328005,u328006, .slice A0_7 l0_7.length c0_7, .int .i64 a0_8, .int .i64 a0_9] 32 (0,0)) (by (with_reducible repeat (first | refine blk_drewN ?_ _ | refine blk_drew ?_ | refine blk_alloc ?_ _));exact BK327.out) hg (Kd.S_ne HO_328006.out BK327.out (by decide)))
            have n5_:=Aside0.mk (hb)
            have n6_:=Aside0.mk (ho)
            clear HO_328004
            clear HO_328005
            clear BK325
            clear BK326
            clear BK327
            clear HB
            clear HO_328006
            clear HO362
            have HO_328004:=n0_
            have HO_328005:=n1_
            have BK325:=n2_
            have BK326:=n3_
            have BK327:=n4_
            have HB:=n5_
            have HO365:=n6_
            clear n0_ n1_ n2_ n3_ n4_ n5_ n6_
            clear ho hb hg hat
            obtain ⟨Ao64,co64,eo64⟩:=Kd.S_slice HO365.out
            (first | subst eo64 | (injection eo64 with f1_ f2_ f3_;have f4_:=f1_.symm;have f5_:=f3_.symm;clear f1_ f2_ f3_;subst f4_;subst f5_))
            refine hK.out _ _ ⟨(blk_cell BK327.out 0).trans rfl,(blk_cell BK327.out 1).trans rfl,(blk_cell BK327.out 2).trans rfl,(blk_cell BK327.out 3).trans rfl,(blk_cell BK327.out 4).trans rfl,(blk_cell BK327.out 5).trans rfl,(blk_cell BK327.out 6).trans rfl,(blk_cell BK327.out 7).trans rfl,(blk_cell BK327.out 8).trans rfl,(blk_cell BK327.out 9).trans rfl,(blk_cell BK325.out 0).trans rfl,(blk_cell BK325.out 1).trans rfl,(blk_cell BK325.out 2).trans rfl,(blk_cell BK325.out 3).trans rfl,(blk_cell BK325.out 4).trans rfl,(blk_cell BK325.out 5).trans rfl,(blk_cell BK325.out 6).trans rfl,(blk_cell BK325.out 7).trans rfl,(blk_cell BK325.out 8).trans rfl,(blk_cell BK325.out 9).trans rfl,((HB.out.cell (World.block_lt_of_cell? w _ hw355_0)).trans hw355_0),((HB.out.cell (World.block_lt_of_cell? w _ hw355_1)).trans hw355_1),((HB.out.cell (World.block_lt_of_cell? w _ hw355_2)).trans hw355_2),((HB.out.cell (World.block_lt_of_cell? w _ hw355_3)).trans hw355_3),((HB.out.cell (World.block_lt_of_cell? w _ hw355_4)).trans hw355_4)⟩ (fun hHeld => ?_)
            clear hK K
            refine norm_ (a' := ?_) ?_ ?_
            rotate_left
            ·show Act.put _ (some 65) _ = _
             simp only [Act.put,List.setIfInBounds_toArray,List.set_cons_zero,List.set_cons_succ,i64_w,i32_w]
             rfl
            refine pure_ (i:=10) (N:=some 66) (v := ?_) (a' := ?_) #[true,true,true,true,true,true,true,true,true,true,true,false] rfl rfl (any_of HT_.out (by kernel_rfl)) (fun _ _ _ h => h) (Or.inl ⟨by rfl, ?_⟩) ?_ ?_
            rotate_left
            ·intro w'
             go_simp
             with_reducible rfl
            rotate_left
            ·simp only [Act.put,List.setIfInBounds_toArray,List.set_cons_zero,List.set_cons_succ,i64_w,i32_w]
             rfl
            refine last_ (i:=11) (N:=none) #[true,true,true,true,true,true,true,true,true,true,true,true] rfl rfl (one_of HT_.out (by kernel_rfl)) (by decide) (fun K hK => ?_)
            have hs65 : w62.cell? ⟨gb327,6,none⟩ = some (u328006):=(blk_cell BK327.out 6).trans rfl
            have hfs65:=blk_frozen BK327.out 6
            have hns65_0:=NB325_327.out
            have hns65_1:=NB326_327.out
            have hms65_0:=NB327_325.out
            have hms65_1:=NB327_326.out
            refine skip_ (w1 := ?_) (by rfl) rfl ?_ ?_
            rotate_left
            ·go_simp
             rfl
            refine hK.out _ _ ?_
            clear hK K
            refine done_ (done_of HT_.out (by kernel_rfl)) ?_
            try go_wp2
            go_roundg k3
            case measure => have:=HK1.out;have:=HK2.out;have:=HK3.out;omega
            case rel => exact ⟨(wrap64 (x6_3 + 1)),(y363),(.slice Ao64 y363.length co64),(by first | rfl | (simp;done) | (simp [*];done)),H',⟨by have:=HK1.out;have:=HK2.out;have:=HK3.out;omega⟩,⟨by (with_reducible repeat (first | apply Kd.R_alloc | apply Kd.R_drewN | apply Kd.R_drew));exact Kd.R_mono (Kd.R_far (p:=⟨gb327,6,none⟩) (Kd.R_types HO_328004.out BK327.out (by decide)) (fun _ hk => hk.2) (.slice Ao64 y363.length co64)) (fun _ hk => trivial)⟩,⟨by (with_reducible repeat (first | apply Kd.S_alloc | apply Kd.S_drewN | apply Kd.S_drew));exact Kd.S_mono (Kd.S_far (p:=⟨gb327,6,none⟩) (Kd.S_types HO_328005.out BK327.out (by decide)) (fun _ hk => hk.2) (.slice Ao64 y363.length co64)) (fun _ hk => trivial)⟩,⟨by (with_reducible repeat (first | apply Kd.S_alloc | apply Kd.S_drewN | apply Kd.S_drew));exact Kd.S_mono (Kd.S_far (p:=⟨gb327,6,none⟩) (Kd.S_types HO365.out BK327.out (by decide)) (fun _ hk => hk.2) (.slice Ao64 y363.length co64)) (fun _ hk => trivial)⟩,⟨by (with_reducible repeat (first | refine blk_drewN ?_ _ | refine blk_drew ?_ | refine blk_alloc ?_ _));refine blk_far ?_ NB325_327.out _;(with_reducible repeat (first | refine blk_drewN ?_ _ | refine blk_drew ?_ | refine blk_alloc ?_ _));exact BK325.out⟩,⟨by (with_reducible repeat (first | refine blk_drewN ?_ _ | refine blk_drew ?_ | refine blk_alloc ?_ _));refine blk_far ?_ NB326_327.out _;(with_reducible repeat (first | refine blk_drewN ?_ _ | refine blk_drew ?_ | refine blk_alloc ?_ _));exact BK326.out⟩,⟨by (with_reducible repeat (first | refine blk_drewN ?_ _ | refine blk_drew ?_ | refine blk_alloc ?_ _));refine blk_put (cs := #[.int .i64 a0_0, .int .i64 a0_1, .int .i64 a0_2, .int .i64 a0_3,u328004,u328005,u328006, .slice A0_7 l0_7.length c0_7, .int .i64 a0_8, .int .i64 a0_9]) ?_ 6 _ rfl;(with_reducible repeat (first | refine blk_drewN ?_ _ | refine blk_drew ?_ | refine blk_alloc ?_ _));exact BK327.out⟩,⟨by repeat (first | (with_reducible first | exact HB.out | apply below_alloc | apply pw_below_drewN | apply below_drew1 | refine below_set ?_ GE325.out | refine below_set ?_ GE326.out | refine below_set ?_ GE327.out) | exact HB.out)⟩⟩
           ·rw [if_neg c56] at H
            exact absurd H (by simp)
          ·rw [if_neg c54] at H
           exact absurd H (by simp)
         ·rw [if_neg c53] at H
          have c53b0 : decide (x6_3 < (l0_6.length : Int)) = false:=decide_eq_false c53
          clear c53
          replace H:=Option.bind_eq_some_iff.mp H
          obtain ⟨t366,A660,H⟩:=H
          replace H : (some (a0_0,a0_1,a0_2,a0_3,x328004_1,x328005_2,x328006_3,t366,a0_8,a0_9)) = some (r1,r2,r3,r4,r5,r6,r7,r8,r9,r10):=H
          have A66:=Aside0.mk A660
          clear A660
          simp only [Option.some.injEq,Prod.mk.injEq] at H
          obtain ⟨rfl,rfl,rfl,rfl,rfl,rfl,rfl,rfl,rfl,rfl⟩:=H
          have hnb67:=NB325_326.out
          have hnc67:=NB326_325.out
          have hnb68:=NB325_327.out
          have hnc68:=NB327_325.out
          have hcz69_0 : wr.cell? ⟨gb325,0,none⟩ = some (.int .i64 a0_0):=(blk_cell BK325.out 0).trans rfl
          have hcz69_1 : wr.cell? ⟨gb325,1,none⟩ = some (.int .i64 a0_1):=(blk_cell BK325.out 1).trans rfl
          have hcz69_2 : wr.cell? ⟨gb325,2,none⟩ = some (.int .i64 a0_2):=(blk_cell BK325.out 2).trans rfl
          have hcz69_3 : wr.cell? ⟨gb325,3,none⟩ = some (.int .i64 a0_3):=(blk_cell BK325.out 3).trans rfl
          have hcz69_4 : wr.cell? ⟨gb325,4,none⟩ = some (.slice A0_4 l0_4.length c0_4):=(blk_cell BK325.out 4).trans rfl
          have hcz69_5 : wr.cell? ⟨gb325,5,none⟩ = some (.slice A0_5 l0_5.length c0_5):=(blk_cell BK325.out 5).trans rfl
          have hcz69_6 : wr.cell? ⟨gb325,6,none⟩ = some (.slice A0_6 l0_6.length c0_6):=(blk_cell BK325.out 6).trans rfl
          have hcz69_7 : wr.cell? ⟨gb325,7,none⟩ = some (.slice A0_7 l0_7.length c0_7):=(blk_cell BK325.out 7).trans rfl
          have hcz69_8 : wr.cell? ⟨gb325,8,none⟩ = some (.int .i64 a0_8):=(blk_cell BK325.out 8).trans rfl
          have hcz69_9 : wr.cell? ⟨gb325,9,none⟩ = some (.int .i64 a0_9):=(blk_cell BK325.out 9).trans rfl
          have hfz69_0:=blk_frozen BK325.out 0
          have hfz69_1:=blk_frozen BK325.out 1
          have hfz69_2:=blk_frozen BK325.out 2
          have hfz69_3:=blk_frozen BK325.out 3
          have hfz69_4:=blk_frozen BK325.out 4
          have hfz69_5:=blk_frozen BK325.out 5
          have hfz69_6:=blk_frozen BK325.out 6
          have hfz69_7:=blk_frozen BK325.out 7
          have hfz69_8:=blk_frozen BK325.out 8
          have hfz69_9:=blk_frozen BK325.out 9
          go_wp2_with (first | ((with_reducible refine gate_callee (f:=97) rfl ?_);refine goesL_ (some 69) rfl rfl Try.func97 (by kernel_rfl) rfl #[.slice A0_7 l0_7.length c0_7] rfl (by (try simp only [List.map_toArray,List.map_cons,List.map_nil]);first | done | rfl | (simp only [List.length_drop,List.length_take];rfl)) ?_;(with_reducible refine (spec_l3copyEvents.calls k3 _ _ l0_7 t366 _ ?side1 ?side2 A66.out).mono ?_);(case side1 => repeat (first | exact (Kd.C_below HR0_7.out HB.out) | (with_reducible refine Kd.C_alloc ?_ _) | (with_reducible refine Kd.C_drewN ?_ _) | (with_reducible refine Kd.C_drew ?_)));(case side2 => exact HC0_7.out);rintro e w70 ⟨v367,rfl,ho0,hb⟩;refine ⟨_,rfl, ?_⟩;have n0_:=Aside0.mk (Kd.R_below (by (with_reducible repeat (first | apply Kd.R_alloc | apply Kd.R_drewN | apply Kd.R_drew));exact HO_328004.out) hb);have n1_:=Aside0.mk (Kd.S_below (by (with_reducible repeat (first | apply Kd.S_alloc | apply Kd.S_drewN | apply Kd.S_drew));exact HO_328005.out) hb);have n2_:=Aside0.mk (Kd.S_below (by (with_reducible repeat (first | apply Kd.S_alloc | apply Kd.S_drewN | apply Kd.S_drew));exact HO_328006.out) hb);have n3_:=Aside0.mk (Kd.S_lower ho0 (below_size (by repeat (first | (with_reducible first | exact HB.out | apply below_alloc | apply pw_below_drewN | apply below_drew1 | refine below_set ?_ GE325.out | refine below_set ?_ GE326.out | refine below_set ?_ GE327.out) | exact HB.out))));have n4_:=Aside0.mk (blk_below (g:=gb325) (o := .cells #[.int .i64 a0_0, .int .i64 a0_1, .int .i64 a0_2, .int .i64 a0_3, .slice A0_4 l0_4.length c0_4, .slice A0_5 l0_5.length c0_5, .slice A0_6 l0_6.length c0_6, .slice A0_7 l0_7.length c0_7, .int .i64 a0_8, .int .i64 a0_9] 32 (0,0)) (by (with_reducible repeat (first | refine blk_drewN ?_ _ | refine blk_drew ?_ | refine blk_alloc ?_ _));exact BK325.out) hb);have n5_:=Aside0.mk (blk_below (g:=gb326) (o := .cells #[.int .i64 0, .int .i64 0, .int .i64 0, .int .i64 0, .slice none 0 0, .slice none 0 0, .slice none 0 0, .slice none 0 0, .int .i64 0, .int .i64 0] 32 (0,0)) (by (with_reducible repeat (first | refine blk_drewN ?_ _ | refine blk_drew ?_ | refine blk_alloc ?_ _));exact BK326.out) hb);have n6_:=Aside0.mk (blk_below (g:=gb327) (o := .cells #[.int .i64 a0_0, .int .i64 a0_1, .int .i64 a0_2, .int .i64 a0_3,u328004,u328005,u328006, .slice A0_7 l0_7.length c0_7, .int .i64 a0_8, .int .i64 a0_9] 32 (0,0)) (by (with_reducible repeat (first | refine blk_drewN ?_ _ | refine blk_drew ?_ | refine blk_alloc ?_ _));exact BK327.out) hb);have n7_:=Aside0.mk (below_step (by repeat (first | (with_reducible first | exact HB.out | apply below_alloc | apply pw_below_drewN | apply below_drew1 | refine below_set ?_ GE325.out | refine below_set ?_ GE326.out | refine below_set ?_ GE327.out) | exact HB.out)) hb);clear HO_328004;clear HO_328005;clear HO_328006;clear BK325;clear BK326;clear BK327;clear HB;have HO_328004:=n0_;have HO_328005:=n1_;have HO_328006:=n2_;have HO368:=n3_;have BK325:=n4_;have BK326:=n5_;have BK327:=n6_;have HB:=n7_;clear n0_ n1_ n2_ n3_ n4_ n5_ n6_ n7_;(try clear hb);(try clear hb2);(try clear hk);(try clear hi);(try clear ho0);obtain ⟨Ao71,co71,eo71⟩:=Kd.S_slice HO368.out;subst eo71;have hnb72:=NB327_326.out;have hnc72:=NB326_327.out;have hcz73_0 : w70.cell? ⟨gb327,0,none⟩ = some (.int .i64 a0_0):=(blk_cell BK327.out 0).trans rfl;have hcz73_1 : w70.cell? ⟨gb327,1,none⟩ = some (.int .i64 a0_1):=(blk_cell BK327.out 1).trans rfl;have hcz73_2 : w70.cell? ⟨gb327,2,none⟩ = some (.int .i64 a0_2):=(blk_cell BK327.out 2).trans rfl;have hcz73_3 : w70.cell? ⟨gb327,3,none⟩ = some (.int .i64 a0_3):=(blk_cell BK327.out 3).trans rfl;have hcz73_4 : w70.cell? ⟨gb327,4,none⟩ = some (u328004):=(blk_cell BK327.out 4).trans rfl;have hcz73_5 : w70.cell? ⟨gb327,5,none⟩ = some (u328005):=(blk_cell BK327.out 5).trans rfl;have hcz73_6 : w70.cell? ⟨gb327,6,none⟩ = some (u328006):=(blk_cell BK327.out 6).trans rfl;have hcz73_7 : w70.cell? ⟨gb327,7,none⟩ = some (.slice A0_7 l0_7.length c0_7):=(blk_cell BK327.out 7).trans rfl;have hcz73_8 : w70.cell? ⟨gb327,8,none⟩ = some (.int .i64 a0_8):=(blk_cell BK327.out 8).trans rfl;have hcz73_9 : w70.cell? ⟨gb327,9,none⟩ = some (.int .i64 a0_9):=(blk_cell BK327.out 9).trans rfl;have hfz73_0:=blk_frozen BK327.out 0;have hfz73_1:=blk_frozen BK327.out 1;have hfz73_2:=blk_frozen BK327.out 2;have hfz73_3:=blk_frozen BK327.out 3;have hfz73_4:=blk_frozen BK327.out 4;have hfz73_5:=blk_frozen BK327.out 5;have hfz73_6:=blk_frozen BK327.out 6;have hfz73_7:=blk_frozen BK327.out 7;have hfz73_8:=blk_frozen BK327.out 8;have hfz73_9:=blk_frozen BK327.out 9;have hcz74_0 : w70.cell? ⟨gb326,0,none⟩ = some (.int .i64 0):=(blk_cell BK326.out 0).trans rfl;have hcz74_1 : w70.cell? ⟨gb326,1,none⟩ = some (.int .i64 0):=(blk_cell BK326.out 1).trans rfl;have hcz74_2 : w70.cell? ⟨gb326,2,none⟩ = some (.int .i64 0):=(blk_cell BK326.out 2).trans rfl;have hcz74_3 : w70.cell? ⟨gb326,3,none⟩ = some (.int .i64 0):=(blk_cell BK326.out 3).trans rfl;have hcz74_4 : w70.cell? ⟨gb326,4,none⟩ = some (.slice none 0 0):=(blk_cell BK326.out 4).trans rfl;have hcz74_5 : w70.cell? ⟨gb326,5,none⟩ = some (.slice none 0 0):=(blk_cell BK326.out 5).trans rfl;have hcz74_6 : w70.cell? ⟨gb326,6,none⟩ = some (.slice none 0 0):=(blk_cell BK326.out 6).trans rfl;have hcz74_7 : w70.cell? ⟨gb326,7,none⟩ = some (.slice none 0 0):=(blk_cell BK326.out 7).trans rfl;have hcz74_8 : w70.cell? ⟨gb326,8,none⟩ = some (.int .i64 0):=(blk_cell BK326.out 8).trans rfl;have hcz74_9 : w70.cell? ⟨gb326,9,none⟩ = some (.int .i64 0):=(blk_cell BK326.out 9).trans rfl;have hfz74_0:=blk_frozen BK326.out 0;have hfz74_1:=blk_frozen BK326.out 1;have hfz74_2:=blk_frozen BK326.out 2;have hfz74_3:=blk_frozen BK326.out 3;have hfz74_4:=blk_frozen BK326.out 4;have hfz74_5:=blk_frozen BK326.out 5;have hfz74_6:=blk_frozen BK326.out 6;have hfz74_7:=blk_frozen BK326.out 7;have hfz74_8:=blk_frozen BK326.out 8;have hfz74_9:=blk_frozen BK326.out 9;obtain ⟨Ao75,co75,eo75⟩:=Kd.R_slice HO_328004.out;subst eo75;obtain ⟨Ao76,co76,eo76⟩:=Kd.S_slice HO_328005.out;subst eo76;obtain ⟨Ao77,co77,eo77⟩:=Kd.S_slice HO_328006.out;subst eo77))
          refine bodyPost_ret (results_cell_row rfl _ _ gb326 32 #[.int .i64 a0_0, .int .i64 a0_1, .int .i64 a0_2, .int .i64 a0_3, .slice Ao75 x328004_1.length co75, .slice Ao76 x328005_2.length co76, .slice Ao77 x328006_3.length co77, .slice Ao71 t366.length co71, .int .i64 a0_8, .int .i64 a0_9] (0,0) _ rfl (by (with_reducible repeat (first | refine blk_drewN ?_ _ | refine blk_drew ?_ | refine blk_alloc ?_ _));refine blk_put (cs := #[.int .i64 a0_0, .int .i64 a0_1, .int .i64 a0_2, .int .i64 a0_3, .slice Ao75 x328004_1.length co75, .slice Ao76 x328005_2.length co76, .slice Ao77 x328006_3.length co77, .slice Ao71 t366.length co71, .int .i64 a0_8, .int .i64 0]) ?_ 9 _ rfl;(with_reducible repeat (first | refine blk_drewN ?_ _ | refine blk_drew ?_ | refine blk_alloc ?_ _));refine blk_put (cs := #[.int .i64 a0_0, .int .i64 a0_1, .int .i64 a0_2, .int .i64 a0_3, .slice Ao75 x328004_1.length co75, .slice Ao76 x328005_2.length co76, .slice Ao77 x328006_3.length co77, .slice Ao71 t366.length co71, .int .i64 0, .int .i64 0]) ?_ 8 _ rfl;(with_reducible repeat (first | refine blk_drewN ?_ _ | refine blk_drew ?_ | refine blk_alloc ?_ _));refine blk_put (cs := #[.int .i64 a0_0, .int .i64 a0_1, .int .i64 a0_2, .int .i64 a0_3, .slice Ao75 x328004_1.length co75, .slice Ao76 x328005_2.length co76, .slice Ao77 x328006_3.length co77, .slice none 0 0, .int .i64 0, .int .i64 0]) ?_ 7 _ rfl;(with_reducible repeat (first | refine blk_drewN ?_ _ | refine blk_drew ?_ | refine blk_alloc ?_ _));refine blk_put (cs := #[.int .i64 a0_0, .int .i64 a0_1, .int .i64 a0_2, .int .i64 a0_3, .slice Ao75 x328004_1.length co75, .slice Ao76 x328005_2.length co76, .slice none 0 0, .slice none 0 0, .int .i64 0, .int .i64 0]) ?_ 6 _ rfl;(with_reducible repeat (first | refine blk_drewN ?_ _ | refine blk_drew ?_ | refine blk_alloc ?_ _));refine blk_put (cs := #[.int .i64 a0_0, .int .i64 a0_1, .int .i64 a0_2, .int .i64 a0_3, .slice Ao75 x328004_1.length co75, .slice none 0 0, .slice none 0 0, .slice none 0 0, .int .i64 0, .int .i64 0]) ?_ 5 _ rfl;(with_reducible repeat (first | refine blk_drewN ?_ _ | refine blk_drew ?_ | refine blk_alloc ?_ _));refine blk_put (cs := #[.int .i64 a0_0, .int .i64 a0_1, .int .i64 a0_2, .int .i64 a0_3, .slice none 0 0, .slice none 0 0, .slice none 0 0, .slice none 0 0, .int .i64 0, .int .i64 0]) ?_ 4 _ rfl;(with_reducible repeat (first | refine blk_drewN ?_ _ | refine blk_drew ?_ | refine blk_alloc ?_ _));refine blk_put (cs := #[.int .i64 a0_0, .int .i64 a0_1, .int .i64 a0_2, .int .i64 0, .slice none 0 0, .slice none 0 0, .slice none 0 0, .slice none 0 0, .int .i64 0, .int .i64 0]) ?_ 3 _ rfl;(with_reducible repeat (first | refine blk_drewN ?_ _ | refine blk_drew ?_ | refine blk_alloc ?_ _));refine blk_put (cs := #[.int .i64 a0_0, .int .i64 a0_1, .int .i64 0, .int .i64 0, .slice none 0 0, .slice none 0 0, .slice none 0 0, .slice none 0 0, .int .i64 0, .int .i64 0]) ?_ 2 _ rfl;(with_reducible repeat (first | refine blk_drewN ?_ _ | refine blk_drew ?_ | refine blk_alloc ?_ _));refine blk_put (cs := #[.int .i64 a0_0, .int .i64 0, .int .i64 0, .int .i64 0, .slice none 0 0, .slice none 0 0, .slice none 0 0, .slice none 0 0, .int .i64 0, .int .i64 0]) ?_ 1 _ rfl;(with_reducible repeat (first | refine blk_drewN ?_ _ | refine blk_drew ?_ | refine blk_alloc ?_ _));refine blk_put (cs := #[.int .i64 0, .int .i64 0, .int .i64 0, .int .i64 0, .slice none 0 0, .slice none 0 0, .slice none 0 0, .slice none 0 0, .int .i64 0, .int .i64 0]) ?_ 0 _ rfl;(with_reducible repeat (first | refine blk_drewN ?_ _ | refine blk_drew ?_ | refine blk_alloc ?_ _));refine blk_far ?_ NB326_327.out _;(with_reducible repeat (first | refine blk_drewN ?_ _ | refine blk_drew ?_ | refine blk_alloc ?_ _));exact BK326.out) Try.underlying32 rfl (by kernel_rfl)) rfl ?_
          exact ⟨_,_,_,_,by first | rfl | (simp [errW_none,errW_some] <;> rfl) | (simp [*,errW_none,errW_some] <;> rfl),by (with_reducible repeat (first | apply Kd.R_alloc | apply Kd.R_drewN | apply Kd.R_drew));exact Kd.R_mono (Kd.R_far (p:=⟨gb326,9,none⟩) (Kd.R_far (p:=⟨gb326,8,none⟩) (Kd.R_far (p:=⟨gb326,7,none⟩) (Kd.R_far (p:=⟨gb326,6,none⟩) (Kd.R_far (p:=⟨gb326,5,none⟩) (Kd.R_far (p:=⟨gb326,4,none⟩) (Kd.R_far (p:=⟨gb326,3,none⟩) (Kd.R_far (p:=⟨gb326,2,none⟩) (Kd.R_far (p:=⟨gb326,1,none⟩) (Kd.R_far (p:=⟨gb326,0,none⟩) (Kd.R_far (p:=⟨gb327,7,none⟩) (Kd.R_types (Kd.R_types HO_328004.out BK327.out (by decide)) BK326.out (by decide)) (fun _ hk => hk.1.2) (.slice Ao71 t366.length co71)) (fun _ hk => hk.2) (.int .i64 a0_0)) (fun _ hk => hk.2) (.int .i64 a0_1)) (fun _ hk => hk.2) (.int .i64 a0_2)) (fun _ hk => hk.2) (.int .i64 a0_3)) (fun _ hk => hk.2) (.slice Ao75 x328004_1.length co75)) (fun _ hk => hk.2) (.slice Ao76 x328005_2.length co76)) (fun _ hk => hk.2) (.slice Ao77 x328006_3.length co77)) (fun _ hk => hk.2) (.slice Ao71 t366.length co71)) (fun _ hk => hk.2) (.int .i64 a0_8)) (fun _ hk => hk.2) (.int .i64 a0_9)) (fun _ hk => trivial),by (with_reducible repeat (first | apply Kd.S_alloc | apply Kd.S_drewN | apply Kd.S_drew));exact Kd.S_mono (Kd.S_far (p:=⟨gb326,9,none⟩) (Kd.S_far (p:=⟨gb326,8,none⟩) (Kd.S_far (p:=⟨gb326,7,none⟩) (Kd.S_far (p:=⟨gb326,6,none⟩) (Kd.S_far (p:=⟨gb326,5,none⟩) (Kd.S_far (p:=⟨gb326,4,none⟩) (Kd.S_far (p:=⟨gb326,3,none⟩) (Kd.S_far (p:=⟨gb326,2,none⟩) (Kd.S_far (p:=⟨gb326,1,none⟩) (Kd.S_far (p:=⟨gb326,0,none⟩) (Kd.S_far (p:=⟨gb327,7,none⟩) (Kd.S_types (Kd.S_types HO_328005.out BK327.out (by decide)) BK326.out (by decide)) (fun _ hk => hk.1.2) (.slice Ao71 t366.length co71)) (fun _ hk => hk.2) (.int .i64 a0_0)) (fun _ hk => hk.2) (.int .i64 a0_1)) (fun _ hk => hk.2) (.int .i64 a0_2)) (fun _ hk => hk.2) (.int .i64 a0_3)) (fun _ hk => hk.2) (.slice Ao75 x328004_1.length co75)) (fun _ hk => hk.2) (.slice Ao76 x328005_2.length co76)) (fun _ hk => hk.2) (.slice Ao77 x328006_3.length co77)) (fun _ hk => hk.2) (.slice Ao71 t366.length co71)) (fun _ hk => hk.2) (.int .i64 a0_8)) (fun _ hk => hk.2) (.int .i64 a0_9)) (fun _ hk => trivial),by (with_reducible repeat (first | apply Kd.S_alloc | apply Kd.S_drewN | apply Kd.S_drew));exact Kd.S_mono (Kd.S_far (p:=⟨gb326,9,none⟩) (Kd.S_far (p:=⟨gb326,8,none⟩) (Kd.S_far (p:=⟨gb326,7,none⟩) (Kd.S_far (p:=⟨gb326,6,none⟩) (Kd.S_far (p:=⟨gb326,5,none⟩) (Kd.S_far (p:=⟨gb326,4,none⟩) (Kd.S_far (p:=⟨gb326,3,none⟩) (Kd.S_far (p:=⟨gb326,2,none⟩) (Kd.S_far (p:=⟨gb326,1,none⟩) (Kd.S_far (p:=⟨gb326,0,none⟩) (Kd.S_far (p:=⟨gb327,7,none⟩) (Kd.S_types (Kd.S_types HO_328006.out BK327.out (by decide)) BK326.out (by decide)) (fun _ hk => hk.1.2) (.slice Ao71 t366.length co71)) (fun _ hk => hk.2) (.int .i64 a0_0)) (fun _ hk => hk.2) (.int .i64 a0_1)) (fun _ hk => hk.2) (.int .i64 a0_2)) (fun _ hk => hk.2) (.int .i64 a0_3)) (fun _ hk => hk.2) (.slice Ao75 x328004_1.length co75)) (fun _ hk => hk.2) (.slice Ao76 x328005_2.length co76)) (fun _ hk => hk.2) (.slice Ao77 x328006_3.length co77)) (fun _ hk => hk.2) (.slice Ao71 t366.length co71)) (fun _ hk => hk.2) (.int .i64 a0_8)) (fun _ hk => hk.2) (.int .i64 a0_9)) (fun _ hk => trivial),by (with_reducible repeat (first | apply Kd.S_alloc | apply Kd.S_drewN | apply Kd.S_drew));exact Kd.S_mono (Kd.S_far (p:=⟨gb326,9,none⟩) (Kd.S_far (p:=⟨gb326,8,none⟩) (Kd.S_far (p:=⟨gb326,7,none⟩) (Kd.S_far (p:=⟨gb326,6,none⟩) (Kd.S_far (p:=⟨gb326,5,none⟩) (Kd.S_far (p:=⟨gb326,4,none⟩) (Kd.S_far (p:=⟨gb326,3,none⟩) (Kd.S_far (p:=⟨gb326,2,none⟩) (Kd.S_far (p:=⟨gb326,1,none⟩) (Kd.S_far (p:=⟨gb326,0,none⟩) (Kd.S_far (p:=⟨gb327,7,none⟩) (Kd.S_types (Kd.S_types HO368.out BK327.out (by decide)) BK326.out (by decide)) (fun _ hk => hk.1.2) (.slice Ao71 t366.length co71)) (fun _ hk => hk.2) (.int .i64 a0_0)) (fun _ hk => hk.2) (.int .i64 a0_1)) (fun _ hk => hk.2) (.int .i64 a0_2)) (fun _ hk => hk.2) (.int .i64 a0_3)) (fun _ hk => hk.2) (.slice Ao75 x328004_1.length co75)) (fun _ hk => hk.2) (.slice Ao76 x328005_2.length co76)) (fun _ hk => hk.2) (.slice Ao77 x328006_3.length co77)) (fun _ hk => hk.2) (.slice Ao71 t366.length co71)) (fun _ hk => hk.2) (.int .i64 a0_8)) (fun _ hk => hk.2) (.int .i64 a0_9)) (fun _ hk => trivial),by repeat (first | (with_reducible first | exact HB.out | apply below_alloc | apply pw_below_drewN | apply below_drew1 | refine below_set ?_ GE325.out | refine below_set ?_ GE326.out | refine below_set ?_ GE327.out) | exact HB.out)⟩
end Go.Proofs.Ytcaefabbcjlkdaa.P
