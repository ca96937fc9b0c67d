/- Texts of the proof of CFnScanner, joined. -/
import Derived.Test.YtdoclpgciadjaaaDoorSCFnScanner21
import Derived.Test.YtdoclpgciadjaaaDoorSCFnScanner30
import Derived.Test.YtdoclpgciadjaaaDoorSCFnScanner27
import Derived.Test.YtdoclpgciadjaaaDoorSCFnScanner25
namespace Go.Proofs.YtdoclpgciadjaaaDoor.P
open Go.RowKit Go.Proofs.YtdoclpgciadjaaaDoorW.PrintWords Go.Proofs.YtdoclpgciadjaaaDoorW.PrintLast Go.Proofs.YtdoclpgciadjaaaDoorW.PrintMore
set_option linter.unusedVariables false
set_option linter.unusedSimpArgs false
mutual
def spec_l1genFrame.j0 : Nat → List Int → Int → Int → Bool → Int → Bool → Int → List Int → Option (Bool × Int × Bool × Int × List Int × Int × Int)
 | 0,_,_,_,_,_,_,_,_ => none
 | k + 1,x1000,x1001,x1002,x167000,x167001,x167002,x167003,x167004 => (spec_l1genId.f k x1000 x1001 x1002 x167000).bind fun bt173 => ((spec_l1dataLen.f x167000 bt173.1 x167002 x167003 x167004).bind fun t176 => (spec_l1genFrame.l0 k t176 0 x1000 bt173.2.1 bt173.2.2 x167000 bt173.1 x167002 x167003 x167004))
def spec_l1genFrame.l0 : Nat → Int → Int → List Int → Int → Int → Bool → Int → Bool → Int → List Int → Option (Bool × Int × Bool × Int × List Int × Int × Int)
 | 0,_,_,_,_,_,_,_,_,_,_ => none
 | k + 1,x4,x5,x1000,x1001,x1002,x167000,x167001,x167002,x167003,x167004 => if x5 < x4 then ((spec_l1genByte.f x1000 x1001 x1002).bind fun bt177 => (if x167004.length < 140737488355328 then (spec_l1genFrame.l0 k x4 (wrap64 (x5 + 1)) x1000 bt177.2.1 bt177.2.2 x167000 x167001 x167002 x167003 (x167004 ++ [bt177.1])) else (none))) else (some (x167000,x167001,x167002,x167003,x167004,x1001,x1002))
end
def spec_l1genFrame.f (k : Nat) (s0_0 : List Int) (s0_1 : Int) (s0_2 : Int) : Option (Bool × Int × Bool × Int × List Int × Int × Int):=(spec_l1src_n.f s0_0 s0_1 s0_2 2).bind fun bt154 => ((spec_l1src_n.f s0_0 bt154.2.1 bt154.2.2 4).bind fun bt157 => ((spec_l1src_n.f s0_0 bt157.2.1 bt157.2.2 9).bind fun bt160 => ((some (([] : List Int) : List Int)).bind fun y163 => ((spec_l1src_n.f s0_0 bt160.2.1 bt160.2.2 6).bind fun bt167 => (if bt167.1 = 0 then ((spec_l1src_n.f s0_0 bt167.2.1 bt167.2.2 16).bind fun bt170 => (spec_l1genFrame.j0 k s0_0 bt170.2.1 bt170.2.2 (bt154.1 == 1) 0 (bt157.1 == 0) bt170.1 y163)) else (spec_l1genFrame.j0 k s0_0 bt167.2.1 bt167.2.2 (bt154.1 == 1) 0 (bt157.1 == 0) bt160.1 y163))))))
def spec_l1genFrame.T9 : Bool × List (List Nat × List Nat):=(true, [([], []),([0], [0]),([], []),([2], [2]),([3], [3]),([1,4,3], [1,4]),([0,1,2,3,4,5], []),([6,5,5,0,1,2,3,4,5], [5,6])])
def spec_l1genFrame.B9 : List Nat := [0,1,0,4,12,31,63,127]
theorem spec_l1genFrame.tab9 : rtab .any (opsOf Tryd.f54 9) = spec_l1genFrame.T9:=by kernel_rfl
theorem spec_l1genFrame.bits9 : waitsOk spec_l1genFrame.T9.2 spec_l1genFrame.B9 = true:=by kernel_rfl
set_option maxHeartbeats 8000000 in
set_option maxRecDepth 100000 in
theorem spec_l1genFrame.calls (k : Nat) (g : Nat) (s0_0 : List Int) (s0_1 : Int) (s0_2 : Int) (r1 : Bool) (r2 : Int) (r3 : Bool) (r4 : Int) (r5 : List Int) (r6 : Int) (r7 : Int) (w0 w : World) (hI : IsS80 w0 w g s0_0 s0_1 s0_2) (hB : Below w0.heap.size w0 w) (h : spec_l1genFrame.f k s0_0 s0_1 s0_2 = some (r1,r2,r3,r4,r5,r6,r7)) :
  Calls Tryd.prog 54 #[.pointer (some ⟨g,0,none⟩)] w fun e w' => ∃ v4_ : Value,e = .returned (.agg #[.bool r1, .int .u32 r2, .bool r3, .int .i64 r4,v4_]) ∧ Kd.R (Kd.int .u8) 5 w' w.heap.size (fun _ => True) v4_ r5 ∧ IsS80 w0 w' g s0_0 r6 r7 ∧ Below w0.heap.size w0 w' ∧ KeepBut w w' g none:=by
 have hu29:=Tryd.underlying29
 have HI0:=Aside0.mk hI
 have HK:=Aside0.mk (KeepBut.refl w g none)
 have HL:=Aside0.mk hB.size
 clear hI
 have HW0:=Aside0.mk hB.size
 have HB:=Aside0.mk hB
 clear hB
 have H : ((spec_l1src_n.f s0_0 s0_1 s0_2 2).bind fun bt154 => ((spec_l1src_n.f s0_0 bt154.2.1 bt154.2.2 4).bind fun bt157 => ((spec_l1src_n.f s0_0 bt157.2.1 bt157.2.2 9).bind fun bt160 => ((some (([] : List Int) : List Int)).bind fun y163 => ((spec_l1src_n.f s0_0 bt160.2.1 bt160.2.2 6).bind fun bt167 => (if bt167.1 = 0 then ((spec_l1src_n.f s0_0 bt167.2.1 bt167.2.2 16).bind fun bt170 => (spec_l1genFrame.j0 k s0_0 bt170.2.1 bt170.2.2 (bt154.1 == 1) 0 (bt157.1 == 0) bt170.1 y163)) else (spec_l1genFrame.j0 k s0_0 bt167.2.1 bt167.2.2 (bt154.1 == 1) 0 (bt157.1 == 0) bt160.1 y163))))))) = some (r1,r2,r3,r4,r5,r6,r7):=h
 clear h
 replace H:=Option.bind_eq_some_iff.mp H
 obtain ⟨⟨t154,t155,t156⟩,A20,H⟩:=H
 replace H : ((spec_l1src_n.f s0_0 t155 t156 4).bind fun bt157 => ((spec_l1src_n.f s0_0 bt157.2.1 bt157.2.2 9).bind fun bt160 => ((some (([] : List Int) : List Int)).bind fun y163 => ((spec_l1src_n.f s0_0 bt160.2.1 bt160.2.2 6).bind fun bt167 => (if bt167.1 = 0 then ((spec_l1src_n.f s0_0 bt167.2.1 bt167.2.2 16).bind fun bt170 => (spec_l1genFrame.j0 k s0_0 bt170.2.1 bt170.2.2 (t154 == 1) 0 (bt157.1 == 0) bt170.1 y163)) else (spec_l1genFrame.j0 k s0_0 bt167.2.1 bt167.2.2 (t154 == 1) 0 (bt157.1 == 0) bt160.1 y163)))))) = some (r1,r2,r3,r4,r5,r6,r7):=H
 have A2:=Aside0.mk A20
 clear A20
 replace H:=Option.bind_eq_some_iff.mp H
 obtain ⟨⟨t157,t158,t159⟩,A30,H⟩:=H
 replace H : ((spec_l1src_n.f s0_0 t158 t159 9).bind fun bt160 => ((some (([] : List Int) : List Int)).bind fun y163 => ((spec_l1src_n.f s0_0 bt160.2.1 bt160.2.2 6).bind fun bt167 => (if bt167.1 = 0 then ((spec_l1src_n.f s0_0 bt167.2.1 bt167.2.2 16).bind fun bt170 => (spec_l1genFrame.j0 k s0_0 bt170.2.1 bt170.2.2 (t154 == 1) 0 (t157 == 0) bt170.1 y163)) else (spec_l1genFrame.j0 k s0_0 bt167.2.1 bt167.2.2 (t154 == 1) 0 (t157 == 0) bt160.1 y163))))) = some (r1,r2,r3,r4,r5,r6,r7):=H
 have A3:=Aside0.mk A30
 clear A30
 replace H:=Option.bind_eq_some_iff.mp H
 obtain ⟨⟨t160,t161,t162⟩,A40,H⟩:=H
 replace H : ((some (([] : List Int) : List Int)).bind fun y163 => ((spec_l1src_n.f s0_0 t161 t162 6).bind fun bt167 => (if bt167.1 = 0 then ((spec_l1src_n.f s0_0 bt167.2.1 bt167.2.2 16).bind fun bt170 => (spec_l1genFrame.j0 k s0_0 bt170.2.1 bt170.2.2 (t154 == 1) 0 (t157 == 0) bt170.1 y163)) else (spec_l1genFrame.j0 k s0_0 bt167.2.1 bt167.2.2 (t154 == 1) 0 (t157 == 0) t160 y163)))) = some (r1,r2,r3,r4,r5,r6,r7):=H
 have A4:=Aside0.mk A40
 clear A40
 obtain ⟨y163,hy163⟩ : ∃ y_ : List Int,y_ = (([] : List Int)):=⟨_,rfl⟩
 replace H : ((spec_l1src_n.f s0_0 t161 t162 6).bind fun bt167 => (if bt167.1 = 0 then ((spec_l1src_n.f s0_0 bt167.2.1 bt167.2.2 16).bind fun bt170 => (spec_l1genFrame.j0 k s0_0 bt170.2.1 bt170.2.2 (t154 == 1) 0 (t157 == 0) bt170.1 y163)) else (spec_l1genFrame.j0 k s0_0 bt167.2.1 bt167.2.2 (t154 == 1) 0 (t157 == 0) t160 y163))) = some (r1,r2,r3,r4,r5,r6,r7):=by first | (rw [hy163];with_reducible exact H) | (have H2_:=(Option.bind_some _ _).symm.trans H;rw [hy163];with_reducible exact H2_) | (have H2_:=(Option.bind_some _ _).symm.trans H;with_reducible exact H2_) | with_reducible exact H | (rw [hy163];exact H) | exact H
 have Ny163:=Aside0.mk hy163
 clear hy163
 replace H:=Option.bind_eq_some_iff.mp H
 obtain ⟨⟨t167,t168,t169⟩,A50,H⟩:=H
 replace H : (if t167 = 0 then ((spec_l1src_n.f s0_0 t168 t169 16).bind fun bt170 => (spec_l1genFrame.j0 k s0_0 bt170.2.1 bt170.2.2 (t154 == 1) 0 (t157 == 0) bt170.1 y163)) else (spec_l1genFrame.j0 k s0_0 t168 t169 (t154 == 1) 0 (t157 == 0) t160 y163)) = some (r1,r2,r3,r4,r5,r6,r7):=H
 have A5:=Aside0.mk A50
 clear A50
 have HC6:=Aside0.mk H
 clear H
 go_enter Tryd.func54,Tryd.ntmps54
 go_upto_if 18 with (first | ((with_reducible refine gate_dst (N:=2) rfl ?_);refine box_event ?hg (N:=2) ?hd (cs := #[.bool false, .int .u32 0, .bool false, .int .i64 0, .slice none 0 0]) (t:=29) ?hr ?_;(case hd => rfl);(case hg => rfl);(case hr => first | (go_simp;done) | (go_simp;rfl));intro gb153 hg w7 hbox hb;have n0_:=Aside0.mk (IsS80.below (by repeat (first | (with_reducible first | exact HI0.out | apply IsS80.alloc | apply IsS80.drewN | apply IsS80.drew | apply IsS80.set_1 | apply IsS80.set_2) | exact HI0.out)) hb);have n1_:=Aside0.mk (KeepBut.trans (by repeat (first | (with_reducible first | exact HK.out | apply KeepBut.set_ | apply keep_drewN | apply keep_drew | apply keep_alloc) | exact HK.out)) (KeepBut.of_below hb g none) (.inl rfl));have n2_:=Aside0.mk (below_step (by repeat (first | (with_reducible first | exact HB.out | apply below_alloc | apply pw_below_drewN | apply below_drew1 | refine below_set ?_ (IsS80.ge HI0.out)) | exact HB.out)) hb);have n3_:=Aside0.mk (hbox);have n4_:=Aside0.mk ((by rw [hg];exact (keep_size (w:=w) (g:=g) (row:=none) (by repeat (first | (with_reducible first | exact HK.out | apply KeepBut.set_ | apply keep_drewN | apply keep_drew | apply keep_alloc) | exact HK.out))) : w.heap.size ≤ gb153));have n5_:=Aside0.mk ((Nat.le_trans HW0.out (by rw [hg];exact (keep_size (w:=w) (g:=g) (row:=none) (by repeat (first | (with_reducible first | exact HK.out | apply KeepBut.set_ | apply keep_drewN | apply keep_drew | apply keep_alloc) | exact HK.out))) : w.heap.size ≤ gb153) : w0.heap.size ≤ gb153));have n6_:=Aside0.mk ((by rw [hg];exact Nat.ne_of_lt (IsS80.lt (show IsS80 w0 _ g s0_0 s0_1 s0_2 from by repeat (first | (with_reducible first | exact HI0.out | apply IsS80.alloc | apply IsS80.drewN | apply IsS80.drew | apply IsS80.set_1 | apply IsS80.set_2) | exact HI0.out))) : g ≠ gb153));have n7_:=Aside0.mk ((by rw [hg];exact Nat.ne_of_gt (IsS80.lt (show IsS80 w0 _ g s0_0 s0_1 s0_2 from by repeat (first | (with_reducible first | exact HI0.out | apply IsS80.alloc | apply IsS80.drewN | apply IsS80.drew | apply IsS80.set_1 | apply IsS80.set_2) | exact HI0.out))) : gb153 ≠ g));clear HI0;clear HK;clear HB;have HI0:=n0_;have HK:=n1_;have HB:=n2_;have BK153:=n3_;have GW153:=n4_;have GE153:=n5_;have NB0_153:=n6_;have NB153_0:=n7_;clear n0_ n1_ n2_ n3_ n4_ n5_ n6_ n7_;clear hb hbox hg) | ((with_reducible refine gate_callee (f:=38) rfl ?_);refine goesL_ (some 7) rfl rfl Tryd.func38 (by kernel_rfl) rfl #[.pointer (some ⟨g,0,none⟩), .int .i64 2] rfl (by (try simp only [List.map_toArray,List.map_cons,List.map_nil]);first | done | rfl | (simp only [List.length_drop,List.length_take];rfl)) ?_;(with_reducible refine (spec_l1src_n.calls g s0_0 s0_1 s0_2 2 t154 t155 t156 w0 _ ?side1 ?side2 A2.out).mono ?_);(case side1 => repeat (first | (with_reducible first | exact HI0.out | apply IsS80.alloc | apply IsS80.drewN | apply IsS80.drew | apply IsS80.set_1 | apply IsS80.set_2 | refine IsS80.far ?_ NB0_153.out _) | exact HI0.out));(case side2 => repeat (first | (with_reducible first | exact HB.out | apply below_alloc | apply pw_below_drewN | apply below_drew1 | refine below_set ?_ (IsS80.ge HI0.out) | refine below_set ?_ GE153.out) | exact HB.out));rintro e w8 ⟨rfl,hi,hb,hk⟩;refine ⟨_,rfl, ?_⟩;have n0_:=Aside0.mk (KeepBut.blk hk (g':=gb153) (o := .cells #[.bool false, .int .u32 0, .bool false, .int .i64 0, .slice none 0 0] 29 (0,0)) (by (with_reducible repeat (first | refine blk_drewN ?_ _ | refine blk_drew ?_ | refine blk_alloc ?_ _));exact BK153.out) NB153_0.out (by simp));have n1_:=Aside0.mk (KeepBut.trans (by repeat (first | (with_reducible first | exact HK.out | apply KeepBut.set_ | apply keep_drewN | apply keep_drew | apply keep_alloc | refine keep_far ?_ GW153.out _) | exact HK.out)) hk (.inl rfl));have n2_:=Aside0.mk (hb);have n3_:=Aside0.mk (hi);clear BK153;clear HK;clear HB;clear HI0;have BK153:=n0_;have HK:=n1_;have HB:=n2_;have HI0:=n3_;clear n0_ n1_ n2_ n3_;(try clear hb);(try clear hb2);(try clear hk);(try clear hi)) | ((with_reducible refine gate_callee (f:=38) rfl ?_);refine goesL_ (some 10) rfl rfl Tryd.func38 (by kernel_rfl) rfl #[.pointer (some ⟨g,0,none⟩), .int .i64 4] rfl (by (try simp only [List.map_toArray,List.map_cons,List.map_nil]);first | done | rfl | (simp only [List.length_drop,List.length_take];rfl)) ?_;(with_reducible refine (spec_l1src_n.calls g s0_0 t155 t156 4 t157 t158 t159 w0 _ ?side1 ?side2 A3.out).mono ?_);(case side1 => repeat (first | (with_reducible first | exact HI0.out | apply IsS80.alloc | apply IsS80.drewN | apply IsS80.drew | apply IsS80.set_1 | apply IsS80.set_2 | refine IsS80.far ?_ NB0_153.out _) | exact HI0.out));(case side2 => repeat (first | (with_reducible first | exact HB.out | apply below_alloc | apply pw_below_drewN | apply below_drew1 | refine below_set ?_ (IsS80.ge HI0.out) | refine below_set ?_ GE153.out) | exact HB.out));rintro e w9 ⟨rfl,hi,hb,hk⟩;refine ⟨_,rfl, ?_⟩;have n0_:=Aside0.mk (KeepBut.blk hk (g':=gb153) (o := .cells #[.bool false, .int .u32 0, .bool false, .int .i64 0, .slice none 0 0] 29 (0,0)) (by (with_reducible repeat (first | refine blk_drewN ?_ _ | refine blk_drew ?_ | refine blk_alloc ?_ _));exact BK153.out) NB153_0.out (by simp));have n1_:=Aside0.mk (KeepBut.trans (by repeat (first | (with_reducible first | exact HK.out | apply KeepBut.set_ | apply keep_drewN | apply keep_drew | apply keep_alloc | refine keep_far ?_ GW153.out _) | exact HK.out)) hk (.inl rfl));have n2_:=Aside0.mk (hb);have n3_:=Aside0.mk (hi);clear BK153;clear HK;clear HB;clear HI0;have BK153:=n0_;have HK:=n1_;have HB:=n2_;have HI0:=n3_;clear n0_ n1_ n2_ n3_;(try clear hb);(try clear hb2);(try clear hk);(try clear hi)) | ((with_reducible refine gate_callee (f:=38) rfl ?_);refine goesL_ (some 13) rfl rfl Tryd.func38 (by kernel_rfl) rfl #[.pointer (some ⟨g,0,none⟩), .int .i64 9] rfl (by (try simp only [List.map_toArray,List.map_cons,List.map_nil]);first | done | rfl | (simp only [List.length_drop,List.length_take];rfl)) ?_;(with_reducible refine (spec_l1src_n.calls g s0_0 t158 t159 9 t160 t161 t162 w0 _ ?side1 ?side2 A4.out).mono ?_);(case side1 => repeat (first | (with_reducible first | exact HI0.out | apply IsS80.alloc | apply IsS80.drewN | apply IsS80.drew | apply IsS80.set_1 | apply IsS80.set_2 | refine IsS80.far ?_ NB0_153.out _) | exact HI0.out));(case side2 => repeat (first | (with_reducible first | exact HB.out | apply below_alloc | apply pw_below_drewN | apply below_drew1 | refine below_set ?_ (IsS80.ge HI0.out) | refine below_set ?_ GE153.out) | exact HB.out));rintro e w10 ⟨rfl,hi,hb,hk⟩;refine ⟨_,rfl, ?_⟩;have n0_:=Aside0.mk (KeepBut.blk hk (g':=gb153) (o := .cells #[.bool false, .int .u32 0, .bool false, .int .i64 0, .slice none 0 0] 29 (0,0)) (by (with_reducible repeat (first | refine blk_drewN ?_ _ | refine blk_drew ?_ | refine blk_alloc ?_ _));exact BK153.out) NB153_0.out (by simp));have n1_:=Aside0.mk (KeepBut.trans (by repeat (first | (with_reducible first | exact HK.out | apply KeepBut.set_ | apply keep_drewN | apply keep_drew | apply keep_alloc | refine keep_far ?_ GW153.out _) | exact HK.out)) hk (.inl rfl));have n2_:=Aside0.mk (hb);have n3_:=Aside0.mk (hi);clear BK153;clear HK;clear HB;clear HI0;have BK153:=n0_;have HK:=n1_;have HB:=n2_;have HI0:=n3_;clear n0_ n1_ n2_ n3_;(try clear hb);(try clear hb2);(try clear hk);(try clear hi)) | ((with_reducible refine gate_dst (N:=14) rfl ?_);refine Kd.R_lit (Kd.int .u8) _ 5 ?hg (N:=14) ?hd (xs:=([] : List Int)) (inner := []) (ok:=fun _ => True) (okp:=fun _ => True) ?hr ?hp (fun _ hk => hk) trivial (Below.refl _ _) (Nat.le_refl _) (by simp) ?_;(case hd => rfl);(case hg => rfl);(case hr => first | (go_simp;done) | (go_simp;rfl));(case hp => exact (Reps.none _ _));intro v164 w11 ho12 hb hg_ hnew_;clear hg_ hnew_;(first | rw [← Ny163.out] at ho12 | (simp only [Int.reduceToNat] at ho12;rw [← Ny163.out] at ho12));have n0_:=Aside0.mk (Kd.R_lower ho12 (keep_size (w:=w) (g:=g) (row:=none) (by repeat (first | (with_reducible first | exact HK.out | apply KeepBut.set_ | apply keep_drewN | apply keep_drew | apply keep_alloc | refine keep_far ?_ GW153.out _) | exact HK.out))));have n1_:=Aside0.mk (IsS80.below (by repeat (first | (with_reducible first | exact HI0.out | apply IsS80.alloc | apply IsS80.drewN | apply IsS80.drew | apply IsS80.set_1 | apply IsS80.set_2 | refine IsS80.far ?_ NB0_153.out _) | exact HI0.out)) hb);have n2_:=Aside0.mk (blk_below (g:=gb153) (o := .cells #[.bool false, .int .u32 0, .bool false, .int .i64 0, .slice none 0 0] 29 (0,0)) (by (with_reducible repeat (first | refine blk_drewN ?_ _ | refine blk_drew ?_ | refine blk_alloc ?_ _));exact BK153.out) hb);have n3_:=Aside0.mk (KeepBut.trans (by repeat (first | (with_reducible first | exact HK.out | apply KeepBut.set_ | apply keep_drewN | apply keep_drew | apply keep_alloc | refine keep_far ?_ GW153.out _) | exact HK.out)) (KeepBut.of_below hb g none) (.inl rfl));have n4_:=Aside0.mk (below_step (by repeat (first | (with_reducible first | exact HB.out | apply below_alloc | apply pw_below_drewN | apply below_drew1 | refine below_set ?_ (IsS80.ge HI0.out) | refine below_set ?_ GE153.out) | exact HB.out)) hb);clear HI0;clear BK153;clear HK;clear HB;have HO165:=n0_;have HI0:=n1_;have BK153:=n2_;have HK:=n3_;have HB:=n4_;clear n0_ n1_ n2_ n3_ n4_;clear hb ho12;obtain ⟨Ao13,co13,eo13⟩:=Kd.R_slice HO165.out;subst eo13) | ((with_reducible refine gate_dst (N:=3) rfl ?_);refine box_event ?hg (N:=3) ?hd (cs := #[.bool false, .int .u32 0, .bool false, .int .i64 0, .slice none 0 0]) (t:=29) ?hr ?_;(case hd => rfl);(case hg => rfl);(case hr => first | (go_simp;done) | (go_simp;rfl));intro gb166 hg w14 hbox hb;have n0_:=Aside0.mk (Kd.R_below (by (with_reducible repeat (first | apply Kd.R_alloc | apply Kd.R_drewN | apply Kd.R_drew));exact HO165.out) hb);have n1_:=Aside0.mk (IsS80.below (by repeat (first | (with_reducible first | exact HI0.out | apply IsS80.alloc | apply IsS80.drewN | apply IsS80.drew | apply IsS80.set_1 | apply IsS80.set_2 | refine IsS80.far ?_ NB0_153.out _) | exact HI0.out)) hb);have n2_:=Aside0.mk (blk_below (g:=gb153) (o := .cells #[.bool false, .int .u32 0, .bool false, .int .i64 0, .slice none 0 0] 29 (0,0)) (by (with_reducible repeat (first | refine blk_drewN ?_ _ | refine blk_drew ?_ | refine blk_alloc ?_ _));exact BK153.out) hb);have n3_:=Aside0.mk (KeepBut.trans (by repeat (first | (with_reducible first | exact HK.out | apply KeepBut.set_ | apply keep_drewN | apply keep_drew | apply keep_alloc | refine keep_far ?_ GW153.out _) | exact HK.out)) (KeepBut.of_below hb g none) (.inl rfl));have n4_:=Aside0.mk (below_step (by repeat (first | (with_reducible first | exact HB.out | apply below_alloc | apply pw_below_drewN | apply below_drew1 | refine below_set ?_ (IsS80.ge HI0.out) | refine below_set ?_ GE153.out) | exact HB.out)) hb);have n5_:=Aside0.mk (hbox);have n6_:=Aside0.mk ((by rw [hg];exact (keep_size (w:=w) (g:=g) (row:=none) (by repeat (first | (with_reducible first | exact HK.out | apply KeepBut.set_ | apply keep_drewN | apply keep_drew | apply keep_alloc | refine keep_far ?_ GW153.out _) | exact HK.out))) : w.heap.size ≤ gb166));have n7_:=Aside0.mk ((Nat.le_trans HW0.out (by rw [hg];exact (keep_size (w:=w) (g:=g) (row:=none) (by repeat (first | (with_reducible first | exact HK.out | apply KeepBut.set_ | apply keep_drewN | apply keep_drew | apply keep_alloc | refine keep_far ?_ GW153.out _) | exact HK.out))) : w.heap.size ≤ gb166) : w0.heap.size ≤ gb166));have n8_:=Aside0.mk ((by rw [hg];exact Nat.ne_of_lt (blk_lt (g:=gb153) (o := .cells #[.bool false, .int .u32 0, .bool false, .int .i64 0, .slice none 0 0] 29 (0,0)) (by (with_reducible repeat (first | refine blk_drewN ?_ _ | refine blk_drew ?_ | refine blk_alloc ?_ _));exact BK153.out)) : gb153 ≠ gb166));have n9_:=Aside0.mk ((by rw [hg];exact Nat.ne_of_gt (blk_lt (g:=gb153) (o := .cells #[.bool false, .int .u32 0, .bool false, .int .i64 0, .slice none 0 0] 29 (0,0)) (by (with_reducible repeat (first | refine blk_drewN ?_ _ | refine blk_drew ?_ | refine blk_alloc ?_ _));exact BK153.out)) : gb166 ≠ gb153));have n10_:=Aside0.mk ((by rw [hg];exact Nat.ne_of_lt (IsS80.lt (show IsS80 w0 _ g s0_0 t161 t162 from by repeat (first | (with_reducible first | exact HI0.out | apply IsS80.alloc | apply IsS80.drewN | apply IsS80.drew | apply IsS80.set_1 | apply IsS80.set_2 | refine IsS80.far ?_ NB0_153.out _) | exact HI0.out))) : g ≠ gb166));have n11_:=Aside0.mk ((by rw [hg];exact Nat.ne_of_gt (IsS80.lt (show IsS80 w0 _ g s0_0 t161 t162 from by repeat (first | (with_reducible first | exact HI0.out | apply IsS80.alloc | apply IsS80.drewN | apply IsS80.drew | apply IsS80.set_1 | apply IsS80.set_2 | refine IsS80.far ?_ NB0_153.out _) | exact HI0.out))) : gb166 ≠ g));clear HO165;clear HI0;clear BK153;clear HK;clear HB;have HO165:=n0_;have HI0:=n1_;have BK153:=n2_;have HK:=n3_;have HB:=n4_;have BK166:=n5_;have GW166:=n6_;have GE166:=n7_;have NB153_166:=n8_;have NB166_153:=n9_;have NB0_166:=n10_;have NB166_0:=n11_;clear n0_ n1_ n2_ n3_ n4_ n5_ n6_ n7_ n8_ n9_ n10_ n11_;clear hb hbox hg;have hnb15:=NB166_153.out;have hnc15:=NB153_166.out;have hnb16:=NB166_0.out;have hnc16:=NB0_166.out;obtain ⟨hcz17_0,hcz17_1,hcz17_2,hcz17_3,hcz17_4⟩:=bc5 BK166.out;obtain ⟨hfz17_0,hfz17_1,hfz17_2,hfz17_3,hfz17_4⟩:=bf5 BK166.out) | ((with_reducible refine gate_callee (f:=38) rfl ?_);refine goesL_ (some 17) rfl rfl Tryd.func38 (by kernel_rfl) rfl #[.pointer (some ⟨g,0,none⟩), .int .i64 6] rfl (by (try simp only [List.map_toArray,List.map_cons,List.map_nil]);first | done | rfl | (simp only [List.length_drop,List.length_take];rfl)) ?_;(with_reducible refine (spec_l1src_n.calls g s0_0 t161 t162 6 t167 t168 t169 w0 _ ?side1 ?side2 A5.out).mono ?_);(case side1 => repeat (first | (with_reducible first | exact HI0.out | apply IsS80.alloc | apply IsS80.drewN | apply IsS80.drew | apply IsS80.set_1 | apply IsS80.set_2 | refine IsS80.far ?_ NB0_153.out _ | refine IsS80.far ?_ NB0_166.out _) | exact HI0.out));(case side2 => repeat (first | (with_reducible first | exact HB.out | apply below_alloc | apply pw_below_drewN | apply below_drew1 | refine below_set ?_ (IsS80.ge HI0.out) | refine below_set ?_ GE153.out | refine below_set ?_ GE166.out) | exact HB.out));rintro e w18 ⟨rfl,hi,hb,hk⟩;refine ⟨_,rfl, ?_⟩;have n0_:=Aside0.mk (KeepBut.blk hk (g':=gb153) (o := .cells #[.bool false, .int .u32 0, .bool false, .int .i64 0, .slice none 0 0] 29 (0,0)) (by (with_reducible repeat (first | refine blk_drewN ?_ _ | refine blk_drew ?_ | refine blk_alloc ?_ _));refine blk_far ?_ NB153_166.out _;(with_reducible repeat (first | refine blk_drewN ?_ _ | refine blk_drew ?_ | refine blk_alloc ?_ _));refine blk_far ?_ NB153_166.out _;(with_reducible repeat (first | refine blk_drewN ?_ _ | refine blk_drew ?_ | refine blk_alloc ?_ _));refine blk_far ?_ NB153_166.out _;(with_reducible repeat (first | refine blk_drewN ?_ _ | refine blk_drew ?_ | refine blk_alloc ?_ _));refine blk_far ?_ NB153_166.out _;(with_reducible repeat (first | refine blk_drewN ?_ _ | refine blk_drew ?_ | refine blk_alloc ?_ _));refine blk_far ?_ NB153_166.out _;(with_reducible repeat (first | refine blk_drewN ?_ _ | refine blk_drew ?_ | refine blk_alloc ?_ _));exact BK153.out) NB153_0.out (by simp));have n1_:=Aside0.mk (Kd.R_mono (Kd.R_keep (IsS80.apart (show IsS80 w0 _ g s0_0 t161 t162 from by repeat (first | (with_reducible first | exact HI0.out | apply IsS80.alloc | apply IsS80.drewN | apply IsS80.drew | apply IsS80.set_1 | apply IsS80.set_2 | refine IsS80.far ?_ NB0_153.out _ | refine IsS80.far ?_ NB0_166.out _) | exact HI0.out)) (by (with_reducible repeat (first | apply Kd.R_alloc | apply Kd.R_drewN | apply Kd.R_drew));exact (Kd.R_mono (Kd.R_far (p:=⟨gb166,4,none⟩) (Kd.R_far (p:=⟨gb166,3,none⟩) (Kd.R_far (p:=⟨gb166,2,none⟩) (Kd.R_far (p:=⟨gb166,1,none⟩) (Kd.R_far (p:=⟨gb166,0,none⟩) (Kd.R_types HO165.out BK166.out (by decide)) (fun _ hk => hk.2) (.bool (t154 == 1))) (fun _ hk => hk.2) (.int .u32 0)) (fun _ hk => hk.2) (.bool (t157 == 0))) (fun _ hk => hk.2) (.int .i64 t160)) (fun _ hk => hk.2) (.slice Ao13 y163.length co13)) (fun _ h_ => h_.1))) (by decide)) hk (fun _ h => h.2)) (fun _ h => h.1));have n2_:=Aside0.mk (KeepBut.blk hk (g':=gb166) (o := .cells #[.bool (t154 == 1), .int .u32 0, .bool (t157 == 0), .int .i64 t160, .slice Ao13 y163.length co13] 29 (0,0)) (by (with_reducible repeat (first | refine blk_drewN ?_ _ | refine blk_drew ?_ | refine blk_alloc ?_ _));refine blk_put (cs := #[.bool (t154 == 1), .int .u32 0, .bool (t157 == 0), .int .i64 t160, .slice none 0 0]) ?_ 4 _ rfl;(with_reducible repeat (first | refine blk_drewN ?_ _ | refine blk_drew ?_ | refine blk_alloc ?_ _));refine blk_put (cs := #[.bool (t154 == 1), .int .u32 0, .bool (t157 == 0), .int .i64 0, .slice none 0 0]) ?_ 3 _ rfl;(with_reducible repeat (first | refine blk_drewN ?_ _ | refine blk_drew ?_ | refine blk_alloc ?_ _));refine blk_put (cs := #[.bool (t154 == 1), .int .u32 0, .bool false, .int .i64 0, .slice none 0 0]) ?_ 2 _ rfl;(with_reducible repeat (first | refine blk_drewN ?_ _ | refine blk_drew ?_ | refine blk_alloc ?_ _));refine blk_put (cs := #[.bool (t154 == 1), .int .u32 0, .bool false, .int .i64 0, .slice none 0 0]) ?_ 1 _ rfl;(with_reducible repeat (first | refine blk_drewN ?_ _ | refine blk_drew ?_ | refine blk_alloc ?_ _));refine blk_put (cs := #[.bool false, .int .u32 0, .bool false, .int .i64 0, .slice none 0 0]) ?_ 0 _ rfl;(with_reducible repeat (first | refine blk_drewN ?_ _ | refine blk_drew ?_ | refine blk_alloc ?_ _));exact BK166.out) NB166_0.out (by simp));have n3_:=Aside0.mk (KeepBut.trans (by repeat (first | (with_reducible first | exact HK.out | apply KeepBut.set_ | apply keep_drewN | apply keep_drew | apply keep_alloc | refine keep_far ?_ GW153.out _ | refine keep_far ?_ GW166.out _) | exact HK.out)) hk (.inl rfl));have n4_:=Aside0.mk (hb);have n5_:=Aside0.mk (hi);clear BK153;clear HO165;clear BK166;clear HK;clear HB;clear HI0;have BK153:=n0_;have HO165:=n1_;have BK166:=n2_;have HK:=n3_;have HB:=n4_;have HI0:=n5_;clear n0_ n1_ n2_ n3_ n4_ n5_;(try clear hb);(try clear hb2);(try clear hk);(try clear hi)))
 (try simp only [Act.put,List.setIfInBounds_toArray,List.set_cons_zero,List.set_cons_succ])
 go_cut [] (fun wc => ∃ (kq : Nat) (x1001_5 : Int) (x1002_5 : Int) (x167003_5 : Int),Aside0 (spec_l1genFrame.j0 kq s0_0 x1001_5 x1002_5 (t154 == 1) 0 (t157 == 0) x167003_5 y163 = some (r1,r2,r3,r4,r5,r6,r7)) ∧ Aside0 (kq ≤ k) ∧ Aside0 (Kd.R (Kd.int .u8) 5 wc w.heap.size (fun _ => True) (.slice Ao13 y163.length co13) y163) ∧ Aside0 (wc.heap[gb153]? = some (.cells #[.bool false, .int .u32 0, .bool false, .int .i64 0,(.slice none 0 0)] 29 (0,0))) ∧ Aside0 (wc.heap[gb166]? = some (.cells #[.bool (t154 == 1), .int .u32 0, .bool (t157 == 0), .int .i64 x167003_5,(.slice Ao13 y163.length co13)] 29 (0,0))) ∧ Aside0 (IsS80 w0 wc g s0_0 x1001_5 x1002_5) ∧ Aside0 (KeepBut w wc g none) ∧ Aside0 (Below w0.heap.size w0 wc))
 case first =>
  have H:=HC6.out
  clear HC6
  by_cases c19 : t167 = 0
  ·rw [if_pos c19] at H
   have c19b0 : (t167 == 0) = true:=beq_iff_eq.mpr c19
   have c19b1 : (t167 != 0) = false:=bne_eq_false_iff_eq.mpr c19
   clear c19
   (first | rw [c19b0] | (simp only [i64_w,i32_w];rw [c19b0]) | skip)
   replace H:=Option.bind_eq_some_iff.mp H
   obtain ⟨⟨t170,t171,t172⟩,A200,H⟩:=H
   replace H : (spec_l1genFrame.j0 k s0_0 t171 t172 (t154 == 1) 0 (t157 == 0) t170 y163) = some (r1,r2,r3,r4,r5,r6,r7):=H
   have A20:=Aside0.mk A200
   clear A200
   have H':=Aside0.mk H
   clear H
   go_wp2_with (first | ((with_reducible refine gate_callee (f:=38) rfl ?_);refine goesL_ (some 20) rfl rfl Tryd.func38 (by kernel_rfl) rfl #[.pointer (some ⟨g,0,none⟩), .int .i64 16] rfl (by (try simp only [List.map_toArray,List.map_cons,List.map_nil]);first | done | rfl | (simp only [List.length_drop,List.length_take];rfl)) ?_;(with_reducible refine (spec_l1src_n.calls g s0_0 t168 t169 16 t170 t171 t172 w0 _ ?side1 ?side2 A20.out).mono ?_);(case side1 => repeat (first | (with_reducible first | exact HI0.out | apply IsS80.alloc | apply IsS80.drewN | apply IsS80.drew | apply IsS80.set_1 | apply IsS80.set_2 | refine IsS80.far ?_ NB0_153.out _ | refine IsS80.far ?_ NB0_166.out _) | exact HI0.out));(case side2 => repeat (first | (with_reducible first | exact HB.out | apply below_alloc | apply pw_below_drewN | apply below_drew1 | refine below_set ?_ (IsS80.ge HI0.out) | refine below_set ?_ GE153.out | refine below_set ?_ GE166.out) | exact HB.out));rintro e w21 ⟨rfl,hi,hb,hk⟩;refine ⟨_,rfl, ?_⟩;have n0_:=Aside0.mk (KeepBut.blk hk (g':=gb153) (o := .cells #[.bool false, .int .u32 0, .bool false, .int .i64 0, .slice none 0 0] 29 (0,0)) (by (with_reducible repeat (first | refine blk_drewN ?_ _ | refine blk_drew ?_ | refine blk_alloc ?_ _));exact BK153.out) NB153_0.out (by simp));have n1_:=Aside0.mk (Kd.R_mono (Kd.R_keep (IsS80.apart (show IsS80 w0 _ g s0_0 t168 t169 from by repeat (first | (with_reducible first | exact HI0.out | apply IsS80.alloc | apply IsS80.drewN | apply IsS80.drew | apply IsS80.set_1 | apply IsS80.set_2 | refine IsS80.far ?_ NB0_153.out _ | refine IsS80.far ?_ NB0_166.out _) | exact HI0.out)) (by (with_reducible repeat (first | apply Kd.R_alloc | apply Kd.R_drewN | apply Kd.R_drew));exact HO165.out) (by decide)) hk (fun _ h => h.2)) (fun _ h => h.1));have n2_:=Aside0.mk (KeepBut.blk hk (g':=gb166) (o := .cells #[.bool (t154 == 1), .int .u32 0, .bool (t157 == 0), .int .i64 t160, .slice Ao13 y163.length co13] 29 (0,0)) (by (with_reducible repeat (first | refine blk_drewN ?_ _ | refine blk_drew ?_ | refine blk_alloc ?_ _));exact BK166.out) NB166_0.out (by simp));have n3_:=Aside0.mk (KeepBut.trans (by repeat (first | (with_reducible first | exact HK.out | apply KeepBut.set_ | apply keep_drewN | apply keep_drew | apply keep_alloc | refine keep_far ?_ GW153.out _ | refine keep_far ?_ GW166.out _) | exact HK.out)) hk (.inl rfl));have n4_:=Aside0.mk (hb);have n5_:=Aside0.mk (hi);clear BK153;clear HO165;clear BK166;clear HK;clear HB;clear HI0;have BK153:=n0_;have HO165:=n1_;have BK166:=n2_;have HK:=n3_;have HB:=n4_;have HI0:=n5_;clear n0_ n1_ n2_ n3_ n4_ n5_;(try clear hb);(try clear hb2);(try clear hk);(try clear hi);have hnb22:=NB166_153.out;have hnc22:=NB153_166.out;have hnb23:=NB166_0.out;have hnc23:=NB0_166.out;obtain ⟨hcz24_0,hcz24_1,hcz24_2,hcz24_3,hcz24_4⟩:=bc5 BK166.out;obtain ⟨hfz24_0,hfz24_1,hfz24_2,hfz24_3,hfz24_4⟩:=bf5 BK166.out))
   go_meet
   case rel => exact ⟨_,(t171),(t172),(t170),H',⟨by first | omega | exact Nat.le_refl _⟩,⟨by (with_reducible repeat (first | apply Kd.R_alloc | apply Kd.R_drewN | apply Kd.R_drew));exact Kd.R_mono (Kd.R_far (p:=⟨gb166,3,none⟩) (Kd.R_types HO165.out BK166.out (by decide)) (fun _ hk => hk.2) (.int .i64 t170)) (fun _ hk => trivial)⟩,⟨by (with_reducible repeat (first | refine blk_drewN ?_ _ | refine blk_drew ?_ | refine blk_alloc ?_ _));refine blk_far ?_ NB153_166.out _;(with_reducible repeat (first | refine blk_drewN ?_ _ | refine blk_drew ?_ | refine blk_alloc ?_ _));exact BK153.out⟩,⟨by (with_reducible repeat (first | refine blk_drewN ?_ _ | refine blk_drew ?_ | refine blk_alloc ?_ _));refine blk_put (cs := #[.bool (t154 == 1), .int .u32 0, .bool (t157 == 0), .int .i64 t160, .slice Ao13 y163.length co13]) ?_ 3 _ rfl;(with_reducible repeat (first | refine blk_drewN ?_ _ | refine blk_drew ?_ | refine blk_alloc ?_ _));exact BK166.out⟩,⟨by repeat (first | (with_reducible first | exact HI0.out | apply IsS80.alloc | apply IsS80.drewN | apply IsS80.drew | apply IsS80.set_1 | apply IsS80.set_2 | refine IsS80.far ?_ NB0_153.out _ | refine IsS80.far ?_ NB0_166.out _) | exact HI0.out)⟩,⟨by repeat (first | (with_reducible first | exact HK.out | apply KeepBut.set_ | apply keep_drewN | apply keep_drew | apply keep_alloc | refine keep_far ?_ GW153.out _ | refine keep_far ?_ GW166.out _) | exact HK.out)⟩,⟨by repeat (first | (with_reducible first | exact HB.out | apply below_alloc | apply pw_below_drewN | apply below_drew1 | refine below_set ?_ (IsS80.ge HI0.out) | refine below_set ?_ GE153.out | refine below_set ?_ GE166.out) | exact HB.out)⟩⟩
  ·rw [if_neg c19] at H
   have c19b0 : (t167 == 0) = false:=beq_eq_false_iff_ne.mpr c19
   have c19b1 : (t167 != 0) = true:=bne_iff_ne.mpr c19
   (first | rw [c19b0] | (simp only [i64_w,i32_w];rw [c19b0]) | skip)
   have H':=Aside0.mk H
   clear H
   go_wp2
   go_meet
   case rel => exact ⟨_,(t168),(t169),(t160),H',⟨by first | omega | exact Nat.le_refl _⟩,⟨by (with_reducible repeat (first | apply Kd.R_alloc | apply Kd.R_drewN | apply Kd.R_drew));exact HO165.out⟩,⟨by (with_reducible repeat (first | refine blk_drewN ?_ _ | refine blk_drew ?_ | refine blk_alloc ?_ _));exact BK153.out⟩,⟨by (with_reducible repeat (first | refine blk_drewN ?_ _ | refine blk_drew ?_ | refine blk_alloc ?_ _));exact BK166.out⟩,⟨by repeat (first | (with_reducible first | exact HI0.out | apply IsS80.alloc | apply IsS80.drewN | apply IsS80.drew | apply IsS80.set_1 | apply IsS80.set_2 | refine IsS80.far ?_ NB0_153.out _ | refine IsS80.far ?_ NB0_166.out _) | exact HI0.out)⟩,⟨by repeat (first | (with_reducible first | exact HK.out | apply KeepBut.set_ | apply keep_drewN | apply keep_drew | apply keep_alloc | refine keep_far ?_ GW153.out _ | refine keep_far ?_ GW166.out _) | exact HK.out)⟩,⟨by repeat (first | (with_reducible first | exact HB.out | apply below_alloc | apply pw_below_drewN | apply below_drew1 | refine below_set ?_ (IsS80.ge HI0.out) | refine below_set ?_ GE153.out | refine below_set ?_ GE166.out) | exact HB.out)⟩⟩
 case rest =>
  clear HC6
  try clear c1
  try clear c2
  try clear p2
  try clear c3
  try clear c5
  try clear c15
  try clear c16
  try clear c19
  try clear c19b0
  try clear c19b1
  try clear c22
  try clear c23
  try clear hcz17_0
  try clear hcz17_1
  try clear hcz17_2
  try clear hcz17_3
  try clear hcz17_4
  try clear hcz24_0
  try clear hcz24_1
  try clear hcz24_2
  try clear hcz24_3
  try clear hcz24_4
  try clear hfz17_0
  try clear hfz17_1
  try clear hfz17_2
  try clear hfz17_3
  try clear hfz17_4
  try clear hfz24_0
  try clear hfz24_1
  try clear hfz24_2
  try clear hfz24_3
  try clear hfz24_4
  obtain ⟨kq,x1001_5,x1002_5,x167003_5,HA,HJ5,HO_167004,BK153,BK166,HI0,HK,HB⟩:=hcut
  cases kq with
  | zero => exact absurd HA.out (by simp [spec_l1genFrame.j0])
  | succ kj5 =>
   have H:=HA.out
   clear HA
   simp only [spec_l1genFrame.j0] at H
   replace H:=Option.bind_eq_some_iff.mp H
   obtain ⟨⟨t173,t174,t175⟩,A250,H⟩:=H
   replace H : ((spec_l1dataLen.f (t154 == 1) t173 (t157 == 0) x167003_5 y163).bind fun t176 => (spec_l1genFrame.l0 kj5 t176 0 s0_0 t174 t175 (t154 == 1) t173 (t157 == 0) x167003_5 y163)) = some (r1,r2,r3,r4,r5,r6,r7):=H
   have A25:=Aside0.mk A250
   clear A250
   replace H:=Option.bind_eq_some_iff.mp H
   obtain ⟨t176,A260,H⟩:=H
   replace H : (spec_l1genFrame.l0 kj5 t176 0 s0_0 t174 t175 (t154 == 1) t173 (t157 == 0) x167003_5 y163) = some (r1,r2,r3,r4,r5,r6,r7):=H
   have A26:=Aside0.mk A260
   clear A260
   have H':=Aside0.mk H
   clear H
   have hnb27:=NB166_153.out
   have hnc27:=NB153_166.out
   have hnb28:=NB166_0.out
   have hnc28:=NB0_166.out
   obtain ⟨hcz29_0,hcz29_1,hcz29_2,hcz29_3,hcz29_4⟩:=bc5 BK166.out
   obtain ⟨hfz29_0,hfz29_1,hfz29_2,hfz29_3,hfz29_4⟩:=bf5 BK166.out
   go_wp2_with (first | ((with_reducible refine gate_callee (f:=70) rfl ?_);refine goesL_ (some 25) rfl rfl Tryd.func70 (by kernel_rfl) rfl #[.pointer (some ⟨g,0,none⟩), .bool (t154 == 1)] rfl (by (try simp only [List.map_toArray,List.map_cons,List.map_nil]);first | done | rfl | (simp only [List.length_drop,List.length_take];rfl)) ?_;(with_reducible refine (spec_l1genId.calls kj5 g s0_0 x1001_5 x1002_5 (t154 == 1) t173 t174 t175 w0 _ ?side1 ?side2 A25.out).mono ?_);(case side1 => repeat (first | (with_reducible first | exact HI0.out | apply IsS80.alloc | apply IsS80.drewN | apply IsS80.drew | apply IsS80.set_1 | apply IsS80.set_2 | refine IsS80.far ?_ NB0_153.out _ | refine IsS80.far ?_ NB0_166.out _) | exact HI0.out));(case side2 => repeat (first | (with_reducible first | exact HB.out | apply below_alloc | apply pw_below_drewN | apply below_drew1 | refine below_set ?_ (IsS80.ge HI0.out) | refine below_set ?_ GE153.out | refine below_set ?_ GE166.out) | exact HB.out));rintro e w30 ⟨rfl,hi,hb,hk⟩;refine ⟨_,rfl, ?_⟩;have n0_:=Aside0.mk (Kd.R_mono (Kd.R_keep (IsS80.apart (show IsS80 w0 _ g s0_0 x1001_5 x1002_5 from by repeat (first | (with_reducible first | exact HI0.out | apply IsS80.alloc | apply IsS80.drewN | apply IsS80.drew | apply IsS80.set_1 | apply IsS80.set_2 | refine IsS80.far ?_ NB0_153.out _ | refine IsS80.far ?_ NB0_166.out _) | exact HI0.out)) (by (with_reducible repeat (first | apply Kd.R_alloc | apply Kd.R_drewN | apply Kd.R_drew));exact HO_167004.out) (by decide)) hk (fun _ h => h.2)) (fun _ h => h.1));have n1_:=Aside0.mk (KeepBut.blk hk (g':=gb153) (o := .cells #[.bool false, .int .u32 0, .bool false, .int .i64 0, .slice none 0 0] 29 (0,0)) (by (with_reducible repeat (first | refine blk_drewN ?_ _ | refine blk_drew ?_ | refine blk_alloc ?_ _));exact BK153.out) NB153_0.out (by simp));have n2_:=Aside0.mk (KeepBut.blk hk (g':=gb166) (o := .cells #[.bool (t154 == 1), .int .u32 0, .bool (t157 == 0), .int .i64 x167003_5, .slice Ao13 y163.length co13] 29 (0,0)) (by (with_reducible repeat (first | refine blk_drewN ?_ _ | refine blk_drew ?_ | refine blk_alloc ?_ _));exact BK166.out) NB166_0.out (by simp));have n3_:=Aside0.mk (KeepBut.trans (by repeat (first | (with_reducible first | exact HK.out | apply KeepBut.set_ | apply keep_drewN | apply keep_drew | apply keep_alloc | refine keep_far ?_ GW153.out _ | refine keep_far ?_ GW166.out _) | exact HK.out)) hk (.inl rfl));have n4_:=Aside0.mk (hb);have n5_:=Aside0.mk (hi);clear HO_167004;clear BK153;clear BK166;clear HK;clear HB;clear HI0;have HO_167004:=n0_;have BK153:=n1_;have BK166:=n2_;have HK:=n3_;have HB:=n4_;have HI0:=n5_;clear n0_ n1_ n2_ n3_ n4_ n5_;(try clear hb);(try clear hb2);(try clear hk);(try clear hi);obtain ⟨hcz31_0,hcz31_1,hcz31_2,hcz31_3,hcz31_4⟩:=bc5 BK166.out;obtain ⟨hfz31_0,hfz31_1,hfz31_2,hfz31_3,hfz31_4⟩:=bf5 BK166.out) | ((with_reducible refine gate_callee (f:=71) rfl ?_);refine goesL_ (some 28) rfl rfl Tryd.func71 (by kernel_rfl) rfl #[.agg #[.bool (t154 == 1), .int .u32 t173, .bool (t157 == 0), .int .i64 x167003_5, .slice Ao13 y163.length co13]] rfl (by (try simp only [List.map_toArray,List.map_cons,List.map_nil]);first | done | rfl | (simp only [List.length_drop,List.length_take];rfl)) ?_;(with_reducible refine (spec_l1dataLen.calls (t154 == 1) t173 (t157 == 0) x167003_5 _ _ y163 t176 _ ?side1 ?side2 A26.out).mono ?_);(case side1 => refine (Kd.R_reads' (e:=5) (base:=w.heap.size) (ok:=fun k_ => True) (n:=y163.length) (c:=co13) ?_).2.2;exact (by (with_reducible repeat (first | apply Kd.R_alloc | apply Kd.R_drewN | apply Kd.R_drew));exact (Kd.R_mono (Kd.R_far (p:=⟨gb166,1,none⟩) (Kd.R_types HO_167004.out BK166.out (by decide)) (fun _ hk => hk.2) (.int .u32 t173)) (fun _ h_ => h_.1))));(case side2 => exact (Kd.R_reads' HO_167004.out).2.1);rintro e w32 ⟨rfl,hb⟩;refine ⟨_,rfl, ?_⟩;have n0_:=Aside0.mk (Kd.R_below (by (with_reducible repeat (first | apply Kd.R_alloc | apply Kd.R_drewN | apply Kd.R_drew));exact (Kd.R_mono (Kd.R_far (p:=⟨gb166,1,none⟩) (Kd.R_types HO_167004.out BK166.out (by decide)) (fun _ hk => hk.2) (.int .u32 t173)) (fun _ h_ => h_.1))) hb);have n1_:=Aside0.mk (blk_below (g:=gb153) (o := .cells #[.bool false, .int .u32 0, .bool false, .int .i64 0, .slice none 0 0] 29 (0,0)) (by (with_reducible repeat (first | refine blk_drewN ?_ _ | refine blk_drew ?_ | refine blk_alloc ?_ _));refine blk_far ?_ NB153_166.out _;(with_reducible repeat (first | refine blk_drewN ?_ _ | refine blk_drew ?_ | refine blk_alloc ?_ _));exact BK153.out) hb);have n2_:=Aside0.mk (blk_below (g:=gb166) (o := .cells #[.bool (t154 == 1), .int .u32 t173, .bool (t157 == 0), .int .i64 x167003_5, .slice Ao13 y163.length co13] 29 (0,0)) (by (with_reducible repeat (first | refine blk_drewN ?_ _ | refine blk_drew ?_ | refine blk_alloc ?_ _));refine blk_put (cs := #[.bool (t154 == 1), .int .u32 0, .bool (t157 == 0), .int .i64 x167003_5, .slice Ao13 y163.length co13]) ?_ 1 _ rfl;(with_reducible repeat (first | refine blk_drewN ?_ _ | refine blk_drew ?_ | refine blk_alloc ?_ _));exact BK166.out) hb);have n3_:=Aside0.mk (IsS80.below (show IsS80 w0 (w30.setCell ⟨gb166,1,none⟩ (.int .u32 t173)) g s0_0 t174 t175 from by repeat (first | (with_reducible first | exact HI0.out | apply IsS80.alloc | apply IsS80.drewN | apply IsS80.drew | apply IsS80.set_1 | apply IsS80.set_2 | refine IsS80.far ?_ NB0_153.out _ | refine IsS80.far ?_ NB0_166.out _) | exact HI0.out)) hb);have n4_:=Aside0.mk (KeepBut.trans (by repeat (first | (with_reducible first | exact HK.out | apply KeepBut.set_ | apply keep_drewN | apply keep_drew | apply keep_alloc | refine keep_far ?_ GW153.out _ | refine keep_far ?_ GW166.out _) | exact HK.out)) (KeepBut.of_below hb g none) (.inl rfl));have n5_:=Aside0.mk (below_step (by repeat (first | (with_reducible first | exact HB.out | apply below_alloc | apply pw_below_drewN | apply below_drew1 | refine below_set ?_ (IsS80.ge HI0.out) | refine below_set ?_ GE153.out | refine below_set ?_ GE166.out) | exact HB.out)) hb);clear HO_167004;clear BK153;clear BK166;clear HI0;clear HK;clear HB;have HO_167004:=n0_;have BK153:=n1_;have BK166:=n2_;have HI0:=n3_;have HK:=n4_;have HB:=n5_;clear n0_ n1_ n2_ n3_ n4_ n5_;(try clear hb);(try clear hb2);(try clear hk);(try clear hi)))
   go_loopg [5] kj5 (fun kq v5 w' => ∃ (x5_2 : Int) (x1001_2 : Int) (x1002_2 : Int) (x167004_2 : List Int) (u167004 : Value),v5 = .int .i64 x5_2 ∧ Aside0 (spec_l1genFrame.l0 kq t176 x5_2 s0_0 x1001_2 x1002_2 (t154 == 1) t173 (t157 == 0) x167003_5 x167004_2 = some (r1,r2,r3,r4,r5,r6,r7)) ∧ Aside0 (kq ≤ kj5) ∧ Aside0 (Kd.R (Kd.int .u8) 5 w' w.heap.size (fun _ => True) u167004 x167004_2) ∧ Aside0 (w'.heap[gb153]? = some (.cells #[.bool false, .int .u32 0, .bool false, .int .i64 0,(.slice none 0 0)] 29 (0,0))) ∧ Aside0 (w'.heap[gb166]? = some (.cells #[.bool (t154 == 1), .int .u32 t173, .bool (t157 == 0), .int .i64 x167003_5,u167004] 29 (0,0))) ∧ Aside0 (IsS80 w0 w' g s0_0 x1001_2 x1002_2) ∧ Aside0 (KeepBut w w' g none) ∧ Aside0 (Below w0.heap.size w0 w'))
   case atStart => exact ⟨(0),(t174),(t175),(y163),(.slice Ao13 y163.length co13),(by first | rfl | (simp;done) | (simp [*];done)),H',⟨Nat.le_refl _⟩,⟨by (with_reducible repeat (first | apply Kd.R_alloc | apply Kd.R_drewN | apply Kd.R_drew));exact HO_167004.out⟩,⟨by (with_reducible repeat (first | refine blk_drewN ?_ _ | refine blk_drew ?_ | refine blk_alloc ?_ _));exact BK153.out⟩,⟨by (with_reducible repeat (first | refine blk_drewN ?_ _ | refine blk_drew ?_ | refine blk_alloc ?_ _));exact BK166.out⟩,⟨by repeat (first | (with_reducible first | exact HI0.out | apply IsS80.alloc | apply IsS80.drewN | apply IsS80.drew | apply IsS80.set_1 | apply IsS80.set_2 | refine IsS80.far ?_ NB0_153.out _ | refine IsS80.far ?_ NB0_166.out _) | exact HI0.out)⟩,⟨by repeat (first | (with_reducible first | exact HK.out | apply KeepBut.set_ | apply keep_drewN | apply keep_drew | apply keep_alloc | refine keep_far ?_ GW153.out _ | refine keep_far ?_ GW166.out _) | exact HK.out)⟩,⟨by repeat (first | (with_reducible first | exact HB.out | apply below_alloc | apply pw_below_drewN | apply below_drew1 | refine below_set ?_ (IsS80.ge HI0.out) | refine below_set ?_ GE153.out | refine below_set ?_ GE166.out) | exact HB.out)⟩⟩
   case round =>
    clear H'
    try clear c1
    try clear c2
    try clear p2
    try clear c3
    try clear c5
    try clear c7
    try clear c15
    try clear c16
    try clear c19
    try clear c19b0
    try clear c19b1
    try clear c22
    try clear c23
    try clear c27
    try clear c28
    try clear hcz17_0
    try clear hcz17_1
    try clear hcz17_2
    try clear hcz17_3
    try clear hcz17_4
    try clear hcz24_0
    try clear hcz24_1
    try clear hcz24_2
    try clear hcz24_3
    try clear hcz24_4
    try clear hcz29_0
    try clear hcz29_1
    try clear hcz29_2
    try clear hcz29_3
    try clear hcz29_4
    try clear hcz31_0
    try clear hcz31_1
    try clear hcz31_2
    try clear hcz31_3
    try clear hcz31_4
    try clear hfz17_0
    try clear hfz17_1
    try clear hfz17_2
    try clear hfz17_3
    try clear hfz17_4
    try clear hfz24_0
    try clear hfz24_1
    try clear hfz24_2
    try clear hfz24_3
    try clear hfz24_4
    try clear hfz29_0
    try clear hfz29_1
    try clear hfz29_2
    try clear hfz29_3
    try clear hfz29_4
    try clear hfz31_0
    try clear hfz31_1
    try clear hfz31_2
    try clear hfz31_3
    try clear hfz31_4
    try clear p2
    obtain ⟨x5_2,x1001_2,x1002_2,x167004_2,u167004,rfl,HA,HK2,HO_167004,BK153,BK166,HI0,HK,HB⟩:=hrel
    cases gk with
    | zero => exact absurd HA.out (by simp [spec_l1genFrame.l0])
    | succ k2 =>
     have H:=HA.out
     clear HA
     simp only [spec_l1genFrame.l0] at H
     by_cases c33 : x5_2 < t176
     ·rw [if_pos c33] at H
      have c33b0 : decide (x5_2 < t176) = true:=decide_eq_true c33
      clear c33
      replace H:=Option.bind_eq_some_iff.mp H
      obtain ⟨⟨t177,t178,t179⟩,A340,H⟩:=H
      replace H : (if x167004_2.length < 140737488355328 then (spec_l1genFrame.l0 k2 t176 (wrap64 (x5_2 + 1)) s0_0 t178 t179 (t154 == 1) t173 (t157 == 0) x167003_5 (x167004_2 ++ [t177])) else (none)) = some (r1,r2,r3,r4,r5,r6,r7):=H
      have A34:=Aside0.mk A340
      clear A340
      by_cases c35 : x167004_2.length < 140737488355328
      ·rw [if_pos c35] at H
       have LMc35:=Aside0.mk c35
       clear c35
       obtain ⟨y180,hy180⟩ : ∃ y_ : List Int,y_ = (x167004_2 ++ [t177]):=⟨_,rfl⟩
       replace H : (spec_l1genFrame.l0 k2 t176 (wrap64 (x5_2 + 1)) s0_0 t178 t179 (t154 == 1) t173 (t157 == 0) x167003_5 y180) = some (r1,r2,r3,r4,r5,r6,r7):=by first | (rw [hy180];with_reducible exact H) | (have H2_:=(Option.bind_some _ _).symm.trans H;rw [hy180];with_reducible exact H2_) | (have H2_:=(Option.bind_some _ _).symm.trans H;with_reducible exact H2_) | with_reducible exact H | (rw [hy180];exact H) | exact H
       have Ny180:=Aside0.mk hy180
       clear hy180
       have H':=Aside0.mk H
       clear H
       try go_wp2
       have n0_:=Aside0.mk (Kd.R_drew HO_167004.out)
       have n1_:=Aside0.mk (blk_drew BK153.out)
       have n2_:=Aside0.mk (blk_drew BK166.out)
       have n3_:=Aside0.mk (IsS80.drew HI0.out)
       have n4_:=Aside0.mk (keep_drew HK.out)
       have n5_:=Aside0.mk (below_drew1 HB.out)
       clear HO_167004
       clear BK153
       clear BK166
       clear HI0
       clear HK
       clear HB
       have HO_167004:=n0_
       have BK153:=n1_
       have BK166:=n2_
       have HI0:=n3_
       have HK:=n4_
       have HB:=n5_
       clear n0_ n1_ n2_ n3_ n4_ n5_
       refine start_ (n:=8) (S:=fun w' => w'.cell? ⟨gb166,0,none⟩ = some (.bool (t154 == 1)) ∧ w'.cell? ⟨gb166,1,none⟩ = some (.int .u32 t173) ∧ w'.cell? ⟨gb166,2,none⟩ = some (.bool (t157 == 0)) ∧ w'.cell? ⟨gb166,3,none⟩ = some (.int .i64 x167003_5) ∧ w'.cell? ⟨gb166,4,none⟩ = some (u167004)) (ds := [7]) #[false,false,false,false,false,false,false,false] (by kernel_rfl) rfl rfl ⟨(blk_cell BK166.out 0).trans rfl,(blk_cell BK166.out 1).trans rfl,(blk_cell BK166.out 2).trans rfl,(blk_cell BK166.out 3).trans rfl,(blk_cell BK166.out 4).trans rfl⟩ (fun hHeld => ?_);refine with_tabW spec_l1genFrame.tab9 spec_l1genFrame.bits9 (fun HT_ HW_ => ?_)
       generalize wr.drew = w36 at HO_167004 BK153 BK166 HI0 HK HB hHeld ⊢
       refine pure_ (i:=0) (N:=some 34) (v := ?_) (a' := ?_) #[true,false,false,false,false,false,false,false] rfl rfl (any_of HT_.out (by kernel_rfl)) (fun _ _ _ h => h) (Or.inl ⟨by rfl, ?_⟩) ?_ ?_
       rotate_left
       ·intro w'
        go_simp
        with_reducible rfl
       rotate_left
       ·simp only [Act.put,List.setIfInBounds_toArray,List.set_cons_zero,List.set_cons_succ,i64_w,i32_w]
        rfl
       refine pure_ (i:=2) (N:=some 36) (v := ?_) (a' := ?_) #[true,false,true,false,false,false,false,false] rfl rfl (any_of HT_.out (by kernel_rfl)) (fun _ _ _ h => h) (Or.inl ⟨by rfl, ?_⟩) ?_ ?_
       rotate_left
       ·intro w'
        go_simp
        with_reducible rfl
       rotate_left
       ·simp only [Act.put,List.setIfInBounds_toArray,List.set_cons_zero,List.set_cons_succ,i64_w,i32_w]
        rfl
       refine take_ (i:=1) (N:=some 35) (v := ?_) (a' := ?_) #[true,true,true,false,false,false,false,false] rfl rfl (take_ofW HT_.out HW_.out (by kernel_rfl)) (fun _ _ _ h => h) (Or.inl ⟨by rfl, ?_⟩) hHeld ?_ ?_
       rotate_left
       ·rintro w' ⟨s0,s1,s2,s3,s4⟩
        go_simp
        with_reducible rfl
       rotate_left
       ·simp only [Act.put,List.setIfInBounds_toArray,List.set_cons_zero,List.set_cons_succ,i64_w,i32_w]
        rfl
       refine one_ (i:=3) (N:=some 37) #[true,true,true,true,false,false,false,false] rfl rfl (one_of HT_.out (by kernel_rfl)) (by decide) (fun K hK => ?_)
       refine goes_ Tryd.func72 (by kernel_rfl) rfl #[.pointer (some ⟨g,0,none⟩)] (by rfl) rfl rfl (by (try simp only [List.map_toArray,List.map_cons,List.map_nil]);first | done | rfl | (simp only [List.length_drop,List.length_take];rfl)) ?_
       with_reducible refine (spec_l1genByte.calls g s0_0 x1001_2 x1002_2 t177 t178 t179 w0 _ ?side1 ?side2 A34.out).mono ?_
       (case side1 => repeat (first | (with_reducible first | exact HI0.out | apply IsS80.alloc | apply IsS80.drewN | apply IsS80.drew | apply IsS80.set_1 | apply IsS80.set_2 | refine IsS80.far ?_ NB0_153.out _ | refine IsS80.far ?_ NB0_166.out _) | exact HI0.out))
       (case side2 => repeat (first | (with_reducible first | exact HB.out | apply below_alloc | apply pw_below_drewN | apply below_drew1 | refine below_set ?_ (IsS80.ge HI0.out) | refine below_set ?_ GE153.out | refine below_set ?_ GE166.out) | exact HB.out))
       rintro e w37 ⟨rfl,hi,hb,hk⟩
       refine ⟨_,rfl, ?_⟩
       have n0_:=Aside0.mk (Kd.R_mono (Kd.R_keep (IsS80.apart (show IsS80 w0 _ g s0_0 x1001_2 x1002_2 from by repeat (first | (with_reducible first | exact HI0.out | apply IsS80.alloc | apply IsS80.drewN | apply IsS80.drew | apply IsS80.set_1 | apply IsS80.set_2 | refine IsS80.far ?_ NB0_153.out _ | refine IsS80.far ?_ NB0_166.out _) | exact HI0.out)) (by (with_reducible repeat (first | apply Kd.R_alloc | apply Kd.R_drewN | apply Kd.R_drew));exact HO_167004.out) (by decide)) hk (fun _ h => h.2)) (fun _ h => h.1))
       have n1_:=Aside0.mk (KeepBut.blk hk (g':=gb153) (o := .cells #[.bool false, .int .u32 0, .bool false, .int .i64 0, .slice none 0 0] 29 (0,0)) (by (with_reducible repeat (first | refine blk_drewN ?_ _ | refine blk_drew ?_ | refine blk_alloc ?_ _));exact BK153.out) NB153_0.out (by simp))
       have n2_:=Aside0.mk (KeepBut.blk hk (g':=gb166) (o := .cells #[.bool (t154 == 1), .int .u32 t173, .bool (t157 == 0), .int .i64 x167003_5,u167004] 29 (0,0)) (by (with_reducible repeat (first | refine blk_drewN ?_ _ | refine blk_drew ?_ | refine blk_alloc ?_ _));exact BK166.out) NB166_0.out (by simp))
       have n3_:=Aside0.mk (KeepBut.trans (by repeat (first | (with_reducible first | exact HK.out | apply KeepBut.set_ | apply keep_drewN | apply keep_drew | apply keep_alloc | refine keep_far ?_ GW153.out _ | refine keep_far ?_ GW166.out _) | exact HK.out)) hk (.inl rfl))
       have n4_:=Aside0.mk (hb)
       have n5_:=Aside0.mk (hi)
       clear HO_167004
       clear BK153
       clear BK166
       clear HK
       clear HB
       clear HI0
       have HO_167004:=n0_
       have BK153:=n1_
       have BK166:=n2_
       have HK:=n3_
       have HB:=n4_
       have HI0:=n5_
       clear n0_ n1_ n2_ n3_ n4_ n5_
       (try clear hb)
       (try clear hb2)
       (try clear hk)
       (try clear hi)
       refine hK.out _ _ ⟨(blk_cell BK166.out 0).trans rfl,(blk_cell BK166.out 1).trans rfl,(blk_cell BK166.out 2).trans rfl,(blk_cell BK166.out 3).trans rfl,(blk_cell BK166.out 4).trans rfl⟩ (fun hHeld => ?_)
       clear hK K
       refine norm_ (a' := ?_) ?_ ?_
       rotate_left
       ·show Act.put _ (some 37) _ = _
        simp only [Act.put,List.setIfInBounds_toArray,List.set_cons_zero,List.set_cons_succ,i64_w,i32_w]
        rfl
       refine one_ (i:=4) (N:=some 38) #[true,true,true,true,true,false,false,false] rfl rfl (one_of HT_.out (by kernel_rfl)) (by decide) (fun K hK => ?_)
       refine value_ (w1 := ?_) (v := ?_) (by rfl) rfl ?_ ?_
       rotate_left 2
       ·go_simp
        constructor
        ·rfl
        ·rfl
       refine hK.out _ _ ⟨(blk_cell (blk_alloc BK166.out _) 0).trans rfl,(blk_cell (blk_alloc BK166.out _) 1).trans rfl,(blk_cell (blk_alloc BK166.out _) 2).trans rfl,(blk_cell (blk_alloc BK166.out _) 3).trans rfl,(blk_cell (blk_alloc BK166.out _) 4).trans rfl⟩ (fun hHeld => ?_)
       clear hK K
       refine norm_ (a' := ?_) ?_ ?_
       rotate_left
       ·show Act.put _ (some 38) _ = _
        simp only [Act.put,List.setIfInBounds_toArray,List.set_cons_zero,List.set_cons_succ,i64_w,i32_w]
        rfl
       refine one_ (i:=5) (N:=some 39) #[true,true,true,true,true,true,false,false] rfl rfl (one_of HT_.out (by kernel_rfl)) (by decide) (fun K hK => ?_)
       refine Kd.R_append_step (Kd.int .u8) w.heap.size (by rfl) (.tmp 35) (.tmp 38) 23 5 (.int .u8 0) 1 rfl Tryd.underlying23 info5 rfl (by decide) (by omega) u167004 x167004_2 t177 [.int .u8 t177] (fun _ => True) (fun _ => False) rfl rfl ?aP (fun _ hk => hk.elim) ?aF ?aO (Below.refl _ _) ?aS ?aL ?_
       (case aP => exact rfl)
       (case aF => exact (fun _ _ => trivial))
       (case aO => exact (by (with_reducible repeat (first | apply Kd.R_alloc | apply Kd.R_drewN | apply Kd.R_drew));exact HO_167004.out))
       (case aS => exact (keep_size (w:=w) (g:=g) (row:=none) (by repeat (first | (with_reducible first | exact HK.out | apply KeepBut.set_ | apply keep_drewN | apply keep_drew | apply keep_alloc | refine keep_far ?_ GW153.out _ | refine keep_far ?_ GW166.out _) | exact HK.out))))
       (case aL => have:=LMc35.out;omega)
       intro v181 w38 ho hb hg hat
       rw [← Ny180.out] at ho
       have n0_:=Aside0.mk (blk_grown (g:=gb153) (o := .cells #[.bool false, .int .u32 0, .bool false, .int .i64 0, .slice none 0 0] 29 (0,0)) (by (with_reducible repeat (first | refine blk_drewN ?_ _ | refine blk_drew ?_ | refine blk_alloc ?_ _));exact BK153.out) hg (Kd.R_ne HO_167004.out BK153.out (by decide)))
       have n1_:=Aside0.mk (blk_grown (g:=gb166) (o := .cells #[.bool (t154 == 1), .int .u32 t173, .bool (t157 == 0), .int .i64 x167003_5,u167004] 29 (0,0)) (by (with_reducible repeat (first | refine blk_drewN ?_ _ | refine blk_drew ?_ | refine blk_alloc ?_ _));exact BK166.out) hg (Kd.R_ne HO_167004.out BK166.out (by decide)))
       have n2_:=Aside0.mk (IsS80.grown (by repeat (first | (with_reducible first | exact HI0.out | apply IsS80.alloc | apply IsS80.drewN | apply IsS80.drew | apply IsS80.set_1 | apply IsS80.set_2 | refine IsS80.far ?_ NB0_153.out _ | refine IsS80.far ?_ NB0_166.out _) | exact HI0.out)) hg (IsS80.own_ne HI0.out HO_167004.out (by decide)))
       have n3_:=Aside0.mk (below_weaken (by repeat (first | (with_reducible first | exact HB.out | apply below_alloc | apply pw_below_drewN | apply below_drew1 | refine below_set ?_ (IsS80.ge HI0.out) | refine below_set ?_ GE153.out | refine below_set ?_ GE166.out) | exact HB.out)) HL.out hb)
       have n4_:=Aside0.mk (KeepBut.trans (by repeat (first | (with_reducible first | exact HK.out | apply KeepBut.set_ | apply keep_drewN | apply keep_drew | apply keep_alloc | refine keep_far ?_ GW153.out _ | refine keep_far ?_ GW166.out _) | exact HK.out)) (KeepBut.of_grown hg g) (Kd.R_base2 HO_167004.out))
       have n5_:=Aside0.mk (ho)
       clear BK153
       clear BK166
       clear HI0
       clear HB
       clear HK
       clear HO_167004
       have BK153:=n0_
       have BK166:=n1_
       have HI0:=n2_
       have HB:=n3_
       have HK:=n4_
       have HO182:=n5_
       clear n0_ n1_ n2_ n3_ n4_ n5_
       clear ho hb hg hat
       obtain ⟨Ao39,co39,eo39⟩:=Kd.R_slice HO182.out
       (first | subst eo39 | (injection eo39 with f1_ f2_ f3_;have f4_:=f1_.symm;have f5_:=f3_.symm;clear f1_ f2_ f3_;subst f4_;subst f5_))
       refine hK.out _ _ ⟨(blk_cell BK166.out 0).trans rfl,(blk_cell BK166.out 1).trans rfl,(blk_cell BK166.out 2).trans rfl,(blk_cell BK166.out 3).trans rfl,(blk_cell BK166.out 4).trans rfl⟩ (fun hHeld => ?_)
       clear hK K
       refine norm_ (a' := ?_) ?_ ?_
       rotate_left
       ·show Act.put _ (some 39) _ = _
        simp only [Act.put,List.setIfInBounds_toArray,List.set_cons_zero,List.set_cons_succ,i64_w,i32_w]
        rfl
       refine pure_ (i:=6) (N:=some 40) (v := ?_) (a' := ?_) #[true,true,true,true,true,true,true,false] rfl rfl (any_of HT_.out (by kernel_rfl)) (fun _ _ _ h => h) (Or.inl ⟨by rfl, ?_⟩) ?_ ?_
       rotate_left
       ·intro w'
        go_simp
        with_reducible rfl
       rotate_left
       ·simp only [Act.put,List.setIfInBounds_toArray,List.set_cons_zero,List.set_cons_succ,i64_w,i32_w]
        rfl
       refine last_ (i:=7) (N:=none) #[true,true,true,true,true,true,true,true] rfl rfl (one_of HT_.out (by kernel_rfl)) (by decide) (fun K hK => ?_)
       have hs40 : w38.cell? ⟨gb166,4,none⟩ = some (u167004):=(blk_cell BK166.out 4).trans rfl
       have hfs40:=blk_frozen BK166.out 4
       have hns40_0:=NB153_166.out
       have hms40_0:=NB166_153.out
       refine skip_ (w1 := ?_) (by rfl) rfl ?_ ?_
       rotate_left
       ·go_simp
        rfl
       refine hK.out _ _ ?_
       clear hK K
       refine done_ (done_of HT_.out (by kernel_rfl)) ?_
       try go_wp2
       go_roundg k2
       case measure => have:=HJ5.out;have:=HK2.out;omega
       case rel => exact ⟨(wrap64 (x5_2 + 1)),(t178),(t179),(y180),(.slice Ao39 y180.length co39),(by first | rfl | (simp;done) | (simp [*];done)),H',⟨by have:=HJ5.out;have:=HK2.out;omega⟩,⟨by (with_reducible repeat (first | apply Kd.R_alloc | apply Kd.R_drewN | apply Kd.R_drew));exact Kd.R_mono (Kd.R_far (p:=⟨gb166,4,none⟩) (Kd.R_types HO182.out BK166.out (by decide)) (fun _ hk => hk.2) (.slice Ao39 y180.length co39)) (fun _ hk => trivial)⟩,⟨by (with_reducible repeat (first | refine blk_drewN ?_ _ | refine blk_drew ?_ | refine blk_alloc ?_ _));refine blk_far ?_ NB153_166.out _;(with_reducible repeat (first | refine blk_drewN ?_ _ | refine blk_drew ?_ | refine blk_alloc ?_ _));exact BK153.out⟩,⟨by (with_reducible repeat (first | refine blk_drewN ?_ _ | refine blk_drew ?_ | refine blk_alloc ?_ _));refine blk_put (cs := #[.bool (t154 == 1), .int .u32 t173, .bool (t157 == 0), .int .i64 x167003_5,u167004]) ?_ 4 _ rfl;(with_reducible repeat (first | refine blk_drewN ?_ _ | refine blk_drew ?_ | refine blk_alloc ?_ _));exact BK166.out⟩,⟨by repeat (first | (with_reducible first | exact HI0.out | apply IsS80.alloc | apply IsS80.drewN | apply IsS80.drew | apply IsS80.set_1 | apply IsS80.set_2 | refine IsS80.far ?_ NB0_153.out _ | refine IsS80.far ?_ NB0_166.out _) | exact HI0.out)⟩,⟨by repeat (first | (with_reducible first | exact HK.out | apply KeepBut.set_ | apply keep_drewN | apply keep_drew | apply keep_alloc | refine keep_far ?_ GW153.out _ | refine keep_far ?_ GW166.out _) | exact HK.out)⟩,⟨by repeat (first | (with_reducible first | exact HB.out | apply below_alloc | apply pw_below_drewN | apply below_drew1 | refine below_set ?_ (IsS80.ge HI0.out) | refine below_set ?_ GE153.out | refine below_set ?_ GE166.out) | exact HB.out)⟩⟩
      ·rw [if_neg c35] at H
       exact absurd H (by simp)
     ·rw [if_neg c33] at H
      have c33b0 : decide (x5_2 < t176) = false:=decide_eq_false c33
      clear c33
      simp only [Option.some.injEq,Prod.mk.injEq] at H
      obtain ⟨rfl,rfl,rfl,rfl,rfl,rfl,rfl⟩:=H
      have hnb41:=NB166_153.out
      have hnc41:=NB153_166.out
      have hnb42:=NB166_0.out
      have hnc42:=NB0_166.out
      obtain ⟨hcz43_0,hcz43_1,hcz43_2,hcz43_3,hcz43_4⟩:=bc5 BK166.out
      obtain ⟨hfz43_0,hfz43_1,hfz43_2,hfz43_3,hfz43_4⟩:=bf5 BK166.out
      have hnb44:=NB153_0.out
      have hnc44:=NB0_153.out
      obtain ⟨hcz45_0,hcz45_1,hcz45_2,hcz45_3,hcz45_4⟩:=bc5 BK153.out
      obtain ⟨hfz45_0,hfz45_1,hfz45_2,hfz45_3,hfz45_4⟩:=bf5 BK153.out
      obtain ⟨Ao46,co46,eo46⟩:=Kd.R_slice HO_167004.out
      subst eo46
      go_wp2
      refine bodyPost_ret (results_cell_row rfl _ _ gb153 29 #[.bool (t154 == 1), .int .u32 t173, .bool (t157 == 0), .int .i64 x167003_5, .slice Ao46 x167004_2.length co46] (0,0) _ rfl (by (with_reducible repeat (first | refine blk_drewN ?_ _ | refine blk_drew ?_ | refine blk_alloc ?_ _));refine blk_put (cs := #[.bool (t154 == 1), .int .u32 t173, .bool (t157 == 0), .int .i64 x167003_5, .slice none 0 0]) ?_ 4 _ rfl;(with_reducible repeat (first | refine blk_drewN ?_ _ | refine blk_drew ?_ | refine blk_alloc ?_ _));refine blk_put (cs := #[.bool (t154 == 1), .int .u32 t173, .bool (t157 == 0), .int .i64 0, .slice none 0 0]) ?_ 3 _ rfl;(with_reducible repeat (first | refine blk_drewN ?_ _ | refine blk_drew ?_ | refine blk_alloc ?_ _));refine blk_put (cs := #[.bool (t154 == 1), .int .u32 t173, .bool false, .int .i64 0, .slice none 0 0]) ?_ 2 _ rfl;(with_reducible repeat (first | refine blk_drewN ?_ _ | refine blk_drew ?_ | refine blk_alloc ?_ _));refine blk_put (cs := #[.bool (t154 == 1), .int .u32 0, .bool false, .int .i64 0, .slice none 0 0]) ?_ 1 _ rfl;(with_reducible repeat (first | refine blk_drewN ?_ _ | refine blk_drew ?_ | refine blk_alloc ?_ _));refine blk_put (cs := #[.bool false, .int .u32 0, .bool false, .int .i64 0, .slice none 0 0]) ?_ 0 _ rfl;(with_reducible repeat (first | refine blk_drewN ?_ _ | refine blk_drew ?_ | refine blk_alloc ?_ _));exact BK153.out) Tryd.underlying29 rfl (by kernel_rfl)) rfl ?_
      exact ⟨_,by first | rfl | (simp [errW_none,errW_some] <;> rfl) | (simp [*,errW_none,errW_some] <;> rfl),by (with_reducible repeat (first | apply Kd.R_alloc | apply Kd.R_drewN | apply Kd.R_drew));exact Kd.R_mono (Kd.R_far (p:=⟨gb153,4,none⟩) (Kd.R_far (p:=⟨gb153,3,none⟩) (Kd.R_far (p:=⟨gb153,2,none⟩) (Kd.R_far (p:=⟨gb153,1,none⟩) (Kd.R_far (p:=⟨gb153,0,none⟩) (Kd.R_types HO_167004.out BK153.out (by decide)) (fun _ hk => hk.2) (.bool (t154 == 1))) (fun _ hk => hk.2) (.int .u32 t173)) (fun _ hk => hk.2) (.bool (t157 == 0))) (fun _ hk => hk.2) (.int .i64 x167003_5)) (fun _ hk => hk.2) (.slice Ao46 x167004_2.length co46)) (fun _ hk => trivial),by repeat (first | (with_reducible first | exact HI0.out | apply IsS80.alloc | apply IsS80.drewN | apply IsS80.drew | apply IsS80.set_1 | apply IsS80.set_2 | refine IsS80.far ?_ NB0_153.out _ | refine IsS80.far ?_ NB0_166.out _) | exact HI0.out),by repeat (first | (with_reducible first | exact HB.out | apply below_alloc | apply pw_below_drewN | apply below_drew1 | refine below_set ?_ (IsS80.ge HI0.out) | refine below_set ?_ GE153.out | refine below_set ?_ GE166.out) | exact HB.out),by repeat (first | (with_reducible first | exact HK.out | apply KeepBut.set_ | apply keep_drewN | apply keep_drew | apply keep_alloc | refine keep_far ?_ GW153.out _ | refine keep_far ?_ GW166.out _) | exact HK.out)⟩
end Go.Proofs.YtdoclpgciadjaaaDoor.P
namespace Go.Proofs.YtdoclpgciadjaaaDoor.P
open Go Go.RowKit Go.Proofs.YtdoclpgciadjaaaDoorW.PrintWords Go.Proofs.YtdoclpgciadjaaaDoorW.PrintLast
set_option linter.unusedVariables false
theorem genByte_ex (s0 : List Int) (i s : Int) (hi : 0 ≤ i) (hi2 : i < 1000000000) : ∃ v i' s',spec_l1genByte.f s0 i s = some (v,i',s') ∧ 0 ≤ v ∧ v < 256 ∧ i ≤ i' ∧ i' ≤ i + 2:=by
 unfold spec_l1genByte.f
 obtain ⟨v,s1,e,h1,h2⟩:=n_ex s0 i s 4 hi (by omega) (by omega) (by omega)
 rw [e,Option.bind_some]
 by_cases c : v = 0
 ·rw [if_pos c];exact ⟨_,_,_,rfl,by omega,by omega,by simp only [];omega,by simp only [];omega⟩
 ·rw [if_neg c]
  by_cases c1 : v = 1
  ·rw [if_pos c1];exact ⟨_,_,_,rfl,by omega,by omega,by simp only [];omega,by simp only [];omega⟩
  ·rw [if_neg c1]
   obtain ⟨q,s2,e2,h3,h4⟩:=n_ex s0 (i + 1) s1 256 (by omega) (by omega) (by omega) (by omega)
   simp only []
   rw [e2,Option.bind_some]
   exact ⟨_,_,_,rfl,by simp only [];omega,by simp only [];omega,by simp only [];omega,by simp only [];omega⟩
theorem genId_ex (s0 : List Int) (i s : Int) (e : Bool) (hi : 0 ≤ i) (hi2 : i < 1000000000) : ∃ v i' s',Ev (fun k => spec_l1genId.f k s0 i s e) (v,i',s') ∧ 0 ≤ v ∧ v < (if e = true then 536870912 else 2048) ∧ i ≤ i' ∧ i' ≤ i + 2:=by
 have key : ∀ top : Int,(top = 536870912 ∨ top = 2048) → ∃ v i' s',Ev (fun k => spec_l1genId.j0 k top s0 i s) (v,i',s') ∧ 0 ≤ v ∧ v < top ∧ i ≤ i' ∧ i' ≤ i + 2:=by
  intro top ht
  obtain ⟨v,s1,e1,h1,h2⟩:=n_ex s0 i s 6 hi (by omega) (by omega) (by omega)
  obtain ⟨q,s2,e2,h3,h4⟩:=n_ex s0 (i + 1) s1 8 (by omega) (by omega) (by omega) (by omega)
  obtain ⟨q3,s3,e3,h5,h6⟩:=n_ex s0 (i + 1) s1 64 (by omega) (by omega) (by omega) (by omega)
  obtain ⟨q4,s4,e4,h7,h8⟩:=n_ex s0 (i + 1) s1 top (by omega) (by omega) (by omega) (by omega)
  have hw : wrap64 (top - 1) = top - 1:=w64 (by omega) (by omega)
  have hw2 : wrap64 (top - 1 - q3) = top - 1 - q3:=w64 (by omega) (by omega)
  by_cases c : v = 0
  ·refine ⟨0,i + 1,s1,Ev.step (f:=fun _ => some (0,i + 1,s1)) (fun k => ?_) (Ev.now _),by omega,by omega,by omega,by omega⟩
   simp only [spec_l1genId.j0];rw [e1,Option.bind_some,if_pos c]
  by_cases c1 : v = 1
  ·refine ⟨(top - 1) % 4294967296,i + 1,s1,Ev.step (f:=fun _ => some ((top - 1) % 4294967296,i + 1,s1)) (fun k => ?_) (Ev.now _),by omega,by omega,by omega,by omega⟩
   simp only [spec_l1genId.j0];rw [e1,Option.bind_some,if_neg c,if_pos c1,hw]
  by_cases c2 : v = 2
  ·refine ⟨q % 4294967296,i + 1 + 1,s2,Ev.step (f:=fun _ => some (q % 4294967296,i + 1 + 1,s2)) (fun k => ?_) (Ev.now _),by omega,by omega,by omega,by omega⟩
   simp only [spec_l1genId.j0];rw [e1,Option.bind_some,if_neg c,if_neg c1,if_pos c2,e2,Option.bind_some]
  by_cases c3 : v = 3
  ·refine ⟨(top - 1 - q3) % 4294967296,i + 1 + 1,s3,Ev.step (f:=fun _ => some ((top - 1 - q3) % 4294967296,i + 1 + 1,s3)) (fun k => ?_) (Ev.now _),by omega,by omega,by omega,by omega⟩
   simp only [spec_l1genId.j0];rw [e1,Option.bind_some,if_neg c,if_neg c1,if_neg c2,if_pos c3,e3,Option.bind_some,hw,hw2]
  ·refine ⟨q4 % 4294967296,i + 1 + 1,s4,Ev.step (f:=fun _ => some (q4 % 4294967296,i + 1 + 1,s4)) (fun k => ?_) (Ev.now _),by omega,by omega,by omega,by omega⟩
   simp only [spec_l1genId.j0];rw [e1,Option.bind_some,if_neg c,if_neg c1,if_neg c2,if_neg c3,e4,Option.bind_some]
 unfold spec_l1genId.f
 cases e with
 | true =>
  obtain ⟨v,i',s',h,r⟩:=key 536870912 (.inl rfl)
  exact ⟨v,i',s',ev_pos rfl h,r⟩
 | false =>
  obtain ⟨v,i',s',h,r⟩:=key 2048 (.inr rfl)
  exact ⟨v,i',s',ev_neg (by decide) h,r⟩
structure FrIn (i d : Int) (l : List Int) : Prop where
 id0 : 0 ≤ i
 id1 : i < 4294967296
 d0 : -1 ≤ d
 d1 : d ≤ 16
 bytes : okBytes l = true
 len : l.length ≤ 9
theorem okBytes_snoc {l : List Int} (h : okBytes l = true) (v : Int) (h0 : 0 ≤ v) (h1 : v < 256) : okBytes (l ++ [v]) = true:=by
 unfold okBytes at h ⊢
 rw [List.all_append,h,Bool.true_and,List.all_cons,List.all_nil,Bool.and_true]
 simp
 omega
theorem genFrame_ex (s0 : List Int) (i s : Int) (hi : 0 ≤ i) (hi2 : i < 100000000) : ∃ e id r d l i' s',Ev (fun k => spec_l1genFrame.f k s0 i s) (e,id,r,d,l,i',s') ∧ FrIn id d l ∧ id < vtop e ∧ 0 ≤ d ∧ d ≤ 15 ∧ (l.length : Int) = dataB r d ∧ i ≤ i' ∧ i' ≤ i + 30:=by
 unfold spec_l1genFrame.f
 obtain ⟨v1,s1,e1,h1,g1⟩:=n_ex s0 i s 2 hi (by omega) (by omega) (by omega)
 obtain ⟨v2,s2,e2,h2,g2⟩:=n_ex s0 (i + 1) s1 4 (by omega) (by omega) (by omega) (by omega)
 obtain ⟨v3,s3,e3,h3,g3⟩:=n_ex s0 (i + 1 + 1) s2 9 (by omega) (by omega) (by omega) (by omega)
 obtain ⟨v4,s4,e4,h4,g4⟩:=n_ex s0 (i + 1 + 1 + 1) s3 6 (by omega) (by omega) (by omega) (by omega)
 obtain ⟨v5,s5,e5,h5,g5⟩:=n_ex s0 (i + 1 + 1 + 1 + 1) s4 16 (by omega) (by omega) (by omega) (by omega)
 have loop : ∀ (E : Bool) (id : Int) (r : Bool) (d n : Int),0 ≤ n → n ≤ 8 → ∀ (b j : Nat) (p q : Int) (l : List Int),(j : Int) + b = n → l.length = j → okBytes l = true → 0 ≤ p → p + 2 * b ≤ 900000000 → ∃ l' p' q',Ev (fun k => spec_l1genFrame.l0 k n (j : Int) s0 p q E id r d l) (E,id,r,d,l',p',q') ∧ okBytes l' = true ∧ (l'.length : Int) = n ∧ p ≤ p' ∧ p' ≤ p + 2 * b:=by
  intro E id r d n hn0 hn8 b
  induction b with
  | zero =>
   intro j p q l hj hl hb hp _
   refine ⟨l,p,q,Ev.step (f:=fun _ => some (E,id,r,d,l,p,q)) (fun k => ?_) (Ev.now _),hb,by omega,by omega,by omega⟩
   simp only [spec_l1genFrame.l0];rw [if_neg (by omega)]
  | succ b ih =>
   intro j p q l hj hl hb hp hp2
   obtain ⟨v,p1,q1,e,k1,k2,k3,k4⟩:=genByte_ex s0 p q hp (by omega)
   obtain ⟨l',p',q',hE,r1,r2,r3,r4⟩:=ih (j + 1) p1 q1 (l ++ [v]) (by omega) (by simp [hl]) (okBytes_snoc hb v k1 k2) (by omega) (by omega)
   refine ⟨l',p',q',Ev.step (f:=fun k => spec_l1genFrame.l0 k n ((j + 1 : Nat) : Int) s0 p1 q1 E id r d (l ++ [v])) (fun k => ?_) hE,r1,r2,by omega,by omega⟩
   simp only [spec_l1genFrame.l0];rw [if_pos (by omega),e,Option.bind_some,if_pos (by omega),w64 (by omega) (by omega)]
   rfl
 have rest : ∀ (E r : Bool) (d p q : Int),0 ≤ d → d ≤ 15 → 0 ≤ p → p ≤ 800000000 → ∃ id l i' s',Ev (fun k => spec_l1genFrame.j0 k s0 p q E 0 r d []) (E,id,r,d,l,i',s') ∧ FrIn id d l ∧ id < vtop E ∧ (l.length : Int) = dataB r d ∧ p ≤ i' ∧ i' ≤ p + 20:=by
  intro E r d p q hd0 hd1 hp hp2
  obtain ⟨id,p1,q1,hE,k1,k2,k3,k4⟩:=genId_ex s0 p q E hp (by omega)
  have hdl : spec_l1dataLen.f E id r d [] = some (dataB r d):=by
   by_cases c : 8 < d
   ·cases r <;> simp [spec_l1dataLen.f,dataB,c]
   ·cases r <;> simp [spec_l1dataLen.f,dataB,c]
  have hb8 : 0 ≤ dataB r d ∧ dataB r d ≤ 8:=by unfold dataB;split <;> (try split) <;> omega
  obtain ⟨l',p',q',hL,r1,r2,r3,r4⟩:=loop E id r d (dataB r d) hb8.1 hb8.2 (dataB r d).toNat 0 p1 q1 [] (by omega) rfl rfl (by omega) (by omega)
  refine ⟨id,l',p',q',Ev.step (f:=fun k => (spec_l1genId.f k s0 p q E).bind fun bt298 => ((spec_l1dataLen.f E bt298.1 r d []).bind fun t301 => (spec_l1genFrame.l0 k t301 0 s0 bt298.2.1 bt298.2.2 E bt298.1 r d []))) (fun k => ?_) (Ev.bind hE (ev_some hdl hL)),⟨k1, ?_,by omega,by omega,r1,by omega⟩,k2,r2,by omega,by omega⟩
  ·simp only [spec_l1genFrame.j0]
  ·cases E <;> simp at k2 <;> omega
 by_cases c : v4 = 0
 ·obtain ⟨id,l,i',s',hE,hf,hv,hl,r3,r4⟩:=rest (v1 == 1) (v2 == 0) v5 (i + 1 + 1 + 1 + 1 + 1) s5 h5 (by omega) (by omega) (by omega)
  exact ⟨_,id,_,_,l,i',s',ev_some e1 (ev_some e2 (ev_some e3 (ev_some rfl (ev_some e4 (ev_pos c (ev_some e5 hE)))))),hf,hv,h5,by omega,hl,by omega,by omega⟩
 ·obtain ⟨id,l,i',s',hE,hf,hv,hl,r3,r4⟩:=rest (v1 == 1) (v2 == 0) v3 (i + 1 + 1 + 1 + 1) s4 h3 (by omega) (by omega) (by omega)
  exact ⟨_,id,_,_,l,i',s',ev_some e1 (ev_some e2 (ev_some e3 (ev_some rfl (ev_some e4 (ev_neg c hE))))),hf,hv,h3,by omega,hl,by omega,by omega⟩
end Go.Proofs.YtdoclpgciadjaaaDoor.P
namespace Go.Proofs.YtdoclpgciadjaaaDoor.P
open Go.RowKit Go.Proofs.YtdoclpgciadjaaaDoorW.PrintWords Go.Proofs.YtdoclpgciadjaaaDoorW.PrintLast Go.Proofs.YtdoclpgciadjaaaDoorW.PrintMore
set_option linter.unusedVariables false
set_option linter.unusedSimpArgs false
mutual
def spec_ValidFrame.j0 : Nat → Bool → Bool → Int → Bool → Int → List Int → Option (Bool)
 | 0,_,_,_,_,_,_ => none
 | k + 1,x9,x206000,x206001,x206002,x206003,x206004 => if x9 = true then (some false) else (if x206000 = true then (spec_ValidFrame.j1 k false x206000 x206001 x206002 x206003 x206004) else (spec_ValidFrame.j1 k (decide (x206001 ≥ 2048)) x206000 x206001 x206002 x206003 x206004))
def spec_ValidFrame.j1 : Nat → Bool → Bool → Int → Bool → Int → List Int → Option (Bool)
 | 0,_,_,_,_,_,_ => none
 | k + 1,x17,x206000,x206001,x206002,x206003,x206004 => if x17 = true then (some false) else (if x206003 < 0 then (some false) else (if x206003 > 15 then (some false) else ((spec_l1dataLen.f x206000 x206001 x206002 x206003 x206004).bind fun t206 => (some ((x206004.length : Int) == t206)))))
end
def spec_ValidFrame.f (k : Nat) (a0_0 : Bool) (a0_1 : Int) (a0_2 : Bool) (a0_3 : Int) (l0_4 : List Int) : Option (Bool):=if a0_0 = true then (spec_ValidFrame.j0 k (decide (a0_1 ≥ 536870912)) a0_0 a0_1 a0_2 a0_3 l0_4) else (spec_ValidFrame.j0 k false a0_0 a0_1 a0_2 a0_3 l0_4)
set_option maxHeartbeats 8000000 in
set_option maxRecDepth 100000 in
theorem spec_ValidFrame.calls (k : Nat) (a0_0 : Bool) (a0_1 : Int) (a0_2 : Bool) (a0_3 : Int) (A0_4 : Option Addr) (c0_4 : Nat) (l0_4 : List Int) (r : Bool) (w : World) (hr0_4 : Kd.C (Kd.int .u8) w A0_4 l0_4.length l0_4) (hc0_4 : l0_4.length ≤ c0_4) (h : spec_ValidFrame.f k a0_0 a0_1 a0_2 a0_3 l0_4 = some r) :
  Calls Tryd.prog 73 #[.agg #[.bool a0_0, .int .u32 a0_1, .bool a0_2, .int .i64 a0_3, .slice A0_4 l0_4.length c0_4]] w fun e w' => e = .returned (.bool r) ∧ Below w.heap.size w w':=by
 have hu29:=Tryd.underlying29
 have HR0_4:=Aside0.mk hr0_4
 have HC0_4:=Aside0.mk hc0_4
 clear hr0_4 hc0_4
 have HB:=Aside0.mk (Below.refl w.heap.size w)
 have H : (if a0_0 = true then (spec_ValidFrame.j0 k (decide (a0_1 ≥ 536870912)) a0_0 a0_1 a0_2 a0_3 l0_4) else (spec_ValidFrame.j0 k false a0_0 a0_1 a0_2 a0_3 l0_4)) = some r:=h
 clear h
 have HC2:=Aside0.mk H
 clear H
 go_enter Tryd.func73,Tryd.ntmps73
 go_upto_region 1 with (first | ((with_reducible refine gate_dst (N:=1) rfl ?_);refine box_event ?hg (N:=1) ?hd (cs := #[.bool a0_0, .int .u32 a0_1, .bool a0_2, .int .i64 a0_3, .slice A0_4 l0_4.length c0_4]) (t:=29) ?hr ?_;(case hd => rfl);(case hg => rfl);(case hr => first | (go_simp;done) | (go_simp;rfl));intro gb205 hg w3 hbox hb;have n0_:=Aside0.mk (below_step (by repeat (first | (with_reducible first | exact HB.out | apply below_alloc | apply pw_below_drewN | apply below_drew1) | exact HB.out)) hb);have n1_:=Aside0.mk (hbox);have n2_:=Aside0.mk ((by rw [hg];exact (below_size (by repeat (first | (with_reducible first | exact HB.out | apply below_alloc | apply pw_below_drewN | apply below_drew1) | exact HB.out))) : w.heap.size ≤ gb205));have n3_:=Aside0.mk ((by rw [hg];exact (below_size (by repeat (first | (with_reducible first | exact HB.out | apply below_alloc | apply pw_below_drewN | apply below_drew1) | exact HB.out))) : w.heap.size ≤ gb205));clear HB;have HB:=n0_;have BK205:=n1_;have GW205:=n2_;have GE205:=n3_;clear n0_ n1_ n2_ n3_;clear hb hbox hg))
 (try simp only [Act.put,List.setIfInBounds_toArray,List.set_cons_zero,List.set_cons_succ])
 go_cut [9] (fun v9 wc => ∃ (kq : Nat) (x9_1 : Bool),v9 = .bool x9_1 ∧ Aside0 (spec_ValidFrame.j0 kq x9_1 a0_0 a0_1 a0_2 a0_3 l0_4 = some r) ∧ Aside0 (kq ≤ k) ∧ Aside0 (wc.heap[gb205]? = some (.cells #[.bool a0_0, .int .u32 a0_1, .bool a0_2, .int .i64 a0_3,(.slice A0_4 l0_4.length c0_4)] 29 (0,0))) ∧ Aside0 (Below w.heap.size w wc))
 case first =>
  have H:=HC2.out
  clear HC2
  by_cases c4 : a0_0 = true
  ·subst c4
   have H1 : (spec_ValidFrame.j0 k (decide (a0_1 ≥ 536870912)) true a0_1 a0_2 a0_3 l0_4) = some r:=by rw [if_pos rfl] at H;exact H
   clear H
   have H:=H1
   clear H1
   have H':=Aside0.mk H
   clear H
   obtain ⟨hcz5_0,hcz5_1,hcz5_2,hcz5_3,hcz5_4⟩:=bc5 BK205.out
   obtain ⟨hfz5_0,hfz5_1,hfz5_2,hfz5_3,hfz5_4⟩:=bf5 BK205.out
   go_wp2
   go_meet
   case rel => exact ⟨_,(decide (a0_1 ≥ 536870912)),(by first | rfl | (simp;done) | (simp [*];done)),H',⟨by first | omega | exact Nat.le_refl _⟩,⟨by (with_reducible repeat (first | refine blk_drewN ?_ _ | refine blk_drew ?_ | refine blk_alloc ?_ _));exact BK205.out⟩,⟨by repeat (first | (with_reducible first | exact HB.out | apply below_alloc | apply pw_below_drewN | apply below_drew1 | refine below_set ?_ GE205.out) | exact HB.out)⟩⟩
  ·replace c4:=Bool.eq_false_iff.mpr c4
   subst c4
   have H1 : (spec_ValidFrame.j0 k false false a0_1 a0_2 a0_3 l0_4) = some r:=by rw [if_neg (show ¬ (false = true) by decide)] at H;exact H
   clear H
   have H:=H1
   clear H1
   have H':=Aside0.mk H
   clear H
   obtain ⟨hcz6_0,hcz6_1,hcz6_2,hcz6_3,hcz6_4⟩:=bc5 BK205.out
   obtain ⟨hfz6_0,hfz6_1,hfz6_2,hfz6_3,hfz6_4⟩:=bf5 BK205.out
   go_wp2
   go_meet
   case rel => exact ⟨_,(false),(by first | rfl | (simp;done) | (simp [*];done)),H',⟨by first | omega | exact Nat.le_refl _⟩,⟨by (with_reducible repeat (first | refine blk_drewN ?_ _ | refine blk_drew ?_ | refine blk_alloc ?_ _));exact BK205.out⟩,⟨by repeat (first | (with_reducible first | exact HB.out | apply below_alloc | apply pw_below_drewN | apply below_drew1 | refine below_set ?_ GE205.out) | exact HB.out)⟩⟩
 case rest =>
  clear HC2
  try clear p2
  try clear c4
  try clear hcz5_0
  try clear hcz5_1
  try clear hcz5_2
  try clear hcz5_3
  try clear hcz5_4
  try clear hcz6_0
  try clear hcz6_1
  try clear hcz6_2
  try clear hcz6_3
  try clear hcz6_4
  try clear hfz5_0
  try clear hfz5_1
  try clear hfz5_2
  try clear hfz5_3
  try clear hfz5_4
  try clear hfz6_0
  try clear hfz6_1
  try clear hfz6_2
  try clear hfz6_3
  try clear hfz6_4
  obtain ⟨kq,x9_1,rfl,HA,HJ1,BK205,HB⟩:=hcut
  cases kq with
  | zero => exact absurd HA.out (by simp [spec_ValidFrame.j0])
  | succ kj1 =>
   have H:=HA.out
   clear HA
   simp only [spec_ValidFrame.j0] at H
   by_cases c7 : x9_1 = true
   ·subst c7
    have H1 : (some false) = some r:=by rw [if_pos rfl] at H;exact H
    clear H
    have H:=H1
    clear H1
    obtain rfl:=Option.some.inj H
    go_wp2
    go_ret
    exact ⟨by first | rfl | (simp [errW_none,errW_some] <;> rfl) | (simp [*,errW_none,errW_some] <;> rfl),by repeat (first | (with_reducible first | exact HB.out | apply below_alloc | apply pw_below_drewN | apply below_drew1 | refine below_set ?_ GE205.out) | exact HB.out)⟩
   ·replace c7:=Bool.eq_false_iff.mpr c7
    subst c7
    have H1 : (if a0_0 = true then (spec_ValidFrame.j1 kj1 false a0_0 a0_1 a0_2 a0_3 l0_4) else (spec_ValidFrame.j1 kj1 (decide (a0_1 ≥ 2048)) a0_0 a0_1 a0_2 a0_3 l0_4)) = some r:=by rw [if_neg (show ¬ (false = true) by decide)] at H;exact H
    clear H
    have H:=H1
    clear H1
    have HC8:=Aside0.mk H
    clear H
    go_upto_region 3 with (fail)
    go_cut [17] (fun v17 wc => ∃ (kq : Nat) (x17_7 : Bool),v17 = .bool x17_7 ∧ Aside0 (spec_ValidFrame.j1 kq x17_7 a0_0 a0_1 a0_2 a0_3 l0_4 = some r) ∧ Aside0 (kq ≤ kj1) ∧ Aside0 (wc.heap[gb205]? = some (.cells #[.bool a0_0, .int .u32 a0_1, .bool a0_2, .int .i64 a0_3,(.slice A0_4 l0_4.length c0_4)] 29 (0,0))) ∧ Aside0 (Below w.heap.size w wc))
    case first =>
     have H:=HC8.out
     clear HC8
     by_cases c9 : a0_0 = true
     ·subst c9
      have H1 : (spec_ValidFrame.j1 kj1 false true a0_1 a0_2 a0_3 l0_4) = some r:=by rw [if_pos rfl] at H;exact H
      clear H
      have H:=H1
      clear H1
      have H':=Aside0.mk H
      clear H
      obtain ⟨hcz10_0,hcz10_1,hcz10_2,hcz10_3,hcz10_4⟩:=bc5 BK205.out
      obtain ⟨hfz10_0,hfz10_1,hfz10_2,hfz10_3,hfz10_4⟩:=bf5 BK205.out
      go_wp2
      go_meet
      case rel => exact ⟨_,(false),(by first | rfl | (simp;done) | (simp [*];done)),H',⟨by have:=HJ1.out;first | omega | exact Nat.le_refl _⟩,⟨by (with_reducible repeat (first | refine blk_drewN ?_ _ | refine blk_drew ?_ | refine blk_alloc ?_ _));exact BK205.out⟩,⟨by repeat (first | (with_reducible first | exact HB.out | apply below_alloc | apply pw_below_drewN | apply below_drew1 | refine below_set ?_ GE205.out) | exact HB.out)⟩⟩
     ·replace c9:=Bool.eq_false_iff.mpr c9
      subst c9
      have H1 : (spec_ValidFrame.j1 kj1 (decide (a0_1 ≥ 2048)) false a0_1 a0_2 a0_3 l0_4) = some r:=by rw [if_neg (show ¬ (false = true) by decide)] at H;exact H
      clear H
      have H:=H1
      clear H1
      have H':=Aside0.mk H
      clear H
      obtain ⟨hcz11_0,hcz11_1,hcz11_2,hcz11_3,hcz11_4⟩:=bc5 BK205.out
      obtain ⟨hfz11_0,hfz11_1,hfz11_2,hfz11_3,hfz11_4⟩:=bf5 BK205.out
      go_wp2
      go_meet
      case rel => exact ⟨_,(decide (a0_1 ≥ 2048)),(by first | rfl | (simp;done) | (simp [*];done)),H',⟨by have:=HJ1.out;first | omega | exact Nat.le_refl _⟩,⟨by (with_reducible repeat (first | refine blk_drewN ?_ _ | refine blk_drew ?_ | refine blk_alloc ?_ _));exact BK205.out⟩,⟨by repeat (first | (with_reducible first | exact HB.out | apply below_alloc | apply pw_below_drewN | apply below_drew1 | refine below_set ?_ GE205.out) | exact HB.out)⟩⟩
    case rest =>
     clear HC8
     try clear p2
     try clear c4
     try clear c7
     try clear c9
     try clear hcz10_0
     try clear hcz10_1
     try clear hcz10_2
     try clear hcz10_3
     try clear hcz10_4
     try clear hcz11_0
     try clear hcz11_1
     try clear hcz11_2
     try clear hcz11_3
     try clear hcz11_4
     try clear hcz5_0
     try clear hcz5_1
     try clear hcz5_2
     try clear hcz5_3
     try clear hcz5_4
     try clear hcz6_0
     try clear hcz6_1
     try clear hcz6_2
     try clear hcz6_3
     try clear hcz6_4
     try clear hfz10_0
     try clear hfz10_1
     try clear hfz10_2
     try clear hfz10_3
     try clear hfz10_4
     try clear hfz11_0
     try clear hfz11_1
     try clear hfz11_2
     try clear hfz11_3
     try clear hfz11_4
     try clear hfz5_0
     try clear hfz5_1
     try clear hfz5_2
     try clear hfz5_3
     try clear hfz5_4
     try clear hfz6_0
     try clear hfz6_1
     try clear hfz6_2
     try clear hfz6_3
     try clear hfz6_4
     try clear p2
     obtain ⟨kq,x17_7,rfl,HA,HJ7,BK205,HB⟩:=hcut
     cases kq with
     | zero => exact absurd HA.out (by simp [spec_ValidFrame.j1])
     | succ kj7 =>
      have H:=HA.out
      clear HA
      simp only [spec_ValidFrame.j1] at H
      by_cases c12 : x17_7 = true
      ·subst c12
       have H1 : (some false) = some r:=by rw [if_pos rfl] at H;exact H
       clear H
       have H:=H1
       clear H1
       obtain rfl:=Option.some.inj H
       go_wp2
       go_ret
       exact ⟨by first | rfl | (simp [errW_none,errW_some] <;> rfl) | (simp [*,errW_none,errW_some] <;> rfl),by repeat (first | (with_reducible first | exact HB.out | apply below_alloc | apply pw_below_drewN | apply below_drew1 | refine below_set ?_ GE205.out) | exact HB.out)⟩
      ·replace c12:=Bool.eq_false_iff.mpr c12
       subst c12
       have H1 : (if a0_3 < 0 then (some false) else (if a0_3 > 15 then (some false) else ((spec_l1dataLen.f a0_0 a0_1 a0_2 a0_3 l0_4).bind fun t206 => (some ((l0_4.length : Int) == t206))))) = some r:=by rw [if_neg (show ¬ (false = true) by decide)] at H;exact H
       clear H
       have H:=H1
       clear H1
       by_cases c13 : a0_3 < 0
       ·rw [if_pos c13] at H
        have c13b0 : decide (a0_3 < 0) = true:=decide_eq_true c13
        clear c13
        obtain rfl:=Option.some.inj H
        obtain ⟨hcz14_0,hcz14_1,hcz14_2,hcz14_3,hcz14_4⟩:=bc5 BK205.out
        obtain ⟨hfz14_0,hfz14_1,hfz14_2,hfz14_3,hfz14_4⟩:=bf5 BK205.out
        go_wp2
        go_ret
        exact ⟨by first | rfl | (simp [errW_none,errW_some] <;> rfl) | (simp [*,errW_none,errW_some] <;> rfl),by repeat (first | (with_reducible first | exact HB.out | apply below_alloc | apply pw_below_drewN | apply below_drew1 | refine below_set ?_ GE205.out) | exact HB.out)⟩
       ·rw [if_neg c13] at H
        have c13b0 : decide (a0_3 < 0) = false:=decide_eq_false c13
        clear c13
        by_cases c15 : a0_3 > 15
        ·rw [if_pos c15] at H
         have c15b0 : decide (15 < a0_3) = true:=decide_eq_true c15
         clear c15
         obtain rfl:=Option.some.inj H
         obtain ⟨hcz16_0,hcz16_1,hcz16_2,hcz16_3,hcz16_4⟩:=bc5 BK205.out
         obtain ⟨hfz16_0,hfz16_1,hfz16_2,hfz16_3,hfz16_4⟩:=bf5 BK205.out
         go_wp2
         go_ret
         exact ⟨by first | rfl | (simp [errW_none,errW_some] <;> rfl) | (simp [*,errW_none,errW_some] <;> rfl),by repeat (first | (with_reducible first | exact HB.out | apply below_alloc | apply pw_below_drewN | apply below_drew1 | refine below_set ?_ GE205.out) | exact HB.out)⟩
        ·rw [if_neg c15] at H
         have c15b0 : decide (15 < a0_3) = false:=decide_eq_false c15
         clear c15
         replace H:=Option.bind_eq_some_iff.mp H
         obtain ⟨t206,A170,H⟩:=H
         replace H : (some ((l0_4.length : Int) == t206)) = some r:=H
         have A17:=Aside0.mk A170
         clear A170
         obtain rfl:=Option.some.inj H
         obtain ⟨hcz18_0,hcz18_1,hcz18_2,hcz18_3,hcz18_4⟩:=bc5 BK205.out
         obtain ⟨hfz18_0,hfz18_1,hfz18_2,hfz18_3,hfz18_4⟩:=bf5 BK205.out
         try go_wp2
         have n0_:=Aside0.mk (blk_drew BK205.out)
         have n1_:=Aside0.mk (below_drew1 HB.out)
         clear BK205
         clear HB
         have BK205:=n0_
         have HB:=n1_
         clear n0_ n1_
         refine start_ (n:=7) (S:=fun w' => w'.cell? ⟨gb205,0,none⟩ = some (.bool a0_0) ∧ w'.cell? ⟨gb205,1,none⟩ = some (.int .u32 a0_1) ∧ w'.cell? ⟨gb205,2,none⟩ = some (.bool a0_2) ∧ w'.cell? ⟨gb205,3,none⟩ = some (.int .i64 a0_3) ∧ w'.cell? ⟨gb205,4,none⟩ = some (.slice A0_4 l0_4.length c0_4)) (ds := []) #[false,false,false,false,false,false,false] (by kernel_rfl) rfl rfl ⟨(blk_cell BK205.out 0).trans rfl,(blk_cell BK205.out 1).trans rfl,(blk_cell BK205.out 2).trans rfl,(blk_cell BK205.out 3).trans rfl,(blk_cell BK205.out 4).trans rfl⟩ (fun hHeld => ?_)
         generalize wc.drew = w19 at BK205 HB hHeld ⊢
         refine pure_ (i:=0) (N:=some 26) (v := ?_) (a' := ?_) #[true,false,false,false,false,false,false] rfl rfl (by kernel_rfl) (fun _ _ _ h => h) (Or.inl ⟨by rfl, ?_⟩) ?_ ?_
         rotate_left
         ·intro w'
          go_simp
          with_reducible rfl
         rotate_left
         ·simp only [Act.put,List.setIfInBounds_toArray,List.set_cons_zero,List.set_cons_succ,i64_w,i32_w]
          rfl
         refine take_ (i:=1) (N:=some 27) (v := ?_) (a' := ?_) #[true,true,false,false,false,false,false] rfl rfl (by kernel_rfl) (fun _ _ _ h => h) (Or.inl ⟨by rfl, ?_⟩) hHeld ?_ ?_
         rotate_left
         ·rintro w' ⟨s0,s1,s2,s3,s4⟩
          go_simp
          with_reducible rfl
         rotate_left
         ·simp only [Act.put,List.setIfInBounds_toArray,List.set_cons_zero,List.set_cons_succ,i64_w,i32_w]
          rfl
         refine pure_ (i:=2) (N:=some 28) (v := ?_) (a' := ?_) #[true,true,true,false,false,false,false] rfl rfl (by kernel_rfl) (fun _ _ _ h => h) (Or.inl ⟨by rfl, ?_⟩) ?_ ?_
         rotate_left
         ·intro w'
          go_simp
          with_reducible rfl
         rotate_left
         ·simp only [Act.put,List.setIfInBounds_toArray,List.set_cons_zero,List.set_cons_succ,i64_w,i32_w]
          rfl
         refine take_ (i:=3) (N:=some 29) (v := ?_) (a' := ?_) #[true,true,true,true,false,false,false] rfl rfl (by kernel_rfl) (fun _ _ _ h => h) (Or.inl ⟨by rfl, ?_⟩) hHeld ?_ ?_
         rotate_left
         ·rintro w' ⟨s0,s1,s2,s3,s4⟩
          go_simp
          with_reducible rfl
         rotate_left
         ·simp only [Act.put,List.setIfInBounds_toArray,List.set_cons_zero,List.set_cons_succ,i64_w,i32_w]
          rfl
         refine one_ (i:=4) (N:=some 30) #[true,true,true,true,true,false,false] rfl rfl (by kernel_rfl) (by decide) (fun K hK => ?_)
         refine goes_ Tryd.func71 (by kernel_rfl) rfl #[.agg #[.bool a0_0, .int .u32 a0_1, .bool a0_2, .int .i64 a0_3, .slice A0_4 l0_4.length c0_4]] (by rfl) rfl rfl (by (try simp only [List.map_toArray,List.map_cons,List.map_nil]);first | done | rfl | (simp only [List.length_drop,List.length_take];rfl)) ?_
         with_reducible refine (spec_l1dataLen.calls a0_0 a0_1 a0_2 a0_3 _ _ l0_4 t206 _ ?side1 ?side2 A17.out).mono ?_
         (case side1 => repeat (first | exact (Kd.C_below HR0_4.out HB.out) | (with_reducible refine Kd.C_alloc ?_ _) | (with_reducible refine Kd.C_drewN ?_ _) | (with_reducible refine Kd.C_drew ?_)))
         (case side2 => exact HC0_4.out)
         rintro e w20 ⟨rfl,hb⟩
         refine ⟨_,rfl, ?_⟩
         have n0_:=Aside0.mk (blk_below (g:=gb205) (o := .cells #[.bool a0_0, .int .u32 a0_1, .bool a0_2, .int .i64 a0_3, .slice A0_4 l0_4.length c0_4] 29 (0,0)) (by (with_reducible repeat (first | refine blk_drewN ?_ _ | refine blk_drew ?_ | refine blk_alloc ?_ _));exact BK205.out) hb)
         have n1_:=Aside0.mk (below_step (by repeat (first | (with_reducible first | exact HB.out | apply below_alloc | apply pw_below_drewN | apply below_drew1 | refine below_set ?_ GE205.out) | exact HB.out)) hb)
         clear BK205
         clear HB
         have BK205:=n0_
         have HB:=n1_
         clear n0_ n1_
         (try clear hb)
         (try clear hb2)
         (try clear hk)
         (try clear hi)
         refine hK.out _ _ ⟨(blk_cell BK205.out 0).trans rfl,(blk_cell BK205.out 1).trans rfl,(blk_cell BK205.out 2).trans rfl,(blk_cell BK205.out 3).trans rfl,(blk_cell BK205.out 4).trans rfl⟩ (fun hHeld => ?_)
         clear hK K
         refine norm_ (a' := ?_) ?_ ?_
         rotate_left
         ·show Act.put _ (some 30) _ = _
          simp only [Act.put,List.setIfInBounds_toArray,List.set_cons_zero,List.set_cons_succ,i64_w,i32_w]
          rfl
         refine pure_ (i:=5) (N:=some 31) (v := ?_) (a' := ?_) #[true,true,true,true,true,true,false] rfl rfl (by kernel_rfl) (fun _ _ _ h => h) (Or.inl ⟨by rfl, ?_⟩) ?_ ?_
         rotate_left
         ·intro w'
          go_simp
          with_reducible rfl
         rotate_left
         ·simp only [Act.put,List.setIfInBounds_toArray,List.set_cons_zero,List.set_cons_succ,i64_w,i32_w]
          rfl
         refine pure_ (i:=6) (N:=some 2) (v := ?_) (a' := ?_) #[true,true,true,true,true,true,true] rfl rfl (by kernel_rfl) (fun _ _ _ h => h) (Or.inl ⟨by rfl, ?_⟩) ?_ ?_
         rotate_left
         ·intro w'
          go_simp
          with_reducible rfl
         rotate_left
         ·simp only [Act.put,List.setIfInBounds_toArray,List.set_cons_zero,List.set_cons_succ,i64_w,i32_w]
          rfl
         refine done_ (by kernel_rfl) ?_
         try go_wp2
         go_ret
         exact ⟨by first | rfl | (simp [errW_none,errW_some] <;> rfl) | (simp [*,errW_none,errW_some] <;> rfl),by repeat (first | (with_reducible first | exact HB.out | apply below_alloc | apply pw_below_drewN | apply below_drew1 | refine below_set ?_ GE205.out) | exact HB.out)⟩
end Go.Proofs.YtdoclpgciadjaaaDoor.P
namespace Go.Proofs.YtdoclpgciadjaaaDoor.P
open Go Go.RowKit Go.Proofs.YtdoclpgciadjaaaDoorW.PrintWords
set_option linter.unusedVariables false
theorem specValid_ev (e : Bool) (i : Int) (r : Bool) (d : Int) (l : List Int) : Ev (fun k => spec_ValidFrame.f k e i r d l) (validF e i r d l.length):=by
 have hd : ∀ a b c,spec_l1dataLen.f a b r c l = some (dataB r c):=by
  intro a b c
  unfold spec_l1dataLen.f dataB
  cases r
  ·rw [if_neg (show ¬ (false = true) by decide),if_neg (show ¬ (false = true) by decide)]
   by_cases h : c > 8
   ·rw [if_pos h,if_pos (show 8 < c from h)]
   ·rw [if_neg h,if_neg (show ¬ 8 < c from h)]
  ·rfl
 have h1 : ∀ b,Ev (fun k => spec_ValidFrame.j1 k b e i r d l) (!b && (decide (0 ≤ d) && (decide (d ≤ 15) && ((l.length : Int) == dataB r d)))):=by
  intro b
  refine Ev.step (f:=fun _ => some (!b && (decide (0 ≤ d) && (decide (d ≤ 15) && ((l.length : Int) == dataB r d))))) (fun k => ?_) (Ev.now _)
  simp only [spec_ValidFrame.j1]
  cases b
  ·rw [if_neg (by decide)]
   by_cases c1 : d < 0
   ·rw [if_pos c1,decide_eq_false (by omega)];rfl
   ·rw [if_neg c1,decide_eq_true (show 0 ≤ d by omega)]
    by_cases c2 : d > 15
    ·rw [if_pos c2,decide_eq_false (by omega)];rfl
    ·rw [if_neg c2,decide_eq_true (show d ≤ 15 by omega),hd,Option.bind_some];simp
  ·rfl
 have h0 : ∀ b,Ev (fun k => spec_ValidFrame.j0 k b e i r d l) (!b && ((e || decide (i < 2048)) && (decide (0 ≤ d) && (decide (d ≤ 15) && ((l.length : Int) == dataB r d))))):=by
  intro b
  cases b
  ·cases e
   ·refine Ev.step (fun k => ?_) (g:=fun k => spec_ValidFrame.j0 k false false i r d l) (f:=fun k => spec_ValidFrame.j1 k (decide (i ≥ 2048)) false i r d l) ?_
    ·simp only [spec_ValidFrame.j0]
     rw [if_neg (by decide),if_neg (by decide)]
    ·have:=h1 (decide (i ≥ 2048))
     have e1 : (!decide (i ≥ 2048)) = decide (i < 2048):=by
      by_cases c : i < 2048
      ·rw [decide_eq_true c,decide_eq_false (by omega)];rfl
      ·rw [decide_eq_false c,decide_eq_true (by omega)];rfl
     rw [e1] at this
     exact this
   ·refine Ev.step (fun k => ?_) (g:=fun k => spec_ValidFrame.j0 k false true i r d l) (f:=fun k => spec_ValidFrame.j1 k false true i r d l) (h1 false)
    simp only [spec_ValidFrame.j0]
    rw [if_neg (by decide),if_pos trivial]
  ·refine Ev.step (f:=fun _ => some false) (fun k => ?_) (Ev.now _)
   simp only [spec_ValidFrame.j0]
   rfl
 cases e
 ·refine Ev.congr (f:=fun k => spec_ValidFrame.j0 k false false i r d l) (fun k => ?_) (h0 false)
  unfold spec_ValidFrame.f
  rw [if_neg (by decide)]
 ·refine Ev.congr (f:=fun k => spec_ValidFrame.j0 k (decide (i ≥ 536870912)) true i r d l) (fun k => ?_) ?_
  ·unfold spec_ValidFrame.f
   rw [if_pos rfl]
  ·have:=h0 (decide (i ≥ 536870912))
   have e1 : (!decide (i ≥ 536870912)) = decide (i < 536870912):=by
    by_cases c : i < 536870912
    ·rw [decide_eq_true c,decide_eq_false (by omega)];rfl
    ·rw [decide_eq_false c,decide_eq_true (by omega)];rfl
   rw [e1,Bool.true_or,Bool.true_and] at this
   exact this
end Go.Proofs.YtdoclpgciadjaaaDoor.P
namespace Go.Proofs.YtdoclpgciadjaaaDoor.P
open Go.RowKit Go.Proofs.YtdoclpgciadjaaaDoorW.PrintWords Go.Proofs.YtdoclpgciadjaaaDoorW.PrintLast Go.Proofs.YtdoclpgciadjaaaDoorW.PrintMore
set_option linter.unusedVariables false
set_option linter.unusedSimpArgs false
def spec_Stuff.l0 : Nat → ByteArray → List Int → Int → Option (ByteArray)
 | 0,_,_,_ => none
 | k + 1,x0,x3,x4 => if x4 < (x0.size : Int) then (if 0 ≤ x4 then (if x3.length < 140737488355328 then ((some (x3 ++ [bt x0 x4] : List Int)).bind fun y195 => ((spec_l1due.f y195 (y195.length : Int)).bind fun t198 => (if t198 = true then ((spec_l1other.f (bt x0 x4)).bind fun t199 => (if y195.length < 140737488355328 then (spec_Stuff.l0 k x0 (y195 ++ [t199]) (wrap64 (x4 + 1))) else (none))) else (spec_Stuff.l0 k x0 y195 (wrap64 (x4 + 1)))))) else (none)) else (none)) else (some (strOfNums x3))
def spec_Stuff.f (k : Nat) (a0 : ByteArray) : Option (ByteArray):=(spec_l1okBits.f k a0 2000).bind fun t191 => (if t191 = true then (spec_Stuff.l0 k a0 (([] : List Int)) 0) else (some (⟨#[]⟩ : ByteArray)))
set_option maxHeartbeats 8000000 in
set_option maxRecDepth 100000 in
theorem spec_Stuff.calls (k : Nat) (a0 : ByteArray) (r : ByteArray) (w : World) (h : spec_Stuff.f k a0 = some r) :
  Calls Tryd.prog 57 #[.string a0] w fun e w' => e = .returned (.string r) ∧ Below w.heap.size w w':=by
 have HB:=Aside0.mk (Below.refl w.heap.size w)
 have H : ((spec_l1okBits.f k a0 2000).bind fun t191 => (if t191 = true then (spec_Stuff.l0 k a0 (([] : List Int)) 0) else (some (⟨#[]⟩ : ByteArray)))) = some r:=h
 clear h
 replace H:=Option.bind_eq_some_iff.mp H
 obtain ⟨t191,A20,H⟩:=H
 replace H : (if t191 = true then (spec_Stuff.l0 k a0 (([] : List Int)) 0) else (some (⟨#[]⟩ : ByteArray))) = some r:=H
 have A2:=Aside0.mk A20
 clear A20
 by_cases c3 : t191 = true
 ·subst c3
  have H1 : (spec_Stuff.l0 k a0 (([] : List Int)) 0) = some r:=by rw [if_pos rfl] at H;exact H
  clear H
  have H:=H1
  clear H1
  obtain ⟨y192,hy192⟩ : ∃ y_ : List Int,y_ = (([] : List Int)):=⟨_,rfl⟩
  replace H : (spec_Stuff.l0 k a0 y192 0) = some r:=by first | (rw [hy192];with_reducible exact H) | (have H2_:=(Option.bind_some _ _).symm.trans H;rw [hy192];with_reducible exact H2_) | (have H2_:=(Option.bind_some _ _).symm.trans H;with_reducible exact H2_) | with_reducible exact H | (rw [hy192];exact H) | exact H
  have Ny192:=Aside0.mk hy192
  clear hy192
  have H':=Aside0.mk H
  clear H
  go_enter Tryd.func57,Tryd.ntmps57
  go_wp2_with (first | ((with_reducible refine gate_callee (f:=64) rfl ?_);refine goesL_ (some 6) rfl rfl Tryd.func64 (by kernel_rfl) rfl #[.string a0, .int .i64 2000] rfl (by (try simp only [List.map_toArray,List.map_cons,List.map_nil]);first | done | rfl | (simp only [List.length_drop,List.length_take];rfl)) ?_;(with_reducible refine (spec_l1okBits.calls k a0 2000 true _ A2.out).mono ?_);rintro e w' ⟨rfl,⟨nd,rfl⟩⟩;refine ⟨_,rfl, ?_⟩) | ((with_reducible refine gate_dst (N:=8) rfl ?_);refine Kd.R_lit (Kd.int .u8) _ 5 ?hg (N:=8) ?hd (xs:=([] : List Int)) (inner := []) (ok:=fun _ => True) (okp:=fun _ => True) ?hr ?hp (fun _ hk => hk) trivial (Below.refl _ _) (Nat.le_refl _) (by simp) ?_;(case hd => rfl);(case hg => rfl);(case hr => first | (go_simp;done) | (go_simp;rfl));(case hp => exact (Reps.none _ _));intro v193 w4 ho5 hb hg_ hnew_;clear hg_ hnew_;(first | rw [← Ny192.out] at ho5 | (simp only [Int.reduceToNat] at ho5;rw [← Ny192.out] at ho5));have n0_:=Aside0.mk (Kd.R_lower ho5 (below_size (by repeat (first | (with_reducible first | exact HB.out | apply below_alloc | apply pw_below_drewN | apply below_drew1) | exact HB.out))));have n1_:=Aside0.mk (below_step (by repeat (first | (with_reducible first | exact HB.out | apply below_alloc | apply pw_below_drewN | apply below_drew1) | exact HB.out)) hb);clear HB;have HO194:=n0_;have HB:=n1_;clear n0_ n1_;clear hb ho5))
  go_loopg [3,4] k (fun kq v3 v4 w' => ∃ (x3_1 : List Int) (x4_1 : Int),v4 = .int .i64 x4_1 ∧ Aside0 (spec_Stuff.l0 kq a0 x3_1 x4_1 = some r) ∧ Aside0 (kq ≤ k) ∧ Aside0 (Kd.R (Kd.int .u8) 5 w' w.heap.size (fun _ => True) v3 x3_1) ∧ Aside0 (Below w.heap.size w w'))
  case atStart => exact ⟨(y192),(0),(by first | rfl | (simp;done) | (simp [*];done)),H',⟨Nat.le_refl _⟩,⟨by (with_reducible repeat (first | apply Kd.R_alloc | apply Kd.R_drewN | apply Kd.R_drew));exact HO194.out⟩,⟨by repeat (first | (with_reducible first | exact HB.out | apply below_alloc | apply pw_below_drewN | apply below_drew1) | exact HB.out)⟩⟩
  case round =>
   clear H'
   try clear p2
   try clear c3
   try clear c5
   obtain ⟨x3_1,x4_1,rfl,HA,HK1,HO_3,HB⟩:=hrel
   cases gk with
   | zero => exact absurd HA.out (by simp [spec_Stuff.l0])
   | succ k1 =>
    have H:=HA.out
    clear HA
    simp only [spec_Stuff.l0] at H
    by_cases c6 : x4_1 < (a0.size : Int)
    ·rw [if_pos c6] at H
     have c6b0 : decide (x4_1 < (a0.size : Int)) = true:=decide_eq_true c6
     clear c6
     by_cases c7 : 0 ≤ x4_1
     ·rw [if_pos c7] at H
      have c7b0 : decide (0 ≤ x4_1) = true:=decide_eq_true c7
      clear c7
      by_cases c9 : x3_1.length < 140737488355328
      ·rw [if_pos c9] at H
       have LMc9:=Aside0.mk c9
       clear c9
       obtain ⟨y195,hy195⟩ : ∃ y_ : List Int,y_ = (x3_1 ++ [bt a0 x4_1]):=⟨_,rfl⟩
       replace H : ((spec_l1due.f y195 (y195.length : Int)).bind fun t198 => (if t198 = true then ((spec_l1other.f (bt a0 x4_1)).bind fun t199 => (if y195.length < 140737488355328 then (spec_Stuff.l0 k1 a0 (y195 ++ [t199]) (wrap64 (x4_1 + 1))) else (none))) else (spec_Stuff.l0 k1 a0 y195 (wrap64 (x4_1 + 1))))) = some r:=by first | (rw [hy195];with_reducible exact H) | (have H2_:=(Option.bind_some _ _).symm.trans H;rw [hy195];with_reducible exact H2_) | (have H2_:=(Option.bind_some _ _).symm.trans H;with_reducible exact H2_) | with_reducible exact H | (rw [hy195];exact H) | exact H
       have Ny195:=Aside0.mk hy195
       clear hy195
       replace H:=Option.bind_eq_some_iff.mp H
       obtain ⟨t198,A100,H⟩:=H
       replace H : (if t198 = true then ((spec_l1other.f (bt a0 x4_1)).bind fun t199 => (if y195.length < 140737488355328 then (spec_Stuff.l0 k1 a0 (y195 ++ [t199]) (wrap64 (x4_1 + 1))) else (none))) else (spec_Stuff.l0 k1 a0 y195 (wrap64 (x4_1 + 1)))) = some r:=H
       have A10:=Aside0.mk A100
       clear A100
       by_cases c11 : t198 = true
       ·subst c11
        have H1 : ((spec_l1other.f (bt a0 x4_1)).bind fun t199 => (if y195.length < 140737488355328 then (spec_Stuff.l0 k1 a0 (y195 ++ [t199]) (wrap64 (x4_1 + 1))) else (none))) = some r:=by rw [if_pos rfl] at H;exact H
        clear H
        have H:=H1
        clear H1
        replace H:=Option.bind_eq_some_iff.mp H
        obtain ⟨t199,A130,H⟩:=H
        replace H : (if y195.length < 140737488355328 then (spec_Stuff.l0 k1 a0 (y195 ++ [t199]) (wrap64 (x4_1 + 1))) else (none)) = some r:=H
        have A13:=Aside0.mk A130
        clear A130
        by_cases c14 : y195.length < 140737488355328
        ·rw [if_pos c14] at H
         have LMc14:=Aside0.mk c14
         clear c14
         obtain ⟨y200,hy200⟩ : ∃ y_ : List Int,y_ = (y195 ++ [t199]):=⟨_,rfl⟩
         replace H : (spec_Stuff.l0 k1 a0 y200 (wrap64 (x4_1 + 1))) = some r:=by first | (rw [hy200];with_reducible exact H) | (have H2_:=(Option.bind_some _ _).symm.trans H;rw [hy200];with_reducible exact H2_) | (have H2_:=(Option.bind_some _ _).symm.trans H;with_reducible exact H2_) | with_reducible exact H | (rw [hy200];exact H) | exact H
         have Ny200:=Aside0.mk hy200
         clear hy200
         have H':=Aside0.mk H
         clear H
         have p8 : 0 ≤ (x4_1 : Int):=of_decide_eq_true (by first | (with_reducible assumption) | assumption)
         have q8 : x4_1 < (a0.size : Int):=of_decide_eq_true (by first | (with_reducible assumption) | assumption)
         have hx8:=bt_at a0 x4_1
         replace p8:=eq_true p8
         replace q8:=eq_true q8
         go_wp2_with (first | ((with_reducible refine gate_builtin (b := .append) (xs := #[.tmp 15, .tmp 19]) rfl ?_);at_builtin;refine Kd.R_append (Kd.int .u8) (w0:=w) w.heap.size rfl (.tmp 15) (.tmp 19) 23 5 (.int .u8 0) 1 rfl Tryd.underlying23 info5 rfl (by decide) (by omega) u3 x3_1 (bt a0 x4_1) [.int .u8 (bt a0 x4_1)] (fun _ => True) (fun _ => False) rfl rfl ?aP (fun _ hk => hk.elim) ?aF ?aO ?aB ?aS ?aL ?_;(case aP => exact rfl);(case aB => exact (by repeat (first | (with_reducible first | exact HB.out | apply below_alloc | apply pw_below_drewN | apply below_drew1) | exact HB.out)));(case aF => exact (fun _ _ => trivial));(case aO => exact (by (with_reducible repeat (first | apply Kd.R_alloc | apply Kd.R_drewN | apply Kd.R_drew));exact HO_3.out));(case aS => exact (below_size (by repeat (first | (with_reducible first | exact HB.out | apply below_alloc | apply pw_below_drewN | apply below_drew1) | exact HB.out))));(case aL => have:=LMc9.out;omega);intro v196 w15 ho hb hg hat;rw [← Ny195.out] at ho;have n0_:=Aside0.mk (hb);have n1_:=Aside0.mk (ho);clear HB;clear HO_3;have HB:=n0_;have HO197:=n1_;clear n0_ n1_;clear ho hb hg hat;obtain ⟨Ao16,co16,eo16⟩:=Kd.R_slice HO197.out;subst eo16) | ((with_reducible refine gate_callee (f:=66) rfl ?_);refine goesL_ (some 24) rfl rfl Tryd.func66 (by kernel_rfl) rfl #[.slice Ao16 y195.length co16, .int .i64 (y195.length : Int)] rfl (by (try simp only [List.map_toArray,List.map_cons,List.map_nil]);first | done | rfl | (simp only [List.length_drop,List.length_take];rfl)) ?_;(with_reducible refine (spec_l1due.calls _ _ y195 (y195.length : Int) true _ ?side1 ?side2 A10.out).mono ?_);(case side1 => repeat (first | exact (Kd.R_reads' HO197.out).2.2 | (with_reducible refine Kd.C_alloc ?_ _) | (with_reducible refine Kd.C_drewN ?_ _) | (with_reducible refine Kd.C_drew ?_)));(case side2 => exact (Kd.R_reads' HO197.out).2.1);rintro e w' ⟨rfl,⟨nd,rfl⟩⟩;refine ⟨_,rfl, ?_⟩;have p12 : 0 ≤ (x4_1 : Int):=of_decide_eq_true (by first | (with_reducible assumption) | assumption);have q12 : x4_1 < (a0.size : Int):=of_decide_eq_true (by first | (with_reducible assumption) | assumption);have hx12:=bt_at a0 x4_1;replace p12:=eq_true p12;replace q12:=eq_true q12) | ((with_reducible refine gate_callee (f:=60) rfl ?_);refine goesL_ (some 29) rfl rfl Tryd.func60 (by kernel_rfl) rfl #[.int .u8 (bt a0 x4_1)] rfl (by (try simp only [List.map_toArray,List.map_cons,List.map_nil]);first | done | rfl | (simp only [List.length_drop,List.length_take];rfl)) ?_;(with_reducible refine (spec_l1other.calls (bt a0 x4_1) t199 _ A13.out).mono ?_);rintro e w' ⟨rfl,⟨nd,rfl⟩⟩;refine ⟨_,rfl, ?_⟩) | ((with_reducible refine gate_builtin (b := .append) (xs := #[.tmp 25, .tmp 30]) rfl ?_);at_builtin;refine Kd.R_append (Kd.int .u8) (w0:=w) w.heap.size rfl (.tmp 25) (.tmp 30) 23 5 (.int .u8 0) 1 rfl Tryd.underlying23 info5 rfl (by decide) (by omega) (.slice Ao16 y195.length co16) y195 t199 [.int .u8 t199] (fun _ => True) (fun _ => False) rfl rfl ?aP (fun _ hk => hk.elim) ?aF ?aO ?aB ?aS ?aL ?_;(case aP => exact rfl);(case aB => exact (by repeat (first | (with_reducible first | exact HB.out | apply below_alloc | apply pw_below_drewN | apply below_drew1) | exact HB.out)));(case aF => exact (fun _ _ => trivial));(case aO => exact (by (with_reducible repeat (first | apply Kd.R_alloc | apply Kd.R_drewN | apply Kd.R_drew));exact HO197.out));(case aS => exact (below_size (by repeat (first | (with_reducible first | exact HB.out | apply below_alloc | apply pw_below_drewN | apply below_drew1) | exact HB.out))));(case aL => have:=LMc14.out;omega);intro v201 w17 ho hb hg hat;rw [← Ny200.out] at ho;have n0_:=Aside0.mk (hb);have n1_:=Aside0.mk (ho);clear HB;clear HO197;have HB:=n0_;have HO202:=n1_;clear n0_ n1_;clear ho hb hg hat))
         go_roundg k1
         case measure => have:=HK1.out;omega
         case rel => exact ⟨(y200),(wrap64 (x4_1 + 1)),(by first | rfl | (simp;done) | (simp [*];done)),H',⟨by have:=HK1.out;omega⟩,⟨by (with_reducible repeat (first | apply Kd.R_alloc | apply Kd.R_drewN | apply Kd.R_drew));exact HO202.out⟩,⟨by repeat (first | (with_reducible first | exact HB.out | apply below_alloc | apply pw_below_drewN | apply below_drew1) | exact HB.out)⟩⟩
        ·rw [if_neg c14] at H
         exact absurd H (by simp)
       ·replace c11:=Bool.eq_false_iff.mpr c11
        subst c11
        have H1 : (spec_Stuff.l0 k1 a0 y195 (wrap64 (x4_1 + 1))) = some r:=by rw [if_neg (show ¬ (false = true) by decide)] at H;exact H
        clear H
        have H:=H1
        clear H1
        have H':=Aside0.mk H
        clear H
        have p8 : 0 ≤ (x4_1 : Int):=of_decide_eq_true (by first | (with_reducible assumption) | assumption)
        have q8 : x4_1 < (a0.size : Int):=of_decide_eq_true (by first | (with_reducible assumption) | assumption)
        have hx8:=bt_at a0 x4_1
        replace p8:=eq_true p8
        replace q8:=eq_true q8
        go_wp2_with (first | ((with_reducible refine gate_builtin (b := .append) (xs := #[.tmp 15, .tmp 19]) rfl ?_);at_builtin;refine Kd.R_append (Kd.int .u8) (w0:=w) w.heap.size rfl (.tmp 15) (.tmp 19) 23 5 (.int .u8 0) 1 rfl Tryd.underlying23 info5 rfl (by decide) (by omega) u3 x3_1 (bt a0 x4_1) [.int .u8 (bt a0 x4_1)] (fun _ => True) (fun _ => False) rfl rfl ?aP (fun _ hk => hk.elim) ?aF ?aO ?aB ?aS ?aL ?_;(case aP => exact rfl);(case aB => exact (by repeat (first | (with_reducible first | exact HB.out | apply below_alloc | apply pw_below_drewN | apply below_drew1) | exact HB.out)));(case aF => exact (fun _ _ => trivial));(case aO => exact (by (with_reducible repeat (first | apply Kd.R_alloc | apply Kd.R_drewN | apply Kd.R_drew));exact HO_3.out));(case aS => exact (below_size (by repeat (first | (with_reducible first | exact HB.out | apply below_alloc | apply pw_below_drewN | apply below_drew1) | exact HB.out))));(case aL => have:=LMc9.out;omega);intro v196 w18 ho hb hg hat;rw [← Ny195.out] at ho;have n0_:=Aside0.mk (hb);have n1_:=Aside0.mk (ho);clear HB;clear HO_3;have HB:=n0_;have HO197:=n1_;clear n0_ n1_;clear ho hb hg hat;obtain ⟨Ao19,co19,eo19⟩:=Kd.R_slice HO197.out;subst eo19) | ((with_reducible refine gate_callee (f:=66) rfl ?_);refine goesL_ (some 24) rfl rfl Tryd.func66 (by kernel_rfl) rfl #[.slice Ao19 y195.length co19, .int .i64 (y195.length : Int)] rfl (by (try simp only [List.map_toArray,List.map_cons,List.map_nil]);first | done | rfl | (simp only [List.length_drop,List.length_take];rfl)) ?_;(with_reducible refine (spec_l1due.calls _ _ y195 (y195.length : Int) false _ ?side1 ?side2 A10.out).mono ?_);(case side1 => repeat (first | exact (Kd.R_reads' HO197.out).2.2 | (with_reducible refine Kd.C_alloc ?_ _) | (with_reducible refine Kd.C_drewN ?_ _) | (with_reducible refine Kd.C_drew ?_)));(case side2 => exact (Kd.R_reads' HO197.out).2.1);rintro e w' ⟨rfl,⟨nd,rfl⟩⟩;refine ⟨_,rfl, ?_⟩))
        go_roundg k1
        case measure => have:=HK1.out;omega
        case rel => exact ⟨(y195),(wrap64 (x4_1 + 1)),(by first | rfl | (simp;done) | (simp [*];done)),H',⟨by have:=HK1.out;omega⟩,⟨by (with_reducible repeat (first | apply Kd.R_alloc | apply Kd.R_drewN | apply Kd.R_drew));exact HO197.out⟩,⟨by repeat (first | (with_reducible first | exact HB.out | apply below_alloc | apply pw_below_drewN | apply below_drew1) | exact HB.out)⟩⟩
      ·rw [if_neg c9] at H
       exact absurd H (by simp)
     ·rw [if_neg c7] at H
      exact absurd H (by simp)
    ·rw [if_neg c6] at H
     have c6b0 : decide (x4_1 < (a0.size : Int)) = false:=decide_eq_false c6
     clear c6
     obtain rfl:=Option.some.inj H
     have hcv20:=own_string (P:=Tryd.prog) Tryd.underlying23 Tryd.underlying5 Tryd.underlying9 (Kd.own_of_R HO_3.out)
     go_wp2
     go_ret
     exact ⟨by first | rfl | (simp [errW_none,errW_some] <;> rfl) | (simp [*,errW_none,errW_some] <;> rfl),by repeat (first | (with_reducible first | exact HB.out | apply below_alloc | apply pw_below_drewN | apply below_drew1) | exact HB.out)⟩
 ·replace c3:=Bool.eq_false_iff.mpr c3
  subst c3
  have H1 : (some (⟨#[]⟩ : ByteArray)) = some r:=by rw [if_neg (show ¬ (false = true) by decide)] at H;exact H
  clear H
  have H:=H1
  clear H1
  obtain rfl:=Option.some.inj H
  go_enter Tryd.func57,Tryd.ntmps57
  go_wp2_with (first | ((with_reducible refine gate_callee (f:=64) rfl ?_);refine goesL_ (some 6) rfl rfl Tryd.func64 (by kernel_rfl) rfl #[.string a0, .int .i64 2000] rfl (by (try simp only [List.map_toArray,List.map_cons,List.map_nil]);first | done | rfl | (simp only [List.length_drop,List.length_take];rfl)) ?_;(with_reducible refine (spec_l1okBits.calls k a0 2000 false _ A2.out).mono ?_);rintro e w' ⟨rfl,⟨nd,rfl⟩⟩;refine ⟨_,rfl, ?_⟩))
  go_ret
  exact ⟨by first | rfl | (simp [errW_none,errW_some] <;> rfl) | (simp [*,errW_none,errW_some] <;> rfl),by repeat (first | (with_reducible first | exact HB.out | apply below_alloc | apply pw_below_drewN | apply below_drew1) | exact HB.out)⟩
end Go.Proofs.YtdoclpgciadjaaaDoor.P
namespace Go.Proofs.YtdoclpgciadjaaaDoor.P
open Go Go.RowKit Go.Proofs.YtdoclpgciadjaaaDoorW.PrintWords
set_option linter.unusedVariables false
def stuffV (s : ByteArray) : ByteArray:=if s.size ≤ 2000 ∧ isBits s = true then strOfNums (stuffL (bytesOf s)) else ⟨#[]⟩
structure StuffOk (st : List Int × Int × Int) (run : Nat) : Prop where
 trail : Trail st.1 st.1.length run st.2.2
 run_eq : st.2.1 = (run : Int)
 run_le : run ≤ 4
theorem StuffOk.zero : StuffOk ([],0,120) 0:=⟨Trail.zero _ _,rfl,by omega⟩
theorem StuffOk.step {st : List Int × Int × Int} {run : Nat} (h : StuffOk st run) (c : Int) (hc : c = 48 ∨ c = 49) :
  (stuffStep st c).1 = (if (if c = st.2.2 then run + 1 else 1) = 5 then st.1 ++ [c] ++ [97 - c] else st.1 ++ [c]) ∧ ∃ run',StuffOk (stuffStep st c) run':=by
 obtain ⟨ht,he,hl⟩:=h
 have hs:=ht.snoc c
 have e1 : (if c = st.2.2 then st.2.1 + 1 else 1) = (((if c = st.2.2 then run + 1 else 1 : Nat)) : Int):=by split <;> omega
 have h5 : (if c = st.2.2 then run + 1 else 1 : Nat) ≤ 5:=by split <;> omega
 unfold stuffStep
 rw [e1]
 generalize (if c = st.2.2 then run + 1 else 1 : Nat) = q at *
 by_cases h : q = 5
 ·rw [if_pos (by omega),if_pos h]
  refine ⟨rfl,1, ?_,rfl,by omega⟩
  have hs2 : Trail (st.1 ++ [c]) (st.1 ++ [c]).length q c:=by rw [List.length_append];exact hs
  have h3:=hs2.snoc (97 - c)
  rw [if_neg (by omega)] at h3
  simp only []
  rw [List.length_append]
  exact h3
 ·rw [if_neg (by omega),if_neg h]
  refine ⟨rfl,q, ?_,rfl,by omega⟩
  simp only []
  rw [List.length_append]
  exact hs
theorem specStuff_ev (s : ByteArray) (h : s.size < 100000000) : Ev (fun k => spec_Stuff.f k s) (stuffV s):=by
 have hk:=okBits_ev s 2000 (by omega)
 unfold stuffV
 by_cases c : s.size ≤ 2000 ∧ isBits s = true
 ·rw [if_pos c]
  obtain ⟨hs,hb⟩:=c
  rw [hb,decide_eq_true hs] at hk
  refine Ev.congr (fun k => by unfold spec_Stuff.f;rfl) (Ev.bind hk (ev_pos rfl ?_))
  have loop : ∀ (d i run : Nat),i + d = s.size → StuffOk (stuffTo s i) run → Ev (fun k => spec_Stuff.l0 k s (stuffTo s i).1 (i : Int)) (strOfNums (stuffL (bytesOf s))):=by
   intro d
   induction d with
   | zero =>
    intro i run hi _
    refine Ev.step (f:=fun _ => some (strOfNums (stuffL (bytesOf s)))) (fun k => ?_) (Ev.now _)
    simp only [spec_Stuff.l0]
    rw [if_neg (by omega),stuffTo_end s i (by omega)]
   | succ d ih =>
    intro i run hi ho
    have his : i < s.size:=by omega
    have hbit:=isBit_cases (isBits_at hb his)
    obtain ⟨b,hbe,hb2⟩ : ∃ b : Nat,(s[i]'his).toNat = b ∧ (b = 48 ∨ b = 49):=⟨_,rfl,by rcases hbit with e | e <;> rw [e] <;> decide⟩
    have hbt : bt s (i : Int) = (b : Int):=by rw [bt_eq s i his,hbe]
    have hst:=stuffTo_succ s i his hbe
    have hbd:=(stuffTo_bounds s i).1
    have htr:=ho.trail.snoc (b : Int)
    have hrl:=ho.run_le
    obtain ⟨h1,run',h2⟩:=ho.step (b : Int) (by omega)
    rw [← hst] at h1 h2
    refine Ev.step (f:=fun k => spec_Stuff.l0 k s (stuffTo s (i + 1)).1 ((i + 1 : Nat) : Int)) (fun k => ?_) (ih (i + 1) run' (by omega) h2)
    have hdue:=due_eq (n:=(stuffTo s i).1.length + 1) htr (by split <;> omega) (by omega)
    have hln : (((stuffTo s i).1 ++ [(b : Int)]).length : Int) = (((stuffTo s i).1.length + 1 : Nat) : Int):=by rw [List.length_append];rfl
    simp only [spec_Stuff.l0]
    rw [if_pos (by omega),if_pos (by omega),if_pos (by omega),hbt,Option.bind_some,hln,hdue,Option.bind_some,w64 (by omega) (by omega),h1]
    by_cases h5 : (if (b : Int) = (stuffTo s i).2.2 then run + 1 else 1) = 5
    ·rw [decide_eq_true h5,if_pos rfl,if_pos h5]
     have ho2 : spec_l1other.f (b : Int) = some (97 - (b : Int)):=by
      unfold spec_l1other.f
      rcases hb2 with rfl | rfl <;> rfl
     rw [ho2,Option.bind_some,if_pos (by omega)]
     rfl
    ·rw [decide_eq_false h5,if_neg (by decide),if_neg h5]
     rfl
  have h0:=loop s.size 0 0 (by omega) (by rw [stuffTo_zero];exact StuffOk.zero)
  rw [stuffTo_zero] at h0
  exact h0
 ·rw [if_neg c]
  have hf : (decide (s.size ≤ 2000) && isBits s) = false:=by
   rw [Bool.and_eq_false_iff]
   by_cases hh : isBits s = true
   ·exact .inl (decide_eq_false fun h2 => c ⟨h2,hh⟩)
   ·exact .inr (by simpa using hh)
  rw [hf] at hk
  exact Ev.congr (fun k => by unfold spec_Stuff.f;rfl) (Ev.bind hk (ev_neg (show ¬ (false = true) by decide) (Ev.now _)))
end Go.Proofs.YtdoclpgciadjaaaDoor.P
namespace Go.Proofs.YtdoclpgciadjaaaDoor.P
open Go.RowKit Go.Proofs.YtdoclpgciadjaaaDoorW.PrintWords Go.Proofs.YtdoclpgciadjaaaDoorW.PrintLast Go.Proofs.YtdoclpgciadjaaaDoorW.PrintMore
set_option linter.unusedVariables false
set_option linter.unusedSimpArgs false
def spec_l1num.f : Nat → Int → Int → Option (ByteArray)
 | 0,_,_ => none
 | k + 1,a0,a1 => if a1 ≤ 0 then (some (⟨#[]⟩ : ByteArray)) else (if (Int.tmod a0 2) = 1 then ((spec_l1num.f k (wrap64 (Int.tdiv a0 2)) (wrap64 (a1 - 1))).bind fun t203 => (if t203.size + 1 ≤ 9223372036854775807 then (some (t203 ++ (⟨#[49]⟩ : ByteArray))) else (none))) else ((spec_l1num.f k (wrap64 (Int.tdiv a0 2)) (wrap64 (a1 - 1))).bind fun t204 => (if t204.size + 1 ≤ 9223372036854775807 then (some (t204 ++ (⟨#[48]⟩ : ByteArray))) else (none))))
set_option maxHeartbeats 8000000 in
set_option maxRecDepth 100000 in
theorem spec_l1num.calls (k : Nat) : ∀ (a0 : Int) (a1 : Int) (r : ByteArray) (w : World) (h : spec_l1num.f k a0 a1 = some r),
  Calls Tryd.prog 59 #[.int .i64 a0, .int .i64 a1] w fun e w' => e = .returned (.string r) ∧ Drawn0 w w':=by
 induction k using Nat.strongRecOn with
 | _ k ih =>
 intro a0 a1 r w h
 cases k with
 | zero => exact absurd h (by simp [spec_l1num.f])
 | succ k =>
 simp only [spec_l1num.f] at h
 have H : (if a1 ≤ 0 then (some (⟨#[]⟩ : ByteArray)) else (if (Int.tmod a0 2) = 1 then ((spec_l1num.f k (wrap64 (Int.tdiv a0 2)) (wrap64 (a1 - 1))).bind fun t203 => (if t203.size + 1 ≤ 9223372036854775807 then (some (t203 ++ (⟨#[49]⟩ : ByteArray))) else (none))) else ((spec_l1num.f k (wrap64 (Int.tdiv a0 2)) (wrap64 (a1 - 1))).bind fun t204 => (if t204.size + 1 ≤ 9223372036854775807 then (some (t204 ++ (⟨#[48]⟩ : ByteArray))) else (none))))) = some r:=h
 clear h
 by_cases c3 : a1 ≤ 0
 ·rw [if_pos c3] at H
  have c3b0 : decide (a1 ≤ 0) = true:=decide_eq_true c3
  clear c3
  obtain rfl:=Option.some.inj H
  go_enter Tryd.func59,Tryd.ntmps59
  go_wp2
  go_ret
  exact ⟨by first | rfl | (simp;done) | (simp [*];done),by repeat (first | exact Drawn0.refl _ | apply Drawn0.step)⟩
 ·rw [if_neg c3] at H
  have c3b0 : decide (a1 ≤ 0) = false:=decide_eq_false c3
  clear c3
  by_cases c4 : (Int.tmod a0 2) = 1
  ·rw [if_pos c4] at H
   have c4b0 : ((Int.tmod a0 2) == 1) = true:=beq_iff_eq.mpr c4
   have c4b1 : ((Int.tmod a0 2) != 1) = false:=bne_eq_false_iff_eq.mpr c4
   clear c4
   replace H:=Option.bind_eq_some_iff.mp H
   obtain ⟨t203,A50,H⟩:=H
   replace H : (if t203.size + 1 ≤ 9223372036854775807 then (some (t203 ++ (⟨#[49]⟩ : ByteArray))) else (none)) = some r:=H
   have A5:=Aside0.mk A50
   clear A50
   by_cases c6 : t203.size + 1 ≤ 9223372036854775807
   ·rw [if_pos c6] at H
    have c6b0:=eq_true c6
    have c6b1 : decide (t203.size + 1 ≤ 9223372036854775807) = true:=decide_eq_true c6
    try have c6b2 : (9223372036854775807 < t203.size + 1) = False:=eq_false (Nat.not_lt.2 c6)
    obtain rfl:=Option.some.inj H
    go_enter Tryd.func59,Tryd.ntmps59
    go_wp2_with (first | ((with_reducible refine gate_callee (f:=59) rfl ?_);refine goesL_ (some 15) rfl rfl Tryd.func59 (by kernel_rfl) rfl #[.int .i64 (wrap64 (Int.tdiv a0 2)), .int .i64 (wrap64 (a1 - 1))] rfl (by (try simp only [List.map_toArray,List.map_cons,List.map_nil]);first | done | rfl | (simp only [List.length_drop,List.length_take];rfl)) ?_;(with_reducible refine (ih k (by omega) (wrap64 (Int.tdiv a0 2)) (wrap64 (a1 - 1)) t203 _ A5.out).mono ?_);rintro e w' ⟨rfl,⟨nd,rfl⟩⟩;refine ⟨_,rfl, ?_⟩))
    go_ret
    exact ⟨by first | rfl | (simp;done) | (simp [*];done),by repeat (first | exact Drawn0.refl _ | apply Drawn0.step)⟩
   ·rw [if_neg c6] at H
    exact absurd H (by simp)
  ·rw [if_neg c4] at H
   have c4b0 : ((Int.tmod a0 2) == 1) = false:=beq_eq_false_iff_ne.mpr c4
   have c4b1 : ((Int.tmod a0 2) != 1) = true:=bne_iff_ne.mpr c4
   replace H:=Option.bind_eq_some_iff.mp H
   obtain ⟨t204,A70,H⟩:=H
   replace H : (if t204.size + 1 ≤ 9223372036854775807 then (some (t204 ++ (⟨#[48]⟩ : ByteArray))) else (none)) = some r:=H
   have A7:=Aside0.mk A70
   clear A70
   by_cases c8 : t204.size + 1 ≤ 9223372036854775807
   ·rw [if_pos c8] at H
    have c8b0:=eq_true c8
    have c8b1 : decide (t204.size + 1 ≤ 9223372036854775807) = true:=decide_eq_true c8
    try have c8b2 : (9223372036854775807 < t204.size + 1) = False:=eq_false (Nat.not_lt.2 c8)
    obtain rfl:=Option.some.inj H
    go_enter Tryd.func59,Tryd.ntmps59
    go_wp2_with (first | ((with_reducible refine gate_callee (f:=59) rfl ?_);refine goesL_ (some 15) rfl rfl Tryd.func59 (by kernel_rfl) rfl #[.int .i64 (wrap64 (Int.tdiv a0 2)), .int .i64 (wrap64 (a1 - 1))] rfl (by (try simp only [List.map_toArray,List.map_cons,List.map_nil]);first | done | rfl | (simp only [List.length_drop,List.length_take];rfl)) ?_;(with_reducible refine (ih k (by omega) (wrap64 (Int.tdiv a0 2)) (wrap64 (a1 - 1)) t204 _ A7.out).mono ?_);rintro e w' ⟨rfl,⟨nd,rfl⟩⟩;refine ⟨_,rfl, ?_⟩))
    go_ret
    exact ⟨by first | rfl | (simp;done) | (simp [*];done),by repeat (first | exact Drawn0.refl _ | apply Drawn0.step)⟩
   ·rw [if_neg c8] at H
    exact absurd H (by simp)
def spec_l1flag.f (a0 : Bool) : Option (ByteArray):=if a0 = true then (some (⟨#[49]⟩ : ByteArray)) else (some (⟨#[48]⟩ : ByteArray))
set_option maxHeartbeats 8000000 in
set_option maxRecDepth 100000 in
theorem spec_l1flag.calls (a0 : Bool) (r : ByteArray) (w : World) (h : spec_l1flag.f a0 = some r) :
  Calls Tryd.prog 74 #[.bool a0] w fun e w' => e = .returned (.string r) ∧ Drawn0 w w':=by
 have H : (if a0 = true then (some (⟨#[49]⟩ : ByteArray)) else (some (⟨#[48]⟩ : ByteArray))) = some r:=h
 clear h
 by_cases c2 : a0 = true
 ·subst c2
  have H1 : (some (⟨#[49]⟩ : ByteArray)) = some r:=by rw [if_pos rfl] at H;exact H
  clear H
  have H:=H1
  clear H1
  obtain rfl:=Option.some.inj H
  go_enter Tryd.func74,Tryd.ntmps74
  go_wp2
  go_ret
  exact ⟨by first | rfl | (simp;done) | (simp [*];done),by repeat (first | exact Drawn0.refl _ | apply Drawn0.step)⟩
 ·replace c2:=Bool.eq_false_iff.mpr c2
  subst c2
  have H1 : (some (⟨#[48]⟩ : ByteArray)) = some r:=by rw [if_neg (show ¬ (false = true) by decide)] at H;exact H
  clear H
  have H:=H1
  clear H1
  obtain rfl:=Option.some.inj H
  go_enter Tryd.func74,Tryd.ntmps74
  go_wp2
  go_ret
  exact ⟨by first | rfl | (simp;done) | (simp [*];done),by repeat (first | exact Drawn0.refl _ | apply Drawn0.step)⟩
end Go.Proofs.YtdoclpgciadjaaaDoor.P
