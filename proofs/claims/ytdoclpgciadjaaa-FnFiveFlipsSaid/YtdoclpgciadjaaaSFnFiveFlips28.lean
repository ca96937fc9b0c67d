/- Texts of the proof of FnFiveFlips, joined. -/
import Derived.Test.YtdoclpgciadjaaaSFnFiveFlips21
import Derived.Test.YtdoclpgciadjaaaSFnFiveFlips23
import Derived.Test.YtdoclpgciadjaaaSFnFiveFlips24
import Derived.Test.YtdoclpgciadjaaaSFnFiveFlips26
import Derived.Test.YtdoclpgciadjaaaSFnFiveFlips27
import Derived.Test.YtdoclpgciadjaaaSFnFiveFlips25
import Derived.Deep.QuietTactic
import Derived.BigQuiet
namespace Go.Proofs.Ytdoclpgciadjaaa.P
open Go.RowKit Go.Proofs.YtdoclpgciadjaaaW.PrintWords Go.Proofs.YtdoclpgciadjaaaW.PrintLast Go.Proofs.YtdoclpgciadjaaaW.PrintMore
set_option linter.unusedVariables false
set_option linter.unusedSimpArgs false
mutual
def laws_FnFiveFlips.j0 : Nat → List Int → List Int → Bool → Option (Bool)
 | 0,_,_,_ => none
 | k + 1,x0,x1,x25 => if x25 = true then (some true) else ((spec_DrawEncode.f k x0).bind fun bt249 => ((spec_ValidFrame.f k bt249.1 bt249.2.1 bt249.2.2.1 bt249.2.2.2.1 bt249.2.2.2.2).bind fun t257 => (if t257 = true then (laws_FnFiveFlips.j1 k x1 bt249.1 bt249.2.1 bt249.2.2.1 bt249.2.2.2.1 bt249.2.2.2.2) else (laws_FnFiveFlips.j1 k x1 false ((((x0.length : Int)) % 4294967296) % 2048) false 0 ([] : List Int)))))
def laws_FnFiveFlips.j1 : Nat → List Int → Bool → Int → Bool → Int → List Int → Option (Bool)
 | 0,_,_,_,_,_,_ => none
 | k + 1,x1,x257000,x257001,x257002,x257003,x257004 => (impl_Body.f x257000 x257001 x257002 x257003 x257004).bind fun t258 => ((impl_Crc15.f t258).bind fun t259 => ((laws_wBits.f k t259 15).bind fun t260 => (if t258.size + t260.size ≤ 9223372036854775807 then ((spec_Body.f x257000 x257001 x257002 x257003 x257004).bind fun t261 => (if (t258.size : Int) = (t261.size : Int) then ((impl_Stuff.f (t258 ++ t260)).bind fun t262 => (if t262.size + 3 ≤ 9223372036854775807 then ((impl_Judge.f (t262 ++ (⟨#[49,49,49]⟩ : ByteArray))).bind fun bt263 => (laws_FnFiveFlips.j2 k x1 (t258 ++ t260) (bt263.1 != 0) x257000 x257001 x257002 x257003 x257004)) else (none))) else (laws_FnFiveFlips.j2 k x1 (t258 ++ t260) true x257000 x257001 x257002 x257003 x257004))) else (none))))
def laws_FnFiveFlips.j2 : Nat → List Int → ByteArray → Bool → Bool → Int → Bool → Int → List Int → Option (Bool)
 | 0,_,_,_,_,_,_,_,_ => none
 | k + 1,x1,x7,x56,x257000,x257001,x257002,x257003,x257004 => if x56 = true then (some false) else ((impl_Stuff.f x7).bind fun t267 => (if t267.size + 3 ≤ 9223372036854775807 then ((impl_Judge.f (t267 ++ (⟨#[49,49,49]⟩ : ByteArray))).bind fun bt268 => (if bt268.2.1 = 14 then ((laws_wOpen.f k x257000 x257001 x257002 x257003 x257004).bind fun t272 => ((laws_wByte.f x1 0).bind fun t278 => (laws_FnFiveFlips.l0 k x1 x7 t272 (([] : List Int)) (wrap64 (1 + (Int.tmod t278 5))) 0))) else (some false))) else (none)))
def laws_FnFiveFlips.l0 : Nat → List Int → ByteArray → List Int → List Int → Int → Int → Option (Bool)
 | 0,_,_,_,_,_,_ => none
 | k + 1,x1,x7,x8,x9,x10,x11 => if x11 < x10 then ((laws_wByte.f x1 (wrap64 (x11 + 1))).bind fun t279 => ((laws_wByte.f x1 (wrap64 (x11 + 2))).bind fun t280 => (if (x8.length : Int) = 0 then (none) else (if 0 ≤ (Int.tmod (wrap64 ((wrap64 ((wrap64 (t279 * 5)) + (wrap64 (t280 * 3)))) + x11)) (x8.length : Int)) then (if (Int.tmod (wrap64 ((wrap64 ((wrap64 (t279 * 5)) + (wrap64 (t280 * 3)))) + x11)) (x8.length : Int)) < (x8.length : Int) then (laws_FnFiveFlips.l1 k x1 x7 x8 x9 x10 x11 (rd x8 (Int.tmod (wrap64 ((wrap64 ((wrap64 (t279 * 5)) + (wrap64 (t280 * 3)))) + x11)) (x8.length : Int))) false 0) else (none)) else (none))))) else ((impl_Stuff.f x7).bind fun t287 => (if t287.size + 1 ≤ 9223372036854775807 then ((laws_wByte.f x1 9).bind fun t288 => ((laws_wBits.f k (Int.tmod t288 2) 1).bind fun t289 => (if (t287 ++ (⟨#[49]⟩ : ByteArray)).size + t289.size ≤ 9223372036854775807 then (if ((t287 ++ (⟨#[49]⟩ : ByteArray)) ++ t289).size + 1 ≤ 9223372036854775807 then ((impl_Decode.f (((t287 ++ (⟨#[49]⟩ : ByteArray)) ++ t289) ++ (⟨#[49]⟩ : ByteArray))).bind fun bt290 => (if bt290.2.2.2.2.2 = 5 then ((impl_Judge.f (((t287 ++ (⟨#[49]⟩ : ByteArray)) ++ t289) ++ (⟨#[49]⟩ : ByteArray))).bind fun bt299 => (some (bt299.1 == 5))) else (some false))) else (none)) else (none)))) else (none)))
def laws_FnFiveFlips.l1 : Nat → List Int → ByteArray → List Int → List Int → Int → Int → Int → Bool → Int → Option (Bool)
 | 0,_,_,_,_,_,_,_,_,_ => none
 | k + 1,x1,x7,x8,x9,x10,x11,x12,x13,x14 => if x14 < (x9.length : Int) then (if 0 ≤ x14 then (if (rd x9 x14) = x12 then (laws_FnFiveFlips.l1 k x1 x7 x8 x9 x10 x11 x12 true (wrap64 (x14 + 1))) else (laws_FnFiveFlips.l1 k x1 x7 x8 x9 x10 x11 x12 x13 (wrap64 (x14 + 1)))) else (none)) else (if x13 = true then (laws_FnFiveFlips.l0 k x1 x7 x8 x9 x10 (wrap64 (x11 + 1))) else (if x9.length < 17592186044416 then ((laws_wFlip.f x7 x12).bind fun t286 => (laws_FnFiveFlips.l0 k x1 t286 x8 (x9 ++ [x12]) x10 (wrap64 (x11 + 1)))) else (none)))
end
def laws_FnFiveFlips.f (k : Nat) (l0 : List Int) (l1 : List Int) : Option (Bool):=if (l0.length : Int) > 1048576 then (laws_FnFiveFlips.j0 k l0 l1 true) else (laws_FnFiveFlips.j0 k l0 l1 (decide ((l1.length : Int) > 1048576)))
set_option maxHeartbeats 8000000 in
set_option maxRecDepth 100000 in
theorem laws_FnFiveFlips.calls (k : Nat) (A0 : Option Addr) (c0 : Nat) (l0 : List Int) (A1 : Option Addr) (c1 : Nat) (l1 : List Int) (r : Bool) (w : World) (hr0 : Kd.C (Kd.int .u8) w A0 l0.length l0) (hc0 : l0.length ≤ c0) (hr1 : Kd.C (Kd.int .u8) w A1 l1.length l1) (hc1 : l1.length ≤ c1) (h : laws_FnFiveFlips.f k l0 l1 = some r) :
  Calls Try.prog 3 #[.slice A0 l0.length c0, .slice A1 l1.length c1] w fun e w' => e = .returned (.bool r) ∧ Below w.heap.size w w':=by
 have hu25:=Try.underlying25
 have hf0 : ∀ (a b c d : Value) (w : World),Sem.run Try.prog (Instr.field 32 (.agg #[a,b,c,d]) 0) w = .ok a w:=fun a b c d w => by rfl
 have hf1 : ∀ (a b c d : Value) (w : World),Sem.run Try.prog (Instr.field 32 (.agg #[a,b,c,d]) 1) w = .ok b w:=fun a b c d w => by rfl
 have HR0:=Aside0.mk hr0
 have HC0:=Aside0.mk hc0
 clear hr0 hc0
 have HR1:=Aside0.mk hr1
 have HC1:=Aside0.mk hc1
 clear hr1 hc1
 have HB:=Aside0.mk (Below.refl w.heap.size w)
 have H : (if (l0.length : Int) > 1048576 then (laws_FnFiveFlips.j0 k l0 l1 true) else (laws_FnFiveFlips.j0 k l0 l1 (decide ((l1.length : Int) > 1048576)))) = some r:=h
 clear h
 have HC3:=Aside0.mk H
 clear H
 go_enter Try.func3,Try.ntmps3
 go_upto_region 1 with (fail)
 go_cut [25] (fun v25 wc => ∃ (kq : Nat) (x25_2 : Bool),v25 = .bool x25_2 ∧ Aside0 (laws_FnFiveFlips.j0 kq l0 l1 x25_2 = some r) ∧ Aside0 (kq ≤ k) ∧ Aside0 (Below w.heap.size w wc))
 case first =>
  have H:=HC3.out
  clear HC3
  by_cases c4 : (l0.length : Int) > 1048576
  ·rw [if_pos c4] at H
   have c4b0 : decide (1048576 < (l0.length : Int)) = true:=decide_eq_true c4
   have c4b1 : decide (1048576 < l0.length) = true:=decide_eq_true (by omega)
   clear c4
   (first | rw [c4b0] | (simp only [i64_w,i32_w];rw [c4b0]) | skip)
   have H':=Aside0.mk H
   clear H
   go_wp2
   go_meet
   case rel => exact ⟨_,(true),(by first | rfl | (simp;done) | (simp [*];done)),H',⟨by first | omega | exact Nat.le_refl _⟩,⟨by repeat (first | (with_reducible first | exact HB.out | apply below_alloc | apply pw_below_drewN | apply below_drew1) | exact HB.out)⟩⟩
  ·rw [if_neg c4] at H
   have c4b0 : decide (1048576 < (l0.length : Int)) = false:=decide_eq_false c4
   have c4b1 : decide (1048576 < l0.length) = false:=decide_eq_false (by omega)
   clear c4
   (first | rw [c4b0] | (simp only [i64_w,i32_w];rw [c4b0]) | skip)
   have H':=Aside0.mk H
   clear H
   go_wp2
   go_meet
   case rel => exact ⟨_,(decide ((l1.length : Int) > 1048576)),(by first | rfl | (simp;done) | (simp [*];done)),H',⟨by first | omega | exact Nat.le_refl _⟩,⟨by repeat (first | (with_reducible first | exact HB.out | apply below_alloc | apply pw_below_drewN | apply below_drew1) | exact HB.out)⟩⟩
 case rest =>
  clear HC3
  try clear c1
  try clear p2
  try clear c3
  try clear c4
  try clear c4b0
  try clear c4b1
  obtain ⟨kq,x25_2,rfl,HA,HJ2,HB⟩:=hcut
  cases kq with
  | zero => exact absurd HA.out (by simp [laws_FnFiveFlips.j0])
  | succ kj2 =>
   have H:=HA.out
   clear HA
   simp only [laws_FnFiveFlips.j0] at H
   by_cases c5 : x25_2 = true
   ·subst c5
    have H1 : (some true) = some r:=by rw [if_pos rfl] at H;exact H
    clear H
    have H:=H1
    clear H1
    obtain rfl:=Option.some.inj H
    go_wp2
    go_ret
    exact ⟨by first | rfl | (simp [errW_none,errW_some] <;> rfl) | (simp [*,errW_none,errW_some] <;> rfl),by repeat (first | (with_reducible first | exact HB.out | apply below_alloc | apply pw_below_drewN | apply below_drew1) | exact HB.out)⟩
   ·replace c5:=Bool.eq_false_iff.mpr c5
    subst c5
    have H1 : ((spec_DrawEncode.f kj2 l0).bind fun bt249 => ((spec_ValidFrame.f kj2 bt249.1 bt249.2.1 bt249.2.2.1 bt249.2.2.2.1 bt249.2.2.2.2).bind fun t257 => (if t257 = true then (laws_FnFiveFlips.j1 kj2 l1 bt249.1 bt249.2.1 bt249.2.2.1 bt249.2.2.2.1 bt249.2.2.2.2) else (laws_FnFiveFlips.j1 kj2 l1 false ((((l0.length : Int)) % 4294967296) % 2048) false 0 ([] : List Int))))) = some r:=by rw [if_neg (show ¬ (false = true) by decide)] at H;exact H
    clear H
    have H:=H1
    clear H1
    replace H:=Option.bind_eq_some_iff.mp H
    obtain ⟨⟨t249,t250,t251,t252,t253⟩,A60,H⟩:=H
    replace H : ((spec_ValidFrame.f kj2 t249 t250 t251 t252 t253).bind fun t257 => (if t257 = true then (laws_FnFiveFlips.j1 kj2 l1 t249 t250 t251 t252 t253) else (laws_FnFiveFlips.j1 kj2 l1 false ((((l0.length : Int)) % 4294967296) % 2048) false 0 ([] : List Int)))) = some r:=H
    have A6:=Aside0.mk A60
    clear A60
    replace H:=Option.bind_eq_some_iff.mp H
    obtain ⟨t257,A70,H⟩:=H
    replace H : (if t257 = true then (laws_FnFiveFlips.j1 kj2 l1 t249 t250 t251 t252 t253) else (laws_FnFiveFlips.j1 kj2 l1 false ((((l0.length : Int)) % 4294967296) % 2048) false 0 ([] : List Int))) = some r:=H
    have A7:=Aside0.mk A70
    clear A70
    have HC8:=Aside0.mk H
    clear H
    go_upto_if 30 with (first | ((with_reducible refine gate_callee (f:=13) rfl ?_);refine goesL_ (some 27) rfl rfl Try.func13 (by kernel_rfl) rfl #[.slice A0 l0.length c0] rfl (by (try simp only [List.map_toArray,List.map_cons,List.map_nil]);first | done | rfl | (simp only [List.length_drop,List.length_take];rfl)) ?_;(with_reducible refine (spec_DrawEncode.calls kj2 _ _ l0 t249 t250 t251 t252 t253 _ ?side1 ?side2 A6.out).mono ?_);(case side1 => repeat (first | exact (Kd.C_below HR0.out HB.out) | (with_reducible refine Kd.C_alloc ?_ _) | (with_reducible refine Kd.C_drewN ?_ _) | (with_reducible refine Kd.C_drew ?_)));(case side2 => exact HC0.out);rintro e w9 ⟨v254,rfl,ho0,hb⟩;refine ⟨_,rfl, ?_⟩;have n0_:=Aside0.mk (Kd.R_lower ho0 (below_size (by repeat (first | (with_reducible first | exact HB.out | apply below_alloc | apply pw_below_drewN | apply below_drew1) | exact HB.out))));have n1_:=Aside0.mk (below_step (by repeat (first | (with_reducible first | exact HB.out | apply below_alloc | apply pw_below_drewN | apply below_drew1) | exact HB.out)) hb);clear HB;have HO255:=n0_;have HB:=n1_;clear n0_ n1_;(try clear hb);(try clear hb2);(try clear hk);(try clear hi);(try clear ho0)) | ((with_reducible refine gate_dst (N:=5) rfl ?_);(try (refine gate_guard (by rfl) ?_;dsimp only));refine box_event ?hg (N:=5) ?hd (cs := #[.bool false, .int .u32 0, .bool false, .int .i64 0, .slice none 0 0]) (t:=25) ?hr ?_;(case hd => rfl);(case hg => rfl);(case hr => first | (go_simp;done) | (go_simp;rfl));intro gb256 hg w10 hbox hb;have n0_:=Aside0.mk (Kd.R_below (by (with_reducible repeat (first | apply Kd.R_alloc | apply Kd.R_drewN | apply Kd.R_drew));exact HO255.out) hb);have n1_:=Aside0.mk (below_step (by repeat (first | (with_reducible first | exact HB.out | apply below_alloc | apply pw_below_drewN | apply below_drew1) | exact HB.out)) hb);have n2_:=Aside0.mk (hbox);have n3_:=Aside0.mk ((by rw [hg];exact (below_size (by repeat (first | (with_reducible first | exact HB.out | apply below_alloc | apply pw_below_drewN | apply below_drew1) | exact HB.out))) : w.heap.size ≤ gb256));have n4_:=Aside0.mk ((by rw [hg];exact (below_size (by repeat (first | (with_reducible first | exact HB.out | apply below_alloc | apply pw_below_drewN | apply below_drew1) | exact HB.out))) : w.heap.size ≤ gb256));clear HO255;clear HB;have HO255:=n0_;have HB:=n1_;have BK256:=n2_;have GW256:=n3_;have GE256:=n4_;clear n0_ n1_ n2_ n3_ n4_;clear hb hbox hg;have hcz11_0 : w10.cell? ⟨gb256,0,none⟩ = some (.bool false):=(blk_cell BK256.out 0).trans rfl;have hcz11_1 : w10.cell? ⟨gb256,1,none⟩ = some (.int .u32 0):=(blk_cell BK256.out 1).trans rfl;have hcz11_2 : w10.cell? ⟨gb256,2,none⟩ = some (.bool false):=(blk_cell BK256.out 2).trans rfl;have hcz11_3 : w10.cell? ⟨gb256,3,none⟩ = some (.int .i64 0):=(blk_cell BK256.out 3).trans rfl;have hcz11_4 : w10.cell? ⟨gb256,4,none⟩ = some (.slice none 0 0):=(blk_cell BK256.out 4).trans rfl;have hfz11_0:=blk_frozen BK256.out 0;have hfz11_1:=blk_frozen BK256.out 1;have hfz11_2:=blk_frozen BK256.out 2;have hfz11_3:=blk_frozen BK256.out 3;have hfz11_4:=blk_frozen BK256.out 4;obtain ⟨Ao12,co12,eo12⟩:=Kd.R_slice HO255.out;subst eo12) | ((with_reducible refine gate_callee (f:=14) rfl ?_);refine goesL_ (some 29) rfl rfl Try.func14 (by kernel_rfl) rfl #[.agg #[.bool t249, .int .u32 t250, .bool t251, .int .i64 t252, .slice Ao12 t253.length co12]] rfl (by (try simp only [List.map_toArray,List.map_cons,List.map_nil]);first | done | rfl | (simp only [List.length_drop,List.length_take];rfl)) ?_;(with_reducible refine (spec_ValidFrame.calls kj2 t249 t250 t251 t252 _ _ t253 t257 _ ?side1 ?side2 A7.out).mono ?_);(case side1 => refine (Kd.R_reads' (e:=5) (base:=w.heap.size) (ok:=fun k_ => True) (n:=t253.length) (c:=co12) ?_).2.2;exact (by (with_reducible repeat (first | apply Kd.R_alloc | apply Kd.R_drewN | apply Kd.R_drew));exact (Kd.R_mono (Kd.R_far (p:=⟨gb256,4,none⟩) (Kd.R_far (p:=⟨gb256,3,none⟩) (Kd.R_far (p:=⟨gb256,2,none⟩) (Kd.R_far (p:=⟨gb256,1,none⟩) (Kd.R_far (p:=⟨gb256,0,none⟩) (Kd.R_types HO255.out BK256.out (by decide)) (fun _ hk => hk.2) (.bool t249)) (fun _ hk => hk.2) (.int .u32 t250)) (fun _ hk => hk.2) (.bool t251)) (fun _ hk => hk.2) (.int .i64 t252)) (fun _ hk => hk.2) (.slice Ao12 t253.length co12)) (fun _ h_ => h_.1))));(case side2 => exact (Kd.R_reads' HO255.out).2.1);rintro e w13 ⟨rfl,hb⟩;refine ⟨_,rfl, ?_⟩;have n0_:=Aside0.mk (Kd.R_below (by (with_reducible repeat (first | apply Kd.R_alloc | apply Kd.R_drewN | apply Kd.R_drew));exact (Kd.R_mono (Kd.R_far (p:=⟨gb256,4,none⟩) (Kd.R_far (p:=⟨gb256,3,none⟩) (Kd.R_far (p:=⟨gb256,2,none⟩) (Kd.R_far (p:=⟨gb256,1,none⟩) (Kd.R_far (p:=⟨gb256,0,none⟩) (Kd.R_types HO255.out BK256.out (by decide)) (fun _ hk => hk.2) (.bool t249)) (fun _ hk => hk.2) (.int .u32 t250)) (fun _ hk => hk.2) (.bool t251)) (fun _ hk => hk.2) (.int .i64 t252)) (fun _ hk => hk.2) (.slice Ao12 t253.length co12)) (fun _ h_ => h_.1))) hb);have n1_:=Aside0.mk (blk_below (g:=gb256) (o := .cells #[.bool t249, .int .u32 t250, .bool t251, .int .i64 t252, .slice Ao12 t253.length co12] 25 (0,0)) (by (with_reducible repeat (first | refine blk_drewN ?_ _ | refine blk_drew ?_ | refine blk_alloc ?_ _));refine blk_put (cs := #[.bool t249, .int .u32 t250, .bool t251, .int .i64 t252, .slice none 0 0]) ?_ 4 _ rfl;(with_reducible repeat (first | refine blk_drewN ?_ _ | refine blk_drew ?_ | refine blk_alloc ?_ _));refine blk_put (cs := #[.bool t249, .int .u32 t250, .bool t251, .int .i64 0, .slice none 0 0]) ?_ 3 _ rfl;(with_reducible repeat (first | refine blk_drewN ?_ _ | refine blk_drew ?_ | refine blk_alloc ?_ _));refine blk_put (cs := #[.bool t249, .int .u32 t250, .bool false, .int .i64 0, .slice none 0 0]) ?_ 2 _ rfl;(with_reducible repeat (first | refine blk_drewN ?_ _ | refine blk_drew ?_ | refine blk_alloc ?_ _));refine blk_put (cs := #[.bool t249, .int .u32 0, .bool false, .int .i64 0, .slice none 0 0]) ?_ 1 _ rfl;(with_reducible repeat (first | refine blk_drewN ?_ _ | refine blk_drew ?_ | refine blk_alloc ?_ _));refine blk_put (cs := #[.bool false, .int .u32 0, .bool false, .int .i64 0, .slice none 0 0]) ?_ 0 _ rfl;(with_reducible repeat (first | refine blk_drewN ?_ _ | refine blk_drew ?_ | refine blk_alloc ?_ _));exact BK256.out) hb);have n2_:=Aside0.mk (below_step (by repeat (first | (with_reducible first | exact HB.out | apply below_alloc | apply pw_below_drewN | apply below_drew1 | refine below_set ?_ GE256.out) | exact HB.out)) hb);clear HO255;clear BK256;clear HB;have HO255:=n0_;have BK256:=n1_;have HB:=n2_;clear n0_ n1_ n2_;(try clear hb);(try clear hb2);(try clear hk);(try clear hi)))
    (try simp only [Act.put,List.setIfInBounds_toArray,List.set_cons_zero,List.set_cons_succ])
    go_cut [] (fun wc => ∃ (kq : Nat) (x257000_7 : Bool) (x257001_7 : Int) (x257002_7 : Bool) (x257003_7 : Int) (x257004_7 : List Int) (u257004 : Value),Aside0 (laws_FnFiveFlips.j1 kq l1 x257000_7 x257001_7 x257002_7 x257003_7 x257004_7 = some r) ∧ Aside0 (kq ≤ kj2) ∧ Aside0 (Kd.R (Kd.int .u8) 5 wc w.heap.size (fun _ => True) u257004 x257004_7) ∧ Aside0 (wc.heap[gb256]? = some (.cells #[.bool x257000_7, .int .u32 x257001_7, .bool x257002_7, .int .i64 x257003_7,u257004] 25 (0,0))) ∧ Aside0 (Below w.heap.size w wc))
    case first =>
     have H:=HC8.out
     clear HC8
     by_cases c14 : t257 = true
     ·subst c14
      have H1 : (laws_FnFiveFlips.j1 kj2 l1 t249 t250 t251 t252 t253) = some r:=by rw [if_pos rfl] at H;exact H
      clear H
      have H:=H1
      clear H1
      have H':=Aside0.mk H
      clear H
      go_wp2
      go_meet
      case rel => exact ⟨_,(t249),(t250),(t251),(t252),(t253),(.slice Ao12 t253.length co12),H',⟨by have:=HJ2.out;first | omega | exact Nat.le_refl _⟩,⟨by (with_reducible repeat (first | apply Kd.R_alloc | apply Kd.R_drewN | apply Kd.R_drew));exact HO255.out⟩,⟨by (with_reducible repeat (first | refine blk_drewN ?_ _ | refine blk_drew ?_ | refine blk_alloc ?_ _));exact BK256.out⟩,⟨by repeat (first | (with_reducible first | exact HB.out | apply below_alloc | apply pw_below_drewN | apply below_drew1 | refine below_set ?_ GE256.out) | exact HB.out)⟩⟩
     ·replace c14:=Bool.eq_false_iff.mpr c14
      subst c14
      have H1 : (laws_FnFiveFlips.j1 kj2 l1 false ((((l0.length : Int)) % 4294967296) % 2048) false 0 ([] : List Int)) = some r:=by rw [if_neg (show ¬ (false = true) by decide)] at H;exact H
      clear H
      have H:=H1
      clear H1
      have H':=Aside0.mk H
      clear H
      have hcz15_0 : w13.cell? ⟨gb256,0,none⟩ = some (.bool t249):=(blk_cell BK256.out 0).trans rfl
      have hcz15_1 : w13.cell? ⟨gb256,1,none⟩ = some (.int .u32 t250):=(blk_cell BK256.out 1).trans rfl
      have hcz15_2 : w13.cell? ⟨gb256,2,none⟩ = some (.bool t251):=(blk_cell BK256.out 2).trans rfl
      have hcz15_3 : w13.cell? ⟨gb256,3,none⟩ = some (.int .i64 t252):=(blk_cell BK256.out 3).trans rfl
      have hcz15_4 : w13.cell? ⟨gb256,4,none⟩ = some (.slice Ao12 t253.length co12):=(blk_cell BK256.out 4).trans rfl
      have hfz15_0:=blk_frozen BK256.out 0
      have hfz15_1:=blk_frozen BK256.out 1
      have hfz15_2:=blk_frozen BK256.out 2
      have hfz15_3:=blk_frozen BK256.out 3
      have hfz15_4:=blk_frozen BK256.out 4
      go_wp2
      go_meet
      case rel => exact ⟨_,(false),((l0.length : Int) % 2048),(false),(0),(([] : List Int)),(.slice none 0 0),⟨by have h_:=H'.out;rwa [Int.emod_emod_of_dvd _ (by decide)] at h_⟩,⟨by have:=HJ2.out;first | omega | exact Nat.le_refl _⟩,⟨by first | exact Kd.R_nil _ _ _ _ _ | exact Kd.N_nil _ _ _ _ _ | exact Kd.V_nil _ _ _ _ _ | exact Kd.Q_nil _ _ _ _ _ | exact Kd.S_nil _ _ _ _ _⟩,⟨by (with_reducible repeat (first | refine blk_drewN ?_ _ | refine blk_drew ?_ | refine blk_alloc ?_ _));refine blk_put (cs := #[.bool false, .int .u32 ((l0.length : Int) % 2048), .bool false, .int .i64 0, .slice Ao12 t253.length co12]) ?_ 4 _ rfl;(with_reducible repeat (first | refine blk_drewN ?_ _ | refine blk_drew ?_ | refine blk_alloc ?_ _));refine blk_put (cs := #[.bool false, .int .u32 ((l0.length : Int) % 2048), .bool false, .int .i64 t252, .slice Ao12 t253.length co12]) ?_ 3 _ rfl;(with_reducible repeat (first | refine blk_drewN ?_ _ | refine blk_drew ?_ | refine blk_alloc ?_ _));refine blk_put (cs := #[.bool false, .int .u32 ((l0.length : Int) % 2048), .bool t251, .int .i64 t252, .slice Ao12 t253.length co12]) ?_ 2 _ rfl;(with_reducible repeat (first | refine blk_drewN ?_ _ | refine blk_drew ?_ | refine blk_alloc ?_ _));refine blk_put (cs := #[.bool false, .int .u32 t250, .bool t251, .int .i64 t252, .slice Ao12 t253.length co12]) ?_ 1 _ rfl;(with_reducible repeat (first | refine blk_drewN ?_ _ | refine blk_drew ?_ | refine blk_alloc ?_ _));refine blk_put (cs := #[.bool t249, .int .u32 t250, .bool t251, .int .i64 t252, .slice Ao12 t253.length co12]) ?_ 0 _ rfl;(with_reducible repeat (first | refine blk_drewN ?_ _ | refine blk_drew ?_ | refine blk_alloc ?_ _));exact BK256.out⟩,⟨by repeat (first | (with_reducible first | exact HB.out | apply below_alloc | apply pw_below_drewN | apply below_drew1 | refine below_set ?_ GE256.out) | exact HB.out)⟩⟩
    case rest =>
     clear HC8
     try clear c1
     try clear p2
     try clear c3
     try clear c4
     try clear c4b0
     try clear c4b1
     try clear c5
     try clear c13
     try clear c14
     try clear hcz11_0
     try clear hcz11_1
     try clear hcz11_2
     try clear hcz11_3
     try clear hcz11_4
     try clear hcz15_0
     try clear hcz15_1
     try clear hcz15_2
     try clear hcz15_3
     try clear hcz15_4
     try clear hfz11_0
     try clear hfz11_1
     try clear hfz11_2
     try clear hfz11_3
     try clear hfz11_4
     try clear hfz15_0
     try clear hfz15_1
     try clear hfz15_2
     try clear hfz15_3
     try clear hfz15_4
     try clear p2
     obtain ⟨kq,x257000_7,x257001_7,x257002_7,x257003_7,x257004_7,u257004,HA,HJ7,HO_257004,BK256,HB⟩:=hcut
     cases kq with
     | zero => exact absurd HA.out (by simp [laws_FnFiveFlips.j1])
     | succ kj7 =>
      have H:=HA.out
      clear HA
      simp only [laws_FnFiveFlips.j1] at H
      replace H:=Option.bind_eq_some_iff.mp H
      obtain ⟨t258,A160,H⟩:=H
      replace H : ((impl_Crc15.f t258).bind fun t259 => ((laws_wBits.f kj7 t259 15).bind fun t260 => (if t258.size + t260.size ≤ 9223372036854775807 then ((spec_Body.f x257000_7 x257001_7 x257002_7 x257003_7 x257004_7).bind fun t261 => (if (t258.size : Int) = (t261.size : Int) then ((impl_Stuff.f (t258 ++ t260)).bind fun t262 => (if t262.size + 3 ≤ 9223372036854775807 then ((impl_Judge.f (t262 ++ (⟨#[49,49,49]⟩ : ByteArray))).bind fun bt263 => (laws_FnFiveFlips.j2 kj7 l1 (t258 ++ t260) (bt263.1 != 0) x257000_7 x257001_7 x257002_7 x257003_7 x257004_7)) else (none))) else (laws_FnFiveFlips.j2 kj7 l1 (t258 ++ t260) true x257000_7 x257001_7 x257002_7 x257003_7 x257004_7))) else (none)))) = some r:=H
      have A16:=Aside0.mk A160
      clear A160
      replace H:=Option.bind_eq_some_iff.mp H
      obtain ⟨t259,A170,H⟩:=H
      replace H : ((laws_wBits.f kj7 t259 15).bind fun t260 => (if t258.size + t260.size ≤ 9223372036854775807 then ((spec_Body.f x257000_7 x257001_7 x257002_7 x257003_7 x257004_7).bind fun t261 => (if (t258.size : Int) = (t261.size : Int) then ((impl_Stuff.f (t258 ++ t260)).bind fun t262 => (if t262.size + 3 ≤ 9223372036854775807 then ((impl_Judge.f (t262 ++ (⟨#[49,49,49]⟩ : ByteArray))).bind fun bt263 => (laws_FnFiveFlips.j2 kj7 l1 (t258 ++ t260) (bt263.1 != 0) x257000_7 x257001_7 x257002_7 x257003_7 x257004_7)) else (none))) else (laws_FnFiveFlips.j2 kj7 l1 (t258 ++ t260) true x257000_7 x257001_7 x257002_7 x257003_7 x257004_7))) else (none))) = some r:=H
      have A17:=Aside0.mk A170
      clear A170
      replace H:=Option.bind_eq_some_iff.mp H
      obtain ⟨t260,A180,H⟩:=H
      replace H : (if t258.size + t260.size ≤ 9223372036854775807 then ((spec_Body.f x257000_7 x257001_7 x257002_7 x257003_7 x257004_7).bind fun t261 => (if (t258.size : Int) = (t261.size : Int) then ((impl_Stuff.f (t258 ++ t260)).bind fun t262 => (if t262.size + 3 ≤ 9223372036854775807 then ((impl_Judge.f (t262 ++ (⟨#[49,49,49]⟩ : ByteArray))).bind fun bt263 => (laws_FnFiveFlips.j2 kj7 l1 (t258 ++ t260) (bt263.1 != 0) x257000_7 x257001_7 x257002_7 x257003_7 x257004_7)) else (none))) else (laws_FnFiveFlips.j2 kj7 l1 (t258 ++ t260) true x257000_7 x257001_7 x257002_7 x257003_7 x257004_7))) else (none)) = some r:=H
      have A18:=Aside0.mk A180
      clear A180
      by_cases c19 : t258.size + t260.size ≤ 9223372036854775807
      ·rw [if_pos c19] at H
       have c19b0:=eq_true c19
       have c19b1 : decide (t258.size + t260.size ≤ 9223372036854775807) = true:=decide_eq_true c19
       try have c19b2 : (9223372036854775807 < t258.size + t260.size) = False:=eq_false (Nat.not_lt.2 c19)
       have HC20:=Aside0.mk H
       clear H
       have hcz21_0 : wc.cell? ⟨gb256,0,none⟩ = some (.bool x257000_7):=(blk_cell BK256.out 0).trans rfl
       have hcz21_1 : wc.cell? ⟨gb256,1,none⟩ = some (.int .u32 x257001_7):=(blk_cell BK256.out 1).trans rfl
       have hcz21_2 : wc.cell? ⟨gb256,2,none⟩ = some (.bool x257002_7):=(blk_cell BK256.out 2).trans rfl
       have hcz21_3 : wc.cell? ⟨gb256,3,none⟩ = some (.int .i64 x257003_7):=(blk_cell BK256.out 3).trans rfl
       have hcz21_4 : wc.cell? ⟨gb256,4,none⟩ = some (u257004):=(blk_cell BK256.out 4).trans rfl
       have hfz21_0:=blk_frozen BK256.out 0
       have hfz21_1:=blk_frozen BK256.out 1
       have hfz21_2:=blk_frozen BK256.out 2
       have hfz21_3:=blk_frozen BK256.out 3
       have hfz21_4:=blk_frozen BK256.out 4
       obtain ⟨Ao22,co22,eo22⟩:=Kd.R_slice HO_257004.out
       subst eo22
       go_upto_region 8 with (first | ((with_reducible refine gate_callee (f:=15) rfl ?_);refine goesL_ (some 37) rfl rfl Try.func15 (by kernel_rfl) rfl #[.agg #[.bool x257000_7, .int .u32 x257001_7, .bool x257002_7, .int .i64 x257003_7, .slice Ao22 x257004_7.length co22]] rfl (by (try simp only [List.map_toArray,List.map_cons,List.map_nil]);first | done | rfl | (simp only [List.length_drop,List.length_take];rfl)) ?_;(with_reducible refine (impl_Body.calls x257000_7 x257001_7 x257002_7 x257003_7 _ _ x257004_7 t258 _ ?side1 ?side2 A16.out).mono ?_);(case side1 => repeat (first | exact (Kd.R_reads' HO_257004.out).2.2 | (with_reducible refine Kd.C_alloc ?_ _) | (with_reducible refine Kd.C_drewN ?_ _) | (with_reducible refine Kd.C_drew ?_)));(case side2 => exact (Kd.R_reads' HO_257004.out).2.1);rintro e w23 ⟨rfl,hb⟩;refine ⟨_,rfl, ?_⟩;have n0_:=Aside0.mk (Kd.R_below (by (with_reducible repeat (first | apply Kd.R_alloc | apply Kd.R_drewN | apply Kd.R_drew));exact HO_257004.out) hb);have n1_:=Aside0.mk (blk_below (g:=gb256) (o := .cells #[.bool x257000_7, .int .u32 x257001_7, .bool x257002_7, .int .i64 x257003_7, .slice Ao22 x257004_7.length co22] 25 (0,0)) (by (with_reducible repeat (first | refine blk_drewN ?_ _ | refine blk_drew ?_ | refine blk_alloc ?_ _));exact BK256.out) hb);have n2_:=Aside0.mk (below_step (by repeat (first | (with_reducible first | exact HB.out | apply below_alloc | apply pw_below_drewN | apply below_drew1 | refine below_set ?_ GE256.out) | exact HB.out)) hb);clear HO_257004;clear BK256;clear HB;have HO_257004:=n0_;have BK256:=n1_;have HB:=n2_;clear n0_ n1_ n2_;(try clear hb);(try clear hb2);(try clear hk);(try clear hi)) | ((with_reducible refine gate_callee (f:=17) rfl ?_);refine goesL_ (some 40) rfl rfl Try.func17 (by kernel_rfl) rfl #[.string t258] rfl (by (try simp only [List.map_toArray,List.map_cons,List.map_nil]);first | done | rfl | (simp only [List.length_drop,List.length_take];rfl)) ?_;(with_reducible refine (impl_Crc15.calls t258 t259 _ A17.out).mono ?_);rintro e w24 ⟨rfl,hb⟩;refine ⟨_,rfl, ?_⟩;have n0_:=Aside0.mk (Kd.R_below (by (with_reducible repeat (first | apply Kd.R_alloc | apply Kd.R_drewN | apply Kd.R_drew));exact HO_257004.out) hb);have n1_:=Aside0.mk (blk_below (g:=gb256) (o := .cells #[.bool x257000_7, .int .u32 x257001_7, .bool x257002_7, .int .i64 x257003_7, .slice Ao22 x257004_7.length co22] 25 (0,0)) (by (with_reducible repeat (first | refine blk_drewN ?_ _ | refine blk_drew ?_ | refine blk_alloc ?_ _));exact BK256.out) hb);have n2_:=Aside0.mk (below_step (by repeat (first | (with_reducible first | exact HB.out | apply below_alloc | apply pw_below_drewN | apply below_drew1 | refine below_set ?_ GE256.out) | exact HB.out)) hb);clear HO_257004;clear BK256;clear HB;have HO_257004:=n0_;have BK256:=n1_;have HB:=n2_;clear n0_ n1_ n2_;(try clear hb);(try clear hb2);(try clear hk);(try clear hi)) | ((with_reducible refine gate_callee (f:=16) rfl ?_);refine goesL_ (some 41) rfl rfl Try.func16 (by kernel_rfl) rfl #[.int .i64 t259, .int .i64 15] rfl (by (try simp only [List.map_toArray,List.map_cons,List.map_nil]);first | done | rfl | (simp only [List.length_drop,List.length_take];rfl)) ?_;(with_reducible refine (laws_wBits.calls kj7 t259 15 t260 _ A18.out).mono ?_);rintro e w25 ⟨rfl,hb⟩;refine ⟨_,rfl, ?_⟩;have n0_:=Aside0.mk (Kd.R_below (by (with_reducible repeat (first | apply Kd.R_alloc | apply Kd.R_drewN | apply Kd.R_drew));exact HO_257004.out) hb);have n1_:=Aside0.mk (blk_below (g:=gb256) (o := .cells #[.bool x257000_7, .int .u32 x257001_7, .bool x257002_7, .int .i64 x257003_7, .slice Ao22 x257004_7.length co22] 25 (0,0)) (by (with_reducible repeat (first | refine blk_drewN ?_ _ | refine blk_drew ?_ | refine blk_alloc ?_ _));exact BK256.out) hb);have n2_:=Aside0.mk (below_step (by repeat (first | (with_reducible first | exact HB.out | apply below_alloc | apply pw_below_drewN | apply below_drew1 | refine below_set ?_ GE256.out) | exact HB.out)) hb);clear HO_257004;clear BK256;clear HB;have HO_257004:=n0_;have BK256:=n1_;have HB:=n2_;clear n0_ n1_ n2_;(try clear hb);(try clear hb2);(try clear hk);(try clear hi)))
       (try simp only [Act.put,List.setIfInBounds_toArray,List.set_cons_zero,List.set_cons_succ])
       go_cut [56] (fun v56 wc => ∃ (kq : Nat) (x56_19 : Bool),v56 = .bool x56_19 ∧ Aside0 (laws_FnFiveFlips.j2 kq l1 (t258 ++ t260) x56_19 x257000_7 x257001_7 x257002_7 x257003_7 x257004_7 = some r) ∧ Aside0 (kq ≤ kj7) ∧ Aside0 (Kd.R (Kd.int .u8) 5 wc w.heap.size (fun _ => True) (.slice Ao22 x257004_7.length co22) x257004_7) ∧ Aside0 (wc.heap[gb256]? = some (.cells #[.bool x257000_7, .int .u32 x257001_7, .bool x257002_7, .int .i64 x257003_7,(.slice Ao22 x257004_7.length co22)] 25 (0,0))) ∧ Aside0 (Below w.heap.size w wc))
       case first =>
        have H:=HC20.out
        clear HC20
        replace H:=Option.bind_eq_some_iff.mp H
        obtain ⟨t261,A260,H⟩:=H
        replace H : (if (t258.size : Int) = (t261.size : Int) then ((impl_Stuff.f (t258 ++ t260)).bind fun t262 => (if t262.size + 3 ≤ 9223372036854775807 then ((impl_Judge.f (t262 ++ (⟨#[49,49,49]⟩ : ByteArray))).bind fun bt263 => (laws_FnFiveFlips.j2 kj7 l1 (t258 ++ t260) (bt263.1 != 0) x257000_7 x257001_7 x257002_7 x257003_7 x257004_7)) else (none))) else (laws_FnFiveFlips.j2 kj7 l1 (t258 ++ t260) true x257000_7 x257001_7 x257002_7 x257003_7 x257004_7)) = some r:=H
        have A26:=Aside0.mk A260
        clear A260
        by_cases c27 : (t258.size : Int) = (t261.size : Int)
        ·rw [if_pos c27] at H
         have c27b0 : ((t258.size : Int) == (t261.size : Int)) = true:=beq_iff_eq.mpr c27
         have c27b1 : ((t258.size : Int) != (t261.size : Int)) = false:=bne_eq_false_iff_eq.mpr c27
         have c27b2 : (t258.size == t261.size) = true:=by first | simpa using c27 | (simp at c27 ⊢;omega)
         clear c27
         (first | rw [c27b0] | (simp only [i64_w,i32_w];rw [c27b0]) | skip)
         replace H:=Option.bind_eq_some_iff.mp H
         obtain ⟨t262,A280,H⟩:=H
         replace H : (if t262.size + 3 ≤ 9223372036854775807 then ((impl_Judge.f (t262 ++ (⟨#[49,49,49]⟩ : ByteArray))).bind fun bt263 => (laws_FnFiveFlips.j2 kj7 l1 (t258 ++ t260) (bt263.1 != 0) x257000_7 x257001_7 x257002_7 x257003_7 x257004_7)) else (none)) = some r:=H
         have A28:=Aside0.mk A280
         clear A280
         by_cases c29 : t262.size + 3 ≤ 9223372036854775807
         ·rw [if_pos c29] at H
          have c29b0:=eq_true c29
          have c29b1 : decide (t262.size + 3 ≤ 9223372036854775807) = true:=decide_eq_true c29
          try have c29b2 : (9223372036854775807 < t262.size + 3) = False:=eq_false (Nat.not_lt.2 c29)
          replace H:=Option.bind_eq_some_iff.mp H
          obtain ⟨⟨t263,t264,t265,t266⟩,A300,H⟩:=H
          replace H : (laws_FnFiveFlips.j2 kj7 l1 (t258 ++ t260) (t263 != 0) x257000_7 x257001_7 x257002_7 x257003_7 x257004_7) = some r:=H
          have A30:=Aside0.mk A300
          clear A300
          have H':=Aside0.mk H
          clear H
          have hcz31_0 : w25.cell? ⟨gb256,0,none⟩ = some (.bool x257000_7):=(blk_cell BK256.out 0).trans rfl
          have hcz31_1 : w25.cell? ⟨gb256,1,none⟩ = some (.int .u32 x257001_7):=(blk_cell BK256.out 1).trans rfl
          have hcz31_2 : w25.cell? ⟨gb256,2,none⟩ = some (.bool x257002_7):=(blk_cell BK256.out 2).trans rfl
          have hcz31_3 : w25.cell? ⟨gb256,3,none⟩ = some (.int .i64 x257003_7):=(blk_cell BK256.out 3).trans rfl
          have hcz31_4 : w25.cell? ⟨gb256,4,none⟩ = some (.slice Ao22 x257004_7.length co22):=(blk_cell BK256.out 4).trans rfl
          have hfz31_0:=blk_frozen BK256.out 0
          have hfz31_1:=blk_frozen BK256.out 1
          have hfz31_2:=blk_frozen BK256.out 2
          have hfz31_3:=blk_frozen BK256.out 3
          have hfz31_4:=blk_frozen BK256.out 4
          go_wp2_with (first | ((with_reducible refine gate_callee (f:=18) rfl ?_);refine goesL_ (some 46) rfl rfl Try.func18 (by kernel_rfl) rfl #[.agg #[.bool x257000_7, .int .u32 x257001_7, .bool x257002_7, .int .i64 x257003_7, .slice Ao22 x257004_7.length co22]] rfl (by (try simp only [List.map_toArray,List.map_cons,List.map_nil]);first | done | rfl | (simp only [List.length_drop,List.length_take];rfl)) ?_;(with_reducible refine (spec_Body.calls x257000_7 x257001_7 x257002_7 x257003_7 _ _ x257004_7 t261 _ ?side1 ?side2 A26.out).mono ?_);(case side1 => repeat (first | exact (Kd.R_reads' HO_257004.out).2.2 | (with_reducible refine Kd.C_alloc ?_ _) | (with_reducible refine Kd.C_drewN ?_ _) | (with_reducible refine Kd.C_drew ?_)));(case side2 => exact (Kd.R_reads' HO_257004.out).2.1);rintro e w32 ⟨rfl,hb⟩;refine ⟨_,rfl, ?_⟩;have n0_:=Aside0.mk (Kd.R_below (by (with_reducible repeat (first | apply Kd.R_alloc | apply Kd.R_drewN | apply Kd.R_drew));exact HO_257004.out) hb);have n1_:=Aside0.mk (blk_below (g:=gb256) (o := .cells #[.bool x257000_7, .int .u32 x257001_7, .bool x257002_7, .int .i64 x257003_7, .slice Ao22 x257004_7.length co22] 25 (0,0)) (by (with_reducible repeat (first | refine blk_drewN ?_ _ | refine blk_drew ?_ | refine blk_alloc ?_ _));exact BK256.out) hb);have n2_:=Aside0.mk (below_step (by repeat (first | (with_reducible first | exact HB.out | apply below_alloc | apply pw_below_drewN | apply below_drew1 | refine below_set ?_ GE256.out) | exact HB.out)) hb);clear HO_257004;clear BK256;clear HB;have HO_257004:=n0_;have BK256:=n1_;have HB:=n2_;clear n0_ n1_ n2_;(try clear hb);(try clear hb2);(try clear hk);(try clear hi)) | (go_at_call 20;(with_reducible refine (impl_Stuff.calls (t258 ++ t260) t262 _ A28.out).mono ?_);rintro e w33 ⟨rfl,hb⟩;have n0_:=Aside0.mk (Kd.R_below (by (with_reducible repeat (first | apply Kd.R_alloc | apply Kd.R_drewN | apply Kd.R_drew));exact HO_257004.out) hb);have n1_:=Aside0.mk (blk_below (g:=gb256) (o := .cells #[.bool x257000_7, .int .u32 x257001_7, .bool x257002_7, .int .i64 x257003_7, .slice Ao22 x257004_7.length co22] 25 (0,0)) (by (with_reducible repeat (first | refine blk_drewN ?_ _ | refine blk_drew ?_ | refine blk_alloc ?_ _));exact BK256.out) hb);have n2_:=Aside0.mk (below_step (by repeat (first | (with_reducible first | exact HB.out | apply below_alloc | apply pw_below_drewN | apply below_drew1 | refine below_set ?_ GE256.out) | exact HB.out)) hb);clear HO_257004;clear BK256;clear HB;have HO_257004:=n0_;have BK256:=n1_;have HB:=n2_;clear n0_ n1_ n2_;(try clear hb);(try clear hb2);(try clear hk);(try clear hi)) | (go_at_call 19;(with_reducible refine (impl_Judge.calls (t262 ++ (⟨#[49,49,49]⟩ : ByteArray)) t263 t264 t265 t266 _ A30.out).mono ?_);rintro e w34 ⟨rfl,hb⟩;have n0_:=Aside0.mk (Kd.R_below (by (with_reducible repeat (first | apply Kd.R_alloc | apply Kd.R_drewN | apply Kd.R_drew));exact HO_257004.out) hb);have n1_:=Aside0.mk (blk_below (g:=gb256) (o := .cells #[.bool x257000_7, .int .u32 x257001_7, .bool x257002_7, .int .i64 x257003_7, .slice Ao22 x257004_7.length co22] 25 (0,0)) (by (with_reducible repeat (first | refine blk_drewN ?_ _ | refine blk_drew ?_ | refine blk_alloc ?_ _));exact BK256.out) hb);have n2_:=Aside0.mk (below_step (by repeat (first | (with_reducible first | exact HB.out | apply below_alloc | apply pw_below_drewN | apply below_drew1 | refine below_set ?_ GE256.out) | exact HB.out)) hb);clear HO_257004;clear BK256;clear HB;have HO_257004:=n0_;have BK256:=n1_;have HB:=n2_;clear n0_ n1_ n2_;(try clear hb);(try clear hb2);(try clear hk);(try clear hi)))
          go_meet
          case rel => exact ⟨_,((t263 != 0)),(by first | rfl | (simp;done) | (simp [*];done)),H',⟨by have:=HJ2.out;have:=HJ7.out;first | omega | exact Nat.le_refl _⟩,⟨by (with_reducible repeat (first | apply Kd.R_alloc | apply Kd.R_drewN | apply Kd.R_drew));exact HO_257004.out⟩,⟨by (with_reducible repeat (first | refine blk_drewN ?_ _ | refine blk_drew ?_ | refine blk_alloc ?_ _));exact BK256.out⟩,⟨by repeat (first | (with_reducible first | exact HB.out | apply below_alloc | apply pw_below_drewN | apply below_drew1 | refine below_set ?_ GE256.out) | exact HB.out)⟩⟩
         ·rw [if_neg c29] at H
          exact absurd H (by simp)
        ·rw [if_neg c27] at H
         have c27b0 : ((t258.size : Int) == (t261.size : Int)) = false:=beq_eq_false_iff_ne.mpr c27
         have c27b1 : ((t258.size : Int) != (t261.size : Int)) = true:=bne_iff_ne.mpr c27
         have c27b2 : (t258.size == t261.size) = false:=by first | simpa using c27 | (simp at c27 ⊢;omega)
         (first | rw [c27b0] | (simp only [i64_w,i32_w];rw [c27b0]) | skip)
         have H':=Aside0.mk H
         clear H
         have hcz35_0 : w25.cell? ⟨gb256,0,none⟩ = some (.bool x257000_7):=(blk_cell BK256.out 0).trans rfl
         have hcz35_1 : w25.cell? ⟨gb256,1,none⟩ = some (.int .u32 x257001_7):=(blk_cell BK256.out 1).trans rfl
         have hcz35_2 : w25.cell? ⟨gb256,2,none⟩ = some (.bool x257002_7):=(blk_cell BK256.out 2).trans rfl
         have hcz35_3 : w25.cell? ⟨gb256,3,none⟩ = some (.int .i64 x257003_7):=(blk_cell BK256.out 3).trans rfl
         have hcz35_4 : w25.cell? ⟨gb256,4,none⟩ = some (.slice Ao22 x257004_7.length co22):=(blk_cell BK256.out 4).trans rfl
         have hfz35_0:=blk_frozen BK256.out 0
         have hfz35_1:=blk_frozen BK256.out 1
         have hfz35_2:=blk_frozen BK256.out 2
         have hfz35_3:=blk_frozen BK256.out 3
         have hfz35_4:=blk_frozen BK256.out 4
         go_wp2_with (first | ((with_reducible refine gate_callee (f:=18) rfl ?_);refine goesL_ (some 46) rfl rfl Try.func18 (by kernel_rfl) rfl #[.agg #[.bool x257000_7, .int .u32 x257001_7, .bool x257002_7, .int .i64 x257003_7, .slice Ao22 x257004_7.length co22]] rfl (by (try simp only [List.map_toArray,List.map_cons,List.map_nil]);first | done | rfl | (simp only [List.length_drop,List.length_take];rfl)) ?_;(with_reducible refine (spec_Body.calls x257000_7 x257001_7 x257002_7 x257003_7 _ _ x257004_7 t261 _ ?side1 ?side2 A26.out).mono ?_);(case side1 => repeat (first | exact (Kd.R_reads' HO_257004.out).2.2 | (with_reducible refine Kd.C_alloc ?_ _) | (with_reducible refine Kd.C_drewN ?_ _) | (with_reducible refine Kd.C_drew ?_)));(case side2 => exact (Kd.R_reads' HO_257004.out).2.1);rintro e w36 ⟨rfl,hb⟩;refine ⟨_,rfl, ?_⟩;have n0_:=Aside0.mk (Kd.R_below (by (with_reducible repeat (first | apply Kd.R_alloc | apply Kd.R_drewN | apply Kd.R_drew));exact HO_257004.out) hb);have n1_:=Aside0.mk (blk_below (g:=gb256) (o := .cells #[.bool x257000_7, .int .u32 x257001_7, .bool x257002_7, .int .i64 x257003_7, .slice Ao22 x257004_7.length co22] 25 (0,0)) (by (with_reducible repeat (first | refine blk_drewN ?_ _ | refine blk_drew ?_ | refine blk_alloc ?_ _));exact BK256.out) hb);have n2_:=Aside0.mk (below_step (by repeat (first | (with_reducible first | exact HB.out | apply below_alloc | apply pw_below_drewN | apply below_drew1 | refine below_set ?_ GE256.out) | exact HB.out)) hb);clear HO_257004;clear BK256;clear HB;have HO_257004:=n0_;have BK256:=n1_;have HB:=n2_;clear n0_ n1_ n2_;(try clear hb);(try clear hb2);(try clear hk);(try clear hi)))
         go_meet
         case rel => exact ⟨_,(true),(by first | rfl | (simp;done) | (simp [*];done)),H',⟨by have:=HJ2.out;have:=HJ7.out;first | omega | exact Nat.le_refl _⟩,⟨by (with_reducible repeat (first | apply Kd.R_alloc | apply Kd.R_drewN | apply Kd.R_drew));exact HO_257004.out⟩,⟨by (with_reducible repeat (first | refine blk_drewN ?_ _ | refine blk_drew ?_ | refine blk_alloc ?_ _));exact BK256.out⟩,⟨by repeat (first | (with_reducible first | exact HB.out | apply below_alloc | apply pw_below_drewN | apply below_drew1 | refine below_set ?_ GE256.out) | exact HB.out)⟩⟩
       case rest =>
        clear HC20
        try clear c1
        try clear c2
        try clear p2
        try clear c3
        try clear c4
        try clear c4b0
        try clear c4b1
        try clear c5
        try clear c13
        try clear c14
        try clear c15
        try clear c16
        try clear c17
        try clear c18
        try clear c19
        try clear c19b0
        try clear c19b1
        try clear c19b2
        try clear c27
        try clear c27b0
        try clear c27b1
        try clear c27b2
        try clear c29
        try clear c29b0
        try clear c29b1
        try clear c29b2
        try clear hcz11_0
        try clear hcz11_1
        try clear hcz11_2
        try clear hcz11_3
        try clear hcz11_4
        try clear hcz15_0
        try clear hcz15_1
        try clear hcz15_2
        try clear hcz15_3
        try clear hcz15_4
        try clear hcz21_0
        try clear hcz21_1
        try clear hcz21_2
        try clear hcz21_3
        try clear hcz21_4
        try clear hcz31_0
        try clear hcz31_1
        try clear hcz31_2
        try clear hcz31_3
        try clear hcz31_4
        try clear hcz35_0
        try clear hcz35_1
        try clear hcz35_2
        try clear hcz35_3
        try clear hcz35_4
        try clear hfz11_0
        try clear hfz11_1
        try clear hfz11_2
        try clear hfz11_3
        try clear hfz11_4
        try clear hfz15_0
        try clear hfz15_1
        try clear hfz15_2
        try clear hfz15_3
        try clear hfz15_4
        try clear hfz21_0
        try clear hfz21_1
        try clear hfz21_2
        try clear hfz21_3
        try clear hfz21_4
        try clear hfz31_0
        try clear hfz31_1
        try clear hfz31_2
        try clear hfz31_3
        try clear hfz31_4
        try clear hfz35_0
        try clear hfz35_1
        try clear hfz35_2
        try clear hfz35_3
        try clear hfz35_4
        try clear p2
        obtain ⟨kq,x56_19,rfl,HA,HJ19,HO_257004,BK256,HB⟩:=hcut
        cases kq with
        | zero => exact absurd HA.out (by simp [laws_FnFiveFlips.j2])
        | succ kj19 =>
         have H:=HA.out
         clear HA
         simp only [laws_FnFiveFlips.j2] at H
         by_cases c37 : x56_19 = true
         ·subst c37
          have H1 : (some false) = some r:=by rw [if_pos rfl] at H;exact H
          clear H
          have H:=H1
          clear H1
          obtain rfl:=Option.some.inj H
          go_wp2
          go_ret
          exact ⟨by first | rfl | (simp [errW_none,errW_some] <;> rfl) | (simp [*,errW_none,errW_some] <;> rfl),by repeat (first | (with_reducible first | exact HB.out | apply below_alloc | apply pw_below_drewN | apply below_drew1 | refine below_set ?_ GE256.out) | exact HB.out)⟩
         ·replace c37:=Bool.eq_false_iff.mpr c37
          subst c37
          have H1 : ((impl_Stuff.f (t258 ++ t260)).bind fun t267 => (if t267.size + 3 ≤ 9223372036854775807 then ((impl_Judge.f (t267 ++ (⟨#[49,49,49]⟩ : ByteArray))).bind fun bt268 => (if bt268.2.1 = 14 then ((laws_wOpen.f kj19 x257000_7 x257001_7 x257002_7 x257003_7 x257004_7).bind fun t272 => ((laws_wByte.f l1 0).bind fun t278 => (laws_FnFiveFlips.l0 kj19 l1 (t258 ++ t260) t272 (([] : List Int)) (wrap64 (1 + (Int.tmod t278 5))) 0))) else (some false))) else (none))) = some r:=by rw [if_neg (show ¬ (false = true) by decide)] at H;exact H
          clear H
          have H:=H1
          clear H1
          replace H:=Option.bind_eq_some_iff.mp H
          obtain ⟨t267,A380,H⟩:=H
          replace H : (if t267.size + 3 ≤ 9223372036854775807 then ((impl_Judge.f (t267 ++ (⟨#[49,49,49]⟩ : ByteArray))).bind fun bt268 => (if bt268.2.1 = 14 then ((laws_wOpen.f kj19 x257000_7 x257001_7 x257002_7 x257003_7 x257004_7).bind fun t272 => ((laws_wByte.f l1 0).bind fun t278 => (laws_FnFiveFlips.l0 kj19 l1 (t258 ++ t260) t272 (([] : List Int)) (wrap64 (1 + (Int.tmod t278 5))) 0))) else (some false))) else (none)) = some r:=H
          have A38:=Aside0.mk A380
          clear A380
          by_cases c39 : t267.size + 3 ≤ 9223372036854775807
          ·rw [if_pos c39] at H
           have c39b0:=eq_true c39
           have c39b1 : decide (t267.size + 3 ≤ 9223372036854775807) = true:=decide_eq_true c39
           try have c39b2 : (9223372036854775807 < t267.size + 3) = False:=eq_false (Nat.not_lt.2 c39)
           replace H:=Option.bind_eq_some_iff.mp H
           obtain ⟨⟨t268,t269,t270,t271⟩,A400,H⟩:=H
           replace H : (if t269 = 14 then ((laws_wOpen.f kj19 x257000_7 x257001_7 x257002_7 x257003_7 x257004_7).bind fun t272 => ((laws_wByte.f l1 0).bind fun t278 => (laws_FnFiveFlips.l0 kj19 l1 (t258 ++ t260) t272 (([] : List Int)) (wrap64 (1 + (Int.tmod t278 5))) 0))) else (some false)) = some r:=H
           have A40:=Aside0.mk A400
           clear A400
           by_cases c41 : t269 = 14
           ·rw [if_pos c41] at H
            have c41b0 : (t269 == 14) = true:=beq_iff_eq.mpr c41
            have c41b1 : (t269 != 14) = false:=bne_eq_false_iff_eq.mpr c41
            clear c41
            replace H:=Option.bind_eq_some_iff.mp H
            obtain ⟨t272,A420,H⟩:=H
            replace H : ((laws_wByte.f l1 0).bind fun t278 => (laws_FnFiveFlips.l0 kj19 l1 (t258 ++ t260) t272 (([] : List Int)) (wrap64 (1 + (Int.tmod t278 5))) 0)) = some r:=H
            have A42:=Aside0.mk A420
            clear A420
            obtain ⟨y275,hy275⟩ : ∃ y_ : List Int,y_ = (([] : List Int)):=⟨_,rfl⟩
            replace H : ((laws_wByte.f l1 0).bind fun t278 => (laws_FnFiveFlips.l0 kj19 l1 (t258 ++ t260) t272 y275 (wrap64 (1 + (Int.tmod t278 5))) 0)) = some r:=by first | (rw [hy275];with_reducible exact H) | (have H2_:=(Option.bind_some _ _).symm.trans H;rw [hy275];with_reducible exact H2_) | (have H2_:=(Option.bind_some _ _).symm.trans H;with_reducible exact H2_) | with_reducible exact H | (rw [hy275];exact H) | exact H
            have Ny275:=Aside0.mk hy275
            clear hy275
            replace H:=Option.bind_eq_some_iff.mp H
            obtain ⟨t278,A430,H⟩:=H
            replace H : (laws_FnFiveFlips.l0 kj19 l1 (t258 ++ t260) t272 y275 (wrap64 (1 + (Int.tmod t278 5))) 0) = some r:=H
            have A43:=Aside0.mk A430
            clear A430
            have H':=Aside0.mk H
            clear H
            go_wp2_with (first | ((with_reducible refine gate_callee (f:=20) rfl ?_);refine goesL_ (some 58) rfl rfl Try.func20 (by kernel_rfl) rfl #[.string (t258 ++ t260)] rfl (by (try simp only [List.map_toArray,List.map_cons,List.map_nil]);first | done | rfl | (simp only [List.length_drop,List.length_take];rfl)) ?_;(with_reducible refine (impl_Stuff.calls (t258 ++ t260) t267 _ A38.out).mono ?_);rintro e w44 ⟨rfl,hb⟩;refine ⟨_,rfl, ?_⟩;have n0_:=Aside0.mk (Kd.R_below (by (with_reducible repeat (first | apply Kd.R_alloc | apply Kd.R_drewN | apply Kd.R_drew));exact HO_257004.out) hb);have n1_:=Aside0.mk (blk_below (g:=gb256) (o := .cells #[.bool x257000_7, .int .u32 x257001_7, .bool x257002_7, .int .i64 x257003_7, .slice Ao22 x257004_7.length co22] 25 (0,0)) (by (with_reducible repeat (first | refine blk_drewN ?_ _ | refine blk_drew ?_ | refine blk_alloc ?_ _));exact BK256.out) hb);have n2_:=Aside0.mk (below_step (by repeat (first | (with_reducible first | exact HB.out | apply below_alloc | apply pw_below_drewN | apply below_drew1 | refine below_set ?_ GE256.out) | exact HB.out)) hb);clear HO_257004;clear BK256;clear HB;have HO_257004:=n0_;have BK256:=n1_;have HB:=n2_;clear n0_ n1_ n2_;(try clear hb);(try clear hb2);(try clear hk);(try clear hi)) | ((with_reducible refine gate_callee (f:=19) rfl ?_);refine goesL_ (some 60) rfl rfl Try.func19 (by kernel_rfl) rfl #[.string (t267 ++ (⟨#[49,49,49]⟩ : ByteArray))] rfl (by (try simp only [List.map_toArray,List.map_cons,List.map_nil]);first | done | rfl | (simp only [List.length_drop,List.length_take];rfl)) ?_;(with_reducible refine (impl_Judge.calls (t267 ++ (⟨#[49,49,49]⟩ : ByteArray)) t268 t269 t270 t271 _ A40.out).mono ?_);rintro e w45 ⟨rfl,hb⟩;refine ⟨_,rfl, ?_⟩;have n0_:=Aside0.mk (Kd.R_below (by (with_reducible repeat (first | apply Kd.R_alloc | apply Kd.R_drewN | apply Kd.R_drew));exact HO_257004.out) hb);have n1_:=Aside0.mk (blk_below (g:=gb256) (o := .cells #[.bool x257000_7, .int .u32 x257001_7, .bool x257002_7, .int .i64 x257003_7, .slice Ao22 x257004_7.length co22] 25 (0,0)) (by (with_reducible repeat (first | refine blk_drewN ?_ _ | refine blk_drew ?_ | refine blk_alloc ?_ _));exact BK256.out) hb);have n2_:=Aside0.mk (below_step (by repeat (first | (with_reducible first | exact HB.out | apply below_alloc | apply pw_below_drewN | apply below_drew1 | refine below_set ?_ GE256.out) | exact HB.out)) hb);clear HO_257004;clear BK256;clear HB;have HO_257004:=n0_;have BK256:=n1_;have HB:=n2_;clear n0_ n1_ n2_;(try clear hb);(try clear hb2);(try clear hk);(try clear hi);have hcz46_0 : w45.cell? ⟨gb256,0,none⟩ = some (.bool x257000_7):=(blk_cell BK256.out 0).trans rfl;have hcz46_1 : w45.cell? ⟨gb256,1,none⟩ = some (.int .u32 x257001_7):=(blk_cell BK256.out 1).trans rfl;have hcz46_2 : w45.cell? ⟨gb256,2,none⟩ = some (.bool x257002_7):=(blk_cell BK256.out 2).trans rfl;have hcz46_3 : w45.cell? ⟨gb256,3,none⟩ = some (.int .i64 x257003_7):=(blk_cell BK256.out 3).trans rfl;have hcz46_4 : w45.cell? ⟨gb256,4,none⟩ = some (.slice Ao22 x257004_7.length co22):=(blk_cell BK256.out 4).trans rfl;have hfz46_0:=blk_frozen BK256.out 0;have hfz46_1:=blk_frozen BK256.out 1;have hfz46_2:=blk_frozen BK256.out 2;have hfz46_3:=blk_frozen BK256.out 3;have hfz46_4:=blk_frozen BK256.out 4) | ((with_reducible refine gate_callee (f:=21) rfl ?_);refine goesL_ (some 64) rfl rfl Try.func21 (by kernel_rfl) rfl #[.agg #[.bool x257000_7, .int .u32 x257001_7, .bool x257002_7, .int .i64 x257003_7, .slice Ao22 x257004_7.length co22]] rfl (by (try simp only [List.map_toArray,List.map_cons,List.map_nil]);first | done | rfl | (simp only [List.length_drop,List.length_take];rfl)) ?_;(with_reducible refine (laws_wOpen.calls kj19 x257000_7 x257001_7 x257002_7 x257003_7 _ _ x257004_7 t272 _ ?side1 ?side2 A42.out).mono ?_);(case side1 => repeat (first | exact (Kd.R_reads' HO_257004.out).2.2 | (with_reducible refine Kd.C_alloc ?_ _) | (with_reducible refine Kd.C_drewN ?_ _) | (with_reducible refine Kd.C_drew ?_)));(case side2 => exact (Kd.R_reads' HO_257004.out).2.1);rintro e w47 ⟨v273,rfl,ho0,hb⟩;refine ⟨_,rfl, ?_⟩;have n0_:=Aside0.mk (Kd.R_below (by (with_reducible repeat (first | apply Kd.R_alloc | apply Kd.R_drewN | apply Kd.R_drew));exact HO_257004.out) hb);have n1_:=Aside0.mk (Kd.R_lower ho0 (below_size (by repeat (first | (with_reducible first | exact HB.out | apply below_alloc | apply pw_below_drewN | apply below_drew1 | refine below_set ?_ GE256.out) | exact HB.out))));have n2_:=Aside0.mk (blk_below (g:=gb256) (o := .cells #[.bool x257000_7, .int .u32 x257001_7, .bool x257002_7, .int .i64 x257003_7, .slice Ao22 x257004_7.length co22] 25 (0,0)) (by (with_reducible repeat (first | refine blk_drewN ?_ _ | refine blk_drew ?_ | refine blk_alloc ?_ _));exact BK256.out) hb);have n3_:=Aside0.mk (below_step (by repeat (first | (with_reducible first | exact HB.out | apply below_alloc | apply pw_below_drewN | apply below_drew1 | refine below_set ?_ GE256.out) | exact HB.out)) hb);clear HO_257004;clear BK256;clear HB;have HO_257004:=n0_;have HO274:=n1_;have BK256:=n2_;have HB:=n3_;clear n0_ n1_ n2_ n3_;(try clear hb);(try clear hb2);(try clear hk);(try clear hi);(try clear ho0)) | ((with_reducible refine gate_dst (N:=65) rfl ?_);(try (refine gate_guard (by rfl) ?_;dsimp only));refine Kd.R_lit (Kd.int .i64) _ 3 ?hg (N:=65) ?hd (xs:=([] : List Int)) (inner := []) (ok:=fun _ => True) (okp:=fun _ => True) ?hr ?hp (fun _ hk => hk) trivial (Below.refl _ _) (Nat.le_refl _) (by simp) ?_;(case hd => rfl);(case hg => rfl);(case hr => first | (go_simp;done) | (go_simp;rfl));(case hp => exact (Reps.none _ _));intro v276 w48 ho49 hb hg_ hnew_;clear hg_ hnew_;(first | rw [← Ny275.out] at ho49 | (simp only [Int.reduceToNat] at ho49;rw [← Ny275.out] at ho49));have n0_:=Aside0.mk (Kd.R_below (by (with_reducible repeat (first | apply Kd.R_alloc | apply Kd.R_drewN | apply Kd.R_drew));exact HO_257004.out) hb);have n1_:=Aside0.mk (Kd.R_elder' (by (with_reducible repeat (first | apply Kd.R_alloc | apply Kd.R_drewN | apply Kd.R_drew));exact HO274.out) (Kd.R_base ho49) hb);have n2_:=Aside0.mk (Kd.R_lower (Kd.R_new' ho49 (Kd.R_lt (by (with_reducible repeat (first | apply Kd.R_alloc | apply Kd.R_drewN | apply Kd.R_drew));exact HO274.out))) (below_size (by repeat (first | (with_reducible first | exact HB.out | apply below_alloc | apply pw_below_drewN | apply below_drew1 | refine below_set ?_ GE256.out) | exact HB.out))));have n3_:=Aside0.mk (blk_below (g:=gb256) (o := .cells #[.bool x257000_7, .int .u32 x257001_7, .bool x257002_7, .int .i64 x257003_7, .slice Ao22 x257004_7.length co22] 25 (0,0)) (by (with_reducible repeat (first | refine blk_drewN ?_ _ | refine blk_drew ?_ | refine blk_alloc ?_ _));exact BK256.out) hb);have n4_:=Aside0.mk (below_step (by repeat (first | (with_reducible first | exact HB.out | apply below_alloc | apply pw_below_drewN | apply below_drew1 | refine below_set ?_ GE256.out) | exact HB.out)) hb);clear HO_257004;clear HO274;clear BK256;clear HB;have HO_257004:=n0_;have HO274:=n1_;have HO277:=n2_;have BK256:=n3_;have HB:=n4_;clear n0_ n1_ n2_ n3_ n4_;clear hb ho49) | ((with_reducible refine gate_callee (f:=22) rfl ?_);refine goesL_ (some 67) rfl rfl Try.func22 (by kernel_rfl) rfl #[.slice A1 l1.length c1, .int .i64 0] rfl (by (try simp only [List.map_toArray,List.map_cons,List.map_nil]);first | done | rfl | (simp only [List.length_drop,List.length_take];rfl)) ?_;(with_reducible refine (laws_wByte.calls _ _ l1 0 t278 _ ?side1 ?side2 A43.out).mono ?_);(case side1 => repeat (first | exact (Kd.C_below HR1.out HB.out) | (with_reducible refine Kd.C_alloc ?_ _) | (with_reducible refine Kd.C_drewN ?_ _) | (with_reducible refine Kd.C_drew ?_)));(case side2 => exact HC1.out);rintro e w' ⟨rfl,⟨nd,rfl⟩⟩;refine ⟨_,rfl, ?_⟩))
            go_loopg [7,9,11] kj19 (fun kq v7 v9 v11 w' => ∃ (x7_4 : ByteArray) (x9_4 : List Int) (x11_4 : Int),v7 = .string x7_4 ∧ v11 = .int .i64 x11_4 ∧ Aside0 (laws_FnFiveFlips.l0 kq l1 x7_4 t272 x9_4 (wrap64 (1 + (Int.tmod t278 5))) x11_4 = some r) ∧ Aside0 (kq ≤ kj19) ∧ Aside0 (Kd.R (Kd.int .i64) 3 w' w.heap.size (fun k_ => some k_ ≠ (v9 : Value).ownBlock) v273 t272) ∧ Aside0 (Kd.R (Kd.int .i64) 3 w' w.heap.size (fun k_ => some k_ ≠ (v273 : Value).ownBlock) v9 x9_4) ∧ Aside0 (Kd.R (Kd.int .u8) 5 w' w.heap.size (fun _ => True) (.slice Ao22 x257004_7.length co22) x257004_7) ∧ Aside0 (w'.heap[gb256]? = some (.cells #[.bool x257000_7, .int .u32 x257001_7, .bool x257002_7, .int .i64 x257003_7,(.slice Ao22 x257004_7.length co22)] 25 (0,0))) ∧ Aside0 (Below w.heap.size w w'))
            case atStart => exact ⟨((t258 ++ t260)),(y275),(0),(by first | rfl | (simp;done) | (simp [*];done)),(by first | rfl | (simp;done) | (simp [*];done)),H',⟨Nat.le_refl _⟩,⟨by (with_reducible repeat (first | apply Kd.R_alloc | apply Kd.R_drewN | apply Kd.R_drew));exact Kd.R_mono HO274.out (fun _ hk => hk.2)⟩,⟨by (with_reducible repeat (first | apply Kd.R_alloc | apply Kd.R_drewN | apply Kd.R_drew));exact Kd.R_mono HO277.out (fun _ hk => hk.2)⟩,⟨by (with_reducible repeat (first | apply Kd.R_alloc | apply Kd.R_drewN | apply Kd.R_drew));exact HO_257004.out⟩,⟨by (with_reducible repeat (first | refine blk_drewN ?_ _ | refine blk_drew ?_ | refine blk_alloc ?_ _));exact BK256.out⟩,⟨by repeat (first | (with_reducible first | exact HB.out | apply below_alloc | apply pw_below_drewN | apply below_drew1 | refine below_set ?_ GE256.out) | exact HB.out)⟩⟩
            case round =>
             clear H'
             try clear c1
             try clear c2
             try clear p2
             try clear c3
             try clear c4
             try clear c4b0
             try clear c4b1
             try clear c5
             try clear p6
             try clear c13
             try clear c14
             try clear c15
             try clear c16
             try clear c17
             try clear c18
             try clear c19
             try clear c19b0
             try clear c19b1
             try clear c19b2
             try clear c20
             try clear c21
             try clear c22
             try clear c27
             try clear c27b0
             try clear c27b1
             try clear c27b2
             try clear c29
             try clear c29b0
             try clear c29b1
             try clear c29b2
             try clear c37
             try clear c39
             try clear c39b0
             try clear c39b1
             try clear c39b2
             try clear c41
             try clear c41b0
             try clear c41b1
             try clear hcz11_0
             try clear hcz11_1
             try clear hcz11_2
             try clear hcz11_3
             try clear hcz11_4
             try clear hcz15_0
             try clear hcz15_1
             try clear hcz15_2
             try clear hcz15_3
             try clear hcz15_4
             try clear hcz21_0
             try clear hcz21_1
             try clear hcz21_2
             try clear hcz21_3
             try clear hcz21_4
             try clear hcz31_0
             try clear hcz31_1
             try clear hcz31_2
             try clear hcz31_3
             try clear hcz31_4
             try clear hcz35_0
             try clear hcz35_1
             try clear hcz35_2
             try clear hcz35_3
             try clear hcz35_4
             try clear hcz46_0
             try clear hcz46_1
             try clear hcz46_2
             try clear hcz46_3
             try clear hcz46_4
             try clear hfz11_0
             try clear hfz11_1
             try clear hfz11_2
             try clear hfz11_3
             try clear hfz11_4
             try clear hfz15_0
             try clear hfz15_1
             try clear hfz15_2
             try clear hfz15_3
             try clear hfz15_4
             try clear hfz21_0
             try clear hfz21_1
             try clear hfz21_2
             try clear hfz21_3
             try clear hfz21_4
             try clear hfz31_0
             try clear hfz31_1
             try clear hfz31_2
             try clear hfz31_3
             try clear hfz31_4
             try clear hfz35_0
             try clear hfz35_1
             try clear hfz35_2
             try clear hfz35_3
             try clear hfz35_4
             try clear hfz46_0
             try clear hfz46_1
             try clear hfz46_2
             try clear hfz46_3
             try clear hfz46_4
             try clear p2
             obtain ⟨x7_4,x9_4,x11_4,rfl,rfl,HA,HK4,HO_8,HO_9,HO_257004,BK256,HB⟩:=hrel
             cases gk with
             | zero => exact absurd HA.out (by simp [laws_FnFiveFlips.l0])
             | succ k4 =>
              have H:=HA.out
              clear HA
              simp only [laws_FnFiveFlips.l0] at H
              by_cases c50 : x11_4 < (wrap64 (1 + (Int.tmod t278 5)))
              ·rw [if_pos c50] at H
               have c50b0 : decide (x11_4 < (wrap64 (1 + (Int.tmod t278 5)))) = true:=decide_eq_true c50
               clear c50
               replace H:=Option.bind_eq_some_iff.mp H
               obtain ⟨t279,A510,H⟩:=H
               replace H : ((laws_wByte.f l1 (wrap64 (x11_4 + 2))).bind fun t280 => (if (t272.length : Int) = 0 then (none) else (if 0 ≤ (Int.tmod (wrap64 ((wrap64 ((wrap64 (t279 * 5)) + (wrap64 (t280 * 3)))) + x11_4)) (t272.length : Int)) then (if (Int.tmod (wrap64 ((wrap64 ((wrap64 (t279 * 5)) + (wrap64 (t280 * 3)))) + x11_4)) (t272.length : Int)) < (t272.length : Int) then (laws_FnFiveFlips.l1 k4 l1 x7_4 t272 x9_4 (wrap64 (1 + (Int.tmod t278 5))) x11_4 (rd t272 (Int.tmod (wrap64 ((wrap64 ((wrap64 (t279 * 5)) + (wrap64 (t280 * 3)))) + x11_4)) (t272.length : Int))) false 0) else (none)) else (none)))) = some r:=H
               have A51:=Aside0.mk A510
               clear A510
               replace H:=Option.bind_eq_some_iff.mp H
               obtain ⟨t280,A520,H⟩:=H
               replace H : (if (t272.length : Int) = 0 then (none) else (if 0 ≤ (Int.tmod (wrap64 ((wrap64 ((wrap64 (t279 * 5)) + (wrap64 (t280 * 3)))) + x11_4)) (t272.length : Int)) then (if (Int.tmod (wrap64 ((wrap64 ((wrap64 (t279 * 5)) + (wrap64 (t280 * 3)))) + x11_4)) (t272.length : Int)) < (t272.length : Int) then (laws_FnFiveFlips.l1 k4 l1 x7_4 t272 x9_4 (wrap64 (1 + (Int.tmod t278 5))) x11_4 (rd t272 (Int.tmod (wrap64 ((wrap64 ((wrap64 (t279 * 5)) + (wrap64 (t280 * 3)))) + x11_4)) (t272.length : Int))) false 0) else (none)) else (none))) = some r:=H
               have A52:=Aside0.mk A520
               clear A520
               by_cases c53 : (t272.length : Int) = 0
               ·rw [if_pos c53] at H
                exact absurd H (by simp)
               ·rw [if_neg c53] at H
                have c53b0 : ((t272.length : Int) == 0) = false:=beq_eq_false_iff_ne.mpr c53
                have c53b1 : ((t272.length : Int) != 0) = true:=bne_iff_ne.mpr c53
                have c53b2 : ¬ (t272 = []):=fun h_ => c53 (by rw [h_];rfl)
                obtain ⟨ji54,hji54⟩ : ∃ j_ : Int,(Int.tmod (wrap64 ((wrap64 ((wrap64 (t279 * 5)) + (wrap64 (t280 * 3)))) + x11_4)) (t272.length : Int)) = j_:=⟨_,rfl⟩
                replace H : (if 0 ≤ (ji54) then (if (ji54) < (t272.length : Int) then (laws_FnFiveFlips.l1 k4 l1 x7_4 t272 x9_4 (wrap64 (1 + (Int.tmod t278 5))) x11_4 (rd t272 (ji54)) false 0) else (none)) else (none)) = some r:=by first | (rw [hji54] at H;exact H) | (simp only [hji54] at H ⊢;exact H)
                (try rw [hji54] at A51)
                (try rw [hji54] at A52)
                by_cases c55 : 0 ≤ (ji54)
                ·rw [if_pos c55] at H
                 have c55b0 : decide (0 ≤ (ji54)) = true:=decide_eq_true c55
                 clear c55
                 by_cases c56 : (ji54) < (t272.length : Int)
                 ·rw [if_pos c56] at H
                  have c56b0 : decide ((ji54) < (t272.length : Int)) = true:=decide_eq_true c56
                  clear c56
                  have H':=Aside0.mk H
                  clear H
                  go_wp2_with (first | ((with_reducible refine gate_callee (f:=22) rfl ?_);refine goesL_ (some 79) rfl rfl Try.func22 (by kernel_rfl) rfl #[.slice A1 l1.length c1, .int .i64 (wrap64 (x11_4 + 1))] rfl (by (try simp only [List.map_toArray,List.map_cons,List.map_nil]);first | done | rfl | (simp only [List.length_drop,List.length_take];rfl)) ?_;(with_reducible refine (laws_wByte.calls _ _ l1 (wrap64 (x11_4 + 1)) t279 _ ?side1 ?side2 A51.out).mono ?_);(case side1 => repeat (first | exact (Kd.C_below HR1.out HB.out) | (with_reducible refine Kd.C_alloc ?_ _) | (with_reducible refine Kd.C_drewN ?_ _) | (with_reducible refine Kd.C_drew ?_)));(case side2 => exact HC1.out);rintro e w' ⟨rfl,⟨nd,rfl⟩⟩;refine ⟨_,rfl, ?_⟩) | ((with_reducible refine gate_callee (f:=22) rfl ?_);refine goesL_ (some 84) rfl rfl Try.func22 (by kernel_rfl) rfl #[.slice A1 l1.length c1, .int .i64 (wrap64 (x11_4 + 2))] rfl (by (try simp only [List.map_toArray,List.map_cons,List.map_nil]);first | done | rfl | (simp only [List.length_drop,List.length_take];rfl)) ?_;(with_reducible refine (laws_wByte.calls _ _ l1 (wrap64 (x11_4 + 2)) t280 _ ?side1 ?side2 A52.out).mono ?_);(case side1 => repeat (first | exact (Kd.C_below HR1.out (by repeat (first | (with_reducible first | exact HB.out | apply below_alloc | apply pw_below_drewN | apply below_drew1 | refine below_set ?_ GE256.out) | exact HB.out))) | (with_reducible refine Kd.C_alloc ?_ _) | (with_reducible refine Kd.C_drewN ?_ _) | (with_reducible refine Kd.C_drew ?_)));(case side2 => exact HC1.out);rintro e w' ⟨rfl,⟨nd,rfl⟩⟩;refine ⟨_,rfl, ?_⟩;obtain ⟨Ao57,co57,eo57⟩:=Kd.R_slice HO_8.out;subst eo57;have p281 : 0 ≤ ((ji54) : Int):=of_decide_eq_true (by first | (with_reducible assumption) | assumption);have q281 : (ji54) < (t272.length : Int):=of_decide_eq_true (by first | (with_reducible assumption) | assumption);obtain ⟨ad281,e281,hx281_0⟩:=Kd.at_int (Kd.R_reads' HO_8.out).2.2 (ji54) p281 q281;cases e281;replace p281:=eq_true p281;replace q281:=eq_true q281))
                  go_loopg [13,14] k4 (fun kq v13 v14 w' => ∃ (x13_5 : Bool) (x14_5 : Int),v13 = .bool x13_5 ∧ v14 = .int .i64 x14_5 ∧ Aside0 (laws_FnFiveFlips.l1 kq l1 x7_4 t272 x9_4 (wrap64 (1 + (Int.tmod t278 5))) x11_4 (rd t272 (ji54)) x13_5 x14_5 = some r) ∧ Aside0 (kq ≤ k4) ∧ Aside0 (Kd.R (Kd.int .i64) 3 w' w.heap.size (fun k_ => some k_ ≠ (u9 : Value).ownBlock) (.slice (some ad281) t272.length co57) t272) ∧ Aside0 (Kd.R (Kd.int .i64) 3 w' w.heap.size (fun k_ => some k_ ≠ ((.slice (some ad281) t272.length co57) : Value).ownBlock) u9 x9_4) ∧ Aside0 (Kd.R (Kd.int .u8) 5 w' w.heap.size (fun _ => True) (.slice Ao22 x257004_7.length co22) x257004_7) ∧ Aside0 (w'.heap[gb256]? = some (.cells #[.bool x257000_7, .int .u32 x257001_7, .bool x257002_7, .int .i64 x257003_7,(.slice Ao22 x257004_7.length co22)] 25 (0,0))) ∧ Aside0 (Below w.heap.size w w'))
                  case atStart => exact ⟨(false),(0),(by first | rfl | (simp;done) | (simp [*];done)),(by first | rfl | (simp;done) | (simp [*];done)),H',⟨Nat.le_refl _⟩,⟨by (with_reducible repeat (first | apply Kd.R_alloc | apply Kd.R_drewN | apply Kd.R_drew));exact HO_8.out⟩,⟨by (with_reducible repeat (first | apply Kd.R_alloc | apply Kd.R_drewN | apply Kd.R_drew));exact HO_9.out⟩,⟨by (with_reducible repeat (first | apply Kd.R_alloc | apply Kd.R_drewN | apply Kd.R_drew));exact HO_257004.out⟩,⟨by (with_reducible repeat (first | refine blk_drewN ?_ _ | refine blk_drew ?_ | refine blk_alloc ?_ _));exact BK256.out⟩,⟨by repeat (first | (with_reducible first | exact HB.out | apply below_alloc | apply pw_below_drewN | apply below_drew1 | refine below_set ?_ GE256.out) | exact HB.out)⟩⟩
                  case round =>
                   clear H'
                   try clear c1
                   try clear c2
                   try clear p2
                   try clear q2
                   try clear hx2
                   try clear c3
                   try clear c4
                   try clear c4b0
                   try clear c4b1
                   try clear c5
                   try clear p6
                   try clear c13
                   try clear c14
                   try clear c15
                   try clear c16
                   try clear c17
                   try clear c18
                   try clear c19
                   try clear c19b0
                   try clear c19b1
                   try clear c19b2
                   try clear c20
                   try clear c21
                   try clear c22
                   try clear c27
                   try clear c27b0
                   try clear c27b1
                   try clear c27b2
                   try clear p28
                   try clear q28
                   try clear hx28
                   try clear c29
                   try clear c29b0
                   try clear c29b1
                   try clear c29b2
                   try clear c37
                   try clear c39
                   try clear c39b0
                   try clear c39b1
                   try clear c39b2
                   try clear c41
                   try clear c41b0
                   try clear c41b1
                   try clear c50
                   try clear c50b0
                   try clear c53
                   try clear c53b0
                   try clear c53b1
                   try clear c53b2
                   try clear c55
                   try clear c55b0
                   try clear c56
                   try clear c56b0
                   try clear hcz11_0
                   try clear hcz11_1
                   try clear hcz11_2
                   try clear hcz11_3
                   try clear hcz11_4
                   try clear hcz15_0
                   try clear hcz15_1
                   try clear hcz15_2
                   try clear hcz15_3
                   try clear hcz15_4
                   try clear hcz21_0
                   try clear hcz21_1
                   try clear hcz21_2
                   try clear hcz21_3
                   try clear hcz21_4
                   try clear hcz31_0
                   try clear hcz31_1
                   try clear hcz31_2
                   try clear hcz31_3
                   try clear hcz31_4
                   try clear hcz35_0
                   try clear hcz35_1
                   try clear hcz35_2
                   try clear hcz35_3
                   try clear hcz35_4
                   try clear hcz46_0
                   try clear hcz46_1
                   try clear hcz46_2
                   try clear hcz46_3
                   try clear hcz46_4
                   try clear hfz11_0
                   try clear hfz11_1
                   try clear hfz11_2
                   try clear hfz11_3
                   try clear hfz11_4
                   try clear hfz15_0
                   try clear hfz15_1
                   try clear hfz15_2
                   try clear hfz15_3
                   try clear hfz15_4
                   try clear hfz21_0
                   try clear hfz21_1
                   try clear hfz21_2
                   try clear hfz21_3
                   try clear hfz21_4
                   try clear hfz31_0
                   try clear hfz31_1
                   try clear hfz31_2
                   try clear hfz31_3
                   try clear hfz31_4
                   try clear hfz35_0
                   try clear hfz35_1
                   try clear hfz35_2
                   try clear hfz35_3
                   try clear hfz35_4
                   try clear hfz46_0
                   try clear hfz46_1
                   try clear hfz46_2
                   try clear hfz46_3
                   try clear hfz46_4
                   try clear hx281_0
                   try clear p2
                   try clear p281
                   try clear p6
                   try clear q281
                   obtain ⟨x13_5,x14_5,rfl,rfl,HA,HK5,HO_8,HO_9,HO_257004,BK256,HB⟩:=hrel
                   cases gk with
                   | zero => exact absurd HA.out (by simp [laws_FnFiveFlips.l1])
                   | succ k5 =>
                    have H:=HA.out
                    clear HA
                    simp only [laws_FnFiveFlips.l1] at H
                    by_cases c58 : x14_5 < (x9_4.length : Int)
                    ·rw [if_pos c58] at H
                     have c58b0 : decide (x14_5 < (x9_4.length : Int)) = true:=decide_eq_true c58
                     clear c58
                     by_cases c59 : 0 ≤ x14_5
                     ·rw [if_pos c59] at H
                      have c59b0 : decide (0 ≤ x14_5) = true:=decide_eq_true c59
                      clear c59
                      by_cases c60 : (rd x9_4 x14_5) = (rd t272 (ji54))
                      ·rw [if_pos c60] at H
                       have c60b0 : ((rd x9_4 x14_5) == (rd t272 (ji54))) = true:=beq_iff_eq.mpr c60
                       have c60b1 : ((rd x9_4 x14_5) != (rd t272 (ji54))) = false:=bne_eq_false_iff_eq.mpr c60
                       clear c60
                       have H':=Aside0.mk H
                       clear H
                       obtain ⟨Ao61,co61,eo61⟩:=Kd.R_slice HO_9.out
                       subst eo61
                       have p282 : 0 ≤ (x14_5 : Int):=of_decide_eq_true (by first | (with_reducible assumption) | assumption)
                       have q282 : x14_5 < (x9_4.length : Int):=of_decide_eq_true (by first | (with_reducible assumption) | assumption)
                       obtain ⟨ad282,e282,hx282_0⟩:=Kd.at_int (Kd.R_reads' HO_9.out).2.2 x14_5 p282 q282
                       cases e282
                       replace p282:=eq_true p282
                       replace q282:=eq_true q282
                       go_wp2
                       go_roundg k5
                       case measure => have:=HJ2.out;have:=HJ7.out;have:=HJ19.out;have:=HK4.out;have:=HK5.out;omega
                       case rel => exact ⟨(true),(wrap64 (x14_5 + 1)),(by first | rfl | (simp;done) | (simp [*];done)),(by first | rfl | (simp;done) | (simp [*];done)),H',⟨by have:=HJ2.out;have:=HJ7.out;have:=HJ19.out;have:=HK4.out;have:=HK5.out;omega⟩,⟨by (with_reducible repeat (first | apply Kd.R_alloc | apply Kd.R_drewN | apply Kd.R_drew));exact HO_8.out⟩,⟨by (with_reducible repeat (first | apply Kd.R_alloc | apply Kd.R_drewN | apply Kd.R_drew));exact HO_9.out⟩,⟨by (with_reducible repeat (first | apply Kd.R_alloc | apply Kd.R_drewN | apply Kd.R_drew));exact HO_257004.out⟩,⟨by (with_reducible repeat (first | refine blk_drewN ?_ _ | refine blk_drew ?_ | refine blk_alloc ?_ _));exact BK256.out⟩,⟨by repeat (first | (with_reducible first | exact HB.out | apply below_alloc | apply pw_below_drewN | apply below_drew1 | refine below_set ?_ GE256.out) | exact HB.out)⟩⟩
                      ·rw [if_neg c60] at H
                       have c60b0 : ((rd x9_4 x14_5) == (rd t272 (ji54))) = false:=beq_eq_false_iff_ne.mpr c60
                       have c60b1 : ((rd x9_4 x14_5) != (rd t272 (ji54))) = true:=bne_iff_ne.mpr c60
                       have H':=Aside0.mk H
                       clear H
                       obtain ⟨Ao62,co62,eo62⟩:=Kd.R_slice HO_9.out
                       subst eo62
                       have p282 : 0 ≤ (x14_5 : Int):=of_decide_eq_true (by first | (with_reducible assumption) | assumption)
                       have q282 : x14_5 < (x9_4.length : Int):=of_decide_eq_true (by first | (with_reducible assumption) | assumption)
                       obtain ⟨ad282,e282,hx282_0⟩:=Kd.at_int (Kd.R_reads' HO_9.out).2.2 x14_5 p282 q282
                       cases e282
                       replace p282:=eq_true p282
                       replace q282:=eq_true q282
                       go_wp2
                       go_roundg k5
                       case measure => have:=HJ2.out;have:=HJ7.out;have:=HJ19.out;have:=HK4.out;have:=HK5.out;omega
                       case rel => exact ⟨(x13_5),(wrap64 (x14_5 + 1)),(by first | rfl | (simp;done) | (simp [*];done)),(by first | rfl | (simp;done) | (simp [*];done)),H',⟨by have:=HJ2.out;have:=HJ7.out;have:=HJ19.out;have:=HK4.out;have:=HK5.out;omega⟩,⟨by (with_reducible repeat (first | apply Kd.R_alloc | apply Kd.R_drewN | apply Kd.R_drew));exact HO_8.out⟩,⟨by (with_reducible repeat (first | apply Kd.R_alloc | apply Kd.R_drewN | apply Kd.R_drew));exact HO_9.out⟩,⟨by (with_reducible repeat (first | apply Kd.R_alloc | apply Kd.R_drewN | apply Kd.R_drew));exact HO_257004.out⟩,⟨by (with_reducible repeat (first | refine blk_drewN ?_ _ | refine blk_drew ?_ | refine blk_alloc ?_ _));exact BK256.out⟩,⟨by repeat (first | (with_reducible first | exact HB.out | apply below_alloc | apply pw_below_drewN | apply below_drew1 | refine below_set ?_ GE256.out) | exact HB.out)⟩⟩
                     ·rw [if_neg c59] at H
                      exact absurd H (by simp)
                    ·rw [if_neg c58] at H
                     have c58b0 : decide (x14_5 < (x9_4.length : Int)) = false:=decide_eq_false c58
                     clear c58
                     by_cases c63 : x13_5 = true
                     ·subst c63
                      have H1 : (laws_FnFiveFlips.l0 k5 l1 x7_4 t272 x9_4 (wrap64 (1 + (Int.tmod t278 5))) (wrap64 (x11_4 + 1))) = some r:=by rw [if_pos rfl] at H;exact H
                      clear H
                      have H:=H1
                      clear H1
                      have H':=Aside0.mk H
                      clear H
                      obtain ⟨Ao64,co64,eo64⟩:=Kd.R_slice HO_9.out
                      subst eo64
                      go_wp2
                      go_roundg k5
                      case measure => have:=HJ2.out;have:=HJ7.out;have:=HJ19.out;have:=HK4.out;have:=HK5.out;omega
                      case rel => exact ⟨(x7_4),(x9_4),(wrap64 (x11_4 + 1)),(by first | rfl | (simp;done) | (simp [*];done)),(by first | rfl | (simp;done) | (simp [*];done)),H',⟨by have:=HJ2.out;have:=HJ7.out;have:=HJ19.out;have:=HK4.out;have:=HK5.out;omega⟩,⟨by (with_reducible repeat (first | apply Kd.R_alloc | apply Kd.R_drewN | apply Kd.R_drew));exact HO_8.out⟩,⟨by (with_reducible repeat (first | apply Kd.R_alloc | apply Kd.R_drewN | apply Kd.R_drew));exact HO_9.out⟩,⟨by (with_reducible repeat (first | apply Kd.R_alloc | apply Kd.R_drewN | apply Kd.R_drew));exact HO_257004.out⟩,⟨by (with_reducible repeat (first | refine blk_drewN ?_ _ | refine blk_drew ?_ | refine blk_alloc ?_ _));exact BK256.out⟩,⟨by repeat (first | (with_reducible first | exact HB.out | apply below_alloc | apply pw_below_drewN | apply below_drew1 | refine below_set ?_ GE256.out) | exact HB.out)⟩⟩
                     ·replace c63:=Bool.eq_false_iff.mpr c63
                      subst c63
                      have H1 : (if x9_4.length < 17592186044416 then ((laws_wFlip.f x7_4 (rd t272 (ji54))).bind fun t286 => (laws_FnFiveFlips.l0 k5 l1 t286 t272 (x9_4 ++ [(rd t272 (ji54))]) (wrap64 (1 + (Int.tmod t278 5))) (wrap64 (x11_4 + 1)))) else (none)) = some r:=by rw [if_neg (show ¬ (false = true) by decide)] at H;exact H
                      clear H
                      have H:=H1
                      clear H1
                      by_cases c65 : x9_4.length < 17592186044416
                      ·rw [if_pos c65] at H
                       have LMc65:=Aside0.mk c65
                       clear c65
                       obtain ⟨y283,hy283⟩ : ∃ y_ : List Int,y_ = (x9_4 ++ [(rd t272 (ji54))]):=⟨_,rfl⟩
                       replace H : ((laws_wFlip.f x7_4 (rd t272 (ji54))).bind fun t286 => (laws_FnFiveFlips.l0 k5 l1 t286 t272 y283 (wrap64 (1 + (Int.tmod t278 5))) (wrap64 (x11_4 + 1)))) = some r:=by first | (rw [hy283];with_reducible exact H) | (have H2_:=(Option.bind_some _ _).symm.trans H;rw [hy283];with_reducible exact H2_) | (have H2_:=(Option.bind_some _ _).symm.trans H;with_reducible exact H2_) | with_reducible exact H | (rw [hy283];exact H) | exact H
                       have Ny283:=Aside0.mk hy283
                       clear hy283
                       replace H:=Option.bind_eq_some_iff.mp H
                       obtain ⟨t286,A660,H⟩:=H
                       replace H : (laws_FnFiveFlips.l0 k5 l1 t286 t272 y283 (wrap64 (1 + (Int.tmod t278 5))) (wrap64 (x11_4 + 1))) = some r:=H
                       have A66:=Aside0.mk A660
                       clear A660
                       have H':=Aside0.mk H
                       clear H
                       obtain ⟨Ao67,co67,eo67⟩:=Kd.R_slice HO_9.out
                       subst eo67
                       go_wp2_with (first | ((with_reducible refine gate_builtin (b := .append) (xs := #[.tmp 108, .tmp 110]) rfl ?_);(try (refine gate_guard (by rfl) ?_;dsimp only));at_builtin;refine Kd.R_append (Kd.int .i64) (w0:=w) w.heap.size rfl (.tmp 108) (.tmp 110) 35 3 (.int .i64 0) 8 rfl Try.underlying35 info3 rfl (by decide) (by omega) (.slice Ao67 x9_4.length co67) x9_4 (rd t272 (ji54)) [.int .i64 (rd t272 (ji54))] (fun k_ => some k_ ≠ (.slice (some ad281) t272.length co57 : Value).ownBlock) (fun _ => False) rfl rfl ?aP (fun _ hk => hk.elim) ?aF ?aO ?aB ?aS ?aL ?_;(case aP => exact rfl);(case aB => exact (by repeat (first | (with_reducible first | exact HB.out | apply below_alloc | apply pw_below_drewN | apply below_drew1 | refine below_set ?_ GE256.out) | exact HB.out)));(case aF => exact (fun k_ hk => Kd.fresh' (Kd.R_lt (by (with_reducible repeat (first | apply Kd.R_alloc | apply Kd.R_drewN | apply Kd.R_drew));exact HO_8.out)) k_ hk));(case aO => exact (by (with_reducible repeat (first | apply Kd.R_alloc | apply Kd.R_drewN | apply Kd.R_drew));exact HO_9.out));(case aS => exact (below_size (by repeat (first | (with_reducible first | exact HB.out | apply below_alloc | apply pw_below_drewN | apply below_drew1 | refine below_set ?_ GE256.out) | exact HB.out))));(case aL => have:=LMc65.out;omega);intro v284 w68 ho hb hg hat;rw [← Ny283.out] at ho;have n0_:=Aside0.mk (Kd.R_after (ok:=(fun _ => True)) (by (with_reducible repeat (first | apply Kd.R_alloc | apply Kd.R_drewN | apply Kd.R_drew));exact Kd.R_mono HO_8.out (fun _ hk => ⟨trivial,hk⟩)) hg hat);have n1_:=Aside0.mk (Kd.R_over' (by (with_reducible repeat (first | apply Kd.R_alloc | apply Kd.R_drewN | apply Kd.R_drew));exact HO_257004.out) (Kd.R_typed (by (with_reducible repeat (first | apply Kd.R_alloc | apply Kd.R_drewN | apply Kd.R_drew));exact HO_9.out)) (by decide) hg);have n2_:=Aside0.mk (blk_grown (g:=gb256) (o := .cells #[.bool x257000_7, .int .u32 x257001_7, .bool x257002_7, .int .i64 x257003_7, .slice Ao22 x257004_7.length co22] 25 (0,0)) (by (with_reducible repeat (first | refine blk_drewN ?_ _ | refine blk_drew ?_ | refine blk_alloc ?_ _));exact BK256.out) hg (Kd.R_ne HO_9.out BK256.out (by decide)));have n3_:=Aside0.mk (hb);have n4_:=Aside0.mk (ho);clear HO_8;clear HO_257004;clear BK256;clear HB;clear HO_9;have HO_8:=n0_;have HO_257004:=n1_;have BK256:=n2_;have HB:=n3_;have HO285:=n4_;clear n0_ n1_ n2_ n3_ n4_;clear ho hb hg hat) | ((with_reducible refine gate_callee (f:=23) rfl ?_);refine goesL_ (some 114) rfl rfl Try.func23 (by kernel_rfl) rfl #[.string x7_4, .int .i64 (rd t272 (ji54))] rfl (by (try simp only [List.map_toArray,List.map_cons,List.map_nil]);first | done | (simp only [hji54];rfl) | rfl | (simp only [List.length_drop,List.length_take];rfl)) ?_;(with_reducible refine (laws_wFlip.calls x7_4 (rd t272 (ji54)) t286 _ A66.out).mono ?_);rintro e w' ⟨rfl,⟨nd,rfl⟩⟩;refine ⟨_,rfl, ?_⟩))
                       go_roundg k5
                       case measure => have:=HJ2.out;have:=HJ7.out;have:=HJ19.out;have:=HK4.out;have:=HK5.out;omega
                       case rel => exact ⟨(t286),(y283),(wrap64 (x11_4 + 1)),(by first | rfl | (simp;done) | (simp [*];done)),(by first | rfl | (simp;done) | (simp [*];done)),H',⟨by have:=HJ2.out;have:=HJ7.out;have:=HJ19.out;have:=HK4.out;have:=HK5.out;omega⟩,⟨by (with_reducible repeat (first | apply Kd.R_alloc | apply Kd.R_drewN | apply Kd.R_drew));exact Kd.R_mono HO_8.out (fun _ hk => hk.2)⟩,⟨by (with_reducible repeat (first | apply Kd.R_alloc | apply Kd.R_drewN | apply Kd.R_drew));exact HO285.out⟩,⟨by (with_reducible repeat (first | apply Kd.R_alloc | apply Kd.R_drewN | apply Kd.R_drew));exact HO_257004.out⟩,⟨by (with_reducible repeat (first | refine blk_drewN ?_ _ | refine blk_drew ?_ | refine blk_alloc ?_ _));exact BK256.out⟩,⟨by repeat (first | (with_reducible first | exact HB.out | apply below_alloc | apply pw_below_drewN | apply below_drew1 | refine below_set ?_ GE256.out) | exact HB.out)⟩⟩
                      ·rw [if_neg c65] at H
                       exact absurd H (by simp)
                 ·rw [if_neg c56] at H
                  exact absurd H (by simp)
                ·rw [if_neg c55] at H
                 exact absurd H (by simp)
              ·rw [if_neg c50] at H
               have c50b0 : decide (x11_4 < (wrap64 (1 + (Int.tmod t278 5)))) = false:=decide_eq_false c50
               clear c50
               replace H:=Option.bind_eq_some_iff.mp H
               obtain ⟨t287,A690,H⟩:=H
               replace H : (if t287.size + 1 ≤ 9223372036854775807 then ((laws_wByte.f l1 9).bind fun t288 => ((laws_wBits.f k4 (Int.tmod t288 2) 1).bind fun t289 => (if (t287 ++ (⟨#[49]⟩ : ByteArray)).size + t289.size ≤ 9223372036854775807 then (if ((t287 ++ (⟨#[49]⟩ : ByteArray)) ++ t289).size + 1 ≤ 9223372036854775807 then ((impl_Decode.f (((t287 ++ (⟨#[49]⟩ : ByteArray)) ++ t289) ++ (⟨#[49]⟩ : ByteArray))).bind fun bt290 => (if bt290.2.2.2.2.2 = 5 then ((impl_Judge.f (((t287 ++ (⟨#[49]⟩ : ByteArray)) ++ t289) ++ (⟨#[49]⟩ : ByteArray))).bind fun bt299 => (some (bt299.1 == 5))) else (some false))) else (none)) else (none)))) else (none)) = some r:=H
               have A69:=Aside0.mk A690
               clear A690
               by_cases c70 : t287.size + 1 ≤ 9223372036854775807
               ·rw [if_pos c70] at H
                have c70b0:=eq_true c70
                have c70b1 : decide (t287.size + 1 ≤ 9223372036854775807) = true:=decide_eq_true c70
                try have c70b2 : (9223372036854775807 < t287.size + 1) = False:=eq_false (Nat.not_lt.2 c70)
                replace H:=Option.bind_eq_some_iff.mp H
                obtain ⟨t288,A710,H⟩:=H
                replace H : ((laws_wBits.f k4 (Int.tmod t288 2) 1).bind fun t289 => (if (t287 ++ (⟨#[49]⟩ : ByteArray)).size + t289.size ≤ 9223372036854775807 then (if ((t287 ++ (⟨#[49]⟩ : ByteArray)) ++ t289).size + 1 ≤ 9223372036854775807 then ((impl_Decode.f (((t287 ++ (⟨#[49]⟩ : ByteArray)) ++ t289) ++ (⟨#[49]⟩ : ByteArray))).bind fun bt290 => (if bt290.2.2.2.2.2 = 5 then ((impl_Judge.f (((t287 ++ (⟨#[49]⟩ : ByteArray)) ++ t289) ++ (⟨#[49]⟩ : ByteArray))).bind fun bt299 => (some (bt299.1 == 5))) else (some false))) else (none)) else (none))) = some r:=H
                have A71:=Aside0.mk A710
                clear A710
                replace H:=Option.bind_eq_some_iff.mp H
                obtain ⟨t289,A720,H⟩:=H
                replace H : (if (t287 ++ (⟨#[49]⟩ : ByteArray)).size + t289.size ≤ 9223372036854775807 then (if ((t287 ++ (⟨#[49]⟩ : ByteArray)) ++ t289).size + 1 ≤ 9223372036854775807 then ((impl_Decode.f (((t287 ++ (⟨#[49]⟩ : ByteArray)) ++ t289) ++ (⟨#[49]⟩ : ByteArray))).bind fun bt290 => (if bt290.2.2.2.2.2 = 5 then ((impl_Judge.f (((t287 ++ (⟨#[49]⟩ : ByteArray)) ++ t289) ++ (⟨#[49]⟩ : ByteArray))).bind fun bt299 => (some (bt299.1 == 5))) else (some false))) else (none)) else (none)) = some r:=H
                have A72:=Aside0.mk A720
                clear A720
                by_cases c73 : (t287 ++ (⟨#[49]⟩ : ByteArray)).size + t289.size ≤ 9223372036854775807
                ·rw [if_pos c73] at H
                 have c73b0:=eq_true c73
                 have c73b1 : decide ((t287 ++ (⟨#[49]⟩ : ByteArray)).size + t289.size ≤ 9223372036854775807) = true:=decide_eq_true c73
                 try have c73b2 : (9223372036854775807 < (t287 ++ (⟨#[49]⟩ : ByteArray)).size + t289.size) = False:=eq_false (Nat.not_lt.2 c73)
                 by_cases c74 : ((t287 ++ (⟨#[49]⟩ : ByteArray)) ++ t289).size + 1 ≤ 9223372036854775807
                 ·rw [if_pos c74] at H
                  have c74b0:=eq_true c74
                  have c74b1 : decide (((t287 ++ (⟨#[49]⟩ : ByteArray)) ++ t289).size + 1 ≤ 9223372036854775807) = true:=decide_eq_true c74
                  try have c74b2 : (9223372036854775807 < ((t287 ++ (⟨#[49]⟩ : ByteArray)) ++ t289).size + 1) = False:=eq_false (Nat.not_lt.2 c74)
                  have z73 : t287.size + 1 + t289.size ≤ 9223372036854775807:=by have h:=c73;rw [ByteArray.size_append] at h;exact h
                  have z74 : t287.size + 1 + t289.size + 1 ≤ 9223372036854775807:=by have h:=c74;rw [ByteArray.size_append,ByteArray.size_append] at h;exact h
                  have z73b:=eq_true z73
                  have z74b:=eq_true z74
                  have z73c : (9223372036854775807 < t287.size + 1 + t289.size) = False:=eq_false (Nat.not_lt.2 z73)
                  have z74c : (9223372036854775807 < t287.size + 1 + t289.size + 1) = False:=eq_false (Nat.not_lt.2 z74)
                  replace H:=Option.bind_eq_some_iff.mp H
                  obtain ⟨⟨t290,t291,t292,t293,t294,t297⟩,A750,H⟩:=H
                  replace H : (if t297 = 5 then ((impl_Judge.f (((t287 ++ (⟨#[49]⟩ : ByteArray)) ++ t289) ++ (⟨#[49]⟩ : ByteArray))).bind fun bt299 => (some (bt299.1 == 5))) else (some false)) = some r:=H
                  have A75:=Aside0.mk A750
                  clear A750
                  by_cases c76 : t297 = 5
                  ·rw [if_pos c76] at H
                   have c76b0 : (t297 == 5) = true:=beq_iff_eq.mpr c76
                   have c76b1 : (t297 != 5) = false:=bne_eq_false_iff_eq.mpr c76
                   clear c76
                   replace H:=Option.bind_eq_some_iff.mp H
                   obtain ⟨⟨t299,t300,t301,t302⟩,A770,H⟩:=H
                   replace H : (some (t299 == 5)) = some r:=H
                   have A77:=Aside0.mk A770
                   clear A770
                   obtain rfl:=Option.some.inj H
                   go_wp2_with (first | ((with_reducible refine gate_callee (f:=20) rfl ?_);refine goesL_ (some 116) rfl rfl Try.func20 (by kernel_rfl) rfl #[.string x7_4] rfl (by (try simp only [List.map_toArray,List.map_cons,List.map_nil]);first | done | rfl | (simp only [List.length_drop,List.length_take];rfl)) ?_;(with_reducible refine (impl_Stuff.calls x7_4 t287 _ A69.out).mono ?_);rintro e w78 ⟨rfl,hb⟩;refine ⟨_,rfl, ?_⟩;have n0_:=Aside0.mk (Kd.R_below (by (with_reducible repeat (first | apply Kd.R_alloc | apply Kd.R_drewN | apply Kd.R_drew));exact HO_8.out) hb);have n1_:=Aside0.mk (Kd.R_below (by (with_reducible repeat (first | apply Kd.R_alloc | apply Kd.R_drewN | apply Kd.R_drew));exact HO_9.out) hb);have n2_:=Aside0.mk (Kd.R_below (by (with_reducible repeat (first | apply Kd.R_alloc | apply Kd.R_drewN | apply Kd.R_drew));exact HO_257004.out) hb);have n3_:=Aside0.mk (blk_below (g:=gb256) (o := .cells #[.bool x257000_7, .int .u32 x257001_7, .bool x257002_7, .int .i64 x257003_7, .slice Ao22 x257004_7.length co22] 25 (0,0)) (by (with_reducible repeat (first | refine blk_drewN ?_ _ | refine blk_drew ?_ | refine blk_alloc ?_ _));exact BK256.out) hb);have n4_:=Aside0.mk (below_step (by repeat (first | (with_reducible first | exact HB.out | apply below_alloc | apply pw_below_drewN | apply below_drew1 | refine below_set ?_ GE256.out) | exact HB.out)) hb);clear HO_8;clear HO_9;clear HO_257004;clear BK256;clear HB;have HO_8:=n0_;have HO_9:=n1_;have HO_257004:=n2_;have BK256:=n3_;have HB:=n4_;clear n0_ n1_ n2_ n3_ n4_;(try clear hb);(try clear hb2);(try clear hk);(try clear hi)) | ((with_reducible refine gate_callee (f:=22) rfl ?_);refine goesL_ (some 119) rfl rfl Try.func22 (by kernel_rfl) rfl #[.slice A1 l1.length c1, .int .i64 9] rfl (by (try simp only [List.map_toArray,List.map_cons,List.map_nil]);first | done | rfl | (simp only [List.length_drop,List.length_take];rfl)) ?_;(with_reducible refine (laws_wByte.calls _ _ l1 9 t288 _ ?side1 ?side2 A71.out).mono ?_);(case side1 => repeat (first | exact (Kd.C_below HR1.out HB.out) | (with_reducible refine Kd.C_alloc ?_ _) | (with_reducible refine Kd.C_drewN ?_ _) | (with_reducible refine Kd.C_drew ?_)));(case side2 => exact HC1.out);rintro e w' ⟨rfl,⟨nd,rfl⟩⟩;refine ⟨_,rfl, ?_⟩;(try (rw [drewN_self w78];generalize hq_ : World.drewN w78 _ = w78;have n0_ : Aside0 (Kd.R (Kd.int .u8) 5 w78 w.heap.size (fun _ => True) (.slice Ao22 x257004_7.length co22) x257004_7):=⟨by rw [← hq_];exact (by (with_reducible repeat (first | apply Kd.R_alloc | apply Kd.R_drewN | apply Kd.R_drew));exact HO_257004.out)⟩;have n1_ : Aside0 (Kd.R (Kd.int .i64) 3 w78 w.heap.size (fun k_ => some k_ ≠ (u9 : Value).ownBlock) v273 t272):=⟨by rw [← hq_];exact (by (with_reducible repeat (first | apply Kd.R_alloc | apply Kd.R_drewN | apply Kd.R_drew));exact HO_8.out)⟩;have n2_ : Aside0 (Kd.R (Kd.int .i64) 3 w78 w.heap.size (fun k_ => some k_ ≠ (v273 : Value).ownBlock) u9 x9_4):=⟨by rw [← hq_];exact (by (with_reducible repeat (first | apply Kd.R_alloc | apply Kd.R_drewN | apply Kd.R_drew));exact HO_9.out)⟩;have n3_ : Aside0 (w78.heap[gb256]? = some (.cells #[.bool x257000_7, .int .u32 x257001_7, .bool x257002_7, .int .i64 x257003_7, .slice Ao22 x257004_7.length co22] 25 (0,0))):=⟨by rw [← hq_];exact (by (with_reducible repeat (first | refine blk_drewN ?_ _ | refine blk_drew ?_ | refine blk_alloc ?_ _));exact BK256.out)⟩;have n4_ : Aside0 (Below w.heap.size w w78):=⟨by rw [← hq_];exact (by repeat (first | (with_reducible first | exact HB.out | apply below_alloc | apply pw_below_drewN | apply below_drew1 | refine below_set ?_ GE256.out) | exact HB.out))⟩;clear HO_257004 HO_8 HO_9 BK256 HB hq_;have HO_257004:=n0_;have HO_8:=n1_;have HO_9:=n2_;have BK256:=n3_;have HB:=n4_;clear n0_ n1_ n2_ n3_ n4_))) | ((with_reducible refine gate_callee (f:=16) rfl ?_);refine goesL_ (some 121) rfl rfl Try.func16 (by kernel_rfl) rfl #[.int .i64 (Int.tmod t288 2), .int .i64 1] rfl (by (try simp only [List.map_toArray,List.map_cons,List.map_nil]);first | done | rfl | (simp only [List.length_drop,List.length_take];rfl)) ?_;(with_reducible refine (laws_wBits.calls k4 (Int.tmod t288 2) 1 t289 _ A72.out).mono ?_);rintro e w79 ⟨rfl,hb⟩;refine ⟨_,rfl, ?_⟩;have n0_:=Aside0.mk (Kd.R_below (by (with_reducible repeat (first | apply Kd.R_alloc | apply Kd.R_drewN | apply Kd.R_drew));exact HO_8.out) hb);have n1_:=Aside0.mk (Kd.R_below (by (with_reducible repeat (first | apply Kd.R_alloc | apply Kd.R_drewN | apply Kd.R_drew));exact HO_9.out) hb);have n2_:=Aside0.mk (Kd.R_below (by (with_reducible repeat (first | apply Kd.R_alloc | apply Kd.R_drewN | apply Kd.R_drew));exact HO_257004.out) hb);have n3_:=Aside0.mk (blk_below (g:=gb256) (o := .cells #[.bool x257000_7, .int .u32 x257001_7, .bool x257002_7, .int .i64 x257003_7, .slice Ao22 x257004_7.length co22] 25 (0,0)) (by (with_reducible repeat (first | refine blk_drewN ?_ _ | refine blk_drew ?_ | refine blk_alloc ?_ _));exact BK256.out) hb);have n4_:=Aside0.mk (below_step (by repeat (first | (with_reducible first | exact HB.out | apply below_alloc | apply pw_below_drewN | apply below_drew1 | refine below_set ?_ GE256.out) | exact HB.out)) hb);clear HO_8;clear HO_9;clear HO_257004;clear BK256;clear HB;have HO_8:=n0_;have HO_9:=n1_;have HO_257004:=n2_;have BK256:=n3_;have HB:=n4_;clear n0_ n1_ n2_ n3_ n4_;(try clear hb);(try clear hb2);(try clear hk);(try clear hi)) | ((with_reducible refine gate_callee (f:=24) rfl ?_);refine goesL_ (some 126) rfl rfl Try.func24 (by kernel_rfl) rfl #[.string (((t287 ++ (⟨#[49]⟩ : ByteArray)) ++ t289) ++ (⟨#[49]⟩ : ByteArray))] rfl (by (try simp only [List.map_toArray,List.map_cons,List.map_nil]);first | done | rfl | (simp only [List.length_drop,List.length_take];rfl)) ?_;(with_reducible refine (impl_Decode.calls (((t287 ++ (⟨#[49]⟩ : ByteArray)) ++ t289) ++ (⟨#[49]⟩ : ByteArray)) t290 t291 t292 t293 t294 t297 _ A75.out).mono ?_);rintro e w80 ⟨v295,rfl,ho0,hb⟩;refine ⟨_,rfl, ?_⟩;have n0_:=Aside0.mk (Kd.R_below (by (with_reducible repeat (first | apply Kd.R_alloc | apply Kd.R_drewN | apply Kd.R_drew));exact HO_8.out) hb);have n1_:=Aside0.mk (Kd.R_below (by (with_reducible repeat (first | apply Kd.R_alloc | apply Kd.R_drewN | apply Kd.R_drew));exact HO_9.out) hb);have n2_:=Aside0.mk (Kd.R_elder' (by (with_reducible repeat (first | apply Kd.R_alloc | apply Kd.R_drewN | apply Kd.R_drew));exact HO_257004.out) (Kd.R_base ho0) hb);have n3_:=Aside0.mk (Kd.R_lower (Kd.R_new' ho0 (Kd.R_lt (by (with_reducible repeat (first | apply Kd.R_alloc | apply Kd.R_drewN | apply Kd.R_drew));exact HO_257004.out))) (below_size (by repeat (first | (with_reducible first | exact HB.out | apply below_alloc | apply pw_below_drewN | apply below_drew1 | refine below_set ?_ GE256.out) | exact HB.out))));have n4_:=Aside0.mk (blk_below (g:=gb256) (o := .cells #[.bool x257000_7, .int .u32 x257001_7, .bool x257002_7, .int .i64 x257003_7, .slice Ao22 x257004_7.length co22] 25 (0,0)) (by (with_reducible repeat (first | refine blk_drewN ?_ _ | refine blk_drew ?_ | refine blk_alloc ?_ _));exact BK256.out) hb);have n5_:=Aside0.mk (below_step (by repeat (first | (with_reducible first | exact HB.out | apply below_alloc | apply pw_below_drewN | apply below_drew1 | refine below_set ?_ GE256.out) | exact HB.out)) hb);clear HO_8;clear HO_9;clear HO_257004;clear BK256;clear HB;have HO_8:=n0_;have HO_9:=n1_;have HO_257004:=n2_;have HO296:=n3_;have BK256:=n4_;have HB:=n5_;clear n0_ n1_ n2_ n3_ n4_ n5_;(try clear hb);(try clear hb2);(try clear hk);(try clear hi);(try clear ho0)) | ((with_reducible refine gate_dst (N:=16) rfl ?_);(try (refine gate_guard (by rfl) ?_;dsimp only));refine box_event ?hg (N:=16) ?hd (cs := #[.bool false, .int .u32 0, .bool false, .int .i64 0, .slice none 0 0]) (t:=25) ?hr ?_;(case hd => rfl);(case hg => rfl);(case hr => first | (go_simp;done) | (go_simp;rfl));intro gb298 hg w81 hbox hb;have n0_:=Aside0.mk (Kd.R_below (by (with_reducible repeat (first | apply Kd.R_alloc | apply Kd.R_drewN | apply Kd.R_drew));exact HO_8.out) hb);have n1_:=Aside0.mk (Kd.R_below (by (with_reducible repeat (first | apply Kd.R_alloc | apply Kd.R_drewN | apply Kd.R_drew));exact HO_9.out) hb);have n2_:=Aside0.mk (Kd.R_below (by (with_reducible repeat (first | apply Kd.R_alloc | apply Kd.R_drewN | apply Kd.R_drew));exact HO_257004.out) hb);have n3_:=Aside0.mk (Kd.R_below (by (with_reducible repeat (first | apply Kd.R_alloc | apply Kd.R_drewN | apply Kd.R_drew));exact HO296.out) hb);have n4_:=Aside0.mk (blk_below (g:=gb256) (o := .cells #[.bool x257000_7, .int .u32 x257001_7, .bool x257002_7, .int .i64 x257003_7, .slice Ao22 x257004_7.length co22] 25 (0,0)) (by (with_reducible repeat (first | refine blk_drewN ?_ _ | refine blk_drew ?_ | refine blk_alloc ?_ _));exact BK256.out) hb);have n5_:=Aside0.mk (below_step (by repeat (first | (with_reducible first | exact HB.out | apply below_alloc | apply pw_below_drewN | apply below_drew1 | refine below_set ?_ GE256.out) | exact HB.out)) hb);have n6_:=Aside0.mk (hbox);have n7_:=Aside0.mk ((by rw [hg];exact (below_size (by repeat (first | (with_reducible first | exact HB.out | apply below_alloc | apply pw_below_drewN | apply below_drew1 | refine below_set ?_ GE256.out) | exact HB.out))) : w.heap.size ≤ gb298));have n8_:=Aside0.mk ((by rw [hg];exact (below_size (by repeat (first | (with_reducible first | exact HB.out | apply below_alloc | apply pw_below_drewN | apply below_drew1 | refine below_set ?_ GE256.out) | exact HB.out))) : w.heap.size ≤ gb298));have n9_:=Aside0.mk ((by rw [hg];exact Nat.ne_of_lt (blk_lt (g:=gb256) (o := .cells #[.bool x257000_7, .int .u32 x257001_7, .bool x257002_7, .int .i64 x257003_7, .slice Ao22 x257004_7.length co22] 25 (0,0)) (by (with_reducible repeat (first | refine blk_drewN ?_ _ | refine blk_drew ?_ | refine blk_alloc ?_ _));exact BK256.out)) : gb256 ≠ gb298));have n10_:=Aside0.mk ((by rw [hg];exact Nat.ne_of_gt (blk_lt (g:=gb256) (o := .cells #[.bool x257000_7, .int .u32 x257001_7, .bool x257002_7, .int .i64 x257003_7, .slice Ao22 x257004_7.length co22] 25 (0,0)) (by (with_reducible repeat (first | refine blk_drewN ?_ _ | refine blk_drew ?_ | refine blk_alloc ?_ _));exact BK256.out)) : gb298 ≠ gb256));clear HO_8;clear HO_9;clear HO_257004;clear HO296;clear BK256;clear HB;have HO_8:=n0_;have HO_9:=n1_;have HO_257004:=n2_;have HO296:=n3_;have BK256:=n4_;have HB:=n5_;have BK298:=n6_;have GW298:=n7_;have GE298:=n8_;have NB256_298:=n9_;have NB298_256:=n10_;clear n0_ n1_ n2_ n3_ n4_ n5_ n6_ n7_ n8_ n9_ n10_;clear hb hbox hg;have hnb82:=NB298_256.out;have hnc82:=NB256_298.out;have hcz83_0 : w81.cell? ⟨gb298,0,none⟩ = some (.bool false):=(blk_cell BK298.out 0).trans rfl;have hcz83_1 : w81.cell? ⟨gb298,1,none⟩ = some (.int .u32 0):=(blk_cell BK298.out 1).trans rfl;have hcz83_2 : w81.cell? ⟨gb298,2,none⟩ = some (.bool false):=(blk_cell BK298.out 2).trans rfl;have hcz83_3 : w81.cell? ⟨gb298,3,none⟩ = some (.int .i64 0):=(blk_cell BK298.out 3).trans rfl;have hcz83_4 : w81.cell? ⟨gb298,4,none⟩ = some (.slice none 0 0):=(blk_cell BK298.out 4).trans rfl;have hfz83_0:=blk_frozen BK298.out 0;have hfz83_1:=blk_frozen BK298.out 1;have hfz83_2:=blk_frozen BK298.out 2;have hfz83_3:=blk_frozen BK298.out 3;have hfz83_4:=blk_frozen BK298.out 4;obtain ⟨Ao84,co84,eo84⟩:=Kd.R_slice HO296.out;subst eo84) | (go_at_call 19;(with_reducible refine (impl_Judge.calls (((t287 ++ (⟨#[49]⟩ : ByteArray)) ++ t289) ++ (⟨#[49]⟩ : ByteArray)) t299 t300 t301 t302 _ A77.out).mono ?_);rintro e w85 ⟨rfl,hb⟩;have n0_:=Aside0.mk (Kd.R_below (by (with_reducible repeat (first | apply Kd.R_alloc | apply Kd.R_drewN | apply Kd.R_drew));exact (Kd.R_mono (Kd.R_far (p:=⟨gb298,4,none⟩) (Kd.R_far (p:=⟨gb298,3,none⟩) (Kd.R_far (p:=⟨gb298,2,none⟩) (Kd.R_far (p:=⟨gb298,1,none⟩) (Kd.R_far (p:=⟨gb298,0,none⟩) (Kd.R_types HO_8.out BK298.out (by decide)) (fun _ hk => hk.2) (.bool t290)) (fun _ hk => hk.2) (.int .u32 t291)) (fun _ hk => hk.2) (.bool t292)) (fun _ hk => hk.2) (.int .i64 t293)) (fun _ hk => hk.2) (.slice Ao84 t294.length co84)) (fun _ h_ => h_.1))) hb);have n1_:=Aside0.mk (Kd.R_below (by (with_reducible repeat (first | apply Kd.R_alloc | apply Kd.R_drewN | apply Kd.R_drew));exact (Kd.R_mono (Kd.R_far (p:=⟨gb298,4,none⟩) (Kd.R_far (p:=⟨gb298,3,none⟩) (Kd.R_far (p:=⟨gb298,2,none⟩) (Kd.R_far (p:=⟨gb298,1,none⟩) (Kd.R_far (p:=⟨gb298,0,none⟩) (Kd.R_types HO_9.out BK298.out (by decide)) (fun _ hk => hk.2) (.bool t290)) (fun _ hk => hk.2) (.int .u32 t291)) (fun _ hk => hk.2) (.bool t292)) (fun _ hk => hk.2) (.int .i64 t293)) (fun _ hk => hk.2) (.slice Ao84 t294.length co84)) (fun _ h_ => h_.1))) hb);have n2_:=Aside0.mk (Kd.R_below (by (with_reducible repeat (first | apply Kd.R_alloc | apply Kd.R_drewN | apply Kd.R_drew));exact (Kd.R_mono (Kd.R_far (p:=⟨gb298,4,none⟩) (Kd.R_far (p:=⟨gb298,3,none⟩) (Kd.R_far (p:=⟨gb298,2,none⟩) (Kd.R_far (p:=⟨gb298,1,none⟩) (Kd.R_far (p:=⟨gb298,0,none⟩) (Kd.R_types HO_257004.out BK298.out (by decide)) (fun _ hk => hk.2) (.bool t290)) (fun _ hk => hk.2) (.int .u32 t291)) (fun _ hk => hk.2) (.bool t292)) (fun _ hk => hk.2) (.int .i64 t293)) (fun _ hk => hk.2) (.slice Ao84 t294.length co84)) (fun _ h_ => h_.1))) hb);have n3_:=Aside0.mk (Kd.R_below (by (with_reducible repeat (first | apply Kd.R_alloc | apply Kd.R_drewN | apply Kd.R_drew));exact (Kd.R_mono (Kd.R_far (p:=⟨gb298,4,none⟩) (Kd.R_far (p:=⟨gb298,3,none⟩) (Kd.R_far (p:=⟨gb298,2,none⟩) (Kd.R_far (p:=⟨gb298,1,none⟩) (Kd.R_far (p:=⟨gb298,0,none⟩) (Kd.R_types HO296.out BK298.out (by decide)) (fun _ hk => hk.2) (.bool t290)) (fun _ hk => hk.2) (.int .u32 t291)) (fun _ hk => hk.2) (.bool t292)) (fun _ hk => hk.2) (.int .i64 t293)) (fun _ hk => hk.2) (.slice Ao84 t294.length co84)) (fun _ h_ => h_.1))) hb);have n4_:=Aside0.mk (blk_below (g:=gb256) (o := .cells #[.bool x257000_7, .int .u32 x257001_7, .bool x257002_7, .int .i64 x257003_7, .slice Ao22 x257004_7.length co22] 25 (0,0)) (by (with_reducible repeat (first | refine blk_drewN ?_ _ | refine blk_drew ?_ | refine blk_alloc ?_ _));refine blk_far ?_ NB256_298.out _;(with_reducible repeat (first | refine blk_drewN ?_ _ | refine blk_drew ?_ | refine blk_alloc ?_ _));refine blk_far ?_ NB256_298.out _;(with_reducible repeat (first | refine blk_drewN ?_ _ | refine blk_drew ?_ | refine blk_alloc ?_ _));refine blk_far ?_ NB256_298.out _;(with_reducible repeat (first | refine blk_drewN ?_ _ | refine blk_drew ?_ | refine blk_alloc ?_ _));refine blk_far ?_ NB256_298.out _;(with_reducible repeat (first | refine blk_drewN ?_ _ | refine blk_drew ?_ | refine blk_alloc ?_ _));refine blk_far ?_ NB256_298.out _;(with_reducible repeat (first | refine blk_drewN ?_ _ | refine blk_drew ?_ | refine blk_alloc ?_ _));exact BK256.out) hb);have n5_:=Aside0.mk (blk_below (g:=gb298) (o := .cells #[.bool t290, .int .u32 t291, .bool t292, .int .i64 t293, .slice Ao84 t294.length co84] 25 (0,0)) (by (with_reducible repeat (first | refine blk_drewN ?_ _ | refine blk_drew ?_ | refine blk_alloc ?_ _));refine blk_put (cs := #[.bool t290, .int .u32 t291, .bool t292, .int .i64 t293, .slice none 0 0]) ?_ 4 _ rfl;(with_reducible repeat (first | refine blk_drewN ?_ _ | refine blk_drew ?_ | refine blk_alloc ?_ _));refine blk_put (cs := #[.bool t290, .int .u32 t291, .bool t292, .int .i64 0, .slice none 0 0]) ?_ 3 _ rfl;(with_reducible repeat (first | refine blk_drewN ?_ _ | refine blk_drew ?_ | refine blk_alloc ?_ _));refine blk_put (cs := #[.bool t290, .int .u32 t291, .bool false, .int .i64 0, .slice none 0 0]) ?_ 2 _ rfl;(with_reducible repeat (first | refine blk_drewN ?_ _ | refine blk_drew ?_ | refine blk_alloc ?_ _));refine blk_put (cs := #[.bool t290, .int .u32 0, .bool false, .int .i64 0, .slice none 0 0]) ?_ 1 _ rfl;(with_reducible repeat (first | refine blk_drewN ?_ _ | refine blk_drew ?_ | refine blk_alloc ?_ _));refine blk_put (cs := #[.bool false, .int .u32 0, .bool false, .int .i64 0, .slice none 0 0]) ?_ 0 _ rfl;(with_reducible repeat (first | refine blk_drewN ?_ _ | refine blk_drew ?_ | refine blk_alloc ?_ _));exact BK298.out) hb);have n6_:=Aside0.mk (below_step (by repeat (first | (with_reducible first | exact HB.out | apply below_alloc | apply pw_below_drewN | apply below_drew1 | refine below_set ?_ GE256.out | refine below_set ?_ GE298.out) | exact HB.out)) hb);clear HO_8;clear HO_9;clear HO_257004;clear HO296;clear BK256;clear BK298;clear HB;have HO_8:=n0_;have HO_9:=n1_;have HO_257004:=n2_;have HO296:=n3_;have BK256:=n4_;have BK298:=n5_;have HB:=n6_;clear n0_ n1_ n2_ n3_ n4_ n5_ n6_;(try clear hb);(try clear hb2);(try clear hk);(try clear hi)))
                   go_ret
                   exact ⟨by first | rfl | (simp [errW_none,errW_some] <;> rfl) | (simp [*,errW_none,errW_some] <;> rfl),by repeat (first | (with_reducible first | exact HB.out | apply below_alloc | apply pw_below_drewN | apply below_drew1 | refine below_set ?_ GE256.out | refine below_set ?_ GE298.out) | exact HB.out)⟩
                  ·rw [if_neg c76] at H
                   have c76b0 : (t297 == 5) = false:=beq_eq_false_iff_ne.mpr c76
                   have c76b1 : (t297 != 5) = true:=bne_iff_ne.mpr c76
                   obtain rfl:=Option.some.inj H
                   go_wp2_with (first | ((with_reducible refine gate_callee (f:=20) rfl ?_);refine goesL_ (some 116) rfl rfl Try.func20 (by kernel_rfl) rfl #[.string x7_4] rfl (by (try simp only [List.map_toArray,List.map_cons,List.map_nil]);first | done | rfl | (simp only [List.length_drop,List.length_take];rfl)) ?_;(with_reducible refine (impl_Stuff.calls x7_4 t287 _ A69.out).mono ?_);rintro e w86 ⟨rfl,hb⟩;refine ⟨_,rfl, ?_⟩;have n0_:=Aside0.mk (Kd.R_below (by (with_reducible repeat (first | apply Kd.R_alloc | apply Kd.R_drewN | apply Kd.R_drew));exact HO_8.out) hb);have n1_:=Aside0.mk (Kd.R_below (by (with_reducible repeat (first | apply Kd.R_alloc | apply Kd.R_drewN | apply Kd.R_drew));exact HO_9.out) hb);have n2_:=Aside0.mk (Kd.R_below (by (with_reducible repeat (first | apply Kd.R_alloc | apply Kd.R_drewN | apply Kd.R_drew));exact HO_257004.out) hb);have n3_:=Aside0.mk (blk_below (g:=gb256) (o := .cells #[.bool x257000_7, .int .u32 x257001_7, .bool x257002_7, .int .i64 x257003_7, .slice Ao22 x257004_7.length co22] 25 (0,0)) (by (with_reducible repeat (first | refine blk_drewN ?_ _ | refine blk_drew ?_ | refine blk_alloc ?_ _));exact BK256.out) hb);have n4_:=Aside0.mk (below_step (by repeat (first | (with_reducible first | exact HB.out | apply below_alloc | apply pw_below_drewN | apply below_drew1 | refine below_set ?_ GE256.out) | exact HB.out)) hb);clear HO_8;clear HO_9;clear HO_257004;clear BK256;clear HB;have HO_8:=n0_;have HO_9:=n1_;have HO_257004:=n2_;have BK256:=n3_;have HB:=n4_;clear n0_ n1_ n2_ n3_ n4_;(try clear hb);(try clear hb2);(try clear hk);(try clear hi)) | ((with_reducible refine gate_callee (f:=22) rfl ?_);refine goesL_ (some 119) rfl rfl Try.func22 (by kernel_rfl) rfl #[.slice A1 l1.length c1, .int .i64 9] rfl (by (try simp only [List.map_toArray,List.map_cons,List.map_nil]);first | done | rfl | (simp only [List.length_drop,List.length_take];rfl)) ?_;(with_reducible refine (laws_wByte.calls _ _ l1 9 t288 _ ?side1 ?side2 A71.out).mono ?_);(case side1 => repeat (first | exact (Kd.C_below HR1.out HB.out) | (with_reducible refine Kd.C_alloc ?_ _) | (with_reducible refine Kd.C_drewN ?_ _) | (with_reducible refine Kd.C_drew ?_)));(case side2 => exact HC1.out);rintro e w' ⟨rfl,⟨nd,rfl⟩⟩;refine ⟨_,rfl, ?_⟩;(try (rw [drewN_self w86];generalize hq_ : World.drewN w86 _ = w86;have n0_ : Aside0 (Kd.R (Kd.int .u8) 5 w86 w.heap.size (fun _ => True) (.slice Ao22 x257004_7.length co22) x257004_7):=⟨by rw [← hq_];exact (by (with_reducible repeat (first | apply Kd.R_alloc | apply Kd.R_drewN | apply Kd.R_drew));exact HO_257004.out)⟩;have n1_ : Aside0 (Kd.R (Kd.int .i64) 3 w86 w.heap.size (fun k_ => some k_ ≠ (u9 : Value).ownBlock) v273 t272):=⟨by rw [← hq_];exact (by (with_reducible repeat (first | apply Kd.R_alloc | apply Kd.R_drewN | apply Kd.R_drew));exact HO_8.out)⟩;have n2_ : Aside0 (Kd.R (Kd.int .i64) 3 w86 w.heap.size (fun k_ => some k_ ≠ (v273 : Value).ownBlock) u9 x9_4):=⟨by rw [← hq_];exact (by (with_reducible repeat (first | apply Kd.R_alloc | apply Kd.R_drewN | apply Kd.R_drew));exact HO_9.out)⟩;have n3_ : Aside0 (w86.heap[gb256]? = some (.cells #[.bool x257000_7, .int .u32 x257001_7, .bool x257002_7, .int .i64 x257003_7, .slice Ao22 x257004_7.length co22] 25 (0,0))):=⟨by rw [← hq_];exact (by (with_reducible repeat (first | refine blk_drewN ?_ _ | refine blk_drew ?_ | refine blk_alloc ?_ _));exact BK256.out)⟩;have n4_ : Aside0 (Below w.heap.size w w86):=⟨by rw [← hq_];exact (by repeat (first | (with_reducible first | exact HB.out | apply below_alloc | apply pw_below_drewN | apply below_drew1 | refine below_set ?_ GE256.out) | exact HB.out))⟩;clear HO_257004 HO_8 HO_9 BK256 HB hq_;have HO_257004:=n0_;have HO_8:=n1_;have HO_9:=n2_;have BK256:=n3_;have HB:=n4_;clear n0_ n1_ n2_ n3_ n4_))) | ((with_reducible refine gate_callee (f:=16) rfl ?_);refine goesL_ (some 121) rfl rfl Try.func16 (by kernel_rfl) rfl #[.int .i64 (Int.tmod t288 2), .int .i64 1] rfl (by (try simp only [List.map_toArray,List.map_cons,List.map_nil]);first | done | rfl | (simp only [List.length_drop,List.length_take];rfl)) ?_;(with_reducible refine (laws_wBits.calls k4 (Int.tmod t288 2) 1 t289 _ A72.out).mono ?_);rintro e w87 ⟨rfl,hb⟩;refine ⟨_,rfl, ?_⟩;have n0_:=Aside0.mk (Kd.R_below (by (with_reducible repeat (first | apply Kd.R_alloc | apply Kd.R_drewN | apply Kd.R_drew));exact HO_8.out) hb);have n1_:=Aside0.mk (Kd.R_below (by (with_reducible repeat (first | apply Kd.R_alloc | apply Kd.R_drewN | apply Kd.R_drew));exact HO_9.out) hb);have n2_:=Aside0.mk (Kd.R_below (by (with_reducible repeat (first | apply Kd.R_alloc | apply Kd.R_drewN | apply Kd.R_drew));exact HO_257004.out) hb);have n3_:=Aside0.mk (blk_below (g:=gb256) (o := .cells #[.bool x257000_7, .int .u32 x257001_7, .bool x257002_7, .int .i64 x257003_7, .slice Ao22 x257004_7.length co22] 25 (0,0)) (by (with_reducible repeat (first | refine blk_drewN ?_ _ | refine blk_drew ?_ | refine blk_alloc ?_ _));exact BK256.out) hb);have n4_:=Aside0.mk (below_step (by repeat (first | (with_reducible first | exact HB.out | apply below_alloc | apply pw_below_drewN | apply below_drew1 | refine below_set ?_ GE256.out) | exact HB.out)) hb);clear HO_8;clear HO_9;clear HO_257004;clear BK256;clear HB;have HO_8:=n0_;have HO_9:=n1_;have HO_257004:=n2_;have BK256:=n3_;have HB:=n4_;clear n0_ n1_ n2_ n3_ n4_;(try clear hb);(try clear hb2);(try clear hk);(try clear hi)) | ((with_reducible refine gate_callee (f:=24) rfl ?_);refine goesL_ (some 126) rfl rfl Try.func24 (by kernel_rfl) rfl #[.string (((t287 ++ (⟨#[49]⟩ : ByteArray)) ++ t289) ++ (⟨#[49]⟩ : ByteArray))] rfl (by (try simp only [List.map_toArray,List.map_cons,List.map_nil]);first | done | rfl | (simp only [List.length_drop,List.length_take];rfl)) ?_;(with_reducible refine (impl_Decode.calls (((t287 ++ (⟨#[49]⟩ : ByteArray)) ++ t289) ++ (⟨#[49]⟩ : ByteArray)) t290 t291 t292 t293 t294 t297 _ A75.out).mono ?_);rintro e w88 ⟨v295,rfl,ho0,hb⟩;refine ⟨_,rfl, ?_⟩;have n0_:=Aside0.mk (Kd.R_below (by (with_reducible repeat (first | apply Kd.R_alloc | apply Kd.R_drewN | apply Kd.R_drew));exact HO_8.out) hb);have n1_:=Aside0.mk (Kd.R_below (by (with_reducible repeat (first | apply Kd.R_alloc | apply Kd.R_drewN | apply Kd.R_drew));exact HO_9.out) hb);have n2_:=Aside0.mk (Kd.R_elder' (by (with_reducible repeat (first | apply Kd.R_alloc | apply Kd.R_drewN | apply Kd.R_drew));exact HO_257004.out) (Kd.R_base ho0) hb);have n3_:=Aside0.mk (Kd.R_lower (Kd.R_new' ho0 (Kd.R_lt (by (with_reducible repeat (first | apply Kd.R_alloc | apply Kd.R_drewN | apply Kd.R_drew));exact HO_257004.out))) (below_size (by repeat (first | (with_reducible first | exact HB.out | apply below_alloc | apply pw_below_drewN | apply below_drew1 | refine below_set ?_ GE256.out) | exact HB.out))));have n4_:=Aside0.mk (blk_below (g:=gb256) (o := .cells #[.bool x257000_7, .int .u32 x257001_7, .bool x257002_7, .int .i64 x257003_7, .slice Ao22 x257004_7.length co22] 25 (0,0)) (by (with_reducible repeat (first | refine blk_drewN ?_ _ | refine blk_drew ?_ | refine blk_alloc ?_ _));exact BK256.out) hb);have n5_:=Aside0.mk (below_step (by repeat (first | (with_reducible first | exact HB.out | apply below_alloc | apply pw_below_drewN | apply below_drew1 | refine below_set ?_ GE256.out) | exact HB.out)) hb);clear HO_8;clear HO_9;clear HO_257004;clear BK256;clear HB;have HO_8:=n0_;have HO_9:=n1_;have HO_257004:=n2_;have HO296:=n3_;have BK256:=n4_;have HB:=n5_;clear n0_ n1_ n2_ n3_ n4_ n5_;(try clear hb);(try clear hb2);(try clear hk);(try clear hi);(try clear ho0)) | ((with_reducible refine gate_dst (N:=16) rfl ?_);(try (refine gate_guard (by rfl) ?_;dsimp only));refine box_event ?hg (N:=16) ?hd (cs := #[.bool false, .int .u32 0, .bool false, .int .i64 0, .slice none 0 0]) (t:=25) ?hr ?_;(case hd => rfl);(case hg => rfl);(case hr => first | (go_simp;done) | (go_simp;rfl));intro gb298 hg w89 hbox hb;have n0_:=Aside0.mk (Kd.R_below (by (with_reducible repeat (first | apply Kd.R_alloc | apply Kd.R_drewN | apply Kd.R_drew));exact HO_8.out) hb);have n1_:=Aside0.mk (Kd.R_below (by (with_reducible repeat (first | apply Kd.R_alloc | apply Kd.R_drewN | apply Kd.R_drew));exact HO_9.out) hb);have n2_:=Aside0.mk (Kd.R_below (by (with_reducible repeat (first | apply Kd.R_alloc | apply Kd.R_drewN | apply Kd.R_drew));exact HO_257004.out) hb);have n3_:=Aside0.mk (Kd.R_below (by (with_reducible repeat (first | apply Kd.R_alloc | apply Kd.R_drewN | apply Kd.R_drew));exact HO296.out) hb);have n4_:=Aside0.mk (blk_below (g:=gb256) (o := .cells #[.bool x257000_7, .int .u32 x257001_7, .bool x257002_7, .int .i64 x257003_7, .slice Ao22 x257004_7.length co22] 25 (0,0)) (by (with_reducible repeat (first | refine blk_drewN ?_ _ | refine blk_drew ?_ | refine blk_alloc ?_ _));exact BK256.out) hb);have n5_:=Aside0.mk (below_step (by repeat (first | (with_reducible first | exact HB.out | apply below_alloc | apply pw_below_drewN | apply below_drew1 | refine below_set ?_ GE256.out) | exact HB.out)) hb);have n6_:=Aside0.mk (hbox);have n7_:=Aside0.mk ((by rw [hg];exact (below_size (by repeat (first | (with_reducible first | exact HB.out | apply below_alloc | apply pw_below_drewN | apply below_drew1 | refine below_set ?_ GE256.out) | exact HB.out))) : w.heap.size ≤ gb298));have n8_:=Aside0.mk ((by rw [hg];exact (below_size (by repeat (first | (with_reducible first | exact HB.out | apply below_alloc | apply pw_below_drewN | apply below_drew1 | refine below_set ?_ GE256.out) | exact HB.out))) : w.heap.size ≤ gb298));have n9_:=Aside0.mk ((by rw [hg];exact Nat.ne_of_lt (blk_lt (g:=gb256) (o := .cells #[.bool x257000_7, .int .u32 x257001_7, .bool x257002_7, .int .i64 x257003_7, .slice Ao22 x257004_7.length co22] 25 (0,0)) (by (with_reducible repeat (first | refine blk_drewN ?_ _ | refine blk_drew ?_ | refine blk_alloc ?_ _));exact BK256.out)) : gb256 ≠ gb298));have n10_:=Aside0.mk ((by rw [hg];exact Nat.ne_of_gt (blk_lt (g:=gb256) (o := .cells #[.bool x257000_7, .int .u32 x257001_7, .bool x257002_7, .int .i64 x257003_7, .slice Ao22 x257004_7.length co22] 25 (0,0)) (by (with_reducible repeat (first | refine blk_drewN ?_ _ | refine blk_drew ?_ | refine blk_alloc ?_ _));exact BK256.out)) : gb298 ≠ gb256));clear HO_8;clear HO_9;clear HO_257004;clear HO296;clear BK256;clear HB;have HO_8:=n0_;have HO_9:=n1_;have HO_257004:=n2_;have HO296:=n3_;have BK256:=n4_;have HB:=n5_;have BK298:=n6_;have GW298:=n7_;have GE298:=n8_;have NB256_298:=n9_;have NB298_256:=n10_;clear n0_ n1_ n2_ n3_ n4_ n5_ n6_ n7_ n8_ n9_ n10_;clear hb hbox hg;have hnb90:=NB298_256.out;have hnc90:=NB256_298.out;have hcz91_0 : w89.cell? ⟨gb298,0,none⟩ = some (.bool false):=(blk_cell BK298.out 0).trans rfl;have hcz91_1 : w89.cell? ⟨gb298,1,none⟩ = some (.int .u32 0):=(blk_cell BK298.out 1).trans rfl;have hcz91_2 : w89.cell? ⟨gb298,2,none⟩ = some (.bool false):=(blk_cell BK298.out 2).trans rfl;have hcz91_3 : w89.cell? ⟨gb298,3,none⟩ = some (.int .i64 0):=(blk_cell BK298.out 3).trans rfl;have hcz91_4 : w89.cell? ⟨gb298,4,none⟩ = some (.slice none 0 0):=(blk_cell BK298.out 4).trans rfl;have hfz91_0:=blk_frozen BK298.out 0;have hfz91_1:=blk_frozen BK298.out 1;have hfz91_2:=blk_frozen BK298.out 2;have hfz91_3:=blk_frozen BK298.out 3;have hfz91_4:=blk_frozen BK298.out 4;obtain ⟨Ao92,co92,eo92⟩:=Kd.R_slice HO296.out;subst eo92))
                   go_ret
                   exact ⟨by first | rfl | (simp [errW_none,errW_some] <;> rfl) | (simp [*,errW_none,errW_some] <;> rfl),by repeat (first | (with_reducible first | exact HB.out | apply below_alloc | apply pw_below_drewN | apply below_drew1 | refine below_set ?_ GE256.out | refine below_set ?_ GE298.out) | exact HB.out)⟩
                 ·rw [if_neg c74] at H
                  exact absurd H (by simp)
                ·rw [if_neg c73] at H
                 exact absurd H (by simp)
               ·rw [if_neg c70] at H
                exact absurd H (by simp)
           ·rw [if_neg c41] at H
            have c41b0 : (t269 == 14) = false:=beq_eq_false_iff_ne.mpr c41
            have c41b1 : (t269 != 14) = true:=bne_iff_ne.mpr c41
            obtain rfl:=Option.some.inj H
            go_wp2_with (first | ((with_reducible refine gate_callee (f:=20) rfl ?_);refine goesL_ (some 58) rfl rfl Try.func20 (by kernel_rfl) rfl #[.string (t258 ++ t260)] rfl (by (try simp only [List.map_toArray,List.map_cons,List.map_nil]);first | done | rfl | (simp only [List.length_drop,List.length_take];rfl)) ?_;(with_reducible refine (impl_Stuff.calls (t258 ++ t260) t267 _ A38.out).mono ?_);rintro e w93 ⟨rfl,hb⟩;refine ⟨_,rfl, ?_⟩;have n0_:=Aside0.mk (Kd.R_below (by (with_reducible repeat (first | apply Kd.R_alloc | apply Kd.R_drewN | apply Kd.R_drew));exact HO_257004.out) hb);have n1_:=Aside0.mk (blk_below (g:=gb256) (o := .cells #[.bool x257000_7, .int .u32 x257001_7, .bool x257002_7, .int .i64 x257003_7, .slice Ao22 x257004_7.length co22] 25 (0,0)) (by (with_reducible repeat (first | refine blk_drewN ?_ _ | refine blk_drew ?_ | refine blk_alloc ?_ _));exact BK256.out) hb);have n2_:=Aside0.mk (below_step (by repeat (first | (with_reducible first | exact HB.out | apply below_alloc | apply pw_below_drewN | apply below_drew1 | refine below_set ?_ GE256.out) | exact HB.out)) hb);clear HO_257004;clear BK256;clear HB;have HO_257004:=n0_;have BK256:=n1_;have HB:=n2_;clear n0_ n1_ n2_;(try clear hb);(try clear hb2);(try clear hk);(try clear hi)) | ((with_reducible refine gate_callee (f:=19) rfl ?_);refine goesL_ (some 60) rfl rfl Try.func19 (by kernel_rfl) rfl #[.string (t267 ++ (⟨#[49,49,49]⟩ : ByteArray))] rfl (by (try simp only [List.map_toArray,List.map_cons,List.map_nil]);first | done | rfl | (simp only [List.length_drop,List.length_take];rfl)) ?_;(with_reducible refine (impl_Judge.calls (t267 ++ (⟨#[49,49,49]⟩ : ByteArray)) t268 t269 t270 t271 _ A40.out).mono ?_);rintro e w94 ⟨rfl,hb⟩;refine ⟨_,rfl, ?_⟩;have n0_:=Aside0.mk (Kd.R_below (by (with_reducible repeat (first | apply Kd.R_alloc | apply Kd.R_drewN | apply Kd.R_drew));exact HO_257004.out) hb);have n1_:=Aside0.mk (blk_below (g:=gb256) (o := .cells #[.bool x257000_7, .int .u32 x257001_7, .bool x257002_7, .int .i64 x257003_7, .slice Ao22 x257004_7.length co22] 25 (0,0)) (by (with_reducible repeat (first | refine blk_drewN ?_ _ | refine blk_drew ?_ | refine blk_alloc ?_ _));exact BK256.out) hb);have n2_:=Aside0.mk (below_step (by repeat (first | (with_reducible first | exact HB.out | apply below_alloc | apply pw_below_drewN | apply below_drew1 | refine below_set ?_ GE256.out) | exact HB.out)) hb);clear HO_257004;clear BK256;clear HB;have HO_257004:=n0_;have BK256:=n1_;have HB:=n2_;clear n0_ n1_ n2_;(try clear hb);(try clear hb2);(try clear hk);(try clear hi)))
            go_ret
            exact ⟨by first | rfl | (simp [errW_none,errW_some] <;> rfl) | (simp [*,errW_none,errW_some] <;> rfl),by repeat (first | (with_reducible first | exact HB.out | apply below_alloc | apply pw_below_drewN | apply below_drew1 | refine below_set ?_ GE256.out) | exact HB.out)⟩
          ·rw [if_neg c39] at H
           exact absurd H (by simp)
      ·rw [if_neg c19] at H
       exact absurd H (by simp)
def laws_FnFiveFlips.Pure : Prop := ∀ (l0 : List Int) (l1 : List Int),l0.length ≤ maxLen → l0.length * 1 ≤ 140737488351232 → (∀ x ∈ l0,(Lit.int .u8 x).wf = true) → l1.length ≤ maxLen → l1.length * 1 ≤ 140737488351232 → (∀ x ∈ l1,(Lit.int .u8 x).wf = true) → ∃ k,laws_FnFiveFlips.f k l0 l1 = some true
theorem laws_FnFiveFlips.walk (P : laws_FnFiveFlips.Pure) (a0 : Option Addr) (len0 cap0 : Nat) (z0 : List Int) (a1 : Option Addr) (len1 cap1 : Nat) (z1 : List Int) (w : World) (w0 : (a0 = none ∧ len0 = 0 ∧ cap0 = 0 ∧ z0 = []) ∨ ∃ x,a0 = some x ∧ len0 ≤ cap0 ∧ cap0 ≤ maxLen ∧ z0.length = cap0 ∧ (∀ i,i < z0.length → w.cell? (x.add i) = some (.int .u8 (z0.getD i 0))) ∧ ∀ n ∈ z0,(Lit.int .u8 n).wf = true) (y0 : len0 * 1 ≤ 140737488351232) (w1 : (a1 = none ∧ len1 = 0 ∧ cap1 = 0 ∧ z1 = []) ∨ ∃ x,a1 = some x ∧ len1 ≤ cap1 ∧ cap1 ≤ maxLen ∧ z1.length = cap1 ∧ (∀ i,i < z1.length → w.cell? (x.add i) = some (.int .u8 (z1.getD i 0))) ∧ ∀ n ∈ z1,(Lit.int .u8 n).wf = true) (y1 : len1 * 1 ≤ 140737488351232) :
  Calls Try.prog 3 #[.slice a0 len0 cap0, .slice a1 len1 cap1] w fun e w' => e = .returned (.bool true) ∧ Below w.heap.size w w':=by
 obtain ⟨l0,rfl,hr0,hm0,hw0,hc0⟩:=ReadsInt.ofRowC w0
 obtain ⟨l1,rfl,hr1,hm1,hw1,hc1⟩:=ReadsInt.ofRowC w1
 obtain ⟨k,h⟩:=P l0 l1 hm0 y0 hw0 hm1 y1 hw1
 refine (laws_FnFiveFlips.calls k _ _ l0 _ _ l1 true w (Kd.C_of_reads (d:=(0 : Int)) (h1:=fun _ => rfl) hr0) hc0 (Kd.C_of_reads (d:=(0 : Int)) (h1:=fun _ => rfl) hr1) hc1 h).mono ?_
 rintro e w' ⟨rfl,hd⟩
 exact ⟨rfl,hd⟩
end Go.Proofs.Ytdoclpgciadjaaa.P

namespace Go.Proofs.Ytdoclpgciadjaaa.P
open Go.RowKit Go.Proofs.YtdoclpgciadjaaaW.PrintWords Go.Proofs.YtdoclpgciadjaaaW.PrintLast Go.Proofs.YtdoclpgciadjaaaW.PrintMore
set_option linter.unusedVariables false
set_option linter.unusedSimpArgs false
def spec_l1walk.tail (k : Nat) (all : List Int) (p : List Int) (i : Nat) (next : Bool → Option (Int × List Int × Bool)) : Option (Int × List Int × Bool) :=
 (spec_l1due.f all ((i + 1 : Nat) : Int)).bind fun d => if d = true then (spec_l1field.f k p).bind fun x => (if x ≤ 10 then next true else next (x == 11)) else next false
def spec_l1walk.l0 : Nat → List Int → Int → List Int → Bool → Nat → Option (Int × List Int × Bool)
 | 0,_,_,_,_,_ => none
 | k + 1,all,code,p,due,i =>
  if i < all.length then
   (if code ≠ 0 ∧ code ≠ 1 then some (7,p,false)
   else if due = true then (if 1 ≤ i then (if rd all (i : Int) = rd all ((i - 1 : Nat) : Int) then spec_l1walk.tail k all p i (fun d => spec_l1walk.l0 k all 3 p d (i + 1)) else spec_l1walk.tail k all p i (fun d => spec_l1walk.l0 k all 0 p d (i + 1))) else none)
   else (spec_l1look.f k p (rd all (i : Int))).bind fun c => spec_l1walk.tail k all (p ++ [rd all (i : Int)]) i (fun d => spec_l1walk.l0 k all c (p ++ [rd all (i : Int)]) d (i + 1)))
  else some (code,p,due)
def spec_l1walk.f (k : Nat) (a0 : ByteArray) : Option (Int × List Int × Bool):=if a0.size ≤ 4000 ∧ isBits a0 = true then spec_l1walk.l0 k (bytesOf a0) 0 [] false 0 else some (8, [],false)
end Go.Proofs.Ytdoclpgciadjaaa.P
