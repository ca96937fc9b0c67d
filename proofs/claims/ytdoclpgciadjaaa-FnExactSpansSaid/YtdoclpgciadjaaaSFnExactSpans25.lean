/- Texts of the proof of FnExactSpans, joined. -/
import Derived.Test.YtdoclpgciadjaaaSFnExactSpans21
import Derived.Test.YtdoclpgciadjaaaSFnExactSpans24
import Derived.Test.YtdoclpgciadjaaaSFnExactSpans22
import Derived.Test.YtdoclpgciadjaaaSFnExactSpans23
import Derived.Test.YtdoclpgciadjaaaSFnExactSpans9
namespace Go.Proofs.Ytdoclpgciadjaaa.P
open Go.RowKit Go.Proofs.YtdoclpgciadjaaaW.PrintWords Go.Proofs.YtdoclpgciadjaaaW.PrintLast Go.Proofs.YtdoclpgciadjaaaW.PrintMore
set_option linter.unusedVariables false
set_option linter.unusedSimpArgs false
def spec_Encode.f (k : Nat) (a0_0 : Bool) (a0_1 : Int) (a0_2 : Bool) (a0_3 : Int) (l0_4 : List Int) : Option (ByteArray):=(spec_ValidFrame.f k a0_0 a0_1 a0_2 a0_3 l0_4).bind fun t188 => (if t188 = true then ((spec_Body.f a0_0 a0_1 a0_2 a0_3 l0_4).bind fun t189 => ((spec_Crc15.f k t189).bind fun t190 => ((spec_l1num.f k t190 15).bind fun t191 => (if t189.size + t191.size ≤ 9223372036854775807 then ((spec_Stuff.f k (t189 ++ t191)).bind fun t192 => (if t192.size + 1 ≤ 9223372036854775807 then (if (t192 ++ (⟨#[49]⟩ : ByteArray)).size + 1 ≤ 9223372036854775807 then (if ((t192 ++ (⟨#[49]⟩ : ByteArray)) ++ (⟨#[49]⟩ : ByteArray)).size + 1 ≤ 9223372036854775807 then (if (((t192 ++ (⟨#[49]⟩ : ByteArray)) ++ (⟨#[49]⟩ : ByteArray)) ++ (⟨#[49]⟩ : ByteArray)).size + 7 ≤ 9223372036854775807 then (some ((((t192 ++ (⟨#[49]⟩ : ByteArray)) ++ (⟨#[49]⟩ : ByteArray)) ++ (⟨#[49]⟩ : ByteArray)) ++ (⟨#[49,49,49,49,49,49,49]⟩ : ByteArray))) else (none)) else (none)) else (none)) else (none))) else (none))))) else (some (⟨#[]⟩ : ByteArray)))
set_option maxHeartbeats 8000000 in
set_option maxRecDepth 100000 in
theorem spec_Encode.calls (k : Nat) (a0_0 : Bool) (a0_1 : Int) (a0_2 : Bool) (a0_3 : Int) (A0_4 : Option Addr) (c0_4 : Nat) (l0_4 : List Int) (r : ByteArray) (w : World) (hr0_4 : Kd.C (Kd.int .u8) w A0_4 l0_4.length l0_4) (hc0_4 : l0_4.length ≤ c0_4) (h : spec_Encode.f k a0_0 a0_1 a0_2 a0_3 l0_4 = some r) :
  Calls Try.prog 48 #[.agg #[.bool a0_0, .int .u32 a0_1, .bool a0_2, .int .i64 a0_3, .slice A0_4 l0_4.length c0_4]] w fun e w' => e = .returned (.string r) ∧ Below w.heap.size w w':=by
 have hu25:=Try.underlying25
 have HR0_4:=Aside0.mk hr0_4
 have HC0_4:=Aside0.mk hc0_4
 clear hr0_4 hc0_4
 have HB:=Aside0.mk (Below.refl w.heap.size w)
 have H : ((spec_ValidFrame.f k a0_0 a0_1 a0_2 a0_3 l0_4).bind fun t188 => (if t188 = true then ((spec_Body.f a0_0 a0_1 a0_2 a0_3 l0_4).bind fun t189 => ((spec_Crc15.f k t189).bind fun t190 => ((spec_l1num.f k t190 15).bind fun t191 => (if t189.size + t191.size ≤ 9223372036854775807 then ((spec_Stuff.f k (t189 ++ t191)).bind fun t192 => (if t192.size + 1 ≤ 9223372036854775807 then (if (t192 ++ (⟨#[49]⟩ : ByteArray)).size + 1 ≤ 9223372036854775807 then (if ((t192 ++ (⟨#[49]⟩ : ByteArray)) ++ (⟨#[49]⟩ : ByteArray)).size + 1 ≤ 9223372036854775807 then (if (((t192 ++ (⟨#[49]⟩ : ByteArray)) ++ (⟨#[49]⟩ : ByteArray)) ++ (⟨#[49]⟩ : ByteArray)).size + 7 ≤ 9223372036854775807 then (some ((((t192 ++ (⟨#[49]⟩ : ByteArray)) ++ (⟨#[49]⟩ : ByteArray)) ++ (⟨#[49]⟩ : ByteArray)) ++ (⟨#[49,49,49,49,49,49,49]⟩ : ByteArray))) else (none)) else (none)) else (none)) else (none))) else (none))))) else (some (⟨#[]⟩ : ByteArray)))) = some r:=h
 clear h
 replace H:=Option.bind_eq_some_iff.mp H
 obtain ⟨t188,A20,H⟩:=H
 replace H : (if t188 = true then ((spec_Body.f a0_0 a0_1 a0_2 a0_3 l0_4).bind fun t189 => ((spec_Crc15.f k t189).bind fun t190 => ((spec_l1num.f k t190 15).bind fun t191 => (if t189.size + t191.size ≤ 9223372036854775807 then ((spec_Stuff.f k (t189 ++ t191)).bind fun t192 => (if t192.size + 1 ≤ 9223372036854775807 then (if (t192 ++ (⟨#[49]⟩ : ByteArray)).size + 1 ≤ 9223372036854775807 then (if ((t192 ++ (⟨#[49]⟩ : ByteArray)) ++ (⟨#[49]⟩ : ByteArray)).size + 1 ≤ 9223372036854775807 then (if (((t192 ++ (⟨#[49]⟩ : ByteArray)) ++ (⟨#[49]⟩ : ByteArray)) ++ (⟨#[49]⟩ : ByteArray)).size + 7 ≤ 9223372036854775807 then (some ((((t192 ++ (⟨#[49]⟩ : ByteArray)) ++ (⟨#[49]⟩ : ByteArray)) ++ (⟨#[49]⟩ : ByteArray)) ++ (⟨#[49,49,49,49,49,49,49]⟩ : ByteArray))) else (none)) else (none)) else (none)) else (none))) else (none))))) else (some (⟨#[]⟩ : ByteArray))) = some r:=H
 have A2:=Aside0.mk A20
 clear A20
 by_cases c3 : t188 = true
 ·subst c3
  have H1 : ((spec_Body.f a0_0 a0_1 a0_2 a0_3 l0_4).bind fun t189 => ((spec_Crc15.f k t189).bind fun t190 => ((spec_l1num.f k t190 15).bind fun t191 => (if t189.size + t191.size ≤ 9223372036854775807 then ((spec_Stuff.f k (t189 ++ t191)).bind fun t192 => (if t192.size + 1 ≤ 9223372036854775807 then (if (t192 ++ (⟨#[49]⟩ : ByteArray)).size + 1 ≤ 9223372036854775807 then (if ((t192 ++ (⟨#[49]⟩ : ByteArray)) ++ (⟨#[49]⟩ : ByteArray)).size + 1 ≤ 9223372036854775807 then (if (((t192 ++ (⟨#[49]⟩ : ByteArray)) ++ (⟨#[49]⟩ : ByteArray)) ++ (⟨#[49]⟩ : ByteArray)).size + 7 ≤ 9223372036854775807 then (some ((((t192 ++ (⟨#[49]⟩ : ByteArray)) ++ (⟨#[49]⟩ : ByteArray)) ++ (⟨#[49]⟩ : ByteArray)) ++ (⟨#[49,49,49,49,49,49,49]⟩ : ByteArray))) else (none)) else (none)) else (none)) else (none))) else (none))))) = some r:=by rw [if_pos rfl] at H;exact H
  clear H
  have H:=H1
  clear H1
  replace H:=Option.bind_eq_some_iff.mp H
  obtain ⟨t189,A40,H⟩:=H
  replace H : ((spec_Crc15.f k t189).bind fun t190 => ((spec_l1num.f k t190 15).bind fun t191 => (if t189.size + t191.size ≤ 9223372036854775807 then ((spec_Stuff.f k (t189 ++ t191)).bind fun t192 => (if t192.size + 1 ≤ 9223372036854775807 then (if (t192 ++ (⟨#[49]⟩ : ByteArray)).size + 1 ≤ 9223372036854775807 then (if ((t192 ++ (⟨#[49]⟩ : ByteArray)) ++ (⟨#[49]⟩ : ByteArray)).size + 1 ≤ 9223372036854775807 then (if (((t192 ++ (⟨#[49]⟩ : ByteArray)) ++ (⟨#[49]⟩ : ByteArray)) ++ (⟨#[49]⟩ : ByteArray)).size + 7 ≤ 9223372036854775807 then (some ((((t192 ++ (⟨#[49]⟩ : ByteArray)) ++ (⟨#[49]⟩ : ByteArray)) ++ (⟨#[49]⟩ : ByteArray)) ++ (⟨#[49,49,49,49,49,49,49]⟩ : ByteArray))) else (none)) else (none)) else (none)) else (none))) else (none)))) = some r:=H
  have A4:=Aside0.mk A40
  clear A40
  replace H:=Option.bind_eq_some_iff.mp H
  obtain ⟨t190,A50,H⟩:=H
  replace H : ((spec_l1num.f k t190 15).bind fun t191 => (if t189.size + t191.size ≤ 9223372036854775807 then ((spec_Stuff.f k (t189 ++ t191)).bind fun t192 => (if t192.size + 1 ≤ 9223372036854775807 then (if (t192 ++ (⟨#[49]⟩ : ByteArray)).size + 1 ≤ 9223372036854775807 then (if ((t192 ++ (⟨#[49]⟩ : ByteArray)) ++ (⟨#[49]⟩ : ByteArray)).size + 1 ≤ 9223372036854775807 then (if (((t192 ++ (⟨#[49]⟩ : ByteArray)) ++ (⟨#[49]⟩ : ByteArray)) ++ (⟨#[49]⟩ : ByteArray)).size + 7 ≤ 9223372036854775807 then (some ((((t192 ++ (⟨#[49]⟩ : ByteArray)) ++ (⟨#[49]⟩ : ByteArray)) ++ (⟨#[49]⟩ : ByteArray)) ++ (⟨#[49,49,49,49,49,49,49]⟩ : ByteArray))) else (none)) else (none)) else (none)) else (none))) else (none))) = some r:=H
  have A5:=Aside0.mk A50
  clear A50
  replace H:=Option.bind_eq_some_iff.mp H
  obtain ⟨t191,A60,H⟩:=H
  replace H : (if t189.size + t191.size ≤ 9223372036854775807 then ((spec_Stuff.f k (t189 ++ t191)).bind fun t192 => (if t192.size + 1 ≤ 9223372036854775807 then (if (t192 ++ (⟨#[49]⟩ : ByteArray)).size + 1 ≤ 9223372036854775807 then (if ((t192 ++ (⟨#[49]⟩ : ByteArray)) ++ (⟨#[49]⟩ : ByteArray)).size + 1 ≤ 9223372036854775807 then (if (((t192 ++ (⟨#[49]⟩ : ByteArray)) ++ (⟨#[49]⟩ : ByteArray)) ++ (⟨#[49]⟩ : ByteArray)).size + 7 ≤ 9223372036854775807 then (some ((((t192 ++ (⟨#[49]⟩ : ByteArray)) ++ (⟨#[49]⟩ : ByteArray)) ++ (⟨#[49]⟩ : ByteArray)) ++ (⟨#[49,49,49,49,49,49,49]⟩ : ByteArray))) else (none)) else (none)) else (none)) else (none))) else (none)) = some r:=H
  have A6:=Aside0.mk A60
  clear A60
  by_cases c7 : t189.size + t191.size ≤ 9223372036854775807
  ·rw [if_pos c7] at H
   have c7b0:=eq_true c7
   have c7b1 : decide (t189.size + t191.size ≤ 9223372036854775807) = true:=decide_eq_true c7
   try have c7b2 : (9223372036854775807 < t189.size + t191.size) = False:=eq_false (Nat.not_lt.2 c7)
   replace H:=Option.bind_eq_some_iff.mp H
   obtain ⟨t192,A80,H⟩:=H
   replace H : (if t192.size + 1 ≤ 9223372036854775807 then (if (t192 ++ (⟨#[49]⟩ : ByteArray)).size + 1 ≤ 9223372036854775807 then (if ((t192 ++ (⟨#[49]⟩ : ByteArray)) ++ (⟨#[49]⟩ : ByteArray)).size + 1 ≤ 9223372036854775807 then (if (((t192 ++ (⟨#[49]⟩ : ByteArray)) ++ (⟨#[49]⟩ : ByteArray)) ++ (⟨#[49]⟩ : ByteArray)).size + 7 ≤ 9223372036854775807 then (some ((((t192 ++ (⟨#[49]⟩ : ByteArray)) ++ (⟨#[49]⟩ : ByteArray)) ++ (⟨#[49]⟩ : ByteArray)) ++ (⟨#[49,49,49,49,49,49,49]⟩ : ByteArray))) else (none)) else (none)) else (none)) else (none)) = some r:=H
   have A8:=Aside0.mk A80
   clear A80
   by_cases c9 : t192.size + 1 ≤ 9223372036854775807
   ·rw [if_pos c9] at H
    have c9b0:=eq_true c9
    have c9b1 : decide (t192.size + 1 ≤ 9223372036854775807) = true:=decide_eq_true c9
    try have c9b2 : (9223372036854775807 < t192.size + 1) = False:=eq_false (Nat.not_lt.2 c9)
    by_cases c10 : (t192 ++ (⟨#[49]⟩ : ByteArray)).size + 1 ≤ 9223372036854775807
    ·rw [if_pos c10] at H
     have c10b0:=eq_true c10
     have c10b1 : decide ((t192 ++ (⟨#[49]⟩ : ByteArray)).size + 1 ≤ 9223372036854775807) = true:=decide_eq_true c10
     try have c10b2 : (9223372036854775807 < (t192 ++ (⟨#[49]⟩ : ByteArray)).size + 1) = False:=eq_false (Nat.not_lt.2 c10)
     by_cases c11 : ((t192 ++ (⟨#[49]⟩ : ByteArray)) ++ (⟨#[49]⟩ : ByteArray)).size + 1 ≤ 9223372036854775807
     ·rw [if_pos c11] at H
      have c11b0:=eq_true c11
      have c11b1 : decide (((t192 ++ (⟨#[49]⟩ : ByteArray)) ++ (⟨#[49]⟩ : ByteArray)).size + 1 ≤ 9223372036854775807) = true:=decide_eq_true c11
      try have c11b2 : (9223372036854775807 < ((t192 ++ (⟨#[49]⟩ : ByteArray)) ++ (⟨#[49]⟩ : ByteArray)).size + 1) = False:=eq_false (Nat.not_lt.2 c11)
      by_cases c12 : (((t192 ++ (⟨#[49]⟩ : ByteArray)) ++ (⟨#[49]⟩ : ByteArray)) ++ (⟨#[49]⟩ : ByteArray)).size + 7 ≤ 9223372036854775807
      ·rw [if_pos c12] at H
       have c12b0:=eq_true c12
       have c12b1 : decide ((((t192 ++ (⟨#[49]⟩ : ByteArray)) ++ (⟨#[49]⟩ : ByteArray)) ++ (⟨#[49]⟩ : ByteArray)).size + 7 ≤ 9223372036854775807) = true:=decide_eq_true c12
       try have c12b2 : (9223372036854775807 < (((t192 ++ (⟨#[49]⟩ : ByteArray)) ++ (⟨#[49]⟩ : ByteArray)) ++ (⟨#[49]⟩ : ByteArray)).size + 7) = False:=eq_false (Nat.not_lt.2 c12)
       have z12 : t192.size + 10 ≤ 9223372036854775807:=by
        have h:=c12
        rw [ByteArray.size_append,ByteArray.size_append,ByteArray.size_append] at h
        change t192.size + 1 + 1 + 1 + 7 ≤ 9223372036854775807 at h
        omega
       obtain rfl:=Option.some.inj H
       go_enter Try.func48,Try.ntmps48
       go_wp2_with (first | ((with_reducible refine gate_dst (N:=1) rfl ?_);refine box_event ?hg (N:=1) ?hd (cs := #[.bool a0_0, .int .u32 a0_1, .bool a0_2, .int .i64 a0_3, .slice A0_4 l0_4.length c0_4]) (t:=25) ?hr ?_;(case hd => rfl);(case hg => rfl);(case hr => first | (go_simp;done) | (go_simp;rfl));intro gb187 hg w13 hbox hb;have n0_:=Aside0.mk (below_step (by repeat (first | (with_reducible first | exact HB.out | apply below_alloc | apply pw_below_drewN | apply below_drew1) | exact HB.out)) hb);have n1_:=Aside0.mk (hbox);have n2_:=Aside0.mk ((by rw [hg];exact (below_size (by repeat (first | (with_reducible first | exact HB.out | apply below_alloc | apply pw_below_drewN | apply below_drew1) | exact HB.out))) : w.heap.size ≤ gb187));have n3_:=Aside0.mk ((by rw [hg];exact (below_size (by repeat (first | (with_reducible first | exact HB.out | apply below_alloc | apply pw_below_drewN | apply below_drew1) | exact HB.out))) : w.heap.size ≤ gb187));clear HB;have HB:=n0_;have BK187:=n1_;have GW187:=n2_;have GE187:=n3_;clear n0_ n1_ n2_ n3_;clear hb hbox hg;have hcz14_0 : w13.cell? ⟨gb187,0,none⟩ = some (.bool a0_0):=(blk_cell BK187.out 0).trans rfl;have hcz14_1 : w13.cell? ⟨gb187,1,none⟩ = some (.int .u32 a0_1):=(blk_cell BK187.out 1).trans rfl;have hcz14_2 : w13.cell? ⟨gb187,2,none⟩ = some (.bool a0_2):=(blk_cell BK187.out 2).trans rfl;have hcz14_3 : w13.cell? ⟨gb187,3,none⟩ = some (.int .i64 a0_3):=(blk_cell BK187.out 3).trans rfl;have hcz14_4 : w13.cell? ⟨gb187,4,none⟩ = some (.slice A0_4 l0_4.length c0_4):=(blk_cell BK187.out 4).trans rfl;have hfz14_0:=blk_frozen BK187.out 0;have hfz14_1:=blk_frozen BK187.out 1;have hfz14_2:=blk_frozen BK187.out 2;have hfz14_3:=blk_frozen BK187.out 3;have hfz14_4:=blk_frozen BK187.out 4) | ((with_reducible refine gate_callee (f:=14) rfl ?_);refine goesL_ (some 5) rfl rfl Try.func14 (by kernel_rfl) rfl #[.agg #[.bool a0_0, .int .u32 a0_1, .bool a0_2, .int .i64 a0_3, .slice A0_4 l0_4.length c0_4]] rfl (by (try simp only [List.map_toArray,List.map_cons,List.map_nil]);first | done | rfl | (simp only [List.length_drop,List.length_take];rfl)) ?_;(with_reducible refine (spec_ValidFrame.calls k a0_0 a0_1 a0_2 a0_3 _ _ l0_4 true _ ?side1 ?side2 A2.out).mono ?_);(case side1 => repeat (first | exact (Kd.C_below HR0_4.out HB.out) | (with_reducible refine Kd.C_alloc ?_ _) | (with_reducible refine Kd.C_drewN ?_ _) | (with_reducible refine Kd.C_drew ?_)));(case side2 => exact HC0_4.out);rintro e w15 ⟨rfl,hb⟩;refine ⟨_,rfl, ?_⟩;have n0_:=Aside0.mk (blk_below (g:=gb187) (o := .cells #[.bool a0_0, .int .u32 a0_1, .bool a0_2, .int .i64 a0_3, .slice A0_4 l0_4.length c0_4] 25 (0,0)) (by (with_reducible repeat (first | refine blk_drewN ?_ _ | refine blk_drew ?_ | refine blk_alloc ?_ _));exact BK187.out) hb);have n1_:=Aside0.mk (below_step (by repeat (first | (with_reducible first | exact HB.out | apply below_alloc | apply pw_below_drewN | apply below_drew1 | refine below_set ?_ GE187.out) | exact HB.out)) hb);clear BK187;clear HB;have BK187:=n0_;have HB:=n1_;clear n0_ n1_;(try clear hb);(try clear hb2);(try clear hk);(try clear hi);have hcz16_0 : w15.cell? ⟨gb187,0,none⟩ = some (.bool a0_0):=(blk_cell BK187.out 0).trans rfl;have hcz16_1 : w15.cell? ⟨gb187,1,none⟩ = some (.int .u32 a0_1):=(blk_cell BK187.out 1).trans rfl;have hcz16_2 : w15.cell? ⟨gb187,2,none⟩ = some (.bool a0_2):=(blk_cell BK187.out 2).trans rfl;have hcz16_3 : w15.cell? ⟨gb187,3,none⟩ = some (.int .i64 a0_3):=(blk_cell BK187.out 3).trans rfl;have hcz16_4 : w15.cell? ⟨gb187,4,none⟩ = some (.slice A0_4 l0_4.length c0_4):=(blk_cell BK187.out 4).trans rfl;have hfz16_0:=blk_frozen BK187.out 0;have hfz16_1:=blk_frozen BK187.out 1;have hfz16_2:=blk_frozen BK187.out 2;have hfz16_3:=blk_frozen BK187.out 3;have hfz16_4:=blk_frozen BK187.out 4) | ((with_reducible refine gate_callee (f:=18) rfl ?_);refine goesL_ (some 8) rfl rfl Try.func18 (by kernel_rfl) rfl #[.agg #[.bool a0_0, .int .u32 a0_1, .bool a0_2, .int .i64 a0_3, .slice A0_4 l0_4.length c0_4]] rfl (by (try simp only [List.map_toArray,List.map_cons,List.map_nil]);first | done | rfl | (simp only [List.length_drop,List.length_take];rfl)) ?_;(with_reducible refine (spec_Body.calls a0_0 a0_1 a0_2 a0_3 _ _ l0_4 t189 _ ?side1 ?side2 A4.out).mono ?_);(case side1 => repeat (first | exact (Kd.C_below HR0_4.out HB.out) | (with_reducible refine Kd.C_alloc ?_ _) | (with_reducible refine Kd.C_drewN ?_ _) | (with_reducible refine Kd.C_drew ?_)));(case side2 => exact HC0_4.out);rintro e w17 ⟨rfl,hb⟩;refine ⟨_,rfl, ?_⟩;have n0_:=Aside0.mk (blk_below (g:=gb187) (o := .cells #[.bool a0_0, .int .u32 a0_1, .bool a0_2, .int .i64 a0_3, .slice A0_4 l0_4.length c0_4] 25 (0,0)) (by (with_reducible repeat (first | refine blk_drewN ?_ _ | refine blk_drew ?_ | refine blk_alloc ?_ _));exact BK187.out) hb);have n1_:=Aside0.mk (below_step (by repeat (first | (with_reducible first | exact HB.out | apply below_alloc | apply pw_below_drewN | apply below_drew1 | refine below_set ?_ GE187.out) | exact HB.out)) hb);clear BK187;clear HB;have BK187:=n0_;have HB:=n1_;clear n0_ n1_;(try clear hb);(try clear hb2);(try clear hk);(try clear hi)) | ((with_reducible refine gate_callee (f:=107) rfl ?_);refine goesL_ (some 11) rfl rfl Try.func107 (by kernel_rfl) rfl #[.string t189] rfl (by (try simp only [List.map_toArray,List.map_cons,List.map_nil]);first | done | rfl | (simp only [List.length_drop,List.length_take];rfl)) ?_;(with_reducible refine (spec_Crc15.calls k t189 t190 _ A5.out).mono ?_);rintro e w18 ⟨rfl,hb⟩;refine ⟨_,rfl, ?_⟩;have n0_:=Aside0.mk (blk_below (g:=gb187) (o := .cells #[.bool a0_0, .int .u32 a0_1, .bool a0_2, .int .i64 a0_3, .slice A0_4 l0_4.length c0_4] 25 (0,0)) (by (with_reducible repeat (first | refine blk_drewN ?_ _ | refine blk_drew ?_ | refine blk_alloc ?_ _));exact BK187.out) hb);have n1_:=Aside0.mk (below_step (by repeat (first | (with_reducible first | exact HB.out | apply below_alloc | apply pw_below_drewN | apply below_drew1 | refine below_set ?_ GE187.out) | exact HB.out)) hb);clear BK187;clear HB;have BK187:=n0_;have HB:=n1_;clear n0_ n1_;(try clear hb);(try clear hb2);(try clear hk);(try clear hi)) | ((with_reducible refine gate_callee (f:=79) rfl ?_);refine goesL_ (some 12) rfl rfl Try.func79 (by kernel_rfl) rfl #[.int .i64 t190, .int .i64 15] rfl (by (try simp only [List.map_toArray,List.map_cons,List.map_nil]);first | done | rfl | (simp only [List.length_drop,List.length_take];rfl)) ?_;(with_reducible refine (spec_l1num.calls k t190 15 t191 _ A6.out).mono ?_);rintro e w' ⟨rfl,⟨nd,rfl⟩⟩;refine ⟨_,rfl, ?_⟩) | ((with_reducible refine gate_callee (f:=106) rfl ?_);refine goesL_ (some 14) rfl rfl Try.func106 (by kernel_rfl) rfl #[.string (t189 ++ t191)] rfl (by (try simp only [List.map_toArray,List.map_cons,List.map_nil]);first | done | rfl | (simp only [List.length_drop,List.length_take];rfl)) ?_;(with_reducible refine (spec_Stuff.calls k (t189 ++ t191) t192 _ A8.out).mono ?_);rintro e w19 ⟨rfl,hb⟩;refine ⟨_,rfl, ?_⟩;have n0_:=Aside0.mk (blk_below (g:=gb187) (o := .cells #[.bool a0_0, .int .u32 a0_1, .bool a0_2, .int .i64 a0_3, .slice A0_4 l0_4.length c0_4] 25 (0,0)) (by (with_reducible repeat (first | refine blk_drewN ?_ _ | refine blk_drew ?_ | refine blk_alloc ?_ _));exact BK187.out) hb);have n1_:=Aside0.mk (below_step (by repeat (first | (with_reducible first | exact HB.out | apply below_alloc | apply pw_below_drewN | apply below_drew1 | refine below_set ?_ GE187.out) | exact HB.out)) hb);clear BK187;clear HB;have BK187:=n0_;have HB:=n1_;clear n0_ n1_;(try clear hb);(try clear hb2);(try clear hk);(try clear hi)))
       go_ret
       exact ⟨by first | rfl | (simp [errW_none,errW_some] <;> rfl) | (simp [*,errW_none,errW_some] <;> rfl),by repeat (first | (with_reducible first | exact HB.out | apply below_alloc | apply pw_below_drewN | apply below_drew1 | refine below_set ?_ GE187.out) | exact HB.out)⟩
      ·rw [if_neg c12] at H
       exact absurd H (by simp)
     ·rw [if_neg c11] at H
      exact absurd H (by simp)
    ·rw [if_neg c10] at H
     exact absurd H (by simp)
   ·rw [if_neg c9] at H
    exact absurd H (by simp)
  ·rw [if_neg c7] at H
   exact absurd H (by simp)
 ·replace c3:=Bool.eq_false_iff.mpr c3
  subst c3
  have H1 : (some (⟨#[]⟩ : ByteArray)) = some r:=by rw [if_neg (show ¬ (false = true) by decide)] at H;exact H
  clear H
  have H:=H1
  clear H1
  obtain rfl:=Option.some.inj H
  go_enter Try.func48,Try.ntmps48
  go_wp2_with (first | ((with_reducible refine gate_dst (N:=1) rfl ?_);refine box_event ?hg (N:=1) ?hd (cs := #[.bool a0_0, .int .u32 a0_1, .bool a0_2, .int .i64 a0_3, .slice A0_4 l0_4.length c0_4]) (t:=25) ?hr ?_;(case hd => rfl);(case hg => rfl);(case hr => first | (go_simp;done) | (go_simp;rfl));intro gb187 hg w20 hbox hb;have n0_:=Aside0.mk (below_step (by repeat (first | (with_reducible first | exact HB.out | apply below_alloc | apply pw_below_drewN | apply below_drew1) | exact HB.out)) hb);have n1_:=Aside0.mk (hbox);have n2_:=Aside0.mk ((by rw [hg];exact (below_size (by repeat (first | (with_reducible first | exact HB.out | apply below_alloc | apply pw_below_drewN | apply below_drew1) | exact HB.out))) : w.heap.size ≤ gb187));have n3_:=Aside0.mk ((by rw [hg];exact (below_size (by repeat (first | (with_reducible first | exact HB.out | apply below_alloc | apply pw_below_drewN | apply below_drew1) | exact HB.out))) : w.heap.size ≤ gb187));clear HB;have HB:=n0_;have BK187:=n1_;have GW187:=n2_;have GE187:=n3_;clear n0_ n1_ n2_ n3_;clear hb hbox hg;have hcz21_0 : w20.cell? ⟨gb187,0,none⟩ = some (.bool a0_0):=(blk_cell BK187.out 0).trans rfl;have hcz21_1 : w20.cell? ⟨gb187,1,none⟩ = some (.int .u32 a0_1):=(blk_cell BK187.out 1).trans rfl;have hcz21_2 : w20.cell? ⟨gb187,2,none⟩ = some (.bool a0_2):=(blk_cell BK187.out 2).trans rfl;have hcz21_3 : w20.cell? ⟨gb187,3,none⟩ = some (.int .i64 a0_3):=(blk_cell BK187.out 3).trans rfl;have hcz21_4 : w20.cell? ⟨gb187,4,none⟩ = some (.slice A0_4 l0_4.length c0_4):=(blk_cell BK187.out 4).trans rfl;have hfz21_0:=blk_frozen BK187.out 0;have hfz21_1:=blk_frozen BK187.out 1;have hfz21_2:=blk_frozen BK187.out 2;have hfz21_3:=blk_frozen BK187.out 3;have hfz21_4:=blk_frozen BK187.out 4) | ((with_reducible refine gate_callee (f:=14) rfl ?_);refine goesL_ (some 5) rfl rfl Try.func14 (by kernel_rfl) rfl #[.agg #[.bool a0_0, .int .u32 a0_1, .bool a0_2, .int .i64 a0_3, .slice A0_4 l0_4.length c0_4]] rfl (by (try simp only [List.map_toArray,List.map_cons,List.map_nil]);first | done | rfl | (simp only [List.length_drop,List.length_take];rfl)) ?_;(with_reducible refine (spec_ValidFrame.calls k a0_0 a0_1 a0_2 a0_3 _ _ l0_4 false _ ?side1 ?side2 A2.out).mono ?_);(case side1 => repeat (first | exact (Kd.C_below HR0_4.out HB.out) | (with_reducible refine Kd.C_alloc ?_ _) | (with_reducible refine Kd.C_drewN ?_ _) | (with_reducible refine Kd.C_drew ?_)));(case side2 => exact HC0_4.out);rintro e w22 ⟨rfl,hb⟩;refine ⟨_,rfl, ?_⟩;have n0_:=Aside0.mk (blk_below (g:=gb187) (o := .cells #[.bool a0_0, .int .u32 a0_1, .bool a0_2, .int .i64 a0_3, .slice A0_4 l0_4.length c0_4] 25 (0,0)) (by (with_reducible repeat (first | refine blk_drewN ?_ _ | refine blk_drew ?_ | refine blk_alloc ?_ _));exact BK187.out) hb);have n1_:=Aside0.mk (below_step (by repeat (first | (with_reducible first | exact HB.out | apply below_alloc | apply pw_below_drewN | apply below_drew1 | refine below_set ?_ GE187.out) | exact HB.out)) hb);clear BK187;clear HB;have BK187:=n0_;have HB:=n1_;clear n0_ n1_;(try clear hb);(try clear hb2);(try clear hk);(try clear hi)))
  go_ret
  exact ⟨by first | rfl | (simp [errW_none,errW_some] <;> rfl) | (simp [*,errW_none,errW_some] <;> rfl),by repeat (first | (with_reducible first | exact HB.out | apply below_alloc | apply pw_below_drewN | apply below_drew1 | refine below_set ?_ GE187.out) | exact HB.out)⟩
end Go.Proofs.Ytdoclpgciadjaaa.P

namespace Go.Proofs.Ytdoclpgciadjaaa.P
open Go.RowKit Go.Proofs.YtdoclpgciadjaaaW.PrintWords Go.Proofs.YtdoclpgciadjaaaW.PrintLast Go.Proofs.YtdoclpgciadjaaaW.PrintMore
set_option linter.unusedVariables false
set_option linter.unusedSimpArgs false
def spec_Spans.l0 : Nat → List (S165) → ByteArray → Int → Int → Option ((List (S165)))
 | 0,_,_,_,_ => none
 | k + 1,x3,x4,x5,x6 => if x6 < (x4.size : Int) then (if 0 ≤ x6 then (if x6 ≤ (x4.size : Int) then ((spec_Judge.f k (x4.extract 0 (x6 : Int).toNat)).bind fun bt198 => (if bt198.2.2.1 = true then (if x5 = x5 then (if 0 ≤ (wrap64 ((x3.length : Int) - 1)) then (if (wrap64 ((x3.length : Int) - 1)) < (x3.length : Int) then (spec_Spans.l0 k (x3.set ((wrap64 ((x3.length : Int) - 1)) : Int).toNat (⟨(rd_T165 x3 (wrap64 ((x3.length : Int) - 1))).f0,(rd_T165 x3 (wrap64 ((x3.length : Int) - 1))).f1,wrap64 (((rd_T165 x3 (wrap64 ((x3.length : Int) - 1))).f2) + 1)⟩ : S165)) x4 x5 (wrap64 (x6 + 1))) else (none)) else (none)) else (if x3.length < 5864062014805 then ((some (x3 ++ [(⟨x5,x6,0⟩ : S165)] : List (S165))).bind fun y205 => (if 0 ≤ (wrap64 ((y205.length : Int) - 1)) then (if (wrap64 ((y205.length : Int) - 1)) < (y205.length : Int) then (spec_Spans.l0 k (y205.set ((wrap64 ((y205.length : Int) - 1)) : Int).toNat (⟨(rd_T165 y205 (wrap64 ((y205.length : Int) - 1))).f0,(rd_T165 y205 (wrap64 ((y205.length : Int) - 1))).f1,wrap64 (((rd_T165 y205 (wrap64 ((y205.length : Int) - 1))).f2) + 1)⟩ : S165)) x4 x5 (wrap64 (x6 + 1))) else (none)) else (none))) else (none))) else (if bt198.2.1 = x5 then (if 0 ≤ (wrap64 ((x3.length : Int) - 1)) then (if (wrap64 ((x3.length : Int) - 1)) < (x3.length : Int) then (spec_Spans.l0 k (x3.set ((wrap64 ((x3.length : Int) - 1)) : Int).toNat (⟨(rd_T165 x3 (wrap64 ((x3.length : Int) - 1))).f0,(rd_T165 x3 (wrap64 ((x3.length : Int) - 1))).f1,wrap64 (((rd_T165 x3 (wrap64 ((x3.length : Int) - 1))).f2) + 1)⟩ : S165)) x4 x5 (wrap64 (x6 + 1))) else (none)) else (none)) else (if x3.length < 5864062014805 then ((some (x3 ++ [(⟨bt198.2.1,x6,0⟩ : S165)] : List (S165))).bind fun y212 => (if 0 ≤ (wrap64 ((y212.length : Int) - 1)) then (if (wrap64 ((y212.length : Int) - 1)) < (y212.length : Int) then (spec_Spans.l0 k (y212.set ((wrap64 ((y212.length : Int) - 1)) : Int).toNat (⟨(rd_T165 y212 (wrap64 ((y212.length : Int) - 1))).f0,(rd_T165 y212 (wrap64 ((y212.length : Int) - 1))).f1,wrap64 (((rd_T165 y212 (wrap64 ((y212.length : Int) - 1))).f2) + 1)⟩ : S165)) x4 bt198.2.1 (wrap64 (x6 + 1))) else (none)) else (none))) else (none))))) else (none)) else (none)) else (some x3)
def spec_Spans.f (k : Nat) (a0_0 : Bool) (a0_1 : Int) (a0_2 : Bool) (a0_3 : Int) (l0_4 : List Int) : Option ((List (S165))):=(spec_Encode.f k a0_0 a0_1 a0_2 a0_3 l0_4).bind fun t197 => (spec_Spans.l0 k (([] : List (S165))) t197 0 0)
set_option maxHeartbeats 40000000 in
set_option maxRecDepth 100000 in
theorem spec_Spans.calls (k : Nat) (a0_0 : Bool) (a0_1 : Int) (a0_2 : Bool) (a0_3 : Int) (A0_4 : Option Addr) (c0_4 : Nat) (l0_4 : List Int) (r : List (S165)) (w : World) (hr0_4 : Kd.C (Kd.int .u8) w A0_4 l0_4.length l0_4) (hc0_4 : l0_4.length ≤ c0_4) (h : spec_Spans.f k a0_0 a0_1 a0_2 a0_3 l0_4 = some r) :
  Calls Try.prog 66 #[.agg #[.bool a0_0, .int .u32 a0_1, .bool a0_2, .int .i64 a0_3, .slice A0_4 l0_4.length c0_4]] w fun e w' => ∃ v0_ : Value,e = .returned (v0_) ∧ Kd.R k165 165 w' w.heap.size (fun _ => True) v0_ r ∧ Below w.heap.size w w':=by
 have hu25:=Try.underlying25
 have hu32:=Try.underlying32
 have hu165:=Try.underlying165
 have HR0_4:=Aside0.mk hr0_4
 have HC0_4:=Aside0.mk hc0_4
 clear hr0_4 hc0_4
 have HB:=Aside0.mk (Below.refl w.heap.size w)
 have H : ((spec_Encode.f k a0_0 a0_1 a0_2 a0_3 l0_4).bind fun t197 => (spec_Spans.l0 k (([] : List (S165))) t197 0 0)) = some r:=h
 clear h
 obtain ⟨y194,hy194⟩ : ∃ y_ : List (S165),y_ = (([] : List (S165))):=⟨_,rfl⟩
 replace H : ((spec_Encode.f k a0_0 a0_1 a0_2 a0_3 l0_4).bind fun t197 => (spec_Spans.l0 k y194 t197 0 0)) = some r:=by first | (rw [hy194];with_reducible exact H) | (have H2_:=(Option.bind_some _ _).symm.trans H;rw [hy194];with_reducible exact H2_) | (have H2_:=(Option.bind_some _ _).symm.trans H;with_reducible exact H2_) | with_reducible exact H | (rw [hy194];exact H) | exact H
 have Ny194:=Aside0.mk hy194
 clear hy194
 replace H:=Option.bind_eq_some_iff.mp H
 obtain ⟨t197,A20,H⟩:=H
 replace H : (spec_Spans.l0 k y194 t197 0 0) = some r:=H
 have A2:=Aside0.mk A20
 clear A20
 have H':=Aside0.mk H
 clear H
 go_enter Try.func66,Try.ntmps66
 go_wp2_with (first | ((with_reducible refine gate_dst (N:=1) rfl ?_);refine box_event ?hg (N:=1) ?hd (cs := #[.bool a0_0, .int .u32 a0_1, .bool a0_2, .int .i64 a0_3, .slice A0_4 l0_4.length c0_4]) (t:=25) ?hr ?_;(case hd => rfl);(case hg => rfl);(case hr => first | (go_simp;done) | (go_simp;rfl));intro gb193 hg w3 hbox hb;have n0_:=Aside0.mk (below_step (by repeat (first | (with_reducible first | exact HB.out | apply below_alloc | apply pw_below_drewN | apply below_drew1) | exact HB.out)) hb);have n1_:=Aside0.mk (hbox);have n2_:=Aside0.mk ((by rw [hg];exact (below_size (by repeat (first | (with_reducible first | exact HB.out | apply below_alloc | apply pw_below_drewN | apply below_drew1) | exact HB.out))) : w.heap.size ≤ gb193));have n3_:=Aside0.mk ((by rw [hg];exact (below_size (by repeat (first | (with_reducible first | exact HB.out | apply below_alloc | apply pw_below_drewN | apply below_drew1) | exact HB.out))) : w.heap.size ≤ gb193));clear HB;have HB:=n0_;have BK193:=n1_;have GW193:=n2_;have GE193:=n3_;clear n0_ n1_ n2_ n3_;clear hb hbox hg) | ((with_reducible refine gate_dst (N:=9) rfl ?_);refine Kd.R_lit k165 _ 165 ?hg (N:=9) ?hd (xs:=([] : List (S165))) (inner := []) (ok:=fun _ => True) (okp:=fun _ => True) ?hr ?hp (fun _ hk => hk) trivial (Below.refl _ _) (Nat.le_refl _) (by simp) ?_;(case hd => rfl);(case hg => rfl);(case hr => first | (go_simp;done) | (go_simp;rfl));(case hp => exact (Reps.none _ _));intro v195 w4 ho5 hb hg_ hnew_;clear hg_ hnew_;(first | rw [← Ny194.out] at ho5 | (simp only [Int.reduceToNat] at ho5;rw [← Ny194.out] at ho5));have n0_:=Aside0.mk (Kd.R_lower ho5 (below_size (by repeat (first | (with_reducible first | exact HB.out | apply below_alloc | apply pw_below_drewN | apply below_drew1 | refine below_set ?_ GE193.out) | exact HB.out))));have n1_:=Aside0.mk (blk_below (g:=gb193) (o := .cells #[.bool a0_0, .int .u32 a0_1, .bool a0_2, .int .i64 a0_3, .slice A0_4 l0_4.length c0_4] 25 (0,0)) (by (with_reducible repeat (first | refine blk_drewN ?_ _ | refine blk_drew ?_ | refine blk_alloc ?_ _));exact BK193.out) hb);have n2_:=Aside0.mk (below_step (by repeat (first | (with_reducible first | exact HB.out | apply below_alloc | apply pw_below_drewN | apply below_drew1 | refine below_set ?_ GE193.out) | exact HB.out)) hb);clear BK193;clear HB;have HO196:=n0_;have BK193:=n1_;have HB:=n2_;clear n0_ n1_ n2_;clear hb ho5;have hcz6_0 : w4.cell? ⟨gb193,0,none⟩ = some (.bool a0_0):=(blk_cell BK193.out 0).trans rfl;have hcz6_1 : w4.cell? ⟨gb193,1,none⟩ = some (.int .u32 a0_1):=(blk_cell BK193.out 1).trans rfl;have hcz6_2 : w4.cell? ⟨gb193,2,none⟩ = some (.bool a0_2):=(blk_cell BK193.out 2).trans rfl;have hcz6_3 : w4.cell? ⟨gb193,3,none⟩ = some (.int .i64 a0_3):=(blk_cell BK193.out 3).trans rfl;have hcz6_4 : w4.cell? ⟨gb193,4,none⟩ = some (.slice A0_4 l0_4.length c0_4):=(blk_cell BK193.out 4).trans rfl;have hfz6_0:=blk_frozen BK193.out 0;have hfz6_1:=blk_frozen BK193.out 1;have hfz6_2:=blk_frozen BK193.out 2;have hfz6_3:=blk_frozen BK193.out 3;have hfz6_4:=blk_frozen BK193.out 4) | ((with_reducible refine gate_callee (f:=48) rfl ?_);refine goesL_ (some 11) rfl rfl Try.func48 (by kernel_rfl) rfl #[.agg #[.bool a0_0, .int .u32 a0_1, .bool a0_2, .int .i64 a0_3, .slice A0_4 l0_4.length c0_4]] rfl (by (try simp only [List.map_toArray,List.map_cons,List.map_nil]);first | done | rfl | (simp only [List.length_drop,List.length_take];rfl)) ?_;(with_reducible refine (spec_Encode.calls k a0_0 a0_1 a0_2 a0_3 _ _ l0_4 t197 _ ?side1 ?side2 A2.out).mono ?_);(case side1 => repeat (first | exact (Kd.C_below HR0_4.out HB.out) | (with_reducible refine Kd.C_alloc ?_ _) | (with_reducible refine Kd.C_drewN ?_ _) | (with_reducible refine Kd.C_drew ?_)));(case side2 => exact HC0_4.out);rintro e w7 ⟨rfl,hb⟩;refine ⟨_,rfl, ?_⟩;have n0_:=Aside0.mk (Kd.R_below (by (with_reducible repeat (first | apply Kd.R_alloc | apply Kd.R_drewN | apply Kd.R_drew));exact HO196.out) hb);have n1_:=Aside0.mk (blk_below (g:=gb193) (o := .cells #[.bool a0_0, .int .u32 a0_1, .bool a0_2, .int .i64 a0_3, .slice A0_4 l0_4.length c0_4] 25 (0,0)) (by (with_reducible repeat (first | refine blk_drewN ?_ _ | refine blk_drew ?_ | refine blk_alloc ?_ _));exact BK193.out) hb);have n2_:=Aside0.mk (below_step (by repeat (first | (with_reducible first | exact HB.out | apply below_alloc | apply pw_below_drewN | apply below_drew1 | refine below_set ?_ GE193.out) | exact HB.out)) hb);clear HO196;clear BK193;clear HB;have HO196:=n0_;have BK193:=n1_;have HB:=n2_;clear n0_ n1_ n2_;(try clear hb);(try clear hb2);(try clear hk);(try clear hi)))
 go_loopg [3,5,6] k (fun kq v3 v5 v6 w' => ∃ (x3_1 : List (S165)) (x5_1 : Int) (x6_1 : Int),v5 = .int .i64 x5_1 ∧ v6 = .int .i64 x6_1 ∧ Aside0 (spec_Spans.l0 kq x3_1 t197 x5_1 x6_1 = some r) ∧ Aside0 (kq ≤ k) ∧ Aside0 (Kd.R k165 165 w' w.heap.size (fun _ => True) v3 x3_1) ∧ Aside0 (w'.heap[gb193]? = some (.cells #[.bool a0_0, .int .u32 a0_1, .bool a0_2, .int .i64 a0_3,(.slice A0_4 l0_4.length c0_4)] 25 (0,0))) ∧ Aside0 (Below w.heap.size w w'))
 case atStart => exact ⟨(y194),(0),(0),(by first | rfl | (simp;done) | (simp [*];done)),(by first | rfl | (simp;done) | (simp [*];done)),H',⟨Nat.le_refl _⟩,⟨by (with_reducible repeat (first | apply Kd.R_alloc | apply Kd.R_drewN | apply Kd.R_drew));exact HO196.out⟩,⟨by (with_reducible repeat (first | refine blk_drewN ?_ _ | refine blk_drew ?_ | refine blk_alloc ?_ _));exact BK193.out⟩,⟨by repeat (first | (with_reducible first | exact HB.out | apply below_alloc | apply pw_below_drewN | apply below_drew1 | refine below_set ?_ GE193.out) | exact HB.out)⟩⟩
 case round =>
  clear H'
  try clear p2
  try clear c4
  try clear c6
  try clear hcz6_0
  try clear hcz6_1
  try clear hcz6_2
  try clear hcz6_3
  try clear hcz6_4
  try clear hfz6_0
  try clear hfz6_1
  try clear hfz6_2
  try clear hfz6_3
  try clear hfz6_4
  obtain ⟨x3_1,x5_1,x6_1,rfl,rfl,HA,HK1,HO_3,BK193,HB⟩:=hrel
  cases gk with
  | zero => exact absurd HA.out (by simp [spec_Spans.l0])
  | succ k1 =>
   have H:=HA.out
   clear HA
   unfold spec_Spans.l0 at H
   by_cases c8 : x6_1 < (t197.size : Int)
   ·rw [if_pos c8] at H
    have c8b0 : decide (x6_1 < (t197.size : Int)) = true:=decide_eq_true c8
    clear c8
    by_cases c9 : 0 ≤ x6_1
    ·rw [if_pos c9] at H
     have c9b0:=eq_true c9
     have c9b1 : decide (0 ≤ x6_1) = true:=decide_eq_true c9
     clear c9
     by_cases c10 : x6_1 ≤ (t197.size : Int)
     ·rw [if_pos c10] at H
      have c10b0:=eq_true c10
      have c10b1 : decide (x6_1 ≤ (t197.size : Int)) = true:=decide_eq_true c10
      clear c10
      replace H:=Option.bind_eq_some_iff.mp H
      obtain ⟨⟨t198,t199,t200,t201⟩,A110,H⟩:=H
      replace H : (if t200 = true then (if x5_1 = x5_1 then (if 0 ≤ (wrap64 ((x3_1.length : Int) - 1)) then (if (wrap64 ((x3_1.length : Int) - 1)) < (x3_1.length : Int) then (spec_Spans.l0 k1 (x3_1.set ((wrap64 ((x3_1.length : Int) - 1)) : Int).toNat (⟨(rd_T165 x3_1 (wrap64 ((x3_1.length : Int) - 1))).f0,(rd_T165 x3_1 (wrap64 ((x3_1.length : Int) - 1))).f1,wrap64 (((rd_T165 x3_1 (wrap64 ((x3_1.length : Int) - 1))).f2) + 1)⟩ : S165)) t197 x5_1 (wrap64 (x6_1 + 1))) else (none)) else (none)) else (if x3_1.length < 5864062014805 then ((some (x3_1 ++ [(⟨x5_1,x6_1,0⟩ : S165)] : List (S165))).bind fun y205 => (if 0 ≤ (wrap64 ((y205.length : Int) - 1)) then (if (wrap64 ((y205.length : Int) - 1)) < (y205.length : Int) then (spec_Spans.l0 k1 (y205.set ((wrap64 ((y205.length : Int) - 1)) : Int).toNat (⟨(rd_T165 y205 (wrap64 ((y205.length : Int) - 1))).f0,(rd_T165 y205 (wrap64 ((y205.length : Int) - 1))).f1,wrap64 (((rd_T165 y205 (wrap64 ((y205.length : Int) - 1))).f2) + 1)⟩ : S165)) t197 x5_1 (wrap64 (x6_1 + 1))) else (none)) else (none))) else (none))) else (if t199 = x5_1 then (if 0 ≤ (wrap64 ((x3_1.length : Int) - 1)) then (if (wrap64 ((x3_1.length : Int) - 1)) < (x3_1.length : Int) then (spec_Spans.l0 k1 (x3_1.set ((wrap64 ((x3_1.length : Int) - 1)) : Int).toNat (⟨(rd_T165 x3_1 (wrap64 ((x3_1.length : Int) - 1))).f0,(rd_T165 x3_1 (wrap64 ((x3_1.length : Int) - 1))).f1,wrap64 (((rd_T165 x3_1 (wrap64 ((x3_1.length : Int) - 1))).f2) + 1)⟩ : S165)) t197 x5_1 (wrap64 (x6_1 + 1))) else (none)) else (none)) else (if x3_1.length < 5864062014805 then ((some (x3_1 ++ [(⟨t199,x6_1,0⟩ : S165)] : List (S165))).bind fun y212 => (if 0 ≤ (wrap64 ((y212.length : Int) - 1)) then (if (wrap64 ((y212.length : Int) - 1)) < (y212.length : Int) then (spec_Spans.l0 k1 (y212.set ((wrap64 ((y212.length : Int) - 1)) : Int).toNat (⟨(rd_T165 y212 (wrap64 ((y212.length : Int) - 1))).f0,(rd_T165 y212 (wrap64 ((y212.length : Int) - 1))).f1,wrap64 (((rd_T165 y212 (wrap64 ((y212.length : Int) - 1))).f2) + 1)⟩ : S165)) t197 t199 (wrap64 (x6_1 + 1))) else (none)) else (none))) else (none)))) = some r:=H
      have A11:=Aside0.mk A110
      clear A110
      by_cases c12 : t200 = true
      ·subst c12
       have H1 : (if x5_1 = x5_1 then (if 0 ≤ (wrap64 ((x3_1.length : Int) - 1)) then (if (wrap64 ((x3_1.length : Int) - 1)) < (x3_1.length : Int) then (spec_Spans.l0 k1 (x3_1.set ((wrap64 ((x3_1.length : Int) - 1)) : Int).toNat (⟨(rd_T165 x3_1 (wrap64 ((x3_1.length : Int) - 1))).f0,(rd_T165 x3_1 (wrap64 ((x3_1.length : Int) - 1))).f1,wrap64 (((rd_T165 x3_1 (wrap64 ((x3_1.length : Int) - 1))).f2) + 1)⟩ : S165)) t197 x5_1 (wrap64 (x6_1 + 1))) else (none)) else (none)) else (if x3_1.length < 5864062014805 then ((some (x3_1 ++ [(⟨x5_1,x6_1,0⟩ : S165)] : List (S165))).bind fun y205 => (if 0 ≤ (wrap64 ((y205.length : Int) - 1)) then (if (wrap64 ((y205.length : Int) - 1)) < (y205.length : Int) then (spec_Spans.l0 k1 (y205.set ((wrap64 ((y205.length : Int) - 1)) : Int).toNat (⟨(rd_T165 y205 (wrap64 ((y205.length : Int) - 1))).f0,(rd_T165 y205 (wrap64 ((y205.length : Int) - 1))).f1,wrap64 (((rd_T165 y205 (wrap64 ((y205.length : Int) - 1))).f2) + 1)⟩ : S165)) t197 x5_1 (wrap64 (x6_1 + 1))) else (none)) else (none))) else (none))) = some r:=by rw [if_pos rfl] at H;exact H
       clear H
       have H:=H1
       clear H1
       by_cases c13 : x5_1 = x5_1
       ·rw [if_pos c13] at H
        have c13b0 : (x5_1 == x5_1) = true:=beq_iff_eq.mpr c13
        have c13b1 : (x5_1 != x5_1) = false:=bne_eq_false_iff_eq.mpr c13
        clear c13
        obtain ⟨ji14,hji14⟩ : ∃ j_ : Int,(wrap64 ((x3_1.length : Int) - 1)) = j_:=⟨_,rfl⟩
        replace H : (if 0 ≤ (ji14) then (if (ji14) < (x3_1.length : Int) then (spec_Spans.l0 k1 (x3_1.set ((ji14) : Int).toNat (⟨(rd_T165 x3_1 (ji14)).f0,(rd_T165 x3_1 (ji14)).f1,wrap64 (((rd_T165 x3_1 (ji14)).f2) + 1)⟩ : S165)) t197 x5_1 (wrap64 (x6_1 + 1))) else (none)) else (none)) = some r:=by first | (rw [hji14] at H;exact H) | (simp only [hji14] at H ⊢;exact H)
        (try rw [hji14] at A11)
        have hji14w : (IntKind.i64.wrap ((x3_1.length : Int) - 1)) = ji14:=(i64_w _).trans hji14
        by_cases c15 : 0 ≤ (ji14)
        ·rw [if_pos c15] at H
         have c15b0 : decide (0 ≤ (ji14)) = true:=decide_eq_true c15
         clear c15
         by_cases c16 : (ji14) < (x3_1.length : Int)
         ·rw [if_pos c16] at H
          have c16b0 : decide ((ji14) < (x3_1.length : Int)) = true:=decide_eq_true c16
          clear c16
          obtain ⟨y204,hy204⟩ : ∃ y_ : List (S165),y_ = (x3_1.set ((ji14) : Int).toNat (⟨(rd_T165 x3_1 (ji14)).f0,(rd_T165 x3_1 (ji14)).f1,wrap64 (((rd_T165 x3_1 (ji14)).f2) + 1)⟩ : S165)):=⟨_,rfl⟩
          replace H : (spec_Spans.l0 k1 y204 t197 x5_1 (wrap64 (x6_1 + 1))) = some r:=by first | (rw [hy204];with_reducible exact H) | (have H2_:=(Option.bind_some _ _).symm.trans H;rw [hy204];with_reducible exact H2_) | (have H2_:=(Option.bind_some _ _).symm.trans H;with_reducible exact H2_) | with_reducible exact H | (rw [hy204];exact H) | exact H
          have Ny204:=Aside0.mk hy204
          clear hy204
          have H':=Aside0.mk H
          clear H
          go_wp2_with (first | ((with_reducible refine gate_callee (f:=29) rfl ?_);refine goesL_ (some 21) rfl rfl Try.func29 (by kernel_rfl) rfl #[.string (t197.extract 0 (x6_1 : Int).toNat)] rfl (by (try simp only [List.map_toArray,List.map_cons,List.map_nil]);first | done | rfl | (simp only [List.length_drop,List.length_take];rfl)) ?_;(with_reducible refine (spec_Judge.calls k1 (t197.extract 0 (x6_1 : Int).toNat) t198 t199 true t201 _ A11.out).mono ?_);rintro e w18 ⟨rfl,hb⟩;refine ⟨_,rfl, ?_⟩;have n0_:=Aside0.mk (Kd.R_below (by (with_reducible repeat (first | apply Kd.R_alloc | apply Kd.R_drewN | apply Kd.R_drew));exact HO_3.out) hb);have n1_:=Aside0.mk (blk_below (g:=gb193) (o := .cells #[.bool a0_0, .int .u32 a0_1, .bool a0_2, .int .i64 a0_3, .slice A0_4 l0_4.length c0_4] 25 (0,0)) (by (with_reducible repeat (first | refine blk_drewN ?_ _ | refine blk_drew ?_ | refine blk_alloc ?_ _));exact BK193.out) hb);have n2_:=Aside0.mk (below_step (by repeat (first | (with_reducible first | exact HB.out | apply below_alloc | apply pw_below_drewN | apply below_drew1 | refine below_set ?_ GE193.out) | exact HB.out)) hb);clear HO_3;clear BK193;clear HB;have HO_3:=n0_;have BK193:=n1_;have HB:=n2_;clear n0_ n1_ n2_;(try clear hb);(try clear hb2);(try clear hk);(try clear hi)) | ((with_reducible refine gate_dst (N:=7) rfl ?_);refine box_event ?hg (N:=7) ?hd (cs := #[.int .i64 0, .int .i64 0, .bool false, .bool false]) (t:=32) ?hr ?_;(case hd => rfl);(case hg => rfl);(case hr => first | (go_simp;done) | (go_simp;rfl));intro gb202 hg w19 hbox hb;have n0_:=Aside0.mk (Kd.R_below (by (with_reducible repeat (first | apply Kd.R_alloc | apply Kd.R_drewN | apply Kd.R_drew));exact HO_3.out) hb);have n1_:=Aside0.mk (blk_below (g:=gb193) (o := .cells #[.bool a0_0, .int .u32 a0_1, .bool a0_2, .int .i64 a0_3, .slice A0_4 l0_4.length c0_4] 25 (0,0)) (by (with_reducible repeat (first | refine blk_drewN ?_ _ | refine blk_drew ?_ | refine blk_alloc ?_ _));exact BK193.out) hb);have n2_:=Aside0.mk (below_step (by repeat (first | (with_reducible first | exact HB.out | apply below_alloc | apply pw_below_drewN | apply below_drew1 | refine below_set ?_ GE193.out) | exact HB.out)) hb);have n3_:=Aside0.mk (hbox);have n4_:=Aside0.mk ((by rw [hg];exact (below_size (by repeat (first | (with_reducible first | exact HB.out | apply below_alloc | apply pw_below_drewN | apply below_drew1 | refine below_set ?_ GE193.out) | exact HB.out))) : w.heap.size ≤ gb202));have n5_:=Aside0.mk ((by rw [hg];exact (below_size (by repeat (first | (with_reducible first | exact HB.out | apply below_alloc | apply pw_below_drewN | apply below_drew1 | refine below_set ?_ GE193.out) | exact HB.out))) : w.heap.size ≤ gb202));have n6_:=Aside0.mk ((by rw [hg];exact Nat.ne_of_lt (blk_lt (g:=gb193) (o := .cells #[.bool a0_0, .int .u32 a0_1, .bool a0_2, .int .i64 a0_3, .slice A0_4 l0_4.length c0_4] 25 (0,0)) (by (with_reducible repeat (first | refine blk_drewN ?_ _ | refine blk_drew ?_ | refine blk_alloc ?_ _));exact BK193.out)) : gb193 ≠ gb202));have n7_:=Aside0.mk ((by rw [hg];exact Nat.ne_of_gt (blk_lt (g:=gb193) (o := .cells #[.bool a0_0, .int .u32 a0_1, .bool a0_2, .int .i64 a0_3, .slice A0_4 l0_4.length c0_4] 25 (0,0)) (by (with_reducible repeat (first | refine blk_drewN ?_ _ | refine blk_drew ?_ | refine blk_alloc ?_ _));exact BK193.out)) : gb202 ≠ gb193));clear HO_3;clear BK193;clear HB;have HO_3:=n0_;have BK193:=n1_;have HB:=n2_;have BK202:=n3_;have GW202:=n4_;have GE202:=n5_;have NB193_202:=n6_;have NB202_193:=n7_;clear n0_ n1_ n2_ n3_ n4_ n5_ n6_ n7_;clear hb hbox hg;have hnb20:=NB202_193.out;have hnc20:=NB193_202.out;have hcz21_0 : w19.cell? ⟨gb202,0,none⟩ = some (.int .i64 0):=(blk_cell BK202.out 0).trans rfl;have hcz21_1 : w19.cell? ⟨gb202,1,none⟩ = some (.int .i64 0):=(blk_cell BK202.out 1).trans rfl;have hcz21_2 : w19.cell? ⟨gb202,2,none⟩ = some (.bool false):=(blk_cell BK202.out 2).trans rfl;have hcz21_3 : w19.cell? ⟨gb202,3,none⟩ = some (.bool false):=(blk_cell BK202.out 3).trans rfl;have hfz21_0:=blk_frozen BK202.out 0;have hfz21_1:=blk_frozen BK202.out 1;have hfz21_2:=blk_frozen BK202.out 2;have hfz21_3:=blk_frozen BK202.out 3) | ((with_reducible refine gate_store (t:=32) (p:=7) rfl ?_);refine store_event (t:=32) (p:=7) (v := ?vo_w22) (w1:=((((w19.setCell ⟨gb202,0,none⟩ (.int .i64 t198)).setCell ⟨gb202,1,none⟩ (.int .i64 t199)).setCell ⟨gb202,2,none⟩ (.bool true)).setCell ⟨gb202,3,none⟩ (.bool t201))) ?hg ?ho ?hn ?hr ?_;(case ho => rfl);(case hg => rfl);(case hn => rfl);(case hr => first | (go_simp;done) | (go_simp;rfl));intro w22 hw;have n0_ : Aside0 (Kd.R k165 165 w22 w.heap.size (fun _ => True) u3 x3_1):=⟨(by rw [hw];exact (by (with_reducible repeat (first | apply Kd.R_alloc | apply Kd.R_drewN | apply Kd.R_drew));exact Kd.R_mono (Kd.R_far (p:=⟨gb202,3,none⟩) (Kd.R_far (p:=⟨gb202,2,none⟩) (Kd.R_far (p:=⟨gb202,1,none⟩) (Kd.R_far (p:=⟨gb202,0,none⟩) (Kd.R_types HO_3.out BK202.out (by decide)) (fun _ hk => hk.2) (.int .i64 t198)) (fun _ hk => hk.2) (.int .i64 t199)) (fun _ hk => hk.2) (.bool true)) (fun _ hk => hk.2) (.bool t201)) (fun _ hk => trivial)))⟩;have n1_ : Aside0 (w22.heap[gb193]? = some (.cells #[.bool a0_0, .int .u32 a0_1, .bool a0_2, .int .i64 a0_3, .slice A0_4 l0_4.length c0_4] 25 (0,0))):=⟨(by rw [hw];exact (by (with_reducible repeat (first | refine blk_drewN ?_ _ | refine blk_drew ?_ | refine blk_alloc ?_ _));refine blk_far ?_ NB193_202.out _;(with_reducible repeat (first | refine blk_drewN ?_ _ | refine blk_drew ?_ | refine blk_alloc ?_ _));refine blk_far ?_ NB193_202.out _;(with_reducible repeat (first | refine blk_drewN ?_ _ | refine blk_drew ?_ | refine blk_alloc ?_ _));refine blk_far ?_ NB193_202.out _;(with_reducible repeat (first | refine blk_drewN ?_ _ | refine blk_drew ?_ | refine blk_alloc ?_ _));refine blk_far ?_ NB193_202.out _;(with_reducible repeat (first | refine blk_drewN ?_ _ | refine blk_drew ?_ | refine blk_alloc ?_ _));exact BK193.out))⟩;have n2_ : Aside0 (w22.heap[gb202]? = some (.cells #[.int .i64 t198, .int .i64 t199, .bool true, .bool t201] 32 (0,0))):=⟨(by rw [hw];exact (by (with_reducible repeat (first | refine blk_drewN ?_ _ | refine blk_drew ?_ | refine blk_alloc ?_ _));refine blk_put (cs := #[.int .i64 t198, .int .i64 t199, .bool true, .bool false]) ?_ 3 _ rfl;(with_reducible repeat (first | refine blk_drewN ?_ _ | refine blk_drew ?_ | refine blk_alloc ?_ _));refine blk_put (cs := #[.int .i64 t198, .int .i64 t199, .bool false, .bool false]) ?_ 2 _ rfl;(with_reducible repeat (first | refine blk_drewN ?_ _ | refine blk_drew ?_ | refine blk_alloc ?_ _));refine blk_put (cs := #[.int .i64 t198, .int .i64 0, .bool false, .bool false]) ?_ 1 _ rfl;(with_reducible repeat (first | refine blk_drewN ?_ _ | refine blk_drew ?_ | refine blk_alloc ?_ _));refine blk_put (cs := #[.int .i64 0, .int .i64 0, .bool false, .bool false]) ?_ 0 _ rfl;(with_reducible repeat (first | refine blk_drewN ?_ _ | refine blk_drew ?_ | refine blk_alloc ?_ _));exact BK202.out))⟩;have n3_ : Aside0 (Below w.heap.size w w22):=⟨(by rw [hw];exact (by repeat (first | (with_reducible first | exact HB.out | apply below_alloc | apply pw_below_drewN | apply below_drew1 | refine below_set ?_ GE193.out | refine below_set ?_ GE202.out) | exact HB.out)))⟩;clear hw;clear HO_3;clear BK193;clear BK202;clear HB;have HO_3:=n0_;have BK193:=n1_;have BK202:=n2_;have HB:=n3_;clear n0_ n1_ n2_ n3_;have hcz23_0 : w22.cell? ⟨gb202,0,none⟩ = some (.int .i64 t198):=(blk_cell BK202.out 0).trans rfl;have hcz23_1 : w22.cell? ⟨gb202,1,none⟩ = some (.int .i64 t199):=(blk_cell BK202.out 1).trans rfl;have hcz23_2 : w22.cell? ⟨gb202,2,none⟩ = some (.bool true):=(blk_cell BK202.out 2).trans rfl;have hcz23_3 : w22.cell? ⟨gb202,3,none⟩ = some (.bool t201):=(blk_cell BK202.out 3).trans rfl;have hfz23_0:=blk_frozen BK202.out 0;have hfz23_1:=blk_frozen BK202.out 1;have hfz23_2:=blk_frozen BK202.out 2;have hfz23_3:=blk_frozen BK202.out 3;obtain ⟨Ao24,co24,eo24⟩:=Kd.R_slice HO_3.out;subst eo24;have p203 : 0 ≤ ((ji14) : Int):=of_decide_eq_true (by first | (with_reducible assumption) | assumption);have q203 : (ji14) < (x3_1.length : Int):=of_decide_eq_true (by first | (with_reducible assumption) | assumption);obtain ⟨ad203,e203,hx203_0,hx203_1,hx203_2⟩:=at_T165 (Kd.R_reads' HO_3.out).2.2 (ji14) p203 q203;cases e203;replace p203:=eq_true p203;replace q203:=eq_true q203;have p17 : 0 ≤ ((ji14) : Int):=of_decide_eq_true (by first | (with_reducible assumption) | assumption);have q17 : ((ji14) : Int) < ((x3_1.length : Int) : Int):=of_decide_eq_true (by first | (with_reducible assumption) | assumption);obtain ⟨go17,co17,eo17,gb17,gl17,cl17,HG17⟩:=Kd.R_form HO_3.out (by omega);(first | cases eo17 | (injection eo17 with ea_ en_ ec_;(first | subst ea_ | (injection ea_ with ea_;subst ea_));subst ec_;clear en_));have GB17:=Aside0.mk gb17;have GG17:=Aside0.mk HG17;clear gb17 gl17 HG17;(first | simp only [add_plain] at hx203_0 | skip);(first | simp only [add_plain] at hx203_1 | skip);(first | simp only [add_plain] at hx203_2 | skip);obtain ⟨ce17,hcl17,hM17,hcc17,hfr17⟩:=Kd.R_elem HO_3.out z165 ((ji14) : Int) p17 q17;obtain rfl:=k165_openM hM17;have hx17_0 : w22.cell? ⟨go17,((ji14) : Int).toNat * 3,none⟩ = some (.int .i64 ((rd_T165 x3_1 (ji14)).f0)):=hcc17 0 _ rfl;have hx17_1 : w22.cell? ⟨go17,((ji14) : Int).toNat * 3 + 1,none⟩ = some (.int .i64 ((rd_T165 x3_1 (ji14)).f1)):=hcc17 1 _ rfl;have hx17_2 : w22.cell? ⟨go17,((ji14) : Int).toNat * 3 + 2,none⟩ = some (.int .i64 ((rd_T165 x3_1 (ji14)).f2)):=hcc17 2 _ rfl;have hf17_0 : w22.frozen? ⟨go17,((ji14) : Int).toNat * 3,none⟩ = false:=hfr17 0;have hf17_1 : w22.frozen? ⟨go17,((ji14) : Int).toNat * 3 + 1,none⟩ = false:=hfr17 1;have hf17_2 : w22.frozen? ⟨go17,((ji14) : Int).toNat * 3 + 2,none⟩ = false:=hfr17 2;clear hcl17 hcc17 hfr17 hM17;replace p17:=eq_true p17;replace q17:=eq_true q17;have HX25:=Aside0.mk (show Kd.R k165 165 w22 w.heap.size (fun _ => True) (.slice (some ⟨go17,0,none⟩) x3_1.length co24) x3_1 from (by (with_reducible repeat (first | apply Kd.R_alloc | apply Kd.R_drewN | apply Kd.R_drew));exact HO_3.out));obtain ⟨ce25,hcl25,hM25,hcc25,hfr25⟩:=Kd.R_elem HX25.out z165 ((ji14) : Int) (of_decide_eq_true (by first | (with_reducible assumption) | assumption)) (by have h_ : ((ji14) : Int) < ((x3_1.length : Int) : Int):=of_decide_eq_true (by first | (with_reducible assumption) | assumption);first | exact h_ | (have e_:=(Kd.R_reads' HO_3.out).1;omega) | simpa using h_);obtain rfl:=k165_openM hM25;have HP25:=Kd.R_seg HX25.out ((ji14) : Int) (of_decide_eq_true (by first | (with_reducible assumption) | assumption)) (by have h_ : ((ji14) : Int) < ((x3_1.length : Int) : Int):=of_decide_eq_true (by first | (with_reducible assumption) | assumption);first | exact h_ | (have e_:=(Kd.R_reads' HO_3.out).1;omega) | simpa using h_) (seg := [.int .i64 (wrap64 (((rd_T165 x3_1 (ji14)).f2) + 1))]) (j:=2) hcl25 hcc25 (show 3 ≤ 3 from by decide) (x':=(⟨(rd_T165 x3_1 (ji14)).f0,(rd_T165 x3_1 (ji14)).f1,wrap64 (((rd_T165 x3_1 (ji14)).f2) + 1)⟩ : S165)) (k165_mkM _ _ _ (⟨(rd_T165 x3_1 (ji14)).f0,(rd_T165 x3_1 (ji14)).f1,wrap64 (((rd_T165 x3_1 (ji14)).f2) + 1)⟩ : S165) ) (fun _ hk => hk);have hx25_2:=hcc25 2 _ rfl;(try simp only [show (k165).sz = 3 from rfl,Nat.mul_one,Nat.add_zero] at hx25_2);have hf25_2:=hfr25 2;(try simp only [show (k165).sz = 3 from rfl,Nat.mul_one,Nat.add_zero] at hf25_2);clear hcl25 hcc25 hfr25 hM25) | ((with_reducible refine gate_store (t:=3) (p:=46) rfl ?_);refine store_event (t:=3) (p:=46) (v := ?vo_w26) (w1:=(w22.setCell ⟨go17,((ji14) : Int).toNat * 3 + 2,none⟩ (.int .i64 (wrap64 (((rd_T165 x3_1 (ji14)).f2) + 1))))) ?hg ?ho ?hn ?hr ?_;(case ho => rfl);(case hg => rfl);(case hn => rfl);(case hr => first | (go_simp;done) | (go_simp;rfl));intro w26 hw;have hg : w22.grownBy w26 (some go17):=(by rw [hw];exact HP25.2);have hp_ : Kd.R k165 165 w26 w.heap.size (fun _ => True) (.slice (some ⟨go17,0,none⟩) x3_1.length co24) y204:=(by rw [hw,Ny204.out];exact HP25.1);clear HP25;have n0_:=Aside0.mk (hp_);have n1_:=Aside0.mk (blk_grown (g:=gb193) (o := .cells #[.bool a0_0, .int .u32 a0_1, .bool a0_2, .int .i64 a0_3, .slice A0_4 l0_4.length c0_4] 25 (0,0)) (by (with_reducible repeat (first | refine blk_drewN ?_ _ | refine blk_drew ?_ | refine blk_alloc ?_ _));exact BK193.out) hg (Kd.R_ne HO_3.out BK193.out (by decide)));have n2_:=Aside0.mk (blk_grown (g:=gb202) (o := .cells #[.int .i64 t198, .int .i64 t199, .bool true, .bool t201] 32 (0,0)) (by (with_reducible repeat (first | refine blk_drewN ?_ _ | refine blk_drew ?_ | refine blk_alloc ?_ _));exact BK202.out) hg (Kd.R_ne HO_3.out BK202.out (by decide)));have n3_:=Aside0.mk ((by rw [hw];exact below_set (HB.out) GB17.out : Below w.heap.size w w26));clear HO_3;clear BK193;clear BK202;clear HB;have HO_3:=n0_;have BK193:=n1_;have BK202:=n2_;have HB:=n3_;clear n0_ n1_ n2_ n3_;clear hg hw hp_))
          go_roundg k1
          case measure => have:=HK1.out;omega
          case rel => exact ⟨(y204),(x5_1),(wrap64 (x6_1 + 1)),(by first | rfl | (simp;done) | (simp [*];done)),(by first | rfl | (simp;done) | (simp [*];done)),H',⟨by have:=HK1.out;omega⟩,⟨by (with_reducible repeat (first | apply Kd.R_alloc | apply Kd.R_drewN | apply Kd.R_drew));exact HO_3.out⟩,⟨by (with_reducible repeat (first | refine blk_drewN ?_ _ | refine blk_drew ?_ | refine blk_alloc ?_ _));exact BK193.out⟩,⟨by repeat (first | (with_reducible first | exact HB.out | apply below_alloc | apply pw_below_drewN | apply below_drew1 | refine below_set ?_ GE193.out | refine below_set ?_ GE202.out) | exact HB.out)⟩⟩
         ·rw [if_neg c16] at H
          exact absurd H (by simp)
        ·rw [if_neg c15] at H
         exact absurd H (by simp)
       ·exact absurd rfl c13
      ·replace c12:=Bool.eq_false_iff.mpr c12
       subst c12
       have H1 : (if t199 = x5_1 then (if 0 ≤ (wrap64 ((x3_1.length : Int) - 1)) then (if (wrap64 ((x3_1.length : Int) - 1)) < (x3_1.length : Int) then (spec_Spans.l0 k1 (x3_1.set ((wrap64 ((x3_1.length : Int) - 1)) : Int).toNat (⟨(rd_T165 x3_1 (wrap64 ((x3_1.length : Int) - 1))).f0,(rd_T165 x3_1 (wrap64 ((x3_1.length : Int) - 1))).f1,wrap64 (((rd_T165 x3_1 (wrap64 ((x3_1.length : Int) - 1))).f2) + 1)⟩ : S165)) t197 x5_1 (wrap64 (x6_1 + 1))) else (none)) else (none)) else (if x3_1.length < 5864062014805 then ((some (x3_1 ++ [(⟨t199,x6_1,0⟩ : S165)] : List (S165))).bind fun y212 => (if 0 ≤ (wrap64 ((y212.length : Int) - 1)) then (if (wrap64 ((y212.length : Int) - 1)) < (y212.length : Int) then (spec_Spans.l0 k1 (y212.set ((wrap64 ((y212.length : Int) - 1)) : Int).toNat (⟨(rd_T165 y212 (wrap64 ((y212.length : Int) - 1))).f0,(rd_T165 y212 (wrap64 ((y212.length : Int) - 1))).f1,wrap64 (((rd_T165 y212 (wrap64 ((y212.length : Int) - 1))).f2) + 1)⟩ : S165)) t197 t199 (wrap64 (x6_1 + 1))) else (none)) else (none))) else (none))) = some r:=by rw [if_neg (show ¬ (false = true) by decide)] at H;exact H
       clear H
       have H:=H1
       clear H1
       by_cases c40 : t199 = x5_1
       ·rw [if_pos c40] at H
        have c40b0 : (t199 == x5_1) = true:=beq_iff_eq.mpr c40
        have c40b1 : (t199 != x5_1) = false:=bne_eq_false_iff_eq.mpr c40
        clear c40
        obtain ⟨ji41,hji41⟩ : ∃ j_ : Int,(wrap64 ((x3_1.length : Int) - 1)) = j_:=⟨_,rfl⟩
        replace H : (if 0 ≤ (ji41) then (if (ji41) < (x3_1.length : Int) then (spec_Spans.l0 k1 (x3_1.set ((ji41) : Int).toNat (⟨(rd_T165 x3_1 (ji41)).f0,(rd_T165 x3_1 (ji41)).f1,wrap64 (((rd_T165 x3_1 (ji41)).f2) + 1)⟩ : S165)) t197 x5_1 (wrap64 (x6_1 + 1))) else (none)) else (none)) = some r:=by first | (rw [hji41] at H;exact H) | (simp only [hji41] at H ⊢;exact H)
        (try rw [hji41] at A11)
        have hji41w : (IntKind.i64.wrap ((x3_1.length : Int) - 1)) = ji41:=(i64_w _).trans hji41
        by_cases c42 : 0 ≤ (ji41)
        ·rw [if_pos c42] at H
         have c42b0 : decide (0 ≤ (ji41)) = true:=decide_eq_true c42
         clear c42
         by_cases c43 : (ji41) < (x3_1.length : Int)
         ·rw [if_pos c43] at H
          have c43b0 : decide ((ji41) < (x3_1.length : Int)) = true:=decide_eq_true c43
          clear c43
          obtain ⟨y211,hy211⟩ : ∃ y_ : List (S165),y_ = (x3_1.set ((ji41) : Int).toNat (⟨(rd_T165 x3_1 (ji41)).f0,(rd_T165 x3_1 (ji41)).f1,wrap64 (((rd_T165 x3_1 (ji41)).f2) + 1)⟩ : S165)):=⟨_,rfl⟩
          replace H : (spec_Spans.l0 k1 y211 t197 x5_1 (wrap64 (x6_1 + 1))) = some r:=by first | (rw [hy211];with_reducible exact H) | (have H2_:=(Option.bind_some _ _).symm.trans H;rw [hy211];with_reducible exact H2_) | (have H2_:=(Option.bind_some _ _).symm.trans H;with_reducible exact H2_) | with_reducible exact H | (rw [hy211];exact H) | exact H
          have Ny211:=Aside0.mk hy211
          clear hy211
          have H':=Aside0.mk H
          clear H
          go_wp2_with (first | ((with_reducible refine gate_callee (f:=29) rfl ?_);refine goesL_ (some 21) rfl rfl Try.func29 (by kernel_rfl) rfl #[.string (t197.extract 0 (x6_1 : Int).toNat)] rfl (by (try simp only [List.map_toArray,List.map_cons,List.map_nil]);first | done | rfl | (simp only [List.length_drop,List.length_take];rfl)) ?_;(with_reducible refine (spec_Judge.calls k1 (t197.extract 0 (x6_1 : Int).toNat) t198 t199 false t201 _ A11.out).mono ?_);rintro e w45 ⟨rfl,hb⟩;refine ⟨_,rfl, ?_⟩;have n0_:=Aside0.mk (Kd.R_below (by (with_reducible repeat (first | apply Kd.R_alloc | apply Kd.R_drewN | apply Kd.R_drew));exact HO_3.out) hb);have n1_:=Aside0.mk (blk_below (g:=gb193) (o := .cells #[.bool a0_0, .int .u32 a0_1, .bool a0_2, .int .i64 a0_3, .slice A0_4 l0_4.length c0_4] 25 (0,0)) (by (with_reducible repeat (first | refine blk_drewN ?_ _ | refine blk_drew ?_ | refine blk_alloc ?_ _));exact BK193.out) hb);have n2_:=Aside0.mk (below_step (by repeat (first | (with_reducible first | exact HB.out | apply below_alloc | apply pw_below_drewN | apply below_drew1 | refine below_set ?_ GE193.out) | exact HB.out)) hb);clear HO_3;clear BK193;clear HB;have HO_3:=n0_;have BK193:=n1_;have HB:=n2_;clear n0_ n1_ n2_;(try clear hb);(try clear hb2);(try clear hk);(try clear hi)) | ((with_reducible refine gate_dst (N:=7) rfl ?_);refine box_event ?hg (N:=7) ?hd (cs := #[.int .i64 0, .int .i64 0, .bool false, .bool false]) (t:=32) ?hr ?_;(case hd => rfl);(case hg => rfl);(case hr => first | (go_simp;done) | (go_simp;rfl));intro gb202 hg w46 hbox hb;have n0_:=Aside0.mk (Kd.R_below (by (with_reducible repeat (first | apply Kd.R_alloc | apply Kd.R_drewN | apply Kd.R_drew));exact HO_3.out) hb);have n1_:=Aside0.mk (blk_below (g:=gb193) (o := .cells #[.bool a0_0, .int .u32 a0_1, .bool a0_2, .int .i64 a0_3, .slice A0_4 l0_4.length c0_4] 25 (0,0)) (by (with_reducible repeat (first | refine blk_drewN ?_ _ | refine blk_drew ?_ | refine blk_alloc ?_ _));exact BK193.out) hb);have n2_:=Aside0.mk (below_step (by repeat (first | (with_reducible first | exact HB.out | apply below_alloc | apply pw_below_drewN | apply below_drew1 | refine below_set ?_ GE193.out) | exact HB.out)) hb);have n3_:=Aside0.mk (hbox);have n4_:=Aside0.mk ((by rw [hg];exact (below_size (by repeat (first | (with_reducible first | exact HB.out | apply below_alloc | apply pw_below_drewN | apply below_drew1 | refine below_set ?_ GE193.out) | exact HB.out))) : w.heap.size ≤ gb202));have n5_:=Aside0.mk ((by rw [hg];exact (below_size (by repeat (first | (with_reducible first | exact HB.out | apply below_alloc | apply pw_below_drewN | apply below_drew1 | refine below_set ?_ GE193.out) | exact HB.out))) : w.heap.size ≤ gb202));have n6_:=Aside0.mk ((by rw [hg];exact Nat.ne_of_lt (blk_lt (g:=gb193) (o := .cells #[.bool a0_0, .int .u32 a0_1, .bool a0_2, .int .i64 a0_3, .slice A0_4 l0_4.length c0_4] 25 (0,0)) (by (with_reducible repeat (first | refine blk_drewN ?_ _ | refine blk_drew ?_ | refine blk_alloc ?_ _));exact BK193.out)) : gb193 ≠ gb202));have n7_:=Aside0.mk ((by rw [hg];exact Nat.ne_of_gt (blk_lt (g:=gb193) (o := .cells #[.bool a0_0, .int .u32 a0_1, .bool a0_2, .int .i64 a0_3, .slice A0_4 l0_4.length c0_4] 25 (0,0)) (by (with_reducible repeat (first | refine blk_drewN ?_ _ | refine blk_drew ?_ | refine blk_alloc ?_ _));exact BK193.out)) : gb202 ≠ gb193));clear HO_3;clear BK193;clear HB;have HO_3:=n0_;have BK193:=n1_;have HB:=n2_;have BK202:=n3_;have GW202:=n4_;have GE202:=n5_;have NB193_202:=n6_;have NB202_193:=n7_;clear n0_ n1_ n2_ n3_ n4_ n5_ n6_ n7_;clear hb hbox hg;have hnb47:=NB202_193.out;have hnc47:=NB193_202.out;have hcz48_0 : w46.cell? ⟨gb202,0,none⟩ = some (.int .i64 0):=(blk_cell BK202.out 0).trans rfl;have hcz48_1 : w46.cell? ⟨gb202,1,none⟩ = some (.int .i64 0):=(blk_cell BK202.out 1).trans rfl;have hcz48_2 : w46.cell? ⟨gb202,2,none⟩ = some (.bool false):=(blk_cell BK202.out 2).trans rfl;have hcz48_3 : w46.cell? ⟨gb202,3,none⟩ = some (.bool false):=(blk_cell BK202.out 3).trans rfl;have hfz48_0:=blk_frozen BK202.out 0;have hfz48_1:=blk_frozen BK202.out 1;have hfz48_2:=blk_frozen BK202.out 2;have hfz48_3:=blk_frozen BK202.out 3) | ((with_reducible refine gate_store (t:=32) (p:=7) rfl ?_);refine store_event (t:=32) (p:=7) (v := ?vo_w49) (w1:=((((w46.setCell ⟨gb202,0,none⟩ (.int .i64 t198)).setCell ⟨gb202,1,none⟩ (.int .i64 t199)).setCell ⟨gb202,2,none⟩ (.bool false)).setCell ⟨gb202,3,none⟩ (.bool t201))) ?hg ?ho ?hn ?hr ?_;(case ho => rfl);(case hg => rfl);(case hn => rfl);(case hr => first | (go_simp;done) | (go_simp;rfl));intro w49 hw;have n0_ : Aside0 (Kd.R k165 165 w49 w.heap.size (fun _ => True) u3 x3_1):=⟨(by rw [hw];exact (by (with_reducible repeat (first | apply Kd.R_alloc | apply Kd.R_drewN | apply Kd.R_drew));exact Kd.R_mono (Kd.R_far (p:=⟨gb202,3,none⟩) (Kd.R_far (p:=⟨gb202,2,none⟩) (Kd.R_far (p:=⟨gb202,1,none⟩) (Kd.R_far (p:=⟨gb202,0,none⟩) (Kd.R_types HO_3.out BK202.out (by decide)) (fun _ hk => hk.2) (.int .i64 t198)) (fun _ hk => hk.2) (.int .i64 t199)) (fun _ hk => hk.2) (.bool false)) (fun _ hk => hk.2) (.bool t201)) (fun _ hk => trivial)))⟩;have n1_ : Aside0 (w49.heap[gb193]? = some (.cells #[.bool a0_0, .int .u32 a0_1, .bool a0_2, .int .i64 a0_3, .slice A0_4 l0_4.length c0_4] 25 (0,0))):=⟨(by rw [hw];exact (by (with_reducible repeat (first | refine blk_drewN ?_ _ | refine blk_drew ?_ | refine blk_alloc ?_ _));refine blk_far ?_ NB193_202.out _;(with_reducible repeat (first | refine blk_drewN ?_ _ | refine blk_drew ?_ | refine blk_alloc ?_ _));refine blk_far ?_ NB193_202.out _;(with_reducible repeat (first | refine blk_drewN ?_ _ | refine blk_drew ?_ | refine blk_alloc ?_ _));refine blk_far ?_ NB193_202.out _;(with_reducible repeat (first | refine blk_drewN ?_ _ | refine blk_drew ?_ | refine blk_alloc ?_ _));refine blk_far ?_ NB193_202.out _;(with_reducible repeat (first | refine blk_drewN ?_ _ | refine blk_drew ?_ | refine blk_alloc ?_ _));exact BK193.out))⟩;have n2_ : Aside0 (w49.heap[gb202]? = some (.cells #[.int .i64 t198, .int .i64 t199, .bool false, .bool t201] 32 (0,0))):=⟨(by rw [hw];exact (by (with_reducible repeat (first | refine blk_drewN ?_ _ | refine blk_drew ?_ | refine blk_alloc ?_ _));refine blk_put (cs := #[.int .i64 t198, .int .i64 t199, .bool false, .bool false]) ?_ 3 _ rfl;(with_reducible repeat (first | refine blk_drewN ?_ _ | refine blk_drew ?_ | refine blk_alloc ?_ _));refine blk_put (cs := #[.int .i64 t198, .int .i64 t199, .bool false, .bool false]) ?_ 2 _ rfl;(with_reducible repeat (first | refine blk_drewN ?_ _ | refine blk_drew ?_ | refine blk_alloc ?_ _));refine blk_put (cs := #[.int .i64 t198, .int .i64 0, .bool false, .bool false]) ?_ 1 _ rfl;(with_reducible repeat (first | refine blk_drewN ?_ _ | refine blk_drew ?_ | refine blk_alloc ?_ _));refine blk_put (cs := #[.int .i64 0, .int .i64 0, .bool false, .bool false]) ?_ 0 _ rfl;(with_reducible repeat (first | refine blk_drewN ?_ _ | refine blk_drew ?_ | refine blk_alloc ?_ _));exact BK202.out))⟩;have n3_ : Aside0 (Below w.heap.size w w49):=⟨(by rw [hw];exact (by repeat (first | (with_reducible first | exact HB.out | apply below_alloc | apply pw_below_drewN | apply below_drew1 | refine below_set ?_ GE193.out | refine below_set ?_ GE202.out) | exact HB.out)))⟩;clear hw;clear HO_3;clear BK193;clear BK202;clear HB;have HO_3:=n0_;have BK193:=n1_;have BK202:=n2_;have HB:=n3_;clear n0_ n1_ n2_ n3_;have hcz50_0 : w49.cell? ⟨gb202,0,none⟩ = some (.int .i64 t198):=(blk_cell BK202.out 0).trans rfl;have hcz50_1 : w49.cell? ⟨gb202,1,none⟩ = some (.int .i64 t199):=(blk_cell BK202.out 1).trans rfl;have hcz50_2 : w49.cell? ⟨gb202,2,none⟩ = some (.bool false):=(blk_cell BK202.out 2).trans rfl;have hcz50_3 : w49.cell? ⟨gb202,3,none⟩ = some (.bool t201):=(blk_cell BK202.out 3).trans rfl;have hfz50_0:=blk_frozen BK202.out 0;have hfz50_1:=blk_frozen BK202.out 1;have hfz50_2:=blk_frozen BK202.out 2;have hfz50_3:=blk_frozen BK202.out 3;obtain ⟨Ao51,co51,eo51⟩:=Kd.R_slice HO_3.out;subst eo51;have p210 : 0 ≤ ((ji41) : Int):=of_decide_eq_true (by first | (with_reducible assumption) | assumption);have q210 : (ji41) < (x3_1.length : Int):=of_decide_eq_true (by first | (with_reducible assumption) | assumption);obtain ⟨ad210,e210,hx210_0,hx210_1,hx210_2⟩:=at_T165 (Kd.R_reads' HO_3.out).2.2 (ji41) p210 q210;cases e210;replace p210:=eq_true p210;replace q210:=eq_true q210;have p44 : 0 ≤ ((ji41) : Int):=of_decide_eq_true (by first | (with_reducible assumption) | assumption);have q44 : ((ji41) : Int) < ((x3_1.length : Int) : Int):=of_decide_eq_true (by first | (with_reducible assumption) | assumption);obtain ⟨go44,co44,eo44,gb44,gl44,cl44,HG44⟩:=Kd.R_form HO_3.out (by omega);(first | cases eo44 | (injection eo44 with ea_ en_ ec_;(first | subst ea_ | (injection ea_ with ea_;subst ea_));subst ec_;clear en_));have GB44:=Aside0.mk gb44;have GG44:=Aside0.mk HG44;clear gb44 gl44 HG44;(first | simp only [add_plain] at hx210_0 | skip);(first | simp only [add_plain] at hx210_1 | skip);(first | simp only [add_plain] at hx210_2 | skip);obtain ⟨ce44,hcl44,hM44,hcc44,hfr44⟩:=Kd.R_elem HO_3.out z165 ((ji41) : Int) p44 q44;obtain rfl:=k165_openM hM44;have hx44_0 : w49.cell? ⟨go44,((ji41) : Int).toNat * 3,none⟩ = some (.int .i64 ((rd_T165 x3_1 (ji41)).f0)):=hcc44 0 _ rfl;have hx44_1 : w49.cell? ⟨go44,((ji41) : Int).toNat * 3 + 1,none⟩ = some (.int .i64 ((rd_T165 x3_1 (ji41)).f1)):=hcc44 1 _ rfl;have hx44_2 : w49.cell? ⟨go44,((ji41) : Int).toNat * 3 + 2,none⟩ = some (.int .i64 ((rd_T165 x3_1 (ji41)).f2)):=hcc44 2 _ rfl;have hf44_0 : w49.frozen? ⟨go44,((ji41) : Int).toNat * 3,none⟩ = false:=hfr44 0;have hf44_1 : w49.frozen? ⟨go44,((ji41) : Int).toNat * 3 + 1,none⟩ = false:=hfr44 1;have hf44_2 : w49.frozen? ⟨go44,((ji41) : Int).toNat * 3 + 2,none⟩ = false:=hfr44 2;clear hcl44 hcc44 hfr44 hM44;replace p44:=eq_true p44;replace q44:=eq_true q44;have HX52:=Aside0.mk (show Kd.R k165 165 w49 w.heap.size (fun _ => True) (.slice (some ⟨go44,0,none⟩) x3_1.length co51) x3_1 from (by (with_reducible repeat (first | apply Kd.R_alloc | apply Kd.R_drewN | apply Kd.R_drew));exact HO_3.out));obtain ⟨ce52,hcl52,hM52,hcc52,hfr52⟩:=Kd.R_elem HX52.out z165 ((ji41) : Int) (of_decide_eq_true (by first | (with_reducible assumption) | assumption)) (by have h_ : ((ji41) : Int) < ((x3_1.length : Int) : Int):=of_decide_eq_true (by first | (with_reducible assumption) | assumption);first | exact h_ | (have e_:=(Kd.R_reads' HO_3.out).1;omega) | simpa using h_);obtain rfl:=k165_openM hM52;have HP52:=Kd.R_seg HX52.out ((ji41) : Int) (of_decide_eq_true (by first | (with_reducible assumption) | assumption)) (by have h_ : ((ji41) : Int) < ((x3_1.length : Int) : Int):=of_decide_eq_true (by first | (with_reducible assumption) | assumption);first | exact h_ | (have e_:=(Kd.R_reads' HO_3.out).1;omega) | simpa using h_) (seg := [.int .i64 (wrap64 (((rd_T165 x3_1 (ji41)).f2) + 1))]) (j:=2) hcl52 hcc52 (show 3 ≤ 3 from by decide) (x':=(⟨(rd_T165 x3_1 (ji41)).f0,(rd_T165 x3_1 (ji41)).f1,wrap64 (((rd_T165 x3_1 (ji41)).f2) + 1)⟩ : S165)) (k165_mkM _ _ _ (⟨(rd_T165 x3_1 (ji41)).f0,(rd_T165 x3_1 (ji41)).f1,wrap64 (((rd_T165 x3_1 (ji41)).f2) + 1)⟩ : S165) ) (fun _ hk => hk);have hx52_2:=hcc52 2 _ rfl;(try simp only [show (k165).sz = 3 from rfl,Nat.mul_one,Nat.add_zero] at hx52_2);have hf52_2:=hfr52 2;(try simp only [show (k165).sz = 3 from rfl,Nat.mul_one,Nat.add_zero] at hf52_2);clear hcl52 hcc52 hfr52 hM52) | ((with_reducible refine gate_store (t:=3) (p:=46) rfl ?_);refine store_event (t:=3) (p:=46) (v := ?vo_w53) (w1:=(w49.setCell ⟨go44,((ji41) : Int).toNat * 3 + 2,none⟩ (.int .i64 (wrap64 (((rd_T165 x3_1 (ji41)).f2) + 1))))) ?hg ?ho ?hn ?hr ?_;(case ho => rfl);(case hg => rfl);(case hn => rfl);(case hr => first | (go_simp;done) | (go_simp;rfl));intro w53 hw;have hg : w49.grownBy w53 (some go44):=(by rw [hw];exact HP52.2);have hp_ : Kd.R k165 165 w53 w.heap.size (fun _ => True) (.slice (some ⟨go44,0,none⟩) x3_1.length co51) y211:=(by rw [hw,Ny211.out];exact HP52.1);clear HP52;have n0_:=Aside0.mk (hp_);have n1_:=Aside0.mk (blk_grown (g:=gb193) (o := .cells #[.bool a0_0, .int .u32 a0_1, .bool a0_2, .int .i64 a0_3, .slice A0_4 l0_4.length c0_4] 25 (0,0)) (by (with_reducible repeat (first | refine blk_drewN ?_ _ | refine blk_drew ?_ | refine blk_alloc ?_ _));exact BK193.out) hg (Kd.R_ne HO_3.out BK193.out (by decide)));have n2_:=Aside0.mk (blk_grown (g:=gb202) (o := .cells #[.int .i64 t198, .int .i64 t199, .bool false, .bool t201] 32 (0,0)) (by (with_reducible repeat (first | refine blk_drewN ?_ _ | refine blk_drew ?_ | refine blk_alloc ?_ _));exact BK202.out) hg (Kd.R_ne HO_3.out BK202.out (by decide)));have n3_:=Aside0.mk ((by rw [hw];exact below_set (HB.out) GB44.out : Below w.heap.size w w53));clear HO_3;clear BK193;clear BK202;clear HB;have HO_3:=n0_;have BK193:=n1_;have BK202:=n2_;have HB:=n3_;clear n0_ n1_ n2_ n3_;clear hg hw hp_))
          go_roundg k1
          case measure => have:=HK1.out;omega
          case rel => exact ⟨(y211),(x5_1),(wrap64 (x6_1 + 1)),(by first | rfl | (simp;done) | (simp [*];done)),(by first | rfl | (simp;done) | (simp [*];done)),H',⟨by have:=HK1.out;omega⟩,⟨by (with_reducible repeat (first | apply Kd.R_alloc | apply Kd.R_drewN | apply Kd.R_drew));exact HO_3.out⟩,⟨by (with_reducible repeat (first | refine blk_drewN ?_ _ | refine blk_drew ?_ | refine blk_alloc ?_ _));exact BK193.out⟩,⟨by repeat (first | (with_reducible first | exact HB.out | apply below_alloc | apply pw_below_drewN | apply below_drew1 | refine below_set ?_ GE193.out | refine below_set ?_ GE202.out) | exact HB.out)⟩⟩
         ·rw [if_neg c43] at H
          exact absurd H (by simp)
        ·rw [if_neg c42] at H
         exact absurd H (by simp)
       ·rw [if_neg c40] at H
        have c40b0 : (t199 == x5_1) = false:=beq_eq_false_iff_ne.mpr c40
        have c40b1 : (t199 != x5_1) = true:=bne_iff_ne.mpr c40
        by_cases c54 : x3_1.length < 5864062014805
        ·rw [if_pos c54] at H
         have LMc54:=Aside0.mk c54
         clear c54
         obtain ⟨y212,hy212⟩ : ∃ y_ : List (S165),y_ = (x3_1 ++ [(⟨t199,x6_1,0⟩ : S165)]):=⟨_,rfl⟩
         replace H : (if 0 ≤ (wrap64 ((y212.length : Int) - 1)) then (if (wrap64 ((y212.length : Int) - 1)) < (y212.length : Int) then (spec_Spans.l0 k1 (y212.set ((wrap64 ((y212.length : Int) - 1)) : Int).toNat (⟨(rd_T165 y212 (wrap64 ((y212.length : Int) - 1))).f0,(rd_T165 y212 (wrap64 ((y212.length : Int) - 1))).f1,wrap64 (((rd_T165 y212 (wrap64 ((y212.length : Int) - 1))).f2) + 1)⟩ : S165)) t197 t199 (wrap64 (x6_1 + 1))) else (none)) else (none)) = some r:=by first | (rw [hy212];with_reducible exact H) | (have H2_:=(Option.bind_some _ _).symm.trans H;rw [hy212];with_reducible exact H2_) | (have H2_:=(Option.bind_some _ _).symm.trans H;with_reducible exact H2_) | with_reducible exact H | (rw [hy212];exact H) | exact H
         have Ny212:=Aside0.mk hy212
         clear hy212
         obtain ⟨ji55,hji55⟩ : ∃ j_ : Int,(wrap64 ((y212.length : Int) - 1)) = j_:=⟨_,rfl⟩
         replace H : (if 0 ≤ (ji55) then (if (ji55) < (y212.length : Int) then (spec_Spans.l0 k1 (y212.set ((ji55) : Int).toNat (⟨(rd_T165 y212 (ji55)).f0,(rd_T165 y212 (ji55)).f1,wrap64 (((rd_T165 y212 (ji55)).f2) + 1)⟩ : S165)) t197 t199 (wrap64 (x6_1 + 1))) else (none)) else (none)) = some r:=by first | (rw [hji55] at H;exact H) | (simp only [hji55] at H ⊢;exact H)
         (try rw [hji55] at A11)
         have hji55w : (IntKind.i64.wrap ((y212.length : Int) - 1)) = ji55:=(i64_w _).trans hji55
         by_cases c56 : 0 ≤ (ji55)
         ·rw [if_pos c56] at H
          have c56b0 : decide (0 ≤ (ji55)) = true:=decide_eq_true c56
          clear c56
          by_cases c57 : (ji55) < (y212.length : Int)
          ·rw [if_pos c57] at H
           have c57b0 : decide ((ji55) < (y212.length : Int)) = true:=decide_eq_true c57
           clear c57
           obtain ⟨y216,hy216⟩ : ∃ y_ : List (S165),y_ = (y212.set ((ji55) : Int).toNat (⟨(rd_T165 y212 (ji55)).f0,(rd_T165 y212 (ji55)).f1,wrap64 (((rd_T165 y212 (ji55)).f2) + 1)⟩ : S165)):=⟨_,rfl⟩
           replace H : (spec_Spans.l0 k1 y216 t197 t199 (wrap64 (x6_1 + 1))) = some r:=by first | (rw [hy216];with_reducible exact H) | (have H2_:=(Option.bind_some _ _).symm.trans H;rw [hy216];with_reducible exact H2_) | (have H2_:=(Option.bind_some _ _).symm.trans H;with_reducible exact H2_) | with_reducible exact H | (rw [hy216];exact H) | exact H
           have Ny216:=Aside0.mk hy216
           clear hy216
           have H':=Aside0.mk H
           clear H
           go_wp2_with (first | ((with_reducible refine gate_callee (f:=29) rfl ?_);refine goesL_ (some 21) rfl rfl Try.func29 (by kernel_rfl) rfl #[.string (t197.extract 0 (x6_1 : Int).toNat)] rfl (by (try simp only [List.map_toArray,List.map_cons,List.map_nil]);first | done | rfl | (simp only [List.length_drop,List.length_take];rfl)) ?_;(with_reducible refine (spec_Judge.calls k1 (t197.extract 0 (x6_1 : Int).toNat) t198 t199 false t201 _ A11.out).mono ?_);rintro e w59 ⟨rfl,hb⟩;refine ⟨_,rfl, ?_⟩;have n0_:=Aside0.mk (Kd.R_below (by (with_reducible repeat (first | apply Kd.R_alloc | apply Kd.R_drewN | apply Kd.R_drew));exact HO_3.out) hb);have n1_:=Aside0.mk (blk_below (g:=gb193) (o := .cells #[.bool a0_0, .int .u32 a0_1, .bool a0_2, .int .i64 a0_3, .slice A0_4 l0_4.length c0_4] 25 (0,0)) (by (with_reducible repeat (first | refine blk_drewN ?_ _ | refine blk_drew ?_ | refine blk_alloc ?_ _));exact BK193.out) hb);have n2_:=Aside0.mk (below_step (by repeat (first | (with_reducible first | exact HB.out | apply below_alloc | apply pw_below_drewN | apply below_drew1 | refine below_set ?_ GE193.out) | exact HB.out)) hb);clear HO_3;clear BK193;clear HB;have HO_3:=n0_;have BK193:=n1_;have HB:=n2_;clear n0_ n1_ n2_;(try clear hb);(try clear hb2);(try clear hk);(try clear hi)) | ((with_reducible refine gate_dst (N:=7) rfl ?_);refine box_event ?hg (N:=7) ?hd (cs := #[.int .i64 0, .int .i64 0, .bool false, .bool false]) (t:=32) ?hr ?_;(case hd => rfl);(case hg => rfl);(case hr => first | (go_simp;done) | (go_simp;rfl));intro gb202 hg w60 hbox hb;have n0_:=Aside0.mk (Kd.R_below (by (with_reducible repeat (first | apply Kd.R_alloc | apply Kd.R_drewN | apply Kd.R_drew));exact HO_3.out) hb);have n1_:=Aside0.mk (blk_below (g:=gb193) (o := .cells #[.bool a0_0, .int .u32 a0_1, .bool a0_2, .int .i64 a0_3, .slice A0_4 l0_4.length c0_4] 25 (0,0)) (by (with_reducible repeat (first | refine blk_drewN ?_ _ | refine blk_drew ?_ | refine blk_alloc ?_ _));exact BK193.out) hb);have n2_:=Aside0.mk (below_step (by repeat (first | (with_reducible first | exact HB.out | apply below_alloc | apply pw_below_drewN | apply below_drew1 | refine below_set ?_ GE193.out) | exact HB.out)) hb);have n3_:=Aside0.mk (hbox);have n4_:=Aside0.mk ((by rw [hg];exact (below_size (by repeat (first | (with_reducible first | exact HB.out | apply below_alloc | apply pw_below_drewN | apply below_drew1 | refine below_set ?_ GE193.out) | exact HB.out))) : w.heap.size ≤ gb202));have n5_:=Aside0.mk ((by rw [hg];exact (below_size (by repeat (first | (with_reducible first | exact HB.out | apply below_alloc | apply pw_below_drewN | apply below_drew1 | refine below_set ?_ GE193.out) | exact HB.out))) : w.heap.size ≤ gb202));have n6_:=Aside0.mk ((by rw [hg];exact Nat.ne_of_lt (blk_lt (g:=gb193) (o := .cells #[.bool a0_0, .int .u32 a0_1, .bool a0_2, .int .i64 a0_3, .slice A0_4 l0_4.length c0_4] 25 (0,0)) (by (with_reducible repeat (first | refine blk_drewN ?_ _ | refine blk_drew ?_ | refine blk_alloc ?_ _));exact BK193.out)) : gb193 ≠ gb202));have n7_:=Aside0.mk ((by rw [hg];exact Nat.ne_of_gt (blk_lt (g:=gb193) (o := .cells #[.bool a0_0, .int .u32 a0_1, .bool a0_2, .int .i64 a0_3, .slice A0_4 l0_4.length c0_4] 25 (0,0)) (by (with_reducible repeat (first | refine blk_drewN ?_ _ | refine blk_drew ?_ | refine blk_alloc ?_ _));exact BK193.out)) : gb202 ≠ gb193));clear HO_3;clear BK193;clear HB;have HO_3:=n0_;have BK193:=n1_;have HB:=n2_;have BK202:=n3_;have GW202:=n4_;have GE202:=n5_;have NB193_202:=n6_;have NB202_193:=n7_;clear n0_ n1_ n2_ n3_ n4_ n5_ n6_ n7_;clear hb hbox hg;have hnb61:=NB202_193.out;have hnc61:=NB193_202.out;have hcz62_0 : w60.cell? ⟨gb202,0,none⟩ = some (.int .i64 0):=(blk_cell BK202.out 0).trans rfl;have hcz62_1 : w60.cell? ⟨gb202,1,none⟩ = some (.int .i64 0):=(blk_cell BK202.out 1).trans rfl;have hcz62_2 : w60.cell? ⟨gb202,2,none⟩ = some (.bool false):=(blk_cell BK202.out 2).trans rfl;have hcz62_3 : w60.cell? ⟨gb202,3,none⟩ = some (.bool false):=(blk_cell BK202.out 3).trans rfl;have hfz62_0:=blk_frozen BK202.out 0;have hfz62_1:=blk_frozen BK202.out 1;have hfz62_2:=blk_frozen BK202.out 2;have hfz62_3:=blk_frozen BK202.out 3) | ((with_reducible refine gate_builtin (b := .append) (xs := #[.tmp 30, .tmp 34]) rfl ?_);at_builtin;refine Kd.R_append k165 (w0:=w) w.heap.size rfl (.tmp 30) (.tmp 34) 99 165 (.agg #[(.int .i64 0),(.int .i64 0),(.int .i64 0)]) 24 rfl Try.underlying99 info165 rfl (by decide) (by omega) u3 x3_1 (⟨t199,x6_1,0⟩ : S165) [.int .i64 t199, .int .i64 x6_1, .int .i64 0] (fun _ => True) (fun _ => False) rfl (by first | (go_simp;done) | (go_simp;rfl)) ?aP (fun _ hk => hk.elim) ?aF ?aO ?aB ?aS ?aL ?_;(case aP => exact k165_mkM _ _ _ (⟨t199,x6_1,0⟩ : S165));(case aB => exact (by repeat (first | (with_reducible first | exact HB.out | apply below_alloc | apply pw_below_drewN | apply below_drew1 | refine below_set ?_ GE193.out | refine below_set ?_ GE202.out) | exact HB.out)));(case aF => exact (fun _ _ => trivial));(case aO => exact (by (with_reducible repeat (first | apply Kd.R_alloc | apply Kd.R_drewN | apply Kd.R_drew));exact Kd.R_mono (Kd.R_far (p:=⟨gb202,3,none⟩) (Kd.R_far (p:=⟨gb202,2,none⟩) (Kd.R_far (p:=⟨gb202,1,none⟩) (Kd.R_far (p:=⟨gb202,0,none⟩) (Kd.R_types HO_3.out BK202.out (by decide)) (fun _ hk => hk.2) (.int .i64 t198)) (fun _ hk => hk.2) (.int .i64 t199)) (fun _ hk => hk.2) (.bool false)) (fun _ hk => hk.2) (.bool t201)) (fun _ hk => trivial)));(case aS => exact (below_size (by repeat (first | (with_reducible first | exact HB.out | apply below_alloc | apply pw_below_drewN | apply below_drew1 | refine below_set ?_ GE193.out | refine below_set ?_ GE202.out) | exact HB.out))));(case aL => have:=LMc54.out;omega);intro v213 w63 ho hb hg hat;rw [← Ny212.out] at ho;have n0_:=Aside0.mk (blk_grown (g:=gb193) (o := .cells #[.bool a0_0, .int .u32 a0_1, .bool a0_2, .int .i64 a0_3, .slice A0_4 l0_4.length c0_4] 25 (0,0)) (by (with_reducible repeat (first | refine blk_drewN ?_ _ | refine blk_drew ?_ | refine blk_alloc ?_ _));refine blk_far ?_ NB193_202.out _;(with_reducible repeat (first | refine blk_drewN ?_ _ | refine blk_drew ?_ | refine blk_alloc ?_ _));refine blk_far ?_ NB193_202.out _;(with_reducible repeat (first | refine blk_drewN ?_ _ | refine blk_drew ?_ | refine blk_alloc ?_ _));refine blk_far ?_ NB193_202.out _;(with_reducible repeat (first | refine blk_drewN ?_ _ | refine blk_drew ?_ | refine blk_alloc ?_ _));refine blk_far ?_ NB193_202.out _;(with_reducible repeat (first | refine blk_drewN ?_ _ | refine blk_drew ?_ | refine blk_alloc ?_ _));exact BK193.out) hg (Kd.R_ne HO_3.out BK193.out (by decide)));have n1_:=Aside0.mk (blk_grown (g:=gb202) (o := .cells #[.int .i64 t198, .int .i64 t199, .bool false, .bool t201] 32 (0,0)) (by (with_reducible repeat (first | refine blk_drewN ?_ _ | refine blk_drew ?_ | refine blk_alloc ?_ _));refine blk_put (cs := #[.int .i64 t198, .int .i64 t199, .bool false, .bool false]) ?_ 3 _ rfl;(with_reducible repeat (first | refine blk_drewN ?_ _ | refine blk_drew ?_ | refine blk_alloc ?_ _));refine blk_put (cs := #[.int .i64 t198, .int .i64 t199, .bool false, .bool false]) ?_ 2 _ rfl;(with_reducible repeat (first | refine blk_drewN ?_ _ | refine blk_drew ?_ | refine blk_alloc ?_ _));refine blk_put (cs := #[.int .i64 t198, .int .i64 0, .bool false, .bool false]) ?_ 1 _ rfl;(with_reducible repeat (first | refine blk_drewN ?_ _ | refine blk_drew ?_ | refine blk_alloc ?_ _));refine blk_put (cs := #[.int .i64 0, .int .i64 0, .bool false, .bool false]) ?_ 0 _ rfl;(with_reducible repeat (first | refine blk_drewN ?_ _ | refine blk_drew ?_ | refine blk_alloc ?_ _));exact BK202.out) hg (Kd.R_ne HO_3.out BK202.out (by decide)));have n2_:=Aside0.mk (hb);have n3_:=Aside0.mk (ho);clear BK193;clear BK202;clear HB;clear HO_3;have BK193:=n0_;have BK202:=n1_;have HB:=n2_;have HO214:=n3_;clear n0_ n1_ n2_ n3_;clear ho hb hg hat;obtain ⟨Ao64,co64,eo64⟩:=Kd.R_slice HO214.out;subst eo64;have p215 : 0 ≤ ((ji55) : Int):=of_decide_eq_true (by first | (with_reducible assumption) | assumption);have q215 : (ji55) < (y212.length : Int):=of_decide_eq_true (by first | (with_reducible assumption) | assumption);obtain ⟨ad215,e215,hx215_0,hx215_1,hx215_2⟩:=at_T165 (Kd.R_reads' HO214.out).2.2 (ji55) p215 q215;cases e215;replace p215:=eq_true p215;replace q215:=eq_true q215;have p58 : 0 ≤ ((ji55) : Int):=of_decide_eq_true (by first | (with_reducible assumption) | assumption);have q58 : ((ji55) : Int) < ((y212.length : Int) : Int):=of_decide_eq_true (by first | (with_reducible assumption) | assumption);obtain ⟨go58,co58,eo58,gb58,gl58,cl58,HG58⟩:=Kd.R_form HO214.out (by omega);(first | cases eo58 | (injection eo58 with ea_ en_ ec_;(first | subst ea_ | (injection ea_ with ea_;subst ea_));subst ec_;clear en_));have GB58:=Aside0.mk gb58;have GG58:=Aside0.mk HG58;clear gb58 gl58 HG58;(first | simp only [add_plain] at hx215_0 | skip);(first | simp only [add_plain] at hx215_1 | skip);(first | simp only [add_plain] at hx215_2 | skip);obtain ⟨ce58,hcl58,hM58,hcc58,hfr58⟩:=Kd.R_elem HO214.out z165 ((ji55) : Int) p58 q58;obtain rfl:=k165_openM hM58;have hx58_0 : w63.cell? ⟨go58,((ji55) : Int).toNat * 3,none⟩ = some (.int .i64 ((rd_T165 y212 (ji55)).f0)):=hcc58 0 _ rfl;have hx58_1 : w63.cell? ⟨go58,((ji55) : Int).toNat * 3 + 1,none⟩ = some (.int .i64 ((rd_T165 y212 (ji55)).f1)):=hcc58 1 _ rfl;have hx58_2 : w63.cell? ⟨go58,((ji55) : Int).toNat * 3 + 2,none⟩ = some (.int .i64 ((rd_T165 y212 (ji55)).f2)):=hcc58 2 _ rfl;have hf58_0 : w63.frozen? ⟨go58,((ji55) : Int).toNat * 3,none⟩ = false:=hfr58 0;have hf58_1 : w63.frozen? ⟨go58,((ji55) : Int).toNat * 3 + 1,none⟩ = false:=hfr58 1;have hf58_2 : w63.frozen? ⟨go58,((ji55) : Int).toNat * 3 + 2,none⟩ = false:=hfr58 2;clear hcl58 hcc58 hfr58 hM58;replace p58:=eq_true p58;replace q58:=eq_true q58;have HX65:=Aside0.mk (show Kd.R k165 165 w63 w.heap.size (fun _ => True) (.slice (some ⟨go58,0,none⟩) y212.length co64) y212 from (by (with_reducible repeat (first | apply Kd.R_alloc | apply Kd.R_drewN | apply Kd.R_drew));exact HO214.out));obtain ⟨ce65,hcl65,hM65,hcc65,hfr65⟩:=Kd.R_elem HX65.out z165 ((ji55) : Int) (of_decide_eq_true (by first | (with_reducible assumption) | assumption)) (by have h_ : ((ji55) : Int) < ((y212.length : Int) : Int):=of_decide_eq_true (by first | (with_reducible assumption) | assumption);first | exact h_ | (have e_:=(Kd.R_reads' HO214.out).1;omega) | simpa using h_);obtain rfl:=k165_openM hM65;have HP65:=Kd.R_seg HX65.out ((ji55) : Int) (of_decide_eq_true (by first | (with_reducible assumption) | assumption)) (by have h_ : ((ji55) : Int) < ((y212.length : Int) : Int):=of_decide_eq_true (by first | (with_reducible assumption) | assumption);first | exact h_ | (have e_:=(Kd.R_reads' HO214.out).1;omega) | simpa using h_) (seg := [.int .i64 (wrap64 (((rd_T165 y212 (ji55)).f2) + 1))]) (j:=2) hcl65 hcc65 (show 3 ≤ 3 from by decide) (x':=(⟨(rd_T165 y212 (ji55)).f0,(rd_T165 y212 (ji55)).f1,wrap64 (((rd_T165 y212 (ji55)).f2) + 1)⟩ : S165)) (k165_mkM _ _ _ (⟨(rd_T165 y212 (ji55)).f0,(rd_T165 y212 (ji55)).f1,wrap64 (((rd_T165 y212 (ji55)).f2) + 1)⟩ : S165) ) (fun _ hk => hk);have hx65_2:=hcc65 2 _ rfl;(try simp only [show (k165).sz = 3 from rfl,Nat.mul_one,Nat.add_zero] at hx65_2);have hf65_2:=hfr65 2;(try simp only [show (k165).sz = 3 from rfl,Nat.mul_one,Nat.add_zero] at hf65_2);clear hcl65 hcc65 hfr65 hM65) | ((with_reducible refine gate_store (t:=3) (p:=46) rfl ?_);refine store_event (t:=3) (p:=46) (v := ?vo_w66) (w1:=(w63.setCell ⟨go58,((ji55) : Int).toNat * 3 + 2,none⟩ (.int .i64 (wrap64 (((rd_T165 y212 (ji55)).f2) + 1))))) ?hg ?ho ?hn ?hr ?_;(case ho => rfl);(case hg => rfl);(case hn => rfl);(case hr => first | (go_simp;done) | (go_simp;rfl));intro w66 hw;have hg : w63.grownBy w66 (some go58):=(by rw [hw];exact HP65.2);have hp_ : Kd.R k165 165 w66 w.heap.size (fun _ => True) (.slice (some ⟨go58,0,none⟩) y212.length co64) y216:=(by rw [hw,Ny216.out];exact HP65.1);clear HP65;have n0_:=Aside0.mk (blk_grown (g:=gb193) (o := .cells #[.bool a0_0, .int .u32 a0_1, .bool a0_2, .int .i64 a0_3, .slice A0_4 l0_4.length c0_4] 25 (0,0)) (by (with_reducible repeat (first | refine blk_drewN ?_ _ | refine blk_drew ?_ | refine blk_alloc ?_ _));exact BK193.out) hg (Kd.R_ne HO214.out BK193.out (by decide)));have n1_:=Aside0.mk (blk_grown (g:=gb202) (o := .cells #[.int .i64 t198, .int .i64 t199, .bool false, .bool t201] 32 (0,0)) (by (with_reducible repeat (first | refine blk_drewN ?_ _ | refine blk_drew ?_ | refine blk_alloc ?_ _));exact BK202.out) hg (Kd.R_ne HO214.out BK202.out (by decide)));have n2_:=Aside0.mk (hp_);have n3_:=Aside0.mk ((by rw [hw];exact below_set (HB.out) GB58.out : Below w.heap.size w w66));clear BK193;clear BK202;clear HO214;clear HB;have BK193:=n0_;have BK202:=n1_;have HO214:=n2_;have HB:=n3_;clear n0_ n1_ n2_ n3_;clear hg hw hp_))
           go_roundg k1
           case measure => have:=HK1.out;omega
           case rel => exact ⟨(y216),(t199),(wrap64 (x6_1 + 1)),(by first | rfl | (simp;done) | (simp [*];done)),(by first | rfl | (simp;done) | (simp [*];done)),H',⟨by have:=HK1.out;omega⟩,⟨by (with_reducible repeat (first | apply Kd.R_alloc | apply Kd.R_drewN | apply Kd.R_drew));exact HO214.out⟩,⟨by (with_reducible repeat (first | refine blk_drewN ?_ _ | refine blk_drew ?_ | refine blk_alloc ?_ _));exact BK193.out⟩,⟨by repeat (first | (with_reducible first | exact HB.out | apply below_alloc | apply pw_below_drewN | apply below_drew1 | refine below_set ?_ GE193.out | refine below_set ?_ GE202.out) | exact HB.out)⟩⟩
          ·rw [if_neg c57] at H
           exact absurd H (by simp)
         ·rw [if_neg c56] at H
          exact absurd H (by simp)
        ·rw [if_neg c54] at H
         exact absurd H (by simp)
     ·rw [if_neg c10] at H
      exact absurd H (by simp)
    ·rw [if_neg c9] at H
     exact absurd H (by simp)
   ·rw [if_neg c8] at H
    have c8b0 : decide (x6_1 < (t197.size : Int)) = false:=decide_eq_false c8
    clear c8
    obtain rfl:=Option.some.inj H
    go_wp2
    go_ret
    exact ⟨_,by first | rfl | (simp [errW_none,errW_some] <;> rfl) | (simp [*,errW_none,errW_some] <;> rfl),by (with_reducible repeat (first | apply Kd.R_alloc | apply Kd.R_drewN | apply Kd.R_drew));exact HO_3.out,by repeat (first | (with_reducible first | exact HB.out | apply below_alloc | apply pw_below_drewN | apply below_drew1 | refine below_set ?_ GE193.out) | exact HB.out)⟩
end Go.Proofs.Ytdoclpgciadjaaa.P

namespace Go.Proofs.Ytdoclpgciadjaaa.P
open Go.RowKit Go.Proofs.YtdoclpgciadjaaaW.PrintWords Go.Proofs.YtdoclpgciadjaaaW.PrintLast Go.Proofs.YtdoclpgciadjaaaW.PrintMore
set_option linter.unusedVariables false
set_option linter.unusedSimpArgs false
def impl_bitText.f (a0 : ByteArray) (a1 : Int) : Option (Bool):=some (decide ((a0.size : Int) ≤ a1) && isBits a0)
theorem impl_bitText.calls (a0 : ByteArray) (a1 : Int) (r : Bool) (w : World) (h : impl_bitText.f a0 a1 = some r) :
  Calls Try.prog 77 #[.string a0, .int .i64 a1] w fun e w' => e = .returned (.bool r) ∧ Below w.heap.size w w':=by
 by_cases c1 : (a0.size : Int) ≤ a1
 ·have c1b : decide (a1 < (a0.size : Int)) = false:=decide_eq_false (by omega)
  have hr : Hid (r = isBits a0):=by
   have h1:=Option.some.inj h
   rw [decide_eq_true c1,Bool.true_and] at h1
   exact Lib.hid h1.symm
  clear h c1
  go_enter Try.func77,Try.ntmps77
  go_wp2
  go_loopw [] (fun w' => ∃ pos : Nat,w' = w.iter a0 pos ∧ BitsTo a0 pos) (fun w' => a0.size - w'.iterPos w.heap.size)
  case atStart => exact ⟨0,rfl,bitsTo_zero a0⟩
  case round =>
   obtain ⟨pos,rfl,hb⟩:=hrel
   have HB:=Lib.hid hb
   clear hb
   by_cases hp : pos < a0.size
   ·cases hbit : isBit (a0[pos]'hp) with
    | true =>
     have HT : Hid (isBit (a0[pos]'hp) = true):=Lib.hid hbit
     rcases isBit_cases hbit with e | e
     ·have hnx:=fun ty => next_bit (P:=Try.prog) w a0 pos ty hp (b:=48) (by rw [e];rfl) (by omega)
      clear e hbit
      go_wp2
      go_roundw
      case rel => exact ⟨pos + 1,rfl,bitsTo_succ HB.out hp HT.out⟩
      case measure => simp;omega
     ·have hnx:=fun ty => next_bit (P:=Try.prog) w a0 pos ty hp (b:=49) (by rw [e];rfl) (by omega)
      clear e hbit
      go_wp2
      go_roundw
      case rel => exact ⟨pos + 1,rfl,bitsTo_succ HB.out hp HT.out⟩
      case measure => simp;omega
    | false =>
     have HF:=Lib.hid (isBits_not a0 hp hbit)
     obtain ⟨h48,h49⟩:=decode_notBit a0 pos hp hbit
     have h48' : ((((Utf8.decode a0 pos).1 : Nat) : Int) != 48) = true:=by rw [bne,h48];rfl
     have h49' : ((((Utf8.decode a0 pos).1 : Nat) : Int) != 49) = true:=by rw [bne,h49];rfl
     have hnx:=fun ty => run_next_any (P:=Try.prog) w a0 pos ty hp
     clear hbit
     go_wp2
     go_ret
     exact ⟨by rw [hr.out,HF.out];rfl,below_iter _ _ _⟩
   ·have hnx:=fun ty => run_next_end (P:=Try.prog) w a0 pos ty hp
    have HF:=Lib.hid (isBits_of a0 HB.out hp)
    go_wp2
    go_ret
    exact ⟨by rw [hr.out,HF.out];rfl,below_iter _ _ _⟩
 ·have c1b : decide (a1 < (a0.size : Int)) = true:=decide_eq_true (by omega)
  have hr : r = false:=by
   have h1:=Option.some.inj h
   rw [decide_eq_false c1,Bool.false_and] at h1
   exact h1.symm
  subst hr
  clear h c1
  go_enter Try.func77,Try.ntmps77
  go_wp2
  go_ret
  exact ⟨rfl,Below.refl _ _⟩
end Go.Proofs.Ytdoclpgciadjaaa.P

namespace Go.Proofs.Ytdoclpgciadjaaa.P
open Go.RowKit Go.Proofs.YtdoclpgciadjaaaW.PrintWords Go.Proofs.YtdoclpgciadjaaaW.PrintLast Go.Proofs.YtdoclpgciadjaaaW.PrintMore
set_option linter.unusedVariables false
set_option linter.unusedSimpArgs false
theorem impl_crcBit.same (a0 : Int) (a1 : Int) (w : World) :
  Calls Try.prog 78 #[.int .i64 a0, .int .i64 a1] w fun e w' => e = .returned (.int .i64 (crcI a0 a1)) ∧ w = w':=by
 by_cases c3 : (Go.bits .xor .i64 (Go.bits .and .i64 (a0 / 16384) 1) a1) = 1
 ·have c3b0 : ((Go.bits .xor .i64 (Go.bits .and .i64 (a0 / 16384) 1) a1) == 1) = true:=beq_iff_eq.mpr c3
  have HC:=Lib.hid c3
  clear c3
  go_enter Try.func78,Try.ntmps78
  go_wp2
  go_ret
  exact ⟨by unfold crcI;rw [if_pos HC.out];rfl,rfl⟩
 ·have c3b0 : ((Go.bits .xor .i64 (Go.bits .and .i64 (a0 / 16384) 1) a1) == 1) = false:=beq_eq_false_iff_ne.mpr c3
  have HC:=Lib.hid c3
  clear c3
  go_enter Try.func78,Try.ntmps78
  go_wp2
  go_ret
  exact ⟨by unfold crcI;rw [if_neg HC.out];rfl,rfl⟩
end Go.Proofs.Ytdoclpgciadjaaa.P

namespace Go.Proofs.Ytdoclpgciadjaaa.P
open Go.RowKit Go.Proofs.YtdoclpgciadjaaaW.PrintWords Go.Proofs.YtdoclpgciadjaaaW.PrintLast Go.Proofs.YtdoclpgciadjaaaW.PrintMore
set_option linter.unusedVariables false
set_option linter.unusedSimpArgs false
def impl_Crc15.f (a0 : ByteArray) : Option (Int):=some (if a0.size ≤ 2000 ∧ isBits a0 = true then crcOf a0 else -1)
theorem impl_Crc15.calls (a0 : ByteArray) (r : Int) (w : World) (h : impl_Crc15.f a0 = some r) :
  Calls Try.prog 17 #[.string a0] w fun e w' => e = .returned (.int .i64 r) ∧ Below w.heap.size w w':=by
 by_cases c : a0.size ≤ 2000 ∧ isBits a0 = true
 ·have HR : Hid (r = crcOf a0):=Lib.hid ((Option.some.inj h).symm.trans (if_pos c))
  clear h
  have hbt : Hid (impl_bitText.f a0 2000 = some true):=by
   refine Lib.hid ?_
   unfold impl_bitText.f
   rw [c.2,decide_eq_true (by omega)];rfl
  have HB:=Lib.hid c.2
  clear c
  go_enter Try.func17,Try.ntmps17
  go_wp2_with (go_at_call 77;refine (impl_bitText.calls _ _ true _ hbt.out).mono ?_;rintro e w1 ⟨rfl,hb1⟩)
  have HW:=Lib.hid hb1
  clear hb1
  go_loopw [3] (fun n w' => ∃ pos : Nat,w' = w1.iter a0 pos ∧ n = .int .i64 (foldTo (fun r c => crcI r (c - 48)) 0 a0 pos)) (fun _ w' => a0.size - w'.iterPos w1.heap.size)
  case atStart => exact ⟨0,rfl,by rw [foldTo_zero]⟩
  case round =>
   obtain ⟨pos,rfl,rfl⟩:=hrel
   by_cases hp : pos < a0.size
   ·have hbit:=isBits_at HB.out hp
    rcases isBit_cases hbit with e | e
    ·have hs:=Lib.hid (foldTo_succ (fun r c => crcI r (c - 48)) 0 a0 pos hp (b:=48) (by rw [e];rfl))
     have hnx:=fun ty => next_bit (P:=Try.prog) w1 a0 pos ty hp (b:=48) (by rw [e];rfl) (by omega)
     clear e hbit
     go_wp2_with (go_at_call 78;refine (impl_crcBit.same _ _ _).mono ?_;rintro e w' ⟨rfl,rfl⟩)
     go_roundw
     case rel => exact ⟨pos + 1,rfl,by rw [hs.out];rfl⟩
     case measure => simp;omega
    ·have hs:=Lib.hid (foldTo_succ (fun r c => crcI r (c - 48)) 0 a0 pos hp (b:=49) (by rw [e];rfl))
     have hnx:=fun ty => next_bit (P:=Try.prog) w1 a0 pos ty hp (b:=49) (by rw [e];rfl) (by omega)
     clear e hbit
     go_wp2_with (go_at_call 78;refine (impl_crcBit.same _ _ _).mono ?_;rintro e w' ⟨rfl,rfl⟩)
     go_roundw
     case rel => exact ⟨pos + 1,rfl,by rw [hs.out];rfl⟩
     case measure => simp;omega
   ·have hnx:=fun ty => run_next_end (P:=Try.prog) w1 a0 pos ty hp
    have hs:=Lib.hid (foldTo_end (fun r c => crcI r (c - 48)) 0 a0 pos hp)
    go_wp2
    go_ret
    exact ⟨by rw [HR.out];unfold crcOf;rw [← hs.out];rfl,HW.out.alloc HW.out.size _⟩
 ·obtain rfl : r = -1:=(Option.some.inj h).symm.trans (if_neg c)
  clear h
  have hbt : Hid (impl_bitText.f a0 2000 = some false):=by
   refine Lib.hid ?_
   unfold impl_bitText.f
   congr 1
   rw [Bool.and_eq_false_iff]
   by_cases h : isBits a0 = true
   ·exact .inl (decide_eq_false fun h2 => c ⟨by omega,h⟩)
   ·exact .inr (by simpa using h)
  clear c
  go_enter Try.func17,Try.ntmps17
  go_wp2_with (go_at_call 77;refine (impl_bitText.calls _ _ false _ hbt.out).mono ?_;rintro e w1 ⟨rfl,hb1⟩)
  go_ret
  exact ⟨rfl,hb1⟩
end Go.Proofs.Ytdoclpgciadjaaa.P

namespace Go.Proofs.Ytdoclpgciadjaaa.P
open Go.RowKit Go.Proofs.YtdoclpgciadjaaaW.PrintWords Go.Proofs.YtdoclpgciadjaaaW.PrintLast Go.Proofs.YtdoclpgciadjaaaW.PrintMore
set_option linter.unusedVariables false
set_option linter.unusedSimpArgs false
def impl_Stuff.f (a0 : ByteArray) : Option (ByteArray):=some (if a0.size ≤ 2000 ∧ isBits a0 = true then strOfNums (stuffL (bytesOf a0)) else ⟨#[]⟩)
structure StuffAt (s : ByteArray) (pos : Nat) (out : List Int) (run last : Int) : Prop where mk :: (out : stuffTo s pos = (out,run,last))
theorem StuffAt.bounds {s : ByteArray} {pos : Nat} {out : List Int} {run last : Int} (h : StuffAt s pos out run last) : out.length ≤ 2 * pos ∧ 0 ≤ run ∧ run ≤ pos:=by
 have:=stuffTo_bounds s pos
 rw [h.out] at this
 exact this
set_option maxHeartbeats 2000000 in
theorem impl_Stuff.yes (a0 : ByteArray) (w : World) (hsz : a0.size ≤ 2000) (hB0 : isBits a0 = true) :
  Calls Try.prog 20 #[.string a0] w fun e w' => e = .returned (.string (strOfNums (stuffL (bytesOf a0)))) ∧ Below w.heap.size w w':=by
 have hbt : Hid (impl_bitText.f a0 2000 = some true):=by
  refine Lib.hid ?_
  unfold impl_bitText.f
  rw [hB0,decide_eq_true (by omega)];rfl
 have HB:=Lib.hid hB0
 clear hB0
 have hcap : ((a0.size * 5 / 4 + 1 : Nat) : Int) = (a0.size : Int) * 5 / 4 + 1:=by omega
 go_enter Try.func20,Try.ntmps20
 go_wp2_with (go_at_call 77;refine (impl_bitText.calls _ _ true _ hbt.out).mono ?_;rintro e w1 ⟨rfl,hb1⟩;obtain ⟨w2,cap,hmk,ho2,hg2⟩:=make_R (P:=Try.prog) (Kd.int .u8) w1 w.heap.size 22 5 (.int .u8 0) 1 Try.underlying22 infoU8 (a0.size * 5 / 4 + 1) (by omega) (by simp only [maxLen];omega) hb1.size;rw [hcap] at hmk;have HO2:=Lib.hid ho2;have HBL:=Lib.hid (hb1.grown hg2 hb1.size (fun k hk => by cases hk));clear ho2 hb1 hg2 hcap)
 go_loopw [3,4,5] (fun v3 v4 v5 wr => ∃ (pos : Nat) (out : List Int) (run last : Int),StuffAt a0 pos out run last ∧ wr.heap[w2.heap.size]? = some (.stringIter a0 pos) ∧ Aside0 (Kd.R (Kd.int .u8) 5 wr w.heap.size (fun _ => True) v3 out) ∧ Aside0 (Below w.heap.size w wr) ∧ v4 = .int .i64 run ∧ v5 = .int .i32 last) (fun _ _ _ wr => a0.size - wr.iterPos w2.heap.size)
 case atStart => exact ⟨0, [],0,120,⟨stuffTo_zero a0⟩,iter_new _ _ _,⟨R_iter HO2.out a0 0⟩,⟨HBL.out.alloc HBL.out.size _⟩,rfl,rfl⟩
 case round =>
  obtain ⟨pos,out,run,last,hst,hit,HO,HW,rfl,rfl⟩:=hrel
  obtain ⟨hl,hr0,hr1⟩:=hst.bounds
  by_cases hp : pos < a0.size
  ·have hbit:=isBits_at HB.out hp
   have HSZ : Hid (w.heap.size ≤ w2.heap.size):=Lib.hid HBL.out.size
   rcases isBit_cases hbit with e | e
   ·have hnx:=fun ty => next_bit_at (P:=Try.prog) _ _ a0 pos ty hit hp (b:=48) (by rw [e];rfl) (by omega)
    have hst':=stuffTo_succ a0 pos hp (b:=48) (by rw [e];rfl)
    rw [hst.out] at hst'
    have HIT:=Lib.hid hit
    clear e hbit hit
    by_cases c1 : 48 = last
    ·subst c1
     by_cases c2 : run = 4
     ·subst c2
      have HS:=Aside0.mk (show StuffAt a0 (pos + 1) (out ++ [48] ++ [49]) 1 49 from ⟨hst'⟩)
      clear hst' hst
      go_wp2_with (first | (at_builtin;refine Kd.R_append (Kd.int .u8) (w0:=w) w.heap.size rfl (.tmp 28) (.tmp 31) 22 5 (.int .u8 0) 1 rfl Try.underlying22 infoU8 rfl (by decide) (by omega) _ out 48 [.int .u8 48] (fun _ => True) (fun _ => False) rfl rfl ?aP (fun _ hk => hk.elim) ?aF ?aO ?aB ?aS ?aL ?_;(case aP => exact rfl);(case aF => exact fun _ _ => trivial);(case aO => exact R_iterAt HO.out HIT.out (pos + 1));(case aB => exact (Lib.below_iterAt HW.out HSZ.out a0 (pos + 1)));(case aS => exact (Lib.below_iterAt HW.out HSZ.out a0 (pos + 1)).size);(case aL => simp;omega);intro v1 wA ho1 hb1 hg1 hat1;have HO1:=Aside0.mk ho1;have HW1:=Aside0.mk hb1;have HIT1:=Lib.hid (iter_grown (R_iterAt HO.out HIT.out (pos + 1)) hg1 (Lib.iterAt_heap _ _ a0 pos (pos + 1) HIT.out));clear ho1 hb1 hg1 hat1) | (at_builtin;refine Kd.R_append (Kd.int .u8) (w0:=w) w.heap.size rfl (.tmp 37) (.tmp 40) 22 5 (.int .u8 0) 1 rfl Try.underlying22 infoU8 rfl (by decide) (by omega) _ (out ++ [48]) 49 [.int .u8 49] (fun _ => True) (fun _ => False) rfl rfl ?aP (fun _ hk => hk.elim) ?aF ?aO ?aB ?aS ?aL ?_;(case aP => exact rfl);(case aF => exact fun _ _ => trivial);(case aO => exact HO1.out);(case aB => exact HW1.out);(case aS => exact HW1.out.size);(case aL => simp;omega);intro v2 wB ho2 hb2 hg2 hat2;have HO2':=Aside0.mk ho2;have HW2:=Aside0.mk hb2;have HIT2:=Lib.hid (iter_grown HO1.out hg2 HIT1.out);clear ho2 hb2 hg2 hat2))
      go_roundw
      case rel => exact ⟨pos + 1,_,_,_,HS.out,HIT2.out,HO2',HW2,rfl,rfl⟩
      case measure => rw [iterPos_at HIT2.out,iterPos_at HIT.out];omega
     ·have HS:=Aside0.mk (show StuffAt a0 (pos + 1) (out ++ [48]) (run + 1) 48 from ⟨hst'.trans (if_neg (by simp;omega))⟩)
      have c3 : ((run + 1 : Int) == 5) = false:=by rw [beq_eq_false_iff_ne];omega
      clear hst' hst c2
      go_wp2_with (first | (at_builtin;refine Kd.R_append (Kd.int .u8) (w0:=w) w.heap.size rfl (.tmp 28) (.tmp 31) 22 5 (.int .u8 0) 1 rfl Try.underlying22 infoU8 rfl (by decide) (by omega) _ out 48 [.int .u8 48] (fun _ => True) (fun _ => False) rfl rfl ?aP (fun _ hk => hk.elim) ?aF ?aO ?aB ?aS ?aL ?_;(case aP => exact rfl);(case aF => exact fun _ _ => trivial);(case aO => exact R_iterAt HO.out HIT.out (pos + 1));(case aB => exact (Lib.below_iterAt HW.out HSZ.out a0 (pos + 1)));(case aS => exact (Lib.below_iterAt HW.out HSZ.out a0 (pos + 1)).size);(case aL => simp;omega);intro v1 wA ho1 hb1 hg1 hat1;have HO1:=Aside0.mk ho1;have HW1:=Aside0.mk hb1;have HIT1:=Lib.hid (iter_grown (R_iterAt HO.out HIT.out (pos + 1)) hg1 (Lib.iterAt_heap _ _ a0 pos (pos + 1) HIT.out));clear ho1 hb1 hg1 hat1))
      go_roundw
      case rel => exact ⟨pos + 1,_,_,_,HS.out,HIT1.out,HO1,HW1,rfl,rfl⟩
      case measure => rw [iterPos_at HIT1.out,iterPos_at HIT.out];omega
    ·have HS:=Aside0.mk (show StuffAt a0 (pos + 1) (out ++ [48]) 1 48 from ⟨by rw [hst'];unfold stuffStep;simp only [];rw [if_neg (show ¬ ((48 : Nat) : Int) = last from c1),if_neg (by decide)];rfl⟩)
     have c3 : ((48 : Int) == last) = false:=by rw [beq_eq_false_iff_ne];exact c1
     clear hst' hst c1
     go_wp2_with (first | (at_builtin;refine Kd.R_append (Kd.int .u8) (w0:=w) w.heap.size rfl (.tmp 28) (.tmp 31) 22 5 (.int .u8 0) 1 rfl Try.underlying22 infoU8 rfl (by decide) (by omega) _ out 48 [.int .u8 48] (fun _ => True) (fun _ => False) rfl rfl ?aP (fun _ hk => hk.elim) ?aF ?aO ?aB ?aS ?aL ?_;(case aP => exact rfl);(case aF => exact fun _ _ => trivial);(case aO => exact R_iterAt HO.out HIT.out (pos + 1));(case aB => exact (Lib.below_iterAt HW.out HSZ.out a0 (pos + 1)));(case aS => exact (Lib.below_iterAt HW.out HSZ.out a0 (pos + 1)).size);(case aL => simp;omega);intro v1 wA ho1 hb1 hg1 hat1;have HO1:=Aside0.mk ho1;have HW1:=Aside0.mk hb1;have HIT1:=Lib.hid (iter_grown (R_iterAt HO.out HIT.out (pos + 1)) hg1 (Lib.iterAt_heap _ _ a0 pos (pos + 1) HIT.out));clear ho1 hb1 hg1 hat1))
     go_roundw
     case rel => exact ⟨pos + 1,_,_,_,HS.out,HIT1.out,HO1,HW1,rfl,rfl⟩
     case measure => rw [iterPos_at HIT1.out,iterPos_at HIT.out];omega
   ·have hnx:=fun ty => next_bit_at (P:=Try.prog) _ _ a0 pos ty hit hp (b:=49) (by rw [e];rfl) (by omega)
    have hst':=stuffTo_succ a0 pos hp (b:=49) (by rw [e];rfl)
    rw [hst.out] at hst'
    have HIT:=Lib.hid hit
    clear e hbit hit
    by_cases c1 : 49 = last
    ·subst c1
     by_cases c2 : run = 4
     ·subst c2
      have HS:=Aside0.mk (show StuffAt a0 (pos + 1) (out ++ [49] ++ [48]) 1 48 from ⟨hst'⟩)
      clear hst' hst
      go_wp2_with (first | (at_builtin;refine Kd.R_append (Kd.int .u8) (w0:=w) w.heap.size rfl (.tmp 28) (.tmp 31) 22 5 (.int .u8 0) 1 rfl Try.underlying22 infoU8 rfl (by decide) (by omega) _ out 49 [.int .u8 49] (fun _ => True) (fun _ => False) rfl rfl ?aP (fun _ hk => hk.elim) ?aF ?aO ?aB ?aS ?aL ?_;(case aP => exact rfl);(case aF => exact fun _ _ => trivial);(case aO => exact R_iterAt HO.out HIT.out (pos + 1));(case aB => exact (Lib.below_iterAt HW.out HSZ.out a0 (pos + 1)));(case aS => exact (Lib.below_iterAt HW.out HSZ.out a0 (pos + 1)).size);(case aL => simp;omega);intro v1 wA ho1 hb1 hg1 hat1;have HO1:=Aside0.mk ho1;have HW1:=Aside0.mk hb1;have HIT1:=Lib.hid (iter_grown (R_iterAt HO.out HIT.out (pos + 1)) hg1 (Lib.iterAt_heap _ _ a0 pos (pos + 1) HIT.out));clear ho1 hb1 hg1 hat1) | (at_builtin;refine Kd.R_append (Kd.int .u8) (w0:=w) w.heap.size rfl (.tmp 37) (.tmp 40) 22 5 (.int .u8 0) 1 rfl Try.underlying22 infoU8 rfl (by decide) (by omega) _ (out ++ [49]) 48 [.int .u8 48] (fun _ => True) (fun _ => False) rfl rfl ?aP (fun _ hk => hk.elim) ?aF ?aO ?aB ?aS ?aL ?_;(case aP => exact rfl);(case aF => exact fun _ _ => trivial);(case aO => exact HO1.out);(case aB => exact HW1.out);(case aS => exact HW1.out.size);(case aL => simp;omega);intro v2 wB ho2 hb2 hg2 hat2;have HO2':=Aside0.mk ho2;have HW2:=Aside0.mk hb2;have HIT2:=Lib.hid (iter_grown HO1.out hg2 HIT1.out);clear ho2 hb2 hg2 hat2))
      go_roundw
      case rel => exact ⟨pos + 1,_,_,_,HS.out,HIT2.out,HO2',HW2,rfl,rfl⟩
      case measure => rw [iterPos_at HIT2.out,iterPos_at HIT.out];omega
     ·have HS:=Aside0.mk (show StuffAt a0 (pos + 1) (out ++ [49]) (run + 1) 49 from ⟨hst'.trans (if_neg (by simp;omega))⟩)
      have c3 : ((run + 1 : Int) == 5) = false:=by rw [beq_eq_false_iff_ne];omega
      clear hst' hst c2
      go_wp2_with (first | (at_builtin;refine Kd.R_append (Kd.int .u8) (w0:=w) w.heap.size rfl (.tmp 28) (.tmp 31) 22 5 (.int .u8 0) 1 rfl Try.underlying22 infoU8 rfl (by decide) (by omega) _ out 49 [.int .u8 49] (fun _ => True) (fun _ => False) rfl rfl ?aP (fun _ hk => hk.elim) ?aF ?aO ?aB ?aS ?aL ?_;(case aP => exact rfl);(case aF => exact fun _ _ => trivial);(case aO => exact R_iterAt HO.out HIT.out (pos + 1));(case aB => exact (Lib.below_iterAt HW.out HSZ.out a0 (pos + 1)));(case aS => exact (Lib.below_iterAt HW.out HSZ.out a0 (pos + 1)).size);(case aL => simp;omega);intro v1 wA ho1 hb1 hg1 hat1;have HO1:=Aside0.mk ho1;have HW1:=Aside0.mk hb1;have HIT1:=Lib.hid (iter_grown (R_iterAt HO.out HIT.out (pos + 1)) hg1 (Lib.iterAt_heap _ _ a0 pos (pos + 1) HIT.out));clear ho1 hb1 hg1 hat1))
      go_roundw
      case rel => exact ⟨pos + 1,_,_,_,HS.out,HIT1.out,HO1,HW1,rfl,rfl⟩
      case measure => rw [iterPos_at HIT1.out,iterPos_at HIT.out];omega
    ·have HS:=Aside0.mk (show StuffAt a0 (pos + 1) (out ++ [49]) 1 49 from ⟨by rw [hst'];unfold stuffStep;simp only [];rw [if_neg (show ¬ ((49 : Nat) : Int) = last from c1),if_neg (by decide)];rfl⟩)
     have c3 : ((49 : Int) == last) = false:=by rw [beq_eq_false_iff_ne];exact c1
     clear hst' hst c1
     go_wp2_with (first | (at_builtin;refine Kd.R_append (Kd.int .u8) (w0:=w) w.heap.size rfl (.tmp 28) (.tmp 31) 22 5 (.int .u8 0) 1 rfl Try.underlying22 infoU8 rfl (by decide) (by omega) _ out 49 [.int .u8 49] (fun _ => True) (fun _ => False) rfl rfl ?aP (fun _ hk => hk.elim) ?aF ?aO ?aB ?aS ?aL ?_;(case aP => exact rfl);(case aF => exact fun _ _ => trivial);(case aO => exact R_iterAt HO.out HIT.out (pos + 1));(case aB => exact (Lib.below_iterAt HW.out HSZ.out a0 (pos + 1)));(case aS => exact (Lib.below_iterAt HW.out HSZ.out a0 (pos + 1)).size);(case aL => simp;omega);intro v1 wA ho1 hb1 hg1 hat1;have HO1:=Aside0.mk ho1;have HW1:=Aside0.mk hb1;have HIT1:=Lib.hid (iter_grown (R_iterAt HO.out HIT.out (pos + 1)) hg1 (Lib.iterAt_heap _ _ a0 pos (pos + 1) HIT.out));clear ho1 hb1 hg1 hat1))
     go_roundw
     case rel => exact ⟨pos + 1,_,_,_,HS.out,HIT1.out,HO1,HW1,rfl,rfl⟩
     case measure => rw [iterPos_at HIT1.out,iterPos_at HIT.out];omega
  ·have hnx:=fun ty => Lib.run_next_end_at (P:=Try.prog) _ _ a0 pos ty hit hp
   have hcv:=own_string (P:=Try.prog) Try.underlying22 Try.underlying5 Try.underlying9 (Kd.own_of_R HO.out)
   go_wp2
   go_ret
   exact ⟨by rw [← stuffTo_end a0 pos hp,hst.out];rfl,HW.out⟩
theorem impl_Stuff.calls (a0 : ByteArray) (r : ByteArray) (w : World) (h : impl_Stuff.f a0 = some r) :
  Calls Try.prog 20 #[.string a0] w fun e w' => e = .returned (.string r) ∧ Below w.heap.size w w':=by
 by_cases c : a0.size ≤ 2000 ∧ isBits a0 = true
 ·obtain rfl : r = strOfNums (stuffL (bytesOf a0)):=(Option.some.inj h).symm.trans (if_pos c)
  exact impl_Stuff.yes a0 w c.1 c.2
 ·obtain rfl : r = ⟨#[]⟩:=(Option.some.inj h).symm.trans (if_neg c)
  clear h
  have hbt : Hid (impl_bitText.f a0 2000 = some false):=by
   refine Lib.hid ?_
   unfold impl_bitText.f
   congr 1
   rw [Bool.and_eq_false_iff]
   by_cases h : isBits a0 = true
   ·exact .inl (decide_eq_false fun h2 => c ⟨by omega,h⟩)
   ·exact .inr (by simpa using h)
  clear c
  go_enter Try.func20,Try.ntmps20
  go_wp2_with (go_at_call 77;refine (impl_bitText.calls _ _ false _ hbt.out).mono ?_;rintro e w1 ⟨rfl,hb1⟩)
  go_ret
  exact ⟨rfl,hb1⟩
end Go.Proofs.Ytdoclpgciadjaaa.P

namespace Go.Proofs.Ytdoclpgciadjaaa.P
open Go.RowKit Go.Proofs.YtdoclpgciadjaaaW.PrintWords Go.Proofs.YtdoclpgciadjaaaW.PrintLast Go.Proofs.YtdoclpgciadjaaaW.PrintMore
set_option linter.unusedVariables false
set_option linter.unusedSimpArgs false
def encodeV (ext : Bool) (id : Int) (rtr : Bool) (dlc : Int) (data : List Int) : ByteArray:=if validF ext id rtr dlc data.length = true then strOfNums (stuffL (plainL ext id rtr dlc data) ++ onesL) else ⟨#[]⟩
def impl_Encode.f (a0_0 : Bool) (a0_1 : Int) (a0_2 : Bool) (a0_3 : Int) (l0_4 : List Int) : Option (ByteArray):=if 0 ≤ a0_1 ∧ okBytes l0_4 = true then some (encodeV a0_0 a0_1 a0_2 a0_3 l0_4) else none
theorem stuff_str {l : List Int} (h : Bits l) (hl : l.length ≤ 2000) : impl_Stuff.f (strOfNums l) = some (strOfNums (stuffL l)):=by
 unfold impl_Stuff.f
 rw [if_pos ⟨by rw [strOfNums_size];exact hl,isBits_str h⟩,bytes_str l h.range]
theorem crc15_str {l : List Int} (h : Bits l) (hl : l.length ≤ 2000) : impl_Crc15.f (strOfNums l) = some (crcL l : Int):=by
 unfold impl_Crc15.f
 rw [if_pos ⟨by rw [strOfNums_size];exact hl,isBits_str h⟩,crcOf_str h]
theorem body_str {ext : Bool} {id : Int} {rtr : Bool} {dlc : Int} {l : List Int} (h0 : 0 ≤ id) (hb : okBytes l = true) (hv : validF ext id rtr dlc l.length = true) : impl_Body.f ext id rtr dlc l = some (strOfNums (bodyL ext id rtr dlc l)):=by
 unfold impl_Body.f bodyV
 rw [if_pos ⟨h0,hb⟩,if_pos hv]
theorem stuffL_len (l : List Int) : (stuffL l).length ≤ 2 * l.length:=by
 unfold stuffL
 have key : ∀ (l : List Int) (st : List Int × Int × Int),(l.foldl stuffStep st).1.length ≤ st.1.length + 2 * l.length:=by
  intro l
  induction l with
  | nil => intro st;simp
  | cons c l ih =>
   intro st
   have h1 : (stuffStep st c).1.length ≤ st.1.length + 2:=by
    unfold stuffStep
    generalize (if c = st.2.2 then st.2.1 + 1 else 1) = q
    split <;> simp
   have:=ih (stuffStep st c)
   rw [List.foldl_cons,List.length_cons]
   omega
 have:=key l ([],0,120)
 simpa using this
set_option maxHeartbeats 4000000 in
theorem impl_Encode.yes (ext : Bool) (id : Int) (rtr : Bool) (dlc : Int) (A : Option Addr) (c : Nat) (l : List Int) (w : World) (hr : Kd.C (Kd.int .u8) w A l.length l) (hc : l.length ≤ c) (h0 : 0 ≤ id) (hb : okBytes l = true) (hv : validF ext id rtr dlc l.length = true) :
  Calls Try.prog 28 #[.agg #[.bool ext, .int .u32 id, .bool rtr, .int .i64 dlc, .slice A l.length c]] w fun e w' => e = .returned (.string (strOfNums (stuffL (plainL ext id rtr dlc l) ++ onesL))) ∧ Below w.heap.size w w':=by
 have HV : Hid (impl_ValidFrame.f ext id rtr dlc l = some true):=Lib.hid (by unfold impl_ValidFrame.f;rw [hv])
 have HBD:=Lib.hid (body_str h0 hb hv)
 have HR:=Lib.hid hr
 have HC:=Lib.hid hc
 obtain ⟨-, -, -, -,hn8⟩:=valid_parts hv
 obtain ⟨B,hB⟩ : ∃ B,bodyL ext id rtr dlc l = B:=⟨_,rfl⟩
 have HBB : Hid (Bits B ∧ B.length ≤ 103):=Lib.hid (hB ▸ ⟨bodyL_bits ext id rtr dlc l,bodyL_length ext id rtr dlc l hn8⟩)
 have HPL : Hid (plainL ext id rtr dlc l = B ++ numL (crcL B) 15):=Lib.hid (by unfold plainL;rw [hB])
 have HPB : Hid (Bits (B ++ numL (crcL B) 15) ∧ (B ++ numL (crcL B) 15).length ≤ 118):=Lib.hid (HPL.out ▸ ⟨plainL_bits ext id rtr dlc l,plainL_length ext id rtr dlc l hn8⟩)
 rw [hB] at HBD
 have HM8 : Hid (l.length ≤ 9223372036854775807):=Lib.hid hr.2.1
 clear hv hr hc hb hn8 h0 hB
 go_enter Try.func28,Try.ntmps28
 go_wp2_with (fail)
 (refine (impl_ValidFrame.calls ext id rtr dlc A c l true _ (Kd.C_below HR.out ((Below.refl _ _).alloc (Nat.le_refl _) _)) HC.out HV.out).mono ?_;rintro e w1 ⟨rfl,hb1⟩;have HB1:=Lib.hid hb1;clear hb1;have HBOX:=Lib.hid (blk_below (blk_new w _) HB1.out);have hc0:=blk_cell HBOX.out 0;have hc1:=blk_cell HBOX.out 1;have hc2:=blk_cell HBOX.out 2;have hc3:=blk_cell HBOX.out 3;have hc4:=blk_cell HBOX.out 4;simp only [box5_0,box5_1,box5_2,box5_3,box5_4] at hc0 hc1 hc2 hc3 hc4)
 go_wp2_with (fail)
 (refine (impl_Body.calls ext id rtr dlc A c l _ _ (Kd.C_below (Kd.C_below HR.out ((Below.refl _ _).alloc (Nat.le_refl _) _)) HB1.out) HC.out HBD.out).mono ?_;rintro e w2 ⟨rfl,hb2⟩;have HB2:=Lib.hid hb2;clear hb2 hc0 hc1 hc2 hc3 hc4;have hcv0:=Lib.run_convert_string_bytes (P:=Try.prog) w2 9 107 5 (strOfNums B) Try.underlying9 Try.underlying107 Try.underlying5)
 go_wp2_with (fail)
 (refine (impl_Crc15.calls _ (crcL B : Int) _ (crc15_str HBB.out.1 (by have:=HBB.out.2;omega))).mono ?_;rintro e w3 ⟨rfl,hb3⟩)
 have HZ : Hid (w.heap.size ≤ w1.heap.size ∧ w1.heap.size ≤ w2.heap.size ∧ (Lib.bytesWorld w2 5 (strOfNums B)).heap.size = w2.heap.size + 1):=Lib.hid ⟨by have:=HB1.out.size;simp at this;omega,HB2.out.size,Lib.bytesWorld_size _ _ _⟩
 obtain ⟨p,hp⟩ : ∃ p,p = (Lib.bytesWorld w2 5 (strOfNums B)).heap.size:=⟨_,rfl⟩
 have HP:=Lib.hid hp
 have HQ1 : Hid (w3.heap[p]? = some (.cells #[.slice (some ⟨w2.heap.size,0,none⟩) (strOfNums B).size (grownCap w2 (strOfNums B).size 0 5)] 107 (0,0))):=Lib.hid (by rw [hp];exact blk_below (blk_new _ _) hb3)
 have HQ2 : Hid (RowM 5 w3 w.heap.size (.slice (some ⟨w2.heap.size,0,none⟩) (strOfNums B).size (grownCap w2 (strOfNums B).size 0 5)) B):=Lib.hid (by
  have h:=RowM.bytes w2 5 (strOfNums B) w.heap.size (by have:=HZ.out;omega) (by rw [strOfNums_size];have:=HBB.out.2;unfold maxLen;omega)
  rw [bytes_str B HBB.out.1.range] at h
  refine h.move fun k hk => ?_
  have hk2:=(h.typed hk).2.1
  rw [hb3.block k (by simp;omega),Below.heap_alloc _ _ _ hk2])
 have HQ3 : Hid (Below w.heap.size w w3):=Lib.hid (by
  have h1 : Below w.heap.size w w1:=Below.trans ((Below.refl _ _).alloc (Nat.le_refl _) _) (HB1.out.mono (by simp))
  have h2 : Below w.heap.size w w2:=h1.trans (HB2.out.mono HZ.out.1)
  refine ((below_bytes h2 (by have:=HZ.out;omega) _ _).alloc (by have:=HZ.out;omega) _).trans (hb3.mono (by simp;have:=HZ.out;omega)))
 rw [← hp]
 clear hb3 hp hcv0 HB1 HB2 HBOX
 go_wp2_with (fail)
 ((with_reducible refine (impl_letters_number.at _ 15 _ _ _ (crcL B) 15 w.heap.size _ HQ1.out HQ2.out HQ3.out.size ?hx ?hu rfl (by omega) ?hl).mono ?_);(case hx => have:=crcL_lt B;first | (rw [IntKind.wrap_u32];omega) | omega);(case hu => have:=crcL_lt B;omega);(case hl => have:=HBB.out.2;omega);rintro e w4 ⟨rfl,v',hq1,hq2,hq3⟩;have HB4:=Lib.hid (hq3.below HQ3.out HQ3.out.size (by have:=HP.out;have:=HZ.out;omega) (fun k hk => (HQ2.out.typed hk).1));have HQ4:=Lib.hid hq1;have HQ5:=Lib.hid hq2;clear hq1 hq2 hq3;have hptr:=blk_cell HQ4.out 0;simp only [box1_0] at hptr;have hcv:=RowM.string (P:=Try.prog) Try.underlying107 Try.underlying5 Try.underlying9 HQ5.out)
 go_wp2_with (fail)
 (refine (impl_Stuff.calls _ _ _ (stuff_str HPB.out.1 (by have:=HPB.out.2;omega))).mono ?_;rintro e w5 ⟨rfl,hb5⟩;have HB5:=Lib.hid hb5;clear hb5)
 have hsz : (strOfNums (stuffL (B ++ numL (crcL B) 15))).size ≤ 236:=by rw [strOfNums_size];have h1:=stuffL_len (B ++ numL (crcL B) 15);have:=HPB.out.2;omega
 go_wp2_with (fail)
 go_ret
 exact ⟨by rw [HPL.out,str_append (stuffL _) onesL];rfl,HB4.out.trans (HB5.out.mono HB4.out.size)⟩
theorem impl_Encode.calls (a0_0 : Bool) (a0_1 : Int) (a0_2 : Bool) (a0_3 : Int) (A0_4 : Option Addr) (c0_4 : Nat) (l0_4 : List Int) (r : ByteArray) (w : World) (hr0_4 : Kd.C (Kd.int .u8) w A0_4 l0_4.length l0_4) (hc0_4 : l0_4.length ≤ c0_4) (h : impl_Encode.f a0_0 a0_1 a0_2 a0_3 l0_4 = some r) :
  Calls Try.prog 28 #[.agg #[.bool a0_0, .int .u32 a0_1, .bool a0_2, .int .i64 a0_3, .slice A0_4 l0_4.length c0_4]] w fun e w' => e = .returned (.string r) ∧ Below w.heap.size w w':=by
 unfold impl_Encode.f at h
 by_cases c : 0 ≤ a0_1 ∧ okBytes l0_4 = true
 ·rw [if_pos c] at h
  have hr:=(Option.some.inj h).symm
  unfold encodeV at hr
  cases hv : validF a0_0 a0_1 a0_2 a0_3 l0_4.length with
  | true =>
   rw [hv,if_pos rfl] at hr
   subst hr
   exact impl_Encode.yes a0_0 a0_1 a0_2 a0_3 A0_4 c0_4 l0_4 w hr0_4 hc0_4 c.1 c.2 hv
  | false =>
   rw [hv] at hr
   subst hr
   have HV : Hid (impl_ValidFrame.f a0_0 a0_1 a0_2 a0_3 l0_4 = some false):=Lib.hid (by unfold impl_ValidFrame.f;rw [hv])
   have HR:=Lib.hid hr0_4
   have HC:=Lib.hid hc0_4
   have HM8 : Hid (l0_4.length ≤ 9223372036854775807):=Lib.hid hr0_4.2.1
   clear hr0_4 hc0_4 hv c h
   go_enter Try.func28,Try.ntmps28
   go_wp2_with (fail)
   (refine (impl_ValidFrame.calls a0_0 a0_1 a0_2 a0_3 A0_4 c0_4 l0_4 false _ (Kd.C_below HR.out ((Below.refl _ _).alloc (Nat.le_refl _) _)) HC.out HV.out).mono ?_;rintro e w1 ⟨rfl,hb1⟩;have HB1 : Hid (Below w.heap.size w w1):=Lib.hid (Below.trans ((Below.refl _ _).alloc (Nat.le_refl _) _) (hb1.mono (by simp)));clear hb1)
   go_wp2_with (fail)
   go_ret
   exact ⟨rfl,HB1.out⟩
 ·rw [if_neg c] at h
  cases h
end Go.Proofs.Ytdoclpgciadjaaa.P

namespace Go.Proofs.Ytdoclpgciadjaaa.P
open Go Go.RowKit Go.Proofs.YtdoclpgciadjaaaW.PrintWords
set_option linter.unusedVariables false
structure Tch (w w' : World) (S : Nat → Prop) : Prop where
 os : w'.os = w.os
 tape : w'.tape = w.tape
 output : w'.output = w.output
 kept : Kept w w' S
theorem Tch.refl (w : World) (S : Nat → Prop) : Tch w w S:=⟨rfl,rfl,rfl,Kept.refl w S⟩
theorem Tch.size {w w' : World} {S : Nat → Prop} (h : Tch w w' S) : w.heap.size ≤ w'.heap.size:=h.kept.1
theorem Tch.block {w w' : World} {S : Nat → Prop} (h : Tch w w' S) {k : Nat} (hk : k < w.heap.size) (hn : ¬ S k) : w'.heap[k]? = w.heap[k]?:=h.kept.2 k hk hn
theorem Tch.mono {w w' : World} {S S' : Nat → Prop} (h : Tch w w' S) (hs : ∀ k,S k → S' k) : Tch w w' S':=⟨h.os,h.tape,h.output,h.kept.mono hs⟩
theorem Tch.then_ {w w1 w2 : World} {S S2 : Nat → Prop} (h : Tch w w1 S) (k : Tch w1 w2 S2) (hs : ∀ k,S2 k → S k ∨ w.heap.size ≤ k) : Tch w w2 S:=⟨k.os.trans h.os,k.tape.trans h.tape,k.output.trans h.output,h.kept.then_ k.kept hs⟩
theorem Tch.trans {w w1 w2 : World} {S : Nat → Prop} (h : Tch w w1 S) (k : Tch w1 w2 S) : Tch w w2 S:=h.then_ k fun _ h => .inl h
theorem Tch.drewN {w w1 : World} {S : Nat → Prop} (h : Tch w w1 S) (m : Nat) : Tch w (w1.drewN m) S:=⟨h.os,h.tape,h.output,h.kept.drewN m⟩
theorem Tch.drew {w w1 : World} {S : Nat → Prop} (h : Tch w w1 S) : Tch w w1.drew S:=⟨h.os,h.tape,h.output,h.kept.drew⟩
theorem Tch.alloc {w w1 : World} {S : Nat → Prop} (h : Tch w w1 S) (o : Obj) : Tch w (w1.alloc o) S:=⟨h.os,h.tape,h.output,h.kept.alloc o⟩
theorem Tch.setCell {w w1 : World} {S : Nat → Prop} (h : Tch w w1 S) {p : Addr} (hp : S p.block ∨ w.heap.size ≤ p.block) (u : Value) : Tch w (w1.setCell p u) S:=⟨h.os,h.tape,h.output,h.kept.setCell hp u⟩
theorem Tch.belowR {w w1 w2 : World} {S : Nat → Prop} (h : Tch w w1 S) (hb : Below w1.heap.size w1 w2) : Tch w w2 S:=⟨hb.os.trans h.os,hb.tape.trans h.tape,hb.output.trans h.output,h.kept.below hb⟩
theorem Tch.of_below {w w1 : World} (S : Nat → Prop) (hb : Below w.heap.size w w1) : Tch w w1 S:=(Tch.refl w S).belowR hb
theorem Tch.grown {w w1 w2 : World} {S : Nat → Prop} {row : Option Nat} (h : Tch w w1 S) (hg : w1.grownBy w2 row) (hr : ∀ k,row = some k → S k ∨ w.heap.size ≤ k) : Tch w w2 S:=⟨hg.os.trans h.os,hg.tape.trans h.tape,hg.output.trans h.output,Kept.of_grown hg h.kept hr⟩
theorem Tch.below {w0 w w' : World} {S : Nat → Prop} {B : Nat} (h : Tch w w' S) (hb : Below B w0 w) (hB : B ≤ w.heap.size) (hs : ∀ k,S k → B ≤ k) : Below B w0 w' :=
 hb.trans ⟨h.os,h.tape,h.output,h.size,fun k hk => h.block (by omega) (fun e => by have:=hs k e;omega)⟩
theorem Tch.R {α : Type} {d : Kd α} {e : Nat} {w w' : World} {S : Nat → Prop} {base : Nat} {ok : Nat → Prop} {v : Value} {xs : List α} (h : Tch w w' S) (hr : d.R e w base ok v xs) (hne : ∀ k,ok k → ¬ S k) : d.R e w' base ok v xs:=Kd.R_kept hr h.kept hne
theorem Tch.one {w w1 : World} {p : Nat} (h : Tch w w1 (fun k => k = p)) (j : Nat) (u : Value) : Tch w (w1.setCell ⟨p,j,none⟩ u) (fun k => k = p):=Tch.setCell (p:=⟨p,j,none⟩) h (.inl rfl) u
theorem Tch.refl1 (w : World) (p : Nat) : Tch w w (fun k => k = p):=Tch.refl w _
end Go.Proofs.Ytdoclpgciadjaaa.P
