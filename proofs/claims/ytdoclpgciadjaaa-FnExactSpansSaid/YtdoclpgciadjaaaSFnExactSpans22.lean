/- Texts of the proof of FnExactSpans, joined. -/
import Derived.Test.YtdoclpgciadjaaaSFnExactSpans21
namespace Go.Proofs.Ytdoclpgciadjaaa.P
open Go.RowKit Go.Proofs.YtdoclpgciadjaaaW.PrintWords Go.Proofs.YtdoclpgciadjaaaW.PrintLast Go.Proofs.YtdoclpgciadjaaaW.PrintMore
set_option linter.unusedVariables false
set_option linter.unusedSimpArgs false
def spec_l1field.f (k : Nat) (l0 : List Int) : Option (Int):=if (l0.length : Int) = 0 then (some 1) else (if (l0.length : Int) < 12 then (some 2) else (if (l0.length : Int) = 12 then (some 3) else (if (l0.length : Int) = 13 then (some 4) else ((spec_l1lay.f k l0).bind fun bt128 => (if (l0.length : Int) < bt128.1 then (if (l0.length : Int) ≥ (wrap64 (bt128.1 - 4)) then (some 8) else (if bt128.1 = 19 then (some 7) else (if (l0.length : Int) < 32 then (some 5) else (if (l0.length : Int) = 32 then (some 6) else (some 7))))) else (if (l0.length : Int) < bt128.2 then (some 9) else (if (l0.length : Int) < (wrap64 (bt128.2 + 15)) then (some 10) else (if (l0.length : Int) < (wrap64 (bt128.2 + 18)) then (some (wrap64 ((wrap64 ((wrap64 (11 + (l0.length : Int))) - bt128.2)) - 15))) else (if (l0.length : Int) < (wrap64 (bt128.2 + 25)) then (some 14) else (some 15))))))))))
set_option maxHeartbeats 8000000 in
set_option maxRecDepth 100000 in
theorem spec_l1field.calls (k : Nat) (A0 : Option Addr) (c0 : Nat) (l0 : List Int) (r : Int) (w : World) (hr0 : Kd.C (Kd.int .u8) w A0 l0.length l0) (hc0 : l0.length ≤ c0) (h : spec_l1field.f k l0 = some r) :
  Calls Try.prog 87 #[.slice A0 l0.length c0] w fun e w' => e = .returned (.int .i64 r) ∧ Drawn0 w w':=by
 have HR0:=Aside0.mk hr0
 have HC0:=Aside0.mk hc0
 clear hr0 hc0
 have H : (if (l0.length : Int) = 0 then (some 1) else (if (l0.length : Int) < 12 then (some 2) else (if (l0.length : Int) = 12 then (some 3) else (if (l0.length : Int) = 13 then (some 4) else ((spec_l1lay.f k l0).bind fun bt128 => (if (l0.length : Int) < bt128.1 then (if (l0.length : Int) ≥ (wrap64 (bt128.1 - 4)) then (some 8) else (if bt128.1 = 19 then (some 7) else (if (l0.length : Int) < 32 then (some 5) else (if (l0.length : Int) = 32 then (some 6) else (some 7))))) else (if (l0.length : Int) < bt128.2 then (some 9) else (if (l0.length : Int) < (wrap64 (bt128.2 + 15)) then (some 10) else (if (l0.length : Int) < (wrap64 (bt128.2 + 18)) then (some (wrap64 ((wrap64 ((wrap64 (11 + (l0.length : Int))) - bt128.2)) - 15))) else (if (l0.length : Int) < (wrap64 (bt128.2 + 25)) then (some 14) else (some 15))))))))))) = some r:=h
 clear h
 by_cases c2 : (l0.length : Int) = 0
 ·rw [if_pos c2] at H
  have c2b0 : ((l0.length : Int) == 0) = true:=beq_iff_eq.mpr c2
  have c2b1 : ((l0.length : Int) != 0) = false:=bne_eq_false_iff_eq.mpr c2
  clear c2
  obtain rfl:=Option.some.inj H
  go_enter Try.func87,Try.ntmps87
  go_wp2
  go_ret
  exact ⟨by first | rfl | (simp;done) | (simp [*];done),by repeat (first | exact Drawn0.refl _ | apply Drawn0.step)⟩
 ·rw [if_neg c2] at H
  have c2b0 : ((l0.length : Int) == 0) = false:=beq_eq_false_iff_ne.mpr c2
  have c2b1 : ((l0.length : Int) != 0) = true:=bne_iff_ne.mpr c2
  have c2b2 : ¬ (l0 = []):=fun h_ => c2 (by rw [h_];rfl)
  by_cases c3 : (l0.length : Int) < 12
  ·rw [if_pos c3] at H
   have c3b0 : decide ((l0.length : Int) < 12) = true:=decide_eq_true c3
   have c3b1 : decide (l0.length < 12) = true:=decide_eq_true (by omega)
   clear c3
   obtain rfl:=Option.some.inj H
   go_enter Try.func87,Try.ntmps87
   go_wp2
   go_ret
   exact ⟨by first | rfl | (simp;done) | (simp [*];done),by repeat (first | exact Drawn0.refl _ | apply Drawn0.step)⟩
  ·rw [if_neg c3] at H
   have c3b0 : decide ((l0.length : Int) < 12) = false:=decide_eq_false c3
   have c3b1 : decide (l0.length < 12) = false:=decide_eq_false (by omega)
   clear c3
   by_cases c4 : (l0.length : Int) = 12
   ·rw [if_pos c4] at H
    have c4b0 : ((l0.length : Int) == 12) = true:=beq_iff_eq.mpr c4
    have c4b1 : ((l0.length : Int) != 12) = false:=bne_eq_false_iff_eq.mpr c4
    clear c4
    obtain rfl:=Option.some.inj H
    go_enter Try.func87,Try.ntmps87
    go_wp2
    go_ret
    exact ⟨by first | rfl | (simp;done) | (simp [*];done),by repeat (first | exact Drawn0.refl _ | apply Drawn0.step)⟩
   ·rw [if_neg c4] at H
    have c4b0 : ((l0.length : Int) == 12) = false:=beq_eq_false_iff_ne.mpr c4
    have c4b1 : ((l0.length : Int) != 12) = true:=bne_iff_ne.mpr c4
    by_cases c5 : (l0.length : Int) = 13
    ·rw [if_pos c5] at H
     have c5b0 : ((l0.length : Int) == 13) = true:=beq_iff_eq.mpr c5
     have c5b1 : ((l0.length : Int) != 13) = false:=bne_eq_false_iff_eq.mpr c5
     clear c5
     obtain rfl:=Option.some.inj H
     go_enter Try.func87,Try.ntmps87
     go_wp2
     go_ret
     exact ⟨by first | rfl | (simp;done) | (simp [*];done),by repeat (first | exact Drawn0.refl _ | apply Drawn0.step)⟩
    ·rw [if_neg c5] at H
     have c5b0 : ((l0.length : Int) == 13) = false:=beq_eq_false_iff_ne.mpr c5
     have c5b1 : ((l0.length : Int) != 13) = true:=bne_iff_ne.mpr c5
     replace H:=Option.bind_eq_some_iff.mp H
     obtain ⟨⟨t128,t129⟩,A60,H⟩:=H
     replace H : (if (l0.length : Int) < t128 then (if (l0.length : Int) ≥ (wrap64 (t128 - 4)) then (some 8) else (if t128 = 19 then (some 7) else (if (l0.length : Int) < 32 then (some 5) else (if (l0.length : Int) = 32 then (some 6) else (some 7))))) else (if (l0.length : Int) < t129 then (some 9) else (if (l0.length : Int) < (wrap64 (t129 + 15)) then (some 10) else (if (l0.length : Int) < (wrap64 (t129 + 18)) then (some (wrap64 ((wrap64 ((wrap64 (11 + (l0.length : Int))) - t129)) - 15))) else (if (l0.length : Int) < (wrap64 (t129 + 25)) then (some 14) else (some 15)))))) = some r:=H
     have A6:=Aside0.mk A60
     clear A60
     by_cases c7 : (l0.length : Int) < t128
     ·rw [if_pos c7] at H
      have c7b0 : decide ((l0.length : Int) < t128) = true:=decide_eq_true c7
      clear c7
      by_cases c8 : (l0.length : Int) ≥ (wrap64 (t128 - 4))
      ·rw [if_pos c8] at H
       have c8b0 : decide ((wrap64 (t128 - 4)) ≤ (l0.length : Int)) = true:=decide_eq_true c8
       clear c8
       obtain rfl:=Option.some.inj H
       go_enter Try.func87,Try.ntmps87
       go_wp2_with (first | ((with_reducible refine gate_callee (f:=102) rfl ?_);refine goesL_ (some 18) rfl rfl Try.func102 (by kernel_rfl) rfl #[.slice A0 l0.length c0] rfl (by (try simp only [List.map_toArray,List.map_cons,List.map_nil]);first | done | rfl | (simp only [List.length_drop,List.length_take];rfl)) ?_;(with_reducible refine (spec_l1lay.calls k _ _ l0 t128 t129 _ ?side1 ?side2 A6.out).mono ?_);(case side1 => repeat (first | exact HR0.out | (with_reducible refine Kd.C_alloc ?_ _) | (with_reducible refine Kd.C_drewN ?_ _) | (with_reducible refine Kd.C_drew ?_)));(case side2 => exact HC0.out);rintro e w' ⟨rfl,⟨nd,rfl⟩⟩;refine ⟨_,rfl, ?_⟩))
       go_ret
       exact ⟨by first | rfl | (simp;done) | (simp [*];done),by repeat (first | exact Drawn0.refl _ | apply Drawn0.step)⟩
      ·rw [if_neg c8] at H
       have c8b0 : decide ((wrap64 (t128 - 4)) ≤ (l0.length : Int)) = false:=decide_eq_false c8
       clear c8
       by_cases c9 : t128 = 19
       ·rw [if_pos c9] at H
        have c9b0 : (t128 == 19) = true:=beq_iff_eq.mpr c9
        have c9b1 : (t128 != 19) = false:=bne_eq_false_iff_eq.mpr c9
        clear c9
        obtain rfl:=Option.some.inj H
        go_enter Try.func87,Try.ntmps87
        go_wp2_with (first | ((with_reducible refine gate_callee (f:=102) rfl ?_);refine goesL_ (some 18) rfl rfl Try.func102 (by kernel_rfl) rfl #[.slice A0 l0.length c0] rfl (by (try simp only [List.map_toArray,List.map_cons,List.map_nil]);first | done | rfl | (simp only [List.length_drop,List.length_take];rfl)) ?_;(with_reducible refine (spec_l1lay.calls k _ _ l0 t128 t129 _ ?side1 ?side2 A6.out).mono ?_);(case side1 => repeat (first | exact HR0.out | (with_reducible refine Kd.C_alloc ?_ _) | (with_reducible refine Kd.C_drewN ?_ _) | (with_reducible refine Kd.C_drew ?_)));(case side2 => exact HC0.out);rintro e w' ⟨rfl,⟨nd,rfl⟩⟩;refine ⟨_,rfl, ?_⟩))
        go_ret
        exact ⟨by first | rfl | (simp;done) | (simp [*];done),by repeat (first | exact Drawn0.refl _ | apply Drawn0.step)⟩
       ·rw [if_neg c9] at H
        have c9b0 : (t128 == 19) = false:=beq_eq_false_iff_ne.mpr c9
        have c9b1 : (t128 != 19) = true:=bne_iff_ne.mpr c9
        by_cases c10 : (l0.length : Int) < 32
        ·rw [if_pos c10] at H
         have c10b0 : decide ((l0.length : Int) < 32) = true:=decide_eq_true c10
         have c10b1 : decide (l0.length < 32) = true:=decide_eq_true (by omega)
         clear c10
         obtain rfl:=Option.some.inj H
         go_enter Try.func87,Try.ntmps87
         go_wp2_with (first | ((with_reducible refine gate_callee (f:=102) rfl ?_);refine goesL_ (some 18) rfl rfl Try.func102 (by kernel_rfl) rfl #[.slice A0 l0.length c0] rfl (by (try simp only [List.map_toArray,List.map_cons,List.map_nil]);first | done | rfl | (simp only [List.length_drop,List.length_take];rfl)) ?_;(with_reducible refine (spec_l1lay.calls k _ _ l0 t128 t129 _ ?side1 ?side2 A6.out).mono ?_);(case side1 => repeat (first | exact HR0.out | (with_reducible refine Kd.C_alloc ?_ _) | (with_reducible refine Kd.C_drewN ?_ _) | (with_reducible refine Kd.C_drew ?_)));(case side2 => exact HC0.out);rintro e w' ⟨rfl,⟨nd,rfl⟩⟩;refine ⟨_,rfl, ?_⟩))
         go_ret
         exact ⟨by first | rfl | (simp;done) | (simp [*];done),by repeat (first | exact Drawn0.refl _ | apply Drawn0.step)⟩
        ·rw [if_neg c10] at H
         have c10b0 : decide ((l0.length : Int) < 32) = false:=decide_eq_false c10
         have c10b1 : decide (l0.length < 32) = false:=decide_eq_false (by omega)
         clear c10
         by_cases c11 : (l0.length : Int) = 32
         ·rw [if_pos c11] at H
          have c11b0 : ((l0.length : Int) == 32) = true:=beq_iff_eq.mpr c11
          have c11b1 : ((l0.length : Int) != 32) = false:=bne_eq_false_iff_eq.mpr c11
          clear c11
          obtain rfl:=Option.some.inj H
          go_enter Try.func87,Try.ntmps87
          go_wp2_with (first | ((with_reducible refine gate_callee (f:=102) rfl ?_);refine goesL_ (some 18) rfl rfl Try.func102 (by kernel_rfl) rfl #[.slice A0 l0.length c0] rfl (by (try simp only [List.map_toArray,List.map_cons,List.map_nil]);first | done | rfl | (simp only [List.length_drop,List.length_take];rfl)) ?_;(with_reducible refine (spec_l1lay.calls k _ _ l0 t128 t129 _ ?side1 ?side2 A6.out).mono ?_);(case side1 => repeat (first | exact HR0.out | (with_reducible refine Kd.C_alloc ?_ _) | (with_reducible refine Kd.C_drewN ?_ _) | (with_reducible refine Kd.C_drew ?_)));(case side2 => exact HC0.out);rintro e w' ⟨rfl,⟨nd,rfl⟩⟩;refine ⟨_,rfl, ?_⟩))
          go_ret
          exact ⟨by first | rfl | (simp;done) | (simp [*];done),by repeat (first | exact Drawn0.refl _ | apply Drawn0.step)⟩
         ·rw [if_neg c11] at H
          have c11b0 : ((l0.length : Int) == 32) = false:=beq_eq_false_iff_ne.mpr c11
          have c11b1 : ((l0.length : Int) != 32) = true:=bne_iff_ne.mpr c11
          obtain rfl:=Option.some.inj H
          go_enter Try.func87,Try.ntmps87
          go_wp2_with (first | ((with_reducible refine gate_callee (f:=102) rfl ?_);refine goesL_ (some 18) rfl rfl Try.func102 (by kernel_rfl) rfl #[.slice A0 l0.length c0] rfl (by (try simp only [List.map_toArray,List.map_cons,List.map_nil]);first | done | rfl | (simp only [List.length_drop,List.length_take];rfl)) ?_;(with_reducible refine (spec_l1lay.calls k _ _ l0 t128 t129 _ ?side1 ?side2 A6.out).mono ?_);(case side1 => repeat (first | exact HR0.out | (with_reducible refine Kd.C_alloc ?_ _) | (with_reducible refine Kd.C_drewN ?_ _) | (with_reducible refine Kd.C_drew ?_)));(case side2 => exact HC0.out);rintro e w' ⟨rfl,⟨nd,rfl⟩⟩;refine ⟨_,rfl, ?_⟩))
          go_ret
          exact ⟨by first | rfl | (simp;done) | (simp [*];done),by repeat (first | exact Drawn0.refl _ | apply Drawn0.step)⟩
     ·rw [if_neg c7] at H
      have c7b0 : decide ((l0.length : Int) < t128) = false:=decide_eq_false c7
      clear c7
      by_cases c12 : (l0.length : Int) < t129
      ·rw [if_pos c12] at H
       have c12b0 : decide ((l0.length : Int) < t129) = true:=decide_eq_true c12
       clear c12
       obtain rfl:=Option.some.inj H
       go_enter Try.func87,Try.ntmps87
       go_wp2_with (first | ((with_reducible refine gate_callee (f:=102) rfl ?_);refine goesL_ (some 18) rfl rfl Try.func102 (by kernel_rfl) rfl #[.slice A0 l0.length c0] rfl (by (try simp only [List.map_toArray,List.map_cons,List.map_nil]);first | done | rfl | (simp only [List.length_drop,List.length_take];rfl)) ?_;(with_reducible refine (spec_l1lay.calls k _ _ l0 t128 t129 _ ?side1 ?side2 A6.out).mono ?_);(case side1 => repeat (first | exact HR0.out | (with_reducible refine Kd.C_alloc ?_ _) | (with_reducible refine Kd.C_drewN ?_ _) | (with_reducible refine Kd.C_drew ?_)));(case side2 => exact HC0.out);rintro e w' ⟨rfl,⟨nd,rfl⟩⟩;refine ⟨_,rfl, ?_⟩))
       go_ret
       exact ⟨by first | rfl | (simp;done) | (simp [*];done),by repeat (first | exact Drawn0.refl _ | apply Drawn0.step)⟩
      ·rw [if_neg c12] at H
       have c12b0 : decide ((l0.length : Int) < t129) = false:=decide_eq_false c12
       clear c12
       by_cases c13 : (l0.length : Int) < (wrap64 (t129 + 15))
       ·rw [if_pos c13] at H
        have c13b0 : decide ((l0.length : Int) < (wrap64 (t129 + 15))) = true:=decide_eq_true c13
        clear c13
        obtain rfl:=Option.some.inj H
        go_enter Try.func87,Try.ntmps87
        go_wp2_with (first | ((with_reducible refine gate_callee (f:=102) rfl ?_);refine goesL_ (some 18) rfl rfl Try.func102 (by kernel_rfl) rfl #[.slice A0 l0.length c0] rfl (by (try simp only [List.map_toArray,List.map_cons,List.map_nil]);first | done | rfl | (simp only [List.length_drop,List.length_take];rfl)) ?_;(with_reducible refine (spec_l1lay.calls k _ _ l0 t128 t129 _ ?side1 ?side2 A6.out).mono ?_);(case side1 => repeat (first | exact HR0.out | (with_reducible refine Kd.C_alloc ?_ _) | (with_reducible refine Kd.C_drewN ?_ _) | (with_reducible refine Kd.C_drew ?_)));(case side2 => exact HC0.out);rintro e w' ⟨rfl,⟨nd,rfl⟩⟩;refine ⟨_,rfl, ?_⟩))
        go_ret
        exact ⟨by first | rfl | (simp;done) | (simp [*];done),by repeat (first | exact Drawn0.refl _ | apply Drawn0.step)⟩
       ·rw [if_neg c13] at H
        have c13b0 : decide ((l0.length : Int) < (wrap64 (t129 + 15))) = false:=decide_eq_false c13
        clear c13
        by_cases c14 : (l0.length : Int) < (wrap64 (t129 + 18))
        ·rw [if_pos c14] at H
         have c14b0 : decide ((l0.length : Int) < (wrap64 (t129 + 18))) = true:=decide_eq_true c14
         clear c14
         obtain rfl:=Option.some.inj H
         go_enter Try.func87,Try.ntmps87
         go_wp2_with (first | ((with_reducible refine gate_callee (f:=102) rfl ?_);refine goesL_ (some 18) rfl rfl Try.func102 (by kernel_rfl) rfl #[.slice A0 l0.length c0] rfl (by (try simp only [List.map_toArray,List.map_cons,List.map_nil]);first | done | rfl | (simp only [List.length_drop,List.length_take];rfl)) ?_;(with_reducible refine (spec_l1lay.calls k _ _ l0 t128 t129 _ ?side1 ?side2 A6.out).mono ?_);(case side1 => repeat (first | exact HR0.out | (with_reducible refine Kd.C_alloc ?_ _) | (with_reducible refine Kd.C_drewN ?_ _) | (with_reducible refine Kd.C_drew ?_)));(case side2 => exact HC0.out);rintro e w' ⟨rfl,⟨nd,rfl⟩⟩;refine ⟨_,rfl, ?_⟩))
         go_ret
         exact ⟨by first | rfl | (simp;done) | (simp [*];done),by repeat (first | exact Drawn0.refl _ | apply Drawn0.step)⟩
        ·rw [if_neg c14] at H
         have c14b0 : decide ((l0.length : Int) < (wrap64 (t129 + 18))) = false:=decide_eq_false c14
         clear c14
         by_cases c15 : (l0.length : Int) < (wrap64 (t129 + 25))
         ·rw [if_pos c15] at H
          have c15b0 : decide ((l0.length : Int) < (wrap64 (t129 + 25))) = true:=decide_eq_true c15
          clear c15
          obtain rfl:=Option.some.inj H
          go_enter Try.func87,Try.ntmps87
          go_wp2_with (first | ((with_reducible refine gate_callee (f:=102) rfl ?_);refine goesL_ (some 18) rfl rfl Try.func102 (by kernel_rfl) rfl #[.slice A0 l0.length c0] rfl (by (try simp only [List.map_toArray,List.map_cons,List.map_nil]);first | done | rfl | (simp only [List.length_drop,List.length_take];rfl)) ?_;(with_reducible refine (spec_l1lay.calls k _ _ l0 t128 t129 _ ?side1 ?side2 A6.out).mono ?_);(case side1 => repeat (first | exact HR0.out | (with_reducible refine Kd.C_alloc ?_ _) | (with_reducible refine Kd.C_drewN ?_ _) | (with_reducible refine Kd.C_drew ?_)));(case side2 => exact HC0.out);rintro e w' ⟨rfl,⟨nd,rfl⟩⟩;refine ⟨_,rfl, ?_⟩))
          go_ret
          exact ⟨by first | rfl | (simp;done) | (simp [*];done),by repeat (first | exact Drawn0.refl _ | apply Drawn0.step)⟩
         ·rw [if_neg c15] at H
          have c15b0 : decide ((l0.length : Int) < (wrap64 (t129 + 25))) = false:=decide_eq_false c15
          clear c15
          obtain rfl:=Option.some.inj H
          go_enter Try.func87,Try.ntmps87
          go_wp2_with (first | ((with_reducible refine gate_callee (f:=102) rfl ?_);refine goesL_ (some 18) rfl rfl Try.func102 (by kernel_rfl) rfl #[.slice A0 l0.length c0] rfl (by (try simp only [List.map_toArray,List.map_cons,List.map_nil]);first | done | rfl | (simp only [List.length_drop,List.length_take];rfl)) ?_;(with_reducible refine (spec_l1lay.calls k _ _ l0 t128 t129 _ ?side1 ?side2 A6.out).mono ?_);(case side1 => repeat (first | exact HR0.out | (with_reducible refine Kd.C_alloc ?_ _) | (with_reducible refine Kd.C_drewN ?_ _) | (with_reducible refine Kd.C_drew ?_)));(case side2 => exact HC0.out);rintro e w' ⟨rfl,⟨nd,rfl⟩⟩;refine ⟨_,rfl, ?_⟩))
          go_ret
          exact ⟨by first | rfl | (simp;done) | (simp [*];done),by repeat (first | exact Drawn0.refl _ | apply Drawn0.step)⟩
end Go.Proofs.Ytdoclpgciadjaaa.P

namespace Go.Proofs.Ytdoclpgciadjaaa.P
open Go.RowKit Go.Proofs.YtdoclpgciadjaaaW.PrintWords Go.Proofs.YtdoclpgciadjaaaW.PrintLast Go.Proofs.YtdoclpgciadjaaaW.PrintMore
set_option linter.unusedVariables false
set_option linter.unusedSimpArgs false
def spec_l1okBits.l0 : Nat → ByteArray → Int → Option (Bool)
 | 0,_,_ => none
 | k + 1,x0,x5 => if x5 < (x0.size : Int) then (if 0 ≤ x5 then (if (bt x0 x5) = 48 then (spec_l1okBits.l0 k x0 (wrap64 (x5 + 1))) else (if (bt x0 x5) = 49 then (spec_l1okBits.l0 k x0 (wrap64 (x5 + 1))) else (some false))) else (none)) else (some true)
def spec_l1okBits.f (k : Nat) (a0 : ByteArray) (a1 : Int) : Option (Bool):=if (a0.size : Int) > a1 then (some false) else (spec_l1okBits.l0 k a0 0)
set_option maxHeartbeats 8000000 in
set_option maxRecDepth 100000 in
theorem spec_l1okBits.calls (k : Nat) (a0 : ByteArray) (a1 : Int) (r : Bool) (w : World) (h : spec_l1okBits.f k a0 a1 = some r) :
  Calls Try.prog 128 #[.string a0, .int .i64 a1] w fun e w' => e = .returned (.bool r) ∧ Drawn0 w w':=by
 have H : (if (a0.size : Int) > a1 then (some false) else (spec_l1okBits.l0 k a0 0)) = some r:=h
 clear h
 by_cases c3 : (a0.size : Int) > a1
 ·rw [if_pos c3] at H
  have c3b0 : decide (a1 < (a0.size : Int)) = true:=decide_eq_true c3
  clear c3
  obtain rfl:=Option.some.inj H
  go_enter Try.func128,Try.ntmps128
  go_wp2
  go_ret
  exact ⟨by first | rfl | (simp;done) | (simp [*];done),by repeat (first | exact Drawn0.refl _ | apply Drawn0.step)⟩
 ·rw [if_neg c3] at H
  have c3b0 : decide (a1 < (a0.size : Int)) = false:=decide_eq_false c3
  clear c3
  have H':=Aside0.mk H
  clear H
  go_enter Try.func128,Try.ntmps128
  go_wp2
  go_loopg [5] k (fun kq v5 w' => ∃ (x5_1 : Int),v5 = .int .i64 x5_1 ∧ Aside0 (spec_l1okBits.l0 kq a0 x5_1 = some r) ∧ Aside0 (kq ≤ k) ∧ Drawn0 w w')
  case atStart => exact ⟨(0),(by first | rfl | (simp;done) | (simp [*];done)),H',⟨Nat.le_refl _⟩,by repeat (first | exact Drawn0.refl _ | apply Drawn0.step)⟩
  case round =>
   clear H'
   try clear c1
   try clear p2
   try clear c3
   try clear c3b0
   obtain ⟨x5_1,rfl,HA,HK1,⟨m1,rfl⟩⟩:=hrel
   cases gk with
   | zero => exact absurd HA.out (by simp [spec_l1okBits.l0])
   | succ k1 =>
    have H:=HA.out
    clear HA
    simp only [spec_l1okBits.l0] at H
    by_cases c4 : x5_1 < (a0.size : Int)
    ·rw [if_pos c4] at H
     have c4b0 : decide (x5_1 < (a0.size : Int)) = true:=decide_eq_true c4
     clear c4
     by_cases c5 : 0 ≤ x5_1
     ·rw [if_pos c5] at H
      have c5b0 : decide (0 ≤ x5_1) = true:=decide_eq_true c5
      clear c5
      by_cases c7 : (bt a0 x5_1) = 48
      ·rw [if_pos c7] at H
       have c7b0 : ((bt a0 x5_1) == 48) = true:=beq_iff_eq.mpr c7
       have c7b1 : ((bt a0 x5_1) != 48) = false:=bne_eq_false_iff_eq.mpr c7
       clear c7
       have H':=Aside0.mk H
       clear H
       have p6 : 0 ≤ (x5_1 : Int):=of_decide_eq_true (by first | (with_reducible assumption) | assumption)
       have q6 : x5_1 < (a0.size : Int):=of_decide_eq_true (by first | (with_reducible assumption) | assumption)
       have hx6:=bt_at a0 x5_1
       replace p6:=eq_true p6
       replace q6:=eq_true q6
       go_wp2
       go_roundg k1
       case measure => have:=HK1.out;omega
       case rel => exact ⟨(wrap64 (x5_1 + 1)),(by first | rfl | (simp;done) | (simp [*];done)),H',⟨by have:=HK1.out;omega⟩,by repeat (first | exact Drawn0.refl _ | apply Drawn0.step)⟩
      ·rw [if_neg c7] at H
       have c7b0 : ((bt a0 x5_1) == 48) = false:=beq_eq_false_iff_ne.mpr c7
       have c7b1 : ((bt a0 x5_1) != 48) = true:=bne_iff_ne.mpr c7
       by_cases c9 : (bt a0 x5_1) = 49
       ·rw [if_pos c9] at H
        have c9b0 : ((bt a0 x5_1) == 49) = true:=beq_iff_eq.mpr c9
        have c9b1 : ((bt a0 x5_1) != 49) = false:=bne_eq_false_iff_eq.mpr c9
        clear c9
        have H':=Aside0.mk H
        clear H
        have p6 : 0 ≤ (x5_1 : Int):=of_decide_eq_true (by first | (with_reducible assumption) | assumption)
        have q6 : x5_1 < (a0.size : Int):=of_decide_eq_true (by first | (with_reducible assumption) | assumption)
        have hx6:=bt_at a0 x5_1
        replace p6:=eq_true p6
        replace q6:=eq_true q6
        have p8 : 0 ≤ (x5_1 : Int):=of_decide_eq_true (by first | (with_reducible assumption) | assumption)
        have q8 : x5_1 < (a0.size : Int):=of_decide_eq_true (by first | (with_reducible assumption) | assumption)
        have hx8:=bt_at a0 x5_1
        replace p8:=eq_true p8
        replace q8:=eq_true q8
        go_wp2
        go_roundg k1
        case measure => have:=HK1.out;omega
        case rel => exact ⟨(wrap64 (x5_1 + 1)),(by first | rfl | (simp;done) | (simp [*];done)),H',⟨by have:=HK1.out;omega⟩,by repeat (first | exact Drawn0.refl _ | apply Drawn0.step)⟩
       ·rw [if_neg c9] at H
        have c9b0 : ((bt a0 x5_1) == 49) = false:=beq_eq_false_iff_ne.mpr c9
        have c9b1 : ((bt a0 x5_1) != 49) = true:=bne_iff_ne.mpr c9
        obtain rfl:=Option.some.inj H
        have p6 : 0 ≤ (x5_1 : Int):=of_decide_eq_true (by first | (with_reducible assumption) | assumption)
        have q6 : x5_1 < (a0.size : Int):=of_decide_eq_true (by first | (with_reducible assumption) | assumption)
        have hx6:=bt_at a0 x5_1
        replace p6:=eq_true p6
        replace q6:=eq_true q6
        have p8 : 0 ≤ (x5_1 : Int):=of_decide_eq_true (by first | (with_reducible assumption) | assumption)
        have q8 : x5_1 < (a0.size : Int):=of_decide_eq_true (by first | (with_reducible assumption) | assumption)
        have hx8:=bt_at a0 x5_1
        replace p8:=eq_true p8
        replace q8:=eq_true q8
        go_wp2
        go_ret
        exact ⟨by first | rfl | (simp;done) | (simp [*];done),by repeat (first | exact Drawn0.refl _ | apply Drawn0.step)⟩
     ·rw [if_neg c5] at H
      exact absurd H (by simp)
    ·rw [if_neg c4] at H
     have c4b0 : decide (x5_1 < (a0.size : Int)) = false:=decide_eq_false c4
     clear c4
     obtain rfl:=Option.some.inj H
     go_wp2
     go_ret
     exact ⟨by first | rfl | (simp;done) | (simp [*];done),by repeat (first | exact Drawn0.refl _ | apply Drawn0.step)⟩
end Go.Proofs.Ytdoclpgciadjaaa.P

namespace Go.Proofs.Ytdoclpgciadjaaa.P
open Go.RowKit Go.Proofs.YtdoclpgciadjaaaW.PrintWords Go.Proofs.YtdoclpgciadjaaaW.PrintLast Go.Proofs.YtdoclpgciadjaaaW.PrintMore
set_option linter.unusedVariables false
set_option linter.unusedSimpArgs false
mutual
def spec_Crc15.l0 : Nat → ByteArray → List Int → Int → Option (Int)
 | 0,_,_,_ => none
 | k + 1,x0,x3,x4 => if x4 < (x0.size : Int) then (if 0 ≤ x4 then (if x3.length < 140737488355328 then (spec_Crc15.l0 k x0 (x3 ++ [((bt x0 x4) - 48) % 256]) (wrap64 (x4 + 1))) else (none)) else (none)) else (spec_Crc15.l1 k x3 0)
def spec_Crc15.l1 : Nat → List Int → Int → Option (Int)
 | 0,_,_ => none
 | k + 1,x3,x5 => if x5 < 15 then (if x3.length < 140737488355328 then (spec_Crc15.l1 k (x3 ++ [0]) (wrap64 (x5 + 1))) else (none)) else (spec_Crc15.l2 k x3 (⟨#[49,49,48,48,48,49,48,49,49,48,48,49,49,48,48,49]⟩ : ByteArray) 0)
def spec_Crc15.l2 : Nat → List Int → ByteArray → Int → Option (Int)
 | 0,_,_,_ => none
 | k + 1,x3,x6,x7 => if (wrap64 (x7 + 15)) < (x3.length : Int) then (if 0 ≤ x7 then (if x7 < (x3.length : Int) then (if (rd x3 x7) = 1 then (spec_Crc15.l3 k x3 x6 x7 0) else (spec_Crc15.l2 k x3 x6 (wrap64 (x7 + 1)))) else (none)) else (none)) else (spec_Crc15.l4 k x3 0 (wrap64 ((x3.length : Int) - 15)))
def spec_Crc15.l3 : Nat → List Int → ByteArray → Int → Int → Option (Int)
 | 0,_,_,_,_ => none
 | k + 1,x3,x6,x7,x8 => if x8 < 16 then (if 0 ≤ (wrap64 (x7 + x8)) then (if (wrap64 (x7 + x8)) < (x3.length : Int) then (if 0 ≤ x8 then (if x8 < (x6.size : Int) then (spec_Crc15.l3 k (x3.set ((wrap64 (x7 + x8)) : Int).toNat (Go.bits .xor .u8 (rd x3 (wrap64 (x7 + x8))) (((bt x6 x8) - 48) % 256))) x6 x7 (wrap64 (x8 + 1))) else (none)) else (none)) else (none)) else (none)) else (spec_Crc15.l2 k x3 x6 (wrap64 (x7 + 1)))
def spec_Crc15.l4 : Nat → List Int → Int → Int → Option (Int)
 | 0,_,_,_ => none
 | k + 1,x3,x9,x10 => if x10 < (x3.length : Int) then (if 0 ≤ x10 then (spec_Crc15.l4 k x3 (wrap64 ((wrap64 (2 * x9)) + (wrap64 (rd x3 x10)))) (wrap64 (x10 + 1))) else (none)) else (some x9)
end
def spec_Crc15.f (k : Nat) (a0 : ByteArray) : Option (Int):=(spec_l1okBits.f k a0 2000).bind fun t130 => (if t130 = true then (spec_Crc15.l0 k a0 (([] : List Int)) 0) else (some (-1)))
def spec_Crc15.T20 : Bool × List (List Nat × List Nat):=(true, [([], []),([], []),([], []),([1,2], [1,2]),([], []),([], []),([], []),([5,6], [5,6]),([4,7], [4,7]),([8], [8]),([], []),([], []),([10,11], [10,11]),([12], [12]),([9,13], [9,13]),([0,3,0,1,2,3,4,5,6,7,8,9,10,11,12,13,14], [0,3]),([15,14,0,1,2,3,4,5,6,7,8,9,10,11,12,13,14], [14,15])])
def spec_Crc15.B20 : List Nat := [0,0,0,6,0,0,0,96,240,496,0,0,3072,7168,16368,32767,65535]
theorem spec_Crc15.tab20 : rtab .any (opsOf Try.f107 20) = spec_Crc15.T20:=by kernel_rfl
theorem spec_Crc15.bits20 : waitsOk spec_Crc15.T20.2 spec_Crc15.B20 = true:=by kernel_rfl
set_option maxHeartbeats 8000000 in
set_option maxRecDepth 100000 in
theorem spec_Crc15.calls (k : Nat) (a0 : ByteArray) (r : Int) (w : World) (h : spec_Crc15.f k a0 = some r) :
  Calls Try.prog 107 #[.string a0] w fun e w' => e = .returned (.int .i64 r) ∧ Below w.heap.size w w':=by
 have HB:=Aside0.mk (Below.refl w.heap.size w)
 have H : ((spec_l1okBits.f k a0 2000).bind fun t130 => (if t130 = true then (spec_Crc15.l0 k a0 (([] : List Int)) 0) else (some (-1)))) = some r:=h
 clear h
 replace H:=Option.bind_eq_some_iff.mp H
 obtain ⟨t130,A20,H⟩:=H
 replace H : (if t130 = true then (spec_Crc15.l0 k a0 (([] : List Int)) 0) else (some (-1))) = some r:=H
 have A2:=Aside0.mk A20
 clear A20
 by_cases c3 : t130 = true
 ·subst c3
  have H1 : (spec_Crc15.l0 k a0 (([] : List Int)) 0) = some r:=by rw [if_pos rfl] at H;exact H
  clear H
  have H:=H1
  clear H1
  obtain ⟨y131,hy131⟩ : ∃ y_ : List Int,y_ = (([] : List Int)):=⟨_,rfl⟩
  replace H : (spec_Crc15.l0 k a0 y131 0) = some r:=by first | (rw [hy131];with_reducible exact H) | (have H2_:=(Option.bind_some _ _).symm.trans H;rw [hy131];with_reducible exact H2_) | (have H2_:=(Option.bind_some _ _).symm.trans H;with_reducible exact H2_) | with_reducible exact H | (rw [hy131];exact H) | exact H
  have Ny131:=Aside0.mk hy131
  clear hy131
  have H':=Aside0.mk H
  clear H
  go_enter Try.func107,Try.ntmps107
  go_wp2_with (first | ((with_reducible refine gate_callee (f:=128) rfl ?_);refine goesL_ (some 12) rfl rfl Try.func128 (by kernel_rfl) rfl #[.string a0, .int .i64 2000] rfl (by (try simp only [List.map_toArray,List.map_cons,List.map_nil]);first | done | rfl | (simp only [List.length_drop,List.length_take];rfl)) ?_;(with_reducible refine (spec_l1okBits.calls k a0 2000 true _ A2.out).mono ?_);rintro e w' ⟨rfl,⟨nd,rfl⟩⟩;refine ⟨_,rfl, ?_⟩) | ((with_reducible refine gate_dst (N:=14) rfl ?_);refine Kd.R_lit (Kd.int .u8) _ 5 ?hg (N:=14) ?hd (xs:=([] : List Int)) (inner := []) (ok:=fun _ => True) (okp:=fun _ => True) ?hr ?hp (fun _ hk => hk) trivial (Below.refl _ _) (Nat.le_refl _) (by simp) ?_;(case hd => rfl);(case hg => rfl);(case hr => first | (go_simp;done) | (go_simp;rfl));(case hp => exact (Reps.none _ _));intro v132 w4 ho5 hb hg_ hnew_;clear hg_ hnew_;(first | rw [← Ny131.out] at ho5 | (simp only [Int.reduceToNat] at ho5;rw [← Ny131.out] at ho5));have n0_:=Aside0.mk (Kd.R_lower ho5 (below_size (by repeat (first | (with_reducible first | exact HB.out | apply below_alloc | apply pw_below_drewN | apply below_drew1) | exact HB.out))));have n1_:=Aside0.mk (below_step (by repeat (first | (with_reducible first | exact HB.out | apply below_alloc | apply pw_below_drewN | apply below_drew1) | exact HB.out)) hb);clear HB;have HO133:=n0_;have HB:=n1_;clear n0_ n1_;clear hb ho5))
  go_loopg [3,4] k (fun kq v3 v4 w' => ∃ (x3_1 : List Int) (x4_1 : Int),v4 = .int .i64 x4_1 ∧ Aside0 (spec_Crc15.l0 kq a0 x3_1 x4_1 = some r) ∧ Aside0 (kq ≤ k) ∧ Aside0 (Kd.R (Kd.int .u8) 5 w' w.heap.size (fun _ => True) v3 x3_1) ∧ Aside0 (Below w.heap.size w w'))
  case atStart => exact ⟨(y131),(0),(by first | rfl | (simp;done) | (simp [*];done)),H',⟨Nat.le_refl _⟩,⟨by (with_reducible repeat (first | apply Kd.R_alloc | apply Kd.R_drewN | apply Kd.R_drew));exact HO133.out⟩,⟨by repeat (first | (with_reducible first | exact HB.out | apply below_alloc | apply pw_below_drewN | apply below_drew1) | exact HB.out)⟩⟩
  case round =>
   clear H'
   try clear c1
   try clear p2
   try clear c3
   obtain ⟨x3_1,x4_1,rfl,HA,HK1,HO_3,HB⟩:=hrel
   cases gk with
   | zero => exact absurd HA.out (by simp [spec_Crc15.l0])
   | succ k1 =>
    have H:=HA.out
    clear HA
    simp only [spec_Crc15.l0] at H
    by_cases c6 : x4_1 < (a0.size : Int)
    ·rw [if_pos c6] at H
     have c6b0 : decide (x4_1 < (a0.size : Int)) = true:=decide_eq_true c6
     clear c6
     by_cases c7 : 0 ≤ x4_1
     ·rw [if_pos c7] at H
      have c7b0 : decide (0 ≤ x4_1) = true:=decide_eq_true c7
      clear c7
      by_cases c9 : x3_1.length < 140737488355328
      ·rw [if_pos c9] at H
       have LMc9:=Aside0.mk c9
       clear c9
       obtain ⟨y134,hy134⟩ : ∃ y_ : List Int,y_ = (x3_1 ++ [((bt a0 x4_1) - 48) % 256]):=⟨_,rfl⟩
       replace H : (spec_Crc15.l0 k1 a0 y134 (wrap64 (x4_1 + 1))) = some r:=by first | (rw [hy134];with_reducible exact H) | (have H2_:=(Option.bind_some _ _).symm.trans H;rw [hy134];with_reducible exact H2_) | (have H2_:=(Option.bind_some _ _).symm.trans H;with_reducible exact H2_) | with_reducible exact H | (rw [hy134];exact H) | exact H
       have Ny134:=Aside0.mk hy134
       clear hy134
       have H':=Aside0.mk H
       clear H
       have p8 : 0 ≤ (x4_1 : Int):=of_decide_eq_true (by first | (with_reducible assumption) | assumption)
       have q8 : x4_1 < (a0.size : Int):=of_decide_eq_true (by first | (with_reducible assumption) | assumption)
       have hx8:=bt_at a0 x4_1
       replace p8:=eq_true p8
       replace q8:=eq_true q8
       go_wp2_with (first | ((with_reducible refine gate_builtin (b := .append) (xs := #[.tmp 21, .tmp 26]) rfl ?_);at_builtin;refine Kd.R_append (Kd.int .u8) (w0:=w) w.heap.size rfl (.tmp 21) (.tmp 26) 22 5 (.int .u8 0) 1 rfl Try.underlying22 info5 rfl (by decide) (by omega) u3 x3_1 (((bt a0 x4_1) - 48) % 256) [.int .u8 (((bt a0 x4_1) - 48) % 256)] (fun _ => True) (fun _ => False) rfl rfl ?aP (fun _ hk => hk.elim) ?aF ?aO ?aB ?aS ?aL ?_;(case aP => exact rfl);(case aB => exact (by repeat (first | (with_reducible first | exact HB.out | apply below_alloc | apply pw_below_drewN | apply below_drew1) | exact HB.out)));(case aF => exact (fun _ _ => trivial));(case aO => exact (by (with_reducible repeat (first | apply Kd.R_alloc | apply Kd.R_drewN | apply Kd.R_drew));exact HO_3.out));(case aS => exact (below_size (by repeat (first | (with_reducible first | exact HB.out | apply below_alloc | apply pw_below_drewN | apply below_drew1) | exact HB.out))));(case aL => have:=LMc9.out;omega);intro v135 w10 ho hb hg hat;rw [← Ny134.out] at ho;have n0_:=Aside0.mk (hb);have n1_:=Aside0.mk (ho);clear HB;clear HO_3;have HB:=n0_;have HO136:=n1_;clear n0_ n1_;clear ho hb hg hat))
       go_roundg k1
       case measure => have:=HK1.out;omega
       case rel => exact ⟨(y134),(wrap64 (x4_1 + 1)),(by first | rfl | (simp;done) | (simp [*];done)),H',⟨by have:=HK1.out;omega⟩,⟨by (with_reducible repeat (first | apply Kd.R_alloc | apply Kd.R_drewN | apply Kd.R_drew));exact HO136.out⟩,⟨by repeat (first | (with_reducible first | exact HB.out | apply below_alloc | apply pw_below_drewN | apply below_drew1) | exact HB.out)⟩⟩
      ·rw [if_neg c9] at H
       exact absurd H (by simp)
     ·rw [if_neg c7] at H
      exact absurd H (by simp)
    ·rw [if_neg c6] at H
     have c6b0 : decide (x4_1 < (a0.size : Int)) = false:=decide_eq_false c6
     clear c6
     have H':=Aside0.mk H
     clear H
     go_wp2
     go_loopg [3,5] k1 (fun kq v3 v5 w' => ∃ (x3_2 : List Int) (x5_2 : Int),v5 = .int .i64 x5_2 ∧ Aside0 (spec_Crc15.l1 kq x3_2 x5_2 = some r) ∧ Aside0 (kq ≤ k1) ∧ Aside0 (Kd.R (Kd.int .u8) 5 w' w.heap.size (fun _ => True) v3 x3_2) ∧ Aside0 (Below w.heap.size w w'))
     case atStart => exact ⟨(x3_1),(0),(by first | rfl | (simp;done) | (simp [*];done)),H',⟨Nat.le_refl _⟩,⟨by (with_reducible repeat (first | apply Kd.R_alloc | apply Kd.R_drewN | apply Kd.R_drew));exact HO_3.out⟩,⟨by repeat (first | (with_reducible first | exact HB.out | apply below_alloc | apply pw_below_drewN | apply below_drew1) | exact HB.out)⟩⟩
     case round =>
      clear H'
      try clear c1
      try clear p2
      try clear c3
      try clear c6
      try clear c6b0
      try clear p6
      try clear c7
      try clear c7b0
      try clear p8
      try clear q8
      try clear hx8
      try clear c9
      try clear c10
      try clear p2
      try clear p8
      try clear q8
      obtain ⟨x3_2,x5_2,rfl,HA,HK2,HO_3,HB⟩:=hrel
      cases gk with
      | zero => exact absurd HA.out (by simp [spec_Crc15.l1])
      | succ k2 =>
       have H:=HA.out
       clear HA
       simp only [spec_Crc15.l1] at H
       by_cases c11 : x5_2 < 15
       ·rw [if_pos c11] at H
        have c11b0 : decide (x5_2 < 15) = true:=decide_eq_true c11
        clear c11
        by_cases c12 : x3_2.length < 140737488355328
        ·rw [if_pos c12] at H
         have LMc12:=Aside0.mk c12
         clear c12
         obtain ⟨y137,hy137⟩ : ∃ y_ : List Int,y_ = (x3_2 ++ [0]):=⟨_,rfl⟩
         replace H : (spec_Crc15.l1 k2 y137 (wrap64 (x5_2 + 1))) = some r:=by first | (rw [hy137];with_reducible exact H) | (have H2_:=(Option.bind_some _ _).symm.trans H;rw [hy137];with_reducible exact H2_) | (have H2_:=(Option.bind_some _ _).symm.trans H;with_reducible exact H2_) | with_reducible exact H | (rw [hy137];exact H) | exact H
         have Ny137:=Aside0.mk hy137
         clear hy137
         have H':=Aside0.mk H
         clear H
         go_wp2_with (first | ((with_reducible refine gate_builtin (b := .append) (xs := #[.tmp 32, .tmp 33]) rfl ?_);at_builtin;refine Kd.R_append (Kd.int .u8) (w0:=w) w.heap.size rfl (.tmp 32) (.tmp 33) 22 5 (.int .u8 0) 1 rfl Try.underlying22 info5 rfl (by decide) (by omega) u3 x3_2 0 [.int .u8 0] (fun _ => True) (fun _ => False) rfl rfl ?aP (fun _ hk => hk.elim) ?aF ?aO ?aB ?aS ?aL ?_;(case aP => exact rfl);(case aB => exact (by repeat (first | (with_reducible first | exact HB.out | apply below_alloc | apply pw_below_drewN | apply below_drew1) | exact HB.out)));(case aF => exact (fun _ _ => trivial));(case aO => exact (by (with_reducible repeat (first | apply Kd.R_alloc | apply Kd.R_drewN | apply Kd.R_drew));exact HO_3.out));(case aS => exact (below_size (by repeat (first | (with_reducible first | exact HB.out | apply below_alloc | apply pw_below_drewN | apply below_drew1) | exact HB.out))));(case aL => have:=LMc12.out;omega);intro v138 w13 ho hb hg hat;rw [← Ny137.out] at ho;have n0_:=Aside0.mk (hb);have n1_:=Aside0.mk (ho);clear HB;clear HO_3;have HB:=n0_;have HO139:=n1_;clear n0_ n1_;clear ho hb hg hat))
         go_roundg k2
         case measure => have:=HK1.out;have:=HK2.out;omega
         case rel => exact ⟨(y137),(wrap64 (x5_2 + 1)),(by first | rfl | (simp;done) | (simp [*];done)),H',⟨by have:=HK1.out;have:=HK2.out;omega⟩,⟨by (with_reducible repeat (first | apply Kd.R_alloc | apply Kd.R_drewN | apply Kd.R_drew));exact HO139.out⟩,⟨by repeat (first | (with_reducible first | exact HB.out | apply below_alloc | apply pw_below_drewN | apply below_drew1) | exact HB.out)⟩⟩
        ·rw [if_neg c12] at H
         exact absurd H (by simp)
       ·rw [if_neg c11] at H
        have c11b0 : decide (x5_2 < 15) = false:=decide_eq_false c11
        clear c11
        have H':=Aside0.mk H
        clear H
        go_wp2
        go_loopg [7] k2 (fun kq v7 w' => ∃ (x3_3 : List Int) (x7_3 : Int),v7 = .int .i64 x7_3 ∧ Aside0 (spec_Crc15.l2 kq x3_3 (⟨#[49,49,48,48,48,49,48,49,49,48,48,49,49,48,48,49]⟩ : ByteArray) x7_3 = some r) ∧ Aside0 (kq ≤ k2) ∧ Aside0 (Kd.R (Kd.int .u8) 5 w' w.heap.size (fun _ => True) u3 x3_3) ∧ Aside0 (Below w.heap.size w w'))
        case atStart => exact ⟨(x3_2),(0),(by first | rfl | (simp;done) | (simp [*];done)),H',⟨Nat.le_refl _⟩,⟨by (with_reducible repeat (first | apply Kd.R_alloc | apply Kd.R_drewN | apply Kd.R_drew));exact HO_3.out⟩,⟨by repeat (first | (with_reducible first | exact HB.out | apply below_alloc | apply pw_below_drewN | apply below_drew1) | exact HB.out)⟩⟩
        case round =>
         clear H'
         try clear c1
         try clear p2
         try clear c3
         try clear c6
         try clear c6b0
         try clear p6
         try clear c7
         try clear c7b0
         try clear p8
         try clear q8
         try clear hx8
         try clear c9
         try clear c10
         try clear c11
         try clear c11b0
         try clear c12
         try clear p2
         try clear p6
         try clear p8
         try clear q8
         obtain ⟨x3_3,x7_3,rfl,HA,HK3,HO_3,HB⟩:=hrel
         cases gk with
         | zero => exact absurd HA.out (by simp [spec_Crc15.l2])
         | succ k3 =>
          have H:=HA.out
          clear HA
          simp only [spec_Crc15.l2] at H
          by_cases c14 : (wrap64 (x7_3 + 15)) < (x3_3.length : Int)
          ·rw [if_pos c14] at H
           have c14b0 : decide ((wrap64 (x7_3 + 15)) < (x3_3.length : Int)) = true:=decide_eq_true c14
           clear c14
           by_cases c15 : 0 ≤ x7_3
           ·rw [if_pos c15] at H
            have c15b0 : decide (0 ≤ x7_3) = true:=decide_eq_true c15
            clear c15
            by_cases c16 : x7_3 < (x3_3.length : Int)
            ·rw [if_pos c16] at H
             have c16b0 : decide (x7_3 < (x3_3.length : Int)) = true:=decide_eq_true c16
             clear c16
             by_cases c17 : (rd x3_3 x7_3) = 1
             ·rw [if_pos c17] at H
              have c17b0 : ((rd x3_3 x7_3) == 1) = true:=beq_iff_eq.mpr c17
              have c17b1 : ((rd x3_3 x7_3) != 1) = false:=bne_eq_false_iff_eq.mpr c17
              clear c17
              have H':=Aside0.mk H
              clear H
              obtain ⟨Ao18,co18,eo18⟩:=Kd.R_slice HO_3.out
              subst eo18
              have p140 : 0 ≤ (x7_3 : Int):=of_decide_eq_true (by first | (with_reducible assumption) | assumption)
              have q140 : x7_3 < (x3_3.length : Int):=of_decide_eq_true (by first | (with_reducible assumption) | assumption)
              obtain ⟨ad140,e140,hx140_0⟩:=Kd.at_int (Kd.R_reads' HO_3.out).2.2 x7_3 p140 q140
              cases e140
              replace p140:=eq_true p140
              replace q140:=eq_true q140
              go_wp2
              go_loopg [8] k3 (fun kq v8 w' => ∃ (x3_4 : List Int) (x8_4 : Int),v8 = .int .i64 x8_4 ∧ Aside0 (spec_Crc15.l3 kq x3_4 (⟨#[49,49,48,48,48,49,48,49,49,48,48,49,49,48,48,49]⟩ : ByteArray) x7_3 x8_4 = some r) ∧ Aside0 (kq ≤ k3) ∧ Aside0 (Kd.R (Kd.int .u8) 5 w' w.heap.size (fun _ => True) (.slice (some ad140) x3_3.length co18) x3_4) ∧ Aside0 (Below w.heap.size w w'))
              case atStart => exact ⟨(x3_3),(0),(by first | rfl | (simp;done) | (simp [*];done)),H',⟨Nat.le_refl _⟩,⟨by (with_reducible repeat (first | apply Kd.R_alloc | apply Kd.R_drewN | apply Kd.R_drew));exact HO_3.out⟩,⟨by repeat (first | (with_reducible first | exact HB.out | apply below_alloc | apply pw_below_drewN | apply below_drew1) | exact HB.out)⟩⟩
              case round =>
               clear H'
               try clear c1
               try clear p1
               try clear q1
               try clear hx1
               try clear p2
               try clear c3
               try clear c6
               try clear c6b0
               try clear p6
               try clear c7
               try clear c7b0
               try clear p8
               try clear q8
               try clear hx8
               try clear c9
               try clear c10
               try clear c11
               try clear c11b0
               try clear c12
               try clear c14
               try clear c14b0
               try clear p14
               try clear q14
               try clear hx14
               try clear c15
               try clear c15b0
               try clear c16
               try clear c16b0
               try clear c17
               try clear c17b0
               try clear c17b1
               try clear hx140_0
               try clear p140
               try clear p2
               try clear p6
               try clear p8
               try clear q140
               try clear q8
               obtain ⟨x3_4,x8_4,rfl,HA,HK4,HO_3,HB⟩:=hrel
               have hl3_4:=(Kd.R_reads' HO_3.out).1
               rw [hl3_4] at HO_3
               (try simp only [hl3_4])
               cases gk with
               | zero => exact absurd HA.out (by simp [spec_Crc15.l3])
               | succ k4 =>
                have H:=HA.out
                clear HA
                simp only [spec_Crc15.l3] at H
                by_cases c19 : x8_4 < 16
                ·rw [if_pos c19] at H
                 have c19b0 : decide (x8_4 < 16) = true:=decide_eq_true c19
                 clear c19
                 obtain ⟨ji20,hji20⟩ : ∃ j_ : Int,(wrap64 (x7_3 + x8_4)) = j_:=⟨_,rfl⟩
                 replace H : (if 0 ≤ (ji20) then (if (ji20) < (x3_4.length : Int) then (if 0 ≤ x8_4 then (if x8_4 < ((⟨#[49,49,48,48,48,49,48,49,49,48,48,49,49,48,48,49]⟩ : ByteArray).size : Int) then (spec_Crc15.l3 k4 (x3_4.set ((ji20) : Int).toNat (Go.bits .xor .u8 (rd x3_4 (ji20)) (((bt (⟨#[49,49,48,48,48,49,48,49,49,48,48,49,49,48,48,49]⟩ : ByteArray) x8_4) - 48) % 256))) (⟨#[49,49,48,48,48,49,48,49,49,48,48,49,49,48,48,49]⟩ : ByteArray) x7_3 (wrap64 (x8_4 + 1))) else (none)) else (none)) else (none)) else (none)) = some r:=by first | (rw [hji20] at H;exact H) | (simp only [hji20] at H ⊢;exact H)
                 have hji20w : (IntKind.i64.wrap (x7_3 + x8_4)) = ji20:=(i64_w _).trans hji20
                 by_cases c21 : 0 ≤ (ji20)
                 ·rw [if_pos c21] at H
                  have c21b0 : decide (0 ≤ (ji20)) = true:=decide_eq_true c21
                  clear c21
                  by_cases c22 : (ji20) < (x3_4.length : Int)
                  ·rw [if_pos c22] at H
                   have c22b0 : decide ((ji20) < (x3_4.length : Int)) = true:=decide_eq_true c22
                   clear c22
                   by_cases c23 : 0 ≤ x8_4
                   ·rw [if_pos c23] at H
                    have c23b0 : decide (0 ≤ x8_4) = true:=decide_eq_true c23
                    clear c23
                    by_cases c24 : x8_4 < ((⟨#[49,49,48,48,48,49,48,49,49,48,48,49,49,48,48,49]⟩ : ByteArray).size : Int)
                    ·rw [if_pos c24] at H
                     have c24b0 : decide (x8_4 < ((⟨#[49,49,48,48,48,49,48,49,49,48,48,49,49,48,48,49]⟩ : ByteArray).size : Int)) = true:=decide_eq_true c24
                     clear c24
                     obtain ⟨y142,hy142⟩ : ∃ y_ : List Int,y_ = (x3_4.set ((ji20) : Int).toNat (Go.bits .xor .u8 (rd x3_4 (ji20)) (((bt (⟨#[49,49,48,48,48,49,48,49,49,48,48,49,49,48,48,49]⟩ : ByteArray) x8_4) - 48) % 256))):=⟨_,rfl⟩
                     replace H : (spec_Crc15.l3 k4 y142 (⟨#[49,49,48,48,48,49,48,49,49,48,48,49,49,48,48,49]⟩ : ByteArray) x7_3 (wrap64 (x8_4 + 1))) = some r:=by first | (rw [hy142];with_reducible exact H) | (have H2_:=(Option.bind_some _ _).symm.trans H;rw [hy142];with_reducible exact H2_) | (have H2_:=(Option.bind_some _ _).symm.trans H;with_reducible exact H2_) | with_reducible exact H | (rw [hy142];exact H) | exact H
                     have Ny142:=Aside0.mk hy142
                     clear hy142
                     have H':=Aside0.mk H
                     clear H
                     try go_wp2
                     have n0_:=Aside0.mk (Kd.R_drew HO_3.out)
                     have n1_:=Aside0.mk (below_drew1 HB.out)
                     clear HO_3
                     clear HB
                     have HO_3:=n0_
                     have HB:=n1_
                     clear n0_ n1_
                     have p141 : 0 ≤ ((ji20) : Int):=of_decide_eq_true (by first | (with_reducible assumption) | assumption)
                     have q141 : (ji20) < (x3_4.length : Int):=of_decide_eq_true (by first | (with_reducible assumption) | assumption)
                     obtain ⟨ad141,e141,hx141_0⟩:=Kd.at_int (Kd.R_reads' HO_3.out).2.2 (ji20) p141 q141
                     obtain rfl : ad140 = ad141:=(by injection e141)
                     replace p141:=eq_true p141
                     replace q141:=eq_true q141
                     have p25 : 0 ≤ (x8_4 : Int):=of_decide_eq_true (by first | (with_reducible assumption) | assumption)
                     have q25 : x8_4 < (16 : Int):=of_decide_eq_true (by first | (with_reducible assumption) | assumption)
                     have hx25:=bt_at (⟨#[49,49,48,48,48,49,48,49,49,48,48,49,49,48,48,49]⟩ : ByteArray) x8_4
                     replace p25:=eq_true p25
                     replace q25:=eq_true q25
                     have p26 : 0 ≤ ((ji20) : Int):=of_decide_eq_true (by first | (with_reducible assumption) | assumption)
                     have q26 : ((ji20) : Int) < ((x3_4.length : Int) : Int):=of_decide_eq_true (by first | (with_reducible assumption) | assumption)
                     obtain ⟨go26,co26,eo26,gb26,gl26,cl26,HG26⟩:=Kd.R_form HO_3.out (by omega)
                     (first | cases eo26 | (injection eo26 with ea_ en_ ec_;(first | subst ea_ | (injection ea_ with ea_;subst ea_));subst ec_;clear en_))
                     have GB26:=Aside0.mk gb26
                     have GG26:=Aside0.mk HG26
                     clear gb26 gl26 HG26
                     (first | simp only [add_plain] at hx140_0 | skip)
                     (first | simp only [add_plain] at hx141_0 | skip)
                     obtain ⟨hx26_0,hf26_0⟩:=Kd.R_celln 0 HO_3.out ((ji20) : Int) p26 q26
                     replace p26:=eq_true p26
                     replace q26:=eq_true q26
                     have HP28:=Kd.R_putn HO_3.out ((ji20) : Int) (Go.bits .xor .u8 (rd x3_4 (ji20)) (((bt (⟨#[49,49,48,48,48,49,48,49,49,48,48,49,49,48,48,49]⟩ : ByteArray) x8_4) - 48) % 256))
                     rw [← Ny142.out] at HP28
                     have HQ28:=Aside0.mk HP28
                     clear HP28
                     refine start_ (n:=17) (S:=fun w' => w'.cell? ⟨go26,((ji20)).toNat,none⟩ = some (.int .u8 (rd x3_4 (ji20)))) (ds := [16]) #[false,false,false,false,false,false,false,false,false,false,false,false,false,false,false,false,false] (by kernel_rfl) rfl rfl (hx141_0) (fun hHeld => ?_);refine with_tabW spec_Crc15.tab20 spec_Crc15.bits20 (fun HT_ HW_ => ?_)
                     generalize wr.drew = w27 at HO_3 HB GG26 HQ28 hf26_0 hx141_0 hx26_0 hHeld ⊢
                     refine pure_ (i:=0) (N:=some 51) (v := ?_) (a' := ?_) #[true,false,false,false,false,false,false,false,false,false,false,false,false,false,false,false,false] rfl rfl (any_of HT_.out (by kernel_rfl)) (fun _ _ _ h => h) (Or.inl ⟨by rfl, ?_⟩) ?_ ?_
                     rotate_left
                     ·intro w'
                      go_simp
                      with_reducible rfl
                     rotate_left
                     ·simp only [Act.put,List.setIfInBounds_toArray,List.set_cons_zero,List.set_cons_succ,i64_w,i32_w]
                      rfl
                     refine pure_ (i:=1) (N:=some 52) (v := ?_) (a' := ?_) #[true,true,false,false,false,false,false,false,false,false,false,false,false,false,false,false,false] rfl rfl (any_of HT_.out (by kernel_rfl)) (fun _ _ _ h => h) (Or.inl ⟨by rfl, ?_⟩) ?_ ?_
                     rotate_left
                     ·intro w'
                      go_simp
                      with_reducible rfl
                     rotate_left
                     ·simp only [Act.put,List.setIfInBounds_toArray,List.set_cons_zero,List.set_cons_succ,i64_w,i32_w]
                      rfl
                     refine pure_ (i:=2) (N:=some 53) (v := ?_) (a' := ?_) #[true,true,true,false,false,false,false,false,false,false,false,false,false,false,false,false,false] rfl rfl (any_of HT_.out (by kernel_rfl)) (fun _ _ _ h => h) (Or.inl ⟨by rfl, ?_⟩) ?_ ?_
                     rotate_left
                     ·intro w'
                      go_simp
                      with_reducible rfl
                     rotate_left
                     ·simp only [Act.put,List.setIfInBounds_toArray,List.set_cons_zero,List.set_cons_succ,i64_w,i32_w]
                      rfl
                     refine pure_ (i:=3) (N:=some 54) (v := ?_) (a' := ?_) #[true,true,true,true,false,false,false,false,false,false,false,false,false,false,false,false,false] rfl rfl (any_of HT_.out (by kernel_rfl)) (fun _ _ _ h => h) (Or.inl ⟨by rfl, ?_⟩) ?_ ?_
                     rotate_left
                     ·intro w'
                      go_simp
                      with_reducible rfl
                     rotate_left
                     ·simp only [Act.put,List.setIfInBounds_toArray,List.set_cons_zero,List.set_cons_succ,i64_w,i32_w]
                      rfl
                     refine pure_ (i:=4) (N:=some 55) (v := ?_) (a' := ?_) #[true,true,true,true,true,false,false,false,false,false,false,false,false,false,false,false,false] rfl rfl (any_of HT_.out (by kernel_rfl)) (fun _ _ _ h => h) (Or.inl ⟨by rfl, ?_⟩) ?_ ?_
                     rotate_left
                     ·intro w'
                      go_simp
                      with_reducible rfl
                     rotate_left
                     ·simp only [Act.put,List.setIfInBounds_toArray,List.set_cons_zero,List.set_cons_succ,i64_w,i32_w]
                      rfl
                     refine pure_ (i:=5) (N:=some 56) (v := ?_) (a' := ?_) #[true,true,true,true,true,true,false,false,false,false,false,false,false,false,false,false,false] rfl rfl (any_of HT_.out (by kernel_rfl)) (fun _ _ _ h => h) (Or.inl ⟨by rfl, ?_⟩) ?_ ?_
                     rotate_left
                     ·intro w'
                      go_simp
                      with_reducible rfl
                     rotate_left
                     ·simp only [Act.put,List.setIfInBounds_toArray,List.set_cons_zero,List.set_cons_succ,i64_w,i32_w]
                      rfl
                     refine pure_ (i:=6) (N:=some 57) (v := ?_) (a' := ?_) #[true,true,true,true,true,true,true,false,false,false,false,false,false,false,false,false,false] rfl rfl (any_of HT_.out (by kernel_rfl)) (fun _ _ _ h => h) (Or.inl ⟨by rfl, ?_⟩) ?_ ?_
                     rotate_left
                     ·intro w'
                      go_simp
                      with_reducible rfl
                     rotate_left
                     ·simp only [Act.put,List.setIfInBounds_toArray,List.set_cons_zero,List.set_cons_succ,i64_w,i32_w]
                      rfl
                     refine pure_ (i:=7) (N:=some 58) (v := ?_) (a' := ?_) #[true,true,true,true,true,true,true,true,false,false,false,false,false,false,false,false,false] rfl rfl (any_of HT_.out (by kernel_rfl)) (fun _ _ _ h => h) (Or.inl ⟨by rfl, ?_⟩) ?_ ?_
                     rotate_left
                     ·intro w'
                      go_simp
                      with_reducible rfl
                     rotate_left
                     ·simp only [Act.put,List.setIfInBounds_toArray,List.set_cons_zero,List.set_cons_succ,i64_w,i32_w]
                      rfl
                     refine pure_ (i:=8) (N:=some 59) (v := ?_) (a' := ?_) #[true,true,true,true,true,true,true,true,true,false,false,false,false,false,false,false,false] rfl rfl (any_of HT_.out (by kernel_rfl)) (fun _ _ _ h => h) (Or.inl ⟨by rfl, ?_⟩) ?_ ?_
                     rotate_left
                     ·intro w'
                      go_simp
                      with_reducible rfl
                     rotate_left
                     ·simp only [Act.put,List.setIfInBounds_toArray,List.set_cons_zero,List.set_cons_succ,i64_w,i32_w]
                      rfl
                     refine pure_ (i:=10) (N:=some 61) (v := ?_) (a' := ?_) #[true,true,true,true,true,true,true,true,true,false,true,false,false,false,false,false,false] rfl rfl (any_of HT_.out (by kernel_rfl)) (fun _ _ _ h => h) (Or.inl ⟨by rfl, ?_⟩) ?_ ?_
                     rotate_left
                     ·intro w'
                      go_simp
                      with_reducible rfl
                     rotate_left
                     ·simp only [Act.put,List.setIfInBounds_toArray,List.set_cons_zero,List.set_cons_succ,i64_w,i32_w]
                      rfl
                     refine pure_ (i:=11) (N:=some 62) (v := ?_) (a' := ?_) #[true,true,true,true,true,true,true,true,true,false,true,true,false,false,false,false,false] rfl rfl (any_of HT_.out (by kernel_rfl)) (fun _ _ _ h => h) (Or.inl ⟨by rfl, ?_⟩) ?_ ?_
                     rotate_left
                     ·intro w'
                      go_simp
                      with_reducible rfl
                     rotate_left
                     ·simp only [Act.put,List.setIfInBounds_toArray,List.set_cons_zero,List.set_cons_succ,i64_w,i32_w]
                      rfl
                     refine take_ (i:=9) (N:=some 60) (v := ?_) (a' := ?_) #[true,true,true,true,true,true,true,true,true,true,true,true,false,false,false,false,false] rfl rfl (take_ofW HT_.out HW_.out (by kernel_rfl)) (fun _ _ _ h => h) (Or.inl ⟨by rfl, ?_⟩) hHeld ?_ ?_
                     rotate_left
                     ·intro w' s0
                      go_simp
                      with_reducible rfl
                     rotate_left
                     ·simp only [Act.put,List.setIfInBounds_toArray,List.set_cons_zero,List.set_cons_succ,i64_w,i32_w]
                      rfl
                     refine take_ (i:=12) (N:=some 63) (v := ?_) (a' := ?_) #[true,true,true,true,true,true,true,true,true,true,true,true,true,false,false,false,false] rfl rfl (take_ofW HT_.out HW_.out (by kernel_rfl)) (fun _ _ _ h => h) (Or.inl ⟨by rfl, ?_⟩) hHeld ?_ ?_
                     rotate_left
                     ·intro w' s0
                      go_simp
                      with_reducible rfl
                     rotate_left
                     ·simp only [Act.put,List.setIfInBounds_toArray,List.set_cons_zero,List.set_cons_succ,i64_w,i32_w]
                      rfl
                     refine pure_ (i:=13) (N:=some 64) (v := ?_) (a' := ?_) #[true,true,true,true,true,true,true,true,true,true,true,true,true,true,false,false,false] rfl rfl (any_of HT_.out (by kernel_rfl)) (fun _ _ _ h => h) (Or.inl ⟨by rfl, ?_⟩) ?_ ?_
                     rotate_left
                     ·intro w'
                      go_simp
                      with_reducible rfl
                     rotate_left
                     ·simp only [Act.put,List.setIfInBounds_toArray,List.set_cons_zero,List.set_cons_succ,i64_w,i32_w]
                      rfl
                     refine pure_ (i:=14) (N:=some 65) (v := ?_) (a' := ?_) #[true,true,true,true,true,true,true,true,true,true,true,true,true,true,true,false,false] rfl rfl (any_of HT_.out (by kernel_rfl)) (fun _ _ _ h => h) (Or.inl ⟨by rfl, ?_⟩) ?_ ?_
                     rotate_left
                     ·intro w'
                      go_simp
                      with_reducible rfl
                     rotate_left
                     ·simp only [Act.put,List.setIfInBounds_toArray,List.set_cons_zero,List.set_cons_succ,i64_w,i32_w]
                      rfl
                     refine pure_ (i:=15) (N:=some 66) (v := ?_) (a' := ?_) #[true,true,true,true,true,true,true,true,true,true,true,true,true,true,true,true,false] rfl rfl (any_of HT_.out (by kernel_rfl)) (fun _ _ _ h => h) (Or.inl ⟨by rfl, ?_⟩) ?_ ?_
                     rotate_left
                     ·intro w'
                      go_simp
                      with_reducible rfl
                     rotate_left
                     ·simp only [Act.put,List.setIfInBounds_toArray,List.set_cons_zero,List.set_cons_succ,i64_w,i32_w]
                      rfl
                     refine last_ (i:=16) (N:=none) #[true,true,true,true,true,true,true,true,true,true,true,true,true,true,true,true,true] rfl rfl (one_of HT_.out (by kernel_rfl)) (by decide) (fun K hK => ?_)
                     refine skip_ (w1 := ?_) (by rfl) rfl ?_ ?_
                     rotate_left
                     ·go_simp
                      rfl
                     refine hK.out _ _ ?_
                     clear hK K
                     refine done_ (done_of HT_.out (by kernel_rfl)) ?_
                     try go_wp2
                     (try simp only [← hl3_4]);(try simp only [← add_plain go26 x7_3.toNat])
                     go_roundg k4
                     case measure => have:=HK1.out;have:=HK2.out;have:=HK3.out;have:=HK4.out;omega
                     case rel => exact ⟨(y142),(wrap64 (x8_4 + 1)),(by first | rfl | (simp;done) | (simp [*];done)),H',⟨by have:=HK1.out;have:=HK2.out;have:=HK3.out;have:=HK4.out;omega⟩,⟨by (try simp only [hl3_4]);(with_reducible repeat (first | apply Kd.R_alloc | apply Kd.R_drewN | apply Kd.R_drew));exact HQ28.out⟩,⟨by repeat (first | (with_reducible first | exact HB.out | apply below_alloc | apply pw_below_drewN | apply below_drew1 | refine below_set ?_ GB26.out) | exact HB.out)⟩⟩
                    ·rw [if_neg c24] at H
                     exact absurd H (by simp)
                   ·rw [if_neg c23] at H
                    exact absurd H (by simp)
                  ·rw [if_neg c22] at H
                   exact absurd H (by simp)
                 ·rw [if_neg c21] at H
                  exact absurd H (by simp)
                ·rw [if_neg c19] at H
                 have c19b0 : decide (x8_4 < 16) = false:=decide_eq_false c19
                 clear c19
                 have H':=Aside0.mk H
                 clear H
                 go_wp2
                 (try simp only [← hl3_4]);(try simp only [← add_plain go26 x7_3.toNat])
                 go_roundg k4
                 case measure => have:=HK1.out;have:=HK2.out;have:=HK3.out;have:=HK4.out;omega
                 case rel => exact ⟨(x3_4),(wrap64 (x7_3 + 1)),(by first | rfl | (simp;done) | (simp [*];done)),H',⟨by have:=HK1.out;have:=HK2.out;have:=HK3.out;have:=HK4.out;omega⟩,⟨by (try simp only [hl3_4]);(with_reducible repeat (first | apply Kd.R_alloc | apply Kd.R_drewN | apply Kd.R_drew));exact HO_3.out⟩,⟨by repeat (first | (with_reducible first | exact HB.out | apply below_alloc | apply pw_below_drewN | apply below_drew1) | exact HB.out)⟩⟩
             ·rw [if_neg c17] at H
              have c17b0 : ((rd x3_3 x7_3) == 1) = false:=beq_eq_false_iff_ne.mpr c17
              have c17b1 : ((rd x3_3 x7_3) != 1) = true:=bne_iff_ne.mpr c17
              have H':=Aside0.mk H
              clear H
              obtain ⟨Ao29,co29,eo29⟩:=Kd.R_slice HO_3.out
              subst eo29
              have p140 : 0 ≤ (x7_3 : Int):=of_decide_eq_true (by first | (with_reducible assumption) | assumption)
              have q140 : x7_3 < (x3_3.length : Int):=of_decide_eq_true (by first | (with_reducible assumption) | assumption)
              obtain ⟨ad140,e140,hx140_0⟩:=Kd.at_int (Kd.R_reads' HO_3.out).2.2 x7_3 p140 q140
              cases e140
              replace p140:=eq_true p140
              replace q140:=eq_true q140
              go_wp2
              go_roundg k3
              case measure => have:=HK1.out;have:=HK2.out;have:=HK3.out;omega
              case rel => exact ⟨(x3_3),(wrap64 (x7_3 + 1)),(by first | rfl | (simp;done) | (simp [*];done)),H',⟨by have:=HK1.out;have:=HK2.out;have:=HK3.out;omega⟩,⟨by (with_reducible repeat (first | apply Kd.R_alloc | apply Kd.R_drewN | apply Kd.R_drew));exact HO_3.out⟩,⟨by repeat (first | (with_reducible first | exact HB.out | apply below_alloc | apply pw_below_drewN | apply below_drew1) | exact HB.out)⟩⟩
            ·rw [if_neg c16] at H
             exact absurd H (by simp)
           ·rw [if_neg c15] at H
            exact absurd H (by simp)
          ·rw [if_neg c14] at H
           have c14b0 : decide ((wrap64 (x7_3 + 15)) < (x3_3.length : Int)) = false:=decide_eq_false c14
           clear c14
           have H':=Aside0.mk H
           clear H
           obtain ⟨Ao30,co30,eo30⟩:=Kd.R_slice HO_3.out
           subst eo30
           go_wp2
           go_loopg [9,10] k3 (fun kq v9 v10 w' => ∃ (x9_4 : Int) (x10_4 : Int),v9 = .int .i64 x9_4 ∧ v10 = .int .i64 x10_4 ∧ Aside0 (spec_Crc15.l4 kq x3_3 x9_4 x10_4 = some r) ∧ Aside0 (kq ≤ k3) ∧ Aside0 (Kd.R (Kd.int .u8) 5 w' w.heap.size (fun _ => True) (.slice Ao30 x3_3.length co30) x3_3) ∧ Aside0 (Below w.heap.size w w'))
           case atStart => exact ⟨(0),(wrap64 ((x3_3.length : Int) - 15)),(by first | rfl | (simp;done) | (simp [*];done)),(by first | rfl | (simp;done) | (simp [*];done)),H',⟨Nat.le_refl _⟩,⟨by (with_reducible repeat (first | apply Kd.R_alloc | apply Kd.R_drewN | apply Kd.R_drew));exact HO_3.out⟩,⟨by repeat (first | (with_reducible first | exact HB.out | apply below_alloc | apply pw_below_drewN | apply below_drew1) | exact HB.out)⟩⟩
           case round =>
            clear H'
            try clear c1
            try clear p1
            try clear q1
            try clear hx1
            try clear c2
            try clear p2
            try clear q2
            try clear hx2
            try clear hf2
            try clear c3
            try clear c6
            try clear c6b0
            try clear p6
            try clear c7
            try clear c7b0
            try clear p8
            try clear q8
            try clear hx8
            try clear c9
            try clear c10
            try clear c11
            try clear c11b0
            try clear c12
            try clear c14
            try clear c14b0
            try clear p14
            try clear q14
            try clear hx14
            try clear c15
            try clear c15b0
            try clear c16
            try clear c16b0
            try clear c17
            try clear c17b0
            try clear c17b1
            try clear c19
            try clear c19b0
            try clear c21
            try clear c21b0
            try clear c22
            try clear c22b0
            try clear c23
            try clear c23b0
            try clear c24
            try clear c24b0
            try clear p25
            try clear q25
            try clear hx25
            try clear p26
            try clear q26
            try clear hx26
            try clear hf26
            try clear hx140_0
            try clear hx141_0
            try clear hx26_0
            try clear p1
            try clear p14
            try clear p140
            try clear p141
            try clear p2
            try clear p25
            try clear p26
            try clear p6
            try clear p8
            try clear q1
            try clear q14
            try clear q140
            try clear q141
            try clear q25
            try clear q26
            try clear q8
            obtain ⟨x9_4,x10_4,rfl,rfl,HA,HK4,HO_3,HB⟩:=hrel
            cases gk with
            | zero => exact absurd HA.out (by simp [spec_Crc15.l4])
            | succ k4 =>
             have H:=HA.out
             clear HA
             simp only [spec_Crc15.l4] at H
             by_cases c31 : x10_4 < (x3_3.length : Int)
             ·rw [if_pos c31] at H
              have c31b0 : decide (x10_4 < (x3_3.length : Int)) = true:=decide_eq_true c31
              clear c31
              by_cases c32 : 0 ≤ x10_4
              ·rw [if_pos c32] at H
               have c32b0 : decide (0 ≤ x10_4) = true:=decide_eq_true c32
               clear c32
               have H':=Aside0.mk H
               clear H
               have p143 : 0 ≤ (x10_4 : Int):=of_decide_eq_true (by first | (with_reducible assumption) | assumption)
               have q143 : x10_4 < (x3_3.length : Int):=of_decide_eq_true (by first | (with_reducible assumption) | assumption)
               obtain ⟨ad143,e143,hx143_0⟩:=Kd.at_int (Kd.R_reads' HO_3.out).2.2 x10_4 p143 q143
               cases e143
               replace p143:=eq_true p143
               replace q143:=eq_true q143
               go_wp2
               go_roundg k4
               case measure => have:=HK1.out;have:=HK2.out;have:=HK3.out;have:=HK4.out;omega
               case rel => exact ⟨(wrap64 ((wrap64 (2 * x9_4)) + (wrap64 (rd x3_3 x10_4)))),(wrap64 (x10_4 + 1)),(by first | rfl | (simp;done) | (simp [*];done)),(by first | rfl | (simp;done) | (simp [*];done)),H',⟨by have:=HK1.out;have:=HK2.out;have:=HK3.out;have:=HK4.out;omega⟩,⟨by (with_reducible repeat (first | apply Kd.R_alloc | apply Kd.R_drewN | apply Kd.R_drew));exact HO_3.out⟩,⟨by repeat (first | (with_reducible first | exact HB.out | apply below_alloc | apply pw_below_drewN | apply below_drew1) | exact HB.out)⟩⟩
              ·rw [if_neg c32] at H
               exact absurd H (by simp)
             ·rw [if_neg c31] at H
              have c31b0 : decide (x10_4 < (x3_3.length : Int)) = false:=decide_eq_false c31
              clear c31
              obtain rfl:=Option.some.inj H
              go_wp2
              go_ret
              exact ⟨by first | rfl | (simp [errW_none,errW_some] <;> rfl) | (simp [*,errW_none,errW_some] <;> rfl),by repeat (first | (with_reducible first | exact HB.out | apply below_alloc | apply pw_below_drewN | apply below_drew1) | exact HB.out)⟩
 ·replace c3:=Bool.eq_false_iff.mpr c3
  subst c3
  have H1 : (some (-1)) = some r:=by rw [if_neg (show ¬ (false = true) by decide)] at H;exact H
  clear H
  have H:=H1
  clear H1
  obtain rfl:=Option.some.inj H
  go_enter Try.func107,Try.ntmps107
  go_wp2_with (first | ((with_reducible refine gate_callee (f:=128) rfl ?_);refine goesL_ (some 12) rfl rfl Try.func128 (by kernel_rfl) rfl #[.string a0, .int .i64 2000] rfl (by (try simp only [List.map_toArray,List.map_cons,List.map_nil]);first | done | rfl | (simp only [List.length_drop,List.length_take];rfl)) ?_;(with_reducible refine (spec_l1okBits.calls k a0 2000 false _ A2.out).mono ?_);rintro e w' ⟨rfl,⟨nd,rfl⟩⟩;refine ⟨_,rfl, ?_⟩))
  go_ret
  exact ⟨by first | rfl | (simp [errW_none,errW_some] <;> rfl) | (simp [*,errW_none,errW_some] <;> rfl),by repeat (first | (with_reducible first | exact HB.out | apply below_alloc | apply pw_below_drewN | apply below_drew1) | exact HB.out)⟩
end Go.Proofs.Ytdoclpgciadjaaa.P

namespace Go.Proofs.Ytdoclpgciadjaaa.P
open Go.RowKit Go.Proofs.YtdoclpgciadjaaaW.PrintWords Go.Proofs.YtdoclpgciadjaaaW.PrintLast Go.Proofs.YtdoclpgciadjaaaW.PrintMore
set_option linter.unusedVariables false
set_option linter.unusedSimpArgs false
def spec_l1crcOk.j0 : Nat → List Int → Int → Bool → Option (Bool)
 | 0,_,_,_ => none
 | k + 1,x0,x4,x18 => if x18 = true then (some false) else (if 0 ≤ x4 then (if x4 ≤ (x0.length : Int) then ((spec_Crc15.f k (strOfNums (x0.take (x4 : Int).toNat))).bind fun t147 => (if x4 ≤ (wrap64 (x4 + 15)) then (if (wrap64 (x4 + 15)) ≤ (x0.length : Int) then ((spec_l1val.f k (strOfNums ((x0.take ((wrap64 (x4 + 15)) : Int).toNat).drop (x4 : Int).toNat))).bind fun t149 => (some (t147 == t149))) else (none)) else (none))) else (none)) else (none))
def spec_l1crcOk.f (k : Nat) (l0 : List Int) : Option (Bool):=(spec_l1lay.f k l0).bind fun bt144 => (if bt144.2 = 0 then (spec_l1crcOk.j0 k l0 bt144.2 true) else (spec_l1crcOk.j0 k l0 bt144.2 (decide ((l0.length : Int) < (wrap64 (bt144.2 + 15))))))
def spec_l1crcOk.T4 : Bool × List (List Nat × List Nat):=(true, [([], []),([], []),([0,1], [0,1]),([2], [2]),([3], [3]),([], []),([], []),([], []),([7], [7]),([5,6,8], [5,6,8]),([9], [9]),([10,4], [10]),([4,11], [4,11]),([12,11,0,1,2,3,4,5,6,7,8,9,10,11,12], [12])])
def spec_l1crcOk.B4 : List Nat := [0,0,3,7,15,0,0,0,128,480,992,2047,4095,8191]
theorem spec_l1crcOk.tab4 : rtab .any (opsOf Try.f88 4) = spec_l1crcOk.T4:=by kernel_rfl
theorem spec_l1crcOk.bits4 : waitsOk spec_l1crcOk.T4.2 spec_l1crcOk.B4 = true:=by kernel_rfl
set_option maxHeartbeats 8000000 in
set_option maxRecDepth 100000 in
theorem spec_l1crcOk.calls (k : Nat) (A0 : Option Addr) (c0 : Nat) (l0 : List Int) (r : Bool) (w : World) (hr0 : Kd.C (Kd.int .u8) w A0 l0.length l0) (hc0 : l0.length ≤ c0) (h : spec_l1crcOk.f k l0 = some r) :
  Calls Try.prog 88 #[.slice A0 l0.length c0] w fun e w' => e = .returned (.bool r) ∧ Below w.heap.size w w':=by
 have HR0:=Aside0.mk hr0
 have HC0:=Aside0.mk hc0
 clear hr0 hc0
 have HB:=Aside0.mk (Below.refl w.heap.size w)
 have H : ((spec_l1lay.f k l0).bind fun bt144 => (if bt144.2 = 0 then (spec_l1crcOk.j0 k l0 bt144.2 true) else (spec_l1crcOk.j0 k l0 bt144.2 (decide ((l0.length : Int) < (wrap64 (bt144.2 + 15))))))) = some r:=h
 clear h
 replace H:=Option.bind_eq_some_iff.mp H
 obtain ⟨⟨t144,t145⟩,A20,H⟩:=H
 replace H : (if t145 = 0 then (spec_l1crcOk.j0 k l0 t145 true) else (spec_l1crcOk.j0 k l0 t145 (decide ((l0.length : Int) < (wrap64 (t145 + 15)))))) = some r:=H
 have A2:=Aside0.mk A20
 clear A20
 have HC3:=Aside0.mk H
 clear H
 go_enter Try.func88,Try.ntmps88
 go_upto_region 2 with (first | ((with_reducible refine gate_callee (f:=102) rfl ?_);refine goesL_ (some 7) rfl rfl Try.func102 (by kernel_rfl) rfl #[.slice A0 l0.length c0] rfl (by (try simp only [List.map_toArray,List.map_cons,List.map_nil]);first | done | rfl | (simp only [List.length_drop,List.length_take];rfl)) ?_;(with_reducible refine (spec_l1lay.calls k _ _ l0 t144 t145 _ ?side1 ?side2 A2.out).mono ?_);(case side1 => repeat (first | exact HR0.out | (with_reducible refine Kd.C_alloc ?_ _) | (with_reducible refine Kd.C_drewN ?_ _) | (with_reducible refine Kd.C_drew ?_)));(case side2 => exact HC0.out);rintro e w' ⟨rfl,⟨nd,rfl⟩⟩;refine ⟨_,rfl, ?_⟩))
 (try simp only [Act.put,List.setIfInBounds_toArray,List.set_cons_zero,List.set_cons_succ])
 go_cut [18] (fun v18 wc => ∃ (kq : Nat) (x18_2 : Bool),v18 = .bool x18_2 ∧ Aside0 (spec_l1crcOk.j0 kq l0 t145 x18_2 = some r) ∧ Aside0 (kq ≤ k) ∧ Aside0 (Below w.heap.size w wc))
 case first =>
  have H:=HC3.out
  clear HC3
  by_cases c4 : t145 = 0
  ·rw [if_pos c4] at H
   have c4b0 : (t145 == 0) = true:=beq_iff_eq.mpr c4
   have c4b1 : (t145 != 0) = false:=bne_eq_false_iff_eq.mpr c4
   clear c4
   (first | rw [c4b0] | (simp only [i64_w,i32_w];rw [c4b0]) | skip)
   have H':=Aside0.mk H
   clear H
   go_wp2
   go_meet
   case rel => exact ⟨_,(true),(by first | rfl | (simp;done) | (simp [*];done)),H',⟨by first | omega | exact Nat.le_refl _⟩,⟨by repeat (first | (with_reducible first | exact HB.out | apply below_alloc | apply pw_below_drewN | apply below_drew1) | exact HB.out)⟩⟩
  ·rw [if_neg c4] at H
   have c4b0 : (t145 == 0) = false:=beq_eq_false_iff_ne.mpr c4
   have c4b1 : (t145 != 0) = true:=bne_iff_ne.mpr c4
   (first | rw [c4b0] | (simp only [i64_w,i32_w];rw [c4b0]) | skip)
   have H':=Aside0.mk H
   clear H
   go_wp2
   go_meet
   case rel => exact ⟨_,(decide ((l0.length : Int) < (wrap64 (t145 + 15)))),(by first | rfl | (simp;done) | (simp [*];done)),H',⟨by first | omega | exact Nat.le_refl _⟩,⟨by repeat (first | (with_reducible first | exact HB.out | apply below_alloc | apply pw_below_drewN | apply below_drew1) | exact HB.out)⟩⟩
 case rest =>
  clear HC3
  try clear c1
  try clear p2
  try clear c4
  try clear c4b0
  try clear c4b1
  obtain ⟨kq,x18_2,rfl,HA,HJ2,HB⟩:=hcut
  cases kq with
  | zero => exact absurd HA.out (by simp [spec_l1crcOk.j0])
  | succ kj2 =>
   have H:=HA.out
   clear HA
   simp only [spec_l1crcOk.j0] at H
   by_cases c5 : x18_2 = true
   ·subst c5
    have H1 : (some false) = some r:=by rw [if_pos rfl] at H;exact H
    clear H
    have H:=H1
    clear H1
    obtain rfl:=Option.some.inj H
    go_wp2
    go_ret
    exact ⟨by first | rfl | (simp [errW_none,errW_some] <;> rfl) | (simp [*,errW_none,errW_some] <;> rfl),by repeat (first | (with_reducible first | exact HB.out | apply below_alloc | apply pw_below_drewN | apply below_drew1) | exact HB.out)⟩
   ·replace c5:=Bool.eq_false_iff.mpr c5
    subst c5
    have H1 : (if 0 ≤ t145 then (if t145 ≤ (l0.length : Int) then ((spec_Crc15.f kj2 (strOfNums (l0.take (t145 : Int).toNat))).bind fun t147 => (if t145 ≤ (wrap64 (t145 + 15)) then (if (wrap64 (t145 + 15)) ≤ (l0.length : Int) then ((spec_l1val.f kj2 (strOfNums ((l0.take ((wrap64 (t145 + 15)) : Int).toNat).drop (t145 : Int).toNat))).bind fun t149 => (some (t147 == t149))) else (none)) else (none))) else (none)) else (none)) = some r:=by rw [if_neg (show ¬ (false = true) by decide)] at H;exact H
    clear H
    have H:=H1
    clear H1
    by_cases c6 : 0 ≤ t145
    ·rw [if_pos c6] at H
     have c6b0:=eq_true c6
     have c6b1 : decide (0 ≤ t145) = true:=decide_eq_true c6
     clear c6
     by_cases c7 : t145 ≤ (l0.length : Int)
     ·rw [if_pos c7] at H
      have c7b0:=eq_true c7
      have c7b1 : decide (t145 ≤ (l0.length : Int)) = true:=decide_eq_true c7
      clear c7
      replace H:=Option.bind_eq_some_iff.mp H
      obtain ⟨t147,A80,H⟩:=H
      replace H : (if t145 ≤ (wrap64 (t145 + 15)) then (if (wrap64 (t145 + 15)) ≤ (l0.length : Int) then ((spec_l1val.f kj2 (strOfNums ((l0.take ((wrap64 (t145 + 15)) : Int).toNat).drop (t145 : Int).toNat))).bind fun t149 => (some (t147 == t149))) else (none)) else (none)) = some r:=H
      have A8:=Aside0.mk A80
      clear A80
      have c9b0:=eq_true (of_decide_eq_true (by first | (with_reducible assumption) | assumption) : 0 ≤ t145)
      by_cases c10 : t145 ≤ (wrap64 (t145 + 15))
      ·rw [if_pos c10] at H
       have c10b0:=eq_true c10
       have c10b1 : decide (t145 ≤ (wrap64 (t145 + 15))) = true:=decide_eq_true c10
       by_cases c11 : (wrap64 (t145 + 15)) ≤ (l0.length : Int)
       ·rw [if_pos c11] at H
        have c11b0:=eq_true c11
        have c11b1 : decide ((wrap64 (t145 + 15)) ≤ (l0.length : Int)) = true:=decide_eq_true c11
        replace H:=Option.bind_eq_some_iff.mp H
        obtain ⟨t149,A120,H⟩:=H
        replace H : (some (t147 == t149)) = some r:=H
        have A12:=Aside0.mk A120
        clear A120
        obtain rfl:=Option.some.inj H
        try go_wp2
        have n0_:=Aside0.mk (below_drew1 HB.out)
        clear HB
        have HB:=n0_
        clear n0_
        obtain ⟨i014,hi014,_,hsz14,_⟩:=info_parts info5
        obtain ⟨hcut14,hA14,hC14⟩:=print_take_of (P:=Try.prog) (Value.int .u8) 0 22 5 .i64 Try.underlying22 hi014 hsz14 A0 c0 l0 t145 (of_decide_eq_true (by first | (with_reducible assumption) | assumption)) (of_decide_eq_true (by first | (with_reducible assumption) | assumption)) HC0.out
        have HR146:=Aside0.mk (Kd.C_of_reads (h1:=fun _ => rfl) (hA14 _ (Kd.reads_of_C HR0.out)))
        have HC146:=Aside0.mk hC14
        clear hA14 hC14 hi014 hsz14
        obtain ⟨i015,hi015,_,hsz15,_⟩:=info_parts info5
        obtain ⟨A15,hcut15,hA15,hC15⟩:=print_mid_of (P:=Try.prog) (Value.int .u8) 0 22 5 .i64 .i64 Try.underlying22 hi015 hsz15 A0 c0 l0 t145 (wrap64 (t145 + 15)) (of_decide_eq_true (by first | (with_reducible assumption) | assumption)) (by first | omega | exact of_decide_eq_true (by first | (with_reducible assumption) | assumption)) (of_decide_eq_true (by first | (with_reducible assumption) | assumption)) HC0.out
        have HR148:=Aside0.mk (Kd.C_of_reads (h1:=fun _ => rfl) (hA15 _ (Kd.reads_of_C HR0.out)))
        have HC148:=Aside0.mk hC15
        clear hA15 hC15 hi015 hsz15
        have hlA : (l0.take t145.toNat).length = t145.toNat:=by rw [List.length_take,Nat.min_eq_left (by have:=of_decide_eq_true c7b1;omega)]
        have hlB : (List.drop t145.toNat (List.take (wrap64 (t145 + 15)).toNat l0)).length = (wrap64 (t145 + 15)).toNat - t145.toNat:=by rw [List.length_drop,List.length_take,Nat.min_eq_left (by omega)]
        have HCV : Aside0 (∀ W' : World,Below w.heap.size w W' → ((convert 22 9 (.slice A0 t145.toNat c0)).run Try.prog W' = .ok (.string (strOfNums (l0.take (t145 : Int).toNat))) W') ∧ ((convert 22 9 (.slice A15 ((wrap64 (t145 + 15)).toNat - t145.toNat) (c0 - t145.toNat))).run Try.prog W' = .ok (.string (strOfNums ((l0.take ((wrap64 (t145 + 15)) : Int).toNat).drop (t145 : Int).toNat))) W')):=Aside0.mk (fun W' hW => ⟨by have h:=Kd.C_string (P:=Try.prog) (w:=W') (A:=A0) (c:=c0) Try.underlying22 Try.underlying5 Try.underlying9 (Kd.C_below HR146.out hW);rw [hlA] at h;exact h,by have h:=Kd.C_string (P:=Try.prog) (w:=W') (A:=A15) (c:=(c0 - t145.toNat)) Try.underlying22 Try.underlying5 Try.underlying9 (Kd.C_below HR148.out hW);rw [hlB] at h;exact h⟩)
        clear hlA hlB
        refine start_ (n:=14) (S:=fun W' => ((convert 22 9 (.slice A0 t145.toNat c0)).run Try.prog W' = .ok (.string (strOfNums (l0.take (t145 : Int).toNat))) W') ∧ ((convert 22 9 (.slice A15 ((wrap64 (t145 + 15)).toNat - t145.toNat) (c0 - t145.toNat))).run Try.prog W' = .ok (.string (strOfNums ((l0.take ((wrap64 (t145 + 15)) : Int).toNat).drop (t145 : Int).toNat))) W')) (ds := []) #[false,false,false,false,false,false,false,false,false,false,false,false,false,false] (by kernel_rfl) rfl rfl (HCV.out _ HB.out) (fun hHeld => ?_);refine with_tabW spec_l1crcOk.tab4 spec_l1crcOk.bits4 (fun HT_ HW_ => ?_)
        generalize wc.drew = w13 at HB HR146 HR148 hHeld ⊢
        refine pure_ (i:=0) (N:=some 19) (v := ?_) (a' := ?_) #[true,false,false,false,false,false,false,false,false,false,false,false,false,false] rfl rfl (any_of HT_.out (by kernel_rfl)) (fun _ _ _ h => h) (Or.inl ⟨by rfl, ?_⟩) ?_ ?_
        rotate_left
        ·intro w'
         go_simp
         with_reducible rfl
        rotate_left
        ·simp only [Act.put,List.setIfInBounds_toArray,List.set_cons_zero,List.set_cons_succ,i64_w,i32_w]
         rfl
        refine pure_ (i:=1) (N:=some 20) (v := ?_) (a' := ?_) #[true,true,false,false,false,false,false,false,false,false,false,false,false,false] rfl rfl (any_of HT_.out (by kernel_rfl)) (fun _ _ _ h => h) (Or.inl ⟨by rfl, ?_⟩) ?_ ?_
        rotate_left
        ·intro w'
         go_simp
         with_reducible rfl
        rotate_left
        ·simp only [Act.put,List.setIfInBounds_toArray,List.set_cons_zero,List.set_cons_succ,i64_w,i32_w]
         rfl
        refine pure_ (i:=2) (N:=some 21) (v := ?_) (a' := ?_) #[true,true,true,false,false,false,false,false,false,false,false,false,false,false] rfl rfl (any_of HT_.out (by kernel_rfl)) (fun _ _ _ h => h) (Or.inl ⟨by rfl, ?_⟩) ?_ ?_
        rotate_left
        ·intro w'
         go_simp
         with_reducible rfl
        rotate_left
        ·simp only [Act.put,List.setIfInBounds_toArray,List.set_cons_zero,List.set_cons_succ,i64_w,i32_w]
         rfl
        refine take_ (i:=3) (N:=some 22) (v := ?_) (a' := ?_) #[true,true,true,true,false,false,false,false,false,false,false,false,false,false] rfl rfl (take_ofW HT_.out HW_.out (by kernel_rfl)) (fun _ _ _ h => h) (Or.inl ⟨by rfl, ?_⟩) hHeld ?_ ?_
        rotate_left
        ·intro w' s0
         obtain ⟨s1,s2⟩:=s0
         go_simp
         with_reducible rfl
        rotate_left
        ·simp only [Act.put,List.setIfInBounds_toArray,List.set_cons_zero,List.set_cons_succ,i64_w,i32_w]
         rfl
        refine pure_ (i:=5) (N:=some 24) (v := ?_) (a' := ?_) #[true,true,true,true,false,true,false,false,false,false,false,false,false,false] rfl rfl (any_of HT_.out (by kernel_rfl)) (fun _ _ _ h => h) (Or.inl ⟨by rfl, ?_⟩) ?_ ?_
        rotate_left
        ·intro w'
         go_simp
         with_reducible rfl
        rotate_left
        ·simp only [Act.put,List.setIfInBounds_toArray,List.set_cons_zero,List.set_cons_succ,i64_w,i32_w]
         rfl
        refine pure_ (i:=6) (N:=some 25) (v := ?_) (a' := ?_) #[true,true,true,true,false,true,true,false,false,false,false,false,false,false] rfl rfl (any_of HT_.out (by kernel_rfl)) (fun _ _ _ h => h) (Or.inl ⟨by rfl, ?_⟩) ?_ ?_
        rotate_left
        ·intro w'
         go_simp
         with_reducible rfl
        rotate_left
        ·simp only [Act.put,List.setIfInBounds_toArray,List.set_cons_zero,List.set_cons_succ,i64_w,i32_w]
         rfl
        refine pure_ (i:=7) (N:=some 26) (v := ?_) (a' := ?_) #[true,true,true,true,false,true,true,true,false,false,false,false,false,false] rfl rfl (any_of HT_.out (by kernel_rfl)) (fun _ _ _ h => h) (Or.inl ⟨by rfl, ?_⟩) ?_ ?_
        rotate_left
        ·intro w'
         go_simp
         with_reducible rfl
        rotate_left
        ·simp only [Act.put,List.setIfInBounds_toArray,List.set_cons_zero,List.set_cons_succ,i64_w,i32_w]
         rfl
        refine pure_ (i:=8) (N:=some 27) (v := ?_) (a' := ?_) #[true,true,true,true,false,true,true,true,true,false,false,false,false,false] rfl rfl (any_of HT_.out (by kernel_rfl)) (fun _ _ _ h => h) (Or.inl ⟨by rfl, ?_⟩) ?_ ?_
        rotate_left
        ·intro w'
         go_simp
         with_reducible rfl
        rotate_left
        ·simp only [Act.put,List.setIfInBounds_toArray,List.set_cons_zero,List.set_cons_succ,i64_w,i32_w]
         rfl
        refine pure_ (i:=9) (N:=some 28) (v := ?_) (a' := ?_) #[true,true,true,true,false,true,true,true,true,true,false,false,false,false] rfl rfl (any_of HT_.out (by kernel_rfl)) (fun _ _ _ h => h) (Or.inl ⟨by rfl, ?_⟩) ?_ ?_
        rotate_left
        ·intro w'
         go_simp
         with_reducible rfl
        rotate_left
        ·simp only [Act.put,List.setIfInBounds_toArray,List.set_cons_zero,List.set_cons_succ,i64_w,i32_w]
         rfl
        refine take_ (i:=10) (N:=some 29) (v := ?_) (a' := ?_) #[true,true,true,true,false,true,true,true,true,true,true,false,false,false] rfl rfl (take_ofW HT_.out HW_.out (by kernel_rfl)) (fun _ _ _ h => h) (Or.inl ⟨by rfl, ?_⟩) hHeld ?_ ?_
        rotate_left
        ·intro w' s0
         obtain ⟨s1,s2⟩:=s0
         go_simp
         with_reducible rfl
        rotate_left
        ·simp only [Act.put,List.setIfInBounds_toArray,List.set_cons_zero,List.set_cons_succ,i64_w,i32_w]
         rfl
        refine one_ (i:=4) (N:=some 23) #[true,true,true,true,true,true,true,true,true,true,true,false,false,false] rfl rfl (one_of HT_.out (by kernel_rfl)) (by decide) (fun K hK => ?_)
        refine goes_ Try.func107 (by kernel_rfl) rfl #[.string (strOfNums (l0.take (t145 : Int).toNat))] (by rfl) rfl rfl (by (try simp only [List.map_toArray,List.map_cons,List.map_nil]);first | done | rfl | (simp only [List.length_drop,List.length_take];rfl)) ?_
        with_reducible refine (spec_Crc15.calls kj2 (strOfNums (l0.take (t145 : Int).toNat)) t147 _ A8.out).mono ?_
        rintro e w17 ⟨rfl,hb⟩
        refine ⟨_,rfl, ?_⟩
        have n0_:=Aside0.mk (below_step (by repeat (first | (with_reducible first | exact HB.out | apply below_alloc | apply pw_below_drewN | apply below_drew1) | exact HB.out)) hb)
        clear HB
        have HB:=n0_
        clear n0_
        (try clear hb)
        (try clear hb2)
        (try clear hk)
        (try clear hi)
        refine hK.out _ _ (HCV.out _ (by first | exact HB.out | exact pw_below_drewN HB.out _)) (fun hHeld => ?_)
        clear hK K
        refine norm_ (a' := ?_) ?_ ?_
        rotate_left
        ·show Act.put _ (some 23) _ = _
         simp only [Act.put,List.setIfInBounds_toArray,List.set_cons_zero,List.set_cons_succ,i64_w,i32_w]
         rfl
        refine one_ (i:=11) (N:=some 30) #[true,true,true,true,true,true,true,true,true,true,true,true,false,false] rfl rfl (one_of HT_.out (by kernel_rfl)) (by decide) (fun K hK => ?_)
        refine goes_ Try.func103 (by kernel_rfl) rfl #[.string (strOfNums ((l0.take ((wrap64 (t145 + 15)) : Int).toNat).drop (t145 : Int).toNat))] (by rfl) rfl rfl (by (try simp only [List.map_toArray,List.map_cons,List.map_nil]);first | done | rfl | (simp only [List.length_drop,List.length_take];rfl)) ?_
        with_reducible refine (spec_l1val.calls kj2 (strOfNums ((l0.take ((wrap64 (t145 + 15)) : Int).toNat).drop (t145 : Int).toNat)) t149 _ A12.out).mono ?_
        rintro e w' ⟨rfl,⟨nd,rfl⟩⟩
        refine ⟨_,rfl, ?_⟩
        refine hK.out _ _ (HCV.out _ (by first | exact HB.out | exact pw_below_drewN HB.out _)) (fun hHeld => ?_)
        clear hK K
        refine norm_ (a' := ?_) ?_ ?_
        rotate_left
        ·show Act.put _ (some 30) _ = _
         simp only [Act.put,List.setIfInBounds_toArray,List.set_cons_zero,List.set_cons_succ,i64_w,i32_w]
         rfl
        refine pure_ (i:=12) (N:=some 31) (v := ?_) (a' := ?_) #[true,true,true,true,true,true,true,true,true,true,true,true,true,false] rfl rfl (any_of HT_.out (by kernel_rfl)) (fun _ _ _ h => h) (Or.inl ⟨by rfl, ?_⟩) ?_ ?_
        rotate_left
        ·intro w'
         go_simp
         with_reducible rfl
        rotate_left
        ·simp only [Act.put,List.setIfInBounds_toArray,List.set_cons_zero,List.set_cons_succ,i64_w,i32_w]
         rfl
        refine pure_ (i:=13) (N:=some 2) (v := ?_) (a' := ?_) #[true,true,true,true,true,true,true,true,true,true,true,true,true,true] rfl rfl (any_of HT_.out (by kernel_rfl)) (fun _ _ _ h => h) (Or.inl ⟨by rfl, ?_⟩) ?_ ?_
        rotate_left
        ·intro w'
         go_simp
         with_reducible rfl
        rotate_left
        ·simp only [Act.put,List.setIfInBounds_toArray,List.set_cons_zero,List.set_cons_succ,i64_w,i32_w]
         rfl
        refine done_ (done_of HT_.out (by kernel_rfl)) ?_
        try go_wp2
        go_ret
        exact ⟨by first | rfl | (simp [errW_none,errW_some] <;> rfl) | (simp [*,errW_none,errW_some] <;> rfl),by repeat (first | (with_reducible first | exact HB.out | apply below_alloc | apply pw_below_drewN | apply below_drew1) | exact HB.out)⟩
       ·rw [if_neg c11] at H
        exact absurd H (by simp)
      ·rw [if_neg c10] at H
       exact absurd H (by simp)
     ·rw [if_neg c7] at H
      exact absurd H (by simp)
    ·rw [if_neg c6] at H
     exact absurd H (by simp)
end Go.Proofs.Ytdoclpgciadjaaa.P

namespace Go.Proofs.Ytdoclpgciadjaaa.P
open Go.RowKit Go.Proofs.YtdoclpgciadjaaaW.PrintWords Go.Proofs.YtdoclpgciadjaaaW.PrintLast Go.Proofs.YtdoclpgciadjaaaW.PrintMore
set_option linter.unusedVariables false
set_option linter.unusedSimpArgs false
mutual
def spec_l1look.j0 : Nat → Int → Int → Bool → Option (Int)
 | 0,_,_,_ => none
 | k + 1,x1,x7,x42 => if x42 = true then (some 4) else (if x7 = 5 then (some 1) else (if x7 = 6 then (spec_l1look.j1 k x7 (x1 == 48)) else (spec_l1look.j1 k x7 false)))
def spec_l1look.j1 : Nat → Int → Bool → Option (Int)
 | 0,_,_ => none
 | k + 1,x7,x50 => if x50 = true then (some 6) else (if x7 = 6 then (some 2) else (some 0))
end
def spec_l1look.f (k : Nat) (l0 : List Int) (a1 : Int) : Option (Int):=(spec_l1field.f k l0).bind fun t150 => (if t150 = 1 then (if a1 = 49 then (some 4) else (some 0)) else (if t150 = 11 then (if a1 = 48 then (some 4) else (some 0)) else (if t150 = 13 then (if a1 = 48 then (some 4) else ((spec_l1crcOk.f k l0).bind fun t151 => (if t151 = true then (some 0) else (some 5)))) else (if t150 = 14 then ((spec_l1lay.f k l0).bind fun bt152 => (if (wrap64 ((wrap64 ((l0.length : Int) - bt152.2)) - 18)) < 6 then (spec_l1look.j0 k a1 (wrap64 ((wrap64 ((l0.length : Int) - bt152.2)) - 18)) (a1 == 48)) else (spec_l1look.j0 k a1 (wrap64 ((wrap64 ((l0.length : Int) - bt152.2)) - 18)) false))) else (some 0)))))
set_option maxHeartbeats 8000000 in
set_option maxRecDepth 100000 in
theorem spec_l1look.calls (k : Nat) (A0 : Option Addr) (c0 : Nat) (l0 : List Int) (a1 : Int) (r : Int) (w : World) (hr0 : Kd.C (Kd.int .u8) w A0 l0.length l0) (hc0 : l0.length ≤ c0) (h : spec_l1look.f k l0 a1 = some r) :
  Calls Try.prog 138 #[.slice A0 l0.length c0, .int .u8 a1] w fun e w' => e = .returned (.int .i64 r) ∧ Below w.heap.size w w':=by
 have HR0:=Aside0.mk hr0
 have HC0:=Aside0.mk hc0
 clear hr0 hc0
 have HB:=Aside0.mk (Below.refl w.heap.size w)
 have H : ((spec_l1field.f k l0).bind fun t150 => (if t150 = 1 then (if a1 = 49 then (some 4) else (some 0)) else (if t150 = 11 then (if a1 = 48 then (some 4) else (some 0)) else (if t150 = 13 then (if a1 = 48 then (some 4) else ((spec_l1crcOk.f k l0).bind fun t151 => (if t151 = true then (some 0) else (some 5)))) else (if t150 = 14 then ((spec_l1lay.f k l0).bind fun bt152 => (if (wrap64 ((wrap64 ((l0.length : Int) - bt152.2)) - 18)) < 6 then (spec_l1look.j0 k a1 (wrap64 ((wrap64 ((l0.length : Int) - bt152.2)) - 18)) (a1 == 48)) else (spec_l1look.j0 k a1 (wrap64 ((wrap64 ((l0.length : Int) - bt152.2)) - 18)) false))) else (some 0)))))) = some r:=h
 clear h
 replace H:=Option.bind_eq_some_iff.mp H
 obtain ⟨t150,A30,H⟩:=H
 replace H : (if t150 = 1 then (if a1 = 49 then (some 4) else (some 0)) else (if t150 = 11 then (if a1 = 48 then (some 4) else (some 0)) else (if t150 = 13 then (if a1 = 48 then (some 4) else ((spec_l1crcOk.f k l0).bind fun t151 => (if t151 = true then (some 0) else (some 5)))) else (if t150 = 14 then ((spec_l1lay.f k l0).bind fun bt152 => (if (wrap64 ((wrap64 ((l0.length : Int) - bt152.2)) - 18)) < 6 then (spec_l1look.j0 k a1 (wrap64 ((wrap64 ((l0.length : Int) - bt152.2)) - 18)) (a1 == 48)) else (spec_l1look.j0 k a1 (wrap64 ((wrap64 ((l0.length : Int) - bt152.2)) - 18)) false))) else (some 0))))) = some r:=H
 have A3:=Aside0.mk A30
 clear A30
 by_cases c4 : t150 = 1
 ·rw [if_pos c4] at H
  have c4b0 : (t150 == 1) = true:=beq_iff_eq.mpr c4
  have c4b1 : (t150 != 1) = false:=bne_eq_false_iff_eq.mpr c4
  clear c4
  by_cases c5 : a1 = 49
  ·rw [if_pos c5] at H
   have c5b0 : (a1 == 49) = true:=beq_iff_eq.mpr c5
   have c5b1 : (a1 != 49) = false:=bne_eq_false_iff_eq.mpr c5
   clear c5
   obtain rfl:=Option.some.inj H
   go_enter Try.func138,Try.ntmps138
   go_wp2_with (first | ((with_reducible refine gate_callee (f:=87) rfl ?_);refine goesL_ (some 9) rfl rfl Try.func87 (by kernel_rfl) rfl #[.slice A0 l0.length c0] rfl (by (try simp only [List.map_toArray,List.map_cons,List.map_nil]);first | done | rfl | (simp only [List.length_drop,List.length_take];rfl)) ?_;(with_reducible refine (spec_l1field.calls k _ _ l0 t150 _ ?side1 ?side2 A3.out).mono ?_);(case side1 => repeat (first | exact HR0.out | (with_reducible refine Kd.C_alloc ?_ _) | (with_reducible refine Kd.C_drewN ?_ _) | (with_reducible refine Kd.C_drew ?_)));(case side2 => exact HC0.out);rintro e w' ⟨rfl,⟨nd,rfl⟩⟩;refine ⟨_,rfl, ?_⟩))
   go_ret
   exact ⟨by first | rfl | (simp [errW_none,errW_some] <;> rfl) | (simp [*,errW_none,errW_some] <;> rfl),by repeat (first | (with_reducible first | exact HB.out | apply below_alloc | apply pw_below_drewN | apply below_drew1) | exact HB.out)⟩
  ·rw [if_neg c5] at H
   have c5b0 : (a1 == 49) = false:=beq_eq_false_iff_ne.mpr c5
   have c5b1 : (a1 != 49) = true:=bne_iff_ne.mpr c5
   obtain rfl:=Option.some.inj H
   go_enter Try.func138,Try.ntmps138
   go_wp2_with (first | ((with_reducible refine gate_callee (f:=87) rfl ?_);refine goesL_ (some 9) rfl rfl Try.func87 (by kernel_rfl) rfl #[.slice A0 l0.length c0] rfl (by (try simp only [List.map_toArray,List.map_cons,List.map_nil]);first | done | rfl | (simp only [List.length_drop,List.length_take];rfl)) ?_;(with_reducible refine (spec_l1field.calls k _ _ l0 t150 _ ?side1 ?side2 A3.out).mono ?_);(case side1 => repeat (first | exact HR0.out | (with_reducible refine Kd.C_alloc ?_ _) | (with_reducible refine Kd.C_drewN ?_ _) | (with_reducible refine Kd.C_drew ?_)));(case side2 => exact HC0.out);rintro e w' ⟨rfl,⟨nd,rfl⟩⟩;refine ⟨_,rfl, ?_⟩))
   go_ret
   exact ⟨by first | rfl | (simp [errW_none,errW_some] <;> rfl) | (simp [*,errW_none,errW_some] <;> rfl),by repeat (first | (with_reducible first | exact HB.out | apply below_alloc | apply pw_below_drewN | apply below_drew1) | exact HB.out)⟩
 ·rw [if_neg c4] at H
  have c4b0 : (t150 == 1) = false:=beq_eq_false_iff_ne.mpr c4
  have c4b1 : (t150 != 1) = true:=bne_iff_ne.mpr c4
  by_cases c6 : t150 = 11
  ·rw [if_pos c6] at H
   have c6b0 : (t150 == 11) = true:=beq_iff_eq.mpr c6
   have c6b1 : (t150 != 11) = false:=bne_eq_false_iff_eq.mpr c6
   clear c6
   by_cases c7 : a1 = 48
   ·rw [if_pos c7] at H
    have c7b0 : (a1 == 48) = true:=beq_iff_eq.mpr c7
    have c7b1 : (a1 != 48) = false:=bne_eq_false_iff_eq.mpr c7
    clear c7
    obtain rfl:=Option.some.inj H
    go_enter Try.func138,Try.ntmps138
    go_wp2_with (first | ((with_reducible refine gate_callee (f:=87) rfl ?_);refine goesL_ (some 9) rfl rfl Try.func87 (by kernel_rfl) rfl #[.slice A0 l0.length c0] rfl (by (try simp only [List.map_toArray,List.map_cons,List.map_nil]);first | done | rfl | (simp only [List.length_drop,List.length_take];rfl)) ?_;(with_reducible refine (spec_l1field.calls k _ _ l0 t150 _ ?side1 ?side2 A3.out).mono ?_);(case side1 => repeat (first | exact HR0.out | (with_reducible refine Kd.C_alloc ?_ _) | (with_reducible refine Kd.C_drewN ?_ _) | (with_reducible refine Kd.C_drew ?_)));(case side2 => exact HC0.out);rintro e w' ⟨rfl,⟨nd,rfl⟩⟩;refine ⟨_,rfl, ?_⟩))
    go_ret
    exact ⟨by first | rfl | (simp [errW_none,errW_some] <;> rfl) | (simp [*,errW_none,errW_some] <;> rfl),by repeat (first | (with_reducible first | exact HB.out | apply below_alloc | apply pw_below_drewN | apply below_drew1) | exact HB.out)⟩
   ·rw [if_neg c7] at H
    have c7b0 : (a1 == 48) = false:=beq_eq_false_iff_ne.mpr c7
    have c7b1 : (a1 != 48) = true:=bne_iff_ne.mpr c7
    obtain rfl:=Option.some.inj H
    go_enter Try.func138,Try.ntmps138
    go_wp2_with (first | ((with_reducible refine gate_callee (f:=87) rfl ?_);refine goesL_ (some 9) rfl rfl Try.func87 (by kernel_rfl) rfl #[.slice A0 l0.length c0] rfl (by (try simp only [List.map_toArray,List.map_cons,List.map_nil]);first | done | rfl | (simp only [List.length_drop,List.length_take];rfl)) ?_;(with_reducible refine (spec_l1field.calls k _ _ l0 t150 _ ?side1 ?side2 A3.out).mono ?_);(case side1 => repeat (first | exact HR0.out | (with_reducible refine Kd.C_alloc ?_ _) | (with_reducible refine Kd.C_drewN ?_ _) | (with_reducible refine Kd.C_drew ?_)));(case side2 => exact HC0.out);rintro e w' ⟨rfl,⟨nd,rfl⟩⟩;refine ⟨_,rfl, ?_⟩))
    go_ret
    exact ⟨by first | rfl | (simp [errW_none,errW_some] <;> rfl) | (simp [*,errW_none,errW_some] <;> rfl),by repeat (first | (with_reducible first | exact HB.out | apply below_alloc | apply pw_below_drewN | apply below_drew1) | exact HB.out)⟩
  ·rw [if_neg c6] at H
   have c6b0 : (t150 == 11) = false:=beq_eq_false_iff_ne.mpr c6
   have c6b1 : (t150 != 11) = true:=bne_iff_ne.mpr c6
   by_cases c8 : t150 = 13
   ·rw [if_pos c8] at H
    have c8b0 : (t150 == 13) = true:=beq_iff_eq.mpr c8
    have c8b1 : (t150 != 13) = false:=bne_eq_false_iff_eq.mpr c8
    clear c8
    by_cases c9 : a1 = 48
    ·rw [if_pos c9] at H
     have c9b0 : (a1 == 48) = true:=beq_iff_eq.mpr c9
     have c9b1 : (a1 != 48) = false:=bne_eq_false_iff_eq.mpr c9
     clear c9
     obtain rfl:=Option.some.inj H
     go_enter Try.func138,Try.ntmps138
     go_wp2_with (first | ((with_reducible refine gate_callee (f:=87) rfl ?_);refine goesL_ (some 9) rfl rfl Try.func87 (by kernel_rfl) rfl #[.slice A0 l0.length c0] rfl (by (try simp only [List.map_toArray,List.map_cons,List.map_nil]);first | done | rfl | (simp only [List.length_drop,List.length_take];rfl)) ?_;(with_reducible refine (spec_l1field.calls k _ _ l0 t150 _ ?side1 ?side2 A3.out).mono ?_);(case side1 => repeat (first | exact HR0.out | (with_reducible refine Kd.C_alloc ?_ _) | (with_reducible refine Kd.C_drewN ?_ _) | (with_reducible refine Kd.C_drew ?_)));(case side2 => exact HC0.out);rintro e w' ⟨rfl,⟨nd,rfl⟩⟩;refine ⟨_,rfl, ?_⟩))
     go_ret
     exact ⟨by first | rfl | (simp [errW_none,errW_some] <;> rfl) | (simp [*,errW_none,errW_some] <;> rfl),by repeat (first | (with_reducible first | exact HB.out | apply below_alloc | apply pw_below_drewN | apply below_drew1) | exact HB.out)⟩
    ·rw [if_neg c9] at H
     have c9b0 : (a1 == 48) = false:=beq_eq_false_iff_ne.mpr c9
     have c9b1 : (a1 != 48) = true:=bne_iff_ne.mpr c9
     replace H:=Option.bind_eq_some_iff.mp H
     obtain ⟨t151,A100,H⟩:=H
     replace H : (if t151 = true then (some 0) else (some 5)) = some r:=H
     have A10:=Aside0.mk A100
     clear A100
     by_cases c11 : t151 = true
     ·subst c11
      have H1 : (some 0) = some r:=by rw [if_pos rfl] at H;exact H
      clear H
      have H:=H1
      clear H1
      obtain rfl:=Option.some.inj H
      go_enter Try.func138,Try.ntmps138
      go_wp2_with (first | ((with_reducible refine gate_callee (f:=87) rfl ?_);refine goesL_ (some 9) rfl rfl Try.func87 (by kernel_rfl) rfl #[.slice A0 l0.length c0] rfl (by (try simp only [List.map_toArray,List.map_cons,List.map_nil]);first | done | rfl | (simp only [List.length_drop,List.length_take];rfl)) ?_;(with_reducible refine (spec_l1field.calls k _ _ l0 t150 _ ?side1 ?side2 A3.out).mono ?_);(case side1 => repeat (first | exact HR0.out | (with_reducible refine Kd.C_alloc ?_ _) | (with_reducible refine Kd.C_drewN ?_ _) | (with_reducible refine Kd.C_drew ?_)));(case side2 => exact HC0.out);rintro e w' ⟨rfl,⟨nd,rfl⟩⟩;refine ⟨_,rfl, ?_⟩) | ((with_reducible refine gate_callee (f:=88) rfl ?_);refine goesL_ (some 23) rfl rfl Try.func88 (by kernel_rfl) rfl #[.slice A0 l0.length c0] rfl (by (try simp only [List.map_toArray,List.map_cons,List.map_nil]);first | done | rfl | (simp only [List.length_drop,List.length_take];rfl)) ?_;(with_reducible refine (spec_l1crcOk.calls k _ _ l0 true _ ?side1 ?side2 A10.out).mono ?_);(case side1 => repeat (first | exact HR0.out | (with_reducible refine Kd.C_alloc ?_ _) | (with_reducible refine Kd.C_drewN ?_ _) | (with_reducible refine Kd.C_drew ?_)));(case side2 => exact HC0.out);rintro e w12 ⟨rfl,hb⟩;refine ⟨_,rfl, ?_⟩;have n0_:=Aside0.mk (below_step (by repeat (first | (with_reducible first | exact HB.out | apply below_alloc | apply pw_below_drewN | apply below_drew1) | exact HB.out)) hb);clear HB;have HB:=n0_;clear n0_;(try clear hb);(try clear hb2);(try clear hk);(try clear hi)))
      go_ret
      exact ⟨by first | rfl | (simp [errW_none,errW_some] <;> rfl) | (simp [*,errW_none,errW_some] <;> rfl),by repeat (first | (with_reducible first | exact HB.out | apply below_alloc | apply pw_below_drewN | apply below_drew1) | exact HB.out)⟩
     ·replace c11:=Bool.eq_false_iff.mpr c11
      subst c11
      have H1 : (some 5) = some r:=by rw [if_neg (show ¬ (false = true) by decide)] at H;exact H
      clear H
      have H:=H1
      clear H1
      obtain rfl:=Option.some.inj H
      go_enter Try.func138,Try.ntmps138
      go_wp2_with (first | ((with_reducible refine gate_callee (f:=87) rfl ?_);refine goesL_ (some 9) rfl rfl Try.func87 (by kernel_rfl) rfl #[.slice A0 l0.length c0] rfl (by (try simp only [List.map_toArray,List.map_cons,List.map_nil]);first | done | rfl | (simp only [List.length_drop,List.length_take];rfl)) ?_;(with_reducible refine (spec_l1field.calls k _ _ l0 t150 _ ?side1 ?side2 A3.out).mono ?_);(case side1 => repeat (first | exact HR0.out | (with_reducible refine Kd.C_alloc ?_ _) | (with_reducible refine Kd.C_drewN ?_ _) | (with_reducible refine Kd.C_drew ?_)));(case side2 => exact HC0.out);rintro e w' ⟨rfl,⟨nd,rfl⟩⟩;refine ⟨_,rfl, ?_⟩) | ((with_reducible refine gate_callee (f:=88) rfl ?_);refine goesL_ (some 23) rfl rfl Try.func88 (by kernel_rfl) rfl #[.slice A0 l0.length c0] rfl (by (try simp only [List.map_toArray,List.map_cons,List.map_nil]);first | done | rfl | (simp only [List.length_drop,List.length_take];rfl)) ?_;(with_reducible refine (spec_l1crcOk.calls k _ _ l0 false _ ?side1 ?side2 A10.out).mono ?_);(case side1 => repeat (first | exact HR0.out | (with_reducible refine Kd.C_alloc ?_ _) | (with_reducible refine Kd.C_drewN ?_ _) | (with_reducible refine Kd.C_drew ?_)));(case side2 => exact HC0.out);rintro e w13 ⟨rfl,hb⟩;refine ⟨_,rfl, ?_⟩;have n0_:=Aside0.mk (below_step (by repeat (first | (with_reducible first | exact HB.out | apply below_alloc | apply pw_below_drewN | apply below_drew1) | exact HB.out)) hb);clear HB;have HB:=n0_;clear n0_;(try clear hb);(try clear hb2);(try clear hk);(try clear hi)))
      go_ret
      exact ⟨by first | rfl | (simp [errW_none,errW_some] <;> rfl) | (simp [*,errW_none,errW_some] <;> rfl),by repeat (first | (with_reducible first | exact HB.out | apply below_alloc | apply pw_below_drewN | apply below_drew1) | exact HB.out)⟩
   ·rw [if_neg c8] at H
    have c8b0 : (t150 == 13) = false:=beq_eq_false_iff_ne.mpr c8
    have c8b1 : (t150 != 13) = true:=bne_iff_ne.mpr c8
    by_cases c14 : t150 = 14
    ·rw [if_pos c14] at H
     have c14b0 : (t150 == 14) = true:=beq_iff_eq.mpr c14
     have c14b1 : (t150 != 14) = false:=bne_eq_false_iff_eq.mpr c14
     clear c14
     replace H:=Option.bind_eq_some_iff.mp H
     obtain ⟨⟨t152,t153⟩,A150,H⟩:=H
     replace H : (if (wrap64 ((wrap64 ((l0.length : Int) - t153)) - 18)) < 6 then (spec_l1look.j0 k a1 (wrap64 ((wrap64 ((l0.length : Int) - t153)) - 18)) (a1 == 48)) else (spec_l1look.j0 k a1 (wrap64 ((wrap64 ((l0.length : Int) - t153)) - 18)) false)) = some r:=H
     have A15:=Aside0.mk A150
     clear A150
     have HC16:=Aside0.mk H
     clear H
     go_enter Try.func138,Try.ntmps138
     go_upto_region 16 with (first | ((with_reducible refine gate_callee (f:=87) rfl ?_);refine goesL_ (some 9) rfl rfl Try.func87 (by kernel_rfl) rfl #[.slice A0 l0.length c0] rfl (by (try simp only [List.map_toArray,List.map_cons,List.map_nil]);first | done | rfl | (simp only [List.length_drop,List.length_take];rfl)) ?_;(with_reducible refine (spec_l1field.calls k _ _ l0 t150 _ ?side1 ?side2 A3.out).mono ?_);(case side1 => repeat (first | exact HR0.out | (with_reducible refine Kd.C_alloc ?_ _) | (with_reducible refine Kd.C_drewN ?_ _) | (with_reducible refine Kd.C_drew ?_)));(case side2 => exact HC0.out);rintro e w' ⟨rfl,⟨nd,rfl⟩⟩;refine ⟨_,rfl, ?_⟩) | ((with_reducible refine gate_callee (f:=102) rfl ?_);refine goesL_ (some 29) rfl rfl Try.func102 (by kernel_rfl) rfl #[.slice A0 l0.length c0] rfl (by (try simp only [List.map_toArray,List.map_cons,List.map_nil]);first | done | rfl | (simp only [List.length_drop,List.length_take];rfl)) ?_;(with_reducible refine (spec_l1lay.calls k _ _ l0 t152 t153 _ ?side1 ?side2 A15.out).mono ?_);(case side1 => repeat (first | exact HR0.out | (with_reducible refine Kd.C_alloc ?_ _) | (with_reducible refine Kd.C_drewN ?_ _) | (with_reducible refine Kd.C_drew ?_)));(case side2 => exact HC0.out);rintro e w' ⟨rfl,⟨nd,rfl⟩⟩;refine ⟨_,rfl, ?_⟩))
     (try simp only [Act.put,List.setIfInBounds_toArray,List.set_cons_zero,List.set_cons_succ])
     go_cut [42] (fun v42 wc => ∃ (kq : Nat) (x42_15 : Bool),v42 = .bool x42_15 ∧ Aside0 (spec_l1look.j0 kq a1 (wrap64 ((wrap64 ((l0.length : Int) - t153)) - 18)) x42_15 = some r) ∧ Aside0 (kq ≤ k) ∧ Aside0 (Below w.heap.size w wc))
     case first =>
      have H:=HC16.out
      clear HC16
      by_cases c17 : (wrap64 ((wrap64 ((l0.length : Int) - t153)) - 18)) < 6
      ·rw [if_pos c17] at H
       have c17b0 : decide ((wrap64 ((wrap64 ((l0.length : Int) - t153)) - 18)) < 6) = true:=decide_eq_true c17
       clear c17
       (first | rw [c17b0] | (simp only [i64_w,i32_w];rw [c17b0]) | skip)
       have H':=Aside0.mk H
       clear H
       go_wp2
       go_meet
       case rel => exact ⟨_,((a1 == 48)),(by first | rfl | (simp;done) | (simp [*];done)),H',⟨by first | omega | exact Nat.le_refl _⟩,⟨by repeat (first | (with_reducible first | exact HB.out | apply below_alloc | apply pw_below_drewN | apply below_drew1) | exact HB.out)⟩⟩
      ·rw [if_neg c17] at H
       have c17b0 : decide ((wrap64 ((wrap64 ((l0.length : Int) - t153)) - 18)) < 6) = false:=decide_eq_false c17
       clear c17
       (first | rw [c17b0] | (simp only [i64_w,i32_w];rw [c17b0]) | skip)
       have H':=Aside0.mk H
       clear H
       go_wp2
       go_meet
       case rel => exact ⟨_,(false),(by first | rfl | (simp;done) | (simp [*];done)),H',⟨by first | omega | exact Nat.le_refl _⟩,⟨by repeat (first | (with_reducible first | exact HB.out | apply below_alloc | apply pw_below_drewN | apply below_drew1) | exact HB.out)⟩⟩
     case rest =>
      clear HC16
      try clear c1
      try clear p2
      try clear c4
      try clear c4b0
      try clear c4b1
      try clear c5
      try clear c5b0
      try clear c5b1
      try clear c6
      try clear c6b0
      try clear c6b1
      try clear p6
      try clear c7
      try clear c7b0
      try clear c7b1
      try clear c8
      try clear c8b0
      try clear c8b1
      try clear c9
      try clear c9b0
      try clear c9b1
      try clear c10
      try clear c11
      try clear c13
      try clear c14
      try clear c14b0
      try clear c14b1
      try clear c17
      try clear c17b0
      obtain ⟨kq,x42_15,rfl,HA,HJ15,HB⟩:=hcut
      cases kq with
      | zero => exact absurd HA.out (by simp [spec_l1look.j0])
      | succ kj15 =>
       have H:=HA.out
       clear HA
       simp only [spec_l1look.j0] at H
       by_cases c18 : x42_15 = true
       ·subst c18
        have H1 : (some 4) = some r:=by rw [if_pos rfl] at H;exact H
        clear H
        have H:=H1
        clear H1
        obtain rfl:=Option.some.inj H
        go_wp2
        go_ret
        exact ⟨by first | rfl | (simp [errW_none,errW_some] <;> rfl) | (simp [*,errW_none,errW_some] <;> rfl),by repeat (first | (with_reducible first | exact HB.out | apply below_alloc | apply pw_below_drewN | apply below_drew1) | exact HB.out)⟩
       ·replace c18:=Bool.eq_false_iff.mpr c18
        subst c18
        have H1 : (if (wrap64 ((wrap64 ((l0.length : Int) - t153)) - 18)) = 5 then (some 1) else (if (wrap64 ((wrap64 ((l0.length : Int) - t153)) - 18)) = 6 then (spec_l1look.j1 kj15 (wrap64 ((wrap64 ((l0.length : Int) - t153)) - 18)) (a1 == 48)) else (spec_l1look.j1 kj15 (wrap64 ((wrap64 ((l0.length : Int) - t153)) - 18)) false))) = some r:=by rw [if_neg (show ¬ (false = true) by decide)] at H;exact H
        clear H
        have H:=H1
        clear H1
        by_cases c19 : (wrap64 ((wrap64 ((l0.length : Int) - t153)) - 18)) = 5
        ·rw [if_pos c19] at H
         have c19b0 : ((wrap64 ((wrap64 ((l0.length : Int) - t153)) - 18)) == 5) = true:=beq_iff_eq.mpr c19
         have c19b1 : ((wrap64 ((wrap64 ((l0.length : Int) - t153)) - 18)) != 5) = false:=bne_eq_false_iff_eq.mpr c19
         clear c19
         obtain rfl:=Option.some.inj H
         go_wp2
         go_ret
         exact ⟨by first | rfl | (simp [errW_none,errW_some] <;> rfl) | (simp [*,errW_none,errW_some] <;> rfl),by repeat (first | (with_reducible first | exact HB.out | apply below_alloc | apply pw_below_drewN | apply below_drew1) | exact HB.out)⟩
        ·rw [if_neg c19] at H
         have c19b0 : ((wrap64 ((wrap64 ((l0.length : Int) - t153)) - 18)) == 5) = false:=beq_eq_false_iff_ne.mpr c19
         have c19b1 : ((wrap64 ((wrap64 ((l0.length : Int) - t153)) - 18)) != 5) = true:=bne_iff_ne.mpr c19
         have HC20:=Aside0.mk H
         clear H
         go_upto_region 20 with (fail)
         go_cut [50] (fun v50 wc => ∃ (kq : Nat) (x50_19 : Bool),v50 = .bool x50_19 ∧ Aside0 (spec_l1look.j1 kq (wrap64 ((wrap64 ((l0.length : Int) - t153)) - 18)) x50_19 = some r) ∧ Aside0 (kq ≤ kj15) ∧ Aside0 (Below w.heap.size w wc))
         case first =>
          have H:=HC20.out
          clear HC20
          by_cases c21 : (wrap64 ((wrap64 ((l0.length : Int) - t153)) - 18)) = 6
          ·rw [if_pos c21] at H
           have c21b0 : ((wrap64 ((wrap64 ((l0.length : Int) - t153)) - 18)) == 6) = true:=beq_iff_eq.mpr c21
           have c21b1 : ((wrap64 ((wrap64 ((l0.length : Int) - t153)) - 18)) != 6) = false:=bne_eq_false_iff_eq.mpr c21
           clear c21
           (first | rw [c21b0] | (simp only [i64_w,i32_w];rw [c21b0]) | skip)
           have H':=Aside0.mk H
           clear H
           go_wp2
           go_meet
           case rel => exact ⟨_,((a1 == 48)),(by first | rfl | (simp;done) | (simp [*];done)),H',⟨by have:=HJ15.out;first | omega | exact Nat.le_refl _⟩,⟨by repeat (first | (with_reducible first | exact HB.out | apply below_alloc | apply pw_below_drewN | apply below_drew1) | exact HB.out)⟩⟩
          ·rw [if_neg c21] at H
           have c21b0 : ((wrap64 ((wrap64 ((l0.length : Int) - t153)) - 18)) == 6) = false:=beq_eq_false_iff_ne.mpr c21
           have c21b1 : ((wrap64 ((wrap64 ((l0.length : Int) - t153)) - 18)) != 6) = true:=bne_iff_ne.mpr c21
           (first | rw [c21b0] | (simp only [i64_w,i32_w];rw [c21b0]) | skip)
           have H':=Aside0.mk H
           clear H
           go_wp2
           go_meet
           case rel => exact ⟨_,(false),(by first | rfl | (simp;done) | (simp [*];done)),H',⟨by have:=HJ15.out;first | omega | exact Nat.le_refl _⟩,⟨by repeat (first | (with_reducible first | exact HB.out | apply below_alloc | apply pw_below_drewN | apply below_drew1) | exact HB.out)⟩⟩
         case rest =>
          clear HC20
          try clear c1
          try clear c2
          try clear p2
          try clear c4
          try clear c4b0
          try clear c4b1
          try clear c5
          try clear c5b0
          try clear c5b1
          try clear c6
          try clear c6b0
          try clear c6b1
          try clear p6
          try clear c7
          try clear c7b0
          try clear c7b1
          try clear c8
          try clear c8b0
          try clear c8b1
          try clear c9
          try clear c9b0
          try clear c9b1
          try clear c10
          try clear c11
          try clear c13
          try clear c14
          try clear c14b0
          try clear c14b1
          try clear c17
          try clear c17b0
          try clear c18
          try clear c19
          try clear c19b0
          try clear c19b1
          try clear c21
          try clear c21b0
          try clear c21b1
          try clear p2
          try clear p6
          obtain ⟨kq,x50_19,rfl,HA,HJ19,HB⟩:=hcut
          cases kq with
          | zero => exact absurd HA.out (by simp [spec_l1look.j1])
          | succ kj19 =>
           have H:=HA.out
           clear HA
           simp only [spec_l1look.j1] at H
           by_cases c22 : x50_19 = true
           ·subst c22
            have H1 : (some 6) = some r:=by rw [if_pos rfl] at H;exact H
            clear H
            have H:=H1
            clear H1
            obtain rfl:=Option.some.inj H
            go_wp2
            go_ret
            exact ⟨by first | rfl | (simp [errW_none,errW_some] <;> rfl) | (simp [*,errW_none,errW_some] <;> rfl),by repeat (first | (with_reducible first | exact HB.out | apply below_alloc | apply pw_below_drewN | apply below_drew1) | exact HB.out)⟩
           ·replace c22:=Bool.eq_false_iff.mpr c22
            subst c22
            have H1 : (if (wrap64 ((wrap64 ((l0.length : Int) - t153)) - 18)) = 6 then (some 2) else (some 0)) = some r:=by rw [if_neg (show ¬ (false = true) by decide)] at H;exact H
            clear H
            have H:=H1
            clear H1
            by_cases c23 : (wrap64 ((wrap64 ((l0.length : Int) - t153)) - 18)) = 6
            ·rw [if_pos c23] at H
             have c23b0 : ((wrap64 ((wrap64 ((l0.length : Int) - t153)) - 18)) == 6) = true:=beq_iff_eq.mpr c23
             have c23b1 : ((wrap64 ((wrap64 ((l0.length : Int) - t153)) - 18)) != 6) = false:=bne_eq_false_iff_eq.mpr c23
             clear c23
             obtain rfl:=Option.some.inj H
             go_wp2
             go_ret
             exact ⟨by first | rfl | (simp [errW_none,errW_some] <;> rfl) | (simp [*,errW_none,errW_some] <;> rfl),by repeat (first | (with_reducible first | exact HB.out | apply below_alloc | apply pw_below_drewN | apply below_drew1) | exact HB.out)⟩
            ·rw [if_neg c23] at H
             have c23b0 : ((wrap64 ((wrap64 ((l0.length : Int) - t153)) - 18)) == 6) = false:=beq_eq_false_iff_ne.mpr c23
             have c23b1 : ((wrap64 ((wrap64 ((l0.length : Int) - t153)) - 18)) != 6) = true:=bne_iff_ne.mpr c23
             obtain rfl:=Option.some.inj H
             go_wp2
             go_ret
             exact ⟨by first | rfl | (simp [errW_none,errW_some] <;> rfl) | (simp [*,errW_none,errW_some] <;> rfl),by repeat (first | (with_reducible first | exact HB.out | apply below_alloc | apply pw_below_drewN | apply below_drew1) | exact HB.out)⟩
    ·rw [if_neg c14] at H
     have c14b0 : (t150 == 14) = false:=beq_eq_false_iff_ne.mpr c14
     have c14b1 : (t150 != 14) = true:=bne_iff_ne.mpr c14
     obtain rfl:=Option.some.inj H
     go_enter Try.func138,Try.ntmps138
     go_wp2_with (first | ((with_reducible refine gate_callee (f:=87) rfl ?_);refine goesL_ (some 9) rfl rfl Try.func87 (by kernel_rfl) rfl #[.slice A0 l0.length c0] rfl (by (try simp only [List.map_toArray,List.map_cons,List.map_nil]);first | done | rfl | (simp only [List.length_drop,List.length_take];rfl)) ?_;(with_reducible refine (spec_l1field.calls k _ _ l0 t150 _ ?side1 ?side2 A3.out).mono ?_);(case side1 => repeat (first | exact HR0.out | (with_reducible refine Kd.C_alloc ?_ _) | (with_reducible refine Kd.C_drewN ?_ _) | (with_reducible refine Kd.C_drew ?_)));(case side2 => exact HC0.out);rintro e w' ⟨rfl,⟨nd,rfl⟩⟩;refine ⟨_,rfl, ?_⟩))
     go_ret
     exact ⟨by first | rfl | (simp [errW_none,errW_some] <;> rfl) | (simp [*,errW_none,errW_some] <;> rfl),by repeat (first | (with_reducible first | exact HB.out | apply below_alloc | apply pw_below_drewN | apply below_drew1) | exact HB.out)⟩
end Go.Proofs.Ytdoclpgciadjaaa.P
