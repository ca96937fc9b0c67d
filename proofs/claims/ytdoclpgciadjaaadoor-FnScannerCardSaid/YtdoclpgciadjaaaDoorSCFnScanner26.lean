/- Texts of the proof of CFnScanner, joined. -/
import Derived.Test.YtdoclpgciadjaaaDoorSCFnScanner21
import Derived.Test.YtdoclpgciadjaaaDoorSCFnScanner25
namespace Go.Proofs.YtdoclpgciadjaaaDoor.P
open Go.RowKit Go.Proofs.YtdoclpgciadjaaaDoorW.PrintWords Go.Proofs.YtdoclpgciadjaaaDoorW.PrintLast Go.Proofs.YtdoclpgciadjaaaDoorW.PrintMore
set_option linter.unusedVariables false
set_option linter.unusedSimpArgs false
mutual
def spec_l1lay.j0 : Nat → List Int → Int → Option (Int × Int)
 | 0,_,_ => none
 | k + 1,x0,x4 => if (x0.length : Int) < x4 then (some (x4,0)) else (if 12 < (x0.length : Int) then (if x4 = 39 then (if 32 < (x0.length : Int) then (spec_l1lay.j1 k x0 x4 ((rd x0 32) == 49)) else (none)) else (spec_l1lay.j1 k x0 x4 ((rd x0 12) == 49))) else (none))
def spec_l1lay.j1 : Nat → List Int → Int → Bool → Option (Int × Int)
 | 0,_,_,_ => none
 | k + 1,x0,x4,x5 => if 0 ≤ (wrap64 (x4 - 4)) then (if (wrap64 (x4 - 4)) ≤ x4 then (if x4 ≤ (x0.length : Int) then ((spec_l1val.f k (strOfNums ((x0.take (x4 : Int).toNat).drop ((wrap64 (x4 - 4)) : Int).toNat))).bind fun t249 => (if t249 > 8 then (if x5 = true then (some (x4,wrap64 (x4 + (8 * 0)))) else (some (x4,wrap64 (x4 + (8 * 8))))) else (if x5 = true then (some (x4,wrap64 (x4 + (8 * 0)))) else (some (x4,wrap64 (x4 + (wrap64 (8 * t249)))))))) else (none)) else (none)) else (none)
end
def spec_l1lay.f (k : Nat) (l0 : List Int) : Option (Int × Int):=if (l0.length : Int) < 14 then (some (0,0)) else (if 13 < (l0.length : Int) then (if (rd l0 13) = 49 then (spec_l1lay.j0 k l0 39) else (spec_l1lay.j0 k l0 19)) else (none))
set_option maxHeartbeats 8000000 in
set_option maxRecDepth 100000 in
theorem spec_l1lay.calls (k : Nat) (A0 : Option Addr) (c0 : Nat) (l0 : List Int) (r1 : Int) (r2 : Int) (w : World) (hr0 : Kd.C (Kd.int .u8) w A0 l0.length l0) (hc0 : l0.length ≤ c0) (h : spec_l1lay.f k l0 = some (r1,r2)) :
  Calls Tryd.prog 67 #[.slice A0 l0.length c0] w fun e w' => e = .returned (.tuple #[.int .i64 r1, .int .i64 r2]) ∧ Drawn0 w w':=by
 have HR0:=Aside0.mk hr0
 have HC0:=Aside0.mk hc0
 clear hr0 hc0
 have H : (if (l0.length : Int) < 14 then (some (0,0)) else (if 13 < (l0.length : Int) then (if (rd l0 13) = 49 then (spec_l1lay.j0 k l0 39) else (spec_l1lay.j0 k l0 19)) else (none))) = some (r1,r2):=h
 clear h
 by_cases c2 : (l0.length : Int) < 14
 ·rw [if_pos c2] at H
  have c2b0 : decide ((l0.length : Int) < 14) = true:=decide_eq_true c2
  have c2b1 : decide (l0.length < 14) = true:=decide_eq_true (by omega)
  clear c2
  simp only [Option.some.injEq,Prod.mk.injEq] at H
  obtain ⟨rfl,rfl⟩:=H
  go_enter Tryd.func67,Tryd.ntmps67
  go_wp2
  go_ret2
  exact ⟨by first | rfl | (simp;done) | (simp [*];done),by repeat (first | exact Drawn0.refl _ | apply Drawn0.step)⟩
 ·rw [if_neg c2] at H
  have c2b0 : decide ((l0.length : Int) < 14) = false:=decide_eq_false c2
  have c2b1 : decide (l0.length < 14) = false:=decide_eq_false (by omega)
  clear c2
  by_cases c3 : 13 < (l0.length : Int)
  ·rw [if_pos c3] at H
   have c3b0 : decide (13 < (l0.length : Int)) = true:=decide_eq_true c3
   have c3b1 : decide (13 < l0.length) = true:=decide_eq_true (by omega)
   clear c3
   have HC4:=Aside0.mk H
   clear H
   have p245 : 0 ≤ (13 : Int):=(by omega)
   have q245 : 13 < (l0.length : Int):=of_decide_eq_true (by first | (with_reducible assumption) | assumption)
   obtain ⟨ad245,e245,hx245_0⟩:=Kd.at_int HR0.out 13 p245 q245
   cases e245
   (try simp only [show (13 : Int).toNat = 13 from rfl,Nat.reduceMul,Nat.reduceEqDiff,Go.Addr.add, ↓reduceIte] at hx245_0)
   have qi245 : (13 < l0.length) = True:=eq_true (by omega)
   (try rw [show ((13 : Int)).toNat = 13 from rfl] at hx245_0)
   replace p245:=eq_true p245
   replace q245:=eq_true q245
   go_enter Tryd.func67,Tryd.ntmps67
   go_upto_if 13 with (fail)
   go_cut [4] (fun v4 wc => ∃ (kq : Nat) (x4_3 : Int),v4 = .int .i64 x4_3 ∧ Aside0 (spec_l1lay.j0 kq l0 x4_3 = some (r1,r2)) ∧ Aside0 (kq ≤ k) ∧ Drawn0 w wc)
   case first =>
    have H:=HC4.out
    clear HC4
    by_cases c5 : (rd l0 13) = 49
    ·rw [if_pos c5] at H
     have c5b0 : ((rd l0 13) == 49) = true:=beq_iff_eq.mpr c5
     have c5b1 : ((rd l0 13) != 49) = false:=bne_eq_false_iff_eq.mpr c5
     clear c5
     (first | rw [c5b0] | (simp only [i64_w,i32_w];rw [c5b0]) | skip)
     have H':=Aside0.mk H
     clear H
     go_wp2
     go_meet
     case rel => exact ⟨_,(39),(by first | rfl | (simp;done) | (simp [*];done)),H',⟨by first | omega | exact Nat.le_refl _⟩,by repeat (first | exact Drawn0.refl _ | apply Drawn0.step)⟩
    ·rw [if_neg c5] at H
     have c5b0 : ((rd l0 13) == 49) = false:=beq_eq_false_iff_ne.mpr c5
     have c5b1 : ((rd l0 13) != 49) = true:=bne_iff_ne.mpr c5
     (first | rw [c5b0] | (simp only [i64_w,i32_w];rw [c5b0]) | skip)
     have H':=Aside0.mk H
     clear H
     go_wp2
     go_meet
     case rel => exact ⟨_,(19),(by first | rfl | (simp;done) | (simp [*];done)),H',⟨by first | omega | exact Nat.le_refl _⟩,by repeat (first | exact Drawn0.refl _ | apply Drawn0.step)⟩
   case rest =>
    clear HC4
    try clear c2
    try clear c2b0
    try clear c2b1
    try clear p2
    try clear q2
    try clear hx2
    try clear qi2
    try clear c3
    try clear c3b0
    try clear c3b1
    try clear c5
    try clear c5b0
    try clear c5b1
    try clear hx245_0
    try clear p245
    try clear q245
    obtain ⟨kq,x4_3,rfl,HA,HJ3,⟨mc3,rfl⟩⟩:=hcut
    cases kq with
    | zero => exact absurd HA.out (by simp [spec_l1lay.j0])
    | succ kj3 =>
     have H:=HA.out
     clear HA
     simp only [spec_l1lay.j0] at H
     by_cases c6 : (l0.length : Int) < x4_3
     ·rw [if_pos c6] at H
      have c6b0 : decide ((l0.length : Int) < x4_3) = true:=decide_eq_true c6
      clear c6
      simp only [Option.some.injEq,Prod.mk.injEq] at H
      obtain ⟨rfl,rfl⟩:=H
      go_wp2
      go_ret2
      exact ⟨by first | rfl | (simp;done) | (simp [*];done),by repeat (first | exact Drawn0.refl _ | apply Drawn0.step)⟩
     ·rw [if_neg c6] at H
      have c6b0 : decide ((l0.length : Int) < x4_3) = false:=decide_eq_false c6
      clear c6
      by_cases c7 : 12 < (l0.length : Int)
      ·rw [if_pos c7] at H
       have c7b0 : decide (12 < (l0.length : Int)) = true:=decide_eq_true c7
       have c7b1 : decide (12 < l0.length) = true:=decide_eq_true (by omega)
       clear c7
       have HC8:=Aside0.mk H
       clear H
       have p246 : 0 ≤ (12 : Int):=(by omega)
       have q246 : 12 < (l0.length : Int):=of_decide_eq_true (by first | (with_reducible assumption) | assumption)
       obtain ⟨ad246,e246,hx246_0⟩:=Kd.at_int HR0.out 12 p246 q246
       obtain rfl : ad245 = ad246:=(by injection e246)
       (try simp only [show (12 : Int).toNat = 12 from rfl,Nat.reduceMul,Nat.reduceEqDiff,Go.Addr.add, ↓reduceIte] at hx246_0)
       have qi246 : (12 < l0.length) = True:=eq_true (by omega)
       (try rw [show ((12 : Int)).toNat = 12 from rfl] at hx246_0)
       replace p246:=eq_true p246
       replace q246:=eq_true q246
       go_upto_if 24 with (fail)
       go_cut [5] (fun v5 wc => ∃ (kq : Nat) (x5_7 : Bool),v5 = .bool x5_7 ∧ Aside0 (spec_l1lay.j1 kq l0 x4_3 x5_7 = some (r1,r2)) ∧ Aside0 (kq ≤ kj3) ∧ Drawn0 w wc)
       case first =>
        have H:=HC8.out
        clear HC8
        by_cases c9 : x4_3 = 39
        ·rw [if_pos c9] at H
         have c9b0 : (x4_3 == 39) = true:=beq_iff_eq.mpr c9
         have c9b1 : (x4_3 != 39) = false:=bne_eq_false_iff_eq.mpr c9
         clear c9
         (first | rw [c9b0] | (simp only [i64_w,i32_w];rw [c9b0]) | skip)
         by_cases c10 : 32 < (l0.length : Int)
         ·rw [if_pos c10] at H
          have c10b0 : decide (32 < (l0.length : Int)) = true:=decide_eq_true c10
          have c10b1 : decide (32 < l0.length) = true:=decide_eq_true (by omega)
          clear c10
          have H':=Aside0.mk H
          clear H
          have p247 : 0 ≤ (32 : Int):=(by omega)
          have q247 : 32 < (l0.length : Int):=of_decide_eq_true (by first | (with_reducible assumption) | assumption)
          obtain ⟨ad247,e247,hx247_0⟩:=Kd.at_int HR0.out 32 p247 q247
          obtain rfl : ad245 = ad247:=(by injection e247)
          (try simp only [show (32 : Int).toNat = 32 from rfl,Nat.reduceMul,Nat.reduceEqDiff,Go.Addr.add, ↓reduceIte] at hx247_0)
          have qi247 : (32 < l0.length) = True:=eq_true (by omega)
          (try rw [show ((32 : Int)).toNat = 32 from rfl] at hx247_0)
          replace p247:=eq_true p247
          replace q247:=eq_true q247
          go_wp2
          go_meet
          case rel => exact ⟨_,(((rd l0 32) == 49)),(by first | rfl | (simp;done) | (simp [*];done)),H',⟨by have:=HJ3.out;first | omega | exact Nat.le_refl _⟩,by repeat (first | exact Drawn0.refl _ | apply Drawn0.step)⟩
         ·rw [if_neg c10] at H
          exact absurd H (by simp)
        ·rw [if_neg c9] at H
         have c9b0 : (x4_3 == 39) = false:=beq_eq_false_iff_ne.mpr c9
         have c9b1 : (x4_3 != 39) = true:=bne_iff_ne.mpr c9
         (first | rw [c9b0] | (simp only [i64_w,i32_w];rw [c9b0]) | skip)
         have H':=Aside0.mk H
         clear H
         go_wp2
         go_meet
         case rel => exact ⟨_,(((rd l0 12) == 49)),(by first | rfl | (simp;done) | (simp [*];done)),H',⟨by have:=HJ3.out;first | omega | exact Nat.le_refl _⟩,by repeat (first | exact Drawn0.refl _ | apply Drawn0.step)⟩
       case rest =>
        clear HC8
        try clear c1
        try clear c2
        try clear c2b0
        try clear c2b1
        try clear p2
        try clear q2
        try clear hx2
        try clear qi2
        try clear c3
        try clear c3b0
        try clear c3b1
        try clear c5
        try clear c5b0
        try clear c5b1
        try clear c6
        try clear c6b0
        try clear c7
        try clear c7b0
        try clear c7b1
        try clear c9
        try clear c9b0
        try clear c9b1
        try clear c10
        try clear c10b0
        try clear c10b1
        try clear hx245_0
        try clear hx246_0
        try clear hx247_0
        try clear p2
        try clear p245
        try clear p246
        try clear p247
        try clear q2
        try clear q245
        try clear q246
        try clear q247
        obtain ⟨kq,x5_7,rfl,HA,HJ7,⟨mc7,rfl⟩⟩:=hcut
        cases kq with
        | zero => exact absurd HA.out (by simp [spec_l1lay.j1])
        | succ kj7 =>
         have H:=HA.out
         clear HA
         simp only [spec_l1lay.j1] at H
         obtain ⟨ji11,hji11⟩ : ∃ j_ : Int,(wrap64 (x4_3 - 4)) = j_:=⟨_,rfl⟩
         replace H : (if 0 ≤ (ji11) then (if (ji11) ≤ x4_3 then (if x4_3 ≤ (l0.length : Int) then ((spec_l1val.f kj7 (strOfNums ((l0.take (x4_3 : Int).toNat).drop ((ji11) : Int).toNat))).bind fun t249 => (if t249 > 8 then (if x5_7 = true then (some (x4_3,wrap64 (x4_3 + (8 * 0)))) else (some (x4_3,wrap64 (x4_3 + (8 * 8))))) else (if x5_7 = true then (some (x4_3,wrap64 (x4_3 + (8 * 0)))) else (some (x4_3,wrap64 (x4_3 + (wrap64 (8 * t249)))))))) else (none)) else (none)) else (none)) = some (r1,r2):=by first | (rw [hji11] at H;exact H) | (simp only [hji11] at H ⊢;exact H)
         have hji11w : (IntKind.i64.wrap (x4_3 - 4)) = ji11:=(i64_w _).trans hji11
         by_cases c12 : 0 ≤ (ji11)
         ·rw [if_pos c12] at H
          have c12b0:=eq_true c12
          have c12b1 : decide (0 ≤ (ji11)) = true:=decide_eq_true c12
          clear c12
          by_cases c13 : (ji11) ≤ x4_3
          ·rw [if_pos c13] at H
           have c13b0:=eq_true c13
           have c13b1 : decide ((ji11) ≤ x4_3) = true:=decide_eq_true c13
           clear c13
           by_cases c14 : x4_3 ≤ (l0.length : Int)
           ·rw [if_pos c14] at H
            have c14b0:=eq_true c14
            have c14b1 : decide (x4_3 ≤ (l0.length : Int)) = true:=decide_eq_true c14
            clear c14
            replace H:=Option.bind_eq_some_iff.mp H
            obtain ⟨t249,A150,H⟩:=H
            replace H : (if t249 > 8 then (if x5_7 = true then (some (x4_3,wrap64 (x4_3 + (8 * 0)))) else (some (x4_3,wrap64 (x4_3 + (8 * 8))))) else (if x5_7 = true then (some (x4_3,wrap64 (x4_3 + (8 * 0)))) else (some (x4_3,wrap64 (x4_3 + (wrap64 (8 * t249))))))) = some (r1,r2):=H
            have A15:=Aside0.mk A150
            clear A150
            by_cases c16 : t249 > 8
            ·rw [if_pos c16] at H
             have c16b0 : decide (8 < t249) = true:=decide_eq_true c16
             clear c16
             by_cases c17 : x5_7 = true
             ·subst c17
              have H1 : (some (x4_3,wrap64 (x4_3 + (8 * 0)))) = some (r1,r2):=by rw [if_pos rfl] at H;exact H
              clear H
              have H:=H1
              clear H1
              simp only [Option.some.injEq,Prod.mk.injEq] at H
              obtain ⟨rfl,rfl⟩:=H
              obtain ⟨i018,hi018,_,hsz18,_⟩:=info_parts info5
              obtain ⟨A18,hcut18,hA18,hC18⟩:=print_mid_of (P:=Tryd.prog) (Value.int .u8) 0 23 5 .i64 .i64 Tryd.underlying23 hi018 hsz18 (some ad245) c0 l0 (ji11) x4_3 (of_decide_eq_true (by first | (with_reducible assumption) | assumption)) (by first | omega | exact of_decide_eq_true (by first | (with_reducible assumption) | assumption)) (of_decide_eq_true (by first | (with_reducible assumption) | assumption)) HC0.out
              have HR248:=Aside0.mk (Kd.C_of_reads (h1:=fun _ => rfl) (hA18 _ (Kd.reads_of_C HR0.out)))
              have HC248:=Aside0.mk hC18
              clear hA18 hC18 hi018 hsz18
              have hl19z : (List.drop ji11.toNat (List.take x4_3.toNat l0)).length = x4_3.toNat - ji11.toNat:=by rw [List.length_drop,List.length_take,Nat.min_eq_left (by have:=of_decide_eq_true c14b1;omega)]
              have hcv19:=Kd.C_string (w:=w.drewN mc7) (P:=Tryd.prog) (A:=A18) (c:=(c0 - (ji11).toNat)) Tryd.underlying23 Tryd.underlying5 Tryd.underlying9 HR248.out
              rw [hl19z] at hcv19
              clear hl19z
              go_wp2_with (first | ((with_reducible refine gate_callee (f:=69) rfl ?_);refine goesL_ (some 35) rfl rfl Tryd.func69 (by kernel_rfl) rfl #[.string (strOfNums ((l0.take (x4_3 : Int).toNat).drop ((ji11) : Int).toNat))] rfl (by (try simp only [List.map_toArray,List.map_cons,List.map_nil]);first | done | (simp only [hji11];rfl) | rfl | (simp only [List.length_drop,List.length_take];rfl)) ?_;(with_reducible refine (spec_l1val.calls kj7 (strOfNums ((l0.take (x4_3 : Int).toNat).drop ((ji11) : Int).toNat)) t249 _ A15.out).mono ?_);rintro e w' ⟨rfl,⟨nd,rfl⟩⟩;refine ⟨_,rfl, ?_⟩))
              go_ret2
              exact ⟨by first | rfl | (simp;done) | (simp only [← hji11] <;> (first | rfl | simp)) | (simp [*];done),by repeat (first | exact Drawn0.refl _ | apply Drawn0.step)⟩
             ·replace c17:=Bool.eq_false_iff.mpr c17
              subst c17
              have H1 : (some (x4_3,wrap64 (x4_3 + (8 * 8)))) = some (r1,r2):=by rw [if_neg (show ¬ (false = true) by decide)] at H;exact H
              clear H
              have H:=H1
              clear H1
              simp only [Option.some.injEq,Prod.mk.injEq] at H
              obtain ⟨rfl,rfl⟩:=H
              obtain ⟨i020,hi020,_,hsz20,_⟩:=info_parts info5
              obtain ⟨A20,hcut20,hA20,hC20⟩:=print_mid_of (P:=Tryd.prog) (Value.int .u8) 0 23 5 .i64 .i64 Tryd.underlying23 hi020 hsz20 (some ad245) c0 l0 (ji11) x4_3 (of_decide_eq_true (by first | (with_reducible assumption) | assumption)) (by first | omega | exact of_decide_eq_true (by first | (with_reducible assumption) | assumption)) (of_decide_eq_true (by first | (with_reducible assumption) | assumption)) HC0.out
              have HR248:=Aside0.mk (Kd.C_of_reads (h1:=fun _ => rfl) (hA20 _ (Kd.reads_of_C HR0.out)))
              have HC248:=Aside0.mk hC20
              clear hA20 hC20 hi020 hsz20
              have hl21z : (List.drop ji11.toNat (List.take x4_3.toNat l0)).length = x4_3.toNat - ji11.toNat:=by rw [List.length_drop,List.length_take,Nat.min_eq_left (by have:=of_decide_eq_true c14b1;omega)]
              have hcv21:=Kd.C_string (w:=w.drewN mc7) (P:=Tryd.prog) (A:=A20) (c:=(c0 - (ji11).toNat)) Tryd.underlying23 Tryd.underlying5 Tryd.underlying9 HR248.out
              rw [hl21z] at hcv21
              clear hl21z
              go_wp2_with (first | ((with_reducible refine gate_callee (f:=69) rfl ?_);refine goesL_ (some 35) rfl rfl Tryd.func69 (by kernel_rfl) rfl #[.string (strOfNums ((l0.take (x4_3 : Int).toNat).drop ((ji11) : Int).toNat))] rfl (by (try simp only [List.map_toArray,List.map_cons,List.map_nil]);first | done | (simp only [hji11];rfl) | rfl | (simp only [List.length_drop,List.length_take];rfl)) ?_;(with_reducible refine (spec_l1val.calls kj7 (strOfNums ((l0.take (x4_3 : Int).toNat).drop ((ji11) : Int).toNat)) t249 _ A15.out).mono ?_);rintro e w' ⟨rfl,⟨nd,rfl⟩⟩;refine ⟨_,rfl, ?_⟩))
              go_ret2
              exact ⟨by first | rfl | (simp;done) | (simp only [← hji11] <;> (first | rfl | simp)) | (simp [*];done),by repeat (first | exact Drawn0.refl _ | apply Drawn0.step)⟩
            ·rw [if_neg c16] at H
             have c16b0 : decide (8 < t249) = false:=decide_eq_false c16
             clear c16
             by_cases c22 : x5_7 = true
             ·subst c22
              have H1 : (some (x4_3,wrap64 (x4_3 + (8 * 0)))) = some (r1,r2):=by rw [if_pos rfl] at H;exact H
              clear H
              have H:=H1
              clear H1
              simp only [Option.some.injEq,Prod.mk.injEq] at H
              obtain ⟨rfl,rfl⟩:=H
              obtain ⟨i023,hi023,_,hsz23,_⟩:=info_parts info5
              obtain ⟨A23,hcut23,hA23,hC23⟩:=print_mid_of (P:=Tryd.prog) (Value.int .u8) 0 23 5 .i64 .i64 Tryd.underlying23 hi023 hsz23 (some ad245) c0 l0 (ji11) x4_3 (of_decide_eq_true (by first | (with_reducible assumption) | assumption)) (by first | omega | exact of_decide_eq_true (by first | (with_reducible assumption) | assumption)) (of_decide_eq_true (by first | (with_reducible assumption) | assumption)) HC0.out
              have HR248:=Aside0.mk (Kd.C_of_reads (h1:=fun _ => rfl) (hA23 _ (Kd.reads_of_C HR0.out)))
              have HC248:=Aside0.mk hC23
              clear hA23 hC23 hi023 hsz23
              have hl24z : (List.drop ji11.toNat (List.take x4_3.toNat l0)).length = x4_3.toNat - ji11.toNat:=by rw [List.length_drop,List.length_take,Nat.min_eq_left (by have:=of_decide_eq_true c14b1;omega)]
              have hcv24:=Kd.C_string (w:=w.drewN mc7) (P:=Tryd.prog) (A:=A23) (c:=(c0 - (ji11).toNat)) Tryd.underlying23 Tryd.underlying5 Tryd.underlying9 HR248.out
              rw [hl24z] at hcv24
              clear hl24z
              go_wp2_with (first | ((with_reducible refine gate_callee (f:=69) rfl ?_);refine goesL_ (some 35) rfl rfl Tryd.func69 (by kernel_rfl) rfl #[.string (strOfNums ((l0.take (x4_3 : Int).toNat).drop ((ji11) : Int).toNat))] rfl (by (try simp only [List.map_toArray,List.map_cons,List.map_nil]);first | done | (simp only [hji11];rfl) | rfl | (simp only [List.length_drop,List.length_take];rfl)) ?_;(with_reducible refine (spec_l1val.calls kj7 (strOfNums ((l0.take (x4_3 : Int).toNat).drop ((ji11) : Int).toNat)) t249 _ A15.out).mono ?_);rintro e w' ⟨rfl,⟨nd,rfl⟩⟩;refine ⟨_,rfl, ?_⟩))
              go_ret2
              exact ⟨by first | rfl | (simp;done) | (simp only [← hji11] <;> (first | rfl | simp)) | (simp [*];done),by repeat (first | exact Drawn0.refl _ | apply Drawn0.step)⟩
             ·replace c22:=Bool.eq_false_iff.mpr c22
              subst c22
              have H1 : (some (x4_3,wrap64 (x4_3 + (wrap64 (8 * t249))))) = some (r1,r2):=by rw [if_neg (show ¬ (false = true) by decide)] at H;exact H
              clear H
              have H:=H1
              clear H1
              simp only [Option.some.injEq,Prod.mk.injEq] at H
              obtain ⟨rfl,rfl⟩:=H
              obtain ⟨i025,hi025,_,hsz25,_⟩:=info_parts info5
              obtain ⟨A25,hcut25,hA25,hC25⟩:=print_mid_of (P:=Tryd.prog) (Value.int .u8) 0 23 5 .i64 .i64 Tryd.underlying23 hi025 hsz25 (some ad245) c0 l0 (ji11) x4_3 (of_decide_eq_true (by first | (with_reducible assumption) | assumption)) (by first | omega | exact of_decide_eq_true (by first | (with_reducible assumption) | assumption)) (of_decide_eq_true (by first | (with_reducible assumption) | assumption)) HC0.out
              have HR248:=Aside0.mk (Kd.C_of_reads (h1:=fun _ => rfl) (hA25 _ (Kd.reads_of_C HR0.out)))
              have HC248:=Aside0.mk hC25
              clear hA25 hC25 hi025 hsz25
              have hl26z : (List.drop ji11.toNat (List.take x4_3.toNat l0)).length = x4_3.toNat - ji11.toNat:=by rw [List.length_drop,List.length_take,Nat.min_eq_left (by have:=of_decide_eq_true c14b1;omega)]
              have hcv26:=Kd.C_string (w:=w.drewN mc7) (P:=Tryd.prog) (A:=A25) (c:=(c0 - (ji11).toNat)) Tryd.underlying23 Tryd.underlying5 Tryd.underlying9 HR248.out
              rw [hl26z] at hcv26
              clear hl26z
              go_wp2_with (first | ((with_reducible refine gate_callee (f:=69) rfl ?_);refine goesL_ (some 35) rfl rfl Tryd.func69 (by kernel_rfl) rfl #[.string (strOfNums ((l0.take (x4_3 : Int).toNat).drop ((ji11) : Int).toNat))] rfl (by (try simp only [List.map_toArray,List.map_cons,List.map_nil]);first | done | (simp only [hji11];rfl) | rfl | (simp only [List.length_drop,List.length_take];rfl)) ?_;(with_reducible refine (spec_l1val.calls kj7 (strOfNums ((l0.take (x4_3 : Int).toNat).drop ((ji11) : Int).toNat)) t249 _ A15.out).mono ?_);rintro e w' ⟨rfl,⟨nd,rfl⟩⟩;refine ⟨_,rfl, ?_⟩))
              go_ret2
              exact ⟨by first | rfl | (simp;done) | (simp only [← hji11] <;> (first | rfl | simp)) | (simp [*];done),by repeat (first | exact Drawn0.refl _ | apply Drawn0.step)⟩
           ·rw [if_neg c14] at H
            exact absurd H (by simp)
          ·rw [if_neg c13] at H
           exact absurd H (by simp)
         ·rw [if_neg c12] at H
          exact absurd H (by simp)
      ·rw [if_neg c7] at H
       exact absurd H (by simp)
  ·rw [if_neg c3] at H
   exact absurd H (by simp)
def spec_l1field.f (k : Nat) (l0 : List Int) : Option (Int):=if (l0.length : Int) = 0 then (some 1) else (if (l0.length : Int) < 12 then (some 2) else (if (l0.length : Int) = 12 then (some 3) else (if (l0.length : Int) = 13 then (some 4) else ((spec_l1lay.f k l0).bind fun bt250 => (if (l0.length : Int) < bt250.1 then (if (l0.length : Int) ≥ (wrap64 (bt250.1 - 4)) then (some 8) else (if bt250.1 = 19 then (some 7) else (if (l0.length : Int) < 32 then (some 5) else (if (l0.length : Int) = 32 then (some 6) else (some 7))))) else (if (l0.length : Int) < bt250.2 then (some 9) else (if (l0.length : Int) < (wrap64 (bt250.2 + 15)) then (some 10) else (if (l0.length : Int) < (wrap64 (bt250.2 + 18)) then (some (wrap64 ((wrap64 ((wrap64 (11 + (l0.length : Int))) - bt250.2)) - 15))) else (if (l0.length : Int) < (wrap64 (bt250.2 + 25)) then (some 14) else (some 15))))))))))
set_option maxHeartbeats 8000000 in
set_option maxRecDepth 100000 in
theorem spec_l1field.calls (k : Nat) (A0 : Option Addr) (c0 : Nat) (l0 : List Int) (r : Int) (w : World) (hr0 : Kd.C (Kd.int .u8) w A0 l0.length l0) (hc0 : l0.length ≤ c0) (h : spec_l1field.f k l0 = some r) :
  Calls Tryd.prog 46 #[.slice A0 l0.length c0] w fun e w' => e = .returned (.int .i64 r) ∧ Drawn0 w w':=by
 have HR0:=Aside0.mk hr0
 have HC0:=Aside0.mk hc0
 clear hr0 hc0
 have H : (if (l0.length : Int) = 0 then (some 1) else (if (l0.length : Int) < 12 then (some 2) else (if (l0.length : Int) = 12 then (some 3) else (if (l0.length : Int) = 13 then (some 4) else ((spec_l1lay.f k l0).bind fun bt250 => (if (l0.length : Int) < bt250.1 then (if (l0.length : Int) ≥ (wrap64 (bt250.1 - 4)) then (some 8) else (if bt250.1 = 19 then (some 7) else (if (l0.length : Int) < 32 then (some 5) else (if (l0.length : Int) = 32 then (some 6) else (some 7))))) else (if (l0.length : Int) < bt250.2 then (some 9) else (if (l0.length : Int) < (wrap64 (bt250.2 + 15)) then (some 10) else (if (l0.length : Int) < (wrap64 (bt250.2 + 18)) then (some (wrap64 ((wrap64 ((wrap64 (11 + (l0.length : Int))) - bt250.2)) - 15))) else (if (l0.length : Int) < (wrap64 (bt250.2 + 25)) then (some 14) else (some 15))))))))))) = some r:=h
 clear h
 by_cases c2 : (l0.length : Int) = 0
 ·rw [if_pos c2] at H
  have c2b0 : ((l0.length : Int) == 0) = true:=beq_iff_eq.mpr c2
  have c2b1 : ((l0.length : Int) != 0) = false:=bne_eq_false_iff_eq.mpr c2
  clear c2
  obtain rfl:=Option.some.inj H
  go_enter Tryd.func46,Tryd.ntmps46
  go_wp2
  go_ret
  exact ⟨by first | rfl | (simp;done) | (simp [*];done),by repeat (first | exact Drawn0.refl _ | apply Drawn0.step)⟩
 ·rw [if_neg c2] at H
  have c2b0 : ((l0.length : Int) == 0) = false:=beq_eq_false_iff_ne.mpr c2
  have c2b1 : ((l0.length : Int) != 0) = true:=bne_iff_ne.mpr c2
  have c2b2 : ¬ (l0 = []):=fun h_ => c2 (by rw [h_];rfl)
  by_cases c3 : (l0.length : Int) < 12
  ·rw [if_pos c3] at H
   have c3b0 : decide ((l0.length : Int) < 12) = true:=decide_eq_true c3
   have c3b1 : decide (l0.length < 12) = true:=decide_eq_true (by omega)
   clear c3
   obtain rfl:=Option.some.inj H
   go_enter Tryd.func46,Tryd.ntmps46
   go_wp2
   go_ret
   exact ⟨by first | rfl | (simp;done) | (simp [*];done),by repeat (first | exact Drawn0.refl _ | apply Drawn0.step)⟩
  ·rw [if_neg c3] at H
   have c3b0 : decide ((l0.length : Int) < 12) = false:=decide_eq_false c3
   have c3b1 : decide (l0.length < 12) = false:=decide_eq_false (by omega)
   clear c3
   by_cases c4 : (l0.length : Int) = 12
   ·rw [if_pos c4] at H
    have c4b0 : ((l0.length : Int) == 12) = true:=beq_iff_eq.mpr c4
    have c4b1 : ((l0.length : Int) != 12) = false:=bne_eq_false_iff_eq.mpr c4
    clear c4
    obtain rfl:=Option.some.inj H
    go_enter Tryd.func46,Tryd.ntmps46
    go_wp2
    go_ret
    exact ⟨by first | rfl | (simp;done) | (simp [*];done),by repeat (first | exact Drawn0.refl _ | apply Drawn0.step)⟩
   ·rw [if_neg c4] at H
    have c4b0 : ((l0.length : Int) == 12) = false:=beq_eq_false_iff_ne.mpr c4
    have c4b1 : ((l0.length : Int) != 12) = true:=bne_iff_ne.mpr c4
    by_cases c5 : (l0.length : Int) = 13
    ·rw [if_pos c5] at H
     have c5b0 : ((l0.length : Int) == 13) = true:=beq_iff_eq.mpr c5
     have c5b1 : ((l0.length : Int) != 13) = false:=bne_eq_false_iff_eq.mpr c5
     clear c5
     obtain rfl:=Option.some.inj H
     go_enter Tryd.func46,Tryd.ntmps46
     go_wp2
     go_ret
     exact ⟨by first | rfl | (simp;done) | (simp [*];done),by repeat (first | exact Drawn0.refl _ | apply Drawn0.step)⟩
    ·rw [if_neg c5] at H
     have c5b0 : ((l0.length : Int) == 13) = false:=beq_eq_false_iff_ne.mpr c5
     have c5b1 : ((l0.length : Int) != 13) = true:=bne_iff_ne.mpr c5
     replace H:=Option.bind_eq_some_iff.mp H
     obtain ⟨⟨t250,t251⟩,A60,H⟩:=H
     replace H : (if (l0.length : Int) < t250 then (if (l0.length : Int) ≥ (wrap64 (t250 - 4)) then (some 8) else (if t250 = 19 then (some 7) else (if (l0.length : Int) < 32 then (some 5) else (if (l0.length : Int) = 32 then (some 6) else (some 7))))) else (if (l0.length : Int) < t251 then (some 9) else (if (l0.length : Int) < (wrap64 (t251 + 15)) then (some 10) else (if (l0.length : Int) < (wrap64 (t251 + 18)) then (some (wrap64 ((wrap64 ((wrap64 (11 + (l0.length : Int))) - t251)) - 15))) else (if (l0.length : Int) < (wrap64 (t251 + 25)) then (some 14) else (some 15)))))) = some r:=H
     have A6:=Aside0.mk A60
     clear A60
     by_cases c7 : (l0.length : Int) < t250
     ·rw [if_pos c7] at H
      have c7b0 : decide ((l0.length : Int) < t250) = true:=decide_eq_true c7
      clear c7
      by_cases c8 : (l0.length : Int) ≥ (wrap64 (t250 - 4))
      ·rw [if_pos c8] at H
       have c8b0 : decide ((wrap64 (t250 - 4)) ≤ (l0.length : Int)) = true:=decide_eq_true c8
       clear c8
       obtain rfl:=Option.some.inj H
       go_enter Tryd.func46,Tryd.ntmps46
       go_wp2_with (first | ((with_reducible refine gate_callee (f:=67) rfl ?_);refine goesL_ (some 18) rfl rfl Tryd.func67 (by kernel_rfl) rfl #[.slice A0 l0.length c0] rfl (by (try simp only [List.map_toArray,List.map_cons,List.map_nil]);first | done | rfl | (simp only [List.length_drop,List.length_take];rfl)) ?_;(with_reducible refine (spec_l1lay.calls k _ _ l0 t250 t251 _ ?side1 ?side2 A6.out).mono ?_);(case side1 => repeat (first | exact HR0.out | (with_reducible refine Kd.C_alloc ?_ _) | (with_reducible refine Kd.C_drewN ?_ _) | (with_reducible refine Kd.C_drew ?_)));(case side2 => exact HC0.out);rintro e w' ⟨rfl,⟨nd,rfl⟩⟩;refine ⟨_,rfl, ?_⟩))
       go_ret
       exact ⟨by first | rfl | (simp;done) | (simp [*];done),by repeat (first | exact Drawn0.refl _ | apply Drawn0.step)⟩
      ·rw [if_neg c8] at H
       have c8b0 : decide ((wrap64 (t250 - 4)) ≤ (l0.length : Int)) = false:=decide_eq_false c8
       clear c8
       by_cases c9 : t250 = 19
       ·rw [if_pos c9] at H
        have c9b0 : (t250 == 19) = true:=beq_iff_eq.mpr c9
        have c9b1 : (t250 != 19) = false:=bne_eq_false_iff_eq.mpr c9
        clear c9
        obtain rfl:=Option.some.inj H
        go_enter Tryd.func46,Tryd.ntmps46
        go_wp2_with (first | ((with_reducible refine gate_callee (f:=67) rfl ?_);refine goesL_ (some 18) rfl rfl Tryd.func67 (by kernel_rfl) rfl #[.slice A0 l0.length c0] rfl (by (try simp only [List.map_toArray,List.map_cons,List.map_nil]);first | done | rfl | (simp only [List.length_drop,List.length_take];rfl)) ?_;(with_reducible refine (spec_l1lay.calls k _ _ l0 t250 t251 _ ?side1 ?side2 A6.out).mono ?_);(case side1 => repeat (first | exact HR0.out | (with_reducible refine Kd.C_alloc ?_ _) | (with_reducible refine Kd.C_drewN ?_ _) | (with_reducible refine Kd.C_drew ?_)));(case side2 => exact HC0.out);rintro e w' ⟨rfl,⟨nd,rfl⟩⟩;refine ⟨_,rfl, ?_⟩))
        go_ret
        exact ⟨by first | rfl | (simp;done) | (simp [*];done),by repeat (first | exact Drawn0.refl _ | apply Drawn0.step)⟩
       ·rw [if_neg c9] at H
        have c9b0 : (t250 == 19) = false:=beq_eq_false_iff_ne.mpr c9
        have c9b1 : (t250 != 19) = true:=bne_iff_ne.mpr c9
        by_cases c10 : (l0.length : Int) < 32
        ·rw [if_pos c10] at H
         have c10b0 : decide ((l0.length : Int) < 32) = true:=decide_eq_true c10
         have c10b1 : decide (l0.length < 32) = true:=decide_eq_true (by omega)
         clear c10
         obtain rfl:=Option.some.inj H
         go_enter Tryd.func46,Tryd.ntmps46
         go_wp2_with (first | ((with_reducible refine gate_callee (f:=67) rfl ?_);refine goesL_ (some 18) rfl rfl Tryd.func67 (by kernel_rfl) rfl #[.slice A0 l0.length c0] rfl (by (try simp only [List.map_toArray,List.map_cons,List.map_nil]);first | done | rfl | (simp only [List.length_drop,List.length_take];rfl)) ?_;(with_reducible refine (spec_l1lay.calls k _ _ l0 t250 t251 _ ?side1 ?side2 A6.out).mono ?_);(case side1 => repeat (first | exact HR0.out | (with_reducible refine Kd.C_alloc ?_ _) | (with_reducible refine Kd.C_drewN ?_ _) | (with_reducible refine Kd.C_drew ?_)));(case side2 => exact HC0.out);rintro e w' ⟨rfl,⟨nd,rfl⟩⟩;refine ⟨_,rfl, ?_⟩))
         go_ret
         exact ⟨by first | rfl | (simp;done) | (simp [*];done),by repeat (first | exact Drawn0.refl _ | apply Drawn0.step)⟩
        ·rw [if_neg c10] at H
         have c10b0 : decide ((l0.length : Int) < 32) = false:=decide_eq_false c10
         have c10b1 : decide (l0.length < 32) = false:=decide_eq_false (by omega)
         clear c10
         by_cases c11 : (l0.length : Int) = 32
         ·rw [if_pos c11] at H
          have c11b0 : ((l0.length : Int) == 32) = true:=beq_iff_eq.mpr c11
          have c11b1 : ((l0.length : Int) != 32) = false:=bne_eq_false_iff_eq.mpr c11
          clear c11
          obtain rfl:=Option.some.inj H
          go_enter Tryd.func46,Tryd.ntmps46
          go_wp2_with (first | ((with_reducible refine gate_callee (f:=67) rfl ?_);refine goesL_ (some 18) rfl rfl Tryd.func67 (by kernel_rfl) rfl #[.slice A0 l0.length c0] rfl (by (try simp only [List.map_toArray,List.map_cons,List.map_nil]);first | done | rfl | (simp only [List.length_drop,List.length_take];rfl)) ?_;(with_reducible refine (spec_l1lay.calls k _ _ l0 t250 t251 _ ?side1 ?side2 A6.out).mono ?_);(case side1 => repeat (first | exact HR0.out | (with_reducible refine Kd.C_alloc ?_ _) | (with_reducible refine Kd.C_drewN ?_ _) | (with_reducible refine Kd.C_drew ?_)));(case side2 => exact HC0.out);rintro e w' ⟨rfl,⟨nd,rfl⟩⟩;refine ⟨_,rfl, ?_⟩))
          go_ret
          exact ⟨by first | rfl | (simp;done) | (simp [*];done),by repeat (first | exact Drawn0.refl _ | apply Drawn0.step)⟩
         ·rw [if_neg c11] at H
          have c11b0 : ((l0.length : Int) == 32) = false:=beq_eq_false_iff_ne.mpr c11
          have c11b1 : ((l0.length : Int) != 32) = true:=bne_iff_ne.mpr c11
          obtain rfl:=Option.some.inj H
          go_enter Tryd.func46,Tryd.ntmps46
          go_wp2_with (first | ((with_reducible refine gate_callee (f:=67) rfl ?_);refine goesL_ (some 18) rfl rfl Tryd.func67 (by kernel_rfl) rfl #[.slice A0 l0.length c0] rfl (by (try simp only [List.map_toArray,List.map_cons,List.map_nil]);first | done | rfl | (simp only [List.length_drop,List.length_take];rfl)) ?_;(with_reducible refine (spec_l1lay.calls k _ _ l0 t250 t251 _ ?side1 ?side2 A6.out).mono ?_);(case side1 => repeat (first | exact HR0.out | (with_reducible refine Kd.C_alloc ?_ _) | (with_reducible refine Kd.C_drewN ?_ _) | (with_reducible refine Kd.C_drew ?_)));(case side2 => exact HC0.out);rintro e w' ⟨rfl,⟨nd,rfl⟩⟩;refine ⟨_,rfl, ?_⟩))
          go_ret
          exact ⟨by first | rfl | (simp;done) | (simp [*];done),by repeat (first | exact Drawn0.refl _ | apply Drawn0.step)⟩
     ·rw [if_neg c7] at H
      have c7b0 : decide ((l0.length : Int) < t250) = false:=decide_eq_false c7
      clear c7
      by_cases c12 : (l0.length : Int) < t251
      ·rw [if_pos c12] at H
       have c12b0 : decide ((l0.length : Int) < t251) = true:=decide_eq_true c12
       clear c12
       obtain rfl:=Option.some.inj H
       go_enter Tryd.func46,Tryd.ntmps46
       go_wp2_with (first | ((with_reducible refine gate_callee (f:=67) rfl ?_);refine goesL_ (some 18) rfl rfl Tryd.func67 (by kernel_rfl) rfl #[.slice A0 l0.length c0] rfl (by (try simp only [List.map_toArray,List.map_cons,List.map_nil]);first | done | rfl | (simp only [List.length_drop,List.length_take];rfl)) ?_;(with_reducible refine (spec_l1lay.calls k _ _ l0 t250 t251 _ ?side1 ?side2 A6.out).mono ?_);(case side1 => repeat (first | exact HR0.out | (with_reducible refine Kd.C_alloc ?_ _) | (with_reducible refine Kd.C_drewN ?_ _) | (with_reducible refine Kd.C_drew ?_)));(case side2 => exact HC0.out);rintro e w' ⟨rfl,⟨nd,rfl⟩⟩;refine ⟨_,rfl, ?_⟩))
       go_ret
       exact ⟨by first | rfl | (simp;done) | (simp [*];done),by repeat (first | exact Drawn0.refl _ | apply Drawn0.step)⟩
      ·rw [if_neg c12] at H
       have c12b0 : decide ((l0.length : Int) < t251) = false:=decide_eq_false c12
       clear c12
       by_cases c13 : (l0.length : Int) < (wrap64 (t251 + 15))
       ·rw [if_pos c13] at H
        have c13b0 : decide ((l0.length : Int) < (wrap64 (t251 + 15))) = true:=decide_eq_true c13
        clear c13
        obtain rfl:=Option.some.inj H
        go_enter Tryd.func46,Tryd.ntmps46
        go_wp2_with (first | ((with_reducible refine gate_callee (f:=67) rfl ?_);refine goesL_ (some 18) rfl rfl Tryd.func67 (by kernel_rfl) rfl #[.slice A0 l0.length c0] rfl (by (try simp only [List.map_toArray,List.map_cons,List.map_nil]);first | done | rfl | (simp only [List.length_drop,List.length_take];rfl)) ?_;(with_reducible refine (spec_l1lay.calls k _ _ l0 t250 t251 _ ?side1 ?side2 A6.out).mono ?_);(case side1 => repeat (first | exact HR0.out | (with_reducible refine Kd.C_alloc ?_ _) | (with_reducible refine Kd.C_drewN ?_ _) | (with_reducible refine Kd.C_drew ?_)));(case side2 => exact HC0.out);rintro e w' ⟨rfl,⟨nd,rfl⟩⟩;refine ⟨_,rfl, ?_⟩))
        go_ret
        exact ⟨by first | rfl | (simp;done) | (simp [*];done),by repeat (first | exact Drawn0.refl _ | apply Drawn0.step)⟩
       ·rw [if_neg c13] at H
        have c13b0 : decide ((l0.length : Int) < (wrap64 (t251 + 15))) = false:=decide_eq_false c13
        clear c13
        by_cases c14 : (l0.length : Int) < (wrap64 (t251 + 18))
        ·rw [if_pos c14] at H
         have c14b0 : decide ((l0.length : Int) < (wrap64 (t251 + 18))) = true:=decide_eq_true c14
         clear c14
         obtain rfl:=Option.some.inj H
         go_enter Tryd.func46,Tryd.ntmps46
         go_wp2_with (first | ((with_reducible refine gate_callee (f:=67) rfl ?_);refine goesL_ (some 18) rfl rfl Tryd.func67 (by kernel_rfl) rfl #[.slice A0 l0.length c0] rfl (by (try simp only [List.map_toArray,List.map_cons,List.map_nil]);first | done | rfl | (simp only [List.length_drop,List.length_take];rfl)) ?_;(with_reducible refine (spec_l1lay.calls k _ _ l0 t250 t251 _ ?side1 ?side2 A6.out).mono ?_);(case side1 => repeat (first | exact HR0.out | (with_reducible refine Kd.C_alloc ?_ _) | (with_reducible refine Kd.C_drewN ?_ _) | (with_reducible refine Kd.C_drew ?_)));(case side2 => exact HC0.out);rintro e w' ⟨rfl,⟨nd,rfl⟩⟩;refine ⟨_,rfl, ?_⟩))
         go_ret
         exact ⟨by first | rfl | (simp;done) | (simp [*];done),by repeat (first | exact Drawn0.refl _ | apply Drawn0.step)⟩
        ·rw [if_neg c14] at H
         have c14b0 : decide ((l0.length : Int) < (wrap64 (t251 + 18))) = false:=decide_eq_false c14
         clear c14
         by_cases c15 : (l0.length : Int) < (wrap64 (t251 + 25))
         ·rw [if_pos c15] at H
          have c15b0 : decide ((l0.length : Int) < (wrap64 (t251 + 25))) = true:=decide_eq_true c15
          clear c15
          obtain rfl:=Option.some.inj H
          go_enter Tryd.func46,Tryd.ntmps46
          go_wp2_with (first | ((with_reducible refine gate_callee (f:=67) rfl ?_);refine goesL_ (some 18) rfl rfl Tryd.func67 (by kernel_rfl) rfl #[.slice A0 l0.length c0] rfl (by (try simp only [List.map_toArray,List.map_cons,List.map_nil]);first | done | rfl | (simp only [List.length_drop,List.length_take];rfl)) ?_;(with_reducible refine (spec_l1lay.calls k _ _ l0 t250 t251 _ ?side1 ?side2 A6.out).mono ?_);(case side1 => repeat (first | exact HR0.out | (with_reducible refine Kd.C_alloc ?_ _) | (with_reducible refine Kd.C_drewN ?_ _) | (with_reducible refine Kd.C_drew ?_)));(case side2 => exact HC0.out);rintro e w' ⟨rfl,⟨nd,rfl⟩⟩;refine ⟨_,rfl, ?_⟩))
          go_ret
          exact ⟨by first | rfl | (simp;done) | (simp [*];done),by repeat (first | exact Drawn0.refl _ | apply Drawn0.step)⟩
         ·rw [if_neg c15] at H
          have c15b0 : decide ((l0.length : Int) < (wrap64 (t251 + 25))) = false:=decide_eq_false c15
          clear c15
          obtain rfl:=Option.some.inj H
          go_enter Tryd.func46,Tryd.ntmps46
          go_wp2_with (first | ((with_reducible refine gate_callee (f:=67) rfl ?_);refine goesL_ (some 18) rfl rfl Tryd.func67 (by kernel_rfl) rfl #[.slice A0 l0.length c0] rfl (by (try simp only [List.map_toArray,List.map_cons,List.map_nil]);first | done | rfl | (simp only [List.length_drop,List.length_take];rfl)) ?_;(with_reducible refine (spec_l1lay.calls k _ _ l0 t250 t251 _ ?side1 ?side2 A6.out).mono ?_);(case side1 => repeat (first | exact HR0.out | (with_reducible refine Kd.C_alloc ?_ _) | (with_reducible refine Kd.C_drewN ?_ _) | (with_reducible refine Kd.C_drew ?_)));(case side2 => exact HC0.out);rintro e w' ⟨rfl,⟨nd,rfl⟩⟩;refine ⟨_,rfl, ?_⟩))
          go_ret
          exact ⟨by first | rfl | (simp;done) | (simp [*];done),by repeat (first | exact Drawn0.refl _ | apply Drawn0.step)⟩
def spec_l1crcOk.j0 : Nat → List Int → Int → Bool → Option (Bool)
 | 0,_,_,_ => none
 | k + 1,x0,x4,x18 => if x18 = true then (some false) else (if 0 ≤ x4 then (if x4 ≤ (x0.length : Int) then ((spec_Crc15.f k (strOfNums (x0.take (x4 : Int).toNat))).bind fun t255 => (if x4 ≤ (wrap64 (x4 + 15)) then (if (wrap64 (x4 + 15)) ≤ (x0.length : Int) then ((spec_l1val.f k (strOfNums ((x0.take ((wrap64 (x4 + 15)) : Int).toNat).drop (x4 : Int).toNat))).bind fun t257 => (some (t255 == t257))) else (none)) else (none))) else (none)) else (none))
def spec_l1crcOk.f (k : Nat) (l0 : List Int) : Option (Bool):=(spec_l1lay.f k l0).bind fun bt252 => (if bt252.2 = 0 then (spec_l1crcOk.j0 k l0 bt252.2 true) else (spec_l1crcOk.j0 k l0 bt252.2 (decide ((l0.length : Int) < (wrap64 (bt252.2 + 15))))))
def spec_l1crcOk.T4 : Bool × List (List Nat × List Nat):=(true, [([], []),([], []),([0,1], [0,1]),([2], [2]),([3], [3]),([], []),([], []),([], []),([7], [7]),([5,6,8], [5,6,8]),([9], [9]),([10,4], [10]),([4,11], [4,11]),([12,11,0,1,2,3,4,5,6,7,8,9,10,11,12], [12])])
def spec_l1crcOk.B4 : List Nat := [0,0,3,7,15,0,0,0,128,480,992,2047,4095,8191]
theorem spec_l1crcOk.tab4 : rtab .any (opsOf Tryd.f47 4) = spec_l1crcOk.T4:=by kernel_rfl
theorem spec_l1crcOk.bits4 : waitsOk spec_l1crcOk.T4.2 spec_l1crcOk.B4 = true:=by kernel_rfl
set_option maxHeartbeats 8000000 in
set_option maxRecDepth 100000 in
theorem spec_l1crcOk.calls (k : Nat) (A0 : Option Addr) (c0 : Nat) (l0 : List Int) (r : Bool) (w : World) (hr0 : Kd.C (Kd.int .u8) w A0 l0.length l0) (hc0 : l0.length ≤ c0) (h : spec_l1crcOk.f k l0 = some r) :
  Calls Tryd.prog 47 #[.slice A0 l0.length c0] w fun e w' => e = .returned (.bool r) ∧ Below w.heap.size w w':=by
 have HR0:=Aside0.mk hr0
 have HC0:=Aside0.mk hc0
 clear hr0 hc0
 have HB:=Aside0.mk (Below.refl w.heap.size w)
 have H : ((spec_l1lay.f k l0).bind fun bt252 => (if bt252.2 = 0 then (spec_l1crcOk.j0 k l0 bt252.2 true) else (spec_l1crcOk.j0 k l0 bt252.2 (decide ((l0.length : Int) < (wrap64 (bt252.2 + 15))))))) = some r:=h
 clear h
 replace H:=Option.bind_eq_some_iff.mp H
 obtain ⟨⟨t252,t253⟩,A20,H⟩:=H
 replace H : (if t253 = 0 then (spec_l1crcOk.j0 k l0 t253 true) else (spec_l1crcOk.j0 k l0 t253 (decide ((l0.length : Int) < (wrap64 (t253 + 15)))))) = some r:=H
 have A2:=Aside0.mk A20
 clear A20
 have HC3:=Aside0.mk H
 clear H
 go_enter Tryd.func47,Tryd.ntmps47
 go_upto_region 2 with (first | ((with_reducible refine gate_callee (f:=67) rfl ?_);refine goesL_ (some 7) rfl rfl Tryd.func67 (by kernel_rfl) rfl #[.slice A0 l0.length c0] rfl (by (try simp only [List.map_toArray,List.map_cons,List.map_nil]);first | done | rfl | (simp only [List.length_drop,List.length_take];rfl)) ?_;(with_reducible refine (spec_l1lay.calls k _ _ l0 t252 t253 _ ?side1 ?side2 A2.out).mono ?_);(case side1 => repeat (first | exact HR0.out | (with_reducible refine Kd.C_alloc ?_ _) | (with_reducible refine Kd.C_drewN ?_ _) | (with_reducible refine Kd.C_drew ?_)));(case side2 => exact HC0.out);rintro e w' ⟨rfl,⟨nd,rfl⟩⟩;refine ⟨_,rfl, ?_⟩))
 (try simp only [Act.put,List.setIfInBounds_toArray,List.set_cons_zero,List.set_cons_succ])
 go_cut [18] (fun v18 wc => ∃ (kq : Nat) (x18_2 : Bool),v18 = .bool x18_2 ∧ Aside0 (spec_l1crcOk.j0 kq l0 t253 x18_2 = some r) ∧ Aside0 (kq ≤ k) ∧ Aside0 (Below w.heap.size w wc))
 case first =>
  have H:=HC3.out
  clear HC3
  by_cases c4 : t253 = 0
  ·rw [if_pos c4] at H
   have c4b0 : (t253 == 0) = true:=beq_iff_eq.mpr c4
   have c4b1 : (t253 != 0) = false:=bne_eq_false_iff_eq.mpr c4
   clear c4
   (first | rw [c4b0] | (simp only [i64_w,i32_w];rw [c4b0]) | skip)
   have H':=Aside0.mk H
   clear H
   go_wp2
   go_meet
   case rel => exact ⟨_,(true),(by first | rfl | (simp;done) | (simp [*];done)),H',⟨by first | omega | exact Nat.le_refl _⟩,⟨by repeat (first | (with_reducible first | exact HB.out | apply below_alloc | apply pw_below_drewN | apply below_drew1) | exact HB.out)⟩⟩
  ·rw [if_neg c4] at H
   have c4b0 : (t253 == 0) = false:=beq_eq_false_iff_ne.mpr c4
   have c4b1 : (t253 != 0) = true:=bne_iff_ne.mpr c4
   (first | rw [c4b0] | (simp only [i64_w,i32_w];rw [c4b0]) | skip)
   have H':=Aside0.mk H
   clear H
   go_wp2
   go_meet
   case rel => exact ⟨_,(decide ((l0.length : Int) < (wrap64 (t253 + 15)))),(by first | rfl | (simp;done) | (simp [*];done)),H',⟨by first | omega | exact Nat.le_refl _⟩,⟨by repeat (first | (with_reducible first | exact HB.out | apply below_alloc | apply pw_below_drewN | apply below_drew1) | exact HB.out)⟩⟩
 case rest =>
  clear HC3
  try clear p2
  try clear c4
  try clear c4b0
  try clear c4b1
  obtain ⟨kq,x18_2,rfl,HA,HJ2,HB⟩:=hcut
  cases kq with
  | zero => exact absurd HA.out (by simp [spec_l1crcOk.j0])
  | succ kj2 =>
   have H:=HA.out
   clear HA
   simp only [spec_l1crcOk.j0] at H
   by_cases c5 : x18_2 = true
   ·subst c5
    have H1 : (some false) = some r:=by rw [if_pos rfl] at H;exact H
    clear H
    have H:=H1
    clear H1
    obtain rfl:=Option.some.inj H
    go_wp2
    go_ret
    exact ⟨by first | rfl | (simp [errW_none,errW_some] <;> rfl) | (simp [*,errW_none,errW_some] <;> rfl),by repeat (first | (with_reducible first | exact HB.out | apply below_alloc | apply pw_below_drewN | apply below_drew1) | exact HB.out)⟩
   ·replace c5:=Bool.eq_false_iff.mpr c5
    subst c5
    have H1 : (if 0 ≤ t253 then (if t253 ≤ (l0.length : Int) then ((spec_Crc15.f kj2 (strOfNums (l0.take (t253 : Int).toNat))).bind fun t255 => (if t253 ≤ (wrap64 (t253 + 15)) then (if (wrap64 (t253 + 15)) ≤ (l0.length : Int) then ((spec_l1val.f kj2 (strOfNums ((l0.take ((wrap64 (t253 + 15)) : Int).toNat).drop (t253 : Int).toNat))).bind fun t257 => (some (t255 == t257))) else (none)) else (none))) else (none)) else (none)) = some r:=by rw [if_neg (show ¬ (false = true) by decide)] at H;exact H
    clear H
    have H:=H1
    clear H1
    by_cases c6 : 0 ≤ t253
    ·rw [if_pos c6] at H
     have c6b0:=eq_true c6
     have c6b1 : decide (0 ≤ t253) = true:=decide_eq_true c6
     clear c6
     by_cases c7 : t253 ≤ (l0.length : Int)
     ·rw [if_pos c7] at H
      have c7b0:=eq_true c7
      have c7b1 : decide (t253 ≤ (l0.length : Int)) = true:=decide_eq_true c7
      clear c7
      replace H:=Option.bind_eq_some_iff.mp H
      obtain ⟨t255,A80,H⟩:=H
      replace H : (if t253 ≤ (wrap64 (t253 + 15)) then (if (wrap64 (t253 + 15)) ≤ (l0.length : Int) then ((spec_l1val.f kj2 (strOfNums ((l0.take ((wrap64 (t253 + 15)) : Int).toNat).drop (t253 : Int).toNat))).bind fun t257 => (some (t255 == t257))) else (none)) else (none)) = some r:=H
      have A8:=Aside0.mk A80
      clear A80
      have c9b0:=eq_true (of_decide_eq_true (by first | (with_reducible assumption) | assumption) : 0 ≤ t253)
      by_cases c10 : t253 ≤ (wrap64 (t253 + 15))
      ·rw [if_pos c10] at H
       have c10b0:=eq_true c10
       have c10b1 : decide (t253 ≤ (wrap64 (t253 + 15))) = true:=decide_eq_true c10
       by_cases c11 : (wrap64 (t253 + 15)) ≤ (l0.length : Int)
       ·rw [if_pos c11] at H
        have c11b0:=eq_true c11
        have c11b1 : decide ((wrap64 (t253 + 15)) ≤ (l0.length : Int)) = true:=decide_eq_true c11
        replace H:=Option.bind_eq_some_iff.mp H
        obtain ⟨t257,A120,H⟩:=H
        replace H : (some (t255 == t257)) = some r:=H
        have A12:=Aside0.mk A120
        clear A120
        obtain rfl:=Option.some.inj H
        try go_wp2
        have n0_:=Aside0.mk (below_drew1 HB.out)
        clear HB
        have HB:=n0_
        clear n0_
        obtain ⟨i014,hi014,_,hsz14,_⟩:=info_parts info5
        obtain ⟨hcut14,hA14,hC14⟩:=print_take_of (P:=Tryd.prog) (Value.int .u8) 0 23 5 .i64 Tryd.underlying23 hi014 hsz14 A0 c0 l0 t253 (of_decide_eq_true (by first | (with_reducible assumption) | assumption)) (of_decide_eq_true (by first | (with_reducible assumption) | assumption)) HC0.out
        have HR254:=Aside0.mk (Kd.C_of_reads (h1:=fun _ => rfl) (hA14 _ (Kd.reads_of_C HR0.out)))
        have HC254:=Aside0.mk hC14
        clear hA14 hC14 hi014 hsz14
        obtain ⟨i015,hi015,_,hsz15,_⟩:=info_parts info5
        obtain ⟨A15,hcut15,hA15,hC15⟩:=print_mid_of (P:=Tryd.prog) (Value.int .u8) 0 23 5 .i64 .i64 Tryd.underlying23 hi015 hsz15 A0 c0 l0 t253 (wrap64 (t253 + 15)) (of_decide_eq_true (by first | (with_reducible assumption) | assumption)) (by first | omega | exact of_decide_eq_true (by first | (with_reducible assumption) | assumption)) (of_decide_eq_true (by first | (with_reducible assumption) | assumption)) HC0.out
        have HR256:=Aside0.mk (Kd.C_of_reads (h1:=fun _ => rfl) (hA15 _ (Kd.reads_of_C HR0.out)))
        have HC256:=Aside0.mk hC15
        clear hA15 hC15 hi015 hsz15
        have hlA : (l0.take t253.toNat).length = t253.toNat:=by rw [List.length_take,Nat.min_eq_left (by have:=of_decide_eq_true c7b1;omega)]
        have hlB : (List.drop t253.toNat (List.take (wrap64 (t253 + 15)).toNat l0)).length = (wrap64 (t253 + 15)).toNat - t253.toNat:=by rw [List.length_drop,List.length_take,Nat.min_eq_left (by omega)]
        have HCV : Aside0 (∀ W' : World,Below w.heap.size w W' → ((convert 23 9 (.slice A0 t253.toNat c0)).run Tryd.prog W' = .ok (.string (strOfNums (l0.take (t253 : Int).toNat))) W') ∧ ((convert 23 9 (.slice A15 ((wrap64 (t253 + 15)).toNat - t253.toNat) (c0 - t253.toNat))).run Tryd.prog W' = .ok (.string (strOfNums ((l0.take ((wrap64 (t253 + 15)) : Int).toNat).drop (t253 : Int).toNat))) W')):=Aside0.mk (fun W' hW => ⟨by have h:=Kd.C_string (P:=Tryd.prog) (w:=W') (A:=A0) (c:=c0) Tryd.underlying23 Tryd.underlying5 Tryd.underlying9 (Kd.C_below HR254.out hW);rw [hlA] at h;exact h,by have h:=Kd.C_string (P:=Tryd.prog) (w:=W') (A:=A15) (c:=(c0 - t253.toNat)) Tryd.underlying23 Tryd.underlying5 Tryd.underlying9 (Kd.C_below HR256.out hW);rw [hlB] at h;exact h⟩)
        clear hlA hlB
        refine start_ (n:=14) (S:=fun W' => ((convert 23 9 (.slice A0 t253.toNat c0)).run Tryd.prog W' = .ok (.string (strOfNums (l0.take (t253 : Int).toNat))) W') ∧ ((convert 23 9 (.slice A15 ((wrap64 (t253 + 15)).toNat - t253.toNat) (c0 - t253.toNat))).run Tryd.prog W' = .ok (.string (strOfNums ((l0.take ((wrap64 (t253 + 15)) : Int).toNat).drop (t253 : Int).toNat))) W')) (ds := []) #[false,false,false,false,false,false,false,false,false,false,false,false,false,false] (by kernel_rfl) rfl rfl (HCV.out _ HB.out) (fun hHeld => ?_);refine with_tabW spec_l1crcOk.tab4 spec_l1crcOk.bits4 (fun HT_ HW_ => ?_)
        generalize wc.drew = w13 at HB HR254 HR256 hHeld ⊢
        refine pure_ (i:=0) (N:=some 19) (v := ?_) (a' := ?_) #[true,false,false,false,false,false,false,false,false,false,false,false,false,false] rfl rfl (any_of HT_.out (by kernel_rfl)) (fun _ _ _ h => h) (Or.inl ⟨by rfl, ?_⟩) ?_ ?_
        rotate_left
        ·intro w'
         go_simp
         with_reducible rfl
        rotate_left
        ·simp only [Act.put,List.setIfInBounds_toArray,List.set_cons_zero,List.set_cons_succ,i64_w,i32_w]
         rfl
        refine pure_ (i:=1) (N:=some 20) (v := ?_) (a' := ?_) #[true,true,false,false,false,false,false,false,false,false,false,false,false,false] rfl rfl (any_of HT_.out (by kernel_rfl)) (fun _ _ _ h => h) (Or.inl ⟨by rfl, ?_⟩) ?_ ?_
        rotate_left
        ·intro w'
         go_simp
         with_reducible rfl
        rotate_left
        ·simp only [Act.put,List.setIfInBounds_toArray,List.set_cons_zero,List.set_cons_succ,i64_w,i32_w]
         rfl
        refine pure_ (i:=2) (N:=some 21) (v := ?_) (a' := ?_) #[true,true,true,false,false,false,false,false,false,false,false,false,false,false] rfl rfl (any_of HT_.out (by kernel_rfl)) (fun _ _ _ h => h) (Or.inl ⟨by rfl, ?_⟩) ?_ ?_
        rotate_left
        ·intro w'
         go_simp
         with_reducible rfl
        rotate_left
        ·simp only [Act.put,List.setIfInBounds_toArray,List.set_cons_zero,List.set_cons_succ,i64_w,i32_w]
         rfl
        refine take_ (i:=3) (N:=some 22) (v := ?_) (a' := ?_) #[true,true,true,true,false,false,false,false,false,false,false,false,false,false] rfl rfl (take_ofW HT_.out HW_.out (by kernel_rfl)) (fun _ _ _ h => h) (Or.inl ⟨by rfl, ?_⟩) hHeld ?_ ?_
        rotate_left
        ·intro w' s0
         obtain ⟨s1,s2⟩:=s0
         go_simp
         with_reducible rfl
        rotate_left
        ·simp only [Act.put,List.setIfInBounds_toArray,List.set_cons_zero,List.set_cons_succ,i64_w,i32_w]
         rfl
        refine pure_ (i:=5) (N:=some 24) (v := ?_) (a' := ?_) #[true,true,true,true,false,true,false,false,false,false,false,false,false,false] rfl rfl (any_of HT_.out (by kernel_rfl)) (fun _ _ _ h => h) (Or.inl ⟨by rfl, ?_⟩) ?_ ?_
        rotate_left
        ·intro w'
         go_simp
         with_reducible rfl
        rotate_left
        ·simp only [Act.put,List.setIfInBounds_toArray,List.set_cons_zero,List.set_cons_succ,i64_w,i32_w]
         rfl
        refine pure_ (i:=6) (N:=some 25) (v := ?_) (a' := ?_) #[true,true,true,true,false,true,true,false,false,false,false,false,false,false] rfl rfl (any_of HT_.out (by kernel_rfl)) (fun _ _ _ h => h) (Or.inl ⟨by rfl, ?_⟩) ?_ ?_
        rotate_left
        ·intro w'
         go_simp
         with_reducible rfl
        rotate_left
        ·simp only [Act.put,List.setIfInBounds_toArray,List.set_cons_zero,List.set_cons_succ,i64_w,i32_w]
         rfl
        refine pure_ (i:=7) (N:=some 26) (v := ?_) (a' := ?_) #[true,true,true,true,false,true,true,true,false,false,false,false,false,false] rfl rfl (any_of HT_.out (by kernel_rfl)) (fun _ _ _ h => h) (Or.inl ⟨by rfl, ?_⟩) ?_ ?_
        rotate_left
        ·intro w'
         go_simp
         with_reducible rfl
        rotate_left
        ·simp only [Act.put,List.setIfInBounds_toArray,List.set_cons_zero,List.set_cons_succ,i64_w,i32_w]
         rfl
        refine pure_ (i:=8) (N:=some 27) (v := ?_) (a' := ?_) #[true,true,true,true,false,true,true,true,true,false,false,false,false,false] rfl rfl (any_of HT_.out (by kernel_rfl)) (fun _ _ _ h => h) (Or.inl ⟨by rfl, ?_⟩) ?_ ?_
        rotate_left
        ·intro w'
         go_simp
         with_reducible rfl
        rotate_left
        ·simp only [Act.put,List.setIfInBounds_toArray,List.set_cons_zero,List.set_cons_succ,i64_w,i32_w]
         rfl
        refine pure_ (i:=9) (N:=some 28) (v := ?_) (a' := ?_) #[true,true,true,true,false,true,true,true,true,true,false,false,false,false] rfl rfl (any_of HT_.out (by kernel_rfl)) (fun _ _ _ h => h) (Or.inl ⟨by rfl, ?_⟩) ?_ ?_
        rotate_left
        ·intro w'
         go_simp
         with_reducible rfl
        rotate_left
        ·simp only [Act.put,List.setIfInBounds_toArray,List.set_cons_zero,List.set_cons_succ,i64_w,i32_w]
         rfl
        refine take_ (i:=10) (N:=some 29) (v := ?_) (a' := ?_) #[true,true,true,true,false,true,true,true,true,true,true,false,false,false] rfl rfl (take_ofW HT_.out HW_.out (by kernel_rfl)) (fun _ _ _ h => h) (Or.inl ⟨by rfl, ?_⟩) hHeld ?_ ?_
        rotate_left
        ·intro w' s0
         obtain ⟨s1,s2⟩:=s0
         go_simp
         with_reducible rfl
        rotate_left
        ·simp only [Act.put,List.setIfInBounds_toArray,List.set_cons_zero,List.set_cons_succ,i64_w,i32_w]
         rfl
        refine one_ (i:=4) (N:=some 23) #[true,true,true,true,true,true,true,true,true,true,true,false,false,false] rfl rfl (one_of HT_.out (by kernel_rfl)) (by decide) (fun K hK => ?_)
        refine goes_ Tryd.func68 (by kernel_rfl) rfl #[.string (strOfNums (l0.take (t253 : Int).toNat))] (by rfl) rfl rfl (by (try simp only [List.map_toArray,List.map_cons,List.map_nil]);first | done | rfl | (simp only [List.length_drop,List.length_take];rfl)) ?_
        with_reducible refine (spec_Crc15.calls kj2 (strOfNums (l0.take (t253 : Int).toNat)) t255 _ A8.out).mono ?_
        rintro e w17 ⟨rfl,hb⟩
        refine ⟨_,rfl, ?_⟩
        have n0_:=Aside0.mk (below_step (by repeat (first | (with_reducible first | exact HB.out | apply below_alloc | apply pw_below_drewN | apply below_drew1) | exact HB.out)) hb)
        clear HB
        have HB:=n0_
        clear n0_
        (try clear hb)
        (try clear hb2)
        (try clear hk)
        (try clear hi)
        refine hK.out _ _ (HCV.out _ (by first | exact HB.out | exact pw_below_drewN HB.out _)) (fun hHeld => ?_)
        clear hK K
        refine norm_ (a' := ?_) ?_ ?_
        rotate_left
        ·show Act.put _ (some 23) _ = _
         simp only [Act.put,List.setIfInBounds_toArray,List.set_cons_zero,List.set_cons_succ,i64_w,i32_w]
         rfl
        refine one_ (i:=11) (N:=some 30) #[true,true,true,true,true,true,true,true,true,true,true,true,false,false] rfl rfl (one_of HT_.out (by kernel_rfl)) (by decide) (fun K hK => ?_)
        refine goes_ Tryd.func69 (by kernel_rfl) rfl #[.string (strOfNums ((l0.take ((wrap64 (t253 + 15)) : Int).toNat).drop (t253 : Int).toNat))] (by rfl) rfl rfl (by (try simp only [List.map_toArray,List.map_cons,List.map_nil]);first | done | rfl | (simp only [List.length_drop,List.length_take];rfl)) ?_
        with_reducible refine (spec_l1val.calls kj2 (strOfNums ((l0.take ((wrap64 (t253 + 15)) : Int).toNat).drop (t253 : Int).toNat)) t257 _ A12.out).mono ?_
        rintro e w' ⟨rfl,⟨nd,rfl⟩⟩
        refine ⟨_,rfl, ?_⟩
        refine hK.out _ _ (HCV.out _ (by first | exact HB.out | exact pw_below_drewN HB.out _)) (fun hHeld => ?_)
        clear hK K
        refine norm_ (a' := ?_) ?_ ?_
        rotate_left
        ·show Act.put _ (some 30) _ = _
         simp only [Act.put,List.setIfInBounds_toArray,List.set_cons_zero,List.set_cons_succ,i64_w,i32_w]
         rfl
        refine pure_ (i:=12) (N:=some 31) (v := ?_) (a' := ?_) #[true,true,true,true,true,true,true,true,true,true,true,true,true,false] rfl rfl (any_of HT_.out (by kernel_rfl)) (fun _ _ _ h => h) (Or.inl ⟨by rfl, ?_⟩) ?_ ?_
        rotate_left
        ·intro w'
         go_simp
         with_reducible rfl
        rotate_left
        ·simp only [Act.put,List.setIfInBounds_toArray,List.set_cons_zero,List.set_cons_succ,i64_w,i32_w]
         rfl
        refine pure_ (i:=13) (N:=some 2) (v := ?_) (a' := ?_) #[true,true,true,true,true,true,true,true,true,true,true,true,true,true] rfl rfl (any_of HT_.out (by kernel_rfl)) (fun _ _ _ h => h) (Or.inl ⟨by rfl, ?_⟩) ?_ ?_
        rotate_left
        ·intro w'
         go_simp
         with_reducible rfl
        rotate_left
        ·simp only [Act.put,List.setIfInBounds_toArray,List.set_cons_zero,List.set_cons_succ,i64_w,i32_w]
         rfl
        refine done_ (done_of HT_.out (by kernel_rfl)) ?_
        try go_wp2
        go_ret
        exact ⟨by first | rfl | (simp [errW_none,errW_some] <;> rfl) | (simp [*,errW_none,errW_some] <;> rfl),by repeat (first | (with_reducible first | exact HB.out | apply below_alloc | apply pw_below_drewN | apply below_drew1) | exact HB.out)⟩
       ·rw [if_neg c11] at H
        exact absurd H (by simp)
      ·rw [if_neg c10] at H
       exact absurd H (by simp)
     ·rw [if_neg c7] at H
      exact absurd H (by simp)
    ·rw [if_neg c6] at H
     exact absurd H (by simp)
mutual
def spec_l1look.j0 : Nat → Int → Int → Bool → Option (Int)
 | 0,_,_,_ => none
 | k + 1,x1,x7,x42 => if x42 = true then (some 4) else (if x7 = 5 then (some 1) else (if x7 = 6 then (spec_l1look.j1 k x7 (x1 == 48)) else (spec_l1look.j1 k x7 false)))
def spec_l1look.j1 : Nat → Int → Bool → Option (Int)
 | 0,_,_ => none
 | k + 1,x7,x50 => if x50 = true then (some 6) else (if x7 = 6 then (some 2) else (some 0))
end
def spec_l1look.f (k : Nat) (l0 : List Int) (a1 : Int) : Option (Int):=(spec_l1field.f k l0).bind fun t258 => (if t258 = 1 then (if a1 = 49 then (some 4) else (some 0)) else (if t258 = 11 then (if a1 = 48 then (some 4) else (some 0)) else (if t258 = 13 then (if a1 = 48 then (some 4) else ((spec_l1crcOk.f k l0).bind fun t259 => (if t259 = true then (some 0) else (some 5)))) else (if t258 = 14 then ((spec_l1lay.f k l0).bind fun bt260 => (if (wrap64 ((wrap64 ((l0.length : Int) - bt260.2)) - 18)) < 6 then (spec_l1look.j0 k a1 (wrap64 ((wrap64 ((l0.length : Int) - bt260.2)) - 18)) (a1 == 48)) else (spec_l1look.j0 k a1 (wrap64 ((wrap64 ((l0.length : Int) - bt260.2)) - 18)) false))) else (some 0)))))
set_option maxHeartbeats 8000000 in
set_option maxRecDepth 100000 in
theorem spec_l1look.calls (k : Nat) (A0 : Option Addr) (c0 : Nat) (l0 : List Int) (a1 : Int) (r : Int) (w : World) (hr0 : Kd.C (Kd.int .u8) w A0 l0.length l0) (hc0 : l0.length ≤ c0) (h : spec_l1look.f k l0 a1 = some r) :
  Calls Tryd.prog 65 #[.slice A0 l0.length c0, .int .u8 a1] w fun e w' => e = .returned (.int .i64 r) ∧ Below w.heap.size w w':=by
 have HR0:=Aside0.mk hr0
 have HC0:=Aside0.mk hc0
 clear hr0 hc0
 have HB:=Aside0.mk (Below.refl w.heap.size w)
 have H : ((spec_l1field.f k l0).bind fun t258 => (if t258 = 1 then (if a1 = 49 then (some 4) else (some 0)) else (if t258 = 11 then (if a1 = 48 then (some 4) else (some 0)) else (if t258 = 13 then (if a1 = 48 then (some 4) else ((spec_l1crcOk.f k l0).bind fun t259 => (if t259 = true then (some 0) else (some 5)))) else (if t258 = 14 then ((spec_l1lay.f k l0).bind fun bt260 => (if (wrap64 ((wrap64 ((l0.length : Int) - bt260.2)) - 18)) < 6 then (spec_l1look.j0 k a1 (wrap64 ((wrap64 ((l0.length : Int) - bt260.2)) - 18)) (a1 == 48)) else (spec_l1look.j0 k a1 (wrap64 ((wrap64 ((l0.length : Int) - bt260.2)) - 18)) false))) else (some 0)))))) = some r:=h
 clear h
 replace H:=Option.bind_eq_some_iff.mp H
 obtain ⟨t258,A30,H⟩:=H
 replace H : (if t258 = 1 then (if a1 = 49 then (some 4) else (some 0)) else (if t258 = 11 then (if a1 = 48 then (some 4) else (some 0)) else (if t258 = 13 then (if a1 = 48 then (some 4) else ((spec_l1crcOk.f k l0).bind fun t259 => (if t259 = true then (some 0) else (some 5)))) else (if t258 = 14 then ((spec_l1lay.f k l0).bind fun bt260 => (if (wrap64 ((wrap64 ((l0.length : Int) - bt260.2)) - 18)) < 6 then (spec_l1look.j0 k a1 (wrap64 ((wrap64 ((l0.length : Int) - bt260.2)) - 18)) (a1 == 48)) else (spec_l1look.j0 k a1 (wrap64 ((wrap64 ((l0.length : Int) - bt260.2)) - 18)) false))) else (some 0))))) = some r:=H
 have A3:=Aside0.mk A30
 clear A30
 by_cases c4 : t258 = 1
 ·rw [if_pos c4] at H
  have c4b0 : (t258 == 1) = true:=beq_iff_eq.mpr c4
  have c4b1 : (t258 != 1) = false:=bne_eq_false_iff_eq.mpr c4
  clear c4
  by_cases c5 : a1 = 49
  ·rw [if_pos c5] at H
   have c5b0 : (a1 == 49) = true:=beq_iff_eq.mpr c5
   have c5b1 : (a1 != 49) = false:=bne_eq_false_iff_eq.mpr c5
   clear c5
   obtain rfl:=Option.some.inj H
   go_enter Tryd.func65,Tryd.ntmps65
   go_wp2_with (first | ((with_reducible refine gate_callee (f:=46) rfl ?_);refine goesL_ (some 9) rfl rfl Tryd.func46 (by kernel_rfl) rfl #[.slice A0 l0.length c0] rfl (by (try simp only [List.map_toArray,List.map_cons,List.map_nil]);first | done | rfl | (simp only [List.length_drop,List.length_take];rfl)) ?_;(with_reducible refine (spec_l1field.calls k _ _ l0 t258 _ ?side1 ?side2 A3.out).mono ?_);(case side1 => repeat (first | exact HR0.out | (with_reducible refine Kd.C_alloc ?_ _) | (with_reducible refine Kd.C_drewN ?_ _) | (with_reducible refine Kd.C_drew ?_)));(case side2 => exact HC0.out);rintro e w' ⟨rfl,⟨nd,rfl⟩⟩;refine ⟨_,rfl, ?_⟩))
   go_ret
   exact ⟨by first | rfl | (simp [errW_none,errW_some] <;> rfl) | (simp [*,errW_none,errW_some] <;> rfl),by repeat (first | (with_reducible first | exact HB.out | apply below_alloc | apply pw_below_drewN | apply below_drew1) | exact HB.out)⟩
  ·rw [if_neg c5] at H
   have c5b0 : (a1 == 49) = false:=beq_eq_false_iff_ne.mpr c5
   have c5b1 : (a1 != 49) = true:=bne_iff_ne.mpr c5
   obtain rfl:=Option.some.inj H
   go_enter Tryd.func65,Tryd.ntmps65
   go_wp2_with (first | ((with_reducible refine gate_callee (f:=46) rfl ?_);refine goesL_ (some 9) rfl rfl Tryd.func46 (by kernel_rfl) rfl #[.slice A0 l0.length c0] rfl (by (try simp only [List.map_toArray,List.map_cons,List.map_nil]);first | done | rfl | (simp only [List.length_drop,List.length_take];rfl)) ?_;(with_reducible refine (spec_l1field.calls k _ _ l0 t258 _ ?side1 ?side2 A3.out).mono ?_);(case side1 => repeat (first | exact HR0.out | (with_reducible refine Kd.C_alloc ?_ _) | (with_reducible refine Kd.C_drewN ?_ _) | (with_reducible refine Kd.C_drew ?_)));(case side2 => exact HC0.out);rintro e w' ⟨rfl,⟨nd,rfl⟩⟩;refine ⟨_,rfl, ?_⟩))
   go_ret
   exact ⟨by first | rfl | (simp [errW_none,errW_some] <;> rfl) | (simp [*,errW_none,errW_some] <;> rfl),by repeat (first | (with_reducible first | exact HB.out | apply below_alloc | apply pw_below_drewN | apply below_drew1) | exact HB.out)⟩
 ·rw [if_neg c4] at H
  have c4b0 : (t258 == 1) = false:=beq_eq_false_iff_ne.mpr c4
  have c4b1 : (t258 != 1) = true:=bne_iff_ne.mpr c4
  by_cases c6 : t258 = 11
  ·rw [if_pos c6] at H
   have c6b0 : (t258 == 11) = true:=beq_iff_eq.mpr c6
   have c6b1 : (t258 != 11) = false:=bne_eq_false_iff_eq.mpr c6
   clear c6
   by_cases c7 : a1 = 48
   ·rw [if_pos c7] at H
    have c7b0 : (a1 == 48) = true:=beq_iff_eq.mpr c7
    have c7b1 : (a1 != 48) = false:=bne_eq_false_iff_eq.mpr c7
    clear c7
    obtain rfl:=Option.some.inj H
    go_enter Tryd.func65,Tryd.ntmps65
    go_wp2_with (first | ((with_reducible refine gate_callee (f:=46) rfl ?_);refine goesL_ (some 9) rfl rfl Tryd.func46 (by kernel_rfl) rfl #[.slice A0 l0.length c0] rfl (by (try simp only [List.map_toArray,List.map_cons,List.map_nil]);first | done | rfl | (simp only [List.length_drop,List.length_take];rfl)) ?_;(with_reducible refine (spec_l1field.calls k _ _ l0 t258 _ ?side1 ?side2 A3.out).mono ?_);(case side1 => repeat (first | exact HR0.out | (with_reducible refine Kd.C_alloc ?_ _) | (with_reducible refine Kd.C_drewN ?_ _) | (with_reducible refine Kd.C_drew ?_)));(case side2 => exact HC0.out);rintro e w' ⟨rfl,⟨nd,rfl⟩⟩;refine ⟨_,rfl, ?_⟩))
    go_ret
    exact ⟨by first | rfl | (simp [errW_none,errW_some] <;> rfl) | (simp [*,errW_none,errW_some] <;> rfl),by repeat (first | (with_reducible first | exact HB.out | apply below_alloc | apply pw_below_drewN | apply below_drew1) | exact HB.out)⟩
   ·rw [if_neg c7] at H
    have c7b0 : (a1 == 48) = false:=beq_eq_false_iff_ne.mpr c7
    have c7b1 : (a1 != 48) = true:=bne_iff_ne.mpr c7
    obtain rfl:=Option.some.inj H
    go_enter Tryd.func65,Tryd.ntmps65
    go_wp2_with (first | ((with_reducible refine gate_callee (f:=46) rfl ?_);refine goesL_ (some 9) rfl rfl Tryd.func46 (by kernel_rfl) rfl #[.slice A0 l0.length c0] rfl (by (try simp only [List.map_toArray,List.map_cons,List.map_nil]);first | done | rfl | (simp only [List.length_drop,List.length_take];rfl)) ?_;(with_reducible refine (spec_l1field.calls k _ _ l0 t258 _ ?side1 ?side2 A3.out).mono ?_);(case side1 => repeat (first | exact HR0.out | (with_reducible refine Kd.C_alloc ?_ _) | (with_reducible refine Kd.C_drewN ?_ _) | (with_reducible refine Kd.C_drew ?_)));(case side2 => exact HC0.out);rintro e w' ⟨rfl,⟨nd,rfl⟩⟩;refine ⟨_,rfl, ?_⟩))
    go_ret
    exact ⟨by first | rfl | (simp [errW_none,errW_some] <;> rfl) | (simp [*,errW_none,errW_some] <;> rfl),by repeat (first | (with_reducible first | exact HB.out | apply below_alloc | apply pw_below_drewN | apply below_drew1) | exact HB.out)⟩
  ·rw [if_neg c6] at H
   have c6b0 : (t258 == 11) = false:=beq_eq_false_iff_ne.mpr c6
   have c6b1 : (t258 != 11) = true:=bne_iff_ne.mpr c6
   by_cases c8 : t258 = 13
   ·rw [if_pos c8] at H
    have c8b0 : (t258 == 13) = true:=beq_iff_eq.mpr c8
    have c8b1 : (t258 != 13) = false:=bne_eq_false_iff_eq.mpr c8
    clear c8
    by_cases c9 : a1 = 48
    ·rw [if_pos c9] at H
     have c9b0 : (a1 == 48) = true:=beq_iff_eq.mpr c9
     have c9b1 : (a1 != 48) = false:=bne_eq_false_iff_eq.mpr c9
     clear c9
     obtain rfl:=Option.some.inj H
     go_enter Tryd.func65,Tryd.ntmps65
     go_wp2_with (first | ((with_reducible refine gate_callee (f:=46) rfl ?_);refine goesL_ (some 9) rfl rfl Tryd.func46 (by kernel_rfl) rfl #[.slice A0 l0.length c0] rfl (by (try simp only [List.map_toArray,List.map_cons,List.map_nil]);first | done | rfl | (simp only [List.length_drop,List.length_take];rfl)) ?_;(with_reducible refine (spec_l1field.calls k _ _ l0 t258 _ ?side1 ?side2 A3.out).mono ?_);(case side1 => repeat (first | exact HR0.out | (with_reducible refine Kd.C_alloc ?_ _) | (with_reducible refine Kd.C_drewN ?_ _) | (with_reducible refine Kd.C_drew ?_)));(case side2 => exact HC0.out);rintro e w' ⟨rfl,⟨nd,rfl⟩⟩;refine ⟨_,rfl, ?_⟩))
     go_ret
     exact ⟨by first | rfl | (simp [errW_none,errW_some] <;> rfl) | (simp [*,errW_none,errW_some] <;> rfl),by repeat (first | (with_reducible first | exact HB.out | apply below_alloc | apply pw_below_drewN | apply below_drew1) | exact HB.out)⟩
    ·rw [if_neg c9] at H
     have c9b0 : (a1 == 48) = false:=beq_eq_false_iff_ne.mpr c9
     have c9b1 : (a1 != 48) = true:=bne_iff_ne.mpr c9
     replace H:=Option.bind_eq_some_iff.mp H
     obtain ⟨t259,A100,H⟩:=H
     replace H : (if t259 = true then (some 0) else (some 5)) = some r:=H
     have A10:=Aside0.mk A100
     clear A100
     by_cases c11 : t259 = true
     ·subst c11
      have H1 : (some 0) = some r:=by rw [if_pos rfl] at H;exact H
      clear H
      have H:=H1
      clear H1
      obtain rfl:=Option.some.inj H
      go_enter Tryd.func65,Tryd.ntmps65
      go_wp2_with (first | ((with_reducible refine gate_callee (f:=46) rfl ?_);refine goesL_ (some 9) rfl rfl Tryd.func46 (by kernel_rfl) rfl #[.slice A0 l0.length c0] rfl (by (try simp only [List.map_toArray,List.map_cons,List.map_nil]);first | done | rfl | (simp only [List.length_drop,List.length_take];rfl)) ?_;(with_reducible refine (spec_l1field.calls k _ _ l0 t258 _ ?side1 ?side2 A3.out).mono ?_);(case side1 => repeat (first | exact HR0.out | (with_reducible refine Kd.C_alloc ?_ _) | (with_reducible refine Kd.C_drewN ?_ _) | (with_reducible refine Kd.C_drew ?_)));(case side2 => exact HC0.out);rintro e w' ⟨rfl,⟨nd,rfl⟩⟩;refine ⟨_,rfl, ?_⟩) | ((with_reducible refine gate_callee (f:=47) rfl ?_);refine goesL_ (some 23) rfl rfl Tryd.func47 (by kernel_rfl) rfl #[.slice A0 l0.length c0] rfl (by (try simp only [List.map_toArray,List.map_cons,List.map_nil]);first | done | rfl | (simp only [List.length_drop,List.length_take];rfl)) ?_;(with_reducible refine (spec_l1crcOk.calls k _ _ l0 true _ ?side1 ?side2 A10.out).mono ?_);(case side1 => repeat (first | exact HR0.out | (with_reducible refine Kd.C_alloc ?_ _) | (with_reducible refine Kd.C_drewN ?_ _) | (with_reducible refine Kd.C_drew ?_)));(case side2 => exact HC0.out);rintro e w12 ⟨rfl,hb⟩;refine ⟨_,rfl, ?_⟩;have n0_:=Aside0.mk (below_step (by repeat (first | (with_reducible first | exact HB.out | apply below_alloc | apply pw_below_drewN | apply below_drew1) | exact HB.out)) hb);clear HB;have HB:=n0_;clear n0_;(try clear hb);(try clear hb2);(try clear hk);(try clear hi)))
      go_ret
      exact ⟨by first | rfl | (simp [errW_none,errW_some] <;> rfl) | (simp [*,errW_none,errW_some] <;> rfl),by repeat (first | (with_reducible first | exact HB.out | apply below_alloc | apply pw_below_drewN | apply below_drew1) | exact HB.out)⟩
     ·replace c11:=Bool.eq_false_iff.mpr c11
      subst c11
      have H1 : (some 5) = some r:=by rw [if_neg (show ¬ (false = true) by decide)] at H;exact H
      clear H
      have H:=H1
      clear H1
      obtain rfl:=Option.some.inj H
      go_enter Tryd.func65,Tryd.ntmps65
      go_wp2_with (first | ((with_reducible refine gate_callee (f:=46) rfl ?_);refine goesL_ (some 9) rfl rfl Tryd.func46 (by kernel_rfl) rfl #[.slice A0 l0.length c0] rfl (by (try simp only [List.map_toArray,List.map_cons,List.map_nil]);first | done | rfl | (simp only [List.length_drop,List.length_take];rfl)) ?_;(with_reducible refine (spec_l1field.calls k _ _ l0 t258 _ ?side1 ?side2 A3.out).mono ?_);(case side1 => repeat (first | exact HR0.out | (with_reducible refine Kd.C_alloc ?_ _) | (with_reducible refine Kd.C_drewN ?_ _) | (with_reducible refine Kd.C_drew ?_)));(case side2 => exact HC0.out);rintro e w' ⟨rfl,⟨nd,rfl⟩⟩;refine ⟨_,rfl, ?_⟩) | ((with_reducible refine gate_callee (f:=47) rfl ?_);refine goesL_ (some 23) rfl rfl Tryd.func47 (by kernel_rfl) rfl #[.slice A0 l0.length c0] rfl (by (try simp only [List.map_toArray,List.map_cons,List.map_nil]);first | done | rfl | (simp only [List.length_drop,List.length_take];rfl)) ?_;(with_reducible refine (spec_l1crcOk.calls k _ _ l0 false _ ?side1 ?side2 A10.out).mono ?_);(case side1 => repeat (first | exact HR0.out | (with_reducible refine Kd.C_alloc ?_ _) | (with_reducible refine Kd.C_drewN ?_ _) | (with_reducible refine Kd.C_drew ?_)));(case side2 => exact HC0.out);rintro e w13 ⟨rfl,hb⟩;refine ⟨_,rfl, ?_⟩;have n0_:=Aside0.mk (below_step (by repeat (first | (with_reducible first | exact HB.out | apply below_alloc | apply pw_below_drewN | apply below_drew1) | exact HB.out)) hb);clear HB;have HB:=n0_;clear n0_;(try clear hb);(try clear hb2);(try clear hk);(try clear hi)))
      go_ret
      exact ⟨by first | rfl | (simp [errW_none,errW_some] <;> rfl) | (simp [*,errW_none,errW_some] <;> rfl),by repeat (first | (with_reducible first | exact HB.out | apply below_alloc | apply pw_below_drewN | apply below_drew1) | exact HB.out)⟩
   ·rw [if_neg c8] at H
    have c8b0 : (t258 == 13) = false:=beq_eq_false_iff_ne.mpr c8
    have c8b1 : (t258 != 13) = true:=bne_iff_ne.mpr c8
    by_cases c14 : t258 = 14
    ·rw [if_pos c14] at H
     have c14b0 : (t258 == 14) = true:=beq_iff_eq.mpr c14
     have c14b1 : (t258 != 14) = false:=bne_eq_false_iff_eq.mpr c14
     clear c14
     replace H:=Option.bind_eq_some_iff.mp H
     obtain ⟨⟨t260,t261⟩,A150,H⟩:=H
     replace H : (if (wrap64 ((wrap64 ((l0.length : Int) - t261)) - 18)) < 6 then (spec_l1look.j0 k a1 (wrap64 ((wrap64 ((l0.length : Int) - t261)) - 18)) (a1 == 48)) else (spec_l1look.j0 k a1 (wrap64 ((wrap64 ((l0.length : Int) - t261)) - 18)) false)) = some r:=H
     have A15:=Aside0.mk A150
     clear A150
     have HC16:=Aside0.mk H
     clear H
     go_enter Tryd.func65,Tryd.ntmps65
     go_upto_region 16 with (first | ((with_reducible refine gate_callee (f:=46) rfl ?_);refine goesL_ (some 9) rfl rfl Tryd.func46 (by kernel_rfl) rfl #[.slice A0 l0.length c0] rfl (by (try simp only [List.map_toArray,List.map_cons,List.map_nil]);first | done | rfl | (simp only [List.length_drop,List.length_take];rfl)) ?_;(with_reducible refine (spec_l1field.calls k _ _ l0 t258 _ ?side1 ?side2 A3.out).mono ?_);(case side1 => repeat (first | exact HR0.out | (with_reducible refine Kd.C_alloc ?_ _) | (with_reducible refine Kd.C_drewN ?_ _) | (with_reducible refine Kd.C_drew ?_)));(case side2 => exact HC0.out);rintro e w' ⟨rfl,⟨nd,rfl⟩⟩;refine ⟨_,rfl, ?_⟩) | ((with_reducible refine gate_callee (f:=67) rfl ?_);refine goesL_ (some 29) rfl rfl Tryd.func67 (by kernel_rfl) rfl #[.slice A0 l0.length c0] rfl (by (try simp only [List.map_toArray,List.map_cons,List.map_nil]);first | done | rfl | (simp only [List.length_drop,List.length_take];rfl)) ?_;(with_reducible refine (spec_l1lay.calls k _ _ l0 t260 t261 _ ?side1 ?side2 A15.out).mono ?_);(case side1 => repeat (first | exact HR0.out | (with_reducible refine Kd.C_alloc ?_ _) | (with_reducible refine Kd.C_drewN ?_ _) | (with_reducible refine Kd.C_drew ?_)));(case side2 => exact HC0.out);rintro e w' ⟨rfl,⟨nd,rfl⟩⟩;refine ⟨_,rfl, ?_⟩))
     (try simp only [Act.put,List.setIfInBounds_toArray,List.set_cons_zero,List.set_cons_succ])
     go_cut [42] (fun v42 wc => ∃ (kq : Nat) (x42_15 : Bool),v42 = .bool x42_15 ∧ Aside0 (spec_l1look.j0 kq a1 (wrap64 ((wrap64 ((l0.length : Int) - t261)) - 18)) x42_15 = some r) ∧ Aside0 (kq ≤ k) ∧ Aside0 (Below w.heap.size w wc))
     case first =>
      have H:=HC16.out
      clear HC16
      by_cases c17 : (wrap64 ((wrap64 ((l0.length : Int) - t261)) - 18)) < 6
      ·rw [if_pos c17] at H
       have c17b0 : decide ((wrap64 ((wrap64 ((l0.length : Int) - t261)) - 18)) < 6) = true:=decide_eq_true c17
       clear c17
       (first | rw [c17b0] | (simp only [i64_w,i32_w];rw [c17b0]) | skip)
       have H':=Aside0.mk H
       clear H
       go_wp2
       go_meet
       case rel => exact ⟨_,((a1 == 48)),(by first | rfl | (simp;done) | (simp [*];done)),H',⟨by first | omega | exact Nat.le_refl _⟩,⟨by repeat (first | (with_reducible first | exact HB.out | apply below_alloc | apply pw_below_drewN | apply below_drew1) | exact HB.out)⟩⟩
      ·rw [if_neg c17] at H
       have c17b0 : decide ((wrap64 ((wrap64 ((l0.length : Int) - t261)) - 18)) < 6) = false:=decide_eq_false c17
       clear c17
       (first | rw [c17b0] | (simp only [i64_w,i32_w];rw [c17b0]) | skip)
       have H':=Aside0.mk H
       clear H
       go_wp2
       go_meet
       case rel => exact ⟨_,(false),(by first | rfl | (simp;done) | (simp [*];done)),H',⟨by first | omega | exact Nat.le_refl _⟩,⟨by repeat (first | (with_reducible first | exact HB.out | apply below_alloc | apply pw_below_drewN | apply below_drew1) | exact HB.out)⟩⟩
     case rest =>
      clear HC16
      try clear c1
      try clear p2
      try clear c4
      try clear c4b0
      try clear c4b1
      try clear c5
      try clear c5b0
      try clear c5b1
      try clear c6
      try clear c6b0
      try clear c6b1
      try clear p6
      try clear c7
      try clear c7b0
      try clear c7b1
      try clear c8
      try clear c8b0
      try clear c8b1
      try clear c9
      try clear c9b0
      try clear c9b1
      try clear c11
      try clear c14
      try clear c14b0
      try clear c14b1
      try clear c17
      try clear c17b0
      obtain ⟨kq,x42_15,rfl,HA,HJ15,HB⟩:=hcut
      cases kq with
      | zero => exact absurd HA.out (by simp [spec_l1look.j0])
      | succ kj15 =>
       have H:=HA.out
       clear HA
       simp only [spec_l1look.j0] at H
       by_cases c18 : x42_15 = true
       ·subst c18
        have H1 : (some 4) = some r:=by rw [if_pos rfl] at H;exact H
        clear H
        have H:=H1
        clear H1
        obtain rfl:=Option.some.inj H
        go_wp2
        go_ret
        exact ⟨by first | rfl | (simp [errW_none,errW_some] <;> rfl) | (simp [*,errW_none,errW_some] <;> rfl),by repeat (first | (with_reducible first | exact HB.out | apply below_alloc | apply pw_below_drewN | apply below_drew1) | exact HB.out)⟩
       ·replace c18:=Bool.eq_false_iff.mpr c18
        subst c18
        have H1 : (if (wrap64 ((wrap64 ((l0.length : Int) - t261)) - 18)) = 5 then (some 1) else (if (wrap64 ((wrap64 ((l0.length : Int) - t261)) - 18)) = 6 then (spec_l1look.j1 kj15 (wrap64 ((wrap64 ((l0.length : Int) - t261)) - 18)) (a1 == 48)) else (spec_l1look.j1 kj15 (wrap64 ((wrap64 ((l0.length : Int) - t261)) - 18)) false))) = some r:=by rw [if_neg (show ¬ (false = true) by decide)] at H;exact H
        clear H
        have H:=H1
        clear H1
        by_cases c19 : (wrap64 ((wrap64 ((l0.length : Int) - t261)) - 18)) = 5
        ·rw [if_pos c19] at H
         have c19b0 : ((wrap64 ((wrap64 ((l0.length : Int) - t261)) - 18)) == 5) = true:=beq_iff_eq.mpr c19
         have c19b1 : ((wrap64 ((wrap64 ((l0.length : Int) - t261)) - 18)) != 5) = false:=bne_eq_false_iff_eq.mpr c19
         clear c19
         obtain rfl:=Option.some.inj H
         go_wp2
         go_ret
         exact ⟨by first | rfl | (simp [errW_none,errW_some] <;> rfl) | (simp [*,errW_none,errW_some] <;> rfl),by repeat (first | (with_reducible first | exact HB.out | apply below_alloc | apply pw_below_drewN | apply below_drew1) | exact HB.out)⟩
        ·rw [if_neg c19] at H
         have c19b0 : ((wrap64 ((wrap64 ((l0.length : Int) - t261)) - 18)) == 5) = false:=beq_eq_false_iff_ne.mpr c19
         have c19b1 : ((wrap64 ((wrap64 ((l0.length : Int) - t261)) - 18)) != 5) = true:=bne_iff_ne.mpr c19
         have HC20:=Aside0.mk H
         clear H
         go_upto_region 20 with (fail)
         go_cut [50] (fun v50 wc => ∃ (kq : Nat) (x50_19 : Bool),v50 = .bool x50_19 ∧ Aside0 (spec_l1look.j1 kq (wrap64 ((wrap64 ((l0.length : Int) - t261)) - 18)) x50_19 = some r) ∧ Aside0 (kq ≤ kj15) ∧ Aside0 (Below w.heap.size w wc))
         case first =>
          have H:=HC20.out
          clear HC20
          by_cases c21 : (wrap64 ((wrap64 ((l0.length : Int) - t261)) - 18)) = 6
          ·rw [if_pos c21] at H
           have c21b0 : ((wrap64 ((wrap64 ((l0.length : Int) - t261)) - 18)) == 6) = true:=beq_iff_eq.mpr c21
           have c21b1 : ((wrap64 ((wrap64 ((l0.length : Int) - t261)) - 18)) != 6) = false:=bne_eq_false_iff_eq.mpr c21
           clear c21
           (first | rw [c21b0] | (simp only [i64_w,i32_w];rw [c21b0]) | skip)
           have H':=Aside0.mk H
           clear H
           go_wp2
           go_meet
           case rel => exact ⟨_,((a1 == 48)),(by first | rfl | (simp;done) | (simp [*];done)),H',⟨by have:=HJ15.out;first | omega | exact Nat.le_refl _⟩,⟨by repeat (first | (with_reducible first | exact HB.out | apply below_alloc | apply pw_below_drewN | apply below_drew1) | exact HB.out)⟩⟩
          ·rw [if_neg c21] at H
           have c21b0 : ((wrap64 ((wrap64 ((l0.length : Int) - t261)) - 18)) == 6) = false:=beq_eq_false_iff_ne.mpr c21
           have c21b1 : ((wrap64 ((wrap64 ((l0.length : Int) - t261)) - 18)) != 6) = true:=bne_iff_ne.mpr c21
           (first | rw [c21b0] | (simp only [i64_w,i32_w];rw [c21b0]) | skip)
           have H':=Aside0.mk H
           clear H
           go_wp2
           go_meet
           case rel => exact ⟨_,(false),(by first | rfl | (simp;done) | (simp [*];done)),H',⟨by have:=HJ15.out;first | omega | exact Nat.le_refl _⟩,⟨by repeat (first | (with_reducible first | exact HB.out | apply below_alloc | apply pw_below_drewN | apply below_drew1) | exact HB.out)⟩⟩
         case rest =>
          clear HC20
          try clear c1
          try clear c2
          try clear p2
          try clear c4
          try clear c4b0
          try clear c4b1
          try clear c5
          try clear c5b0
          try clear c5b1
          try clear c6
          try clear c6b0
          try clear c6b1
          try clear p6
          try clear c7
          try clear c7b0
          try clear c7b1
          try clear c8
          try clear c8b0
          try clear c8b1
          try clear c9
          try clear c9b0
          try clear c9b1
          try clear c11
          try clear c14
          try clear c14b0
          try clear c14b1
          try clear c17
          try clear c17b0
          try clear c18
          try clear c19
          try clear c19b0
          try clear c19b1
          try clear c21
          try clear c21b0
          try clear c21b1
          try clear p2
          try clear p6
          obtain ⟨kq,x50_19,rfl,HA,HJ19,HB⟩:=hcut
          cases kq with
          | zero => exact absurd HA.out (by simp [spec_l1look.j1])
          | succ kj19 =>
           have H:=HA.out
           clear HA
           simp only [spec_l1look.j1] at H
           by_cases c22 : x50_19 = true
           ·subst c22
            have H1 : (some 6) = some r:=by rw [if_pos rfl] at H;exact H
            clear H
            have H:=H1
            clear H1
            obtain rfl:=Option.some.inj H
            go_wp2
            go_ret
            exact ⟨by first | rfl | (simp [errW_none,errW_some] <;> rfl) | (simp [*,errW_none,errW_some] <;> rfl),by repeat (first | (with_reducible first | exact HB.out | apply below_alloc | apply pw_below_drewN | apply below_drew1) | exact HB.out)⟩
           ·replace c22:=Bool.eq_false_iff.mpr c22
            subst c22
            have H1 : (if (wrap64 ((wrap64 ((l0.length : Int) - t261)) - 18)) = 6 then (some 2) else (some 0)) = some r:=by rw [if_neg (show ¬ (false = true) by decide)] at H;exact H
            clear H
            have H:=H1
            clear H1
            by_cases c23 : (wrap64 ((wrap64 ((l0.length : Int) - t261)) - 18)) = 6
            ·rw [if_pos c23] at H
             have c23b0 : ((wrap64 ((wrap64 ((l0.length : Int) - t261)) - 18)) == 6) = true:=beq_iff_eq.mpr c23
             have c23b1 : ((wrap64 ((wrap64 ((l0.length : Int) - t261)) - 18)) != 6) = false:=bne_eq_false_iff_eq.mpr c23
             clear c23
             obtain rfl:=Option.some.inj H
             go_wp2
             go_ret
             exact ⟨by first | rfl | (simp [errW_none,errW_some] <;> rfl) | (simp [*,errW_none,errW_some] <;> rfl),by repeat (first | (with_reducible first | exact HB.out | apply below_alloc | apply pw_below_drewN | apply below_drew1) | exact HB.out)⟩
            ·rw [if_neg c23] at H
             have c23b0 : ((wrap64 ((wrap64 ((l0.length : Int) - t261)) - 18)) == 6) = false:=beq_eq_false_iff_ne.mpr c23
             have c23b1 : ((wrap64 ((wrap64 ((l0.length : Int) - t261)) - 18)) != 6) = true:=bne_iff_ne.mpr c23
             obtain rfl:=Option.some.inj H
             go_wp2
             go_ret
             exact ⟨by first | rfl | (simp [errW_none,errW_some] <;> rfl) | (simp [*,errW_none,errW_some] <;> rfl),by repeat (first | (with_reducible first | exact HB.out | apply below_alloc | apply pw_below_drewN | apply below_drew1) | exact HB.out)⟩
    ·rw [if_neg c14] at H
     have c14b0 : (t258 == 14) = false:=beq_eq_false_iff_ne.mpr c14
     have c14b1 : (t258 != 14) = true:=bne_iff_ne.mpr c14
     obtain rfl:=Option.some.inj H
     go_enter Tryd.func65,Tryd.ntmps65
     go_wp2_with (first | ((with_reducible refine gate_callee (f:=46) rfl ?_);refine goesL_ (some 9) rfl rfl Tryd.func46 (by kernel_rfl) rfl #[.slice A0 l0.length c0] rfl (by (try simp only [List.map_toArray,List.map_cons,List.map_nil]);first | done | rfl | (simp only [List.length_drop,List.length_take];rfl)) ?_;(with_reducible refine (spec_l1field.calls k _ _ l0 t258 _ ?side1 ?side2 A3.out).mono ?_);(case side1 => repeat (first | exact HR0.out | (with_reducible refine Kd.C_alloc ?_ _) | (with_reducible refine Kd.C_drewN ?_ _) | (with_reducible refine Kd.C_drew ?_)));(case side2 => exact HC0.out);rintro e w' ⟨rfl,⟨nd,rfl⟩⟩;refine ⟨_,rfl, ?_⟩))
     go_ret
     exact ⟨by first | rfl | (simp [errW_none,errW_some] <;> rfl) | (simp [*,errW_none,errW_some] <;> rfl),by repeat (first | (with_reducible first | exact HB.out | apply below_alloc | apply pw_below_drewN | apply below_drew1) | exact HB.out)⟩
end Go.Proofs.YtdoclpgciadjaaaDoor.P
namespace Go.Proofs.YtdoclpgciadjaaaDoor.P
open Go Go.RowKit Go.Proofs.YtdoclpgciadjaaaDoorW.PrintWords
set_option linter.unusedVariables false
theorem rd_app_at (S Y : List Int) (a : Int) : rd (S ++ a :: Y) (S.length : Int) = a:=by
 unfold rd
 rw [Int.toNat_natCast,List.getD_eq_getElem?_getD,List.getElem?_append_right (Nat.le_refl _),Nat.sub_self];rfl
theorem bt_str (l : List Int) (i : Nat) (h : i < l.length) (hb : ∀ x ∈ l,0 ≤ x ∧ x < 256) : bt (strOfNums l) (i : Int) = rd l (i : Int):=by
 have hs : i < (strOfNums l).size:=by rw [strOfNums_size];exact h
 rw [bt_eq _ i hs]
 have h2 : (bytesOf (strOfNums l))[i]? = some (((strOfNums l)[i]'hs).toNat : Int):=by
  unfold bytesOf
  rw [List.getElem?_map,Array.getElem?_toList,Array.getElem?_eq_getElem (show i < (strOfNums l).data.size from hs)]
  rfl
 rw [bytes_str l hb] at h2
 unfold rd
 rw [Int.toNat_natCast,List.getD_eq_getElem?_getD,h2]
 rfl
theorem val_ev (l : List Int) (hb : Bits l) (hl : l.length ≤ 40) : Ev (fun k => spec_l1val.f k (strOfNums l)) (V l):=by
 have loop : ∀ (d i : Nat),i + d = l.length → Ev (fun k => spec_l1val.l0 k (strOfNums l) (V (l.take i)) (i : Int)) (V l):=by
  intro d
  induction d with
  | zero =>
   intro i hi
   refine Ev.step (f:=fun _ => some (V l)) (fun k => ?_) (Ev.now _)
   simp only [spec_l1val.l0]
   rw [if_neg (by rw [strOfNums_size];omega),List.take_of_length_le (by omega)]
  | succ d ih =>
   intro i hi
   refine Ev.step (f:=fun k => spec_l1val.l0 k (strOfNums l) (V (l.take (i + 1))) ((i + 1 : Nat) : Int)) (fun k => ?_) (ih (i + 1) (by omega))
   have ht : l.take (i + 1) = l.take i ++ [rd l (i : Int)]:=by
    rw [List.take_succ_eq_append_getElem (by omega)]
    congr 2
    have:=rd_get l i (by omega)
    rw [List.getElem?_eq_getElem (by omega)] at this
    exact Option.some.inj this
   have hbt : Bits (l.take i):=fun x hx => hb x (List.mem_of_mem_take hx)
   have hv:=V_lt hbt (n:=40) (by rw [List.length_take];omega) (m:=1099511627776) (by decide)
   have hv0:=(V_range hbt).1
   have hm : rd l (i : Int) = 48 ∨ rd l (i : Int) = 49:=hb _ (by have:=rd_get l i (by omega);exact List.mem_of_getElem? this)
   rw [ht,V_snoc]
   simp only [spec_l1val.l0]
   have w2 : wrap64 (2 * V (l.take i)) = 2 * V (l.take i):=by unfold wrap64;omega
   have w3 : wrap64 (2 * V (l.take i) + 1) = 2 * V (l.take i) + 1:=by unfold wrap64;omega
   rw [if_pos (by rw [strOfNums_size];omega),if_pos (by omega),bt_str l i (by omega) hb.range,w2,w3,w64 (by omega) (by omega)]
   rcases hm with e | e
   ·rw [if_neg (by omega),e];simp
   ·rw [if_pos e,e];simp
 have h0:=loop l.length 0 (by omega)
 exact h0
theorem hd_len {H : List Int} {e r : Bool} {i : Int} (h : Hd H e r i) : H.length = if e = true then 35 else 15:=by
 cases h with
 | base a r z I h => simp [h]
 | ext a r q z y I J h k => simp [h,k]
theorem hd_13 {H : List Int} {e r : Bool} {i : Int} (h : Hd H e r i) (R : List Int) : rd (H ++ R) 13 = if e = true then 49 else 48:=by
 cases h with
 | base a r z I h =>
  have:=rd_app_at (a :: I ++ [r]) ([z] ++ R) 48
  rw [show (((a :: I ++ [r]).length : Nat) : Int) = 13 by simp [h]] at this
  rw [show a :: I ++ [r,48,z] ++ R = (a :: I ++ [r]) ++ 48 :: ([z] ++ R) by simp]
  exact this
 | ext a r q z y I J h k =>
  have:=rd_app_at (a :: I ++ [r]) (J ++ [q,z,y] ++ R) 49
  rw [show (((a :: I ++ [r]).length : Nat) : Int) = 13 by simp [h]] at this
  rw [show a :: I ++ [r,49] ++ J ++ [q,z,y] ++ R = (a :: I ++ [r]) ++ 49 :: (J ++ [q,z,y] ++ R) by simp]
  exact this
theorem hd_rtr {H : List Int} {e r : Bool} {i : Int} (h : Hd H e r i) (R : List Int) : (rd (H ++ R) (if e = true then 32 else 12) == 49) = r:=by
 cases h with
 | base a r z I h =>
  have:=rd_app_at (a :: I) ([48,z] ++ R) r
  rw [show (((a :: I).length : Nat) : Int) = 12 by simp [h]] at this
  rw [show a :: I ++ [r,48,z] ++ R = (a :: I) ++ r :: ([48,z] ++ R) by simp]
  simp only [Bool.false_eq_true,if_false]
  rw [this]
 | ext a r q z y I J h k =>
  have:=rd_app_at (a :: I ++ [r,49] ++ J) ([z,y] ++ R) q
  rw [show (((a :: I ++ [r,49] ++ J).length : Nat) : Int) = 32 by simp [h,k]] at this
  rw [show a :: I ++ [r,49] ++ J ++ [q,z,y] ++ R = (a :: I ++ [r,49] ++ J) ++ q :: ([z,y] ++ R) by simp]
  simp only [if_true]
  rw [this]
theorem lay_full {H D R : List Int} {e r : Bool} {i : Int} (h : Hd H e r i) (d : D.length = 4) (hb : Bits D) (hn : R.length ≤ 4000) :
  Ev (fun k => spec_l1lay.f k (H ++ D ++ R)) ((H.length : Int) + 4,(H.length : Int) + 4 + 8 * dataB r (V D)):=by
 have hl:=hd_len h
 have h13:=hd_13 h (D ++ R)
 have hr:=hd_rtr h (D ++ R)
 rw [← List.append_assoc] at h13 hr
 have hlen : (H ++ D ++ R).length = H.length + 4 + R.length:=by simp [d];omega
 have hv0:=(V_range hb).1
 have hv1:=V_lt hb (n:=4) (by omega) (m:=16) (by decide)
 have hsl : ((H ++ D ++ R).take (((H.length : Int) + 4).toNat)).drop (((H.length : Int) + 4 - 4).toNat) = D:=by
  rw [show ((H.length : Int) + 4).toNat = (H ++ D).length by simp [d];omega,List.take_left,show ((H.length : Int) + 4 - 4).toNat = H.length by omega,List.drop_left]
 have hval:=val_ev D hb (by omega)
 have j1 : Ev (fun k => spec_l1lay.j1 k (H ++ D ++ R) ((H.length : Int) + 4) r) ((H.length : Int) + 4,(H.length : Int) + 4 + 8 * dataB r (V D)):=by
  have hH : (H.length : Int) ≤ 35:=by rw [hl];split <;> omega
  have w1 : wrap64 ((H.length : Int) + 4 - 4) = (H.length : Int) + 4 - 4:=w64 (by omega) (by omega)
  refine Ev.step (f:=fun k => (spec_l1val.f k (strOfNums D)).bind fun t265 => (if t265 > 8 then (if r = true then (some ((H.length : Int) + 4,wrap64 ((H.length : Int) + 4 + (8 * 0)))) else (some ((H.length : Int) + 4,wrap64 ((H.length : Int) + 4 + (8 * 8))))) else (if r = true then (some ((H.length : Int) + 4,wrap64 ((H.length : Int) + 4 + (8 * 0)))) else (some ((H.length : Int) + 4,wrap64 ((H.length : Int) + 4 + (wrap64 (8 * t265)))))))) (fun k => ?_) (Ev.bind hval ?_)
  ·simp only [spec_l1lay.j1]
   rw [w1,if_pos (by omega),if_pos (by omega),if_pos (by omega),hsl]
  ·unfold dataB
   by_cases c8 : V D > 8
   ·refine ev_pos c8 ?_
    cases r with
    | true => refine ev_pos rfl ?_;rw [if_pos rfl,w64 (by omega) (by omega)];exact Ev.now _
    | false => refine ev_neg (by decide) ?_;rw [if_neg (by decide),if_pos c8,w64 (by omega) (by omega)];exact Ev.now _
   ·refine ev_neg c8 ?_
    cases r with
    | true => refine ev_pos rfl ?_;rw [if_pos rfl,w64 (by omega) (by omega)];exact Ev.now _
    | false => refine ev_neg (by decide) ?_;rw [if_neg (by decide),if_neg c8,w64 (x:=8 * V D) (by omega) (by omega),w64 (by omega) (by omega)];exact Ev.now _
 unfold spec_l1lay.f
 cases e with
 | true =>
  simp only [if_true] at hl h13 hr
  rw [hl] at j1 ⊢
  refine ev_neg (by omega) (ev_pos (by omega) (ev_pos h13 ?_))
  refine Ev.step (f:=fun k => spec_l1lay.j1 k (H ++ D ++ R) 39 r) (fun k => ?_) j1
  simp only [spec_l1lay.j0]
  rw [if_neg (by omega),if_pos (by omega),if_pos (by decide),if_pos (by omega),hr]
 | false =>
  simp only [Bool.false_eq_true,if_false] at hl h13 hr
  rw [hl] at j1 ⊢
  refine ev_neg (by omega) (ev_pos (by omega) (ev_neg (by omega) ?_))
  refine Ev.step (f:=fun k => spec_l1lay.j1 k (H ++ D ++ R) 19 r) (fun k => ?_) j1
  simp only [spec_l1lay.j0]
  rw [if_neg (by omega),if_pos (by omega),if_neg (by decide),hr]
theorem lay_part {p : List Int} {e : Bool} (h13 : rd p 13 = if e = true then 49 else 48) (hn : 14 ≤ p.length) (hl : p.length < if e = true then 39 else 19) : Ev (fun k => spec_l1lay.f k p) (if e = true then 39 else 19,0):=by
 unfold spec_l1lay.f
 cases e with
 | true =>
  simp only [if_true] at h13 hl ⊢
  refine ev_neg (by omega) (ev_pos (by omega) (ev_pos h13 ?_))
  refine Ev.step (f:=fun _ => some (39,0)) (fun k => ?_) (Ev.now _)
  simp only [spec_l1lay.j0]
  rw [if_pos (by omega)]
 | false =>
  simp only [Bool.false_eq_true,if_false] at h13 hl ⊢
  refine ev_neg (by omega) (ev_pos (by omega) (ev_neg (by omega) ?_))
  refine Ev.step (f:=fun _ => some (19,0)) (fun k => ?_) (Ev.now _)
  simp only [spec_l1lay.j0]
  rw [if_pos (by omega)]
theorem lay_few {p : List Int} (hn : p.length < 14) : Ev (fun k => spec_l1lay.f k p) (0,0):=by
 unfold spec_l1lay.f
 exact ev_pos (by omega) (Ev.now _)
theorem field_full {H D R : List Int} {e r : Bool} {i : Int} (h : Hd H e r i) (d : D.length = 4) (hb : Bits D) (hn : R.length ≤ 4000) :
  Ev (fun k => spec_l1field.f k (H ++ D ++ R)) (if (R.length : Int) < 8 * dataB r (V D) then 9 else if (R.length : Int) < 8 * dataB r (V D) + 15 then 10 else if (R.length : Int) < 8 * dataB r (V D) + 18 then 11 + ((R.length : Int) - 8 * dataB r (V D) - 15) else if (R.length : Int) < 8 * dataB r (V D) + 25 then 14 else 15):=by
 have hl:=hd_len h
 have hH : H.length = 15 ∨ H.length = 35:=by rw [hl];split <;> omega
 have hd:=dataB_range (r:=r) (V_range hb).1
 have hlen : (H ++ D ++ R).length = H.length + 4 + R.length:=by simp [d];omega
 unfold spec_l1field.f
 rw [hlen]
 refine ev_neg (by omega) (ev_neg (by omega) (ev_neg (by omega) (ev_neg (by omega) (Ev.bind (lay_full h d hb hn) (ev_neg (by simp only [];omega) ?_)))))
 simp only []
 rw [w64 (x:=(H.length : Int) + 4 + 8 * dataB r (V D) + 15) (by omega) (by omega),w64 (x:=(H.length : Int) + 4 + 8 * dataB r (V D) + 18) (by omega) (by omega),w64 (x:=(H.length : Int) + 4 + 8 * dataB r (V D) + 25) (by omega) (by omega)]
 by_cases c1 : (R.length : Int) < 8 * dataB r (V D)
 ·rw [if_pos c1];exact ev_pos (by omega) (Ev.now _)
 rw [if_neg c1];refine ev_neg (by omega) ?_
 by_cases c2 : (R.length : Int) < 8 * dataB r (V D) + 15
 ·rw [if_pos c2];exact ev_pos (by omega) (Ev.now _)
 rw [if_neg c2];refine ev_neg (by omega) ?_
 by_cases c3 : (R.length : Int) < 8 * dataB r (V D) + 18
 ·rw [if_pos c3];refine ev_pos (by omega) ?_
  have e : wrap64 (wrap64 (wrap64 (11 + ((H.length + 4 + R.length : Nat) : Int)) - ((H.length : Int) + 4 + 8 * dataB r (V D))) - 15) = 11 + ((R.length : Int) - 8 * dataB r (V D) - 15):=by unfold wrap64;omega
  rw [e];exact Ev.now _
 rw [if_neg c3];refine ev_neg (by omega) ?_
 by_cases c4 : (R.length : Int) < 8 * dataB r (V D) + 25
 ·rw [if_pos c4];exact ev_pos (by omega) (Ev.now _)
 ·rw [if_neg c4];exact ev_neg (by omega) (Ev.now _)
theorem field_part {p : List Int} {e : Bool} (h13 : rd p 13 = if e = true then 49 else 48) (hn : 14 ≤ p.length) (hl : p.length < if e = true then 39 else 19) :
  Ev (fun k => spec_l1field.f k p) (if e = true then (if p.length < 32 then 5 else if p.length = 32 then 6 else if p.length < 35 then 7 else 8) else (if p.length < 15 then 7 else 8)):=by
 unfold spec_l1field.f
 refine ev_neg (by omega) (ev_neg (by omega) (ev_neg (by omega) (ev_neg (by omega) (Ev.bind (lay_part h13 hn hl) ?_))))
 cases e with
 | true =>
  simp only [if_true] at hl ⊢
  rw [w64 (x:=(39 : Int) - 4) (by omega) (by omega)]
  refine ev_pos (by omega) ?_
  by_cases c : p.length < 32
  ·rw [if_pos c];exact ev_neg (by omega) (ev_neg (by omega) (ev_pos (by omega) (Ev.now _)))
  rw [if_neg c]
  by_cases c2 : p.length = 32
  ·rw [if_pos c2];exact ev_neg (by omega) (ev_neg (by omega) (ev_neg (by omega) (ev_pos (by omega) (Ev.now _))))
  rw [if_neg c2]
  by_cases c3 : p.length < 35
  ·rw [if_pos c3];exact ev_neg (by omega) (ev_neg (by omega) (ev_neg (by omega) (ev_neg (by omega) (Ev.now _))))
  ·rw [if_neg c3];exact ev_pos (by omega) (Ev.now _)
 | false =>
  simp only [Bool.false_eq_true,if_false] at hl ⊢
  rw [w64 (x:=(19 : Int) - 4) (by omega) (by omega)]
  refine ev_pos (by omega) ?_
  by_cases c : p.length < 15
  ·rw [if_pos c];exact ev_neg (by omega) (ev_pos (by decide) (Ev.now _))
  ·rw [if_neg c];exact ev_pos (by omega) (Ev.now _)
theorem field_ev {p : List Int} {c : Int × Int × Int × Bool × Int × Bool × Int × List Int} {m : Int} (h : Ph p c m) (hp : Bits p) : Ev (fun k => spec_l1field.f k p) c.1:=by
 have few : ∀ {q : List Int} {v : Int},(q.length = 0 ∧ v = 1 ∨ (0 < q.length ∧ q.length < 12) ∧ v = 2 ∨ q.length = 12 ∧ v = 3 ∨ q.length = 13 ∧ v = 4) → Ev (fun k => spec_l1field.f k q) v:=by
  intro q v hq
  unfold spec_l1field.f
  rcases hq with ⟨h,rfl⟩ | ⟨h,rfl⟩ | ⟨h,rfl⟩ | ⟨h,rfl⟩
  ·exact ev_pos (by omega) (Ev.now _)
  ·exact ev_neg (by omega) (ev_pos (by omega) (Ev.now _))
  ·exact ev_neg (by omega) (ev_neg (by omega) (ev_pos (by omega) (Ev.now _)))
  ·exact ev_neg (by omega) (ev_neg (by omega) (ev_neg (by omega) (ev_pos (by omega) (Ev.now _))))
 have r13 : ∀ (a r z : Int) (I R : List Int),I.length = 11 → rd (a :: I ++ [r] ++ z :: R) 13 = z:=by
  intro a r z I R h
  have:=rd_app_at (a :: I ++ [r]) R z
  rw [show (((a :: I ++ [r]).length : Nat) : Int) = 13 by simp [h]] at this
  exact this
 cases h with
 | sof => exact few (by simp)
 | ida a I h => exact few (by simp;omega)
 | rtr a I h => exact few (by simp;omega)
 | ide a r I h => exact few (by simp;omega)
 | idb a r I J h k =>
  have:=field_part (p:=a :: I ++ [r,49] ++ J) (e:=true) (by have:=r13 a r 49 I J h;simpa using this) (by simp;omega) (by simp;omega)
  simp only [if_true] at this
  rw [if_pos (by simp;omega)] at this
  exact this
 | rtrx a r I J h k =>
  have:=field_part (p:=a :: I ++ [r,49] ++ J) (e:=true) (by have:=r13 a r 49 I J h;simpa using this) (by simp;omega) (by simp;omega)
  simp only [if_true] at this
  rw [if_neg (by simp;omega),if_pos (by simp;omega)] at this
  exact this
 | resx a r q I J Z h k z =>
  have:=field_part (p:=a :: I ++ [r,49] ++ J ++ [q] ++ Z) (e:=true) (by have:=r13 a r 49 I (J ++ [q] ++ Z) h;simpa using this) (by simp;omega) (by simp;omega)
  simp only [if_true] at this
  rw [if_neg (by simp;omega),if_neg (by simp;omega),if_pos (by simp;omega)] at this
  exact this
 | resb a r I h =>
  have:=field_part (p:=a :: I ++ [r,48]) (e:=false) (by have:=r13 a r 48 I [] h;simpa using this) (by simp;omega) (by simp;omega)
  simp only [Bool.false_eq_true,if_false] at this
  rw [if_pos (by simp;omega)] at this
  exact this
 | dlc H D e r i h d =>
  have hl:=hd_len h
  have hlen : (H ++ D).length = H.length + D.length:=by simp
  have:=field_part (p:=H ++ D) (e:=e) (hd_13 h D) (by rw [hlen,hl];split <;> omega) (by rw [hlen,hl];split <;> omega)
  cases e with
  | true =>
   simp only [if_true] at this hl
   rw [hlen,if_neg (by omega),if_neg (by omega),if_neg (by omega)] at this
   exact this
  | false =>
   simp only [Bool.false_eq_true,if_false] at this hl
   rw [hlen,if_neg (by omega)] at this
   exact this
 | data H D X e r i h d x =>
  have hD : Bits D:=bits_len hp D (fun x hx => by simp [hx])
  have hr:=dataB_range (r:=r) (V_range hD).1
  have:=field_full (R:=X) h d hD (by omega)
  rw [if_pos x] at this
  exact this
 | crc H D X C e r i h d x c =>
  have hD : Bits D:=bits_len hp D (fun x hx => by simp [hx])
  have hr:=dataB_range (r:=r) (V_range hD).1
  have:=field_full (R:=X ++ C) h d hD (by simp;omega)
  rw [if_neg (by simp;omega),if_pos (by simp;omega), ← List.append_assoc] at this
  exact this
 | del H D X C T e r i h d x c t =>
  have hD : Bits D:=bits_len hp D (fun x hx => by simp [hx])
  have hr:=dataB_range (r:=r) (V_range hD).1
  have:=field_full (R:=X ++ C ++ T) h d hD (by simp;omega)
  rw [if_neg (by simp;omega),if_neg (by simp;omega),if_pos (by simp;omega), ← List.append_assoc, ← List.append_assoc,show 11 + (((X ++ C ++ T).length : Int) - 8 * dataB r (V D) - 15) = 11 + (T.length : Int) by simp;omega] at this
  exact this
 | eof H D X C T e r i h d x c t3 t =>
  have hD : Bits D:=bits_len hp D (fun x hx => by simp [hx])
  have hr:=dataB_range (r:=r) (V_range hD).1
  have:=field_full (R:=X ++ C ++ T) h d hD (by simp;omega)
  rw [if_neg (by simp;omega),if_neg (by simp;omega),if_neg (by simp;omega),if_pos (by simp;omega), ← List.append_assoc, ← List.append_assoc] at this
  exact this
theorem ph_ok {p : List Int} {c : Int × Int × Int × Bool × Int × Bool × Int × List Int} {m : Int} (h : Ph p c m) (hp : Bits p) (s : WS) (hs : core s = c) (hr0 : 0 ≤ s.run) (hr1 : s.run ≤ 5) : WOk s:=by
 have mk : ∀ {f l g : Int} {e : Bool} {i : Int} {r : Bool} {d : Int} {x : List Int},CoreIs s f l g e i r d x s.sum → 1 ≤ f → f ≤ 14 → 1 ≤ l → l ≤ 64 → 0 ≤ d → d ≤ 15 → 0 ≤ g → g < 32768 → 0 ≤ i → i < 4294967296 → (f = 9 → l % 8 ≠ 0 → x ≠ []) → (∀ y ∈ x,0 ≤ y ∧ y < 256) → x.length ≤ 100 → WOk s:=by
  intro f l g e i r d x C a1 a2 a3 a4 a5 a6 a7 a8 a9 a10 a11 a12 a13
  obtain ⟨h1,h2,h3,h4,h5,h6,h7,h8, -⟩:=C
  subst h1 h2 h3 h5 h7 h8
  exact ⟨a1,a2,a3,a4,hr0,hr1,a5,a6,a7,a8,a9,a10,a11,a12,a13⟩
 have nob : ∀ y ∈ ([] : List Int),(0 : Int) ≤ y ∧ y < 256:=fun y hy => by cases hy
 have sub : ∀ {q : List Int},(∀ x ∈ q,x ∈ p) → Bits q:=fun hq x hx => hp x (hq x hx)
 have hdI : ∀ {H : List Int} {e r : Bool} {i : Int},Hd H e r i → (∀ x ∈ H,x ∈ p) → 0 ≤ i ∧ i < 4294967296:=by
  intro H e r i hh hq
  cases hh with
  | base a r z I h =>
   have hI : Bits I:=sub (fun x hx => hq x (by simp [hx]))
   exact ⟨(V_range hI).1,V_lt hI (n:=32) (by omega) (by decide)⟩
  | ext a r q z y I J h k =>
   have hI : Bits (I ++ J):=sub (fun x hx => hq x (by rcases List.mem_append.1 hx with h2 | h2 <;> simp [h2]))
   exact ⟨(V_range hI).1,V_lt hI (n:=32) (by simp;omega) (by decide)⟩
 have dB : ∀ {D : List Int},D.length ≤ 4 → (∀ x ∈ D,x ∈ p) → 0 ≤ V D ∧ V D ≤ 15:=by
  intro D hd hq
  have h1:=V_lt (sub hq) hd (m:=16) (by decide)
  exact ⟨(V_range (sub hq)).1,by omega⟩
 have gB : ∀ {C : List Int},C.length ≤ 15 → (∀ x ∈ C,x ∈ p) → 0 ≤ V C ∧ V C < 32768:=by
  intro C hd hq
  exact ⟨(V_range (sub hq)).1,V_lt (sub hq) hd (m:=32768) (by decide)⟩
 cases h with
 | sof => exact mk (core_is hs rfl) (by decide) (by decide) (by decide) (by decide) (by decide) (by decide) (by decide) (by decide) (by decide) (by decide) (fun h => absurd h (by decide)) nob (by simp)
 | ida a I h =>
  have hI : Bits I:=sub (fun x hx => by simp [hx])
  exact mk (core_is hs rfl) (by decide) (by decide) (by omega) (by omega) (by decide) (by decide) (by decide) (by decide) (V_range hI).1 (V_lt hI (n:=32) (by omega) (by decide)) (fun h => absurd h (by decide)) nob (by simp)
 | rtr a I h =>
  have hI : Bits I:=sub (fun x hx => by simp [hx])
  exact mk (core_is hs rfl) (by decide) (by decide) (by omega) (by omega) (by decide) (by decide) (by decide) (by decide) (V_range hI).1 (V_lt hI (n:=32) (by omega) (by decide)) (fun h => absurd h (by decide)) nob (by simp)
 | ide a r I h =>
  have hI : Bits I:=sub (fun x hx => by simp [hx])
  exact mk (core_is hs rfl) (by decide) (by decide) (by omega) (by omega) (by decide) (by decide) (by decide) (by decide) (V_range hI).1 (V_lt hI (n:=32) (by omega) (by decide)) (fun h => absurd h (by decide)) nob (by simp)
 | idb a r I J h k =>
  have hI : Bits (I ++ J):=sub (fun x hx => by rcases List.mem_append.1 hx with h2 | h2 <;> simp [h2])
  exact mk (core_is hs rfl) (by decide) (by decide) (by omega) (by omega) (by decide) (by decide) (by decide) (by decide) (V_range hI).1 (V_lt hI (n:=32) (by simp;omega) (by decide)) (fun h => absurd h (by decide)) nob (by simp)
 | rtrx a r I J h k =>
  have hI : Bits (I ++ J):=sub (fun x hx => by rcases List.mem_append.1 hx with h2 | h2 <;> simp [h2])
  exact mk (core_is hs rfl) (by decide) (by decide) (by omega) (by omega) (by decide) (by decide) (by decide) (by decide) (V_range hI).1 (V_lt hI (n:=32) (by simp;omega) (by decide)) (fun h => absurd h (by decide)) nob (by simp)
 | resx a r q I J Z h k z =>
  have hI : Bits (I ++ J):=sub (fun x hx => by rcases List.mem_append.1 hx with h2 | h2 <;> simp [h2])
  exact mk (core_is hs rfl) (by decide) (by decide) (by omega) (by omega) (by decide) (by decide) (by decide) (by decide) (V_range hI).1 (V_lt hI (n:=32) (by simp;omega) (by decide)) (fun h => absurd h (by decide)) nob (by simp)
 | resb a r I h =>
  have hI : Bits I:=sub (fun x hx => by simp [hx])
  exact mk (core_is hs rfl) (by decide) (by decide) (by omega) (by omega) (by decide) (by decide) (by decide) (by decide) (V_range hI).1 (V_lt hI (n:=32) (by omega) (by decide)) (fun h => absurd h (by decide)) nob (by simp)
 | dlc H D e r i h d =>
  obtain ⟨i0,i1⟩:=hdI h (fun x hx => by simp [hx])
  obtain ⟨d0,d1⟩:=dB (D:=D) (by omega) (fun x hx => by simp [hx])
  exact mk (core_is hs rfl) (by decide) (by decide) (by omega) (by omega) d0 d1 (by decide) (by decide) i0 i1 (fun h => absurd h (by decide)) nob (by simp)
 | data H D X e r i h d x =>
  obtain ⟨i0,i1⟩:=hdI h (fun x hx => by simp [hx])
  obtain ⟨d0,d1⟩:=dB (D:=D) (by omega) (fun x hx => by simp [hx])
  have hr:=dataB_range (r:=r) d0
  have hlen:=bytesB_length X
  exact mk (core_is hs rfl) (by decide) (by decide) (by omega) (by omega) d0 d1 (by decide) (by decide) i0 i1 (fun _ hne hx => by rw [hx] at hlen;simp at hlen;omega) (bytesB_range X) (by omega)
 | crc H D X C e r i h d x c =>
  obtain ⟨i0,i1⟩:=hdI h (fun x hx => by simp [hx])
  obtain ⟨d0,d1⟩:=dB (D:=D) (by omega) (fun x hx => by simp [hx])
  obtain ⟨g0,g1⟩:=gB (C:=C) (by omega) (fun x hx => by simp [hx])
  have hr:=dataB_range (r:=r) d0
  have hlen:=bytesB_length X
  exact mk (core_is hs rfl) (by decide) (by decide) (by omega) (by omega) d0 d1 g0 g1 i0 i1 (fun h => absurd h (by decide)) (bytesB_range X) (by omega)
 | del H D X C T e r i h d x c t =>
  obtain ⟨i0,i1⟩:=hdI h (fun x hx => by simp [hx])
  obtain ⟨d0,d1⟩:=dB (D:=D) (by omega) (fun x hx => by simp [hx])
  obtain ⟨g0,g1⟩:=gB (C:=C) (by omega) (fun x hx => by simp [hx])
  have hr:=dataB_range (r:=r) d0
  have hlen:=bytesB_length X
  exact mk (core_is hs rfl) (by omega) (by omega) (by omega) (by omega) d0 d1 g0 g1 i0 i1 (fun h => absurd h (by omega)) (bytesB_range X) (by omega)
 | eof H D X C T e r i h d x c t3 t =>
  obtain ⟨i0,i1⟩:=hdI h (fun x hx => by simp [hx])
  obtain ⟨d0,d1⟩:=dB (D:=D) (by omega) (fun x hx => by simp [hx])
  obtain ⟨g0,g1⟩:=gB (C:=C) (by omega) (fun x hx => by simp [hx])
  have hr:=dataB_range (r:=r) d0
  have hlen:=bytesB_length X
  exact mk (core_is hs rfl) (by omega) (by omega) (by omega) (by omega) d0 d1 g0 g1 i0 i1 (fun h => absurd h (by omega)) (bytesB_range X) (by omega)
def codeL (s : WS) (b : Int) : Int :=
 if s.field = 1 then (if b = 1 then 4 else 0)
 else if s.field = 11 then (if b = 0 then 4 else 0)
 else if s.field = 13 then (if b = 0 then 4 else if crcOkW s = true then 0 else 5)
 else if s.field = 14 then (if 1 < s.left ∧ b = 0 then 4 else if s.left = 2 then 1 else if s.left = 1 ∧ b = 0 then 6 else if s.left = 1 then 2 else 0)
 else 0
theorem code_plain (s : WS) (b : Int) (h0 : s.code = 0) : (plainW s b).code = codeL s b:=by
 have e1 : (sumW s b).code = 0 ∧ (sumW s b).field = s.field ∧ (sumW s b).left = s.left ∧ (10 < s.field → crcOkW (sumW s b) = crcOkW s):=by
  unfold sumW
  split
  ·exact ⟨h0,rfl,rfl,fun h => by omega⟩
  ·exact ⟨h0,rfl,rfl,fun _ => rfl⟩
 have e2 : (plainW s b).code = (takeW (sumW s b) b).code:=by unfold plainW;rw [nextW_eq]
 rw [e2]
 obtain ⟨a1,a2,a3,a4⟩:=e1
 generalize sumW s b = t at a1 a2 a3 a4 ⊢
 unfold takeW codeL endW
 rw [a2,a3]
 by_cases c1 : s.field = 1
 ·rw [if_pos c1,if_pos c1];split <;> first | rfl | exact a1
 rw [if_neg c1,if_neg c1]
 by_cases c2 : s.field = 2 ∨ s.field = 5
 ·rw [if_pos c2,if_neg (by omega),if_neg (by omega),if_neg (by omega)];exact a1
 rw [if_neg c2]
 by_cases c3 : s.field = 3 ∨ s.field = 6
 ·rw [if_pos c3,if_neg (by omega),if_neg (by omega),if_neg (by omega)];exact a1
 rw [if_neg c3]
 by_cases c4 : s.field = 4
 ·rw [if_pos c4,if_neg (by omega),if_neg (by omega),if_neg (by omega)];exact a1
 rw [if_neg c4]
 by_cases c8 : s.field = 8
 ·rw [if_pos c8,if_neg (by omega),if_neg (by omega),if_neg (by omega)];exact a1
 rw [if_neg c8]
 by_cases c9 : s.field = 9
 ·rw [if_pos c9,if_neg (by omega),if_neg (by omega),if_neg (by omega)];exact a1
 rw [if_neg c9]
 by_cases c10 : s.field = 10
 ·rw [if_pos c10,if_neg (by omega),if_neg (by omega),if_neg (by omega)];exact a1
 rw [if_neg c10]
 by_cases c11 : s.field = 11
 ·rw [if_pos c11,if_pos c11];split <;> first | rfl | exact a1
 rw [if_neg c11,if_neg c11]
 by_cases c13 : s.field = 13
 ·rw [if_pos c13,if_pos c13,a4 (by omega)]
  by_cases hb : b = 0
  ·rw [if_pos hb,if_pos hb]
  ·rw [if_neg hb,if_neg hb]
   by_cases hc : crcOkW s = true
   ·rw [if_pos hc,if_pos hc];exact a1
   ·rw [if_neg hc,if_neg hc]
 rw [if_neg c13,if_neg c13]
 by_cases c14 : s.field = 14
 ·rw [if_pos c14,if_pos c14]
  by_cases d1 : 1 < s.left ∧ b = 0
  ·rw [if_pos d1,if_pos d1]
  rw [if_neg d1,if_neg d1]
  by_cases d2 : s.left = 2
  ·rw [if_pos d2,if_pos d2]
  rw [if_neg d2,if_neg d2]
  by_cases d3 : s.left = 1 ∧ b = 0
  ·rw [if_pos d3,if_pos d3]
  rw [if_neg d3,if_neg d3]
  by_cases d4 : s.left = 1
  ·rw [if_pos d4,if_pos d4]
  ·rw [if_neg d4,if_neg d4];exact a1
 ·rw [if_neg c14,if_neg c14];exact a1
theorem crcS_crcL {l : List Int} (h : Bits l) : crcS l = (crcL l : Int):=crcI_list l h
theorem crcOk_full {H D X C T : List Int} {e r : Bool} {i : Int} (h : Hd H e r i) (d : D.length = 4) (x : (X.length : Int) = 8 * dataB r (V D)) (c : C.length = 15) (t : T.length ≤ 10) (hb : Bits (H ++ D ++ X ++ C ++ T)) :
  Ev (fun k => spec_l1crcOk.f k (H ++ D ++ X ++ C ++ T)) (crcS (H ++ D ++ X) == V C):=by
 have hD : Bits D:=bits_len hb D (fun x hx => by simp [hx])
 have hC : Bits C:=bits_len hb C (fun x hx => by simp [hx])
 have hB : Bits (H ++ D ++ X):=bits_len hb _ (fun x hx => by simp only [List.mem_append] at hx ⊢;exact .inl (.inl hx))
 have hl:=hd_len h
 have hH : H.length = 15 ∨ H.length = 35:=by rw [hl];split <;> omega
 have hr:=dataB_range (r:=r) (V_range hD).1
 have hlay:=lay_full (R:=X ++ C ++ T) h d hD (by simp;omega)
 rw [← List.append_assoc, ← List.append_assoc] at hlay
 have hlen : (H ++ D ++ X ++ C ++ T).length = (H ++ D ++ X).length + 15 + T.length:=by simp [c];omega
 have hlB : ((H ++ D ++ X).length : Int) = (H.length : Int) + 4 + 8 * dataB r (V D):=by simp [d];omega
 have hlB2 : (H ++ D ++ X).length ≤ 103:=by omega
 unfold spec_l1crcOk.f
 refine Ev.bind hlay ?_
 simp only []
 rw [← hlB]
 generalize hE : H ++ D ++ X = B at *
 have w15 : wrap64 ((B.length : Int) + 15) = (B.length : Int) + 15:=w64 (by omega) (by omega)
 refine ev_neg (by omega) ?_
 rw [w15,decide_eq_false (by omega)]
 have t1 : (B ++ C ++ T).take ((B.length : Int).toNat) = B:=by rw [Int.toNat_natCast,List.append_assoc,List.take_left]
 have t2 : ((B ++ C ++ T).take (((B.length : Int) + 15).toNat)).drop ((B.length : Int).toNat) = C:=by
  rw [show ((B.length : Int) + 15).toNat = (B ++ C).length by simp [c];omega,List.take_left,Int.toNat_natCast,List.drop_left]
 have hcrc : Ev (fun k => spec_Crc15.f k (strOfNums B)) (crcS B):=by
  have h2:=specCrc15_ev (strOfNums B) (by rw [strOfNums_size];omega)
  have : crcV (strOfNums B) = crcS B:=by
   unfold crcV
   rw [if_pos ⟨by rw [strOfNums_size];omega,isBits_str hB⟩,bytes_str B hB.range,crcS_crcL hB]
  rw [this] at h2
  exact h2
 refine Ev.step (f:=fun k => (spec_Crc15.f k (strOfNums B)).bind fun t285 => (spec_l1val.f k (strOfNums C)).bind fun t287 => some (t285 == t287)) (fun k => ?_) (Ev.bind hcrc (Ev.bind (val_ev C hC (by omega)) (Ev.now _)))
 simp only [spec_l1crcOk.j0]
 rw [if_neg (by decide),if_pos (by omega),if_pos (by omega),w15,t1]
 congr 1
 funext t285
 rw [if_pos (by omega),if_pos (by omega),t2]
theorem look_ev {p : List Int} {c : Int × Int × Int × Bool × Int × Bool × Int × List Int} {m : Int} (h : Ph p c m) (hp : Bits p) (s : WS) (hs : core s = c) (hm : s.sum = m) (b : Int) (hb : b = 48 ∨ b = 49) : Ev (fun k => spec_l1look.f k p b) (codeL s (b - 48)):=by
 have hf:=field_ev h hp
 have hfs : s.field = c.1:=by rw [← hs];rfl
 rw [← hfs] at hf
 unfold spec_l1look.f codeL
 refine Ev.bind hf ?_
 by_cases c1 : s.field = 1
 ·refine ev_pos c1 ?_
  rw [if_pos c1]
  rcases hb with rfl | rfl
  ·exact ev_neg (by decide) (Ev.now _)
  ·exact ev_pos rfl (Ev.now _)
 refine ev_neg c1 ?_
 rw [if_neg c1]
 by_cases c11 : s.field = 11
 ·refine ev_pos c11 ?_
  rw [if_pos c11]
  rcases hb with rfl | rfl
  ·exact ev_pos rfl (Ev.now _)
  ·exact ev_neg (by decide) (Ev.now _)
 refine ev_neg c11 ?_
 rw [if_neg c11]
 by_cases c13 : s.field = 13
 ·refine ev_pos c13 ?_
  rw [if_pos c13]
  rcases hb with rfl | rfl
  ·exact ev_pos rfl (Ev.now _)
  ·refine ev_neg (by decide) ?_
   have hk : Ev (fun k => spec_l1crcOk.f k p) (crcOkW s):=by
    cases h with
    | del H D X C T e r i h d x cc t =>
     have hC:=core_is hs hm
     have:=crcOk_full h d x cc (by omega) hp
     have e1 : crcOkW s = (crcS (H ++ D ++ X) == V C):=by unfold crcOkW;rw [hC.m,hC.g,c13];rfl
     rw [e1];exact this
    | _ => exfalso;first | (have:=(core_is hs hm).f;omega) | omega
   refine Ev.bind hk ?_
   cases hw : crcOkW s with
   | true => exact ev_pos rfl (Ev.now _)
   | false => exact ev_neg (by decide) (Ev.now _)
 refine ev_neg c13 ?_
 rw [if_neg c13]
 by_cases c14 : s.field = 14
 ·refine ev_pos c14 ?_
  rw [if_pos c14]
  cases h with
  | eof H D X C T e r i h d x cc t3 t =>
   have hC:=core_is hs hm
   have hD : Bits D:=bits_len hp D (fun x hx => by simp [hx])
   have hl:=hd_len h
   have hH : H.length = 15 ∨ H.length = 35:=by rw [hl];split <;> omega
   have hr:=dataB_range (r:=r) (V_range hD).1
   have hlay:=lay_full (R:=X ++ C ++ T) h d hD (by simp;omega)
   rw [← List.append_assoc, ← List.append_assoc] at hlay
   have hlen : ((H ++ D ++ X ++ C ++ T).length : Int) = (H.length : Int) + 4 + 8 * dataB r (V D) + 15 + T.length:=by simp [d,cc];omega
   have hleft:=hC.l
   refine Ev.bind hlay ?_
   simp only []
   have ew : wrap64 (wrap64 (((H ++ D ++ X ++ C ++ T).length : Int) - ((H.length : Int) + 4 + 8 * dataB r (V D))) - 18) = (T.length : Int) - 3:=by unfold wrap64;omega
   rw [ew]
   by_cases c6 : (T.length : Int) - 3 < 6
   ·refine ev_pos c6 ?_
    rcases hb with rfl | rfl
    ·refine Ev.step (f:=fun _ => some 4) (fun k => ?_) ?_
     ·simp only [spec_l1look.j0];rw [if_pos (by decide)]
     ·rw [if_pos ⟨by omega,by decide⟩];exact Ev.now _
    ·rw [if_neg (by omega)]
     by_cases c5 : (T.length : Int) - 3 = 5
     ·refine Ev.step (f:=fun _ => some 1) (fun k => ?_) ?_
      ·simp only [spec_l1look.j0];rw [if_neg (by decide),if_pos c5]
      ·rw [if_pos (by omega)];exact Ev.now _
     ·refine Ev.step (f:=fun k => spec_l1look.j1 k ((T.length : Int) - 3) false) (fun k => ?_) (Ev.step (f:=fun _ => some 0) (fun k => ?_) ?_)
      ·simp only [spec_l1look.j0];rw [if_neg (by decide),if_neg c5,if_neg (by omega)]
      ·simp only [spec_l1look.j1];rw [if_neg (by decide),if_neg (by omega)]
      ·rw [if_neg (by omega),if_neg (by omega),if_neg (by omega)];exact Ev.now _
   ·refine ev_neg c6 ?_
    have c7 : (T.length : Int) - 3 = 6:=by omega
    refine Ev.step (f:=fun k => spec_l1look.j1 k ((T.length : Int) - 3) (b == 48)) (fun k => ?_) ?_
    ·simp only [spec_l1look.j0];rw [if_neg (by decide),if_neg (by omega),if_pos c7]
    ·rcases hb with rfl | rfl
     ·refine Ev.step (f:=fun _ => some 6) (fun k => ?_) ?_
      ·simp only [spec_l1look.j1];rw [if_pos (by decide)]
      ·rw [if_neg (by omega),if_neg (by omega),if_pos ⟨by omega,by decide⟩];exact Ev.now _
     ·refine Ev.step (f:=fun _ => some 2) (fun k => ?_) ?_
      ·simp only [spec_l1look.j1];rw [if_neg (by decide),if_pos c7]
      ·rw [if_neg (by omega),if_neg (by omega),if_neg (by omega),if_pos (by omega)];exact Ev.now _
  | del H D X C T e r i h d x cc t => exfalso;have:=(core_is hs hm).f;omega
  | _ => exfalso;first | (have:=(core_is hs hm).f;omega) | omega
 ·refine ev_neg c14 ?_
  rw [if_neg c14]
  exact Ev.now _
end Go.Proofs.YtdoclpgciadjaaaDoor.P
