/- Texts of the proof of FnExactSpans, joined. -/
import Derived.Test.YtdoclpgciadjaaaSFnExactSpans21
import Derived.Lib.Hide
import Derived.Laws.RangeAny
import Derived.Lib.OthersKept
import Derived.Test.YtdoclpgciadjaaaSFnExactSpans0
import Derived.Laws.MakeOwn
import Derived.Lib.ConvBytes
import Derived.Test.YtdoclpgciadjaaaSFnExactSpans22
import Derived.Deep.QuietTactic
import Derived.BigQuiet
namespace Go.Proofs.Ytdoclpgciadjaaa.P
open Go.RowKit Go.Proofs.YtdoclpgciadjaaaW.PrintWords Go.Proofs.YtdoclpgciadjaaaW.PrintLast Go.Proofs.YtdoclpgciadjaaaW.PrintMore
set_option linter.unusedVariables false
set_option linter.unusedSimpArgs false
def spec_l1due.f (l0 : List Int) (a1 : Int) : Option (Bool):=if a1 < 5 then (some false) else (if 0 ≤ (wrap64 (a1 - 1)) then (if (wrap64 (a1 - 1)) < (l0.length : Int) then (if 0 ≤ (wrap64 (a1 - 2)) then (if (wrap64 (a1 - 2)) < (l0.length : Int) then (if (rd l0 (wrap64 (a1 - 1))) = (rd l0 (wrap64 (a1 - 2))) then (if 0 ≤ (wrap64 (a1 - 3)) then (if (wrap64 (a1 - 3)) < (l0.length : Int) then (if (rd l0 (wrap64 (a1 - 2))) = (rd l0 (wrap64 (a1 - 3))) then (if 0 ≤ (wrap64 (a1 - 4)) then (if (wrap64 (a1 - 4)) < (l0.length : Int) then (if (rd l0 (wrap64 (a1 - 3))) = (rd l0 (wrap64 (a1 - 4))) then (if 0 ≤ (wrap64 (a1 - 5)) then (if (wrap64 (a1 - 5)) < (l0.length : Int) then (some ((rd l0 (wrap64 (a1 - 4))) == (rd l0 (wrap64 (a1 - 5))))) else (none)) else (none)) else (some false)) else (none)) else (none)) else (some false)) else (none)) else (none)) else (some false)) else (none)) else (none)) else (none)) else (none))
set_option maxHeartbeats 8000000 in
set_option maxRecDepth 100000 in
theorem spec_l1due.calls (A0 : Option Addr) (c0 : Nat) (l0 : List Int) (a1 : Int) (r : Bool) (w : World) (hr0 : Kd.C (Kd.int .u8) w A0 l0.length l0) (hc0 : l0.length ≤ c0) (h : spec_l1due.f l0 a1 = some r) :
  Calls Try.prog 139 #[.slice A0 l0.length c0, .int .i64 a1] w fun e w' => e = .returned (.bool r) ∧ Drawn0 w w':=by
 have HR0:=Aside0.mk hr0
 have HC0:=Aside0.mk hc0
 clear hr0 hc0
 have H : (if a1 < 5 then (some false) else (if 0 ≤ (wrap64 (a1 - 1)) then (if (wrap64 (a1 - 1)) < (l0.length : Int) then (if 0 ≤ (wrap64 (a1 - 2)) then (if (wrap64 (a1 - 2)) < (l0.length : Int) then (if (rd l0 (wrap64 (a1 - 1))) = (rd l0 (wrap64 (a1 - 2))) then (if 0 ≤ (wrap64 (a1 - 3)) then (if (wrap64 (a1 - 3)) < (l0.length : Int) then (if (rd l0 (wrap64 (a1 - 2))) = (rd l0 (wrap64 (a1 - 3))) then (if 0 ≤ (wrap64 (a1 - 4)) then (if (wrap64 (a1 - 4)) < (l0.length : Int) then (if (rd l0 (wrap64 (a1 - 3))) = (rd l0 (wrap64 (a1 - 4))) then (if 0 ≤ (wrap64 (a1 - 5)) then (if (wrap64 (a1 - 5)) < (l0.length : Int) then (some ((rd l0 (wrap64 (a1 - 4))) == (rd l0 (wrap64 (a1 - 5))))) else (none)) else (none)) else (some false)) else (none)) else (none)) else (some false)) else (none)) else (none)) else (some false)) else (none)) else (none)) else (none)) else (none))) = some r:=h
 clear h
 by_cases c3 : a1 < 5
 ·rw [if_pos c3] at H
  have c3b0 : decide (a1 < 5) = true:=decide_eq_true c3
  clear c3
  obtain rfl:=Option.some.inj H
  go_enter Try.func139,Try.ntmps139
  go_wp2
  repeat (go_quiet (fail);try go_wp2)
  go_ret
  exact ⟨by first | rfl | (simp;done) | (simp [*];done),by repeat (first | exact Drawn0.refl _ | apply Drawn0.step)⟩
 ·rw [if_neg c3] at H
  have c3b0 : decide (a1 < 5) = false:=decide_eq_false c3
  clear c3
  obtain ⟨ji4,hji4⟩ : ∃ j_ : Int,(wrap64 (a1 - 1)) = j_:=⟨_,rfl⟩
  replace H : (if 0 ≤ (ji4) then (if (ji4) < (l0.length : Int) then (if 0 ≤ (wrap64 (a1 - 2)) then (if (wrap64 (a1 - 2)) < (l0.length : Int) then (if (rd l0 (ji4)) = (rd l0 (wrap64 (a1 - 2))) then (if 0 ≤ (wrap64 (a1 - 3)) then (if (wrap64 (a1 - 3)) < (l0.length : Int) then (if (rd l0 (wrap64 (a1 - 2))) = (rd l0 (wrap64 (a1 - 3))) then (if 0 ≤ (wrap64 (a1 - 4)) then (if (wrap64 (a1 - 4)) < (l0.length : Int) then (if (rd l0 (wrap64 (a1 - 3))) = (rd l0 (wrap64 (a1 - 4))) then (if 0 ≤ (wrap64 (a1 - 5)) then (if (wrap64 (a1 - 5)) < (l0.length : Int) then (some ((rd l0 (wrap64 (a1 - 4))) == (rd l0 (wrap64 (a1 - 5))))) else (none)) else (none)) else (some false)) else (none)) else (none)) else (some false)) else (none)) else (none)) else (some false)) else (none)) else (none)) else (none)) else (none)) = some r:=by first | (rw [hji4] at H;exact H) | (simp only [hji4] at H ⊢;exact H)
  have hji4w : (IntKind.i64.wrap (a1 - 1)) = ji4:=(i64_w _).trans hji4
  by_cases c5 : 0 ≤ (ji4)
  ·rw [if_pos c5] at H
   have c5b0 : decide (0 ≤ (ji4)) = true:=decide_eq_true c5
   clear c5
   by_cases c6 : (ji4) < (l0.length : Int)
   ·rw [if_pos c6] at H
    have c6b0 : decide ((ji4) < (l0.length : Int)) = true:=decide_eq_true c6
    clear c6
    obtain ⟨ji7,hji7⟩ : ∃ j_ : Int,(wrap64 (a1 - 2)) = j_:=⟨_,rfl⟩
    replace H : (if 0 ≤ (ji7) then (if (ji7) < (l0.length : Int) then (if (rd l0 (ji4)) = (rd l0 (ji7)) then (if 0 ≤ (wrap64 (a1 - 3)) then (if (wrap64 (a1 - 3)) < (l0.length : Int) then (if (rd l0 (ji7)) = (rd l0 (wrap64 (a1 - 3))) then (if 0 ≤ (wrap64 (a1 - 4)) then (if (wrap64 (a1 - 4)) < (l0.length : Int) then (if (rd l0 (wrap64 (a1 - 3))) = (rd l0 (wrap64 (a1 - 4))) then (if 0 ≤ (wrap64 (a1 - 5)) then (if (wrap64 (a1 - 5)) < (l0.length : Int) then (some ((rd l0 (wrap64 (a1 - 4))) == (rd l0 (wrap64 (a1 - 5))))) else (none)) else (none)) else (some false)) else (none)) else (none)) else (some false)) else (none)) else (none)) else (some false)) else (none)) else (none)) = some r:=by first | (rw [hji7] at H;exact H) | (simp only [hji7] at H ⊢;exact H)
    have hji7w : (IntKind.i64.wrap (a1 - 2)) = ji7:=(i64_w _).trans hji7
    by_cases c8 : 0 ≤ (ji7)
    ·rw [if_pos c8] at H
     have c8b0 : decide (0 ≤ (ji7)) = true:=decide_eq_true c8
     clear c8
     by_cases c9 : (ji7) < (l0.length : Int)
     ·rw [if_pos c9] at H
      have c9b0 : decide ((ji7) < (l0.length : Int)) = true:=decide_eq_true c9
      clear c9
      by_cases c10 : (rd l0 (ji4)) = (rd l0 (ji7))
      ·rw [if_pos c10] at H
       have c10b0 : ((rd l0 (ji4)) == (rd l0 (ji7))) = true:=beq_iff_eq.mpr c10
       have c10b1 : ((rd l0 (ji4)) != (rd l0 (ji7))) = false:=bne_eq_false_iff_eq.mpr c10
       clear c10
       obtain ⟨ji11,hji11⟩ : ∃ j_ : Int,(wrap64 (a1 - 3)) = j_:=⟨_,rfl⟩
       replace H : (if 0 ≤ (ji11) then (if (ji11) < (l0.length : Int) then (if (rd l0 (ji7)) = (rd l0 (ji11)) then (if 0 ≤ (wrap64 (a1 - 4)) then (if (wrap64 (a1 - 4)) < (l0.length : Int) then (if (rd l0 (ji11)) = (rd l0 (wrap64 (a1 - 4))) then (if 0 ≤ (wrap64 (a1 - 5)) then (if (wrap64 (a1 - 5)) < (l0.length : Int) then (some ((rd l0 (wrap64 (a1 - 4))) == (rd l0 (wrap64 (a1 - 5))))) else (none)) else (none)) else (some false)) else (none)) else (none)) else (some false)) else (none)) else (none)) = some r:=by first | (rw [hji11] at H;exact H) | (simp only [hji11] at H ⊢;exact H)
       have hji11w : (IntKind.i64.wrap (a1 - 3)) = ji11:=(i64_w _).trans hji11
       by_cases c12 : 0 ≤ (ji11)
       ·rw [if_pos c12] at H
        have c12b0 : decide (0 ≤ (ji11)) = true:=decide_eq_true c12
        clear c12
        by_cases c13 : (ji11) < (l0.length : Int)
        ·rw [if_pos c13] at H
         have c13b0 : decide ((ji11) < (l0.length : Int)) = true:=decide_eq_true c13
         clear c13
         by_cases c14 : (rd l0 (ji7)) = (rd l0 (ji11))
         ·rw [if_pos c14] at H
          have c14b0 : ((rd l0 (ji7)) == (rd l0 (ji11))) = true:=beq_iff_eq.mpr c14
          have c14b1 : ((rd l0 (ji7)) != (rd l0 (ji11))) = false:=bne_eq_false_iff_eq.mpr c14
          clear c14
          obtain ⟨ji15,hji15⟩ : ∃ j_ : Int,(wrap64 (a1 - 4)) = j_:=⟨_,rfl⟩
          replace H : (if 0 ≤ (ji15) then (if (ji15) < (l0.length : Int) then (if (rd l0 (ji11)) = (rd l0 (ji15)) then (if 0 ≤ (wrap64 (a1 - 5)) then (if (wrap64 (a1 - 5)) < (l0.length : Int) then (some ((rd l0 (ji15)) == (rd l0 (wrap64 (a1 - 5))))) else (none)) else (none)) else (some false)) else (none)) else (none)) = some r:=by first | (rw [hji15] at H;exact H) | (simp only [hji15] at H ⊢;exact H)
          have hji15w : (IntKind.i64.wrap (a1 - 4)) = ji15:=(i64_w _).trans hji15
          by_cases c16 : 0 ≤ (ji15)
          ·rw [if_pos c16] at H
           have c16b0 : decide (0 ≤ (ji15)) = true:=decide_eq_true c16
           clear c16
           by_cases c17 : (ji15) < (l0.length : Int)
           ·rw [if_pos c17] at H
            have c17b0 : decide ((ji15) < (l0.length : Int)) = true:=decide_eq_true c17
            clear c17
            by_cases c18 : (rd l0 (ji11)) = (rd l0 (ji15))
            ·rw [if_pos c18] at H
             have c18b0 : ((rd l0 (ji11)) == (rd l0 (ji15))) = true:=beq_iff_eq.mpr c18
             have c18b1 : ((rd l0 (ji11)) != (rd l0 (ji15))) = false:=bne_eq_false_iff_eq.mpr c18
             clear c18
             obtain ⟨ji19,hji19⟩ : ∃ j_ : Int,(wrap64 (a1 - 5)) = j_:=⟨_,rfl⟩
             replace H : (if 0 ≤ (ji19) then (if (ji19) < (l0.length : Int) then (some ((rd l0 (ji15)) == (rd l0 (ji19)))) else (none)) else (none)) = some r:=by first | (rw [hji19] at H;exact H) | (simp only [hji19] at H ⊢;exact H)
             have hji19w : (IntKind.i64.wrap (a1 - 5)) = ji19:=(i64_w _).trans hji19
             by_cases c20 : 0 ≤ (ji19)
             ·rw [if_pos c20] at H
              have c20b0 : decide (0 ≤ (ji19)) = true:=decide_eq_true c20
              clear c20
              by_cases c21 : (ji19) < (l0.length : Int)
              ·rw [if_pos c21] at H
               have c21b0 : decide ((ji19) < (l0.length : Int)) = true:=decide_eq_true c21
               clear c21
               obtain rfl:=Option.some.inj H
               have p154 : 0 ≤ ((ji4) : Int):=of_decide_eq_true (by first | (with_reducible assumption) | assumption)
               have q154 : (ji4) < (l0.length : Int):=of_decide_eq_true (by first | (with_reducible assumption) | assumption)
               obtain ⟨ad154,e154,hx154_0⟩:=Kd.at_int HR0.out (ji4) p154 q154
               cases e154
               replace p154:=eq_true p154
               replace q154:=eq_true q154
               have p155 : 0 ≤ ((ji7) : Int):=of_decide_eq_true (by first | (with_reducible assumption) | assumption)
               have q155 : (ji7) < (l0.length : Int):=of_decide_eq_true (by first | (with_reducible assumption) | assumption)
               obtain ⟨ad155,e155,hx155_0⟩:=Kd.at_int HR0.out (ji7) p155 q155
               obtain rfl : ad154 = ad155:=(by injection e155)
               replace p155:=eq_true p155
               replace q155:=eq_true q155
               have p156 : 0 ≤ ((ji7) : Int):=of_decide_eq_true (by first | (with_reducible assumption) | assumption)
               have q156 : (ji7) < (l0.length : Int):=of_decide_eq_true (by first | (with_reducible assumption) | assumption)
               obtain ⟨ad156,e156,hx156_0⟩:=Kd.at_int HR0.out (ji7) p156 q156
               obtain rfl : ad154 = ad156:=(by injection e156)
               replace p156:=eq_true p156
               replace q156:=eq_true q156
               have p157 : 0 ≤ ((ji11) : Int):=of_decide_eq_true (by first | (with_reducible assumption) | assumption)
               have q157 : (ji11) < (l0.length : Int):=of_decide_eq_true (by first | (with_reducible assumption) | assumption)
               obtain ⟨ad157,e157,hx157_0⟩:=Kd.at_int HR0.out (ji11) p157 q157
               obtain rfl : ad154 = ad157:=(by injection e157)
               replace p157:=eq_true p157
               replace q157:=eq_true q157
               have p158 : 0 ≤ ((ji11) : Int):=of_decide_eq_true (by first | (with_reducible assumption) | assumption)
               have q158 : (ji11) < (l0.length : Int):=of_decide_eq_true (by first | (with_reducible assumption) | assumption)
               obtain ⟨ad158,e158,hx158_0⟩:=Kd.at_int HR0.out (ji11) p158 q158
               obtain rfl : ad154 = ad158:=(by injection e158)
               replace p158:=eq_true p158
               replace q158:=eq_true q158
               have p159 : 0 ≤ ((ji15) : Int):=of_decide_eq_true (by first | (with_reducible assumption) | assumption)
               have q159 : (ji15) < (l0.length : Int):=of_decide_eq_true (by first | (with_reducible assumption) | assumption)
               obtain ⟨ad159,e159,hx159_0⟩:=Kd.at_int HR0.out (ji15) p159 q159
               obtain rfl : ad154 = ad159:=(by injection e159)
               replace p159:=eq_true p159
               replace q159:=eq_true q159
               have p160 : 0 ≤ ((ji15) : Int):=of_decide_eq_true (by first | (with_reducible assumption) | assumption)
               have q160 : (ji15) < (l0.length : Int):=of_decide_eq_true (by first | (with_reducible assumption) | assumption)
               obtain ⟨ad160,e160,hx160_0⟩:=Kd.at_int HR0.out (ji15) p160 q160
               obtain rfl : ad154 = ad160:=(by injection e160)
               replace p160:=eq_true p160
               replace q160:=eq_true q160
               have p161 : 0 ≤ ((ji19) : Int):=of_decide_eq_true (by first | (with_reducible assumption) | assumption)
               have q161 : (ji19) < (l0.length : Int):=of_decide_eq_true (by first | (with_reducible assumption) | assumption)
               obtain ⟨ad161,e161,hx161_0⟩:=Kd.at_int HR0.out (ji19) p161 q161
               obtain rfl : ad154 = ad161:=(by injection e161)
               replace p161:=eq_true p161
               replace q161:=eq_true q161
               go_enter Try.func139,Try.ntmps139
               go_wp2
               repeat (go_quiet (fail);try go_wp2)
               go_ret
               exact ⟨by first | rfl | (simp;done) | (simp only [← hji4, ← hji7, ← hji11, ← hji15, ← hji19] <;> (first | rfl | simp)) | (simp [*];done),by repeat (first | exact Drawn0.refl _ | apply Drawn0.step)⟩
              ·rw [if_neg c21] at H
               exact absurd H (by simp)
             ·rw [if_neg c20] at H
              exact absurd H (by simp)
            ·rw [if_neg c18] at H
             have c18b0 : ((rd l0 (ji11)) == (rd l0 (ji15))) = false:=beq_eq_false_iff_ne.mpr c18
             have c18b1 : ((rd l0 (ji11)) != (rd l0 (ji15))) = true:=bne_iff_ne.mpr c18
             obtain rfl:=Option.some.inj H
             have p154 : 0 ≤ ((ji4) : Int):=of_decide_eq_true (by first | (with_reducible assumption) | assumption)
             have q154 : (ji4) < (l0.length : Int):=of_decide_eq_true (by first | (with_reducible assumption) | assumption)
             obtain ⟨ad154,e154,hx154_0⟩:=Kd.at_int HR0.out (ji4) p154 q154
             cases e154
             replace p154:=eq_true p154
             replace q154:=eq_true q154
             have p155 : 0 ≤ ((ji7) : Int):=of_decide_eq_true (by first | (with_reducible assumption) | assumption)
             have q155 : (ji7) < (l0.length : Int):=of_decide_eq_true (by first | (with_reducible assumption) | assumption)
             obtain ⟨ad155,e155,hx155_0⟩:=Kd.at_int HR0.out (ji7) p155 q155
             obtain rfl : ad154 = ad155:=(by injection e155)
             replace p155:=eq_true p155
             replace q155:=eq_true q155
             have p156 : 0 ≤ ((ji7) : Int):=of_decide_eq_true (by first | (with_reducible assumption) | assumption)
             have q156 : (ji7) < (l0.length : Int):=of_decide_eq_true (by first | (with_reducible assumption) | assumption)
             obtain ⟨ad156,e156,hx156_0⟩:=Kd.at_int HR0.out (ji7) p156 q156
             obtain rfl : ad154 = ad156:=(by injection e156)
             replace p156:=eq_true p156
             replace q156:=eq_true q156
             have p157 : 0 ≤ ((ji11) : Int):=of_decide_eq_true (by first | (with_reducible assumption) | assumption)
             have q157 : (ji11) < (l0.length : Int):=of_decide_eq_true (by first | (with_reducible assumption) | assumption)
             obtain ⟨ad157,e157,hx157_0⟩:=Kd.at_int HR0.out (ji11) p157 q157
             obtain rfl : ad154 = ad157:=(by injection e157)
             replace p157:=eq_true p157
             replace q157:=eq_true q157
             have p158 : 0 ≤ ((ji11) : Int):=of_decide_eq_true (by first | (with_reducible assumption) | assumption)
             have q158 : (ji11) < (l0.length : Int):=of_decide_eq_true (by first | (with_reducible assumption) | assumption)
             obtain ⟨ad158,e158,hx158_0⟩:=Kd.at_int HR0.out (ji11) p158 q158
             obtain rfl : ad154 = ad158:=(by injection e158)
             replace p158:=eq_true p158
             replace q158:=eq_true q158
             have p159 : 0 ≤ ((ji15) : Int):=of_decide_eq_true (by first | (with_reducible assumption) | assumption)
             have q159 : (ji15) < (l0.length : Int):=of_decide_eq_true (by first | (with_reducible assumption) | assumption)
             obtain ⟨ad159,e159,hx159_0⟩:=Kd.at_int HR0.out (ji15) p159 q159
             obtain rfl : ad154 = ad159:=(by injection e159)
             replace p159:=eq_true p159
             replace q159:=eq_true q159
             go_enter Try.func139,Try.ntmps139
             go_wp2
             repeat (go_quiet (fail);try go_wp2)
             go_ret
             exact ⟨by first | rfl | (simp;done) | (simp only [← hji4, ← hji7, ← hji11, ← hji15] <;> (first | rfl | simp)) | (simp [*];done),by repeat (first | exact Drawn0.refl _ | apply Drawn0.step)⟩
           ·rw [if_neg c17] at H
            exact absurd H (by simp)
          ·rw [if_neg c16] at H
           exact absurd H (by simp)
         ·rw [if_neg c14] at H
          have c14b0 : ((rd l0 (ji7)) == (rd l0 (ji11))) = false:=beq_eq_false_iff_ne.mpr c14
          have c14b1 : ((rd l0 (ji7)) != (rd l0 (ji11))) = true:=bne_iff_ne.mpr c14
          obtain rfl:=Option.some.inj H
          have p154 : 0 ≤ ((ji4) : Int):=of_decide_eq_true (by first | (with_reducible assumption) | assumption)
          have q154 : (ji4) < (l0.length : Int):=of_decide_eq_true (by first | (with_reducible assumption) | assumption)
          obtain ⟨ad154,e154,hx154_0⟩:=Kd.at_int HR0.out (ji4) p154 q154
          cases e154
          replace p154:=eq_true p154
          replace q154:=eq_true q154
          have p155 : 0 ≤ ((ji7) : Int):=of_decide_eq_true (by first | (with_reducible assumption) | assumption)
          have q155 : (ji7) < (l0.length : Int):=of_decide_eq_true (by first | (with_reducible assumption) | assumption)
          obtain ⟨ad155,e155,hx155_0⟩:=Kd.at_int HR0.out (ji7) p155 q155
          obtain rfl : ad154 = ad155:=(by injection e155)
          replace p155:=eq_true p155
          replace q155:=eq_true q155
          have p156 : 0 ≤ ((ji7) : Int):=of_decide_eq_true (by first | (with_reducible assumption) | assumption)
          have q156 : (ji7) < (l0.length : Int):=of_decide_eq_true (by first | (with_reducible assumption) | assumption)
          obtain ⟨ad156,e156,hx156_0⟩:=Kd.at_int HR0.out (ji7) p156 q156
          obtain rfl : ad154 = ad156:=(by injection e156)
          replace p156:=eq_true p156
          replace q156:=eq_true q156
          have p157 : 0 ≤ ((ji11) : Int):=of_decide_eq_true (by first | (with_reducible assumption) | assumption)
          have q157 : (ji11) < (l0.length : Int):=of_decide_eq_true (by first | (with_reducible assumption) | assumption)
          obtain ⟨ad157,e157,hx157_0⟩:=Kd.at_int HR0.out (ji11) p157 q157
          obtain rfl : ad154 = ad157:=(by injection e157)
          replace p157:=eq_true p157
          replace q157:=eq_true q157
          go_enter Try.func139,Try.ntmps139
          go_wp2
          repeat (go_quiet (fail);try go_wp2)
          go_ret
          exact ⟨by first | rfl | (simp;done) | (simp only [← hji4, ← hji7, ← hji11] <;> (first | rfl | simp)) | (simp [*];done),by repeat (first | exact Drawn0.refl _ | apply Drawn0.step)⟩
        ·rw [if_neg c13] at H
         exact absurd H (by simp)
       ·rw [if_neg c12] at H
        exact absurd H (by simp)
      ·rw [if_neg c10] at H
       have c10b0 : ((rd l0 (ji4)) == (rd l0 (ji7))) = false:=beq_eq_false_iff_ne.mpr c10
       have c10b1 : ((rd l0 (ji4)) != (rd l0 (ji7))) = true:=bne_iff_ne.mpr c10
       obtain rfl:=Option.some.inj H
       have p154 : 0 ≤ ((ji4) : Int):=of_decide_eq_true (by first | (with_reducible assumption) | assumption)
       have q154 : (ji4) < (l0.length : Int):=of_decide_eq_true (by first | (with_reducible assumption) | assumption)
       obtain ⟨ad154,e154,hx154_0⟩:=Kd.at_int HR0.out (ji4) p154 q154
       cases e154
       replace p154:=eq_true p154
       replace q154:=eq_true q154
       have p155 : 0 ≤ ((ji7) : Int):=of_decide_eq_true (by first | (with_reducible assumption) | assumption)
       have q155 : (ji7) < (l0.length : Int):=of_decide_eq_true (by first | (with_reducible assumption) | assumption)
       obtain ⟨ad155,e155,hx155_0⟩:=Kd.at_int HR0.out (ji7) p155 q155
       obtain rfl : ad154 = ad155:=(by injection e155)
       replace p155:=eq_true p155
       replace q155:=eq_true q155
       go_enter Try.func139,Try.ntmps139
       go_wp2
       repeat (go_quiet (fail);try go_wp2)
       go_ret
       exact ⟨by first | rfl | (simp;done) | (simp only [← hji4, ← hji7] <;> (first | rfl | simp)) | (simp [*];done),by repeat (first | exact Drawn0.refl _ | apply Drawn0.step)⟩
     ·rw [if_neg c9] at H
      exact absurd H (by simp)
    ·rw [if_neg c8] at H
     exact absurd H (by simp)
   ·rw [if_neg c6] at H
    exact absurd H (by simp)
  ·rw [if_neg c5] at H
   exact absurd H (by simp)
end Go.Proofs.Ytdoclpgciadjaaa.P

namespace Go.Proofs.Ytdoclpgciadjaaa.P
open Go Go.RowKit Go.Proofs.YtdoclpgciadjaaaW.PrintWords
set_option linter.unusedVariables false
def isBit (c : UInt8) : Bool:=c == 48 || c == 49
def isBits (s : ByteArray) : Bool:=s.data.toList.all isBit
def BitsTo (s : ByteArray) (pos : Nat) : Prop := ∀ i (h : i < s.size),i < pos → isBit (s[i]'h) = true
theorem bitsTo_zero (s : ByteArray) : BitsTo s 0:=fun i _ h => absurd h (Nat.not_lt_zero i)
theorem bitsTo_succ {s : ByteArray} {pos : Nat} (h : BitsTo s pos) (hp : pos < s.size) (hb : isBit (s[pos]'hp) = true) : BitsTo s (pos + 1):=by
 intro i hi hlt
 by_cases e : i = pos
 ·subst e;exact hb
 ·exact h i hi (by omega)
theorem isBits_iff (s : ByteArray) : isBits s = true ↔ BitsTo s s.size:=by
 unfold isBits BitsTo
 rw [List.all_eq_true]
 constructor
 ·intro h i hi _
  exact h _ (by show s.data[i] ∈ _;simp)
 ·intro h x hx
  obtain ⟨i,hi,rfl⟩:=List.getElem_of_mem hx
  have hs : i < s.size:=by simpa using hi
  have h2:=h i hs hs
  rw [Array.getElem_toList]
  exact h2
theorem isBits_of (s : ByteArray) {pos : Nat} (hb : BitsTo s pos) (hp : ¬ pos < s.size) : isBits s = true :=
 (isBits_iff s).2 fun i hi _ => hb i hi (by omega)
theorem isBits_not (s : ByteArray) {pos : Nat} (hp : pos < s.size) (hn : isBit (s[pos]'hp) = false) : isBits s = false:=by
 cases h : isBits s with
 | false => rfl
 | true => have:=(isBits_iff s).1 h pos hp hp;rw [this] at hn;cases hn
theorem isBits_at {s : ByteArray} (h : isBits s = true) {pos : Nat} (hp : pos < s.size) : isBit (s[pos]'hp) = true:=(isBits_iff s).1 h pos hp hp
theorem isBit_cases {c : UInt8} (h : isBit c = true) : c = 48 ∨ c = 49:=by
 unfold isBit at h;simpa using h
theorem not_bit {c : UInt8} (h : isBit c = false) : c.toNat ≠ 48 ∧ c.toNat ≠ 49:=by
 unfold isBit at h
 rw [Bool.or_eq_false_iff] at h
 obtain ⟨h1,h2⟩:=h
 rw [beq_eq_false_iff_ne] at h1 h2
 exact ⟨fun e => h1 (UInt8.toNat_inj.1 e),fun e => h2 (UInt8.toNat_inj.1 e)⟩
theorem decode_notBit (s : ByteArray) (pos : Nat) (hp : pos < s.size) (hn : isBit (s[pos]'hp) = false) : ((((Utf8.decode s pos).1 : Nat) : Int) == 48) = false ∧ ((((Utf8.decode s pos).1 : Nat) : Int) == 49) = false:=by
 obtain ⟨h1,h2⟩:=not_bit hn
 by_cases ha : (s[pos]'hp).toNat < 128
 ·rw [decode_ascii s pos hp ha]
  constructor <;> rw [beq_eq_false_iff_ne] <;> simp only <;> omega
 ·have:=(decode_high s pos hp (by omega)).1
  constructor <;> rw [beq_eq_false_iff_ne] <;> omega
theorem next_bit {P : Program} (w : World) (s : ByteArray) (pos : Nat) (ty : TypeId) (hp : pos < s.size) {b : Nat} (hb : (s[pos]'hp).toNat = b) (hlt : b < 128) :
  (Instr.next (.pointer (some ⟨w.heap.size,0,none⟩)) true ty).run P (w.iter s pos) = .ok (.tuple #[.bool true, .int .i64 pos, .int .i32 b]) (w.iter s (pos + 1)):=by
 rw [run_next_ascii w s pos ty hp (by omega),hb]
theorem below_iter (w : World) (s : ByteArray) (pos : Nat) : Below w.heap.size w (w.iter s pos):=(Below.refl _ _).alloc (Nat.le_refl _) _
def crcI (r b : Int) : Int:=if (Go.bits .xor .i64 (Go.bits .and .i64 (r / 16384) 1) b) = 1 then Go.bits .xor .i64 (Go.bits .and .i64 (wrap64 (r * 2)) 32767) 17817 else Go.bits .and .i64 (wrap64 (r * 2)) 32767
def foldTo {α : Type} (f : α → Int → α) (z : α) (s : ByteArray) (pos : Nat) : α:=((bytesOf s).take pos).foldl f z
theorem foldTo_zero {α : Type} (f : α → Int → α) (z : α) (s : ByteArray) : foldTo f z s 0 = z:=by simp [foldTo]
theorem foldTo_succ {α : Type} (f : α → Int → α) (z : α) (s : ByteArray) (pos : Nat) (hp : pos < s.size) {b : Nat} (hb : (s[pos]'hp).toNat = b) : foldTo f z s (pos + 1) = f (foldTo f z s pos) b:=by
 have hl : pos < (bytesOf s).length:=by rw [bytesOf_length];exact hp
 have he : (bytesOf s)[pos]'hl = (b : Int):=by
  have h2 : (bytesOf s)[pos]? = some (b : Int):=by
   unfold bytesOf
   rw [List.getElem?_map,Array.getElem?_toList,Array.getElem?_eq_getElem (show pos < s.data.size from hp), ← hb]
   rfl
  rw [List.getElem?_eq_getElem hl] at h2
  exact Option.some.inj h2
 unfold foldTo
 rw [List.take_succ_eq_append_getElem hl,List.foldl_append,he]
 rfl
theorem foldTo_end {α : Type} (f : α → Int → α) (z : α) (s : ByteArray) (pos : Nat) (hp : ¬ pos < s.size) : foldTo f z s pos = (bytesOf s).foldl f z:=by
 unfold foldTo
 rw [List.take_of_length_le (by rw [bytesOf_length];omega)]
def crcOf (s : ByteArray) : Int:=(bytesOf s).foldl (fun r c => crcI r (c - 48)) 0
def stuffStep (st : List Int × Int × Int) (c : Int) : List Int × Int × Int :=
 if (if c = st.2.2 then st.2.1 + 1 else 1) = 5 then (st.1 ++ [c] ++ [97 - c],1,97 - c) else (st.1 ++ [c],(if c = st.2.2 then st.2.1 + 1 else 1),c)
def stuffTo (s : ByteArray) (pos : Nat) : List Int × Int × Int:=foldTo stuffStep ([],0,120) s pos
def stuffL (l : List Int) : List Int:=(l.foldl stuffStep ([],0,120)).1
theorem stuffTo_zero (s : ByteArray) : stuffTo s 0 = ([],0,120):=foldTo_zero _ _ _
theorem stuffTo_succ (s : ByteArray) (pos : Nat) (hp : pos < s.size) {b : Nat} (hb : (s[pos]'hp).toNat = b) : stuffTo s (pos + 1) = stuffStep (stuffTo s pos) b:=foldTo_succ _ _ _ _ hp hb
theorem stuffTo_end (s : ByteArray) (pos : Nat) (hp : ¬ pos < s.size) : (stuffTo s pos).1 = stuffL (bytesOf s):=by
 unfold stuffTo stuffL;rw [foldTo_end _ _ _ _ hp]
theorem foldTo_over {α : Type} (f : α → Int → α) (z : α) (s : ByteArray) (pos : Nat) (hp : ¬ pos < s.size) : foldTo f z s (pos + 1) = foldTo f z s pos:=by
 rw [foldTo_end _ _ _ _ hp,foldTo_end _ _ _ _ (by omega)]
theorem foldTo_inv {α : Type} (f : α → Int → α) (z : α) (s : ByteArray) (I : Nat → α → Prop) (h0 : I 0 z) (h1 : ∀ n a c,I n a → I (n + 1) (f a c)) (hm : ∀ n a,I n a → I (n + 1) a) (pos : Nat) : I pos (foldTo f z s pos):=by
 induction pos with
 | zero => rw [foldTo_zero];exact h0
 | succ n ih =>
  by_cases hp : n < s.size
  ·rw [foldTo_succ f z s n hp rfl];exact h1 _ _ _ ih
  ·rw [foldTo_over f z s n hp];exact hm _ _ ih
theorem stuffTo_bounds (s : ByteArray) (pos : Nat) : (stuffTo s pos).1.length ≤ 2 * pos ∧ 0 ≤ (stuffTo s pos).2.1 ∧ (stuffTo s pos).2.1 ≤ pos:=by
 refine foldTo_inv stuffStep ([],0,120) s (fun n a => a.1.length ≤ 2 * n ∧ 0 ≤ a.2.1 ∧ a.2.1 ≤ n) ⟨by simp,by simp,by simp⟩ (fun n a c h => ?_) (fun n a h => ⟨by omega,h.2.1,by omega⟩) pos
 obtain ⟨h1,h2,h3⟩:=h
 have hr : 0 ≤ (if c = a.2.2 then a.2.1 + 1 else 1) ∧ (if c = a.2.2 then a.2.1 + 1 else 1) ≤ (n : Int) + 1:=by split <;> omega
 unfold stuffStep
 generalize (if c = a.2.2 then a.2.1 + 1 else 1) = run at *
 split
 ·exact ⟨by simp;omega,by simp,by simp;omega⟩
 ·exact ⟨by simp;omega,hr.1,by have:=hr.2;simp only [];omega⟩
def destuffL : List Int → Int → Int → Int → List Int → List Int × Int
 | [],_,_,_,out => (out, -1)
 | c :: l,i,run,last,out => if run = 5 then (if c = last then (out,i) else destuffL l (i + 1) 1 c out) else destuffL l (i + 1) (if c = last then run + 1 else 1) c (out ++ [c])
theorem drop_cons (s : ByteArray) (pos : Nat) (hp : pos < s.size) {b : Nat} (hb : (s[pos]'hp).toNat = b) : (bytesOf s).drop pos = (b : Int) :: (bytesOf s).drop (pos + 1):=by
 have hl : pos < (bytesOf s).length:=by rw [bytesOf_length];exact hp
 rw [List.drop_eq_getElem_cons hl]
 congr 1
 have h2 : (bytesOf s)[pos]? = some (b : Int):=by
  unfold bytesOf
  rw [List.getElem?_map,Array.getElem?_toList,Array.getElem?_eq_getElem (show pos < s.data.size from hp), ← hb]
  rfl
 rw [List.getElem?_eq_getElem hl] at h2
 exact Option.some.inj h2
theorem drop_end (s : ByteArray) (pos : Nat) (hp : ¬ pos < s.size) : (bytesOf s).drop pos = []:=List.drop_eq_nil_of_le (by rw [bytesOf_length];omega)
structure DesAt (s : ByteArray) (R : List Int × Int) (pos : Nat) (out : List Int) (run last : Int) : Prop where
 eq : destuffL ((bytesOf s).drop pos) pos run last out = R
 len : out.length ≤ pos
 lo : 0 ≤ run
 hi : run ≤ 5
theorem DesAt.zero (s : ByteArray) : DesAt s (destuffL (bytesOf s) 0 0 120 []) 0 [] 0 120:=⟨by rw [List.drop_zero];rfl,by simp,by omega,by omega⟩
theorem DesAt.step {s : ByteArray} {R : List Int × Int} {pos : Nat} {out : List Int} {run last : Int} (h : DesAt s R pos out run last) (hp : pos < s.size) {b : Nat} (hb : (s[pos]'hp).toNat = b) (hr : run ≠ 5) : DesAt s R (pos + 1) (out ++ [(b : Int)]) (if (b : Int) = last then run + 1 else 1) b:=by
 have e:=h.eq
 have h1:=h.len;have h2:=h.lo;have h3:=h.hi
 rw [drop_cons s pos hp hb,destuffL,if_neg hr] at e
 refine ⟨e,by rw [List.length_append];simp;omega, ?_, ?_⟩
 ·split <;> omega
 ·split <;> omega
theorem DesAt.skip {s : ByteArray} {R : List Int × Int} {pos : Nat} {out : List Int} {last : Int} (h : DesAt s R pos out 5 last) (hp : pos < s.size) {b : Nat} (hb : (s[pos]'hp).toNat = b) (hl : (b : Int) ≠ last) : DesAt s R (pos + 1) out 1 b:=by
 have e:=h.eq
 have h1:=h.len
 rw [drop_cons s pos hp hb,destuffL,if_pos rfl,if_neg hl] at e
 exact ⟨e,by omega,by omega,by omega⟩
theorem DesAt.stop {s : ByteArray} {R : List Int × Int} {pos : Nat} {out : List Int} {last : Int} (h : DesAt s R pos out 5 last) (hp : pos < s.size) {b : Nat} (hb : (s[pos]'hp).toNat = b) (hl : (b : Int) = last) : R = (out,(pos : Int)):=by
 have e:=h.eq
 rw [drop_cons s pos hp hb,destuffL,if_pos rfl,if_pos hl] at e
 exact e.symm
theorem DesAt.over {s : ByteArray} {R : List Int × Int} {pos : Nat} {out : List Int} {run last : Int} (h : DesAt s R pos out run last) (hp : ¬ pos < s.size) : R = (out, -1):=by
 have e:=h.eq
 rw [drop_end s pos hp,destuffL] at e
 exact e.symm
end Go.Proofs.Ytdoclpgciadjaaa.P

namespace Go.Proofs.Ytdoclpgciadjaaa.P
open Go Go.RowKit Go.Proofs.YtdoclpgciadjaaaW.PrintWords
set_option linter.unusedVariables false
theorem infoU8 : (Try.prog.info? 5).map (fun i => (i.zero,i.size,i.bytes)) = some (some (.int .u8 0),1,1):=by kernel_rfl
theorem R_iterAt {α : Type} {d : Kd α} {e : Nat} {w : World} {base : Nat} {ok : Nat → Prop} {v : Value} {xs : List α} (h : d.R e w base ok v xs) {k : Nat} {s : ByteArray} {pos : Nat} (hk : w.heap[k]? = some (.stringIter s pos)) (pos' : Nat) :
  d.R e (w.iterAt k s pos') base ok v xs :=
 Kd.R_mono (Kd.R_move (Kd.R_bound h) (fun j hj => by
  obtain ⟨_,_,_,q,_,cells,hc⟩:=hj
  refine Lib.iterAt_other w k j s pos' ?_
  rintro rfl
  rw [hk] at hc
  cases hc)) (fun _ hj => hj.1)
theorem iter_grown {α : Type} {d : Kd α} {e : Nat} {W w1 : World} {base : Nat} {ok : Nat → Prop} {v : Value} {xs : List α} (h : d.R e W base ok v xs) (hg : W.grownBy w1 v.ownBlock) {k : Nat} {s : ByteArray} {pos : Nat} (hk : W.heap[k]? = some (.stringIter s pos)) : w1.heap[k]? = some (.stringIter s pos):=by
 rw [hg.block k (Array.getElem?_eq_some_iff.1 hk).1 ?_,hk]
 intro e1
 obtain ⟨inner,ho⟩:=Kd.R_own h
 obtain ⟨cells,hc⟩:=own_typed ho k e1.symm
 rw [hk] at hc
 cases hc
theorem iter_new (w : World) (s : ByteArray) (pos : Nat) : (w.iter s pos).heap[w.heap.size]? = some (.stringIter s pos):=World.iter_heap w s pos
theorem next_bit_at {P : Program} (w : World) (k : Nat) (s : ByteArray) (pos : Nat) (ty : TypeId) (hk : w.heap[k]? = some (.stringIter s pos)) (hp : pos < s.size) {b : Nat} (hb : (s[pos]'hp).toNat = b) (hlt : b < 128) :
  (Instr.next (.pointer (some ⟨k,0,none⟩)) true ty).run P w = .ok (.tuple #[.bool true, .int .i64 pos, .int .i32 b]) (w.iterAt k s (pos + 1)):=by
 rw [Lib.run_next_ascii_at w k s pos ty hk hp (by omega),hb]
theorem R_iter {α : Type} {d : Kd α} {e : Nat} {w : World} {base : Nat} {ok : Nat → Prop} {v : Value} {xs : List α} (h : d.R e w base ok v xs) (s : ByteArray) (pos : Nat) : d.R e (w.iter s pos) base ok v xs:=Kd.R_below h (below_iter w s pos)
theorem below_bytes {B : Nat} {a w : World} (h : Below B a w) (hB : B ≤ w.heap.size) (e : TypeId) (s : ByteArray) : Below B a (Lib.bytesWorld w e s) :=
 h.trans ⟨rfl,rfl,rfl,by rw [Lib.bytesWorld_size];omega,fun j hj => Lib.bytesWorld_at_old w e s j (by omega)⟩
theorem bytes_C (w : World) (e : TypeId) (s : ByteArray) (hs : s.size ≤ 9223372036854775807) : Kd.C (Kd.int .u8) (Lib.bytesWorld w e s) (some ⟨w.heap.size,0,none⟩) s.size (bytesOf s):=by
 refine ⟨bytesOf_length s,hs,fun _ => ⟨_,rfl,fun j p hj => ⟨[.int .u8 p],rfl,rfl,fun i u hu => ?_⟩⟩⟩
 have hlt : j < s.size:=by have:=(List.getElem?_eq_some_iff.1 hj).1;rw [bytesOf_length] at this;exact this
 have hp : p = ((s.data.toList.getD j 0).toNat : Int):=by
  unfold bytesOf at hj
  rw [List.getElem?_map,Array.getElem?_toList,Array.getElem?_eq_getElem (show j < s.data.size from hlt)] at hj
  rw [List.getD_eq_getElem?_getD,Array.getElem?_toList,Array.getElem?_eq_getElem (show j < s.data.size from hlt)]
  exact (Option.some.inj hj).symm
 match i,hu with
 | 0,hu =>
  obtain rfl:=Option.some.inj hu
  show (Lib.bytesWorld w e s).cell? ((⟨w.heap.size,0,none⟩ : Addr).add (j * 1 + 0)) = _
  rw [add_plain,Nat.mul_one,Nat.add_zero,Lib.bytesWorld_cell w e s j hlt,hp]
theorem C_cell {k : IntKind} {w : World} {g n : Nat} {xs : List Int} (h : (Kd.int k).C w (some ⟨g,0,none⟩) n xs) (i : Nat) (hi : i < n) : w.cell? ⟨g,i,none⟩ = some (.int k (rd xs (i : Int))):=by
 obtain ⟨ad,e,hc⟩:=Kd.at_int h (i : Int) (by omega) (by omega)
 obtain rfl:=Option.some.inj e
 rw [add_plain] at hc
 exact hc
theorem C_block {k : IntKind} {w w' : World} {g n : Nat} {xs : List Int} (h : (Kd.int k).C w (some ⟨g,0,none⟩) n xs) (hb : w'.heap[g]? = w.heap[g]?) : (Kd.int k).C w' (some ⟨g,0,none⟩) n xs:=by
 refine ⟨h.1,h.2.1,fun hn => ?_⟩
 obtain ⟨ad,e,hc⟩:=h.2.2 hn
 obtain rfl:=Option.some.inj e
 refine ⟨_,rfl,fun j p hj => ?_⟩
 obtain ⟨c,h1,h2,h3⟩:=hc j p hj
 refine ⟨c,h1,h2,fun i u hu => ?_⟩
 have:=h3 i u hu
 rw [add_plain] at this ⊢
 rw [← this]
 simp only [World.cell?,hb]
theorem C_kept {k : IntKind} {W w1 : World} {g n : Nat} {xs : List Int} {v : Value} (h : (Kd.int k).C W (some ⟨g,0,none⟩) n xs) (hg : W.grownBy w1 v.ownBlock) (hlt : g < W.heap.size) (hne : ∀ j,v.ownBlock = some j → j ≠ g) : (Kd.int k).C w1 (some ⟨g,0,none⟩) n xs :=
 C_block h (hg.block g hlt (fun e => hne g e.symm rfl))
theorem R_empty {α : Type} (d : Kd α) (w : World) (e base : Nat) (hb : base ≤ w.heap.size) (ok : Nat → Prop) (hok : ok w.heap.size) : d.R e (w.alloc (.cells #[] e)) base ok (.slice (some ⟨w.heap.size,0,none⟩) 0 0) []:=by
 refine ⟨fun k hk => by (obtain rfl : w.heap.size = k:=Option.some.inj hk);exact hok, [],⟨by simp, .inr ⟨w.heap.size,0, #[],rfl,hb, ?_,Nat.le_refl _,by simp [maxLen],by simp,by simp⟩⟩,Reps.none _ _⟩
 exact heap_alloc_new w _
theorem iterPos_at {w : World} {k : Nat} {s : ByteArray} {pos : Nat} (hk : w.heap[k]? = some (.stringIter s pos)) : w.iterPos k = pos:=by
 unfold World.iterPos;rw [hk]
theorem make_R {P : Program} {α : Type} (d : Kd α) (w : World) (base : Nat) (t e : TypeId) (z : Value) (bytes : Nat) (ht : P.underlying t = some (.slice e)) (hinfo : (P.info? e).map (fun i => (i.zero,i.size,i.bytes)) = some (some z,d.sz,bytes)) (c : Nat) (hb : bytes * c ≤ 281474976710656) (h63 : c ≤ maxLen) (hbase : base ≤ w.heap.size) :
  ∃ w' cap,(Instr.makeSlice t (.int .i64 0) (.int .i64 (c : Int))).run P w = .ok (.slice (some ⟨w.heap.size,0,none⟩) 0 cap) w' ∧
   d.R e w' base (fun _ => True) (.slice (some ⟨w.heap.size,0,none⟩) 0 cap) [] ∧ w.grownBy w' none:=by
 obtain ⟨i,hi,hh⟩:=Option.map_eq_some_iff.1 hinfo
 simp only [Prod.mk.injEq] at hh
 obtain ⟨hz,hs,hby⟩:=hh
 obtain ⟨w',h1,h2,h3⟩:=run_make_own (P:=P) w base t e i z d.sz ht hi hz hs .i64 .i64 c (by rw [hby];exact hb) h63 hbase
 exact ⟨w',c,h1,⟨fun _ _ => trivial, [],h2,Reps.none _ _⟩,h3⟩
end Go.Proofs.Ytdoclpgciadjaaa.P

namespace Go.Proofs.Ytdoclpgciadjaaa.P
open Go Go.RowKit Go.Proofs.YtdoclpgciadjaaaW.PrintWords
set_option linter.unusedVariables false
def b2 (b : Bool) : Int:=if b then 1 else 0
theorem w64 {x : Int} (h0 : 0 ≤ x) (h1 : x < 1000000000) : wrap64 x = x:=by unfold wrap64;omega
theorem rd_set (v : List Int) (i : Nat) (x : Int) (t : Nat) (hi : i < v.length) : rd (v.set i x) (t : Int) = if t = i then x else rd v (t : Int):=by
 unfold rd
 rw [Int.toNat_natCast,List.getD_eq_getElem?_getD,List.getD_eq_getElem?_getD,List.getElem?_set]
 by_cases e : i = t
 ·subst e;simp [hi]
 ·rw [if_neg e,if_neg (fun h => e h.symm)]
theorem rd_snoc (v : List Int) (x : Int) (t : Nat) : rd (v ++ [x]) (t : Int) = if t < v.length then rd v t else if t = v.length then x else 0:=by
 unfold rd
 rw [Int.toNat_natCast,List.getD_eq_getElem?_getD,List.getD_eq_getElem?_getD,List.getElem?_append]
 by_cases h : t < v.length
 ·rw [if_pos h,if_pos h]
 ·rw [if_neg h,if_neg h]
  by_cases e : t = v.length
  ·rw [if_pos e,e,Nat.sub_self];rfl
  ·rw [if_neg e,List.getElem?_eq_none (by simp;omega)];rfl
theorem rd_get (v : List Int) (t : Nat) (h : t < v.length) : v[t]? = some (rd v (t : Int)):=by
 unfold rd
 rw [Int.toNat_natCast,List.getD_eq_getElem?_getD,List.getElem?_eq_getElem h];rfl
def SameTo (x l : List Int) (i : Nat) : Prop:=x.length = l.length ∧ ∀ t,t < i → x[t]? = l[t]?
theorem SameTo.zero {x l : List Int} (h : x.length = l.length) : SameTo x l 0:=⟨h,fun t ht => absurd ht (Nat.not_lt_zero t)⟩
theorem SameTo.all {x l : List Int} {i : Nat} (h : SameTo x l i) (hi : l.length ≤ i) : x = l:=by
 apply List.ext_getElem?
 intro t
 by_cases c : t < l.length
 ·exact h.2 t (by omega)
 ·rw [List.getElem?_eq_none (by have:=h.1;omega),List.getElem?_eq_none (by omega)]
theorem SameTo.next {x l : List Int} {i : Nat} (h : SameTo x l i) (hi : i < l.length) : SameTo (x.set i (rd l (i : Int))) l (i + 1):=by
 refine ⟨by rw [List.length_set];exact h.1,fun t ht => ?_⟩
 rw [List.getElem?_set]
 by_cases e : i = t
 ·subst e
  rw [if_pos rfl,if_pos (by have:=h.1;omega),rd_get l i hi]
 ·rw [if_neg e]
  exact h.2 t (by omega)
theorem ev_neg {α : Type} {c : Prop} [Decidable c] {f g : Nat → Option α} {r : α} (h : ¬ c) (k : Ev g r) : Ev (fun n => if c then f n else g n) r :=
 Ev.congr (fun _ => if_neg h) k
theorem ev_pos {α : Type} {c : Prop} [Decidable c] {f g : Nat → Option α} {r : α} (h : c) (k : Ev f r) : Ev (fun n => if c then f n else g n) r :=
 Ev.congr (fun _ => if_pos h) k
theorem ev_some {α β : Type} {a : Option β} {b : β} {f : Nat → β → Option α} {r : α} (h : a = some b) (k : Ev (fun n => f n b) r) : Ev (fun n => a.bind (f n)) r :=
 Ev.congr (fun _ => by rw [h];rfl) k
end Go.Proofs.Ytdoclpgciadjaaa.P

namespace Go.Proofs.Ytdoclpgciadjaaa.P
open Go Go.RowKit Go.Proofs.YtdoclpgciadjaaaW.PrintWords
set_option linter.unusedVariables false
theorem bt_eq (s : ByteArray) (i : Nat) (h : i < s.size) : bt s (i : Int) = ((s[i]'h).toNat : Int):=by
 unfold bt;rw [dif_pos (show (i : Int).toNat < s.size from h)];rfl
theorem bytesOf_get (s : ByteArray) (i : Nat) (h : i < (bytesOf s).length) : (bytesOf s)[i]'h = bt s (i : Int):=by
 have hs : i < s.size:=by rw [bytesOf_length] at h;exact h
 have h2 : (bytesOf s)[i]? = some (bt s (i : Int)):=by
  unfold bytesOf
  rw [List.getElem?_map,Array.getElem?_toList,Array.getElem?_eq_getElem (show i < s.data.size from hs),bt_eq s i hs]
  rfl
 rw [List.getElem?_eq_getElem h] at h2
 exact Option.some.inj h2
theorem okBits_ev (s : ByteArray) (lim : Nat) (hlim : lim < 100000000) :
  Ev (fun k => spec_l1okBits.f k s (lim : Int)) (decide (s.size ≤ lim) && isBits s):=by
 have loop : s.size ≤ lim → ∀ (d i : Nat),i + d = s.size → BitsTo s i → Ev (fun k => spec_l1okBits.l0 k s (i : Int)) (isBits s):=by
  intro hl d
  induction d with
  | zero =>
   intro i hi hb
   refine Ev.step (f:=fun _ => some (isBits s)) (fun k => ?_) (Ev.now _)
   simp only [spec_l1okBits.l0]
   rw [if_neg (by omega),isBits_of s hb (by omega)]
  | succ d ih =>
   intro i hi hb
   have hp : i < s.size:=by omega
   cases hbit : isBit (s[i]'hp) with
   | true =>
    refine Ev.step (f:=fun k => spec_l1okBits.l0 k s ((i + 1 : Nat) : Int)) (fun k => ?_) (ih (i + 1) (by omega) (bitsTo_succ hb hp hbit))
    simp only [spec_l1okBits.l0]
    rw [if_pos (by omega),if_pos (by omega),bt_eq s i hp,w64 (by omega) (by omega)]
    rcases isBit_cases hbit with e | e <;> rw [e]
    ·rw [if_pos (by decide)];rfl
    ·rw [if_neg (by decide),if_pos (by decide)];rfl
   | false =>
    refine Ev.step (f:=fun _ => some (isBits s)) (fun k => ?_) (Ev.now _)
    simp only [spec_l1okBits.l0]
    obtain ⟨h1,h2⟩:=not_bit hbit
    rw [if_pos (by omega),if_pos (by omega),bt_eq s i hp,if_neg (by omega),if_neg (by omega),isBits_not s hp hbit]
 by_cases c : s.size ≤ lim
 ·rw [decide_eq_true c,Bool.true_and]
  refine Ev.congr (fun k => ?_) (loop c s.size 0 (by omega) (bitsTo_zero s))
  unfold spec_l1okBits.f
  rw [if_neg (by omega)];rfl
 ·rw [decide_eq_false c,Bool.false_and]
  refine Ev.congr (f:=fun _ => some false) (fun k => ?_) (Ev.now _)
  unfold spec_l1okBits.f
  rw [if_pos (by omega)]
end Go.Proofs.Ytdoclpgciadjaaa.P

namespace Go.Proofs.Ytdoclpgciadjaaa.P
open Go.RowKit Go.Proofs.YtdoclpgciadjaaaW.PrintWords Go.Proofs.YtdoclpgciadjaaaW.PrintLast Go.Proofs.YtdoclpgciadjaaaW.PrintMore
set_option linter.unusedVariables false
set_option linter.unusedSimpArgs false
def spec_l1walk.tail (k : Nat) (all : List Int) (p : List Int) (i : Nat) (next : Bool → Option (Int × List Int × Bool)) : Option (Int × List Int × Bool) :=
 (spec_l1due.f all ((i + 1 : Nat) : Int)).bind fun d => if d = true then (spec_l1field.f k p).bind fun x => (if x ≤ 10 then next true else next (x == 11)) else next false
def spec_l1walk.l0 : Nat → List Int → Int → List Int → Bool → Nat → Option (Int × List Int × Bool)
 | 0,_,_,_,_,_ => none
 | k + 1,all,code,p,due,i =>
  if i < all.length then
   (if code ≠ 0 ∧ code ≠ 1 then some (7,p,false)
   else if due = true then (if 1 ≤ i then (if rd all (i : Int) = rd all ((i - 1 : Nat) : Int) then spec_l1walk.tail k all p i (fun d => spec_l1walk.l0 k all 3 p d (i + 1)) else spec_l1walk.tail k all p i (fun d => spec_l1walk.l0 k all 0 p d (i + 1))) else none)
   else (spec_l1look.f k p (rd all (i : Int))).bind fun c => spec_l1walk.tail k all (p ++ [rd all (i : Int)]) i (fun d => spec_l1walk.l0 k all c (p ++ [rd all (i : Int)]) d (i + 1)))
  else some (code,p,due)
def spec_l1walk.f (k : Nat) (a0 : ByteArray) : Option (Int × List Int × Bool):=if a0.size ≤ 4000 ∧ isBits a0 = true then spec_l1walk.l0 k (bytesOf a0) 0 [] false 0 else some (8, [],false)
theorem l1walk_okBits (a0 : ByteArray) (w : World) (b : Bool) (hb : (decide (a0.size ≤ 4000) && isBits a0) = b) :
  Calls Try.prog 128 #[.string a0, .int .i64 4000] w fun e w' => e = .returned (.bool b) ∧ Below w.heap.size w w':=by
 obtain ⟨k,hk⟩:=(okBits_ev a0 4000 (by omega)).rounds
 rw [hb] at hk
 exact (spec_l1okBits.calls k a0 4000 b w hk).mono fun e w' ⟨he,hd⟩ => ⟨he,hd.below⟩
theorem l1walk_due {s : ByteArray} {g c : Nat} {i : Int} {w : World} (hC : Kd.C (Kd.int .u8) w (some ⟨g,0,none⟩) s.size (bytesOf s)) (hc : s.size ≤ c) (b : Bool) (h : spec_l1due.f (bytesOf s) i = some b) :
  Calls Try.prog 139 #[.slice (some ⟨g,0,none⟩) s.size c, .int .i64 i] w fun e w' => e = .returned (.bool b) ∧ Drawn0 w w':=by
 have:=spec_l1due.calls (some ⟨g,0,none⟩) c (bytesOf s) i b w (by rw [bytesOf_length];exact hC) (by rw [bytesOf_length];exact hc) h
 rw [bytesOf_length] at this
 exact this
theorem R_readsC {w : World} {e base n c : Nat} {ok : Nat → Prop} {A : Option Addr} {p : List Int} (h : Kd.R (Kd.int .u8) e w base ok (.slice A n c) p) : Kd.C (Kd.int .u8) w A n p ∧ n ≤ c:=by
 have h2:=Kd.R_reads' h
 have hn:=h2.1
 subst hn
 exact ⟨h2.2.2,h2.2.1⟩
theorem l1walk_field {k : Nat} {A : Option Addr} {c n : Nat} {p : List Int} {x : Int} {w : World} (hC : Kd.C (Kd.int .u8) w A n p) (hc : n ≤ c) (h : spec_l1field.f k p = some x) :
  Calls Try.prog 87 #[.slice A n c] w fun e w' => e = .returned (.int .i64 x) ∧ Drawn0 w w':=by
 have hn:=hC.1
 subst hn
 exact spec_l1field.calls k A c p x w hC hc h
inductive TailIs (k : Nat) (all p : List Int) (i : Nat) (next : Bool → Option (Int × List Int × Bool)) (R : Int × List Int × Bool) : Prop
 | off (h : spec_l1due.f all ((i + 1 : Nat) : Int) = some false) (hn : next false = some R)
 | low (h : spec_l1due.f all ((i + 1 : Nat) : Int) = some true) (x : Int) (hx : spec_l1field.f k p = some x) (hl : x ≤ 10) (hn : next true = some R)
 | high (h : spec_l1due.f all ((i + 1 : Nat) : Int) = some true) (x : Int) (hx : spec_l1field.f k p = some x) (hl : ¬ x ≤ 10) (hn : next (x == 11) = some R)
theorem tail_is {k : Nat} {all p : List Int} {i : Nat} {next : Bool → Option (Int × List Int × Bool)} {R : Int × List Int × Bool} (h : spec_l1walk.tail k all p i next = some R) : TailIs k all p i next R:=by
 unfold spec_l1walk.tail at h
 obtain ⟨d,hd,h⟩:=Option.bind_eq_some_iff.1 h
 cases d with
 | false => exact .off hd h
 | true =>
  rw [if_pos rfl] at h
  obtain ⟨x,hx,h⟩:=Option.bind_eq_some_iff.1 h
  by_cases c : x ≤ 10
  ·rw [if_pos c] at h;exact .low hd x hx c h
  ·rw [if_neg c] at h;exact .high hd x hx c h
set_option maxHeartbeats 8000000 in
set_option maxRecDepth 100000 in
theorem spec_l1walk.yes (k : Nat) (a0 : ByteArray) (r1 : Int) (r2 : List Int) (r3 : Bool) (w : World) (hsz : a0.size ≤ 4000) (hB0 : isBits a0 = true) (hR : spec_l1walk.l0 k (bytesOf a0) 0 [] false 0 = some (r1,r2,r3)) :
  Calls Try.prog 86 #[.string a0] w fun e w' => ∃ v2_ : Value,e = .returned (.tuple #[.int .i64 r1,v2_, .bool r3]) ∧ Kd.R (Kd.int .u8) 5 w' w.heap.size (fun _ => True) v2_ r2 ∧ Below w.heap.size w w':=by
 have hbt : Hid ((decide (a0.size ≤ 4000) && isBits a0) = true):=by
  refine Lib.hid ?_
  rw [hB0,decide_eq_true (by omega)];rfl
 have HR:=Lib.hid hR
 clear hB0 hR
 go_enter Try.func86,Try.ntmps86
 go_wp2_with (go_at_call 128;refine (l1walk_okBits a0 _ true hbt.out).mono ?_;rintro e w1 ⟨rfl,hb1⟩;have hcv0:=Lib.run_convert_string_bytes (P:=Try.prog) w1 9 22 5 a0 Try.underlying9 Try.underlying22 Try.underlying5;have HBL : Hid (Below w.heap.size w w1):=Lib.hid (Below.trans ((Below.refl _ _).alloc (Nat.le_refl _) _) (hb1.mono (by simp)));have HB1:=Lib.hid hb1;clear hb1)
 have HCC : Hid (a0.size ≤ grownCap w1 a0.size 0 5):=Lib.hid (grownCap_ge _ _ _ _)
 generalize grownCap w1 a0.size 0 5 = cc at HCC ⊢
 have HLT : Hid (w.heap.size < w1.heap.size):=Lib.hid (by have:=HB1.out.size;simp at this;omega)
 have HR0 : Hid (Kd.R (Kd.int .u8) 5 (Lib.bytesWorld w1 5 a0) w.heap.size (fun k => k ≠ w1.heap.size) (.slice (some ⟨w.heap.size,0,none⟩) 0 0) []):=Lib.hid (Kd.R_below (Kd.R_below (R_empty (Kd.int .u8) w 5 w.heap.size (Nat.le_refl _) (fun k => k ≠ w1.heap.size) (by have:=HLT.out;omega)) HB1.out) (below_bytes (Below.refl _ _) (Nat.le_refl _) 5 a0))
 go_loopw [5,7,8,9] (fun v5 v7 v8 v9 wr => ∃ (kq i : Nat) (p : List Int) (code : Int) (due : Bool),v7 = .int .i64 code ∧ v8 = .bool due ∧ v9 = .int .i64 i ∧ i ≤ a0.size ∧ Aside0 (spec_l1walk.l0 kq (bytesOf a0) code p due i = some (r1,r2,r3)) ∧ Aside0 (p.length ≤ i) ∧ Aside0 (Kd.R (Kd.int .u8) 5 wr w.heap.size (fun k => k ≠ w1.heap.size) v5 p) ∧ Aside0 (Below w.heap.size w wr) ∧ Aside0 (Kd.C (Kd.int .u8) wr (some ⟨w1.heap.size,0,none⟩) a0.size (bytesOf a0)) ∧ Aside0 (w1.heap.size < wr.heap.size)) (fun _ _ _ v9 _ => a0.size - (intOf v9).toNat)
 case atStart => exact ⟨k,0, [],0,false,rfl,rfl,rfl,Nat.zero_le _,⟨HR.out⟩,⟨Nat.le_refl _⟩,⟨HR0.out⟩,⟨below_bytes HBL.out HBL.out.size 5 a0⟩,⟨bytes_C w1 5 a0 (by omega)⟩,⟨by rw [Lib.bytesWorld_size];omega⟩⟩
 case round =>
  obtain ⟨kq,i,p,code,due,rfl,rfl,rfl,hile,HA,HL,HO,HW,HC,HG⟩:=hrel
  obtain ⟨A5,c5,e5⟩:=Kd.R_slice HO.out
  subst e5
  cases kq with
  | zero => exact absurd HA.out (by simp [spec_l1walk.l0])
  | succ kj =>
   have H:=HA.out
   clear HA
   rw [spec_l1walk.l0] at H
   by_cases hp : i < a0.size
   ·rw [if_pos (by rw [bytesOf_length];exact hp)] at H
    have hcell:=C_cell HC.out i hp
    by_cases hcd : code ≠ 0 ∧ code ≠ 1
    ·rw [if_pos hcd] at H
     have hb0 : (code != 0) = true:=by simp [hcd.1]
     have hb1 : (code != 1) = true:=by simp [hcd.2]
     clear hcd
     simp only [Option.some.injEq,Prod.mk.injEq] at H
     obtain ⟨rfl,rfl,rfl⟩:=H
     go_wp2_with (fail)
     go_ret3
     exact ⟨_,rfl,Kd.R_mono HO.out (fun _ _ => trivial),HW.out⟩
    rw [if_neg hcd] at H
    have hcd2 : code = 0 ∨ code = 1:=by omega
    clear hcd
    have HH:=Lib.hid H
    clear H
    rcases hcd2 with rfl | rfl
    ·have hdd : Hid (due = due):=Lib.hid rfl
     cases due with
     | true =>
      have H:=HH.out
      clear HH
      rw [if_pos rfl] at H
      by_cases h1i : 1 ≤ i
      ·rw [if_pos h1i] at H
       have hcell2:=C_cell HC.out (i - 1) (by omega)
       have HW1 : Hid (IntKind.i64.wrap ((i : Int) - 1) = ((i - 1 : Nat) : Int)):=Lib.hid (by rw [IntKind.wrap_i64];omega)
       have HI1 : Hid (i - 1 < a0.size):=Lib.hid (by omega)
       by_cases hx0 : rd (bytesOf a0) (i : Int) = rd (bytesOf a0) ((i - 1 : Nat) : Int)
       ·rw [if_pos hx0] at H
        have hxb : (rd (bytesOf a0) (i : Int) == rd (bytesOf a0) ((i - 1 : Nat) : Int)) = true:=beq_iff_eq.mpr hx0
        have HT:=Lib.hid (tail_is H)
        clear H hx0
        obtain ⟨yy,hyy⟩ : ∃ yy,rd (bytesOf a0) ((i - 1 : Nat) : Int) = yy:=⟨_,rfl⟩
        rw [hyy] at hcell2 hxb
        clear hyy
        go_wp2_with (fail)
        have hi1:=HI1.out
        have hw1:=HW1.out
        go_quiet (fail)
        clear hw1 hi1 hcell2
        generalize hWq : wr.drewN nq = wq
        have HO1 : Hid (Kd.R (Kd.int .u8) 5 wq w.heap.size (fun k => k ≠ w1.heap.size) (.slice A5 p.length c5) p):=Lib.hid (hWq ▸ Kd.R_below HO.out (pw_below_drewN (Below.refl _ _) nq))
        have HW2 : Hid (Below w.heap.size w wq):=Lib.hid (hWq ▸ pw_below_drewN HW.out nq)
        have HC2 : Hid (Kd.C (Kd.int .u8) wq (some ⟨w1.heap.size,0,none⟩) a0.size (bytesOf a0)):=Lib.hid (hWq ▸ Kd.C_below HC.out (pw_below_drewN (Below.refl _ _) nq))
        have HG2 : Hid (w1.heap.size < wq.heap.size):=Lib.hid (hWq ▸ HG.out)
        clear hWq
        cases HT.out with
        | off hd hn =>
         have HD:=Lib.hid (show spec_l1due.f (bytesOf a0) ((i : Int) + 1) = some _ from hd)
         have HN:=Lib.hid hn
         clear hd hn
         go_wp2_with (go_at_call 139;refine (l1walk_due (i:=(i : Int) + 1) (Kd.C_below HC2.out (by repeat (first | exact Below.refl _ _ | apply pw_below_drewN | apply below_drew))) HCC.out _ HD.out).mono ?_;rintro e w' ⟨rfl,⟨nd,rfl⟩⟩)
         go_roundw
         case rel => exact ⟨kj,i + 1,p,3,false,rfl,rfl,by go_num,hp,⟨HN.out⟩,⟨Nat.le_succ_of_le HL.out⟩,⟨Kd.R_below HO1.out (by repeat (first | exact Below.refl _ _ | apply pw_below_drewN | apply below_drew))⟩,⟨by repeat (first | exact HW2.out | apply pw_below_drewN | apply below_drew)⟩,⟨Kd.C_below HC2.out (by repeat (first | exact Below.refl _ _ | apply pw_below_drewN | apply below_drew))⟩,⟨HG2.out⟩⟩
         case measure => simp [intOf];omega
        | low hd x hx hl hn =>
         have HD:=Lib.hid (show spec_l1due.f (bytesOf a0) ((i : Int) + 1) = some _ from hd)
         have HN:=Lib.hid hn
         have HX:=Lib.hid hx
         have hlb : decide (x ≤ 10) = true:=decide_eq_true hl
         clear hd hn hx hl
         go_wp2_with (first | (go_at_call 139;refine (l1walk_due (i:=(i : Int) + 1) (Kd.C_below HC2.out (by repeat (first | exact Below.refl _ _ | apply pw_below_drewN | apply below_drew))) HCC.out _ HD.out).mono ?_;rintro e w' ⟨rfl,⟨nd,rfl⟩⟩) | (go_at_call 87;refine (l1walk_field (k:=kj) (p:=p) (Kd.C_below (Kd.R_reads' HO1.out).2.2 (by repeat (first | exact Below.refl _ _ | apply pw_below_drewN | apply below_drew))) (Kd.R_reads' HO1.out).2.1 HX.out).mono ?_;rintro e w' ⟨rfl,⟨nf,rfl⟩⟩))
         go_roundw
         case rel => exact ⟨kj,i + 1,p,3,true,rfl,rfl,by go_num,hp,⟨HN.out⟩,⟨Nat.le_succ_of_le HL.out⟩,⟨Kd.R_below HO1.out (by repeat (first | exact Below.refl _ _ | apply pw_below_drewN | apply below_drew))⟩,⟨by repeat (first | exact HW2.out | apply pw_below_drewN | apply below_drew)⟩,⟨Kd.C_below HC2.out (by repeat (first | exact Below.refl _ _ | apply pw_below_drewN | apply below_drew))⟩,⟨HG2.out⟩⟩
         case measure => simp [intOf];omega
        | high hd x hx hl hn =>
         have HD:=Lib.hid (show spec_l1due.f (bytesOf a0) ((i : Int) + 1) = some _ from hd)
         have HN:=Lib.hid hn
         have HX:=Lib.hid hx
         have hlb : decide (x ≤ 10) = false:=decide_eq_false hl
         clear hd hn hx hl
         go_wp2_with (first | (go_at_call 139;refine (l1walk_due (i:=(i : Int) + 1) (Kd.C_below HC2.out (by repeat (first | exact Below.refl _ _ | apply pw_below_drewN | apply below_drew))) HCC.out _ HD.out).mono ?_;rintro e w' ⟨rfl,⟨nd,rfl⟩⟩) | (go_at_call 87;refine (l1walk_field (k:=kj) (p:=p) (Kd.C_below (Kd.R_reads' HO1.out).2.2 (by repeat (first | exact Below.refl _ _ | apply pw_below_drewN | apply below_drew))) (Kd.R_reads' HO1.out).2.1 HX.out).mono ?_;rintro e w' ⟨rfl,⟨nf,rfl⟩⟩))
         go_roundw
         case rel => exact ⟨kj,i + 1,p,3,(x == 11),rfl,rfl,by go_num,hp,⟨HN.out⟩,⟨Nat.le_succ_of_le HL.out⟩,⟨Kd.R_below HO1.out (by repeat (first | exact Below.refl _ _ | apply pw_below_drewN | apply below_drew))⟩,⟨by repeat (first | exact HW2.out | apply pw_below_drewN | apply below_drew)⟩,⟨Kd.C_below HC2.out (by repeat (first | exact Below.refl _ _ | apply pw_below_drewN | apply below_drew))⟩,⟨HG2.out⟩⟩
         case measure => simp [intOf];omega
       ·rw [if_neg hx0] at H
        have hxb : (rd (bytesOf a0) (i : Int) == rd (bytesOf a0) ((i - 1 : Nat) : Int)) = false:=beq_eq_false_iff_ne.mpr hx0
        have HT:=Lib.hid (tail_is H)
        clear H hx0
        obtain ⟨yy,hyy⟩ : ∃ yy,rd (bytesOf a0) ((i - 1 : Nat) : Int) = yy:=⟨_,rfl⟩
        rw [hyy] at hcell2 hxb
        clear hyy
        go_wp2_with (fail)
        have hi1:=HI1.out
        have hw1:=HW1.out
        go_quiet (fail)
        clear hw1 hi1 hcell2
        generalize hWq : wr.drewN nq = wq
        have HO1 : Hid (Kd.R (Kd.int .u8) 5 wq w.heap.size (fun k => k ≠ w1.heap.size) (.slice A5 p.length c5) p):=Lib.hid (hWq ▸ Kd.R_below HO.out (pw_below_drewN (Below.refl _ _) nq))
        have HW2 : Hid (Below w.heap.size w wq):=Lib.hid (hWq ▸ pw_below_drewN HW.out nq)
        have HC2 : Hid (Kd.C (Kd.int .u8) wq (some ⟨w1.heap.size,0,none⟩) a0.size (bytesOf a0)):=Lib.hid (hWq ▸ Kd.C_below HC.out (pw_below_drewN (Below.refl _ _) nq))
        have HG2 : Hid (w1.heap.size < wq.heap.size):=Lib.hid (hWq ▸ HG.out)
        clear hWq
        cases HT.out with
        | off hd hn =>
         have HD:=Lib.hid (show spec_l1due.f (bytesOf a0) ((i : Int) + 1) = some _ from hd)
         have HN:=Lib.hid hn
         clear hd hn
         go_wp2_with (go_at_call 139;refine (l1walk_due (i:=(i : Int) + 1) (Kd.C_below HC2.out (by repeat (first | exact Below.refl _ _ | apply pw_below_drewN | apply below_drew))) HCC.out _ HD.out).mono ?_;rintro e w' ⟨rfl,⟨nd,rfl⟩⟩)
         go_roundw
         case rel => exact ⟨kj,i + 1,p,0,false,rfl,rfl,by go_num,hp,⟨HN.out⟩,⟨Nat.le_succ_of_le HL.out⟩,⟨Kd.R_below HO1.out (by repeat (first | exact Below.refl _ _ | apply pw_below_drewN | apply below_drew))⟩,⟨by repeat (first | exact HW2.out | apply pw_below_drewN | apply below_drew)⟩,⟨Kd.C_below HC2.out (by repeat (first | exact Below.refl _ _ | apply pw_below_drewN | apply below_drew))⟩,⟨HG2.out⟩⟩
         case measure => simp [intOf];omega
        | low hd x hx hl hn =>
         have HD:=Lib.hid (show spec_l1due.f (bytesOf a0) ((i : Int) + 1) = some _ from hd)
         have HN:=Lib.hid hn
         have HX:=Lib.hid hx
         have hlb : decide (x ≤ 10) = true:=decide_eq_true hl
         clear hd hn hx hl
         go_wp2_with (first | (go_at_call 139;refine (l1walk_due (i:=(i : Int) + 1) (Kd.C_below HC2.out (by repeat (first | exact Below.refl _ _ | apply pw_below_drewN | apply below_drew))) HCC.out _ HD.out).mono ?_;rintro e w' ⟨rfl,⟨nd,rfl⟩⟩) | (go_at_call 87;refine (l1walk_field (k:=kj) (p:=p) (Kd.C_below (Kd.R_reads' HO1.out).2.2 (by repeat (first | exact Below.refl _ _ | apply pw_below_drewN | apply below_drew))) (Kd.R_reads' HO1.out).2.1 HX.out).mono ?_;rintro e w' ⟨rfl,⟨nf,rfl⟩⟩))
         go_roundw
         case rel => exact ⟨kj,i + 1,p,0,true,rfl,rfl,by go_num,hp,⟨HN.out⟩,⟨Nat.le_succ_of_le HL.out⟩,⟨Kd.R_below HO1.out (by repeat (first | exact Below.refl _ _ | apply pw_below_drewN | apply below_drew))⟩,⟨by repeat (first | exact HW2.out | apply pw_below_drewN | apply below_drew)⟩,⟨Kd.C_below HC2.out (by repeat (first | exact Below.refl _ _ | apply pw_below_drewN | apply below_drew))⟩,⟨HG2.out⟩⟩
         case measure => simp [intOf];omega
        | high hd x hx hl hn =>
         have HD:=Lib.hid (show spec_l1due.f (bytesOf a0) ((i : Int) + 1) = some _ from hd)
         have HN:=Lib.hid hn
         have HX:=Lib.hid hx
         have hlb : decide (x ≤ 10) = false:=decide_eq_false hl
         clear hd hn hx hl
         go_wp2_with (first | (go_at_call 139;refine (l1walk_due (i:=(i : Int) + 1) (Kd.C_below HC2.out (by repeat (first | exact Below.refl _ _ | apply pw_below_drewN | apply below_drew))) HCC.out _ HD.out).mono ?_;rintro e w' ⟨rfl,⟨nd,rfl⟩⟩) | (go_at_call 87;refine (l1walk_field (k:=kj) (p:=p) (Kd.C_below (Kd.R_reads' HO1.out).2.2 (by repeat (first | exact Below.refl _ _ | apply pw_below_drewN | apply below_drew))) (Kd.R_reads' HO1.out).2.1 HX.out).mono ?_;rintro e w' ⟨rfl,⟨nf,rfl⟩⟩))
         go_roundw
         case rel => exact ⟨kj,i + 1,p,0,(x == 11),rfl,rfl,by go_num,hp,⟨HN.out⟩,⟨Nat.le_succ_of_le HL.out⟩,⟨Kd.R_below HO1.out (by repeat (first | exact Below.refl _ _ | apply pw_below_drewN | apply below_drew))⟩,⟨by repeat (first | exact HW2.out | apply pw_below_drewN | apply below_drew)⟩,⟨Kd.C_below HC2.out (by repeat (first | exact Below.refl _ _ | apply pw_below_drewN | apply below_drew))⟩,⟨HG2.out⟩⟩
         case measure => simp [intOf];omega
      ·rw [if_neg h1i] at H
       exact absurd H (by simp)
     | false =>
      have H:=HH.out
      clear HH
      rw [if_neg (by decide)] at H
      obtain ⟨cl,hcl,H⟩:=Option.bind_eq_some_iff.1 H
      have HCL:=Lib.hid hcl
      have HT:=Lib.hid (tail_is H)
      clear H hcl
      cases HT.out with
      | off hd hn =>
       have HD:=Lib.hid (show spec_l1due.f (bytesOf a0) ((i : Int) + 1) = some _ from hd)
       have HN:=Lib.hid hn
       clear hd hn
       go_wp2_with (first | (go_at_call 138;refine (spec_l1look.calls kj A5 c5 p _ cl _ (Kd.R_reads' HO.out).2.2 (Kd.R_reads' HO.out).2.1 HCL.out).mono ?_;rintro e wl ⟨rfl,hbl⟩;have HO1:=Lib.hid (Kd.R_below HO.out hbl);have HW2:=Lib.hid (HW.out.trans (hbl.mono HW.out.size));have HC2:=Lib.hid (Kd.C_below HC.out hbl);have HG2 : Hid (w1.heap.size < wl.heap.size):=Lib.hid (Nat.lt_of_lt_of_le HG.out hbl.size);have hcell:=C_cell HC2.out i hp;clear hbl) | (at_builtin;refine Kd.R_append (Kd.int .u8) (w0:=w) w.heap.size rfl (.tmp 47) (.tmp 52) 22 5 (.int .u8 0) 1 rfl Try.underlying22 infoU8 rfl (by decide) (by omega) _ p (rd (bytesOf a0) (i : Int)) [.int .u8 (rd (bytesOf a0) (i : Int))] (fun k => k ≠ w1.heap.size) (fun _ => False) rfl rfl ?aP (fun _ hk => hk.elim) ?aF ?aO ?aB ?aS ?aL ?_;(case aP => exact rfl);(case aF => exact fun k hk => by have:=HG2.out;omega);(case aO => exact HO1.out);(case aB => exact HW2.out);(case aS => exact HW2.out.size);(case aL => have:=HL.out;omega);intro v1 wA ho1 hb1 hg1 hat1;obtain ⟨g1,cA,ev1, -, -, -, -⟩:=Kd.R_form ho1 (by simp);rw [show (p ++ [rd (bytesOf a0) (i : Int)]).length = p.length + 1 by simp] at ev1;subst ev1;have HO3:=Lib.hid ho1;have HCP:=Lib.hid (R_readsC ho1).1;have HLC:=Lib.hid (R_readsC ho1).2;have HW3:=Lib.hid hb1;have HC3:=Lib.hid (C_kept HC2.out hg1 HG2.out (fun k hk => (HO1.out.1 k hk)));have HG3 : Hid (w1.heap.size < wA.heap.size):=Lib.hid (Nat.lt_of_lt_of_le HG2.out hg1.size);clear ho1 hb1 hg1 hat1) | (go_at_call 139;refine (l1walk_due (i:=(i : Int) + 1) HC3.out HCC.out _ HD.out).mono ?_;rintro e w' ⟨rfl,⟨nd,rfl⟩⟩))
       go_roundw
       case rel => exact ⟨kj,i + 1,_,cl,false,rfl,rfl,by go_num,hp,⟨HN.out⟩,⟨by have:=HL.out;simp;omega⟩,⟨Kd.R_below HO3.out (by repeat (first | exact Below.refl _ _ | apply pw_below_drewN | apply below_drew))⟩,⟨by repeat (first | exact HW3.out | apply pw_below_drewN | apply below_drew)⟩,⟨Kd.C_below HC3.out (by repeat (first | exact Below.refl _ _ | apply pw_below_drewN | apply below_drew))⟩,⟨HG3.out⟩⟩
       case measure => simp [intOf];omega
      | low hd x hx hl hn =>
       have HD:=Lib.hid (show spec_l1due.f (bytesOf a0) ((i : Int) + 1) = some _ from hd)
       have HN:=Lib.hid hn
       have HX:=Lib.hid hx
       have hlb : decide (x ≤ 10) = true:=decide_eq_true hl
       clear hd hn hx hl
       go_wp2_with (first | (go_at_call 138;refine (spec_l1look.calls kj A5 c5 p _ cl _ (Kd.R_reads' HO.out).2.2 (Kd.R_reads' HO.out).2.1 HCL.out).mono ?_;rintro e wl ⟨rfl,hbl⟩;have HO1:=Lib.hid (Kd.R_below HO.out hbl);have HW2:=Lib.hid (HW.out.trans (hbl.mono HW.out.size));have HC2:=Lib.hid (Kd.C_below HC.out hbl);have HG2 : Hid (w1.heap.size < wl.heap.size):=Lib.hid (Nat.lt_of_lt_of_le HG.out hbl.size);have hcell:=C_cell HC2.out i hp;clear hbl) | (at_builtin;refine Kd.R_append (Kd.int .u8) (w0:=w) w.heap.size rfl (.tmp 47) (.tmp 52) 22 5 (.int .u8 0) 1 rfl Try.underlying22 infoU8 rfl (by decide) (by omega) _ p (rd (bytesOf a0) (i : Int)) [.int .u8 (rd (bytesOf a0) (i : Int))] (fun k => k ≠ w1.heap.size) (fun _ => False) rfl rfl ?aP (fun _ hk => hk.elim) ?aF ?aO ?aB ?aS ?aL ?_;(case aP => exact rfl);(case aF => exact fun k hk => by have:=HG2.out;omega);(case aO => exact HO1.out);(case aB => exact HW2.out);(case aS => exact HW2.out.size);(case aL => have:=HL.out;omega);intro v1 wA ho1 hb1 hg1 hat1;obtain ⟨g1,cA,ev1, -, -, -, -⟩:=Kd.R_form ho1 (by simp);rw [show (p ++ [rd (bytesOf a0) (i : Int)]).length = p.length + 1 by simp] at ev1;subst ev1;have HO3:=Lib.hid ho1;have HCP:=Lib.hid (R_readsC ho1).1;have HLC:=Lib.hid (R_readsC ho1).2;have HW3:=Lib.hid hb1;have HC3:=Lib.hid (C_kept HC2.out hg1 HG2.out (fun k hk => (HO1.out.1 k hk)));have HG3 : Hid (w1.heap.size < wA.heap.size):=Lib.hid (Nat.lt_of_lt_of_le HG2.out hg1.size);clear ho1 hb1 hg1 hat1) | (go_at_call 139;refine (l1walk_due (i:=(i : Int) + 1) HC3.out HCC.out _ HD.out).mono ?_;rintro e w' ⟨rfl,⟨nd,rfl⟩⟩) | (go_at_call 87;refine (l1walk_field (k:=kj) (p:=p ++ [rd (bytesOf a0) (i : Int)]) (Kd.C_below HCP.out (by repeat (first | exact Below.refl _ _ | apply pw_below_drewN | apply below_drew))) HLC.out HX.out).mono ?_;rintro e w' ⟨rfl,⟨nf,rfl⟩⟩))
       go_roundw
       case rel => exact ⟨kj,i + 1,_,cl,true,rfl,rfl,by go_num,hp,⟨HN.out⟩,⟨by have:=HL.out;simp;omega⟩,⟨Kd.R_below HO3.out (by repeat (first | exact Below.refl _ _ | apply pw_below_drewN | apply below_drew))⟩,⟨by repeat (first | exact HW3.out | apply pw_below_drewN | apply below_drew)⟩,⟨Kd.C_below HC3.out (by repeat (first | exact Below.refl _ _ | apply pw_below_drewN | apply below_drew))⟩,⟨HG3.out⟩⟩
       case measure => simp [intOf];omega
      | high hd x hx hl hn =>
       have HD:=Lib.hid (show spec_l1due.f (bytesOf a0) ((i : Int) + 1) = some _ from hd)
       have HN:=Lib.hid hn
       have HX:=Lib.hid hx
       have hlb : decide (x ≤ 10) = false:=decide_eq_false hl
       clear hd hn hx hl
       go_wp2_with (first | (go_at_call 138;refine (spec_l1look.calls kj A5 c5 p _ cl _ (Kd.R_reads' HO.out).2.2 (Kd.R_reads' HO.out).2.1 HCL.out).mono ?_;rintro e wl ⟨rfl,hbl⟩;have HO1:=Lib.hid (Kd.R_below HO.out hbl);have HW2:=Lib.hid (HW.out.trans (hbl.mono HW.out.size));have HC2:=Lib.hid (Kd.C_below HC.out hbl);have HG2 : Hid (w1.heap.size < wl.heap.size):=Lib.hid (Nat.lt_of_lt_of_le HG.out hbl.size);have hcell:=C_cell HC2.out i hp;clear hbl) | (at_builtin;refine Kd.R_append (Kd.int .u8) (w0:=w) w.heap.size rfl (.tmp 47) (.tmp 52) 22 5 (.int .u8 0) 1 rfl Try.underlying22 infoU8 rfl (by decide) (by omega) _ p (rd (bytesOf a0) (i : Int)) [.int .u8 (rd (bytesOf a0) (i : Int))] (fun k => k ≠ w1.heap.size) (fun _ => False) rfl rfl ?aP (fun _ hk => hk.elim) ?aF ?aO ?aB ?aS ?aL ?_;(case aP => exact rfl);(case aF => exact fun k hk => by have:=HG2.out;omega);(case aO => exact HO1.out);(case aB => exact HW2.out);(case aS => exact HW2.out.size);(case aL => have:=HL.out;omega);intro v1 wA ho1 hb1 hg1 hat1;obtain ⟨g1,cA,ev1, -, -, -, -⟩:=Kd.R_form ho1 (by simp);rw [show (p ++ [rd (bytesOf a0) (i : Int)]).length = p.length + 1 by simp] at ev1;subst ev1;have HO3:=Lib.hid ho1;have HCP:=Lib.hid (R_readsC ho1).1;have HLC:=Lib.hid (R_readsC ho1).2;have HW3:=Lib.hid hb1;have HC3:=Lib.hid (C_kept HC2.out hg1 HG2.out (fun k hk => (HO1.out.1 k hk)));have HG3 : Hid (w1.heap.size < wA.heap.size):=Lib.hid (Nat.lt_of_lt_of_le HG2.out hg1.size);clear ho1 hb1 hg1 hat1) | (go_at_call 139;refine (l1walk_due (i:=(i : Int) + 1) HC3.out HCC.out _ HD.out).mono ?_;rintro e w' ⟨rfl,⟨nd,rfl⟩⟩) | (go_at_call 87;refine (l1walk_field (k:=kj) (p:=p ++ [rd (bytesOf a0) (i : Int)]) (Kd.C_below HCP.out (by repeat (first | exact Below.refl _ _ | apply pw_below_drewN | apply below_drew))) HLC.out HX.out).mono ?_;rintro e w' ⟨rfl,⟨nf,rfl⟩⟩))
       go_roundw
       case rel => exact ⟨kj,i + 1,_,cl,(x == 11),rfl,rfl,by go_num,hp,⟨HN.out⟩,⟨by have:=HL.out;simp;omega⟩,⟨Kd.R_below HO3.out (by repeat (first | exact Below.refl _ _ | apply pw_below_drewN | apply below_drew))⟩,⟨by repeat (first | exact HW3.out | apply pw_below_drewN | apply below_drew)⟩,⟨Kd.C_below HC3.out (by repeat (first | exact Below.refl _ _ | apply pw_below_drewN | apply below_drew))⟩,⟨HG3.out⟩⟩
       case measure => simp [intOf];omega
    ·have hdd : Hid (due = due):=Lib.hid rfl
     cases due with
     | true =>
      have H:=HH.out
      clear HH
      rw [if_pos rfl] at H
      by_cases h1i : 1 ≤ i
      ·rw [if_pos h1i] at H
       have hcell2:=C_cell HC.out (i - 1) (by omega)
       have HW1 : Hid (IntKind.i64.wrap ((i : Int) - 1) = ((i - 1 : Nat) : Int)):=Lib.hid (by rw [IntKind.wrap_i64];omega)
       have HI1 : Hid (i - 1 < a0.size):=Lib.hid (by omega)
       by_cases hx0 : rd (bytesOf a0) (i : Int) = rd (bytesOf a0) ((i - 1 : Nat) : Int)
       ·rw [if_pos hx0] at H
        have hxb : (rd (bytesOf a0) (i : Int) == rd (bytesOf a0) ((i - 1 : Nat) : Int)) = true:=beq_iff_eq.mpr hx0
        have HT:=Lib.hid (tail_is H)
        clear H hx0
        obtain ⟨yy,hyy⟩ : ∃ yy,rd (bytesOf a0) ((i - 1 : Nat) : Int) = yy:=⟨_,rfl⟩
        rw [hyy] at hcell2 hxb
        clear hyy
        go_wp2_with (fail)
        have hi1:=HI1.out
        have hw1:=HW1.out
        go_quiet (fail)
        clear hw1 hi1 hcell2
        generalize hWq : wr.drewN nq = wq
        have HO1 : Hid (Kd.R (Kd.int .u8) 5 wq w.heap.size (fun k => k ≠ w1.heap.size) (.slice A5 p.length c5) p):=Lib.hid (hWq ▸ Kd.R_below HO.out (pw_below_drewN (Below.refl _ _) nq))
        have HW2 : Hid (Below w.heap.size w wq):=Lib.hid (hWq ▸ pw_below_drewN HW.out nq)
        have HC2 : Hid (Kd.C (Kd.int .u8) wq (some ⟨w1.heap.size,0,none⟩) a0.size (bytesOf a0)):=Lib.hid (hWq ▸ Kd.C_below HC.out (pw_below_drewN (Below.refl _ _) nq))
        have HG2 : Hid (w1.heap.size < wq.heap.size):=Lib.hid (hWq ▸ HG.out)
        clear hWq
        cases HT.out with
        | off hd hn =>
         have HD:=Lib.hid (show spec_l1due.f (bytesOf a0) ((i : Int) + 1) = some _ from hd)
         have HN:=Lib.hid hn
         clear hd hn
         go_wp2_with (go_at_call 139;refine (l1walk_due (i:=(i : Int) + 1) (Kd.C_below HC2.out (by repeat (first | exact Below.refl _ _ | apply pw_below_drewN | apply below_drew))) HCC.out _ HD.out).mono ?_;rintro e w' ⟨rfl,⟨nd,rfl⟩⟩)
         go_roundw
         case rel => exact ⟨kj,i + 1,p,3,false,rfl,rfl,by go_num,hp,⟨HN.out⟩,⟨Nat.le_succ_of_le HL.out⟩,⟨Kd.R_below HO1.out (by repeat (first | exact Below.refl _ _ | apply pw_below_drewN | apply below_drew))⟩,⟨by repeat (first | exact HW2.out | apply pw_below_drewN | apply below_drew)⟩,⟨Kd.C_below HC2.out (by repeat (first | exact Below.refl _ _ | apply pw_below_drewN | apply below_drew))⟩,⟨HG2.out⟩⟩
         case measure => simp [intOf];omega
        | low hd x hx hl hn =>
         have HD:=Lib.hid (show spec_l1due.f (bytesOf a0) ((i : Int) + 1) = some _ from hd)
         have HN:=Lib.hid hn
         have HX:=Lib.hid hx
         have hlb : decide (x ≤ 10) = true:=decide_eq_true hl
         clear hd hn hx hl
         go_wp2_with (first | (go_at_call 139;refine (l1walk_due (i:=(i : Int) + 1) (Kd.C_below HC2.out (by repeat (first | exact Below.refl _ _ | apply pw_below_drewN | apply below_drew))) HCC.out _ HD.out).mono ?_;rintro e w' ⟨rfl,⟨nd,rfl⟩⟩) | (go_at_call 87;refine (l1walk_field (k:=kj) (p:=p) (Kd.C_below (Kd.R_reads' HO1.out).2.2 (by repeat (first | exact Below.refl _ _ | apply pw_below_drewN | apply below_drew))) (Kd.R_reads' HO1.out).2.1 HX.out).mono ?_;rintro e w' ⟨rfl,⟨nf,rfl⟩⟩))
         go_roundw
         case rel => exact ⟨kj,i + 1,p,3,true,rfl,rfl,by go_num,hp,⟨HN.out⟩,⟨Nat.le_succ_of_le HL.out⟩,⟨Kd.R_below HO1.out (by repeat (first | exact Below.refl _ _ | apply pw_below_drewN | apply below_drew))⟩,⟨by repeat (first | exact HW2.out | apply pw_below_drewN | apply below_drew)⟩,⟨Kd.C_below HC2.out (by repeat (first | exact Below.refl _ _ | apply pw_below_drewN | apply below_drew))⟩,⟨HG2.out⟩⟩
         case measure => simp [intOf];omega
        | high hd x hx hl hn =>
         have HD:=Lib.hid (show spec_l1due.f (bytesOf a0) ((i : Int) + 1) = some _ from hd)
         have HN:=Lib.hid hn
         have HX:=Lib.hid hx
         have hlb : decide (x ≤ 10) = false:=decide_eq_false hl
         clear hd hn hx hl
         go_wp2_with (first | (go_at_call 139;refine (l1walk_due (i:=(i : Int) + 1) (Kd.C_below HC2.out (by repeat (first | exact Below.refl _ _ | apply pw_below_drewN | apply below_drew))) HCC.out _ HD.out).mono ?_;rintro e w' ⟨rfl,⟨nd,rfl⟩⟩) | (go_at_call 87;refine (l1walk_field (k:=kj) (p:=p) (Kd.C_below (Kd.R_reads' HO1.out).2.2 (by repeat (first | exact Below.refl _ _ | apply pw_below_drewN | apply below_drew))) (Kd.R_reads' HO1.out).2.1 HX.out).mono ?_;rintro e w' ⟨rfl,⟨nf,rfl⟩⟩))
         go_roundw
         case rel => exact ⟨kj,i + 1,p,3,(x == 11),rfl,rfl,by go_num,hp,⟨HN.out⟩,⟨Nat.le_succ_of_le HL.out⟩,⟨Kd.R_below HO1.out (by repeat (first | exact Below.refl _ _ | apply pw_below_drewN | apply below_drew))⟩,⟨by repeat (first | exact HW2.out | apply pw_below_drewN | apply below_drew)⟩,⟨Kd.C_below HC2.out (by repeat (first | exact Below.refl _ _ | apply pw_below_drewN | apply below_drew))⟩,⟨HG2.out⟩⟩
         case measure => simp [intOf];omega
       ·rw [if_neg hx0] at H
        have hxb : (rd (bytesOf a0) (i : Int) == rd (bytesOf a0) ((i - 1 : Nat) : Int)) = false:=beq_eq_false_iff_ne.mpr hx0
        have HT:=Lib.hid (tail_is H)
        clear H hx0
        obtain ⟨yy,hyy⟩ : ∃ yy,rd (bytesOf a0) ((i - 1 : Nat) : Int) = yy:=⟨_,rfl⟩
        rw [hyy] at hcell2 hxb
        clear hyy
        go_wp2_with (fail)
        have hi1:=HI1.out
        have hw1:=HW1.out
        go_quiet (fail)
        clear hw1 hi1 hcell2
        generalize hWq : wr.drewN nq = wq
        have HO1 : Hid (Kd.R (Kd.int .u8) 5 wq w.heap.size (fun k => k ≠ w1.heap.size) (.slice A5 p.length c5) p):=Lib.hid (hWq ▸ Kd.R_below HO.out (pw_below_drewN (Below.refl _ _) nq))
        have HW2 : Hid (Below w.heap.size w wq):=Lib.hid (hWq ▸ pw_below_drewN HW.out nq)
        have HC2 : Hid (Kd.C (Kd.int .u8) wq (some ⟨w1.heap.size,0,none⟩) a0.size (bytesOf a0)):=Lib.hid (hWq ▸ Kd.C_below HC.out (pw_below_drewN (Below.refl _ _) nq))
        have HG2 : Hid (w1.heap.size < wq.heap.size):=Lib.hid (hWq ▸ HG.out)
        clear hWq
        cases HT.out with
        | off hd hn =>
         have HD:=Lib.hid (show spec_l1due.f (bytesOf a0) ((i : Int) + 1) = some _ from hd)
         have HN:=Lib.hid hn
         clear hd hn
         go_wp2_with (go_at_call 139;refine (l1walk_due (i:=(i : Int) + 1) (Kd.C_below HC2.out (by repeat (first | exact Below.refl _ _ | apply pw_below_drewN | apply below_drew))) HCC.out _ HD.out).mono ?_;rintro e w' ⟨rfl,⟨nd,rfl⟩⟩)
         go_roundw
         case rel => exact ⟨kj,i + 1,p,0,false,rfl,rfl,by go_num,hp,⟨HN.out⟩,⟨Nat.le_succ_of_le HL.out⟩,⟨Kd.R_below HO1.out (by repeat (first | exact Below.refl _ _ | apply pw_below_drewN | apply below_drew))⟩,⟨by repeat (first | exact HW2.out | apply pw_below_drewN | apply below_drew)⟩,⟨Kd.C_below HC2.out (by repeat (first | exact Below.refl _ _ | apply pw_below_drewN | apply below_drew))⟩,⟨HG2.out⟩⟩
         case measure => simp [intOf];omega
        | low hd x hx hl hn =>
         have HD:=Lib.hid (show spec_l1due.f (bytesOf a0) ((i : Int) + 1) = some _ from hd)
         have HN:=Lib.hid hn
         have HX:=Lib.hid hx
         have hlb : decide (x ≤ 10) = true:=decide_eq_true hl
         clear hd hn hx hl
         go_wp2_with (first | (go_at_call 139;refine (l1walk_due (i:=(i : Int) + 1) (Kd.C_below HC2.out (by repeat (first | exact Below.refl _ _ | apply pw_below_drewN | apply below_drew))) HCC.out _ HD.out).mono ?_;rintro e w' ⟨rfl,⟨nd,rfl⟩⟩) | (go_at_call 87;refine (l1walk_field (k:=kj) (p:=p) (Kd.C_below (Kd.R_reads' HO1.out).2.2 (by repeat (first | exact Below.refl _ _ | apply pw_below_drewN | apply below_drew))) (Kd.R_reads' HO1.out).2.1 HX.out).mono ?_;rintro e w' ⟨rfl,⟨nf,rfl⟩⟩))
         go_roundw
         case rel => exact ⟨kj,i + 1,p,0,true,rfl,rfl,by go_num,hp,⟨HN.out⟩,⟨Nat.le_succ_of_le HL.out⟩,⟨Kd.R_below HO1.out (by repeat (first | exact Below.refl _ _ | apply pw_below_drewN | apply below_drew))⟩,⟨by repeat (first | exact HW2.out | apply pw_below_drewN | apply below_drew)⟩,⟨Kd.C_below HC2.out (by repeat (first | exact Below.refl _ _ | apply pw_below_drewN | apply below_drew))⟩,⟨HG2.out⟩⟩
         case measure => simp [intOf];omega
        | high hd x hx hl hn =>
         have HD:=Lib.hid (show spec_l1due.f (bytesOf a0) ((i : Int) + 1) = some _ from hd)
         have HN:=Lib.hid hn
         have HX:=Lib.hid hx
         have hlb : decide (x ≤ 10) = false:=decide_eq_false hl
         clear hd hn hx hl
         go_wp2_with (first | (go_at_call 139;refine (l1walk_due (i:=(i : Int) + 1) (Kd.C_below HC2.out (by repeat (first | exact Below.refl _ _ | apply pw_below_drewN | apply below_drew))) HCC.out _ HD.out).mono ?_;rintro e w' ⟨rfl,⟨nd,rfl⟩⟩) | (go_at_call 87;refine (l1walk_field (k:=kj) (p:=p) (Kd.C_below (Kd.R_reads' HO1.out).2.2 (by repeat (first | exact Below.refl _ _ | apply pw_below_drewN | apply below_drew))) (Kd.R_reads' HO1.out).2.1 HX.out).mono ?_;rintro e w' ⟨rfl,⟨nf,rfl⟩⟩))
         go_roundw
         case rel => exact ⟨kj,i + 1,p,0,(x == 11),rfl,rfl,by go_num,hp,⟨HN.out⟩,⟨Nat.le_succ_of_le HL.out⟩,⟨Kd.R_below HO1.out (by repeat (first | exact Below.refl _ _ | apply pw_below_drewN | apply below_drew))⟩,⟨by repeat (first | exact HW2.out | apply pw_below_drewN | apply below_drew)⟩,⟨Kd.C_below HC2.out (by repeat (first | exact Below.refl _ _ | apply pw_below_drewN | apply below_drew))⟩,⟨HG2.out⟩⟩
         case measure => simp [intOf];omega
      ·rw [if_neg h1i] at H
       exact absurd H (by simp)
     | false =>
      have H:=HH.out
      clear HH
      rw [if_neg (by decide)] at H
      obtain ⟨cl,hcl,H⟩:=Option.bind_eq_some_iff.1 H
      have HCL:=Lib.hid hcl
      have HT:=Lib.hid (tail_is H)
      clear H hcl
      cases HT.out with
      | off hd hn =>
       have HD:=Lib.hid (show spec_l1due.f (bytesOf a0) ((i : Int) + 1) = some _ from hd)
       have HN:=Lib.hid hn
       clear hd hn
       go_wp2_with (first | (go_at_call 138;refine (spec_l1look.calls kj A5 c5 p _ cl _ (Kd.R_reads' HO.out).2.2 (Kd.R_reads' HO.out).2.1 HCL.out).mono ?_;rintro e wl ⟨rfl,hbl⟩;have HO1:=Lib.hid (Kd.R_below HO.out hbl);have HW2:=Lib.hid (HW.out.trans (hbl.mono HW.out.size));have HC2:=Lib.hid (Kd.C_below HC.out hbl);have HG2 : Hid (w1.heap.size < wl.heap.size):=Lib.hid (Nat.lt_of_lt_of_le HG.out hbl.size);have hcell:=C_cell HC2.out i hp;clear hbl) | (at_builtin;refine Kd.R_append (Kd.int .u8) (w0:=w) w.heap.size rfl (.tmp 47) (.tmp 52) 22 5 (.int .u8 0) 1 rfl Try.underlying22 infoU8 rfl (by decide) (by omega) _ p (rd (bytesOf a0) (i : Int)) [.int .u8 (rd (bytesOf a0) (i : Int))] (fun k => k ≠ w1.heap.size) (fun _ => False) rfl rfl ?aP (fun _ hk => hk.elim) ?aF ?aO ?aB ?aS ?aL ?_;(case aP => exact rfl);(case aF => exact fun k hk => by have:=HG2.out;omega);(case aO => exact HO1.out);(case aB => exact HW2.out);(case aS => exact HW2.out.size);(case aL => have:=HL.out;omega);intro v1 wA ho1 hb1 hg1 hat1;obtain ⟨g1,cA,ev1, -, -, -, -⟩:=Kd.R_form ho1 (by simp);rw [show (p ++ [rd (bytesOf a0) (i : Int)]).length = p.length + 1 by simp] at ev1;subst ev1;have HO3:=Lib.hid ho1;have HCP:=Lib.hid (R_readsC ho1).1;have HLC:=Lib.hid (R_readsC ho1).2;have HW3:=Lib.hid hb1;have HC3:=Lib.hid (C_kept HC2.out hg1 HG2.out (fun k hk => (HO1.out.1 k hk)));have HG3 : Hid (w1.heap.size < wA.heap.size):=Lib.hid (Nat.lt_of_lt_of_le HG2.out hg1.size);clear ho1 hb1 hg1 hat1) | (go_at_call 139;refine (l1walk_due (i:=(i : Int) + 1) HC3.out HCC.out _ HD.out).mono ?_;rintro e w' ⟨rfl,⟨nd,rfl⟩⟩))
       go_roundw
       case rel => exact ⟨kj,i + 1,_,cl,false,rfl,rfl,by go_num,hp,⟨HN.out⟩,⟨by have:=HL.out;simp;omega⟩,⟨Kd.R_below HO3.out (by repeat (first | exact Below.refl _ _ | apply pw_below_drewN | apply below_drew))⟩,⟨by repeat (first | exact HW3.out | apply pw_below_drewN | apply below_drew)⟩,⟨Kd.C_below HC3.out (by repeat (first | exact Below.refl _ _ | apply pw_below_drewN | apply below_drew))⟩,⟨HG3.out⟩⟩
       case measure => simp [intOf];omega
      | low hd x hx hl hn =>
       have HD:=Lib.hid (show spec_l1due.f (bytesOf a0) ((i : Int) + 1) = some _ from hd)
       have HN:=Lib.hid hn
       have HX:=Lib.hid hx
       have hlb : decide (x ≤ 10) = true:=decide_eq_true hl
       clear hd hn hx hl
       go_wp2_with (first | (go_at_call 138;refine (spec_l1look.calls kj A5 c5 p _ cl _ (Kd.R_reads' HO.out).2.2 (Kd.R_reads' HO.out).2.1 HCL.out).mono ?_;rintro e wl ⟨rfl,hbl⟩;have HO1:=Lib.hid (Kd.R_below HO.out hbl);have HW2:=Lib.hid (HW.out.trans (hbl.mono HW.out.size));have HC2:=Lib.hid (Kd.C_below HC.out hbl);have HG2 : Hid (w1.heap.size < wl.heap.size):=Lib.hid (Nat.lt_of_lt_of_le HG.out hbl.size);have hcell:=C_cell HC2.out i hp;clear hbl) | (at_builtin;refine Kd.R_append (Kd.int .u8) (w0:=w) w.heap.size rfl (.tmp 47) (.tmp 52) 22 5 (.int .u8 0) 1 rfl Try.underlying22 infoU8 rfl (by decide) (by omega) _ p (rd (bytesOf a0) (i : Int)) [.int .u8 (rd (bytesOf a0) (i : Int))] (fun k => k ≠ w1.heap.size) (fun _ => False) rfl rfl ?aP (fun _ hk => hk.elim) ?aF ?aO ?aB ?aS ?aL ?_;(case aP => exact rfl);(case aF => exact fun k hk => by have:=HG2.out;omega);(case aO => exact HO1.out);(case aB => exact HW2.out);(case aS => exact HW2.out.size);(case aL => have:=HL.out;omega);intro v1 wA ho1 hb1 hg1 hat1;obtain ⟨g1,cA,ev1, -, -, -, -⟩:=Kd.R_form ho1 (by simp);rw [show (p ++ [rd (bytesOf a0) (i : Int)]).length = p.length + 1 by simp] at ev1;subst ev1;have HO3:=Lib.hid ho1;have HCP:=Lib.hid (R_readsC ho1).1;have HLC:=Lib.hid (R_readsC ho1).2;have HW3:=Lib.hid hb1;have HC3:=Lib.hid (C_kept HC2.out hg1 HG2.out (fun k hk => (HO1.out.1 k hk)));have HG3 : Hid (w1.heap.size < wA.heap.size):=Lib.hid (Nat.lt_of_lt_of_le HG2.out hg1.size);clear ho1 hb1 hg1 hat1) | (go_at_call 139;refine (l1walk_due (i:=(i : Int) + 1) HC3.out HCC.out _ HD.out).mono ?_;rintro e w' ⟨rfl,⟨nd,rfl⟩⟩) | (go_at_call 87;refine (l1walk_field (k:=kj) (p:=p ++ [rd (bytesOf a0) (i : Int)]) (Kd.C_below HCP.out (by repeat (first | exact Below.refl _ _ | apply pw_below_drewN | apply below_drew))) HLC.out HX.out).mono ?_;rintro e w' ⟨rfl,⟨nf,rfl⟩⟩))
       go_roundw
       case rel => exact ⟨kj,i + 1,_,cl,true,rfl,rfl,by go_num,hp,⟨HN.out⟩,⟨by have:=HL.out;simp;omega⟩,⟨Kd.R_below HO3.out (by repeat (first | exact Below.refl _ _ | apply pw_below_drewN | apply below_drew))⟩,⟨by repeat (first | exact HW3.out | apply pw_below_drewN | apply below_drew)⟩,⟨Kd.C_below HC3.out (by repeat (first | exact Below.refl _ _ | apply pw_below_drewN | apply below_drew))⟩,⟨HG3.out⟩⟩
       case measure => simp [intOf];omega
      | high hd x hx hl hn =>
       have HD:=Lib.hid (show spec_l1due.f (bytesOf a0) ((i : Int) + 1) = some _ from hd)
       have HN:=Lib.hid hn
       have HX:=Lib.hid hx
       have hlb : decide (x ≤ 10) = false:=decide_eq_false hl
       clear hd hn hx hl
       go_wp2_with (first | (go_at_call 138;refine (spec_l1look.calls kj A5 c5 p _ cl _ (Kd.R_reads' HO.out).2.2 (Kd.R_reads' HO.out).2.1 HCL.out).mono ?_;rintro e wl ⟨rfl,hbl⟩;have HO1:=Lib.hid (Kd.R_below HO.out hbl);have HW2:=Lib.hid (HW.out.trans (hbl.mono HW.out.size));have HC2:=Lib.hid (Kd.C_below HC.out hbl);have HG2 : Hid (w1.heap.size < wl.heap.size):=Lib.hid (Nat.lt_of_lt_of_le HG.out hbl.size);have hcell:=C_cell HC2.out i hp;clear hbl) | (at_builtin;refine Kd.R_append (Kd.int .u8) (w0:=w) w.heap.size rfl (.tmp 47) (.tmp 52) 22 5 (.int .u8 0) 1 rfl Try.underlying22 infoU8 rfl (by decide) (by omega) _ p (rd (bytesOf a0) (i : Int)) [.int .u8 (rd (bytesOf a0) (i : Int))] (fun k => k ≠ w1.heap.size) (fun _ => False) rfl rfl ?aP (fun _ hk => hk.elim) ?aF ?aO ?aB ?aS ?aL ?_;(case aP => exact rfl);(case aF => exact fun k hk => by have:=HG2.out;omega);(case aO => exact HO1.out);(case aB => exact HW2.out);(case aS => exact HW2.out.size);(case aL => have:=HL.out;omega);intro v1 wA ho1 hb1 hg1 hat1;obtain ⟨g1,cA,ev1, -, -, -, -⟩:=Kd.R_form ho1 (by simp);rw [show (p ++ [rd (bytesOf a0) (i : Int)]).length = p.length + 1 by simp] at ev1;subst ev1;have HO3:=Lib.hid ho1;have HCP:=Lib.hid (R_readsC ho1).1;have HLC:=Lib.hid (R_readsC ho1).2;have HW3:=Lib.hid hb1;have HC3:=Lib.hid (C_kept HC2.out hg1 HG2.out (fun k hk => (HO1.out.1 k hk)));have HG3 : Hid (w1.heap.size < wA.heap.size):=Lib.hid (Nat.lt_of_lt_of_le HG2.out hg1.size);clear ho1 hb1 hg1 hat1) | (go_at_call 139;refine (l1walk_due (i:=(i : Int) + 1) HC3.out HCC.out _ HD.out).mono ?_;rintro e w' ⟨rfl,⟨nd,rfl⟩⟩) | (go_at_call 87;refine (l1walk_field (k:=kj) (p:=p ++ [rd (bytesOf a0) (i : Int)]) (Kd.C_below HCP.out (by repeat (first | exact Below.refl _ _ | apply pw_below_drewN | apply below_drew))) HLC.out HX.out).mono ?_;rintro e w' ⟨rfl,⟨nf,rfl⟩⟩))
       go_roundw
       case rel => exact ⟨kj,i + 1,_,cl,(x == 11),rfl,rfl,by go_num,hp,⟨HN.out⟩,⟨by have:=HL.out;simp;omega⟩,⟨Kd.R_below HO3.out (by repeat (first | exact Below.refl _ _ | apply pw_below_drewN | apply below_drew))⟩,⟨by repeat (first | exact HW3.out | apply pw_below_drewN | apply below_drew)⟩,⟨Kd.C_below HC3.out (by repeat (first | exact Below.refl _ _ | apply pw_below_drewN | apply below_drew))⟩,⟨HG3.out⟩⟩
       case measure => simp [intOf];omega
   ·rw [if_neg (by rw [bytesOf_length];exact hp)] at H
    simp only [Option.some.injEq,Prod.mk.injEq] at H
    obtain ⟨rfl,rfl,rfl⟩:=H
    go_wp2_with (fail)
    go_ret3
    exact ⟨_,rfl,Kd.R_mono HO.out (fun _ _ => trivial),HW.out⟩
theorem spec_l1walk.calls (k : Nat) (a0 : ByteArray) (r1 : Int) (r2 : List Int) (r3 : Bool) (w : World) (h : spec_l1walk.f k a0 = some (r1,r2,r3)) :
  Calls Try.prog 86 #[.string a0] w fun e w' => ∃ v2_ : Value,e = .returned (.tuple #[.int .i64 r1,v2_, .bool r3]) ∧ Kd.R (Kd.int .u8) 5 w' w.heap.size (fun _ => True) v2_ r2 ∧ Below w.heap.size w w':=by
 unfold spec_l1walk.f at h
 by_cases c : a0.size ≤ 4000 ∧ isBits a0 = true
 ·rw [if_pos c] at h
  exact spec_l1walk.yes k a0 r1 r2 r3 w c.1 c.2 h
 ·rw [if_neg c] at h
  simp only [Option.some.injEq,Prod.mk.injEq] at h
  obtain ⟨rfl,rfl,rfl⟩:=h
  have hbt : Hid ((decide (a0.size ≤ 4000) && isBits a0) = false):=by
   refine Lib.hid ?_
   rw [Bool.and_eq_false_iff]
   by_cases h : isBits a0 = true
   ·exact .inl (decide_eq_false fun h2 => c ⟨h2,h⟩)
   ·exact .inr (by simpa using h)
  clear c
  go_enter Try.func86,Try.ntmps86
  go_wp2_with (go_at_call 128;refine (l1walk_okBits a0 _ false hbt.out).mono ?_;rintro e w1 ⟨rfl,hb1⟩;have HB1:=Lib.hid hb1;clear hb1)
  go_ret3
  exact ⟨_,rfl,Kd.R_mono (Kd.R_below (R_empty (Kd.int .u8) w 5 w.heap.size (Nat.le_refl _) (fun _ => True) trivial) HB1.out) (fun _ _ => trivial),Below.trans ((Below.refl _ _).alloc (Nat.le_refl _) _) (HB1.out.mono (by simp))⟩
end Go.Proofs.Ytdoclpgciadjaaa.P

namespace Go.Proofs.Ytdoclpgciadjaaa.P
open Go.RowKit Go.Proofs.YtdoclpgciadjaaaW.PrintWords Go.Proofs.YtdoclpgciadjaaaW.PrintLast Go.Proofs.YtdoclpgciadjaaaW.PrintMore
set_option linter.unusedVariables false
set_option linter.unusedSimpArgs false
def spec_Judge.j0 : Nat → Int → List Int → Bool → Bool → Option (Int × Int × Bool × Bool)
 | 0,_,_,_,_ => none
 | k + 1,x3,x4,x5,x17 => if x17 = true then (some (x3,0,false,false)) else ((spec_l1field.f k x4).bind fun t168 => ((spec_l1crcOk.f k x4).bind fun t169 => (some (x3,t168,x5,t169))))
def spec_Judge.f (k : Nat) (a0 : ByteArray) : Option (Int × Int × Bool × Bool):=(spec_l1walk.f k a0).bind fun bt163 => (if bt163.1 = 0 then (spec_Judge.j0 k bt163.1 bt163.2.1 bt163.2.2 false) else (spec_Judge.j0 k bt163.1 bt163.2.1 bt163.2.2 (bt163.1 != 1)))
set_option maxHeartbeats 8000000 in
set_option maxRecDepth 100000 in
theorem spec_Judge.calls (k : Nat) (a0 : ByteArray) (r1 : Int) (r2 : Int) (r3 : Bool) (r4 : Bool) (w : World) (h : spec_Judge.f k a0 = some (r1,r2,r3,r4)) :
  Calls Try.prog 29 #[.string a0] w fun e w' => e = .returned (.agg #[.int .i64 r1, .int .i64 r2, .bool r3, .bool r4]) ∧ Below w.heap.size w w':=by
 have hu32:=Try.underlying32
 have HB:=Aside0.mk (Below.refl w.heap.size w)
 have H : ((spec_l1walk.f k a0).bind fun bt163 => (if bt163.1 = 0 then (spec_Judge.j0 k bt163.1 bt163.2.1 bt163.2.2 false) else (spec_Judge.j0 k bt163.1 bt163.2.1 bt163.2.2 (bt163.1 != 1)))) = some (r1,r2,r3,r4):=h
 clear h
 replace H:=Option.bind_eq_some_iff.mp H
 obtain ⟨⟨t163,t164,t165⟩,A20,H⟩:=H
 replace H : (if t163 = 0 then (spec_Judge.j0 k t163 t164 t165 false) else (spec_Judge.j0 k t163 t164 t165 (t163 != 1))) = some (r1,r2,r3,r4):=H
 have A2:=Aside0.mk A20
 clear A20
 have HC3:=Aside0.mk H
 clear H
 go_enter Try.func29,Try.ntmps29
 go_upto_region 2 with (first | ((with_reducible refine gate_dst (N:=2) rfl ?_);refine box_event ?hg (N:=2) ?hd (cs := #[.int .i64 0, .int .i64 0, .bool false, .bool false]) (t:=32) ?hr ?_;(case hd => rfl);(case hg => rfl);(case hr => first | (go_simp;done) | (go_simp;rfl));intro gb162 hg w4 hbox hb;have n0_:=Aside0.mk (below_step (by repeat (first | (with_reducible first | exact HB.out | apply below_alloc | apply pw_below_drewN | apply below_drew1) | exact HB.out)) hb);have n1_:=Aside0.mk (hbox);have n2_:=Aside0.mk ((by rw [hg];exact (below_size (by repeat (first | (with_reducible first | exact HB.out | apply below_alloc | apply pw_below_drewN | apply below_drew1) | exact HB.out))) : w.heap.size ≤ gb162));have n3_:=Aside0.mk ((by rw [hg];exact (below_size (by repeat (first | (with_reducible first | exact HB.out | apply below_alloc | apply pw_below_drewN | apply below_drew1) | exact HB.out))) : w.heap.size ≤ gb162));clear HB;have HB:=n0_;have BK162:=n1_;have GW162:=n2_;have GE162:=n3_;clear n0_ n1_ n2_ n3_;clear hb hbox hg) | ((with_reducible refine gate_callee (f:=86) rfl ?_);refine goesL_ (some 8) rfl rfl Try.func86 (by kernel_rfl) rfl #[.string a0] rfl (by (try simp only [List.map_toArray,List.map_cons,List.map_nil]);first | done | rfl | (simp only [List.length_drop,List.length_take];rfl)) ?_;(with_reducible refine (spec_l1walk.calls k a0 t163 t164 t165 _ A2.out).mono ?_);rintro e w5 ⟨v166,rfl,ho0,hb⟩;refine ⟨_,rfl, ?_⟩;have n0_:=Aside0.mk (Kd.R_lower ho0 (below_size (by repeat (first | (with_reducible first | exact HB.out | apply below_alloc | apply pw_below_drewN | apply below_drew1 | refine below_set ?_ GE162.out) | exact HB.out))));have n1_:=Aside0.mk (blk_below (g:=gb162) (o := .cells #[.int .i64 0, .int .i64 0, .bool false, .bool false] 32 (0,0)) (by (with_reducible repeat (first | refine blk_drewN ?_ _ | refine blk_drew ?_ | refine blk_alloc ?_ _));exact BK162.out) hb);have n2_:=Aside0.mk (below_step (by repeat (first | (with_reducible first | exact HB.out | apply below_alloc | apply pw_below_drewN | apply below_drew1 | refine below_set ?_ GE162.out) | exact HB.out)) hb);clear BK162;clear HB;have HO167:=n0_;have BK162:=n1_;have HB:=n2_;clear n0_ n1_ n2_;(try clear hb);(try clear hb2);(try clear hk);(try clear hi);(try clear ho0)))
 (try simp only [Act.put,List.setIfInBounds_toArray,List.set_cons_zero,List.set_cons_succ])
 go_cut [17] (fun v17 wc => ∃ (kq : Nat) (x17_2 : Bool),v17 = .bool x17_2 ∧ Aside0 (spec_Judge.j0 kq t163 t164 t165 x17_2 = some (r1,r2,r3,r4)) ∧ Aside0 (kq ≤ k) ∧ Aside0 (Kd.R (Kd.int .u8) 5 wc w.heap.size (fun _ => True) v166 t164) ∧ Aside0 (wc.heap[gb162]? = some (.cells #[.int .i64 0, .int .i64 0, .bool false, .bool false] 32 (0,0))) ∧ Aside0 (Below w.heap.size w wc))
 case first =>
  have H:=HC3.out
  clear HC3
  by_cases c6 : t163 = 0
  ·rw [if_pos c6] at H
   have c6b0 : (t163 == 0) = true:=beq_iff_eq.mpr c6
   have c6b1 : (t163 != 0) = false:=bne_eq_false_iff_eq.mpr c6
   clear c6
   (first | rw [c6b0] | (simp only [i64_w,i32_w];rw [c6b0]) | skip)
   have H':=Aside0.mk H
   clear H
   go_wp2
   go_meet
   case rel => exact ⟨_,(false),(by first | rfl | (simp;done) | (simp [*];done)),H',⟨by first | omega | exact Nat.le_refl _⟩,⟨by (with_reducible repeat (first | apply Kd.R_alloc | apply Kd.R_drewN | apply Kd.R_drew));exact HO167.out⟩,⟨by (with_reducible repeat (first | refine blk_drewN ?_ _ | refine blk_drew ?_ | refine blk_alloc ?_ _));exact BK162.out⟩,⟨by repeat (first | (with_reducible first | exact HB.out | apply below_alloc | apply pw_below_drewN | apply below_drew1 | refine below_set ?_ GE162.out) | exact HB.out)⟩⟩
  ·rw [if_neg c6] at H
   have c6b0 : (t163 == 0) = false:=beq_eq_false_iff_ne.mpr c6
   have c6b1 : (t163 != 0) = true:=bne_iff_ne.mpr c6
   (first | rw [c6b0] | (simp only [i64_w,i32_w];rw [c6b0]) | skip)
   have H':=Aside0.mk H
   clear H
   go_wp2
   go_meet
   case rel => exact ⟨_,((t163 != 1)),(by first | rfl | (simp;done) | (simp [*];done)),H',⟨by first | omega | exact Nat.le_refl _⟩,⟨by (with_reducible repeat (first | apply Kd.R_alloc | apply Kd.R_drewN | apply Kd.R_drew));exact HO167.out⟩,⟨by (with_reducible repeat (first | refine blk_drewN ?_ _ | refine blk_drew ?_ | refine blk_alloc ?_ _));exact BK162.out⟩,⟨by repeat (first | (with_reducible first | exact HB.out | apply below_alloc | apply pw_below_drewN | apply below_drew1 | refine below_set ?_ GE162.out) | exact HB.out)⟩⟩
 case rest =>
  clear HC3
  try clear c2
  try clear p2
  try clear c6
  try clear c6b0
  try clear c6b1
  obtain ⟨kq,x17_2,rfl,HA,HJ2,HO_4,BK162,HB⟩:=hcut
  cases kq with
  | zero => exact absurd HA.out (by simp [spec_Judge.j0])
  | succ kj2 =>
   have H:=HA.out
   clear HA
   simp only [spec_Judge.j0] at H
   by_cases c7 : x17_2 = true
   ·subst c7
    have H1 : (some (t163,0,false,false)) = some (r1,r2,r3,r4):=by rw [if_pos rfl] at H;exact H
    clear H
    have H:=H1
    clear H1
    simp only [Option.some.injEq,Prod.mk.injEq] at H
    obtain ⟨rfl,rfl,rfl,rfl⟩:=H
    have hcz8_0 : wc.cell? ⟨gb162,0,none⟩ = some (.int .i64 0):=(blk_cell BK162.out 0).trans rfl
    have hcz8_1 : wc.cell? ⟨gb162,1,none⟩ = some (.int .i64 0):=(blk_cell BK162.out 1).trans rfl
    have hcz8_2 : wc.cell? ⟨gb162,2,none⟩ = some (.bool false):=(blk_cell BK162.out 2).trans rfl
    have hcz8_3 : wc.cell? ⟨gb162,3,none⟩ = some (.bool false):=(blk_cell BK162.out 3).trans rfl
    have hfz8_0:=blk_frozen BK162.out 0
    have hfz8_1:=blk_frozen BK162.out 1
    have hfz8_2:=blk_frozen BK162.out 2
    have hfz8_3:=blk_frozen BK162.out 3
    go_wp2
    refine bodyPost_ret (results_cell_row rfl _ _ gb162 32 #[.int .i64 t163, .int .i64 0, .bool false, .bool false] (0,0) _ rfl (by (with_reducible repeat (first | refine blk_drewN ?_ _ | refine blk_drew ?_ | refine blk_alloc ?_ _));refine blk_put (cs := #[.int .i64 t163, .int .i64 0, .bool false, .bool false]) ?_ 3 _ rfl;(with_reducible repeat (first | refine blk_drewN ?_ _ | refine blk_drew ?_ | refine blk_alloc ?_ _));refine blk_put (cs := #[.int .i64 t163, .int .i64 0, .bool false, .bool false]) ?_ 2 _ rfl;(with_reducible repeat (first | refine blk_drewN ?_ _ | refine blk_drew ?_ | refine blk_alloc ?_ _));refine blk_put (cs := #[.int .i64 t163, .int .i64 0, .bool false, .bool false]) ?_ 1 _ rfl;(with_reducible repeat (first | refine blk_drewN ?_ _ | refine blk_drew ?_ | refine blk_alloc ?_ _));refine blk_put (cs := #[.int .i64 0, .int .i64 0, .bool false, .bool false]) ?_ 0 _ rfl;(with_reducible repeat (first | refine blk_drewN ?_ _ | refine blk_drew ?_ | refine blk_alloc ?_ _));exact BK162.out) Try.underlying32 rfl (by kernel_rfl)) rfl ?_
    exact ⟨by first | rfl | (simp [errW_none,errW_some] <;> rfl) | (simp [*,errW_none,errW_some] <;> rfl),by repeat (first | (with_reducible first | exact HB.out | apply below_alloc | apply pw_below_drewN | apply below_drew1 | refine below_set ?_ GE162.out) | exact HB.out)⟩
   ·replace c7:=Bool.eq_false_iff.mpr c7
    subst c7
    have H1 : ((spec_l1field.f kj2 t164).bind fun t168 => ((spec_l1crcOk.f kj2 t164).bind fun t169 => (some (t163,t168,t165,t169)))) = some (r1,r2,r3,r4):=by rw [if_neg (show ¬ (false = true) by decide)] at H;exact H
    clear H
    have H:=H1
    clear H1
    replace H:=Option.bind_eq_some_iff.mp H
    obtain ⟨t168,A90,H⟩:=H
    replace H : ((spec_l1crcOk.f kj2 t164).bind fun t169 => (some (t163,t168,t165,t169))) = some (r1,r2,r3,r4):=H
    have A9:=Aside0.mk A90
    clear A90
    replace H:=Option.bind_eq_some_iff.mp H
    obtain ⟨t169,A100,H⟩:=H
    replace H : (some (t163,t168,t165,t169)) = some (r1,r2,r3,r4):=H
    have A10:=Aside0.mk A100
    clear A100
    simp only [Option.some.injEq,Prod.mk.injEq] at H
    obtain ⟨rfl,rfl,rfl,rfl⟩:=H
    obtain ⟨Ao11,co11,eo11⟩:=Kd.R_slice HO_4.out
    subst eo11
    go_wp2_with (first | ((with_reducible refine gate_callee (f:=87) rfl ?_);refine goesL_ (some 22) rfl rfl Try.func87 (by kernel_rfl) rfl #[.slice Ao11 t164.length co11] rfl (by (try simp only [List.map_toArray,List.map_cons,List.map_nil]);first | done | rfl | (simp only [List.length_drop,List.length_take];rfl)) ?_;(with_reducible refine (spec_l1field.calls kj2 _ _ t164 t168 _ ?side1 ?side2 A9.out).mono ?_);(case side1 => repeat (first | exact (Kd.R_reads' HO_4.out).2.2 | (with_reducible refine Kd.C_alloc ?_ _) | (with_reducible refine Kd.C_drewN ?_ _) | (with_reducible refine Kd.C_drew ?_)));(case side2 => exact (Kd.R_reads' HO_4.out).2.1);rintro e w' ⟨rfl,⟨nd,rfl⟩⟩;refine ⟨_,rfl, ?_⟩;(try (rw [drewN_self wc];generalize hq_ : World.drewN wc _ = wc;have n0_ : Aside0 (Kd.R (Kd.int .u8) 5 wc w.heap.size (fun _ => True) (.slice Ao11 t164.length co11) t164):=⟨by rw [← hq_];exact (by (with_reducible repeat (first | apply Kd.R_alloc | apply Kd.R_drewN | apply Kd.R_drew));exact HO_4.out)⟩;have n1_ : Aside0 (wc.heap[gb162]? = some (.cells #[.int .i64 0, .int .i64 0, .bool false, .bool false] 32 (0,0))):=⟨by rw [← hq_];exact (by (with_reducible repeat (first | refine blk_drewN ?_ _ | refine blk_drew ?_ | refine blk_alloc ?_ _));exact BK162.out)⟩;have n2_ : Aside0 (Below w.heap.size w wc):=⟨by rw [← hq_];exact (by repeat (first | (with_reducible first | exact HB.out | apply below_alloc | apply pw_below_drewN | apply below_drew1 | refine below_set ?_ GE162.out) | exact HB.out))⟩;clear HO_4 BK162 HB hq_;have HO_4:=n0_;have BK162:=n1_;have HB:=n2_;clear n0_ n1_ n2_))) | ((with_reducible refine gate_callee (f:=88) rfl ?_);refine goesL_ (some 25) rfl rfl Try.func88 (by kernel_rfl) rfl #[.slice Ao11 t164.length co11] rfl (by (try simp only [List.map_toArray,List.map_cons,List.map_nil]);first | done | rfl | (simp only [List.length_drop,List.length_take];rfl)) ?_;(with_reducible refine (spec_l1crcOk.calls kj2 _ _ t164 t169 _ ?side1 ?side2 A10.out).mono ?_);(case side1 => repeat (first | exact (Kd.R_reads' HO_4.out).2.2 | (with_reducible refine Kd.C_alloc ?_ _) | (with_reducible refine Kd.C_drewN ?_ _) | (with_reducible refine Kd.C_drew ?_)));(case side2 => exact (Kd.R_reads' HO_4.out).2.1);rintro e w12 ⟨rfl,hb⟩;refine ⟨_,rfl, ?_⟩;have n0_:=Aside0.mk (Kd.R_below (by (with_reducible repeat (first | apply Kd.R_alloc | apply Kd.R_drewN | apply Kd.R_drew));exact HO_4.out) hb);have n1_:=Aside0.mk (blk_below (g:=gb162) (o := .cells #[.int .i64 0, .int .i64 0, .bool false, .bool false] 32 (0,0)) (by (with_reducible repeat (first | refine blk_drewN ?_ _ | refine blk_drew ?_ | refine blk_alloc ?_ _));exact BK162.out) hb);have n2_:=Aside0.mk (below_step (by repeat (first | (with_reducible first | exact HB.out | apply below_alloc | apply pw_below_drewN | apply below_drew1 | refine below_set ?_ GE162.out) | exact HB.out)) hb);clear HO_4;clear BK162;clear HB;have HO_4:=n0_;have BK162:=n1_;have HB:=n2_;clear n0_ n1_ n2_;(try clear hb);(try clear hb2);(try clear hk);(try clear hi);have hcz13_0 : w12.cell? ⟨gb162,0,none⟩ = some (.int .i64 0):=(blk_cell BK162.out 0).trans rfl;have hcz13_1 : w12.cell? ⟨gb162,1,none⟩ = some (.int .i64 0):=(blk_cell BK162.out 1).trans rfl;have hcz13_2 : w12.cell? ⟨gb162,2,none⟩ = some (.bool false):=(blk_cell BK162.out 2).trans rfl;have hcz13_3 : w12.cell? ⟨gb162,3,none⟩ = some (.bool false):=(blk_cell BK162.out 3).trans rfl;have hfz13_0:=blk_frozen BK162.out 0;have hfz13_1:=blk_frozen BK162.out 1;have hfz13_2:=blk_frozen BK162.out 2;have hfz13_3:=blk_frozen BK162.out 3))
    refine bodyPost_ret (results_cell_row rfl _ _ gb162 32 #[.int .i64 t163, .int .i64 t168, .bool t165, .bool t169] (0,0) _ rfl (by (with_reducible repeat (first | refine blk_drewN ?_ _ | refine blk_drew ?_ | refine blk_alloc ?_ _));refine blk_put (cs := #[.int .i64 t163, .int .i64 t168, .bool t165, .bool false]) ?_ 3 _ rfl;(with_reducible repeat (first | refine blk_drewN ?_ _ | refine blk_drew ?_ | refine blk_alloc ?_ _));refine blk_put (cs := #[.int .i64 t163, .int .i64 t168, .bool false, .bool false]) ?_ 2 _ rfl;(with_reducible repeat (first | refine blk_drewN ?_ _ | refine blk_drew ?_ | refine blk_alloc ?_ _));refine blk_put (cs := #[.int .i64 t163, .int .i64 0, .bool false, .bool false]) ?_ 1 _ rfl;(with_reducible repeat (first | refine blk_drewN ?_ _ | refine blk_drew ?_ | refine blk_alloc ?_ _));refine blk_put (cs := #[.int .i64 0, .int .i64 0, .bool false, .bool false]) ?_ 0 _ rfl;(with_reducible repeat (first | refine blk_drewN ?_ _ | refine blk_drew ?_ | refine blk_alloc ?_ _));exact BK162.out) Try.underlying32 rfl (by kernel_rfl)) rfl ?_
    exact ⟨by first | rfl | (simp [errW_none,errW_some] <;> rfl) | (simp [*,errW_none,errW_some] <;> rfl),by repeat (first | (with_reducible first | exact HB.out | apply below_alloc | apply pw_below_drewN | apply below_drew1 | refine below_set ?_ GE162.out) | exact HB.out)⟩
end Go.Proofs.Ytdoclpgciadjaaa.P

namespace Go.Proofs.Ytdoclpgciadjaaa.P
open Go.RowKit Go.Proofs.YtdoclpgciadjaaaW.PrintWords Go.Proofs.YtdoclpgciadjaaaW.PrintLast Go.Proofs.YtdoclpgciadjaaaW.PrintMore
set_option linter.unusedVariables false
set_option linter.unusedSimpArgs false
def spec_l1dataLen.f (a0_0 : Bool) (a0_1 : Int) (a0_2 : Bool) (a0_3 : Int) (l0_4 : List Int) : Option (Int):=if a0_2 = true then (some 0) else (if a0_3 > 8 then (some 8) else (some a0_3))
set_option maxHeartbeats 8000000 in
set_option maxRecDepth 100000 in
theorem spec_l1dataLen.calls (a0_0 : Bool) (a0_1 : Int) (a0_2 : Bool) (a0_3 : Int) (A0_4 : Option Addr) (c0_4 : Nat) (l0_4 : List Int) (r : Int) (w : World) (hr0_4 : Kd.C (Kd.int .u8) w A0_4 l0_4.length l0_4) (hc0_4 : l0_4.length ≤ c0_4) (h : spec_l1dataLen.f a0_0 a0_1 a0_2 a0_3 l0_4 = some r) :
  Calls Try.prog 73 #[.agg #[.bool a0_0, .int .u32 a0_1, .bool a0_2, .int .i64 a0_3, .slice A0_4 l0_4.length c0_4]] w fun e w' => e = .returned (.int .i64 r) ∧ Below w.heap.size w w':=by
 have hu25:=Try.underlying25
 have HR0_4:=Aside0.mk hr0_4
 have HC0_4:=Aside0.mk hc0_4
 clear hr0_4 hc0_4
 have HB:=Aside0.mk (Below.refl w.heap.size w)
 have H : (if a0_2 = true then (some 0) else (if a0_3 > 8 then (some 8) else (some a0_3))) = some r:=h
 clear h
 by_cases c2 : a0_2 = true
 ·subst c2
  have H1 : (some 0) = some r:=by rw [if_pos rfl] at H;exact H
  clear H
  have H:=H1
  clear H1
  obtain rfl:=Option.some.inj H
  go_enter Try.func73,Try.ntmps73
  go_wp2_with (first | ((with_reducible refine gate_dst (N:=1) rfl ?_);refine box_event ?hg (N:=1) ?hd (cs := #[.bool a0_0, .int .u32 a0_1, .bool true, .int .i64 a0_3, .slice A0_4 l0_4.length c0_4]) (t:=25) ?hr ?_;(case hd => rfl);(case hg => rfl);(case hr => first | (go_simp;done) | (go_simp;rfl));intro gb170 hg w3 hbox hb;have n0_:=Aside0.mk (below_step (by repeat (first | (with_reducible first | exact HB.out | apply below_alloc | apply pw_below_drewN | apply below_drew1) | exact HB.out)) hb);have n1_:=Aside0.mk (hbox);have n2_:=Aside0.mk ((by rw [hg];exact (below_size (by repeat (first | (with_reducible first | exact HB.out | apply below_alloc | apply pw_below_drewN | apply below_drew1) | exact HB.out))) : w.heap.size ≤ gb170));have n3_:=Aside0.mk ((by rw [hg];exact (below_size (by repeat (first | (with_reducible first | exact HB.out | apply below_alloc | apply pw_below_drewN | apply below_drew1) | exact HB.out))) : w.heap.size ≤ gb170));clear HB;have HB:=n0_;have BK170:=n1_;have GW170:=n2_;have GE170:=n3_;clear n0_ n1_ n2_ n3_;clear hb hbox hg;have hcz4_0 : w3.cell? ⟨gb170,0,none⟩ = some (.bool a0_0):=(blk_cell BK170.out 0).trans rfl;have hcz4_1 : w3.cell? ⟨gb170,1,none⟩ = some (.int .u32 a0_1):=(blk_cell BK170.out 1).trans rfl;have hcz4_2 : w3.cell? ⟨gb170,2,none⟩ = some (.bool true):=(blk_cell BK170.out 2).trans rfl;have hcz4_3 : w3.cell? ⟨gb170,3,none⟩ = some (.int .i64 a0_3):=(blk_cell BK170.out 3).trans rfl;have hcz4_4 : w3.cell? ⟨gb170,4,none⟩ = some (.slice A0_4 l0_4.length c0_4):=(blk_cell BK170.out 4).trans rfl;have hfz4_0:=blk_frozen BK170.out 0;have hfz4_1:=blk_frozen BK170.out 1;have hfz4_2:=blk_frozen BK170.out 2;have hfz4_3:=blk_frozen BK170.out 3;have hfz4_4:=blk_frozen BK170.out 4))
  go_ret
  exact ⟨by first | rfl | (simp [errW_none,errW_some] <;> rfl) | (simp [*,errW_none,errW_some] <;> rfl),by repeat (first | (with_reducible first | exact HB.out | apply below_alloc | apply pw_below_drewN | apply below_drew1 | refine below_set ?_ GE170.out) | exact HB.out)⟩
 ·replace c2:=Bool.eq_false_iff.mpr c2
  subst c2
  have H1 : (if a0_3 > 8 then (some 8) else (some a0_3)) = some r:=by rw [if_neg (show ¬ (false = true) by decide)] at H;exact H
  clear H
  have H:=H1
  clear H1
  by_cases c5 : a0_3 > 8
  ·rw [if_pos c5] at H
   have c5b0 : decide (8 < a0_3) = true:=decide_eq_true c5
   clear c5
   obtain rfl:=Option.some.inj H
   go_enter Try.func73,Try.ntmps73
   go_wp2_with (first | ((with_reducible refine gate_dst (N:=1) rfl ?_);refine box_event ?hg (N:=1) ?hd (cs := #[.bool a0_0, .int .u32 a0_1, .bool false, .int .i64 a0_3, .slice A0_4 l0_4.length c0_4]) (t:=25) ?hr ?_;(case hd => rfl);(case hg => rfl);(case hr => first | (go_simp;done) | (go_simp;rfl));intro gb170 hg w6 hbox hb;have n0_:=Aside0.mk (below_step (by repeat (first | (with_reducible first | exact HB.out | apply below_alloc | apply pw_below_drewN | apply below_drew1) | exact HB.out)) hb);have n1_:=Aside0.mk (hbox);have n2_:=Aside0.mk ((by rw [hg];exact (below_size (by repeat (first | (with_reducible first | exact HB.out | apply below_alloc | apply pw_below_drewN | apply below_drew1) | exact HB.out))) : w.heap.size ≤ gb170));have n3_:=Aside0.mk ((by rw [hg];exact (below_size (by repeat (first | (with_reducible first | exact HB.out | apply below_alloc | apply pw_below_drewN | apply below_drew1) | exact HB.out))) : w.heap.size ≤ gb170));clear HB;have HB:=n0_;have BK170:=n1_;have GW170:=n2_;have GE170:=n3_;clear n0_ n1_ n2_ n3_;clear hb hbox hg;have hcz7_0 : w6.cell? ⟨gb170,0,none⟩ = some (.bool a0_0):=(blk_cell BK170.out 0).trans rfl;have hcz7_1 : w6.cell? ⟨gb170,1,none⟩ = some (.int .u32 a0_1):=(blk_cell BK170.out 1).trans rfl;have hcz7_2 : w6.cell? ⟨gb170,2,none⟩ = some (.bool false):=(blk_cell BK170.out 2).trans rfl;have hcz7_3 : w6.cell? ⟨gb170,3,none⟩ = some (.int .i64 a0_3):=(blk_cell BK170.out 3).trans rfl;have hcz7_4 : w6.cell? ⟨gb170,4,none⟩ = some (.slice A0_4 l0_4.length c0_4):=(blk_cell BK170.out 4).trans rfl;have hfz7_0:=blk_frozen BK170.out 0;have hfz7_1:=blk_frozen BK170.out 1;have hfz7_2:=blk_frozen BK170.out 2;have hfz7_3:=blk_frozen BK170.out 3;have hfz7_4:=blk_frozen BK170.out 4))
   go_ret
   exact ⟨by first | rfl | (simp [errW_none,errW_some] <;> rfl) | (simp [*,errW_none,errW_some] <;> rfl),by repeat (first | (with_reducible first | exact HB.out | apply below_alloc | apply pw_below_drewN | apply below_drew1 | refine below_set ?_ GE170.out) | exact HB.out)⟩
  ·rw [if_neg c5] at H
   have c5b0 : decide (8 < a0_3) = false:=decide_eq_false c5
   clear c5
   obtain rfl:=Option.some.inj H
   go_enter Try.func73,Try.ntmps73
   go_wp2_with (first | ((with_reducible refine gate_dst (N:=1) rfl ?_);refine box_event ?hg (N:=1) ?hd (cs := #[.bool a0_0, .int .u32 a0_1, .bool false, .int .i64 a0_3, .slice A0_4 l0_4.length c0_4]) (t:=25) ?hr ?_;(case hd => rfl);(case hg => rfl);(case hr => first | (go_simp;done) | (go_simp;rfl));intro gb170 hg w8 hbox hb;have n0_:=Aside0.mk (below_step (by repeat (first | (with_reducible first | exact HB.out | apply below_alloc | apply pw_below_drewN | apply below_drew1) | exact HB.out)) hb);have n1_:=Aside0.mk (hbox);have n2_:=Aside0.mk ((by rw [hg];exact (below_size (by repeat (first | (with_reducible first | exact HB.out | apply below_alloc | apply pw_below_drewN | apply below_drew1) | exact HB.out))) : w.heap.size ≤ gb170));have n3_:=Aside0.mk ((by rw [hg];exact (below_size (by repeat (first | (with_reducible first | exact HB.out | apply below_alloc | apply pw_below_drewN | apply below_drew1) | exact HB.out))) : w.heap.size ≤ gb170));clear HB;have HB:=n0_;have BK170:=n1_;have GW170:=n2_;have GE170:=n3_;clear n0_ n1_ n2_ n3_;clear hb hbox hg;have hcz9_0 : w8.cell? ⟨gb170,0,none⟩ = some (.bool a0_0):=(blk_cell BK170.out 0).trans rfl;have hcz9_1 : w8.cell? ⟨gb170,1,none⟩ = some (.int .u32 a0_1):=(blk_cell BK170.out 1).trans rfl;have hcz9_2 : w8.cell? ⟨gb170,2,none⟩ = some (.bool false):=(blk_cell BK170.out 2).trans rfl;have hcz9_3 : w8.cell? ⟨gb170,3,none⟩ = some (.int .i64 a0_3):=(blk_cell BK170.out 3).trans rfl;have hcz9_4 : w8.cell? ⟨gb170,4,none⟩ = some (.slice A0_4 l0_4.length c0_4):=(blk_cell BK170.out 4).trans rfl;have hfz9_0:=blk_frozen BK170.out 0;have hfz9_1:=blk_frozen BK170.out 1;have hfz9_2:=blk_frozen BK170.out 2;have hfz9_3:=blk_frozen BK170.out 3;have hfz9_4:=blk_frozen BK170.out 4))
   go_ret
   exact ⟨by first | rfl | (simp [errW_none,errW_some] <;> rfl) | (simp [*,errW_none,errW_some] <;> rfl),by repeat (first | (with_reducible first | exact HB.out | apply below_alloc | apply pw_below_drewN | apply below_drew1 | refine below_set ?_ GE170.out) | exact HB.out)⟩
end Go.Proofs.Ytdoclpgciadjaaa.P
