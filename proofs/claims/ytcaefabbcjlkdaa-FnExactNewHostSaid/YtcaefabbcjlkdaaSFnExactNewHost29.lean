/- Texts of the proof of FnExactNewHost, joined. -/
import Derived.Test.YtcaefabbcjlkdaaSFnExactNewHost22
import Derived.Test.YtcaefabbcjlkdaaSFnExactNewHost27
import Derived.Deep.RegionHeld
import Derived.Test.YtcaefabbcjlkdaaSFnExactNewHost28
namespace Go.Proofs.Ytcaefabbcjlkdaa.P
open Go.RowKit Go.Proofs.YtcaefabbcjlkdaaW.PrintWords Go.Proofs.YtcaefabbcjlkdaaW.PrintLast Go.Proofs.YtcaefabbcjlkdaaW.PrintMore
set_option linter.unusedVariables false
set_option linter.unusedSimpArgs false
def laws_heldEventS.l0 : Nat → List (S56) → Int → Int → Option (Int)
 | 0,_,_,_ => none
 | k + 1,x0,x1,x5 => if x5 < (x0.length : Int) then (if 0 ≤ x5 then (if ((rd_T56 x0 x5).f0) = x1 then (if ((rd_T56 x0 x5).f1) = (wrap64 (x1 + 1)) then (if ((rd_T56 x0 x5).f2) = (wrap64 ((wrap64 (x1 + 1)) + 1)) then (if (((rd_T56 x0 x5).f3.f0) != ((Int.tmod (wrap64 ((wrap64 ((wrap64 (x1 + 1)) + 1)) + 1)) 3) == 0)) = true then (some (-1)) else (if ((rd_T56 x0 x5).f3.f1) = ((wrap64 ((wrap64 ((wrap64 ((wrap64 (x1 + 1)) + 1)) + 1)) + 1)) % 4294967296) then (if (((rd_T56 x0 x5).f3.f2) != ((Int.tmod (wrap64 ((wrap64 ((wrap64 ((wrap64 ((wrap64 (x1 + 1)) + 1)) + 1)) + 1)) + 1)) 3) == 0)) = true then (some (-1)) else (if ((rd_T56 x0 x5).f3.f3) = (wrap64 ((wrap64 ((wrap64 ((wrap64 ((wrap64 ((wrap64 (x1 + 1)) + 1)) + 1)) + 1)) + 1)) + 1)) then ((laws_heldByteS.f k ((rd_T56 x0 x5).f3.f4) (wrap64 ((wrap64 ((wrap64 ((wrap64 ((wrap64 ((wrap64 ((wrap64 (x1 + 1)) + 1)) + 1)) + 1)) + 1)) + 1)) + 1))).bind fun t837 => (if t837 < 0 then (some (-1)) else (laws_heldEventS.l0 k x0 t837 (wrap64 (x5 + 1))))) else (some (-1)))) else (some (-1)))) else (some (-1))) else (some (-1))) else (some (-1))) else (none)) else (some x1)
def laws_heldEventS.f (k : Nat) (l0 : List (S56)) (a1 : Int) : Option (Int):=laws_heldEventS.l0 k l0 a1 0
set_option maxHeartbeats 8000000 in
set_option maxRecDepth 100000 in
theorem laws_heldEventS.calls (k : Nat) (A0 : Option Addr) (c0 : Nat) (l0 : List (S56)) (a1 : Int) (r : Int) (w : World) (hr0 : Kd.C k56 w A0 l0.length l0) (hc0 : l0.length ≤ c0) (h : laws_heldEventS.f k l0 a1 = some r) :
  Calls Try.prog 48 #[.slice A0 l0.length c0, .int .i64 a1] w fun e w' => e = .returned (.int .i64 r) ∧ Drawn0 w w':=by
 have HR0:=Aside0.mk hr0
 have HC0:=Aside0.mk hc0
 clear hr0 hc0
 have H : (laws_heldEventS.l0 k l0 a1 0) = some r:=h
 clear h
 have H':=Aside0.mk H
 clear H
 go_enter Try.func48,Try.ntmps48
 go_wp2
 go_loopg [1,5] k (fun kq v1 v5 w' => ∃ (x1_1 : Int) (x5_1 : Int),v1 = .int .i64 x1_1 ∧ v5 = .int .i64 x5_1 ∧ Aside0 (laws_heldEventS.l0 kq l0 x1_1 x5_1 = some r) ∧ Aside0 (kq ≤ k) ∧ Drawn0 w w')
 case atStart => exact ⟨(a1),(0),(by first | rfl | (simp;done) | (simp [*];done)),(by first | rfl | (simp;done) | (simp [*];done)),H',⟨Nat.le_refl _⟩,by repeat (first | exact Drawn0.refl _ | apply Drawn0.step)⟩
 case round =>
  clear H'
  try clear p2
  obtain ⟨x1_1,x5_1,rfl,rfl,HA,HK1,⟨m1,rfl⟩⟩:=hrel
  cases gk with
  | zero => exact absurd HA.out (by simp [laws_heldEventS.l0])
  | succ k1 =>
   have H:=HA.out
   clear HA
   simp only [laws_heldEventS.l0] at H
   by_cases c3 : x5_1 < (l0.length : Int)
   ·rw [if_pos c3] at H
    have c3b0 : decide (x5_1 < (l0.length : Int)) = true:=decide_eq_true c3
    clear c3
    by_cases c4 : 0 ≤ x5_1
    ·rw [if_pos c4] at H
     have c4b0 : decide (0 ≤ x5_1) = true:=decide_eq_true c4
     clear c4
     by_cases c5 : ((rd_T56 l0 x5_1).f0) = x1_1
     ·rw [if_pos c5] at H
      have c5b0 : (((rd_T56 l0 x5_1).f0) == x1_1) = true:=beq_iff_eq.mpr c5
      have c5b1 : (((rd_T56 l0 x5_1).f0) != x1_1) = false:=bne_eq_false_iff_eq.mpr c5
      clear c5
      by_cases c6 : ((rd_T56 l0 x5_1).f1) = (wrap64 (x1_1 + 1))
      ·rw [if_pos c6] at H
       have c6b0 : (((rd_T56 l0 x5_1).f1) == (wrap64 (x1_1 + 1))) = true:=beq_iff_eq.mpr c6
       have c6b1 : (((rd_T56 l0 x5_1).f1) != (wrap64 (x1_1 + 1))) = false:=bne_eq_false_iff_eq.mpr c6
       clear c6
       by_cases c7 : ((rd_T56 l0 x5_1).f2) = (wrap64 ((wrap64 (x1_1 + 1)) + 1))
       ·rw [if_pos c7] at H
        have c7b0 : (((rd_T56 l0 x5_1).f2) == (wrap64 ((wrap64 (x1_1 + 1)) + 1))) = true:=beq_iff_eq.mpr c7
        have c7b1 : (((rd_T56 l0 x5_1).f2) != (wrap64 ((wrap64 (x1_1 + 1)) + 1))) = false:=bne_eq_false_iff_eq.mpr c7
        clear c7
        by_cases c8 : (((rd_T56 l0 x5_1).f3.f0) != ((Int.tmod (wrap64 ((wrap64 ((wrap64 (x1_1 + 1)) + 1)) + 1)) 3) == 0)) = true
        ·rw [if_pos c8] at H
         have c8b0 : (((rd_T56 l0 x5_1).f3.f0) != ((Int.tmod (wrap64 ((wrap64 ((wrap64 (x1_1 + 1)) + 1)) + 1)) 3) == 0)) = true:=c8
         (try (have c8b1 : decide (((rd_T56 l0 x5_1).f3.f0) = ((Int.tmod (wrap64 ((wrap64 ((wrap64 (x1_1 + 1)) + 1)) + 1)) 3) == 0)) = false:=by simpa using c8))
         (try (have c8b2 : (((rd_T56 l0 x5_1).f3.f0) == ((Int.tmod (wrap64 ((wrap64 ((wrap64 (x1_1 + 1)) + 1)) + 1)) 3) == 0)) = false:=by simpa using c8))
         (try (have c8b3 : ¬ (((rd_T56 l0 x5_1).f3.f0) = ((Int.tmod (wrap64 ((wrap64 ((wrap64 (x1_1 + 1)) + 1)) + 1)) 3) == 0)):=by simpa using c8))
         clear c8
         obtain rfl:=Option.some.inj H
         have p829 : 0 ≤ (x5_1 : Int):=of_decide_eq_true (by first | (with_reducible assumption) | assumption)
         have q829 : x5_1 < (l0.length : Int):=of_decide_eq_true (by first | (with_reducible assumption) | assumption)
         obtain ⟨ad829,A829_7,c829_7,e829,hx829_0,hx829_1,hx829_2,hx829_3,hx829_4,hx829_5,hx829_6,hx829_7,hl829_7,hi829_7⟩:=at_T56 HR0.out x5_1 p829 q829
         cases e829
         have HR829_7:=Aside0.mk hi829_7
         have HC829_7:=Aside0.mk hl829_7
         clear hi829_7 hl829_7
         replace p829:=eq_true p829
         replace q829:=eq_true q829
         have p830 : 0 ≤ (x5_1 : Int):=of_decide_eq_true (by first | (with_reducible assumption) | assumption)
         have q830 : x5_1 < (l0.length : Int):=of_decide_eq_true (by first | (with_reducible assumption) | assumption)
         obtain ⟨ad830,A830_7,c830_7,e830,hx830_0,hx830_1,hx830_2,hx830_3,hx830_4,hx830_5,hx830_6,hx830_7,hl830_7,hi830_7⟩:=at_T56 HR0.out x5_1 p830 q830
         obtain rfl : ad829 = ad830:=(by injection e830)
         have HR830_7:=Aside0.mk hi830_7
         have HC830_7:=Aside0.mk hl830_7
         clear hi830_7 hl830_7
         replace p830:=eq_true p830
         replace q830:=eq_true q830
         have ea_:=Option.some.inj (hx829_7.symm.trans hx830_7)
         injection ea_ with ea_ en_ ec_
         subst ea_
         subst ec_
         clear en_
         have p831 : 0 ≤ (x5_1 : Int):=of_decide_eq_true (by first | (with_reducible assumption) | assumption)
         have q831 : x5_1 < (l0.length : Int):=of_decide_eq_true (by first | (with_reducible assumption) | assumption)
         obtain ⟨ad831,A831_7,c831_7,e831,hx831_0,hx831_1,hx831_2,hx831_3,hx831_4,hx831_5,hx831_6,hx831_7,hl831_7,hi831_7⟩:=at_T56 HR0.out x5_1 p831 q831
         obtain rfl : ad829 = ad831:=(by injection e831)
         have HR831_7:=Aside0.mk hi831_7
         have HC831_7:=Aside0.mk hl831_7
         clear hi831_7 hl831_7
         replace p831:=eq_true p831
         replace q831:=eq_true q831
         have ea_:=Option.some.inj (hx829_7.symm.trans hx831_7)
         injection ea_ with ea_ en_ ec_
         subst ea_
         subst ec_
         clear en_
         have p832 : 0 ≤ (x5_1 : Int):=of_decide_eq_true (by first | (with_reducible assumption) | assumption)
         have q832 : x5_1 < (l0.length : Int):=of_decide_eq_true (by first | (with_reducible assumption) | assumption)
         obtain ⟨ad832,A832_7,c832_7,e832,hx832_0,hx832_1,hx832_2,hx832_3,hx832_4,hx832_5,hx832_6,hx832_7,hl832_7,hi832_7⟩:=at_T56 HR0.out x5_1 p832 q832
         obtain rfl : ad829 = ad832:=(by injection e832)
         have HR832_7:=Aside0.mk hi832_7
         have HC832_7:=Aside0.mk hl832_7
         clear hi832_7 hl832_7
         replace p832:=eq_true p832
         replace q832:=eq_true q832
         have ea_:=Option.some.inj (hx829_7.symm.trans hx832_7)
         injection ea_ with ea_ en_ ec_
         subst ea_
         subst ec_
         clear en_
         go_wp2
         go_ret
         exact ⟨by first | rfl | (simp;done) | (simp [*];done),by repeat (first | exact Drawn0.refl _ | apply Drawn0.step)⟩
        ·rw [if_neg c8] at H
         have c8b0 : (((rd_T56 l0 x5_1).f3.f0) != ((Int.tmod (wrap64 ((wrap64 ((wrap64 (x1_1 + 1)) + 1)) + 1)) 3) == 0)) = false:=by simpa using c8
         (try (have c8b1 : decide (((rd_T56 l0 x5_1).f3.f0) = ((Int.tmod (wrap64 ((wrap64 ((wrap64 (x1_1 + 1)) + 1)) + 1)) 3) == 0)) = true:=by simpa using c8))
         (try (have c8b2 : (((rd_T56 l0 x5_1).f3.f0) == ((Int.tmod (wrap64 ((wrap64 ((wrap64 (x1_1 + 1)) + 1)) + 1)) 3) == 0)) = true:=by simpa using c8))
         clear c8
         by_cases c9 : ((rd_T56 l0 x5_1).f3.f1) = ((wrap64 ((wrap64 ((wrap64 ((wrap64 (x1_1 + 1)) + 1)) + 1)) + 1)) % 4294967296)
         ·rw [if_pos c9] at H
          have c9b0 : (((rd_T56 l0 x5_1).f3.f1) == ((wrap64 ((wrap64 ((wrap64 ((wrap64 (x1_1 + 1)) + 1)) + 1)) + 1)) % 4294967296)) = true:=beq_iff_eq.mpr c9
          have c9b1 : (((rd_T56 l0 x5_1).f3.f1) != ((wrap64 ((wrap64 ((wrap64 ((wrap64 (x1_1 + 1)) + 1)) + 1)) + 1)) % 4294967296)) = false:=bne_eq_false_iff_eq.mpr c9
          clear c9
          by_cases c10 : (((rd_T56 l0 x5_1).f3.f2) != ((Int.tmod (wrap64 ((wrap64 ((wrap64 ((wrap64 ((wrap64 (x1_1 + 1)) + 1)) + 1)) + 1)) + 1)) 3) == 0)) = true
          ·rw [if_pos c10] at H
           have c10b0 : (((rd_T56 l0 x5_1).f3.f2) != ((Int.tmod (wrap64 ((wrap64 ((wrap64 ((wrap64 ((wrap64 (x1_1 + 1)) + 1)) + 1)) + 1)) + 1)) 3) == 0)) = true:=c10
           (try (have c10b1 : decide (((rd_T56 l0 x5_1).f3.f2) = ((Int.tmod (wrap64 ((wrap64 ((wrap64 ((wrap64 ((wrap64 (x1_1 + 1)) + 1)) + 1)) + 1)) + 1)) 3) == 0)) = false:=by simpa using c10))
           (try (have c10b2 : (((rd_T56 l0 x5_1).f3.f2) == ((Int.tmod (wrap64 ((wrap64 ((wrap64 ((wrap64 ((wrap64 (x1_1 + 1)) + 1)) + 1)) + 1)) + 1)) 3) == 0)) = false:=by simpa using c10))
           (try (have c10b3 : ¬ (((rd_T56 l0 x5_1).f3.f2) = ((Int.tmod (wrap64 ((wrap64 ((wrap64 ((wrap64 ((wrap64 (x1_1 + 1)) + 1)) + 1)) + 1)) + 1)) 3) == 0)):=by simpa using c10))
           clear c10
           obtain rfl:=Option.some.inj H
           have p829 : 0 ≤ (x5_1 : Int):=of_decide_eq_true (by first | (with_reducible assumption) | assumption)
           have q829 : x5_1 < (l0.length : Int):=of_decide_eq_true (by first | (with_reducible assumption) | assumption)
           obtain ⟨ad829,A829_7,c829_7,e829,hx829_0,hx829_1,hx829_2,hx829_3,hx829_4,hx829_5,hx829_6,hx829_7,hl829_7,hi829_7⟩:=at_T56 HR0.out x5_1 p829 q829
           cases e829
           have HR829_7:=Aside0.mk hi829_7
           have HC829_7:=Aside0.mk hl829_7
           clear hi829_7 hl829_7
           replace p829:=eq_true p829
           replace q829:=eq_true q829
           have p830 : 0 ≤ (x5_1 : Int):=of_decide_eq_true (by first | (with_reducible assumption) | assumption)
           have q830 : x5_1 < (l0.length : Int):=of_decide_eq_true (by first | (with_reducible assumption) | assumption)
           obtain ⟨ad830,A830_7,c830_7,e830,hx830_0,hx830_1,hx830_2,hx830_3,hx830_4,hx830_5,hx830_6,hx830_7,hl830_7,hi830_7⟩:=at_T56 HR0.out x5_1 p830 q830
           obtain rfl : ad829 = ad830:=(by injection e830)
           have HR830_7:=Aside0.mk hi830_7
           have HC830_7:=Aside0.mk hl830_7
           clear hi830_7 hl830_7
           replace p830:=eq_true p830
           replace q830:=eq_true q830
           have ea_:=Option.some.inj (hx829_7.symm.trans hx830_7)
           injection ea_ with ea_ en_ ec_
           subst ea_
           subst ec_
           clear en_
           have p831 : 0 ≤ (x5_1 : Int):=of_decide_eq_true (by first | (with_reducible assumption) | assumption)
           have q831 : x5_1 < (l0.length : Int):=of_decide_eq_true (by first | (with_reducible assumption) | assumption)
           obtain ⟨ad831,A831_7,c831_7,e831,hx831_0,hx831_1,hx831_2,hx831_3,hx831_4,hx831_5,hx831_6,hx831_7,hl831_7,hi831_7⟩:=at_T56 HR0.out x5_1 p831 q831
           obtain rfl : ad829 = ad831:=(by injection e831)
           have HR831_7:=Aside0.mk hi831_7
           have HC831_7:=Aside0.mk hl831_7
           clear hi831_7 hl831_7
           replace p831:=eq_true p831
           replace q831:=eq_true q831
           have ea_:=Option.some.inj (hx829_7.symm.trans hx831_7)
           injection ea_ with ea_ en_ ec_
           subst ea_
           subst ec_
           clear en_
           have p832 : 0 ≤ (x5_1 : Int):=of_decide_eq_true (by first | (with_reducible assumption) | assumption)
           have q832 : x5_1 < (l0.length : Int):=of_decide_eq_true (by first | (with_reducible assumption) | assumption)
           obtain ⟨ad832,A832_7,c832_7,e832,hx832_0,hx832_1,hx832_2,hx832_3,hx832_4,hx832_5,hx832_6,hx832_7,hl832_7,hi832_7⟩:=at_T56 HR0.out x5_1 p832 q832
           obtain rfl : ad829 = ad832:=(by injection e832)
           have HR832_7:=Aside0.mk hi832_7
           have HC832_7:=Aside0.mk hl832_7
           clear hi832_7 hl832_7
           replace p832:=eq_true p832
           replace q832:=eq_true q832
           have ea_:=Option.some.inj (hx829_7.symm.trans hx832_7)
           injection ea_ with ea_ en_ ec_
           subst ea_
           subst ec_
           clear en_
           have p833 : 0 ≤ (x5_1 : Int):=of_decide_eq_true (by first | (with_reducible assumption) | assumption)
           have q833 : x5_1 < (l0.length : Int):=of_decide_eq_true (by first | (with_reducible assumption) | assumption)
           obtain ⟨ad833,A833_7,c833_7,e833,hx833_0,hx833_1,hx833_2,hx833_3,hx833_4,hx833_5,hx833_6,hx833_7,hl833_7,hi833_7⟩:=at_T56 HR0.out x5_1 p833 q833
           obtain rfl : ad829 = ad833:=(by injection e833)
           have HR833_7:=Aside0.mk hi833_7
           have HC833_7:=Aside0.mk hl833_7
           clear hi833_7 hl833_7
           replace p833:=eq_true p833
           replace q833:=eq_true q833
           have ea_:=Option.some.inj (hx829_7.symm.trans hx833_7)
           injection ea_ with ea_ en_ ec_
           subst ea_
           subst ec_
           clear en_
           have p834 : 0 ≤ (x5_1 : Int):=of_decide_eq_true (by first | (with_reducible assumption) | assumption)
           have q834 : x5_1 < (l0.length : Int):=of_decide_eq_true (by first | (with_reducible assumption) | assumption)
           obtain ⟨ad834,A834_7,c834_7,e834,hx834_0,hx834_1,hx834_2,hx834_3,hx834_4,hx834_5,hx834_6,hx834_7,hl834_7,hi834_7⟩:=at_T56 HR0.out x5_1 p834 q834
           obtain rfl : ad829 = ad834:=(by injection e834)
           have HR834_7:=Aside0.mk hi834_7
           have HC834_7:=Aside0.mk hl834_7
           clear hi834_7 hl834_7
           replace p834:=eq_true p834
           replace q834:=eq_true q834
           have ea_:=Option.some.inj (hx829_7.symm.trans hx834_7)
           injection ea_ with ea_ en_ ec_
           subst ea_
           subst ec_
           clear en_
           go_wp2
           go_ret
           exact ⟨by first | rfl | (simp;done) | (simp [*];done),by repeat (first | exact Drawn0.refl _ | apply Drawn0.step)⟩
          ·rw [if_neg c10] at H
           have c10b0 : (((rd_T56 l0 x5_1).f3.f2) != ((Int.tmod (wrap64 ((wrap64 ((wrap64 ((wrap64 ((wrap64 (x1_1 + 1)) + 1)) + 1)) + 1)) + 1)) 3) == 0)) = false:=by simpa using c10
           (try (have c10b1 : decide (((rd_T56 l0 x5_1).f3.f2) = ((Int.tmod (wrap64 ((wrap64 ((wrap64 ((wrap64 ((wrap64 (x1_1 + 1)) + 1)) + 1)) + 1)) + 1)) 3) == 0)) = true:=by simpa using c10))
           (try (have c10b2 : (((rd_T56 l0 x5_1).f3.f2) == ((Int.tmod (wrap64 ((wrap64 ((wrap64 ((wrap64 ((wrap64 (x1_1 + 1)) + 1)) + 1)) + 1)) + 1)) 3) == 0)) = true:=by simpa using c10))
           clear c10
           by_cases c11 : ((rd_T56 l0 x5_1).f3.f3) = (wrap64 ((wrap64 ((wrap64 ((wrap64 ((wrap64 ((wrap64 (x1_1 + 1)) + 1)) + 1)) + 1)) + 1)) + 1))
           ·rw [if_pos c11] at H
            have c11b0 : (((rd_T56 l0 x5_1).f3.f3) == (wrap64 ((wrap64 ((wrap64 ((wrap64 ((wrap64 ((wrap64 (x1_1 + 1)) + 1)) + 1)) + 1)) + 1)) + 1))) = true:=beq_iff_eq.mpr c11
            have c11b1 : (((rd_T56 l0 x5_1).f3.f3) != (wrap64 ((wrap64 ((wrap64 ((wrap64 ((wrap64 ((wrap64 (x1_1 + 1)) + 1)) + 1)) + 1)) + 1)) + 1))) = false:=bne_eq_false_iff_eq.mpr c11
            clear c11
            replace H:=Option.bind_eq_some_iff.mp H
            obtain ⟨t837,A120,H⟩:=H
            replace H : (if t837 < 0 then (some (-1)) else (laws_heldEventS.l0 k1 l0 t837 (wrap64 (x5_1 + 1)))) = some r:=H
            have A12:=Aside0.mk A120
            clear A120
            by_cases c13 : t837 < 0
            ·rw [if_pos c13] at H
             have c13b0 : decide (t837 < 0) = true:=decide_eq_true c13
             clear c13
             obtain rfl:=Option.some.inj H
             have p829 : 0 ≤ (x5_1 : Int):=of_decide_eq_true (by first | (with_reducible assumption) | assumption)
             have q829 : x5_1 < (l0.length : Int):=of_decide_eq_true (by first | (with_reducible assumption) | assumption)
             obtain ⟨ad829,A829_7,c829_7,e829,hx829_0,hx829_1,hx829_2,hx829_3,hx829_4,hx829_5,hx829_6,hx829_7,hl829_7,hi829_7⟩:=at_T56 HR0.out x5_1 p829 q829
             cases e829
             have HR829_7:=Aside0.mk hi829_7
             have HC829_7:=Aside0.mk hl829_7
             clear hi829_7 hl829_7
             replace p829:=eq_true p829
             replace q829:=eq_true q829
             have p830 : 0 ≤ (x5_1 : Int):=of_decide_eq_true (by first | (with_reducible assumption) | assumption)
             have q830 : x5_1 < (l0.length : Int):=of_decide_eq_true (by first | (with_reducible assumption) | assumption)
             obtain ⟨ad830,A830_7,c830_7,e830,hx830_0,hx830_1,hx830_2,hx830_3,hx830_4,hx830_5,hx830_6,hx830_7,hl830_7,hi830_7⟩:=at_T56 HR0.out x5_1 p830 q830
             obtain rfl : ad829 = ad830:=(by injection e830)
             have HR830_7:=Aside0.mk hi830_7
             have HC830_7:=Aside0.mk hl830_7
             clear hi830_7 hl830_7
             replace p830:=eq_true p830
             replace q830:=eq_true q830
             have ea_:=Option.some.inj (hx829_7.symm.trans hx830_7)
             injection ea_ with ea_ en_ ec_
             subst ea_
             subst ec_
             clear en_
             have p831 : 0 ≤ (x5_1 : Int):=of_decide_eq_true (by first | (with_reducible assumption) | assumption)
             have q831 : x5_1 < (l0.length : Int):=of_decide_eq_true (by first | (with_reducible assumption) | assumption)
             obtain ⟨ad831,A831_7,c831_7,e831,hx831_0,hx831_1,hx831_2,hx831_3,hx831_4,hx831_5,hx831_6,hx831_7,hl831_7,hi831_7⟩:=at_T56 HR0.out x5_1 p831 q831
             obtain rfl : ad829 = ad831:=(by injection e831)
             have HR831_7:=Aside0.mk hi831_7
             have HC831_7:=Aside0.mk hl831_7
             clear hi831_7 hl831_7
             replace p831:=eq_true p831
             replace q831:=eq_true q831
             have ea_:=Option.some.inj (hx829_7.symm.trans hx831_7)
             injection ea_ with ea_ en_ ec_
             subst ea_
             subst ec_
             clear en_
             have p832 : 0 ≤ (x5_1 : Int):=of_decide_eq_true (by first | (with_reducible assumption) | assumption)
             have q832 : x5_1 < (l0.length : Int):=of_decide_eq_true (by first | (with_reducible assumption) | assumption)
             obtain ⟨ad832,A832_7,c832_7,e832,hx832_0,hx832_1,hx832_2,hx832_3,hx832_4,hx832_5,hx832_6,hx832_7,hl832_7,hi832_7⟩:=at_T56 HR0.out x5_1 p832 q832
             obtain rfl : ad829 = ad832:=(by injection e832)
             have HR832_7:=Aside0.mk hi832_7
             have HC832_7:=Aside0.mk hl832_7
             clear hi832_7 hl832_7
             replace p832:=eq_true p832
             replace q832:=eq_true q832
             have ea_:=Option.some.inj (hx829_7.symm.trans hx832_7)
             injection ea_ with ea_ en_ ec_
             subst ea_
             subst ec_
             clear en_
             have p833 : 0 ≤ (x5_1 : Int):=of_decide_eq_true (by first | (with_reducible assumption) | assumption)
             have q833 : x5_1 < (l0.length : Int):=of_decide_eq_true (by first | (with_reducible assumption) | assumption)
             obtain ⟨ad833,A833_7,c833_7,e833,hx833_0,hx833_1,hx833_2,hx833_3,hx833_4,hx833_5,hx833_6,hx833_7,hl833_7,hi833_7⟩:=at_T56 HR0.out x5_1 p833 q833
             obtain rfl : ad829 = ad833:=(by injection e833)
             have HR833_7:=Aside0.mk hi833_7
             have HC833_7:=Aside0.mk hl833_7
             clear hi833_7 hl833_7
             replace p833:=eq_true p833
             replace q833:=eq_true q833
             have ea_:=Option.some.inj (hx829_7.symm.trans hx833_7)
             injection ea_ with ea_ en_ ec_
             subst ea_
             subst ec_
             clear en_
             have p834 : 0 ≤ (x5_1 : Int):=of_decide_eq_true (by first | (with_reducible assumption) | assumption)
             have q834 : x5_1 < (l0.length : Int):=of_decide_eq_true (by first | (with_reducible assumption) | assumption)
             obtain ⟨ad834,A834_7,c834_7,e834,hx834_0,hx834_1,hx834_2,hx834_3,hx834_4,hx834_5,hx834_6,hx834_7,hl834_7,hi834_7⟩:=at_T56 HR0.out x5_1 p834 q834
             obtain rfl : ad829 = ad834:=(by injection e834)
             have HR834_7:=Aside0.mk hi834_7
             have HC834_7:=Aside0.mk hl834_7
             clear hi834_7 hl834_7
             replace p834:=eq_true p834
             replace q834:=eq_true q834
             have ea_:=Option.some.inj (hx829_7.symm.trans hx834_7)
             injection ea_ with ea_ en_ ec_
             subst ea_
             subst ec_
             clear en_
             have p835 : 0 ≤ (x5_1 : Int):=of_decide_eq_true (by first | (with_reducible assumption) | assumption)
             have q835 : x5_1 < (l0.length : Int):=of_decide_eq_true (by first | (with_reducible assumption) | assumption)
             obtain ⟨ad835,A835_7,c835_7,e835,hx835_0,hx835_1,hx835_2,hx835_3,hx835_4,hx835_5,hx835_6,hx835_7,hl835_7,hi835_7⟩:=at_T56 HR0.out x5_1 p835 q835
             obtain rfl : ad829 = ad835:=(by injection e835)
             have HR835_7:=Aside0.mk hi835_7
             have HC835_7:=Aside0.mk hl835_7
             clear hi835_7 hl835_7
             replace p835:=eq_true p835
             replace q835:=eq_true q835
             have ea_:=Option.some.inj (hx829_7.symm.trans hx835_7)
             injection ea_ with ea_ en_ ec_
             subst ea_
             subst ec_
             clear en_
             have p836 : 0 ≤ (x5_1 : Int):=of_decide_eq_true (by first | (with_reducible assumption) | assumption)
             have q836 : x5_1 < (l0.length : Int):=of_decide_eq_true (by first | (with_reducible assumption) | assumption)
             obtain ⟨ad836,A836_7,c836_7,e836,hx836_0,hx836_1,hx836_2,hx836_3,hx836_4,hx836_5,hx836_6,hx836_7,hl836_7,hi836_7⟩:=at_T56 HR0.out x5_1 p836 q836
             obtain rfl : ad829 = ad836:=(by injection e836)
             have HR836_7:=Aside0.mk hi836_7
             have HC836_7:=Aside0.mk hl836_7
             clear hi836_7 hl836_7
             replace p836:=eq_true p836
             replace q836:=eq_true q836
             have ea_:=Option.some.inj (hx829_7.symm.trans hx836_7)
             injection ea_ with ea_ en_ ec_
             subst ea_
             subst ec_
             clear en_
             go_wp2_with (first | ((with_reducible refine gate_callee (f:=100) rfl ?_);refine goesL_ (some 91) rfl rfl Try.func100 (by kernel_rfl) rfl #[.slice A829_7 ((rd_T56 l0 x5_1).f3.f4).length c829_7, .int .i64 (wrap64 ((wrap64 ((wrap64 ((wrap64 ((wrap64 ((wrap64 ((wrap64 (x1_1 + 1)) + 1)) + 1)) + 1)) + 1)) + 1)) + 1))] rfl (by (try simp only [List.map_toArray,List.map_cons,List.map_nil]);first | done | rfl | (simp only [List.length_drop,List.length_take];rfl)) ?_;(with_reducible refine (laws_heldByteS.calls k1 _ _ ((rd_T56 l0 x5_1).f3.f4) (wrap64 ((wrap64 ((wrap64 ((wrap64 ((wrap64 ((wrap64 ((wrap64 (x1_1 + 1)) + 1)) + 1)) + 1)) + 1)) + 1)) + 1)) t837 _ ?side1 ?side2 A12.out).mono ?_);(case side1 => repeat (first | exact HR836_7.out | (with_reducible refine Kd.C_alloc ?_ _) | (with_reducible refine Kd.C_drewN ?_ _) | (with_reducible refine Kd.C_drew ?_)));(case side2 => exact HC836_7.out);rintro e w' ⟨rfl,⟨nd,rfl⟩⟩;refine ⟨_,rfl, ?_⟩))
             go_ret
             exact ⟨by first | rfl | (simp;done) | (simp [*];done),by repeat (first | exact Drawn0.refl _ | apply Drawn0.step)⟩
            ·rw [if_neg c13] at H
             have c13b0 : decide (t837 < 0) = false:=decide_eq_false c13
             clear c13
             have H':=Aside0.mk H
             clear H
             have p829 : 0 ≤ (x5_1 : Int):=of_decide_eq_true (by first | (with_reducible assumption) | assumption)
             have q829 : x5_1 < (l0.length : Int):=of_decide_eq_true (by first | (with_reducible assumption) | assumption)
             obtain ⟨ad829,A829_7,c829_7,e829,hx829_0,hx829_1,hx829_2,hx829_3,hx829_4,hx829_5,hx829_6,hx829_7,hl829_7,hi829_7⟩:=at_T56 HR0.out x5_1 p829 q829
             cases e829
             have HR829_7:=Aside0.mk hi829_7
             have HC829_7:=Aside0.mk hl829_7
             clear hi829_7 hl829_7
             replace p829:=eq_true p829
             replace q829:=eq_true q829
             have p830 : 0 ≤ (x5_1 : Int):=of_decide_eq_true (by first | (with_reducible assumption) | assumption)
             have q830 : x5_1 < (l0.length : Int):=of_decide_eq_true (by first | (with_reducible assumption) | assumption)
             obtain ⟨ad830,A830_7,c830_7,e830,hx830_0,hx830_1,hx830_2,hx830_3,hx830_4,hx830_5,hx830_6,hx830_7,hl830_7,hi830_7⟩:=at_T56 HR0.out x5_1 p830 q830
             obtain rfl : ad829 = ad830:=(by injection e830)
             have HR830_7:=Aside0.mk hi830_7
             have HC830_7:=Aside0.mk hl830_7
             clear hi830_7 hl830_7
             replace p830:=eq_true p830
             replace q830:=eq_true q830
             have ea_:=Option.some.inj (hx829_7.symm.trans hx830_7)
             injection ea_ with ea_ en_ ec_
             subst ea_
             subst ec_
             clear en_
             have p831 : 0 ≤ (x5_1 : Int):=of_decide_eq_true (by first | (with_reducible assumption) | assumption)
             have q831 : x5_1 < (l0.length : Int):=of_decide_eq_true (by first | (with_reducible assumption) | assumption)
             obtain ⟨ad831,A831_7,c831_7,e831,hx831_0,hx831_1,hx831_2,hx831_3,hx831_4,hx831_5,hx831_6,hx831_7,hl831_7,hi831_7⟩:=at_T56 HR0.out x5_1 p831 q831
             obtain rfl : ad829 = ad831:=(by injection e831)
             have HR831_7:=Aside0.mk hi831_7
             have HC831_7:=Aside0.mk hl831_7
             clear hi831_7 hl831_7
             replace p831:=eq_true p831
             replace q831:=eq_true q831
             have ea_:=Option.some.inj (hx829_7.symm.trans hx831_7)
             injection ea_ with ea_ en_ ec_
             subst ea_
             subst ec_
             clear en_
             have p832 : 0 ≤ (x5_1 : Int):=of_decide_eq_true (by first | (with_reducible assumption) | assumption)
             have q832 : x5_1 < (l0.length : Int):=of_decide_eq_true (by first | (with_reducible assumption) | assumption)
             obtain ⟨ad832,A832_7,c832_7,e832,hx832_0,hx832_1,hx832_2,hx832_3,hx832_4,hx832_5,hx832_6,hx832_7,hl832_7,hi832_7⟩:=at_T56 HR0.out x5_1 p832 q832
             obtain rfl : ad829 = ad832:=(by injection e832)
             have HR832_7:=Aside0.mk hi832_7
             have HC832_7:=Aside0.mk hl832_7
             clear hi832_7 hl832_7
             replace p832:=eq_true p832
             replace q832:=eq_true q832
             have ea_:=Option.some.inj (hx829_7.symm.trans hx832_7)
             injection ea_ with ea_ en_ ec_
             subst ea_
             subst ec_
             clear en_
             have p833 : 0 ≤ (x5_1 : Int):=of_decide_eq_true (by first | (with_reducible assumption) | assumption)
             have q833 : x5_1 < (l0.length : Int):=of_decide_eq_true (by first | (with_reducible assumption) | assumption)
             obtain ⟨ad833,A833_7,c833_7,e833,hx833_0,hx833_1,hx833_2,hx833_3,hx833_4,hx833_5,hx833_6,hx833_7,hl833_7,hi833_7⟩:=at_T56 HR0.out x5_1 p833 q833
             obtain rfl : ad829 = ad833:=(by injection e833)
             have HR833_7:=Aside0.mk hi833_7
             have HC833_7:=Aside0.mk hl833_7
             clear hi833_7 hl833_7
             replace p833:=eq_true p833
             replace q833:=eq_true q833
             have ea_:=Option.some.inj (hx829_7.symm.trans hx833_7)
             injection ea_ with ea_ en_ ec_
             subst ea_
             subst ec_
             clear en_
             have p834 : 0 ≤ (x5_1 : Int):=of_decide_eq_true (by first | (with_reducible assumption) | assumption)
             have q834 : x5_1 < (l0.length : Int):=of_decide_eq_true (by first | (with_reducible assumption) | assumption)
             obtain ⟨ad834,A834_7,c834_7,e834,hx834_0,hx834_1,hx834_2,hx834_3,hx834_4,hx834_5,hx834_6,hx834_7,hl834_7,hi834_7⟩:=at_T56 HR0.out x5_1 p834 q834
             obtain rfl : ad829 = ad834:=(by injection e834)
             have HR834_7:=Aside0.mk hi834_7
             have HC834_7:=Aside0.mk hl834_7
             clear hi834_7 hl834_7
             replace p834:=eq_true p834
             replace q834:=eq_true q834
             have ea_:=Option.some.inj (hx829_7.symm.trans hx834_7)
             injection ea_ with ea_ en_ ec_
             subst ea_
             subst ec_
             clear en_
             have p835 : 0 ≤ (x5_1 : Int):=of_decide_eq_true (by first | (with_reducible assumption) | assumption)
             have q835 : x5_1 < (l0.length : Int):=of_decide_eq_true (by first | (with_reducible assumption) | assumption)
             obtain ⟨ad835,A835_7,c835_7,e835,hx835_0,hx835_1,hx835_2,hx835_3,hx835_4,hx835_5,hx835_6,hx835_7,hl835_7,hi835_7⟩:=at_T56 HR0.out x5_1 p835 q835
             obtain rfl : ad829 = ad835:=(by injection e835)
             have HR835_7:=Aside0.mk hi835_7
             have HC835_7:=Aside0.mk hl835_7
             clear hi835_7 hl835_7
             replace p835:=eq_true p835
             replace q835:=eq_true q835
             have ea_:=Option.some.inj (hx829_7.symm.trans hx835_7)
             injection ea_ with ea_ en_ ec_
             subst ea_
             subst ec_
             clear en_
             have p836 : 0 ≤ (x5_1 : Int):=of_decide_eq_true (by first | (with_reducible assumption) | assumption)
             have q836 : x5_1 < (l0.length : Int):=of_decide_eq_true (by first | (with_reducible assumption) | assumption)
             obtain ⟨ad836,A836_7,c836_7,e836,hx836_0,hx836_1,hx836_2,hx836_3,hx836_4,hx836_5,hx836_6,hx836_7,hl836_7,hi836_7⟩:=at_T56 HR0.out x5_1 p836 q836
             obtain rfl : ad829 = ad836:=(by injection e836)
             have HR836_7:=Aside0.mk hi836_7
             have HC836_7:=Aside0.mk hl836_7
             clear hi836_7 hl836_7
             replace p836:=eq_true p836
             replace q836:=eq_true q836
             have ea_:=Option.some.inj (hx829_7.symm.trans hx836_7)
             injection ea_ with ea_ en_ ec_
             subst ea_
             subst ec_
             clear en_
             go_wp2_with (first | ((with_reducible refine gate_callee (f:=100) rfl ?_);refine goesL_ (some 91) rfl rfl Try.func100 (by kernel_rfl) rfl #[.slice A829_7 ((rd_T56 l0 x5_1).f3.f4).length c829_7, .int .i64 (wrap64 ((wrap64 ((wrap64 ((wrap64 ((wrap64 ((wrap64 ((wrap64 (x1_1 + 1)) + 1)) + 1)) + 1)) + 1)) + 1)) + 1))] rfl (by (try simp only [List.map_toArray,List.map_cons,List.map_nil]);first | done | rfl | (simp only [List.length_drop,List.length_take];rfl)) ?_;(with_reducible refine (laws_heldByteS.calls k1 _ _ ((rd_T56 l0 x5_1).f3.f4) (wrap64 ((wrap64 ((wrap64 ((wrap64 ((wrap64 ((wrap64 ((wrap64 (x1_1 + 1)) + 1)) + 1)) + 1)) + 1)) + 1)) + 1)) t837 _ ?side1 ?side2 A12.out).mono ?_);(case side1 => repeat (first | exact HR836_7.out | (with_reducible refine Kd.C_alloc ?_ _) | (with_reducible refine Kd.C_drewN ?_ _) | (with_reducible refine Kd.C_drew ?_)));(case side2 => exact HC836_7.out);rintro e w' ⟨rfl,⟨nd,rfl⟩⟩;refine ⟨_,rfl, ?_⟩))
             go_roundg k1
             case measure => have:=HK1.out;omega
             case rel => exact ⟨(t837),(wrap64 (x5_1 + 1)),(by first | rfl | (simp;done) | (simp [*];done)),(by first | rfl | (simp;done) | (simp [*];done)),H',⟨by have:=HK1.out;omega⟩,by repeat (first | exact Drawn0.refl _ | apply Drawn0.step)⟩
           ·rw [if_neg c11] at H
            have c11b0 : (((rd_T56 l0 x5_1).f3.f3) == (wrap64 ((wrap64 ((wrap64 ((wrap64 ((wrap64 ((wrap64 (x1_1 + 1)) + 1)) + 1)) + 1)) + 1)) + 1))) = false:=beq_eq_false_iff_ne.mpr c11
            have c11b1 : (((rd_T56 l0 x5_1).f3.f3) != (wrap64 ((wrap64 ((wrap64 ((wrap64 ((wrap64 ((wrap64 (x1_1 + 1)) + 1)) + 1)) + 1)) + 1)) + 1))) = true:=bne_iff_ne.mpr c11
            obtain rfl:=Option.some.inj H
            have p829 : 0 ≤ (x5_1 : Int):=of_decide_eq_true (by first | (with_reducible assumption) | assumption)
            have q829 : x5_1 < (l0.length : Int):=of_decide_eq_true (by first | (with_reducible assumption) | assumption)
            obtain ⟨ad829,A829_7,c829_7,e829,hx829_0,hx829_1,hx829_2,hx829_3,hx829_4,hx829_5,hx829_6,hx829_7,hl829_7,hi829_7⟩:=at_T56 HR0.out x5_1 p829 q829
            cases e829
            have HR829_7:=Aside0.mk hi829_7
            have HC829_7:=Aside0.mk hl829_7
            clear hi829_7 hl829_7
            replace p829:=eq_true p829
            replace q829:=eq_true q829
            have p830 : 0 ≤ (x5_1 : Int):=of_decide_eq_true (by first | (with_reducible assumption) | assumption)
            have q830 : x5_1 < (l0.length : Int):=of_decide_eq_true (by first | (with_reducible assumption) | assumption)
            obtain ⟨ad830,A830_7,c830_7,e830,hx830_0,hx830_1,hx830_2,hx830_3,hx830_4,hx830_5,hx830_6,hx830_7,hl830_7,hi830_7⟩:=at_T56 HR0.out x5_1 p830 q830
            obtain rfl : ad829 = ad830:=(by injection e830)
            have HR830_7:=Aside0.mk hi830_7
            have HC830_7:=Aside0.mk hl830_7
            clear hi830_7 hl830_7
            replace p830:=eq_true p830
            replace q830:=eq_true q830
            have ea_:=Option.some.inj (hx829_7.symm.trans hx830_7)
            injection ea_ with ea_ en_ ec_
            subst ea_
            subst ec_
            clear en_
            have p831 : 0 ≤ (x5_1 : Int):=of_decide_eq_true (by first | (with_reducible assumption) | assumption)
            have q831 : x5_1 < (l0.length : Int):=of_decide_eq_true (by first | (with_reducible assumption) | assumption)
            obtain ⟨ad831,A831_7,c831_7,e831,hx831_0,hx831_1,hx831_2,hx831_3,hx831_4,hx831_5,hx831_6,hx831_7,hl831_7,hi831_7⟩:=at_T56 HR0.out x5_1 p831 q831
            obtain rfl : ad829 = ad831:=(by injection e831)
            have HR831_7:=Aside0.mk hi831_7
            have HC831_7:=Aside0.mk hl831_7
            clear hi831_7 hl831_7
            replace p831:=eq_true p831
            replace q831:=eq_true q831
            have ea_:=Option.some.inj (hx829_7.symm.trans hx831_7)
            injection ea_ with ea_ en_ ec_
            subst ea_
            subst ec_
            clear en_
            have p832 : 0 ≤ (x5_1 : Int):=of_decide_eq_true (by first | (with_reducible assumption) | assumption)
            have q832 : x5_1 < (l0.length : Int):=of_decide_eq_true (by first | (with_reducible assumption) | assumption)
            obtain ⟨ad832,A832_7,c832_7,e832,hx832_0,hx832_1,hx832_2,hx832_3,hx832_4,hx832_5,hx832_6,hx832_7,hl832_7,hi832_7⟩:=at_T56 HR0.out x5_1 p832 q832
            obtain rfl : ad829 = ad832:=(by injection e832)
            have HR832_7:=Aside0.mk hi832_7
            have HC832_7:=Aside0.mk hl832_7
            clear hi832_7 hl832_7
            replace p832:=eq_true p832
            replace q832:=eq_true q832
            have ea_:=Option.some.inj (hx829_7.symm.trans hx832_7)
            injection ea_ with ea_ en_ ec_
            subst ea_
            subst ec_
            clear en_
            have p833 : 0 ≤ (x5_1 : Int):=of_decide_eq_true (by first | (with_reducible assumption) | assumption)
            have q833 : x5_1 < (l0.length : Int):=of_decide_eq_true (by first | (with_reducible assumption) | assumption)
            obtain ⟨ad833,A833_7,c833_7,e833,hx833_0,hx833_1,hx833_2,hx833_3,hx833_4,hx833_5,hx833_6,hx833_7,hl833_7,hi833_7⟩:=at_T56 HR0.out x5_1 p833 q833
            obtain rfl : ad829 = ad833:=(by injection e833)
            have HR833_7:=Aside0.mk hi833_7
            have HC833_7:=Aside0.mk hl833_7
            clear hi833_7 hl833_7
            replace p833:=eq_true p833
            replace q833:=eq_true q833
            have ea_:=Option.some.inj (hx829_7.symm.trans hx833_7)
            injection ea_ with ea_ en_ ec_
            subst ea_
            subst ec_
            clear en_
            have p834 : 0 ≤ (x5_1 : Int):=of_decide_eq_true (by first | (with_reducible assumption) | assumption)
            have q834 : x5_1 < (l0.length : Int):=of_decide_eq_true (by first | (with_reducible assumption) | assumption)
            obtain ⟨ad834,A834_7,c834_7,e834,hx834_0,hx834_1,hx834_2,hx834_3,hx834_4,hx834_5,hx834_6,hx834_7,hl834_7,hi834_7⟩:=at_T56 HR0.out x5_1 p834 q834
            obtain rfl : ad829 = ad834:=(by injection e834)
            have HR834_7:=Aside0.mk hi834_7
            have HC834_7:=Aside0.mk hl834_7
            clear hi834_7 hl834_7
            replace p834:=eq_true p834
            replace q834:=eq_true q834
            have ea_:=Option.some.inj (hx829_7.symm.trans hx834_7)
            injection ea_ with ea_ en_ ec_
            subst ea_
            subst ec_
            clear en_
            have p835 : 0 ≤ (x5_1 : Int):=of_decide_eq_true (by first | (with_reducible assumption) | assumption)
            have q835 : x5_1 < (l0.length : Int):=of_decide_eq_true (by first | (with_reducible assumption) | assumption)
            obtain ⟨ad835,A835_7,c835_7,e835,hx835_0,hx835_1,hx835_2,hx835_3,hx835_4,hx835_5,hx835_6,hx835_7,hl835_7,hi835_7⟩:=at_T56 HR0.out x5_1 p835 q835
            obtain rfl : ad829 = ad835:=(by injection e835)
            have HR835_7:=Aside0.mk hi835_7
            have HC835_7:=Aside0.mk hl835_7
            clear hi835_7 hl835_7
            replace p835:=eq_true p835
            replace q835:=eq_true q835
            have ea_:=Option.some.inj (hx829_7.symm.trans hx835_7)
            injection ea_ with ea_ en_ ec_
            subst ea_
            subst ec_
            clear en_
            go_wp2
            go_ret
            exact ⟨by first | rfl | (simp;done) | (simp [*];done),by repeat (first | exact Drawn0.refl _ | apply Drawn0.step)⟩
         ·rw [if_neg c9] at H
          have c9b0 : (((rd_T56 l0 x5_1).f3.f1) == ((wrap64 ((wrap64 ((wrap64 ((wrap64 (x1_1 + 1)) + 1)) + 1)) + 1)) % 4294967296)) = false:=beq_eq_false_iff_ne.mpr c9
          have c9b1 : (((rd_T56 l0 x5_1).f3.f1) != ((wrap64 ((wrap64 ((wrap64 ((wrap64 (x1_1 + 1)) + 1)) + 1)) + 1)) % 4294967296)) = true:=bne_iff_ne.mpr c9
          obtain rfl:=Option.some.inj H
          have p829 : 0 ≤ (x5_1 : Int):=of_decide_eq_true (by first | (with_reducible assumption) | assumption)
          have q829 : x5_1 < (l0.length : Int):=of_decide_eq_true (by first | (with_reducible assumption) | assumption)
          obtain ⟨ad829,A829_7,c829_7,e829,hx829_0,hx829_1,hx829_2,hx829_3,hx829_4,hx829_5,hx829_6,hx829_7,hl829_7,hi829_7⟩:=at_T56 HR0.out x5_1 p829 q829
          cases e829
          have HR829_7:=Aside0.mk hi829_7
          have HC829_7:=Aside0.mk hl829_7
          clear hi829_7 hl829_7
          replace p829:=eq_true p829
          replace q829:=eq_true q829
          have p830 : 0 ≤ (x5_1 : Int):=of_decide_eq_true (by first | (with_reducible assumption) | assumption)
          have q830 : x5_1 < (l0.length : Int):=of_decide_eq_true (by first | (with_reducible assumption) | assumption)
          obtain ⟨ad830,A830_7,c830_7,e830,hx830_0,hx830_1,hx830_2,hx830_3,hx830_4,hx830_5,hx830_6,hx830_7,hl830_7,hi830_7⟩:=at_T56 HR0.out x5_1 p830 q830
          obtain rfl : ad829 = ad830:=(by injection e830)
          have HR830_7:=Aside0.mk hi830_7
          have HC830_7:=Aside0.mk hl830_7
          clear hi830_7 hl830_7
          replace p830:=eq_true p830
          replace q830:=eq_true q830
          have ea_:=Option.some.inj (hx829_7.symm.trans hx830_7)
          injection ea_ with ea_ en_ ec_
          subst ea_
          subst ec_
          clear en_
          have p831 : 0 ≤ (x5_1 : Int):=of_decide_eq_true (by first | (with_reducible assumption) | assumption)
          have q831 : x5_1 < (l0.length : Int):=of_decide_eq_true (by first | (with_reducible assumption) | assumption)
          obtain ⟨ad831,A831_7,c831_7,e831,hx831_0,hx831_1,hx831_2,hx831_3,hx831_4,hx831_5,hx831_6,hx831_7,hl831_7,hi831_7⟩:=at_T56 HR0.out x5_1 p831 q831
          obtain rfl : ad829 = ad831:=(by injection e831)
          have HR831_7:=Aside0.mk hi831_7
          have HC831_7:=Aside0.mk hl831_7
          clear hi831_7 hl831_7
          replace p831:=eq_true p831
          replace q831:=eq_true q831
          have ea_:=Option.some.inj (hx829_7.symm.trans hx831_7)
          injection ea_ with ea_ en_ ec_
          subst ea_
          subst ec_
          clear en_
          have p832 : 0 ≤ (x5_1 : Int):=of_decide_eq_true (by first | (with_reducible assumption) | assumption)
          have q832 : x5_1 < (l0.length : Int):=of_decide_eq_true (by first | (with_reducible assumption) | assumption)
          obtain ⟨ad832,A832_7,c832_7,e832,hx832_0,hx832_1,hx832_2,hx832_3,hx832_4,hx832_5,hx832_6,hx832_7,hl832_7,hi832_7⟩:=at_T56 HR0.out x5_1 p832 q832
          obtain rfl : ad829 = ad832:=(by injection e832)
          have HR832_7:=Aside0.mk hi832_7
          have HC832_7:=Aside0.mk hl832_7
          clear hi832_7 hl832_7
          replace p832:=eq_true p832
          replace q832:=eq_true q832
          have ea_:=Option.some.inj (hx829_7.symm.trans hx832_7)
          injection ea_ with ea_ en_ ec_
          subst ea_
          subst ec_
          clear en_
          have p833 : 0 ≤ (x5_1 : Int):=of_decide_eq_true (by first | (with_reducible assumption) | assumption)
          have q833 : x5_1 < (l0.length : Int):=of_decide_eq_true (by first | (with_reducible assumption) | assumption)
          obtain ⟨ad833,A833_7,c833_7,e833,hx833_0,hx833_1,hx833_2,hx833_3,hx833_4,hx833_5,hx833_6,hx833_7,hl833_7,hi833_7⟩:=at_T56 HR0.out x5_1 p833 q833
          obtain rfl : ad829 = ad833:=(by injection e833)
          have HR833_7:=Aside0.mk hi833_7
          have HC833_7:=Aside0.mk hl833_7
          clear hi833_7 hl833_7
          replace p833:=eq_true p833
          replace q833:=eq_true q833
          have ea_:=Option.some.inj (hx829_7.symm.trans hx833_7)
          injection ea_ with ea_ en_ ec_
          subst ea_
          subst ec_
          clear en_
          go_wp2
          go_ret
          exact ⟨by first | rfl | (simp;done) | (simp [*];done),by repeat (first | exact Drawn0.refl _ | apply Drawn0.step)⟩
       ·rw [if_neg c7] at H
        have c7b0 : (((rd_T56 l0 x5_1).f2) == (wrap64 ((wrap64 (x1_1 + 1)) + 1))) = false:=beq_eq_false_iff_ne.mpr c7
        have c7b1 : (((rd_T56 l0 x5_1).f2) != (wrap64 ((wrap64 (x1_1 + 1)) + 1))) = true:=bne_iff_ne.mpr c7
        obtain rfl:=Option.some.inj H
        have p829 : 0 ≤ (x5_1 : Int):=of_decide_eq_true (by first | (with_reducible assumption) | assumption)
        have q829 : x5_1 < (l0.length : Int):=of_decide_eq_true (by first | (with_reducible assumption) | assumption)
        obtain ⟨ad829,A829_7,c829_7,e829,hx829_0,hx829_1,hx829_2,hx829_3,hx829_4,hx829_5,hx829_6,hx829_7,hl829_7,hi829_7⟩:=at_T56 HR0.out x5_1 p829 q829
        cases e829
        have HR829_7:=Aside0.mk hi829_7
        have HC829_7:=Aside0.mk hl829_7
        clear hi829_7 hl829_7
        replace p829:=eq_true p829
        replace q829:=eq_true q829
        have p830 : 0 ≤ (x5_1 : Int):=of_decide_eq_true (by first | (with_reducible assumption) | assumption)
        have q830 : x5_1 < (l0.length : Int):=of_decide_eq_true (by first | (with_reducible assumption) | assumption)
        obtain ⟨ad830,A830_7,c830_7,e830,hx830_0,hx830_1,hx830_2,hx830_3,hx830_4,hx830_5,hx830_6,hx830_7,hl830_7,hi830_7⟩:=at_T56 HR0.out x5_1 p830 q830
        obtain rfl : ad829 = ad830:=(by injection e830)
        have HR830_7:=Aside0.mk hi830_7
        have HC830_7:=Aside0.mk hl830_7
        clear hi830_7 hl830_7
        replace p830:=eq_true p830
        replace q830:=eq_true q830
        have ea_:=Option.some.inj (hx829_7.symm.trans hx830_7)
        injection ea_ with ea_ en_ ec_
        subst ea_
        subst ec_
        clear en_
        have p831 : 0 ≤ (x5_1 : Int):=of_decide_eq_true (by first | (with_reducible assumption) | assumption)
        have q831 : x5_1 < (l0.length : Int):=of_decide_eq_true (by first | (with_reducible assumption) | assumption)
        obtain ⟨ad831,A831_7,c831_7,e831,hx831_0,hx831_1,hx831_2,hx831_3,hx831_4,hx831_5,hx831_6,hx831_7,hl831_7,hi831_7⟩:=at_T56 HR0.out x5_1 p831 q831
        obtain rfl : ad829 = ad831:=(by injection e831)
        have HR831_7:=Aside0.mk hi831_7
        have HC831_7:=Aside0.mk hl831_7
        clear hi831_7 hl831_7
        replace p831:=eq_true p831
        replace q831:=eq_true q831
        have ea_:=Option.some.inj (hx829_7.symm.trans hx831_7)
        injection ea_ with ea_ en_ ec_
        subst ea_
        subst ec_
        clear en_
        go_wp2
        go_ret
        exact ⟨by first | rfl | (simp;done) | (simp [*];done),by repeat (first | exact Drawn0.refl _ | apply Drawn0.step)⟩
      ·rw [if_neg c6] at H
       have c6b0 : (((rd_T56 l0 x5_1).f1) == (wrap64 (x1_1 + 1))) = false:=beq_eq_false_iff_ne.mpr c6
       have c6b1 : (((rd_T56 l0 x5_1).f1) != (wrap64 (x1_1 + 1))) = true:=bne_iff_ne.mpr c6
       obtain rfl:=Option.some.inj H
       have p829 : 0 ≤ (x5_1 : Int):=of_decide_eq_true (by first | (with_reducible assumption) | assumption)
       have q829 : x5_1 < (l0.length : Int):=of_decide_eq_true (by first | (with_reducible assumption) | assumption)
       obtain ⟨ad829,A829_7,c829_7,e829,hx829_0,hx829_1,hx829_2,hx829_3,hx829_4,hx829_5,hx829_6,hx829_7,hl829_7,hi829_7⟩:=at_T56 HR0.out x5_1 p829 q829
       cases e829
       have HR829_7:=Aside0.mk hi829_7
       have HC829_7:=Aside0.mk hl829_7
       clear hi829_7 hl829_7
       replace p829:=eq_true p829
       replace q829:=eq_true q829
       have p830 : 0 ≤ (x5_1 : Int):=of_decide_eq_true (by first | (with_reducible assumption) | assumption)
       have q830 : x5_1 < (l0.length : Int):=of_decide_eq_true (by first | (with_reducible assumption) | assumption)
       obtain ⟨ad830,A830_7,c830_7,e830,hx830_0,hx830_1,hx830_2,hx830_3,hx830_4,hx830_5,hx830_6,hx830_7,hl830_7,hi830_7⟩:=at_T56 HR0.out x5_1 p830 q830
       obtain rfl : ad829 = ad830:=(by injection e830)
       have HR830_7:=Aside0.mk hi830_7
       have HC830_7:=Aside0.mk hl830_7
       clear hi830_7 hl830_7
       replace p830:=eq_true p830
       replace q830:=eq_true q830
       have ea_:=Option.some.inj (hx829_7.symm.trans hx830_7)
       injection ea_ with ea_ en_ ec_
       subst ea_
       subst ec_
       clear en_
       go_wp2
       go_ret
       exact ⟨by first | rfl | (simp;done) | (simp [*];done),by repeat (first | exact Drawn0.refl _ | apply Drawn0.step)⟩
     ·rw [if_neg c5] at H
      have c5b0 : (((rd_T56 l0 x5_1).f0) == x1_1) = false:=beq_eq_false_iff_ne.mpr c5
      have c5b1 : (((rd_T56 l0 x5_1).f0) != x1_1) = true:=bne_iff_ne.mpr c5
      obtain rfl:=Option.some.inj H
      have p829 : 0 ≤ (x5_1 : Int):=of_decide_eq_true (by first | (with_reducible assumption) | assumption)
      have q829 : x5_1 < (l0.length : Int):=of_decide_eq_true (by first | (with_reducible assumption) | assumption)
      obtain ⟨ad829,A829_7,c829_7,e829,hx829_0,hx829_1,hx829_2,hx829_3,hx829_4,hx829_5,hx829_6,hx829_7,hl829_7,hi829_7⟩:=at_T56 HR0.out x5_1 p829 q829
      cases e829
      have HR829_7:=Aside0.mk hi829_7
      have HC829_7:=Aside0.mk hl829_7
      clear hi829_7 hl829_7
      replace p829:=eq_true p829
      replace q829:=eq_true q829
      go_wp2
      go_ret
      exact ⟨by first | rfl | (simp;done) | (simp [*];done),by repeat (first | exact Drawn0.refl _ | apply Drawn0.step)⟩
    ·rw [if_neg c4] at H
     exact absurd H (by simp)
   ·rw [if_neg c3] at H
    have c3b0 : decide (x5_1 < (l0.length : Int)) = false:=decide_eq_false c3
    clear c3
    obtain rfl:=Option.some.inj H
    go_wp2
    go_ret
    exact ⟨by first | rfl | (simp;done) | (simp [*];done),by repeat (first | exact Drawn0.refl _ | apply Drawn0.step)⟩
end Go.Proofs.Ytcaefabbcjlkdaa.P
namespace Go.Proofs.Ytcaefabbcjlkdaa.P
open Go Go.RowKit Go.Proofs.YtcaefabbcjlkdaaW.PrintWords Go.Proofs.YtcaefabbcjlkdaaW.PrintLast Go.Proofs.YtcaefabbcjlkdaaW.PrintMore
set_option linter.unusedVariables false
set_option linter.unusedSimpArgs false
def mkEvent (k : Int) (x : S56) : S56:=⟨k,k + 1,k + 2,⟨tm (k + 3),(k + 4) % 4294967296,tm (k + 5),k + 6,marks (k + 7) x.f3.f4.length⟩⟩
def offEvent (xs : List S56) : Nat → Int
 | 0 => 0
 | i + 1 => offEvent xs i + 7 + ((xs.getD i z56).f3.f4.length : Int)
def markEvents (q : Int) (xs : List S56) : List S56:=(List.range xs.length).map (fun i => mkEvent (q + offEvent xs i) (xs.getD i z56))
theorem markEvents_len (q : Int) (xs : List S56) : (markEvents q xs).length = xs.length:=by simp [markEvents]
theorem markEvents_get (q : Int) (xs : List S56) (i : Nat) (hi : i < xs.length) : (markEvents q xs)[i]? = some (mkEvent (q + offEvent xs i) (xs.getD i z56)):=by
 simp [markEvents,List.getElem?_range,hi]
theorem offEvent_nn (xs : List S56) : ∀ i,0 ≤ offEvent xs i:=by
 intro i
 induction i with
 | zero => exact Int.le_refl _
 | succ i ih => rw [offEvent];omega
theorem offEvent_mono (xs : List S56) (i d : Nat) : offEvent xs i ≤ offEvent xs (i + d):=by
 induction d with
 | zero => exact Int.le_refl _
 | succ d ih => rw [← Nat.add_assoc,offEvent];omega
theorem offEvent_le (xs : List S56) {i n : Nat} (h : i ≤ n) : offEvent xs i ≤ offEvent xs n:=by
 have:=offEvent_mono xs i (n - i)
 rwa [Nat.add_sub_cancel' h] at this
set_option maxRecDepth 100000 in
set_option maxHeartbeats 8000000 in
theorem markEvents_v (w0 w : World) (ok : Nat → Prop) (v : Value) (xs : List S56) (q : Int) (hB : Below w0.heap.size w0 w) (HS : Kd.S k56 56 w w0.heap.size ok v xs) (hq : 0 ≤ q) (hb : q + offEvent xs xs.length ≤ 50000000) (hl : xs.length ≤ 10000000) (hd : ∀ x ∈ xs,x.f3.f4.length ≤ 10000000) :
  Calls Try.prog 47 #[v, .int .i64 q] w fun e w' => e = .returned (.int .i64 (q + offEvent xs xs.length)) ∧ Kd.S k56 56 w' w0.heap.size ok v (markEvents q xs) ∧ Below w0.heap.size w0 w' ∧ Tch w w' ok:=by
 have HSV:=Lib.hid HS
 have HB:=Lib.hid hB
 have HQ:=Lib.hid hq
 have HBD:=Lib.hid hb
 have HL:=Lib.hid hl
 have HD:=Lib.hid hd
 clear hB hq hb hl hd HS
 obtain ⟨A,cap,rfl⟩:=Kd.S_slice HSV.out
 go_enter Try.func47,Try.ntmps47
 go_upto_region 2 with (fail)
 go_loopw [1,5] (fun v1 v5 wr => ∃ (i : Nat) (k : Int) (ys : List S56),i ≤ xs.length ∧ v5 = .int .i64 i ∧ v1 = .int .i64 k ∧ Aside0 (k = q + offEvent xs i) ∧ Aside0 (Mk (markEvents q xs) xs i ys) ∧ Aside0 (Kd.S k56 56 wr w0.heap.size ok (.slice A xs.length cap) ys) ∧ Aside0 (Below w0.heap.size w0 wr) ∧ Aside0 (Tch w wr ok)) (fun _ v5 _ => xs.length - (intOf v5).toNat)
 case atStart => exact ⟨0,q,xs,Nat.zero_le _,rfl,rfl,⟨by simp [offEvent]⟩,⟨Mk.start (markEvents_len q xs)⟩,⟨HSV.out⟩,⟨HB.out⟩,⟨Tch.refl _ _⟩⟩
 case round =>
  obtain ⟨i,k,ys,hi,rfl,rfl,HKK,HMK,HSR,HBR,HTR⟩:=hrel
  by_cases hlt : i < xs.length
  ·have b2 : decide ((i : Int) < (xs.length : Int)) = true:=decide_eq_true (by omega)
   have p5 : (0 ≤ (i : Int)) = True:=eq_true (by omega)
   have q5 : ((i : Int) < (xs.length : Int)) = True:=eq_true (by omega)
   have qn : (i < xs.length) = True:=eq_true hlt
   have hn : wrap64 ((i : Int) + 1) = (i : Int) + 1:=by have:=HL.out;unfold wrap64;omega
   have HLT:=Lib.hid hlt
   have HI:=Lib.hid hi
   have HN:=Lib.hid hn
   obtain ⟨g,cp,e,_⟩:=Kd.S_form HSR.out (by have h1:=HMK.out.len;omega)
   injection e with e1 e2 e3
   subst e1
   clear e2 e3
   clear hlt hi
   obtain ⟨y,hy⟩ : ∃ y,y = xs.getD i z56:=⟨_,rfl⟩
   have HY : Hid (ys.getD i z56 = y):=Lib.hid (by rw [hy];exact HMK.out.at _)
   have HYX:=Lib.hid hy
   have HYL : Hid (y.f3.f4.length ≤ 10000000):=Lib.hid (by rw [hy];refine HD.out _ (List.mem_of_getElem? (i:=i) ?_);rw [List.getD_eq_getElem?_getD,List.getElem?_eq_getElem HLT.out];rfl)
   have HQB : Hid (0 ≤ k ∧ k + 7 + (y.f3.f4.length : Int) ≤ 50000000 ∧ offEvent xs (i + 1) = offEvent xs i + 7 + (y.f3.f4.length : Int)):=Lib.hid (by
    have h1:=HKK.out;have h2:=HBD.out;have h3:=HQ.out;have h4:=offEvent_nn xs i
    have h5:=offEvent_le xs (i:=i + 1) (n:=xs.length) HLT.out
    have h6 : offEvent xs (i + 1) = offEvent xs i + 7 + (y.f3.f4.length : Int):=by rw [offEvent,hy]
    exact ⟨by omega,by omega,h6⟩)
   clear hy
   have HK1 : Hid ((wrap64 (k + 1)) = k + 1):=Lib.hid (by have h1:=HQB.out;unfold wrap64;omega)
   have HK2 : Hid ((wrap64 ((wrap64 (k + 1)) + 1)) = k + 2):=Lib.hid (by rw [HK1.out];have h1:=HQB.out;unfold wrap64;omega)
   have HK3 : Hid ((wrap64 ((wrap64 ((wrap64 (k + 1)) + 1)) + 1)) = k + 3):=Lib.hid (by rw [HK2.out];have h1:=HQB.out;unfold wrap64;omega)
   have HK4 : Hid ((wrap64 ((wrap64 ((wrap64 ((wrap64 (k + 1)) + 1)) + 1)) + 1)) = k + 4):=Lib.hid (by rw [HK3.out];have h1:=HQB.out;unfold wrap64;omega)
   have HK5 : Hid ((wrap64 ((wrap64 ((wrap64 ((wrap64 ((wrap64 (k + 1)) + 1)) + 1)) + 1)) + 1)) = k + 5):=Lib.hid (by rw [HK4.out];have h1:=HQB.out;unfold wrap64;omega)
   have HK6 : Hid ((wrap64 ((wrap64 ((wrap64 ((wrap64 ((wrap64 ((wrap64 (k + 1)) + 1)) + 1)) + 1)) + 1)) + 1)) = k + 6):=Lib.hid (by rw [HK5.out];have h1:=HQB.out;unfold wrap64;omega)
   have HK7 : Hid ((wrap64 ((wrap64 ((wrap64 ((wrap64 ((wrap64 ((wrap64 ((wrap64 (k + 1)) + 1)) + 1)) + 1)) + 1)) + 1)) + 1)) = k + 7):=Lib.hid (by rw [HK6.out];have h1:=HQB.out;unfold wrap64;omega)
   have HS0:=HSR
   have HB0:=HBR
   have HT0:=HTR
   go_upto_region 18 with (first | ((with_reducible refine gate_store (t:=3) (p:=16) rfl ?_);refine S_put k56 (w0:=w0) w0.heap.size rfl rfl rfl (e:=56) (i:=i) (j:=0) (xs:=ys) (z:=z56) (x':=({ y with f0:=k } : S56)) (u := .int .i64 k) rfl (by rfl) rfl rfl (by kernel_rfl) rfl HS0.out HLT.out (by decide) (by rw [HY.out];intro oki c hc;obtain ⟨v7,rfl,g7⟩:=k56_openM hc;exact k56_mkM _ _ _ ({ y with f0:=k } : S56) g7) HB0.out ?_;intro w1 hs hb hg;have HS1:=Lib.hid hs;have HB1:=Lib.hid hb;have HT1:=Lib.hid (HT0.out.grown hg (fun k e => by injection e with e;rw [← e];exact .inl (S_own_ok HSV.out rfl)));clear hs hb hg) | ((with_reducible refine gate_store (t:=3) (p:=23) rfl ?_);refine S_put k56 (w0:=w0) w0.heap.size rfl rfl rfl (e:=56) (i:=i) (j:=1) (xs:=(ys.set i ({ y with f0:=k } : S56))) (z:=z56) (x':=({ y with f0:=k,f1:=(wrap64 (k + 1)) } : S56)) (u := .int .i64 (wrap64 (k + 1))) rfl (by rfl) rfl rfl (by kernel_rfl) rfl HS1.out HLT.out (by decide) (by rw [getD_set ys i _ _ (by rw [HMK.out.len];exact HLT.out)];intro oki c hc;obtain ⟨v7,rfl,g7⟩:=k56_openM hc;exact k56_mkM _ _ _ ({ y with f0:=k,f1:=(wrap64 (k + 1)) } : S56) g7) HB1.out ?_;intro w2 hs hb hg;rw [List.set_set] at hs;have HS2:=Lib.hid hs;have HB2:=Lib.hid hb;have HT2:=Lib.hid (HT1.out.grown hg (fun k e => by injection e with e;rw [← e];exact .inl (S_own_ok HSV.out rfl)));clear hs hb hg) | ((with_reducible refine gate_store (t:=3) (p:=30) rfl ?_);refine S_put k56 (w0:=w0) w0.heap.size rfl rfl rfl (e:=56) (i:=i) (j:=2) (xs:=(ys.set i ({ y with f0:=k,f1:=(wrap64 (k + 1)) } : S56))) (z:=z56) (x':=({ y with f0:=k,f1:=(wrap64 (k + 1)),f2:=(wrap64 ((wrap64 (k + 1)) + 1)) } : S56)) (u := .int .i64 (wrap64 ((wrap64 (k + 1)) + 1))) rfl (by rfl) rfl rfl (by kernel_rfl) rfl HS2.out HLT.out (by decide) (by rw [getD_set ys i _ _ (by rw [HMK.out.len];exact HLT.out)];intro oki c hc;obtain ⟨v7,rfl,g7⟩:=k56_openM hc;exact k56_mkM _ _ _ ({ y with f0:=k,f1:=(wrap64 (k + 1)),f2:=(wrap64 ((wrap64 (k + 1)) + 1)) } : S56) g7) HB2.out ?_;intro w3 hs hb hg;rw [List.set_set] at hs;have HS3:=Lib.hid hs;have HB3:=Lib.hid hb;have HT3:=Lib.hid (HT2.out.grown hg (fun k e => by injection e with e;rw [← e];exact .inl (S_own_ok HSV.out rfl)));clear hs hb hg) | ((with_reducible refine gate_store (t:=4) (p:=40) rfl ?_);refine S_put k56 (w0:=w0) w0.heap.size rfl rfl rfl (e:=56) (i:=i) (j:=3) (xs:=(ys.set i ({ y with f0:=k,f1:=(wrap64 (k + 1)),f2:=(wrap64 ((wrap64 (k + 1)) + 1)) } : S56))) (z:=z56) (x':=({ y with f0:=k,f1:=(wrap64 (k + 1)),f2:=(wrap64 ((wrap64 (k + 1)) + 1)),f3 := { y.f3 with f0:=Int.tmod (wrap64 ((wrap64 ((wrap64 (k + 1)) + 1)) + 1)) 3 == 0 } } : S56)) (u := .bool (Int.tmod (wrap64 ((wrap64 ((wrap64 (k + 1)) + 1)) + 1)) 3 == 0)) rfl (by rfl) rfl rfl (by kernel_rfl) rfl HS3.out HLT.out (by decide) (by rw [getD_set ys i _ _ (by rw [HMK.out.len];exact HLT.out)];intro oki c hc;obtain ⟨v7,rfl,g7⟩:=k56_openM hc;exact k56_mkM _ _ _ ({ y with f0:=k,f1:=(wrap64 (k + 1)),f2:=(wrap64 ((wrap64 (k + 1)) + 1)),f3 := { y.f3 with f0:=Int.tmod (wrap64 ((wrap64 ((wrap64 (k + 1)) + 1)) + 1)) 3 == 0 } } : S56) g7) HB3.out ?_;intro w4 hs hb hg;rw [List.set_set] at hs;have HS4:=Lib.hid hs;have HB4:=Lib.hid hb;have HT4:=Lib.hid (HT3.out.grown hg (fun k e => by injection e with e;rw [← e];exact .inl (S_own_ok HSV.out rfl)));clear hs hb hg) | ((with_reducible refine gate_store (t:=43) (p:=49) rfl ?_);refine S_put k56 (w0:=w0) w0.heap.size rfl rfl rfl (e:=56) (i:=i) (j:=4) (xs:=(ys.set i ({ y with f0:=k,f1:=(wrap64 (k + 1)),f2:=(wrap64 ((wrap64 (k + 1)) + 1)),f3 := { y.f3 with f0:=Int.tmod (wrap64 ((wrap64 ((wrap64 (k + 1)) + 1)) + 1)) 3 == 0 } } : S56))) (z:=z56) (x':=({ y with f0:=k,f1:=(wrap64 (k + 1)),f2:=(wrap64 ((wrap64 (k + 1)) + 1)),f3 := { y.f3 with f0:=Int.tmod (wrap64 ((wrap64 ((wrap64 (k + 1)) + 1)) + 1)) 3 == 0,f1:=(wrap64 ((wrap64 ((wrap64 ((wrap64 (k + 1)) + 1)) + 1)) + 1)) % 4294967296 } } : S56)) (u := .int .u32 ((wrap64 ((wrap64 ((wrap64 ((wrap64 (k + 1)) + 1)) + 1)) + 1)) % 4294967296)) rfl (by rfl) rfl rfl (by kernel_rfl) rfl HS4.out HLT.out (by decide) (by rw [getD_set ys i _ _ (by rw [HMK.out.len];exact HLT.out)];intro oki c hc;obtain ⟨v7,rfl,g7⟩:=k56_openM hc;exact k56_mkM _ _ _ ({ y with f0:=k,f1:=(wrap64 (k + 1)),f2:=(wrap64 ((wrap64 (k + 1)) + 1)),f3 := { y.f3 with f0:=Int.tmod (wrap64 ((wrap64 ((wrap64 (k + 1)) + 1)) + 1)) 3 == 0,f1:=(wrap64 ((wrap64 ((wrap64 ((wrap64 (k + 1)) + 1)) + 1)) + 1)) % 4294967296 } } : S56) g7) HB4.out ?_;intro w5 hs hb hg;rw [List.set_set] at hs;have HS5:=Lib.hid hs;have HB5:=Lib.hid hb;have HT5:=Lib.hid (HT4.out.grown hg (fun k e => by injection e with e;rw [← e];exact .inl (S_own_ok HSV.out rfl)));clear hs hb hg) | ((with_reducible refine gate_store (t:=4) (p:=59) rfl ?_);refine S_put k56 (w0:=w0) w0.heap.size rfl rfl rfl (e:=56) (i:=i) (j:=5) (xs:=(ys.set i ({ y with f0:=k,f1:=(wrap64 (k + 1)),f2:=(wrap64 ((wrap64 (k + 1)) + 1)),f3 := { y.f3 with f0:=Int.tmod (wrap64 ((wrap64 ((wrap64 (k + 1)) + 1)) + 1)) 3 == 0,f1:=(wrap64 ((wrap64 ((wrap64 ((wrap64 (k + 1)) + 1)) + 1)) + 1)) % 4294967296 } } : S56))) (z:=z56) (x':=({ y with f0:=k,f1:=(wrap64 (k + 1)),f2:=(wrap64 ((wrap64 (k + 1)) + 1)),f3 := { y.f3 with f0:=Int.tmod (wrap64 ((wrap64 ((wrap64 (k + 1)) + 1)) + 1)) 3 == 0,f1:=(wrap64 ((wrap64 ((wrap64 ((wrap64 (k + 1)) + 1)) + 1)) + 1)) % 4294967296,f2:=Int.tmod (wrap64 ((wrap64 ((wrap64 ((wrap64 ((wrap64 (k + 1)) + 1)) + 1)) + 1)) + 1)) 3 == 0 } } : S56)) (u := .bool (Int.tmod (wrap64 ((wrap64 ((wrap64 ((wrap64 ((wrap64 (k + 1)) + 1)) + 1)) + 1)) + 1)) 3 == 0)) rfl (by rfl) rfl rfl (by kernel_rfl) rfl HS5.out HLT.out (by decide) (by rw [getD_set ys i _ _ (by rw [HMK.out.len];exact HLT.out)];intro oki c hc;obtain ⟨v7,rfl,g7⟩:=k56_openM hc;exact k56_mkM _ _ _ ({ y with f0:=k,f1:=(wrap64 (k + 1)),f2:=(wrap64 ((wrap64 (k + 1)) + 1)),f3 := { y.f3 with f0:=Int.tmod (wrap64 ((wrap64 ((wrap64 (k + 1)) + 1)) + 1)) 3 == 0,f1:=(wrap64 ((wrap64 ((wrap64 ((wrap64 (k + 1)) + 1)) + 1)) + 1)) % 4294967296,f2:=Int.tmod (wrap64 ((wrap64 ((wrap64 ((wrap64 ((wrap64 (k + 1)) + 1)) + 1)) + 1)) + 1)) 3 == 0 } } : S56) g7) HB5.out ?_;intro w6 hs hb hg;rw [List.set_set] at hs;have HS6:=Lib.hid hs;have HB6:=Lib.hid hb;have HT6:=Lib.hid (HT5.out.grown hg (fun k e => by injection e with e;rw [← e];exact .inl (S_own_ok HSV.out rfl)));clear hs hb hg) | ((with_reducible refine gate_store (t:=3) (p:=67) rfl ?_);refine S_put k56 (w0:=w0) w0.heap.size rfl rfl rfl (e:=56) (i:=i) (j:=6) (xs:=(ys.set i ({ y with f0:=k,f1:=(wrap64 (k + 1)),f2:=(wrap64 ((wrap64 (k + 1)) + 1)),f3 := { y.f3 with f0:=Int.tmod (wrap64 ((wrap64 ((wrap64 (k + 1)) + 1)) + 1)) 3 == 0,f1:=(wrap64 ((wrap64 ((wrap64 ((wrap64 (k + 1)) + 1)) + 1)) + 1)) % 4294967296,f2:=Int.tmod (wrap64 ((wrap64 ((wrap64 ((wrap64 ((wrap64 (k + 1)) + 1)) + 1)) + 1)) + 1)) 3 == 0 } } : S56))) (z:=z56) (x':=({ y with f0:=k,f1:=(wrap64 (k + 1)),f2:=(wrap64 ((wrap64 (k + 1)) + 1)),f3 := { y.f3 with f0:=Int.tmod (wrap64 ((wrap64 ((wrap64 (k + 1)) + 1)) + 1)) 3 == 0,f1:=(wrap64 ((wrap64 ((wrap64 ((wrap64 (k + 1)) + 1)) + 1)) + 1)) % 4294967296,f2:=Int.tmod (wrap64 ((wrap64 ((wrap64 ((wrap64 ((wrap64 (k + 1)) + 1)) + 1)) + 1)) + 1)) 3 == 0,f3:=(wrap64 ((wrap64 ((wrap64 ((wrap64 ((wrap64 ((wrap64 (k + 1)) + 1)) + 1)) + 1)) + 1)) + 1)) } } : S56)) (u := .int .i64 (wrap64 ((wrap64 ((wrap64 ((wrap64 ((wrap64 ((wrap64 (k + 1)) + 1)) + 1)) + 1)) + 1)) + 1))) rfl (by rfl) rfl rfl (by kernel_rfl) rfl HS6.out HLT.out (by decide) (by rw [getD_set ys i _ _ (by rw [HMK.out.len];exact HLT.out)];intro oki c hc;obtain ⟨v7,rfl,g7⟩:=k56_openM hc;exact k56_mkM _ _ _ ({ y with f0:=k,f1:=(wrap64 (k + 1)),f2:=(wrap64 ((wrap64 (k + 1)) + 1)),f3 := { y.f3 with f0:=Int.tmod (wrap64 ((wrap64 ((wrap64 (k + 1)) + 1)) + 1)) 3 == 0,f1:=(wrap64 ((wrap64 ((wrap64 ((wrap64 (k + 1)) + 1)) + 1)) + 1)) % 4294967296,f2:=Int.tmod (wrap64 ((wrap64 ((wrap64 ((wrap64 ((wrap64 (k + 1)) + 1)) + 1)) + 1)) + 1)) 3 == 0,f3:=(wrap64 ((wrap64 ((wrap64 ((wrap64 ((wrap64 ((wrap64 (k + 1)) + 1)) + 1)) + 1)) + 1)) + 1)) } } : S56) g7) HB6.out ?_;intro w7 hs hb hg;rw [List.set_set] at hs;have HS7:=Lib.hid hs;have HB7:=Lib.hid hb;have HT7:=Lib.hid (HT6.out.grown hg (fun k e => by injection e with e;rw [← e];exact .inl (S_own_ok HSV.out rfl)));clear hs hb hg))
   obtain ⟨oki,cc,hcl,hM,hcc,hoki,hback⟩:=Kd.S_borrow HS7.out z56 (i : Int) (by omega) (by have:=HLT.out;omega)
   rw [Int.toNat_natCast,getD_set ys i _ _ (by rw [HMK.out.len];exact HLT.out)] at hM
   obtain ⟨vd,rfl,gd⟩:=k56_openM hM
   have hcd:=hcc 7 _ rfl
   rw [Int.toNat_natCast,add_plain] at hcd
   have hc7 : w7.cell? ⟨g,i * 8 + 3 + 4,none⟩ = some vd:=hcd
   have GD:=Lib.hid gd
   go_wp2_with (first | (go_at_call 99;refine (markByteS_v w0 w7 oki vd y.f3.f4 (wrap64 ((wrap64 ((wrap64 ((wrap64 ((wrap64 ((wrap64 ((wrap64 (k + 1)) + 1)) + 1)) + 1)) + 1)) + 1)) + 1)) HB7.out GD.out HYL.out (by have h1:=HQB.out;have h2:=HK7.out;omega) (by have h1:=HQB.out;have h2:=HK7.out;omega)).mono ?_;rintro e w9 ⟨rfl,hr9,hb9,hg9⟩;have HS9:=Lib.hid (hback hg9 (fun k hk => R_own_ok GD.out hk) (k56_mkM _ _ _ ({ y with f0:=k,f1:=(wrap64 (k + 1)),f2:=(wrap64 ((wrap64 (k + 1)) + 1)),f3 := { y.f3 with f0:=Int.tmod (wrap64 ((wrap64 ((wrap64 (k + 1)) + 1)) + 1)) 3 == 0,f1:=(wrap64 ((wrap64 ((wrap64 ((wrap64 (k + 1)) + 1)) + 1)) + 1)) % 4294967296,f2:=Int.tmod (wrap64 ((wrap64 ((wrap64 ((wrap64 ((wrap64 (k + 1)) + 1)) + 1)) + 1)) + 1)) 3 == 0,f3:=(wrap64 ((wrap64 ((wrap64 ((wrap64 ((wrap64 ((wrap64 (k + 1)) + 1)) + 1)) + 1)) + 1)) + 1)),f4:=marks (wrap64 ((wrap64 ((wrap64 ((wrap64 ((wrap64 ((wrap64 ((wrap64 (k + 1)) + 1)) + 1)) + 1)) + 1)) + 1)) + 1)) y.f3.f4.length } } : S56) hr9));have HB9:=Lib.hid hb9;have HT9 : Hid (Tch w w9 ok):=Lib.hid (HT7.out.grown hg9 (fun k e => .inl (hoki k (R_own_ok GD.out e)).1));clear hr9 hb9 hg9))
   clear hcd hc7 hcc hM hcl hoki hback
   go_roundw
   case rel => exact ⟨i + 1,_,_,HLT.out,by rw [HN.out];rfl,rfl,⟨by have h1:=HQB.out;have h2:=HK7.out;have h3:=HKK.out;rw [h1.2.2];omega⟩,⟨by refine HMK.out.next HLT.out (v:=({ y with f0:=k,f1:=(wrap64 (k + 1)),f2:=(wrap64 ((wrap64 (k + 1)) + 1)),f3 := { y.f3 with f0:=Int.tmod (wrap64 ((wrap64 ((wrap64 (k + 1)) + 1)) + 1)) 3 == 0,f1:=(wrap64 ((wrap64 ((wrap64 ((wrap64 (k + 1)) + 1)) + 1)) + 1)) % 4294967296,f2:=Int.tmod (wrap64 ((wrap64 ((wrap64 ((wrap64 ((wrap64 (k + 1)) + 1)) + 1)) + 1)) + 1)) 3 == 0,f3:=(wrap64 ((wrap64 ((wrap64 ((wrap64 ((wrap64 ((wrap64 (k + 1)) + 1)) + 1)) + 1)) + 1)) + 1)),f4:=marks (wrap64 ((wrap64 ((wrap64 ((wrap64 ((wrap64 ((wrap64 ((wrap64 (k + 1)) + 1)) + 1)) + 1)) + 1)) + 1)) + 1)) y.f3.f4.length } } : S56)) ?_;rw [markEvents_get _ _ _ HLT.out, ← HYX.out, ← HKK.out];simp only [mkEvent,tm];rw [HK7.out,HK6.out,HK5.out,HK4.out,HK3.out,HK2.out,HK1.out]⟩,⟨by have h:=HS9.out;rw [Int.toNat_natCast,List.set_set] at h;exact h⟩,⟨HB9.out⟩,⟨HT9.out⟩⟩
   case measure => rw [HN.out];have:=HLT.out;simp [intOf];omega
  ·have hii : i = xs.length:=by omega
   have b2 : decide ((i : Int) < (xs.length : Int)) = false:=decide_eq_false (by omega)
   have qn : (i < xs.length) = False:=eq_false hlt
   have HE : Hid (ys = markEvents q xs):=Lib.hid (HMK.out.all (by omega))
   have HKE : Hid (k = q + offEvent xs xs.length):=Lib.hid (by rw [HKK.out,hii])
   clear hlt hi hii
   go_wp2_with (fail)
   go_ret
   exact ⟨by rw [HKE.out];rfl,by rw [← HE.out];exact HSR.out,HBR.out,HTR.out⟩
end Go.Proofs.Ytcaefabbcjlkdaa.P
namespace Go.Proofs.Ytcaefabbcjlkdaa.P
open Go.RowKit Go.Proofs.YtcaefabbcjlkdaaW.PrintWords Go.Proofs.YtcaefabbcjlkdaaW.PrintLast Go.Proofs.YtcaefabbcjlkdaaW.PrintMore
set_option linter.unusedVariables false
set_option linter.unusedSimpArgs false
def laws_markFilterS.l0 : Nat → List (S89) → Int → Int → Option (Int × (List (S89)))
 | 0,_,_,_ => none
 | k + 1,x0,x1,x5 => if x5 < (x0.length : Int) then (if 0 ≤ x5 then ((some (x0.set (x5 : Int).toNat (⟨((Int.tmod x1 3) == 0),(rd_T89 x0 x5).f1,(rd_T89 x0 x5).f2⟩ : S89) : List (S89))).bind fun y821 => ((some (y821.set (x5 : Int).toNat (⟨(rd_T89 y821 x5).f0,(wrap64 (x1 + 1)) % 4294967296,(rd_T89 y821 x5).f2⟩ : S89) : List (S89))).bind fun y822 => (laws_markFilterS.l0 k (y822.set (x5 : Int).toNat (⟨(rd_T89 y822 x5).f0,(rd_T89 y822 x5).f1,(wrap64 ((wrap64 (x1 + 1)) + 1)) % 4294967296⟩ : S89)) (wrap64 ((wrap64 ((wrap64 (x1 + 1)) + 1)) + 1)) (wrap64 (x5 + 1))))) else (none)) else (some (x1,x0))
def laws_markFilterS.f (k : Nat) (l0 : List (S89)) (a1 : Int) : Option (Int × (List (S89))):=laws_markFilterS.l0 k l0 a1 0
set_option maxHeartbeats 8000000 in
set_option maxRecDepth 100000 in
theorem laws_markFilterS.calls (k : Nat) (P0_ : Nat → Prop) (u9000_ : Value) (l0 : List (S89)) (a1 : Int) (r1 : Int) (r2 : List (S89)) (w0 w : World) (hB : Below w0.heap.size w0 w) (ho0 : Kd.R k89 89 w w0.heap.size P0_ u9000_ l0) (h : laws_markFilterS.f k l0 a1 = some (r1,r2)) :
  Calls Try.prog 21 #[u9000_, .int .i64 a1] w fun e w' => e = .returned (.int .i64 r1) ∧ Kd.R k89 89 w' w0.heap.size (fun k_ => (P0_ k_ ∨ w.heap.size ≤ k_)) u9000_ r2 ∧ Below w0.heap.size w0 w' ∧ Kept w w' (fun k_ => P0_ k_):=by
 have HO0:=Aside0.mk (show Kd.R k89 89 w w0.heap.size (fun k_ => (P0_ k_ ∨ w.heap.size ≤ k_)) u9000_ l0 from Kd.R_mono ho0 (fun k_ hk => (.inl hk)))
 have HK:=Aside0.mk (Kept.refl w (fun k_ => P0_ k_))
 have HW0:=Aside0.mk hB.size
 have HB:=Aside0.mk hB
 clear hB
 have H : (laws_markFilterS.l0 k l0 a1 0) = some (r1,r2):=h
 clear h
 have H':=Aside0.mk H
 clear H
 go_enter Try.func21,Try.ntmps21
 go_wp2
 go_loopg [1,5] k (fun kq v1 v5 w' => ∃ (x0_1 : List (S89)) (x1_1 : Int) (x5_1 : Int),v1 = .int .i64 x1_1 ∧ v5 = .int .i64 x5_1 ∧ Aside0 (laws_markFilterS.l0 kq x0_1 x1_1 x5_1 = some (r1,r2)) ∧ Aside0 (kq ≤ k) ∧ Aside0 (Kd.R k89 89 w' w0.heap.size (fun k_ => (P0_ k_ ∨ w.heap.size ≤ k_)) u9000_ x0_1) ∧ Aside0 (Kept w w' (fun k_ => P0_ k_)) ∧ Aside0 (Below w0.heap.size w0 w'))
 case atStart => exact ⟨(l0),(a1),(0),(by first | rfl | (simp;done) | (simp [*];done)),(by first | rfl | (simp;done) | (simp [*];done)),H',⟨Nat.le_refl _⟩,⟨by (with_reducible repeat (first | apply Kd.R_alloc | apply Kd.R_drewN | apply Kd.R_drew));exact HO0.out⟩,⟨by repeat (first | (with_reducible first | exact HK.out | apply Kept.alloc | apply Kept.drewN | apply Kept.drew) | exact HK.out)⟩,⟨by repeat (first | (with_reducible first | exact HB.out | apply below_alloc | apply pw_below_drewN | apply below_drew1) | exact HB.out)⟩⟩
 case round =>
  clear H'
  try clear c2
  try clear p2
  obtain ⟨x0_1,x1_1,x5_1,rfl,rfl,HA,HK1,HO_0,HK,HB⟩:=hrel
  cases gk with
  | zero => exact absurd HA.out (by simp [laws_markFilterS.l0])
  | succ k1 =>
   have H:=HA.out
   clear HA
   simp only [laws_markFilterS.l0] at H
   by_cases c3 : x5_1 < (x0_1.length : Int)
   ·rw [if_pos c3] at H
    have c3b0 : decide (x5_1 < (x0_1.length : Int)) = true:=decide_eq_true c3
    clear c3
    by_cases c4 : 0 ≤ x5_1
    ·rw [if_pos c4] at H
     have c4b0 : decide (0 ≤ x5_1) = true:=decide_eq_true c4
     clear c4
     obtain ⟨y821,hy821⟩ : ∃ y_ : List (S89),y_ = (x0_1.set (x5_1 : Int).toNat (⟨((Int.tmod x1_1 3) == 0),(rd_T89 x0_1 x5_1).f1,(rd_T89 x0_1 x5_1).f2⟩ : S89)):=⟨_,rfl⟩
     replace H : ((some (y821.set (x5_1 : Int).toNat (⟨(rd_T89 y821 x5_1).f0,(wrap64 (x1_1 + 1)) % 4294967296,(rd_T89 y821 x5_1).f2⟩ : S89) : List (S89))).bind fun y822 => (laws_markFilterS.l0 k1 (y822.set (x5_1 : Int).toNat (⟨(rd_T89 y822 x5_1).f0,(rd_T89 y822 x5_1).f1,(wrap64 ((wrap64 (x1_1 + 1)) + 1)) % 4294967296⟩ : S89)) (wrap64 ((wrap64 ((wrap64 (x1_1 + 1)) + 1)) + 1)) (wrap64 (x5_1 + 1)))) = some (r1,r2):=by first | (rw [hy821];with_reducible exact H) | (have H2_:=(Option.bind_some _ _).symm.trans H;rw [hy821];with_reducible exact H2_) | (have H2_:=(Option.bind_some _ _).symm.trans H;with_reducible exact H2_) | with_reducible exact H | (rw [hy821];exact H) | exact H
     have Ny821:=Aside0.mk hy821
     clear hy821
     obtain ⟨y822,hy822⟩ : ∃ y_ : List (S89),y_ = (y821.set (x5_1 : Int).toNat (⟨(rd_T89 y821 x5_1).f0,(wrap64 (x1_1 + 1)) % 4294967296,(rd_T89 y821 x5_1).f2⟩ : S89)):=⟨_,rfl⟩
     replace H : (laws_markFilterS.l0 k1 (y822.set (x5_1 : Int).toNat (⟨(rd_T89 y822 x5_1).f0,(rd_T89 y822 x5_1).f1,(wrap64 ((wrap64 (x1_1 + 1)) + 1)) % 4294967296⟩ : S89)) (wrap64 ((wrap64 ((wrap64 (x1_1 + 1)) + 1)) + 1)) (wrap64 (x5_1 + 1))) = some (r1,r2):=by first | (rw [hy822];with_reducible exact H) | (have H2_:=(Option.bind_some _ _).symm.trans H;rw [hy822];with_reducible exact H2_) | (have H2_:=(Option.bind_some _ _).symm.trans H;with_reducible exact H2_) | with_reducible exact H | (rw [hy822];exact H) | exact H
     have Ny822:=Aside0.mk hy822
     clear hy822
     obtain ⟨y823,hy823⟩ : ∃ y_ : List (S89),y_ = (y822.set (x5_1 : Int).toNat (⟨(rd_T89 y822 x5_1).f0,(rd_T89 y822 x5_1).f1,(wrap64 ((wrap64 (x1_1 + 1)) + 1)) % 4294967296⟩ : S89)):=⟨_,rfl⟩
     replace H : (laws_markFilterS.l0 k1 y823 (wrap64 ((wrap64 ((wrap64 (x1_1 + 1)) + 1)) + 1)) (wrap64 (x5_1 + 1))) = some (r1,r2):=by first | (rw [hy823];with_reducible exact H) | (have H2_:=(Option.bind_some _ _).symm.trans H;rw [hy823];with_reducible exact H2_) | (have H2_:=(Option.bind_some _ _).symm.trans H;with_reducible exact H2_) | with_reducible exact H | (rw [hy823];exact H) | exact H
     have Ny823:=Aside0.mk hy823
     clear hy823
     have H':=Aside0.mk H
     clear H
     obtain ⟨Ao8,co8,eo8⟩:=Kd.R_slice HO_0.out
     subst eo8
     have p5 : 0 ≤ (x5_1 : Int):=of_decide_eq_true (by first | (with_reducible assumption) | assumption)
     have q5 : (x5_1 : Int) < ((x0_1.length : Int) : Int):=of_decide_eq_true (by first | (with_reducible assumption) | assumption)
     obtain ⟨go5,co5,eo5,gb5,gl5,cl5,HG5⟩:=Kd.R_form HO_0.out (by omega)
     (first | cases eo5 | (injection eo5 with ea_ en_ ec_;(first | subst ea_ | (injection ea_ with ea_;subst ea_));subst ec_;clear en_))
     have GB5:=Aside0.mk gb5
     have GG5:=Aside0.mk HG5
     clear gb5 gl5 HG5
     have HMgo5:=Aside0.mk (show (P0_ go5 ∨ w.heap.size ≤ go5) from (HO_0.out.1 _ rfl))
     obtain ⟨ce5,hcl5,hM5,hcc5,hfr5⟩:=Kd.R_elem HO_0.out z89 (x5_1 : Int) p5 q5
     obtain rfl:=k89_openM hM5
     have hx5_0 : wr.cell? ⟨go5,(x5_1 : Int).toNat * 3,none⟩ = some (.bool ((rd_T89 x0_1 x5_1).f0)):=hcc5 0 _ rfl
     have hx5_1 : wr.cell? ⟨go5,(x5_1 : Int).toNat * 3 + 1,none⟩ = some (.int .u32 ((rd_T89 x0_1 x5_1).f1)):=hcc5 1 _ rfl
     have hx5_2 : wr.cell? ⟨go5,(x5_1 : Int).toNat * 3 + 2,none⟩ = some (.int .u32 ((rd_T89 x0_1 x5_1).f2)):=hcc5 2 _ rfl
     have hf5_0 : wr.frozen? ⟨go5,(x5_1 : Int).toNat * 3,none⟩ = false:=hfr5 0
     have hf5_1 : wr.frozen? ⟨go5,(x5_1 : Int).toNat * 3 + 1,none⟩ = false:=hfr5 1
     have hf5_2 : wr.frozen? ⟨go5,(x5_1 : Int).toNat * 3 + 2,none⟩ = false:=hfr5 2
     clear hcl5 hcc5 hfr5 hM5
     replace p5:=eq_true p5
     replace q5:=eq_true q5
     have HX9:=Aside0.mk (show Kd.R k89 89 wr w0.heap.size (fun k_ => (P0_ k_ ∨ w.heap.size ≤ k_)) (.slice (some ⟨go5,0,none⟩) x0_1.length co8) x0_1 from (by (with_reducible repeat (first | apply Kd.R_alloc | apply Kd.R_drewN | apply Kd.R_drew));exact HO_0.out))
     obtain ⟨ce9,hcl9,hM9,hcc9,hfr9⟩:=Kd.R_elem HX9.out z89 (x5_1 : Int) (of_decide_eq_true (by first | (with_reducible assumption) | assumption)) (by have h_ : (x5_1 : Int) < ((x0_1.length : Int) : Int):=of_decide_eq_true (by first | (with_reducible assumption) | assumption);first | exact h_ | (have e_:=(Kd.R_reads' HO_0.out).1;omega) | simpa using h_)
     obtain rfl:=k89_openM hM9
     have HP9:=Kd.R_seg HX9.out (x5_1 : Int) (of_decide_eq_true (by first | (with_reducible assumption) | assumption)) (by have h_ : (x5_1 : Int) < ((x0_1.length : Int) : Int):=of_decide_eq_true (by first | (with_reducible assumption) | assumption);first | exact h_ | (have e_:=(Kd.R_reads' HO_0.out).1;omega) | simpa using h_) (seg := [.bool ((Int.tmod x1_1 3) == 0)]) (j:=0) hcl9 hcc9 (show 1 ≤ 3 from by decide) (x':=(⟨((Int.tmod x1_1 3) == 0),(rd_T89 x0_1 x5_1).f1,(rd_T89 x0_1 x5_1).f2⟩ : S89)) (k89_mkM _ _ _ (⟨((Int.tmod x1_1 3) == 0),(rd_T89 x0_1 x5_1).f1,(rd_T89 x0_1 x5_1).f2⟩ : S89) ) (fun _ hk => hk)
     have hx9_0:=hcc9 0 _ rfl
     (try simp only [show (k89).sz = 3 from rfl,Nat.mul_one,Nat.add_zero] at hx9_0)
     have hf9_0:=hfr9 0
     (try simp only [show (k89).sz = 3 from rfl,Nat.mul_one,Nat.add_zero] at hf9_0)
     clear hcl9 hcc9 hfr9 hM9
     go_wp2_with (first | ((with_reducible refine gate_store (t:=4) (p:=18) rfl ?_);refine store_event (t:=4) (p:=18) (v := ?vo_w10) (w1:=(wr.setCell ⟨go5,(x5_1 : Int).toNat * 3,none⟩ (.bool ((Int.tmod x1_1 3) == 0)))) ?hg ?ho ?hn ?hr ?_;(case ho => rfl);(case hg => rfl);(case hn => rfl);(case hr => first | (go_simp;done) | (go_simp;rfl));intro w10 hw;have hg : wr.grownBy w10 (some go5):=(by rw [hw];exact HP9.2);have hp_ : Kd.R k89 89 w10 w0.heap.size (fun k_ => (P0_ k_ ∨ w.heap.size ≤ k_)) (.slice (some ⟨go5,0,none⟩) x0_1.length co8) y821:=(by rw [hw,Ny821.out];exact HP9.1);clear HP9;have n0_:=Aside0.mk (hp_);have n1_:=Aside0.mk ((by rw [hw];exact below_set (HB.out) GB5.out : Below w0.heap.size w0 w10));have n2_:=Aside0.mk (Kept.of_grown (S:=(fun k_ => P0_ k_)) hg (by repeat (first | (with_reducible first | exact HK.out | apply Kept.alloc | apply Kept.drewN | apply Kept.drew) | exact HK.out)) (fun k_ e_ => (HO_0.out.1 k_ e_)));clear HO_0;clear HB;clear HK;have HO_0:=n0_;have HB:=n1_;have HK:=n2_;clear n0_ n1_ n2_;clear hg hw hp_;have p6 : 0 ≤ (x5_1 : Int):=of_decide_eq_true (by first | (with_reducible assumption) | assumption);have q6 : (x5_1 : Int) < ((x0_1.length : Int) : Int):=of_decide_eq_true (by first | (with_reducible assumption) | assumption);obtain ⟨ce6,hcl6,hM6,hcc6,hfr6⟩:=Kd.R_elem HO_0.out z89 (x5_1 : Int) p6 q6;obtain rfl:=k89_openM hM6;have hx6_0 : w10.cell? ⟨go5,(x5_1 : Int).toNat * 3,none⟩ = some (.bool ((rd_T89 y821 x5_1).f0)):=hcc6 0 _ rfl;have hx6_1 : w10.cell? ⟨go5,(x5_1 : Int).toNat * 3 + 1,none⟩ = some (.int .u32 ((rd_T89 y821 x5_1).f1)):=hcc6 1 _ rfl;have hx6_2 : w10.cell? ⟨go5,(x5_1 : Int).toNat * 3 + 2,none⟩ = some (.int .u32 ((rd_T89 y821 x5_1).f2)):=hcc6 2 _ rfl;have hf6_0 : w10.frozen? ⟨go5,(x5_1 : Int).toNat * 3,none⟩ = false:=hfr6 0;have hf6_1 : w10.frozen? ⟨go5,(x5_1 : Int).toNat * 3 + 1,none⟩ = false:=hfr6 1;have hf6_2 : w10.frozen? ⟨go5,(x5_1 : Int).toNat * 3 + 2,none⟩ = false:=hfr6 2;clear hcl6 hcc6 hfr6 hM6;replace p6:=eq_true p6;replace q6:=eq_true q6;have HX11:=Aside0.mk (show Kd.R k89 89 w10 w0.heap.size (fun k_ => (P0_ k_ ∨ w.heap.size ≤ k_)) (.slice (some ⟨go5,0,none⟩) x0_1.length co8) y821 from (by (with_reducible repeat (first | apply Kd.R_alloc | apply Kd.R_drewN | apply Kd.R_drew));exact HO_0.out));obtain ⟨ce11,hcl11,hM11,hcc11,hfr11⟩:=Kd.R_elem HX11.out z89 (x5_1 : Int) (of_decide_eq_true (by first | (with_reducible assumption) | assumption)) (by have h_ : (x5_1 : Int) < ((x0_1.length : Int) : Int):=of_decide_eq_true (by first | (with_reducible assumption) | assumption);first | exact h_ | (have e_:=(Kd.R_reads' HO_0.out).1;omega) | simpa using h_);obtain rfl:=k89_openM hM11;have HP11:=Kd.R_seg HX11.out (x5_1 : Int) (of_decide_eq_true (by first | (with_reducible assumption) | assumption)) (by have h_ : (x5_1 : Int) < ((x0_1.length : Int) : Int):=of_decide_eq_true (by first | (with_reducible assumption) | assumption);first | exact h_ | (have e_:=(Kd.R_reads' HO_0.out).1;omega) | simpa using h_) (seg := [.int .u32 ((wrap64 (x1_1 + 1)) % 4294967296)]) (j:=1) hcl11 hcc11 (show 2 ≤ 3 from by decide) (x':=(⟨(rd_T89 y821 x5_1).f0,(wrap64 (x1_1 + 1)) % 4294967296,(rd_T89 y821 x5_1).f2⟩ : S89)) (k89_mkM _ _ _ (⟨(rd_T89 y821 x5_1).f0,(wrap64 (x1_1 + 1)) % 4294967296,(rd_T89 y821 x5_1).f2⟩ : S89) ) (fun _ hk => hk);have hx11_1:=hcc11 1 _ rfl;(try simp only [show (k89).sz = 3 from rfl,Nat.mul_one,Nat.add_zero] at hx11_1);have hf11_1:=hfr11 1;(try simp only [show (k89).sz = 3 from rfl,Nat.mul_one,Nat.add_zero] at hf11_1);clear hcl11 hcc11 hfr11 hM11) | ((with_reducible refine gate_store (t:=43) (p:=26) rfl ?_);refine store_event (t:=43) (p:=26) (v := ?vo_w12) (w1:=(w10.setCell ⟨go5,(x5_1 : Int).toNat * 3 + 1,none⟩ (.int .u32 ((wrap64 (x1_1 + 1)) % 4294967296)))) ?hg ?ho ?hn ?hr ?_;(case ho => rfl);(case hg => rfl);(case hn => rfl);(case hr => first | (go_simp;done) | (go_simp;rfl));intro w12 hw;have hg : w10.grownBy w12 (some go5):=(by rw [hw];exact HP11.2);have hp_ : Kd.R k89 89 w12 w0.heap.size (fun k_ => (P0_ k_ ∨ w.heap.size ≤ k_)) (.slice (some ⟨go5,0,none⟩) x0_1.length co8) y822:=(by rw [hw,Ny822.out];exact HP11.1);clear HP11;have n0_:=Aside0.mk (hp_);have n1_:=Aside0.mk ((by rw [hw];exact below_set (HB.out) GB5.out : Below w0.heap.size w0 w12));have n2_:=Aside0.mk (Kept.of_grown (S:=(fun k_ => P0_ k_)) hg (by repeat (first | (with_reducible first | exact HK.out | apply Kept.alloc | apply Kept.drewN | apply Kept.drew) | exact HK.out)) (fun k_ e_ => (HO_0.out.1 k_ e_)));clear HO_0;clear HB;clear HK;have HO_0:=n0_;have HB:=n1_;have HK:=n2_;clear n0_ n1_ n2_;clear hg hw hp_;have p7 : 0 ≤ (x5_1 : Int):=of_decide_eq_true (by first | (with_reducible assumption) | assumption);have q7 : (x5_1 : Int) < ((x0_1.length : Int) : Int):=of_decide_eq_true (by first | (with_reducible assumption) | assumption);obtain ⟨ce7,hcl7,hM7,hcc7,hfr7⟩:=Kd.R_elem HO_0.out z89 (x5_1 : Int) p7 q7;obtain rfl:=k89_openM hM7;have hx7_0 : w12.cell? ⟨go5,(x5_1 : Int).toNat * 3,none⟩ = some (.bool ((rd_T89 y822 x5_1).f0)):=hcc7 0 _ rfl;have hx7_1 : w12.cell? ⟨go5,(x5_1 : Int).toNat * 3 + 1,none⟩ = some (.int .u32 ((rd_T89 y822 x5_1).f1)):=hcc7 1 _ rfl;have hx7_2 : w12.cell? ⟨go5,(x5_1 : Int).toNat * 3 + 2,none⟩ = some (.int .u32 ((rd_T89 y822 x5_1).f2)):=hcc7 2 _ rfl;have hf7_0 : w12.frozen? ⟨go5,(x5_1 : Int).toNat * 3,none⟩ = false:=hfr7 0;have hf7_1 : w12.frozen? ⟨go5,(x5_1 : Int).toNat * 3 + 1,none⟩ = false:=hfr7 1;have hf7_2 : w12.frozen? ⟨go5,(x5_1 : Int).toNat * 3 + 2,none⟩ = false:=hfr7 2;clear hcl7 hcc7 hfr7 hM7;replace p7:=eq_true p7;replace q7:=eq_true q7;have HX13:=Aside0.mk (show Kd.R k89 89 w12 w0.heap.size (fun k_ => (P0_ k_ ∨ w.heap.size ≤ k_)) (.slice (some ⟨go5,0,none⟩) x0_1.length co8) y822 from (by (with_reducible repeat (first | apply Kd.R_alloc | apply Kd.R_drewN | apply Kd.R_drew));exact HO_0.out));obtain ⟨ce13,hcl13,hM13,hcc13,hfr13⟩:=Kd.R_elem HX13.out z89 (x5_1 : Int) (of_decide_eq_true (by first | (with_reducible assumption) | assumption)) (by have h_ : (x5_1 : Int) < ((x0_1.length : Int) : Int):=of_decide_eq_true (by first | (with_reducible assumption) | assumption);first | exact h_ | (have e_:=(Kd.R_reads' HO_0.out).1;omega) | simpa using h_);obtain rfl:=k89_openM hM13;have HP13:=Kd.R_seg HX13.out (x5_1 : Int) (of_decide_eq_true (by first | (with_reducible assumption) | assumption)) (by have h_ : (x5_1 : Int) < ((x0_1.length : Int) : Int):=of_decide_eq_true (by first | (with_reducible assumption) | assumption);first | exact h_ | (have e_:=(Kd.R_reads' HO_0.out).1;omega) | simpa using h_) (seg := [.int .u32 ((wrap64 ((wrap64 (x1_1 + 1)) + 1)) % 4294967296)]) (j:=2) hcl13 hcc13 (show 3 ≤ 3 from by decide) (x':=(⟨(rd_T89 y822 x5_1).f0,(rd_T89 y822 x5_1).f1,(wrap64 ((wrap64 (x1_1 + 1)) + 1)) % 4294967296⟩ : S89)) (k89_mkM _ _ _ (⟨(rd_T89 y822 x5_1).f0,(rd_T89 y822 x5_1).f1,(wrap64 ((wrap64 (x1_1 + 1)) + 1)) % 4294967296⟩ : S89) ) (fun _ hk => hk);have hx13_2:=hcc13 2 _ rfl;(try simp only [show (k89).sz = 3 from rfl,Nat.mul_one,Nat.add_zero] at hx13_2);have hf13_2:=hfr13 2;(try simp only [show (k89).sz = 3 from rfl,Nat.mul_one,Nat.add_zero] at hf13_2);clear hcl13 hcc13 hfr13 hM13) | ((with_reducible refine gate_store (t:=43) (p:=34) rfl ?_);refine store_event (t:=43) (p:=34) (v := ?vo_w14) (w1:=(w12.setCell ⟨go5,(x5_1 : Int).toNat * 3 + 2,none⟩ (.int .u32 ((wrap64 ((wrap64 (x1_1 + 1)) + 1)) % 4294967296)))) ?hg ?ho ?hn ?hr ?_;(case ho => rfl);(case hg => rfl);(case hn => rfl);(case hr => first | (go_simp;done) | (go_simp;rfl));intro w14 hw;have hg : w12.grownBy w14 (some go5):=(by rw [hw];exact HP13.2);have hp_ : Kd.R k89 89 w14 w0.heap.size (fun k_ => (P0_ k_ ∨ w.heap.size ≤ k_)) (.slice (some ⟨go5,0,none⟩) x0_1.length co8) y823:=(by rw [hw,Ny823.out];exact HP13.1);clear HP13;have n0_:=Aside0.mk (hp_);have n1_:=Aside0.mk ((by rw [hw];exact below_set (HB.out) GB5.out : Below w0.heap.size w0 w14));have n2_:=Aside0.mk (Kept.of_grown (S:=(fun k_ => P0_ k_)) hg (by repeat (first | (with_reducible first | exact HK.out | apply Kept.alloc | apply Kept.drewN | apply Kept.drew) | exact HK.out)) (fun k_ e_ => (HO_0.out.1 k_ e_)));clear HO_0;clear HB;clear HK;have HO_0:=n0_;have HB:=n1_;have HK:=n2_;clear n0_ n1_ n2_;clear hg hw hp_))
     go_roundg k1
     case measure => have:=HK1.out;omega
     case rel => exact ⟨(y823),(wrap64 ((wrap64 ((wrap64 (x1_1 + 1)) + 1)) + 1)),(wrap64 (x5_1 + 1)),(by first | rfl | (simp;done) | (simp [*];done)),(by first | rfl | (simp;done) | (simp [*];done)),H',⟨by have:=HK1.out;omega⟩,⟨by (with_reducible repeat (first | apply Kd.R_alloc | apply Kd.R_drewN | apply Kd.R_drew));exact HO_0.out⟩,⟨by repeat (first | (with_reducible first | exact HK.out | apply Kept.alloc | apply Kept.drewN | apply Kept.drew) | exact HK.out)⟩,⟨by repeat (first | (with_reducible first | exact HB.out | apply below_alloc | apply pw_below_drewN | apply below_drew1) | exact HB.out)⟩⟩
    ·rw [if_neg c4] at H
     exact absurd H (by simp)
   ·rw [if_neg c3] at H
    have c3b0 : decide (x5_1 < (x0_1.length : Int)) = false:=decide_eq_false c3
    clear c3
    simp only [Option.some.injEq,Prod.mk.injEq] at H
    obtain ⟨rfl,rfl⟩:=H
    obtain ⟨Ao15,co15,eo15⟩:=Kd.R_slice HO_0.out
    subst eo15
    go_wp2
    go_ret
    exact ⟨by first | rfl | (simp [errW_none,errW_some] <;> rfl) | (simp [*,errW_none,errW_some] <;> rfl),by (with_reducible repeat (first | apply Kd.R_alloc | apply Kd.R_drewN | apply Kd.R_drew));exact HO_0.out,by repeat (first | (with_reducible first | exact HB.out | apply below_alloc | apply pw_below_drewN | apply below_drew1) | exact HB.out),by repeat (first | (with_reducible first | exact HK.out | apply Kept.alloc | apply Kept.drewN | apply Kept.drew) | exact HK.out)⟩
def laws_heldFilterS.l0 : Nat → List (S89) → Int → Int → Option (Int)
 | 0,_,_,_ => none
 | k + 1,x0,x1,x5 => if x5 < (x0.length : Int) then (if 0 ≤ x5 then (if (((rd_T89 x0 x5).f0) != ((Int.tmod x1 3) == 0)) = true then (some (-1)) else (if ((rd_T89 x0 x5).f1) = ((wrap64 (x1 + 1)) % 4294967296) then (if ((rd_T89 x0 x5).f2) = ((wrap64 ((wrap64 (x1 + 1)) + 1)) % 4294967296) then (laws_heldFilterS.l0 k x0 (wrap64 ((wrap64 ((wrap64 (x1 + 1)) + 1)) + 1)) (wrap64 (x5 + 1))) else (some (-1))) else (some (-1)))) else (none)) else (some x1)
def laws_heldFilterS.f (k : Nat) (l0 : List (S89)) (a1 : Int) : Option (Int):=laws_heldFilterS.l0 k l0 a1 0
set_option maxHeartbeats 8000000 in
set_option maxRecDepth 100000 in
theorem laws_heldFilterS.calls (k : Nat) (A0 : Option Addr) (c0 : Nat) (l0 : List (S89)) (a1 : Int) (r : Int) (w : World) (hr0 : Kd.C k89 w A0 l0.length l0) (hc0 : l0.length ≤ c0) (h : laws_heldFilterS.f k l0 a1 = some r) :
  Calls Try.prog 71 #[.slice A0 l0.length c0, .int .i64 a1] w fun e w' => e = .returned (.int .i64 r) ∧ Drawn0 w w':=by
 have HR0:=Aside0.mk hr0
 have HC0:=Aside0.mk hc0
 clear hr0 hc0
 have H : (laws_heldFilterS.l0 k l0 a1 0) = some r:=h
 clear h
 have H':=Aside0.mk H
 clear H
 go_enter Try.func71,Try.ntmps71
 go_wp2
 go_loopg [1,5] k (fun kq v1 v5 w' => ∃ (x1_1 : Int) (x5_1 : Int),v1 = .int .i64 x1_1 ∧ v5 = .int .i64 x5_1 ∧ Aside0 (laws_heldFilterS.l0 kq l0 x1_1 x5_1 = some r) ∧ Aside0 (kq ≤ k) ∧ Drawn0 w w')
 case atStart => exact ⟨(a1),(0),(by first | rfl | (simp;done) | (simp [*];done)),(by first | rfl | (simp;done) | (simp [*];done)),H',⟨Nat.le_refl _⟩,by repeat (first | exact Drawn0.refl _ | apply Drawn0.step)⟩
 case round =>
  clear H'
  try clear p2
  obtain ⟨x1_1,x5_1,rfl,rfl,HA,HK1,⟨m1,rfl⟩⟩:=hrel
  cases gk with
  | zero => exact absurd HA.out (by simp [laws_heldFilterS.l0])
  | succ k1 =>
   have H:=HA.out
   clear HA
   simp only [laws_heldFilterS.l0] at H
   by_cases c3 : x5_1 < (l0.length : Int)
   ·rw [if_pos c3] at H
    have c3b0 : decide (x5_1 < (l0.length : Int)) = true:=decide_eq_true c3
    clear c3
    by_cases c4 : 0 ≤ x5_1
    ·rw [if_pos c4] at H
     have c4b0 : decide (0 ≤ x5_1) = true:=decide_eq_true c4
     clear c4
     by_cases c5 : (((rd_T89 l0 x5_1).f0) != ((Int.tmod x1_1 3) == 0)) = true
     ·rw [if_pos c5] at H
      have c5b0 : (((rd_T89 l0 x5_1).f0) != ((Int.tmod x1_1 3) == 0)) = true:=c5
      (try (have c5b1 : decide (((rd_T89 l0 x5_1).f0) = ((Int.tmod x1_1 3) == 0)) = false:=by simpa using c5))
      (try (have c5b2 : (((rd_T89 l0 x5_1).f0) == ((Int.tmod x1_1 3) == 0)) = false:=by simpa using c5))
      (try (have c5b3 : ¬ (((rd_T89 l0 x5_1).f0) = ((Int.tmod x1_1 3) == 0)):=by simpa using c5))
      clear c5
      obtain rfl:=Option.some.inj H
      have p838 : 0 ≤ (x5_1 : Int):=of_decide_eq_true (by first | (with_reducible assumption) | assumption)
      have q838 : x5_1 < (l0.length : Int):=of_decide_eq_true (by first | (with_reducible assumption) | assumption)
      obtain ⟨ad838,e838,hx838_0,hx838_1,hx838_2⟩:=at_T89 HR0.out x5_1 p838 q838
      cases e838
      replace p838:=eq_true p838
      replace q838:=eq_true q838
      go_wp2
      go_ret
      exact ⟨by first | rfl | (simp;done) | (simp [*];done),by repeat (first | exact Drawn0.refl _ | apply Drawn0.step)⟩
     ·rw [if_neg c5] at H
      have c5b0 : (((rd_T89 l0 x5_1).f0) != ((Int.tmod x1_1 3) == 0)) = false:=by simpa using c5
      (try (have c5b1 : decide (((rd_T89 l0 x5_1).f0) = ((Int.tmod x1_1 3) == 0)) = true:=by simpa using c5))
      (try (have c5b2 : (((rd_T89 l0 x5_1).f0) == ((Int.tmod x1_1 3) == 0)) = true:=by simpa using c5))
      clear c5
      by_cases c6 : ((rd_T89 l0 x5_1).f1) = ((wrap64 (x1_1 + 1)) % 4294967296)
      ·rw [if_pos c6] at H
       have c6b0 : (((rd_T89 l0 x5_1).f1) == ((wrap64 (x1_1 + 1)) % 4294967296)) = true:=beq_iff_eq.mpr c6
       have c6b1 : (((rd_T89 l0 x5_1).f1) != ((wrap64 (x1_1 + 1)) % 4294967296)) = false:=bne_eq_false_iff_eq.mpr c6
       clear c6
       by_cases c7 : ((rd_T89 l0 x5_1).f2) = ((wrap64 ((wrap64 (x1_1 + 1)) + 1)) % 4294967296)
       ·rw [if_pos c7] at H
        have c7b0 : (((rd_T89 l0 x5_1).f2) == ((wrap64 ((wrap64 (x1_1 + 1)) + 1)) % 4294967296)) = true:=beq_iff_eq.mpr c7
        have c7b1 : (((rd_T89 l0 x5_1).f2) != ((wrap64 ((wrap64 (x1_1 + 1)) + 1)) % 4294967296)) = false:=bne_eq_false_iff_eq.mpr c7
        clear c7
        have H':=Aside0.mk H
        clear H
        have p838 : 0 ≤ (x5_1 : Int):=of_decide_eq_true (by first | (with_reducible assumption) | assumption)
        have q838 : x5_1 < (l0.length : Int):=of_decide_eq_true (by first | (with_reducible assumption) | assumption)
        obtain ⟨ad838,e838,hx838_0,hx838_1,hx838_2⟩:=at_T89 HR0.out x5_1 p838 q838
        cases e838
        replace p838:=eq_true p838
        replace q838:=eq_true q838
        have p839 : 0 ≤ (x5_1 : Int):=of_decide_eq_true (by first | (with_reducible assumption) | assumption)
        have q839 : x5_1 < (l0.length : Int):=of_decide_eq_true (by first | (with_reducible assumption) | assumption)
        obtain ⟨ad839,e839,hx839_0,hx839_1,hx839_2⟩:=at_T89 HR0.out x5_1 p839 q839
        obtain rfl : ad838 = ad839:=(by injection e839)
        replace p839:=eq_true p839
        replace q839:=eq_true q839
        have p840 : 0 ≤ (x5_1 : Int):=of_decide_eq_true (by first | (with_reducible assumption) | assumption)
        have q840 : x5_1 < (l0.length : Int):=of_decide_eq_true (by first | (with_reducible assumption) | assumption)
        obtain ⟨ad840,e840,hx840_0,hx840_1,hx840_2⟩:=at_T89 HR0.out x5_1 p840 q840
        obtain rfl : ad838 = ad840:=(by injection e840)
        replace p840:=eq_true p840
        replace q840:=eq_true q840
        go_wp2
        go_roundg k1
        case measure => have:=HK1.out;omega
        case rel => exact ⟨(wrap64 ((wrap64 ((wrap64 (x1_1 + 1)) + 1)) + 1)),(wrap64 (x5_1 + 1)),(by first | rfl | (simp;done) | (simp [*];done)),(by first | rfl | (simp;done) | (simp [*];done)),H',⟨by have:=HK1.out;omega⟩,by repeat (first | exact Drawn0.refl _ | apply Drawn0.step)⟩
       ·rw [if_neg c7] at H
        have c7b0 : (((rd_T89 l0 x5_1).f2) == ((wrap64 ((wrap64 (x1_1 + 1)) + 1)) % 4294967296)) = false:=beq_eq_false_iff_ne.mpr c7
        have c7b1 : (((rd_T89 l0 x5_1).f2) != ((wrap64 ((wrap64 (x1_1 + 1)) + 1)) % 4294967296)) = true:=bne_iff_ne.mpr c7
        obtain rfl:=Option.some.inj H
        have p838 : 0 ≤ (x5_1 : Int):=of_decide_eq_true (by first | (with_reducible assumption) | assumption)
        have q838 : x5_1 < (l0.length : Int):=of_decide_eq_true (by first | (with_reducible assumption) | assumption)
        obtain ⟨ad838,e838,hx838_0,hx838_1,hx838_2⟩:=at_T89 HR0.out x5_1 p838 q838
        cases e838
        replace p838:=eq_true p838
        replace q838:=eq_true q838
        have p839 : 0 ≤ (x5_1 : Int):=of_decide_eq_true (by first | (with_reducible assumption) | assumption)
        have q839 : x5_1 < (l0.length : Int):=of_decide_eq_true (by first | (with_reducible assumption) | assumption)
        obtain ⟨ad839,e839,hx839_0,hx839_1,hx839_2⟩:=at_T89 HR0.out x5_1 p839 q839
        obtain rfl : ad838 = ad839:=(by injection e839)
        replace p839:=eq_true p839
        replace q839:=eq_true q839
        have p840 : 0 ≤ (x5_1 : Int):=of_decide_eq_true (by first | (with_reducible assumption) | assumption)
        have q840 : x5_1 < (l0.length : Int):=of_decide_eq_true (by first | (with_reducible assumption) | assumption)
        obtain ⟨ad840,e840,hx840_0,hx840_1,hx840_2⟩:=at_T89 HR0.out x5_1 p840 q840
        obtain rfl : ad838 = ad840:=(by injection e840)
        replace p840:=eq_true p840
        replace q840:=eq_true q840
        go_wp2
        go_ret
        exact ⟨by first | rfl | (simp;done) | (simp [*];done),by repeat (first | exact Drawn0.refl _ | apply Drawn0.step)⟩
      ·rw [if_neg c6] at H
       have c6b0 : (((rd_T89 l0 x5_1).f1) == ((wrap64 (x1_1 + 1)) % 4294967296)) = false:=beq_eq_false_iff_ne.mpr c6
       have c6b1 : (((rd_T89 l0 x5_1).f1) != ((wrap64 (x1_1 + 1)) % 4294967296)) = true:=bne_iff_ne.mpr c6
       obtain rfl:=Option.some.inj H
       have p838 : 0 ≤ (x5_1 : Int):=of_decide_eq_true (by first | (with_reducible assumption) | assumption)
       have q838 : x5_1 < (l0.length : Int):=of_decide_eq_true (by first | (with_reducible assumption) | assumption)
       obtain ⟨ad838,e838,hx838_0,hx838_1,hx838_2⟩:=at_T89 HR0.out x5_1 p838 q838
       cases e838
       replace p838:=eq_true p838
       replace q838:=eq_true q838
       have p839 : 0 ≤ (x5_1 : Int):=of_decide_eq_true (by first | (with_reducible assumption) | assumption)
       have q839 : x5_1 < (l0.length : Int):=of_decide_eq_true (by first | (with_reducible assumption) | assumption)
       obtain ⟨ad839,e839,hx839_0,hx839_1,hx839_2⟩:=at_T89 HR0.out x5_1 p839 q839
       obtain rfl : ad838 = ad839:=(by injection e839)
       replace p839:=eq_true p839
       replace q839:=eq_true q839
       go_wp2
       go_ret
       exact ⟨by first | rfl | (simp;done) | (simp [*];done),by repeat (first | exact Drawn0.refl _ | apply Drawn0.step)⟩
    ·rw [if_neg c4] at H
     exact absurd H (by simp)
   ·rw [if_neg c3] at H
    have c3b0 : decide (x5_1 < (l0.length : Int)) = false:=decide_eq_false c3
    clear c3
    obtain rfl:=Option.some.inj H
    go_wp2
    go_ret
    exact ⟨by first | rfl | (simp;done) | (simp [*];done),by repeat (first | exact Drawn0.refl _ | apply Drawn0.step)⟩
def laws_heldHost.f (k : Nat) (a0_0 : Int) (a0_1 : Int) (a0_2 : Int) (a0_3 : Int) (l0_4 : List (S89)) (l0_5 : List (S87)) (l0_6 : List (S45)) (l0_7 : List (S56)) (a0_8 : Int) (a0_9 : Int) (a1 : Int) : Option (Int):=(laws_heldFilterS.f k l0_4 a1).bind fun t857 => (if t857 < 0 then (some (-1)) else ((laws_heldBoxS.f k l0_5 t857).bind fun t858 => (if t858 < 0 then (some (-1)) else ((laws_heldFrameS.f k l0_6 t858).bind fun t859 => (if t859 < 0 then (some (-1)) else ((laws_heldEventS.f k l0_7 t859).bind fun t860 => (if t860 < 0 then (some (-1)) else (some t860))))))))
set_option maxHeartbeats 8000000 in
set_option maxRecDepth 100000 in
theorem laws_heldHost.calls (k : Nat) (a0_0 : Int) (a0_1 : Int) (a0_2 : Int) (a0_3 : Int) (A0_4 : Option Addr) (c0_4 : Nat) (l0_4 : List (S89)) (A0_5 : Option Addr) (c0_5 : Nat) (l0_5 : List (S87)) (A0_6 : Option Addr) (c0_6 : Nat) (l0_6 : List (S45)) (A0_7 : Option Addr) (c0_7 : Nat) (l0_7 : List (S56)) (a0_8 : Int) (a0_9 : Int) (a1 : Int) (r : Int) (w : World) (hr0_4 : Kd.C k89 w A0_4 l0_4.length l0_4) (hc0_4 : l0_4.length ≤ c0_4) (hr0_5 : Kd.C k87 w A0_5 l0_5.length l0_5) (hc0_5 : l0_5.length ≤ c0_5) (hr0_6 : Kd.C k45 w A0_6 l0_6.length l0_6) (hc0_6 : l0_6.length ≤ c0_6) (hr0_7 : Kd.C k56 w A0_7 l0_7.length l0_7) (hc0_7 : l0_7.length ≤ c0_7) (h : laws_heldHost.f k a0_0 a0_1 a0_2 a0_3 l0_4 l0_5 l0_6 l0_7 a0_8 a0_9 a1 = some r) :
  Calls Try.prog 23 #[.agg #[.int .i64 a0_0, .int .i64 a0_1, .int .i64 a0_2, .int .i64 a0_3, .slice A0_4 l0_4.length c0_4, .slice A0_5 l0_5.length c0_5, .slice A0_6 l0_6.length c0_6, .slice A0_7 l0_7.length c0_7, .int .i64 a0_8, .int .i64 a0_9], .int .i64 a1] w fun e w' => e = .returned (.int .i64 r) ∧ Below w.heap.size w w':=by
 have hu32:=Try.underlying32
 have HR0_4:=Aside0.mk hr0_4
 have HC0_4:=Aside0.mk hc0_4
 clear hr0_4 hc0_4
 have HR0_5:=Aside0.mk hr0_5
 have HC0_5:=Aside0.mk hc0_5
 clear hr0_5 hc0_5
 have HR0_6:=Aside0.mk hr0_6
 have HC0_6:=Aside0.mk hc0_6
 clear hr0_6 hc0_6
 have HR0_7:=Aside0.mk hr0_7
 have HC0_7:=Aside0.mk hc0_7
 clear hr0_7 hc0_7
 have HB:=Aside0.mk (Below.refl w.heap.size w)
 have H : ((laws_heldFilterS.f k l0_4 a1).bind fun t857 => (if t857 < 0 then (some (-1)) else ((laws_heldBoxS.f k l0_5 t857).bind fun t858 => (if t858 < 0 then (some (-1)) else ((laws_heldFrameS.f k l0_6 t858).bind fun t859 => (if t859 < 0 then (some (-1)) else ((laws_heldEventS.f k l0_7 t859).bind fun t860 => (if t860 < 0 then (some (-1)) else (some t860))))))))) = some r:=h
 clear h
 replace H:=Option.bind_eq_some_iff.mp H
 obtain ⟨t857,A30,H⟩:=H
 replace H : (if t857 < 0 then (some (-1)) else ((laws_heldBoxS.f k l0_5 t857).bind fun t858 => (if t858 < 0 then (some (-1)) else ((laws_heldFrameS.f k l0_6 t858).bind fun t859 => (if t859 < 0 then (some (-1)) else ((laws_heldEventS.f k l0_7 t859).bind fun t860 => (if t860 < 0 then (some (-1)) else (some t860)))))))) = some r:=H
 have A3:=Aside0.mk A30
 clear A30
 by_cases c4 : t857 < 0
 ·rw [if_pos c4] at H
  have c4b0 : decide (t857 < 0) = true:=decide_eq_true c4
  clear c4
  obtain rfl:=Option.some.inj H
  go_enter Try.func23,Try.ntmps23
  go_wp2_with (first | ((with_reducible refine gate_dst (N:=2) rfl ?_);refine box_event ?hg (N:=2) ?hd (cs := #[.int .i64 a0_0, .int .i64 a0_1, .int .i64 a0_2, .int .i64 a0_3, .slice A0_4 l0_4.length c0_4, .slice A0_5 l0_5.length c0_5, .slice A0_6 l0_6.length c0_6, .slice A0_7 l0_7.length c0_7, .int .i64 a0_8, .int .i64 a0_9]) (t:=32) ?hr ?_;(case hd => rfl);(case hg => rfl);(case hr => first | (go_simp;done) | (go_simp;rfl));intro gb856 hg w5 hbox hb;have n0_:=Aside0.mk (below_step (by repeat (first | (with_reducible first | exact HB.out | apply below_alloc | apply pw_below_drewN | apply below_drew1) | exact HB.out)) hb);have n1_:=Aside0.mk (hbox);have n2_:=Aside0.mk ((by rw [hg];exact (below_size (by repeat (first | (with_reducible first | exact HB.out | apply below_alloc | apply pw_below_drewN | apply below_drew1) | exact HB.out))) : w.heap.size ≤ gb856));have n3_:=Aside0.mk ((by rw [hg];exact (below_size (by repeat (first | (with_reducible first | exact HB.out | apply below_alloc | apply pw_below_drewN | apply below_drew1) | exact HB.out))) : w.heap.size ≤ gb856));clear HB;have HB:=n0_;have BK856:=n1_;have GW856:=n2_;have GE856:=n3_;clear n0_ n1_ n2_ n3_;clear hb hbox hg;have hcz6_0 : w5.cell? ⟨gb856,0,none⟩ = some (.int .i64 a0_0):=(blk_cell BK856.out 0).trans rfl;have hcz6_1 : w5.cell? ⟨gb856,1,none⟩ = some (.int .i64 a0_1):=(blk_cell BK856.out 1).trans rfl;have hcz6_2 : w5.cell? ⟨gb856,2,none⟩ = some (.int .i64 a0_2):=(blk_cell BK856.out 2).trans rfl;have hcz6_3 : w5.cell? ⟨gb856,3,none⟩ = some (.int .i64 a0_3):=(blk_cell BK856.out 3).trans rfl;have hcz6_4 : w5.cell? ⟨gb856,4,none⟩ = some (.slice A0_4 l0_4.length c0_4):=(blk_cell BK856.out 4).trans rfl;have hcz6_5 : w5.cell? ⟨gb856,5,none⟩ = some (.slice A0_5 l0_5.length c0_5):=(blk_cell BK856.out 5).trans rfl;have hcz6_6 : w5.cell? ⟨gb856,6,none⟩ = some (.slice A0_6 l0_6.length c0_6):=(blk_cell BK856.out 6).trans rfl;have hcz6_7 : w5.cell? ⟨gb856,7,none⟩ = some (.slice A0_7 l0_7.length c0_7):=(blk_cell BK856.out 7).trans rfl;have hcz6_8 : w5.cell? ⟨gb856,8,none⟩ = some (.int .i64 a0_8):=(blk_cell BK856.out 8).trans rfl;have hcz6_9 : w5.cell? ⟨gb856,9,none⟩ = some (.int .i64 a0_9):=(blk_cell BK856.out 9).trans rfl;have hfz6_0:=blk_frozen BK856.out 0;have hfz6_1:=blk_frozen BK856.out 1;have hfz6_2:=blk_frozen BK856.out 2;have hfz6_3:=blk_frozen BK856.out 3;have hfz6_4:=blk_frozen BK856.out 4;have hfz6_5:=blk_frozen BK856.out 5;have hfz6_6:=blk_frozen BK856.out 6;have hfz6_7:=blk_frozen BK856.out 7;have hfz6_8:=blk_frozen BK856.out 8;have hfz6_9:=blk_frozen BK856.out 9) | ((with_reducible refine gate_callee (f:=71) rfl ?_);refine goesL_ (some 8) rfl rfl Try.func71 (by kernel_rfl) rfl #[.slice A0_4 l0_4.length c0_4, .int .i64 a1] rfl (by (try simp only [List.map_toArray,List.map_cons,List.map_nil]);first | done | rfl | (simp only [List.length_drop,List.length_take];rfl)) ?_;(with_reducible refine (laws_heldFilterS.calls k _ _ l0_4 a1 t857 _ ?side1 ?side2 A3.out).mono ?_);(case side1 => repeat (first | exact (Kd.C_below HR0_4.out HB.out) | (with_reducible refine Kd.C_alloc ?_ _) | (with_reducible refine Kd.C_drewN ?_ _) | (with_reducible refine Kd.C_drew ?_)));(case side2 => exact HC0_4.out);rintro e w' ⟨rfl,⟨nd,rfl⟩⟩;refine ⟨_,rfl, ?_⟩))
  go_ret
  exact ⟨by first | rfl | (simp [errW_none,errW_some] <;> rfl) | (simp [*,errW_none,errW_some] <;> rfl),by repeat (first | (with_reducible first | exact HB.out | apply below_alloc | apply pw_below_drewN | apply below_drew1 | refine below_set ?_ GE856.out) | exact HB.out)⟩
 ·rw [if_neg c4] at H
  have c4b0 : decide (t857 < 0) = false:=decide_eq_false c4
  clear c4
  replace H:=Option.bind_eq_some_iff.mp H
  obtain ⟨t858,A70,H⟩:=H
  replace H : (if t858 < 0 then (some (-1)) else ((laws_heldFrameS.f k l0_6 t858).bind fun t859 => (if t859 < 0 then (some (-1)) else ((laws_heldEventS.f k l0_7 t859).bind fun t860 => (if t860 < 0 then (some (-1)) else (some t860)))))) = some r:=H
  have A7:=Aside0.mk A70
  clear A70
  by_cases c8 : t858 < 0
  ·rw [if_pos c8] at H
   have c8b0 : decide (t858 < 0) = true:=decide_eq_true c8
   clear c8
   obtain rfl:=Option.some.inj H
   go_enter Try.func23,Try.ntmps23
   go_wp2_with (first | ((with_reducible refine gate_dst (N:=2) rfl ?_);refine box_event ?hg (N:=2) ?hd (cs := #[.int .i64 a0_0, .int .i64 a0_1, .int .i64 a0_2, .int .i64 a0_3, .slice A0_4 l0_4.length c0_4, .slice A0_5 l0_5.length c0_5, .slice A0_6 l0_6.length c0_6, .slice A0_7 l0_7.length c0_7, .int .i64 a0_8, .int .i64 a0_9]) (t:=32) ?hr ?_;(case hd => rfl);(case hg => rfl);(case hr => first | (go_simp;done) | (go_simp;rfl));intro gb856 hg w9 hbox hb;have n0_:=Aside0.mk (below_step (by repeat (first | (with_reducible first | exact HB.out | apply below_alloc | apply pw_below_drewN | apply below_drew1) | exact HB.out)) hb);have n1_:=Aside0.mk (hbox);have n2_:=Aside0.mk ((by rw [hg];exact (below_size (by repeat (first | (with_reducible first | exact HB.out | apply below_alloc | apply pw_below_drewN | apply below_drew1) | exact HB.out))) : w.heap.size ≤ gb856));have n3_:=Aside0.mk ((by rw [hg];exact (below_size (by repeat (first | (with_reducible first | exact HB.out | apply below_alloc | apply pw_below_drewN | apply below_drew1) | exact HB.out))) : w.heap.size ≤ gb856));clear HB;have HB:=n0_;have BK856:=n1_;have GW856:=n2_;have GE856:=n3_;clear n0_ n1_ n2_ n3_;clear hb hbox hg;have hcz10_0 : w9.cell? ⟨gb856,0,none⟩ = some (.int .i64 a0_0):=(blk_cell BK856.out 0).trans rfl;have hcz10_1 : w9.cell? ⟨gb856,1,none⟩ = some (.int .i64 a0_1):=(blk_cell BK856.out 1).trans rfl;have hcz10_2 : w9.cell? ⟨gb856,2,none⟩ = some (.int .i64 a0_2):=(blk_cell BK856.out 2).trans rfl;have hcz10_3 : w9.cell? ⟨gb856,3,none⟩ = some (.int .i64 a0_3):=(blk_cell BK856.out 3).trans rfl;have hcz10_4 : w9.cell? ⟨gb856,4,none⟩ = some (.slice A0_4 l0_4.length c0_4):=(blk_cell BK856.out 4).trans rfl;have hcz10_5 : w9.cell? ⟨gb856,5,none⟩ = some (.slice A0_5 l0_5.length c0_5):=(blk_cell BK856.out 5).trans rfl;have hcz10_6 : w9.cell? ⟨gb856,6,none⟩ = some (.slice A0_6 l0_6.length c0_6):=(blk_cell BK856.out 6).trans rfl;have hcz10_7 : w9.cell? ⟨gb856,7,none⟩ = some (.slice A0_7 l0_7.length c0_7):=(blk_cell BK856.out 7).trans rfl;have hcz10_8 : w9.cell? ⟨gb856,8,none⟩ = some (.int .i64 a0_8):=(blk_cell BK856.out 8).trans rfl;have hcz10_9 : w9.cell? ⟨gb856,9,none⟩ = some (.int .i64 a0_9):=(blk_cell BK856.out 9).trans rfl;have hfz10_0:=blk_frozen BK856.out 0;have hfz10_1:=blk_frozen BK856.out 1;have hfz10_2:=blk_frozen BK856.out 2;have hfz10_3:=blk_frozen BK856.out 3;have hfz10_4:=blk_frozen BK856.out 4;have hfz10_5:=blk_frozen BK856.out 5;have hfz10_6:=blk_frozen BK856.out 6;have hfz10_7:=blk_frozen BK856.out 7;have hfz10_8:=blk_frozen BK856.out 8;have hfz10_9:=blk_frozen BK856.out 9) | ((with_reducible refine gate_callee (f:=71) rfl ?_);refine goesL_ (some 8) rfl rfl Try.func71 (by kernel_rfl) rfl #[.slice A0_4 l0_4.length c0_4, .int .i64 a1] rfl (by (try simp only [List.map_toArray,List.map_cons,List.map_nil]);first | done | rfl | (simp only [List.length_drop,List.length_take];rfl)) ?_;(with_reducible refine (laws_heldFilterS.calls k _ _ l0_4 a1 t857 _ ?side1 ?side2 A3.out).mono ?_);(case side1 => repeat (first | exact (Kd.C_below HR0_4.out HB.out) | (with_reducible refine Kd.C_alloc ?_ _) | (with_reducible refine Kd.C_drewN ?_ _) | (with_reducible refine Kd.C_drew ?_)));(case side2 => exact HC0_4.out);rintro e w' ⟨rfl,⟨nd,rfl⟩⟩;refine ⟨_,rfl, ?_⟩) | ((with_reducible refine gate_callee (f:=72) rfl ?_);refine goesL_ (some 14) rfl rfl Try.func72 (by kernel_rfl) rfl #[.slice A0_5 l0_5.length c0_5, .int .i64 t857] rfl (by (try simp only [List.map_toArray,List.map_cons,List.map_nil]);first | done | rfl | (simp only [List.length_drop,List.length_take];rfl)) ?_;(with_reducible refine (laws_heldBoxS.calls k _ _ l0_5 t857 t858 _ ?side1 ?side2 A7.out).mono ?_);(case side1 => repeat (first | exact (Kd.C_below HR0_5.out (by repeat (first | (with_reducible first | exact HB.out | apply below_alloc | apply pw_below_drewN | apply below_drew1 | refine below_set ?_ GE856.out) | exact HB.out))) | (with_reducible refine Kd.C_alloc ?_ _) | (with_reducible refine Kd.C_drewN ?_ _) | (with_reducible refine Kd.C_drew ?_)));(case side2 => exact HC0_5.out);rintro e w' ⟨rfl,⟨nd,rfl⟩⟩;refine ⟨_,rfl, ?_⟩))
   go_ret
   exact ⟨by first | rfl | (simp [errW_none,errW_some] <;> rfl) | (simp [*,errW_none,errW_some] <;> rfl),by repeat (first | (with_reducible first | exact HB.out | apply below_alloc | apply pw_below_drewN | apply below_drew1 | refine below_set ?_ GE856.out) | exact HB.out)⟩
  ·rw [if_neg c8] at H
   have c8b0 : decide (t858 < 0) = false:=decide_eq_false c8
   clear c8
   replace H:=Option.bind_eq_some_iff.mp H
   obtain ⟨t859,A110,H⟩:=H
   replace H : (if t859 < 0 then (some (-1)) else ((laws_heldEventS.f k l0_7 t859).bind fun t860 => (if t860 < 0 then (some (-1)) else (some t860)))) = some r:=H
   have A11:=Aside0.mk A110
   clear A110
   by_cases c12 : t859 < 0
   ·rw [if_pos c12] at H
    have c12b0 : decide (t859 < 0) = true:=decide_eq_true c12
    clear c12
    obtain rfl:=Option.some.inj H
    go_enter Try.func23,Try.ntmps23
    go_wp2_with (first | ((with_reducible refine gate_dst (N:=2) rfl ?_);refine box_event ?hg (N:=2) ?hd (cs := #[.int .i64 a0_0, .int .i64 a0_1, .int .i64 a0_2, .int .i64 a0_3, .slice A0_4 l0_4.length c0_4, .slice A0_5 l0_5.length c0_5, .slice A0_6 l0_6.length c0_6, .slice A0_7 l0_7.length c0_7, .int .i64 a0_8, .int .i64 a0_9]) (t:=32) ?hr ?_;(case hd => rfl);(case hg => rfl);(case hr => first | (go_simp;done) | (go_simp;rfl));intro gb856 hg w13 hbox hb;have n0_:=Aside0.mk (below_step (by repeat (first | (with_reducible first | exact HB.out | apply below_alloc | apply pw_below_drewN | apply below_drew1) | exact HB.out)) hb);have n1_:=Aside0.mk (hbox);have n2_:=Aside0.mk ((by rw [hg];exact (below_size (by repeat (first | (with_reducible first | exact HB.out | apply below_alloc | apply pw_below_drewN | apply below_drew1) | exact HB.out))) : w.heap.size ≤ gb856));have n3_:=Aside0.mk ((by rw [hg];exact (below_size (by repeat (first | (with_reducible first | exact HB.out | apply below_alloc | apply pw_below_drewN | apply below_drew1) | exact HB.out))) : w.heap.size ≤ gb856));clear HB;have HB:=n0_;have BK856:=n1_;have GW856:=n2_;have GE856:=n3_;clear n0_ n1_ n2_ n3_;clear hb hbox hg;have hcz14_0 : w13.cell? ⟨gb856,0,none⟩ = some (.int .i64 a0_0):=(blk_cell BK856.out 0).trans rfl;have hcz14_1 : w13.cell? ⟨gb856,1,none⟩ = some (.int .i64 a0_1):=(blk_cell BK856.out 1).trans rfl;have hcz14_2 : w13.cell? ⟨gb856,2,none⟩ = some (.int .i64 a0_2):=(blk_cell BK856.out 2).trans rfl;have hcz14_3 : w13.cell? ⟨gb856,3,none⟩ = some (.int .i64 a0_3):=(blk_cell BK856.out 3).trans rfl;have hcz14_4 : w13.cell? ⟨gb856,4,none⟩ = some (.slice A0_4 l0_4.length c0_4):=(blk_cell BK856.out 4).trans rfl;have hcz14_5 : w13.cell? ⟨gb856,5,none⟩ = some (.slice A0_5 l0_5.length c0_5):=(blk_cell BK856.out 5).trans rfl;have hcz14_6 : w13.cell? ⟨gb856,6,none⟩ = some (.slice A0_6 l0_6.length c0_6):=(blk_cell BK856.out 6).trans rfl;have hcz14_7 : w13.cell? ⟨gb856,7,none⟩ = some (.slice A0_7 l0_7.length c0_7):=(blk_cell BK856.out 7).trans rfl;have hcz14_8 : w13.cell? ⟨gb856,8,none⟩ = some (.int .i64 a0_8):=(blk_cell BK856.out 8).trans rfl;have hcz14_9 : w13.cell? ⟨gb856,9,none⟩ = some (.int .i64 a0_9):=(blk_cell BK856.out 9).trans rfl;have hfz14_0:=blk_frozen BK856.out 0;have hfz14_1:=blk_frozen BK856.out 1;have hfz14_2:=blk_frozen BK856.out 2;have hfz14_3:=blk_frozen BK856.out 3;have hfz14_4:=blk_frozen BK856.out 4;have hfz14_5:=blk_frozen BK856.out 5;have hfz14_6:=blk_frozen BK856.out 6;have hfz14_7:=blk_frozen BK856.out 7;have hfz14_8:=blk_frozen BK856.out 8;have hfz14_9:=blk_frozen BK856.out 9) | ((with_reducible refine gate_callee (f:=71) rfl ?_);refine goesL_ (some 8) rfl rfl Try.func71 (by kernel_rfl) rfl #[.slice A0_4 l0_4.length c0_4, .int .i64 a1] rfl (by (try simp only [List.map_toArray,List.map_cons,List.map_nil]);first | done | rfl | (simp only [List.length_drop,List.length_take];rfl)) ?_;(with_reducible refine (laws_heldFilterS.calls k _ _ l0_4 a1 t857 _ ?side1 ?side2 A3.out).mono ?_);(case side1 => repeat (first | exact (Kd.C_below HR0_4.out HB.out) | (with_reducible refine Kd.C_alloc ?_ _) | (with_reducible refine Kd.C_drewN ?_ _) | (with_reducible refine Kd.C_drew ?_)));(case side2 => exact HC0_4.out);rintro e w' ⟨rfl,⟨nd,rfl⟩⟩;refine ⟨_,rfl, ?_⟩) | ((with_reducible refine gate_callee (f:=72) rfl ?_);refine goesL_ (some 14) rfl rfl Try.func72 (by kernel_rfl) rfl #[.slice A0_5 l0_5.length c0_5, .int .i64 t857] rfl (by (try simp only [List.map_toArray,List.map_cons,List.map_nil]);first | done | rfl | (simp only [List.length_drop,List.length_take];rfl)) ?_;(with_reducible refine (laws_heldBoxS.calls k _ _ l0_5 t857 t858 _ ?side1 ?side2 A7.out).mono ?_);(case side1 => repeat (first | exact (Kd.C_below HR0_5.out (by repeat (first | (with_reducible first | exact HB.out | apply below_alloc | apply pw_below_drewN | apply below_drew1 | refine below_set ?_ GE856.out) | exact HB.out))) | (with_reducible refine Kd.C_alloc ?_ _) | (with_reducible refine Kd.C_drewN ?_ _) | (with_reducible refine Kd.C_drew ?_)));(case side2 => exact HC0_5.out);rintro e w' ⟨rfl,⟨nd,rfl⟩⟩;refine ⟨_,rfl, ?_⟩) | ((with_reducible refine gate_callee (f:=73) rfl ?_);refine goesL_ (some 20) rfl rfl Try.func73 (by kernel_rfl) rfl #[.slice A0_6 l0_6.length c0_6, .int .i64 t858] rfl (by (try simp only [List.map_toArray,List.map_cons,List.map_nil]);first | done | rfl | (simp only [List.length_drop,List.length_take];rfl)) ?_;(with_reducible refine (laws_heldFrameS.calls k _ _ l0_6 t858 t859 _ ?side1 ?side2 A11.out).mono ?_);(case side1 => repeat (first | exact (Kd.C_below HR0_6.out (by repeat (first | (with_reducible first | exact HB.out | apply below_alloc | apply pw_below_drewN | apply below_drew1 | refine below_set ?_ GE856.out) | exact HB.out))) | (with_reducible refine Kd.C_alloc ?_ _) | (with_reducible refine Kd.C_drewN ?_ _) | (with_reducible refine Kd.C_drew ?_)));(case side2 => exact HC0_6.out);rintro e w' ⟨rfl,⟨nd,rfl⟩⟩;refine ⟨_,rfl, ?_⟩))
    go_ret
    exact ⟨by first | rfl | (simp [errW_none,errW_some] <;> rfl) | (simp [*,errW_none,errW_some] <;> rfl),by repeat (first | (with_reducible first | exact HB.out | apply below_alloc | apply pw_below_drewN | apply below_drew1 | refine below_set ?_ GE856.out) | exact HB.out)⟩
   ·rw [if_neg c12] at H
    have c12b0 : decide (t859 < 0) = false:=decide_eq_false c12
    clear c12
    replace H:=Option.bind_eq_some_iff.mp H
    obtain ⟨t860,A150,H⟩:=H
    replace H : (if t860 < 0 then (some (-1)) else (some t860)) = some r:=H
    have A15:=Aside0.mk A150
    clear A150
    by_cases c16 : t860 < 0
    ·rw [if_pos c16] at H
     have c16b0 : decide (t860 < 0) = true:=decide_eq_true c16
     clear c16
     obtain rfl:=Option.some.inj H
     go_enter Try.func23,Try.ntmps23
     go_wp2_with (first | ((with_reducible refine gate_dst (N:=2) rfl ?_);refine box_event ?hg (N:=2) ?hd (cs := #[.int .i64 a0_0, .int .i64 a0_1, .int .i64 a0_2, .int .i64 a0_3, .slice A0_4 l0_4.length c0_4, .slice A0_5 l0_5.length c0_5, .slice A0_6 l0_6.length c0_6, .slice A0_7 l0_7.length c0_7, .int .i64 a0_8, .int .i64 a0_9]) (t:=32) ?hr ?_;(case hd => rfl);(case hg => rfl);(case hr => first | (go_simp;done) | (go_simp;rfl));intro gb856 hg w17 hbox hb;have n0_:=Aside0.mk (below_step (by repeat (first | (with_reducible first | exact HB.out | apply below_alloc | apply pw_below_drewN | apply below_drew1) | exact HB.out)) hb);have n1_:=Aside0.mk (hbox);have n2_:=Aside0.mk ((by rw [hg];exact (below_size (by repeat (first | (with_reducible first | exact HB.out | apply below_alloc | apply pw_below_drewN | apply below_drew1) | exact HB.out))) : w.heap.size ≤ gb856));have n3_:=Aside0.mk ((by rw [hg];exact (below_size (by repeat (first | (with_reducible first | exact HB.out | apply below_alloc | apply pw_below_drewN | apply below_drew1) | exact HB.out))) : w.heap.size ≤ gb856));clear HB;have HB:=n0_;have BK856:=n1_;have GW856:=n2_;have GE856:=n3_;clear n0_ n1_ n2_ n3_;clear hb hbox hg;have hcz18_0 : w17.cell? ⟨gb856,0,none⟩ = some (.int .i64 a0_0):=(blk_cell BK856.out 0).trans rfl;have hcz18_1 : w17.cell? ⟨gb856,1,none⟩ = some (.int .i64 a0_1):=(blk_cell BK856.out 1).trans rfl;have hcz18_2 : w17.cell? ⟨gb856,2,none⟩ = some (.int .i64 a0_2):=(blk_cell BK856.out 2).trans rfl;have hcz18_3 : w17.cell? ⟨gb856,3,none⟩ = some (.int .i64 a0_3):=(blk_cell BK856.out 3).trans rfl;have hcz18_4 : w17.cell? ⟨gb856,4,none⟩ = some (.slice A0_4 l0_4.length c0_4):=(blk_cell BK856.out 4).trans rfl;have hcz18_5 : w17.cell? ⟨gb856,5,none⟩ = some (.slice A0_5 l0_5.length c0_5):=(blk_cell BK856.out 5).trans rfl;have hcz18_6 : w17.cell? ⟨gb856,6,none⟩ = some (.slice A0_6 l0_6.length c0_6):=(blk_cell BK856.out 6).trans rfl;have hcz18_7 : w17.cell? ⟨gb856,7,none⟩ = some (.slice A0_7 l0_7.length c0_7):=(blk_cell BK856.out 7).trans rfl;have hcz18_8 : w17.cell? ⟨gb856,8,none⟩ = some (.int .i64 a0_8):=(blk_cell BK856.out 8).trans rfl;have hcz18_9 : w17.cell? ⟨gb856,9,none⟩ = some (.int .i64 a0_9):=(blk_cell BK856.out 9).trans rfl;have hfz18_0:=blk_frozen BK856.out 0;have hfz18_1:=blk_frozen BK856.out 1;have hfz18_2:=blk_frozen BK856.out 2;have hfz18_3:=blk_frozen BK856.out 3;have hfz18_4:=blk_frozen BK856.out 4;have hfz18_5:=blk_frozen BK856.out 5;have hfz18_6:=blk_frozen BK856.out 6;have hfz18_7:=blk_frozen BK856.out 7;have hfz18_8:=blk_frozen BK856.out 8;have hfz18_9:=blk_frozen BK856.out 9) | ((with_reducible refine gate_callee (f:=71) rfl ?_);refine goesL_ (some 8) rfl rfl Try.func71 (by kernel_rfl) rfl #[.slice A0_4 l0_4.length c0_4, .int .i64 a1] rfl (by (try simp only [List.map_toArray,List.map_cons,List.map_nil]);first | done | rfl | (simp only [List.length_drop,List.length_take];rfl)) ?_;(with_reducible refine (laws_heldFilterS.calls k _ _ l0_4 a1 t857 _ ?side1 ?side2 A3.out).mono ?_);(case side1 => repeat (first | exact (Kd.C_below HR0_4.out HB.out) | (with_reducible refine Kd.C_alloc ?_ _) | (with_reducible refine Kd.C_drewN ?_ _) | (with_reducible refine Kd.C_drew ?_)));(case side2 => exact HC0_4.out);rintro e w' ⟨rfl,⟨nd,rfl⟩⟩;refine ⟨_,rfl, ?_⟩) | ((with_reducible refine gate_callee (f:=72) rfl ?_);refine goesL_ (some 14) rfl rfl Try.func72 (by kernel_rfl) rfl #[.slice A0_5 l0_5.length c0_5, .int .i64 t857] rfl (by (try simp only [List.map_toArray,List.map_cons,List.map_nil]);first | done | rfl | (simp only [List.length_drop,List.length_take];rfl)) ?_;(with_reducible refine (laws_heldBoxS.calls k _ _ l0_5 t857 t858 _ ?side1 ?side2 A7.out).mono ?_);(case side1 => repeat (first | exact (Kd.C_below HR0_5.out (by repeat (first | (with_reducible first | exact HB.out | apply below_alloc | apply pw_below_drewN | apply below_drew1 | refine below_set ?_ GE856.out) | exact HB.out))) | (with_reducible refine Kd.C_alloc ?_ _) | (with_reducible refine Kd.C_drewN ?_ _) | (with_reducible refine Kd.C_drew ?_)));(case side2 => exact HC0_5.out);rintro e w' ⟨rfl,⟨nd,rfl⟩⟩;refine ⟨_,rfl, ?_⟩) | ((with_reducible refine gate_callee (f:=73) rfl ?_);refine goesL_ (some 20) rfl rfl Try.func73 (by kernel_rfl) rfl #[.slice A0_6 l0_6.length c0_6, .int .i64 t858] rfl (by (try simp only [List.map_toArray,List.map_cons,List.map_nil]);first | done | rfl | (simp only [List.length_drop,List.length_take];rfl)) ?_;(with_reducible refine (laws_heldFrameS.calls k _ _ l0_6 t858 t859 _ ?side1 ?side2 A11.out).mono ?_);(case side1 => repeat (first | exact (Kd.C_below HR0_6.out (by repeat (first | (with_reducible first | exact HB.out | apply below_alloc | apply pw_below_drewN | apply below_drew1 | refine below_set ?_ GE856.out) | exact HB.out))) | (with_reducible refine Kd.C_alloc ?_ _) | (with_reducible refine Kd.C_drewN ?_ _) | (with_reducible refine Kd.C_drew ?_)));(case side2 => exact HC0_6.out);rintro e w' ⟨rfl,⟨nd,rfl⟩⟩;refine ⟨_,rfl, ?_⟩) | ((with_reducible refine gate_callee (f:=48) rfl ?_);refine goesL_ (some 26) rfl rfl Try.func48 (by kernel_rfl) rfl #[.slice A0_7 l0_7.length c0_7, .int .i64 t859] rfl (by (try simp only [List.map_toArray,List.map_cons,List.map_nil]);first | done | rfl | (simp only [List.length_drop,List.length_take];rfl)) ?_;(with_reducible refine (laws_heldEventS.calls k _ _ l0_7 t859 t860 _ ?side1 ?side2 A15.out).mono ?_);(case side1 => repeat (first | exact (Kd.C_below HR0_7.out (by repeat (first | (with_reducible first | exact HB.out | apply below_alloc | apply pw_below_drewN | apply below_drew1 | refine below_set ?_ GE856.out) | exact HB.out))) | (with_reducible refine Kd.C_alloc ?_ _) | (with_reducible refine Kd.C_drewN ?_ _) | (with_reducible refine Kd.C_drew ?_)));(case side2 => exact HC0_7.out);rintro e w' ⟨rfl,⟨nd,rfl⟩⟩;refine ⟨_,rfl, ?_⟩))
     go_ret
     exact ⟨by first | rfl | (simp [errW_none,errW_some] <;> rfl) | (simp [*,errW_none,errW_some] <;> rfl),by repeat (first | (with_reducible first | exact HB.out | apply below_alloc | apply pw_below_drewN | apply below_drew1 | refine below_set ?_ GE856.out) | exact HB.out)⟩
    ·rw [if_neg c16] at H
     have c16b0 : decide (t860 < 0) = false:=decide_eq_false c16
     clear c16
     obtain rfl:=Option.some.inj H
     go_enter Try.func23,Try.ntmps23
     go_wp2_with (first | ((with_reducible refine gate_dst (N:=2) rfl ?_);refine box_event ?hg (N:=2) ?hd (cs := #[.int .i64 a0_0, .int .i64 a0_1, .int .i64 a0_2, .int .i64 a0_3, .slice A0_4 l0_4.length c0_4, .slice A0_5 l0_5.length c0_5, .slice A0_6 l0_6.length c0_6, .slice A0_7 l0_7.length c0_7, .int .i64 a0_8, .int .i64 a0_9]) (t:=32) ?hr ?_;(case hd => rfl);(case hg => rfl);(case hr => first | (go_simp;done) | (go_simp;rfl));intro gb856 hg w19 hbox hb;have n0_:=Aside0.mk (below_step (by repeat (first | (with_reducible first | exact HB.out | apply below_alloc | apply pw_below_drewN | apply below_drew1) | exact HB.out)) hb);have n1_:=Aside0.mk (hbox);have n2_:=Aside0.mk ((by rw [hg];exact (below_size (by repeat (first | (with_reducible first | exact HB.out | apply below_alloc | apply pw_below_drewN | apply below_drew1) | exact HB.out))) : w.heap.size ≤ gb856));have n3_:=Aside0.mk ((by rw [hg];exact (below_size (by repeat (first | (with_reducible first | exact HB.out | apply below_alloc | apply pw_below_drewN | apply below_drew1) | exact HB.out))) : w.heap.size ≤ gb856));clear HB;have HB:=n0_;have BK856:=n1_;have GW856:=n2_;have GE856:=n3_;clear n0_ n1_ n2_ n3_;clear hb hbox hg;have hcz20_0 : w19.cell? ⟨gb856,0,none⟩ = some (.int .i64 a0_0):=(blk_cell BK856.out 0).trans rfl;have hcz20_1 : w19.cell? ⟨gb856,1,none⟩ = some (.int .i64 a0_1):=(blk_cell BK856.out 1).trans rfl;have hcz20_2 : w19.cell? ⟨gb856,2,none⟩ = some (.int .i64 a0_2):=(blk_cell BK856.out 2).trans rfl;have hcz20_3 : w19.cell? ⟨gb856,3,none⟩ = some (.int .i64 a0_3):=(blk_cell BK856.out 3).trans rfl;have hcz20_4 : w19.cell? ⟨gb856,4,none⟩ = some (.slice A0_4 l0_4.length c0_4):=(blk_cell BK856.out 4).trans rfl;have hcz20_5 : w19.cell? ⟨gb856,5,none⟩ = some (.slice A0_5 l0_5.length c0_5):=(blk_cell BK856.out 5).trans rfl;have hcz20_6 : w19.cell? ⟨gb856,6,none⟩ = some (.slice A0_6 l0_6.length c0_6):=(blk_cell BK856.out 6).trans rfl;have hcz20_7 : w19.cell? ⟨gb856,7,none⟩ = some (.slice A0_7 l0_7.length c0_7):=(blk_cell BK856.out 7).trans rfl;have hcz20_8 : w19.cell? ⟨gb856,8,none⟩ = some (.int .i64 a0_8):=(blk_cell BK856.out 8).trans rfl;have hcz20_9 : w19.cell? ⟨gb856,9,none⟩ = some (.int .i64 a0_9):=(blk_cell BK856.out 9).trans rfl;have hfz20_0:=blk_frozen BK856.out 0;have hfz20_1:=blk_frozen BK856.out 1;have hfz20_2:=blk_frozen BK856.out 2;have hfz20_3:=blk_frozen BK856.out 3;have hfz20_4:=blk_frozen BK856.out 4;have hfz20_5:=blk_frozen BK856.out 5;have hfz20_6:=blk_frozen BK856.out 6;have hfz20_7:=blk_frozen BK856.out 7;have hfz20_8:=blk_frozen BK856.out 8;have hfz20_9:=blk_frozen BK856.out 9) | ((with_reducible refine gate_callee (f:=71) rfl ?_);refine goesL_ (some 8) rfl rfl Try.func71 (by kernel_rfl) rfl #[.slice A0_4 l0_4.length c0_4, .int .i64 a1] rfl (by (try simp only [List.map_toArray,List.map_cons,List.map_nil]);first | done | rfl | (simp only [List.length_drop,List.length_take];rfl)) ?_;(with_reducible refine (laws_heldFilterS.calls k _ _ l0_4 a1 t857 _ ?side1 ?side2 A3.out).mono ?_);(case side1 => repeat (first | exact (Kd.C_below HR0_4.out HB.out) | (with_reducible refine Kd.C_alloc ?_ _) | (with_reducible refine Kd.C_drewN ?_ _) | (with_reducible refine Kd.C_drew ?_)));(case side2 => exact HC0_4.out);rintro e w' ⟨rfl,⟨nd,rfl⟩⟩;refine ⟨_,rfl, ?_⟩) | ((with_reducible refine gate_callee (f:=72) rfl ?_);refine goesL_ (some 14) rfl rfl Try.func72 (by kernel_rfl) rfl #[.slice A0_5 l0_5.length c0_5, .int .i64 t857] rfl (by (try simp only [List.map_toArray,List.map_cons,List.map_nil]);first | done | rfl | (simp only [List.length_drop,List.length_take];rfl)) ?_;(with_reducible refine (laws_heldBoxS.calls k _ _ l0_5 t857 t858 _ ?side1 ?side2 A7.out).mono ?_);(case side1 => repeat (first | exact (Kd.C_below HR0_5.out (by repeat (first | (with_reducible first | exact HB.out | apply below_alloc | apply pw_below_drewN | apply below_drew1 | refine below_set ?_ GE856.out) | exact HB.out))) | (with_reducible refine Kd.C_alloc ?_ _) | (with_reducible refine Kd.C_drewN ?_ _) | (with_reducible refine Kd.C_drew ?_)));(case side2 => exact HC0_5.out);rintro e w' ⟨rfl,⟨nd,rfl⟩⟩;refine ⟨_,rfl, ?_⟩) | ((with_reducible refine gate_callee (f:=73) rfl ?_);refine goesL_ (some 20) rfl rfl Try.func73 (by kernel_rfl) rfl #[.slice A0_6 l0_6.length c0_6, .int .i64 t858] rfl (by (try simp only [List.map_toArray,List.map_cons,List.map_nil]);first | done | rfl | (simp only [List.length_drop,List.length_take];rfl)) ?_;(with_reducible refine (laws_heldFrameS.calls k _ _ l0_6 t858 t859 _ ?side1 ?side2 A11.out).mono ?_);(case side1 => repeat (first | exact (Kd.C_below HR0_6.out (by repeat (first | (with_reducible first | exact HB.out | apply below_alloc | apply pw_below_drewN | apply below_drew1 | refine below_set ?_ GE856.out) | exact HB.out))) | (with_reducible refine Kd.C_alloc ?_ _) | (with_reducible refine Kd.C_drewN ?_ _) | (with_reducible refine Kd.C_drew ?_)));(case side2 => exact HC0_6.out);rintro e w' ⟨rfl,⟨nd,rfl⟩⟩;refine ⟨_,rfl, ?_⟩) | ((with_reducible refine gate_callee (f:=48) rfl ?_);refine goesL_ (some 26) rfl rfl Try.func48 (by kernel_rfl) rfl #[.slice A0_7 l0_7.length c0_7, .int .i64 t859] rfl (by (try simp only [List.map_toArray,List.map_cons,List.map_nil]);first | done | rfl | (simp only [List.length_drop,List.length_take];rfl)) ?_;(with_reducible refine (laws_heldEventS.calls k _ _ l0_7 t859 t860 _ ?side1 ?side2 A15.out).mono ?_);(case side1 => repeat (first | exact (Kd.C_below HR0_7.out (by repeat (first | (with_reducible first | exact HB.out | apply below_alloc | apply pw_below_drewN | apply below_drew1 | refine below_set ?_ GE856.out) | exact HB.out))) | (with_reducible refine Kd.C_alloc ?_ _) | (with_reducible refine Kd.C_drewN ?_ _) | (with_reducible refine Kd.C_drew ?_)));(case side2 => exact HC0_7.out);rintro e w' ⟨rfl,⟨nd,rfl⟩⟩;refine ⟨_,rfl, ?_⟩))
     go_ret
     exact ⟨by first | rfl | (simp [errW_none,errW_some] <;> rfl) | (simp [*,errW_none,errW_some] <;> rfl),by repeat (first | (with_reducible first | exact HB.out | apply below_alloc | apply pw_below_drewN | apply below_drew1 | refine below_set ?_ GE856.out) | exact HB.out)⟩
end Go.Proofs.Ytcaefabbcjlkdaa.P
