/- Texts of the proof of FnExactNewHost, joined. -/
import Derived.Test.YtcaefabbcjlkdaaSFnExactNewHost22
import Derived.Test.YtcaefabbcjlkdaaSFnExactNewHost27
import Derived.Deep.RegionHeld
namespace Go.Proofs.Ytcaefabbcjlkdaa.P
open Go.RowKit Go.Proofs.YtcaefabbcjlkdaaW.PrintWords Go.Proofs.YtcaefabbcjlkdaaW.PrintLast Go.Proofs.YtcaefabbcjlkdaaW.PrintMore
set_option linter.unusedVariables false
set_option linter.unusedSimpArgs false
def laws_heldBoxS.l0 : Nat → List (S87) → Int → Int → Option (Int)
 | 0,_,_,_ => none
 | k + 1,x0,x1,x5 => if x5 < (x0.length : Int) then (if 0 ≤ x5 then (if ((rd_T87 x0 x5).f0) = x1 then (if ((rd_T87 x0 x5).f1) = (wrap64 (x1 + 1)) then (if ((rd_T87 x0 x5).f2) = (wrap64 ((wrap64 (x1 + 1)) + 1)) then (if (((rd_T87 x0 x5).f3.f0) != ((Int.tmod (wrap64 ((wrap64 ((wrap64 (x1 + 1)) + 1)) + 1)) 3) == 0)) = true then (some (-1)) else (if ((rd_T87 x0 x5).f3.f1) = ((wrap64 ((wrap64 ((wrap64 ((wrap64 (x1 + 1)) + 1)) + 1)) + 1)) % 4294967296) then (if (((rd_T87 x0 x5).f3.f2) != ((Int.tmod (wrap64 ((wrap64 ((wrap64 ((wrap64 ((wrap64 (x1 + 1)) + 1)) + 1)) + 1)) + 1)) 3) == 0)) = true then (some (-1)) else (if ((rd_T87 x0 x5).f3.f3) = (wrap64 ((wrap64 ((wrap64 ((wrap64 ((wrap64 ((wrap64 (x1 + 1)) + 1)) + 1)) + 1)) + 1)) + 1)) then ((laws_heldByteS.f k ((rd_T87 x0 x5).f3.f4) (wrap64 ((wrap64 ((wrap64 ((wrap64 ((wrap64 ((wrap64 ((wrap64 (x1 + 1)) + 1)) + 1)) + 1)) + 1)) + 1)) + 1))).bind fun t849 => (if t849 < 0 then (some (-1)) else (laws_heldBoxS.l0 k x0 t849 (wrap64 (x5 + 1))))) else (some (-1)))) else (some (-1)))) else (some (-1))) else (some (-1))) else (some (-1))) else (none)) else (some x1)
def laws_heldBoxS.f (k : Nat) (l0 : List (S87)) (a1 : Int) : Option (Int):=laws_heldBoxS.l0 k l0 a1 0
set_option maxHeartbeats 8000000 in
set_option maxRecDepth 100000 in
theorem laws_heldBoxS.calls (k : Nat) (A0 : Option Addr) (c0 : Nat) (l0 : List (S87)) (a1 : Int) (r : Int) (w : World) (hr0 : Kd.C k87 w A0 l0.length l0) (hc0 : l0.length ≤ c0) (h : laws_heldBoxS.f k l0 a1 = some r) :
  Calls Try.prog 72 #[.slice A0 l0.length c0, .int .i64 a1] w fun e w' => e = .returned (.int .i64 r) ∧ Drawn0 w w':=by
 have HR0:=Aside0.mk hr0
 have HC0:=Aside0.mk hc0
 clear hr0 hc0
 have H : (laws_heldBoxS.l0 k l0 a1 0) = some r:=h
 clear h
 have H':=Aside0.mk H
 clear H
 go_enter Try.func72,Try.ntmps72
 go_wp2
 go_loopg [1,5] k (fun kq v1 v5 w' => ∃ (x1_1 : Int) (x5_1 : Int),v1 = .int .i64 x1_1 ∧ v5 = .int .i64 x5_1 ∧ Aside0 (laws_heldBoxS.l0 kq l0 x1_1 x5_1 = some r) ∧ Aside0 (kq ≤ k) ∧ Drawn0 w w')
 case atStart => exact ⟨(a1),(0),(by first | rfl | (simp;done) | (simp [*];done)),(by first | rfl | (simp;done) | (simp [*];done)),H',⟨Nat.le_refl _⟩,by repeat (first | exact Drawn0.refl _ | apply Drawn0.step)⟩
 case round =>
  clear H'
  try clear p2
  obtain ⟨x1_1,x5_1,rfl,rfl,HA,HK1,⟨m1,rfl⟩⟩:=hrel
  cases gk with
  | zero => exact absurd HA.out (by simp [laws_heldBoxS.l0])
  | succ k1 =>
   have H:=HA.out
   clear HA
   simp only [laws_heldBoxS.l0] at H
   by_cases c3 : x5_1 < (l0.length : Int)
   ·rw [if_pos c3] at H
    have c3b0 : decide (x5_1 < (l0.length : Int)) = true:=decide_eq_true c3
    clear c3
    by_cases c4 : 0 ≤ x5_1
    ·rw [if_pos c4] at H
     have c4b0 : decide (0 ≤ x5_1) = true:=decide_eq_true c4
     clear c4
     by_cases c5 : ((rd_T87 l0 x5_1).f0) = x1_1
     ·rw [if_pos c5] at H
      have c5b0 : (((rd_T87 l0 x5_1).f0) == x1_1) = true:=beq_iff_eq.mpr c5
      have c5b1 : (((rd_T87 l0 x5_1).f0) != x1_1) = false:=bne_eq_false_iff_eq.mpr c5
      clear c5
      by_cases c6 : ((rd_T87 l0 x5_1).f1) = (wrap64 (x1_1 + 1))
      ·rw [if_pos c6] at H
       have c6b0 : (((rd_T87 l0 x5_1).f1) == (wrap64 (x1_1 + 1))) = true:=beq_iff_eq.mpr c6
       have c6b1 : (((rd_T87 l0 x5_1).f1) != (wrap64 (x1_1 + 1))) = false:=bne_eq_false_iff_eq.mpr c6
       clear c6
       by_cases c7 : ((rd_T87 l0 x5_1).f2) = (wrap64 ((wrap64 (x1_1 + 1)) + 1))
       ·rw [if_pos c7] at H
        have c7b0 : (((rd_T87 l0 x5_1).f2) == (wrap64 ((wrap64 (x1_1 + 1)) + 1))) = true:=beq_iff_eq.mpr c7
        have c7b1 : (((rd_T87 l0 x5_1).f2) != (wrap64 ((wrap64 (x1_1 + 1)) + 1))) = false:=bne_eq_false_iff_eq.mpr c7
        clear c7
        by_cases c8 : (((rd_T87 l0 x5_1).f3.f0) != ((Int.tmod (wrap64 ((wrap64 ((wrap64 (x1_1 + 1)) + 1)) + 1)) 3) == 0)) = true
        ·rw [if_pos c8] at H
         have c8b0 : (((rd_T87 l0 x5_1).f3.f0) != ((Int.tmod (wrap64 ((wrap64 ((wrap64 (x1_1 + 1)) + 1)) + 1)) 3) == 0)) = true:=c8
         (try (have c8b1 : decide (((rd_T87 l0 x5_1).f3.f0) = ((Int.tmod (wrap64 ((wrap64 ((wrap64 (x1_1 + 1)) + 1)) + 1)) 3) == 0)) = false:=by simpa using c8))
         (try (have c8b2 : (((rd_T87 l0 x5_1).f3.f0) == ((Int.tmod (wrap64 ((wrap64 ((wrap64 (x1_1 + 1)) + 1)) + 1)) 3) == 0)) = false:=by simpa using c8))
         (try (have c8b3 : ¬ (((rd_T87 l0 x5_1).f3.f0) = ((Int.tmod (wrap64 ((wrap64 ((wrap64 (x1_1 + 1)) + 1)) + 1)) 3) == 0)):=by simpa using c8))
         clear c8
         obtain rfl:=Option.some.inj H
         have p841 : 0 ≤ (x5_1 : Int):=of_decide_eq_true (by first | (with_reducible assumption) | assumption)
         have q841 : x5_1 < (l0.length : Int):=of_decide_eq_true (by first | (with_reducible assumption) | assumption)
         obtain ⟨ad841,A841_7,c841_7,e841,hx841_0,hx841_1,hx841_2,hx841_3,hx841_4,hx841_5,hx841_6,hx841_7,hl841_7,hi841_7⟩:=at_T87 HR0.out x5_1 p841 q841
         cases e841
         have HR841_7:=Aside0.mk hi841_7
         have HC841_7:=Aside0.mk hl841_7
         clear hi841_7 hl841_7
         replace p841:=eq_true p841
         replace q841:=eq_true q841
         have p842 : 0 ≤ (x5_1 : Int):=of_decide_eq_true (by first | (with_reducible assumption) | assumption)
         have q842 : x5_1 < (l0.length : Int):=of_decide_eq_true (by first | (with_reducible assumption) | assumption)
         obtain ⟨ad842,A842_7,c842_7,e842,hx842_0,hx842_1,hx842_2,hx842_3,hx842_4,hx842_5,hx842_6,hx842_7,hl842_7,hi842_7⟩:=at_T87 HR0.out x5_1 p842 q842
         obtain rfl : ad841 = ad842:=(by injection e842)
         have HR842_7:=Aside0.mk hi842_7
         have HC842_7:=Aside0.mk hl842_7
         clear hi842_7 hl842_7
         replace p842:=eq_true p842
         replace q842:=eq_true q842
         have ea_:=Option.some.inj (hx841_7.symm.trans hx842_7)
         injection ea_ with ea_ en_ ec_
         subst ea_
         subst ec_
         clear en_
         have p843 : 0 ≤ (x5_1 : Int):=of_decide_eq_true (by first | (with_reducible assumption) | assumption)
         have q843 : x5_1 < (l0.length : Int):=of_decide_eq_true (by first | (with_reducible assumption) | assumption)
         obtain ⟨ad843,A843_7,c843_7,e843,hx843_0,hx843_1,hx843_2,hx843_3,hx843_4,hx843_5,hx843_6,hx843_7,hl843_7,hi843_7⟩:=at_T87 HR0.out x5_1 p843 q843
         obtain rfl : ad841 = ad843:=(by injection e843)
         have HR843_7:=Aside0.mk hi843_7
         have HC843_7:=Aside0.mk hl843_7
         clear hi843_7 hl843_7
         replace p843:=eq_true p843
         replace q843:=eq_true q843
         have ea_:=Option.some.inj (hx841_7.symm.trans hx843_7)
         injection ea_ with ea_ en_ ec_
         subst ea_
         subst ec_
         clear en_
         have p844 : 0 ≤ (x5_1 : Int):=of_decide_eq_true (by first | (with_reducible assumption) | assumption)
         have q844 : x5_1 < (l0.length : Int):=of_decide_eq_true (by first | (with_reducible assumption) | assumption)
         obtain ⟨ad844,A844_7,c844_7,e844,hx844_0,hx844_1,hx844_2,hx844_3,hx844_4,hx844_5,hx844_6,hx844_7,hl844_7,hi844_7⟩:=at_T87 HR0.out x5_1 p844 q844
         obtain rfl : ad841 = ad844:=(by injection e844)
         have HR844_7:=Aside0.mk hi844_7
         have HC844_7:=Aside0.mk hl844_7
         clear hi844_7 hl844_7
         replace p844:=eq_true p844
         replace q844:=eq_true q844
         have ea_:=Option.some.inj (hx841_7.symm.trans hx844_7)
         injection ea_ with ea_ en_ ec_
         subst ea_
         subst ec_
         clear en_
         go_wp2
         go_ret
         exact ⟨by first | rfl | (simp;done) | (simp [*];done),by repeat (first | exact Drawn0.refl _ | apply Drawn0.step)⟩
        ·rw [if_neg c8] at H
         have c8b0 : (((rd_T87 l0 x5_1).f3.f0) != ((Int.tmod (wrap64 ((wrap64 ((wrap64 (x1_1 + 1)) + 1)) + 1)) 3) == 0)) = false:=by simpa using c8
         (try (have c8b1 : decide (((rd_T87 l0 x5_1).f3.f0) = ((Int.tmod (wrap64 ((wrap64 ((wrap64 (x1_1 + 1)) + 1)) + 1)) 3) == 0)) = true:=by simpa using c8))
         (try (have c8b2 : (((rd_T87 l0 x5_1).f3.f0) == ((Int.tmod (wrap64 ((wrap64 ((wrap64 (x1_1 + 1)) + 1)) + 1)) 3) == 0)) = true:=by simpa using c8))
         clear c8
         by_cases c9 : ((rd_T87 l0 x5_1).f3.f1) = ((wrap64 ((wrap64 ((wrap64 ((wrap64 (x1_1 + 1)) + 1)) + 1)) + 1)) % 4294967296)
         ·rw [if_pos c9] at H
          have c9b0 : (((rd_T87 l0 x5_1).f3.f1) == ((wrap64 ((wrap64 ((wrap64 ((wrap64 (x1_1 + 1)) + 1)) + 1)) + 1)) % 4294967296)) = true:=beq_iff_eq.mpr c9
          have c9b1 : (((rd_T87 l0 x5_1).f3.f1) != ((wrap64 ((wrap64 ((wrap64 ((wrap64 (x1_1 + 1)) + 1)) + 1)) + 1)) % 4294967296)) = false:=bne_eq_false_iff_eq.mpr c9
          clear c9
          by_cases c10 : (((rd_T87 l0 x5_1).f3.f2) != ((Int.tmod (wrap64 ((wrap64 ((wrap64 ((wrap64 ((wrap64 (x1_1 + 1)) + 1)) + 1)) + 1)) + 1)) 3) == 0)) = true
          ·rw [if_pos c10] at H
           have c10b0 : (((rd_T87 l0 x5_1).f3.f2) != ((Int.tmod (wrap64 ((wrap64 ((wrap64 ((wrap64 ((wrap64 (x1_1 + 1)) + 1)) + 1)) + 1)) + 1)) 3) == 0)) = true:=c10
           (try (have c10b1 : decide (((rd_T87 l0 x5_1).f3.f2) = ((Int.tmod (wrap64 ((wrap64 ((wrap64 ((wrap64 ((wrap64 (x1_1 + 1)) + 1)) + 1)) + 1)) + 1)) 3) == 0)) = false:=by simpa using c10))
           (try (have c10b2 : (((rd_T87 l0 x5_1).f3.f2) == ((Int.tmod (wrap64 ((wrap64 ((wrap64 ((wrap64 ((wrap64 (x1_1 + 1)) + 1)) + 1)) + 1)) + 1)) 3) == 0)) = false:=by simpa using c10))
           (try (have c10b3 : ¬ (((rd_T87 l0 x5_1).f3.f2) = ((Int.tmod (wrap64 ((wrap64 ((wrap64 ((wrap64 ((wrap64 (x1_1 + 1)) + 1)) + 1)) + 1)) + 1)) 3) == 0)):=by simpa using c10))
           clear c10
           obtain rfl:=Option.some.inj H
           have p841 : 0 ≤ (x5_1 : Int):=of_decide_eq_true (by first | (with_reducible assumption) | assumption)
           have q841 : x5_1 < (l0.length : Int):=of_decide_eq_true (by first | (with_reducible assumption) | assumption)
           obtain ⟨ad841,A841_7,c841_7,e841,hx841_0,hx841_1,hx841_2,hx841_3,hx841_4,hx841_5,hx841_6,hx841_7,hl841_7,hi841_7⟩:=at_T87 HR0.out x5_1 p841 q841
           cases e841
           have HR841_7:=Aside0.mk hi841_7
           have HC841_7:=Aside0.mk hl841_7
           clear hi841_7 hl841_7
           replace p841:=eq_true p841
           replace q841:=eq_true q841
           have p842 : 0 ≤ (x5_1 : Int):=of_decide_eq_true (by first | (with_reducible assumption) | assumption)
           have q842 : x5_1 < (l0.length : Int):=of_decide_eq_true (by first | (with_reducible assumption) | assumption)
           obtain ⟨ad842,A842_7,c842_7,e842,hx842_0,hx842_1,hx842_2,hx842_3,hx842_4,hx842_5,hx842_6,hx842_7,hl842_7,hi842_7⟩:=at_T87 HR0.out x5_1 p842 q842
           obtain rfl : ad841 = ad842:=(by injection e842)
           have HR842_7:=Aside0.mk hi842_7
           have HC842_7:=Aside0.mk hl842_7
           clear hi842_7 hl842_7
           replace p842:=eq_true p842
           replace q842:=eq_true q842
           have ea_:=Option.some.inj (hx841_7.symm.trans hx842_7)
           injection ea_ with ea_ en_ ec_
           subst ea_
           subst ec_
           clear en_
           have p843 : 0 ≤ (x5_1 : Int):=of_decide_eq_true (by first | (with_reducible assumption) | assumption)
           have q843 : x5_1 < (l0.length : Int):=of_decide_eq_true (by first | (with_reducible assumption) | assumption)
           obtain ⟨ad843,A843_7,c843_7,e843,hx843_0,hx843_1,hx843_2,hx843_3,hx843_4,hx843_5,hx843_6,hx843_7,hl843_7,hi843_7⟩:=at_T87 HR0.out x5_1 p843 q843
           obtain rfl : ad841 = ad843:=(by injection e843)
           have HR843_7:=Aside0.mk hi843_7
           have HC843_7:=Aside0.mk hl843_7
           clear hi843_7 hl843_7
           replace p843:=eq_true p843
           replace q843:=eq_true q843
           have ea_:=Option.some.inj (hx841_7.symm.trans hx843_7)
           injection ea_ with ea_ en_ ec_
           subst ea_
           subst ec_
           clear en_
           have p844 : 0 ≤ (x5_1 : Int):=of_decide_eq_true (by first | (with_reducible assumption) | assumption)
           have q844 : x5_1 < (l0.length : Int):=of_decide_eq_true (by first | (with_reducible assumption) | assumption)
           obtain ⟨ad844,A844_7,c844_7,e844,hx844_0,hx844_1,hx844_2,hx844_3,hx844_4,hx844_5,hx844_6,hx844_7,hl844_7,hi844_7⟩:=at_T87 HR0.out x5_1 p844 q844
           obtain rfl : ad841 = ad844:=(by injection e844)
           have HR844_7:=Aside0.mk hi844_7
           have HC844_7:=Aside0.mk hl844_7
           clear hi844_7 hl844_7
           replace p844:=eq_true p844
           replace q844:=eq_true q844
           have ea_:=Option.some.inj (hx841_7.symm.trans hx844_7)
           injection ea_ with ea_ en_ ec_
           subst ea_
           subst ec_
           clear en_
           have p845 : 0 ≤ (x5_1 : Int):=of_decide_eq_true (by first | (with_reducible assumption) | assumption)
           have q845 : x5_1 < (l0.length : Int):=of_decide_eq_true (by first | (with_reducible assumption) | assumption)
           obtain ⟨ad845,A845_7,c845_7,e845,hx845_0,hx845_1,hx845_2,hx845_3,hx845_4,hx845_5,hx845_6,hx845_7,hl845_7,hi845_7⟩:=at_T87 HR0.out x5_1 p845 q845
           obtain rfl : ad841 = ad845:=(by injection e845)
           have HR845_7:=Aside0.mk hi845_7
           have HC845_7:=Aside0.mk hl845_7
           clear hi845_7 hl845_7
           replace p845:=eq_true p845
           replace q845:=eq_true q845
           have ea_:=Option.some.inj (hx841_7.symm.trans hx845_7)
           injection ea_ with ea_ en_ ec_
           subst ea_
           subst ec_
           clear en_
           have p846 : 0 ≤ (x5_1 : Int):=of_decide_eq_true (by first | (with_reducible assumption) | assumption)
           have q846 : x5_1 < (l0.length : Int):=of_decide_eq_true (by first | (with_reducible assumption) | assumption)
           obtain ⟨ad846,A846_7,c846_7,e846,hx846_0,hx846_1,hx846_2,hx846_3,hx846_4,hx846_5,hx846_6,hx846_7,hl846_7,hi846_7⟩:=at_T87 HR0.out x5_1 p846 q846
           obtain rfl : ad841 = ad846:=(by injection e846)
           have HR846_7:=Aside0.mk hi846_7
           have HC846_7:=Aside0.mk hl846_7
           clear hi846_7 hl846_7
           replace p846:=eq_true p846
           replace q846:=eq_true q846
           have ea_:=Option.some.inj (hx841_7.symm.trans hx846_7)
           injection ea_ with ea_ en_ ec_
           subst ea_
           subst ec_
           clear en_
           go_wp2
           go_ret
           exact ⟨by first | rfl | (simp;done) | (simp [*];done),by repeat (first | exact Drawn0.refl _ | apply Drawn0.step)⟩
          ·rw [if_neg c10] at H
           have c10b0 : (((rd_T87 l0 x5_1).f3.f2) != ((Int.tmod (wrap64 ((wrap64 ((wrap64 ((wrap64 ((wrap64 (x1_1 + 1)) + 1)) + 1)) + 1)) + 1)) 3) == 0)) = false:=by simpa using c10
           (try (have c10b1 : decide (((rd_T87 l0 x5_1).f3.f2) = ((Int.tmod (wrap64 ((wrap64 ((wrap64 ((wrap64 ((wrap64 (x1_1 + 1)) + 1)) + 1)) + 1)) + 1)) 3) == 0)) = true:=by simpa using c10))
           (try (have c10b2 : (((rd_T87 l0 x5_1).f3.f2) == ((Int.tmod (wrap64 ((wrap64 ((wrap64 ((wrap64 ((wrap64 (x1_1 + 1)) + 1)) + 1)) + 1)) + 1)) 3) == 0)) = true:=by simpa using c10))
           clear c10
           by_cases c11 : ((rd_T87 l0 x5_1).f3.f3) = (wrap64 ((wrap64 ((wrap64 ((wrap64 ((wrap64 ((wrap64 (x1_1 + 1)) + 1)) + 1)) + 1)) + 1)) + 1))
           ·rw [if_pos c11] at H
            have c11b0 : (((rd_T87 l0 x5_1).f3.f3) == (wrap64 ((wrap64 ((wrap64 ((wrap64 ((wrap64 ((wrap64 (x1_1 + 1)) + 1)) + 1)) + 1)) + 1)) + 1))) = true:=beq_iff_eq.mpr c11
            have c11b1 : (((rd_T87 l0 x5_1).f3.f3) != (wrap64 ((wrap64 ((wrap64 ((wrap64 ((wrap64 ((wrap64 (x1_1 + 1)) + 1)) + 1)) + 1)) + 1)) + 1))) = false:=bne_eq_false_iff_eq.mpr c11
            clear c11
            replace H:=Option.bind_eq_some_iff.mp H
            obtain ⟨t849,A120,H⟩:=H
            replace H : (if t849 < 0 then (some (-1)) else (laws_heldBoxS.l0 k1 l0 t849 (wrap64 (x5_1 + 1)))) = some r:=H
            have A12:=Aside0.mk A120
            clear A120
            by_cases c13 : t849 < 0
            ·rw [if_pos c13] at H
             have c13b0 : decide (t849 < 0) = true:=decide_eq_true c13
             clear c13
             obtain rfl:=Option.some.inj H
             have p841 : 0 ≤ (x5_1 : Int):=of_decide_eq_true (by first | (with_reducible assumption) | assumption)
             have q841 : x5_1 < (l0.length : Int):=of_decide_eq_true (by first | (with_reducible assumption) | assumption)
             obtain ⟨ad841,A841_7,c841_7,e841,hx841_0,hx841_1,hx841_2,hx841_3,hx841_4,hx841_5,hx841_6,hx841_7,hl841_7,hi841_7⟩:=at_T87 HR0.out x5_1 p841 q841
             cases e841
             have HR841_7:=Aside0.mk hi841_7
             have HC841_7:=Aside0.mk hl841_7
             clear hi841_7 hl841_7
             replace p841:=eq_true p841
             replace q841:=eq_true q841
             have p842 : 0 ≤ (x5_1 : Int):=of_decide_eq_true (by first | (with_reducible assumption) | assumption)
             have q842 : x5_1 < (l0.length : Int):=of_decide_eq_true (by first | (with_reducible assumption) | assumption)
             obtain ⟨ad842,A842_7,c842_7,e842,hx842_0,hx842_1,hx842_2,hx842_3,hx842_4,hx842_5,hx842_6,hx842_7,hl842_7,hi842_7⟩:=at_T87 HR0.out x5_1 p842 q842
             obtain rfl : ad841 = ad842:=(by injection e842)
             have HR842_7:=Aside0.mk hi842_7
             have HC842_7:=Aside0.mk hl842_7
             clear hi842_7 hl842_7
             replace p842:=eq_true p842
             replace q842:=eq_true q842
             have ea_:=Option.some.inj (hx841_7.symm.trans hx842_7)
             injection ea_ with ea_ en_ ec_
             subst ea_
             subst ec_
             clear en_
             have p843 : 0 ≤ (x5_1 : Int):=of_decide_eq_true (by first | (with_reducible assumption) | assumption)
             have q843 : x5_1 < (l0.length : Int):=of_decide_eq_true (by first | (with_reducible assumption) | assumption)
             obtain ⟨ad843,A843_7,c843_7,e843,hx843_0,hx843_1,hx843_2,hx843_3,hx843_4,hx843_5,hx843_6,hx843_7,hl843_7,hi843_7⟩:=at_T87 HR0.out x5_1 p843 q843
             obtain rfl : ad841 = ad843:=(by injection e843)
             have HR843_7:=Aside0.mk hi843_7
             have HC843_7:=Aside0.mk hl843_7
             clear hi843_7 hl843_7
             replace p843:=eq_true p843
             replace q843:=eq_true q843
             have ea_:=Option.some.inj (hx841_7.symm.trans hx843_7)
             injection ea_ with ea_ en_ ec_
             subst ea_
             subst ec_
             clear en_
             have p844 : 0 ≤ (x5_1 : Int):=of_decide_eq_true (by first | (with_reducible assumption) | assumption)
             have q844 : x5_1 < (l0.length : Int):=of_decide_eq_true (by first | (with_reducible assumption) | assumption)
             obtain ⟨ad844,A844_7,c844_7,e844,hx844_0,hx844_1,hx844_2,hx844_3,hx844_4,hx844_5,hx844_6,hx844_7,hl844_7,hi844_7⟩:=at_T87 HR0.out x5_1 p844 q844
             obtain rfl : ad841 = ad844:=(by injection e844)
             have HR844_7:=Aside0.mk hi844_7
             have HC844_7:=Aside0.mk hl844_7
             clear hi844_7 hl844_7
             replace p844:=eq_true p844
             replace q844:=eq_true q844
             have ea_:=Option.some.inj (hx841_7.symm.trans hx844_7)
             injection ea_ with ea_ en_ ec_
             subst ea_
             subst ec_
             clear en_
             have p845 : 0 ≤ (x5_1 : Int):=of_decide_eq_true (by first | (with_reducible assumption) | assumption)
             have q845 : x5_1 < (l0.length : Int):=of_decide_eq_true (by first | (with_reducible assumption) | assumption)
             obtain ⟨ad845,A845_7,c845_7,e845,hx845_0,hx845_1,hx845_2,hx845_3,hx845_4,hx845_5,hx845_6,hx845_7,hl845_7,hi845_7⟩:=at_T87 HR0.out x5_1 p845 q845
             obtain rfl : ad841 = ad845:=(by injection e845)
             have HR845_7:=Aside0.mk hi845_7
             have HC845_7:=Aside0.mk hl845_7
             clear hi845_7 hl845_7
             replace p845:=eq_true p845
             replace q845:=eq_true q845
             have ea_:=Option.some.inj (hx841_7.symm.trans hx845_7)
             injection ea_ with ea_ en_ ec_
             subst ea_
             subst ec_
             clear en_
             have p846 : 0 ≤ (x5_1 : Int):=of_decide_eq_true (by first | (with_reducible assumption) | assumption)
             have q846 : x5_1 < (l0.length : Int):=of_decide_eq_true (by first | (with_reducible assumption) | assumption)
             obtain ⟨ad846,A846_7,c846_7,e846,hx846_0,hx846_1,hx846_2,hx846_3,hx846_4,hx846_5,hx846_6,hx846_7,hl846_7,hi846_7⟩:=at_T87 HR0.out x5_1 p846 q846
             obtain rfl : ad841 = ad846:=(by injection e846)
             have HR846_7:=Aside0.mk hi846_7
             have HC846_7:=Aside0.mk hl846_7
             clear hi846_7 hl846_7
             replace p846:=eq_true p846
             replace q846:=eq_true q846
             have ea_:=Option.some.inj (hx841_7.symm.trans hx846_7)
             injection ea_ with ea_ en_ ec_
             subst ea_
             subst ec_
             clear en_
             have p847 : 0 ≤ (x5_1 : Int):=of_decide_eq_true (by first | (with_reducible assumption) | assumption)
             have q847 : x5_1 < (l0.length : Int):=of_decide_eq_true (by first | (with_reducible assumption) | assumption)
             obtain ⟨ad847,A847_7,c847_7,e847,hx847_0,hx847_1,hx847_2,hx847_3,hx847_4,hx847_5,hx847_6,hx847_7,hl847_7,hi847_7⟩:=at_T87 HR0.out x5_1 p847 q847
             obtain rfl : ad841 = ad847:=(by injection e847)
             have HR847_7:=Aside0.mk hi847_7
             have HC847_7:=Aside0.mk hl847_7
             clear hi847_7 hl847_7
             replace p847:=eq_true p847
             replace q847:=eq_true q847
             have ea_:=Option.some.inj (hx841_7.symm.trans hx847_7)
             injection ea_ with ea_ en_ ec_
             subst ea_
             subst ec_
             clear en_
             have p848 : 0 ≤ (x5_1 : Int):=of_decide_eq_true (by first | (with_reducible assumption) | assumption)
             have q848 : x5_1 < (l0.length : Int):=of_decide_eq_true (by first | (with_reducible assumption) | assumption)
             obtain ⟨ad848,A848_7,c848_7,e848,hx848_0,hx848_1,hx848_2,hx848_3,hx848_4,hx848_5,hx848_6,hx848_7,hl848_7,hi848_7⟩:=at_T87 HR0.out x5_1 p848 q848
             obtain rfl : ad841 = ad848:=(by injection e848)
             have HR848_7:=Aside0.mk hi848_7
             have HC848_7:=Aside0.mk hl848_7
             clear hi848_7 hl848_7
             replace p848:=eq_true p848
             replace q848:=eq_true q848
             have ea_:=Option.some.inj (hx841_7.symm.trans hx848_7)
             injection ea_ with ea_ en_ ec_
             subst ea_
             subst ec_
             clear en_
             go_wp2_with (first | ((with_reducible refine gate_callee (f:=100) rfl ?_);refine goesL_ (some 91) rfl rfl Try.func100 (by kernel_rfl) rfl #[.slice A841_7 ((rd_T87 l0 x5_1).f3.f4).length c841_7, .int .i64 (wrap64 ((wrap64 ((wrap64 ((wrap64 ((wrap64 ((wrap64 ((wrap64 (x1_1 + 1)) + 1)) + 1)) + 1)) + 1)) + 1)) + 1))] rfl (by (try simp only [List.map_toArray,List.map_cons,List.map_nil]);first | done | rfl | (simp only [List.length_drop,List.length_take];rfl)) ?_;(with_reducible refine (laws_heldByteS.calls k1 _ _ ((rd_T87 l0 x5_1).f3.f4) (wrap64 ((wrap64 ((wrap64 ((wrap64 ((wrap64 ((wrap64 ((wrap64 (x1_1 + 1)) + 1)) + 1)) + 1)) + 1)) + 1)) + 1)) t849 _ ?side1 ?side2 A12.out).mono ?_);(case side1 => repeat (first | exact HR848_7.out | (with_reducible refine Kd.C_alloc ?_ _) | (with_reducible refine Kd.C_drewN ?_ _) | (with_reducible refine Kd.C_drew ?_)));(case side2 => exact HC848_7.out);rintro e w' ⟨rfl,⟨nd,rfl⟩⟩;refine ⟨_,rfl, ?_⟩))
             go_ret
             exact ⟨by first | rfl | (simp;done) | (simp [*];done),by repeat (first | exact Drawn0.refl _ | apply Drawn0.step)⟩
            ·rw [if_neg c13] at H
             have c13b0 : decide (t849 < 0) = false:=decide_eq_false c13
             clear c13
             have H':=Aside0.mk H
             clear H
             have p841 : 0 ≤ (x5_1 : Int):=of_decide_eq_true (by first | (with_reducible assumption) | assumption)
             have q841 : x5_1 < (l0.length : Int):=of_decide_eq_true (by first | (with_reducible assumption) | assumption)
             obtain ⟨ad841,A841_7,c841_7,e841,hx841_0,hx841_1,hx841_2,hx841_3,hx841_4,hx841_5,hx841_6,hx841_7,hl841_7,hi841_7⟩:=at_T87 HR0.out x5_1 p841 q841
             cases e841
             have HR841_7:=Aside0.mk hi841_7
             have HC841_7:=Aside0.mk hl841_7
             clear hi841_7 hl841_7
             replace p841:=eq_true p841
             replace q841:=eq_true q841
             have p842 : 0 ≤ (x5_1 : Int):=of_decide_eq_true (by first | (with_reducible assumption) | assumption)
             have q842 : x5_1 < (l0.length : Int):=of_decide_eq_true (by first | (with_reducible assumption) | assumption)
             obtain ⟨ad842,A842_7,c842_7,e842,hx842_0,hx842_1,hx842_2,hx842_3,hx842_4,hx842_5,hx842_6,hx842_7,hl842_7,hi842_7⟩:=at_T87 HR0.out x5_1 p842 q842
             obtain rfl : ad841 = ad842:=(by injection e842)
             have HR842_7:=Aside0.mk hi842_7
             have HC842_7:=Aside0.mk hl842_7
             clear hi842_7 hl842_7
             replace p842:=eq_true p842
             replace q842:=eq_true q842
             have ea_:=Option.some.inj (hx841_7.symm.trans hx842_7)
             injection ea_ with ea_ en_ ec_
             subst ea_
             subst ec_
             clear en_
             have p843 : 0 ≤ (x5_1 : Int):=of_decide_eq_true (by first | (with_reducible assumption) | assumption)
             have q843 : x5_1 < (l0.length : Int):=of_decide_eq_true (by first | (with_reducible assumption) | assumption)
             obtain ⟨ad843,A843_7,c843_7,e843,hx843_0,hx843_1,hx843_2,hx843_3,hx843_4,hx843_5,hx843_6,hx843_7,hl843_7,hi843_7⟩:=at_T87 HR0.out x5_1 p843 q843
             obtain rfl : ad841 = ad843:=(by injection e843)
             have HR843_7:=Aside0.mk hi843_7
             have HC843_7:=Aside0.mk hl843_7
             clear hi843_7 hl843_7
             replace p843:=eq_true p843
             replace q843:=eq_true q843
             have ea_:=Option.some.inj (hx841_7.symm.trans hx843_7)
             injection ea_ with ea_ en_ ec_
             subst ea_
             subst ec_
             clear en_
             have p844 : 0 ≤ (x5_1 : Int):=of_decide_eq_true (by first | (with_reducible assumption) | assumption)
             have q844 : x5_1 < (l0.length : Int):=of_decide_eq_true (by first | (with_reducible assumption) | assumption)
             obtain ⟨ad844,A844_7,c844_7,e844,hx844_0,hx844_1,hx844_2,hx844_3,hx844_4,hx844_5,hx844_6,hx844_7,hl844_7,hi844_7⟩:=at_T87 HR0.out x5_1 p844 q844
             obtain rfl : ad841 = ad844:=(by injection e844)
             have HR844_7:=Aside0.mk hi844_7
             have HC844_7:=Aside0.mk hl844_7
             clear hi844_7 hl844_7
             replace p844:=eq_true p844
             replace q844:=eq_true q844
             have ea_:=Option.some.inj (hx841_7.symm.trans hx844_7)
             injection ea_ with ea_ en_ ec_
             subst ea_
             subst ec_
             clear en_
             have p845 : 0 ≤ (x5_1 : Int):=of_decide_eq_true (by first | (with_reducible assumption) | assumption)
             have q845 : x5_1 < (l0.length : Int):=of_decide_eq_true (by first | (with_reducible assumption) | assumption)
             obtain ⟨ad845,A845_7,c845_7,e845,hx845_0,hx845_1,hx845_2,hx845_3,hx845_4,hx845_5,hx845_6,hx845_7,hl845_7,hi845_7⟩:=at_T87 HR0.out x5_1 p845 q845
             obtain rfl : ad841 = ad845:=(by injection e845)
             have HR845_7:=Aside0.mk hi845_7
             have HC845_7:=Aside0.mk hl845_7
             clear hi845_7 hl845_7
             replace p845:=eq_true p845
             replace q845:=eq_true q845
             have ea_:=Option.some.inj (hx841_7.symm.trans hx845_7)
             injection ea_ with ea_ en_ ec_
             subst ea_
             subst ec_
             clear en_
             have p846 : 0 ≤ (x5_1 : Int):=of_decide_eq_true (by first | (with_reducible assumption) | assumption)
             have q846 : x5_1 < (l0.length : Int):=of_decide_eq_true (by first | (with_reducible assumption) | assumption)
             obtain ⟨ad846,A846_7,c846_7,e846,hx846_0,hx846_1,hx846_2,hx846_3,hx846_4,hx846_5,hx846_6,hx846_7,hl846_7,hi846_7⟩:=at_T87 HR0.out x5_1 p846 q846
             obtain rfl : ad841 = ad846:=(by injection e846)
             have HR846_7:=Aside0.mk hi846_7
             have HC846_7:=Aside0.mk hl846_7
             clear hi846_7 hl846_7
             replace p846:=eq_true p846
             replace q846:=eq_true q846
             have ea_:=Option.some.inj (hx841_7.symm.trans hx846_7)
             injection ea_ with ea_ en_ ec_
             subst ea_
             subst ec_
             clear en_
             have p847 : 0 ≤ (x5_1 : Int):=of_decide_eq_true (by first | (with_reducible assumption) | assumption)
             have q847 : x5_1 < (l0.length : Int):=of_decide_eq_true (by first | (with_reducible assumption) | assumption)
             obtain ⟨ad847,A847_7,c847_7,e847,hx847_0,hx847_1,hx847_2,hx847_3,hx847_4,hx847_5,hx847_6,hx847_7,hl847_7,hi847_7⟩:=at_T87 HR0.out x5_1 p847 q847
             obtain rfl : ad841 = ad847:=(by injection e847)
             have HR847_7:=Aside0.mk hi847_7
             have HC847_7:=Aside0.mk hl847_7
             clear hi847_7 hl847_7
             replace p847:=eq_true p847
             replace q847:=eq_true q847
             have ea_:=Option.some.inj (hx841_7.symm.trans hx847_7)
             injection ea_ with ea_ en_ ec_
             subst ea_
             subst ec_
             clear en_
             have p848 : 0 ≤ (x5_1 : Int):=of_decide_eq_true (by first | (with_reducible assumption) | assumption)
             have q848 : x5_1 < (l0.length : Int):=of_decide_eq_true (by first | (with_reducible assumption) | assumption)
             obtain ⟨ad848,A848_7,c848_7,e848,hx848_0,hx848_1,hx848_2,hx848_3,hx848_4,hx848_5,hx848_6,hx848_7,hl848_7,hi848_7⟩:=at_T87 HR0.out x5_1 p848 q848
             obtain rfl : ad841 = ad848:=(by injection e848)
             have HR848_7:=Aside0.mk hi848_7
             have HC848_7:=Aside0.mk hl848_7
             clear hi848_7 hl848_7
             replace p848:=eq_true p848
             replace q848:=eq_true q848
             have ea_:=Option.some.inj (hx841_7.symm.trans hx848_7)
             injection ea_ with ea_ en_ ec_
             subst ea_
             subst ec_
             clear en_
             go_wp2_with (first | ((with_reducible refine gate_callee (f:=100) rfl ?_);refine goesL_ (some 91) rfl rfl Try.func100 (by kernel_rfl) rfl #[.slice A841_7 ((rd_T87 l0 x5_1).f3.f4).length c841_7, .int .i64 (wrap64 ((wrap64 ((wrap64 ((wrap64 ((wrap64 ((wrap64 ((wrap64 (x1_1 + 1)) + 1)) + 1)) + 1)) + 1)) + 1)) + 1))] rfl (by (try simp only [List.map_toArray,List.map_cons,List.map_nil]);first | done | rfl | (simp only [List.length_drop,List.length_take];rfl)) ?_;(with_reducible refine (laws_heldByteS.calls k1 _ _ ((rd_T87 l0 x5_1).f3.f4) (wrap64 ((wrap64 ((wrap64 ((wrap64 ((wrap64 ((wrap64 ((wrap64 (x1_1 + 1)) + 1)) + 1)) + 1)) + 1)) + 1)) + 1)) t849 _ ?side1 ?side2 A12.out).mono ?_);(case side1 => repeat (first | exact HR848_7.out | (with_reducible refine Kd.C_alloc ?_ _) | (with_reducible refine Kd.C_drewN ?_ _) | (with_reducible refine Kd.C_drew ?_)));(case side2 => exact HC848_7.out);rintro e w' ⟨rfl,⟨nd,rfl⟩⟩;refine ⟨_,rfl, ?_⟩))
             go_roundg k1
             case measure => have:=HK1.out;omega
             case rel => exact ⟨(t849),(wrap64 (x5_1 + 1)),(by first | rfl | (simp;done) | (simp [*];done)),(by first | rfl | (simp;done) | (simp [*];done)),H',⟨by have:=HK1.out;omega⟩,by repeat (first | exact Drawn0.refl _ | apply Drawn0.step)⟩
           ·rw [if_neg c11] at H
            have c11b0 : (((rd_T87 l0 x5_1).f3.f3) == (wrap64 ((wrap64 ((wrap64 ((wrap64 ((wrap64 ((wrap64 (x1_1 + 1)) + 1)) + 1)) + 1)) + 1)) + 1))) = false:=beq_eq_false_iff_ne.mpr c11
            have c11b1 : (((rd_T87 l0 x5_1).f3.f3) != (wrap64 ((wrap64 ((wrap64 ((wrap64 ((wrap64 ((wrap64 (x1_1 + 1)) + 1)) + 1)) + 1)) + 1)) + 1))) = true:=bne_iff_ne.mpr c11
            obtain rfl:=Option.some.inj H
            have p841 : 0 ≤ (x5_1 : Int):=of_decide_eq_true (by first | (with_reducible assumption) | assumption)
            have q841 : x5_1 < (l0.length : Int):=of_decide_eq_true (by first | (with_reducible assumption) | assumption)
            obtain ⟨ad841,A841_7,c841_7,e841,hx841_0,hx841_1,hx841_2,hx841_3,hx841_4,hx841_5,hx841_6,hx841_7,hl841_7,hi841_7⟩:=at_T87 HR0.out x5_1 p841 q841
            cases e841
            have HR841_7:=Aside0.mk hi841_7
            have HC841_7:=Aside0.mk hl841_7
            clear hi841_7 hl841_7
            replace p841:=eq_true p841
            replace q841:=eq_true q841
            have p842 : 0 ≤ (x5_1 : Int):=of_decide_eq_true (by first | (with_reducible assumption) | assumption)
            have q842 : x5_1 < (l0.length : Int):=of_decide_eq_true (by first | (with_reducible assumption) | assumption)
            obtain ⟨ad842,A842_7,c842_7,e842,hx842_0,hx842_1,hx842_2,hx842_3,hx842_4,hx842_5,hx842_6,hx842_7,hl842_7,hi842_7⟩:=at_T87 HR0.out x5_1 p842 q842
            obtain rfl : ad841 = ad842:=(by injection e842)
            have HR842_7:=Aside0.mk hi842_7
            have HC842_7:=Aside0.mk hl842_7
            clear hi842_7 hl842_7
            replace p842:=eq_true p842
            replace q842:=eq_true q842
            have ea_:=Option.some.inj (hx841_7.symm.trans hx842_7)
            injection ea_ with ea_ en_ ec_
            subst ea_
            subst ec_
            clear en_
            have p843 : 0 ≤ (x5_1 : Int):=of_decide_eq_true (by first | (with_reducible assumption) | assumption)
            have q843 : x5_1 < (l0.length : Int):=of_decide_eq_true (by first | (with_reducible assumption) | assumption)
            obtain ⟨ad843,A843_7,c843_7,e843,hx843_0,hx843_1,hx843_2,hx843_3,hx843_4,hx843_5,hx843_6,hx843_7,hl843_7,hi843_7⟩:=at_T87 HR0.out x5_1 p843 q843
            obtain rfl : ad841 = ad843:=(by injection e843)
            have HR843_7:=Aside0.mk hi843_7
            have HC843_7:=Aside0.mk hl843_7
            clear hi843_7 hl843_7
            replace p843:=eq_true p843
            replace q843:=eq_true q843
            have ea_:=Option.some.inj (hx841_7.symm.trans hx843_7)
            injection ea_ with ea_ en_ ec_
            subst ea_
            subst ec_
            clear en_
            have p844 : 0 ≤ (x5_1 : Int):=of_decide_eq_true (by first | (with_reducible assumption) | assumption)
            have q844 : x5_1 < (l0.length : Int):=of_decide_eq_true (by first | (with_reducible assumption) | assumption)
            obtain ⟨ad844,A844_7,c844_7,e844,hx844_0,hx844_1,hx844_2,hx844_3,hx844_4,hx844_5,hx844_6,hx844_7,hl844_7,hi844_7⟩:=at_T87 HR0.out x5_1 p844 q844
            obtain rfl : ad841 = ad844:=(by injection e844)
            have HR844_7:=Aside0.mk hi844_7
            have HC844_7:=Aside0.mk hl844_7
            clear hi844_7 hl844_7
            replace p844:=eq_true p844
            replace q844:=eq_true q844
            have ea_:=Option.some.inj (hx841_7.symm.trans hx844_7)
            injection ea_ with ea_ en_ ec_
            subst ea_
            subst ec_
            clear en_
            have p845 : 0 ≤ (x5_1 : Int):=of_decide_eq_true (by first | (with_reducible assumption) | assumption)
            have q845 : x5_1 < (l0.length : Int):=of_decide_eq_true (by first | (with_reducible assumption) | assumption)
            obtain ⟨ad845,A845_7,c845_7,e845,hx845_0,hx845_1,hx845_2,hx845_3,hx845_4,hx845_5,hx845_6,hx845_7,hl845_7,hi845_7⟩:=at_T87 HR0.out x5_1 p845 q845
            obtain rfl : ad841 = ad845:=(by injection e845)
            have HR845_7:=Aside0.mk hi845_7
            have HC845_7:=Aside0.mk hl845_7
            clear hi845_7 hl845_7
            replace p845:=eq_true p845
            replace q845:=eq_true q845
            have ea_:=Option.some.inj (hx841_7.symm.trans hx845_7)
            injection ea_ with ea_ en_ ec_
            subst ea_
            subst ec_
            clear en_
            have p846 : 0 ≤ (x5_1 : Int):=of_decide_eq_true (by first | (with_reducible assumption) | assumption)
            have q846 : x5_1 < (l0.length : Int):=of_decide_eq_true (by first | (with_reducible assumption) | assumption)
            obtain ⟨ad846,A846_7,c846_7,e846,hx846_0,hx846_1,hx846_2,hx846_3,hx846_4,hx846_5,hx846_6,hx846_7,hl846_7,hi846_7⟩:=at_T87 HR0.out x5_1 p846 q846
            obtain rfl : ad841 = ad846:=(by injection e846)
            have HR846_7:=Aside0.mk hi846_7
            have HC846_7:=Aside0.mk hl846_7
            clear hi846_7 hl846_7
            replace p846:=eq_true p846
            replace q846:=eq_true q846
            have ea_:=Option.some.inj (hx841_7.symm.trans hx846_7)
            injection ea_ with ea_ en_ ec_
            subst ea_
            subst ec_
            clear en_
            have p847 : 0 ≤ (x5_1 : Int):=of_decide_eq_true (by first | (with_reducible assumption) | assumption)
            have q847 : x5_1 < (l0.length : Int):=of_decide_eq_true (by first | (with_reducible assumption) | assumption)
            obtain ⟨ad847,A847_7,c847_7,e847,hx847_0,hx847_1,hx847_2,hx847_3,hx847_4,hx847_5,hx847_6,hx847_7,hl847_7,hi847_7⟩:=at_T87 HR0.out x5_1 p847 q847
            obtain rfl : ad841 = ad847:=(by injection e847)
            have HR847_7:=Aside0.mk hi847_7
            have HC847_7:=Aside0.mk hl847_7
            clear hi847_7 hl847_7
            replace p847:=eq_true p847
            replace q847:=eq_true q847
            have ea_:=Option.some.inj (hx841_7.symm.trans hx847_7)
            injection ea_ with ea_ en_ ec_
            subst ea_
            subst ec_
            clear en_
            go_wp2
            go_ret
            exact ⟨by first | rfl | (simp;done) | (simp [*];done),by repeat (first | exact Drawn0.refl _ | apply Drawn0.step)⟩
         ·rw [if_neg c9] at H
          have c9b0 : (((rd_T87 l0 x5_1).f3.f1) == ((wrap64 ((wrap64 ((wrap64 ((wrap64 (x1_1 + 1)) + 1)) + 1)) + 1)) % 4294967296)) = false:=beq_eq_false_iff_ne.mpr c9
          have c9b1 : (((rd_T87 l0 x5_1).f3.f1) != ((wrap64 ((wrap64 ((wrap64 ((wrap64 (x1_1 + 1)) + 1)) + 1)) + 1)) % 4294967296)) = true:=bne_iff_ne.mpr c9
          obtain rfl:=Option.some.inj H
          have p841 : 0 ≤ (x5_1 : Int):=of_decide_eq_true (by first | (with_reducible assumption) | assumption)
          have q841 : x5_1 < (l0.length : Int):=of_decide_eq_true (by first | (with_reducible assumption) | assumption)
          obtain ⟨ad841,A841_7,c841_7,e841,hx841_0,hx841_1,hx841_2,hx841_3,hx841_4,hx841_5,hx841_6,hx841_7,hl841_7,hi841_7⟩:=at_T87 HR0.out x5_1 p841 q841
          cases e841
          have HR841_7:=Aside0.mk hi841_7
          have HC841_7:=Aside0.mk hl841_7
          clear hi841_7 hl841_7
          replace p841:=eq_true p841
          replace q841:=eq_true q841
          have p842 : 0 ≤ (x5_1 : Int):=of_decide_eq_true (by first | (with_reducible assumption) | assumption)
          have q842 : x5_1 < (l0.length : Int):=of_decide_eq_true (by first | (with_reducible assumption) | assumption)
          obtain ⟨ad842,A842_7,c842_7,e842,hx842_0,hx842_1,hx842_2,hx842_3,hx842_4,hx842_5,hx842_6,hx842_7,hl842_7,hi842_7⟩:=at_T87 HR0.out x5_1 p842 q842
          obtain rfl : ad841 = ad842:=(by injection e842)
          have HR842_7:=Aside0.mk hi842_7
          have HC842_7:=Aside0.mk hl842_7
          clear hi842_7 hl842_7
          replace p842:=eq_true p842
          replace q842:=eq_true q842
          have ea_:=Option.some.inj (hx841_7.symm.trans hx842_7)
          injection ea_ with ea_ en_ ec_
          subst ea_
          subst ec_
          clear en_
          have p843 : 0 ≤ (x5_1 : Int):=of_decide_eq_true (by first | (with_reducible assumption) | assumption)
          have q843 : x5_1 < (l0.length : Int):=of_decide_eq_true (by first | (with_reducible assumption) | assumption)
          obtain ⟨ad843,A843_7,c843_7,e843,hx843_0,hx843_1,hx843_2,hx843_3,hx843_4,hx843_5,hx843_6,hx843_7,hl843_7,hi843_7⟩:=at_T87 HR0.out x5_1 p843 q843
          obtain rfl : ad841 = ad843:=(by injection e843)
          have HR843_7:=Aside0.mk hi843_7
          have HC843_7:=Aside0.mk hl843_7
          clear hi843_7 hl843_7
          replace p843:=eq_true p843
          replace q843:=eq_true q843
          have ea_:=Option.some.inj (hx841_7.symm.trans hx843_7)
          injection ea_ with ea_ en_ ec_
          subst ea_
          subst ec_
          clear en_
          have p844 : 0 ≤ (x5_1 : Int):=of_decide_eq_true (by first | (with_reducible assumption) | assumption)
          have q844 : x5_1 < (l0.length : Int):=of_decide_eq_true (by first | (with_reducible assumption) | assumption)
          obtain ⟨ad844,A844_7,c844_7,e844,hx844_0,hx844_1,hx844_2,hx844_3,hx844_4,hx844_5,hx844_6,hx844_7,hl844_7,hi844_7⟩:=at_T87 HR0.out x5_1 p844 q844
          obtain rfl : ad841 = ad844:=(by injection e844)
          have HR844_7:=Aside0.mk hi844_7
          have HC844_7:=Aside0.mk hl844_7
          clear hi844_7 hl844_7
          replace p844:=eq_true p844
          replace q844:=eq_true q844
          have ea_:=Option.some.inj (hx841_7.symm.trans hx844_7)
          injection ea_ with ea_ en_ ec_
          subst ea_
          subst ec_
          clear en_
          have p845 : 0 ≤ (x5_1 : Int):=of_decide_eq_true (by first | (with_reducible assumption) | assumption)
          have q845 : x5_1 < (l0.length : Int):=of_decide_eq_true (by first | (with_reducible assumption) | assumption)
          obtain ⟨ad845,A845_7,c845_7,e845,hx845_0,hx845_1,hx845_2,hx845_3,hx845_4,hx845_5,hx845_6,hx845_7,hl845_7,hi845_7⟩:=at_T87 HR0.out x5_1 p845 q845
          obtain rfl : ad841 = ad845:=(by injection e845)
          have HR845_7:=Aside0.mk hi845_7
          have HC845_7:=Aside0.mk hl845_7
          clear hi845_7 hl845_7
          replace p845:=eq_true p845
          replace q845:=eq_true q845
          have ea_:=Option.some.inj (hx841_7.symm.trans hx845_7)
          injection ea_ with ea_ en_ ec_
          subst ea_
          subst ec_
          clear en_
          go_wp2
          go_ret
          exact ⟨by first | rfl | (simp;done) | (simp [*];done),by repeat (first | exact Drawn0.refl _ | apply Drawn0.step)⟩
       ·rw [if_neg c7] at H
        have c7b0 : (((rd_T87 l0 x5_1).f2) == (wrap64 ((wrap64 (x1_1 + 1)) + 1))) = false:=beq_eq_false_iff_ne.mpr c7
        have c7b1 : (((rd_T87 l0 x5_1).f2) != (wrap64 ((wrap64 (x1_1 + 1)) + 1))) = true:=bne_iff_ne.mpr c7
        obtain rfl:=Option.some.inj H
        have p841 : 0 ≤ (x5_1 : Int):=of_decide_eq_true (by first | (with_reducible assumption) | assumption)
        have q841 : x5_1 < (l0.length : Int):=of_decide_eq_true (by first | (with_reducible assumption) | assumption)
        obtain ⟨ad841,A841_7,c841_7,e841,hx841_0,hx841_1,hx841_2,hx841_3,hx841_4,hx841_5,hx841_6,hx841_7,hl841_7,hi841_7⟩:=at_T87 HR0.out x5_1 p841 q841
        cases e841
        have HR841_7:=Aside0.mk hi841_7
        have HC841_7:=Aside0.mk hl841_7
        clear hi841_7 hl841_7
        replace p841:=eq_true p841
        replace q841:=eq_true q841
        have p842 : 0 ≤ (x5_1 : Int):=of_decide_eq_true (by first | (with_reducible assumption) | assumption)
        have q842 : x5_1 < (l0.length : Int):=of_decide_eq_true (by first | (with_reducible assumption) | assumption)
        obtain ⟨ad842,A842_7,c842_7,e842,hx842_0,hx842_1,hx842_2,hx842_3,hx842_4,hx842_5,hx842_6,hx842_7,hl842_7,hi842_7⟩:=at_T87 HR0.out x5_1 p842 q842
        obtain rfl : ad841 = ad842:=(by injection e842)
        have HR842_7:=Aside0.mk hi842_7
        have HC842_7:=Aside0.mk hl842_7
        clear hi842_7 hl842_7
        replace p842:=eq_true p842
        replace q842:=eq_true q842
        have ea_:=Option.some.inj (hx841_7.symm.trans hx842_7)
        injection ea_ with ea_ en_ ec_
        subst ea_
        subst ec_
        clear en_
        have p843 : 0 ≤ (x5_1 : Int):=of_decide_eq_true (by first | (with_reducible assumption) | assumption)
        have q843 : x5_1 < (l0.length : Int):=of_decide_eq_true (by first | (with_reducible assumption) | assumption)
        obtain ⟨ad843,A843_7,c843_7,e843,hx843_0,hx843_1,hx843_2,hx843_3,hx843_4,hx843_5,hx843_6,hx843_7,hl843_7,hi843_7⟩:=at_T87 HR0.out x5_1 p843 q843
        obtain rfl : ad841 = ad843:=(by injection e843)
        have HR843_7:=Aside0.mk hi843_7
        have HC843_7:=Aside0.mk hl843_7
        clear hi843_7 hl843_7
        replace p843:=eq_true p843
        replace q843:=eq_true q843
        have ea_:=Option.some.inj (hx841_7.symm.trans hx843_7)
        injection ea_ with ea_ en_ ec_
        subst ea_
        subst ec_
        clear en_
        go_wp2
        go_ret
        exact ⟨by first | rfl | (simp;done) | (simp [*];done),by repeat (first | exact Drawn0.refl _ | apply Drawn0.step)⟩
      ·rw [if_neg c6] at H
       have c6b0 : (((rd_T87 l0 x5_1).f1) == (wrap64 (x1_1 + 1))) = false:=beq_eq_false_iff_ne.mpr c6
       have c6b1 : (((rd_T87 l0 x5_1).f1) != (wrap64 (x1_1 + 1))) = true:=bne_iff_ne.mpr c6
       obtain rfl:=Option.some.inj H
       have p841 : 0 ≤ (x5_1 : Int):=of_decide_eq_true (by first | (with_reducible assumption) | assumption)
       have q841 : x5_1 < (l0.length : Int):=of_decide_eq_true (by first | (with_reducible assumption) | assumption)
       obtain ⟨ad841,A841_7,c841_7,e841,hx841_0,hx841_1,hx841_2,hx841_3,hx841_4,hx841_5,hx841_6,hx841_7,hl841_7,hi841_7⟩:=at_T87 HR0.out x5_1 p841 q841
       cases e841
       have HR841_7:=Aside0.mk hi841_7
       have HC841_7:=Aside0.mk hl841_7
       clear hi841_7 hl841_7
       replace p841:=eq_true p841
       replace q841:=eq_true q841
       have p842 : 0 ≤ (x5_1 : Int):=of_decide_eq_true (by first | (with_reducible assumption) | assumption)
       have q842 : x5_1 < (l0.length : Int):=of_decide_eq_true (by first | (with_reducible assumption) | assumption)
       obtain ⟨ad842,A842_7,c842_7,e842,hx842_0,hx842_1,hx842_2,hx842_3,hx842_4,hx842_5,hx842_6,hx842_7,hl842_7,hi842_7⟩:=at_T87 HR0.out x5_1 p842 q842
       obtain rfl : ad841 = ad842:=(by injection e842)
       have HR842_7:=Aside0.mk hi842_7
       have HC842_7:=Aside0.mk hl842_7
       clear hi842_7 hl842_7
       replace p842:=eq_true p842
       replace q842:=eq_true q842
       have ea_:=Option.some.inj (hx841_7.symm.trans hx842_7)
       injection ea_ with ea_ en_ ec_
       subst ea_
       subst ec_
       clear en_
       go_wp2
       go_ret
       exact ⟨by first | rfl | (simp;done) | (simp [*];done),by repeat (first | exact Drawn0.refl _ | apply Drawn0.step)⟩
     ·rw [if_neg c5] at H
      have c5b0 : (((rd_T87 l0 x5_1).f0) == x1_1) = false:=beq_eq_false_iff_ne.mpr c5
      have c5b1 : (((rd_T87 l0 x5_1).f0) != x1_1) = true:=bne_iff_ne.mpr c5
      obtain rfl:=Option.some.inj H
      have p841 : 0 ≤ (x5_1 : Int):=of_decide_eq_true (by first | (with_reducible assumption) | assumption)
      have q841 : x5_1 < (l0.length : Int):=of_decide_eq_true (by first | (with_reducible assumption) | assumption)
      obtain ⟨ad841,A841_7,c841_7,e841,hx841_0,hx841_1,hx841_2,hx841_3,hx841_4,hx841_5,hx841_6,hx841_7,hl841_7,hi841_7⟩:=at_T87 HR0.out x5_1 p841 q841
      cases e841
      have HR841_7:=Aside0.mk hi841_7
      have HC841_7:=Aside0.mk hl841_7
      clear hi841_7 hl841_7
      replace p841:=eq_true p841
      replace q841:=eq_true q841
      go_wp2
      go_ret
      exact ⟨by first | rfl | (simp;done) | (simp [*];done),by repeat (first | exact Drawn0.refl _ | apply Drawn0.step)⟩
    ·rw [if_neg c4] at H
     exact absurd H (by simp)
   ·rw [if_neg c3] at H
    have c3b0 : decide (x5_1 < (l0.length : Int)) = false:=decide_eq_false c3
    clear c3
    obtain rfl:=Option.some.inj H
    go_wp2
    go_ret
    exact ⟨by first | rfl | (simp;done) | (simp [*];done),by repeat (first | exact Drawn0.refl _ | apply Drawn0.step)⟩
end Go.Proofs.Ytcaefabbcjlkdaa.P
namespace Go.Proofs.Ytcaefabbcjlkdaa.P
open Go Go.RowKit Go.Proofs.YtcaefabbcjlkdaaW.PrintWords Go.Proofs.YtcaefabbcjlkdaaW.PrintLast Go.Proofs.YtcaefabbcjlkdaaW.PrintMore
set_option linter.unusedVariables false
set_option linter.unusedSimpArgs false
def mkBox (k : Int) (x : S87) : S87:=⟨k,k + 1,k + 2,⟨tm (k + 3),(k + 4) % 4294967296,tm (k + 5),k + 6,marks (k + 7) x.f3.f4.length⟩⟩
def offBox (xs : List S87) : Nat → Int
 | 0 => 0
 | i + 1 => offBox xs i + 7 + ((xs.getD i z87).f3.f4.length : Int)
def markBoxs (q : Int) (xs : List S87) : List S87:=(List.range xs.length).map (fun i => mkBox (q + offBox xs i) (xs.getD i z87))
theorem markBoxs_len (q : Int) (xs : List S87) : (markBoxs q xs).length = xs.length:=by simp [markBoxs]
theorem markBoxs_get (q : Int) (xs : List S87) (i : Nat) (hi : i < xs.length) : (markBoxs q xs)[i]? = some (mkBox (q + offBox xs i) (xs.getD i z87)):=by
 simp [markBoxs,List.getElem?_range,hi]
theorem offBox_nn (xs : List S87) : ∀ i,0 ≤ offBox xs i:=by
 intro i
 induction i with
 | zero => exact Int.le_refl _
 | succ i ih => rw [offBox];omega
theorem offBox_mono (xs : List S87) (i d : Nat) : offBox xs i ≤ offBox xs (i + d):=by
 induction d with
 | zero => exact Int.le_refl _
 | succ d ih => rw [← Nat.add_assoc,offBox];omega
theorem offBox_le (xs : List S87) {i n : Nat} (h : i ≤ n) : offBox xs i ≤ offBox xs n:=by
 have:=offBox_mono xs i (n - i)
 rwa [Nat.add_sub_cancel' h] at this
set_option maxRecDepth 100000 in
set_option maxHeartbeats 8000000 in
theorem markBoxs_v (w0 w : World) (ok : Nat → Prop) (v : Value) (xs : List S87) (q : Int) (hB : Below w0.heap.size w0 w) (HS : Kd.S k87 87 w w0.heap.size ok v xs) (hq : 0 ≤ q) (hb : q + offBox xs xs.length ≤ 50000000) (hl : xs.length ≤ 10000000) (hd : ∀ x ∈ xs,x.f3.f4.length ≤ 10000000) :
  Calls Try.prog 69 #[v, .int .i64 q] w fun e w' => e = .returned (.int .i64 (q + offBox xs xs.length)) ∧ Kd.S k87 87 w' w0.heap.size ok v (markBoxs q xs) ∧ Below w0.heap.size w0 w' ∧ Tch w w' ok:=by
 have HSV:=Lib.hid HS
 have HB:=Lib.hid hB
 have HQ:=Lib.hid hq
 have HBD:=Lib.hid hb
 have HL:=Lib.hid hl
 have HD:=Lib.hid hd
 clear hB hq hb hl hd HS
 obtain ⟨A,cap,rfl⟩:=Kd.S_slice HSV.out
 go_enter Try.func69,Try.ntmps69
 go_upto_region 2 with (fail)
 go_loopw [1,5] (fun v1 v5 wr => ∃ (i : Nat) (k : Int) (ys : List S87),i ≤ xs.length ∧ v5 = .int .i64 i ∧ v1 = .int .i64 k ∧ Aside0 (k = q + offBox xs i) ∧ Aside0 (Mk (markBoxs q xs) xs i ys) ∧ Aside0 (Kd.S k87 87 wr w0.heap.size ok (.slice A xs.length cap) ys) ∧ Aside0 (Below w0.heap.size w0 wr) ∧ Aside0 (Tch w wr ok)) (fun _ v5 _ => xs.length - (intOf v5).toNat)
 case atStart => exact ⟨0,q,xs,Nat.zero_le _,rfl,rfl,⟨by simp [offBox]⟩,⟨Mk.start (markBoxs_len q xs)⟩,⟨HSV.out⟩,⟨HB.out⟩,⟨Tch.refl _ _⟩⟩
 case round =>
  obtain ⟨i,k,ys,hi,rfl,rfl,HKK,HMK,HSR,HBR,HTR⟩:=hrel
  by_cases hlt : i < xs.length
  ·have b2 : decide ((i : Int) < (xs.length : Int)) = true:=decide_eq_true (by omega)
   have p5 : (0 ≤ (i : Int)) = True:=eq_true (by omega)
   have q5 : ((i : Int) < (xs.length : Int)) = True:=eq_true (by omega)
   have qn : (i < xs.length) = True:=eq_true hlt
   have hn : wrap64 ((i : Int) + 1) = (i : Int) + 1:=by have:=HL.out;unfold wrap64;omega
   have HLT:=Lib.hid hlt
   have HI:=Lib.hid hi
   have HN:=Lib.hid hn
   obtain ⟨g,cp,e,_⟩:=Kd.S_form HSR.out (by have h1:=HMK.out.len;omega)
   injection e with e1 e2 e3
   subst e1
   clear e2 e3
   clear hlt hi
   obtain ⟨y,hy⟩ : ∃ y,y = xs.getD i z87:=⟨_,rfl⟩
   have HY : Hid (ys.getD i z87 = y):=Lib.hid (by rw [hy];exact HMK.out.at _)
   have HYX:=Lib.hid hy
   have HYL : Hid (y.f3.f4.length ≤ 10000000):=Lib.hid (by rw [hy];refine HD.out _ (List.mem_of_getElem? (i:=i) ?_);rw [List.getD_eq_getElem?_getD,List.getElem?_eq_getElem HLT.out];rfl)
   have HQB : Hid (0 ≤ k ∧ k + 7 + (y.f3.f4.length : Int) ≤ 50000000 ∧ offBox xs (i + 1) = offBox xs i + 7 + (y.f3.f4.length : Int)):=Lib.hid (by
    have h1:=HKK.out;have h2:=HBD.out;have h3:=HQ.out;have h4:=offBox_nn xs i
    have h5:=offBox_le xs (i:=i + 1) (n:=xs.length) HLT.out
    have h6 : offBox xs (i + 1) = offBox xs i + 7 + (y.f3.f4.length : Int):=by rw [offBox,hy]
    exact ⟨by omega,by omega,h6⟩)
   clear hy
   have HK1 : Hid ((wrap64 (k + 1)) = k + 1):=Lib.hid (by have h1:=HQB.out;unfold wrap64;omega)
   have HK2 : Hid ((wrap64 ((wrap64 (k + 1)) + 1)) = k + 2):=Lib.hid (by rw [HK1.out];have h1:=HQB.out;unfold wrap64;omega)
   have HK3 : Hid ((wrap64 ((wrap64 ((wrap64 (k + 1)) + 1)) + 1)) = k + 3):=Lib.hid (by rw [HK2.out];have h1:=HQB.out;unfold wrap64;omega)
   have HK4 : Hid ((wrap64 ((wrap64 ((wrap64 ((wrap64 (k + 1)) + 1)) + 1)) + 1)) = k + 4):=Lib.hid (by rw [HK3.out];have h1:=HQB.out;unfold wrap64;omega)
   have HK5 : Hid ((wrap64 ((wrap64 ((wrap64 ((wrap64 ((wrap64 (k + 1)) + 1)) + 1)) + 1)) + 1)) = k + 5):=Lib.hid (by rw [HK4.out];have h1:=HQB.out;unfold wrap64;omega)
   have HK6 : Hid ((wrap64 ((wrap64 ((wrap64 ((wrap64 ((wrap64 ((wrap64 (k + 1)) + 1)) + 1)) + 1)) + 1)) + 1)) = k + 6):=Lib.hid (by rw [HK5.out];have h1:=HQB.out;unfold wrap64;omega)
   have HK7 : Hid ((wrap64 ((wrap64 ((wrap64 ((wrap64 ((wrap64 ((wrap64 ((wrap64 (k + 1)) + 1)) + 1)) + 1)) + 1)) + 1)) + 1)) = k + 7):=Lib.hid (by rw [HK6.out];have h1:=HQB.out;unfold wrap64;omega)
   have HS0:=HSR
   have HB0:=HBR
   have HT0:=HTR
   go_upto_region 18 with (first | ((with_reducible refine gate_store (t:=3) (p:=16) rfl ?_);refine S_put k87 (w0:=w0) w0.heap.size rfl rfl rfl (e:=87) (i:=i) (j:=0) (xs:=ys) (z:=z87) (x':=({ y with f0:=k } : S87)) (u := .int .i64 k) rfl (by rfl) rfl rfl (by kernel_rfl) rfl HS0.out HLT.out (by decide) (by rw [HY.out];intro oki c hc;obtain ⟨v7,rfl,g7⟩:=k87_openM hc;exact k87_mkM _ _ _ ({ y with f0:=k } : S87) g7) HB0.out ?_;intro w1 hs hb hg;have HS1:=Lib.hid hs;have HB1:=Lib.hid hb;have HT1:=Lib.hid (HT0.out.grown hg (fun k e => by injection e with e;rw [← e];exact .inl (S_own_ok HSV.out rfl)));clear hs hb hg) | ((with_reducible refine gate_store (t:=3) (p:=23) rfl ?_);refine S_put k87 (w0:=w0) w0.heap.size rfl rfl rfl (e:=87) (i:=i) (j:=1) (xs:=(ys.set i ({ y with f0:=k } : S87))) (z:=z87) (x':=({ y with f0:=k,f1:=(wrap64 (k + 1)) } : S87)) (u := .int .i64 (wrap64 (k + 1))) rfl (by rfl) rfl rfl (by kernel_rfl) rfl HS1.out HLT.out (by decide) (by rw [getD_set ys i _ _ (by rw [HMK.out.len];exact HLT.out)];intro oki c hc;obtain ⟨v7,rfl,g7⟩:=k87_openM hc;exact k87_mkM _ _ _ ({ y with f0:=k,f1:=(wrap64 (k + 1)) } : S87) g7) HB1.out ?_;intro w2 hs hb hg;rw [List.set_set] at hs;have HS2:=Lib.hid hs;have HB2:=Lib.hid hb;have HT2:=Lib.hid (HT1.out.grown hg (fun k e => by injection e with e;rw [← e];exact .inl (S_own_ok HSV.out rfl)));clear hs hb hg) | ((with_reducible refine gate_store (t:=3) (p:=30) rfl ?_);refine S_put k87 (w0:=w0) w0.heap.size rfl rfl rfl (e:=87) (i:=i) (j:=2) (xs:=(ys.set i ({ y with f0:=k,f1:=(wrap64 (k + 1)) } : S87))) (z:=z87) (x':=({ y with f0:=k,f1:=(wrap64 (k + 1)),f2:=(wrap64 ((wrap64 (k + 1)) + 1)) } : S87)) (u := .int .i64 (wrap64 ((wrap64 (k + 1)) + 1))) rfl (by rfl) rfl rfl (by kernel_rfl) rfl HS2.out HLT.out (by decide) (by rw [getD_set ys i _ _ (by rw [HMK.out.len];exact HLT.out)];intro oki c hc;obtain ⟨v7,rfl,g7⟩:=k87_openM hc;exact k87_mkM _ _ _ ({ y with f0:=k,f1:=(wrap64 (k + 1)),f2:=(wrap64 ((wrap64 (k + 1)) + 1)) } : S87) g7) HB2.out ?_;intro w3 hs hb hg;rw [List.set_set] at hs;have HS3:=Lib.hid hs;have HB3:=Lib.hid hb;have HT3:=Lib.hid (HT2.out.grown hg (fun k e => by injection e with e;rw [← e];exact .inl (S_own_ok HSV.out rfl)));clear hs hb hg) | ((with_reducible refine gate_store (t:=4) (p:=40) rfl ?_);refine S_put k87 (w0:=w0) w0.heap.size rfl rfl rfl (e:=87) (i:=i) (j:=3) (xs:=(ys.set i ({ y with f0:=k,f1:=(wrap64 (k + 1)),f2:=(wrap64 ((wrap64 (k + 1)) + 1)) } : S87))) (z:=z87) (x':=({ y with f0:=k,f1:=(wrap64 (k + 1)),f2:=(wrap64 ((wrap64 (k + 1)) + 1)),f3 := { y.f3 with f0:=Int.tmod (wrap64 ((wrap64 ((wrap64 (k + 1)) + 1)) + 1)) 3 == 0 } } : S87)) (u := .bool (Int.tmod (wrap64 ((wrap64 ((wrap64 (k + 1)) + 1)) + 1)) 3 == 0)) rfl (by rfl) rfl rfl (by kernel_rfl) rfl HS3.out HLT.out (by decide) (by rw [getD_set ys i _ _ (by rw [HMK.out.len];exact HLT.out)];intro oki c hc;obtain ⟨v7,rfl,g7⟩:=k87_openM hc;exact k87_mkM _ _ _ ({ y with f0:=k,f1:=(wrap64 (k + 1)),f2:=(wrap64 ((wrap64 (k + 1)) + 1)),f3 := { y.f3 with f0:=Int.tmod (wrap64 ((wrap64 ((wrap64 (k + 1)) + 1)) + 1)) 3 == 0 } } : S87) g7) HB3.out ?_;intro w4 hs hb hg;rw [List.set_set] at hs;have HS4:=Lib.hid hs;have HB4:=Lib.hid hb;have HT4:=Lib.hid (HT3.out.grown hg (fun k e => by injection e with e;rw [← e];exact .inl (S_own_ok HSV.out rfl)));clear hs hb hg) | ((with_reducible refine gate_store (t:=43) (p:=49) rfl ?_);refine S_put k87 (w0:=w0) w0.heap.size rfl rfl rfl (e:=87) (i:=i) (j:=4) (xs:=(ys.set i ({ y with f0:=k,f1:=(wrap64 (k + 1)),f2:=(wrap64 ((wrap64 (k + 1)) + 1)),f3 := { y.f3 with f0:=Int.tmod (wrap64 ((wrap64 ((wrap64 (k + 1)) + 1)) + 1)) 3 == 0 } } : S87))) (z:=z87) (x':=({ y with f0:=k,f1:=(wrap64 (k + 1)),f2:=(wrap64 ((wrap64 (k + 1)) + 1)),f3 := { y.f3 with f0:=Int.tmod (wrap64 ((wrap64 ((wrap64 (k + 1)) + 1)) + 1)) 3 == 0,f1:=(wrap64 ((wrap64 ((wrap64 ((wrap64 (k + 1)) + 1)) + 1)) + 1)) % 4294967296 } } : S87)) (u := .int .u32 ((wrap64 ((wrap64 ((wrap64 ((wrap64 (k + 1)) + 1)) + 1)) + 1)) % 4294967296)) rfl (by rfl) rfl rfl (by kernel_rfl) rfl HS4.out HLT.out (by decide) (by rw [getD_set ys i _ _ (by rw [HMK.out.len];exact HLT.out)];intro oki c hc;obtain ⟨v7,rfl,g7⟩:=k87_openM hc;exact k87_mkM _ _ _ ({ y with f0:=k,f1:=(wrap64 (k + 1)),f2:=(wrap64 ((wrap64 (k + 1)) + 1)),f3 := { y.f3 with f0:=Int.tmod (wrap64 ((wrap64 ((wrap64 (k + 1)) + 1)) + 1)) 3 == 0,f1:=(wrap64 ((wrap64 ((wrap64 ((wrap64 (k + 1)) + 1)) + 1)) + 1)) % 4294967296 } } : S87) g7) HB4.out ?_;intro w5 hs hb hg;rw [List.set_set] at hs;have HS5:=Lib.hid hs;have HB5:=Lib.hid hb;have HT5:=Lib.hid (HT4.out.grown hg (fun k e => by injection e with e;rw [← e];exact .inl (S_own_ok HSV.out rfl)));clear hs hb hg) | ((with_reducible refine gate_store (t:=4) (p:=59) rfl ?_);refine S_put k87 (w0:=w0) w0.heap.size rfl rfl rfl (e:=87) (i:=i) (j:=5) (xs:=(ys.set i ({ y with f0:=k,f1:=(wrap64 (k + 1)),f2:=(wrap64 ((wrap64 (k + 1)) + 1)),f3 := { y.f3 with f0:=Int.tmod (wrap64 ((wrap64 ((wrap64 (k + 1)) + 1)) + 1)) 3 == 0,f1:=(wrap64 ((wrap64 ((wrap64 ((wrap64 (k + 1)) + 1)) + 1)) + 1)) % 4294967296 } } : S87))) (z:=z87) (x':=({ y with f0:=k,f1:=(wrap64 (k + 1)),f2:=(wrap64 ((wrap64 (k + 1)) + 1)),f3 := { y.f3 with f0:=Int.tmod (wrap64 ((wrap64 ((wrap64 (k + 1)) + 1)) + 1)) 3 == 0,f1:=(wrap64 ((wrap64 ((wrap64 ((wrap64 (k + 1)) + 1)) + 1)) + 1)) % 4294967296,f2:=Int.tmod (wrap64 ((wrap64 ((wrap64 ((wrap64 ((wrap64 (k + 1)) + 1)) + 1)) + 1)) + 1)) 3 == 0 } } : S87)) (u := .bool (Int.tmod (wrap64 ((wrap64 ((wrap64 ((wrap64 ((wrap64 (k + 1)) + 1)) + 1)) + 1)) + 1)) 3 == 0)) rfl (by rfl) rfl rfl (by kernel_rfl) rfl HS5.out HLT.out (by decide) (by rw [getD_set ys i _ _ (by rw [HMK.out.len];exact HLT.out)];intro oki c hc;obtain ⟨v7,rfl,g7⟩:=k87_openM hc;exact k87_mkM _ _ _ ({ y with f0:=k,f1:=(wrap64 (k + 1)),f2:=(wrap64 ((wrap64 (k + 1)) + 1)),f3 := { y.f3 with f0:=Int.tmod (wrap64 ((wrap64 ((wrap64 (k + 1)) + 1)) + 1)) 3 == 0,f1:=(wrap64 ((wrap64 ((wrap64 ((wrap64 (k + 1)) + 1)) + 1)) + 1)) % 4294967296,f2:=Int.tmod (wrap64 ((wrap64 ((wrap64 ((wrap64 ((wrap64 (k + 1)) + 1)) + 1)) + 1)) + 1)) 3 == 0 } } : S87) g7) HB5.out ?_;intro w6 hs hb hg;rw [List.set_set] at hs;have HS6:=Lib.hid hs;have HB6:=Lib.hid hb;have HT6:=Lib.hid (HT5.out.grown hg (fun k e => by injection e with e;rw [← e];exact .inl (S_own_ok HSV.out rfl)));clear hs hb hg) | ((with_reducible refine gate_store (t:=3) (p:=67) rfl ?_);refine S_put k87 (w0:=w0) w0.heap.size rfl rfl rfl (e:=87) (i:=i) (j:=6) (xs:=(ys.set i ({ y with f0:=k,f1:=(wrap64 (k + 1)),f2:=(wrap64 ((wrap64 (k + 1)) + 1)),f3 := { y.f3 with f0:=Int.tmod (wrap64 ((wrap64 ((wrap64 (k + 1)) + 1)) + 1)) 3 == 0,f1:=(wrap64 ((wrap64 ((wrap64 ((wrap64 (k + 1)) + 1)) + 1)) + 1)) % 4294967296,f2:=Int.tmod (wrap64 ((wrap64 ((wrap64 ((wrap64 ((wrap64 (k + 1)) + 1)) + 1)) + 1)) + 1)) 3 == 0 } } : S87))) (z:=z87) (x':=({ y with f0:=k,f1:=(wrap64 (k + 1)),f2:=(wrap64 ((wrap64 (k + 1)) + 1)),f3 := { y.f3 with f0:=Int.tmod (wrap64 ((wrap64 ((wrap64 (k + 1)) + 1)) + 1)) 3 == 0,f1:=(wrap64 ((wrap64 ((wrap64 ((wrap64 (k + 1)) + 1)) + 1)) + 1)) % 4294967296,f2:=Int.tmod (wrap64 ((wrap64 ((wrap64 ((wrap64 ((wrap64 (k + 1)) + 1)) + 1)) + 1)) + 1)) 3 == 0,f3:=(wrap64 ((wrap64 ((wrap64 ((wrap64 ((wrap64 ((wrap64 (k + 1)) + 1)) + 1)) + 1)) + 1)) + 1)) } } : S87)) (u := .int .i64 (wrap64 ((wrap64 ((wrap64 ((wrap64 ((wrap64 ((wrap64 (k + 1)) + 1)) + 1)) + 1)) + 1)) + 1))) rfl (by rfl) rfl rfl (by kernel_rfl) rfl HS6.out HLT.out (by decide) (by rw [getD_set ys i _ _ (by rw [HMK.out.len];exact HLT.out)];intro oki c hc;obtain ⟨v7,rfl,g7⟩:=k87_openM hc;exact k87_mkM _ _ _ ({ y with f0:=k,f1:=(wrap64 (k + 1)),f2:=(wrap64 ((wrap64 (k + 1)) + 1)),f3 := { y.f3 with f0:=Int.tmod (wrap64 ((wrap64 ((wrap64 (k + 1)) + 1)) + 1)) 3 == 0,f1:=(wrap64 ((wrap64 ((wrap64 ((wrap64 (k + 1)) + 1)) + 1)) + 1)) % 4294967296,f2:=Int.tmod (wrap64 ((wrap64 ((wrap64 ((wrap64 ((wrap64 (k + 1)) + 1)) + 1)) + 1)) + 1)) 3 == 0,f3:=(wrap64 ((wrap64 ((wrap64 ((wrap64 ((wrap64 ((wrap64 (k + 1)) + 1)) + 1)) + 1)) + 1)) + 1)) } } : S87) g7) HB6.out ?_;intro w7 hs hb hg;rw [List.set_set] at hs;have HS7:=Lib.hid hs;have HB7:=Lib.hid hb;have HT7:=Lib.hid (HT6.out.grown hg (fun k e => by injection e with e;rw [← e];exact .inl (S_own_ok HSV.out rfl)));clear hs hb hg))
   obtain ⟨oki,cc,hcl,hM,hcc,hoki,hback⟩:=Kd.S_borrow HS7.out z87 (i : Int) (by omega) (by have:=HLT.out;omega)
   rw [Int.toNat_natCast,getD_set ys i _ _ (by rw [HMK.out.len];exact HLT.out)] at hM
   obtain ⟨vd,rfl,gd⟩:=k87_openM hM
   have hcd:=hcc 7 _ rfl
   rw [Int.toNat_natCast,add_plain] at hcd
   have hc7 : w7.cell? ⟨g,i * 8 + 3 + 4,none⟩ = some vd:=hcd
   have GD:=Lib.hid gd
   go_wp2_with (first | (go_at_call 99;refine (markByteS_v w0 w7 oki vd y.f3.f4 (wrap64 ((wrap64 ((wrap64 ((wrap64 ((wrap64 ((wrap64 ((wrap64 (k + 1)) + 1)) + 1)) + 1)) + 1)) + 1)) + 1)) HB7.out GD.out HYL.out (by have h1:=HQB.out;have h2:=HK7.out;omega) (by have h1:=HQB.out;have h2:=HK7.out;omega)).mono ?_;rintro e w9 ⟨rfl,hr9,hb9,hg9⟩;have HS9:=Lib.hid (hback hg9 (fun k hk => R_own_ok GD.out hk) (k87_mkM _ _ _ ({ y with f0:=k,f1:=(wrap64 (k + 1)),f2:=(wrap64 ((wrap64 (k + 1)) + 1)),f3 := { y.f3 with f0:=Int.tmod (wrap64 ((wrap64 ((wrap64 (k + 1)) + 1)) + 1)) 3 == 0,f1:=(wrap64 ((wrap64 ((wrap64 ((wrap64 (k + 1)) + 1)) + 1)) + 1)) % 4294967296,f2:=Int.tmod (wrap64 ((wrap64 ((wrap64 ((wrap64 ((wrap64 (k + 1)) + 1)) + 1)) + 1)) + 1)) 3 == 0,f3:=(wrap64 ((wrap64 ((wrap64 ((wrap64 ((wrap64 ((wrap64 (k + 1)) + 1)) + 1)) + 1)) + 1)) + 1)),f4:=marks (wrap64 ((wrap64 ((wrap64 ((wrap64 ((wrap64 ((wrap64 ((wrap64 (k + 1)) + 1)) + 1)) + 1)) + 1)) + 1)) + 1)) y.f3.f4.length } } : S87) hr9));have HB9:=Lib.hid hb9;have HT9 : Hid (Tch w w9 ok):=Lib.hid (HT7.out.grown hg9 (fun k e => .inl (hoki k (R_own_ok GD.out e)).1));clear hr9 hb9 hg9))
   clear hcd hc7 hcc hM hcl hoki hback
   go_roundw
   case rel => exact ⟨i + 1,_,_,HLT.out,by rw [HN.out];rfl,rfl,⟨by have h1:=HQB.out;have h2:=HK7.out;have h3:=HKK.out;rw [h1.2.2];omega⟩,⟨by refine HMK.out.next HLT.out (v:=({ y with f0:=k,f1:=(wrap64 (k + 1)),f2:=(wrap64 ((wrap64 (k + 1)) + 1)),f3 := { y.f3 with f0:=Int.tmod (wrap64 ((wrap64 ((wrap64 (k + 1)) + 1)) + 1)) 3 == 0,f1:=(wrap64 ((wrap64 ((wrap64 ((wrap64 (k + 1)) + 1)) + 1)) + 1)) % 4294967296,f2:=Int.tmod (wrap64 ((wrap64 ((wrap64 ((wrap64 ((wrap64 (k + 1)) + 1)) + 1)) + 1)) + 1)) 3 == 0,f3:=(wrap64 ((wrap64 ((wrap64 ((wrap64 ((wrap64 ((wrap64 (k + 1)) + 1)) + 1)) + 1)) + 1)) + 1)),f4:=marks (wrap64 ((wrap64 ((wrap64 ((wrap64 ((wrap64 ((wrap64 ((wrap64 (k + 1)) + 1)) + 1)) + 1)) + 1)) + 1)) + 1)) y.f3.f4.length } } : S87)) ?_;rw [markBoxs_get _ _ _ HLT.out, ← HYX.out, ← HKK.out];simp only [mkBox,tm];rw [HK7.out,HK6.out,HK5.out,HK4.out,HK3.out,HK2.out,HK1.out]⟩,⟨by have h:=HS9.out;rw [Int.toNat_natCast,List.set_set] at h;exact h⟩,⟨HB9.out⟩,⟨HT9.out⟩⟩
   case measure => rw [HN.out];have:=HLT.out;simp [intOf];omega
  ·have hii : i = xs.length:=by omega
   have b2 : decide ((i : Int) < (xs.length : Int)) = false:=decide_eq_false (by omega)
   have qn : (i < xs.length) = False:=eq_false hlt
   have HE : Hid (ys = markBoxs q xs):=Lib.hid (HMK.out.all (by omega))
   have HKE : Hid (k = q + offBox xs xs.length):=Lib.hid (by rw [HKK.out,hii])
   clear hlt hi hii
   go_wp2_with (fail)
   go_ret
   exact ⟨by rw [HKE.out];rfl,by rw [← HE.out];exact HSR.out,HBR.out,HTR.out⟩
end Go.Proofs.Ytcaefabbcjlkdaa.P
namespace Go.Proofs.Ytcaefabbcjlkdaa.P
open Go.RowKit Go.Proofs.YtcaefabbcjlkdaaW.PrintWords Go.Proofs.YtcaefabbcjlkdaaW.PrintLast Go.Proofs.YtcaefabbcjlkdaaW.PrintMore
set_option linter.unusedVariables false
set_option linter.unusedSimpArgs false
def laws_heldFrameS.l0 : Nat → List (S45) → Int → Int → Option (Int)
 | 0,_,_,_ => none
 | k + 1,x0,x1,x5 => if x5 < (x0.length : Int) then (if 0 ≤ x5 then (if (((rd_T45 x0 x5).f0) != ((Int.tmod x1 3) == 0)) = true then (some (-1)) else (if ((rd_T45 x0 x5).f1) = ((wrap64 (x1 + 1)) % 4294967296) then (if (((rd_T45 x0 x5).f2) != ((Int.tmod (wrap64 ((wrap64 (x1 + 1)) + 1)) 3) == 0)) = true then (some (-1)) else (if ((rd_T45 x0 x5).f3) = (wrap64 ((wrap64 ((wrap64 (x1 + 1)) + 1)) + 1)) then ((laws_heldByteS.f k ((rd_T45 x0 x5).f4) (wrap64 ((wrap64 ((wrap64 ((wrap64 (x1 + 1)) + 1)) + 1)) + 1))).bind fun t855 => (if t855 < 0 then (some (-1)) else (laws_heldFrameS.l0 k x0 t855 (wrap64 (x5 + 1))))) else (some (-1)))) else (some (-1)))) else (none)) else (some x1)
def laws_heldFrameS.f (k : Nat) (l0 : List (S45)) (a1 : Int) : Option (Int):=laws_heldFrameS.l0 k l0 a1 0
set_option maxHeartbeats 8000000 in
set_option maxRecDepth 100000 in
theorem laws_heldFrameS.calls (k : Nat) (A0 : Option Addr) (c0 : Nat) (l0 : List (S45)) (a1 : Int) (r : Int) (w : World) (hr0 : Kd.C k45 w A0 l0.length l0) (hc0 : l0.length ≤ c0) (h : laws_heldFrameS.f k l0 a1 = some r) :
  Calls Try.prog 73 #[.slice A0 l0.length c0, .int .i64 a1] w fun e w' => e = .returned (.int .i64 r) ∧ Drawn0 w w':=by
 have HR0:=Aside0.mk hr0
 have HC0:=Aside0.mk hc0
 clear hr0 hc0
 have H : (laws_heldFrameS.l0 k l0 a1 0) = some r:=h
 clear h
 have H':=Aside0.mk H
 clear H
 go_enter Try.func73,Try.ntmps73
 go_wp2
 go_loopg [1,5] k (fun kq v1 v5 w' => ∃ (x1_1 : Int) (x5_1 : Int),v1 = .int .i64 x1_1 ∧ v5 = .int .i64 x5_1 ∧ Aside0 (laws_heldFrameS.l0 kq l0 x1_1 x5_1 = some r) ∧ Aside0 (kq ≤ k) ∧ Drawn0 w w')
 case atStart => exact ⟨(a1),(0),(by first | rfl | (simp;done) | (simp [*];done)),(by first | rfl | (simp;done) | (simp [*];done)),H',⟨Nat.le_refl _⟩,by repeat (first | exact Drawn0.refl _ | apply Drawn0.step)⟩
 case round =>
  clear H'
  try clear p2
  obtain ⟨x1_1,x5_1,rfl,rfl,HA,HK1,⟨m1,rfl⟩⟩:=hrel
  cases gk with
  | zero => exact absurd HA.out (by simp [laws_heldFrameS.l0])
  | succ k1 =>
   have H:=HA.out
   clear HA
   simp only [laws_heldFrameS.l0] at H
   by_cases c3 : x5_1 < (l0.length : Int)
   ·rw [if_pos c3] at H
    have c3b0 : decide (x5_1 < (l0.length : Int)) = true:=decide_eq_true c3
    clear c3
    by_cases c4 : 0 ≤ x5_1
    ·rw [if_pos c4] at H
     have c4b0 : decide (0 ≤ x5_1) = true:=decide_eq_true c4
     clear c4
     by_cases c5 : (((rd_T45 l0 x5_1).f0) != ((Int.tmod x1_1 3) == 0)) = true
     ·rw [if_pos c5] at H
      have c5b0 : (((rd_T45 l0 x5_1).f0) != ((Int.tmod x1_1 3) == 0)) = true:=c5
      (try (have c5b1 : decide (((rd_T45 l0 x5_1).f0) = ((Int.tmod x1_1 3) == 0)) = false:=by simpa using c5))
      (try (have c5b2 : (((rd_T45 l0 x5_1).f0) == ((Int.tmod x1_1 3) == 0)) = false:=by simpa using c5))
      (try (have c5b3 : ¬ (((rd_T45 l0 x5_1).f0) = ((Int.tmod x1_1 3) == 0)):=by simpa using c5))
      clear c5
      obtain rfl:=Option.some.inj H
      have p850 : 0 ≤ (x5_1 : Int):=of_decide_eq_true (by first | (with_reducible assumption) | assumption)
      have q850 : x5_1 < (l0.length : Int):=of_decide_eq_true (by first | (with_reducible assumption) | assumption)
      obtain ⟨ad850,A850_4,c850_4,e850,hx850_0,hx850_1,hx850_2,hx850_3,hx850_4,hl850_4,hi850_4⟩:=at_T45 HR0.out x5_1 p850 q850
      cases e850
      have HR850_4:=Aside0.mk hi850_4
      have HC850_4:=Aside0.mk hl850_4
      clear hi850_4 hl850_4
      replace p850:=eq_true p850
      replace q850:=eq_true q850
      go_wp2
      go_ret
      exact ⟨by first | rfl | (simp;done) | (simp [*];done),by repeat (first | exact Drawn0.refl _ | apply Drawn0.step)⟩
     ·rw [if_neg c5] at H
      have c5b0 : (((rd_T45 l0 x5_1).f0) != ((Int.tmod x1_1 3) == 0)) = false:=by simpa using c5
      (try (have c5b1 : decide (((rd_T45 l0 x5_1).f0) = ((Int.tmod x1_1 3) == 0)) = true:=by simpa using c5))
      (try (have c5b2 : (((rd_T45 l0 x5_1).f0) == ((Int.tmod x1_1 3) == 0)) = true:=by simpa using c5))
      clear c5
      by_cases c6 : ((rd_T45 l0 x5_1).f1) = ((wrap64 (x1_1 + 1)) % 4294967296)
      ·rw [if_pos c6] at H
       have c6b0 : (((rd_T45 l0 x5_1).f1) == ((wrap64 (x1_1 + 1)) % 4294967296)) = true:=beq_iff_eq.mpr c6
       have c6b1 : (((rd_T45 l0 x5_1).f1) != ((wrap64 (x1_1 + 1)) % 4294967296)) = false:=bne_eq_false_iff_eq.mpr c6
       clear c6
       by_cases c7 : (((rd_T45 l0 x5_1).f2) != ((Int.tmod (wrap64 ((wrap64 (x1_1 + 1)) + 1)) 3) == 0)) = true
       ·rw [if_pos c7] at H
        have c7b0 : (((rd_T45 l0 x5_1).f2) != ((Int.tmod (wrap64 ((wrap64 (x1_1 + 1)) + 1)) 3) == 0)) = true:=c7
        (try (have c7b1 : decide (((rd_T45 l0 x5_1).f2) = ((Int.tmod (wrap64 ((wrap64 (x1_1 + 1)) + 1)) 3) == 0)) = false:=by simpa using c7))
        (try (have c7b2 : (((rd_T45 l0 x5_1).f2) == ((Int.tmod (wrap64 ((wrap64 (x1_1 + 1)) + 1)) 3) == 0)) = false:=by simpa using c7))
        (try (have c7b3 : ¬ (((rd_T45 l0 x5_1).f2) = ((Int.tmod (wrap64 ((wrap64 (x1_1 + 1)) + 1)) 3) == 0)):=by simpa using c7))
        clear c7
        obtain rfl:=Option.some.inj H
        have p850 : 0 ≤ (x5_1 : Int):=of_decide_eq_true (by first | (with_reducible assumption) | assumption)
        have q850 : x5_1 < (l0.length : Int):=of_decide_eq_true (by first | (with_reducible assumption) | assumption)
        obtain ⟨ad850,A850_4,c850_4,e850,hx850_0,hx850_1,hx850_2,hx850_3,hx850_4,hl850_4,hi850_4⟩:=at_T45 HR0.out x5_1 p850 q850
        cases e850
        have HR850_4:=Aside0.mk hi850_4
        have HC850_4:=Aside0.mk hl850_4
        clear hi850_4 hl850_4
        replace p850:=eq_true p850
        replace q850:=eq_true q850
        have p851 : 0 ≤ (x5_1 : Int):=of_decide_eq_true (by first | (with_reducible assumption) | assumption)
        have q851 : x5_1 < (l0.length : Int):=of_decide_eq_true (by first | (with_reducible assumption) | assumption)
        obtain ⟨ad851,A851_4,c851_4,e851,hx851_0,hx851_1,hx851_2,hx851_3,hx851_4,hl851_4,hi851_4⟩:=at_T45 HR0.out x5_1 p851 q851
        obtain rfl : ad850 = ad851:=(by injection e851)
        have HR851_4:=Aside0.mk hi851_4
        have HC851_4:=Aside0.mk hl851_4
        clear hi851_4 hl851_4
        replace p851:=eq_true p851
        replace q851:=eq_true q851
        have ea_:=Option.some.inj (hx850_4.symm.trans hx851_4)
        injection ea_ with ea_ en_ ec_
        subst ea_
        subst ec_
        clear en_
        have p852 : 0 ≤ (x5_1 : Int):=of_decide_eq_true (by first | (with_reducible assumption) | assumption)
        have q852 : x5_1 < (l0.length : Int):=of_decide_eq_true (by first | (with_reducible assumption) | assumption)
        obtain ⟨ad852,A852_4,c852_4,e852,hx852_0,hx852_1,hx852_2,hx852_3,hx852_4,hl852_4,hi852_4⟩:=at_T45 HR0.out x5_1 p852 q852
        obtain rfl : ad850 = ad852:=(by injection e852)
        have HR852_4:=Aside0.mk hi852_4
        have HC852_4:=Aside0.mk hl852_4
        clear hi852_4 hl852_4
        replace p852:=eq_true p852
        replace q852:=eq_true q852
        have ea_:=Option.some.inj (hx850_4.symm.trans hx852_4)
        injection ea_ with ea_ en_ ec_
        subst ea_
        subst ec_
        clear en_
        go_wp2
        go_ret
        exact ⟨by first | rfl | (simp;done) | (simp [*];done),by repeat (first | exact Drawn0.refl _ | apply Drawn0.step)⟩
       ·rw [if_neg c7] at H
        have c7b0 : (((rd_T45 l0 x5_1).f2) != ((Int.tmod (wrap64 ((wrap64 (x1_1 + 1)) + 1)) 3) == 0)) = false:=by simpa using c7
        (try (have c7b1 : decide (((rd_T45 l0 x5_1).f2) = ((Int.tmod (wrap64 ((wrap64 (x1_1 + 1)) + 1)) 3) == 0)) = true:=by simpa using c7))
        (try (have c7b2 : (((rd_T45 l0 x5_1).f2) == ((Int.tmod (wrap64 ((wrap64 (x1_1 + 1)) + 1)) 3) == 0)) = true:=by simpa using c7))
        clear c7
        by_cases c8 : ((rd_T45 l0 x5_1).f3) = (wrap64 ((wrap64 ((wrap64 (x1_1 + 1)) + 1)) + 1))
        ·rw [if_pos c8] at H
         have c8b0 : (((rd_T45 l0 x5_1).f3) == (wrap64 ((wrap64 ((wrap64 (x1_1 + 1)) + 1)) + 1))) = true:=beq_iff_eq.mpr c8
         have c8b1 : (((rd_T45 l0 x5_1).f3) != (wrap64 ((wrap64 ((wrap64 (x1_1 + 1)) + 1)) + 1))) = false:=bne_eq_false_iff_eq.mpr c8
         clear c8
         replace H:=Option.bind_eq_some_iff.mp H
         obtain ⟨t855,A90,H⟩:=H
         replace H : (if t855 < 0 then (some (-1)) else (laws_heldFrameS.l0 k1 l0 t855 (wrap64 (x5_1 + 1)))) = some r:=H
         have A9:=Aside0.mk A90
         clear A90
         by_cases c10 : t855 < 0
         ·rw [if_pos c10] at H
          have c10b0 : decide (t855 < 0) = true:=decide_eq_true c10
          clear c10
          obtain rfl:=Option.some.inj H
          have p850 : 0 ≤ (x5_1 : Int):=of_decide_eq_true (by first | (with_reducible assumption) | assumption)
          have q850 : x5_1 < (l0.length : Int):=of_decide_eq_true (by first | (with_reducible assumption) | assumption)
          obtain ⟨ad850,A850_4,c850_4,e850,hx850_0,hx850_1,hx850_2,hx850_3,hx850_4,hl850_4,hi850_4⟩:=at_T45 HR0.out x5_1 p850 q850
          cases e850
          have HR850_4:=Aside0.mk hi850_4
          have HC850_4:=Aside0.mk hl850_4
          clear hi850_4 hl850_4
          replace p850:=eq_true p850
          replace q850:=eq_true q850
          have p851 : 0 ≤ (x5_1 : Int):=of_decide_eq_true (by first | (with_reducible assumption) | assumption)
          have q851 : x5_1 < (l0.length : Int):=of_decide_eq_true (by first | (with_reducible assumption) | assumption)
          obtain ⟨ad851,A851_4,c851_4,e851,hx851_0,hx851_1,hx851_2,hx851_3,hx851_4,hl851_4,hi851_4⟩:=at_T45 HR0.out x5_1 p851 q851
          obtain rfl : ad850 = ad851:=(by injection e851)
          have HR851_4:=Aside0.mk hi851_4
          have HC851_4:=Aside0.mk hl851_4
          clear hi851_4 hl851_4
          replace p851:=eq_true p851
          replace q851:=eq_true q851
          have ea_:=Option.some.inj (hx850_4.symm.trans hx851_4)
          injection ea_ with ea_ en_ ec_
          subst ea_
          subst ec_
          clear en_
          have p852 : 0 ≤ (x5_1 : Int):=of_decide_eq_true (by first | (with_reducible assumption) | assumption)
          have q852 : x5_1 < (l0.length : Int):=of_decide_eq_true (by first | (with_reducible assumption) | assumption)
          obtain ⟨ad852,A852_4,c852_4,e852,hx852_0,hx852_1,hx852_2,hx852_3,hx852_4,hl852_4,hi852_4⟩:=at_T45 HR0.out x5_1 p852 q852
          obtain rfl : ad850 = ad852:=(by injection e852)
          have HR852_4:=Aside0.mk hi852_4
          have HC852_4:=Aside0.mk hl852_4
          clear hi852_4 hl852_4
          replace p852:=eq_true p852
          replace q852:=eq_true q852
          have ea_:=Option.some.inj (hx850_4.symm.trans hx852_4)
          injection ea_ with ea_ en_ ec_
          subst ea_
          subst ec_
          clear en_
          have p853 : 0 ≤ (x5_1 : Int):=of_decide_eq_true (by first | (with_reducible assumption) | assumption)
          have q853 : x5_1 < (l0.length : Int):=of_decide_eq_true (by first | (with_reducible assumption) | assumption)
          obtain ⟨ad853,A853_4,c853_4,e853,hx853_0,hx853_1,hx853_2,hx853_3,hx853_4,hl853_4,hi853_4⟩:=at_T45 HR0.out x5_1 p853 q853
          obtain rfl : ad850 = ad853:=(by injection e853)
          have HR853_4:=Aside0.mk hi853_4
          have HC853_4:=Aside0.mk hl853_4
          clear hi853_4 hl853_4
          replace p853:=eq_true p853
          replace q853:=eq_true q853
          have ea_:=Option.some.inj (hx850_4.symm.trans hx853_4)
          injection ea_ with ea_ en_ ec_
          subst ea_
          subst ec_
          clear en_
          have p854 : 0 ≤ (x5_1 : Int):=of_decide_eq_true (by first | (with_reducible assumption) | assumption)
          have q854 : x5_1 < (l0.length : Int):=of_decide_eq_true (by first | (with_reducible assumption) | assumption)
          obtain ⟨ad854,A854_4,c854_4,e854,hx854_0,hx854_1,hx854_2,hx854_3,hx854_4,hl854_4,hi854_4⟩:=at_T45 HR0.out x5_1 p854 q854
          obtain rfl : ad850 = ad854:=(by injection e854)
          have HR854_4:=Aside0.mk hi854_4
          have HC854_4:=Aside0.mk hl854_4
          clear hi854_4 hl854_4
          replace p854:=eq_true p854
          replace q854:=eq_true q854
          have ea_:=Option.some.inj (hx850_4.symm.trans hx854_4)
          injection ea_ with ea_ en_ ec_
          subst ea_
          subst ec_
          clear en_
          go_wp2_with (first | ((with_reducible refine gate_callee (f:=100) rfl ?_);refine goesL_ (some 59) rfl rfl Try.func100 (by kernel_rfl) rfl #[.slice A850_4 ((rd_T45 l0 x5_1).f4).length c850_4, .int .i64 (wrap64 ((wrap64 ((wrap64 ((wrap64 (x1_1 + 1)) + 1)) + 1)) + 1))] rfl (by (try simp only [List.map_toArray,List.map_cons,List.map_nil]);first | done | rfl | (simp only [List.length_drop,List.length_take];rfl)) ?_;(with_reducible refine (laws_heldByteS.calls k1 _ _ ((rd_T45 l0 x5_1).f4) (wrap64 ((wrap64 ((wrap64 ((wrap64 (x1_1 + 1)) + 1)) + 1)) + 1)) t855 _ ?side1 ?side2 A9.out).mono ?_);(case side1 => repeat (first | exact HR854_4.out | (with_reducible refine Kd.C_alloc ?_ _) | (with_reducible refine Kd.C_drewN ?_ _) | (with_reducible refine Kd.C_drew ?_)));(case side2 => exact HC854_4.out);rintro e w' ⟨rfl,⟨nd,rfl⟩⟩;refine ⟨_,rfl, ?_⟩))
          go_ret
          exact ⟨by first | rfl | (simp;done) | (simp [*];done),by repeat (first | exact Drawn0.refl _ | apply Drawn0.step)⟩
         ·rw [if_neg c10] at H
          have c10b0 : decide (t855 < 0) = false:=decide_eq_false c10
          clear c10
          have H':=Aside0.mk H
          clear H
          have p850 : 0 ≤ (x5_1 : Int):=of_decide_eq_true (by first | (with_reducible assumption) | assumption)
          have q850 : x5_1 < (l0.length : Int):=of_decide_eq_true (by first | (with_reducible assumption) | assumption)
          obtain ⟨ad850,A850_4,c850_4,e850,hx850_0,hx850_1,hx850_2,hx850_3,hx850_4,hl850_4,hi850_4⟩:=at_T45 HR0.out x5_1 p850 q850
          cases e850
          have HR850_4:=Aside0.mk hi850_4
          have HC850_4:=Aside0.mk hl850_4
          clear hi850_4 hl850_4
          replace p850:=eq_true p850
          replace q850:=eq_true q850
          have p851 : 0 ≤ (x5_1 : Int):=of_decide_eq_true (by first | (with_reducible assumption) | assumption)
          have q851 : x5_1 < (l0.length : Int):=of_decide_eq_true (by first | (with_reducible assumption) | assumption)
          obtain ⟨ad851,A851_4,c851_4,e851,hx851_0,hx851_1,hx851_2,hx851_3,hx851_4,hl851_4,hi851_4⟩:=at_T45 HR0.out x5_1 p851 q851
          obtain rfl : ad850 = ad851:=(by injection e851)
          have HR851_4:=Aside0.mk hi851_4
          have HC851_4:=Aside0.mk hl851_4
          clear hi851_4 hl851_4
          replace p851:=eq_true p851
          replace q851:=eq_true q851
          have ea_:=Option.some.inj (hx850_4.symm.trans hx851_4)
          injection ea_ with ea_ en_ ec_
          subst ea_
          subst ec_
          clear en_
          have p852 : 0 ≤ (x5_1 : Int):=of_decide_eq_true (by first | (with_reducible assumption) | assumption)
          have q852 : x5_1 < (l0.length : Int):=of_decide_eq_true (by first | (with_reducible assumption) | assumption)
          obtain ⟨ad852,A852_4,c852_4,e852,hx852_0,hx852_1,hx852_2,hx852_3,hx852_4,hl852_4,hi852_4⟩:=at_T45 HR0.out x5_1 p852 q852
          obtain rfl : ad850 = ad852:=(by injection e852)
          have HR852_4:=Aside0.mk hi852_4
          have HC852_4:=Aside0.mk hl852_4
          clear hi852_4 hl852_4
          replace p852:=eq_true p852
          replace q852:=eq_true q852
          have ea_:=Option.some.inj (hx850_4.symm.trans hx852_4)
          injection ea_ with ea_ en_ ec_
          subst ea_
          subst ec_
          clear en_
          have p853 : 0 ≤ (x5_1 : Int):=of_decide_eq_true (by first | (with_reducible assumption) | assumption)
          have q853 : x5_1 < (l0.length : Int):=of_decide_eq_true (by first | (with_reducible assumption) | assumption)
          obtain ⟨ad853,A853_4,c853_4,e853,hx853_0,hx853_1,hx853_2,hx853_3,hx853_4,hl853_4,hi853_4⟩:=at_T45 HR0.out x5_1 p853 q853
          obtain rfl : ad850 = ad853:=(by injection e853)
          have HR853_4:=Aside0.mk hi853_4
          have HC853_4:=Aside0.mk hl853_4
          clear hi853_4 hl853_4
          replace p853:=eq_true p853
          replace q853:=eq_true q853
          have ea_:=Option.some.inj (hx850_4.symm.trans hx853_4)
          injection ea_ with ea_ en_ ec_
          subst ea_
          subst ec_
          clear en_
          have p854 : 0 ≤ (x5_1 : Int):=of_decide_eq_true (by first | (with_reducible assumption) | assumption)
          have q854 : x5_1 < (l0.length : Int):=of_decide_eq_true (by first | (with_reducible assumption) | assumption)
          obtain ⟨ad854,A854_4,c854_4,e854,hx854_0,hx854_1,hx854_2,hx854_3,hx854_4,hl854_4,hi854_4⟩:=at_T45 HR0.out x5_1 p854 q854
          obtain rfl : ad850 = ad854:=(by injection e854)
          have HR854_4:=Aside0.mk hi854_4
          have HC854_4:=Aside0.mk hl854_4
          clear hi854_4 hl854_4
          replace p854:=eq_true p854
          replace q854:=eq_true q854
          have ea_:=Option.some.inj (hx850_4.symm.trans hx854_4)
          injection ea_ with ea_ en_ ec_
          subst ea_
          subst ec_
          clear en_
          go_wp2_with (first | ((with_reducible refine gate_callee (f:=100) rfl ?_);refine goesL_ (some 59) rfl rfl Try.func100 (by kernel_rfl) rfl #[.slice A850_4 ((rd_T45 l0 x5_1).f4).length c850_4, .int .i64 (wrap64 ((wrap64 ((wrap64 ((wrap64 (x1_1 + 1)) + 1)) + 1)) + 1))] rfl (by (try simp only [List.map_toArray,List.map_cons,List.map_nil]);first | done | rfl | (simp only [List.length_drop,List.length_take];rfl)) ?_;(with_reducible refine (laws_heldByteS.calls k1 _ _ ((rd_T45 l0 x5_1).f4) (wrap64 ((wrap64 ((wrap64 ((wrap64 (x1_1 + 1)) + 1)) + 1)) + 1)) t855 _ ?side1 ?side2 A9.out).mono ?_);(case side1 => repeat (first | exact HR854_4.out | (with_reducible refine Kd.C_alloc ?_ _) | (with_reducible refine Kd.C_drewN ?_ _) | (with_reducible refine Kd.C_drew ?_)));(case side2 => exact HC854_4.out);rintro e w' ⟨rfl,⟨nd,rfl⟩⟩;refine ⟨_,rfl, ?_⟩))
          go_roundg k1
          case measure => have:=HK1.out;omega
          case rel => exact ⟨(t855),(wrap64 (x5_1 + 1)),(by first | rfl | (simp;done) | (simp [*];done)),(by first | rfl | (simp;done) | (simp [*];done)),H',⟨by have:=HK1.out;omega⟩,by repeat (first | exact Drawn0.refl _ | apply Drawn0.step)⟩
        ·rw [if_neg c8] at H
         have c8b0 : (((rd_T45 l0 x5_1).f3) == (wrap64 ((wrap64 ((wrap64 (x1_1 + 1)) + 1)) + 1))) = false:=beq_eq_false_iff_ne.mpr c8
         have c8b1 : (((rd_T45 l0 x5_1).f3) != (wrap64 ((wrap64 ((wrap64 (x1_1 + 1)) + 1)) + 1))) = true:=bne_iff_ne.mpr c8
         obtain rfl:=Option.some.inj H
         have p850 : 0 ≤ (x5_1 : Int):=of_decide_eq_true (by first | (with_reducible assumption) | assumption)
         have q850 : x5_1 < (l0.length : Int):=of_decide_eq_true (by first | (with_reducible assumption) | assumption)
         obtain ⟨ad850,A850_4,c850_4,e850,hx850_0,hx850_1,hx850_2,hx850_3,hx850_4,hl850_4,hi850_4⟩:=at_T45 HR0.out x5_1 p850 q850
         cases e850
         have HR850_4:=Aside0.mk hi850_4
         have HC850_4:=Aside0.mk hl850_4
         clear hi850_4 hl850_4
         replace p850:=eq_true p850
         replace q850:=eq_true q850
         have p851 : 0 ≤ (x5_1 : Int):=of_decide_eq_true (by first | (with_reducible assumption) | assumption)
         have q851 : x5_1 < (l0.length : Int):=of_decide_eq_true (by first | (with_reducible assumption) | assumption)
         obtain ⟨ad851,A851_4,c851_4,e851,hx851_0,hx851_1,hx851_2,hx851_3,hx851_4,hl851_4,hi851_4⟩:=at_T45 HR0.out x5_1 p851 q851
         obtain rfl : ad850 = ad851:=(by injection e851)
         have HR851_4:=Aside0.mk hi851_4
         have HC851_4:=Aside0.mk hl851_4
         clear hi851_4 hl851_4
         replace p851:=eq_true p851
         replace q851:=eq_true q851
         have ea_:=Option.some.inj (hx850_4.symm.trans hx851_4)
         injection ea_ with ea_ en_ ec_
         subst ea_
         subst ec_
         clear en_
         have p852 : 0 ≤ (x5_1 : Int):=of_decide_eq_true (by first | (with_reducible assumption) | assumption)
         have q852 : x5_1 < (l0.length : Int):=of_decide_eq_true (by first | (with_reducible assumption) | assumption)
         obtain ⟨ad852,A852_4,c852_4,e852,hx852_0,hx852_1,hx852_2,hx852_3,hx852_4,hl852_4,hi852_4⟩:=at_T45 HR0.out x5_1 p852 q852
         obtain rfl : ad850 = ad852:=(by injection e852)
         have HR852_4:=Aside0.mk hi852_4
         have HC852_4:=Aside0.mk hl852_4
         clear hi852_4 hl852_4
         replace p852:=eq_true p852
         replace q852:=eq_true q852
         have ea_:=Option.some.inj (hx850_4.symm.trans hx852_4)
         injection ea_ with ea_ en_ ec_
         subst ea_
         subst ec_
         clear en_
         have p853 : 0 ≤ (x5_1 : Int):=of_decide_eq_true (by first | (with_reducible assumption) | assumption)
         have q853 : x5_1 < (l0.length : Int):=of_decide_eq_true (by first | (with_reducible assumption) | assumption)
         obtain ⟨ad853,A853_4,c853_4,e853,hx853_0,hx853_1,hx853_2,hx853_3,hx853_4,hl853_4,hi853_4⟩:=at_T45 HR0.out x5_1 p853 q853
         obtain rfl : ad850 = ad853:=(by injection e853)
         have HR853_4:=Aside0.mk hi853_4
         have HC853_4:=Aside0.mk hl853_4
         clear hi853_4 hl853_4
         replace p853:=eq_true p853
         replace q853:=eq_true q853
         have ea_:=Option.some.inj (hx850_4.symm.trans hx853_4)
         injection ea_ with ea_ en_ ec_
         subst ea_
         subst ec_
         clear en_
         go_wp2
         go_ret
         exact ⟨by first | rfl | (simp;done) | (simp [*];done),by repeat (first | exact Drawn0.refl _ | apply Drawn0.step)⟩
      ·rw [if_neg c6] at H
       have c6b0 : (((rd_T45 l0 x5_1).f1) == ((wrap64 (x1_1 + 1)) % 4294967296)) = false:=beq_eq_false_iff_ne.mpr c6
       have c6b1 : (((rd_T45 l0 x5_1).f1) != ((wrap64 (x1_1 + 1)) % 4294967296)) = true:=bne_iff_ne.mpr c6
       obtain rfl:=Option.some.inj H
       have p850 : 0 ≤ (x5_1 : Int):=of_decide_eq_true (by first | (with_reducible assumption) | assumption)
       have q850 : x5_1 < (l0.length : Int):=of_decide_eq_true (by first | (with_reducible assumption) | assumption)
       obtain ⟨ad850,A850_4,c850_4,e850,hx850_0,hx850_1,hx850_2,hx850_3,hx850_4,hl850_4,hi850_4⟩:=at_T45 HR0.out x5_1 p850 q850
       cases e850
       have HR850_4:=Aside0.mk hi850_4
       have HC850_4:=Aside0.mk hl850_4
       clear hi850_4 hl850_4
       replace p850:=eq_true p850
       replace q850:=eq_true q850
       have p851 : 0 ≤ (x5_1 : Int):=of_decide_eq_true (by first | (with_reducible assumption) | assumption)
       have q851 : x5_1 < (l0.length : Int):=of_decide_eq_true (by first | (with_reducible assumption) | assumption)
       obtain ⟨ad851,A851_4,c851_4,e851,hx851_0,hx851_1,hx851_2,hx851_3,hx851_4,hl851_4,hi851_4⟩:=at_T45 HR0.out x5_1 p851 q851
       obtain rfl : ad850 = ad851:=(by injection e851)
       have HR851_4:=Aside0.mk hi851_4
       have HC851_4:=Aside0.mk hl851_4
       clear hi851_4 hl851_4
       replace p851:=eq_true p851
       replace q851:=eq_true q851
       have ea_:=Option.some.inj (hx850_4.symm.trans hx851_4)
       injection ea_ with ea_ en_ ec_
       subst ea_
       subst ec_
       clear en_
       go_wp2
       go_ret
       exact ⟨by first | rfl | (simp;done) | (simp [*];done),by repeat (first | exact Drawn0.refl _ | apply Drawn0.step)⟩
    ·rw [if_neg c4] at H
     exact absurd H (by simp)
   ·rw [if_neg c3] at H
    have c3b0 : decide (x5_1 < (l0.length : Int)) = false:=decide_eq_false c3
    clear c3
    obtain rfl:=Option.some.inj H
    go_wp2
    go_ret
    exact ⟨by first | rfl | (simp;done) | (simp [*];done),by repeat (first | exact Drawn0.refl _ | apply Drawn0.step)⟩
end Go.Proofs.Ytcaefabbcjlkdaa.P
namespace Go.Proofs.Ytcaefabbcjlkdaa.P
open Go Go.RowKit Go.Proofs.YtcaefabbcjlkdaaW.PrintWords Go.Proofs.YtcaefabbcjlkdaaW.PrintLast Go.Proofs.YtcaefabbcjlkdaaW.PrintMore
set_option linter.unusedVariables false
set_option linter.unusedSimpArgs false
def mkFrame (k : Int) (x : S45) : S45:=⟨tm k,(k + 1) % 4294967296,tm (k + 2),k + 3,marks (k + 4) x.f4.length⟩
def offFrame (xs : List S45) : Nat → Int
 | 0 => 0
 | i + 1 => offFrame xs i + 4 + ((xs.getD i z45).f4.length : Int)
def markFrames (q : Int) (xs : List S45) : List S45:=(List.range xs.length).map (fun i => mkFrame (q + offFrame xs i) (xs.getD i z45))
theorem markFrames_len (q : Int) (xs : List S45) : (markFrames q xs).length = xs.length:=by simp [markFrames]
theorem markFrames_get (q : Int) (xs : List S45) (i : Nat) (hi : i < xs.length) : (markFrames q xs)[i]? = some (mkFrame (q + offFrame xs i) (xs.getD i z45)):=by
 simp [markFrames,List.getElem?_range,hi]
theorem offFrame_nn (xs : List S45) : ∀ i,0 ≤ offFrame xs i:=by
 intro i
 induction i with
 | zero => exact Int.le_refl _
 | succ i ih => rw [offFrame];omega
theorem offFrame_mono (xs : List S45) (i d : Nat) : offFrame xs i ≤ offFrame xs (i + d):=by
 induction d with
 | zero => exact Int.le_refl _
 | succ d ih => rw [← Nat.add_assoc,offFrame];omega
theorem offFrame_le (xs : List S45) {i n : Nat} (h : i ≤ n) : offFrame xs i ≤ offFrame xs n:=by
 have:=offFrame_mono xs i (n - i)
 rwa [Nat.add_sub_cancel' h] at this
set_option maxRecDepth 100000 in
set_option maxHeartbeats 8000000 in
theorem markFrames_v (w0 w : World) (ok : Nat → Prop) (v : Value) (xs : List S45) (q : Int) (hB : Below w0.heap.size w0 w) (HS : Kd.S k45 45 w w0.heap.size ok v xs) (hq : 0 ≤ q) (hb : q + offFrame xs xs.length ≤ 50000000) (hl : xs.length ≤ 10000000) (hd : ∀ x ∈ xs,x.f4.length ≤ 10000000) :
  Calls Try.prog 70 #[v, .int .i64 q] w fun e w' => e = .returned (.int .i64 (q + offFrame xs xs.length)) ∧ Kd.S k45 45 w' w0.heap.size ok v (markFrames q xs) ∧ Below w0.heap.size w0 w' ∧ Tch w w' ok:=by
 have HSV:=Lib.hid HS
 have HB:=Lib.hid hB
 have HQ:=Lib.hid hq
 have HBD:=Lib.hid hb
 have HL:=Lib.hid hl
 have HD:=Lib.hid hd
 clear hB hq hb hl hd HS
 obtain ⟨A,cap,rfl⟩:=Kd.S_slice HSV.out
 go_enter Try.func70,Try.ntmps70
 go_upto_region 2 with (fail)
 go_loopw [1,5] (fun v1 v5 wr => ∃ (i : Nat) (k : Int) (ys : List S45),i ≤ xs.length ∧ v5 = .int .i64 i ∧ v1 = .int .i64 k ∧ Aside0 (k = q + offFrame xs i) ∧ Aside0 (Mk (markFrames q xs) xs i ys) ∧ Aside0 (Kd.S k45 45 wr w0.heap.size ok (.slice A xs.length cap) ys) ∧ Aside0 (Below w0.heap.size w0 wr) ∧ Aside0 (Tch w wr ok)) (fun _ v5 _ => xs.length - (intOf v5).toNat)
 case atStart => exact ⟨0,q,xs,Nat.zero_le _,rfl,rfl,⟨by simp [offFrame]⟩,⟨Mk.start (markFrames_len q xs)⟩,⟨HSV.out⟩,⟨HB.out⟩,⟨Tch.refl _ _⟩⟩
 case round =>
  obtain ⟨i,k,ys,hi,rfl,rfl,HKK,HMK,HSR,HBR,HTR⟩:=hrel
  by_cases hlt : i < xs.length
  ·have b2 : decide ((i : Int) < (xs.length : Int)) = true:=decide_eq_true (by omega)
   have p5 : (0 ≤ (i : Int)) = True:=eq_true (by omega)
   have q5 : ((i : Int) < (xs.length : Int)) = True:=eq_true (by omega)
   have qn : (i < xs.length) = True:=eq_true hlt
   have hn : wrap64 ((i : Int) + 1) = (i : Int) + 1:=by have:=HL.out;unfold wrap64;omega
   have HLT:=Lib.hid hlt
   have HI:=Lib.hid hi
   have HN:=Lib.hid hn
   obtain ⟨g,cp,e,_⟩:=Kd.S_form HSR.out (by have h1:=HMK.out.len;omega)
   injection e with e1 e2 e3
   subst e1
   clear e2 e3
   clear hlt hi
   obtain ⟨y,hy⟩ : ∃ y,y = xs.getD i z45:=⟨_,rfl⟩
   have HY : Hid (ys.getD i z45 = y):=Lib.hid (by rw [hy];exact HMK.out.at _)
   have HYX:=Lib.hid hy
   have HYL : Hid (y.f4.length ≤ 10000000):=Lib.hid (by rw [hy];refine HD.out _ (List.mem_of_getElem? (i:=i) ?_);rw [List.getD_eq_getElem?_getD,List.getElem?_eq_getElem HLT.out];rfl)
   have HQB : Hid (0 ≤ k ∧ k + 4 + (y.f4.length : Int) ≤ 50000000 ∧ offFrame xs (i + 1) = offFrame xs i + 4 + (y.f4.length : Int)):=Lib.hid (by
    have h1:=HKK.out;have h2:=HBD.out;have h3:=HQ.out;have h4:=offFrame_nn xs i
    have h5:=offFrame_le xs (i:=i + 1) (n:=xs.length) HLT.out
    have h6 : offFrame xs (i + 1) = offFrame xs i + 4 + (y.f4.length : Int):=by rw [offFrame,hy]
    exact ⟨by omega,by omega,h6⟩)
   clear hy
   have HK1 : Hid ((wrap64 (k + 1)) = k + 1):=Lib.hid (by have h1:=HQB.out;unfold wrap64;omega)
   have HK2 : Hid ((wrap64 ((wrap64 (k + 1)) + 1)) = k + 2):=Lib.hid (by rw [HK1.out];have h1:=HQB.out;unfold wrap64;omega)
   have HK3 : Hid ((wrap64 ((wrap64 ((wrap64 (k + 1)) + 1)) + 1)) = k + 3):=Lib.hid (by rw [HK2.out];have h1:=HQB.out;unfold wrap64;omega)
   have HK4 : Hid ((wrap64 ((wrap64 ((wrap64 ((wrap64 (k + 1)) + 1)) + 1)) + 1)) = k + 4):=Lib.hid (by rw [HK3.out];have h1:=HQB.out;unfold wrap64;omega)
   have HS0:=HSR
   have HB0:=HBR
   have HT0:=HTR
   go_upto_region 12 with (first | ((with_reducible refine gate_store (t:=4) (p:=18) rfl ?_);refine S_put k45 (w0:=w0) w0.heap.size rfl rfl rfl (e:=45) (i:=i) (j:=0) (xs:=ys) (z:=z45) (x':=({ y with f0:=Int.tmod k 3 == 0 } : S45)) (u := .bool (Int.tmod k 3 == 0)) rfl (by rfl) rfl rfl (by kernel_rfl) rfl HS0.out HLT.out (by decide) (by rw [HY.out];intro oki c hc;obtain ⟨v7,rfl,g7⟩:=k45_openM hc;exact k45_mkM _ _ _ ({ y with f0:=Int.tmod k 3 == 0 } : S45) g7) HB0.out ?_;intro w1 hs hb hg;have HS1:=Lib.hid hs;have HB1:=Lib.hid hb;have HT1:=Lib.hid (HT0.out.grown hg (fun k e => by injection e with e;rw [← e];exact .inl (S_own_ok HSV.out rfl)));clear hs hb hg) | ((with_reducible refine gate_store (t:=43) (p:=26) rfl ?_);refine S_put k45 (w0:=w0) w0.heap.size rfl rfl rfl (e:=45) (i:=i) (j:=1) (xs:=(ys.set i ({ y with f0:=Int.tmod k 3 == 0 } : S45))) (z:=z45) (x':=({ y with f0:=Int.tmod k 3 == 0,f1:=(wrap64 (k + 1)) % 4294967296 } : S45)) (u := .int .u32 ((wrap64 (k + 1)) % 4294967296)) rfl (by rfl) rfl rfl (by kernel_rfl) rfl HS1.out HLT.out (by decide) (by rw [getD_set ys i _ _ (by rw [HMK.out.len];exact HLT.out)];intro oki c hc;obtain ⟨v7,rfl,g7⟩:=k45_openM hc;exact k45_mkM _ _ _ ({ y with f0:=Int.tmod k 3 == 0,f1:=(wrap64 (k + 1)) % 4294967296 } : S45) g7) HB1.out ?_;intro w2 hs hb hg;rw [List.set_set] at hs;have HS2:=Lib.hid hs;have HB2:=Lib.hid hb;have HT2:=Lib.hid (HT1.out.grown hg (fun k e => by injection e with e;rw [← e];exact .inl (S_own_ok HSV.out rfl)));clear hs hb hg) | ((with_reducible refine gate_store (t:=4) (p:=35) rfl ?_);refine S_put k45 (w0:=w0) w0.heap.size rfl rfl rfl (e:=45) (i:=i) (j:=2) (xs:=(ys.set i ({ y with f0:=Int.tmod k 3 == 0,f1:=(wrap64 (k + 1)) % 4294967296 } : S45))) (z:=z45) (x':=({ y with f0:=Int.tmod k 3 == 0,f1:=(wrap64 (k + 1)) % 4294967296,f2:=Int.tmod (wrap64 ((wrap64 (k + 1)) + 1)) 3 == 0 } : S45)) (u := .bool (Int.tmod (wrap64 ((wrap64 (k + 1)) + 1)) 3 == 0)) rfl (by rfl) rfl rfl (by kernel_rfl) rfl HS2.out HLT.out (by decide) (by rw [getD_set ys i _ _ (by rw [HMK.out.len];exact HLT.out)];intro oki c hc;obtain ⟨v7,rfl,g7⟩:=k45_openM hc;exact k45_mkM _ _ _ ({ y with f0:=Int.tmod k 3 == 0,f1:=(wrap64 (k + 1)) % 4294967296,f2:=Int.tmod (wrap64 ((wrap64 (k + 1)) + 1)) 3 == 0 } : S45) g7) HB2.out ?_;intro w3 hs hb hg;rw [List.set_set] at hs;have HS3:=Lib.hid hs;have HB3:=Lib.hid hb;have HT3:=Lib.hid (HT2.out.grown hg (fun k e => by injection e with e;rw [← e];exact .inl (S_own_ok HSV.out rfl)));clear hs hb hg) | ((with_reducible refine gate_store (t:=3) (p:=42) rfl ?_);refine S_put k45 (w0:=w0) w0.heap.size rfl rfl rfl (e:=45) (i:=i) (j:=3) (xs:=(ys.set i ({ y with f0:=Int.tmod k 3 == 0,f1:=(wrap64 (k + 1)) % 4294967296,f2:=Int.tmod (wrap64 ((wrap64 (k + 1)) + 1)) 3 == 0 } : S45))) (z:=z45) (x':=({ y with f0:=Int.tmod k 3 == 0,f1:=(wrap64 (k + 1)) % 4294967296,f2:=Int.tmod (wrap64 ((wrap64 (k + 1)) + 1)) 3 == 0,f3:=(wrap64 ((wrap64 ((wrap64 (k + 1)) + 1)) + 1)) } : S45)) (u := .int .i64 (wrap64 ((wrap64 ((wrap64 (k + 1)) + 1)) + 1))) rfl (by rfl) rfl rfl (by kernel_rfl) rfl HS3.out HLT.out (by decide) (by rw [getD_set ys i _ _ (by rw [HMK.out.len];exact HLT.out)];intro oki c hc;obtain ⟨v7,rfl,g7⟩:=k45_openM hc;exact k45_mkM _ _ _ ({ y with f0:=Int.tmod k 3 == 0,f1:=(wrap64 (k + 1)) % 4294967296,f2:=Int.tmod (wrap64 ((wrap64 (k + 1)) + 1)) 3 == 0,f3:=(wrap64 ((wrap64 ((wrap64 (k + 1)) + 1)) + 1)) } : S45) g7) HB3.out ?_;intro w4 hs hb hg;rw [List.set_set] at hs;have HS4:=Lib.hid hs;have HB4:=Lib.hid hb;have HT4:=Lib.hid (HT3.out.grown hg (fun k e => by injection e with e;rw [← e];exact .inl (S_own_ok HSV.out rfl)));clear hs hb hg))
   obtain ⟨oki,cc,hcl,hM,hcc,hoki,hback⟩:=Kd.S_borrow HS4.out z45 (i : Int) (by omega) (by have:=HLT.out;omega)
   rw [Int.toNat_natCast,getD_set ys i _ _ (by rw [HMK.out.len];exact HLT.out)] at hM
   obtain ⟨vd,rfl,gd⟩:=k45_openM hM
   have hcd:=hcc 4 _ rfl
   rw [Int.toNat_natCast,add_plain] at hcd
   have hc7 : w4.cell? ⟨g,i * 5 + 4,none⟩ = some vd:=hcd
   have GD:=Lib.hid gd
   go_wp2_with (first | (go_at_call 99;refine (markByteS_v w0 w4 oki vd y.f4 (wrap64 ((wrap64 ((wrap64 ((wrap64 (k + 1)) + 1)) + 1)) + 1)) HB4.out GD.out HYL.out (by have h1:=HQB.out;have h2:=HK4.out;omega) (by have h1:=HQB.out;have h2:=HK4.out;omega)).mono ?_;rintro e w9 ⟨rfl,hr9,hb9,hg9⟩;have HS9:=Lib.hid (hback hg9 (fun k hk => R_own_ok GD.out hk) (k45_mkM _ _ _ ({ y with f0:=Int.tmod k 3 == 0,f1:=(wrap64 (k + 1)) % 4294967296,f2:=Int.tmod (wrap64 ((wrap64 (k + 1)) + 1)) 3 == 0,f3:=(wrap64 ((wrap64 ((wrap64 (k + 1)) + 1)) + 1)),f4:=marks (wrap64 ((wrap64 ((wrap64 ((wrap64 (k + 1)) + 1)) + 1)) + 1)) y.f4.length } : S45) hr9));have HB9:=Lib.hid hb9;have HT9 : Hid (Tch w w9 ok):=Lib.hid (HT4.out.grown hg9 (fun k e => .inl (hoki k (R_own_ok GD.out e)).1));clear hr9 hb9 hg9))
   clear hcd hc7 hcc hM hcl hoki hback
   go_roundw
   case rel => exact ⟨i + 1,_,_,HLT.out,by rw [HN.out];rfl,rfl,⟨by have h1:=HQB.out;have h2:=HK4.out;have h3:=HKK.out;rw [h1.2.2];omega⟩,⟨by refine HMK.out.next HLT.out (v:=({ y with f0:=Int.tmod k 3 == 0,f1:=(wrap64 (k + 1)) % 4294967296,f2:=Int.tmod (wrap64 ((wrap64 (k + 1)) + 1)) 3 == 0,f3:=(wrap64 ((wrap64 ((wrap64 (k + 1)) + 1)) + 1)),f4:=marks (wrap64 ((wrap64 ((wrap64 ((wrap64 (k + 1)) + 1)) + 1)) + 1)) y.f4.length } : S45)) ?_;rw [markFrames_get _ _ _ HLT.out, ← HYX.out, ← HKK.out];simp only [mkFrame,tm];rw [HK4.out,HK3.out,HK2.out,HK1.out]⟩,⟨by have h:=HS9.out;rw [Int.toNat_natCast,List.set_set] at h;exact h⟩,⟨HB9.out⟩,⟨HT9.out⟩⟩
   case measure => rw [HN.out];have:=HLT.out;simp [intOf];omega
  ·have hii : i = xs.length:=by omega
   have b2 : decide ((i : Int) < (xs.length : Int)) = false:=decide_eq_false (by omega)
   have qn : (i < xs.length) = False:=eq_false hlt
   have HE : Hid (ys = markFrames q xs):=Lib.hid (HMK.out.all (by omega))
   have HKE : Hid (k = q + offFrame xs xs.length):=Lib.hid (by rw [HKK.out,hii])
   clear hlt hi hii
   go_wp2_with (fail)
   go_ret
   exact ⟨by rw [HKE.out];rfl,by rw [← HE.out];exact HSR.out,HBR.out,HTR.out⟩
end Go.Proofs.Ytcaefabbcjlkdaa.P
