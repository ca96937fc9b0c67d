import Derived.Test.YtogedkkdhonmlaaF0
namespace Go.Proofs.Ytogedkkdhonmlaa.P
open Go.RowKit Go.Proofs.YtogedkkdhonmlaaW.PrintWords Go.Proofs.YtogedkkdhonmlaaW.PrintLast Go.Proofs.YtogedkkdhonmlaaW.PrintMore
attribute [local go_sem] max2_int min2_int max_two min_two max_three min_three max_four min_four
set_option linter.unusedVariables false
set_option linter.unusedSimpArgs false

/-! ### spec_l1due: function 49 -/
def spec_l1due.f (l0 : List Int) (a1 : Int) : Option (Bool) := if a1 < 5 then (some false) else (if 0 ≤ (wrap64 (a1 - 1)) then (if (wrap64 (a1 - 1)) < (l0.length : Int) then (if 0 ≤ (wrap64 (a1 - 2)) then (if (wrap64 (a1 - 2)) < (l0.length : Int) then (if (rd l0 (wrap64 (a1 - 1))) = (rd l0 (wrap64 (a1 - 2))) then (if 0 ≤ (wrap64 (a1 - 3)) then (if (wrap64 (a1 - 3)) < (l0.length : Int) then (if (rd l0 (wrap64 (a1 - 2))) = (rd l0 (wrap64 (a1 - 3))) then (if 0 ≤ (wrap64 (a1 - 4)) then (if (wrap64 (a1 - 4)) < (l0.length : Int) then (if (rd l0 (wrap64 (a1 - 3))) = (rd l0 (wrap64 (a1 - 4))) then (if 0 ≤ (wrap64 (a1 - 5)) then (if (wrap64 (a1 - 5)) < (l0.length : Int) then (some ((rd l0 (wrap64 (a1 - 4))) == (rd l0 (wrap64 (a1 - 5))))) else (none)) else (none)) else (some false)) else (none)) else (none)) else (some false)) else (none)) else (none)) else (some false)) else (none)) else (none)) else (none)) else (none))
set_option maxHeartbeats 8000000 in
set_option maxRecDepth 100000 in
theorem spec_l1due.calls (A0 : Option Addr) (c0 : Nat) (l0 : List Int) (a1 : Int) (r : Bool) (w : World) (hr0 : Kd.C (Kd.int .u8) w A0 l0.length l0) (hc0 : l0.length ≤ c0) (h : spec_l1due.f l0 a1 = some r) :
    Calls Try.prog 49 #[.slice A0 l0.length c0, .int .i64 a1] w fun e w' => e = .returned (.bool r) ∧ Drawn0 w w' := by
  have HR0 := Aside0.mk hr0
  have HC0 := Aside0.mk hc0
  clear hr0 hc0
  have H : (if a1 < 5 then (some false) else (if 0 ≤ (wrap64 (a1 - 1)) then (if (wrap64 (a1 - 1)) < (l0.length : Int) then (if 0 ≤ (wrap64 (a1 - 2)) then (if (wrap64 (a1 - 2)) < (l0.length : Int) then (if (rd l0 (wrap64 (a1 - 1))) = (rd l0 (wrap64 (a1 - 2))) then (if 0 ≤ (wrap64 (a1 - 3)) then (if (wrap64 (a1 - 3)) < (l0.length : Int) then (if (rd l0 (wrap64 (a1 - 2))) = (rd l0 (wrap64 (a1 - 3))) then (if 0 ≤ (wrap64 (a1 - 4)) then (if (wrap64 (a1 - 4)) < (l0.length : Int) then (if (rd l0 (wrap64 (a1 - 3))) = (rd l0 (wrap64 (a1 - 4))) then (if 0 ≤ (wrap64 (a1 - 5)) then (if (wrap64 (a1 - 5)) < (l0.length : Int) then (some ((rd l0 (wrap64 (a1 - 4))) == (rd l0 (wrap64 (a1 - 5))))) else (none)) else (none)) else (some false)) else (none)) else (none)) else (some false)) else (none)) else (none)) else (some false)) else (none)) else (none)) else (none)) else (none))) = some r := h
  clear h
  by_cases c3 : a1 < 5
  · rw [if_pos c3] at H
    have c3b0 : decide (a1 < 5) = true := decide_eq_true c3
    clear c3
    obtain rfl := Option.some.inj H
    go_enter Try.func49, Try.ntmps49
    go_wp2
    repeat (go_quiet (fail); try go_wp2)
    go_ret
    exact ⟨by first | rfl | (simp; done) | (simp [*]; done), by repeat (first | exact Drawn0.refl _ | apply Drawn0.step)⟩
  · rw [if_neg c3] at H
    have c3b0 : decide (a1 < 5) = false := decide_eq_false c3
    clear c3
    obtain ⟨ji4, hji4⟩ : ∃ j_ : Int, (wrap64 (a1 - 1)) = j_ := ⟨_, rfl⟩
    replace H : (if 0 ≤ (ji4) then (if (ji4) < (l0.length : Int) then (if 0 ≤ (wrap64 (a1 - 2)) then (if (wrap64 (a1 - 2)) < (l0.length : Int) then (if (rd l0 (ji4)) = (rd l0 (wrap64 (a1 - 2))) then (if 0 ≤ (wrap64 (a1 - 3)) then (if (wrap64 (a1 - 3)) < (l0.length : Int) then (if (rd l0 (wrap64 (a1 - 2))) = (rd l0 (wrap64 (a1 - 3))) then (if 0 ≤ (wrap64 (a1 - 4)) then (if (wrap64 (a1 - 4)) < (l0.length : Int) then (if (rd l0 (wrap64 (a1 - 3))) = (rd l0 (wrap64 (a1 - 4))) then (if 0 ≤ (wrap64 (a1 - 5)) then (if (wrap64 (a1 - 5)) < (l0.length : Int) then (some ((rd l0 (wrap64 (a1 - 4))) == (rd l0 (wrap64 (a1 - 5))))) else (none)) else (none)) else (some false)) else (none)) else (none)) else (some false)) else (none)) else (none)) else (some false)) else (none)) else (none)) else (none)) else (none)) = some r := by first | (rw [hji4] at H; exact H) | (simp only [hji4] at H ⊢; exact H)
    have hji4w : (IntKind.i64.wrap (a1 - 1)) = ji4 := (i64_w _).trans hji4
    by_cases c5 : 0 ≤ (ji4)
    · rw [if_pos c5] at H
      have c5b0 : decide (0 ≤ (ji4)) = true := decide_eq_true c5
      clear c5
      by_cases c6 : (ji4) < (l0.length : Int)
      · rw [if_pos c6] at H
        have c6b0 : decide ((ji4) < (l0.length : Int)) = true := decide_eq_true c6
        clear c6
        obtain ⟨ji7, hji7⟩ : ∃ j_ : Int, (wrap64 (a1 - 2)) = j_ := ⟨_, rfl⟩
        replace H : (if 0 ≤ (ji7) then (if (ji7) < (l0.length : Int) then (if (rd l0 (ji4)) = (rd l0 (ji7)) then (if 0 ≤ (wrap64 (a1 - 3)) then (if (wrap64 (a1 - 3)) < (l0.length : Int) then (if (rd l0 (ji7)) = (rd l0 (wrap64 (a1 - 3))) then (if 0 ≤ (wrap64 (a1 - 4)) then (if (wrap64 (a1 - 4)) < (l0.length : Int) then (if (rd l0 (wrap64 (a1 - 3))) = (rd l0 (wrap64 (a1 - 4))) then (if 0 ≤ (wrap64 (a1 - 5)) then (if (wrap64 (a1 - 5)) < (l0.length : Int) then (some ((rd l0 (wrap64 (a1 - 4))) == (rd l0 (wrap64 (a1 - 5))))) else (none)) else (none)) else (some false)) else (none)) else (none)) else (some false)) else (none)) else (none)) else (some false)) else (none)) else (none)) = some r := by first | (rw [hji7] at H; exact H) | (simp only [hji7] at H ⊢; exact H)
        have hji7w : (IntKind.i64.wrap (a1 - 2)) = ji7 := (i64_w _).trans hji7
        by_cases c8 : 0 ≤ (ji7)
        · rw [if_pos c8] at H
          have c8b0 : decide (0 ≤ (ji7)) = true := decide_eq_true c8
          clear c8
          by_cases c9 : (ji7) < (l0.length : Int)
          · rw [if_pos c9] at H
            have c9b0 : decide ((ji7) < (l0.length : Int)) = true := decide_eq_true c9
            clear c9
            by_cases c10 : (rd l0 (ji4)) = (rd l0 (ji7))
            · rw [if_pos c10] at H
              have c10b0 : ((rd l0 (ji4)) == (rd l0 (ji7))) = true := beq_iff_eq.mpr c10
              have c10b1 : ((rd l0 (ji4)) != (rd l0 (ji7))) = false := bne_eq_false_iff_eq.mpr c10
              clear c10
              obtain ⟨ji11, hji11⟩ : ∃ j_ : Int, (wrap64 (a1 - 3)) = j_ := ⟨_, rfl⟩
              replace H : (if 0 ≤ (ji11) then (if (ji11) < (l0.length : Int) then (if (rd l0 (ji7)) = (rd l0 (ji11)) then (if 0 ≤ (wrap64 (a1 - 4)) then (if (wrap64 (a1 - 4)) < (l0.length : Int) then (if (rd l0 (ji11)) = (rd l0 (wrap64 (a1 - 4))) then (if 0 ≤ (wrap64 (a1 - 5)) then (if (wrap64 (a1 - 5)) < (l0.length : Int) then (some ((rd l0 (wrap64 (a1 - 4))) == (rd l0 (wrap64 (a1 - 5))))) else (none)) else (none)) else (some false)) else (none)) else (none)) else (some false)) else (none)) else (none)) = some r := by first | (rw [hji11] at H; exact H) | (simp only [hji11] at H ⊢; exact H)
              have hji11w : (IntKind.i64.wrap (a1 - 3)) = ji11 := (i64_w _).trans hji11
              by_cases c12 : 0 ≤ (ji11)
              · rw [if_pos c12] at H
                have c12b0 : decide (0 ≤ (ji11)) = true := decide_eq_true c12
                clear c12
                by_cases c13 : (ji11) < (l0.length : Int)
                · rw [if_pos c13] at H
                  have c13b0 : decide ((ji11) < (l0.length : Int)) = true := decide_eq_true c13
                  clear c13
                  by_cases c14 : (rd l0 (ji7)) = (rd l0 (ji11))
                  · rw [if_pos c14] at H
                    have c14b0 : ((rd l0 (ji7)) == (rd l0 (ji11))) = true := beq_iff_eq.mpr c14
                    have c14b1 : ((rd l0 (ji7)) != (rd l0 (ji11))) = false := bne_eq_false_iff_eq.mpr c14
                    clear c14
                    obtain ⟨ji15, hji15⟩ : ∃ j_ : Int, (wrap64 (a1 - 4)) = j_ := ⟨_, rfl⟩
                    replace H : (if 0 ≤ (ji15) then (if (ji15) < (l0.length : Int) then (if (rd l0 (ji11)) = (rd l0 (ji15)) then (if 0 ≤ (wrap64 (a1 - 5)) then (if (wrap64 (a1 - 5)) < (l0.length : Int) then (some ((rd l0 (ji15)) == (rd l0 (wrap64 (a1 - 5))))) else (none)) else (none)) else (some false)) else (none)) else (none)) = some r := by first | (rw [hji15] at H; exact H) | (simp only [hji15] at H ⊢; exact H)
                    have hji15w : (IntKind.i64.wrap (a1 - 4)) = ji15 := (i64_w _).trans hji15
                    by_cases c16 : 0 ≤ (ji15)
                    · rw [if_pos c16] at H
                      have c16b0 : decide (0 ≤ (ji15)) = true := decide_eq_true c16
                      clear c16
                      by_cases c17 : (ji15) < (l0.length : Int)
                      · rw [if_pos c17] at H
                        have c17b0 : decide ((ji15) < (l0.length : Int)) = true := decide_eq_true c17
                        clear c17
                        by_cases c18 : (rd l0 (ji11)) = (rd l0 (ji15))
                        · rw [if_pos c18] at H
                          have c18b0 : ((rd l0 (ji11)) == (rd l0 (ji15))) = true := beq_iff_eq.mpr c18
                          have c18b1 : ((rd l0 (ji11)) != (rd l0 (ji15))) = false := bne_eq_false_iff_eq.mpr c18
                          clear c18
                          obtain ⟨ji19, hji19⟩ : ∃ j_ : Int, (wrap64 (a1 - 5)) = j_ := ⟨_, rfl⟩
                          replace H : (if 0 ≤ (ji19) then (if (ji19) < (l0.length : Int) then (some ((rd l0 (ji15)) == (rd l0 (ji19)))) else (none)) else (none)) = some r := by first | (rw [hji19] at H; exact H) | (simp only [hji19] at H ⊢; exact H)
                          have hji19w : (IntKind.i64.wrap (a1 - 5)) = ji19 := (i64_w _).trans hji19
                          by_cases c20 : 0 ≤ (ji19)
                          · rw [if_pos c20] at H
                            have c20b0 : decide (0 ≤ (ji19)) = true := decide_eq_true c20
                            clear c20
                            by_cases c21 : (ji19) < (l0.length : Int)
                            · rw [if_pos c21] at H
                              have c21b0 : decide ((ji19) < (l0.length : Int)) = true := decide_eq_true c21
                              clear c21
                              obtain rfl := Option.some.inj H
                              have p165 : 0 ≤ ((ji4) : Int) := of_decide_eq_true (by first | (with_reducible assumption) | assumption)
                              have q165 : (ji4) < (l0.length : Int) := of_decide_eq_true (by first | (with_reducible assumption) | assumption)
                              obtain ⟨ad165, e165, hx165_0⟩ := Kd.at_int HR0.out (ji4) p165 q165
                              cases e165
                              replace p165 := eq_true p165
                              replace q165 := eq_true q165
                              have p166 : 0 ≤ ((ji7) : Int) := of_decide_eq_true (by first | (with_reducible assumption) | assumption)
                              have q166 : (ji7) < (l0.length : Int) := of_decide_eq_true (by first | (with_reducible assumption) | assumption)
                              obtain ⟨ad166, e166, hx166_0⟩ := Kd.at_int HR0.out (ji7) p166 q166
                              obtain rfl : ad165 = ad166 := (by injection e166)
                              replace p166 := eq_true p166
                              replace q166 := eq_true q166
                              have p167 : 0 ≤ ((ji7) : Int) := of_decide_eq_true (by first | (with_reducible assumption) | assumption)
                              have q167 : (ji7) < (l0.length : Int) := of_decide_eq_true (by first | (with_reducible assumption) | assumption)
                              obtain ⟨ad167, e167, hx167_0⟩ := Kd.at_int HR0.out (ji7) p167 q167
                              obtain rfl : ad165 = ad167 := (by injection e167)
                              replace p167 := eq_true p167
                              replace q167 := eq_true q167
                              have p168 : 0 ≤ ((ji11) : Int) := of_decide_eq_true (by first | (with_reducible assumption) | assumption)
                              have q168 : (ji11) < (l0.length : Int) := of_decide_eq_true (by first | (with_reducible assumption) | assumption)
                              obtain ⟨ad168, e168, hx168_0⟩ := Kd.at_int HR0.out (ji11) p168 q168
                              obtain rfl : ad165 = ad168 := (by injection e168)
                              replace p168 := eq_true p168
                              replace q168 := eq_true q168
                              have p169 : 0 ≤ ((ji11) : Int) := of_decide_eq_true (by first | (with_reducible assumption) | assumption)
                              have q169 : (ji11) < (l0.length : Int) := of_decide_eq_true (by first | (with_reducible assumption) | assumption)
                              obtain ⟨ad169, e169, hx169_0⟩ := Kd.at_int HR0.out (ji11) p169 q169
                              obtain rfl : ad165 = ad169 := (by injection e169)
                              replace p169 := eq_true p169
                              replace q169 := eq_true q169
                              have p170 : 0 ≤ ((ji15) : Int) := of_decide_eq_true (by first | (with_reducible assumption) | assumption)
                              have q170 : (ji15) < (l0.length : Int) := of_decide_eq_true (by first | (with_reducible assumption) | assumption)
                              obtain ⟨ad170, e170, hx170_0⟩ := Kd.at_int HR0.out (ji15) p170 q170
                              obtain rfl : ad165 = ad170 := (by injection e170)
                              replace p170 := eq_true p170
                              replace q170 := eq_true q170
                              have p171 : 0 ≤ ((ji15) : Int) := of_decide_eq_true (by first | (with_reducible assumption) | assumption)
                              have q171 : (ji15) < (l0.length : Int) := of_decide_eq_true (by first | (with_reducible assumption) | assumption)
                              obtain ⟨ad171, e171, hx171_0⟩ := Kd.at_int HR0.out (ji15) p171 q171
                              obtain rfl : ad165 = ad171 := (by injection e171)
                              replace p171 := eq_true p171
                              replace q171 := eq_true q171
                              have p172 : 0 ≤ ((ji19) : Int) := of_decide_eq_true (by first | (with_reducible assumption) | assumption)
                              have q172 : (ji19) < (l0.length : Int) := of_decide_eq_true (by first | (with_reducible assumption) | assumption)
                              obtain ⟨ad172, e172, hx172_0⟩ := Kd.at_int HR0.out (ji19) p172 q172
                              obtain rfl : ad165 = ad172 := (by injection e172)
                              replace p172 := eq_true p172
                              replace q172 := eq_true q172
                              go_enter Try.func49, Try.ntmps49
                              go_wp2
                              repeat (go_quiet (fail); try go_wp2)
                              go_ret
                              exact ⟨by first | rfl | (simp; done) | (simp only [← hji4, ← hji7, ← hji11, ← hji15, ← hji19] <;> (first | rfl | simp)) | (simp [*]; done), by repeat (first | exact Drawn0.refl _ | apply Drawn0.step)⟩
                            · rw [if_neg c21] at H
                              exact absurd H (by simp)
                          · rw [if_neg c20] at H
                            exact absurd H (by simp)
                        · rw [if_neg c18] at H
                          have c18b0 : ((rd l0 (ji11)) == (rd l0 (ji15))) = false := beq_eq_false_iff_ne.mpr c18
                          have c18b1 : ((rd l0 (ji11)) != (rd l0 (ji15))) = true := bne_iff_ne.mpr c18
                          obtain rfl := Option.some.inj H
                          have p165 : 0 ≤ ((ji4) : Int) := of_decide_eq_true (by first | (with_reducible assumption) | assumption)
                          have q165 : (ji4) < (l0.length : Int) := of_decide_eq_true (by first | (with_reducible assumption) | assumption)
                          obtain ⟨ad165, e165, hx165_0⟩ := Kd.at_int HR0.out (ji4) p165 q165
                          cases e165
                          replace p165 := eq_true p165
                          replace q165 := eq_true q165
                          have p166 : 0 ≤ ((ji7) : Int) := of_decide_eq_true (by first | (with_reducible assumption) | assumption)
                          have q166 : (ji7) < (l0.length : Int) := of_decide_eq_true (by first | (with_reducible assumption) | assumption)
                          obtain ⟨ad166, e166, hx166_0⟩ := Kd.at_int HR0.out (ji7) p166 q166
                          obtain rfl : ad165 = ad166 := (by injection e166)
                          replace p166 := eq_true p166
                          replace q166 := eq_true q166
                          have p167 : 0 ≤ ((ji7) : Int) := of_decide_eq_true (by first | (with_reducible assumption) | assumption)
                          have q167 : (ji7) < (l0.length : Int) := of_decide_eq_true (by first | (with_reducible assumption) | assumption)
                          obtain ⟨ad167, e167, hx167_0⟩ := Kd.at_int HR0.out (ji7) p167 q167
                          obtain rfl : ad165 = ad167 := (by injection e167)
                          replace p167 := eq_true p167
                          replace q167 := eq_true q167
                          have p168 : 0 ≤ ((ji11) : Int) := of_decide_eq_true (by first | (with_reducible assumption) | assumption)
                          have q168 : (ji11) < (l0.length : Int) := of_decide_eq_true (by first | (with_reducible assumption) | assumption)
                          obtain ⟨ad168, e168, hx168_0⟩ := Kd.at_int HR0.out (ji11) p168 q168
                          obtain rfl : ad165 = ad168 := (by injection e168)
                          replace p168 := eq_true p168
                          replace q168 := eq_true q168
                          have p169 : 0 ≤ ((ji11) : Int) := of_decide_eq_true (by first | (with_reducible assumption) | assumption)
                          have q169 : (ji11) < (l0.length : Int) := of_decide_eq_true (by first | (with_reducible assumption) | assumption)
                          obtain ⟨ad169, e169, hx169_0⟩ := Kd.at_int HR0.out (ji11) p169 q169
                          obtain rfl : ad165 = ad169 := (by injection e169)
                          replace p169 := eq_true p169
                          replace q169 := eq_true q169
                          have p170 : 0 ≤ ((ji15) : Int) := of_decide_eq_true (by first | (with_reducible assumption) | assumption)
                          have q170 : (ji15) < (l0.length : Int) := of_decide_eq_true (by first | (with_reducible assumption) | assumption)
                          obtain ⟨ad170, e170, hx170_0⟩ := Kd.at_int HR0.out (ji15) p170 q170
                          obtain rfl : ad165 = ad170 := (by injection e170)
                          replace p170 := eq_true p170
                          replace q170 := eq_true q170
                          go_enter Try.func49, Try.ntmps49
                          go_wp2
                          repeat (go_quiet (fail); try go_wp2)
                          go_ret
                          exact ⟨by first | rfl | (simp; done) | (simp only [← hji4, ← hji7, ← hji11, ← hji15] <;> (first | rfl | simp)) | (simp [*]; done), by repeat (first | exact Drawn0.refl _ | apply Drawn0.step)⟩
                      · rw [if_neg c17] at H
                        exact absurd H (by simp)
                    · rw [if_neg c16] at H
                      exact absurd H (by simp)
                  · rw [if_neg c14] at H
                    have c14b0 : ((rd l0 (ji7)) == (rd l0 (ji11))) = false := beq_eq_false_iff_ne.mpr c14
                    have c14b1 : ((rd l0 (ji7)) != (rd l0 (ji11))) = true := bne_iff_ne.mpr c14
                    obtain rfl := Option.some.inj H
                    have p165 : 0 ≤ ((ji4) : Int) := of_decide_eq_true (by first | (with_reducible assumption) | assumption)
                    have q165 : (ji4) < (l0.length : Int) := of_decide_eq_true (by first | (with_reducible assumption) | assumption)
                    obtain ⟨ad165, e165, hx165_0⟩ := Kd.at_int HR0.out (ji4) p165 q165
                    cases e165
                    replace p165 := eq_true p165
                    replace q165 := eq_true q165
                    have p166 : 0 ≤ ((ji7) : Int) := of_decide_eq_true (by first | (with_reducible assumption) | assumption)
                    have q166 : (ji7) < (l0.length : Int) := of_decide_eq_true (by first | (with_reducible assumption) | assumption)
                    obtain ⟨ad166, e166, hx166_0⟩ := Kd.at_int HR0.out (ji7) p166 q166
                    obtain rfl : ad165 = ad166 := (by injection e166)
                    replace p166 := eq_true p166
                    replace q166 := eq_true q166
                    have p167 : 0 ≤ ((ji7) : Int) := of_decide_eq_true (by first | (with_reducible assumption) | assumption)
                    have q167 : (ji7) < (l0.length : Int) := of_decide_eq_true (by first | (with_reducible assumption) | assumption)
                    obtain ⟨ad167, e167, hx167_0⟩ := Kd.at_int HR0.out (ji7) p167 q167
                    obtain rfl : ad165 = ad167 := (by injection e167)
                    replace p167 := eq_true p167
                    replace q167 := eq_true q167
                    have p168 : 0 ≤ ((ji11) : Int) := of_decide_eq_true (by first | (with_reducible assumption) | assumption)
                    have q168 : (ji11) < (l0.length : Int) := of_decide_eq_true (by first | (with_reducible assumption) | assumption)
                    obtain ⟨ad168, e168, hx168_0⟩ := Kd.at_int HR0.out (ji11) p168 q168
                    obtain rfl : ad165 = ad168 := (by injection e168)
                    replace p168 := eq_true p168
                    replace q168 := eq_true q168
                    go_enter Try.func49, Try.ntmps49
                    go_wp2
                    repeat (go_quiet (fail); try go_wp2)
                    go_ret
                    exact ⟨by first | rfl | (simp; done) | (simp only [← hji4, ← hji7, ← hji11] <;> (first | rfl | simp)) | (simp [*]; done), by repeat (first | exact Drawn0.refl _ | apply Drawn0.step)⟩
                · rw [if_neg c13] at H
                  exact absurd H (by simp)
              · rw [if_neg c12] at H
                exact absurd H (by simp)
            · rw [if_neg c10] at H
              have c10b0 : ((rd l0 (ji4)) == (rd l0 (ji7))) = false := beq_eq_false_iff_ne.mpr c10
              have c10b1 : ((rd l0 (ji4)) != (rd l0 (ji7))) = true := bne_iff_ne.mpr c10
              obtain rfl := Option.some.inj H
              have p165 : 0 ≤ ((ji4) : Int) := of_decide_eq_true (by first | (with_reducible assumption) | assumption)
              have q165 : (ji4) < (l0.length : Int) := of_decide_eq_true (by first | (with_reducible assumption) | assumption)
              obtain ⟨ad165, e165, hx165_0⟩ := Kd.at_int HR0.out (ji4) p165 q165
              cases e165
              replace p165 := eq_true p165
              replace q165 := eq_true q165
              have p166 : 0 ≤ ((ji7) : Int) := of_decide_eq_true (by first | (with_reducible assumption) | assumption)
              have q166 : (ji7) < (l0.length : Int) := of_decide_eq_true (by first | (with_reducible assumption) | assumption)
              obtain ⟨ad166, e166, hx166_0⟩ := Kd.at_int HR0.out (ji7) p166 q166
              obtain rfl : ad165 = ad166 := (by injection e166)
              replace p166 := eq_true p166
              replace q166 := eq_true q166
              go_enter Try.func49, Try.ntmps49
              go_wp2
              repeat (go_quiet (fail); try go_wp2)
              go_ret
              exact ⟨by first | rfl | (simp; done) | (simp only [← hji4, ← hji7] <;> (first | rfl | simp)) | (simp [*]; done), by repeat (first | exact Drawn0.refl _ | apply Drawn0.step)⟩
          · rw [if_neg c9] at H
            exact absurd H (by simp)
        · rw [if_neg c8] at H
          exact absurd H (by simp)
      · rw [if_neg c6] at H
        exact absurd H (by simp)
    · rw [if_neg c5] at H
      exact absurd H (by simp)

end Go.Proofs.Ytogedkkdhonmlaa.P
