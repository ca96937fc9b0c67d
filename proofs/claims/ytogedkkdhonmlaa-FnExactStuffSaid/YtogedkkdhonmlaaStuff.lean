import Derived.Test.YtogedkkdhonmlaaDue
import Derived.Test.YtogedkkdhonmlaaSpecBits
import Derived.Test.YtogedkkdhonmlaaF19
namespace Go.Proofs.Ytogedkkdhonmlaa.P
open Go Go.RowKit Go.Proofs.YtogedkkdhonmlaaW.PrintWords
set_option linter.unusedVariables false
/-- What Stuff says of a text. -/
def stuffV (s : ByteArray) : ByteArray := if s.size ≤ 2000 ∧ isBits s = true then strOfNums (stuffL (bytesOf s)) else ⟨#[]⟩
structure StuffOk (st : List Int × Int × Int) (run : Nat) : Prop where
  trail : Trail st.1 st.1.length run st.2.2
  run_eq : st.2.1 = (run : Int)
  run_le : run ≤ 4
theorem StuffOk.zero : StuffOk ([], 0, 120) 0 := ⟨Trail.zero _ _, rfl, by omega⟩
theorem StuffOk.step {st : List Int × Int × Int} {run : Nat} (h : StuffOk st run) (c : Int) (hc : c = 48 ∨ c = 49) :
    (stuffStep st c).1 = (if (if c = st.2.2 then run + 1 else 1) = 5 then st.1 ++ [c] ++ [97 - c] else st.1 ++ [c]) ∧ ∃ run', StuffOk (stuffStep st c) run' := by
  obtain ⟨ht, he, hl⟩ := h
  have hs := ht.snoc c
  have e1 : (if c = st.2.2 then st.2.1 + 1 else 1) = (((if c = st.2.2 then run + 1 else 1 : Nat)) : Int) := by split <;> omega
  have h5 : (if c = st.2.2 then run + 1 else 1 : Nat) ≤ 5 := by split <;> omega
  unfold stuffStep
  rw [e1]
  generalize (if c = st.2.2 then run + 1 else 1 : Nat) = q at *
  by_cases h : q = 5
  · rw [if_pos (by omega), if_pos h]
    refine ⟨rfl, 1, ?_, rfl, by omega⟩
    have hs2 : Trail (st.1 ++ [c]) (st.1 ++ [c]).length q c := by rw [List.length_append]; exact hs
    have h3 := hs2.snoc (97 - c)
    rw [if_neg (by omega)] at h3
    simp only []
    rw [List.length_append]
    exact h3
  · rw [if_neg (by omega), if_neg h]
    refine ⟨rfl, q, ?_, rfl, by omega⟩
    simp only []
    rw [List.length_append]
    exact hs
theorem specStuff_ev (s : ByteArray) (h : s.size < 100000000) : Ev (fun k => spec_Stuff.f k s) (stuffV s) := by
  have hk := okBits_ev s 2000 (by omega)
  unfold stuffV
  by_cases c : s.size ≤ 2000 ∧ isBits s = true
  · rw [if_pos c]
    obtain ⟨hs, hb⟩ := c
    rw [hb, decide_eq_true hs] at hk
    refine Ev.congr (fun k => by unfold spec_Stuff.f; rfl) (Ev.bind hk (ev_pos rfl ?_))
    have loop : ∀ (d i run : Nat), i + d = s.size → StuffOk (stuffTo s i) run → Ev (fun k => spec_Stuff.l0 k s (stuffTo s i).1 (i : Int)) (strOfNums (stuffL (bytesOf s))) := by
      intro d
      induction d with
      | zero =>
        intro i run hi _
        refine Ev.step (f := fun _ => some (strOfNums (stuffL (bytesOf s)))) (fun k => ?_) (Ev.now _)
        simp only [spec_Stuff.l0]
        rw [if_neg (by omega), stuffTo_end s i (by omega)]
      | succ d ih =>
        intro i run hi ho
        have his : i < s.size := by omega
        have hbit := isBit_cases (isBits_at hb his)
        obtain ⟨b, hbe, hb2⟩ : ∃ b : Nat, (s[i]'his).toNat = b ∧ (b = 48 ∨ b = 49) := ⟨_, rfl, by rcases hbit with e | e <;> rw [e] <;> decide⟩
        have hbt : bt s (i : Int) = (b : Int) := by rw [bt_eq s i his, hbe]
        have hst := stuffTo_succ s i his hbe
        have hbd := (stuffTo_bounds s i).1
        have htr := ho.trail.snoc (b : Int)
        have hrl := ho.run_le
        obtain ⟨h1, run', h2⟩ := ho.step (b : Int) (by omega)
        rw [← hst] at h1 h2
        refine Ev.step (f := fun k => spec_Stuff.l0 k s (stuffTo s (i + 1)).1 ((i + 1 : Nat) : Int)) (fun k => ?_) (ih (i + 1) run' (by omega) h2)
        have hdue := due_eq (n := (stuffTo s i).1.length + 1) htr (by split <;> omega) (by omega)
        have hln : (((stuffTo s i).1 ++ [(b : Int)]).length : Int) = (((stuffTo s i).1.length + 1 : Nat) : Int) := by rw [List.length_append]; rfl
        simp only [spec_Stuff.l0]
        rw [if_pos (by omega), if_pos (by omega), if_pos (by omega), hbt, Option.bind_some, hln, hdue, Option.bind_some, w64 (by omega) (by omega), h1]
        by_cases h5 : (if (b : Int) = (stuffTo s i).2.2 then run + 1 else 1) = 5
        · rw [decide_eq_true h5, if_pos rfl, if_pos h5]
          have ho2 : spec_l1other.f (b : Int) = some (97 - (b : Int)) := by
            unfold spec_l1other.f
            rcases hb2 with rfl | rfl <;> rfl
          rw [ho2, Option.bind_some, if_pos (by omega)]
          rfl
        · rw [decide_eq_false h5, if_neg (by decide), if_neg h5]
          rfl
    have h0 := loop s.size 0 0 (by omega) (by rw [stuffTo_zero]; exact StuffOk.zero)
    rw [stuffTo_zero] at h0
    exact h0
  · rw [if_neg c]
    have hf : (decide (s.size ≤ 2000) && isBits s) = false := by
      rw [Bool.and_eq_false_iff]
      by_cases hh : isBits s = true
      · exact .inl (decide_eq_false fun h2 => c ⟨h2, hh⟩)
      · exact .inr (by simpa using hh)
    rw [hf] at hk
    exact Ev.congr (fun k => by unfold spec_Stuff.f; rfl) (Ev.bind hk (ev_neg (show ¬ (false = true) by decide) (Ev.now _)))
end Go.Proofs.Ytogedkkdhonmlaa.P
