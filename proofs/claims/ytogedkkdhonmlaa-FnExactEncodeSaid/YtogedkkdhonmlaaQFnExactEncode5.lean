import Derived.Test.YtogedkkdhonmlaaQFnExactEncode4
import Derived.Test.YtogedkkdhonmlaaQFnExactEncode1
import Derived.Test.YtogedkkdhonmlaaQFnExactEncode2
import Derived.Test.YtogedkkdhonmlaaQFnExactEncode3

namespace Go.Proofs.Ytogedkkdhonmlaa.P
open Go Go.RowKit Go.Proofs.YtogedkkdhonmlaaW.PrintWords
set_option linter.unusedVariables false
theorem due_eq {l : List Int} {n run : Nat} {last : Int} (h : Trail l n run last) (h5 : run ≤ 5) (hn : n < 100000000) : spec_l1due.f l (n : Int) = some (decide (run = 5)) := by
  have hle := h.le
  have hr := h.run_le
  unfold spec_l1due.f
  by_cases c : n < 5
  · rw [if_pos (by omega), decide_eq_false (by omega)]
  · have hf := h.five h5 (by omega)
    have w1 : wrap64 ((n : Int) - 1) = ((n - 1 : Nat) : Int) := by unfold wrap64; omega
    have w2 : wrap64 ((n : Int) - 2) = ((n - 2 : Nat) : Int) := by unfold wrap64; omega
    have w3 : wrap64 ((n : Int) - 3) = ((n - 3 : Nat) : Int) := by unfold wrap64; omega
    have w4 : wrap64 ((n : Int) - 4) = ((n - 4 : Nat) : Int) := by unfold wrap64; omega
    have w5 : wrap64 ((n : Int) - 5) = ((n - 5 : Nat) : Int) := by unfold wrap64; omega
    rw [if_neg (by omega), w1, w2, w3, w4, w5, if_pos (by omega), if_pos (by omega), if_pos (by omega), if_pos (by omega)]
    by_cases a1 : rd l ((n - 1 : Nat) : Int) = rd l ((n - 2 : Nat) : Int)
    · rw [if_pos a1, if_pos (by omega), if_pos (by omega)]
      by_cases a2 : rd l ((n - 2 : Nat) : Int) = rd l ((n - 3 : Nat) : Int)
      · rw [if_pos a2, if_pos (by omega), if_pos (by omega)]
        by_cases a3 : rd l ((n - 3 : Nat) : Int) = rd l ((n - 4 : Nat) : Int)
        · rw [if_pos a3, if_pos (by omega), if_pos (by omega)]
          by_cases a4 : rd l ((n - 4 : Nat) : Int) = rd l ((n - 5 : Nat) : Int)
          · rw [decide_eq_true (hf.2 ⟨a1, a2, a3, a4⟩), a4]; simp
          · rw [decide_eq_false (fun e => a4 (hf.1 e).2.2.2)]; simp [a4]
        · rw [if_neg a3, decide_eq_false (fun e => a3 (hf.1 e).2.2.1)]
      · rw [if_neg a2, decide_eq_false (fun e => a2 (hf.1 e).2.1)]
    · rw [if_neg a1, decide_eq_false (fun e => a1 (hf.1 e).1)]
end Go.Proofs.Ytogedkkdhonmlaa.P

namespace Go.Proofs.Ytogedkkdhonmlaa.P
open Go Go.RowKit Go.Proofs.YtogedkkdhonmlaaW.PrintWords
set_option linter.unusedVariables false
/-- What Stuff says of a text. -/
def stuffV (s : ByteArray) : ByteArray := if s.size ≤ 2000 ∧ isBits s = true then strOfNums (stuffL (bytesOf s)) else ⟨#[]⟩
structure StuffOk (st : List Int × Int × Int) (run : Nat) : Prop where
  trail : Trail st.1 st.1.length run st.2.2
  run_eq : st.2.1 = (run : Int)
  run_le : run ≤ 4
theorem StuffOk.zero : StuffOk ([], 0, 120) 0 := ⟨Trail.zero _ _, rfl, by omega⟩
theorem StuffOk.step {st : List Int × Int × Int} {run : Nat} (h : StuffOk st run) (c : Int) (hc : c = 48 ∨ c = 49) :
    (stuffStep st c).1 = (if (if c = st.2.2 then run + 1 else 1) = 5 then st.1 ++ [c] ++ [97 - c] else st.1 ++ [c]) ∧ ∃ run', StuffOk (stuffStep st c) run' := by
  obtain ⟨ht, he, hl⟩ := h
  have hs := ht.snoc c
  have e1 : (if c = st.2.2 then st.2.1 + 1 else 1) = (((if c = st.2.2 then run + 1 else 1 : Nat)) : Int) := by split <;> omega
  have h5 : (if c = st.2.2 then run + 1 else 1 : Nat) ≤ 5 := by split <;> omega
  unfold stuffStep
  rw [e1]
  generalize (if c = st.2.2 then run + 1 else 1 : Nat) = q at *
  by_cases h : q = 5
  · rw [if_pos (by omega), if_pos h]
    refine ⟨rfl, 1, ?_, rfl, by omega⟩
    have hs2 : Trail (st.1 ++ [c]) (st.1 ++ [c]).length q c := by rw [List.length_append]; exact hs
    have h3 := hs2.snoc (97 - c)
    rw [if_neg (by omega)] at h3
    simp only []
    rw [List.length_append]
    exact h3
  · rw [if_neg (by omega), if_neg h]
    refine ⟨rfl, q, ?_, rfl, by omega⟩
    simp only []
    rw [List.length_append]
    exact hs
theorem specStuff_ev (s : ByteArray) (h : s.size < 100000000) : Ev (fun k => spec_Stuff.f k s) (stuffV s) := by
  have hk := okBits_ev s 2000 (by omega)
  unfold stuffV
  by_cases c : s.size ≤ 2000 ∧ isBits s = true
  · rw [if_pos c]
    obtain ⟨hs, hb⟩ := c
    rw [hb, decide_eq_true hs] at hk
    refine Ev.congr (fun k => by unfold spec_Stuff.f; rfl) (Ev.bind hk (ev_pos rfl ?_))
    have loop : ∀ (d i run : Nat), i + d = s.size → StuffOk (stuffTo s i) run → Ev (fun k => spec_Stuff.l0 k s (stuffTo s i).1 (i : Int)) (strOfNums (stuffL (bytesOf s))) := by
      intro d
      induction d with
      | zero =>
        intro i run hi _
        refine Ev.step (f := fun _ => some (strOfNums (stuffL (bytesOf s)))) (fun k => ?_) (Ev.now _)
        simp only [spec_Stuff.l0]
        rw [if_neg (by omega), stuffTo_end s i (by omega)]
      | succ d ih =>
        intro i run hi ho
        have his : i < s.size := by omega
        have hbit := isBit_cases (isBits_at hb his)
        obtain ⟨b, hbe, hb2⟩ : ∃ b : Nat, (s[i]'his).toNat = b ∧ (b = 48 ∨ b = 49) := ⟨_, rfl, by rcases hbit with e | e <;> rw [e] <;> decide⟩
        have hbt : bt s (i : Int) = (b : Int) := by rw [bt_eq s i his, hbe]
        have hst := stuffTo_succ s i his hbe
        have hbd := (stuffTo_bounds s i).1
        have htr := ho.trail.snoc (b : Int)
        have hrl := ho.run_le
        obtain ⟨h1, run', h2⟩ := ho.step (b : Int) (by omega)
        rw [← hst] at h1 h2
        refine Ev.step (f := fun k => spec_Stuff.l0 k s (stuffTo s (i + 1)).1 ((i + 1 : Nat) : Int)) (fun k => ?_) (ih (i + 1) run' (by omega) h2)
        have hdue := due_eq (n := (stuffTo s i).1.length + 1) htr (by split <;> omega) (by omega)
        have hln : (((stuffTo s i).1 ++ [(b : Int)]).length : Int) = (((stuffTo s i).1.length + 1 : Nat) : Int) := by rw [List.length_append]; rfl
        simp only [spec_Stuff.l0]
        rw [if_pos (by omega), if_pos (by omega), if_pos (by omega), hbt, Option.bind_some, hln, hdue, Option.bind_some, w64 (by omega) (by omega), h1]
        by_cases h5 : (if (b : Int) = (stuffTo s i).2.2 then run + 1 else 1) = 5
        · rw [decide_eq_true h5, if_pos rfl, if_pos h5]
          have ho2 : spec_l1other.f (b : Int) = some (97 - (b : Int)) := by
            unfold spec_l1other.f
            rcases hb2 with rfl | rfl <;> rfl
          rw [ho2, Option.bind_some, if_pos (by omega)]
          rfl
        · rw [decide_eq_false h5, if_neg (by decide), if_neg h5]
          rfl
    have h0 := loop s.size 0 0 (by omega) (by rw [stuffTo_zero]; exact StuffOk.zero)
    rw [stuffTo_zero] at h0
    exact h0
  · rw [if_neg c]
    have hf : (decide (s.size ≤ 2000) && isBits s) = false := by
      rw [Bool.and_eq_false_iff]
      by_cases hh : isBits s = true
      · exact .inl (decide_eq_false fun h2 => c ⟨h2, hh⟩)
      · exact .inr (by simpa using hh)
    rw [hf] at hk
    exact Ev.congr (fun k => by unfold spec_Stuff.f; rfl) (Ev.bind hk (ev_neg (show ¬ (false = true) by decide) (Ev.now _)))
end Go.Proofs.Ytogedkkdhonmlaa.P

/- A frame's whole text: the program's is the reference's, and the frame stays. -/
namespace Go.Proofs.Ytogedkkdhonmlaa.Pure
open Go Go.RowKit Go.Proofs.Ytogedkkdhonmlaa.P Go.Proofs.YtogedkkdhonmlaaW.PrintWords
set_option linter.unusedVariables false
theorem one1 : (⟨#[49]⟩ : ByteArray) = strOfNums [49] := rfl
theorem one7 : (⟨#[49, 49, 49, 49, 49, 49, 49]⟩ : ByteArray) = strOfNums [49, 49, 49, 49, 49, 49, 49] := rfl
theorem specEncode_ev {e : Bool} {i : Int} {r : Bool} {d : Int} {l : List Int} (hq : 0 ≤ i ∧ okBytes l = true) : Ev (fun k => spec_Encode.f k e i r d l) (encodeV e i r d l) := by
  have h1 : spec_Body.f e i r d l = some (bodyV e i r d l) := by unfold spec_Body.f; rw [if_pos hq]
  unfold spec_Encode.f
  refine Ev.bind (specValid_ev e i r d l) ?_
  unfold encodeV
  cases hv : validF e i r d l.length with
  | false => exact ev_neg (by decide) (Ev.now _)
  | true =>
    obtain ⟨-, -, -, -, hn8⟩ := valid_parts hv
    have hB : bodyV e i r d l = strOfNums (bodyL e i r d l) := by unfold bodyV; rw [if_pos hv]
    have hbb := bodyL_bits e i r d l
    have hbl := bodyL_length e i r d l hn8
    have hpb := plainL_bits e i r d l
    have hpl := plainL_length e i r d l hn8
    rw [hB] at h1
    refine ev_pos rfl (ev_some h1 ?_)
    unfold plainL at hpb hpl ⊢
    generalize bodyL e i r d l = B at hbb hbl hpb hpl ⊢
    have hc : crcV (strOfNums B) = (crcL B : Int) := by
      unfold crcV
      rw [if_pos ⟨by rw [strOfNums_size]; omega, isBits_str hbb⟩, bytes_str B hbb.range]
    have hE := specCrc15_ev (strOfNums B) (by rw [strOfNums_size]; omega)
    rw [hc] at hE
    have hlt := crcL_lt B
    have hN : Ev (fun k => spec_l1num.f k (crcL B : Int) 15) (strOfNums (numL (crcL B) 15)) := l1num_ev 15 (crcL B) (by omega) (by omega)
    refine Ev.bind hE (Ev.bind hN (ev_pos (by rw [strOfNums_size, strOfNums_size, numL_length]; omega) ?_))
    rw [← str_append]
    generalize B ++ numL (crcL B) 15 = P at hpb hpl ⊢
    have hst : stuffV (strOfNums P) = strOfNums (stuffL P) := by
      unfold stuffV
      rw [if_pos ⟨by rw [strOfNums_size]; omega, isBits_str hpb⟩, bytes_str P hpb.range]
    have hS := specStuff_ev (strOfNums P) (by rw [strOfNums_size]; omega)
    rw [hst] at hS
    have hz := stuffL_len P
    refine Ev.bind hS ?_
    simp only [one1, one7, ← str_append, strOfNums_size, List.length_append, List.length_cons, List.length_nil]
    refine ev_pos (by omega) (ev_pos (by omega) (ev_pos (by omega) (ev_pos (by omega) ?_)))
    rw [if_pos trivial, show stuffL P ++ [49] ++ [49] ++ [49] ++ [49, 49, 49, 49, 49, 49, 49] = stuffL P ++ onesL by simp [onesL]]
    exact Ev.now _
theorem FnExactEncode : laws_FnExactEncode.PureS := by
  rintro ⟨e, i, r, d, l⟩ ⟨_, hi, _, _, hl, hb⟩
  have hq := frame_ok hi hb
  refine Ev.rounds ?_
  unfold laws_FnExactEncode.f
  simp only [] at hl hq ⊢
  have h2 : impl_Encode.f e i r d l = some (encodeV e i r d l) := by unfold impl_Encode.f; rw [if_pos hq]
  refine ev_some (szFrame_eq e i r d l 1048576 hl (by omega) (by omega)) ?_
  by_cases c : (1048576 : Int) < l.length
  · rw [if_pos c]; exact Ev.now _
  · rw [if_neg c]
    have hl2 : l.length ≤ 10000000 := by omega
    have ht := toFrame_ev e i r d l hl2
    refine ev_neg (by omega) (Ev.bind ht (Ev.bind (specEncode_ev hq) (Ev.bind ht (ev_some h2 (ev_pos rfl (Ev.bind ht (Ev.bind (eqFrame_ev e i r d l hl2) (Ev.now _))))))))
end Go.Proofs.Ytogedkkdhonmlaa.Pure
