/- The arbitration bits of a frame: the program's text is the reference's, and the frame stays. -/
import Derived.Test.YtogedkkdhonmlaaBFnExactArb
import Derived.Test.YtogedkkdhonmlaaMFrame
import Derived.Test.YtogedkkdhonmlaaValid
import Derived.Test.YtogedkkdhonmlaaFrame8
import Derived.ChangeKeysEq
import Derived.Test.YtogedkkdhonmlaaF13
namespace Go.Proofs.Ytogedkkdhonmlaa.Pure
open Go Go.RowKit Go.Proofs.Ytogedkkdhonmlaa.P Go.Proofs.YtogedkkdhonmlaaW.PrintWords
set_option linter.unusedVariables false
theorem bodyV_size {e : Bool} {i : Int} {r : Bool} {d : Int} {l : List Int} (hv : validF e i r d l.length = true) : (bodyV e i r d l).size = (headL e i r).length + 4 + 8 * l.length := by
  unfold bodyV
  rw [if_pos hv, strOfNums_size, bodyL, List.length_append, List.length_append, numL_length, dataL_length]
theorem headL_true (i : Int) (r : Bool) : (headL true i r).length = 35 := by simp [headL, numL_length, flagL]
theorem headL_false (i : Int) (r : Bool) : (headL false i r).length = 15 := by simp [headL, numL_length, flagL]
def arbV (e : Bool) (i : Int) (r : Bool) (d : Int) (l : List Int) : ByteArray := if validF e i r d l.length = true then (if e = true then (bodyV e i r d l).extract 1 33 else (bodyV e i r d l).extract 1 14) else ⟨#[]⟩
theorem specArb_ev {e : Bool} {i : Int} {r : Bool} {d : Int} {l : List Int} (hq : 0 ≤ i ∧ okBytes l = true) : Ev (fun k => spec_Arb.f k e i r d l) (arbV e i r d l) := by
  have h1 : spec_Body.f e i r d l = some (bodyV e i r d l) := by unfold spec_Body.f; rw [if_pos hq]
  unfold spec_Arb.f
  refine Ev.bind (specValid_ev e i r d l) ?_
  unfold arbV
  cases hv : validF e i r d l.length with
  | false => exact ev_neg (by decide) (Ev.now _)
  | true =>
    have hs := bodyV_size hv
    refine ev_pos rfl (ev_some h1 ?_)
    cases e with
    | true => rw [headL_true] at hs; exact ev_pos rfl (ev_pos (by omega) (ev_pos (by omega) (Ev.now _)))
    | false => rw [headL_false] at hs; exact ev_neg (by decide) (ev_pos (by omega) (ev_pos (by omega) (Ev.now _)))
theorem implArb_eq {e : Bool} {i : Int} {r : Bool} {d : Int} {l : List Int} (hq : 0 ≤ i ∧ okBytes l = true) : impl_Arb.f e i r d l = some (arbV e i r d l) := by
  have h1 : impl_Body.f e i r d l = some (bodyV e i r d l) := by unfold impl_Body.f; rw [if_pos hq]
  unfold impl_Arb.f
  rw [h1, Option.bind_some]
  unfold arbV
  cases hv : validF e i r d l.length with
  | false =>
    have : bodyV e i r d l = ⟨#[]⟩ := by unfold bodyV; rw [hv]; rfl
    rw [this, if_pos (by rw [ByteArray.toList_eq])]
    rfl
  | true =>
    have hs := bodyV_size hv
    have hne : ¬ (bodyV e i r d l).toList = ([] : List UInt8) := by
      rw [ByteArray.toList_eq]
      intro h
      have h2 : (bodyV e i r d l).size = 0 := by
        have := congrArg List.length h
        rw [Array.length_toList] at this
        exact this
      omega
    rw [if_neg hne]
    cases e with
    | true => rw [headL_true] at hs; rw [if_pos rfl, if_pos (by omega), if_pos (by omega)]; rfl
    | false => rw [headL_false] at hs; rw [if_neg (by decide), if_pos (by omega), if_pos (by omega)]; rfl
theorem FnExactArb : laws_FnExactArb.PureS := by
  rintro ⟨e, i, r, d, l⟩ ⟨_, hi, _, _, hl, hb⟩
  have hq := frame_ok hi hb
  refine Ev.rounds ?_
  unfold laws_FnExactArb.f
  simp only [] at hl hq ⊢
  refine ev_some (szFrame_eq e i r d l 1048576 hl (by omega) (by omega)) ?_
  by_cases c : (1048576 : Int) < l.length
  · rw [if_pos c]; exact Ev.now _
  · rw [if_neg c]
    have hl2 : l.length ≤ 10000000 := by omega
    have ht := toFrame_ev e i r d l hl2
    refine ev_neg (by omega) (Ev.bind ht (Ev.bind (specArb_ev hq) (Ev.bind ht (ev_some (implArb_eq hq) (ev_pos rfl (Ev.bind ht (Ev.bind (eqFrame_ev e i r d l hl2) (Ev.now _))))))))
end Go.Proofs.Ytogedkkdhonmlaa.Pure
