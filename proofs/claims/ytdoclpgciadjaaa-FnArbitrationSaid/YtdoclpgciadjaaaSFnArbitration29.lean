/- Texts of the proof of FnArbitration, joined. -/
import Derived.Test.YtdoclpgciadjaaaSFnArbitration26
import Derived.Test.YtdoclpgciadjaaaSFnArbitration21
import Derived.ChangeKeysEq
import Derived.Test.YtdoclpgciadjaaaSFnArbitration23
import Derived.Test.YtdoclpgciadjaaaSFnArbitration22
import Derived.Deep.Slices
import Derived.Deep.Fields
import Derived.ChangeSame
import Derived.WideShapes
import Derived.Test.YtdoclpgciadjaaaSFnArbitration27
import Derived.Test.YtdoclpgciadjaaaSFnArbitration28
import Derived.Test.YtdoclpgciadjaaaSFnArbitration25
import Derived.Test.YtdoclpgciadjaaaSFnArbitration24
namespace Go.Proofs.Ytdoclpgciadjaaa.P
open Go Go.RowKit Go.Proofs.YtdoclpgciadjaaaW.PrintWords Go.Proofs.YtdoclpgciadjaaaW.PrintLast
set_option linter.unusedVariables false
theorem u64_range (x : Int) : 0 ≤ IntKind.u64.wrap x ∧ IntKind.u64.wrap x < 18446744073709551616 := by rw [IntKind.wrap_u64]; omega
theorem pick_range (X a : Int) (h0 : 0 ≤ X) (h1 : X < 18446744073709551616) (ha : 1 ≤ a) (hb : a ≤ 900000000) : 0 ≤ wrap64 (Int.tmod (X / 8589934592) (IntKind.u64.wrap a)) ∧ wrap64 (Int.tmod (X / 8589934592) (IntKind.u64.wrap a)) < a := by
  rw [show IntKind.u64.wrap a = a by rw [IntKind.wrap_u64]; omega, Int.tmod_eq_emod_of_nonneg (by omega)]
  have h2 := Int.emod_nonneg (X / 8589934592) (show a ≠ 0 by omega)
  have h3 := Int.emod_lt_of_pos (X / 8589934592) (show 0 < a by omega)
  rw [w64 h2 (by omega)]
  exact ⟨h2, h3⟩
theorem n_ex (s0 : List Int) (i s a : Int) (hi : 0 ≤ i) (hi2 : i < 100000000000) (ha : 1 ≤ a) (hb : a ≤ 900000000) : ∃ v s', spec_l1src_n.f s0 i s a = some (v, i + 1, s') ∧ 0 ≤ v ∧ v < a := by
  have hw : wrap64 (i + 1) = i + 1 := by unfold wrap64; omega
  have hn : ¬ IntKind.u64.wrap a = 0 := by rw [IntKind.wrap_u64]; omega
  unfold spec_l1src_n.f
  rw [hw]
  by_cases c : i < (s0.length : Int)
  · rw [if_pos c, if_pos hi]
    by_cases c1 : a ≤ 1
    · rw [if_pos c1]; exact ⟨_, _, rfl, by omega, by omega⟩
    · rw [if_neg c1, if_neg hn]
      refine ⟨_, _, rfl, ?_⟩
      exact pick_range _ a (u64_range _).1 (u64_range _).2 ha hb
  · rw [if_neg c]
    by_cases c1 : a ≤ 1
    · rw [if_pos c1]; exact ⟨_, _, rfl, by omega, by omega⟩
    · rw [if_neg c1, if_neg hn]
      refine ⟨_, _, rfl, ?_⟩
      exact pick_range _ a (u64_range _).1 (u64_range _).2 ha hb
end Go.Proofs.Ytdoclpgciadjaaa.P

namespace Go.Proofs.Ytdoclpgciadjaaa.P
open Go Go.RowKit Go.Proofs.YtdoclpgciadjaaaW.PrintWords Go.Proofs.YtdoclpgciadjaaaW.PrintLast
set_option linter.unusedVariables false
theorem genByte_ex (s0 : List Int) (i s : Int) (hi : 0 ≤ i) (hi2 : i < 1000000000) : ∃ v i' s', spec_l1genByte.f s0 i s = some (v, i', s') ∧ 0 ≤ v ∧ v < 256 ∧ i ≤ i' ∧ i' ≤ i + 2 := by
  unfold spec_l1genByte.f
  obtain ⟨v, s1, e, h1, h2⟩ := n_ex s0 i s 4 hi (by omega) (by omega) (by omega)
  rw [e, Option.bind_some]
  by_cases c : v = 0
  · rw [if_pos c]; exact ⟨_, _, _, rfl, by omega, by omega, by simp only []; omega, by simp only []; omega⟩
  · rw [if_neg c]
    by_cases c1 : v = 1
    · rw [if_pos c1]; exact ⟨_, _, _, rfl, by omega, by omega, by simp only []; omega, by simp only []; omega⟩
    · rw [if_neg c1]
      obtain ⟨q, s2, e2, h3, h4⟩ := n_ex s0 (i + 1) s1 256 (by omega) (by omega) (by omega) (by omega)
      simp only []
      rw [e2, Option.bind_some]
      exact ⟨_, _, _, rfl, by simp only []; omega, by simp only []; omega, by simp only []; omega, by simp only []; omega⟩
theorem genId_ex (s0 : List Int) (i s : Int) (e : Bool) (hi : 0 ≤ i) (hi2 : i < 1000000000) : ∃ v i' s', Ev (fun k => spec_l1genId.f k s0 i s e) (v, i', s') ∧ 0 ≤ v ∧ v < (if e = true then 536870912 else 2048) ∧ i ≤ i' ∧ i' ≤ i + 2 := by
  have key : ∀ top : Int, (top = 536870912 ∨ top = 2048) → ∃ v i' s', Ev (fun k => spec_l1genId.j0 k top s0 i s) (v, i', s') ∧ 0 ≤ v ∧ v < top ∧ i ≤ i' ∧ i' ≤ i + 2 := by
    intro top ht
    obtain ⟨v, s1, e1, h1, h2⟩ := n_ex s0 i s 6 hi (by omega) (by omega) (by omega)
    obtain ⟨q, s2, e2, h3, h4⟩ := n_ex s0 (i + 1) s1 8 (by omega) (by omega) (by omega) (by omega)
    obtain ⟨q3, s3, e3, h5, h6⟩ := n_ex s0 (i + 1) s1 64 (by omega) (by omega) (by omega) (by omega)
    obtain ⟨q4, s4, e4, h7, h8⟩ := n_ex s0 (i + 1) s1 top (by omega) (by omega) (by omega) (by omega)
    have hw : wrap64 (top - 1) = top - 1 := w64 (by omega) (by omega)
    have hw2 : wrap64 (top - 1 - q3) = top - 1 - q3 := w64 (by omega) (by omega)
    by_cases c : v = 0
    · refine ⟨0, i + 1, s1, Ev.step (f := fun _ => some (0, i + 1, s1)) (fun k => ?_) (Ev.now _), by omega, by omega, by omega, by omega⟩
      simp only [spec_l1genId.j0]; rw [e1, Option.bind_some, if_pos c]
    by_cases c1 : v = 1
    · refine ⟨(top - 1) % 4294967296, i + 1, s1, Ev.step (f := fun _ => some ((top - 1) % 4294967296, i + 1, s1)) (fun k => ?_) (Ev.now _), by omega, by omega, by omega, by omega⟩
      simp only [spec_l1genId.j0]; rw [e1, Option.bind_some, if_neg c, if_pos c1, hw]
    by_cases c2 : v = 2
    · refine ⟨q % 4294967296, i + 1 + 1, s2, Ev.step (f := fun _ => some (q % 4294967296, i + 1 + 1, s2)) (fun k => ?_) (Ev.now _), by omega, by omega, by omega, by omega⟩
      simp only [spec_l1genId.j0]; rw [e1, Option.bind_some, if_neg c, if_neg c1, if_pos c2, e2, Option.bind_some]
    by_cases c3 : v = 3
    · refine ⟨(top - 1 - q3) % 4294967296, i + 1 + 1, s3, Ev.step (f := fun _ => some ((top - 1 - q3) % 4294967296, i + 1 + 1, s3)) (fun k => ?_) (Ev.now _), by omega, by omega, by omega, by omega⟩
      simp only [spec_l1genId.j0]; rw [e1, Option.bind_some, if_neg c, if_neg c1, if_neg c2, if_pos c3, e3, Option.bind_some, hw, hw2]
    · refine ⟨q4 % 4294967296, i + 1 + 1, s4, Ev.step (f := fun _ => some (q4 % 4294967296, i + 1 + 1, s4)) (fun k => ?_) (Ev.now _), by omega, by omega, by omega, by omega⟩
      simp only [spec_l1genId.j0]; rw [e1, Option.bind_some, if_neg c, if_neg c1, if_neg c2, if_neg c3, e4, Option.bind_some]
  unfold spec_l1genId.f
  cases e with
  | true =>
    obtain ⟨v, i', s', h, r⟩ := key 536870912 (.inl rfl)
    exact ⟨v, i', s', ev_pos rfl h, r⟩
  | false =>
    obtain ⟨v, i', s', h, r⟩ := key 2048 (.inr rfl)
    exact ⟨v, i', s', ev_neg (by decide) h, r⟩
structure FrIn (i d : Int) (l : List Int) : Prop where
  id0 : 0 ≤ i
  id1 : i < 4294967296
  d0 : -1 ≤ d
  d1 : d ≤ 16
  bytes : okBytes l = true
  len : l.length ≤ 9
theorem okBytes_snoc {l : List Int} (h : okBytes l = true) (v : Int) (h0 : 0 ≤ v) (h1 : v < 256) : okBytes (l ++ [v]) = true := by
  unfold okBytes at h ⊢
  rw [List.all_append, h, Bool.true_and, List.all_cons, List.all_nil, Bool.and_true]
  simp
  omega
theorem genFrame_ex (s0 : List Int) (i s : Int) (hi : 0 ≤ i) (hi2 : i < 100000000) : ∃ e id r d l i' s', Ev (fun k => spec_l1genFrame.f k s0 i s) (e, id, r, d, l, i', s') ∧ FrIn id d l ∧ id < vtop e ∧ 0 ≤ d ∧ d ≤ 15 ∧ (l.length : Int) = dataB r d ∧ i ≤ i' ∧ i' ≤ i + 30 := by
  unfold spec_l1genFrame.f
  obtain ⟨v1, s1, e1, h1, g1⟩ := n_ex s0 i s 2 hi (by omega) (by omega) (by omega)
  obtain ⟨v2, s2, e2, h2, g2⟩ := n_ex s0 (i + 1) s1 4 (by omega) (by omega) (by omega) (by omega)
  obtain ⟨v3, s3, e3, h3, g3⟩ := n_ex s0 (i + 1 + 1) s2 9 (by omega) (by omega) (by omega) (by omega)
  obtain ⟨v4, s4, e4, h4, g4⟩ := n_ex s0 (i + 1 + 1 + 1) s3 6 (by omega) (by omega) (by omega) (by omega)
  obtain ⟨v5, s5, e5, h5, g5⟩ := n_ex s0 (i + 1 + 1 + 1 + 1) s4 16 (by omega) (by omega) (by omega) (by omega)
  have loop : ∀ (E : Bool) (id : Int) (r : Bool) (d n : Int), 0 ≤ n → n ≤ 8 → ∀ (b j : Nat) (p q : Int) (l : List Int), (j : Int) + b = n → l.length = j → okBytes l = true → 0 ≤ p → p + 2 * b ≤ 900000000 → ∃ l' p' q', Ev (fun k => spec_l1genFrame.l0 k n (j : Int) s0 p q E id r d l) (E, id, r, d, l', p', q') ∧ okBytes l' = true ∧ (l'.length : Int) = n ∧ p ≤ p' ∧ p' ≤ p + 2 * b := by
    intro E id r d n hn0 hn8 b
    induction b with
    | zero =>
      intro j p q l hj hl hb hp _
      refine ⟨l, p, q, Ev.step (f := fun _ => some (E, id, r, d, l, p, q)) (fun k => ?_) (Ev.now _), hb, by omega, by omega, by omega⟩
      simp only [spec_l1genFrame.l0]; rw [if_neg (by omega)]
    | succ b ih =>
      intro j p q l hj hl hb hp hp2
      obtain ⟨v, p1, q1, e, k1, k2, k3, k4⟩ := genByte_ex s0 p q hp (by omega)
      obtain ⟨l', p', q', hE, r1, r2, r3, r4⟩ := ih (j + 1) p1 q1 (l ++ [v]) (by omega) (by simp [hl]) (okBytes_snoc hb v k1 k2) (by omega) (by omega)
      refine ⟨l', p', q', Ev.step (f := fun k => spec_l1genFrame.l0 k n ((j + 1 : Nat) : Int) s0 p1 q1 E id r d (l ++ [v])) (fun k => ?_) hE, r1, r2, by omega, by omega⟩
      simp only [spec_l1genFrame.l0]; rw [if_pos (by omega), e, Option.bind_some, if_pos (by omega), w64 (by omega) (by omega)]
      rfl
  have rest : ∀ (E r : Bool) (d p q : Int), 0 ≤ d → d ≤ 15 → 0 ≤ p → p ≤ 800000000 → ∃ id l i' s', Ev (fun k => spec_l1genFrame.j0 k s0 p q E 0 r d []) (E, id, r, d, l, i', s') ∧ FrIn id d l ∧ id < vtop E ∧ (l.length : Int) = dataB r d ∧ p ≤ i' ∧ i' ≤ p + 20 := by
    intro E r d p q hd0 hd1 hp hp2
    obtain ⟨id, p1, q1, hE, k1, k2, k3, k4⟩ := genId_ex s0 p q E hp (by omega)
    have hdl : spec_l1dataLen.f E id r d [] = some (dataB r d) := by
      by_cases c : 8 < d
      · cases r <;> simp [spec_l1dataLen.f, dataB, c]
      · cases r <;> simp [spec_l1dataLen.f, dataB, c]
    have hb8 : 0 ≤ dataB r d ∧ dataB r d ≤ 8 := by unfold dataB; split <;> (try split) <;> omega
    obtain ⟨l', p', q', hL, r1, r2, r3, r4⟩ := loop E id r d (dataB r d) hb8.1 hb8.2 (dataB r d).toNat 0 p1 q1 [] (by omega) rfl rfl (by omega) (by omega)
    refine ⟨id, l', p', q', Ev.step (f := fun k => (spec_l1genId.f k s0 p q E).bind fun bt298 => ((spec_l1dataLen.f E bt298.1 r d []).bind fun t301 => (spec_l1genFrame.l0 k t301 0 s0 bt298.2.1 bt298.2.2 E bt298.1 r d []))) (fun k => ?_) (Ev.bind hE (ev_some hdl hL)), ⟨k1, ?_, by omega, by omega, r1, by omega⟩, k2, r2, by omega, by omega⟩
    · simp only [spec_l1genFrame.j0]
    · cases E <;> simp at k2 <;> omega
  by_cases c : v4 = 0
  · obtain ⟨id, l, i', s', hE, hf, hv, hl, r3, r4⟩ := rest (v1 == 1) (v2 == 0) v5 (i + 1 + 1 + 1 + 1 + 1) s5 h5 (by omega) (by omega) (by omega)
    exact ⟨_, id, _, _, l, i', s', ev_some e1 (ev_some e2 (ev_some e3 (ev_some rfl (ev_some e4 (ev_pos c (ev_some e5 hE)))))), hf, hv, h5, by omega, hl, by omega, by omega⟩
  · obtain ⟨id, l, i', s', hE, hf, hv, hl, r3, r4⟩ := rest (v1 == 1) (v2 == 0) v3 (i + 1 + 1 + 1 + 1) s4 h3 (by omega) (by omega) (by omega)
    exact ⟨_, id, _, _, l, i', s', ev_some e1 (ev_some e2 (ev_some e3 (ev_some rfl (ev_some e4 (ev_neg c hE))))), hf, hv, h3, by omega, hl, by omega, by omega⟩
theorem vtop_le (e : Bool) : vtop e ≤ 536870912 := by cases e <;> decide
theorem genAny_ex (s0 : List Int) (i s : Int) (hi : 0 ≤ i) (hi2 : i < 100000000) : ∃ e id r d l i' s', Ev (fun k => spec_l1genAny.f k s0 i s) (e, id, r, d, l, i', s') ∧ FrIn id d l ∧ i ≤ i' ∧ i' ≤ i + 32 := by
  unfold spec_l1genAny.f
  obtain ⟨e, id, r, d, l, i1, s1, hE, hf, hv, hd0, hd1, hl, k1, k2⟩ := genFrame_ex s0 i s hi hi2
  obtain ⟨v1, s2, e1, h1, g1⟩ := n_ex s0 i1 s1 5 (by omega) (by omega) (by omega) (by omega)
  have hl8 : l.length ≤ 8 := by
    have : dataB r d ≤ 8 := by unfold dataB; split <;> (try split) <;> omega
    omega
  have f0 := hf.id0; have f1 := hf.id1; have f2 := hf.bytes
  by_cases c : v1 = 0
  · obtain ⟨v2, s3, e2, h2, g2⟩ := n_ex s0 (i1 + 1) s2 6 (by omega) (by omega) (by omega) (by omega)
    by_cases c0 : v2 = 0
    · exact ⟨_, _, _, _, _, _, _, Ev.bind hE (ev_some e1 (ev_pos c (ev_some e2 (ev_pos c0 (Ev.now _))))), ⟨f0, f1, by (try dsimp only); omega, by (try dsimp only); omega, f2, by (try dsimp only); omega⟩, by simp only []; omega, by simp only []; omega⟩
    by_cases c1 : v2 = 1
    · exact ⟨_, _, _, _, _, _, _, Ev.bind hE (ev_some e1 (ev_pos c (ev_some e2 (ev_neg c0 (ev_pos c1 (Ev.now _)))))), ⟨f0, f1, by (try dsimp only); omega, by (try dsimp only); omega, f2, by (try dsimp only); omega⟩, by simp only []; omega, by simp only []; omega⟩
    by_cases c2 : v2 = 2
    · exact ⟨_, _, _, _, _, _, _, Ev.bind hE (ev_some e1 (ev_pos c (ev_some e2 (ev_neg c0 (ev_neg c1 (ev_pos c2 (ev_pos (by (try dsimp only); omega) (Ev.now _)))))))), ⟨f0, f1, by (try dsimp only); omega, by (try dsimp only); omega, okBytes_snoc f2 1 (by (try dsimp only); omega) (by (try dsimp only); omega), by simp; omega⟩, by simp only []; omega, by simp only []; omega⟩
    by_cases c3 : v2 = 3
    · exact ⟨_, _, _, _, _, _, _, Ev.bind hE (ev_some e1 (ev_pos c (ev_some e2 (ev_neg c0 (ev_neg c1 (ev_neg c2 (ev_pos c3 (Ev.now _)))))))), ⟨by (try dsimp only); omega, by (try dsimp only); omega, by (try dsimp only); omega, by (try dsimp only); omega, f2, by (try dsimp only); omega⟩, by simp only []; omega, by simp only []; omega⟩
    by_cases c4 : v2 = 4
    · exact ⟨_, _, _, _, _, _, _, Ev.bind hE (ev_some e1 (ev_pos c (ev_some e2 (ev_neg c0 (ev_neg c1 (ev_neg c2 (ev_neg c3 (ev_pos c4 (Ev.now _))))))))), ⟨by (try dsimp only); omega, by (try dsimp only); omega, by (try dsimp only); omega, by (try dsimp only); omega, f2, by (try dsimp only); omega⟩, by simp only []; omega, by simp only []; omega⟩
    by_cases c5 : v2 = 5
    · exact ⟨_, _, _, _, _, _, _, Ev.bind hE (ev_some e1 (ev_pos c (ev_some e2 (ev_neg c0 (ev_neg c1 (ev_neg c2 (ev_neg c3 (ev_neg c4 (ev_pos c5 (Ev.now _)))))))))), ⟨f0, f1, by (try dsimp only); omega, by (try dsimp only); omega, f2, by (try dsimp only); omega⟩, by simp only []; omega, by simp only []; omega⟩
    · exact ⟨_, _, _, _, _, _, _, Ev.bind hE (ev_some e1 (ev_pos c (ev_some e2 (ev_neg c0 (ev_neg c1 (ev_neg c2 (ev_neg c3 (ev_neg c4 (ev_neg c5 (Ev.now _)))))))))), ⟨f0, f1, by (try dsimp only); omega, by (try dsimp only); omega, f2, by (try dsimp only); omega⟩, by simp only []; omega, by simp only []; omega⟩
  · exact ⟨_, _, _, _, _, _, _, Ev.bind hE (ev_some e1 (ev_neg c (Ev.now _))), ⟨f0, f1, by (try dsimp only); omega, by (try dsimp only); omega, f2, by (try dsimp only); omega⟩, by simp only []; omega, by simp only []; omega⟩
end Go.Proofs.Ytdoclpgciadjaaa.P

namespace Go.Proofs.Ytdoclpgciadjaaa.P
open Go Go.RowKit Go.Deep Go.Proofs.YtdoclpgciadjaaaW.PrintWords
set_option linter.unusedVariables false
end Go.Proofs.Ytdoclpgciadjaaa.P

namespace Go.Proofs.Ytdoclpgciadjaaa.P
open Go Go.RowKit Go.Proofs.YtdoclpgciadjaaaW.PrintWords
theorem okBytes_of {l : List Int} (h : ∀ y ∈ l, (Lit.int .u8 y).wf = true) : okBytes l = true := by
  unfold okBytes
  rw [List.all_eq_true]
  intro x hx
  have := h x hx
  simp [Lit.wf, show IntKind.u8.min = 0 from rfl, show IntKind.u8.max = 255 from rfl] at this ⊢
  omega
end Go.Proofs.Ytdoclpgciadjaaa.P

namespace Go.Proofs.Ytdoclpgciadjaaa.P
open Go Go.RowKit Go.Proofs.YtdoclpgciadjaaaW.PrintWords
set_option linter.unusedVariables false
theorem bodyV_size {e : Bool} {i : Int} {r : Bool} {d : Int} {l : List Int} (hv : validF e i r d l.length = true) : (bodyV e i r d l).size = (headL e i r).length + 4 + 8 * l.length := by
  unfold bodyV
  rw [if_pos hv, strOfNums_size, bodyL, List.length_append, List.length_append, numL_length, dataL_length]
theorem headL_true (i : Int) (r : Bool) : (headL true i r).length = 35 := by simp [headL, numL_length, flagL]
theorem headL_false (i : Int) (r : Bool) : (headL false i r).length = 15 := by simp [headL, numL_length, flagL]
def arbV (e : Bool) (i : Int) (r : Bool) (d : Int) (l : List Int) : ByteArray := if validF e i r d l.length = true then (if e = true then (bodyV e i r d l).extract 1 33 else (bodyV e i r d l).extract 1 14) else ⟨#[]⟩
theorem specArb_ev {e : Bool} {i : Int} {r : Bool} {d : Int} {l : List Int} (hq : 0 ≤ i ∧ okBytes l = true) : Ev (fun k => spec_Arb.f k e i r d l) (arbV e i r d l) := by
  have h1 : spec_Body.f e i r d l = some (bodyV e i r d l) := by unfold spec_Body.f; rw [if_pos hq]
  unfold spec_Arb.f
  refine Ev.bind (specValid_ev e i r d l) ?_
  unfold arbV
  cases hv : validF e i r d l.length with
  | false => exact ev_neg (by decide) (Ev.now _)
  | true =>
    have hs := bodyV_size hv
    refine ev_pos rfl (ev_some h1 ?_)
    cases e with
    | true => rw [headL_true] at hs; exact ev_pos rfl (ev_pos (by omega) (ev_pos (by omega) (Ev.now _)))
    | false => rw [headL_false] at hs; exact ev_neg (by decide) (ev_pos (by omega) (ev_pos (by omega) (Ev.now _)))
theorem implArb_eq {e : Bool} {i : Int} {r : Bool} {d : Int} {l : List Int} (hq : 0 ≤ i ∧ okBytes l = true) : impl_Arb.f e i r d l = some (arbV e i r d l) := by
  have h1 : impl_Body.f e i r d l = some (bodyV e i r d l) := by unfold impl_Body.f; rw [if_pos hq]
  unfold impl_Arb.f
  rw [h1, Option.bind_some]
  unfold arbV
  cases hv : validF e i r d l.length with
  | false =>
    have : bodyV e i r d l = ⟨#[]⟩ := by unfold bodyV; rw [hv]; rfl
    rw [this, if_pos (by rw [ByteArray.toList_eq])]
    rfl
  | true =>
    have hs := bodyV_size hv
    have hne : ¬ (bodyV e i r d l).toList = ([] : List UInt8) := by
      rw [ByteArray.toList_eq]
      intro h
      have h2 : (bodyV e i r d l).size = 0 := by
        have := congrArg List.length h
        rw [Array.length_toList] at this
        exact this
      omega
    rw [if_neg hne]
    cases e with
    | true => rw [headL_true] at hs; rw [if_pos rfl, if_pos (by omega), if_pos (by omega)]; rfl
    | false => rw [headL_false] at hs; rw [if_neg (by decide), if_pos (by omega), if_pos (by omega)]; rfl
end Go.Proofs.Ytdoclpgciadjaaa.P

namespace Go.Proofs.Ytdoclpgciadjaaa.P
open Go Go.RowKit Go.Proofs.YtdoclpgciadjaaaW.PrintWords
set_option linter.unusedVariables false
theorem parts_or (A B : List Int) : (∃ p a b X Y, A = p ++ a :: X ∧ B = p ++ b :: Y ∧ a ≠ b) ∨ (∃ X, B = A ++ X) ∨ (∃ X, A = B ++ X) := by
  induction A generalizing B with
  | nil => exact .inr (.inl ⟨B, rfl⟩)
  | cons a A ih =>
    cases B with
    | nil => exact .inr (.inr ⟨a :: A, rfl⟩)
    | cons b B =>
      by_cases h : a = b
      · subst h
        rcases ih B with ⟨p, x, y, X, Y, h1, h2, h3⟩ | ⟨X, h1⟩ | ⟨X, h1⟩
        · exact .inl ⟨a :: p, x, y, X, Y, by rw [h1]; rfl, by rw [h2]; rfl, h3⟩
        · exact .inr (.inl ⟨X, by rw [h1]; rfl⟩)
        · exact .inr (.inr ⟨X, by rw [h1]; rfl⟩)
      · exact .inl ⟨[], a, b, A, B, rfl, rfl, h⟩
theorem stuffStep_out (st : List Int × Int × Int) (c : Int) : ∃ X, (stuffStep st c).1 = st.1 ++ c :: X := by
  unfold stuffStep
  by_cases h : (if c = st.2.2 then st.2.1 + 1 else 1) = 5
  · rw [if_pos h]; exact ⟨[97 - c], by simp⟩
  · rw [if_neg h]; exact ⟨[], rfl⟩
theorem stuff_fold (l : List Int) : ∀ st : List Int × Int × Int, ∃ X, (l.foldl stuffStep st).1 = st.1 ++ X := by
  induction l with
  | nil => intro st; exact ⟨[], by simp⟩
  | cons c l ih =>
    intro st
    obtain ⟨X, h⟩ := ih (stuffStep st c)
    obtain ⟨Y, h2⟩ := stuffStep_out st c
    exact ⟨c :: Y ++ X, by rw [List.foldl_cons, h, h2, List.append_assoc]⟩
theorem stuff_parts (p : List Int) (a : Int) (X : List Int) : ∃ Y, stuffL (p ++ a :: X) = stuffL p ++ a :: Y := by
  unfold stuffL
  rw [List.foldl_append, List.foldl_cons]
  obtain ⟨Y, h⟩ := stuff_fold X (stuffStep (p.foldl stuffStep ([], 0, 120)) a)
  obtain ⟨Z, h2⟩ := stuffStep_out (p.foldl stuffStep ([], 0, 120)) a
  exact ⟨Z ++ Y, by rw [h, h2, List.append_assoc]; rfl⟩
def arbN (e : Bool) : Nat := if e = true then 32 else 13
def arbL (e : Bool) (i : Int) (r : Bool) (d : Int) (l : List Int) : List Int := ((bodyL e i r d l).drop 1).take (arbN e)
theorem bodyL_len (e : Bool) (i : Int) (r : Bool) (d : Int) (l : List Int) : arbN e + 1 ≤ (bodyL e i r d l).length := by
  unfold bodyL
  rw [List.length_append, List.length_append, numL_length]
  cases e
  · rw [headL_false]; simp [arbN]; omega
  · rw [headL_true]; simp [arbN]; omega
theorem arbL_length (e : Bool) (i : Int) (r : Bool) (d : Int) (l : List Int) : (arbL e i r d l).length = arbN e := by
  have := bodyL_len e i r d l
  unfold arbL
  rw [List.length_take, List.length_drop]
  omega
theorem body_arb (e : Bool) (i : Int) (r : Bool) (d : Int) (l : List Int) : bodyL e i r d l = 48 :: (arbL e i r d l ++ (bodyL e i r d l).drop (arbN e + 1)) := by
  have h : ∃ X, bodyL e i r d l = 48 :: X := by cases e <;> exact ⟨_, rfl⟩
  obtain ⟨X, h⟩ := h
  unfold arbL
  rw [h, List.drop_succ_cons, List.drop_zero, List.drop_succ_cons, List.take_append_drop]
theorem arbL_mark (e : Bool) (i : Int) (r : Bool) (d : Int) (l : List Int) : (arbL e i r d l)[12]? = some (if e = true then 49 else 48) := by
  have h : (bodyL e i r d l)[13]? = some (if e = true then 49 else 48) := by cases e <;> rfl
  rw [body_arb, List.getElem?_cons_succ, List.getElem?_append_left (by rw [arbL_length]; cases e <;> decide)] at h
  exact h
theorem arbV_str {e : Bool} {i : Int} {r : Bool} {d : Int} {l : List Int} (hv : validF e i r d l.length = true) : arbV e i r d l = strOfNums (arbL e i r d l) := by
  unfold arbV bodyV
  rw [if_pos hv, if_pos hv]
  cases e
  · rw [if_neg (by decide), str_extract _ _ _ (by decide)]; rfl
  · rw [if_pos rfl, str_extract _ _ _ (by decide)]; rfl
theorem arbL_bits (e : Bool) (i : Int) (r : Bool) (d : Int) (l : List Int) : Bits (arbL e i r d l) := fun x hx => bodyL_bits e i r d l x (List.mem_of_mem_drop (List.mem_of_mem_take hx))
theorem arb_parts {e : Bool} {i : Int} {r : Bool} {d : Int} {l : List Int} {e' : Bool} {i' : Int} {r' : Bool} {d' : Int} {l' : List Int} (h : arbL e i r d l ≠ arbL e' i' r' d' l') : ∃ p a b X Y, arbL e i r d l = p ++ a :: X ∧ arbL e' i' r' d' l' = p ++ b :: Y ∧ a ≠ b := by
  have h1 := arbL_length e i r d l
  have h2 := arbL_length e' i' r' d' l'
  have m1 := arbL_mark e i r d l
  have m2 := arbL_mark e' i' r' d' l'
  rcases parts_or (arbL e i r d l) (arbL e' i' r' d' l') with hp | ⟨X, hX⟩ | ⟨X, hX⟩
  · exact hp
  · rw [hX, List.getElem?_append_left (by rw [h1]; cases e <;> decide), m1] at m2
    have he : e = e' := by cases e <;> cases e' <;> simp_all
    subst he
    rw [hX, List.length_append] at h2
    have : X = [] := List.eq_nil_of_length_eq_zero (by omega)
    rw [this, List.append_nil] at hX
    exact absurd hX.symm h
  · rw [hX, List.getElem?_append_left (by rw [h2]; cases e' <;> decide), m2] at m1
    have he : e = e' := by cases e <;> cases e' <;> simp_all
    subst he
    rw [hX, List.length_append] at h1
    have : X = [] := List.eq_nil_of_length_eq_zero (by omega)
    rw [this, List.append_nil] at hX
    exact absurd hX h
theorem stuffB_fold (l : List Int) (hl : Bits l) : ∀ st : List Int × Int × Int, Bits st.1 → Bits (l.foldl stuffStep st).1 := by
  induction l with
  | nil => intro st h; exact h
  | cons c l ih =>
    intro st h
    rw [List.foldl_cons]
    refine ih (fun x hx => hl x (List.mem_cons_of_mem _ hx)) _ ?_
    have hc := hl c List.mem_cons_self
    unfold stuffStep
    by_cases h5 : (if c = st.2.2 then st.2.1 + 1 else 1) = 5
    · rw [if_pos h5]
      refine (h.append ?_).append ?_
      · intro x hx; rw [List.mem_singleton] at hx; rw [hx]; exact hc
      · intro x hx; rw [List.mem_singleton] at hx; rw [hx]; omega
    · rw [if_neg h5]
      refine h.append ?_
      intro x hx; rw [List.mem_singleton] at hx; rw [hx]; exact hc
theorem stuffB {l : List Int} (h : Bits l) : Bits (stuffL l) := stuffB_fold l h _ (fun x hx => by cases hx)
theorem ones_bits : Bits onesL := by intro x hx; simp [onesL] at hx; omega
theorem image_parts {e : Bool} {i : Int} {r : Bool} {d : Int} {l : List Int} {p X : List Int} {a : Int} (hv : validF e i r d l.length = true) (h : arbL e i r d l = p ++ a :: X) : ∃ Y, encodeV e i r d l = strOfNums (stuffL (48 :: p) ++ a :: Y) ∧ (∀ x ∈ stuffL (48 :: p) ++ a :: Y, 0 ≤ x ∧ x < 256) ∧ (stuffL (48 :: p) ++ a :: Y).length ≤ 1000 := by
  obtain ⟨-, -, -, -, hn8⟩ := valid_parts hv
  have hbits := (stuffB (plainL_bits e i r d l)).append ones_bits
  have hlen := stuffL_len (plainL e i r d l)
  have hpl := plainL_length e i r d l hn8
  unfold encodeV
  rw [if_pos hv]
  have key : ∃ Y, stuffL (plainL e i r d l) = stuffL (48 :: p) ++ a :: Y := by
    unfold plainL
    rw [body_arb, h]
    obtain ⟨Y, hY⟩ := stuff_parts (48 :: p) a (X ++ ((bodyL e i r d l).drop (arbN e + 1) ++ numL (crcL (48 :: (p ++ a :: X ++ (bodyL e i r d l).drop (arbN e + 1)))) 15))
    exact ⟨Y, by rw [← hY]; simp⟩
  obtain ⟨Y, hY⟩ := key
  rw [hY] at hbits hlen
  have e1 : stuffL (48 :: p) ++ a :: Y ++ onesL = stuffL (48 :: p) ++ a :: (Y ++ onesL) := by simp
  rw [hY, e1]
  rw [e1] at hbits
  refine ⟨Y ++ onesL, rfl, hbits.range, ?_⟩
  rw [← e1, List.length_append]
  simp only [onesL, List.length_cons, List.length_nil]
  omega
theorem bits_at {p X : List Int} {a : Int} (h : Bits (p ++ a :: X)) : a = 48 ∨ a = 49 := h a (by simp)
theorem less_parts (p X Y : List Int) (a b : Int) (ha : a = 48 ∨ a = 49) (hb : b = 48 ∨ b = 49) (h : a ≠ b) : Op.bytesLess (strOfNums (p ++ a :: X)).toList (strOfNums (p ++ b :: Y)).toList = (a == 48) := by
  rw [ByteArray.toList_eq, ByteArray.toList_eq, strOfNums_data, strOfNums_data, List.map_append, List.map_append, List.map_cons, List.map_cons]
  generalize List.map (fun n => UInt8.ofNat n.toNat) p = q
  induction q with
  | nil =>
    rcases ha with rfl | rfl <;> rcases hb with rfl | rfl
    · exact absurd rfl h
    · rfl
    · rfl
    · exact absurd rfl h
  | cons c q ih =>
    rw [List.cons_append, List.cons_append, Op.bytesLess, ih, beq_self_eq_true, Bool.true_and]
    have : decide (c < c) = false := by simp
    rw [this, Bool.false_or]
end Go.Proofs.Ytdoclpgciadjaaa.P

namespace Go.Proofs.Ytdoclpgciadjaaa.Pure
open Go Go.RowKit Go.Proofs.Ytdoclpgciadjaaa.P Go.Proofs.YtdoclpgciadjaaaW.PrintWords Go.Proofs.YtdoclpgciadjaaaW.PrintLast Go.Proofs.YtdoclpgciadjaaaW.PrintMore
set_option linter.unusedVariables false
theorem wByte_ex (l : List Int) (hl : l.length ≤ 10000000) (hb : okBytes l = true) (i : Int) (h0 : 0 ≤ i) (h1 : i < 1000) : ∃ v, laws_wByte.f l i = some v ∧ 0 ≤ v ∧ v < 256 := by
  unfold laws_wByte.f
  by_cases c : (l.length : Int) = 0
  · rw [if_pos c]
    refine ⟨_, rfl, ?_⟩
    rw [w64 (by omega) (by omega), Int.tmod_eq_emod_of_nonneg (by omega)]
    omega
  · rw [if_neg c, Int.tmod_eq_emod_of_nonneg h0]
    have h2 := Int.emod_nonneg i c
    have h3 := Int.emod_lt_of_pos i (show 0 < (l.length : Int) by omega)
    rw [if_pos h2, if_pos h3]
    obtain ⟨j, hj⟩ : ∃ j : Nat, i % (l.length : Int) = (j : Int) := ⟨(i % (l.length : Int)).toNat, by omega⟩
    rw [hj]
    obtain ⟨h4, h5⟩ := okBytes_at hb j (by omega)
    exact ⟨_, rfl, by rw [w64 h4 (by omega)]; exact ⟨h4, h5⟩⟩
theorem drawArb_ex (l : List Int) (hl : l.length ≤ 10000000) : ∃ e id r d x, Ev (fun k => spec_DrawArb.f k l) (e, id, r, d, x) ∧ FrIn id d x := by
  unfold spec_DrawArb.f spec_l1new.f
  obtain ⟨e, id, r, d, x, i', s', hE, hf, -⟩ := genAny_ex l 0 (IntKind.u64.wrap ((IntKind.u64.wrap ((l.length : Int))) + 77)) (by omega) (by omega)
  exact ⟨e, id, r, d, x, ev_some rfl (Ev.bind hE (Ev.now _)), hf⟩
structure Good (e : Bool) (i : Int) (r : Bool) (d : Int) (l : List Int) : Prop where
  ok : 0 ≤ i ∧ okBytes l = true
  valid : validF e i r d l.length = true
theorem good_zero (e : Bool) (i : Int) (r : Bool) (h0 : 0 ≤ i) (h1 : i < vtop e) : Good e i r 0 [] := by
  refine ⟨⟨h0, rfl⟩, ?_⟩
  unfold validF
  rw [decide_eq_true h1, decide_eq_true (by omega : (0 : Int) ≤ 0), decide_eq_true (by omega : (0 : Int) ≤ 15)]
  cases r <;> rfl
theorem bits_xor_u32 (a b : Nat) (ha : a < 2 ^ 32) (hb : b < 2 ^ 32) : Go.bits .xor .u32 (a : Int) (b : Int) = ((a ^^^ b : Nat) : Int) := by
  have ha' : a % 2 ^ IntKind.u32.bits = a := Nat.mod_eq_of_lt ha
  have hb' : b % 2 ^ IntKind.u32.bits = b := Nat.mod_eq_of_lt hb
  simp only [Go.bits, BitVec.ofInt_natCast, BitVec.toNat_xor, BitVec.toNat_ofNat, ha', hb']
  have h := Nat.xor_lt_two_pow ha hb
  rw [IntKind.wrap_u32]
  omega
theorem xor_lt (x : Int) (k : Nat) (e : Bool) (h0 : 0 ≤ x) (h1 : x < vtop e) (hk : k < 11) : 0 ≤ Go.bits .xor .u32 x (shl .u32 1 (k : Int)) ∧ Go.bits .xor .u32 x (shl .u32 1 (k : Int)) < vtop e := by
  have hs : shl .u32 1 (k : Int) = ((2 ^ k : Nat) : Int) := by
    have : ∀ j : Fin 11, shl .u32 1 ((j.val : Nat) : Int) = ((2 ^ j.val : Nat) : Int) := by decide
    exact this ⟨k, hk⟩
  obtain ⟨n, rfl⟩ : ∃ n : Nat, x = (n : Int) := ⟨x.toNat, by omega⟩
  have hp : 2 ^ k < 2048 := by
    have := Nat.pow_lt_pow_right (a := 2) (by decide) hk
    exact this
  have ht : vtop e = ((2 ^ (if e = true then 29 else 11) : Nat) : Int) := by cases e <;> rfl
  rw [hs]
  have hn : n < 2 ^ (if e = true then 29 else 11) := by rw [ht] at h1; omega
  have hp2 : 2 ^ k < 2 ^ (if e = true then 29 else 11) := Nat.pow_lt_pow_right (by decide) (by cases e <;> simp <;> omega)
  have hx := Nat.xor_lt_two_pow hn hp2
  have hle : (2 : Nat) ^ (if e = true then 29 else 11) ≤ 2 ^ 32 := Nat.pow_le_pow_right (by decide) (by cases e <;> decide)
  have he : Go.bits .xor .u32 (n : Int) ((2 ^ k : Nat) : Int) = ((n ^^^ 2 ^ k : Nat) : Int) := bits_xor_u32 n (2 ^ k) (by omega) (by omega)
  rw [he, ht]
  omega
theorem good_of {e : Bool} {i : Int} {r : Bool} {d : Int} {l : List Int} (h : FrIn i d l) (hv : validF e i r d l.length = true) : Good e i r d l := ⟨⟨h.id0, h.bytes⟩, hv⟩
theorem wPair_ex (l0 l1 : List Int) (h0 : l0.length ≤ 10000000) (h1 : l1.length ≤ 10000000) (b0 : okBytes l0 = true) (b1 : okBytes l1 = true) :
    ∃ e i r d l e' i' r' d' l', Ev (fun k => laws_wPair.f k l0 l1) (e, i, r, d, l, e', i', r', d', l') ∧ Good e i r d l ∧ Good e' i' r' d' l' := by
  obtain ⟨e, i, r, d, l, hE, hf⟩ := drawArb_ex l0 h0
  obtain ⟨e', i', r', d', l', hE', hf'⟩ := drawArb_ex l1 h1
  obtain ⟨v, hv, v0, v1⟩ := wByte_ex l0 h0 b0 0 (by omega) (by omega)
  obtain ⟨u, hu, u0, u1⟩ := wByte_ex l1 h1 b1 0 (by omega) (by omega)
  obtain ⟨q, hq, q0, q1⟩ := wByte_ex l1 h1 b1 1 (by omega) (by omega)
  have hV := specValid_ev e i r d l
  have hV' := specValid_ev e' i' r' d' l'
  have rest1 : ∀ (e : Bool) (i : Int) (r : Bool) (d : Int) (l : List Int) (e' : Bool) (i' : Int) (r' : Bool) (d' : Int) (l' : List Int), Good e i r d l → Good e' i' r' d' l' →
      ∃ e2 i2 r2 d2 l2, Ev (fun k => laws_wPair.j1 k l1 e i r d l e' i' r' d' l') (e, i, r, d, l, e2, i2, r2, d2, l2) ∧ Good e2 i2 r2 d2 l2 := by
    intro e i r d l e' i' r' d' l' hg hg'
    obtain ⟨a1, -, -, -, -⟩ := valid_parts hg.valid
    have a0 := hg.ok.1
    have ht : vtop e ≤ 536870912 := vtop_le e
    by_cases c0 : Int.tmod u 4 = 0
    · refine ⟨e, i, !r, 0, [], Ev.step (f := fun _ => some (e, i, r, d, l, e, i, !r, 0, [])) (fun k => ?_) (Ev.now _), good_zero e i _ a0 a1⟩
      simp only [laws_wPair.j1]; rw [hu, Option.bind_some, if_pos c0]
    by_cases c1 : Int.tmod u 4 = 1
    · cases e with
      | true =>
        have a2 : i < 536870912 := a1
        refine ⟨false, i / 262144, r', 0, [], Ev.step (f := fun _ => some (true, i, r, d, l, false, i / 262144, r', 0, [])) (fun k => ?_) (Ev.now _), good_zero false _ _ (by omega) (show i / 262144 < 2048 by omega)⟩
        simp only [laws_wPair.j1]; rw [hu, Option.bind_some, if_neg c0, if_pos c1]; rfl
      | false =>
        have a2 : i < 2048 := a1
        refine ⟨true, (i * 262144) % 4294967296, r', 0, [], Ev.step (f := fun _ => some (false, i, r, d, l, true, (i * 262144) % 4294967296, r', 0, [])) (fun k => ?_) (Ev.now _), good_zero true _ _ (by omega) (show (i * 262144) % 4294967296 < 536870912 by omega)⟩
        simp only [laws_wPair.j1]; rw [hu, Option.bind_some, if_neg c0, if_pos c1]; rfl
    by_cases c2 : Int.tmod u 4 = 2
    · have hm : Int.tmod q 11 = ((q % 11).toNat : Int) := by rw [Int.tmod_eq_emod_of_nonneg q0]; omega
      have hk : (q % 11).toNat < 11 := by omega
      have hw : IntKind.u64.wrap ((q % 11).toNat : Int) = ((q % 11).toNat : Int) := by rw [IntKind.wrap_u64]; omega
      obtain ⟨x0, x1⟩ := xor_lt i (q % 11).toNat e a0 a1 hk
      refine ⟨e, Go.bits .xor .u32 i (shl .u32 1 ((q % 11).toNat : Int)), r, 0, [], Ev.step (f := fun _ => some (e, i, r, d, l, e, Go.bits .xor .u32 i (shl .u32 1 ((q % 11).toNat : Int)), r, 0, [])) (fun k => ?_) (Ev.now _), good_zero e _ _ x0 x1⟩
      simp only [laws_wPair.j1]; rw [hu, Option.bind_some, if_neg c0, if_neg c1, if_pos c2, hq, Option.bind_some, hm, hw, if_pos (by omega)]
    · refine ⟨e', i', r', d', l', Ev.step (f := fun _ => some (e, i, r, d, l, e', i', r', d', l')) (fun k => ?_) (Ev.now _), hg'⟩
      simp only [laws_wPair.j1]; rw [hu, Option.bind_some, if_neg c0, if_neg c1, if_neg c2]
  have rest0 : ∀ (e : Bool) (i : Int) (r : Bool) (d : Int) (l : List Int), Good e i r d l →
      ∃ e2 i2 r2 d2 l2, Ev (fun k => laws_wPair.j0 k l1 e i r d l e' i' r' d' l') (e, i, r, d, l, e2, i2, r2, d2, l2) ∧ Good e2 i2 r2 d2 l2 := by
    intro e i r d l hg
    cases hv' : validF e' i' r' d' l'.length with
    | true =>
      rw [hv'] at hV'
      obtain ⟨e2, i2, r2, d2, l2, hR, hG⟩ := rest1 e i r d l e' i' r' d' l' hg (good_of hf' hv')
      refine ⟨e2, i2, r2, d2, l2, Ev.step (f := fun k => (spec_ValidFrame.f k e' i' r' d' l').bind fun t363 => (if t363 = true then (laws_wPair.j1 k l1 e i r d l e' i' r' d' l') else ((laws_wByte.f l1 0).bind fun t364 => (laws_wPair.j1 k l1 e i r d l true ((t364) % 4294967296) false 0 ([] : List Int))))) (fun k => ?_) (Ev.bind hV' (ev_pos rfl hR)), hG⟩
      simp only [laws_wPair.j0]
    | false =>
      rw [hv'] at hV'
      obtain ⟨e2, i2, r2, d2, l2, hR, hG⟩ := rest1 e i r d l true (u % 4294967296) false 0 [] hg (good_zero true _ _ (by omega) (show u % 4294967296 < 536870912 by omega))
      refine ⟨e2, i2, r2, d2, l2, Ev.step (f := fun k => (spec_ValidFrame.f k e' i' r' d' l').bind fun t363 => (if t363 = true then (laws_wPair.j1 k l1 e i r d l e' i' r' d' l') else ((laws_wByte.f l1 0).bind fun t364 => (laws_wPair.j1 k l1 e i r d l true ((t364) % 4294967296) false 0 ([] : List Int))))) (fun k => ?_) (Ev.bind hV' (ev_neg (by decide) (ev_some hu hR))), hG⟩
      simp only [laws_wPair.j0]
  unfold laws_wPair.f
  cases hv0 : validF e i r d l.length with
  | true =>
    rw [hv0] at hV
    obtain ⟨e2, i2, r2, d2, l2, hR, hG⟩ := rest0 e i r d l (good_of hf hv0)
    exact ⟨e, i, r, d, l, e2, i2, r2, d2, l2, Ev.bind hE (Ev.bind hE' (Ev.bind hV (ev_pos rfl hR))), good_of hf hv0, hG⟩
  | false =>
    rw [hv0] at hV
    have hg := good_zero false (v % 4294967296) false (by omega) (show v % 4294967296 < 2048 by omega)
    obtain ⟨e2, i2, r2, d2, l2, hR, hG⟩ := rest0 false (v % 4294967296) false 0 [] hg
    exact ⟨_, _, _, _, _, e2, i2, r2, d2, l2, Ev.bind hE (Ev.bind hE' (Ev.bind hV (ev_neg (by decide) (ev_some hv hR)))), hg, hG⟩
theorem rd_app_left (S Y : List Int) (i : Nat) (h : i < S.length) : rd (S ++ Y) (i : Int) = rd S (i : Int) := by
  unfold rd
  rw [Int.toNat_natCast, List.getD_eq_getElem?_getD, List.getD_eq_getElem?_getD, List.getElem?_append_left h]
theorem rd_app_at (S Y : List Int) (a : Int) : rd (S ++ a :: Y) (S.length : Int) = a := by
  unfold rd
  rw [Int.toNat_natCast, List.getD_eq_getElem?_getD, List.getElem?_append_right (Nat.le_refl _), Nat.sub_self]; rfl
theorem bt_eq0 (s : ByteArray) (i : Nat) (h : i < s.size) : bt s (i : Int) = ((s[i]'h).toNat : Int) := by
  unfold bt
  rw [dif_pos (by rw [Int.toNat_natCast]; exact h)]
  simp only [Int.toNat_natCast]
theorem bt_str (l : List Int) (i : Nat) (h : i < l.length) (hb : ∀ x ∈ l, 0 ≤ x ∧ x < 256) : bt (strOfNums l) (i : Int) = rd l (i : Int) := by
  have hs : i < (strOfNums l).size := by rw [strOfNums_size]; exact h
  rw [bt_eq0 _ i hs]
  have h2 : (bytesOf (strOfNums l))[i]? = some (((strOfNums l)[i]'hs).toNat : Int) := by
    unfold bytesOf
    rw [List.getElem?_map, Array.getElem?_toList, Array.getElem?_eq_getElem (show i < (strOfNums l).data.size from hs)]
    rfl
  rw [bytes_str l hb] at h2
  unfold rd
  rw [Int.toNat_natCast, List.getD_eq_getElem?_getD, h2]
  rfl
theorem Good.arb {e : Bool} {i : Int} {r : Bool} {d : Int} {l : List Int} (h : Good e i r d l) : arbV e i r d l = strOfNums (arbL e i r d l) := arbV_str h.valid
theorem FnArbitration : laws_FnArbitration.Pure := by
  intro l0 l1 hl0 hb0 hw0 hl1 hb1 hw1
  refine Ev.rounds ?_
  have big : ∀ (b : Bool), b = true → Ev (fun k => laws_FnArbitration.j0 k l0 l1 b) true := by
    rintro b rfl
    refine Ev.step (f := fun _ => some true) (fun k => ?_) (Ev.now _)
    simp only [laws_FnArbitration.j0]
    rw [if_pos trivial]
  unfold laws_FnArbitration.f
  by_cases c0 : (l0.length : Int) > 1048576
  · exact ev_pos c0 (big _ rfl)
  refine ev_neg c0 ?_
  by_cases c1 : (l1.length : Int) > 1048576
  · exact big _ (decide_eq_true c1)
  rw [decide_eq_false c1]
  obtain ⟨e, i, r, d, l, e', i', r', d', l', hP, hg, hg'⟩ := wPair_ex l0 l1 (by omega) (by omega) (okBytes_of hw0) (okBytes_of hw1)
  have hA := implArb_eq (r := r) (d := d) (e := e) hg.ok
  have hA' := implArb_eq (r := r') (d := d') (e := e') hg'.ok
  have hS := specArb_ev (r := r) (d := d) (e := e) hg.ok
  have hS' := specArb_ev (r := r') (d := d') (e := e') hg'.ok
  have hI : impl_Encode.f e i r d l = some (encodeV e i r d l) := by unfold impl_Encode.f; rw [if_pos hg.ok]
  have hI' : impl_Encode.f e' i' r' d' l' = some (encodeV e' i' r' d' l') := by unfold impl_Encode.f; rw [if_pos hg'.ok]
  have hj1 : Ev (fun k => laws_FnArbitration.j1 k (arbV e i r d l) (arbV e' i' r' d' l') false e i r d l e' i' r' d' l') true := by
    by_cases cx : (arbV e i r d l).toList = (arbV e' i' r' d' l').toList
    · refine Ev.step (f := fun k => (spec_Arb.f k e i r d l).bind fun t392 => ((spec_Arb.f k e' i' r' d' l').bind fun t393 => (some (t392.toList == t393.toList)))) (fun k => ?_) (Ev.bind hS (Ev.bind hS' (Ev.congr (fun _ => by rw [cx, beq_self_eq_true]) (Ev.now _))))
      simp only [laws_FnArbitration.j1]
      rw [if_neg (by decide), if_pos cx]
    · have hne : arbL e i r d l ≠ arbL e' i' r' d' l' := fun h => cx (by rw [hg.arb, hg'.arb, h])
      obtain ⟨p, a, b, X, Y, hp1, hp2, hab⟩ := arb_parts hne
      have ba : a = 48 ∨ a = 49 := bits_at (hp1 ▸ arbL_bits e i r d l)
      have bb : b = 48 ∨ b = 49 := bits_at (hp2 ▸ arbL_bits e' i' r' d' l')
      obtain ⟨U, hU, hbU, hsz⟩ := image_parts hg.valid hp1
      obtain ⟨V, hV, hbV, hsz'⟩ := image_parts hg'.valid hp2
      have hless : Op.bytesLess (arbV e i r d l).toList (arbV e' i' r' d' l').toList = (a == 48) := by
        rw [hg.arb, hg'.arb, hp1, hp2]; exact less_parts p X Y a b ba bb hab
      generalize stuffL (48 :: p) = S at hU hV hbU hbV hsz hsz'
      have zU : (encodeV e i r d l).size = (S ++ a :: U).length := by rw [hU, strOfNums_size]
      have zV : (encodeV e' i' r' d' l').size = (S ++ b :: V).length := by rw [hV, strOfNums_size]
      have hSU : S.length < (S ++ a :: U).length := by simp
      have hSV : S.length < (S ++ b :: V).length := by simp
      have atU : bt (encodeV e i r d l) (S.length : Int) = a := by rw [hU, bt_str _ _ hSU hbU, rd_app_at]
      have atV : bt (encodeV e' i' r' d' l') (S.length : Int) = b := by rw [hV, bt_str _ _ hSV hbV, rd_app_at]
      have hj4 : Ev (fun k => laws_FnArbitration.j4 k (arbV e i r d l) (arbV e' i' r' d' l') (encodeV e i r d l) (S.length : Int) false e i r d l e' i' r' d' l') true := by
        refine Ev.step (f := fun k => (spec_Arb.f k e i r d l).bind fun t396 => ((spec_Arb.f k e' i' r' d' l').bind fun t397 => (if (Op.bytesLess t396.toList t397.toList) = true then (if ((Op.bytesLess (arbV e i r d l).toList (arbV e' i' r' d' l').toList) == (0 == 0)) = true then (if 0 ≤ (S.length : Int) then (if (S.length : Int) < ((encodeV e i r d l).size : Int) then (some (((bt (encodeV e i r d l) (S.length : Int)) == 48) == (0 == 0))) else (none)) else (none)) else (some false)) else (if ((Op.bytesLess (arbV e i r d l).toList (arbV e' i' r' d' l').toList) == (1 == 0)) = true then (if 0 ≤ (S.length : Int) then (if (S.length : Int) < ((encodeV e i r d l).size : Int) then (some (((bt (encodeV e i r d l) (S.length : Int)) == 48) == (1 == 0))) else (none)) else (none)) else (some false))))) (fun k => ?_) (Ev.bind hS (Ev.bind hS' ?_))
        · simp only [laws_FnArbitration.j4]
          rw [if_neg (by decide)]
        · rw [hless, atU]
          rcases ba with rfl | rfl
          · exact ev_pos rfl (ev_pos rfl (ev_pos (by omega) (ev_pos (by omega) (Ev.now _))))
          · exact ev_neg (by decide) (ev_pos rfl (ev_pos (by omega) (ev_pos (by omega) (Ev.now _))))
      have hj3 : Ev (fun k => laws_FnArbitration.j3 k (arbV e i r d l) (arbV e' i' r' d' l') (encodeV e i r d l) (encodeV e' i' r' d' l') (S.length : Int) e i r d l e' i' r' d' l') true := by
        refine Ev.step (f := fun k => laws_FnArbitration.j4 k (arbV e i r d l) (arbV e' i' r' d' l') (encodeV e i r d l) (S.length : Int) false e i r d l e' i' r' d' l') (fun k => ?_) hj4
        simp only [laws_FnArbitration.j3]
        rw [if_neg (by omega), decide_eq_false (by omega)]
      have loop : ∀ (q n : Nat), n + q = S.length → Ev (fun k => laws_FnArbitration.l0 k (arbV e i r d l) (arbV e' i' r' d' l') (encodeV e i r d l) (encodeV e' i' r' d' l') (n : Int) e i r d l e' i' r' d' l') true := by
        intro q
        induction q with
        | zero =>
          intro n hn
          obtain rfl : n = S.length := by omega
          refine Ev.step (f := fun k => laws_FnArbitration.j3 k (arbV e i r d l) (arbV e' i' r' d' l') (encodeV e i r d l) (encodeV e' i' r' d' l') (S.length : Int) e i r d l e' i' r' d' l') (fun k => ?_) hj3
          simp only [laws_FnArbitration.l0]
          rw [if_pos (by omega), if_pos (by omega), if_pos (by omega), atU, atV, if_neg hab]
        | succ q ih =>
          intro n hn
          refine Ev.step (f := fun k => laws_FnArbitration.l0 k (arbV e i r d l) (arbV e' i' r' d' l') (encodeV e i r d l) (encodeV e' i' r' d' l') ((n + 1 : Nat) : Int) e i r d l e' i' r' d' l') (fun k => ?_) (ih (n + 1) (by omega))
          have e1 : bt (encodeV e i r d l) (n : Int) = rd S (n : Int) := by rw [hU, bt_str _ _ (by omega) hbU, rd_app_left _ _ _ (by omega)]
          have e2 : bt (encodeV e' i' r' d' l') (n : Int) = rd S (n : Int) := by rw [hV, bt_str _ _ (by omega) hbV, rd_app_left _ _ _ (by omega)]
          simp only [laws_FnArbitration.l0]
          rw [if_pos (by omega), if_pos (by omega), if_pos (by omega), e1, e2, if_pos rfl, w64 (by omega) (by omega)]
          rfl
      refine Ev.step (f := fun k => laws_FnArbitration.l0 k (arbV e i r d l) (arbV e' i' r' d' l') (encodeV e i r d l) (encodeV e' i' r' d' l') ((0 : Nat) : Int) e i r d l e' i' r' d' l') (fun k => ?_) (loop S.length 0 (by omega))
      simp only [laws_FnArbitration.j1]
      rw [if_neg (by decide), if_neg cx, hI, Option.bind_some, hI', Option.bind_some]
      rfl
  refine Ev.step (f := fun k => (laws_wPair.f k l0 l1).bind fun bt372 => ((impl_Arb.f bt372.1 bt372.2.1 bt372.2.2.1 bt372.2.2.2.1 bt372.2.2.2.2.1).bind fun t388 => ((impl_Arb.f bt372.2.2.2.2.2.1 bt372.2.2.2.2.2.2.1 bt372.2.2.2.2.2.2.2.1 bt372.2.2.2.2.2.2.2.2.1 bt372.2.2.2.2.2.2.2.2.2).bind fun t389 => ((spec_Arb.f k bt372.1 bt372.2.1 bt372.2.2.1 bt372.2.2.2.1 bt372.2.2.2.2.1).bind fun t390 => (if (t388.size : Int) = (t390.size : Int) then ((spec_Arb.f k bt372.2.2.2.2.2.1 bt372.2.2.2.2.2.2.1 bt372.2.2.2.2.2.2.2.1 bt372.2.2.2.2.2.2.2.2.1 bt372.2.2.2.2.2.2.2.2.2).bind fun t391 => (laws_FnArbitration.j1 k t388 t389 ((t389.size : Int) != (t391.size : Int)) bt372.1 bt372.2.1 bt372.2.2.1 bt372.2.2.2.1 bt372.2.2.2.2.1 bt372.2.2.2.2.2.1 bt372.2.2.2.2.2.2.1 bt372.2.2.2.2.2.2.2.1 bt372.2.2.2.2.2.2.2.2.1 bt372.2.2.2.2.2.2.2.2.2)) else (laws_FnArbitration.j1 k t388 t389 true bt372.1 bt372.2.1 bt372.2.2.1 bt372.2.2.2.1 bt372.2.2.2.2.1 bt372.2.2.2.2.2.1 bt372.2.2.2.2.2.2.1 bt372.2.2.2.2.2.2.2.1 bt372.2.2.2.2.2.2.2.2.1 bt372.2.2.2.2.2.2.2.2.2)))))) (fun k => ?_) (Ev.bind hP (ev_some hA (ev_some hA' (Ev.bind hS (ev_pos rfl (Ev.bind hS' ?_))))))
  · simp only [laws_FnArbitration.j0]
    rw [if_neg (by decide)]
  · simp only [bne_self_eq_false]
    exact hj1
end Go.Proofs.Ytdoclpgciadjaaa.Pure
