import Derived.Test.YtogedkkdhonmlaaPack0
import Derived.Test.YtogedkkdhonmlaaF22
import Derived.Test.YtogedkkdhonmlaaF24
namespace Go.Proofs.Ytogedkkdhonmlaa.P
open Go Go.RowKit Go.Proofs.YtogedkkdhonmlaaW.PrintWords Go.Proofs.YtogedkkdhonmlaaW.PrintMore
theorem l2bit_eq (n : Int) (l : List Int) (h : Words l) (i : Nat) (hs : i < 100000000) (hi : i / 64 < l.length) : spec_l2bit.f n l (i : Int) = some (b2 (pb l i)) := by
  unfold spec_l2bit.f
  rw [word_bit l h i hs hi, tdiv64 i hs, left64, if_pos (by omega), if_pos (by omega), if_pos (by omega)]
theorem packedAt_eq (n : Int) (l : List Int) (h : Words l) (i : Nat) (hs : i < 100000000) (hi : i / 64 < l.length) : impl_Packed_at.f n l (i : Int) = some (b2 (pb l i)) := by
  unfold impl_Packed_at.f
  rw [word_bit l h i hs hi, tdiv64 i hs, left64, if_pos (by omega), if_pos (by omega), if_pos (by omega)]
theorem up63 (n : Int) (h0 : 0 ≤ n) (h1 : n ≤ 4000) : wrap64 (Int.tdiv (wrap64 (n + 63)) 64) = (((n.toNat + 63) / 64 : Nat) : Int) := by
  rw [w64 (x := n + 63) (by omega) (by omega), show n + 63 = ((n.toNat + 63 : Nat) : Int) by omega, tdiv64 _ (by omega)]
theorem specOk_ev (n : Int) (l : List Int) (h : Words l) (hl : l.length ≤ 1100000) : Ev (fun k => spec_l2okPacked.f k n l) (okP n l) := by
  have jt : Ev (fun k => spec_l2okPacked.j0 k true n l) false := by
    refine Ev.step (f := fun _ => some false) (fun k => ?_) (Ev.now _)
    simp only [spec_l2okPacked.j0]
    rfl
  unfold spec_l2okPacked.f
  by_cases c1 : n < 0
  · have e : okP n l = false := by unfold okP; rw [decide_eq_false (by omega), Bool.false_and]
    rw [e]
    exact ev_pos c1 jt
  · refine ev_neg c1 ?_
    by_cases c2 : n > 4000
    · have e : okP n l = false := by unfold okP; rw [decide_eq_false (show ¬ n ≤ 4000 by omega), Bool.false_and, Bool.and_false]
      rw [e]
      exact ev_pos c2 jt
    · refine ev_neg c2 ?_
      rw [up63 n (by omega) (by omega)]
      by_cases c3 : l.length = (n.toNat + 63) / 64
      · have e3 : ((l.length : Int) != (((n.toNat + 63) / 64 : Nat) : Int)) = false := by rw [c3]; simp
        rw [e3]
        have loop : ∀ (d i : Nat), i + d = 64 * l.length → n.toNat ≤ i → (∀ j, n.toNat ≤ j → j < i → pb l j = false) → Ev (fun k => spec_l2okPacked.l0 k (i : Int) n l) (okP n l) := by
          intro d
          induction d with
          | zero =>
            intro i hi hn hb
            refine Ev.step (f := fun _ => some (okP n l)) (fun k => ?_) (Ev.now _)
            simp only [spec_l2okPacked.l0]
            rw [w64 (by omega) (by omega), if_neg (by omega), okP_mk (by omega) (by omega) c3 (fun j h1 h2 => hb j h1 (by omega))]
          | succ d ih =>
            intro i hi hn hb
            have hbit := l2bit_eq n l h i (by omega) (by omega)
            cases hp : pb l i with
            | true =>
              refine Ev.step (f := fun _ => some (okP n l)) (fun k => ?_) (Ev.now _)
              simp only [spec_l2okPacked.l0]
              rw [w64 (by omega) (by omega), if_pos (by omega), hbit, Option.bind_some, hp, if_pos (show b2 true = 1 from rfl)]
              congr 1
              cases ho : okP n l with
              | false => rfl
              | true => have := (okP_parts ho).2.2.2 i hn (by omega); rw [hp] at this; cases this
            | false =>
              refine Ev.step (f := fun k => spec_l2okPacked.l0 k ((i + 1 : Nat) : Int) n l) (fun k => ?_) (ih (i + 1) (by omega) (by omega) (fun j h1 h2 => ?_))
              · simp only [spec_l2okPacked.l0]
                rw [w64 (x := 64 * (l.length : Int)) (by omega) (by omega), if_pos (by omega), hbit, Option.bind_some, hp, if_neg (by decide), w64 (by omega) (by omega)]
                rfl
              · by_cases e : j = i
                · rw [e]; exact hp
                · exact hb j h1 (by omega)
        refine Ev.step (f := fun k => spec_l2okPacked.l0 k (n.toNat : Int) n l) (fun k => ?_) (loop (64 * l.length - n.toNat) n.toNat (by omega) (by omega) (fun j h1 h2 => by omega))
        simp only [spec_l2okPacked.j0]
        rw [if_neg (by decide), show (n.toNat : Int) = n by omega]
      · have e3 : ((l.length : Int) != (((n.toNat + 63) / 64 : Nat) : Int)) = true := by
          rw [bne_iff_ne]; omega
        have e : okP n l = false := by unfold okP; rw [decide_eq_false c3, Bool.false_and, Bool.and_false, Bool.and_false]
        rw [e3, e]
        exact jt
theorem implOk_eq (n : Int) (l : List Int) (h : Words l) (hn : -9223372036854775808 ≤ n) : impl_Packed_valid.f n l = some (okP n l) := by
  unfold impl_Packed_valid.f
  by_cases c1 : n < 0
  · rw [if_pos c1]; unfold okP; rw [decide_eq_false (by omega), Bool.false_and]
  · rw [if_neg c1]
    by_cases c2 : n > 4000
    · rw [if_pos c2]; unfold okP; rw [decide_eq_false (show ¬ n ≤ 4000 by omega), Bool.false_and, Bool.and_false]
    · rw [if_neg c2, up63 n (by omega) (by omega)]
      by_cases c3 : l.length = (n.toNat + 63) / 64
      · rw [if_pos (by omega)]
        have em : Int.tmod n 64 = ((n.toNat % 64 : Nat) : Int) := by
          rw [show n = ((n.toNat : Nat) : Int) by omega, tmod64, Int.toNat_natCast]
        rw [em]
        by_cases c4 : n.toNat % 64 = 0
        · rw [if_pos (by omega), okP_mk (by omega) (by omega) c3 (fun j h1 h2 => by omega)]
        · have hl1 : wrap64 ((l.length : Int) - 1) = ((l.length - 1 : Nat) : Int) := by unfold wrap64; omega
          have hu : IntKind.u64.wrap ((n.toNat % 64 : Nat) : Int) = ((n.toNat % 64 : Nat) : Int) := by rw [IntKind.wrap_u64]; omega
          rw [if_neg (by omega), hl1, hu, if_pos (by omega), if_pos (by omega), if_pos (by omega)]
          obtain ⟨h0, h1⟩ := words_at h (l.length - 1) (by omega)
          obtain ⟨x, hx⟩ : ∃ x : Nat, rd l ((l.length - 1 : Nat) : Int) = (x : Int) := ⟨(rd l ((l.length - 1 : Nat) : Int)).toNat, by omega⟩
          rw [hx]
          have hz := shl_zero x (n.toNat % 64) (by omega)
          have hpb : ∀ i, n.toNat ≤ i → i < 64 * l.length → pb l i = x.testBit (63 - i % 64) := by
            intro i hi hi2
            unfold pb
            rw [show i / 64 = l.length - 1 by omega, hx, Int.toNat_natCast]
          congr 1
          cases ho : okP n l with
          | true =>
            have hp := (okP_parts ho).2.2.2
            have : shl .u64 (x : Int) ((n.toNat % 64 : Nat) : Int) = 0 := hz.2 (fun j hj => by
              have h2 := hp (64 * (l.length - 1) + (63 - j)) (by omega) (by omega)
              rw [hpb _ (by omega) (by omega), show 63 - (64 * (l.length - 1) + (63 - j)) % 64 = j by omega] at h2
              exact h2)
            rw [this]; rfl
          | false =>
            rw [beq_eq_false_iff_ne]
            intro he
            have hb := hz.1 he
            have := okP_mk (n := n) (l := l) (by omega) (by omega) c3 (fun i h1 h2 => by rw [hpb i h1 h2]; exact hb _ (by omega))
            rw [this] at ho; cases ho
      · rw [if_neg (by omega)]; unfold okP; rw [decide_eq_false c3, Bool.false_and, Bool.and_false, Bool.and_false]
/-- What Unpack says. -/
def unpackV (n : Int) (l : List Int) : ByteArray := if okP n l = true then strOfNums (lettersP n.toNat l) else ⟨#[]⟩
theorem specUnpack_ev (n : Int) (l : List Int) (h : Words l) (hl : l.length ≤ 1100000) : Ev (fun k => spec_Unpack.f k n l) (unpackV n l) := by
  unfold unpackV
  refine Ev.congr (fun k => by unfold spec_Unpack.f; rfl) (Ev.bind (specOk_ev n l h hl) ?_)
  cases ho : okP n l with
  | false => exact ev_neg (by decide) (by rw [if_neg (by decide)]; exact Ev.now _)
  | true =>
    rw [if_pos rfl]
    refine ev_pos rfl ?_
    obtain ⟨h0, h1, h2, _⟩ := okP_parts ho
    have loop : ∀ (d i : Nat), i + d = n.toNat → Ev (fun k => spec_Unpack.l0 k (lettersP i l) (i : Int) n l) (strOfNums (lettersP n.toNat l)) := by
      intro d
      induction d with
      | zero =>
        intro i hi
        refine Ev.step (f := fun _ => some (strOfNums (lettersP n.toNat l))) (fun k => ?_) (Ev.now _)
        simp only [spec_Unpack.l0]
        rw [if_neg (by omega), show i = n.toNat by omega]
      | succ d ih =>
        intro i hi
        refine Ev.step (f := fun k => spec_Unpack.l0 k (lettersP (i + 1) l) ((i + 1 : Nat) : Int) n l) (fun k => ?_) (ih (i + 1) (by omega))
        have hb := b2_range (pb l i)
        simp only [spec_Unpack.l0]
        rw [if_pos (by omega), l2bit_eq n l h i (by omega) (by omega), Option.bind_some, lettersP_length, if_pos (by omega), w64 (x := 48 + b2 (pb l i)) (by omega) (by omega), w64 (by omega) (by omega), show (48 + b2 (pb l i)) % 256 = 48 + b2 (pb l i) by omega, lettersP_succ]
        rfl
    exact loop n.toNat 0 (by omega)
theorem implUnpack_ev (n : Int) (l : List Int) (h : Words l) (hn : -9223372036854775808 ≤ n) : Ev (fun k => impl_Unpack.f k n l) (unpackV n l) := by
  unfold unpackV impl_Unpack.f
  refine ev_some (implOk_eq n l h hn) ?_
  cases ho : okP n l with
  | false => exact ev_neg (by decide) (by rw [if_neg (by decide)]; exact Ev.now _)
  | true =>
    rw [if_pos rfl]
    refine ev_pos rfl ?_
    obtain ⟨h0, h1, h2, _⟩ := okP_parts ho
    refine ev_pos (by omega) (ev_pos (by omega) (ev_some rfl ?_))
    have loop : ∀ (d i : Nat) (x : List Int), i + d = n.toNat → SameTo x (lettersP n.toNat l) i → Ev (fun k => impl_Unpack.l0 k x (n.toNat : Int) (i : Int) n l) (strOfNums (lettersP n.toNat l)) := by
      intro d
      induction d with
      | zero =>
        intro i x hi hx
        refine Ev.step (f := fun _ => some (strOfNums (lettersP n.toNat l))) (fun k => ?_) (Ev.now _)
        simp only [impl_Unpack.l0]
        rw [if_neg (by omega), hx.all (by rw [lettersP_length]; omega)]
      | succ d ih =>
        intro i x hi hx
        have hxl := hx.1
        rw [lettersP_length] at hxl
        refine Ev.step (f := fun k => impl_Unpack.l0 k (x.set i (rd (lettersP n.toNat l) (i : Int))) (n.toNat : Int) ((i + 1 : Nat) : Int) n l) (fun k => ?_) (ih (i + 1) _ (by omega) (hx.next (by rw [lettersP_length]; omega)))
        have hb := b2_range (pb l i)
        simp only [impl_Unpack.l0]
        rw [if_pos (by omega), packedAt_eq n l h i (by omega) (by omega), Option.bind_some, if_pos (by omega), if_pos (by omega), lettersP_get _ _ _ (by omega), w64 (by omega) (by omega), show (48 + b2 (pb l i) % 256) % 256 = 48 + b2 (pb l i) by omega]
        rfl
    have := loop n.toNat 0 (List.replicate n.toNat 0) (by omega) (SameTo.zero (by rw [lettersP_length, List.length_replicate]))
    rw [List.length_replicate]
    exact this
end Go.Proofs.Ytogedkkdhonmlaa.P
