import Derived.Test.YtogedkkdhonmlaaQFnExactDestuffRuns0
import Derived.Test.YtogedkkdhonmlaaQFnExactDestuffRuns1

/- Runs of equal letters: what destuffing makes of them. -/
namespace Go.Proofs.Ytogedkkdhonmlaa.P
open Go Go.RowKit Go.Proofs.YtogedkkdhonmlaaW.PrintWords
set_option linter.unusedVariables false
def letter (a i : Int) : Int := 48 + (a + i) % 2
def expL (a : Int) : Nat → List Int → List Int
  | _, [] => []
  | i, n :: l => List.replicate n.toNat (letter a i) ++ expL a (i + 1) l
def runsL (a : Int) : Nat → Int → Int → List Int → List Int → List Int × Int
  | _, _, _, out, [] => (out, -1)
  | i, at_, carry, out, n :: l => if n > 5 then (out ++ List.replicate (5 - carry).toNat (letter a i), at_ + 5) else runsL a (i + 1) (at_ + n) (if n = 5 then 1 else 0) (out ++ List.replicate (n - carry).toNat (letter a i)) l
def okRuns : Int → List Int → Bool
  | _, [] => true
  | s, n :: l => decide (1 ≤ n) && (decide (s + n ≤ 4000) && okRuns (s + n) l)
theorem okRuns_cons {s n : Int} {l : List Int} : okRuns s (n :: l) = true ↔ 1 ≤ n ∧ s + n ≤ 4000 ∧ okRuns (s + n) l = true := by
  rw [okRuns, Bool.and_eq_true, Bool.and_eq_true, decide_eq_true_eq, decide_eq_true_eq]
theorem des_run (c : Int) (rest : List Int) : ∀ (m : Nat) (at_ r : Int) (out : List Int), 0 ≤ r → r ≤ 5 → destuffL (List.replicate m c ++ rest) at_ r c out = if r + m ≤ 5 then destuffL rest (at_ + m) (r + m) c (out ++ List.replicate m c) else (out ++ List.replicate (5 - r).toNat c, at_ + (5 - r)) := by
  intro m
  induction m with
  | zero => intro at_ r out h0 h5; rw [if_pos (by simp; omega)]; simp
  | succ m ih =>
    intro at_ r out h0 h5
    rw [List.replicate_succ, List.cons_append, destuffL]
    by_cases e : r = 5
    · subst e
      rw [if_pos rfl, if_pos rfl, if_neg (by omega)]
      simp
    · rw [if_neg e, if_pos rfl, ih _ _ _ (by omega) (by omega)]
      by_cases c1 : r + 1 + (m : Int) ≤ 5
      · rw [if_pos c1, if_pos (by omega), show at_ + 1 + (m : Int) = at_ + ((m + 1 : Nat) : Int) by omega, show r + 1 + (m : Int) = r + ((m + 1 : Nat) : Int) by omega, List.append_assoc]
        rfl
      · rw [if_neg c1, if_neg (by omega), List.append_assoc, show (5 - r).toNat = (5 - (r + 1)).toNat + 1 by omega, List.replicate_succ, show at_ + 1 + (5 - (r + 1)) = at_ + (5 - r) by omega]
        rfl
theorem letter_ne (a : Int) (i : Nat) : letter a i ≠ letter a ((i + 1 : Nat) : Int) := by unfold letter; omega
theorem letter_cases (a i : Int) : letter a i = 48 ∨ letter a i = 49 := by unfold letter; omega
theorem des_runs (a : Int) : ∀ (l : List Int) (i : Nat) (s at_ r last : Int) (out : List Int), okRuns s l = true → 0 ≤ r → r ≤ 5 → last ≠ letter a i → destuffL (expL a i l) at_ r last out = runsL a i at_ (if r = 5 then 1 else 0) out l := by
  intro l
  induction l with
  | nil => intro i s at_ r last out _ _ _ _; rfl
  | cons n l ih =>
    intro i s at_ r last out hok h0 h5 hl
    obtain ⟨h1, h2, h3⟩ := okRuns_cons.1 hok
    obtain ⟨m, hm⟩ : ∃ m : Nat, n = ((m + 1 : Nat) : Int) := ⟨(n - 1).toNat, by omega⟩
    subst hm
    rw [expL, Int.toNat_natCast, List.replicate_succ, List.cons_append, destuffL, runsL]
    have hne : ¬ letter a i = last := fun e => hl e.symm
    by_cases e : r = 5
    · rw [if_pos e, if_neg hne, des_run _ _ m _ 1 _ (by omega) (by omega), if_pos e]
      by_cases c1 : 1 + (m : Int) ≤ 5
      · rw [if_pos c1, if_neg (by omega), ih (i + 1) _ _ _ _ _ h3 (by omega) (by omega) (letter_ne a i)]
        congr 1
        · omega
        · by_cases c2 : (m : Int) = 4
          · rw [if_pos (by omega), if_pos (by omega)]
          · rw [if_neg (by omega), if_neg (by omega)]
        · rw [show (((m + 1 : Nat) : Int) - 1).toNat = m by omega]
      · rw [if_neg c1, if_pos (by omega)]
        congr 1
        omega
    · rw [if_neg e, if_neg hne, des_run _ _ m _ 1 _ (by omega) (by omega), if_neg e]
      by_cases c1 : 1 + (m : Int) ≤ 5
      · rw [if_pos c1, if_neg (by omega), ih (i + 1) _ _ _ _ _ h3 (by omega) (by omega) (letter_ne a i)]
        congr 1
        · omega
        · by_cases c2 : (m : Int) = 4
          · rw [if_pos (by omega), if_pos (by omega)]
          · rw [if_neg (by omega), if_neg (by omega)]
        · rw [show (((m + 1 : Nat) : Int) - 0).toNat = m + 1 by omega, List.append_assoc, List.replicate_succ]
          rfl
      · rw [if_neg c1, if_pos (by omega), List.append_assoc]
        congr 1
        omega
theorem expL_len (a : Int) : ∀ (l : List Int) (i : Nat) (s : Int), okRuns s l = true → s ≤ 4000 → s + ((expL a i l).length : Int) ≤ 4000 := by
  intro l
  induction l with
  | nil => intro i s _ h; simpa [expL] using h
  | cons n l ih =>
    intro i s hok h
    obtain ⟨h1, h2, h3⟩ := okRuns_cons.1 hok
    have := ih (i + 1) _ h3 h2
    rw [expL, List.length_append, List.length_replicate]
    omega
theorem expL_bits (a : Int) : ∀ (l : List Int) (i : Nat), Bits (expL a i l) := by
  intro l
  induction l with
  | nil => intro i x hx; cases hx
  | cons n l ih =>
    intro i
    refine Bits.append (fun x hx => ?_) (ih (i + 1))
    rw [(List.mem_replicate.1 hx).2]
    exact letter_cases a i
theorem drop_rd (l : List Int) (i : Nat) (h : i < l.length) : l.drop i = rd l (i : Int) :: l.drop (i + 1) := by
  have h1 := rd_get l i h
  rw [List.getElem?_eq_getElem h] at h1
  rw [List.drop_eq_getElem_cons h, Option.some.inj h1]
def runsF (a : Int) (l : List Int) : ByteArray × Int := (strOfNums (runsL a 0 0 0 [] l).1, (runsL a 0 0 0 [] l).2)
def badV : ByteArray × Int := (⟨#[]⟩, -2)
def runsV (a : Int) (l : List Int) : ByteArray × Int := if (a = 0 ∨ a = 1) ∧ l.length ≤ 4000 ∧ okRuns 0 l = true then runsF a l else badV
theorem destuffV_runs (a : Int) (l : List Int) (h : okRuns 0 l = true) : destuffV (strOfNums (expL a 0 l)) = runsF a l := by
  have hb := expL_bits a l 0
  have hl := expL_len a l 0 0 h (by omega)
  unfold destuffV runsF
  rw [if_pos ⟨by rw [strOfNums_size]; omega, isBits_str hb⟩, bytes_str _ hb.range, des_runs a l 0 0 0 0 120 [] h (by omega) (by omega) (by have := letter_cases a ((0 : Nat) : Int); omega)]
  rfl
end Go.Proofs.Ytogedkkdhonmlaa.P

/- Taking the stuff bits out of runs: the program says of every list what the reference says, and leaves the list as it was. -/
namespace Go.Proofs.Ytogedkkdhonmlaa.Pure
open Go Go.RowKit Go.Proofs.Ytogedkkdhonmlaa.P Go.Proofs.YtogedkkdhonmlaaW.PrintWords Go.Proofs.YtogedkkdhonmlaaW.PrintLast
set_option linter.unusedVariables false
theorem spec_letter {a : Int} {i : Nat} (h0 : 0 ≤ a) (h1 : a ≤ 1) (hi : i < 10000) : (wrap64 (48 + (Int.tmod (wrap64 (a + (i : Int))) 2))) % 256 = letter a i := by
  rw [w64 (x := a + (i : Int)) (by omega) (by omega), Int.tmod_eq_emod_of_nonneg (by omega), w64 (by omega) (by omega)]
  unfold letter
  omega
theorem impl_letter {a : Int} {i : Nat} (h : a = 0 ∨ a = 1) (hi : i < 10000) : ((48 + ((Go.bits .xor .i64 a (Go.bits .and .i64 (i : Int) 1)) % 256)) % 256) = letter a i := by
  have h1 : Go.bits .and .i64 (i : Int) 1 = ((i % 2 : Nat) : Int) := by
    have := bits_and_i64 i 1 (by omega) (by decide)
    rw [show ((1 : Nat) : Int) = 1 from rfl] at this
    rw [this, Nat.and_one_is_mod]
  rw [h1]
  have h2 : i % 2 = 0 ∨ i % 2 = 1 := by omega
  unfold letter
  rcases h with rfl | rfl <;> rcases h2 with e | e <;> rw [e]
  · rw [show Go.bits .xor .i64 0 ((0 : Nat) : Int) = 0 from bits_xor_i64 0 0 (by decide) (by decide)]; omega
  · rw [show Go.bits .xor .i64 0 ((1 : Nat) : Int) = 1 from bits_xor_i64 0 1 (by decide) (by decide)]; omega
  · rw [show Go.bits .xor .i64 1 ((0 : Nat) : Int) = 1 from bits_xor_i64 1 0 (by decide) (by decide)]; omega
  · rw [show Go.bits .xor .i64 1 ((1 : Nat) : Int) = 0 from bits_xor_i64 1 1 (by decide) (by decide)]; omega
/-! The reference -/
theorem spec_fill (a : Int) (l T : List Int) (V : ByteArray × Int) (hT : T.length ≤ 4000) (hV : spec_Destuff.f (strOfNums T) = some V) (h0 : 0 ≤ a) (h1 : a ≤ 1) (hlen : l.length ≤ 4000) (hn : ∀ i : Nat, i < l.length → 1 ≤ rd l (i : Int) ∧ rd l (i : Int) ≤ 4000) :
    ∀ (d i : Nat) (x : List Int), i + d = l.length → x ++ expL a i (l.drop i) = T → Ev (fun k => spec_DestuffRuns.l1 k a l x (i : Int)) V := by
  intro d
  induction d with
  | zero =>
    intro i x hi hx
    rw [List.drop_eq_nil_of_le (by omega), expL, List.append_nil] at hx
    refine Ev.step (f := fun _ => some V) (fun k => ?_) (Ev.now _)
    simp only [spec_DestuffRuns.l1]
    rw [if_neg (by omega), hx, hV]
    rfl
  | succ d ih =>
    intro i x hi hx
    have hil : i < l.length := by omega
    obtain ⟨hn1, hn2⟩ := hn i hil
    rw [drop_rd l i hil, expL, ← List.append_assoc] at hx
    have inner : ∀ (m j : Nat) (x : List Int), j + m = (rd l (i : Int)).toNat → x ++ List.replicate m (letter a i) ++ expL a (i + 1) (l.drop (i + 1)) = T → Ev (fun k => spec_DestuffRuns.l2 k a l x (i : Int) (j : Int)) V := by
      intro m
      induction m with
      | zero =>
        intro j x hj hx
        rw [List.replicate_zero, List.append_nil] at hx
        refine Ev.step (f := fun k => spec_DestuffRuns.l1 k a l x ((i + 1 : Nat) : Int)) (fun k => ?_) (ih (i + 1) x (by omega) hx)
        simp only [spec_DestuffRuns.l2]
        rw [if_pos (by omega), if_pos (by omega), if_neg (by omega), w64 (by omega) (by omega)]
        rfl
      | succ m ihm =>
        intro j x hj hx
        have hxl : x.length ≤ 4000 := by
          have := congrArg List.length hx
          rw [List.length_append, List.length_append] at this
          omega
        refine Ev.step (f := fun k => spec_DestuffRuns.l2 k a l (x ++ [letter a i]) (i : Int) ((j + 1 : Nat) : Int)) (fun k => ?_) (ihm (j + 1) (x ++ [letter a i]) (by omega) ?_)
        · simp only [spec_DestuffRuns.l2]
          rw [if_pos (by omega), if_pos (by omega), if_pos (by omega), if_pos (by omega), spec_letter h0 h1 (by omega), w64 (x := (j : Int) + 1) (by omega) (by omega)]
          rfl
        · rw [← hx, List.replicate_succ, List.append_assoc x]
          rfl
    refine Ev.step (f := fun k => spec_DestuffRuns.l2 k a l x (i : Int) ((0 : Nat) : Int)) (fun k => ?_) (inner _ 0 x (by omega) hx)
    simp only [spec_DestuffRuns.l1]
    rw [if_pos (by omega)]
    rfl
theorem okRuns_at : ∀ (l : List Int) (s : Int), okRuns s l = true → 0 ≤ s → ∀ i : Nat, i < l.length → 1 ≤ rd l (i : Int) ∧ rd l (i : Int) ≤ 4000 := by
  intro l
  induction l with
  | nil => intro s _ _ i hi; cases hi
  | cons n l ih =>
    intro s h h0 i hi
    obtain ⟨h1, h2, h3⟩ := okRuns_cons.1 h
    cases i with
    | zero => exact ⟨by simpa [rd] using h1, by have : rd (n :: l) ((0 : Nat) : Int) = n := by simp [rd]
                                                omega⟩
    | succ i =>
      have := ih _ h3 (by omega) i (by simpa using hi)
      have e : rd (n :: l) ((i + 1 : Nat) : Int) = rd l (i : Int) := by simp [rd, show ((i : Int) + 1).toNat = i + 1 by omega]
      rw [e]
      exact this
theorem spec_sum (a : Int) (l : List Int) (V : ByteArray × Int) (hlen : l.length ≤ 4000) (hV : okRuns 0 l = true → Ev (fun k => spec_DestuffRuns.l1 k a l [] 0) V) :
    ∀ (d i : Nat) (s : Int), i + d = l.length → okRuns s (l.drop i) = okRuns 0 l → 0 ≤ s → s ≤ 4000 → Ev (fun k => spec_DestuffRuns.l0 k a l s (i : Int)) (if okRuns 0 l = true then V else badV) := by
  intro d
  induction d with
  | zero =>
    intro i s hi hs h0 h1
    rw [List.drop_eq_nil_of_le (by omega), okRuns] at hs
    rw [if_pos hs.symm]
    refine Ev.step (f := fun k => spec_DestuffRuns.l1 k a l [] 0) (fun k => ?_) (hV hs.symm)
    simp only [spec_DestuffRuns.l0]
    rw [if_neg (by omega)]
  | succ d ih =>
    intro i s hi hs h0 h1
    have hil : i < l.length := by omega
    rw [drop_rd l i hil] at hs
    have hw : wrap64 (4000 - s) = 4000 - s := w64 (by omega) (by omega)
    by_cases c1 : rd l (i : Int) < 1
    · have : okRuns 0 l = false := by
        rw [← hs, ← Bool.not_eq_true, okRuns_cons]
        omega
      rw [this]
      refine Ev.step (f := fun _ => some badV) (fun k => ?_) (Ev.now _)
      simp only [spec_DestuffRuns.l0]
      rw [if_pos (by omega), if_pos (by omega), if_pos c1]
      rfl
    · by_cases c2 : s + rd l (i : Int) ≤ 4000
      · refine Ev.step (f := fun k => spec_DestuffRuns.l0 k a l (s + rd l (i : Int)) ((i + 1 : Nat) : Int)) (fun k => ?_) (ih (i + 1) _ (by omega) ?_ (by omega) c2)
        · simp only [spec_DestuffRuns.l0]
          rw [if_pos (by omega), if_pos (by omega), if_neg c1, hw, if_neg (by omega), w64 (by omega) (by omega), w64 (by omega) (by omega)]
          rfl
        · rw [← hs, okRuns, decide_eq_true (by omega), decide_eq_true c2]
          rfl
      · have : okRuns 0 l = false := by
          rw [← hs, ← Bool.not_eq_true, okRuns_cons]
          omega
        rw [this]
        refine Ev.step (f := fun _ => some badV) (fun k => ?_) (Ev.now _)
        simp only [spec_DestuffRuns.l0]
        rw [if_pos (by omega), if_pos (by omega), if_neg c1, hw, if_pos (by omega)]
        rfl
theorem specRuns_ev (a : Int) (l : List Int) (hlen : l.length ≤ 10000000) : Ev (fun k => spec_DestuffRuns.f k a l) (runsV a l) := by
  have key : (a = 0 ∨ a = 1) → Ev (fun k => spec_DestuffRuns.j0 k a l false) (runsV a l) := by
    intro ha
    by_cases c : l.length ≤ 4000
    · have hs := spec_sum a l (runsF a l) c (fun hok => spec_fill a l (expL a 0 l) (runsF a l) (by have := expL_len a l 0 0 hok (by omega); omega) (by unfold spec_Destuff.f; rw [destuffV_runs a l hok]) (by omega) (by omega) c (okRuns_at l 0 hok (by omega)) l.length 0 [] (by omega) (by simp)) l.length 0 0 (by omega) (by simp) (by omega) (by omega)
      have e : runsV a l = if okRuns 0 l = true then runsF a l else badV := by
        unfold runsV
        by_cases k : okRuns 0 l = true
        · rw [if_pos ⟨ha, c, k⟩, if_pos k]
        · rw [if_neg (fun h => k h.2.2), if_neg k]
      rw [e]
      refine Ev.step (f := fun k => spec_DestuffRuns.l0 k a l 0 ((0 : Nat) : Int)) (fun k => ?_) hs
      simp only [spec_DestuffRuns.j0]
      rw [if_neg (by decide), if_neg (by omega)]
      rfl
    · have e : runsV a l = badV := by unfold runsV; rw [if_neg (fun h => c h.2.1)]
      rw [e]
      refine Ev.step (f := fun _ => some badV) (fun k => ?_) (Ev.now _)
      simp only [spec_DestuffRuns.j0]
      rw [if_neg (by decide), if_pos (by omega)]
      rfl
  unfold spec_DestuffRuns.f
  by_cases c0 : a = 0
  · exact ev_pos c0 (key (.inl c0))
  · refine ev_neg c0 ?_
    by_cases c1 : a = 1
    · rw [show (a != 1) = false by rw [c1]; rfl]
      exact key (.inr c1)
    · rw [show (a != 1) = true by simp [c1]]
      have e : runsV a l = badV := by unfold runsV; rw [if_neg (fun h => h.1.elim c0 c1)]
      rw [e]
      refine Ev.step (f := fun _ => some badV) (fun k => ?_) (Ev.now _)
      simp only [spec_DestuffRuns.j0]
      rw [if_pos trivial]
      rfl
/-! The program -/
theorem impl_l2 (c at_ : Int) (h0 : 0 ≤ at_) (h1 : at_ ≤ 4000) (N : Int) (hN : N ≤ 5) : ∀ (m j : Nat) (x : List Int), ((j + m : Nat) : Int) = N → x.length + m ≤ 100000 → Ev (fun k => impl_DestuffRuns.l2 k x at_ c N (j : Int)) (strOfNums (x ++ List.replicate m c), at_ + 5) := by
  intro m
  induction m with
  | zero =>
    intro j x hj hx
    refine Ev.step (f := fun _ => some (strOfNums (x ++ List.replicate 0 c), at_ + 5)) (fun k => ?_) (Ev.now _)
    simp only [impl_DestuffRuns.l2]
    rw [if_neg (by omega), w64 (by omega) (by omega), List.replicate_zero, List.append_nil]
  | succ m ih =>
    intro j x hj hx
    have := ih (j + 1) (x ++ [c]) (by omega) (by rw [List.length_append]; simp; omega)
    rw [List.append_assoc] at this
    refine Ev.step (f := fun k => impl_DestuffRuns.l2 k (x ++ [c]) at_ c N ((j + 1 : Nat) : Int)) (fun k => ?_) this
    simp only [impl_DestuffRuns.l2]
    rw [if_pos (by omega), if_pos (by omega), w64 (by omega) (by omega)]
    rfl
theorem impl_l3 (a : Int) (l : List Int) (i : Nat) (c at_ n : Int) (N : Int) (hi : i < 10000) (h0 : 0 ≤ at_) (h1 : at_ ≤ 4000) (hn : 1 ≤ n ∧ n ≤ 5) (hN : N ≤ 5) (V : ByteArray × Int) : ∀ (m j : Nat) (x : List Int), ((j + m : Nat) : Int) = N → x.length + m ≤ 100000 → Ev (fun k => impl_DestuffRuns.l1 k a (x ++ List.replicate m c) (at_ + n) (if n = 5 then 1 else 0) l (l.length : Int) ((i + 1 : Nat) : Int)) V → Ev (fun k => impl_DestuffRuns.l3 k a x at_ n c l (l.length : Int) (i : Int) N (j : Int)) V := by
  intro m
  induction m with
  | zero =>
    intro j x hj hx hE
    rw [List.replicate_zero, List.append_nil] at hE
    refine Ev.step (f := fun k => impl_DestuffRuns.l1 k a x (at_ + n) (if n = 5 then 1 else 0) l (l.length : Int) ((i + 1 : Nat) : Int)) (fun k => ?_) hE
    simp only [impl_DestuffRuns.l3]
    rw [if_neg (by omega), w64 (by omega) (by omega), w64 (by omega) (by omega)]
    by_cases c5 : n = 5
    · rw [if_pos c5, if_pos c5]; rfl
    · rw [if_neg c5, if_neg c5]; rfl
  | succ m ih =>
    intro j x hj hx hE
    have e : x ++ List.replicate (m + 1) c = (x ++ [c]) ++ List.replicate m c := by rw [List.append_assoc]; rfl
    rw [e] at hE
    refine Ev.step (f := fun k => impl_DestuffRuns.l3 k a (x ++ [c]) at_ n c l (l.length : Int) (i : Int) N ((j + 1 : Nat) : Int)) (fun k => ?_) (ih (j + 1) (x ++ [c]) (by omega) (by rw [List.length_append]; simp; omega) hE)
    simp only [impl_DestuffRuns.l3]
    rw [if_pos (by omega), if_pos (by omega), w64 (by omega) (by omega)]
    rfl
theorem impl_fill (a : Int) (l : List Int) (ha : a = 0 ∨ a = 1) (hlen : l.length ≤ 4000) : ∀ (d i : Nat) (at_ carry : Int) (x : List Int), i + d = l.length → okRuns at_ (l.drop i) = true → 0 ≤ at_ → at_ ≤ 4000 → (x.length : Int) ≤ at_ → (carry = 0 ∨ carry = 1) → Ev (fun k => impl_DestuffRuns.l1 k a x at_ carry l (l.length : Int) (i : Int)) (strOfNums (runsL a i at_ carry x (l.drop i)).1, (runsL a i at_ carry x (l.drop i)).2) := by
  intro d
  induction d with
  | zero =>
    intro i at_ carry x hi hok h0 h1 hx hc
    rw [List.drop_eq_nil_of_le (by omega), runsL]
    refine Ev.step (f := fun _ => some (strOfNums x, -1)) (fun k => ?_) (Ev.now _)
    simp only [impl_DestuffRuns.l1]
    rw [if_neg (by omega)]
  | succ d ih =>
    intro i at_ carry x hi hok h0 h1 hx hc
    have hil : i < l.length := by omega
    rw [drop_rd l i hil] at hok ⊢
    obtain ⟨k1, k2, k3⟩ := okRuns_cons.1 hok
    rw [runsL]
    by_cases c5 : rd l (i : Int) > 5
    · rw [if_pos c5]
      refine Ev.step (f := fun k => impl_DestuffRuns.l2 k x at_ (letter a i) (5 - carry) ((0 : Nat) : Int)) (fun k => ?_) (impl_l2 (letter a i) at_ h0 h1 (5 - carry) (by omega) (5 - carry).toNat 0 x (by omega) (by omega))
      simp only [impl_DestuffRuns.l1]
      rw [if_pos (by omega), if_pos (by omega), if_pos (by omega), if_pos c5, impl_letter ha (by omega), w64 (by omega) (by omega)]
      rfl
    · rw [if_neg c5]
      refine Ev.step (f := fun k => impl_DestuffRuns.l3 k a x at_ (rd l (i : Int)) (letter a i) l (l.length : Int) (i : Int) (rd l (i : Int) - carry) ((0 : Nat) : Int)) (fun k => ?_) (impl_l3 a l i (letter a i) at_ (rd l (i : Int)) (rd l (i : Int) - carry) (by omega) h0 h1 (by omega) (by omega) _ (rd l (i : Int) - carry).toNat 0 x (by omega) (by omega) (ih (i + 1) _ _ _ (by omega) k3 (by omega) k2 (by rw [List.length_append, List.length_replicate]; omega) (by split <;> simp)))
      simp only [impl_DestuffRuns.l1]
      rw [if_pos (by omega), if_pos (by omega), if_pos (by omega), if_neg c5, impl_letter ha (by omega), w64 (by omega) (by omega)]
      rfl
theorem impl_sum (a : Int) (l : List Int) (V : ByteArray × Int) (hlen : l.length ≤ 4000) (hV : okRuns 0 l = true → Ev (fun k => impl_DestuffRuns.l1 k a [] 0 0 l (l.length : Int) 0) V) :
    ∀ (d i : Nat) (s : Int), i + d = l.length → okRuns s (l.drop i) = okRuns 0 l → 0 ≤ s → s ≤ 4000 → Ev (fun k => impl_DestuffRuns.l0 k a l s l (l.length : Int) (i : Int)) (if okRuns 0 l = true then V else badV) := by
  intro d
  induction d with
  | zero =>
    intro i s hi hs h0 h1
    rw [List.drop_eq_nil_of_le (by omega), okRuns] at hs
    rw [if_pos hs.symm]
    refine Ev.step (f := fun k => impl_DestuffRuns.l1 k a [] 0 0 l (l.length : Int) 0) (fun k => ?_) (hV hs.symm)
    simp only [impl_DestuffRuns.l0]
    rw [if_neg (by omega)]
  | succ d ih =>
    intro i s hi hs h0 h1
    have hil : i < l.length := by omega
    rw [drop_rd l i hil] at hs
    by_cases c1 : 1 ≤ rd l (i : Int) ∧ s + rd l (i : Int) ≤ 4000
    · refine Ev.step (f := fun k => impl_DestuffRuns.l0 k a l (s + rd l (i : Int)) l (l.length : Int) ((i + 1 : Nat) : Int)) (fun k => ?_) (ih (i + 1) _ (by omega) ?_ (by omega) c1.2)
      · simp only [impl_DestuffRuns.l0]
        rw [if_pos (by omega), if_pos (by omega), if_pos (by omega), if_neg (by omega), if_neg (by omega), w64 (x := s + rd l (i : Int)) (by omega) (by omega), if_neg (by omega), w64 (by omega) (by omega)]
        rfl
      · rw [← hs, okRuns, decide_eq_true c1.1, decide_eq_true c1.2]
        rfl
    · have : okRuns 0 l = false := by
        rw [← hs, ← Bool.not_eq_true, okRuns_cons]
        omega
      rw [this]
      refine Ev.step (f := fun _ => some badV) (fun k => ?_) (Ev.now _)
      simp only [impl_DestuffRuns.l0]
      rw [if_pos (by omega), if_pos (by omega), if_pos (by omega)]
      by_cases c2 : rd l (i : Int) < 1
      · rw [if_pos c2]; rfl
      · rw [if_neg c2]
        by_cases c3 : rd l (i : Int) > 4000
        · rw [if_pos c3]; rfl
        · rw [if_neg c3, w64 (x := s + rd l (i : Int)) (by omega) (by omega), if_pos (by omega)]; rfl
theorem implRuns_ev (a : Int) (l : List Int) (hlen : l.length ≤ 10000000) : Ev (fun k => impl_DestuffRuns.f k a l) (runsV a l) := by
  have key : (a = 0 ∨ a = 1) → Ev (fun k => impl_DestuffRuns.j0 k a l (decide ((l.length : Int) > 4000))) (runsV a l) := by
    intro ha
    by_cases c : l.length ≤ 4000
    · have hs := impl_sum a l (runsF a l) c (fun hok => impl_fill a l ha c l.length 0 0 0 [] (by omega) (by simpa using hok) (by omega) (by omega) (by simp) (.inl rfl)) l.length 0 0 (by omega) (by simp) (by omega) (by omega)
      have e : runsV a l = if okRuns 0 l = true then runsF a l else badV := by
        unfold runsV
        by_cases k : okRuns 0 l = true
        · rw [if_pos ⟨ha, c, k⟩, if_pos k]
        · rw [if_neg (fun h => k h.2.2), if_neg k]
      rw [e]
      refine Ev.step (f := fun k => impl_DestuffRuns.l0 k a l 0 l (l.length : Int) ((0 : Nat) : Int)) (fun k => ?_) hs
      simp only [impl_DestuffRuns.j0]
      rw [if_neg (by simp; omega)]
      rfl
    · have e : runsV a l = badV := by unfold runsV; rw [if_neg (fun h => c h.2.1)]
      rw [e]
      refine Ev.step (f := fun _ => some badV) (fun k => ?_) (Ev.now _)
      simp only [impl_DestuffRuns.j0]
      rw [if_pos (by simp; omega)]
      rfl
  unfold impl_DestuffRuns.f
  by_cases c0 : a = 0
  · exact ev_pos c0 (key (.inl c0))
  · refine ev_neg c0 ?_
    by_cases c1 : a = 1
    · exact ev_pos c1 (key (.inr c1))
    · refine ev_neg c1 ?_
      have e : runsV a l = badV := by unfold runsV; rw [if_neg (fun h => h.1.elim c0 c1)]
      rw [e]
      refine Ev.step (f := fun _ => some badV) (fun k => ?_) (Ev.now _)
      simp only [impl_DestuffRuns.j0]
      rw [if_pos trivial]
      rfl
theorem FnExactDestuffRuns : laws_FnExactDestuffRuns.Pure := by
  intro a l _ _ _ _
  refine Ev.rounds ?_
  unfold laws_FnExactDestuffRuns.f
  by_cases c : (l.length : Int) > 1048576
  · exact ev_pos c (Ev.now _)
  · have hl : l.length ≤ 10000000 := by omega
    have ht := toIntS_ev l hl
    refine ev_neg c (Ev.bind ht (Ev.bind (specRuns_ev a l hl) (Ev.bind ht (Ev.bind (implRuns_ev a l hl) (ev_pos rfl ?_)))))
    rw [show ((runsV a l).2 != (runsV a l).2) = false by simp]
    refine Ev.step (f := fun k => (laws_toIntS.f k l).bind fun t149 => ((laws_eqIntS.f k l t149).bind fun t152 => (if t152 = true then (some true) else (some false)))) (fun k => ?_) (Ev.bind ht (Ev.bind (eqIntS_ev l hl) (ev_pos rfl (Ev.now _))))
    simp only [laws_FnExactDestuffRuns.j0]
    rw [if_neg (by decide)]
end Go.Proofs.Ytogedkkdhonmlaa.Pure
