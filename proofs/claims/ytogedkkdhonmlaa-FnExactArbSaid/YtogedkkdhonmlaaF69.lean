import Derived.Test.YtogedkkdhonmlaaF0
import Derived.Test.YtogedkkdhonmlaaRow8
namespace Go.Proofs.Ytogedkkdhonmlaa.P
open Go.RowKit Go.Proofs.YtogedkkdhonmlaaW.PrintWords Go.Proofs.YtogedkkdhonmlaaW.PrintLast Go.Proofs.YtogedkkdhonmlaaW.PrintMore
attribute [local go_sem] max2_int min2_int max_two min_two max_three min_three max_four min_four
set_option linter.unusedVariables false
set_option linter.unusedSimpArgs false

-- GIVEN rounds=0 making=1 import=Derived.Test.YtogedkkdhonmlaaRow8
/-! ### impl_letters_number: function 69 -/
set_option maxHeartbeats 1000000 in
theorem impl_letters_number.calls (p : Nat) (v : Value) (xs : List Int) (u n B : Nat) (w : World) (hp : w.heap[p]? = some (.cells #[v] 78 (0, 0))) (hv : RowM 5 w B v xs) (hB : B ≤ w.heap.size) (hu : u < 4294967296) (hn : n ≤ 32) (hx : xs.length ≤ 10000) :
    Calls Try.prog 69 #[.pointer (some ⟨p, 0, none⟩), .int .u32 (u : Int), .int .i64 (n : Int)] w fun e w' => e = .returned (.tuple #[]) ∧ ∃ v', w'.heap[p]? = some (.cells #[v'] 78 (0, 0)) ∧ RowM 5 w' B v' (xs ++ numL u n) ∧ Fr w w' p v.ownBlock v'.ownBlock := by
  have HV := Lib.hid hv
  have HP := Lib.hid hp
  have HB := Lib.hid hB
  have HX := Lib.hid hx
  clear hv hp hB hx
  go_enter Try.func69, Try.ntmps69
  go_wp2
  go_loopw [6] (fun v6 wr => ∃ (m : Nat) (out : List Int) (v1 : Value), m ≤ n ∧ v6 = .int .i64 ((m : Int) - 1) ∧ Aside0 (out ++ numL u m = xs ++ numL u n ∧ out.length + m = xs.length + n) ∧ Aside0 (wr.heap[p]? = some (.cells #[v1] 78 (0, 0))) ∧ Aside0 (RowM 5 wr B v1 out) ∧ Aside0 (Fr w wr p v.ownBlock v1.ownBlock)) (fun v6 _ => (intOf v6 + 1).toNat)
  case atStart => exact ⟨n, xs, v, Nat.le_refl _, rfl, ⟨rfl, rfl⟩, ⟨HP.out⟩, ⟨HV.out⟩, ⟨Fr.refl _ _ _⟩⟩
  case round =>
    obtain ⟨m, out, v1, hm, rfl, HL, HP1, HV1, HF⟩ := hrel
    cases m with
    | zero =>
      go_wp2
      go_end0
      have h1 := HL.out.1
      rw [numL, List.append_nil] at h1
      exact ⟨rfl, v1, HP1.out, h1 ▸ HV1.out, HF.out⟩
    | succ m =>
      have hcell := cell_block HP1.out
      have HBIT : Hid ((48 + Go.bits .and .u32 ((u : Int) / 2 ^ m) 1) % 256 = 48 + ((u / 2 ^ m % 2 : Nat) : Int)) := by
        refine Lib.hid ?_
        have e1 : (u : Int) / 2 ^ m = ((u / 2 ^ m : Nat) : Int) := by push_cast; rfl
        have hlt : u / 2 ^ m < 4294967296 := Nat.lt_of_le_of_lt (Nat.div_le_self _ _) hu
        have h2 := u32_and_nat (u / 2 ^ m) 1 hlt (by decide)
        rw [show ((1 : Nat) : Int) = 1 from rfl] at h2
        rw [e1, h2, Nat.and_one_is_mod]
        omega
      have HPL : Hid (p < wr.heap.size) := Lib.hid (Array.getElem?_eq_some_iff.1 HP1.out).1
      have HPN : Hid (some p ≠ v1.ownBlock) := Lib.hid (fun e1 => by
        obtain ⟨_, _, cur, fz, hc⟩ := HV1.out.typed e1.symm
        rw [HP1.out] at hc
        injection hc with hc
        injection hc with _ hc
        exact absurd hc (by decide))
      go_wp2_with (at_builtin; refine RowM.append B rfl (.tmp 16) (.tmp 24) 78 5 rfl Try.underlying78 infoU8 v1 out ((48 + Go.bits .and .u32 ((u : Int) / 2 ^ m) 1) % 256) rfl rfl HV1.out ?aS ?aL ?_; (case aS => exact Nat.le_trans HB.out HF.out.size); (case aL => have := HL.out.2; have := HX.out; omega); intro v2 w2 hv2 hf2; rw [HBIT.out] at hv2; obtain ⟨A2, n2, c2, ev2⟩ := hv2.slice; subst ev2; have HV2 := Lib.hid hv2; have HF2 := Lib.hid hf2; have HP2 := Lib.hid ((hf2.block p HPL.out (Nat.ne_of_lt HPL.out) HPN.out).trans HP1.out); clear hv2 hf2; have hcell2 := cell_block HP2.out; have hfr2 := frozen_block HP2.out 0)
      go_roundw
      case rel =>
        refine ⟨m, out ++ [48 + ((u / 2 ^ m % 2 : Nat) : Int)], _, by omega, by go_num, ⟨?_, ?_⟩, ⟨set_block HP2.out⟩, ⟨HV2.out.move (fun k hk => ?_)⟩, ⟨HF.out.trans (HF2.out.store HPL.out)⟩⟩
        · rw [← HL.out.1, numL, List.append_assoc]; rfl
        · have := HL.out.2; rw [List.length_append]; simp; omega
        · refine Below.heap_setCell _ _ _ k (fun e1 => ?_)
          obtain ⟨_, _, cur, fz, hc⟩ := HV2.out.typed hk
          rw [show k = p from e1, HP2.out] at hc
          injection hc with hc
          injection hc with _ hc
          exact absurd hc (by decide)
      case measure => first | (simp [intOf]; done) | (simp [intOf]; omega)
/-- The same, for whatever numbers stand there. -/
theorem impl_letters_number.at (x y : Int) (p : Nat) (v : Value) (xs : List Int) (u n B : Nat) (w : World) (hp : w.heap[p]? = some (.cells #[v] 78 (0, 0))) (hv : RowM 5 w B v xs) (hB : B ≤ w.heap.size) (hx : x = (u : Int)) (hu : u < 4294967296) (hy : y = (n : Int)) (hn : n ≤ 32) (hl : xs.length ≤ 10000) :
    Calls Try.prog 69 #[.pointer (some ⟨p, 0, none⟩), .int .u32 x, .int .i64 y] w fun e w' => e = .returned (.tuple #[]) ∧ ∃ v', w'.heap[p]? = some (.cells #[v'] 78 (0, 0)) ∧ RowM 5 w' B v' (xs ++ numL u n) ∧ Fr w w' p v.ownBlock v'.ownBlock := by
  subst hx hy
  exact impl_letters_number.calls p v xs u n B w hp hv hB hu hn hl

end Go.Proofs.Ytogedkkdhonmlaa.P
