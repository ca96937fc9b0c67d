import Derived.Test.YtogedkkdhonmlaaF0
import Derived.Test.YtogedkkdhonmlaaF69
import Derived.Test.YtogedkkdhonmlaaRow8
namespace Go.Proofs.Ytogedkkdhonmlaa.P
open Go.RowKit Go.Proofs.YtogedkkdhonmlaaW.PrintWords Go.Proofs.YtogedkkdhonmlaaW.PrintLast Go.Proofs.YtogedkkdhonmlaaW.PrintMore
attribute [local go_sem] max2_int min2_int max_two min_two max_three min_three max_four min_four
set_option linter.unusedVariables false
set_option linter.unusedSimpArgs false

-- GIVEN rounds=0 making=1 import=Derived.Test.YtogedkkdhonmlaaRow8
/-! ### impl_letters_flag: function 70 -/
theorem impl_letters_flag.calls (p : Nat) (v : Value) (xs : List Int) (b : Bool) (B : Nat) (w : World) (hp : w.heap[p]? = some (.cells #[v] 78 (0, 0))) (hv : RowM 5 w B v xs) (hB : B ≤ w.heap.size) (hl : xs.length ≤ 10000) :
    Calls Try.prog 70 #[.pointer (some ⟨p, 0, none⟩), .bool b] w fun e w' => e = .returned (.tuple #[]) ∧ ∃ v', w'.heap[p]? = some (.cells #[v'] 78 (0, 0)) ∧ RowM 5 w' B v' (xs ++ [48 + b2 b]) ∧ Fr w w' p v.ownBlock v'.ownBlock := by
  have H0 := Lib.hid (impl_letters_number.at 0 1 p v xs 0 1 B w hp hv hB rfl (by omega) rfl (by omega) hl)
  have H1 := Lib.hid (impl_letters_number.at 1 1 p v xs 1 1 B w hp hv hB rfl (by omega) rfl (by omega) hl)
  clear hp hv hB hl
  cases b
  · go_enter Try.func70, Try.ntmps70
    go_wp2_with (go_at_call 69; refine H0.out.mono ?_; rintro e w' ⟨rfl, v', h1, h2, h3⟩; have R1 := Lib.hid h1; have R2 := Lib.hid h2; have R3 := Lib.hid h3; clear h1 h2 h3)
    go_end0
    exact ⟨rfl, v', R1.out, R2.out, R3.out⟩
  · go_enter Try.func70, Try.ntmps70
    go_wp2_with (go_at_call 69; refine H1.out.mono ?_; rintro e w' ⟨rfl, v', h1, h2, h3⟩; have R1 := Lib.hid h1; have R2 := Lib.hid h2; have R3 := Lib.hid h3; clear h1 h2 h3)
    go_end0
    exact ⟨rfl, v', R1.out, R2.out, R3.out⟩

end Go.Proofs.Ytogedkkdhonmlaa.P
