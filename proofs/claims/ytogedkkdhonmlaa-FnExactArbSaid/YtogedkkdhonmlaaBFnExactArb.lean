import Derived.Test.YtogedkkdhonmlaaReads
import Derived.Test.YtogedkkdhonmlaaF13
namespace Go.Proofs.Ytogedkkdhonmlaa.P
open Go.RowKit Go.Proofs.YtogedkkdhonmlaaW.PrintWords Go.Proofs.YtogedkkdhonmlaaW.PrintLast Go.Proofs.YtogedkkdhonmlaaW.PrintMore
attribute [local go_sem] max2_int min2_int max_two min_two max_three min_three max_four min_four
set_option linter.unusedVariables false
set_option linter.unusedSimpArgs false

def b40 (x : S40) : Prop := True ∧ (Lit.int .u32 x.f1).wf = true ∧ True ∧ (Lit.int .i64 x.f3).wf = true ∧ (x.f4.length ≤ maxLen ∧ ∀ y_ ∈ x.f4, (Lit.int .u8 y_).wf = true)
theorem reads40 : Reads Try.prog 40 k40 b40 := reads_struct (fun x : S40 => (x.f0, x.f1, x.f2, x.f3, x.f4)) (fun y => ⟨y.1, y.2.1, y.2.2.1, y.2.2.2.1, y.2.2.2.2⟩) (fun _ => rfl) Try.underlying40 (by kernel_rfl) (rf_cons rfl (by kernel_rfl) (reads_bool Try.underlying4) (rf_cons rfl (by kernel_rfl) (reads_int Try.underlying37) (rf_cons rfl (by kernel_rfl) (reads_bool Try.underlying4) (rf_cons rfl (by kernel_rfl) (reads_int Try.underlying3) (rf_last rfl (by kernel_rfl) (reads_slice Try.underlying38 (by kernel_rfl) (reads_int Try.underlying5)))))))
def laws_FnExactArb.PureS : Prop := ∀ (x0 : S40), b40 x0 → ∃ k, laws_FnExactArb.f k (x0.f0) (x0.f1) (x0.f2) (x0.f3) (x0.f4) = some true
end Go.Proofs.Ytogedkkdhonmlaa.P
