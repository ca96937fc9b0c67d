import Derived.Test.YtogedkkdhonmlaaReads
import Derived.Test.YtogedkkdhonmlaaF7
namespace Go.Proofs.Ytogedkkdhonmlaa.P
open Go.RowKit Go.Proofs.YtogedkkdhonmlaaW.PrintWords Go.Proofs.YtogedkkdhonmlaaW.PrintLast Go.Proofs.YtogedkkdhonmlaaW.PrintMore
attribute [local go_sem] max2_int min2_int max_two min_two max_three min_three max_four min_four
set_option linter.unusedVariables false
set_option linter.unusedSimpArgs false

def b30 (x : S30) : Prop := (Lit.int .i64 x.f0).wf = true ∧ (x.f1.length ≤ maxLen ∧ ∀ y_ ∈ x.f1, (Lit.int .u64 y_).wf = true)
theorem reads30 : Reads Try.prog 30 k30 b30 := reads_struct (fun x : S30 => (x.f0, x.f1)) (fun y => ⟨y.1, y.2⟩) (fun _ => rfl) Try.underlying30 (by kernel_rfl) (rf_cons rfl (by kernel_rfl) (reads_int Try.underlying3) (rf_last rfl (by kernel_rfl) (reads_slice Try.underlying28 (by kernel_rfl) (reads_int Try.underlying71))))
def laws_FnExactUnpack.PureS : Prop := ∀ (x0 : S30), b30 x0 → ∃ k, laws_FnExactUnpack.f k (x0.f0) (x0.f1) = some true
end Go.Proofs.Ytogedkkdhonmlaa.P
