/- What a frame's bounds say of its number and its bytes. -/
import Derived.Test.YtogedkkdhonmlaaF40
import Derived.Test.YtogedkkdhonmlaaReads
namespace Go.Proofs.Ytogedkkdhonmlaa.P
open Go Go.RowKit Go.Proofs.YtogedkkdhonmlaaW.PrintWords
theorem okBytes_of {l : List Int} (h : ∀ y ∈ l, (Lit.int .u8 y).wf = true) : okBytes l = true := by
  unfold okBytes
  rw [List.all_eq_true]
  intro x hx
  have := h x hx
  simp [Lit.wf, show IntKind.u8.min = 0 from rfl, show IntKind.u8.max = 255 from rfl] at this ⊢
  omega
theorem frame_ok {i : Int} {l : List Int} (hi : (Lit.int .u32 i).wf = true) (hb : ∀ y ∈ l, (Lit.int .u8 y).wf = true) : 0 ≤ i ∧ okBytes l = true := by
  refine ⟨?_, okBytes_of hb⟩
  simp [Lit.wf, show IntKind.u32.min = 0 from rfl] at hi
  omega
end Go.Proofs.Ytogedkkdhonmlaa.P
