/-
  No cell of these rows narrows 'for every input' (looked for: loops, veiled, ifaces, maps, wideKeys, modest, calm, conditions, laid).
  DERIVED. THE GIVEN ROWS OF THIS SEAT. 11 by the template 'for every input the law returns true; each argument reads behind the call as it read before'; 0 by the template 'total and deterministic' (their statements: YtcaefabbcjlkdaaTotals.lean).
  GIVEN WITH THE SEED: the statements are not yours to turn. If you find one false, say at which input.
  Laid BY PROGRAM, IN A SANDBOX (cutbox-rows.mjs): the forced cells as the released guide's own fill.sh prints them over the translation 8a57d502bc406287… (all of the seat's roots in one cut). By AI agents, Wed Nov 11 2026. No macro, syntax, notation, axiom, sorry.
-/
import Derived.Test.YtcaefabbcjlkdaaChecked
import GoSem.Claim
import GoSem.ClaimJoined
import GoSem.ClaimMapViews
import Derived.JoinedTies
import Derived.KernelRfl
namespace Go.Proofs.Ytcaefabbcjlkdaa
/- THE CELL 'sum', in the pinned program and in every row, IS THE sha256 OF THE DUMP (.gsa) THAT YtcaefabbcjlkdaaProg.lean LOADS. Nothing in Lean hashes anything: it is a label: what it is worth is what the hold of that sum in a sandbox is worth. -/
noncomputable def Try.pinned : Pinned := { name := "ytcaefabbcjlkdaa", sum := "8a57d502bc406287776c4c88c0988f7139c9a915f6427ff3787a605d4763d3f5", checked := Try.checked }
namespace Rows
def none {H : Type} : Left H := { results := [], args := [] }

/-- 'laws.FnExactNewHost': WHATEVER THE INPUT: true; the input reads as it did. -/
def fnExactNewHostSpec : ChangeSpec := { name := "fnExactNewHost", fn := fun _ => fun
  | [d1, d2] => { results := [.lit (.bool true)], args := [d1, d2] }
  | _ => none }
def fnExactNewHostRow : OpenClaim := { program := "ytcaefabbcjlkdaa", sum := "8a57d502bc406287776c4c88c0988f7139c9a915f6427ff3787a605d4763d3f5", func := "loop.example/s01647/laws.FnExactNewHost", spec := "fnExactNewHost", apart := false }
def FnExactNewHostSaid : Prop := fnExactNewHostRow.holds Try.pinned (OpenSpec.ofChange fnExactNewHostSpec)

/-- ITS FALSE NEIGHBOUR: 'it returns false'. Refute it at one input. -/
def fnExactNewHostWrong : ChangeSpec := { name := "fnExactNewHost", fn := fun _ => fun
  | [d1, d2] => { results := [.lit (.bool false)], args := [d1, d2] }
  | _ => none }
def FnExactNewHostWrongFalsely : Prop := fnExactNewHostRow.holds Try.pinned (OpenSpec.ofChange fnExactNewHostWrong)

/-- 'laws.FnFirstOut': WHATEVER THE INPUT: true; the input reads as it did. -/
def fnFirstOutSpec : ChangeSpec := { name := "fnFirstOut", fn := fun _ => fun
  | [d1, d2] => { results := [.lit (.bool true)], args := [d1, d2] }
  | _ => none }
def fnFirstOutRow : OpenClaim := { program := "ytcaefabbcjlkdaa", sum := "8a57d502bc406287776c4c88c0988f7139c9a915f6427ff3787a605d4763d3f5", func := "loop.example/s01647/laws.FnFirstOut", spec := "fnFirstOut", recurses := true, apart := false }
def FnFirstOutSaid : Prop := fnFirstOutRow.holds Try.pinned (OpenSpec.ofChange fnFirstOutSpec)

/-- ITS FALSE NEIGHBOUR: 'it returns false'. Refute it at one input. -/
def fnFirstOutWrong : ChangeSpec := { name := "fnFirstOut", fn := fun _ => fun
  | [d1, d2] => { results := [.lit (.bool false)], args := [d1, d2] }
  | _ => none }
def FnFirstOutWrongFalsely : Prop := fnFirstOutRow.holds Try.pinned (OpenSpec.ofChange fnFirstOutWrong)

/-- 'laws.FnExactBest': WHATEVER THE INPUT: true; the input reads as it did. -/
def fnExactBestSpec : ChangeSpec := { name := "fnExactBest", fn := fun _ => fun
  | [d] => { results := [.lit (.bool true)], args := [d] }
  | _ => none }
def fnExactBestRow : OpenClaim := { program := "ytcaefabbcjlkdaa", sum := "8a57d502bc406287776c4c88c0988f7139c9a915f6427ff3787a605d4763d3f5", func := "loop.example/s01647/laws.FnExactBest", spec := "fnExactBest", recurses := true, apart := false }
def FnExactBestSaid : Prop := fnExactBestRow.holds Try.pinned (OpenSpec.ofChange fnExactBestSpec)

/-- ITS FALSE NEIGHBOUR: 'it returns false'. Refute it at one input. -/
def fnExactBestWrong : ChangeSpec := { name := "fnExactBest", fn := fun _ => fun
  | [d] => { results := [.lit (.bool false)], args := [d] }
  | _ => none }
def FnExactBestWrongFalsely : Prop := fnExactBestRow.holds Try.pinned (OpenSpec.ofChange fnExactBestWrong)

/-- 'laws.FnBoxes': WHATEVER THE INPUT: true; the input reads as it did. -/
def fnBoxesSpec : ChangeSpec := { name := "fnBoxes", fn := fun _ => fun
  | [d1, d2] => { results := [.lit (.bool true)], args := [d1, d2] }
  | _ => none }
def fnBoxesRow : OpenClaim := { program := "ytcaefabbcjlkdaa", sum := "8a57d502bc406287776c4c88c0988f7139c9a915f6427ff3787a605d4763d3f5", func := "loop.example/s01647/laws.FnBoxes", spec := "fnBoxes", recurses := true, apart := false }
def FnBoxesSaid : Prop := fnBoxesRow.holds Try.pinned (OpenSpec.ofChange fnBoxesSpec)

/-- ITS FALSE NEIGHBOUR: 'it returns false'. Refute it at one input. -/
def fnBoxesWrong : ChangeSpec := { name := "fnBoxes", fn := fun _ => fun
  | [d1, d2] => { results := [.lit (.bool false)], args := [d1, d2] }
  | _ => none }
def FnBoxesWrongFalsely : Prop := fnBoxesRow.holds Try.pinned (OpenSpec.ofChange fnBoxesWrong)

/-- 'laws.FnExactDrain': WHATEVER THE INPUT: true; the input reads as it did. -/
def fnExactDrainSpec : ChangeSpec := { name := "fnExactDrain", fn := fun _ => fun
  | [d] => { results := [.lit (.bool true)], args := [d] }
  | _ => none }
def fnExactDrainRow : OpenClaim := { program := "ytcaefabbcjlkdaa", sum := "8a57d502bc406287776c4c88c0988f7139c9a915f6427ff3787a605d4763d3f5", func := "loop.example/s01647/laws.FnExactDrain", spec := "fnExactDrain", apart := false }
def FnExactDrainSaid : Prop := fnExactDrainRow.holds Try.pinned (OpenSpec.ofChange fnExactDrainSpec)

/-- ITS FALSE NEIGHBOUR: 'it returns false'. Refute it at one input. -/
def fnExactDrainWrong : ChangeSpec := { name := "fnExactDrain", fn := fun _ => fun
  | [d] => { results := [.lit (.bool false)], args := [d] }
  | _ => none }
def FnExactDrainWrongFalsely : Prop := fnExactDrainRow.holds Try.pinned (OpenSpec.ofChange fnExactDrainWrong)

/-- 'laws.FnExactTake': WHATEVER THE INPUT: true; the input reads as it did. -/
def fnExactTakeSpec : ChangeSpec := { name := "fnExactTake", fn := fun _ => fun
  | [d1, d2] => { results := [.lit (.bool true)], args := [d1, d2] }
  | _ => none }
def fnExactTakeRow : OpenClaim := { program := "ytcaefabbcjlkdaa", sum := "8a57d502bc406287776c4c88c0988f7139c9a915f6427ff3787a605d4763d3f5", func := "loop.example/s01647/laws.FnExactTake", spec := "fnExactTake", apart := false }
def FnExactTakeSaid : Prop := fnExactTakeRow.holds Try.pinned (OpenSpec.ofChange fnExactTakeSpec)

/-- ITS FALSE NEIGHBOUR: 'it returns false'. Refute it at one input. -/
def fnExactTakeWrong : ChangeSpec := { name := "fnExactTake", fn := fun _ => fun
  | [d1, d2] => { results := [.lit (.bool false)], args := [d1, d2] }
  | _ => none }
def FnExactTakeWrongFalsely : Prop := fnExactTakeRow.holds Try.pinned (OpenSpec.ofChange fnExactTakeWrong)

/-- 'laws.FnExactFetch': WHATEVER THE INPUT: true; the input reads as it did. -/
def fnExactFetchSpec : ChangeSpec := { name := "fnExactFetch", fn := fun _ => fun
  | [d] => { results := [.lit (.bool true)], args := [d] }
  | _ => none }
def fnExactFetchRow : OpenClaim := { program := "ytcaefabbcjlkdaa", sum := "8a57d502bc406287776c4c88c0988f7139c9a915f6427ff3787a605d4763d3f5", func := "loop.example/s01647/laws.FnExactFetch", spec := "fnExactFetch", apart := false }
def FnExactFetchSaid : Prop := fnExactFetchRow.holds Try.pinned (OpenSpec.ofChange fnExactFetchSpec)

/-- ITS FALSE NEIGHBOUR: 'it returns false'. Refute it at one input. -/
def fnExactFetchWrong : ChangeSpec := { name := "fnExactFetch", fn := fun _ => fun
  | [d] => { results := [.lit (.bool false)], args := [d] }
  | _ => none }
def FnExactFetchWrongFalsely : Prop := fnExactFetchRow.holds Try.pinned (OpenSpec.ofChange fnExactFetchWrong)

/-- 'laws.FnExactAbort': WHATEVER THE INPUT: true; the input reads as it did. -/
def fnExactAbortSpec : ChangeSpec := { name := "fnExactAbort", fn := fun _ => fun
  | [d1, d2] => { results := [.lit (.bool true)], args := [d1, d2] }
  | _ => none }
def fnExactAbortRow : OpenClaim := { program := "ytcaefabbcjlkdaa", sum := "8a57d502bc406287776c4c88c0988f7139c9a915f6427ff3787a605d4763d3f5", func := "loop.example/s01647/laws.FnExactAbort", spec := "fnExactAbort", apart := false }
def FnExactAbortSaid : Prop := fnExactAbortRow.holds Try.pinned (OpenSpec.ofChange fnExactAbortSpec)

/-- ITS FALSE NEIGHBOUR: 'it returns false'. Refute it at one input. -/
def fnExactAbortWrong : ChangeSpec := { name := "fnExactAbort", fn := fun _ => fun
  | [d1, d2] => { results := [.lit (.bool false)], args := [d1, d2] }
  | _ => none }
def FnExactAbortWrongFalsely : Prop := fnExactAbortRow.holds Try.pinned (OpenSpec.ofChange fnExactAbortWrong)

/-- 'laws.FnExactRelease': WHATEVER THE INPUT: true; the input reads as it did. -/
def fnExactReleaseSpec : ChangeSpec := { name := "fnExactRelease", fn := fun _ => fun
  | [d1, d2] => { results := [.lit (.bool true)], args := [d1, d2] }
  | _ => none }
def fnExactReleaseRow : OpenClaim := { program := "ytcaefabbcjlkdaa", sum := "8a57d502bc406287776c4c88c0988f7139c9a915f6427ff3787a605d4763d3f5", func := "loop.example/s01647/laws.FnExactRelease", spec := "fnExactRelease", apart := false }
def FnExactReleaseSaid : Prop := fnExactReleaseRow.holds Try.pinned (OpenSpec.ofChange fnExactReleaseSpec)

/-- ITS FALSE NEIGHBOUR: 'it returns false'. Refute it at one input. -/
def fnExactReleaseWrong : ChangeSpec := { name := "fnExactRelease", fn := fun _ => fun
  | [d1, d2] => { results := [.lit (.bool false)], args := [d1, d2] }
  | _ => none }
def FnExactReleaseWrongFalsely : Prop := fnExactReleaseRow.holds Try.pinned (OpenSpec.ofChange fnExactReleaseWrong)

/-- 'laws.FnExactDeliver': WHATEVER THE INPUT: true; the input reads as it did. -/
def fnExactDeliverSpec : ChangeSpec := { name := "fnExactDeliver", fn := fun _ => fun
  | [d1, d2] => { results := [.lit (.bool true)], args := [d1, d2] }
  | _ => none }
def fnExactDeliverRow : OpenClaim := { program := "ytcaefabbcjlkdaa", sum := "8a57d502bc406287776c4c88c0988f7139c9a915f6427ff3787a605d4763d3f5", func := "loop.example/s01647/laws.FnExactDeliver", spec := "fnExactDeliver", apart := false }
def FnExactDeliverSaid : Prop := fnExactDeliverRow.holds Try.pinned (OpenSpec.ofChange fnExactDeliverSpec)

/-- ITS FALSE NEIGHBOUR: 'it returns false'. Refute it at one input. -/
def fnExactDeliverWrong : ChangeSpec := { name := "fnExactDeliver", fn := fun _ => fun
  | [d1, d2] => { results := [.lit (.bool false)], args := [d1, d2] }
  | _ => none }
def FnExactDeliverWrongFalsely : Prop := fnExactDeliverRow.holds Try.pinned (OpenSpec.ofChange fnExactDeliverWrong)

/-- 'laws.FnExactSubmit': WHATEVER THE INPUT: true; the input reads as it did. -/
def fnExactSubmitSpec : ChangeSpec := { name := "fnExactSubmit", fn := fun _ => fun
  | [d1, d2, d3] => { results := [.lit (.bool true)], args := [d1, d2, d3] }
  | _ => none }
def fnExactSubmitRow : OpenClaim := { program := "ytcaefabbcjlkdaa", sum := "8a57d502bc406287776c4c88c0988f7139c9a915f6427ff3787a605d4763d3f5", func := "loop.example/s01647/laws.FnExactSubmit", spec := "fnExactSubmit", apart := false }
def FnExactSubmitSaid : Prop := fnExactSubmitRow.holds Try.pinned (OpenSpec.ofChange fnExactSubmitSpec)

/-- ITS FALSE NEIGHBOUR: 'it returns false'. Refute it at one input. -/
def fnExactSubmitWrong : ChangeSpec := { name := "fnExactSubmit", fn := fun _ => fun
  | [d1, d2, d3] => { results := [.lit (.bool false)], args := [d1, d2, d3] }
  | _ => none }
def FnExactSubmitWrongFalsely : Prop := fnExactSubmitRow.holds Try.pinned (OpenSpec.ofChange fnExactSubmitWrong)

/- THE SECOND FORM. 'bulk': how many values and letters a reading holds, each counted each time it is reached (what is shared counts as often as it is met; a slice's spare places count too). A statement '..UptoSaid' is the law's where the arguments, and the package variables that the reading takes, are together of bulk at most 1048576: NARROWER than '..Said'. Prove '..Said' where nothing that the law and all that it calls make is longer than what came in: it says more and counts as full. Else prove '..UptoSaid'. A law counts once. -/
mutual
def uptoBulk {H : Type} : DataW H → Nat
  | .lit (.string bytes) => bytes.length + 1
  | .lit _ => 1
  | .nil => 1
  | .ptr d => uptoBulk d + 1
  | .slice elems spare => uptoBulkAll elems + uptoBulkAll spare + 1
  | .agg parts => uptoBulkAll parts + 1
  | .iface _ d => uptoBulk d + 1
  | .map entries => uptoBulkEntries entries + 1
  | .held _ => 1
def uptoBulkAll {H : Type} : List (DataW H) → Nat
  | [] => 0
  | d :: r => uptoBulk d + uptoBulkAll r
def uptoBulkEntries {H : Type} : List (Lit × DataW H) → Nat
  | [] => 0
  | x :: r => uptoBulkEntry x + uptoBulkEntries r
def uptoBulkEntry {H : Type} : Lit × DataW H → Nat
  | (.string bytes, d) => bytes.length + uptoBulk d + 1
  | (_, d) => uptoBulk d + 1
 end
def uptoSmall : (H : Type) → List (DataW H) → Bool := fun _ ds => decide (uptoBulkAll ds ≤ 1048576)
def OpenSpec.upto (s : _root_.Go.ChangeSpec) : _root_.Go.OpenSpec := { _root_.Go.OpenSpec.ofChange s with cond := some uptoSmall }

/-- 'laws.FnExactNewHost', WHERE WHAT IT READS IS OF BULK AT MOST 1048576: true; the input reads as it did. -/
def fnExactNewHostUptoRow : OpenClaim := { program := "ytcaefabbcjlkdaa", sum := "8a57d502bc406287776c4c88c0988f7139c9a915f6427ff3787a605d4763d3f5", func := "loop.example/s01647/laws.FnExactNewHost", spec := "fnExactNewHost", apart := false, narrowed := true }
def FnExactNewHostUptoSaid : Prop := fnExactNewHostUptoRow.holds Try.pinned (OpenSpec.upto fnExactNewHostSpec)

/-- 'laws.FnFirstOut', WHERE WHAT IT READS IS OF BULK AT MOST 1048576: true; the input reads as it did. -/
def fnFirstOutUptoRow : OpenClaim := { program := "ytcaefabbcjlkdaa", sum := "8a57d502bc406287776c4c88c0988f7139c9a915f6427ff3787a605d4763d3f5", func := "loop.example/s01647/laws.FnFirstOut", spec := "fnFirstOut", recurses := true, apart := false, narrowed := true }
def FnFirstOutUptoSaid : Prop := fnFirstOutUptoRow.holds Try.pinned (OpenSpec.upto fnFirstOutSpec)

/-- 'laws.FnExactBest', WHERE WHAT IT READS IS OF BULK AT MOST 1048576: true; the input reads as it did. -/
def fnExactBestUptoRow : OpenClaim := { program := "ytcaefabbcjlkdaa", sum := "8a57d502bc406287776c4c88c0988f7139c9a915f6427ff3787a605d4763d3f5", func := "loop.example/s01647/laws.FnExactBest", spec := "fnExactBest", recurses := true, apart := false, narrowed := true }
def FnExactBestUptoSaid : Prop := fnExactBestUptoRow.holds Try.pinned (OpenSpec.upto fnExactBestSpec)

/-- 'laws.FnBoxes', WHERE WHAT IT READS IS OF BULK AT MOST 1048576: true; the input reads as it did. -/
def fnBoxesUptoRow : OpenClaim := { program := "ytcaefabbcjlkdaa", sum := "8a57d502bc406287776c4c88c0988f7139c9a915f6427ff3787a605d4763d3f5", func := "loop.example/s01647/laws.FnBoxes", spec := "fnBoxes", recurses := true, apart := false, narrowed := true }
def FnBoxesUptoSaid : Prop := fnBoxesUptoRow.holds Try.pinned (OpenSpec.upto fnBoxesSpec)

/-- 'laws.FnExactDrain', WHERE WHAT IT READS IS OF BULK AT MOST 1048576: true; the input reads as it did. -/
def fnExactDrainUptoRow : OpenClaim := { program := "ytcaefabbcjlkdaa", sum := "8a57d502bc406287776c4c88c0988f7139c9a915f6427ff3787a605d4763d3f5", func := "loop.example/s01647/laws.FnExactDrain", spec := "fnExactDrain", apart := false, narrowed := true }
def FnExactDrainUptoSaid : Prop := fnExactDrainUptoRow.holds Try.pinned (OpenSpec.upto fnExactDrainSpec)

/-- 'laws.FnExactTake', WHERE WHAT IT READS IS OF BULK AT MOST 1048576: true; the input reads as it did. -/
def fnExactTakeUptoRow : OpenClaim := { program := "ytcaefabbcjlkdaa", sum := "8a57d502bc406287776c4c88c0988f7139c9a915f6427ff3787a605d4763d3f5", func := "loop.example/s01647/laws.FnExactTake", spec := "fnExactTake", apart := false, narrowed := true }
def FnExactTakeUptoSaid : Prop := fnExactTakeUptoRow.holds Try.pinned (OpenSpec.upto fnExactTakeSpec)

/-- 'laws.FnExactFetch', WHERE WHAT IT READS IS OF BULK AT MOST 1048576: true; the input reads as it did. -/
def fnExactFetchUptoRow : OpenClaim := { program := "ytcaefabbcjlkdaa", sum := "8a57d502bc406287776c4c88c0988f7139c9a915f6427ff3787a605d4763d3f5", func := "loop.example/s01647/laws.FnExactFetch", spec := "fnExactFetch", apart := false, narrowed := true }
def FnExactFetchUptoSaid : Prop := fnExactFetchUptoRow.holds Try.pinned (OpenSpec.upto fnExactFetchSpec)

/-- 'laws.FnExactAbort', WHERE WHAT IT READS IS OF BULK AT MOST 1048576: true; the input reads as it did. -/
def fnExactAbortUptoRow : OpenClaim := { program := "ytcaefabbcjlkdaa", sum := "8a57d502bc406287776c4c88c0988f7139c9a915f6427ff3787a605d4763d3f5", func := "loop.example/s01647/laws.FnExactAbort", spec := "fnExactAbort", apart := false, narrowed := true }
def FnExactAbortUptoSaid : Prop := fnExactAbortUptoRow.holds Try.pinned (OpenSpec.upto fnExactAbortSpec)

/-- 'laws.FnExactRelease', WHERE WHAT IT READS IS OF BULK AT MOST 1048576: true; the input reads as it did. -/
def fnExactReleaseUptoRow : OpenClaim := { program := "ytcaefabbcjlkdaa", sum := "8a57d502bc406287776c4c88c0988f7139c9a915f6427ff3787a605d4763d3f5", func := "loop.example/s01647/laws.FnExactRelease", spec := "fnExactRelease", apart := false, narrowed := true }
def FnExactReleaseUptoSaid : Prop := fnExactReleaseUptoRow.holds Try.pinned (OpenSpec.upto fnExactReleaseSpec)

/-- 'laws.FnExactDeliver', WHERE WHAT IT READS IS OF BULK AT MOST 1048576: true; the input reads as it did. -/
def fnExactDeliverUptoRow : OpenClaim := { program := "ytcaefabbcjlkdaa", sum := "8a57d502bc406287776c4c88c0988f7139c9a915f6427ff3787a605d4763d3f5", func := "loop.example/s01647/laws.FnExactDeliver", spec := "fnExactDeliver", apart := false, narrowed := true }
def FnExactDeliverUptoSaid : Prop := fnExactDeliverUptoRow.holds Try.pinned (OpenSpec.upto fnExactDeliverSpec)

/-- 'laws.FnExactSubmit', WHERE WHAT IT READS IS OF BULK AT MOST 1048576: true; the input reads as it did. -/
def fnExactSubmitUptoRow : OpenClaim := { program := "ytcaefabbcjlkdaa", sum := "8a57d502bc406287776c4c88c0988f7139c9a915f6427ff3787a605d4763d3f5", func := "loop.example/s01647/laws.FnExactSubmit", spec := "fnExactSubmit", apart := false, narrowed := true }
def FnExactSubmitUptoSaid : Prop := fnExactSubmitUptoRow.holds Try.pinned (OpenSpec.upto fnExactSubmitSpec)

end Rows
end Go.Proofs.Ytcaefabbcjlkdaa
