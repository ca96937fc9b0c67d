/-
  No cell of these rows narrows 'for every input' (looked for: loops, veiled, ifaces, maps, wideKeys, modest, calm, conditions, laid).
  DERIVED. THE GIVEN ROWS OF THIS SEAT. 10 by the template 'for every input the law returns true; each argument reads behind the call as it read before'; 0 by the template 'total and deterministic' (their statements: YtdoclpgciadjaaaTotals.lean).
  GIVEN WITH THE SEED: the statements are not yours to turn. If you find one false, say at which input.
  Laid BY PROGRAM, IN A SANDBOX (cutbox-rows.mjs): the forced cells as the released guide's own fill.sh prints them over the translation dd969532109ed0f1… (all of the seat's roots in one cut). By AI agents, Wed Nov 11 2026. No macro, syntax, notation, axiom, sorry.
-/
import Derived.Test.YtdoclpgciadjaaaChecked
import GoSem.Claim
import GoSem.ClaimJoined
import GoSem.ClaimMapViews
import Derived.JoinedTies
import Derived.KernelRfl
namespace Go.Proofs.Ytdoclpgciadjaaa
/- THE CELL 'sum', in the pinned program and in every row, IS THE sha256 OF THE DUMP (.gsa) THAT YtdoclpgciadjaaaProg.lean LOADS. Nothing in Lean hashes anything: it is a label: what it is worth is what the hold of that sum in a sandbox is worth. -/
noncomputable def Try.pinned : Pinned := { name := "ytdoclpgciadjaaa", sum := "dd969532109ed0f1c7839acaeff0e1e648849b43cfb6f9483f851341d6acf373", checked := Try.checked }
namespace Rows
def none {H : Type} : Left H := { results := [], args := [] }

/-- 'laws.FnFiveFlips': WHATEVER THE INPUT: true; the input reads as it did. -/
def fnFiveFlipsSpec : ChangeSpec := { name := "fnFiveFlips", fn := fun _ => fun
  | [d1, d2] => { results := [.lit (.bool true)], args := [d1, d2] }
  | _ => none }
def fnFiveFlipsRow : OpenClaim := { program := "ytdoclpgciadjaaa", sum := "dd969532109ed0f1c7839acaeff0e1e648849b43cfb6f9483f851341d6acf373", func := "loop.example/s01647/laws.FnFiveFlips", spec := "fnFiveFlips", recurses := true, apart := false }
def FnFiveFlipsSaid : Prop := fnFiveFlipsRow.holds Try.pinned (OpenSpec.ofChange fnFiveFlipsSpec)

/-- ITS FALSE NEIGHBOUR: 'it returns false'. Refute it at one input. -/
def fnFiveFlipsWrong : ChangeSpec := { name := "fnFiveFlips", fn := fun _ => fun
  | [d1, d2] => { results := [.lit (.bool false)], args := [d1, d2] }
  | _ => none }
def FnFiveFlipsWrongFalsely : Prop := fnFiveFlipsRow.holds Try.pinned (OpenSpec.ofChange fnFiveFlipsWrong)

/-- 'laws.FnArbitration': WHATEVER THE INPUT: true; the input reads as it did. -/
def fnArbitrationSpec : ChangeSpec := { name := "fnArbitration", fn := fun _ => fun
  | [d1, d2] => { results := [.lit (.bool true)], args := [d1, d2] }
  | _ => none }
def fnArbitrationRow : OpenClaim := { program := "ytdoclpgciadjaaa", sum := "dd969532109ed0f1c7839acaeff0e1e648849b43cfb6f9483f851341d6acf373", func := "loop.example/s01647/laws.FnArbitration", spec := "fnArbitration", recurses := true, apart := false }
def FnArbitrationSaid : Prop := fnArbitrationRow.holds Try.pinned (OpenSpec.ofChange fnArbitrationSpec)

/-- ITS FALSE NEIGHBOUR: 'it returns false'. Refute it at one input. -/
def fnArbitrationWrong : ChangeSpec := { name := "fnArbitration", fn := fun _ => fun
  | [d1, d2] => { results := [.lit (.bool false)], args := [d1, d2] }
  | _ => none }
def FnArbitrationWrongFalsely : Prop := fnArbitrationRow.holds Try.pinned (OpenSpec.ofChange fnArbitrationWrong)

/-- 'laws.FnExactJudge': WHATEVER THE INPUT: true; the input reads as it did. -/
def fnExactJudgeSpec : ChangeSpec := { name := "fnExactJudge", fn := fun _ => fun
  | [d] => { results := [.lit (.bool true)], args := [d] }
  | _ => none }
def fnExactJudgeRow : OpenClaim := { program := "ytdoclpgciadjaaa", sum := "dd969532109ed0f1c7839acaeff0e1e648849b43cfb6f9483f851341d6acf373", func := "loop.example/s01647/laws.FnExactJudge", spec := "fnExactJudge", recurses := true, apart := false }
def FnExactJudgeSaid : Prop := fnExactJudgeRow.holds Try.pinned (OpenSpec.ofChange fnExactJudgeSpec)

/-- ITS FALSE NEIGHBOUR: 'it returns false'. Refute it at one input. -/
def fnExactJudgeWrong : ChangeSpec := { name := "fnExactJudge", fn := fun _ => fun
  | [d] => { results := [.lit (.bool false)], args := [d] }
  | _ => none }
def FnExactJudgeWrongFalsely : Prop := fnExactJudgeRow.holds Try.pinned (OpenSpec.ofChange fnExactJudgeWrong)

/-- 'laws.FnExactImage': WHATEVER THE INPUT: true; the input reads as it did. -/
def fnExactImageSpec : ChangeSpec := { name := "fnExactImage", fn := fun _ => fun
  | [d] => { results := [.lit (.bool true)], args := [d] }
  | _ => none }
def fnExactImageRow : OpenClaim := { program := "ytdoclpgciadjaaa", sum := "dd969532109ed0f1c7839acaeff0e1e648849b43cfb6f9483f851341d6acf373", func := "loop.example/s01647/laws.FnExactImage", spec := "fnExactImage", recurses := true, apart := false }
def FnExactImageSaid : Prop := fnExactImageRow.holds Try.pinned (OpenSpec.ofChange fnExactImageSpec)

/-- ITS FALSE NEIGHBOUR: 'it returns false'. Refute it at one input. -/
def fnExactImageWrong : ChangeSpec := { name := "fnExactImage", fn := fun _ => fun
  | [d] => { results := [.lit (.bool false)], args := [d] }
  | _ => none }
def FnExactImageWrongFalsely : Prop := fnExactImageRow.holds Try.pinned (OpenSpec.ofChange fnExactImageWrong)

/-- 'laws.FnExactErrorState': WHATEVER THE INPUT: true; the input reads as it did. -/
def fnExactErrorStateSpec : ChangeSpec := { name := "fnExactErrorState", fn := fun _ => fun
  | [d] => { results := [.lit (.bool true)], args := [d] }
  | _ => none }
def fnExactErrorStateRow : OpenClaim := { program := "ytdoclpgciadjaaa", sum := "dd969532109ed0f1c7839acaeff0e1e648849b43cfb6f9483f851341d6acf373", func := "loop.example/s01647/laws.FnExactErrorState", spec := "fnExactErrorState", apart := false }
def FnExactErrorStateSaid : Prop := fnExactErrorStateRow.holds Try.pinned (OpenSpec.ofChange fnExactErrorStateSpec)

/-- ITS FALSE NEIGHBOUR: 'it returns false'. Refute it at one input. -/
def fnExactErrorStateWrong : ChangeSpec := { name := "fnExactErrorState", fn := fun _ => fun
  | [d] => { results := [.lit (.bool false)], args := [d] }
  | _ => none }
def FnExactErrorStateWrongFalsely : Prop := fnExactErrorStateRow.holds Try.pinned (OpenSpec.ofChange fnExactErrorStateWrong)

/-- 'laws.FnExactDecode': WHATEVER THE INPUT: true; the input reads as it did. -/
def fnExactDecodeSpec : ChangeSpec := { name := "fnExactDecode", fn := fun _ => fun
  | [d] => { results := [.lit (.bool true)], args := [d] }
  | _ => none }
def fnExactDecodeRow : OpenClaim := { program := "ytdoclpgciadjaaa", sum := "dd969532109ed0f1c7839acaeff0e1e648849b43cfb6f9483f851341d6acf373", func := "loop.example/s01647/laws.FnExactDecode", spec := "fnExactDecode", recurses := true, apart := false }
def FnExactDecodeSaid : Prop := fnExactDecodeRow.holds Try.pinned (OpenSpec.ofChange fnExactDecodeSpec)

/-- ITS FALSE NEIGHBOUR: 'it returns false'. Refute it at one input. -/
def fnExactDecodeWrong : ChangeSpec := { name := "fnExactDecode", fn := fun _ => fun
  | [d] => { results := [.lit (.bool false)], args := [d] }
  | _ => none }
def FnExactDecodeWrongFalsely : Prop := fnExactDecodeRow.holds Try.pinned (OpenSpec.ofChange fnExactDecodeWrong)

/-- 'laws.FnImage': WHATEVER THE INPUT: true; the input reads as it did. -/
def fnImageSpec : ChangeSpec := { name := "fnImage", fn := fun _ => fun
  | [d] => { results := [.lit (.bool true)], args := [d] }
  | _ => none }
def fnImageRow : OpenClaim := { program := "ytdoclpgciadjaaa", sum := "dd969532109ed0f1c7839acaeff0e1e648849b43cfb6f9483f851341d6acf373", func := "loop.example/s01647/laws.FnImage", spec := "fnImage", recurses := true, apart := false }
def FnImageSaid : Prop := fnImageRow.holds Try.pinned (OpenSpec.ofChange fnImageSpec)

/-- ITS FALSE NEIGHBOUR: 'it returns false'. Refute it at one input. -/
def fnImageWrong : ChangeSpec := { name := "fnImage", fn := fun _ => fun
  | [d] => { results := [.lit (.bool false)], args := [d] }
  | _ => none }
def FnImageWrongFalsely : Prop := fnImageRow.holds Try.pinned (OpenSpec.ofChange fnImageWrong)

/-- 'laws.FnExactNewHost': WHATEVER THE INPUT: true; the input reads as it did. -/
def fnExactNewHostSpec : ChangeSpec := { name := "fnExactNewHost", fn := fun _ => fun
  | [d1, d2] => { results := [.lit (.bool true)], args := [d1, d2] }
  | _ => none }
def fnExactNewHostRow : OpenClaim := { program := "ytdoclpgciadjaaa", sum := "dd969532109ed0f1c7839acaeff0e1e648849b43cfb6f9483f851341d6acf373", func := "loop.example/s01647/laws.FnExactNewHost", spec := "fnExactNewHost", apart := false }
def FnExactNewHostSaid : Prop := fnExactNewHostRow.holds Try.pinned (OpenSpec.ofChange fnExactNewHostSpec)

/-- ITS FALSE NEIGHBOUR: 'it returns false'. Refute it at one input. -/
def fnExactNewHostWrong : ChangeSpec := { name := "fnExactNewHost", fn := fun _ => fun
  | [d1, d2] => { results := [.lit (.bool false)], args := [d1, d2] }
  | _ => none }
def FnExactNewHostWrongFalsely : Prop := fnExactNewHostRow.holds Try.pinned (OpenSpec.ofChange fnExactNewHostWrong)

/-- 'laws.FnExactSniff': WHATEVER THE INPUT: true; the input reads as it did. -/
def fnExactSniffSpec : ChangeSpec := { name := "fnExactSniff", fn := fun _ => fun
  | [d] => { results := [.lit (.bool true)], args := [d] }
  | _ => none }
def fnExactSniffRow : OpenClaim := { program := "ytdoclpgciadjaaa", sum := "dd969532109ed0f1c7839acaeff0e1e648849b43cfb6f9483f851341d6acf373", func := "loop.example/s01647/laws.FnExactSniff", spec := "fnExactSniff", unfollowed := true, recurses := true, apart := false }
def FnExactSniffSaid : Prop := fnExactSniffRow.holds Try.pinned (OpenSpec.ofChange fnExactSniffSpec)

/-- ITS FALSE NEIGHBOUR: 'it returns false'. Refute it at one input. -/
def fnExactSniffWrong : ChangeSpec := { name := "fnExactSniff", fn := fun _ => fun
  | [d] => { results := [.lit (.bool false)], args := [d] }
  | _ => none }
def FnExactSniffWrongFalsely : Prop := fnExactSniffRow.holds Try.pinned (OpenSpec.ofChange fnExactSniffWrong)

/-- 'laws.FnExactSpans': WHATEVER THE INPUT: true; the input reads as it did. -/
def fnExactSpansSpec : ChangeSpec := { name := "fnExactSpans", fn := fun _ => fun
  | [d] => { results := [.lit (.bool true)], args := [d] }
  | _ => none }
def fnExactSpansRow : OpenClaim := { program := "ytdoclpgciadjaaa", sum := "dd969532109ed0f1c7839acaeff0e1e648849b43cfb6f9483f851341d6acf373", func := "loop.example/s01647/laws.FnExactSpans", spec := "fnExactSpans", recurses := true, apart := false }
def FnExactSpansSaid : Prop := fnExactSpansRow.holds Try.pinned (OpenSpec.ofChange fnExactSpansSpec)

/-- ITS FALSE NEIGHBOUR: 'it returns false'. Refute it at one input. -/
def fnExactSpansWrong : ChangeSpec := { name := "fnExactSpans", fn := fun _ => fun
  | [d] => { results := [.lit (.bool false)], args := [d] }
  | _ => none }
def FnExactSpansWrongFalsely : Prop := fnExactSpansRow.holds Try.pinned (OpenSpec.ofChange fnExactSpansWrong)

/- THE SECOND FORM. 'bulk': how many values and letters a reading holds, each counted each time it is reached (what is shared counts as often as it is met; a slice's spare places count too). A statement '..UptoSaid' is the law's where the arguments, and the package variables that the reading takes, are together of bulk at most 1048576: NARROWER than '..Said'. Prove '..Said' where nothing that the law and all that it calls make is longer than what came in: it says more and counts as full. Else prove '..UptoSaid'. A law counts once. -/
mutual
def uptoBulk {H : Type} : DataW H → Nat
  | .lit (.string bytes) => bytes.length + 1
  | .lit _ => 1
  | .nil => 1
  | .ptr d => uptoBulk d + 1
  | .slice elems spare => uptoBulkAll elems + uptoBulkAll spare + 1
  | .agg parts => uptoBulkAll parts + 1
  | .iface _ d => uptoBulk d + 1
  | .map entries => uptoBulkEntries entries + 1
  | .held _ => 1
def uptoBulkAll {H : Type} : List (DataW H) → Nat
  | [] => 0
  | d :: r => uptoBulk d + uptoBulkAll r
def uptoBulkEntries {H : Type} : List (Lit × DataW H) → Nat
  | [] => 0
  | x :: r => uptoBulkEntry x + uptoBulkEntries r
def uptoBulkEntry {H : Type} : Lit × DataW H → Nat
  | (.string bytes, d) => bytes.length + uptoBulk d + 1
  | (_, d) => uptoBulk d + 1
 end
def uptoSmall : (H : Type) → List (DataW H) → Bool := fun _ ds => decide (uptoBulkAll ds ≤ 1048576)
def OpenSpec.upto (s : _root_.Go.ChangeSpec) : _root_.Go.OpenSpec := { _root_.Go.OpenSpec.ofChange s with cond := some uptoSmall }

/-- 'laws.FnFiveFlips', WHERE WHAT IT READS IS OF BULK AT MOST 1048576: true; the input reads as it did. -/
def fnFiveFlipsUptoRow : OpenClaim := { program := "ytdoclpgciadjaaa", sum := "dd969532109ed0f1c7839acaeff0e1e648849b43cfb6f9483f851341d6acf373", func := "loop.example/s01647/laws.FnFiveFlips", spec := "fnFiveFlips", recurses := true, apart := false, narrowed := true }
def FnFiveFlipsUptoSaid : Prop := fnFiveFlipsUptoRow.holds Try.pinned (OpenSpec.upto fnFiveFlipsSpec)

/-- 'laws.FnArbitration', WHERE WHAT IT READS IS OF BULK AT MOST 1048576: true; the input reads as it did. -/
def fnArbitrationUptoRow : OpenClaim := { program := "ytdoclpgciadjaaa", sum := "dd969532109ed0f1c7839acaeff0e1e648849b43cfb6f9483f851341d6acf373", func := "loop.example/s01647/laws.FnArbitration", spec := "fnArbitration", recurses := true, apart := false, narrowed := true }
def FnArbitrationUptoSaid : Prop := fnArbitrationUptoRow.holds Try.pinned (OpenSpec.upto fnArbitrationSpec)

/-- 'laws.FnExactJudge', WHERE WHAT IT READS IS OF BULK AT MOST 1048576: true; the input reads as it did. -/
def fnExactJudgeUptoRow : OpenClaim := { program := "ytdoclpgciadjaaa", sum := "dd969532109ed0f1c7839acaeff0e1e648849b43cfb6f9483f851341d6acf373", func := "loop.example/s01647/laws.FnExactJudge", spec := "fnExactJudge", recurses := true, apart := false, narrowed := true }
def FnExactJudgeUptoSaid : Prop := fnExactJudgeUptoRow.holds Try.pinned (OpenSpec.upto fnExactJudgeSpec)

/-- 'laws.FnExactImage', WHERE WHAT IT READS IS OF BULK AT MOST 1048576: true; the input reads as it did. -/
def fnExactImageUptoRow : OpenClaim := { program := "ytdoclpgciadjaaa", sum := "dd969532109ed0f1c7839acaeff0e1e648849b43cfb6f9483f851341d6acf373", func := "loop.example/s01647/laws.FnExactImage", spec := "fnExactImage", recurses := true, apart := false, narrowed := true }
def FnExactImageUptoSaid : Prop := fnExactImageUptoRow.holds Try.pinned (OpenSpec.upto fnExactImageSpec)

/-- 'laws.FnExactErrorState', WHERE WHAT IT READS IS OF BULK AT MOST 1048576: true; the input reads as it did. -/
def fnExactErrorStateUptoRow : OpenClaim := { program := "ytdoclpgciadjaaa", sum := "dd969532109ed0f1c7839acaeff0e1e648849b43cfb6f9483f851341d6acf373", func := "loop.example/s01647/laws.FnExactErrorState", spec := "fnExactErrorState", apart := false, narrowed := true }
def FnExactErrorStateUptoSaid : Prop := fnExactErrorStateUptoRow.holds Try.pinned (OpenSpec.upto fnExactErrorStateSpec)

/-- 'laws.FnExactDecode', WHERE WHAT IT READS IS OF BULK AT MOST 1048576: true; the input reads as it did. -/
def fnExactDecodeUptoRow : OpenClaim := { program := "ytdoclpgciadjaaa", sum := "dd969532109ed0f1c7839acaeff0e1e648849b43cfb6f9483f851341d6acf373", func := "loop.example/s01647/laws.FnExactDecode", spec := "fnExactDecode", recurses := true, apart := false, narrowed := true }
def FnExactDecodeUptoSaid : Prop := fnExactDecodeUptoRow.holds Try.pinned (OpenSpec.upto fnExactDecodeSpec)

/-- 'laws.FnImage', WHERE WHAT IT READS IS OF BULK AT MOST 1048576: true; the input reads as it did. -/
def fnImageUptoRow : OpenClaim := { program := "ytdoclpgciadjaaa", sum := "dd969532109ed0f1c7839acaeff0e1e648849b43cfb6f9483f851341d6acf373", func := "loop.example/s01647/laws.FnImage", spec := "fnImage", recurses := true, apart := false, narrowed := true }
def FnImageUptoSaid : Prop := fnImageUptoRow.holds Try.pinned (OpenSpec.upto fnImageSpec)

/-- 'laws.FnExactNewHost', WHERE WHAT IT READS IS OF BULK AT MOST 1048576: true; the input reads as it did. -/
def fnExactNewHostUptoRow : OpenClaim := { program := "ytdoclpgciadjaaa", sum := "dd969532109ed0f1c7839acaeff0e1e648849b43cfb6f9483f851341d6acf373", func := "loop.example/s01647/laws.FnExactNewHost", spec := "fnExactNewHost", apart := false, narrowed := true }
def FnExactNewHostUptoSaid : Prop := fnExactNewHostUptoRow.holds Try.pinned (OpenSpec.upto fnExactNewHostSpec)

/-- 'laws.FnExactSniff', WHERE WHAT IT READS IS OF BULK AT MOST 1048576: true; the input reads as it did. -/
def fnExactSniffUptoRow : OpenClaim := { program := "ytdoclpgciadjaaa", sum := "dd969532109ed0f1c7839acaeff0e1e648849b43cfb6f9483f851341d6acf373", func := "loop.example/s01647/laws.FnExactSniff", spec := "fnExactSniff", unfollowed := true, recurses := true, apart := false, narrowed := true }
def FnExactSniffUptoSaid : Prop := fnExactSniffUptoRow.holds Try.pinned (OpenSpec.upto fnExactSniffSpec)

/-- 'laws.FnExactSpans', WHERE WHAT IT READS IS OF BULK AT MOST 1048576: true; the input reads as it did. -/
def fnExactSpansUptoRow : OpenClaim := { program := "ytdoclpgciadjaaa", sum := "dd969532109ed0f1c7839acaeff0e1e648849b43cfb6f9483f851341d6acf373", func := "loop.example/s01647/laws.FnExactSpans", spec := "fnExactSpans", recurses := true, apart := false, narrowed := true }
def FnExactSpansUptoSaid : Prop := fnExactSpansUptoRow.holds Try.pinned (OpenSpec.upto fnExactSpansSpec)

end Rows
end Go.Proofs.Ytdoclpgciadjaaa
