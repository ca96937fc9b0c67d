/-
  No cell of these rows narrows 'for every input' (looked for: loops, veiled, ifaces, maps, wideKeys, modest, calm, conditions, laid).
  DERIVED. THE GIVEN ROWS OF THIS SEAT. 12 by the template 'for every input the law returns true; each argument reads behind the call as it read before'; 0 by the template 'total and deterministic' (their statements: YtogedkkdhonmlaaTotals.lean).
  GIVEN WITH THE SEED: the statements are not yours to turn. If you find one false, say at which input.
  Laid BY PROGRAM, IN A SANDBOX (cutbox-rows.mjs): the forced cells as the released guide's own fill.sh prints them over the translation c874b67d2cad455d… (all of the seat's roots in one cut). By AI agents, Wed Nov 11 2026. No macro, syntax, notation, axiom, sorry.
-/
import Derived.Test.YtogedkkdhonmlaaChecked
import GoSem.Claim
import GoSem.ClaimJoined
import GoSem.ClaimMapViews
import Derived.JoinedTies
import Derived.KernelRfl
namespace Go.Proofs.Ytogedkkdhonmlaa
/- THE CELL 'sum', in the pinned program and in every row, IS THE sha256 OF THE DUMP (.gsa) THAT YtogedkkdhonmlaaProg.lean LOADS. Nothing in Lean hashes anything: it is a label: what it is worth is what the hold of that sum in a sandbox is worth. -/
noncomputable def Try.pinned : Pinned := { name := "ytogedkkdhonmlaa", sum := "c874b67d2cad455d3e35fff3752481af32ba93dccf3176504a48fcd65e2a630c", checked := Try.checked }
namespace Rows
def none {H : Type} : Left H := { results := [], args := [] }

/-- 'laws.FnExactConstants': WHATEVER THE INPUT: true; the input reads as it did. -/
def fnExactConstantsSpec : ChangeSpec := { name := "fnExactConstants", fn := fun _ => fun
  | [] => { results := [.lit (.bool true)], args := [] }
  | _ => none }
def fnExactConstantsRow : OpenClaim := { program := "ytogedkkdhonmlaa", sum := "c874b67d2cad455d3e35fff3752481af32ba93dccf3176504a48fcd65e2a630c", func := "loop.example/s01647/laws.FnExactConstants", spec := "fnExactConstants", apart := false }
def FnExactConstantsSaid : Prop := fnExactConstantsRow.holds Try.pinned (OpenSpec.ofChange fnExactConstantsSpec)

/-- ITS FALSE NEIGHBOUR: 'it returns false'. Refute it at one input. -/
def fnExactConstantsWrong : ChangeSpec := { name := "fnExactConstants", fn := fun _ => fun
  | [] => { results := [.lit (.bool false)], args := [] }
  | _ => none }
def FnExactConstantsWrongFalsely : Prop := fnExactConstantsRow.holds Try.pinned (OpenSpec.ofChange fnExactConstantsWrong)

/-- 'laws.FnExactCrc15': WHATEVER THE INPUT: true; the input reads as it did. -/
def fnExactCrc15Spec : ChangeSpec := { name := "fnExactCrc15", fn := fun _ => fun
  | [d] => { results := [.lit (.bool true)], args := [d] }
  | _ => none }
def fnExactCrc15Row : OpenClaim := { program := "ytogedkkdhonmlaa", sum := "c874b67d2cad455d3e35fff3752481af32ba93dccf3176504a48fcd65e2a630c", func := "loop.example/s01647/laws.FnExactCrc15", spec := "fnExactCrc15", apart := false }
def FnExactCrc15Said : Prop := fnExactCrc15Row.holds Try.pinned (OpenSpec.ofChange fnExactCrc15Spec)

/-- ITS FALSE NEIGHBOUR: 'it returns false'. Refute it at one input. -/
def fnExactCrc15Wrong : ChangeSpec := { name := "fnExactCrc15", fn := fun _ => fun
  | [d] => { results := [.lit (.bool false)], args := [d] }
  | _ => none }
def FnExactCrc15WrongFalsely : Prop := fnExactCrc15Row.holds Try.pinned (OpenSpec.ofChange fnExactCrc15Wrong)

/-- 'laws.FnExactDestuff': WHATEVER THE INPUT: true; the input reads as it did. -/
def fnExactDestuffSpec : ChangeSpec := { name := "fnExactDestuff", fn := fun _ => fun
  | [d] => { results := [.lit (.bool true)], args := [d] }
  | _ => none }
def fnExactDestuffRow : OpenClaim := { program := "ytogedkkdhonmlaa", sum := "c874b67d2cad455d3e35fff3752481af32ba93dccf3176504a48fcd65e2a630c", func := "loop.example/s01647/laws.FnExactDestuff", spec := "fnExactDestuff", apart := false }
def FnExactDestuffSaid : Prop := fnExactDestuffRow.holds Try.pinned (OpenSpec.ofChange fnExactDestuffSpec)

/-- ITS FALSE NEIGHBOUR: 'it returns false'. Refute it at one input. -/
def fnExactDestuffWrong : ChangeSpec := { name := "fnExactDestuff", fn := fun _ => fun
  | [d] => { results := [.lit (.bool false)], args := [d] }
  | _ => none }
def FnExactDestuffWrongFalsely : Prop := fnExactDestuffRow.holds Try.pinned (OpenSpec.ofChange fnExactDestuffWrong)

/-- 'laws.FnExactStuff': WHATEVER THE INPUT: true; the input reads as it did. -/
def fnExactStuffSpec : ChangeSpec := { name := "fnExactStuff", fn := fun _ => fun
  | [d] => { results := [.lit (.bool true)], args := [d] }
  | _ => none }
def fnExactStuffRow : OpenClaim := { program := "ytogedkkdhonmlaa", sum := "c874b67d2cad455d3e35fff3752481af32ba93dccf3176504a48fcd65e2a630c", func := "loop.example/s01647/laws.FnExactStuff", spec := "fnExactStuff", apart := false }
def FnExactStuffSaid : Prop := fnExactStuffRow.holds Try.pinned (OpenSpec.ofChange fnExactStuffSpec)

/-- ITS FALSE NEIGHBOUR: 'it returns false'. Refute it at one input. -/
def fnExactStuffWrong : ChangeSpec := { name := "fnExactStuff", fn := fun _ => fun
  | [d] => { results := [.lit (.bool false)], args := [d] }
  | _ => none }
def FnExactStuffWrongFalsely : Prop := fnExactStuffRow.holds Try.pinned (OpenSpec.ofChange fnExactStuffWrong)

/-- 'laws.FnExactUnpack': WHATEVER THE INPUT: true; the input reads as it did. -/
def fnExactUnpackSpec : ChangeSpec := { name := "fnExactUnpack", fn := fun _ => fun
  | [d] => { results := [.lit (.bool true)], args := [d] }
  | _ => none }
def fnExactUnpackRow : OpenClaim := { program := "ytogedkkdhonmlaa", sum := "c874b67d2cad455d3e35fff3752481af32ba93dccf3176504a48fcd65e2a630c", func := "loop.example/s01647/laws.FnExactUnpack", spec := "fnExactUnpack", apart := false }
def FnExactUnpackSaid : Prop := fnExactUnpackRow.holds Try.pinned (OpenSpec.ofChange fnExactUnpackSpec)

/-- ITS FALSE NEIGHBOUR: 'it returns false'. Refute it at one input. -/
def fnExactUnpackWrong : ChangeSpec := { name := "fnExactUnpack", fn := fun _ => fun
  | [d] => { results := [.lit (.bool false)], args := [d] }
  | _ => none }
def FnExactUnpackWrongFalsely : Prop := fnExactUnpackRow.holds Try.pinned (OpenSpec.ofChange fnExactUnpackWrong)

/-- 'laws.FnExactValidFrame': WHATEVER THE INPUT: true; the input reads as it did. -/
def fnExactValidFrameSpec : ChangeSpec := { name := "fnExactValidFrame", fn := fun _ => fun
  | [d] => { results := [.lit (.bool true)], args := [d] }
  | _ => none }
def fnExactValidFrameRow : OpenClaim := { program := "ytogedkkdhonmlaa", sum := "c874b67d2cad455d3e35fff3752481af32ba93dccf3176504a48fcd65e2a630c", func := "loop.example/s01647/laws.FnExactValidFrame", spec := "fnExactValidFrame", apart := false }
def FnExactValidFrameSaid : Prop := fnExactValidFrameRow.holds Try.pinned (OpenSpec.ofChange fnExactValidFrameSpec)

/-- ITS FALSE NEIGHBOUR: 'it returns false'. Refute it at one input. -/
def fnExactValidFrameWrong : ChangeSpec := { name := "fnExactValidFrame", fn := fun _ => fun
  | [d] => { results := [.lit (.bool false)], args := [d] }
  | _ => none }
def FnExactValidFrameWrongFalsely : Prop := fnExactValidFrameRow.holds Try.pinned (OpenSpec.ofChange fnExactValidFrameWrong)

/-- 'laws.FnExactDestuffRuns': WHATEVER THE INPUT: true; the input reads as it did. -/
def fnExactDestuffRunsSpec : ChangeSpec := { name := "fnExactDestuffRuns", fn := fun _ => fun
  | [d1, d2] => { results := [.lit (.bool true)], args := [d1, d2] }
  | _ => none }
def fnExactDestuffRunsRow : OpenClaim := { program := "ytogedkkdhonmlaa", sum := "c874b67d2cad455d3e35fff3752481af32ba93dccf3176504a48fcd65e2a630c", func := "loop.example/s01647/laws.FnExactDestuffRuns", spec := "fnExactDestuffRuns", apart := false }
def FnExactDestuffRunsSaid : Prop := fnExactDestuffRunsRow.holds Try.pinned (OpenSpec.ofChange fnExactDestuffRunsSpec)

/-- ITS FALSE NEIGHBOUR: 'it returns false'. Refute it at one input. -/
def fnExactDestuffRunsWrong : ChangeSpec := { name := "fnExactDestuffRuns", fn := fun _ => fun
  | [d1, d2] => { results := [.lit (.bool false)], args := [d1, d2] }
  | _ => none }
def FnExactDestuffRunsWrongFalsely : Prop := fnExactDestuffRunsRow.holds Try.pinned (OpenSpec.ofChange fnExactDestuffRunsWrong)

/-- 'laws.FnExactPack': WHATEVER THE INPUT: true; the input reads as it did. -/
def fnExactPackSpec : ChangeSpec := { name := "fnExactPack", fn := fun _ => fun
  | [d] => { results := [.lit (.bool true)], args := [d] }
  | _ => none }
def fnExactPackRow : OpenClaim := { program := "ytogedkkdhonmlaa", sum := "c874b67d2cad455d3e35fff3752481af32ba93dccf3176504a48fcd65e2a630c", func := "loop.example/s01647/laws.FnExactPack", spec := "fnExactPack", apart := false }
def FnExactPackSaid : Prop := fnExactPackRow.holds Try.pinned (OpenSpec.ofChange fnExactPackSpec)

/-- ITS FALSE NEIGHBOUR: 'it returns false'. Refute it at one input. -/
def fnExactPackWrong : ChangeSpec := { name := "fnExactPack", fn := fun _ => fun
  | [d] => { results := [.lit (.bool false)], args := [d] }
  | _ => none }
def FnExactPackWrongFalsely : Prop := fnExactPackRow.holds Try.pinned (OpenSpec.ofChange fnExactPackWrong)

/-- 'laws.FnExactBody': WHATEVER THE INPUT: true; the input reads as it did. -/
def fnExactBodySpec : ChangeSpec := { name := "fnExactBody", fn := fun _ => fun
  | [d] => { results := [.lit (.bool true)], args := [d] }
  | _ => none }
def fnExactBodyRow : OpenClaim := { program := "ytogedkkdhonmlaa", sum := "c874b67d2cad455d3e35fff3752481af32ba93dccf3176504a48fcd65e2a630c", func := "loop.example/s01647/laws.FnExactBody", spec := "fnExactBody", recurses := true, apart := false }
def FnExactBodySaid : Prop := fnExactBodyRow.holds Try.pinned (OpenSpec.ofChange fnExactBodySpec)

/-- ITS FALSE NEIGHBOUR: 'it returns false'. Refute it at one input. -/
def fnExactBodyWrong : ChangeSpec := { name := "fnExactBody", fn := fun _ => fun
  | [d] => { results := [.lit (.bool false)], args := [d] }
  | _ => none }
def FnExactBodyWrongFalsely : Prop := fnExactBodyRow.holds Try.pinned (OpenSpec.ofChange fnExactBodyWrong)

/-- 'laws.FnStuffed': WHATEVER THE INPUT: true; the input reads as it did. -/
def fnStuffedSpec : ChangeSpec := { name := "fnStuffed", fn := fun _ => fun
  | [d] => { results := [.lit (.bool true)], args := [d] }
  | _ => none }
def fnStuffedRow : OpenClaim := { program := "ytogedkkdhonmlaa", sum := "c874b67d2cad455d3e35fff3752481af32ba93dccf3176504a48fcd65e2a630c", func := "loop.example/s01647/laws.FnStuffed", spec := "fnStuffed", apart := false }
def FnStuffedSaid : Prop := fnStuffedRow.holds Try.pinned (OpenSpec.ofChange fnStuffedSpec)

/-- ITS FALSE NEIGHBOUR: 'it returns false'. Refute it at one input. -/
def fnStuffedWrong : ChangeSpec := { name := "fnStuffed", fn := fun _ => fun
  | [d] => { results := [.lit (.bool false)], args := [d] }
  | _ => none }
def FnStuffedWrongFalsely : Prop := fnStuffedRow.holds Try.pinned (OpenSpec.ofChange fnStuffedWrong)

/-- 'laws.FnExactArb': WHATEVER THE INPUT: true; the input reads as it did. -/
def fnExactArbSpec : ChangeSpec := { name := "fnExactArb", fn := fun _ => fun
  | [d] => { results := [.lit (.bool true)], args := [d] }
  | _ => none }
def fnExactArbRow : OpenClaim := { program := "ytogedkkdhonmlaa", sum := "c874b67d2cad455d3e35fff3752481af32ba93dccf3176504a48fcd65e2a630c", func := "loop.example/s01647/laws.FnExactArb", spec := "fnExactArb", recurses := true, apart := false }
def FnExactArbSaid : Prop := fnExactArbRow.holds Try.pinned (OpenSpec.ofChange fnExactArbSpec)

/-- ITS FALSE NEIGHBOUR: 'it returns false'. Refute it at one input. -/
def fnExactArbWrong : ChangeSpec := { name := "fnExactArb", fn := fun _ => fun
  | [d] => { results := [.lit (.bool false)], args := [d] }
  | _ => none }
def FnExactArbWrongFalsely : Prop := fnExactArbRow.holds Try.pinned (OpenSpec.ofChange fnExactArbWrong)

/-- 'laws.FnExactEncode': WHATEVER THE INPUT: true; the input reads as it did. -/
def fnExactEncodeSpec : ChangeSpec := { name := "fnExactEncode", fn := fun _ => fun
  | [d] => { results := [.lit (.bool true)], args := [d] }
  | _ => none }
def fnExactEncodeRow : OpenClaim := { program := "ytogedkkdhonmlaa", sum := "c874b67d2cad455d3e35fff3752481af32ba93dccf3176504a48fcd65e2a630c", func := "loop.example/s01647/laws.FnExactEncode", spec := "fnExactEncode", recurses := true, apart := false }
def FnExactEncodeSaid : Prop := fnExactEncodeRow.holds Try.pinned (OpenSpec.ofChange fnExactEncodeSpec)

/-- ITS FALSE NEIGHBOUR: 'it returns false'. Refute it at one input. -/
def fnExactEncodeWrong : ChangeSpec := { name := "fnExactEncode", fn := fun _ => fun
  | [d] => { results := [.lit (.bool false)], args := [d] }
  | _ => none }
def FnExactEncodeWrongFalsely : Prop := fnExactEncodeRow.holds Try.pinned (OpenSpec.ofChange fnExactEncodeWrong)

/- THE SECOND FORM. 'bulk': how many values and letters a reading holds, each counted each time it is reached (what is shared counts as often as it is met; a slice's spare places count too). A statement '..UptoSaid' is the law's where the arguments, and the package variables that the reading takes, are together of bulk at most 1048576: NARROWER than '..Said'. Prove '..Said' where nothing that the law and all that it calls make is longer than what came in: it says more and counts as full. Else prove '..UptoSaid'. A law counts once. -/
mutual
def uptoBulk {H : Type} : DataW H → Nat
  | .lit (.string bytes) => bytes.length + 1
  | .lit _ => 1
  | .nil => 1
  | .ptr d => uptoBulk d + 1
  | .slice elems spare => uptoBulkAll elems + uptoBulkAll spare + 1
  | .agg parts => uptoBulkAll parts + 1
  | .iface _ d => uptoBulk d + 1
  | .map entries => uptoBulkEntries entries + 1
  | .held _ => 1
def uptoBulkAll {H : Type} : List (DataW H) → Nat
  | [] => 0
  | d :: r => uptoBulk d + uptoBulkAll r
def uptoBulkEntries {H : Type} : List (Lit × DataW H) → Nat
  | [] => 0
  | x :: r => uptoBulkEntry x + uptoBulkEntries r
def uptoBulkEntry {H : Type} : Lit × DataW H → Nat
  | (.string bytes, d) => bytes.length + uptoBulk d + 1
  | (_, d) => uptoBulk d + 1
 end
def uptoSmall : (H : Type) → List (DataW H) → Bool := fun _ ds => decide (uptoBulkAll ds ≤ 1048576)
def OpenSpec.upto (s : _root_.Go.ChangeSpec) : _root_.Go.OpenSpec := { _root_.Go.OpenSpec.ofChange s with cond := some uptoSmall }

/-- 'laws.FnExactConstants', WHERE WHAT IT READS IS OF BULK AT MOST 1048576: true; the input reads as it did. -/
def fnExactConstantsUptoRow : OpenClaim := { program := "ytogedkkdhonmlaa", sum := "c874b67d2cad455d3e35fff3752481af32ba93dccf3176504a48fcd65e2a630c", func := "loop.example/s01647/laws.FnExactConstants", spec := "fnExactConstants", apart := false, narrowed := true }
def FnExactConstantsUptoSaid : Prop := fnExactConstantsUptoRow.holds Try.pinned (OpenSpec.upto fnExactConstantsSpec)

/-- 'laws.FnExactCrc15', WHERE WHAT IT READS IS OF BULK AT MOST 1048576: true; the input reads as it did. -/
def fnExactCrc15UptoRow : OpenClaim := { program := "ytogedkkdhonmlaa", sum := "c874b67d2cad455d3e35fff3752481af32ba93dccf3176504a48fcd65e2a630c", func := "loop.example/s01647/laws.FnExactCrc15", spec := "fnExactCrc15", apart := false, narrowed := true }
def FnExactCrc15UptoSaid : Prop := fnExactCrc15UptoRow.holds Try.pinned (OpenSpec.upto fnExactCrc15Spec)

/-- 'laws.FnExactDestuff', WHERE WHAT IT READS IS OF BULK AT MOST 1048576: true; the input reads as it did. -/
def fnExactDestuffUptoRow : OpenClaim := { program := "ytogedkkdhonmlaa", sum := "c874b67d2cad455d3e35fff3752481af32ba93dccf3176504a48fcd65e2a630c", func := "loop.example/s01647/laws.FnExactDestuff", spec := "fnExactDestuff", apart := false, narrowed := true }
def FnExactDestuffUptoSaid : Prop := fnExactDestuffUptoRow.holds Try.pinned (OpenSpec.upto fnExactDestuffSpec)

/-- 'laws.FnExactStuff', WHERE WHAT IT READS IS OF BULK AT MOST 1048576: true; the input reads as it did. -/
def fnExactStuffUptoRow : OpenClaim := { program := "ytogedkkdhonmlaa", sum := "c874b67d2cad455d3e35fff3752481af32ba93dccf3176504a48fcd65e2a630c", func := "loop.example/s01647/laws.FnExactStuff", spec := "fnExactStuff", apart := false, narrowed := true }
def FnExactStuffUptoSaid : Prop := fnExactStuffUptoRow.holds Try.pinned (OpenSpec.upto fnExactStuffSpec)

/-- 'laws.FnExactUnpack', WHERE WHAT IT READS IS OF BULK AT MOST 1048576: true; the input reads as it did. -/
def fnExactUnpackUptoRow : OpenClaim := { program := "ytogedkkdhonmlaa", sum := "c874b67d2cad455d3e35fff3752481af32ba93dccf3176504a48fcd65e2a630c", func := "loop.example/s01647/laws.FnExactUnpack", spec := "fnExactUnpack", apart := false, narrowed := true }
def FnExactUnpackUptoSaid : Prop := fnExactUnpackUptoRow.holds Try.pinned (OpenSpec.upto fnExactUnpackSpec)

/-- 'laws.FnExactValidFrame', WHERE WHAT IT READS IS OF BULK AT MOST 1048576: true; the input reads as it did. -/
def fnExactValidFrameUptoRow : OpenClaim := { program := "ytogedkkdhonmlaa", sum := "c874b67d2cad455d3e35fff3752481af32ba93dccf3176504a48fcd65e2a630c", func := "loop.example/s01647/laws.FnExactValidFrame", spec := "fnExactValidFrame", apart := false, narrowed := true }
def FnExactValidFrameUptoSaid : Prop := fnExactValidFrameUptoRow.holds Try.pinned (OpenSpec.upto fnExactValidFrameSpec)

/-- 'laws.FnExactDestuffRuns', WHERE WHAT IT READS IS OF BULK AT MOST 1048576: true; the input reads as it did. -/
def fnExactDestuffRunsUptoRow : OpenClaim := { program := "ytogedkkdhonmlaa", sum := "c874b67d2cad455d3e35fff3752481af32ba93dccf3176504a48fcd65e2a630c", func := "loop.example/s01647/laws.FnExactDestuffRuns", spec := "fnExactDestuffRuns", apart := false, narrowed := true }
def FnExactDestuffRunsUptoSaid : Prop := fnExactDestuffRunsUptoRow.holds Try.pinned (OpenSpec.upto fnExactDestuffRunsSpec)

/-- 'laws.FnExactPack', WHERE WHAT IT READS IS OF BULK AT MOST 1048576: true; the input reads as it did. -/
def fnExactPackUptoRow : OpenClaim := { program := "ytogedkkdhonmlaa", sum := "c874b67d2cad455d3e35fff3752481af32ba93dccf3176504a48fcd65e2a630c", func := "loop.example/s01647/laws.FnExactPack", spec := "fnExactPack", apart := false, narrowed := true }
def FnExactPackUptoSaid : Prop := fnExactPackUptoRow.holds Try.pinned (OpenSpec.upto fnExactPackSpec)

/-- 'laws.FnExactBody', WHERE WHAT IT READS IS OF BULK AT MOST 1048576: true; the input reads as it did. -/
def fnExactBodyUptoRow : OpenClaim := { program := "ytogedkkdhonmlaa", sum := "c874b67d2cad455d3e35fff3752481af32ba93dccf3176504a48fcd65e2a630c", func := "loop.example/s01647/laws.FnExactBody", spec := "fnExactBody", recurses := true, apart := false, narrowed := true }
def FnExactBodyUptoSaid : Prop := fnExactBodyUptoRow.holds Try.pinned (OpenSpec.upto fnExactBodySpec)

/-- 'laws.FnStuffed', WHERE WHAT IT READS IS OF BULK AT MOST 1048576: true; the input reads as it did. -/
def fnStuffedUptoRow : OpenClaim := { program := "ytogedkkdhonmlaa", sum := "c874b67d2cad455d3e35fff3752481af32ba93dccf3176504a48fcd65e2a630c", func := "loop.example/s01647/laws.FnStuffed", spec := "fnStuffed", apart := false, narrowed := true }
def FnStuffedUptoSaid : Prop := fnStuffedUptoRow.holds Try.pinned (OpenSpec.upto fnStuffedSpec)

/-- 'laws.FnExactArb', WHERE WHAT IT READS IS OF BULK AT MOST 1048576: true; the input reads as it did. -/
def fnExactArbUptoRow : OpenClaim := { program := "ytogedkkdhonmlaa", sum := "c874b67d2cad455d3e35fff3752481af32ba93dccf3176504a48fcd65e2a630c", func := "loop.example/s01647/laws.FnExactArb", spec := "fnExactArb", recurses := true, apart := false, narrowed := true }
def FnExactArbUptoSaid : Prop := fnExactArbUptoRow.holds Try.pinned (OpenSpec.upto fnExactArbSpec)

/-- 'laws.FnExactEncode', WHERE WHAT IT READS IS OF BULK AT MOST 1048576: true; the input reads as it did. -/
def fnExactEncodeUptoRow : OpenClaim := { program := "ytogedkkdhonmlaa", sum := "c874b67d2cad455d3e35fff3752481af32ba93dccf3176504a48fcd65e2a630c", func := "loop.example/s01647/laws.FnExactEncode", spec := "fnExactEncode", recurses := true, apart := false, narrowed := true }
def FnExactEncodeUptoSaid : Prop := fnExactEncodeUptoRow.holds Try.pinned (OpenSpec.upto fnExactEncodeSpec)

end Rows
end Go.Proofs.Ytogedkkdhonmlaa
