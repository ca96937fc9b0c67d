/-
  NARROWER THAN 'FOR EVERY INPUT', by the rows' own cells (each row's printed sentence says how): FnExactScanBit: laid · FnScanner: laid.
  DERIVED. THE GIVEN ROWS OF THIS SEAT. 2 by the template 'for every input the law returns true; each argument reads behind the call as it read before'; 0 by the template 'total and deterministic' (their statements: YtdoclpgciadjaaaDoorTotals.lean).
  GIVEN WITH THE SEED: the statements are not yours to turn. If you find one false, say at which input.
  Laid BY PROGRAM, IN A SANDBOX (cutbox-rows.mjs): the forced cells as the released guide's own fill.sh prints them over the translation ea29d9daefa4631e… (all of the seat's roots in one cut). By AI agents, Wed Nov 11 2026. No macro, syntax, notation, axiom, sorry.
-/
import Derived.Test.YtdoclpgciadjaaaDoorChecked
import GoSem.Claim
import GoSem.ClaimJoined
import GoSem.ClaimMapViews
import Derived.JoinedTies
import Derived.KernelRfl
namespace Go.Proofs.YtdoclpgciadjaaaDoor
/- THE CELL 'sum', in the pinned program and in every row, IS THE sha256 OF THE DUMP (.gsa) THAT YtdoclpgciadjaaaDoorProg.lean LOADS. Nothing in Lean hashes anything: it is a label: what it is worth is what the hold of that sum in a sandbox is worth. -/
noncomputable def Tryd.pinned : Pinned := { name := "ytdoclpgciadjaaadoor", sum := "ea29d9daefa4631ef4f8de265b5ac2e8d76fac66303ba370b474b601932cd6ff", checked := Tryd.checked }
namespace Rows
def none {H : Type} : Left H := { results := [], args := [] }

/- WHAT THE LISTED PACKAGE-LEVEL VARIABLES READ AS WHEN THE CALL BEGINS. Each datum BY PROGRAM (the guide's laid-datum.mjs) off the statement by which the dump's own 'gosem.cut.vars' lays the variable. In a bare row this is a premise. The card (YtdoclpgciadjaaaDoorCards.lean) ties it to the program's text. -/
def laid_loop_example_s01647_impl_rows {H : Type} : DataW H := .agg [.agg [.lit (.int .i64 0), .lit (.int .i64 0)], .agg [.lit (.int .i64 1), .lit (.int .i64 2)], .agg [.lit (.int .i64 11), .lit (.int .i64 3)], .agg [.lit (.int .i64 1), .lit (.int .i64 4)], .agg [.lit (.int .i64 1), .lit (.int .i64 5)], .agg [.lit (.int .i64 18), .lit (.int .i64 6)], .agg [.lit (.int .i64 1), .lit (.int .i64 7)], .agg [.lit (.int .i64 1), .lit (.int .i64 8)], .agg [.lit (.int .i64 4), .lit (.int .i64 9)], .agg [.lit (.int .i64 0), .lit (.int .i64 10)], .agg [.lit (.int .i64 15), .lit (.int .i64 11)], .agg [.lit (.int .i64 1), .lit (.int .i64 12)], .agg [.lit (.int .i64 1), .lit (.int .i64 13)], .agg [.lit (.int .i64 1), .lit (.int .i64 14)], .agg [.lit (.int .i64 7), .lit (.int .i64 15)]]

/-- 'laws.FnExactScanBit': WHATEVER THE INPUT: true; the input reads as it did. -/
def fnExactScanBitSpec : ChangeSpec := { name := "fnExactScanBit", vars := ["loop.example/s01647/impl.rows"], fn := fun _ => fun
  | [d1, d2, g1] => { results := [.lit (.bool true)], args := [d1, d2], vars := [g1] }
  | _ => none }
def fnExactScanBitRow : OpenClaim := { program := "ytdoclpgciadjaaadoor", sum := "ea29d9daefa4631ef4f8de265b5ac2e8d76fac66303ba370b474b601932cd6ff", func := "loop.example/s01647/laws.FnExactScanBit", spec := "fnExactScanBit", named := ["loop.example/s01647/impl.rows"], apart := false, laid := [("loop.example/s01647/impl.rows", laid_loop_example_s01647_impl_rows)] }
def FnExactScanBitSaid : Prop := fnExactScanBitRow.holds Tryd.pinned (OpenSpec.ofChange fnExactScanBitSpec)

/-- ITS FALSE NEIGHBOUR: 'it returns false'. Refute it at one input. -/
def fnExactScanBitWrong : ChangeSpec := { name := "fnExactScanBit", vars := ["loop.example/s01647/impl.rows"], fn := fun _ => fun
  | [d1, d2, g1] => { results := [.lit (.bool false)], args := [d1, d2], vars := [g1] }
  | _ => none }
def FnExactScanBitWrongFalsely : Prop := fnExactScanBitRow.holds Tryd.pinned (OpenSpec.ofChange fnExactScanBitWrong)

/-- 'laws.FnScanner': WHATEVER THE INPUT: true; the input reads as it did. -/
def fnScannerSpec : ChangeSpec := { name := "fnScanner", vars := ["loop.example/s01647/impl.rows"], fn := fun _ => fun
  | [d, g1] => { results := [.lit (.bool true)], args := [d], vars := [g1] }
  | _ => none }
def fnScannerRow : OpenClaim := { program := "ytdoclpgciadjaaadoor", sum := "ea29d9daefa4631ef4f8de265b5ac2e8d76fac66303ba370b474b601932cd6ff", func := "loop.example/s01647/laws.FnScanner", spec := "fnScanner", recurses := true, named := ["loop.example/s01647/impl.rows"], apart := false, laid := [("loop.example/s01647/impl.rows", laid_loop_example_s01647_impl_rows)] }
def FnScannerSaid : Prop := fnScannerRow.holds Tryd.pinned (OpenSpec.ofChange fnScannerSpec)

/-- ITS FALSE NEIGHBOUR: 'it returns false'. Refute it at one input. -/
def fnScannerWrong : ChangeSpec := { name := "fnScanner", vars := ["loop.example/s01647/impl.rows"], fn := fun _ => fun
  | [d, g1] => { results := [.lit (.bool false)], args := [d], vars := [g1] }
  | _ => none }
def FnScannerWrongFalsely : Prop := fnScannerRow.holds Tryd.pinned (OpenSpec.ofChange fnScannerWrong)

/- THE SECOND FORM. 'bulk': how many values and letters a reading holds, each counted each time it is reached (what is shared counts as often as it is met; a slice's spare places count too). A statement '..UptoSaid' is the law's where the arguments, and the package variables that the reading takes, are together of bulk at most 1048576: NARROWER than '..Said'. Prove '..Said' where nothing that the law and all that it calls make is longer than what came in: it says more and counts as full. Else prove '..UptoSaid'. A law counts once. -/
mutual
def uptoBulk {H : Type} : DataW H → Nat
  | .lit (.string bytes) => bytes.length + 1
  | .lit _ => 1
  | .nil => 1
  | .ptr d => uptoBulk d + 1
  | .slice elems spare => uptoBulkAll elems + uptoBulkAll spare + 1
  | .agg parts => uptoBulkAll parts + 1
  | .iface _ d => uptoBulk d + 1
  | .map entries => uptoBulkEntries entries + 1
  | .held _ => 1
def uptoBulkAll {H : Type} : List (DataW H) → Nat
  | [] => 0
  | d :: r => uptoBulk d + uptoBulkAll r
def uptoBulkEntries {H : Type} : List (Lit × DataW H) → Nat
  | [] => 0
  | x :: r => uptoBulkEntry x + uptoBulkEntries r
def uptoBulkEntry {H : Type} : Lit × DataW H → Nat
  | (.string bytes, d) => bytes.length + uptoBulk d + 1
  | (_, d) => uptoBulk d + 1
 end
def uptoSmall : (H : Type) → List (DataW H) → Bool := fun _ ds => decide (uptoBulkAll ds ≤ 1048576)
def OpenSpec.upto (s : _root_.Go.ChangeSpec) : _root_.Go.OpenSpec := { _root_.Go.OpenSpec.ofChange s with cond := some uptoSmall }

/-- 'laws.FnExactScanBit', WHERE WHAT IT READS IS OF BULK AT MOST 1048576: true; the input reads as it did. -/
def fnExactScanBitUptoRow : OpenClaim := { program := "ytdoclpgciadjaaadoor", sum := "ea29d9daefa4631ef4f8de265b5ac2e8d76fac66303ba370b474b601932cd6ff", func := "loop.example/s01647/laws.FnExactScanBit", spec := "fnExactScanBit", named := ["loop.example/s01647/impl.rows"], apart := false, laid := [("loop.example/s01647/impl.rows", laid_loop_example_s01647_impl_rows)], narrowed := true }
def FnExactScanBitUptoSaid : Prop := fnExactScanBitUptoRow.holds Tryd.pinned (OpenSpec.upto fnExactScanBitSpec)

/-- 'laws.FnScanner', WHERE WHAT IT READS IS OF BULK AT MOST 1048576: true; the input reads as it did. -/
def fnScannerUptoRow : OpenClaim := { program := "ytdoclpgciadjaaadoor", sum := "ea29d9daefa4631ef4f8de265b5ac2e8d76fac66303ba370b474b601932cd6ff", func := "loop.example/s01647/laws.FnScanner", spec := "fnScanner", recurses := true, named := ["loop.example/s01647/impl.rows"], apart := false, laid := [("loop.example/s01647/impl.rows", laid_loop_example_s01647_impl_rows)], narrowed := true }
def FnScannerUptoSaid : Prop := fnScannerUptoRow.holds Tryd.pinned (OpenSpec.upto fnScannerSpec)

end Rows
end Go.Proofs.YtdoclpgciadjaaaDoor
