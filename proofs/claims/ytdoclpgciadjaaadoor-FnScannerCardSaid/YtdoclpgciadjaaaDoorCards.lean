/-
  DERIVED. GIVEN WITH THE SEED: THE CARDS: each row of YtdoclpgciadjaaaDoorRows.lean that lists a variable, with what it lists TIED to the program's text (the seventh form; the later family's looks); each row that meets fmt, with fmt's text TOLD by the authors' own Lean function (tested against real Go, not proved from fmt's source: count such statements apart). THE CARD IS WHAT COUNTS. Prove the row's statement (the work); the ties are given (YtdoclpgciadjaaaDoorTie.lean); close each card by the builder's one call (the guide's Derived/Test/ToyasCard.lean, 'card_holds'). Laid BY PROGRAM, IN A SANDBOX (cutbox-door.mjs). By AI agents, Wed Nov 11 2026. No macro, syntax, notation, axiom, sorry.
-/
import Derived.Test.YtdoclpgciadjaaaDoorRows
import GoSem.ClaimSeven
namespace Go.Proofs.YtdoclpgciadjaaaDoor
namespace Rows

/-- THE TIED CARD OF 'laws.FnExactScanBit'. -/
def fnExactScanBitCard : Claim7 := { stood := { row := fnExactScanBitRow, standIns := [], harness := (true, "2531bfa80e1583af57256f99050ae45ba74d3b83075cef0df1cee691b271849c"), looks := false }, kinds := [], alts := [], laidByText := true, laidKinds := [.data], laidTests := true, laidLooks := .later }
def FnExactScanBitCardSaid : Prop := Claim7.holds Tryd.pinned (.plain (OpenSpec.ofChange fnExactScanBitSpec)) fnExactScanBitCard

/-- THE TIED CARD OF 'laws.FnScanner'. -/
def fnScannerCard : Claim7 := { stood := { row := fnScannerRow, standIns := [], harness := (true, "2531bfa80e1583af57256f99050ae45ba74d3b83075cef0df1cee691b271849c"), looks := false }, kinds := [], alts := [], laidByText := true, laidKinds := [.data], laidTests := true, laidLooks := .later }
def FnScannerCardSaid : Prop := Claim7.holds Tryd.pinned (.plain (OpenSpec.ofChange fnScannerSpec)) fnScannerCard

/-- THE SECOND FORM's CARD OF 'laws.FnExactScanBit'. -/
def fnExactScanBitUptoCard : Claim7 := { stood := { row := fnExactScanBitUptoRow, standIns := [], harness := (true, "2531bfa80e1583af57256f99050ae45ba74d3b83075cef0df1cee691b271849c"), looks := false }, kinds := [], alts := [], laidByText := true, laidKinds := [.data], laidTests := true, laidLooks := .later }
def FnExactScanBitUptoCardSaid : Prop := Claim7.holds Tryd.pinned (.plain (OpenSpec.upto fnExactScanBitSpec)) fnExactScanBitUptoCard

/-- THE SECOND FORM's CARD OF 'laws.FnScanner'. -/
def fnScannerUptoCard : Claim7 := { stood := { row := fnScannerUptoRow, standIns := [], harness := (true, "2531bfa80e1583af57256f99050ae45ba74d3b83075cef0df1cee691b271849c"), looks := false }, kinds := [], alts := [], laidByText := true, laidKinds := [.data], laidTests := true, laidLooks := .later }
def FnScannerUptoCardSaid : Prop := Claim7.holds Tryd.pinned (.plain (OpenSpec.upto fnScannerSpec)) fnScannerUptoCard
end Rows
end Go.Proofs.YtdoclpgciadjaaaDoor
