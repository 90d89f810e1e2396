/-
  DERIVED. GIVEN WITH THE SEED: THE CARDS: each row of YtlehfbdkjkgaeaaDoorRows.lean that lists a variable, with what it lists TIED to the program's text (the seventh form; the later family's looks); each row that meets fmt, with fmt's text TOLD by the authors' own Lean function (tested against real Go, not proved from fmt's source: count such statements apart). THE CARD IS WHAT COUNTS. Prove the row's statement (the work); the ties are given (YtlehfbdkjkgaeaaDoorTie.lean); close each card by the builder's one call (the guide's Derived/Test/ToyasCard.lean, 'card_holds'). Laid BY PROGRAM, IN A SANDBOX (cutbox-door.mjs). By AI agents, Wed Nov 11 2026. No macro, syntax, notation, axiom, sorry.
-/
import Derived.Test.YtlehfbdkjkgaeaaDoorRows
import GoSem.ClaimSeven
namespace Go.Proofs.YtlehfbdkjkgaeaaDoor
namespace Rows

/-- THE TIED CARD OF 'carrellaw08.ScanNumbers'. -/
def scanNumbersCard : Claim7 := { stood := { row := scanNumbersRow, standIns := [], harness := (true, "f6183738b5c85b520357b9e785edfe358d1668015ad693cdc2a8cc6112434ad1"), looks := true }, kinds := [], alts := [], laidByText := true, laidKinds := [.data, .data, .data, .data, .sentinel, .sentinel, .pinned, .pinned], laidTests := true, laidLooks := .later }
def ScanNumbersCardSaid : Prop := Claim7.holds Tryd.pinned (.plain (OpenSpec.ofChange scanNumbersSpec)) scanNumbersCard

/-- THE TIED CARD OF 'carrellaw08.ScanAgain'. -/
def scanAgainCard : Claim7 := { stood := { row := scanAgainRow, standIns := [], harness := (true, "f6183738b5c85b520357b9e785edfe358d1668015ad693cdc2a8cc6112434ad1"), looks := true }, kinds := [], alts := [], laidByText := true, laidKinds := [.data, .data, .data, .data, .sentinel, .sentinel, .pinned, .pinned], laidTests := true, laidLooks := .later }
def ScanAgainCardSaid : Prop := Claim7.holds Tryd.pinned (.plain (OpenSpec.ofChange scanAgainSpec)) scanAgainCard

/-- THE TIED CARD OF 'carrellaw08.ScanAhead'. -/
def scanAheadCard : Claim7 := { stood := { row := scanAheadRow, standIns := [], harness := (true, "f6183738b5c85b520357b9e785edfe358d1668015ad693cdc2a8cc6112434ad1"), looks := true }, kinds := [], alts := [], laidByText := true, laidKinds := [.data, .data, .data, .data, .sentinel, .sentinel, .pinned, .pinned], laidTests := true, laidLooks := .later }
def ScanAheadCardSaid : Prop := Claim7.holds Tryd.pinned (.plain (OpenSpec.ofChange scanAheadSpec)) scanAheadCard

/-- THE SECOND FORM's CARD OF 'carrellaw08.ScanNumbers'. -/
def scanNumbersUptoCard : Claim7 := { stood := { row := scanNumbersUptoRow, standIns := [], harness := (true, "f6183738b5c85b520357b9e785edfe358d1668015ad693cdc2a8cc6112434ad1"), looks := true }, kinds := [], alts := [], laidByText := true, laidKinds := [.data, .data, .data, .data, .sentinel, .sentinel, .pinned, .pinned], laidTests := true, laidLooks := .later }
def ScanNumbersUptoCardSaid : Prop := Claim7.holds Tryd.pinned (.plain (OpenSpec.upto scanNumbersSpec)) scanNumbersUptoCard

/-- THE SECOND FORM's CARD OF 'carrellaw08.ScanAgain'. -/
def scanAgainUptoCard : Claim7 := { stood := { row := scanAgainUptoRow, standIns := [], harness := (true, "f6183738b5c85b520357b9e785edfe358d1668015ad693cdc2a8cc6112434ad1"), looks := true }, kinds := [], alts := [], laidByText := true, laidKinds := [.data, .data, .data, .data, .sentinel, .sentinel, .pinned, .pinned], laidTests := true, laidLooks := .later }
def ScanAgainUptoCardSaid : Prop := Claim7.holds Tryd.pinned (.plain (OpenSpec.upto scanAgainSpec)) scanAgainUptoCard

/-- THE SECOND FORM's CARD OF 'carrellaw08.ScanAhead'. -/
def scanAheadUptoCard : Claim7 := { stood := { row := scanAheadUptoRow, standIns := [], harness := (true, "f6183738b5c85b520357b9e785edfe358d1668015ad693cdc2a8cc6112434ad1"), looks := true }, kinds := [], alts := [], laidByText := true, laidKinds := [.data, .data, .data, .data, .sentinel, .sentinel, .pinned, .pinned], laidTests := true, laidLooks := .later }
def ScanAheadUptoCardSaid : Prop := Claim7.holds Tryd.pinned (.plain (OpenSpec.upto scanAheadSpec)) scanAheadUptoCard
end Rows
end Go.Proofs.YtlehfbdkjkgaeaaDoor
