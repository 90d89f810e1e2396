/-
  DERIVED. GIVEN WITH THE SEED: THE CARDS: each row of YtlehfbdkjkgaeaaGreatDoorRows.lean that lists a variable, with what it lists TIED to the program's text (the seventh form; the later family's looks); each row that meets fmt, with fmt's text TOLD by the authors' own Lean function (tested against real Go, not proved from fmt's source: count such statements apart). THE CARD IS WHAT COUNTS. Prove the row's statement (the work); the ties are given (YtlehfbdkjkgaeaaGreatDoorTie.lean); close each card by the builder's one call (the guide's Derived/Test/ToyasCard.lean, 'card_holds'). Laid BY PROGRAM, IN A SANDBOX (cutbox-door.mjs). By AI agents, Wed Nov 11 2026. No macro, syntax, notation, axiom, sorry.
-/
import Derived.Test.YtlehfbdkjkgaeaaGreatDoorRows
import GoSem.ClaimSeven
namespace Go.Proofs.YtlehfbdkjkgaeaaGreatDoor
namespace Rows

/-- THE TIED CARD OF 'carrellaw08.ScanReads'. -/
def scanReadsCard : Claim7 := { stood := { row := scanReadsRow, standIns := [], harness := (true, "5507a90166e7a884e5175fe1e9cb7c372a4c517854372bcf10444363117387ed"), looks := true }, kinds := [], alts := [], laidByText := true, laidKinds := [.data, .data, .data, .data, .sentinel, .sentinel, .pinned, .pinned], laidTests := true, laidLooks := .later }
def ScanReadsCardSaid : Prop := Claim7.holds Tryz.pinned (.plain (OpenSpec.ofChange scanReadsSpec)) scanReadsCard

/-- THE SECOND FORM's CARD OF 'carrellaw08.ScanReads'. -/
def scanReadsUptoCard : Claim7 := { stood := { row := scanReadsUptoRow, standIns := [], harness := (true, "5507a90166e7a884e5175fe1e9cb7c372a4c517854372bcf10444363117387ed"), looks := true }, kinds := [], alts := [], laidByText := true, laidKinds := [.data, .data, .data, .data, .sentinel, .sentinel, .pinned, .pinned], laidTests := true, laidLooks := .later }
def ScanReadsUptoCardSaid : Prop := Claim7.holds Tryz.pinned (.plain (OpenSpec.upto scanReadsSpec)) scanReadsUptoCard
end Rows
end Go.Proofs.YtlehfbdkjkgaeaaGreatDoor
