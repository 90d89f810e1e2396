/-
  DERIVED. GIVEN WITH THE SEED: THE CARDS: each row of YtkglmlfkcmpbbaaDoorRows.lean that lists a variable, with what it lists TIED to the program's text (the seventh form; the later family's looks); each row that meets fmt, with fmt's text TOLD by the authors' own Lean function (tested against real Go, not proved from fmt's source: count such statements apart). THE CARD IS WHAT COUNTS. Prove the row's statement (the work); the ties are given (YtkglmlfkcmpbbaaDoorTie.lean); close each card by the builder's one call (the guide's Derived/Test/ToyasCard.lean, 'card_holds'). Laid BY PROGRAM, IN A SANDBOX (cutbox-door.mjs). By AI agents, Wed Nov 11 2026. No macro, syntax, notation, axiom, sorry.
-/
import Derived.Test.YtkglmlfkcmpbbaaDoorRows
import GoSem.ClaimSeven
namespace Go.Proofs.YtkglmlfkcmpbbaaDoor
namespace Rows

/-- THE TIED CARD OF 'carrellaw19.LineBack'. -/
def lineBackCard : Claim7 := { stood := { row := lineBackRow, standIns := [], harness := (true, "5230deb4dc6d25463fb94d2d7ce130bfcc9c6964faec48a430561278100a5e84"), looks := false }, kinds := [], alts := [], laidByText := true, laidKinds := [.data, .pinned], laidTests := true, laidLooks := .later }
def LineBackCardSaid : Prop := Claim7.holds Tryd.pinned (.plain (OpenSpec.ofChange lineBackSpec)) lineBackCard

/-- THE TIED CARD OF 'carrellaw19.LineParts'. -/
def linePartsCard : Claim7 := { stood := { row := linePartsRow, standIns := [], harness := (true, "5230deb4dc6d25463fb94d2d7ce130bfcc9c6964faec48a430561278100a5e84"), looks := false }, kinds := [], alts := [], laidByText := true, laidKinds := [.data, .pinned], laidTests := true, laidLooks := .later }
def LinePartsCardSaid : Prop := Claim7.holds Tryd.pinned (.plain (OpenSpec.ofChange linePartsSpec)) linePartsCard

/-- THE SECOND FORM's CARD OF 'carrellaw19.LineBack'. -/
def lineBackUptoCard : Claim7 := { stood := { row := lineBackUptoRow, standIns := [], harness := (true, "5230deb4dc6d25463fb94d2d7ce130bfcc9c6964faec48a430561278100a5e84"), looks := false }, kinds := [], alts := [], laidByText := true, laidKinds := [.data, .pinned], laidTests := true, laidLooks := .later }
def LineBackUptoCardSaid : Prop := Claim7.holds Tryd.pinned (.plain (OpenSpec.upto lineBackSpec)) lineBackUptoCard

/-- THE SECOND FORM's CARD OF 'carrellaw19.LineParts'. -/
def linePartsUptoCard : Claim7 := { stood := { row := linePartsUptoRow, standIns := [], harness := (true, "5230deb4dc6d25463fb94d2d7ce130bfcc9c6964faec48a430561278100a5e84"), looks := false }, kinds := [], alts := [], laidByText := true, laidKinds := [.data, .pinned], laidTests := true, laidLooks := .later }
def LinePartsUptoCardSaid : Prop := Claim7.holds Tryd.pinned (.plain (OpenSpec.upto linePartsSpec)) linePartsUptoCard
end Rows
end Go.Proofs.YtkglmlfkcmpbbaaDoor
