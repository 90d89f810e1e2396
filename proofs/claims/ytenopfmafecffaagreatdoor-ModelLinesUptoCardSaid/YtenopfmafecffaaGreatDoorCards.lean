/-
  DERIVED. GIVEN WITH THE SEED: THE CARDS: each row of YtenopfmafecffaaGreatDoorRows.lean that lists a variable, with what it lists TIED to the program's text (the seventh form; the later family's looks); each row that meets fmt, with fmt's text TOLD by the authors' own Lean function (tested against real Go, not proved from fmt's source: count such statements apart). THE CARD IS WHAT COUNTS. Prove the row's statement (the work); the ties are given (YtenopfmafecffaaGreatDoorTie.lean); close each card by the builder's one call (the guide's Derived/Test/ToyasCard.lean, 'card_holds'). Laid BY PROGRAM, IN A SANDBOX (cutbox-door.mjs). By AI agents, Wed Nov 11 2026. No macro, syntax, notation, axiom, sorry.
-/
import Derived.Test.YtenopfmafecffaaGreatDoorRows
import GoSem.ClaimSeven
namespace Go.Proofs.YtenopfmafecffaaGreatDoor
namespace Rows

/-- THE TIED CARD OF 'carrellaw20.ModelDoes'. -/
def modelDoesCard : Claim7 := { stood := { row := modelDoesRow, standIns := [], harness := (true, "57bbf8619bc639e0f09feb46b11b6e671a958388389ecfeccaaa807af3e9ca43"), looks := false }, kinds := [], alts := [], laidByText := true, laidKinds := [.data, .data, .data, .data, .pinned], laidTests := true, laidLooks := .later }
def ModelDoesCardSaid : Prop := Claim7.holds Tryz.pinned (.plain (OpenSpec.ofChange modelDoesSpec)) modelDoesCard

/-- THE TIED CARD OF 'carrellaw20.ModelRuns'. -/
def modelRunsCard : Claim7 := { stood := { row := modelRunsRow, standIns := [], harness := (true, "57bbf8619bc639e0f09feb46b11b6e671a958388389ecfeccaaa807af3e9ca43"), looks := false }, kinds := [], alts := [], laidByText := true, laidKinds := [.data, .data, .data, .data, .pinned], laidTests := true, laidLooks := .later }
def ModelRunsCardSaid : Prop := Claim7.holds Tryz.pinned (.plain (OpenSpec.ofChange modelRunsSpec)) modelRunsCard

/-- THE TIED CARD OF 'carrellaw20.ModelLines'. -/
def modelLinesCard : Claim7 := { stood := { row := modelLinesRow, standIns := [], harness := (true, "57bbf8619bc639e0f09feb46b11b6e671a958388389ecfeccaaa807af3e9ca43"), looks := false }, kinds := [], alts := [], laidByText := true, laidKinds := [.data, .data, .data, .data, .pinned], laidTests := true, laidLooks := .later }
def ModelLinesCardSaid : Prop := Claim7.holds Tryz.pinned (.plain (OpenSpec.ofChange modelLinesSpec)) modelLinesCard

/-- THE TIED CARD OF 'carrellaw20.ModelQuiet'. -/
def modelQuietCard : Claim7 := { stood := { row := modelQuietRow, standIns := [], harness := (true, "57bbf8619bc639e0f09feb46b11b6e671a958388389ecfeccaaa807af3e9ca43"), looks := false }, kinds := [], alts := [], laidByText := true, laidKinds := [.data, .data, .data, .data, .pinned], laidTests := true, laidLooks := .later }
def ModelQuietCardSaid : Prop := Claim7.holds Tryz.pinned (.plain (OpenSpec.ofChange modelQuietSpec)) modelQuietCard

/-- THE TIED CARD OF 'carrellaw20.ModelUndoes'. -/
def modelUndoesCard : Claim7 := { stood := { row := modelUndoesRow, standIns := [], harness := (true, "57bbf8619bc639e0f09feb46b11b6e671a958388389ecfeccaaa807af3e9ca43"), looks := false }, kinds := [], alts := [], laidByText := true, laidKinds := [.data, .data, .data, .data, .pinned], laidTests := true, laidLooks := .later }
def ModelUndoesCardSaid : Prop := Claim7.holds Tryz.pinned (.plain (OpenSpec.ofChange modelUndoesSpec)) modelUndoesCard

/-- THE SECOND FORM's CARD OF 'carrellaw20.ModelDoes'. -/
def modelDoesUptoCard : Claim7 := { stood := { row := modelDoesUptoRow, standIns := [], harness := (true, "57bbf8619bc639e0f09feb46b11b6e671a958388389ecfeccaaa807af3e9ca43"), looks := false }, kinds := [], alts := [], laidByText := true, laidKinds := [.data, .data, .data, .data, .pinned], laidTests := true, laidLooks := .later }
def ModelDoesUptoCardSaid : Prop := Claim7.holds Tryz.pinned (.plain (OpenSpec.upto modelDoesSpec)) modelDoesUptoCard

/-- THE SECOND FORM's CARD OF 'carrellaw20.ModelRuns'. -/
def modelRunsUptoCard : Claim7 := { stood := { row := modelRunsUptoRow, standIns := [], harness := (true, "57bbf8619bc639e0f09feb46b11b6e671a958388389ecfeccaaa807af3e9ca43"), looks := false }, kinds := [], alts := [], laidByText := true, laidKinds := [.data, .data, .data, .data, .pinned], laidTests := true, laidLooks := .later }
def ModelRunsUptoCardSaid : Prop := Claim7.holds Tryz.pinned (.plain (OpenSpec.upto modelRunsSpec)) modelRunsUptoCard

/-- THE SECOND FORM's CARD OF 'carrellaw20.ModelLines'. -/
def modelLinesUptoCard : Claim7 := { stood := { row := modelLinesUptoRow, standIns := [], harness := (true, "57bbf8619bc639e0f09feb46b11b6e671a958388389ecfeccaaa807af3e9ca43"), looks := false }, kinds := [], alts := [], laidByText := true, laidKinds := [.data, .data, .data, .data, .pinned], laidTests := true, laidLooks := .later }
def ModelLinesUptoCardSaid : Prop := Claim7.holds Tryz.pinned (.plain (OpenSpec.upto modelLinesSpec)) modelLinesUptoCard

/-- THE SECOND FORM's CARD OF 'carrellaw20.ModelQuiet'. -/
def modelQuietUptoCard : Claim7 := { stood := { row := modelQuietUptoRow, standIns := [], harness := (true, "57bbf8619bc639e0f09feb46b11b6e671a958388389ecfeccaaa807af3e9ca43"), looks := false }, kinds := [], alts := [], laidByText := true, laidKinds := [.data, .data, .data, .data, .pinned], laidTests := true, laidLooks := .later }
def ModelQuietUptoCardSaid : Prop := Claim7.holds Tryz.pinned (.plain (OpenSpec.upto modelQuietSpec)) modelQuietUptoCard

/-- THE SECOND FORM's CARD OF 'carrellaw20.ModelUndoes'. -/
def modelUndoesUptoCard : Claim7 := { stood := { row := modelUndoesUptoRow, standIns := [], harness := (true, "57bbf8619bc639e0f09feb46b11b6e671a958388389ecfeccaaa807af3e9ca43"), looks := false }, kinds := [], alts := [], laidByText := true, laidKinds := [.data, .data, .data, .data, .pinned], laidTests := true, laidLooks := .later }
def ModelUndoesUptoCardSaid : Prop := Claim7.holds Tryz.pinned (.plain (OpenSpec.upto modelUndoesSpec)) modelUndoesUptoCard
end Rows
end Go.Proofs.YtenopfmafecffaaGreatDoor
