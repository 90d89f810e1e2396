/-
  DERIVED. GIVEN WITH THE SEED: THE CARDS: each row of YtgemeilncdmapaaGreatDoorRows.lean that lists a variable, with what it lists TIED to the program's text (the seventh form; the later family's looks); each row that meets fmt, with fmt's text TOLD by the authors' own Lean function (tested against real Go, not proved from fmt's source: count such statements apart). THE CARD IS WHAT COUNTS. Prove the row's statement (the work); the ties are given (YtgemeilncdmapaaGreatDoorTie.lean); close each card by the builder's one call (the guide's Derived/Test/ToyasCard.lean, 'card_holds'). Laid BY PROGRAM, IN A SANDBOX (cutbox-door.mjs). By AI agents, Wed Nov 11 2026. No macro, syntax, notation, axiom, sorry.
-/
import Derived.Test.YtgemeilncdmapaaGreatDoorRows
import GoSem.ClaimSeven
namespace Go.Proofs.YtgemeilncdmapaaGreatDoor
namespace Rows

/-- THE TIED CARD OF 'carrellaw06.AsmShows'. -/
def asmShowsCard : Claim7 := { stood := { row := asmShowsRow, standIns := [], harness := (true, "b5f6a50abbfdf910e61712e8328076eaf3e366ddf992659d87af3ef03137e597"), looks := true }, kinds := [], alts := [], laidByText := true, laidKinds := [.data, .data, .data, .data, .sentinel, .sentinel, .data, .pinned], laidTests := true, laidLooks := .later }
def AsmShowsCardSaid : Prop := Claim7.holds Tryz.pinned (.plain (OpenSpec.ofChange asmShowsSpec)) asmShowsCard

/-- THE TIED CARD OF 'carrellaw06.AsmParses'. -/
def asmParsesCard : Claim7 := { stood := { row := asmParsesRow, standIns := [], harness := (true, "b5f6a50abbfdf910e61712e8328076eaf3e366ddf992659d87af3ef03137e597"), looks := true }, kinds := [], alts := [], laidByText := true, laidKinds := [.data, .data, .data, .data, .sentinel, .sentinel, .data, .pinned], laidTests := true, laidLooks := .later }
def AsmParsesCardSaid : Prop := Claim7.holds Tryz.pinned (.plain (OpenSpec.ofChange asmParsesSpec)) asmParsesCard

/-- THE TIED CARD OF 'carrellaw06.AsmLoose'. -/
def asmLooseCard : Claim7 := { stood := { row := asmLooseRow, standIns := [], harness := (true, "b5f6a50abbfdf910e61712e8328076eaf3e366ddf992659d87af3ef03137e597"), looks := true }, kinds := [], alts := [], laidByText := true, laidKinds := [.data, .data, .data, .data, .sentinel, .sentinel, .data, .pinned], laidTests := true, laidLooks := .later }
def AsmLooseCardSaid : Prop := Claim7.holds Tryz.pinned (.plain (OpenSpec.ofChange asmLooseSpec)) asmLooseCard

/-- THE TIED CARD OF 'carrellaw06.AsmTexts'. -/
def asmTextsCard : Claim7 := { stood := { row := asmTextsRow, standIns := [], harness := (true, "b5f6a50abbfdf910e61712e8328076eaf3e366ddf992659d87af3ef03137e597"), looks := true }, kinds := [], alts := [], laidByText := true, laidKinds := [.data, .data, .data, .data, .sentinel, .sentinel, .data, .pinned], laidTests := true, laidLooks := .later }
def AsmTextsCardSaid : Prop := Claim7.holds Tryz.pinned (.plain (OpenSpec.ofChange asmTextsSpec)) asmTextsCard

/-- THE TIED CARD OF 'carrellaw06.AsmBack'. -/
def asmBackCard : Claim7 := { stood := { row := asmBackRow, standIns := [], harness := (true, "b5f6a50abbfdf910e61712e8328076eaf3e366ddf992659d87af3ef03137e597"), looks := true }, kinds := [], alts := [], laidByText := true, laidKinds := [.data, .data, .data, .data, .sentinel, .sentinel, .data, .pinned], laidTests := true, laidLooks := .later }
def AsmBackCardSaid : Prop := Claim7.holds Tryz.pinned (.plain (OpenSpec.ofChange asmBackSpec)) asmBackCard

/-- THE TIED CARD OF 'carrellaw06.AsmOne'. -/
def asmOneCard : Claim7 := { stood := { row := asmOneRow, standIns := [], harness := (true, "b5f6a50abbfdf910e61712e8328076eaf3e366ddf992659d87af3ef03137e597"), looks := true }, kinds := [], alts := [], laidByText := true, laidKinds := [.data, .data, .data, .data, .sentinel, .sentinel, .data, .pinned], laidTests := true, laidLooks := .later }
def AsmOneCardSaid : Prop := Claim7.holds Tryz.pinned (.plain (OpenSpec.ofChange asmOneSpec)) asmOneCard

/-- THE SECOND FORM's CARD OF 'carrellaw06.AsmShows'. -/
def asmShowsUptoCard : Claim7 := { stood := { row := asmShowsUptoRow, standIns := [], harness := (true, "b5f6a50abbfdf910e61712e8328076eaf3e366ddf992659d87af3ef03137e597"), looks := true }, kinds := [], alts := [], laidByText := true, laidKinds := [.data, .data, .data, .data, .sentinel, .sentinel, .data, .pinned], laidTests := true, laidLooks := .later }
def AsmShowsUptoCardSaid : Prop := Claim7.holds Tryz.pinned (.plain (OpenSpec.upto asmShowsSpec)) asmShowsUptoCard

/-- THE SECOND FORM's CARD OF 'carrellaw06.AsmParses'. -/
def asmParsesUptoCard : Claim7 := { stood := { row := asmParsesUptoRow, standIns := [], harness := (true, "b5f6a50abbfdf910e61712e8328076eaf3e366ddf992659d87af3ef03137e597"), looks := true }, kinds := [], alts := [], laidByText := true, laidKinds := [.data, .data, .data, .data, .sentinel, .sentinel, .data, .pinned], laidTests := true, laidLooks := .later }
def AsmParsesUptoCardSaid : Prop := Claim7.holds Tryz.pinned (.plain (OpenSpec.upto asmParsesSpec)) asmParsesUptoCard

/-- THE SECOND FORM's CARD OF 'carrellaw06.AsmLoose'. -/
def asmLooseUptoCard : Claim7 := { stood := { row := asmLooseUptoRow, standIns := [], harness := (true, "b5f6a50abbfdf910e61712e8328076eaf3e366ddf992659d87af3ef03137e597"), looks := true }, kinds := [], alts := [], laidByText := true, laidKinds := [.data, .data, .data, .data, .sentinel, .sentinel, .data, .pinned], laidTests := true, laidLooks := .later }
def AsmLooseUptoCardSaid : Prop := Claim7.holds Tryz.pinned (.plain (OpenSpec.upto asmLooseSpec)) asmLooseUptoCard

/-- THE SECOND FORM's CARD OF 'carrellaw06.AsmTexts'. -/
def asmTextsUptoCard : Claim7 := { stood := { row := asmTextsUptoRow, standIns := [], harness := (true, "b5f6a50abbfdf910e61712e8328076eaf3e366ddf992659d87af3ef03137e597"), looks := true }, kinds := [], alts := [], laidByText := true, laidKinds := [.data, .data, .data, .data, .sentinel, .sentinel, .data, .pinned], laidTests := true, laidLooks := .later }
def AsmTextsUptoCardSaid : Prop := Claim7.holds Tryz.pinned (.plain (OpenSpec.upto asmTextsSpec)) asmTextsUptoCard

/-- THE SECOND FORM's CARD OF 'carrellaw06.AsmBack'. -/
def asmBackUptoCard : Claim7 := { stood := { row := asmBackUptoRow, standIns := [], harness := (true, "b5f6a50abbfdf910e61712e8328076eaf3e366ddf992659d87af3ef03137e597"), looks := true }, kinds := [], alts := [], laidByText := true, laidKinds := [.data, .data, .data, .data, .sentinel, .sentinel, .data, .pinned], laidTests := true, laidLooks := .later }
def AsmBackUptoCardSaid : Prop := Claim7.holds Tryz.pinned (.plain (OpenSpec.upto asmBackSpec)) asmBackUptoCard

/-- THE SECOND FORM's CARD OF 'carrellaw06.AsmOne'. -/
def asmOneUptoCard : Claim7 := { stood := { row := asmOneUptoRow, standIns := [], harness := (true, "b5f6a50abbfdf910e61712e8328076eaf3e366ddf992659d87af3ef03137e597"), looks := true }, kinds := [], alts := [], laidByText := true, laidKinds := [.data, .data, .data, .data, .sentinel, .sentinel, .data, .pinned], laidTests := true, laidLooks := .later }
def AsmOneUptoCardSaid : Prop := Claim7.holds Tryz.pinned (.plain (OpenSpec.upto asmOneSpec)) asmOneUptoCard
end Rows
end Go.Proofs.YtgemeilncdmapaaGreatDoor
