/-
  DERIVED. GIVEN WITH THE SEED: THE CARDS: each row of YtbnnhffkbcekcaaGreatDoorRows.lean that lists a variable, with what it lists TIED to the program's text (the seventh form; the later family's looks); each row that meets fmt, with fmt's text TOLD by the authors' own Lean function (tested against real Go, not proved from fmt's source: count such statements apart). THE CARD IS WHAT COUNTS. Prove the row's statement (the work); the ties are given (YtbnnhffkbcekcaaGreatDoorTie.lean); close each card by the builder's one call (the guide's Derived/Test/ToyasCard.lean, 'card_holds'). Laid BY PROGRAM, IN A SANDBOX (cutbox-door.mjs). By AI agents, Wed Nov 11 2026. No macro, syntax, notation, axiom, sorry.
-/
import Derived.Test.YtbnnhffkbcekcaaGreatDoorRows
import GoSem.ClaimSeven
namespace Go.Proofs.YtbnnhffkbcekcaaGreatDoor
namespace Rows

/-- THE TIED CARD OF 'carrellaw18.FileMakes'. -/
def fileMakesCard : Claim7 := { stood := { row := fileMakesRow, standIns := [], harness := (true, "603e64d91f7060457391e8f93380e7a41fbd92dc7c27275ae894fd05116d8c10"), looks := false }, kinds := [], alts := [], laidByText := true, laidKinds := [.data, .pinned], laidTests := true, laidLooks := .later }
def FileMakesCardSaid : Prop := Claim7.holds Tryz.pinned (.plain (OpenSpec.ofChange fileMakesSpec)) fileMakesCard

/-- THE TIED CARD OF 'carrellaw18.FileStays'. -/
def fileStaysCard : Claim7 := { stood := { row := fileStaysRow, standIns := [], harness := (true, "603e64d91f7060457391e8f93380e7a41fbd92dc7c27275ae894fd05116d8c10"), looks := false }, kinds := [], alts := [], laidByText := true, laidKinds := [.data, .pinned], laidTests := true, laidLooks := .later }
def FileStaysCardSaid : Prop := Claim7.holds Tryz.pinned (.plain (OpenSpec.ofChange fileStaysSpec)) fileStaysCard

/-- THE TIED CARD OF 'carrellaw18.FileOrders'. -/
def fileOrdersCard : Claim7 := { stood := { row := fileOrdersRow, standIns := [], harness := (true, "603e64d91f7060457391e8f93380e7a41fbd92dc7c27275ae894fd05116d8c10"), looks := false }, kinds := [], alts := [], laidByText := true, laidKinds := [.data, .pinned], laidTests := true, laidLooks := .later }
def FileOrdersCardSaid : Prop := Claim7.holds Tryz.pinned (.plain (OpenSpec.ofChange fileOrdersSpec)) fileOrdersCard

/-- THE TIED CARD OF 'carrellaw18.FileCuts'. -/
def fileCutsCard : Claim7 := { stood := { row := fileCutsRow, standIns := [], harness := (true, "603e64d91f7060457391e8f93380e7a41fbd92dc7c27275ae894fd05116d8c10"), looks := false }, kinds := [], alts := [], laidByText := true, laidKinds := [.data, .pinned], laidTests := true, laidLooks := .later }
def FileCutsCardSaid : Prop := Claim7.holds Tryz.pinned (.plain (OpenSpec.ofChange fileCutsSpec)) fileCutsCard

/-- THE TIED CARD OF 'carrellaw17.DirOpens'. -/
def dirOpensCard : Claim7 := { stood := { row := dirOpensRow, standIns := [], harness := (true, "603e64d91f7060457391e8f93380e7a41fbd92dc7c27275ae894fd05116d8c10"), looks := false }, kinds := [], alts := [], laidByText := true, laidKinds := [.data, .pinned], laidTests := true, laidLooks := .later }
def DirOpensCardSaid : Prop := Claim7.holds Tryz.pinned (.plain (OpenSpec.ofChange dirOpensSpec)) dirOpensCard

/-- THE TIED CARD OF 'carrellaw17.DirAgain'. -/
def dirAgainCard : Claim7 := { stood := { row := dirAgainRow, standIns := [], harness := (true, "603e64d91f7060457391e8f93380e7a41fbd92dc7c27275ae894fd05116d8c10"), looks := false }, kinds := [], alts := [], laidByText := true, laidKinds := [.data, .pinned], laidTests := true, laidLooks := .later }
def DirAgainCardSaid : Prop := Claim7.holds Tryz.pinned (.plain (OpenSpec.ofChange dirAgainSpec)) dirAgainCard

/-- THE TIED CARD OF 'carrellaw17.DirFrees'. -/
def dirFreesCard : Claim7 := { stood := { row := dirFreesRow, standIns := [], harness := (true, "603e64d91f7060457391e8f93380e7a41fbd92dc7c27275ae894fd05116d8c10"), looks := false }, kinds := [], alts := [], laidByText := true, laidKinds := [.data, .pinned], laidTests := true, laidLooks := .later }
def DirFreesCardSaid : Prop := Claim7.holds Tryz.pinned (.plain (OpenSpec.ofChange dirFreesSpec)) dirFreesCard

/-- THE TIED CARD OF 'carrellaw17.DirNone'. -/
def dirNoneCard : Claim7 := { stood := { row := dirNoneRow, standIns := [], harness := (true, "603e64d91f7060457391e8f93380e7a41fbd92dc7c27275ae894fd05116d8c10"), looks := false }, kinds := [], alts := [], laidByText := true, laidKinds := [.data, .pinned], laidTests := true, laidLooks := .later }
def DirNoneCardSaid : Prop := Claim7.holds Tryz.pinned (.plain (OpenSpec.ofChange dirNoneSpec)) dirNoneCard

/-- THE TIED CARD OF 'carrellaw17.DirDoes'. -/
def dirDoesCard : Claim7 := { stood := { row := dirDoesRow, standIns := [], harness := (true, "603e64d91f7060457391e8f93380e7a41fbd92dc7c27275ae894fd05116d8c10"), looks := false }, kinds := [], alts := [], laidByText := true, laidKinds := [.data, .pinned], laidTests := true, laidLooks := .later }
def DirDoesCardSaid : Prop := Claim7.holds Tryz.pinned (.plain (OpenSpec.ofChange dirDoesSpec)) dirDoesCard

/-- THE TIED CARD OF 'carrellaw17.DirCuts'. -/
def dirCutsCard : Claim7 := { stood := { row := dirCutsRow, standIns := [], harness := (true, "603e64d91f7060457391e8f93380e7a41fbd92dc7c27275ae894fd05116d8c10"), looks := false }, kinds := [], alts := [], laidByText := true, laidKinds := [.data, .pinned], laidTests := true, laidLooks := .later }
def DirCutsCardSaid : Prop := Claim7.holds Tryz.pinned (.plain (OpenSpec.ofChange dirCutsSpec)) dirCutsCard

/-- THE TIED CARD OF 'carrellaw18.FileDoes'. -/
def fileDoesCard : Claim7 := { stood := { row := fileDoesRow, standIns := [], harness := (true, "603e64d91f7060457391e8f93380e7a41fbd92dc7c27275ae894fd05116d8c10"), looks := false }, kinds := [], alts := [], laidByText := true, laidKinds := [.data, .pinned], laidTests := true, laidLooks := .later }
def FileDoesCardSaid : Prop := Claim7.holds Tryz.pinned (.plain (OpenSpec.ofChange fileDoesSpec)) fileDoesCard

/-- THE SECOND FORM's CARD OF 'carrellaw18.FileMakes'. -/
def fileMakesUptoCard : Claim7 := { stood := { row := fileMakesUptoRow, standIns := [], harness := (true, "603e64d91f7060457391e8f93380e7a41fbd92dc7c27275ae894fd05116d8c10"), looks := false }, kinds := [], alts := [], laidByText := true, laidKinds := [.data, .pinned], laidTests := true, laidLooks := .later }
def FileMakesUptoCardSaid : Prop := Claim7.holds Tryz.pinned (.plain (OpenSpec.upto fileMakesSpec)) fileMakesUptoCard

/-- THE SECOND FORM's CARD OF 'carrellaw18.FileStays'. -/
def fileStaysUptoCard : Claim7 := { stood := { row := fileStaysUptoRow, standIns := [], harness := (true, "603e64d91f7060457391e8f93380e7a41fbd92dc7c27275ae894fd05116d8c10"), looks := false }, kinds := [], alts := [], laidByText := true, laidKinds := [.data, .pinned], laidTests := true, laidLooks := .later }
def FileStaysUptoCardSaid : Prop := Claim7.holds Tryz.pinned (.plain (OpenSpec.upto fileStaysSpec)) fileStaysUptoCard

/-- THE SECOND FORM's CARD OF 'carrellaw18.FileOrders'. -/
def fileOrdersUptoCard : Claim7 := { stood := { row := fileOrdersUptoRow, standIns := [], harness := (true, "603e64d91f7060457391e8f93380e7a41fbd92dc7c27275ae894fd05116d8c10"), looks := false }, kinds := [], alts := [], laidByText := true, laidKinds := [.data, .pinned], laidTests := true, laidLooks := .later }
def FileOrdersUptoCardSaid : Prop := Claim7.holds Tryz.pinned (.plain (OpenSpec.upto fileOrdersSpec)) fileOrdersUptoCard

/-- THE SECOND FORM's CARD OF 'carrellaw18.FileCuts'. -/
def fileCutsUptoCard : Claim7 := { stood := { row := fileCutsUptoRow, standIns := [], harness := (true, "603e64d91f7060457391e8f93380e7a41fbd92dc7c27275ae894fd05116d8c10"), looks := false }, kinds := [], alts := [], laidByText := true, laidKinds := [.data, .pinned], laidTests := true, laidLooks := .later }
def FileCutsUptoCardSaid : Prop := Claim7.holds Tryz.pinned (.plain (OpenSpec.upto fileCutsSpec)) fileCutsUptoCard

/-- THE SECOND FORM's CARD OF 'carrellaw17.DirOpens'. -/
def dirOpensUptoCard : Claim7 := { stood := { row := dirOpensUptoRow, standIns := [], harness := (true, "603e64d91f7060457391e8f93380e7a41fbd92dc7c27275ae894fd05116d8c10"), looks := false }, kinds := [], alts := [], laidByText := true, laidKinds := [.data, .pinned], laidTests := true, laidLooks := .later }
def DirOpensUptoCardSaid : Prop := Claim7.holds Tryz.pinned (.plain (OpenSpec.upto dirOpensSpec)) dirOpensUptoCard

/-- THE SECOND FORM's CARD OF 'carrellaw17.DirAgain'. -/
def dirAgainUptoCard : Claim7 := { stood := { row := dirAgainUptoRow, standIns := [], harness := (true, "603e64d91f7060457391e8f93380e7a41fbd92dc7c27275ae894fd05116d8c10"), looks := false }, kinds := [], alts := [], laidByText := true, laidKinds := [.data, .pinned], laidTests := true, laidLooks := .later }
def DirAgainUptoCardSaid : Prop := Claim7.holds Tryz.pinned (.plain (OpenSpec.upto dirAgainSpec)) dirAgainUptoCard

/-- THE SECOND FORM's CARD OF 'carrellaw17.DirFrees'. -/
def dirFreesUptoCard : Claim7 := { stood := { row := dirFreesUptoRow, standIns := [], harness := (true, "603e64d91f7060457391e8f93380e7a41fbd92dc7c27275ae894fd05116d8c10"), looks := false }, kinds := [], alts := [], laidByText := true, laidKinds := [.data, .pinned], laidTests := true, laidLooks := .later }
def DirFreesUptoCardSaid : Prop := Claim7.holds Tryz.pinned (.plain (OpenSpec.upto dirFreesSpec)) dirFreesUptoCard

/-- THE SECOND FORM's CARD OF 'carrellaw17.DirNone'. -/
def dirNoneUptoCard : Claim7 := { stood := { row := dirNoneUptoRow, standIns := [], harness := (true, "603e64d91f7060457391e8f93380e7a41fbd92dc7c27275ae894fd05116d8c10"), looks := false }, kinds := [], alts := [], laidByText := true, laidKinds := [.data, .pinned], laidTests := true, laidLooks := .later }
def DirNoneUptoCardSaid : Prop := Claim7.holds Tryz.pinned (.plain (OpenSpec.upto dirNoneSpec)) dirNoneUptoCard

/-- THE SECOND FORM's CARD OF 'carrellaw17.DirDoes'. -/
def dirDoesUptoCard : Claim7 := { stood := { row := dirDoesUptoRow, standIns := [], harness := (true, "603e64d91f7060457391e8f93380e7a41fbd92dc7c27275ae894fd05116d8c10"), looks := false }, kinds := [], alts := [], laidByText := true, laidKinds := [.data, .pinned], laidTests := true, laidLooks := .later }
def DirDoesUptoCardSaid : Prop := Claim7.holds Tryz.pinned (.plain (OpenSpec.upto dirDoesSpec)) dirDoesUptoCard

/-- THE SECOND FORM's CARD OF 'carrellaw17.DirCuts'. -/
def dirCutsUptoCard : Claim7 := { stood := { row := dirCutsUptoRow, standIns := [], harness := (true, "603e64d91f7060457391e8f93380e7a41fbd92dc7c27275ae894fd05116d8c10"), looks := false }, kinds := [], alts := [], laidByText := true, laidKinds := [.data, .pinned], laidTests := true, laidLooks := .later }
def DirCutsUptoCardSaid : Prop := Claim7.holds Tryz.pinned (.plain (OpenSpec.upto dirCutsSpec)) dirCutsUptoCard

/-- THE SECOND FORM's CARD OF 'carrellaw18.FileDoes'. -/
def fileDoesUptoCard : Claim7 := { stood := { row := fileDoesUptoRow, standIns := [], harness := (true, "603e64d91f7060457391e8f93380e7a41fbd92dc7c27275ae894fd05116d8c10"), looks := false }, kinds := [], alts := [], laidByText := true, laidKinds := [.data, .pinned], laidTests := true, laidLooks := .later }
def FileDoesUptoCardSaid : Prop := Claim7.holds Tryz.pinned (.plain (OpenSpec.upto fileDoesSpec)) fileDoesUptoCard
end Rows
end Go.Proofs.YtbnnhffkbcekcaaGreatDoor
