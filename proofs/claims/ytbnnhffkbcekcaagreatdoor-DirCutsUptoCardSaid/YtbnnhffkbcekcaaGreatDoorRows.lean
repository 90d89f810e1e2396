/-
  NARROWER THAN 'FOR EVERY INPUT', by the rows' own cells (each row's printed sentence says how): FileMakes: laid · FileStays: laid · FileOrders: laid · FileCuts: laid · DirOpens: laid · DirAgain: laid · DirFrees: laid · DirNone: laid · DirDoes: laid · DirCuts: laid · FileDoes: laid.
  DERIVED. THE GIVEN ROWS OF THIS SEAT. 11 by the template 'for every input the law returns true; each argument reads behind the call as it read before'; 0 by the template 'total and deterministic' (their statements: YtbnnhffkbcekcaaGreatDoorTotals.lean).
  GIVEN WITH THE SEED: the statements are not yours to turn. If you find one false, say at which input.
  Laid BY PROGRAM, IN A SANDBOX (cutbox-rows.mjs): the forced cells as the released guide's own fill.sh prints them over the translation c1a4dae76fcd1fdf… (all of the seat's roots in one cut). By AI agents, Wed Nov 11 2026. No macro, syntax, notation, axiom, sorry.
-/
import Derived.Test.YtbnnhffkbcekcaaGreatDoorChecked
import GoSem.PinnedTables
import GoSem.Claim
import GoSem.ClaimJoined
import GoSem.ClaimMapViews
import Derived.JoinedTies
import Derived.KernelRfl
namespace Go.Proofs.YtbnnhffkbcekcaaGreatDoor
/- THE CELL 'sum', in the pinned program and in every row, IS THE sha256 OF THE DUMP (.gsa) THAT YtbnnhffkbcekcaaGreatDoorProg.lean LOADS. Nothing in Lean hashes anything: it is a label: what it is worth is what the hold of that sum in a sandbox is worth. -/
noncomputable def Tryz.pinned : Pinned := { name := "ytbnnhffkbcekcaagreatdoor", sum := "c1a4dae76fcd1fdf1318614de90f871f93d3b956cc7278b25fd8dc14aba8fe55", checked := Tryz.checked }
namespace Rows
def none {H : Type} : Left H := { results := [], args := [] }

/- WHAT THE LISTED PACKAGE-LEVEL VARIABLES READ AS WHEN THE CALL BEGINS. Each datum BY PROGRAM (the guide's laid-datum.mjs) off the statement by which the dump's own 'gosem.cut.vars' lays the variable. In a bare row this is a premise. The card (YtbnnhffkbcekcaaGreatDoorCards.lean) ties it to the program's text. -/
def laid_unicode_utf8_acceptRanges {H : Type} : DataW H := .agg [.agg [.lit (.int .u8 128), .lit (.int .u8 191)], .agg [.lit (.int .u8 160), .lit (.int .u8 191)], .agg [.lit (.int .u8 128), .lit (.int .u8 159)], .agg [.lit (.int .u8 144), .lit (.int .u8 191)], .agg [.lit (.int .u8 128), .lit (.int .u8 143)], .agg [.lit (.int .u8 0), .lit (.int .u8 0)], .agg [.lit (.int .u8 0), .lit (.int .u8 0)], .agg [.lit (.int .u8 0), .lit (.int .u8 0)], .agg [.lit (.int .u8 0), .lit (.int .u8 0)], .agg [.lit (.int .u8 0), .lit (.int .u8 0)], .agg [.lit (.int .u8 0), .lit (.int .u8 0)], .agg [.lit (.int .u8 0), .lit (.int .u8 0)], .agg [.lit (.int .u8 0), .lit (.int .u8 0)], .agg [.lit (.int .u8 0), .lit (.int .u8 0)], .agg [.lit (.int .u8 0), .lit (.int .u8 0)], .agg [.lit (.int .u8 0), .lit (.int .u8 0)]]
/-- One of Go's own tables, pinned by name: the form's constant. -/
def laid_unicode_utf8_first : DataW Unit := Go.Pinned.utf8First

/-- 'carrellaw18.FileMakes': WHATEVER THE INPUT: true; the input reads as it did. -/
def fileMakesSpec : ChangeSpec := { name := "fileMakes", fn := fun _ => fun
  | [d1, d2] => { results := [.lit (.bool true)], args := [d1, d2] }
  | _ => none }
def fileMakesRow : OpenClaim := { program := "ytbnnhffkbcekcaagreatdoor", sum := "c1a4dae76fcd1fdf1318614de90f871f93d3b956cc7278b25fd8dc14aba8fe55", func := "carrel/carrellaw18.FileMakes", spec := "fileMakes", inPlace := ["internal/bytealg.IndexByteString", "internal/bytealg.IndexString", "internal/bytealg.abigen_runtime_cmpstring", "slices.overlaps[carrel/dir.file]", "internal/abi.NoEscape"], unfollowed := true, recurses := true, named := ["internal/bytealg.MaxLen", "unicode/utf8.first", "unicode/utf8.acceptRanges"], apart := false, laid := [("unicode/utf8.acceptRanges", laid_unicode_utf8_acceptRanges), ("unicode/utf8.first", laid_unicode_utf8_first)] }
def FileMakesSaid : Prop := fileMakesRow.holds Tryz.pinned (OpenSpec.ofChange fileMakesSpec)

/-- ITS FALSE NEIGHBOUR: 'it returns false'. Refute it at one input. -/
def fileMakesWrong : ChangeSpec := { name := "fileMakes", fn := fun _ => fun
  | [d1, d2] => { results := [.lit (.bool false)], args := [d1, d2] }
  | _ => none }
def FileMakesWrongFalsely : Prop := fileMakesRow.holds Tryz.pinned (OpenSpec.ofChange fileMakesWrong)

/-- 'carrellaw18.FileStays': WHATEVER THE INPUT: true; the input reads as it did. -/
def fileStaysSpec : ChangeSpec := { name := "fileStays", fn := fun _ => fun
  | [d1, d2, d3, d4] => { results := [.lit (.bool true)], args := [d1, d2, d3, d4] }
  | _ => none }
def fileStaysRow : OpenClaim := { program := "ytbnnhffkbcekcaagreatdoor", sum := "c1a4dae76fcd1fdf1318614de90f871f93d3b956cc7278b25fd8dc14aba8fe55", func := "carrel/carrellaw18.FileStays", spec := "fileStays", inPlace := ["internal/bytealg.IndexByteString", "internal/bytealg.IndexString", "internal/bytealg.abigen_runtime_cmpstring", "slices.overlaps[carrel/dir.file]", "internal/abi.NoEscape"], unfollowed := true, recurses := true, named := ["internal/bytealg.MaxLen", "unicode/utf8.first", "unicode/utf8.acceptRanges"], apart := false, laid := [("unicode/utf8.acceptRanges", laid_unicode_utf8_acceptRanges), ("unicode/utf8.first", laid_unicode_utf8_first)] }
def FileStaysSaid : Prop := fileStaysRow.holds Tryz.pinned (OpenSpec.ofChange fileStaysSpec)

/-- ITS FALSE NEIGHBOUR: 'it returns false'. Refute it at one input. -/
def fileStaysWrong : ChangeSpec := { name := "fileStays", fn := fun _ => fun
  | [d1, d2, d3, d4] => { results := [.lit (.bool false)], args := [d1, d2, d3, d4] }
  | _ => none }
def FileStaysWrongFalsely : Prop := fileStaysRow.holds Tryz.pinned (OpenSpec.ofChange fileStaysWrong)

/-- 'carrellaw18.FileOrders': WHATEVER THE INPUT: true; the input reads as it did. -/
def fileOrdersSpec : ChangeSpec := { name := "fileOrders", fn := fun _ => fun
  | [d1, d2] => { results := [.lit (.bool true)], args := [d1, d2] }
  | _ => none }
def fileOrdersRow : OpenClaim := { program := "ytbnnhffkbcekcaagreatdoor", sum := "c1a4dae76fcd1fdf1318614de90f871f93d3b956cc7278b25fd8dc14aba8fe55", func := "carrel/carrellaw18.FileOrders", spec := "fileOrders", inPlace := ["internal/bytealg.IndexByteString", "internal/bytealg.IndexString", "internal/bytealg.abigen_runtime_cmpstring", "slices.overlaps[carrel/dir.file]", "internal/abi.NoEscape"], unfollowed := true, recurses := true, named := ["internal/bytealg.MaxLen", "unicode/utf8.first", "unicode/utf8.acceptRanges"], apart := false, laid := [("unicode/utf8.acceptRanges", laid_unicode_utf8_acceptRanges), ("unicode/utf8.first", laid_unicode_utf8_first)] }
def FileOrdersSaid : Prop := fileOrdersRow.holds Tryz.pinned (OpenSpec.ofChange fileOrdersSpec)

/-- ITS FALSE NEIGHBOUR: 'it returns false'. Refute it at one input. -/
def fileOrdersWrong : ChangeSpec := { name := "fileOrders", fn := fun _ => fun
  | [d1, d2] => { results := [.lit (.bool false)], args := [d1, d2] }
  | _ => none }
def FileOrdersWrongFalsely : Prop := fileOrdersRow.holds Tryz.pinned (OpenSpec.ofChange fileOrdersWrong)

/-- 'carrellaw18.FileCuts': WHATEVER THE INPUT: true; the input reads as it did. -/
def fileCutsSpec : ChangeSpec := { name := "fileCuts", fn := fun _ => fun
  | [d1, d2, d3, d4] => { results := [.lit (.bool true)], args := [d1, d2, d3, d4] }
  | _ => none }
def fileCutsRow : OpenClaim := { program := "ytbnnhffkbcekcaagreatdoor", sum := "c1a4dae76fcd1fdf1318614de90f871f93d3b956cc7278b25fd8dc14aba8fe55", func := "carrel/carrellaw18.FileCuts", spec := "fileCuts", inPlace := ["internal/bytealg.IndexByteString", "internal/bytealg.IndexString", "internal/bytealg.abigen_runtime_cmpstring", "slices.overlaps[carrel/dir.file]", "internal/abi.NoEscape"], unfollowed := true, recurses := true, named := ["internal/bytealg.MaxLen", "unicode/utf8.first", "unicode/utf8.acceptRanges"], apart := false, laid := [("unicode/utf8.acceptRanges", laid_unicode_utf8_acceptRanges), ("unicode/utf8.first", laid_unicode_utf8_first)] }
def FileCutsSaid : Prop := fileCutsRow.holds Tryz.pinned (OpenSpec.ofChange fileCutsSpec)

/-- ITS FALSE NEIGHBOUR: 'it returns false'. Refute it at one input. -/
def fileCutsWrong : ChangeSpec := { name := "fileCuts", fn := fun _ => fun
  | [d1, d2, d3, d4] => { results := [.lit (.bool false)], args := [d1, d2, d3, d4] }
  | _ => none }
def FileCutsWrongFalsely : Prop := fileCutsRow.holds Tryz.pinned (OpenSpec.ofChange fileCutsWrong)

/-- 'carrellaw17.DirOpens': WHATEVER THE INPUT: true; the input reads as it did. -/
def dirOpensSpec : ChangeSpec := { name := "dirOpens", fn := fun _ => fun
  | [d1, d2] => { results := [.lit (.bool true)], args := [d1, d2] }
  | _ => none }
def dirOpensRow : OpenClaim := { program := "ytbnnhffkbcekcaagreatdoor", sum := "c1a4dae76fcd1fdf1318614de90f871f93d3b956cc7278b25fd8dc14aba8fe55", func := "carrel/carrellaw17.DirOpens", spec := "dirOpens", inPlace := ["internal/bytealg.IndexByteString", "internal/bytealg.IndexString", "internal/bytealg.abigen_runtime_cmpstring", "slices.overlaps[carrel/dir.file]"], unfollowed := true, recurses := true, named := ["internal/bytealg.MaxLen", "unicode/utf8.first", "unicode/utf8.acceptRanges"], apart := false, laid := [("unicode/utf8.acceptRanges", laid_unicode_utf8_acceptRanges), ("unicode/utf8.first", laid_unicode_utf8_first)] }
def DirOpensSaid : Prop := dirOpensRow.holds Tryz.pinned (OpenSpec.ofChange dirOpensSpec)

/-- ITS FALSE NEIGHBOUR: 'it returns false'. Refute it at one input. -/
def dirOpensWrong : ChangeSpec := { name := "dirOpens", fn := fun _ => fun
  | [d1, d2] => { results := [.lit (.bool false)], args := [d1, d2] }
  | _ => none }
def DirOpensWrongFalsely : Prop := dirOpensRow.holds Tryz.pinned (OpenSpec.ofChange dirOpensWrong)

/-- 'carrellaw17.DirAgain': WHATEVER THE INPUT: true; the input reads as it did. -/
def dirAgainSpec : ChangeSpec := { name := "dirAgain", fn := fun _ => fun
  | [d1, d2] => { results := [.lit (.bool true)], args := [d1, d2] }
  | _ => none }
def dirAgainRow : OpenClaim := { program := "ytbnnhffkbcekcaagreatdoor", sum := "c1a4dae76fcd1fdf1318614de90f871f93d3b956cc7278b25fd8dc14aba8fe55", func := "carrel/carrellaw17.DirAgain", spec := "dirAgain", inPlace := ["internal/bytealg.IndexByteString", "internal/bytealg.IndexString", "internal/bytealg.abigen_runtime_cmpstring", "slices.overlaps[carrel/dir.file]"], unfollowed := true, recurses := true, named := ["internal/bytealg.MaxLen", "unicode/utf8.first", "unicode/utf8.acceptRanges"], apart := false, laid := [("unicode/utf8.acceptRanges", laid_unicode_utf8_acceptRanges), ("unicode/utf8.first", laid_unicode_utf8_first)] }
def DirAgainSaid : Prop := dirAgainRow.holds Tryz.pinned (OpenSpec.ofChange dirAgainSpec)

/-- ITS FALSE NEIGHBOUR: 'it returns false'. Refute it at one input. -/
def dirAgainWrong : ChangeSpec := { name := "dirAgain", fn := fun _ => fun
  | [d1, d2] => { results := [.lit (.bool false)], args := [d1, d2] }
  | _ => none }
def DirAgainWrongFalsely : Prop := dirAgainRow.holds Tryz.pinned (OpenSpec.ofChange dirAgainWrong)

/-- 'carrellaw17.DirFrees': WHATEVER THE INPUT: true; the input reads as it did. -/
def dirFreesSpec : ChangeSpec := { name := "dirFrees", fn := fun _ => fun
  | [d1, d2] => { results := [.lit (.bool true)], args := [d1, d2] }
  | _ => none }
def dirFreesRow : OpenClaim := { program := "ytbnnhffkbcekcaagreatdoor", sum := "c1a4dae76fcd1fdf1318614de90f871f93d3b956cc7278b25fd8dc14aba8fe55", func := "carrel/carrellaw17.DirFrees", spec := "dirFrees", inPlace := ["internal/bytealg.IndexByteString", "internal/bytealg.IndexString", "internal/bytealg.abigen_runtime_cmpstring", "slices.overlaps[carrel/dir.file]"], unfollowed := true, recurses := true, named := ["internal/bytealg.MaxLen", "unicode/utf8.first", "unicode/utf8.acceptRanges"], apart := false, laid := [("unicode/utf8.acceptRanges", laid_unicode_utf8_acceptRanges), ("unicode/utf8.first", laid_unicode_utf8_first)] }
def DirFreesSaid : Prop := dirFreesRow.holds Tryz.pinned (OpenSpec.ofChange dirFreesSpec)

/-- ITS FALSE NEIGHBOUR: 'it returns false'. Refute it at one input. -/
def dirFreesWrong : ChangeSpec := { name := "dirFrees", fn := fun _ => fun
  | [d1, d2] => { results := [.lit (.bool false)], args := [d1, d2] }
  | _ => none }
def DirFreesWrongFalsely : Prop := dirFreesRow.holds Tryz.pinned (OpenSpec.ofChange dirFreesWrong)

/-- 'carrellaw17.DirNone': WHATEVER THE INPUT: true; the input reads as it did. -/
def dirNoneSpec : ChangeSpec := { name := "dirNone", fn := fun _ => fun
  | [d1, d2] => { results := [.lit (.bool true)], args := [d1, d2] }
  | _ => none }
def dirNoneRow : OpenClaim := { program := "ytbnnhffkbcekcaagreatdoor", sum := "c1a4dae76fcd1fdf1318614de90f871f93d3b956cc7278b25fd8dc14aba8fe55", func := "carrel/carrellaw17.DirNone", spec := "dirNone", inPlace := ["internal/bytealg.IndexByteString", "internal/bytealg.IndexString", "internal/bytealg.abigen_runtime_cmpstring", "slices.overlaps[carrel/dir.file]"], unfollowed := true, recurses := true, named := ["internal/bytealg.MaxLen", "unicode/utf8.first", "unicode/utf8.acceptRanges"], apart := false, laid := [("unicode/utf8.acceptRanges", laid_unicode_utf8_acceptRanges), ("unicode/utf8.first", laid_unicode_utf8_first)] }
def DirNoneSaid : Prop := dirNoneRow.holds Tryz.pinned (OpenSpec.ofChange dirNoneSpec)

/-- ITS FALSE NEIGHBOUR: 'it returns false'. Refute it at one input. -/
def dirNoneWrong : ChangeSpec := { name := "dirNone", fn := fun _ => fun
  | [d1, d2] => { results := [.lit (.bool false)], args := [d1, d2] }
  | _ => none }
def DirNoneWrongFalsely : Prop := dirNoneRow.holds Tryz.pinned (OpenSpec.ofChange dirNoneWrong)

/-- 'carrellaw17.DirDoes': WHATEVER THE INPUT: true; the input reads as it did. -/
def dirDoesSpec : ChangeSpec := { name := "dirDoes", fn := fun _ => fun
  | [d1, d2] => { results := [.lit (.bool true)], args := [d1, d2] }
  | _ => none }
def dirDoesRow : OpenClaim := { program := "ytbnnhffkbcekcaagreatdoor", sum := "c1a4dae76fcd1fdf1318614de90f871f93d3b956cc7278b25fd8dc14aba8fe55", func := "carrel/carrellaw17.DirDoes", spec := "dirDoes", inPlace := ["internal/bytealg.IndexByteString", "internal/bytealg.IndexString", "internal/bytealg.abigen_runtime_cmpstring", "slices.overlaps[carrel/dir.file]"], unfollowed := true, recurses := true, named := ["internal/bytealg.MaxLen", "unicode/utf8.first", "unicode/utf8.acceptRanges"], apart := false, laid := [("unicode/utf8.acceptRanges", laid_unicode_utf8_acceptRanges), ("unicode/utf8.first", laid_unicode_utf8_first)] }
def DirDoesSaid : Prop := dirDoesRow.holds Tryz.pinned (OpenSpec.ofChange dirDoesSpec)

/-- ITS FALSE NEIGHBOUR: 'it returns false'. Refute it at one input. -/
def dirDoesWrong : ChangeSpec := { name := "dirDoes", fn := fun _ => fun
  | [d1, d2] => { results := [.lit (.bool false)], args := [d1, d2] }
  | _ => none }
def DirDoesWrongFalsely : Prop := dirDoesRow.holds Tryz.pinned (OpenSpec.ofChange dirDoesWrong)

/-- 'carrellaw17.DirCuts': WHATEVER THE INPUT: true; the input reads as it did. -/
def dirCutsSpec : ChangeSpec := { name := "dirCuts", fn := fun _ => fun
  | [d1, d2] => { results := [.lit (.bool true)], args := [d1, d2] }
  | _ => none }
def dirCutsRow : OpenClaim := { program := "ytbnnhffkbcekcaagreatdoor", sum := "c1a4dae76fcd1fdf1318614de90f871f93d3b956cc7278b25fd8dc14aba8fe55", func := "carrel/carrellaw17.DirCuts", spec := "dirCuts", inPlace := ["internal/bytealg.IndexByteString", "internal/bytealg.IndexString", "internal/bytealg.abigen_runtime_cmpstring", "slices.overlaps[carrel/dir.file]"], unfollowed := true, recurses := true, named := ["internal/bytealg.MaxLen", "unicode/utf8.first", "unicode/utf8.acceptRanges"], apart := false, laid := [("unicode/utf8.acceptRanges", laid_unicode_utf8_acceptRanges), ("unicode/utf8.first", laid_unicode_utf8_first)] }
def DirCutsSaid : Prop := dirCutsRow.holds Tryz.pinned (OpenSpec.ofChange dirCutsSpec)

/-- ITS FALSE NEIGHBOUR: 'it returns false'. Refute it at one input. -/
def dirCutsWrong : ChangeSpec := { name := "dirCuts", fn := fun _ => fun
  | [d1, d2] => { results := [.lit (.bool false)], args := [d1, d2] }
  | _ => none }
def DirCutsWrongFalsely : Prop := dirCutsRow.holds Tryz.pinned (OpenSpec.ofChange dirCutsWrong)

/-- 'carrellaw18.FileDoes': WHATEVER THE INPUT: true; the input reads as it did. -/
def fileDoesSpec : ChangeSpec := { name := "fileDoes", fn := fun _ => fun
  | [d1, d2, d3] => { results := [.lit (.bool true)], args := [d1, d2, d3] }
  | _ => none }
def fileDoesRow : OpenClaim := { program := "ytbnnhffkbcekcaagreatdoor", sum := "c1a4dae76fcd1fdf1318614de90f871f93d3b956cc7278b25fd8dc14aba8fe55", func := "carrel/carrellaw18.FileDoes", spec := "fileDoes", inPlace := ["internal/bytealg.IndexByteString", "internal/bytealg.IndexString", "internal/bytealg.abigen_runtime_cmpstring", "slices.overlaps[carrel/dir.file]", "internal/abi.NoEscape"], unfollowed := true, recurses := true, named := ["internal/bytealg.MaxLen", "unicode/utf8.first", "unicode/utf8.acceptRanges"], apart := false, laid := [("unicode/utf8.acceptRanges", laid_unicode_utf8_acceptRanges), ("unicode/utf8.first", laid_unicode_utf8_first)] }
def FileDoesSaid : Prop := fileDoesRow.holds Tryz.pinned (OpenSpec.ofChange fileDoesSpec)

/-- ITS FALSE NEIGHBOUR: 'it returns false'. Refute it at one input. -/
def fileDoesWrong : ChangeSpec := { name := "fileDoes", fn := fun _ => fun
  | [d1, d2, d3] => { results := [.lit (.bool false)], args := [d1, d2, d3] }
  | _ => none }
def FileDoesWrongFalsely : Prop := fileDoesRow.holds Tryz.pinned (OpenSpec.ofChange fileDoesWrong)

/- THE SECOND FORM. 'bulk': how many values and letters a reading holds, each counted each time it is reached (what is shared counts as often as it is met; a slice's spare places count too). A statement '..UptoSaid' is the law's where the arguments, and the package variables that the reading takes, are together of bulk at most 1048576: NARROWER than '..Said'. Prove '..Said' where nothing that the law and all that it calls make is longer than what came in: it says more and counts as full. Else prove '..UptoSaid'. A law counts once. -/
mutual
def uptoBulk {H : Type} : DataW H → Nat
  | .lit (.string bytes) => bytes.length + 1
  | .lit _ => 1
  | .nil => 1
  | .ptr d => uptoBulk d + 1
  | .slice elems spare => uptoBulkAll elems + uptoBulkAll spare + 1
  | .agg parts => uptoBulkAll parts + 1
  | .iface _ d => uptoBulk d + 1
  | .map entries => uptoBulkEntries entries + 1
  | .held _ => 1
def uptoBulkAll {H : Type} : List (DataW H) → Nat
  | [] => 0
  | d :: r => uptoBulk d + uptoBulkAll r
def uptoBulkEntries {H : Type} : List (Lit × DataW H) → Nat
  | [] => 0
  | x :: r => uptoBulkEntry x + uptoBulkEntries r
def uptoBulkEntry {H : Type} : Lit × DataW H → Nat
  | (.string bytes, d) => bytes.length + uptoBulk d + 1
  | (_, d) => uptoBulk d + 1
 end
def uptoSmall : (H : Type) → List (DataW H) → Bool := fun _ ds => decide (uptoBulkAll ds ≤ 1048576)
def OpenSpec.upto (s : _root_.Go.ChangeSpec) : _root_.Go.OpenSpec := { _root_.Go.OpenSpec.ofChange s with cond := some uptoSmall }

/-- 'carrellaw18.FileMakes', WHERE WHAT IT READS IS OF BULK AT MOST 1048576: true; the input reads as it did. -/
def fileMakesUptoRow : OpenClaim := { program := "ytbnnhffkbcekcaagreatdoor", sum := "c1a4dae76fcd1fdf1318614de90f871f93d3b956cc7278b25fd8dc14aba8fe55", func := "carrel/carrellaw18.FileMakes", spec := "fileMakes", inPlace := ["internal/bytealg.IndexByteString", "internal/bytealg.IndexString", "internal/bytealg.abigen_runtime_cmpstring", "slices.overlaps[carrel/dir.file]", "internal/abi.NoEscape"], unfollowed := true, recurses := true, named := ["internal/bytealg.MaxLen", "unicode/utf8.first", "unicode/utf8.acceptRanges"], apart := false, laid := [("unicode/utf8.acceptRanges", laid_unicode_utf8_acceptRanges), ("unicode/utf8.first", laid_unicode_utf8_first)], narrowed := true }
def FileMakesUptoSaid : Prop := fileMakesUptoRow.holds Tryz.pinned (OpenSpec.upto fileMakesSpec)

/-- 'carrellaw18.FileStays', WHERE WHAT IT READS IS OF BULK AT MOST 1048576: true; the input reads as it did. -/
def fileStaysUptoRow : OpenClaim := { program := "ytbnnhffkbcekcaagreatdoor", sum := "c1a4dae76fcd1fdf1318614de90f871f93d3b956cc7278b25fd8dc14aba8fe55", func := "carrel/carrellaw18.FileStays", spec := "fileStays", inPlace := ["internal/bytealg.IndexByteString", "internal/bytealg.IndexString", "internal/bytealg.abigen_runtime_cmpstring", "slices.overlaps[carrel/dir.file]", "internal/abi.NoEscape"], unfollowed := true, recurses := true, named := ["internal/bytealg.MaxLen", "unicode/utf8.first", "unicode/utf8.acceptRanges"], apart := false, laid := [("unicode/utf8.acceptRanges", laid_unicode_utf8_acceptRanges), ("unicode/utf8.first", laid_unicode_utf8_first)], narrowed := true }
def FileStaysUptoSaid : Prop := fileStaysUptoRow.holds Tryz.pinned (OpenSpec.upto fileStaysSpec)

/-- 'carrellaw18.FileOrders', WHERE WHAT IT READS IS OF BULK AT MOST 1048576: true; the input reads as it did. -/
def fileOrdersUptoRow : OpenClaim := { program := "ytbnnhffkbcekcaagreatdoor", sum := "c1a4dae76fcd1fdf1318614de90f871f93d3b956cc7278b25fd8dc14aba8fe55", func := "carrel/carrellaw18.FileOrders", spec := "fileOrders", inPlace := ["internal/bytealg.IndexByteString", "internal/bytealg.IndexString", "internal/bytealg.abigen_runtime_cmpstring", "slices.overlaps[carrel/dir.file]", "internal/abi.NoEscape"], unfollowed := true, recurses := true, named := ["internal/bytealg.MaxLen", "unicode/utf8.first", "unicode/utf8.acceptRanges"], apart := false, laid := [("unicode/utf8.acceptRanges", laid_unicode_utf8_acceptRanges), ("unicode/utf8.first", laid_unicode_utf8_first)], narrowed := true }
def FileOrdersUptoSaid : Prop := fileOrdersUptoRow.holds Tryz.pinned (OpenSpec.upto fileOrdersSpec)

/-- 'carrellaw18.FileCuts', WHERE WHAT IT READS IS OF BULK AT MOST 1048576: true; the input reads as it did. -/
def fileCutsUptoRow : OpenClaim := { program := "ytbnnhffkbcekcaagreatdoor", sum := "c1a4dae76fcd1fdf1318614de90f871f93d3b956cc7278b25fd8dc14aba8fe55", func := "carrel/carrellaw18.FileCuts", spec := "fileCuts", inPlace := ["internal/bytealg.IndexByteString", "internal/bytealg.IndexString", "internal/bytealg.abigen_runtime_cmpstring", "slices.overlaps[carrel/dir.file]", "internal/abi.NoEscape"], unfollowed := true, recurses := true, named := ["internal/bytealg.MaxLen", "unicode/utf8.first", "unicode/utf8.acceptRanges"], apart := false, laid := [("unicode/utf8.acceptRanges", laid_unicode_utf8_acceptRanges), ("unicode/utf8.first", laid_unicode_utf8_first)], narrowed := true }
def FileCutsUptoSaid : Prop := fileCutsUptoRow.holds Tryz.pinned (OpenSpec.upto fileCutsSpec)

/-- 'carrellaw17.DirOpens', WHERE WHAT IT READS IS OF BULK AT MOST 1048576: true; the input reads as it did. -/
def dirOpensUptoRow : OpenClaim := { program := "ytbnnhffkbcekcaagreatdoor", sum := "c1a4dae76fcd1fdf1318614de90f871f93d3b956cc7278b25fd8dc14aba8fe55", func := "carrel/carrellaw17.DirOpens", spec := "dirOpens", inPlace := ["internal/bytealg.IndexByteString", "internal/bytealg.IndexString", "internal/bytealg.abigen_runtime_cmpstring", "slices.overlaps[carrel/dir.file]"], unfollowed := true, recurses := true, named := ["internal/bytealg.MaxLen", "unicode/utf8.first", "unicode/utf8.acceptRanges"], apart := false, laid := [("unicode/utf8.acceptRanges", laid_unicode_utf8_acceptRanges), ("unicode/utf8.first", laid_unicode_utf8_first)], narrowed := true }
def DirOpensUptoSaid : Prop := dirOpensUptoRow.holds Tryz.pinned (OpenSpec.upto dirOpensSpec)

/-- 'carrellaw17.DirAgain', WHERE WHAT IT READS IS OF BULK AT MOST 1048576: true; the input reads as it did. -/
def dirAgainUptoRow : OpenClaim := { program := "ytbnnhffkbcekcaagreatdoor", sum := "c1a4dae76fcd1fdf1318614de90f871f93d3b956cc7278b25fd8dc14aba8fe55", func := "carrel/carrellaw17.DirAgain", spec := "dirAgain", inPlace := ["internal/bytealg.IndexByteString", "internal/bytealg.IndexString", "internal/bytealg.abigen_runtime_cmpstring", "slices.overlaps[carrel/dir.file]"], unfollowed := true, recurses := true, named := ["internal/bytealg.MaxLen", "unicode/utf8.first", "unicode/utf8.acceptRanges"], apart := false, laid := [("unicode/utf8.acceptRanges", laid_unicode_utf8_acceptRanges), ("unicode/utf8.first", laid_unicode_utf8_first)], narrowed := true }
def DirAgainUptoSaid : Prop := dirAgainUptoRow.holds Tryz.pinned (OpenSpec.upto dirAgainSpec)

/-- 'carrellaw17.DirFrees', WHERE WHAT IT READS IS OF BULK AT MOST 1048576: true; the input reads as it did. -/
def dirFreesUptoRow : OpenClaim := { program := "ytbnnhffkbcekcaagreatdoor", sum := "c1a4dae76fcd1fdf1318614de90f871f93d3b956cc7278b25fd8dc14aba8fe55", func := "carrel/carrellaw17.DirFrees", spec := "dirFrees", inPlace := ["internal/bytealg.IndexByteString", "internal/bytealg.IndexString", "internal/bytealg.abigen_runtime_cmpstring", "slices.overlaps[carrel/dir.file]"], unfollowed := true, recurses := true, named := ["internal/bytealg.MaxLen", "unicode/utf8.first", "unicode/utf8.acceptRanges"], apart := false, laid := [("unicode/utf8.acceptRanges", laid_unicode_utf8_acceptRanges), ("unicode/utf8.first", laid_unicode_utf8_first)], narrowed := true }
def DirFreesUptoSaid : Prop := dirFreesUptoRow.holds Tryz.pinned (OpenSpec.upto dirFreesSpec)

/-- 'carrellaw17.DirNone', WHERE WHAT IT READS IS OF BULK AT MOST 1048576: true; the input reads as it did. -/
def dirNoneUptoRow : OpenClaim := { program := "ytbnnhffkbcekcaagreatdoor", sum := "c1a4dae76fcd1fdf1318614de90f871f93d3b956cc7278b25fd8dc14aba8fe55", func := "carrel/carrellaw17.DirNone", spec := "dirNone", inPlace := ["internal/bytealg.IndexByteString", "internal/bytealg.IndexString", "internal/bytealg.abigen_runtime_cmpstring", "slices.overlaps[carrel/dir.file]"], unfollowed := true, recurses := true, named := ["internal/bytealg.MaxLen", "unicode/utf8.first", "unicode/utf8.acceptRanges"], apart := false, laid := [("unicode/utf8.acceptRanges", laid_unicode_utf8_acceptRanges), ("unicode/utf8.first", laid_unicode_utf8_first)], narrowed := true }
def DirNoneUptoSaid : Prop := dirNoneUptoRow.holds Tryz.pinned (OpenSpec.upto dirNoneSpec)

/-- 'carrellaw17.DirDoes', WHERE WHAT IT READS IS OF BULK AT MOST 1048576: true; the input reads as it did. -/
def dirDoesUptoRow : OpenClaim := { program := "ytbnnhffkbcekcaagreatdoor", sum := "c1a4dae76fcd1fdf1318614de90f871f93d3b956cc7278b25fd8dc14aba8fe55", func := "carrel/carrellaw17.DirDoes", spec := "dirDoes", inPlace := ["internal/bytealg.IndexByteString", "internal/bytealg.IndexString", "internal/bytealg.abigen_runtime_cmpstring", "slices.overlaps[carrel/dir.file]"], unfollowed := true, recurses := true, named := ["internal/bytealg.MaxLen", "unicode/utf8.first", "unicode/utf8.acceptRanges"], apart := false, laid := [("unicode/utf8.acceptRanges", laid_unicode_utf8_acceptRanges), ("unicode/utf8.first", laid_unicode_utf8_first)], narrowed := true }
def DirDoesUptoSaid : Prop := dirDoesUptoRow.holds Tryz.pinned (OpenSpec.upto dirDoesSpec)

/-- 'carrellaw17.DirCuts', WHERE WHAT IT READS IS OF BULK AT MOST 1048576: true; the input reads as it did. -/
def dirCutsUptoRow : OpenClaim := { program := "ytbnnhffkbcekcaagreatdoor", sum := "c1a4dae76fcd1fdf1318614de90f871f93d3b956cc7278b25fd8dc14aba8fe55", func := "carrel/carrellaw17.DirCuts", spec := "dirCuts", inPlace := ["internal/bytealg.IndexByteString", "internal/bytealg.IndexString", "internal/bytealg.abigen_runtime_cmpstring", "slices.overlaps[carrel/dir.file]"], unfollowed := true, recurses := true, named := ["internal/bytealg.MaxLen", "unicode/utf8.first", "unicode/utf8.acceptRanges"], apart := false, laid := [("unicode/utf8.acceptRanges", laid_unicode_utf8_acceptRanges), ("unicode/utf8.first", laid_unicode_utf8_first)], narrowed := true }
def DirCutsUptoSaid : Prop := dirCutsUptoRow.holds Tryz.pinned (OpenSpec.upto dirCutsSpec)

/-- 'carrellaw18.FileDoes', WHERE WHAT IT READS IS OF BULK AT MOST 1048576: true; the input reads as it did. -/
def fileDoesUptoRow : OpenClaim := { program := "ytbnnhffkbcekcaagreatdoor", sum := "c1a4dae76fcd1fdf1318614de90f871f93d3b956cc7278b25fd8dc14aba8fe55", func := "carrel/carrellaw18.FileDoes", spec := "fileDoes", inPlace := ["internal/bytealg.IndexByteString", "internal/bytealg.IndexString", "internal/bytealg.abigen_runtime_cmpstring", "slices.overlaps[carrel/dir.file]", "internal/abi.NoEscape"], unfollowed := true, recurses := true, named := ["internal/bytealg.MaxLen", "unicode/utf8.first", "unicode/utf8.acceptRanges"], apart := false, laid := [("unicode/utf8.acceptRanges", laid_unicode_utf8_acceptRanges), ("unicode/utf8.first", laid_unicode_utf8_first)], narrowed := true }
def FileDoesUptoSaid : Prop := fileDoesUptoRow.holds Tryz.pinned (OpenSpec.upto fileDoesSpec)

end Rows
end Go.Proofs.YtbnnhffkbcekcaaGreatDoor
