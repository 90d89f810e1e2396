/-
  No cell of these rows narrows 'for every input' (looked for: loops, veiled, ifaces, maps, wideKeys, modest, calm, conditions, laid).
  DERIVED. THE GIVEN ROWS OF THIS SEAT. 5 by the template 'for every input the law returns true; each argument reads behind the call as it read before'; 0 by the template 'total and deterministic' (their statements: YtkglmlfkcmpbbaaTotals.lean).
  GIVEN WITH THE SEED: the statements are not yours to turn. If you find one false, say at which input.
  Laid BY PROGRAM, IN A SANDBOX (cutbox-rows.mjs): the forced cells as the released guide's own fill.sh prints them over the translation 7afefeb6421f9edb… (all of the seat's roots in one cut). By AI agents, Wed Nov 11 2026. No macro, syntax, notation, axiom, sorry.
-/
import Derived.Test.YtkglmlfkcmpbbaaChecked
import GoSem.Claim
import GoSem.ClaimJoined
import GoSem.ClaimMapViews
import Derived.JoinedTies
import Derived.KernelRfl
namespace Go.Proofs.Ytkglmlfkcmpbbaa
/- THE CELL 'sum', in the pinned program and in every row, IS THE sha256 OF THE DUMP (.gsa) THAT YtkglmlfkcmpbbaaProg.lean LOADS. Nothing in Lean hashes anything: it is a label: what it is worth is what the hold of that sum in a sandbox is worth. -/
noncomputable def Try.pinned : Pinned := { name := "ytkglmlfkcmpbbaa", sum := "7afefeb6421f9edb49ee1c32bbb39bc4b7705c84948d52809ccb0e5fb5c2399f", checked := Try.checked }
namespace Rows
def none {H : Type} : Left H := { results := [], args := [] }

/-- 'carrellaw17.DirNames': WHATEVER THE INPUT: true; the input reads as it did. -/
def dirNamesSpec : ChangeSpec := { name := "dirNames", fn := fun _ => fun
  | [d] => { results := [.lit (.bool true)], args := [d] }
  | _ => none }
def dirNamesRow : OpenClaim := { program := "ytkglmlfkcmpbbaa", sum := "7afefeb6421f9edb49ee1c32bbb39bc4b7705c84948d52809ccb0e5fb5c2399f", func := "carrel/carrellaw17.DirNames", spec := "dirNames", apart := false }
def DirNamesSaid : Prop := dirNamesRow.holds Try.pinned (OpenSpec.ofChange dirNamesSpec)

/-- ITS FALSE NEIGHBOUR: 'it returns false'. Refute it at one input. -/
def dirNamesWrong : ChangeSpec := { name := "dirNames", fn := fun _ => fun
  | [d] => { results := [.lit (.bool false)], args := [d] }
  | _ => none }
def DirNamesWrongFalsely : Prop := dirNamesRow.holds Try.pinned (OpenSpec.ofChange dirNamesWrong)

/-- 'carrellaw08.ScanNames': WHATEVER THE INPUT: true; the input reads as it did. -/
def scanNamesSpec : ChangeSpec := { name := "scanNames", fn := fun _ => fun
  | [d] => { results := [.lit (.bool true)], args := [d] }
  | _ => none }
def scanNamesRow : OpenClaim := { program := "ytkglmlfkcmpbbaa", sum := "7afefeb6421f9edb49ee1c32bbb39bc4b7705c84948d52809ccb0e5fb5c2399f", func := "carrel/carrellaw08.ScanNames", spec := "scanNames", apart := false }
def ScanNamesSaid : Prop := scanNamesRow.holds Try.pinned (OpenSpec.ofChange scanNamesSpec)

/-- ITS FALSE NEIGHBOUR: 'it returns false'. Refute it at one input. -/
def scanNamesWrong : ChangeSpec := { name := "scanNames", fn := fun _ => fun
  | [d] => { results := [.lit (.bool false)], args := [d] }
  | _ => none }
def ScanNamesWrongFalsely : Prop := scanNamesRow.holds Try.pinned (OpenSpec.ofChange scanNamesWrong)

/-- 'carrellaw19.LineParses': WHATEVER THE INPUT: true; the input reads as it did. -/
def lineParsesSpec : ChangeSpec := { name := "lineParses", fn := fun _ => fun
  | [d] => { results := [.lit (.bool true)], args := [d] }
  | _ => none }
def lineParsesRow : OpenClaim := { program := "ytkglmlfkcmpbbaa", sum := "7afefeb6421f9edb49ee1c32bbb39bc4b7705c84948d52809ccb0e5fb5c2399f", func := "carrel/carrellaw19.LineParses", spec := "lineParses", apart := false }
def LineParsesSaid : Prop := lineParsesRow.holds Try.pinned (OpenSpec.ofChange lineParsesSpec)

/-- ITS FALSE NEIGHBOUR: 'it returns false'. Refute it at one input. -/
def lineParsesWrong : ChangeSpec := { name := "lineParses", fn := fun _ => fun
  | [d] => { results := [.lit (.bool false)], args := [d] }
  | _ => none }
def LineParsesWrongFalsely : Prop := lineParsesRow.holds Try.pinned (OpenSpec.ofChange lineParsesWrong)

/-- 'carrellaw19.LineBlanks': WHATEVER THE INPUT: true; the input reads as it did. -/
def lineBlanksSpec : ChangeSpec := { name := "lineBlanks", fn := fun _ => fun
  | [d1, d2] => { results := [.lit (.bool true)], args := [d1, d2] }
  | _ => none }
def lineBlanksRow : OpenClaim := { program := "ytkglmlfkcmpbbaa", sum := "7afefeb6421f9edb49ee1c32bbb39bc4b7705c84948d52809ccb0e5fb5c2399f", func := "carrel/carrellaw19.LineBlanks", spec := "lineBlanks", apart := false }
def LineBlanksSaid : Prop := lineBlanksRow.holds Try.pinned (OpenSpec.ofChange lineBlanksSpec)

/-- ITS FALSE NEIGHBOUR: 'it returns false'. Refute it at one input. -/
def lineBlanksWrong : ChangeSpec := { name := "lineBlanks", fn := fun _ => fun
  | [d1, d2] => { results := [.lit (.bool false)], args := [d1, d2] }
  | _ => none }
def LineBlanksWrongFalsely : Prop := lineBlanksRow.holds Try.pinned (OpenSpec.ofChange lineBlanksWrong)

/-- 'carrellaw19.LineAsks': WHATEVER THE INPUT: true; the input reads as it did. -/
def lineAsksSpec : ChangeSpec := { name := "lineAsks", fn := fun _ => fun
  | [d1, d2] => { results := [.lit (.bool true)], args := [d1, d2] }
  | _ => none }
def lineAsksRow : OpenClaim := { program := "ytkglmlfkcmpbbaa", sum := "7afefeb6421f9edb49ee1c32bbb39bc4b7705c84948d52809ccb0e5fb5c2399f", func := "carrel/carrellaw19.LineAsks", spec := "lineAsks", unfollowed := true, recurses := true, apart := false }
def LineAsksSaid : Prop := lineAsksRow.holds Try.pinned (OpenSpec.ofChange lineAsksSpec)

/-- ITS FALSE NEIGHBOUR: 'it returns false'. Refute it at one input. -/
def lineAsksWrong : ChangeSpec := { name := "lineAsks", fn := fun _ => fun
  | [d1, d2] => { results := [.lit (.bool false)], args := [d1, d2] }
  | _ => none }
def LineAsksWrongFalsely : Prop := lineAsksRow.holds Try.pinned (OpenSpec.ofChange lineAsksWrong)

/- THE SECOND FORM. 'bulk': how many values and letters a reading holds, each counted each time it is reached (what is shared counts as often as it is met; a slice's spare places count too). A statement '..UptoSaid' is the law's where the arguments, and the package variables that the reading takes, are together of bulk at most 1048576: NARROWER than '..Said'. Prove '..Said' where nothing that the law and all that it calls make is longer than what came in: it says more and counts as full. Else prove '..UptoSaid'. A law counts once. -/
mutual
def uptoBulk {H : Type} : DataW H → Nat
  | .lit (.string bytes) => bytes.length + 1
  | .lit _ => 1
  | .nil => 1
  | .ptr d => uptoBulk d + 1
  | .slice elems spare => uptoBulkAll elems + uptoBulkAll spare + 1
  | .agg parts => uptoBulkAll parts + 1
  | .iface _ d => uptoBulk d + 1
  | .map entries => uptoBulkEntries entries + 1
  | .held _ => 1
def uptoBulkAll {H : Type} : List (DataW H) → Nat
  | [] => 0
  | d :: r => uptoBulk d + uptoBulkAll r
def uptoBulkEntries {H : Type} : List (Lit × DataW H) → Nat
  | [] => 0
  | x :: r => uptoBulkEntry x + uptoBulkEntries r
def uptoBulkEntry {H : Type} : Lit × DataW H → Nat
  | (.string bytes, d) => bytes.length + uptoBulk d + 1
  | (_, d) => uptoBulk d + 1
 end
def uptoSmall : (H : Type) → List (DataW H) → Bool := fun _ ds => decide (uptoBulkAll ds ≤ 1048576)
def OpenSpec.upto (s : _root_.Go.ChangeSpec) : _root_.Go.OpenSpec := { _root_.Go.OpenSpec.ofChange s with cond := some uptoSmall }

/-- 'carrellaw17.DirNames', WHERE WHAT IT READS IS OF BULK AT MOST 1048576: true; the input reads as it did. -/
def dirNamesUptoRow : OpenClaim := { program := "ytkglmlfkcmpbbaa", sum := "7afefeb6421f9edb49ee1c32bbb39bc4b7705c84948d52809ccb0e5fb5c2399f", func := "carrel/carrellaw17.DirNames", spec := "dirNames", apart := false, narrowed := true }
def DirNamesUptoSaid : Prop := dirNamesUptoRow.holds Try.pinned (OpenSpec.upto dirNamesSpec)

/-- 'carrellaw08.ScanNames', WHERE WHAT IT READS IS OF BULK AT MOST 1048576: true; the input reads as it did. -/
def scanNamesUptoRow : OpenClaim := { program := "ytkglmlfkcmpbbaa", sum := "7afefeb6421f9edb49ee1c32bbb39bc4b7705c84948d52809ccb0e5fb5c2399f", func := "carrel/carrellaw08.ScanNames", spec := "scanNames", apart := false, narrowed := true }
def ScanNamesUptoSaid : Prop := scanNamesUptoRow.holds Try.pinned (OpenSpec.upto scanNamesSpec)

/-- 'carrellaw19.LineParses', WHERE WHAT IT READS IS OF BULK AT MOST 1048576: true; the input reads as it did. -/
def lineParsesUptoRow : OpenClaim := { program := "ytkglmlfkcmpbbaa", sum := "7afefeb6421f9edb49ee1c32bbb39bc4b7705c84948d52809ccb0e5fb5c2399f", func := "carrel/carrellaw19.LineParses", spec := "lineParses", apart := false, narrowed := true }
def LineParsesUptoSaid : Prop := lineParsesUptoRow.holds Try.pinned (OpenSpec.upto lineParsesSpec)

/-- 'carrellaw19.LineBlanks', WHERE WHAT IT READS IS OF BULK AT MOST 1048576: true; the input reads as it did. -/
def lineBlanksUptoRow : OpenClaim := { program := "ytkglmlfkcmpbbaa", sum := "7afefeb6421f9edb49ee1c32bbb39bc4b7705c84948d52809ccb0e5fb5c2399f", func := "carrel/carrellaw19.LineBlanks", spec := "lineBlanks", apart := false, narrowed := true }
def LineBlanksUptoSaid : Prop := lineBlanksUptoRow.holds Try.pinned (OpenSpec.upto lineBlanksSpec)

/-- 'carrellaw19.LineAsks', WHERE WHAT IT READS IS OF BULK AT MOST 1048576: true; the input reads as it did. -/
def lineAsksUptoRow : OpenClaim := { program := "ytkglmlfkcmpbbaa", sum := "7afefeb6421f9edb49ee1c32bbb39bc4b7705c84948d52809ccb0e5fb5c2399f", func := "carrel/carrellaw19.LineAsks", spec := "lineAsks", unfollowed := true, recurses := true, apart := false, narrowed := true }
def LineAsksUptoSaid : Prop := lineAsksUptoRow.holds Try.pinned (OpenSpec.upto lineAsksSpec)

end Rows
end Go.Proofs.Ytkglmlfkcmpbbaa
