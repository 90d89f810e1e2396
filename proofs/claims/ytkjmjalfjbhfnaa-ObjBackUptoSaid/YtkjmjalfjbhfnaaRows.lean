/-
  No cell of these rows narrows 'for every input' (looked for: loops, veiled, ifaces, maps, wideKeys, modest, calm, conditions, laid).
  DERIVED. THE GIVEN ROWS OF THIS SEAT. 4 by the template 'for every input the law returns true; each argument reads behind the call as it read before'; 0 by the template 'total and deterministic' (their statements: YtkjmjalfjbhfnaaTotals.lean).
  GIVEN WITH THE SEED: the statements are not yours to turn. If you find one false, say at which input.
  Laid BY PROGRAM, IN A SANDBOX (cutbox-rows.mjs): the forced cells as the released guide's own fill.sh prints them over the translation 85765bc019911fec… (all of the seat's roots in one cut). By AI agents, Wed Nov 11 2026. No macro, syntax, notation, axiom, sorry.
-/
import Derived.Test.YtkjmjalfjbhfnaaChecked
import GoSem.Claim
import GoSem.ClaimJoined
import GoSem.ClaimMapViews
import Derived.JoinedTies
import Derived.KernelRfl
namespace Go.Proofs.Ytkjmjalfjbhfnaa
/- THE CELL 'sum', in the pinned program and in every row, IS THE sha256 OF THE DUMP (.gsa) THAT YtkjmjalfjbhfnaaProg.lean LOADS. Nothing in Lean hashes anything: it is a label: what it is worth is what the hold of that sum in a sandbox is worth. -/
noncomputable def Try.pinned : Pinned := { name := "ytkjmjalfjbhfnaa", sum := "85765bc019911fec24cb87fcdaea73627adb5b557a9e4c10f953a9680abf637d", checked := Try.checked }
namespace Rows
def none {H : Type} : Left H := { results := [], args := [] }

/-- 'carrellaw07.ObjNumbers': WHATEVER THE INPUT: true; the input reads as it did. -/
def objNumbersSpec : ChangeSpec := { name := "objNumbers", fn := fun _ => fun
  | [d1, d2, d3, d4, d5] => { results := [.lit (.bool true)], args := [d1, d2, d3, d4, d5] }
  | _ => none }
def objNumbersRow : OpenClaim := { program := "ytkjmjalfjbhfnaa", sum := "85765bc019911fec24cb87fcdaea73627adb5b557a9e4c10f953a9680abf637d", func := "carrel/carrellaw07.ObjNumbers", spec := "objNumbers", apart := false }
def ObjNumbersSaid : Prop := objNumbersRow.holds Try.pinned (OpenSpec.ofChange objNumbersSpec)

/-- ITS FALSE NEIGHBOUR: 'it returns false'. Refute it at one input. -/
def objNumbersWrong : ChangeSpec := { name := "objNumbers", fn := fun _ => fun
  | [d1, d2, d3, d4, d5] => { results := [.lit (.bool false)], args := [d1, d2, d3, d4, d5] }
  | _ => none }
def ObjNumbersWrongFalsely : Prop := objNumbersRow.holds Try.pinned (OpenSpec.ofChange objNumbersWrong)

/-- 'carrellaw07.ObjBytes': WHATEVER THE INPUT: true; the input reads as it did. -/
def objBytesSpec : ChangeSpec := { name := "objBytes", fn := fun _ => fun
  | [d] => { results := [.lit (.bool true)], args := [d] }
  | _ => none }
def objBytesRow : OpenClaim := { program := "ytkjmjalfjbhfnaa", sum := "85765bc019911fec24cb87fcdaea73627adb5b557a9e4c10f953a9680abf637d", func := "carrel/carrellaw07.ObjBytes", spec := "objBytes", unfollowed := true, recurses := true, apart := false }
def ObjBytesSaid : Prop := objBytesRow.holds Try.pinned (OpenSpec.ofChange objBytesSpec)

/-- ITS FALSE NEIGHBOUR: 'it returns false'. Refute it at one input. -/
def objBytesWrong : ChangeSpec := { name := "objBytes", fn := fun _ => fun
  | [d] => { results := [.lit (.bool false)], args := [d] }
  | _ => none }
def ObjBytesWrongFalsely : Prop := objBytesRow.holds Try.pinned (OpenSpec.ofChange objBytesWrong)

/-- 'carrellaw07.ObjOneForm': WHATEVER THE INPUT: true; the input reads as it did. -/
def objOneFormSpec : ChangeSpec := { name := "objOneForm", fn := fun _ => fun
  | [d] => { results := [.lit (.bool true)], args := [d] }
  | _ => none }
def objOneFormRow : OpenClaim := { program := "ytkjmjalfjbhfnaa", sum := "85765bc019911fec24cb87fcdaea73627adb5b557a9e4c10f953a9680abf637d", func := "carrel/carrellaw07.ObjOneForm", spec := "objOneForm", unfollowed := true, recurses := true, apart := false }
def ObjOneFormSaid : Prop := objOneFormRow.holds Try.pinned (OpenSpec.ofChange objOneFormSpec)

/-- ITS FALSE NEIGHBOUR: 'it returns false'. Refute it at one input. -/
def objOneFormWrong : ChangeSpec := { name := "objOneForm", fn := fun _ => fun
  | [d] => { results := [.lit (.bool false)], args := [d] }
  | _ => none }
def ObjOneFormWrongFalsely : Prop := objOneFormRow.holds Try.pinned (OpenSpec.ofChange objOneFormWrong)

/-- 'carrellaw07.ObjBack': WHATEVER THE INPUT: true; the input reads as it did. -/
def objBackSpec : ChangeSpec := { name := "objBack", fn := fun _ => fun
  | [d1, d2] => { results := [.lit (.bool true)], args := [d1, d2] }
  | _ => none }
def objBackRow : OpenClaim := { program := "ytkjmjalfjbhfnaa", sum := "85765bc019911fec24cb87fcdaea73627adb5b557a9e4c10f953a9680abf637d", func := "carrel/carrellaw07.ObjBack", spec := "objBack", unfollowed := true, recurses := true, apart := false }
def ObjBackSaid : Prop := objBackRow.holds Try.pinned (OpenSpec.ofChange objBackSpec)

/-- ITS FALSE NEIGHBOUR: 'it returns false'. Refute it at one input. -/
def objBackWrong : ChangeSpec := { name := "objBack", fn := fun _ => fun
  | [d1, d2] => { results := [.lit (.bool false)], args := [d1, d2] }
  | _ => none }
def ObjBackWrongFalsely : Prop := objBackRow.holds Try.pinned (OpenSpec.ofChange objBackWrong)

/- THE SECOND FORM. 'bulk': how many values and letters a reading holds, each counted each time it is reached (what is shared counts as often as it is met; a slice's spare places count too). A statement '..UptoSaid' is the law's where the arguments, and the package variables that the reading takes, are together of bulk at most 1048576: NARROWER than '..Said'. Prove '..Said' where nothing that the law and all that it calls make is longer than what came in: it says more and counts as full. Else prove '..UptoSaid'. A law counts once. -/
mutual
def uptoBulk {H : Type} : DataW H → Nat
  | .lit (.string bytes) => bytes.length + 1
  | .lit _ => 1
  | .nil => 1
  | .ptr d => uptoBulk d + 1
  | .slice elems spare => uptoBulkAll elems + uptoBulkAll spare + 1
  | .agg parts => uptoBulkAll parts + 1
  | .iface _ d => uptoBulk d + 1
  | .map entries => uptoBulkEntries entries + 1
  | .held _ => 1
def uptoBulkAll {H : Type} : List (DataW H) → Nat
  | [] => 0
  | d :: r => uptoBulk d + uptoBulkAll r
def uptoBulkEntries {H : Type} : List (Lit × DataW H) → Nat
  | [] => 0
  | x :: r => uptoBulkEntry x + uptoBulkEntries r
def uptoBulkEntry {H : Type} : Lit × DataW H → Nat
  | (.string bytes, d) => bytes.length + uptoBulk d + 1
  | (_, d) => uptoBulk d + 1
 end
def uptoSmall : (H : Type) → List (DataW H) → Bool := fun _ ds => decide (uptoBulkAll ds ≤ 1048576)
def OpenSpec.upto (s : _root_.Go.ChangeSpec) : _root_.Go.OpenSpec := { _root_.Go.OpenSpec.ofChange s with cond := some uptoSmall }

/-- 'carrellaw07.ObjNumbers', WHERE WHAT IT READS IS OF BULK AT MOST 1048576: true; the input reads as it did. -/
def objNumbersUptoRow : OpenClaim := { program := "ytkjmjalfjbhfnaa", sum := "85765bc019911fec24cb87fcdaea73627adb5b557a9e4c10f953a9680abf637d", func := "carrel/carrellaw07.ObjNumbers", spec := "objNumbers", apart := false, narrowed := true }
def ObjNumbersUptoSaid : Prop := objNumbersUptoRow.holds Try.pinned (OpenSpec.upto objNumbersSpec)

/-- 'carrellaw07.ObjBytes', WHERE WHAT IT READS IS OF BULK AT MOST 1048576: true; the input reads as it did. -/
def objBytesUptoRow : OpenClaim := { program := "ytkjmjalfjbhfnaa", sum := "85765bc019911fec24cb87fcdaea73627adb5b557a9e4c10f953a9680abf637d", func := "carrel/carrellaw07.ObjBytes", spec := "objBytes", unfollowed := true, recurses := true, apart := false, narrowed := true }
def ObjBytesUptoSaid : Prop := objBytesUptoRow.holds Try.pinned (OpenSpec.upto objBytesSpec)

/-- 'carrellaw07.ObjOneForm', WHERE WHAT IT READS IS OF BULK AT MOST 1048576: true; the input reads as it did. -/
def objOneFormUptoRow : OpenClaim := { program := "ytkjmjalfjbhfnaa", sum := "85765bc019911fec24cb87fcdaea73627adb5b557a9e4c10f953a9680abf637d", func := "carrel/carrellaw07.ObjOneForm", spec := "objOneForm", unfollowed := true, recurses := true, apart := false, narrowed := true }
def ObjOneFormUptoSaid : Prop := objOneFormUptoRow.holds Try.pinned (OpenSpec.upto objOneFormSpec)

/-- 'carrellaw07.ObjBack', WHERE WHAT IT READS IS OF BULK AT MOST 1048576: true; the input reads as it did. -/
def objBackUptoRow : OpenClaim := { program := "ytkjmjalfjbhfnaa", sum := "85765bc019911fec24cb87fcdaea73627adb5b557a9e4c10f953a9680abf637d", func := "carrel/carrellaw07.ObjBack", spec := "objBack", unfollowed := true, recurses := true, apart := false, narrowed := true }
def ObjBackUptoSaid : Prop := objBackUptoRow.holds Try.pinned (OpenSpec.upto objBackSpec)

end Rows
end Go.Proofs.Ytkjmjalfjbhfnaa
