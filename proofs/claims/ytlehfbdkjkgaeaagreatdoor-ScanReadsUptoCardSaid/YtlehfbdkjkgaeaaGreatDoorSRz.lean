/- ScanReads: every All is the document's, and what came out is its owner's. The condition: what comes in holds at most 1048576 values and letters; package-level variables start as the program's text lays them. -/
import Derived.Test.YtlehfbdkjkgaeaaGreatDoorSR
import Derived.Test.YtlehfbdkjkgaeaaGreatDoorEng24
import Derived.Test.YtlehfbdkjkgaeaaGreatDoorUp
import Derived.Test.YtlehfbdkjkgaeaaGreatDoorCards
import Derived.Test.YtlehfbdkjkgaeaaGreatDoorTie
import Derived.ProofKit
import Derived.JoinedCond
import Derived.Deep.DeepWitnessRowRef
import Derived.MakeChecks
import Derived.Lay
namespace Go.Proofs.YtlehfbdkjkgaeaaGreatDoor.scanDone
open Go Go.Eng Go.Proofs Go.Scan
set_option linter.unusedVariables false
set_option linter.unusedSimpArgs false
set_option maxRecDepth 100000
set_option maxHeartbeats 4000000
theorem own : ownKnob Tryz.prog.godebug = none := by kernel_rfl
theorem laidOut : laidOutB Tryz.prog = true := by kernel_rfl
theorem glob3 {W : World} (h : laidMet Tryz.prog Rows.scanReadsUptoRow.laid W) : GOK (pinW W).pobj := by
  have e1 := glob_of_laid (g := 4) (ti := 69) h.tail.tail.tail.tail (by kernel_rfl) (by kernel_rfl) Tryz.underlying69
  have e2 := glob_of_laid (g := 3) (ti := 69) h.tail.tail.tail.tail.tail (by kernel_rfl) (by kernel_rfl) Tryz.underlying69
  refine ⟨fun g hg => ?_, fun q hq => by cases hq⟩
  simp only [gIface, List.mem_cons, List.not_mem_nil, or_false] at hg
  rcases hg with rfl | rfl
  · exact e2
  · exact e1
noncomputable abbrev szE : Env := addE saE 6 S6o
theorem szE_ok : EnvOk Tryz.prog szE := saE_ok.add (con6o saE_ok)
theorem body3 (xs : List Dv) (h : Dv.hasL [.sl .str] xs) (hb : Dv.vbL xs ≤ 1048576) : ∃ L', BodyOk Tryz.prog szE Tryz.f3 (xs.map Dv.av) [] (.bool true) L' := by
  obtain ⟨x0, xs, rfl, h0, h⟩ := hasL_cons h
  obtain rfl := hasL_nil h
  obtain ⟨S, hS, _, _, hl, hn⟩ := has_strs h0
  simp only [Dv.vbL] at hb
  refine ⟨[], ?_⟩
  simp only [List.map_cons, List.map_nil]
  rw [hS]
  refine law3 szE rfl rfl rfl rfl S (fun k hk => ?_) (by omega)
  have := hn (S.getD k default) (by simp [List.getD, hk])
  omega
noncomputable def laidW3 (os : Os) : World := World.laidAll Tryz.prog os Rows.scanReadsUptoRow.laid
theorem laid_met3 (os : Os) (args : Array Value) : laidMetH Tryz.prog Rows.scanReadsUptoRow.laid ((laidW3 os).forCall (fun _ _ => 0) ⟨#[], args, []⟩).memory := by
  rw [MakeChecks.laidMetH_plain _ _ _ (by kernel_rfl)]
  exact laidMet_laidAll _ (by kernel_rfl) (by kernel_rfl)
theorem witness_row3 {H : Type} (os : Os) (enc : TypeId × Value → H) :
    (Rows.OpenSpec.upto Rows.scanReadsSpec).preRow enc Tryz.prog Tryz.f3 Rows.scanReadsUptoRow.domain false Rows.scanReadsUptoRow.laid ((laidW3 os).forCall (fun _ _ => 0) ⟨#[], #[.slice none 0 0], []⟩).memory #[.slice none 0 0] :=
  OpenSpec.preRow_of_cond 8 (x := ([.nil], [], [])) (by kernel_rfl) (by kernel_rfl) (fun k hk => by cases hk; rfl) (by kernel_rfl) (laid_met3 os _)
theorem lifted3 (os : Os) (started : os.Started) (H : Type) (enc : TypeId × Value → H) (F : Stop.Interp) :
    ReturnsInHanded {} Tryz.checked os 3 .any ((Rows.OpenSpec.upto Rows.scanReadsSpec).preRow enc Tryz.prog Tryz.f3 Rows.scanReadsUptoRow.domain false Rows.scanReadsUptoRow.laid) (((Rows.OpenSpec.upto Rows.scanReadsSpec).at F).post enc Tryz.prog Tryz.f3 false true false false) := by
  refine returnsInHanded_of_row (C := Tryz.checked) (s := Rows.OpenSpec.upto Rows.scanReadsSpec) own started (by kernel_rfl) Tryz.func3
    (witness_row_atRef (enc := enc) (C := Tryz.checked) false (laidW3 os) #[.slice none 0 0] (World.laidAll_os _ _ _) (by kernel_rfl) (by kernel_rfl) (by kernel_rfl) (witness_row3 os enc)) ?_
  intro W base args ds gs before hval hW _ hk _ hlaid _ _
  have hds : gs = [] ∧ ∃ d1, ds = [d1] := by
    obtain ⟨p, q, hA, hV, _⟩ := hW
    obtain ⟨rfl, _⟩ := ChangeShapes.trodVars_none hV
    rw [Tryz.params3] at hA
    obtain ⟨_, _, d1, _, _, _, _, rfl, _, _, hA⟩ := ChangeShapes.trodAll_cons hA
    obtain ⟨_, rfl, _⟩ := ChangeShapes.trodAll_nil hA
    exact ⟨rfl, d1, rfl⟩
  obtain ⟨rfl, d1, rfl⟩ := hds
  rw [MakeChecks.laidMetH_plain _ _ _ (by kernel_rfl)] at hlaid
  exact law_contract szE_ok (f := 3) (fn := Tryz.f3) (by kernel_rfl) laidOut (s := Rows.scanReadsSpec) rfl (ss := [.sl .str]) (by kernel_rfl) (tb := 4) rfl Tryz.underlying4 (· ≤ 1048576) (fun a b h1 h2 => Nat.le_trans h1 h2) body3 rfl hval hW (Up.small (by simpa using hk _ rfl)) (glob3 hlaid)
theorem provedScanReads : Rows.ScanReadsUptoSaid :=
  OpenClaim.holds_of_cond 3 Tryz.f3 rfl rfl rfl rfl rfl rfl rfl ⟨rfl, rfl, rfl, rfl, rfl⟩ rfl rfl rfl rfl rfl (by kernel_rfl) Tryz.func3 (by kernel_rfl)
    (of_decide_eq_true (by kernel_rfl)) (by unfold Func.isWrapper; first | (rw [if_pos (by decide +kernel)]; kernel_rfl) | (rw [if_neg (by decide +kernel)]; exact ⟨rfl, rfl⟩))
    (fun os started H enc _ F => by rw [OpenClaim.pre_eq_preRow]; exact lifted3 os started H enc F)
theorem plain3 (f : FuncId) (fn : Func) (hf : Tryz.pinned.checked.prog.funcNamed Rows.scanReadsUptoRow.func = some f) (hfn : Tryz.pinned.checked.prog.funcs[f]? = some fn) :
    true = Tryz.pinned.checked.prog.looks [] ∧ ∀ (j : Nat) t, fn.params[j]? = some t → Tryz.pinned.checked.prog.wantsStandIn t = false := by
  obtain rfl : f = 3 := Option.some.inj ((show Tryz.prog.funcNamed Rows.scanReadsUptoRow.func = some 3 by kernel_rfl).symm.trans hf) |>.symm
  obtain rfl : fn = Tryz.f3 := (Option.some.inj (Tryz.func3.symm.trans hfn)).symm
  refine ⟨by kernel_rfl, fun j t ht => ?_⟩
  rw [Tryz.params3] at ht
  obtain rfl : t = 22 := by simpa using Array.mem_of_getElem? ht
  exact (show Tryz.prog.wantsStandIn 22 = false by kernel_rfl)
theorem cardScanReads : Rows.ScanReadsUptoCardSaid :=
  Claim7.holds_tied_plain_at .later [] _ _ _ _ provedScanReads (fun _ h => by cases h) (by kernel_rfl) (fun _ h => by cases h) scanReadsUpto_row_tie rfl ⟨rfl, rfl⟩ (by kernel_rfl) rfl plain3 (by kernel_rfl)
end Go.Proofs.YtlehfbdkjkgaeaaGreatDoor.scanDone
