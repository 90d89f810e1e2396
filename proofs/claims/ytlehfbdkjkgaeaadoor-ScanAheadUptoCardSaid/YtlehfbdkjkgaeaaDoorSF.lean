/- ScanAhead: up to the place of a token, or of a fault, a source is read by itself. The condition: what comes in holds at most 1048576 values and letters; package-level variables start as the program's text lays them. -/
import Derived.Test.YtlehfbdkjkgaeaaDoorSE
import Derived.Test.YtlehfbdkjkgaeaaDoorEng24
import Derived.Test.YtlehfbdkjkgaeaaDoorUp
import Derived.Test.YtlehfbdkjkgaeaaDoorCards
import Derived.Test.YtlehfbdkjkgaeaaDoorTie
import Derived.ProofKit
import Derived.JoinedCond
import Derived.Deep.DeepWitnessRowRef
import Derived.MakeChecks
import Derived.Lay
namespace Go.Proofs.YtlehfbdkjkgaeaaDoor.scanDone
open Go Go.Eng Go.Proofs Go.Scan
set_option linter.unusedVariables false
set_option linter.unusedSimpArgs false
set_option maxRecDepth 100000
set_option maxHeartbeats 4000000
theorem own : ownKnob Tryd.prog.godebug = none := by kernel_rfl
theorem laidOut : laidOutB Tryd.prog = true := by kernel_rfl
theorem glob5 {W : World} (h : laidMet Tryd.prog Rows.scanAheadUptoRow.laid W) : GOK (pinW W).pobj := by
  have e1 := glob_of_laid (g := 4) (ti := 66) h.tail.tail.tail.tail (by kernel_rfl) (by kernel_rfl) Tryd.underlying66
  have e2 := glob_of_laid (g := 3) (ti := 66) h.tail.tail.tail.tail.tail (by kernel_rfl) (by kernel_rfl) Tryd.underlying66
  refine ⟨fun g hg => ?_, fun q hq => by cases hq⟩
  simp only [gIface, List.mem_cons, List.not_mem_nil, or_false] at hg
  rcases hg with rfl | rfl
  · exact e2
  · exact e1
theorem body5 (xs : List Dv) (h : Dv.hasL [.str] xs) (hb : Dv.vbL xs ≤ 1048576) : ∃ L', BodyOk Tryd.prog saE Tryd.f5 (xs.map Dv.av) [] (.bool true) L' := by
  obtain ⟨x0, xs, rfl, h0, h⟩ := hasL_cons h
  obtain rfl := hasL_nil h
  obtain ⟨s, rfl, _⟩ := has_str h0
  simp only [Dv.vbL, Dv.vb] at hb
  refine ⟨[], ?_⟩
  simp only [List.map_cons, List.map_nil]
  by_cases hok : okS s
  · exact law5b saE rfl rfl rfl s hok
  · exact law5a saE rfl rfl rfl s (by omega) hok
noncomputable def laidW5 (os : Os) : World := World.laidAll Tryd.prog os Rows.scanAheadUptoRow.laid
theorem laid_met5 (os : Os) (args : Array Value) : laidMetH Tryd.prog Rows.scanAheadUptoRow.laid ((laidW5 os).forCall (fun _ _ => 0) ⟨#[], args, []⟩).memory := by
  rw [MakeChecks.laidMetH_plain _ _ _ (by kernel_rfl)]
  exact laidMet_laidAll _ (by kernel_rfl) (by kernel_rfl)
theorem witness_row5 {H : Type} (os : Os) (enc : TypeId × Value → H) :
    (Rows.OpenSpec.upto Rows.scanAheadSpec).preRow enc Tryd.prog Tryd.f5 Rows.scanAheadUptoRow.domain false Rows.scanAheadUptoRow.laid ((laidW5 os).forCall (fun _ _ => 0) ⟨#[], #[.string .empty], []⟩).memory #[.string .empty] :=
  OpenSpec.preRow_of_cond 8 (x := ([.lit (.string [])], [], [])) (by kernel_rfl) (by kernel_rfl) (fun k hk => by cases hk; rfl) (by kernel_rfl) (laid_met5 os _)
theorem lifted5 (os : Os) (started : os.Started) (H : Type) (enc : TypeId × Value → H) (F : Stop.Interp) :
    ReturnsInHanded {} Tryd.checked os 5 .any ((Rows.OpenSpec.upto Rows.scanAheadSpec).preRow enc Tryd.prog Tryd.f5 Rows.scanAheadUptoRow.domain false Rows.scanAheadUptoRow.laid) (((Rows.OpenSpec.upto Rows.scanAheadSpec).at F).post enc Tryd.prog Tryd.f5 false true false false) := by
  refine returnsInHanded_of_row (C := Tryd.checked) (s := Rows.OpenSpec.upto Rows.scanAheadSpec) own started (by kernel_rfl) Tryd.func5
    (witness_row_atRef (enc := enc) (C := Tryd.checked) false (laidW5 os) #[.string .empty] (World.laidAll_os _ _ _) (by kernel_rfl) (by kernel_rfl) (by kernel_rfl) (witness_row5 os enc)) ?_
  intro W base args ds gs before hval hW _ hk _ hlaid _ _
  have hds : gs = [] ∧ ∃ d1, ds = [d1] := by
    obtain ⟨p, q, hA, hV, _⟩ := hW
    obtain ⟨rfl, _⟩ := ChangeShapes.trodVars_none hV
    rw [Tryd.params5] at hA
    obtain ⟨_, _, d1, _, _, _, _, rfl, _, _, hA⟩ := ChangeShapes.trodAll_cons hA
    obtain ⟨_, rfl, _⟩ := ChangeShapes.trodAll_nil hA
    exact ⟨rfl, d1, rfl⟩
  obtain ⟨rfl, d1, rfl⟩ := hds
  rw [MakeChecks.laidMetH_plain _ _ _ (by kernel_rfl)] at hlaid
  exact law_contract saE_ok (f := 5) (fn := Tryd.f5) (by kernel_rfl) laidOut (s := Rows.scanAheadSpec) rfl (ss := [.str]) (by kernel_rfl) (tb := 4) rfl Tryd.underlying4 (· ≤ 1048576) (fun a b h1 h2 => Nat.le_trans h1 h2) body5 rfl hval hW (Up.small (by simpa using hk _ rfl)) (glob5 hlaid)
theorem provedScanAhead : Rows.ScanAheadUptoSaid :=
  OpenClaim.holds_of_cond 5 Tryd.f5 rfl rfl rfl rfl rfl rfl rfl ⟨rfl, rfl, rfl, rfl, rfl⟩ rfl rfl rfl rfl rfl (by kernel_rfl) Tryd.func5 (by kernel_rfl)
    (of_decide_eq_true (by kernel_rfl)) (by unfold Func.isWrapper; first | (rw [if_pos (by decide +kernel)]; kernel_rfl) | (rw [if_neg (by decide +kernel)]; exact ⟨rfl, rfl⟩))
    (fun os started H enc _ F => by rw [OpenClaim.pre_eq_preRow]; exact lifted5 os started H enc F)
theorem plain5 (f : FuncId) (fn : Func) (hf : Tryd.pinned.checked.prog.funcNamed Rows.scanAheadUptoRow.func = some f) (hfn : Tryd.pinned.checked.prog.funcs[f]? = some fn) :
    true = Tryd.pinned.checked.prog.looks [] ∧ ∀ (j : Nat) t, fn.params[j]? = some t → Tryd.pinned.checked.prog.wantsStandIn t = false := by
  obtain rfl : f = 5 := Option.some.inj ((show Tryd.prog.funcNamed Rows.scanAheadUptoRow.func = some 5 by kernel_rfl).symm.trans hf) |>.symm
  obtain rfl : fn = Tryd.f5 := (Option.some.inj (Tryd.func5.symm.trans hfn)).symm
  refine ⟨by kernel_rfl, fun j t ht => ?_⟩
  rw [Tryd.params5] at ht
  obtain rfl : t = 9 := by simpa using Array.mem_of_getElem? ht
  exact (show Tryd.prog.wantsStandIn 9 = false by kernel_rfl)
theorem cardScanAhead : Rows.ScanAheadUptoCardSaid :=
  Claim7.holds_tied_plain_at .later [] _ _ _ _ provedScanAhead (fun _ h => by cases h) (by kernel_rfl) (fun _ h => by cases h) scanAheadUpto_row_tie rfl ⟨rfl, rfl⟩ (by kernel_rfl) rfl plain5 (by kernel_rfl)
end Go.Proofs.YtlehfbdkjkgaeaaDoor.scanDone
