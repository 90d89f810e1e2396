/- DirNone: without a disk, without a directory, there is nothing. The condition: what comes in holds at most 1048576 values and letters; package-level variables start as the program's text lays them. -/
import Derived.Test.YtbnnhffkbcekcaaGreatDoorDJ
import Derived.Test.YtbnnhffkbcekcaaGreatDoorEng30
import Derived.Test.YtbnnhffkbcekcaaGreatDoorUp
import Derived.Test.YtbnnhffkbcekcaaGreatDoorCards
import Derived.Test.YtbnnhffkbcekcaaGreatDoorTie
import Derived.ProofKit
import Derived.JoinedCond
import Derived.Deep.DeepWitnessRowRef
import Derived.MakeChecks
import Derived.Lay
namespace Go.Proofs.YtbnnhffkbcekcaaGreatDoor.dirDone
open Go Go.Eng Go.Proofs Go.RowKit
set_option linter.unusedVariables false
set_option linter.unusedSimpArgs false
set_option maxRecDepth 100000
set_option maxHeartbeats 4000000
theorem own : ownKnob Tryz.prog.godebug = none := by kernel_rfl
theorem laidOut : laidOutB Tryz.prog = true := by kernel_rfl
theorem glob10 {W : World} (h : laidMet Tryz.prog Rows.dirNoneUptoRow.laid W) : GOK (pinW W).pobj := by
  refine ⟨fun g hg => ?_, fun q hq => ?_⟩
  · simp only [gIface, List.not_mem_nil] at hg
  · simp only [gTab, List.not_mem_nil] at hq
theorem body10B (xs : List Dv) (h : Dv.hasL [.str, .int .i64] xs) (hb : Dv.vbL xs ≤ 1048576) : ∃ L', BodyOk Tryz.prog dnE Tryz.f10 (xs.map Dv.av) [] (.bool true) L' := by
  obtain ⟨x0, xs, rfl, h0, h⟩ := hasL_cons h
  obtain ⟨x1, xs, rfl, h1, h⟩ := hasL_cons h
  obtain rfl := hasL_nil h
  obtain ⟨s, rfl, _⟩ := has_str h0
  obtain ⟨n, rfl, _, _⟩ := has_int h1
  refine ⟨[], ?_⟩
  simp only [List.map_cons, List.map_nil]
  exact body10 dnE rfl rfl rfl rfl rfl rfl rfl rfl rfl rfl rfl rfl s n
noncomputable def laidW10 (os : Os) : World := World.laidAll Tryz.prog os Rows.dirNoneUptoRow.laid
theorem laid_met10 (os : Os) (args : Array Value) : laidMetH Tryz.prog Rows.dirNoneUptoRow.laid ((laidW10 os).forCall (fun _ _ => 0) ⟨#[], args, []⟩).memory := by
  rw [MakeChecks.laidMetH_plain _ _ _ (by kernel_rfl)]
  exact laidMet_laidAll _ (by kernel_rfl) (by kernel_rfl)
theorem witness_row10 {H : Type} (os : Os) (enc : TypeId × Value → H) :
    (Rows.OpenSpec.upto Rows.dirNoneSpec).preRow enc Tryz.prog Tryz.f10 Rows.dirNoneUptoRow.domain false Rows.dirNoneUptoRow.laid ((laidW10 os).forCall (fun _ _ => 0) ⟨#[], #[.string .empty, .int .i64 0], []⟩).memory #[.string .empty, .int .i64 0] :=
  OpenSpec.preRow_of_cond 8 (x := ([.lit (.string []), .lit (.int .i64 0)], [], [])) (by kernel_rfl) (by kernel_rfl) (fun k hk => by cases hk; rfl) (by kernel_rfl) (laid_met10 os _)
theorem lifted10 (os : Os) (started : os.Started) (H : Type) (enc : TypeId × Value → H) (F : Stop.Interp) :
    ReturnsInHanded {} Tryz.checked os 10 .any ((Rows.OpenSpec.upto Rows.dirNoneSpec).preRow enc Tryz.prog Tryz.f10 Rows.dirNoneUptoRow.domain false Rows.dirNoneUptoRow.laid) (((Rows.OpenSpec.upto Rows.dirNoneSpec).at F).post enc Tryz.prog Tryz.f10 false true false false) := by
  refine returnsInHanded_of_row (C := Tryz.checked) (s := Rows.OpenSpec.upto Rows.dirNoneSpec) own started (by kernel_rfl) Tryz.func10
    (witness_row_at (enc := enc) (C := Tryz.checked) false (laidW10 os) #[.string .empty, .int .i64 0] (World.laidAll_os _ _ _) (by kernel_rfl) (by kernel_rfl) (by kernel_rfl) (witness_row10 os enc)) ?_
  intro W base args ds gs before hval hW _ hk _ hlaid _ _
  have hds : gs = [] ∧ ∃ d1 d2, ds = [d1, d2] := by
    obtain ⟨p, q, hA, hV, _⟩ := hW
    obtain ⟨rfl, _⟩ := ChangeShapes.trodVars_none hV
    rw [Tryz.params10] at hA
    obtain ⟨_, _, d1, _, _, _, _, rfl, _, _, hA⟩ := ChangeShapes.trodAll_cons hA
    obtain ⟨_, _, d2, _, _, _, _, rfl, _, _, hA⟩ := ChangeShapes.trodAll_cons hA
    obtain ⟨_, rfl, _⟩ := ChangeShapes.trodAll_nil hA
    exact ⟨rfl, d1, d2, rfl⟩
  obtain ⟨rfl, d1, d2, rfl⟩ := hds
  rw [MakeChecks.laidMetH_plain _ _ _ (by kernel_rfl)] at hlaid
  exact law_contract dnE_ok (f := 10) (fn := Tryz.f10) (by kernel_rfl) laidOut (s := Rows.dirNoneSpec) rfl (ss := [.str, .int .i64]) (by kernel_rfl) (tb := 4) rfl Tryz.underlying4 (· ≤ 1048576) (fun a b h1 h2 => Nat.le_trans h1 h2) body10B rfl hval hW (Up.small (by simpa using hk _ rfl)) (glob10 hlaid)
theorem provedDirNone : Rows.DirNoneUptoSaid :=
  OpenClaim.holds_of_cond 10 Tryz.f10 rfl rfl rfl rfl rfl rfl rfl ⟨rfl, rfl, rfl, rfl, rfl⟩ rfl rfl rfl rfl rfl (by kernel_rfl) Tryz.func10 (by kernel_rfl)
    (of_decide_eq_true (by kernel_rfl)) (by unfold Func.isWrapper; first | (rw [if_pos (by decide +kernel)]; kernel_rfl) | (rw [if_neg (by decide +kernel)]; exact ⟨rfl, rfl⟩))
    (fun os started H enc _ F => by rw [OpenClaim.pre_eq_preRow]; exact lifted10 os started H enc F)
theorem plain10 (f : FuncId) (fn : Func) (hf : Tryz.pinned.checked.prog.funcNamed Rows.dirNoneUptoRow.func = some f) (hfn : Tryz.pinned.checked.prog.funcs[f]? = some fn) :
    false = Tryz.pinned.checked.prog.looks [] ∧ ∀ (j : Nat) t, fn.params[j]? = some t → Tryz.pinned.checked.prog.wantsStandIn t = false := by
  obtain rfl : f = 10 := Option.some.inj ((show Tryz.prog.funcNamed Rows.dirNoneUptoRow.func = some 10 by kernel_rfl).symm.trans hf) |>.symm
  obtain rfl : fn = Tryz.f10 := (Option.some.inj (Tryz.func10.symm.trans hfn)).symm
  refine ⟨by kernel_rfl, fun j t ht => ?_⟩
  rw [Tryz.params10] at ht
  have hm := Array.mem_of_getElem? ht
  simp only [List.mem_toArray, List.mem_cons, List.not_mem_nil, or_false] at hm
  rcases hm with rfl | rfl
  · exact (show Tryz.prog.wantsStandIn 9 = false by kernel_rfl)
  · exact (show Tryz.prog.wantsStandIn 3 = false by kernel_rfl)
theorem cardDirNone : Rows.DirNoneUptoCardSaid :=
  Claim7.holds_tied_plain_at .later [] _ _ _ _ provedDirNone (fun _ h => by cases h) (by kernel_rfl) (fun _ h => by cases h) dirNoneUpto_row_tie rfl ⟨rfl, rfl⟩ (by kernel_rfl) rfl plain10 (by kernel_rfl)
end Go.Proofs.YtbnnhffkbcekcaaGreatDoor.dirDone
