/- DirOpens: a disk is opened just if it has a directory: a disk with some files, of which one sector is turned. The condition: what comes in holds at most 1048576 values and letters; package-level variables start as the program's text lays them. -/
import Derived.Test.YtbnnhffkbcekcaaGreatDoorPo
import Derived.Test.YtbnnhffkbcekcaaGreatDoorEg
import Derived.Test.YtbnnhffkbcekcaaGreatDoorEf
import Derived.Test.YtbnnhffkbcekcaaGreatDoorXu
import Derived.Test.YtbnnhffkbcekcaaGreatDoorCards
import Derived.Test.YtbnnhffkbcekcaaGreatDoorTie
import Derived.ProofKit
import Derived.JoinedCond
import Derived.Deep.DeepWitnessRowRef
import Derived.MakeChecks
import Derived.Lay
set_option linter.unusedVariables false
set_option linter.unusedSimpArgs false
set_option maxRecDepth 100000
set_option maxHeartbeats 4000000
namespace Go.Proofs.YtbnnhffkbcekcaaGreatDoor.dirDone
open Go Go.Eng Go.Proofs Go.RowKit
theorem own : ownKnob Tryz.prog.godebug = none := by kernel_rfl
theorem laidOut : laidOutB Tryz.prog = true := by kernel_rfl
theorem glob7 {W : World} (h : laidMet Tryz.prog Rows.dirOpensUptoRow.laid W) : GOK (pinW W).pobj := by
  refine ⟨fun g hg => ?_, fun q hq => ?_⟩
  · simp only [gIface, List.not_mem_nil] at hg
  · simp only [gTab, List.not_mem_nil] at hq
theorem body7B (xs : List Dv) (h : Dv.hasL [.sl (.st [.int .i64, .str, .str, .int .i64, .int .i64, .str]), .st [.int .i64, .str, .str, .int .i64, .int .i64, .str]] xs) (hb : Dv.vbL xs ≤ 1048576) : ∃ L', BodyOk Tryz.prog dpE Tryz.f7 (xs.map Dv.av) [] (.bool true) L' := by
  obtain ⟨x0, xs, rfl, h0, h⟩ := hasL_cons h
  obtain ⟨x1, xs, rfl, h1, h⟩ := hasL_cons h
  obtain rfl := hasL_nil h
  obtain ⟨fs, e0, hl, hfs⟩ := has_steps h0
  obtain ⟨t, e1, _, k1, k2, k3⟩ := has_step h1
  simp only [Dv.vbL] at hb
  refine ⟨[], ?_⟩
  simp only [List.map_cons, List.map_nil, e0, e1]
  exact body7 dpE rfl rfl rfl rfl fs t (by omega) (fun s hs => by have := (hfs s hs).1; omega) (by omega)
noncomputable def laidW7 (os : Os) : World := World.laidAll Tryz.prog os Rows.dirOpensUptoRow.laid
theorem laid_met7 (os : Os) (args : Array Value) : laidMetH Tryz.prog Rows.dirOpensUptoRow.laid ((laidW7 os).forCall (fun _ _ => 0) ⟨#[], args, []⟩).memory := by
  rw [MakeChecks.laidMetH_plain _ _ _ (by kernel_rfl)]
  exact laidMet_laidAll _ (by kernel_rfl) (by kernel_rfl)
theorem witness_row7 {H : Type} (os : Os) (enc : TypeId × Value → H) :
    (Rows.OpenSpec.upto Rows.dirOpensSpec).preRow enc Tryz.prog Tryz.f7 Rows.dirOpensUptoRow.domain false Rows.dirOpensUptoRow.laid ((laidW7 os).forCall (fun _ _ => 0) ⟨#[], #[.slice none 0 0, .agg #[.int .i64 0, .string .empty, .string .empty, .int .i64 0, .int .i64 0, .string .empty]], []⟩).memory #[.slice none 0 0, .agg #[.int .i64 0, .string .empty, .string .empty, .int .i64 0, .int .i64 0, .string .empty]] :=
  OpenSpec.preRow_of_cond 8 (x := ([.nil, .agg [.lit (.int .i64 0), .lit (.string []), .lit (.string []), .lit (.int .i64 0), .lit (.int .i64 0), .lit (.string [])]], [], [])) (by kernel_rfl) (by kernel_rfl) (fun k hk => by cases hk; rfl) (by kernel_rfl) (laid_met7 os _)
theorem lifted7 (os : Os) (started : os.Started) (H : Type) (enc : TypeId × Value → H) (F : Stop.Interp) :
    ReturnsInHanded {} Tryz.checked os 7 .any ((Rows.OpenSpec.upto Rows.dirOpensSpec).preRow enc Tryz.prog Tryz.f7 Rows.dirOpensUptoRow.domain false Rows.dirOpensUptoRow.laid) (((Rows.OpenSpec.upto Rows.dirOpensSpec).at F).post enc Tryz.prog Tryz.f7 false true false false) := by
  refine returnsInHanded_of_row (C := Tryz.checked) (s := Rows.OpenSpec.upto Rows.dirOpensSpec) own started (by kernel_rfl) Tryz.func7
    (witness_row_at (enc := enc) (C := Tryz.checked) false (laidW7 os) #[.slice none 0 0, .agg #[.int .i64 0, .string .empty, .string .empty, .int .i64 0, .int .i64 0, .string .empty]] (World.laidAll_os _ _ _) (by kernel_rfl) (by kernel_rfl) (by kernel_rfl) (witness_row7 os enc)) ?_
  intro W base args ds gs before hval hW _ hk _ hlaid _ _
  have hds : gs = [] ∧ ∃ d1 d2, ds = [d1, d2] := by
    obtain ⟨p, q, hA, hV, _⟩ := hW
    obtain ⟨rfl, _⟩ := ChangeShapes.trodVars_none hV
    rw [Tryz.params7] at hA
    obtain ⟨_, _, d1, _, _, _, _, rfl, _, _, hA⟩ := ChangeShapes.trodAll_cons hA
    obtain ⟨_, _, d2, _, _, _, _, rfl, _, _, hA⟩ := ChangeShapes.trodAll_cons hA
    obtain ⟨_, rfl, _⟩ := ChangeShapes.trodAll_nil hA
    exact ⟨rfl, d1, d2, rfl⟩
  obtain ⟨rfl, d1, d2, rfl⟩ := hds
  rw [MakeChecks.laidMetH_plain _ _ _ (by kernel_rfl)] at hlaid
  exact law_contract dpE_ok (f := 7) (fn := Tryz.f7) (by kernel_rfl) laidOut (s := Rows.dirOpensSpec) rfl (ss := [.sl (.st [.int .i64, .str, .str, .int .i64, .int .i64, .str]), .st [.int .i64, .str, .str, .int .i64, .int .i64, .str]]) (by kernel_rfl) (tb := 4) rfl Tryz.underlying4 (· ≤ 1048576) (fun a b h1 h2 => Nat.le_trans h1 h2) body7B rfl hval hW (Up.small (by simpa using hk _ rfl)) (glob7 hlaid)
theorem provedDirOpens : Rows.DirOpensUptoSaid :=
  OpenClaim.holds_of_cond 7 Tryz.f7 rfl rfl rfl rfl rfl rfl rfl ⟨rfl, rfl, rfl, rfl, rfl⟩ rfl rfl rfl rfl rfl (by kernel_rfl) Tryz.func7 (by kernel_rfl)
    (of_decide_eq_true (by kernel_rfl)) (by unfold Func.isWrapper; first | (rw [if_pos (by decide +kernel)]; kernel_rfl) | (rw [if_neg (by decide +kernel)]; exact ⟨rfl, rfl⟩))
    (fun os started H enc _ F => by rw [OpenClaim.pre_eq_preRow]; exact lifted7 os started H enc F)
theorem plain7 (f : FuncId) (fn : Func) (hf : Tryz.pinned.checked.prog.funcNamed Rows.dirOpensUptoRow.func = some f) (hfn : Tryz.pinned.checked.prog.funcs[f]? = some fn) :
    false = Tryz.pinned.checked.prog.looks [] ∧ ∀ (j : Nat) t, fn.params[j]? = some t → Tryz.pinned.checked.prog.wantsStandIn t = false := by
  obtain rfl : f = 7 := Option.some.inj ((show Tryz.prog.funcNamed Rows.dirOpensUptoRow.func = some 7 by kernel_rfl).symm.trans hf) |>.symm
  obtain rfl : fn = Tryz.f7 := (Option.some.inj (Tryz.func7.symm.trans hfn)).symm
  refine ⟨by kernel_rfl, fun j t ht => ?_⟩
  rw [Tryz.params7] at ht
  have hm := Array.mem_of_getElem? ht
  simp only [List.mem_toArray, List.mem_cons, List.not_mem_nil, or_false] at hm
  rcases hm with rfl | rfl
  · exact (show Tryz.prog.wantsStandIn 48 = false by kernel_rfl)
  · exact (show Tryz.prog.wantsStandIn 50 = false by kernel_rfl)
theorem cardDirOpens : Rows.DirOpensUptoCardSaid :=
  Claim7.holds_tied_plain_at .later [] _ _ _ _ provedDirOpens (fun _ h => by cases h) (by kernel_rfl) (fun _ h => by cases h) dirOpensUpto_row_tie rfl ⟨rfl, rfl⟩ (by kernel_rfl) rfl plain7 (by kernel_rfl)
end Go.Proofs.YtbnnhffkbcekcaaGreatDoor.dirDone
