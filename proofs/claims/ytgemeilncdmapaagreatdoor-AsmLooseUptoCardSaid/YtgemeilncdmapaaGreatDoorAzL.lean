/- AsmLoose: lines that say nothing, and blanks about lines, make no difference but to the numbers of lines. The condition: what comes in holds at most 1048576 values and letters; package-level variables start as the program's text lays them. -/
import Derived.Test.YtgemeilncdmapaaGreatDoorPU
import Derived.Test.YtgemeilncdmapaaGreatDoorEF
import Derived.Test.YtgemeilncdmapaaGreatDoorUp
import Derived.Test.YtgemeilncdmapaaGreatDoorCards
import Derived.Test.YtgemeilncdmapaaGreatDoorTie
import Derived.ProofKit
import Derived.JoinedCond
import Derived.Deep.DeepWitnessRowRef
import Derived.MakeChecks
import Derived.Lay
namespace Go.Proofs.YtgemeilncdmapaaGreatDoor.asmDone
open Go Go.Eng Go.Proofs Go.RowKit
set_option linter.unusedVariables false
set_option linter.unusedSimpArgs false
set_option maxRecDepth 100000
set_option maxHeartbeats 4000000
theorem own : ownKnob Tryz.prog.godebug = none := by kernel_rfl
theorem laidOut : laidOutB Tryz.prog = true := by kernel_rfl
theorem glob5 {W : World} (h : laidMet Tryz.prog Rows.asmLooseUptoRow.laid W) : GOK (pinW W).pobj := by
  have e1 := table_of_laid (g := 0) (ti := 132) (e := 48) (N := 20) (k := .u64) (ns := (List.range 20).map fun i => ((10 ^ i : Nat) : Int)) h.tail.tail (by kernel_rfl) (by kernel_rfl) (by kernel_rfl) (by kernel_rfl) (by kernel_rfl) (by kernel_rfl)
  have e2 := table_of_laid (g := 2) (ti := 142) (e := 3) (N := 16) (k := .i64) (ns := [3, 2, 2, 2, 2, 2, 2, 2, 3, 3, 3, 2, 4, 4, 4, 0]) h.tail.tail.tail.tail.tail.tail (by kernel_rfl) (by kernel_rfl) (by kernel_rfl) (by kernel_rfl) (by kernel_rfl) (by kernel_rfl)
  have e3 := glob_of_laid (g := 8) (ti := 67) h.tail.tail.tail.tail (by kernel_rfl) (by kernel_rfl) Tryz.underlying67
  have e4 := glob_of_laid (g := 7) (ti := 67) h.tail.tail.tail.tail.tail (by kernel_rfl) (by kernel_rfl) Tryz.underlying67
  refine ⟨fun g hg => ?_, fun q hq => ?_⟩
  · simp only [gIface, List.mem_cons, List.not_mem_nil, or_false] at hg
    rcases hg with rfl | rfl
    · exact e4
    · exact e3
  · simp only [gTab, List.mem_cons, List.not_mem_nil, or_false] at hq
    rcases hq with rfl | rfl
    · obtain ⟨c, x, f, h1, h2⟩ := e1
      exact ⟨c, x, f, h1, by rw [h2]; rfl⟩
    · obtain ⟨c, x, f, h1, h2⟩ := e2
      exact ⟨c, x, f, h1, by rw [h2]⟩
theorem body5B (xs : List Dv) (h : Dv.hasL [.str, .sl (.int .i64)] xs) (hb : Dv.vbL xs ≤ 1048576) : ∃ L', BodyOk Tryz.prog anE Tryz.f5 (xs.map Dv.av) [] (.bool true) L' := by
  obtain ⟨x0, xs, rfl, h0, h⟩ := hasL_cons h
  obtain ⟨x1, xs, rfl, h1, h⟩ := hasL_cons h
  obtain rfl := hasL_nil h
  obtain ⟨s, rfl, _⟩ := has_str h0
  obtain ⟨ps, hl, hn⟩ := has_i64s h1
  simp only [Dv.vbL, Dv.vb] at hb
  refine ⟨[], ?_⟩
  simp only [List.map_cons, List.map_nil]
  rw [hl]
  exact law5 anE rfl rfl rfl s ps (by omega) (by omega)
noncomputable def laidW5 (os : Os) : World := World.laidAll Tryz.prog os Rows.asmLooseUptoRow.laid
theorem laid_met5 (os : Os) (args : Array Value) : laidMetH Tryz.prog Rows.asmLooseUptoRow.laid ((laidW5 os).forCall (fun _ _ => 0) ⟨#[], args, []⟩).memory := by
  rw [MakeChecks.laidMetH_plain _ _ _ (by kernel_rfl)]
  exact laidMet_laidAll _ (by kernel_rfl) (by kernel_rfl)
theorem witness_row5 {H : Type} (os : Os) (enc : TypeId × Value → H) :
    (Rows.OpenSpec.upto Rows.asmLooseSpec).preRow enc Tryz.prog Tryz.f5 Rows.asmLooseUptoRow.domain false Rows.asmLooseUptoRow.laid ((laidW5 os).forCall (fun _ _ => 0) ⟨#[], #[.string .empty, .slice none 0 0], []⟩).memory #[.string .empty, .slice none 0 0] :=
  OpenSpec.preRow_of_cond 8 (x := ([.lit (.string []), .nil], [], [])) (by kernel_rfl) (by kernel_rfl) (fun k hk => by cases hk; rfl) (by kernel_rfl) (laid_met5 os _)
theorem lifted5 (os : Os) (started : os.Started) (H : Type) (enc : TypeId × Value → H) (F : Stop.Interp) :
    ReturnsInHanded {} Tryz.checked os 5 .any ((Rows.OpenSpec.upto Rows.asmLooseSpec).preRow enc Tryz.prog Tryz.f5 Rows.asmLooseUptoRow.domain false Rows.asmLooseUptoRow.laid) (((Rows.OpenSpec.upto Rows.asmLooseSpec).at F).post enc Tryz.prog Tryz.f5 false true false false) := by
  refine returnsInHanded_of_row (C := Tryz.checked) (s := Rows.OpenSpec.upto Rows.asmLooseSpec) own started (by kernel_rfl) Tryz.func5
    (witness_row_atRef (enc := enc) (C := Tryz.checked) false (laidW5 os) #[.string .empty, .slice none 0 0] (World.laidAll_os _ _ _) (by kernel_rfl) (by kernel_rfl) (by kernel_rfl) (witness_row5 os enc)) ?_
  intro W base args ds gs before hval hW _ hk _ hlaid _ _
  have hds : gs = [] ∧ ∃ d1 d2, ds = [d1, d2] := by
    obtain ⟨p, q, hA, hV, _⟩ := hW
    obtain ⟨rfl, _⟩ := ChangeShapes.trodVars_none hV
    rw [Tryz.params5] at hA
    obtain ⟨_, _, d1, _, _, _, _, rfl, _, _, hA⟩ := ChangeShapes.trodAll_cons hA
    obtain ⟨_, _, d2, _, _, _, _, rfl, _, _, hA⟩ := ChangeShapes.trodAll_cons hA
    obtain ⟨_, rfl, _⟩ := ChangeShapes.trodAll_nil hA
    exact ⟨rfl, d1, d2, rfl⟩
  obtain ⟨rfl, d1, d2, rfl⟩ := hds
  rw [MakeChecks.laidMetH_plain _ _ _ (by kernel_rfl)] at hlaid
  exact law_contract anE_ok (f := 5) (fn := Tryz.f5) (by kernel_rfl) laidOut (s := Rows.asmLooseSpec) rfl (ss := [.str, .sl (.int .i64)]) (by kernel_rfl) (tb := 4) rfl Tryz.underlying4 (· ≤ 1048576) (fun a b h1 h2 => Nat.le_trans h1 h2) body5B rfl hval hW (Up.small (by simpa using hk _ rfl)) (glob5 hlaid)
theorem provedAsmLoose : Rows.AsmLooseUptoSaid :=
  OpenClaim.holds_of_cond 5 Tryz.f5 rfl rfl rfl rfl rfl rfl rfl ⟨rfl, rfl, rfl, rfl, rfl⟩ rfl rfl rfl rfl rfl (by kernel_rfl) Tryz.func5 (by kernel_rfl)
    (of_decide_eq_true (by kernel_rfl)) (by unfold Func.isWrapper; first | (rw [if_pos (by decide +kernel)]; kernel_rfl) | (rw [if_neg (by decide +kernel)]; exact ⟨rfl, rfl⟩))
    (fun os started H enc _ F => by rw [OpenClaim.pre_eq_preRow]; exact lifted5 os started H enc F)
theorem plain5 (f : FuncId) (fn : Func) (hf : Tryz.pinned.checked.prog.funcNamed Rows.asmLooseUptoRow.func = some f) (hfn : Tryz.pinned.checked.prog.funcs[f]? = some fn) :
    true = Tryz.pinned.checked.prog.looks [] ∧ ∀ (j : Nat) t, fn.params[j]? = some t → Tryz.pinned.checked.prog.wantsStandIn t = false := by
  obtain rfl : f = 5 := Option.some.inj ((show Tryz.prog.funcNamed Rows.asmLooseUptoRow.func = some 5 by kernel_rfl).symm.trans hf) |>.symm
  obtain rfl : fn = Tryz.f5 := (Option.some.inj (Tryz.func5.symm.trans hfn)).symm
  refine ⟨by kernel_rfl, fun j t ht => ?_⟩
  rw [Tryz.params5] at ht
  have hm := Array.mem_of_getElem? ht
  simp only [List.mem_toArray, List.mem_cons, List.not_mem_nil, or_false] at hm
  rcases hm with rfl | rfl
  · exact (show Tryz.prog.wantsStandIn 9 = false by kernel_rfl)
  · exact (show Tryz.prog.wantsStandIn 33 = false by kernel_rfl)
theorem cardAsmLoose : Rows.AsmLooseUptoCardSaid :=
  Claim7.holds_tied_plain_at .later [] _ _ _ _ provedAsmLoose (fun _ h => by cases h) (by kernel_rfl) (fun _ h => by cases h) asmLooseUpto_row_tie rfl ⟨rfl, rfl⟩ (by kernel_rfl) rfl plain5 (by kernel_rfl)
end Go.Proofs.YtgemeilncdmapaaGreatDoor.asmDone
