/- ScanNumbers: a number is read as itself. The condition: what comes in holds at most 1048576 values and letters; package-level variables start as the program's text lays them. -/
import Derived.Test.YtlehfbdkjkgaeaaDoorSJ
import Derived.Test.YtlehfbdkjkgaeaaDoorEng24
import Derived.Test.YtlehfbdkjkgaeaaDoorUp
import Derived.Test.YtlehfbdkjkgaeaaDoorCards
import Derived.Test.YtlehfbdkjkgaeaaDoorTie
import Derived.ProofKit
import Derived.JoinedCond
import Derived.Deep.DeepWitnessRowRef
import Derived.MakeChecks
import Derived.Lay
namespace Go.Proofs.YtlehfbdkjkgaeaaDoor.scanDone
open Go Go.Eng Go.Proofs Go.Scan
set_option linter.unusedVariables false
set_option linter.unusedSimpArgs false
set_option maxRecDepth 100000
set_option maxHeartbeats 4000000
theorem own : ownKnob Tryd.prog.godebug = none := by kernel_rfl
theorem laidOut : laidOutB Tryd.prog = true := by kernel_rfl
theorem glob3 {W : World} (h : laidMet Tryd.prog Rows.scanNumbersUptoRow.laid W) : GOK (pinW W).pobj := by
  have e1 := glob_of_laid (g := 4) (ti := 66) h.tail.tail.tail.tail (by kernel_rfl) (by kernel_rfl) Tryd.underlying66
  have e2 := glob_of_laid (g := 3) (ti := 66) h.tail.tail.tail.tail.tail (by kernel_rfl) (by kernel_rfl) Tryd.underlying66
  refine ⟨fun g hg => ?_, fun q hq => by cases hq⟩
  simp only [gIface, List.mem_cons, List.not_mem_nil, or_false] at hg
  rcases hg with rfl | rfl
  · exact e2
  · exact e1
theorem body3 (xs : List Dv) (h : Dv.hasL [.int .u32, .int .u64, .int .i64] xs) (hb : Dv.vbL xs ≤ 1048576) : ∃ L', BodyOk Tryd.prog sbE Tryd.f3 (xs.map Dv.av) [] (.bool true) L' := by
  obtain ⟨x0, xs, rfl, h0, h⟩ := hasL_cons h
  obtain ⟨x1, xs, rfl, h1, h⟩ := hasL_cons h
  obtain ⟨x2, xs, rfl, h2, h⟩ := hasL_cons h
  obtain rfl := hasL_nil h
  obtain ⟨w, rfl, hw1, hw2⟩ := has_int h0
  obtain ⟨n, rfl, hn1, hn2⟩ := has_int h1
  obtain ⟨z, rfl, hz1, hz2⟩ := has_int h2
  have hw1 : 0 ≤ w := hw1
  have hw2 : w ≤ 4294967295 := hw2
  have hn1 : 0 ≤ n := hn1
  have hn2 : n ≤ 18446744073709551615 := hn2
  have hz1 : -9223372036854775808 ≤ z := hz1
  have hz2 : z ≤ 9223372036854775807 := hz2
  obtain ⟨w, rfl⟩ := Int.eq_ofNat_of_zero_le hw1
  obtain ⟨n, rfl⟩ := Int.eq_ofNat_of_zero_le hn1
  refine ⟨[], ?_⟩
  simp only [List.map_cons, List.map_nil]
  by_cases hc : w ≤ 255
  · exact law3a sbE rfl rfl rfl rfl w n z (by omega) (by omega) ⟨hz1, hz2⟩ hc
  · exact law3b sbE rfl rfl rfl rfl w n z (by omega) (by omega) ⟨hz1, hz2⟩ (by omega)
noncomputable def laidW3 (os : Os) : World := World.laidAll Tryd.prog os Rows.scanNumbersUptoRow.laid
theorem laid_met3 (os : Os) (args : Array Value) : laidMetH Tryd.prog Rows.scanNumbersUptoRow.laid ((laidW3 os).forCall (fun _ _ => 0) ⟨#[], args, []⟩).memory := by
  rw [MakeChecks.laidMetH_plain _ _ _ (by kernel_rfl)]
  exact laidMet_laidAll _ (by kernel_rfl) (by kernel_rfl)
theorem witness_row3 {H : Type} (os : Os) (enc : TypeId × Value → H) :
    (Rows.OpenSpec.upto Rows.scanNumbersSpec).preRow enc Tryd.prog Tryd.f3 Rows.scanNumbersUptoRow.domain false Rows.scanNumbersUptoRow.laid ((laidW3 os).forCall (fun _ _ => 0) ⟨#[], #[.int .u32 0, .int .u64 0, .int .i64 0], []⟩).memory #[.int .u32 0, .int .u64 0, .int .i64 0] :=
  OpenSpec.preRow_of_cond 8 (x := ([.lit (.int .u32 0), .lit (.int .u64 0), .lit (.int .i64 0)], [], [])) (by kernel_rfl) (by kernel_rfl) (fun k hk => by cases hk; rfl) (by kernel_rfl) (laid_met3 os _)
theorem lifted3 (os : Os) (started : os.Started) (H : Type) (enc : TypeId × Value → H) (F : Stop.Interp) :
    ReturnsInHanded {} Tryd.checked os 3 .any ((Rows.OpenSpec.upto Rows.scanNumbersSpec).preRow enc Tryd.prog Tryd.f3 Rows.scanNumbersUptoRow.domain false Rows.scanNumbersUptoRow.laid) (((Rows.OpenSpec.upto Rows.scanNumbersSpec).at F).post enc Tryd.prog Tryd.f3 false true false false) := by
  refine returnsInHanded_of_row (C := Tryd.checked) (s := Rows.OpenSpec.upto Rows.scanNumbersSpec) own started (by kernel_rfl) Tryd.func3
    (witness_row_atRef (enc := enc) (C := Tryd.checked) false (laidW3 os) #[.int .u32 0, .int .u64 0, .int .i64 0] (World.laidAll_os _ _ _) (by kernel_rfl) (by kernel_rfl) (by kernel_rfl) (witness_row3 os enc)) ?_
  intro W base args ds gs before hval hW _ hk _ hlaid _ _
  have hds : gs = [] ∧ ∃ d1 d2 d3, ds = [d1, d2, d3] := by
    obtain ⟨p, q, hA, hV, _⟩ := hW
    obtain ⟨rfl, _⟩ := ChangeShapes.trodVars_none hV
    rw [Tryd.params3] at hA
    obtain ⟨_, _, d1, _, _, _, _, rfl, _, _, hA⟩ := ChangeShapes.trodAll_cons hA
    obtain ⟨_, _, d2, _, _, _, _, rfl, _, _, hA⟩ := ChangeShapes.trodAll_cons hA
    obtain ⟨_, _, d3, _, _, _, _, rfl, _, _, hA⟩ := ChangeShapes.trodAll_cons hA
    obtain ⟨_, rfl, _⟩ := ChangeShapes.trodAll_nil hA
    exact ⟨rfl, d1, d2, d3, rfl⟩
  obtain ⟨rfl, d1, d2, d3, rfl⟩ := hds
  rw [MakeChecks.laidMetH_plain _ _ _ (by kernel_rfl)] at hlaid
  exact law_contract sbE_ok (f := 3) (fn := Tryd.f3) (by kernel_rfl) laidOut (s := Rows.scanNumbersSpec) rfl (ss := [.int .u32, .int .u64, .int .i64]) (by kernel_rfl) (tb := 4) rfl Tryd.underlying4 (· ≤ 1048576) (fun a b h1 h2 => Nat.le_trans h1 h2) body3 rfl hval hW (Up.small (by simpa using hk _ rfl)) (glob3 hlaid)
theorem provedScanNumbers : Rows.ScanNumbersUptoSaid :=
  OpenClaim.holds_of_cond 3 Tryd.f3 rfl rfl rfl rfl rfl rfl rfl ⟨rfl, rfl, rfl, rfl, rfl⟩ rfl rfl rfl rfl rfl (by kernel_rfl) Tryd.func3 (by kernel_rfl)
    (of_decide_eq_true (by kernel_rfl)) (by unfold Func.isWrapper; first | (rw [if_pos (by decide +kernel)]; kernel_rfl) | (rw [if_neg (by decide +kernel)]; exact ⟨rfl, rfl⟩))
    (fun os started H enc _ F => by rw [OpenClaim.pre_eq_preRow]; exact lifted3 os started H enc F)
theorem plain3 (f : FuncId) (fn : Func) (hf : Tryd.pinned.checked.prog.funcNamed Rows.scanNumbersUptoRow.func = some f) (hfn : Tryd.pinned.checked.prog.funcs[f]? = some fn) :
    true = Tryd.pinned.checked.prog.looks [] ∧ ∀ (j : Nat) t, fn.params[j]? = some t → Tryd.pinned.checked.prog.wantsStandIn t = false := by
  obtain rfl : f = 3 := Option.some.inj ((show Tryd.prog.funcNamed Rows.scanNumbersUptoRow.func = some 3 by kernel_rfl).symm.trans hf) |>.symm
  obtain rfl : fn = Tryd.f3 := (Option.some.inj (Tryd.func3.symm.trans hfn)).symm
  refine ⟨by kernel_rfl, fun j t ht => ?_⟩
  rw [Tryd.params3] at ht
  have hm := Array.mem_of_getElem? ht
  simp only [List.mem_toArray, List.mem_cons, List.not_mem_nil, or_false] at hm
  rcases hm with rfl | rfl | rfl
  · exact (show Tryd.prog.wantsStandIn 22 = false by kernel_rfl)
  · exact (show Tryd.prog.wantsStandIn 23 = false by kernel_rfl)
  · exact (show Tryd.prog.wantsStandIn 3 = false by kernel_rfl)
theorem cardScanNumbers : Rows.ScanNumbersUptoCardSaid :=
  Claim7.holds_tied_plain_at .later [] _ _ _ _ provedScanNumbers (fun _ h => by cases h) (by kernel_rfl) (fun _ h => by cases h) scanNumbersUpto_row_tie rfl ⟨rfl, rfl⟩ (by kernel_rfl) rfl plain3 (by kernel_rfl)
end Go.Proofs.YtlehfbdkjkgaeaaDoor.scanDone
