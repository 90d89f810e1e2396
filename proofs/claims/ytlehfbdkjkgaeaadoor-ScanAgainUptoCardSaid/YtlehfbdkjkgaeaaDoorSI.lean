/- ScanAgain: tokens written anew are the same tokens. The condition: what comes in holds at most 1048576 values and letters; package-level variables start as the program's text lays them. -/
import Derived.Test.YtlehfbdkjkgaeaaDoorSH
import Derived.Test.YtlehfbdkjkgaeaaDoorEng24
import Derived.Test.YtlehfbdkjkgaeaaDoorUp
import Derived.Test.YtlehfbdkjkgaeaaDoorCards
import Derived.Test.YtlehfbdkjkgaeaaDoorTie
import Derived.ProofKit
import Derived.JoinedCond
import Derived.Deep.DeepWitnessRowRef
import Derived.MakeChecks
import Derived.Lay
namespace Go.Proofs.YtlehfbdkjkgaeaaDoor.scanDone
open Go Go.Eng Go.Proofs Go.Scan
set_option linter.unusedVariables false
set_option linter.unusedSimpArgs false
set_option maxRecDepth 100000
set_option maxHeartbeats 4000000
theorem own : ownKnob Tryd.prog.godebug = none := by kernel_rfl
theorem laidOut : laidOutB Tryd.prog = true := by kernel_rfl
theorem glob4 {W : World} (h : laidMet Tryd.prog Rows.scanAgainUptoRow.laid W) : GOK (pinW W).pobj := by
  have e1 := glob_of_laid (g := 4) (ti := 66) h.tail.tail.tail.tail (by kernel_rfl) (by kernel_rfl) Tryd.underlying66
  have e2 := glob_of_laid (g := 3) (ti := 66) h.tail.tail.tail.tail.tail (by kernel_rfl) (by kernel_rfl) Tryd.underlying66
  refine ⟨fun g hg => ?_, fun q hq => by cases hq⟩
  simp only [gIface, List.mem_cons, List.not_mem_nil, or_false] at hg
  rcases hg with rfl | rfl
  · exact e2
  · exact e1
theorem has_bools {v : Dv} (h : Dv.has (.sl .bool) v) : ∃ l : List Bool, v.av = .sl (l.map .bool) l.length ∧ l.length ≤ v.vb := by
  obtain ⟨es, rfl, hl, he⟩ := has_sl h
  have key : ∀ es : List Dv, (∀ e ∈ es, Dv.has .bool e) → ∃ l : List Bool, Dv.cellsL es = l.map .bool ∧ es.length = l.length := by
    intro es
    induction es with
    | nil => intro _; exact ⟨[], rfl, rfl⟩
    | cons e es ih =>
      intro he
      obtain ⟨l, h1, h2⟩ := ih fun x hx => he x (by simp [hx])
      obtain ⟨n, rfl⟩ := has_bool (he e (by simp))
      exact ⟨n :: l, by simp only [Dv.cellsL, Dv.cells, h1, List.map_cons, List.cons_append, List.nil_append], by simp [h2]⟩
  obtain ⟨l, h1, h2⟩ := key es he
  refine ⟨l, ?_, ?_⟩
  · simp only [Dv.av, Dv.cells, List.getD_cons_zero, h1, h2]
  · simp only [Dv.vb]; have := vbL_len es; omega
theorem body4 (xs : List Dv) (h : Dv.hasL [.str, .sl .bool] xs) (hb : Dv.vbL xs ≤ 1048576) : ∃ L', BodyOk Tryd.prog sbE Tryd.f4 (xs.map Dv.av) [] (.bool true) L' := by
  obtain ⟨x0, xs, rfl, h0, h⟩ := hasL_cons h
  obtain ⟨x1, xs, rfl, h1, h⟩ := hasL_cons h
  obtain rfl := hasL_nil h
  obtain ⟨s, rfl, _⟩ := has_str h0
  obtain ⟨r, hr, hrl⟩ := has_bools h1
  simp only [Dv.vbL, Dv.vb] at hb
  refine ⟨[], ?_⟩
  simp only [List.map_cons, List.map_nil]
  rw [hr]
  by_cases hok : okS s
  · exact law4b sbE rfl rfl rfl s hok r (by omega)
  · exact law4a sbE rfl rfl s (by omega) hok r
noncomputable def laidW4 (os : Os) : World := World.laidAll Tryd.prog os Rows.scanAgainUptoRow.laid
theorem laid_met4 (os : Os) (args : Array Value) : laidMetH Tryd.prog Rows.scanAgainUptoRow.laid ((laidW4 os).forCall (fun _ _ => 0) ⟨#[], args, []⟩).memory := by
  rw [MakeChecks.laidMetH_plain _ _ _ (by kernel_rfl)]
  exact laidMet_laidAll _ (by kernel_rfl) (by kernel_rfl)
theorem witness_row4 {H : Type} (os : Os) (enc : TypeId × Value → H) :
    (Rows.OpenSpec.upto Rows.scanAgainSpec).preRow enc Tryd.prog Tryd.f4 Rows.scanAgainUptoRow.domain false Rows.scanAgainUptoRow.laid ((laidW4 os).forCall (fun _ _ => 0) ⟨#[], #[.string .empty, .slice none 0 0], []⟩).memory #[.string .empty, .slice none 0 0] :=
  OpenSpec.preRow_of_cond 8 (x := ([.lit (.string []), .nil], [], [])) (by kernel_rfl) (by kernel_rfl) (fun k hk => by cases hk; rfl) (by kernel_rfl) (laid_met4 os _)
theorem lifted4 (os : Os) (started : os.Started) (H : Type) (enc : TypeId × Value → H) (F : Stop.Interp) :
    ReturnsInHanded {} Tryd.checked os 4 .any ((Rows.OpenSpec.upto Rows.scanAgainSpec).preRow enc Tryd.prog Tryd.f4 Rows.scanAgainUptoRow.domain false Rows.scanAgainUptoRow.laid) (((Rows.OpenSpec.upto Rows.scanAgainSpec).at F).post enc Tryd.prog Tryd.f4 false true false false) := by
  refine returnsInHanded_of_row (C := Tryd.checked) (s := Rows.OpenSpec.upto Rows.scanAgainSpec) own started (by kernel_rfl) Tryd.func4
    (witness_row_atRef (enc := enc) (C := Tryd.checked) false (laidW4 os) #[.string .empty, .slice none 0 0] (World.laidAll_os _ _ _) (by kernel_rfl) (by kernel_rfl) (by kernel_rfl) (witness_row4 os enc)) ?_
  intro W base args ds gs before hval hW _ hk _ hlaid _ _
  have hds : gs = [] ∧ ∃ d1 d2, ds = [d1, d2] := by
    obtain ⟨p, q, hA, hV, _⟩ := hW
    obtain ⟨rfl, _⟩ := ChangeShapes.trodVars_none hV
    rw [Tryd.params4] at hA
    obtain ⟨_, _, d1, _, _, _, _, rfl, _, _, hA⟩ := ChangeShapes.trodAll_cons hA
    obtain ⟨_, _, d2, _, _, _, _, rfl, _, _, hA⟩ := ChangeShapes.trodAll_cons hA
    obtain ⟨_, rfl, _⟩ := ChangeShapes.trodAll_nil hA
    exact ⟨rfl, d1, d2, rfl⟩
  obtain ⟨rfl, d1, d2, rfl⟩ := hds
  rw [MakeChecks.laidMetH_plain _ _ _ (by kernel_rfl)] at hlaid
  exact law_contract sbE_ok (f := 4) (fn := Tryd.f4) (by kernel_rfl) laidOut (s := Rows.scanAgainSpec) rfl (ss := [.str, .sl .bool]) (by kernel_rfl) (tb := 4) rfl Tryd.underlying4 (· ≤ 1048576) (fun a b h1 h2 => Nat.le_trans h1 h2) body4 rfl hval hW (Up.small (by simpa using hk _ rfl)) (glob4 hlaid)
theorem provedScanAgain : Rows.ScanAgainUptoSaid :=
  OpenClaim.holds_of_cond 4 Tryd.f4 rfl rfl rfl rfl rfl rfl rfl ⟨rfl, rfl, rfl, rfl, rfl⟩ rfl rfl rfl rfl rfl (by kernel_rfl) Tryd.func4 (by kernel_rfl)
    (of_decide_eq_true (by kernel_rfl)) (by unfold Func.isWrapper; first | (rw [if_pos (by decide +kernel)]; kernel_rfl) | (rw [if_neg (by decide +kernel)]; exact ⟨rfl, rfl⟩))
    (fun os started H enc _ F => by rw [OpenClaim.pre_eq_preRow]; exact lifted4 os started H enc F)
theorem plain4 (f : FuncId) (fn : Func) (hf : Tryd.pinned.checked.prog.funcNamed Rows.scanAgainUptoRow.func = some f) (hfn : Tryd.pinned.checked.prog.funcs[f]? = some fn) :
    true = Tryd.pinned.checked.prog.looks [] ∧ ∀ (j : Nat) t, fn.params[j]? = some t → Tryd.pinned.checked.prog.wantsStandIn t = false := by
  obtain rfl : f = 4 := Option.some.inj ((show Tryd.prog.funcNamed Rows.scanAgainUptoRow.func = some 4 by kernel_rfl).symm.trans hf) |>.symm
  obtain rfl : fn = Tryd.f4 := (Option.some.inj (Tryd.func4.symm.trans hfn)).symm
  refine ⟨by kernel_rfl, fun j t ht => ?_⟩
  rw [Tryd.params4] at ht
  have hm := Array.mem_of_getElem? ht
  simp only [List.mem_toArray, List.mem_cons, List.not_mem_nil, or_false] at hm
  rcases hm with rfl | rfl
  · exact (show Tryd.prog.wantsStandIn 9 = false by kernel_rfl)
  · exact (show Tryd.prog.wantsStandIn 34 = false by kernel_rfl)
theorem cardScanAgain : Rows.ScanAgainUptoCardSaid :=
  Claim7.holds_tied_plain_at .later [] _ _ _ _ provedScanAgain (fun _ h => by cases h) (by kernel_rfl) (fun _ h => by cases h) scanAgainUpto_row_tie rfl ⟨rfl, rfl⟩ (by kernel_rfl) rfl plain4 (by kernel_rfl)
end Go.Proofs.YtlehfbdkjkgaeaaDoor.scanDone
