/- Of the model of a workstation: ModelRuns, walked. Conditions stand in each. -/
import Derived.Test.YtenopfmafecffaaGreatDoorMqA
import Derived.Test.YtenopfmafecffaaGreatDoorEF
namespace Go.Proofs.YtenopfmafecffaaGreatDoor.modelDone
open Go Go.Eng Go.Proofs Go.Mdl Go.RowKit
open Go.Lines (pres)
open Go.Proofs.YtenopfmafecffaaGreatDoor.linesDone (linesS linesV lnF lrF lwP lines_eq)
set_option linter.unusedVariables false
set_option linter.unusedSimpArgs false
set_option maxRecDepth 100000
set_option maxHeartbeats 4000000
theorem law4 (Γ : Env) (h8 : Γ 8 = some S8) (h10 : Γ 10 = some S10) (h11 : Γ 11 = some S11) (h14 : Γ 14 = some S14) (h15 : Γ 15 = some S15) (h18 : Γ 18 = some linesS) (h19 : Γ 19 = some S19) (h20 : Γ 20 = some S20) (S : Int) (l : Fs) (x : Bytes) (hl : l.length ≤ 1000000) (hb : ∀ x ∈ l, x.1.length ≤ 4194304 ∧ x.2.length ≤ 1000000000) (hx : x.length ≤ 4194304) : BodyOk Tryz.prog Γ Tryz.f4 [.int .i64 S, .sl (l.flatMap fc) l.length, .str x] [] (.bool true) [] := by
  by_cases he : (newE S l).1 = 0
  case neg =>
    have r1 := rn_v he
    have r2 := rn_m he
    have r3 := rn_h he
    (intro X hP hΓ hL hfin; refine ⟨_, rfl, ?_⟩; rw [show Tryz.f4.ntmps = 82 from rfl]; rw [show Tryz.f4.results.toList = [.tmp 6] from rfl] at hfin; apply holds_of_ex X 400; simp (maxSteps := 1000000) only [push_cast, reduceCtorEq, Nat.reduceAdd, Nat.reduceMul, Nat.reduceSub, Nat.reduceBEq, Nat.reduceGT, Nat.reduceLT, Int.toNat_zero, Nat.reduceLeDiff, Int.reduceEq, Int.reduceLT, Int.reduceLE, hP, hΓ, hL, hfin, String.reduceEq, not_false_eq_true, if_true, Int.toNat_one, h8, h10, h11, r1, r2, r3, he])
    refine ⟨⟨hl, hb⟩, ⟨hl, hb⟩, ?_⟩
    exact Into.sameA
  have r1 := rw_v he
  have r2 := rw_m he
  have r3 := rw_h he
  have hA0 := new_s he
  (intro X hP hΓ hL hfin; refine ⟨_, rfl, ?_⟩; rw [show Tryz.f4.ntmps = 82 from rfl]; rw [show Tryz.f4.results.toList = [.tmp 6] from rfl] at hfin; apply holds_of_ex X 400; simp (maxSteps := 1000000) only [push_cast, reduceCtorEq, Nat.reduceAdd, Nat.reduceMul, Nat.reduceSub, Nat.reduceBEq, Nat.reduceGT, Nat.reduceLT, Int.toNat_zero, Nat.reduceLeDiff, Int.reduceEq, Int.reduceLT, Int.reduceLE, hP, hΓ, hL, hfin, String.reduceEq, not_false_eq_true, if_true, Int.toNat_one, h8, h10, h11, r1, r2, r3, he, h18, lwP])
  refine ⟨⟨hl, hb⟩, ⟨hl, hb⟩, by omega, ?_⟩
  generalize (newE S l).2 = A0 at *
  have hB := run_s hA0 (lnF x)
  have hfs := fsOf_mapF hA0.ok.so
  have hfs2 := fsOf_mapF hB.ok.so
  have hBl := hB.ok.le
  ((with_reducible refine exB_split (fun h => ?_) (fun h => ?_)) <;> (try simp only [decide_eq_true_eq, decide_eq_false_iff_not, Bool.and_eq_true, Bool.or_eq_true, Bool.and_eq_false_iff, Bool.or_eq_false_iff, Bool.not_eq_true', Bool.not_eq_false', Bool.not_eq_true, Bool.not_eq_false, Int.not_lt, Int.not_le, beq_iff_eq, beq_eq_false_iff_ne, ne_eq] at h))
  · ((first | with_reducible refine holds_of_ex X 400 _ _ _ ?_ | skip); simp (maxSteps := 1000000) only [push_cast, reduceCtorEq, Nat.reduceAdd, Nat.reduceMul, Nat.reduceSub, Nat.reduceBEq, Nat.reduceGT, Nat.reduceLT, Int.toNat_zero, Nat.reduceLeDiff, Int.reduceEq, Int.reduceLT, Int.reduceLE, hP, hΓ, hL, hfin, String.reduceEq, not_false_eq_true, if_true, Int.toNat_one])
    exact Into.keep0A
  ((first | with_reducible refine holds_of_ex X 400 _ _ _ ?_ | skip); simp (maxSteps := 1000000) only [push_cast, reduceCtorEq, Nat.reduceAdd, Nat.reduceMul, Nat.reduceSub, Nat.reduceBEq, Nat.reduceGT, Nat.reduceLT, Int.toNat_zero, Nat.reduceLeDiff, Int.reduceEq, Int.reduceLT, Int.reduceLE, hP, hΓ, hL, hfin, String.reduceEq, not_false_eq_true, if_true, Int.toNat_one, h19, hfs])
  refine ⟨⟨hA0, by omega⟩, ?_⟩
  (refine Holds.drawnS 6 (patH []) [1, 2, 3, 4, 5, 6, 7, 12, 13, 14] [] [] (patH [.fix (.row [.mp 1, .int .i64 S] 2 0), .fix (.raw (.map none (mapF (runF S A0 (lnF x)).2))), .fix (.row [.sl ((runF S A0 (lnF x)).2.flatMap fc) (runF S A0 (lnF x)).2.length, .int .i64 S] 2 0)]) false (by rw [hP]; kernel_rfl) (by kernel_rfl) (by kernel_rfl) (by kernel_rfl) (by kernel_rfl) (by decide) (by first | exact .inl rfl | exact .inr fun _ _ h => patH_app _ _ h) (by first | exact .inl rfl | exact .inr fun _ _ h => patH_app _ _ h) (by first | (simp only [push_cast]; done) | (simp only [push_cast, and_true]; omega)) ?_; simp (maxSteps := 1000000) only [↓reduceIte, Option.getD_some, List.take_succ_cons, List.take_zero, List.drop_succ_cons, List.drop_zero, push_cast, reduceCtorEq, Nat.reduceAdd, Nat.reduceMul, Nat.reduceSub, Nat.reduceBEq, Nat.reduceGT, Nat.reduceLT, Int.toNat_zero, Nat.reduceLeDiff, Int.reduceEq, Int.reduceLT, Int.reduceLE, hP, hΓ, hL, hfin, String.reduceEq, not_false_eq_true, if_true, Int.toNat_one, h20, h14, h15, hfs2, fm_all])
  refine ⟨⟨hA0, by omega⟩, hB, by omega, ?_⟩
  ((first | with_reducible refine holds_of_ex X 400 _ _ _ ?_ | skip); simp (maxSteps := 1000000) only [push_cast, reduceCtorEq, Nat.reduceAdd, Nat.reduceMul, Nat.reduceSub, Nat.reduceBEq, Nat.reduceGT, Nat.reduceLT, Int.toNat_zero, Nat.reduceLeDiff, Int.reduceEq, Int.reduceLT, Int.reduceLE, hP, hΓ, hL, hfin, String.reduceEq, not_false_eq_true, if_true, Int.toNat_one])
  exact Into.keep0A
end Go.Proofs.YtenopfmafecffaaGreatDoor.modelDone
