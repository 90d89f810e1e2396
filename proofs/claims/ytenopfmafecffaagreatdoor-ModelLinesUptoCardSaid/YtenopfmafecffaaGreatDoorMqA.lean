/- Of the model of a workstation: ModelDoes, walked. Conditions stand in each. -/
import Derived.Test.YtenopfmafecffaaGreatDoorPC
namespace Go.Proofs.YtenopfmafecffaaGreatDoor.modelDone
open Go Go.Eng Go.Proofs Go.Mdl Go.RowKit
open Go.Lines (pres)
open Go.Proofs.YtenopfmafecffaaGreatDoor.linesDone (linesS linesV lnF lrF lwP lines_eq)
set_option linter.unusedVariables false
set_option linter.unusedSimpArgs false
set_option maxRecDepth 100000
set_option maxHeartbeats 4000000
theorem rw_v {S : Int} {l : Fs} (h : (newE S l).1 = 0) : newV S l = .tup [.ref 0 0 0, .int .i64 0] := by rw [newV, if_pos h]
theorem rw_m {S : Int} {l : Fs} (h : (newE S l).1 = 0) : newMH S l = [.row [.mp 1, .int .i64 S] 2 0, .raw (.map none (mapF (newE S l).2))] := by rw [newMH, if_pos h]
theorem rw_h {S : Int} {l : Fs} (h : (newE S l).1 = 0) : newH S l = [.row [.sl ((newE S l).2.flatMap fc) (newE S l).2.length, .int .i64 S] 2 0] := by rw [newH, if_pos h]
theorem rn_v {S : Int} {l : Fs} (h : ¬ (newE S l).1 = 0) : newV S l = .tup [.lit (.pointer none), .int .i64 (newE S l).1] := by rw [newV, if_neg h]
theorem rn_m {S : Int} {l : Fs} (h : ¬ (newE S l).1 = 0) : newMH S l = [] := by rw [newMH, if_neg h]
theorem rn_h {S : Int} {l : Fs} (h : ¬ (newE S l).1 = 0) : newH S l = [] := by rw [newH, if_neg h]
theorem fm_all (A : Fs) : (A.flatMap fc).take (A.length * 2) = A.flatMap fc := List.take_of_length_le (by rw [len_fm]; omega)
def mineR (C : Fs) (j : Nat) : Fs := (C.take j).map (fun _ => ([109, 105, 110, 101], [])) ++ C.drop j
theorem mine_0 (C : Fs) : mineR C 0 = C := rfl
theorem mine_len (C : Fs) {j : Nat} (h : j ≤ C.length) : (mineR C j).length = C.length := by
  simp only [mineR, List.length_append, List.length_map, List.length_take, List.length_drop]; omega
theorem mine_s (C : Fs) {j : Nat} (h : j < C.length) : ((mineR C j).flatMap fc).take (j * 2) ++ [AV.str [109, 105, 110, 101], AV.str []] ++ ((mineR C j).flatMap fc).drop (j * 2 + 2) = (mineR C (j + 1)).flatMap fc := by
  have e : (mineR C j).take j ++ [([109, 105, 110, 101], [])] ++ (mineR C j).drop (j + 1) = mineR C (j + 1) := by
    have hl : ((C.take j).map (fun _ => (([109, 105, 110, 101], []) : Bytes × Bytes))).length = j := by simp; omega
    unfold mineR
    rw [List.take_append_of_le_length (by omega), List.take_of_length_le (by omega), List.drop_append, List.drop_eq_nil_of_le (by omega), List.nil_append, List.drop_drop, hl, take_get h]
    simp only [List.map_append, List.map_cons, List.map_nil]
    rw [show j + (j + 1 - j) = j + 1 by omega]
  rw [show j * 2 + 2 = (j + 1) * 2 by omega, tk_f, dr_f, ← e]
  simp only [List.flatMap_append, List.flatMap_cons, List.flatMap_nil, List.append_nil]
  rfl
theorem law3 (Γ : Env) (h8 : Γ 8 = some S8) (h9 : Γ 9 = some S9) (h10 : Γ 10 = some S10) (h11 : Γ 11 = some S11) (h12 : Γ 12 = some S12) (h13 : Γ 13 = some S13) (h14 : Γ 14 = some S14) (h15 : Γ 15 = some S15) (h16 : Γ 16 = some S16) (h17 : Γ 17 = some S17) (S : Int) (l : Fs) (ls : List Bytes) (hl : l.length ≤ 1000000) (hb : ∀ x ∈ l, x.1.length ≤ 4194304 ∧ x.2.length ≤ 1000000000) (hls : ls.length ≤ 4194304) : BodyOk Tryz.prog Γ Tryz.f3 [.int .i64 S, .sl (l.flatMap fc) l.length, .sl (ls.map .str) ls.length] [] (.bool true) [] := by
  by_cases he : (newE S l).1 = 0
  case neg =>
    have r1 := rn_v he
    have r2 := rn_m he
    have r3 := rn_h he
    (intro X hP hΓ hL hfin; refine ⟨_, rfl, ?_⟩; rw [show Tryz.f3.ntmps = 107 from rfl]; rw [show Tryz.f3.results.toList = [.tmp 6] from rfl] at hfin; apply holds_of_ex X 400; simp (maxSteps := 1000000) only [push_cast, reduceCtorEq, Nat.reduceAdd, Nat.reduceMul, Nat.reduceSub, Nat.reduceBEq, Nat.reduceGT, Nat.reduceLT, Int.toNat_zero, Nat.reduceLeDiff, Int.reduceEq, Int.reduceLT, Int.reduceLE, hP, hΓ, hL, hfin, String.reduceEq, not_false_eq_true, if_true, Int.toNat_one, h8, h9, h10, h11, r1, r2, r3, he])
    refine ⟨⟨hl, hb⟩, ⟨hl, hb⟩, ?_⟩
    refine Holds.loopM (ι := Unit) [false, false, true, false, false, false, false, false, false, true, false, true, false, false, false, false, false, false, false, false, false, false, false, false, false, false, false, false, false, false, false, false, false, false, false, false, false, false, false, false, false, false, false, false, false, false, false, false, false, false, false, false, false, false, false, false, false, false, false, false, false, false, false, false, false, false, false, false, false, false, false, false, false, false, false, false, false, false, false, false, false, false, false, false, false, false, false, false, false, false, false, false, false, false, false, false, false, false, false, false, false, false, false, false, false, false, false] (fun i => [(13, .int .i64 0)]) (fun i => []) (fun i => 0) () ?_ ?_
    · (rw [hL]; simp only [push_cast, Int.natCast_zero]; exact Into.sameA)
    rintro ⟨⟩
    rcases Decidable.em ((0 : Int) < ls.length) with c | c
    · ((first | with_reducible refine holds_of_ex X 400 _ _ _ ?_ | skip); simp (maxSteps := 1000000) only [push_cast, reduceCtorEq, Nat.reduceAdd, Nat.reduceMul, Nat.reduceSub, Nat.reduceBEq, Nat.reduceGT, Nat.reduceLT, Int.toNat_zero, Nat.reduceLeDiff, Int.reduceEq, Int.reduceLT, Int.reduceLE, hP, hΓ, hL, hfin, String.reduceEq, not_false_eq_true, if_true, Int.toNat_one, c])
      exact Into.sameA
    · ((first | with_reducible refine holds_of_ex X 400 _ _ _ ?_ | skip); simp (maxSteps := 1000000) only [push_cast, reduceCtorEq, Nat.reduceAdd, Nat.reduceMul, Nat.reduceSub, Nat.reduceBEq, Nat.reduceGT, Nat.reduceLT, Int.toNat_zero, Nat.reduceLeDiff, Int.reduceEq, Int.reduceLT, Int.reduceLE, hP, hΓ, hL, hfin, String.reduceEq, not_false_eq_true, if_true, Int.toNat_one, c])
      exact Into.sameA
  have r1 := rw_v he
  have r2 := rw_m he
  have r3 := rw_h he
  have hA0 := new_s he
  (intro X hP hΓ hL hfin; refine ⟨_, rfl, ?_⟩; rw [show Tryz.f3.ntmps = 107 from rfl]; rw [show Tryz.f3.results.toList = [.tmp 6] from rfl] at hfin; apply holds_of_ex X 400; simp (maxSteps := 1000000) only [push_cast, reduceCtorEq, Nat.reduceAdd, Nat.reduceMul, Nat.reduceSub, Nat.reduceBEq, Nat.reduceGT, Nat.reduceLT, Int.toNat_zero, Nat.reduceLeDiff, Int.reduceEq, Int.reduceLT, Int.reduceLE, hP, hΓ, hL, hfin, String.reduceEq, not_false_eq_true, if_true, Int.toNat_one, h8, h9, h10, h11, r1, r2, r3, he])
  refine ⟨⟨hl, hb⟩, ⟨hl, hb⟩, ?_⟩
  generalize (newE S l).2 = A0 at *
  refine Holds.loopM (ι := {k : Nat // k ≤ ls.length}) [false, false, true, false, false, false, false, false, false, true, false, true, false, false, false, false, false, false, false, false, false, false, false, false, false, false, false, false, false, false, false, false, false, false, false, false, false, false, false, false, false, false, false, false, false, false, false, false, false, false, false, false, false, false, false, false, false, false, false, false, false, false, false, false, false, false, false, false, false, false, false, false, false, false, false, false, false, false, false, false, false, false, false, false, false, false, false, false, false, false, false, false, false, false, false, false, false, false, false, false, false, false, false, false, false, false, false] (fun i => [(13, .int .i64 i.1)]) (fun i => [.row [.mp 1, .int .i64 S] 2 0, .raw (.map none (mapF (runF S A0 (ls.take i.1)).2)), .row [.sl ((runF S A0 (ls.take i.1)).2.flatMap fc) (runF S A0 (ls.take i.1)).2.length, .int .i64 S] 2 0]) (fun i => ls.length - i.1) ⟨0, Nat.zero_le _⟩ ?_ ?_
  · rw [hL]; simp only [List.take_zero, runF_0, push_cast, Int.natCast_zero]
    exact Into.sameA
  rintro ⟨k, hk⟩
  have hB := run_s hA0 (ls.take k)
  by_cases c1 : k < ls.length
  case neg =>
    have c1' : ¬ (k : Int) < (ls.length : Int) := by omega
    ((first | with_reducible refine holds_of_ex X 400 _ _ _ ?_ | skip); simp (maxSteps := 1000000) only [push_cast, reduceCtorEq, Nat.reduceAdd, Nat.reduceMul, Nat.reduceSub, Nat.reduceBEq, Nat.reduceGT, Nat.reduceLT, Int.toNat_zero, Nat.reduceLeDiff, Int.reduceEq, Int.reduceLT, Int.reduceLE, hP, hΓ, hL, hfin, String.reduceEq, not_false_eq_true, if_true, Int.toNat_one, c1'])
    exact Into.keep0A
  have c1' : (k : Int) < (ls.length : Int) := by omega
  by_cases c2 : k < 200
  case neg =>
    have c2' : ¬ (k : Int) < 200 := by omega
    ((first | with_reducible refine holds_of_ex X 400 _ _ _ ?_ | skip); simp (maxSteps := 1000000) only [push_cast, reduceCtorEq, Nat.reduceAdd, Nat.reduceMul, Nat.reduceSub, Nat.reduceBEq, Nat.reduceGT, Nat.reduceLT, Int.toNat_zero, Nat.reduceLeDiff, Int.reduceEq, Int.reduceLT, Int.reduceLE, hP, hΓ, hL, hfin, String.reduceEq, not_false_eq_true, if_true, Int.toNat_one, c1', c2'])
    exact Into.keep0A
  have c2' : (k : Int) < 200 := by omega
  have hn : ls.take (k + 1) = ls.take k ++ [ls.getD k default] := by rw [List.take_add_one, List.getD, List.getElem?_eq_getElem c1]; rfl
  have hr := run_snoc S A0 (ls.take k) (ls.getD k default)
  rw [← hn] at hr
  have hF1 : (runF S A0 (ls.take (k + 1))).2 = (doF S (runF S A0 (ls.take k)).2 (ls.getD k default)).2 := by rw [hr]
  generalize hx : ls.getD k default = x at *
  clear hn hr
  have hB2 := do_s hB x
  have hfs := fsOf_mapF hB.ok.so
  have hfs2 := fsOf_mapF hB2.ok.so
  generalize (runF S A0 (ls.take k)).2 = B at *
  have hl2 : 0 < ls.length - k := by omega
  ((first | with_reducible refine holds_of_ex X 400 _ _ _ ?_ | skip); simp (maxSteps := 1000000) only [push_cast, reduceCtorEq, Nat.reduceAdd, Nat.reduceMul, Nat.reduceSub, Nat.reduceBEq, Nat.reduceGT, Nat.reduceLT, Int.toNat_zero, Nat.reduceLeDiff, Int.reduceEq, Int.reduceLT, Int.reduceLE, hP, hΓ, hL, hfin, String.reduceEq, not_false_eq_true, if_true, Int.toNat_one, c1', c2'])
  (refine Holds.drawnE (patH []) [5, 11, 12] [] [] false (by rw [hP]; kernel_rfl) (by kernel_rfl) (by kernel_rfl) (by kernel_rfl) (by first | exact .inl rfl | exact .inr fun _ _ h => patH_app _ _ h) (by first | (simp only [push_cast]; done) | (simp only [push_cast, and_true]; omega)) ?_; simp (maxSteps := 1000000) only [↓reduceIte, Option.getD_some, push_cast, reduceCtorEq, Nat.reduceAdd, Nat.reduceMul, Nat.reduceSub, Nat.reduceBEq, Nat.reduceGT, Nat.reduceLT, Int.toNat_zero, Nat.reduceLeDiff, Int.reduceEq, Int.reduceLT, Int.reduceLE, hP, hΓ, hL, hfin, String.reduceEq, not_false_eq_true, if_true, Int.toNat_one, h12, h13, hx, c1', hl2, hfs])
  refine ⟨hB, hB, ?_⟩
  generalize (doF S B x).2 = C at *
  have hCl := hB2.ok.le
  have hC1 := hB2.ok
  have hS1 := hB2.lo
  have hS2 := hB2.hi
  ((first | with_reducible refine holds_of_ex X 400 _ _ _ ?_ | skip); simp (maxSteps := 1000000) only [push_cast, reduceCtorEq, Nat.reduceAdd, Nat.reduceMul, Nat.reduceSub, Nat.reduceBEq, Nat.reduceGT, Nat.reduceLT, Int.toNat_zero, Nat.reduceLeDiff, Int.reduceEq, Int.reduceLT, Int.reduceLE, hP, hΓ, hL, hfin, String.reduceEq, not_false_eq_true, if_true, Int.toNat_one, h14, h15, h16, h17, hfs2, fm_all])
  refine ⟨hB2, by omega, hB2, ⟨hC1, hS1, hS2⟩, ?_⟩
  refine Holds.loopM (ι := {j : Nat // j ≤ C.length}) [false, false, true, false, false, false, true, false, false, true, false, true, false, true, true, false, false, false, false, false, false, false, false, false, false, false, false, false, false, false, false, false, false, false, false, false, false, false, false, false, false, false, false, false, false, false, false, false, false, false, false, false, false, false, false, false, false, false, false, false, false, false, false, false, false, false, false, false, false, false, false, false, false, false, false, false, false, false, false, false, false, false, false, false, false, false, false, false, false, false, false, false, false, false, false, false, false, false, false, false, false, false, false, false, false, false, false] (fun i => [(16, .int .i64 i.1)]) (fun i => [.row [.mp 1, .int .i64 S] 2 0, .raw (.map none (mapF C)), .row [.sl (C.flatMap fc) C.length, .int .i64 S] 2 0, .row ((mineR C i.1).flatMap fc) 2 0]) (fun i => C.length - i.1) ⟨0, Nat.zero_le _⟩ ?_ ?_
  · rw [hL]; simp only [mine_0, push_cast, Int.natCast_zero]
    exact Into.sameA
  rintro ⟨j, hj⟩
  have hml : (mineR C j).length = C.length := mine_len C hj
  ((first | with_reducible refine holds_of_ex X 400 _ _ _ ?_ | skip); simp (maxSteps := 1000000) only [push_cast, reduceCtorEq, Nat.reduceAdd, Nat.reduceMul, Nat.reduceSub, Nat.reduceBEq, Nat.reduceGT, Nat.reduceLT, Int.toNat_zero, Nat.reduceLeDiff, Int.reduceEq, Int.reduceLT, Int.reduceLE, hP, hΓ, hL, hfin, String.reduceEq, not_false_eq_true, if_true, Int.toNat_one])
  ((with_reducible refine exB_split (fun h => ?_) (fun h => ?_)) <;> (try simp only [decide_eq_true_eq, decide_eq_false_iff_not, Bool.and_eq_true, Bool.or_eq_true, Bool.and_eq_false_iff, Bool.or_eq_false_iff, Bool.not_eq_true', Bool.not_eq_false', Bool.not_eq_true, Bool.not_eq_false, Int.not_lt, Int.not_le, beq_iff_eq, beq_eq_false_iff_ne, ne_eq] at h))
  · have hj' : j < C.length := by omega
    have hmn := mine_s C hj'
    ((first | with_reducible refine holds_of_ex X 400 _ _ _ ?_ | skip); simp (maxSteps := 1000000) only [push_cast, reduceCtorEq, Nat.reduceAdd, Nat.reduceMul, Nat.reduceSub, Nat.reduceBEq, Nat.reduceGT, Nat.reduceLT, Int.toNat_zero, Nat.reduceLeDiff, Int.reduceEq, Int.reduceLT, Int.reduceLE, hP, hΓ, hL, hfin, String.reduceEq, not_false_eq_true, if_true, Int.toNat_one, hml, hmn, wr_i64 ((j : Int) + 1) (by constructor <;> omega)])
    refine ⟨by omega, by omega, ⟨j + 1, hj'⟩, by simp only; omega, ?_⟩
    exact Into.sameA
  · ((first | with_reducible refine holds_of_ex X 400 _ _ _ ?_ | skip); simp (maxSteps := 1000000) only [push_cast, reduceCtorEq, Nat.reduceAdd, Nat.reduceMul, Nat.reduceSub, Nat.reduceBEq, Nat.reduceGT, Nat.reduceLT, Int.toNat_zero, Nat.reduceLeDiff, Int.reduceEq, Int.reduceLT, Int.reduceLE, hP, hΓ, hL, hfin, String.reduceEq, not_false_eq_true, if_true, Int.toNat_one, wr_i64 ((k : Int) + 1) (by constructor <;> omega)])
    refine ⟨⟨k + 1, c1⟩, by simp only; omega, ?_⟩
    simp only [hF1]
    exact Into.keep3A
end Go.Proofs.YtenopfmafecffaaGreatDoor.modelDone
