/- Of the model of a workstation: ModelQuiet, walked. Conditions stand in each. -/
import Derived.Test.YtenopfmafecffaaGreatDoorMqA
namespace Go.Proofs.YtenopfmafecffaaGreatDoor.modelDone
open Go Go.Eng Go.Proofs Go.Mdl Go.RowKit
open Go.Lines (pres)
set_option linter.unusedVariables false
set_option linter.unusedSimpArgs false
set_option maxRecDepth 100000
set_option maxHeartbeats 4000000
/-- what a changing command tells: that it was wrong and nothing changed, or nothing -/
def quietR (A : Fs) (r : Bytes × Fs) : Prop := (∃ n, r = (wrongT n, A)) ∨ r.1 = []
theorem write_q (S : Int) (A : Fs) (n d : Bytes) : quietR A (writeF S A n d) := by
  unfold writeF
  split
  · exact .inl ⟨_, rfl⟩
  split
  · exact .inr rfl
  · exact .inl ⟨_, rfl⟩
theorem copy_q (S : Int) (A : Fs) (a b : Bytes) : quietR A (copyF S A a b) := by
  unfold copyF
  split
  · exact .inl ⟨_, rfl⟩
  · exact write_q _ _ _ _
theorem rename_q (S : Int) (A : Fs) (a b : Bytes) : quietR A (renameF S A a b) := by
  unfold renameF
  split
  · exact .inl ⟨_, rfl⟩
  split
  · exact .inl ⟨_, rfl⟩
  split
  · exact .inl ⟨_, rfl⟩
  split
  · exact .inl ⟨_, rfl⟩
  · exact .inr rfl
theorem asks_wrong (n : Int) : (decide (1 < (wrongT n).length) && (wrongT n).take 2 == [63, 32]) = true := by
  simp only [wrongT, List.cons_append, List.nil_append, List.length_cons, List.take_succ_cons, List.take_zero, Bool.and_eq_true, decide_eq_true_eq, beq_self_eq_true, and_true, List.length_append]
  omega
theorem quiet_of {A : Fs} {c : Bytes} {r : Bytes × Fs} (h : quietR A r) (hc : qc c = false) : ((qc c || (decide (1 < r.1.length) && r.1.take 2 == [63, 32])) = true → r.2 = A) ∧ ((qc c || (decide (1 < r.1.length) && r.1.take 2 == [63, 32])) = false → r.1 = []) := by
  rcases h with ⟨n, rfl⟩ | h
  · rw [asks_wrong]; simp
  · rw [h, hc]; simp
theorem quiet_law (S : Int) (A : Fs) (l : Bytes) : (asksF l (doF S A l).1 = true → (doF S A l).2 = A) ∧ (asksF l (doF S A l).1 = false → (doF S A l).1 = []) := by
  have hPr := pres_pr l
  unfold asksF doF
  generalize (pres l).1 = c at *
  generalize (pres l).2.1 = w at *
  generalize (pres l).2.2.1 = t at *
  generalize (pres l).2.2.2 = e at *
  have qs : ∀ {c : Bytes} {r : Bytes × Fs}, qc c = true → r.2 = A → ((!decide ((0 : Nat) = 0) || qc c || (decide (1 < r.1.length) && r.1.take 2 == [63, 32])) = true → r.2 = A) ∧ ((!decide ((0 : Nat) = 0) || qc c || (decide (1 < r.1.length) && r.1.take 2 == [63, 32])) = false → r.1 = []) := fun h1 h2 => by rw [h1]; simp [h2]
  have qn : ∀ {c : Bytes} {r : Bytes × Fs}, qc c = false → quietR A r → ((!decide ((0 : Nat) = 0) || qc c || (decide (1 < r.1.length) && r.1.take 2 == [63, 32])) = true → r.2 = A) ∧ ((!decide ((0 : Nat) = 0) || qc c || (decide (1 < r.1.length) && r.1.take 2 == [63, 32])) = false → r.1 = []) := fun h1 h2 => by
    have := quiet_of h2 h1
    simpa using this
  cases hPr with
  | bad e he =>
    have h2 : ¬ e = 0 := by omega
    rw [if_neg h2, decide_eq_false h2]
    simp
  | nil =>
    rw [if_pos rfl]
    exact qs rfl (by rw [doC, if_pos rfl])
  | cm c w t hc hw ht =>
    rw [if_pos rfl]
    have one : ∀ k, w.length = k → k = 1 → ∃ a, w = [a] := fun k h1 h2 => List.length_eq_one_iff.1 (h1.trans h2)
    have two : ∀ k, w.length = k → k = 2 → ∃ a b, w = [a, b] := fun k h1 h2 => by
      match w, h1.trans h2 with
      | [a, b], _ => exact ⟨a, b, rfl⟩
    generalize hk : w.length = k at hc
    cases hc with
    | free => exact qs rfl (by rw [do_free])
    | dir => exact qs rfl (by rw [do_dir])
    | size =>
      obtain ⟨a, rfl⟩ := one _ hk rfl
      refine qs rfl ?_
      cases hh : has A a
      · rw [dn_size _ _ _ _ hh]
      · rw [do_size _ _ _ _ hh]
    | «show» =>
      obtain ⟨a, rfl⟩ := one _ hk rfl
      refine qs rfl ?_
      cases hh : has A a
      · rw [dn_show _ _ _ _ hh]
      · rw [do_show _ _ _ _ hh]
    | run =>
      obtain ⟨a, rfl⟩ := one _ hk rfl
      refine qs rfl ?_
      cases hh : has A a
      · rw [dn_run _ _ _ _ hh]
      · rw [do_run _ _ _ _ hh]
    | delete =>
      obtain ⟨a, rfl⟩ := one _ hk rfl
      refine qn rfl ?_
      cases hh : has A a
      · rw [dn_delete _ _ _ _ hh]; exact .inl ⟨_, rfl⟩
      · rw [do_delete _ _ _ _ hh]
        split
        · exact .inl ⟨_, rfl⟩
        · exact .inr rfl
    | rename =>
      obtain ⟨a, b, rfl⟩ := two _ hk rfl
      exact qn rfl (by rw [do_rename]; exact rename_q _ _ _ _)
    | copy =>
      obtain ⟨a, b, rfl⟩ := two _ hk rfl
      exact qn rfl (by rw [do_copy]; exact copy_q _ _ _ _)
    | put =>
      obtain ⟨a, rfl⟩ := one _ hk rfl
      exact qn rfl (by rw [do_put]; exact write_q _ _ _ _)
    | add =>
      obtain ⟨a, rfl⟩ := one _ hk rfl
      exact qn rfl (by rw [do_add]; exact write_q _ _ _ _)
theorem law6 (Γ : Env) (h8 : Γ 8 = some S8) (h10 : Γ 10 = some S10) (h11 : Γ 11 = some S11) (h12 : Γ 12 = some S12) (h14 : Γ 14 = some S14) (h15 : Γ 15 = some S15) (h16 : Γ 16 = some S16) (h21 : Γ 21 = some S21) (S : Int) (l : Fs) (ls : List Bytes) (hl : l.length ≤ 1000000) (hb : ∀ x ∈ l, x.1.length ≤ 4194304 ∧ x.2.length ≤ 1000000000) (hls : ls.length ≤ 4194304) : BodyOk Tryz.prog Γ Tryz.f6 [.int .i64 S, .sl (l.flatMap fc) l.length, .sl (ls.map .str) ls.length] [] (.bool true) [] := by
  by_cases he : (newE S l).1 = 0
  case neg =>
    have r1 := rn_v he
    have r2 := rn_m he
    have r3 := rn_h he
    (intro X hP hΓ hL hfin; refine ⟨_, rfl, ?_⟩; rw [show Tryz.f6.ntmps = 102 from rfl]; rw [show Tryz.f6.results.toList = [.tmp 6] from rfl] at hfin; apply holds_of_ex X 400; simp (maxSteps := 1000000) only [push_cast, reduceCtorEq, Nat.reduceAdd, Nat.reduceMul, Nat.reduceSub, Nat.reduceBEq, Nat.reduceGT, Nat.reduceLT, Int.toNat_zero, Nat.reduceLeDiff, Int.reduceEq, Int.reduceLT, Int.reduceLE, hP, hΓ, hL, hfin, String.reduceEq, not_false_eq_true, if_true, Int.toNat_one, h8, h10, h11, r1, r2, r3, he])
    refine ⟨⟨hl, hb⟩, ⟨hl, hb⟩, ?_⟩
    exact Into.sameA
  have r1 := rw_v he
  have r2 := rw_m he
  have r3 := rw_h he
  have hA0 := new_s he
  (intro X hP hΓ hL hfin; refine ⟨_, rfl, ?_⟩; rw [show Tryz.f6.ntmps = 102 from rfl]; rw [show Tryz.f6.results.toList = [.tmp 6] from rfl] at hfin; apply holds_of_ex X 400; simp (maxSteps := 1000000) only [push_cast, reduceCtorEq, Nat.reduceAdd, Nat.reduceMul, Nat.reduceSub, Nat.reduceBEq, Nat.reduceGT, Nat.reduceLT, Int.toNat_zero, Nat.reduceLeDiff, Int.reduceEq, Int.reduceLT, Int.reduceLE, hP, hΓ, hL, hfin, String.reduceEq, not_false_eq_true, if_true, Int.toNat_one, h8, h10, h11, r1, r2, r3, he])
  refine ⟨⟨hl, hb⟩, ⟨hl, hb⟩, ?_⟩
  generalize (newE S l).2 = A0 at *
  refine Holds.loopM (ι := {k : Nat // k ≤ ls.length}) [false, false, true, false, false, false, false, false, true, false, false, false, false, false, false, false, false, false, false, false, false, false, false, false, false, false, false, false, false, false, false, false, false, false, false, false, false, false, false, false, false, false, false, false, false, false, false, false, false, false, false, false, false, false, false, false, false, false, false, false, false, false, false, false, false, false, false, false, false, false, false, false, false, false, false, false, false, false, false, false, false, false, false, false, false, false, false, false, false, false, false, false, false, false, false, false, false, false, false, false, false, false] (fun i => [(12, .int .i64 i.1)]) (fun i => [.row [.mp 1, .int .i64 S] 2 0, .raw (.map none (mapF (runF S A0 (ls.take i.1)).2)), .row [.sl (A0.flatMap fc) A0.length, .int .i64 S] 2 0]) (fun i => ls.length - i.1) ⟨0, Nat.zero_le _⟩ ?_ ?_
  · rw [hL]; simp only [List.take_zero, runF_0, push_cast, Int.natCast_zero]
    exact Into.sameA
  rintro ⟨k, hk⟩
  have hB := run_s hA0 (ls.take k)
  ((first | with_reducible refine holds_of_ex X 400 _ _ _ ?_ | skip); simp (maxSteps := 1000000) only [push_cast, reduceCtorEq, Nat.reduceAdd, Nat.reduceMul, Nat.reduceSub, Nat.reduceBEq, Nat.reduceGT, Nat.reduceLT, Int.toNat_zero, Nat.reduceLeDiff, Int.reduceEq, Int.reduceLT, Int.reduceLE, hP, hΓ, hL, hfin, String.reduceEq, not_false_eq_true, if_true, Int.toNat_one])
  ((with_reducible refine exB_split (fun h => ?_) (fun h => ?_)) <;> (try simp only [decide_eq_true_eq, decide_eq_false_iff_not, Bool.and_eq_true, Bool.or_eq_true, Bool.and_eq_false_iff, Bool.or_eq_false_iff, Bool.not_eq_true', Bool.not_eq_false', Bool.not_eq_true, Bool.not_eq_false, Int.not_lt, Int.not_le, beq_iff_eq, beq_eq_false_iff_ne, ne_eq] at h))
  · have c1 : k < ls.length := by omega
    have c1' : (k : Int) < (ls.length : Int) := by omega
    have hn : ls.take (k + 1) = ls.take k ++ [ls.getD k default] := by rw [List.take_add_one, List.getD, List.getElem?_eq_getElem c1]; rfl
    have hr := run_snoc S A0 (ls.take k) (ls.getD k default)
    rw [← hn] at hr
    have hF1 : (runF S A0 (ls.take (k + 1))).2 = (doF S (runF S A0 (ls.take k)).2 (ls.getD k default)).2 := by rw [hr]
    generalize hx : ls.getD k default = x at *
    clear hn hr
    have hB2 := do_s hB x
    have hfs := fsOf_mapF hB.ok.so
    have hfs2 := fsOf_mapF hB2.ok.so
    generalize (runF S A0 (ls.take k)).2 = B at *
    have hq := quiet_law S B x
    have hdl := do_l hB x
    have hl2 : 0 < ls.length - k := by omega
    have hBl := hB.ok.le
    cases hq1 : asksF x (doF S B x).1
    case true =>
      have hs := hq.1 hq1
      ((first | with_reducible refine holds_of_ex X 400 _ _ _ ?_ | skip); simp (maxSteps := 1000000) only [push_cast, reduceCtorEq, Nat.reduceAdd, Nat.reduceMul, Nat.reduceSub, Nat.reduceBEq, Nat.reduceGT, Nat.reduceLT, Int.toNat_zero, Nat.reduceLeDiff, Int.reduceEq, Int.reduceLT, Int.reduceLE, hP, hΓ, hL, hfin, String.reduceEq, not_false_eq_true, if_true, Int.toNat_one, h14, h16, h12, hfs, c1', hl2, hx, h21, hq1, hs, h15, fm_all, wr_i64 ((k : Int) + 1) (by constructor <;> omega)])
      refine ⟨hB, hB, hB, by omega, hB, by omega, hB, ⟨k + 1, c1⟩, by simp only; omega, ?_⟩
      simp only [hF1, hs]
      exact Into.keep3A
    case false =>
      have ht := hq.2 hq1
      rw [ht] at hq1
      have rsE := fun m => rs15 B B.length [] m
      simp only [List.flatMap_nil] at rsE
      ((first | with_reducible refine holds_of_ex X 400 _ _ _ ?_ | skip); simp (maxSteps := 1000000) only [push_cast, reduceCtorEq, Nat.reduceAdd, Nat.reduceMul, Nat.reduceSub, Nat.reduceBEq, Nat.reduceGT, Nat.reduceLT, Int.toNat_zero, Nat.reduceLeDiff, Int.reduceEq, Int.reduceLT, Int.reduceLE, hP, hΓ, hL, hfin, String.reduceEq, not_false_eq_true, if_true, Int.toNat_one, rsE, h14, h16, h12, hfs, c1', hl2, hx, h21, hq1, ht, h15, fm_all, hfs2, wr_i64 ((k : Int) + 1) (by constructor <;> omega)])
      refine ⟨hB, hB, hB, ⟨k + 1, c1⟩, by simp only; omega, ?_⟩
      simp only [hF1]
      exact Into.keep3A
  · ((first | with_reducible refine holds_of_ex X 400 _ _ _ ?_ | skip); simp (maxSteps := 1000000) only [push_cast, reduceCtorEq, Nat.reduceAdd, Nat.reduceMul, Nat.reduceSub, Nat.reduceBEq, Nat.reduceGT, Nat.reduceLT, Int.toNat_zero, Nat.reduceLeDiff, Int.reduceEq, Int.reduceLT, Int.reduceLE, hP, hΓ, hL, hfin, String.reduceEq, not_false_eq_true, if_true, Int.toNat_one])
    exact Into.keep0A
end Go.Proofs.YtenopfmafecffaaGreatDoor.modelDone
