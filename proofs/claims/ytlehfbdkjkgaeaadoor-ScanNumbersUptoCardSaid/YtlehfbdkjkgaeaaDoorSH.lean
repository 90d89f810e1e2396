/- Of sources: tokens written anew are read as themselves. Conditions stand in each. -/
import Derived.Test.YtlehfbdkjkgaeaaDoorSE
import Derived.Test.YtlehfbdkjkgaeaaDoorSG
import Derived.Test.YtlehfbdkjkgaeaaDoorScE
namespace Go.Proofs.YtlehfbdkjkgaeaaDoor.scanDone
open Go Go.Eng Go.Proofs Go.Scan Go.RowKit
set_option linter.unusedVariables false
set_option linter.unusedSimpArgs false
set_option maxRecDepth 100000
set_option maxHeartbeats 4000000

/-- tokens of a source, what is written of them -/
theorem again (s : Bytes) (hok : okS s) (r : List Bool) : ∃ (T U : List Tk) (B : Nat → Bytes) (P : Nat → List Int), T = toks s ∧ T.length ≤ 16385 ∧ (∀ k, k < T.length → (T.getD k default).text.length ≤ 4194304) ∧ B 0 = [] ∧ P 0 = [] ∧
    (∀ k, k ≤ T.length → (B k).length ≤ 4000000 ∧ (P k).length = k) ∧
    (∀ k, k < T.length → B (k + 1) = B k ++ ((if k = 0 then [] else spR r k) ++ writ (T.getD k default)) ∧ P (k + 1) = P k ++ [((B k).length : Int) + (if k = 0 then [] else spR r k).length]) ∧
    ((B T.length).length ≤ 16384 → okS (B T.length) ∧ toks (B T.length) = U) ∧ U.length = T.length ∧
    ∀ i < T.length, (U.getD i default).kind = (T.getD i default).kind ∧ (U.getD i default).text = (T.getD i default).text ∧ (U.getD i default).n = (T.getD i default).n ∧ (P T.length).getD i 0 = (U.getD i default).pl := by
  have hT : toks s = (rd s 0).l ++ [fin0 (rd s 0).pl] := rfl
  have hg := rd_good (s.length + 1) s 0 (Nat.lt_succ_self _)
  have hf : ∀ t ∈ toks s, fine t := by
    intro t ht
    rw [hT, List.mem_append, List.mem_singleton] at ht
    rcases ht with ht | ht
    · exact .inl (hg t ht)
    · exact .inr ⟨_, ht⟩
  have hn : (toks s).length ≤ 16385 := by have := count s; have := hok.1; rw [hT, List.length_append]; simp; omega
  obtain ⟨a1, a2, a3⟩ := anew (spR r) (spR_or r) _ (rd s 0).pl hg (toks s) _ hT rfl
  refine ⟨toks s, whole (rd (jn (spR r) 0 (toks s)) 0), fun k => jn (spR r) 0 ((toks s).take k), fun k => jp (spR r) 0 0 ((toks s).take k), rfl, hn, ?_, rfl, rfl, ?_, ?_, ?_, a2, ?_⟩
  · intro k hk
    have hm : (toks s).getD k default ∈ toks s := by simp [List.getD, hk]
    generalize (toks s).getD k default = t at hm
    rcases hf t hm with (⟨_, _, h⟩ | ⟨_, _, _, h, _⟩ | ⟨_, h, _⟩ | ⟨_, h, _⟩ | ⟨_, _, h, _⟩ | ⟨_, _, h⟩) | ⟨p, rfl⟩
    · have := kws_len t.text (by simpa using h); omega
    · omega
    · rw [h]; simp
    · rw [h]; simp
    · omega
    · rcases h with h | ⟨c, h, _⟩
      · have : t.text ∈ sg2 := by simpa using h
        have : ∀ w ∈ sg2, w.length = 2 := by decide
        have := this _ ‹_›
        omega
      · rw [h]; simp
    · simp [fin0]
  · intro k hk
    have := jn_len (spR r) (spR_len r) ((toks s).take k) 0 (fun t ht => hf t (List.mem_of_mem_take ht))
    rw [List.length_take] at this
    simp only [jp_len, List.length_take]
    exact ⟨by omega, by omega⟩
  · intro k hk
    have e : (toks s).take (k + 1) = (toks s).take k ++ [(toks s).getD k default] := by
      rw [List.take_succ_eq_append_getElem hk]; simp [List.getD, hk]
    have hl : ((toks s).take k).length = k := by rw [List.length_take]; omega
    simp only [e, jn_snoc, jp_snoc, hl, Nat.zero_add, Int.zero_add, and_self]
  · intro h
    simp only [List.take_length] at h ⊢
    exact ⟨⟨h, a1⟩, rfl⟩
  · simp only [List.take_length]; exact a3
theorem law4a (Γ : Env) (h6 : Γ 6 = some S6) (h7 : Γ 7 = some Fz.S7) (s : Bytes) (hl : s.length ≤ 4194304) (hno : ¬ okS s) (r : List Bool) : BodyOk Tryd.prog Γ Tryd.f4 [.str s, .sl (r.map .bool) r.length] [] (.bool true) [] := by
  have hr : Fz.rF s = .tup [.lit (.slice none 0 0), .int .i64 (badP s), .int .i64 (badE s)] := by rw [Fz.rF, if_neg hno]
  have he : badE s ≠ 0 := by
    unfold badE
    split
    · decide
    · intro h; exact hno ⟨by omega, h⟩
  (intro X hP hΓ hL hfin; refine ⟨_, rfl, ?_⟩; rw [show Tryd.f4.ntmps = 153 from rfl]; rw [show Tryd.f4.results.toList = [.tmp 4] from rfl] at hfin; apply holds_of_ex X 400; simp (maxSteps := 1000000) only [push_cast, reduceCtorEq, Nat.reduceAdd, Nat.reduceMul, Nat.reduceSub, Nat.reduceBEq, Nat.reduceGT, Nat.reduceLT, Int.toNat_zero, Nat.reduceLeDiff, Int.reduceEq, Int.reduceLT, Int.reduceLE, hP, hΓ, hL, hfin, String.reduceEq, not_false_eq_true, if_true, h6, h7, hr])
  refine ⟨hl, ?_⟩
  generalize badE s = e at he
  generalize badP s = p
  have hd : decide (e = 0) = false := by simpa using he
  ((first | with_reducible refine holds_of_ex X 400 _ _ _ ?_ | skip); simp (maxSteps := 1000000) only [push_cast, reduceCtorEq, Nat.reduceAdd, Nat.reduceMul, Nat.reduceSub, Nat.reduceBEq, Nat.reduceGT, Nat.reduceLT, Int.toNat_zero, Nat.reduceLeDiff, Int.reduceEq, Int.reduceLT, Int.reduceLE, hP, hΓ, hL, hfin, String.reduceEq, not_false_eq_true, if_true, hd])
  exact Into.one rfl rfl
theorem cell_fm : ∀ (l : List Tk) (k : Nat), k < l.length → List.take 4 (List.drop (k * 4) (l.flatMap Tk.c)) = (l.getD k default).c
  | [], k, h => by cases h
  | x :: l, 0, _ => rfl
  | x :: l, k + 1, h => by
    have := cell_fm l k (by simpa using h)
    rw [show (x :: l).getD (k + 1) default = l.getD k default from rfl, ← this, show (k + 1) * 4 = k * 4 + 4 by omega]
    rfl
theorem law4b (Γ : Env) (h6 : Γ 6 = some S6) (h7 : Γ 7 = some Fz.S7) (h10 : Γ 10 = some S10) (s : Bytes) (hok : okS s) (r : List Bool) (hrl : r.length ≤ 4194304) : BodyOk Tryd.prog Γ Tryd.f4 [.str s, .sl (r.map .bool) r.length] [] (.bool true) [] := by
  have hl := hok.1
  have hr : Fz.rF s = .tup [.sl ((toks s).flatMap Tk.c) (toks s).length, .int .i64 0, .int .i64 0] := by rw [Fz.rF, if_pos hok]
  obtain ⟨T, U, B, P, hT, hTm, htx, hB0, hP0, hBP, hst, hU, hUl, hall⟩ := again s hok r
  rw [← hT] at hr
  (intro X hP hΓ hL hfin; refine ⟨_, rfl, ?_⟩; rw [show Tryd.f4.ntmps = 153 from rfl]; rw [show Tryd.f4.results.toList = [.tmp 4] from rfl] at hfin; apply holds_of_ex X 400; simp (maxSteps := 1000000) only [push_cast, reduceCtorEq, Nat.reduceAdd, Nat.reduceMul, Nat.reduceSub, Nat.reduceBEq, Nat.reduceGT, Nat.reduceLT, Int.toNat_zero, Nat.reduceLeDiff, Int.reduceEq, Int.reduceLT, Int.reduceLE, hP, hΓ, hL, hfin, String.reduceEq, not_false_eq_true, if_true, h6, h7, hr])
  refine ⟨by omega, ?_⟩
  refine Holds.loopM (ι := {k : Nat // k ≤ T.length}) [false, true, false, false, true, true, false, false, false, false, false, false, true, true, true, true, false, false, false, false, false, false, false, false, false, false, false, false, false, false, false, false, false, false, false, false, false, false, false, false, false, false, false, false, false, false, false, false, false, false, false, false, false, false, false, false, false, false, false, false, false, false, false, false, false, false, false, false, false, false, false, false, false, false, false, false, false, false, false, false, false, false, false, false, false, false, false, false, false, false, false, false, false, false, false, false, false, false, false, false, false, false, false, false, false, false, false, false, false, false, false, false, false, false, false, false, false, false, false, false, false, false, false, false, false, false, false, false, false, false, false, false, false, false, false, false, false, false, false, false, false, false, false, false, false, false, false, false, false, false, false, false, false] (fun i => [(9, .msl 0 0 0 (B i.1).length), (10, .msl 1 0 0 (P i.1).length), (11, .int .i64 i.1)]) (fun i => [.row ((B i.1).map byteAV) 1 0, .row ((P i.1).map (AV.int .i64)) 1 0]) (fun i => T.length - i.1) ⟨0, Nat.zero_le _⟩ ?_ ?_
  · rw [hL]
    (refine IntoF.nil 9  1 rfl ?_; simp only [push_cast, reduceCtorEq, Nat.reduceAdd, Nat.reduceMul, Nat.reduceSub, Nat.reduceBEq, Nat.reduceGT, Nat.reduceLT, Int.toNat_zero, Nat.reduceLeDiff, Int.reduceEq, Int.reduceLT, Int.reduceLE])
    (refine IntoF.nil 10  1 rfl ?_; simp only [push_cast, reduceCtorEq, Nat.reduceAdd, Nat.reduceMul, Nat.reduceSub, Nat.reduceBEq, Nat.reduceGT, Nat.reduceLT, Int.toNat_zero, Nat.reduceLeDiff, Int.reduceEq, Int.reduceLT, Int.reduceLE])
    simp only [hB0, hP0, List.length_nil, List.map_nil, Int.natCast_zero]
    exact Into.sameA
  rintro ⟨k, hk⟩
  obtain ⟨hb, hp⟩ := hBP k hk
  ((first | with_reducible refine holds_of_ex X 400 _ _ _ ?_ | skip); simp (maxSteps := 1000000) only [push_cast, reduceCtorEq, Nat.reduceAdd, Nat.reduceMul, Nat.reduceSub, Nat.reduceBEq, Nat.reduceGT, Nat.reduceLT, Int.toNat_zero, Nat.reduceLeDiff, Int.reduceEq, Int.reduceLT, Int.reduceLE, hP, hΓ, hL, hfin, String.reduceEq, not_false_eq_true, if_true])
  ((with_reducible refine exB_split (fun h => ?_) (fun h => ?_)) <;> (try simp only [decide_eq_true_eq, decide_eq_false_iff_not, Bool.and_eq_true, Bool.or_eq_true, Bool.and_eq_false_iff, Bool.or_eq_false_iff, Bool.not_eq_true', Bool.not_eq_false', Bool.not_eq_true, Bool.not_eq_false, Int.not_lt, Int.not_le, beq_iff_eq, beq_eq_false_iff_ne, ne_eq] at h))
  · have hk' : k < T.length := by omega
    obtain ⟨s1, s2⟩ := hst k hk'
    have ht := htx k hk'
    obtain ⟨hb1, hp1⟩ := hBP (k + 1) (by omega)
    have hlen := congrArg List.length s1
    have hcell := cell_fm T k hk'
    generalize T.getD k default = t at *
    have hsp : spR r k = if k ≤ r.length ∧ r.getD (k - 1) default = true then REM else [32] := rfl
    ((first | with_reducible refine holds_of_ex X 400 _ _ _ ?_ | skip); simp (maxSteps := 1000000) only [push_cast, reduceCtorEq, Nat.reduceAdd, Nat.reduceMul, Nat.reduceSub, Nat.reduceBEq, Nat.reduceGT, Nat.reduceLT, Int.toNat_zero, Nat.reduceLeDiff, Int.reduceEq, Int.reduceLT, Int.reduceLE, hP, hΓ, hL, hfin, String.reduceEq, not_false_eq_true, if_true, h10, hk', wr_i64 ((k : Int) - 1) (by constructor <;> omega), wr_i64 ((k : Int) + 1) (by constructor <;> omega)])
    generalize r.getD (k - 1) default = y at *
    refine ⟨fun h => ?_, fun h => ?_, ?_⟩
    · simp only [Bool.and_eq_true, decide_eq_true_eq] at h; omega
    · simp only [Bool.and_eq_true, decide_eq_true_eq] at h; omega
    ((with_reducible refine exB_split (fun h => ?_) (fun h => ?_)) <;> (try simp only [decide_eq_true_eq, decide_eq_false_iff_not, Bool.and_eq_true, Bool.or_eq_true, Bool.and_eq_false_iff, Bool.or_eq_false_iff, Bool.not_eq_true', Bool.not_eq_false', Bool.not_eq_true, Bool.not_eq_false, Int.not_lt, Int.not_le, beq_iff_eq, beq_eq_false_iff_ne, ne_eq] at h))
    · obtain ⟨⟨g1, g2⟩, g3⟩ := h
      have hsep : (if k = 0 then [] else spR r k) = REM := by rw [if_neg (by omega), hsp, if_pos ⟨by omega, g3⟩]
      rw [hsep] at s1 s2 hlen
      have eB : (B k).map byteAV ++ ([byteAV 40, byteAV 42, byteAV 40, byteAV 42, byteAV 42, byteAV 41, byteAV 34, byteAV 42, byteAV 41] : List AV) ++ (writ t).map byteAV = (B (k + 1)).map byteAV := by rw [s1]; simp [REM]
      have eP : (P k).map (AV.int .i64) ++ [AV.int .i64 (((B k).length : Int) + 1 + 1 + 1 + 1 + 1 + 1 + 1 + 1 + 1)] = (P (k + 1)).map (AV.int .i64) := by rw [s2]; simp [REM]; omega
      have eL : (B k).length + 9 + (writ t).length = (B (k + 1)).length := by rw [hlen]; simp [REM]; omega
      have eN : (P k).length + 1 = (P (k + 1)).length := by omega
      ((first | with_reducible refine holds_of_ex X 400 _ _ _ ?_ | skip); simp (maxSteps := 1000000) only [push_cast, reduceCtorEq, Nat.reduceAdd, Nat.reduceMul, Nat.reduceSub, Nat.reduceBEq, Nat.reduceGT, Nat.reduceLT, Int.toNat_zero, Nat.reduceLeDiff, Int.reduceEq, Int.reduceLT, Int.reduceLE, hP, hΓ, hL, hfin, String.reduceEq, not_false_eq_true, if_true, h10, hcell, wr_i64 ((k : Int) + 1) (by constructor <;> omega)])
      refine ⟨⟨rfl, by omega⟩, by omega, by omega, by omega, by omega, by omega, ⟨k + 1, by omega⟩, by simp only; omega, ?_⟩
      simp only [eB, eP, eL, eN]
      (refine IntoF.ver 0  0 (by simp only [push_cast, reduceCtorEq, Nat.reduceAdd, Nat.reduceMul, Nat.reduceSub, Nat.reduceBEq, Nat.reduceGT, Nat.reduceLT, Int.toNat_zero, Nat.reduceLeDiff, Int.reduceEq, Int.reduceLT, Int.reduceLE]) (by first | exact .inr (Nat.zero_le _) | (left; simp only [push_cast, reduceCtorEq, Nat.reduceAdd, Nat.reduceMul, Nat.reduceSub, Nat.reduceBEq, Nat.reduceGT, Nat.reduceLT, Int.toNat_zero, Nat.reduceLeDiff, Int.reduceEq, Int.reduceLT, Int.reduceLE]; omega) | (right; simp only [push_cast, reduceCtorEq, Nat.reduceAdd, Nat.reduceMul, Nat.reduceSub, Nat.reduceBEq, Nat.reduceGT, Nat.reduceLT, Int.toNat_zero, Nat.reduceLeDiff, Int.reduceEq, Int.reduceLT, Int.reduceLE]; omega)) ?_; simp only [push_cast, reduceCtorEq, Nat.reduceAdd, Nat.reduceMul, Nat.reduceSub, Nat.reduceBEq, Nat.reduceGT, Nat.reduceLT, Int.toNat_zero, Nat.reduceLeDiff, Int.reduceEq, Int.reduceLT, Int.reduceLE])
      (refine IntoF.ver 1  0 (by simp only [push_cast, reduceCtorEq, Nat.reduceAdd, Nat.reduceMul, Nat.reduceSub, Nat.reduceBEq, Nat.reduceGT, Nat.reduceLT, Int.toNat_zero, Nat.reduceLeDiff, Int.reduceEq, Int.reduceLT, Int.reduceLE]) (by first | exact .inr (Nat.zero_le _) | (left; simp only [push_cast, reduceCtorEq, Nat.reduceAdd, Nat.reduceMul, Nat.reduceSub, Nat.reduceBEq, Nat.reduceGT, Nat.reduceLT, Int.toNat_zero, Nat.reduceLeDiff, Int.reduceEq, Int.reduceLT, Int.reduceLE]; omega) | (right; simp only [push_cast, reduceCtorEq, Nat.reduceAdd, Nat.reduceMul, Nat.reduceSub, Nat.reduceBEq, Nat.reduceGT, Nat.reduceLT, Int.toNat_zero, Nat.reduceLeDiff, Int.reduceEq, Int.reduceLT, Int.reduceLE]; omega)) ?_; simp only [push_cast, reduceCtorEq, Nat.reduceAdd, Nat.reduceMul, Nat.reduceSub, Nat.reduceBEq, Nat.reduceGT, Nat.reduceLT, Int.toNat_zero, Nat.reduceLeDiff, Int.reduceEq, Int.reduceLT, Int.reduceLE])
      exact Into.keep2A
    have hno : k ≠ 0 → spR r k = [32] := fun h0 => by
      rw [hsp, if_neg]
      rintro ⟨g1, g2⟩
      rcases h with (h | h) | h
      · omega
      · omega
      · rw [g2] at h; cases h
    ((first | with_reducible refine holds_of_ex X 400 _ _ _ ?_ | skip); simp (maxSteps := 1000000) only [push_cast, reduceCtorEq, Nat.reduceAdd, Nat.reduceMul, Nat.reduceSub, Nat.reduceBEq, Nat.reduceGT, Nat.reduceLT, Int.toNat_zero, Nat.reduceLeDiff, Int.reduceEq, Int.reduceLT, Int.reduceLE, hP, hΓ, hL, hfin, String.reduceEq, not_false_eq_true, if_true])
    ((with_reducible refine exB_split (fun h => ?_) (fun h => ?_)) <;> (try simp only [decide_eq_true_eq, decide_eq_false_iff_not, Bool.and_eq_true, Bool.or_eq_true, Bool.and_eq_false_iff, Bool.or_eq_false_iff, Bool.not_eq_true', Bool.not_eq_false', Bool.not_eq_true, Bool.not_eq_false, Int.not_lt, Int.not_le, beq_iff_eq, beq_eq_false_iff_ne, ne_eq] at h))
    · have hsep : (if k = 0 then [] else spR r k) = [32] := by rw [if_neg (by omega), hno (by omega)]
      rw [hsep] at s1 s2 hlen
      have eB : (B k).map byteAV ++ ([AV.int .u8 32] : List AV) ++ (writ t).map byteAV = (B (k + 1)).map byteAV := by rw [s1]; simp [REM]; rfl
      have eP : (P k).map (AV.int .i64) ++ [AV.int .i64 (((B k).length : Int) + 1)] = (P (k + 1)).map (AV.int .i64) := by rw [s2]; simp [REM]
      have eL : (B k).length + 1 + (writ t).length = (B (k + 1)).length := by rw [hlen]; simp [REM]; omega
      have eN : (P k).length + 1 = (P (k + 1)).length := by omega
      ((first | with_reducible refine holds_of_ex X 400 _ _ _ ?_ | skip); simp (maxSteps := 1000000) only [push_cast, reduceCtorEq, Nat.reduceAdd, Nat.reduceMul, Nat.reduceSub, Nat.reduceBEq, Nat.reduceGT, Nat.reduceLT, Int.toNat_zero, Nat.reduceLeDiff, Int.reduceEq, Int.reduceLT, Int.reduceLE, hP, hΓ, hL, hfin, String.reduceEq, not_false_eq_true, if_true, h10, hcell, wr_i64 ((k : Int) + 1) (by constructor <;> omega)])
      refine ⟨by omega, by omega, by omega, by omega, by omega, by omega, ⟨k + 1, by omega⟩, by simp only; omega, ?_⟩
      simp only [eB, eP, eL, eN]
      (refine IntoF.ver 0  0 (by simp only [push_cast, reduceCtorEq, Nat.reduceAdd, Nat.reduceMul, Nat.reduceSub, Nat.reduceBEq, Nat.reduceGT, Nat.reduceLT, Int.toNat_zero, Nat.reduceLeDiff, Int.reduceEq, Int.reduceLT, Int.reduceLE]) (by first | exact .inr (Nat.zero_le _) | (left; simp only [push_cast, reduceCtorEq, Nat.reduceAdd, Nat.reduceMul, Nat.reduceSub, Nat.reduceBEq, Nat.reduceGT, Nat.reduceLT, Int.toNat_zero, Nat.reduceLeDiff, Int.reduceEq, Int.reduceLT, Int.reduceLE]; omega) | (right; simp only [push_cast, reduceCtorEq, Nat.reduceAdd, Nat.reduceMul, Nat.reduceSub, Nat.reduceBEq, Nat.reduceGT, Nat.reduceLT, Int.toNat_zero, Nat.reduceLeDiff, Int.reduceEq, Int.reduceLT, Int.reduceLE]; omega)) ?_; simp only [push_cast, reduceCtorEq, Nat.reduceAdd, Nat.reduceMul, Nat.reduceSub, Nat.reduceBEq, Nat.reduceGT, Nat.reduceLT, Int.toNat_zero, Nat.reduceLeDiff, Int.reduceEq, Int.reduceLT, Int.reduceLE])
      (refine IntoF.ver 1  0 (by simp only [push_cast, reduceCtorEq, Nat.reduceAdd, Nat.reduceMul, Nat.reduceSub, Nat.reduceBEq, Nat.reduceGT, Nat.reduceLT, Int.toNat_zero, Nat.reduceLeDiff, Int.reduceEq, Int.reduceLT, Int.reduceLE]) (by first | exact .inr (Nat.zero_le _) | (left; simp only [push_cast, reduceCtorEq, Nat.reduceAdd, Nat.reduceMul, Nat.reduceSub, Nat.reduceBEq, Nat.reduceGT, Nat.reduceLT, Int.toNat_zero, Nat.reduceLeDiff, Int.reduceEq, Int.reduceLT, Int.reduceLE]; omega) | (right; simp only [push_cast, reduceCtorEq, Nat.reduceAdd, Nat.reduceMul, Nat.reduceSub, Nat.reduceBEq, Nat.reduceGT, Nat.reduceLT, Int.toNat_zero, Nat.reduceLeDiff, Int.reduceEq, Int.reduceLT, Int.reduceLE]; omega)) ?_; simp only [push_cast, reduceCtorEq, Nat.reduceAdd, Nat.reduceMul, Nat.reduceSub, Nat.reduceBEq, Nat.reduceGT, Nat.reduceLT, Int.toNat_zero, Nat.reduceLeDiff, Int.reduceEq, Int.reduceLT, Int.reduceLE])
      exact Into.keep2A
    · have hsep : (if k = 0 then [] else spR r k) = [] := by rw [if_pos (by omega)]
      rw [hsep] at s1 s2 hlen
      have eB : (B k).map byteAV ++ (writ t).map byteAV = (B (k + 1)).map byteAV := by rw [s1]; simp [REM]
      have eP : (P k).map (AV.int .i64) ++ [AV.int .i64 (((B k).length : Int))] = (P (k + 1)).map (AV.int .i64) := by rw [s2]; simp [REM]
      have eL : (B k).length + (writ t).length = (B (k + 1)).length := by rw [hlen]; simp [REM]
      have eN : (P k).length + 1 = (P (k + 1)).length := by omega
      ((first | with_reducible refine holds_of_ex X 400 _ _ _ ?_ | skip); simp (maxSteps := 1000000) only [push_cast, reduceCtorEq, Nat.reduceAdd, Nat.reduceMul, Nat.reduceSub, Nat.reduceBEq, Nat.reduceGT, Nat.reduceLT, Int.toNat_zero, Nat.reduceLeDiff, Int.reduceEq, Int.reduceLT, Int.reduceLE, hP, hΓ, hL, hfin, String.reduceEq, not_false_eq_true, if_true, h10, hcell, wr_i64 ((k : Int) + 1) (by constructor <;> omega)])
      refine ⟨by omega, by omega, by omega, by omega, by omega, ⟨k + 1, by omega⟩, by simp only; omega, ?_⟩
      simp only [eB, eP, eL, eN]
      (refine IntoF.ver 0  0 (by simp only [push_cast, reduceCtorEq, Nat.reduceAdd, Nat.reduceMul, Nat.reduceSub, Nat.reduceBEq, Nat.reduceGT, Nat.reduceLT, Int.toNat_zero, Nat.reduceLeDiff, Int.reduceEq, Int.reduceLT, Int.reduceLE]) (by first | exact .inr (Nat.zero_le _) | (left; simp only [push_cast, reduceCtorEq, Nat.reduceAdd, Nat.reduceMul, Nat.reduceSub, Nat.reduceBEq, Nat.reduceGT, Nat.reduceLT, Int.toNat_zero, Nat.reduceLeDiff, Int.reduceEq, Int.reduceLT, Int.reduceLE]; omega) | (right; simp only [push_cast, reduceCtorEq, Nat.reduceAdd, Nat.reduceMul, Nat.reduceSub, Nat.reduceBEq, Nat.reduceGT, Nat.reduceLT, Int.toNat_zero, Nat.reduceLeDiff, Int.reduceEq, Int.reduceLT, Int.reduceLE]; omega)) ?_; simp only [push_cast, reduceCtorEq, Nat.reduceAdd, Nat.reduceMul, Nat.reduceSub, Nat.reduceBEq, Nat.reduceGT, Nat.reduceLT, Int.toNat_zero, Nat.reduceLeDiff, Int.reduceEq, Int.reduceLT, Int.reduceLE])
      (refine IntoF.ver 1  0 (by simp only [push_cast, reduceCtorEq, Nat.reduceAdd, Nat.reduceMul, Nat.reduceSub, Nat.reduceBEq, Nat.reduceGT, Nat.reduceLT, Int.toNat_zero, Nat.reduceLeDiff, Int.reduceEq, Int.reduceLT, Int.reduceLE]) (by first | exact .inr (Nat.zero_le _) | (left; simp only [push_cast, reduceCtorEq, Nat.reduceAdd, Nat.reduceMul, Nat.reduceSub, Nat.reduceBEq, Nat.reduceGT, Nat.reduceLT, Int.toNat_zero, Nat.reduceLeDiff, Int.reduceEq, Int.reduceLT, Int.reduceLE]; omega) | (right; simp only [push_cast, reduceCtorEq, Nat.reduceAdd, Nat.reduceMul, Nat.reduceSub, Nat.reduceBEq, Nat.reduceGT, Nat.reduceLT, Int.toNat_zero, Nat.reduceLeDiff, Int.reduceEq, Int.reduceLT, Int.reduceLE]; omega)) ?_; simp only [push_cast, reduceCtorEq, Nat.reduceAdd, Nat.reduceMul, Nat.reduceSub, Nat.reduceBEq, Nat.reduceGT, Nat.reduceLT, Int.toNat_zero, Nat.reduceLeDiff, Int.reduceEq, Int.reduceLT, Int.reduceLE])
      exact Into.keep2A
  obtain rfl : k = T.length := by omega
  generalize hJ : B T.length = J at *
  generalize hQ : P T.length = Q at *
  ((first | with_reducible refine holds_of_ex X 400 _ _ _ ?_ | skip); simp (maxSteps := 1000000) only [push_cast, reduceCtorEq, Nat.reduceAdd, Nat.reduceMul, Nat.reduceSub, Nat.reduceBEq, Nat.reduceGT, Nat.reduceLT, Int.toNat_zero, Nat.reduceLeDiff, Int.reduceEq, Int.reduceLT, Int.reduceLE, hP, hΓ, hL, hfin, String.reduceEq, not_false_eq_true, if_true])
  ((with_reducible refine exB_split (fun h => ?_) (fun h => ?_)) <;> (try simp only [decide_eq_true_eq, decide_eq_false_iff_not, Bool.and_eq_true, Bool.or_eq_true, Bool.and_eq_false_iff, Bool.or_eq_false_iff, Bool.not_eq_true', Bool.not_eq_false', Bool.not_eq_true, Bool.not_eq_false, Int.not_lt, Int.not_le, beq_iff_eq, beq_eq_false_iff_ne, ne_eq] at h))
  · ((first | with_reducible refine holds_of_ex X 400 _ _ _ ?_ | skip); simp (maxSteps := 1000000) only [push_cast, reduceCtorEq, Nat.reduceAdd, Nat.reduceMul, Nat.reduceSub, Nat.reduceBEq, Nat.reduceGT, Nat.reduceLT, Int.toNat_zero, Nat.reduceLeDiff, Int.reduceEq, Int.reduceLT, Int.reduceLE, hP, hΓ, hL, hfin, String.reduceEq, not_false_eq_true, if_true])
    exact Into.one rfl rfl
  obtain ⟨o1, o2⟩ := hU (by omega)
  have hrJ : Fz.rF J = .tup [.sl (U.flatMap Tk.c) T.length, .int .i64 0, .int .i64 0] := by rw [Fz.rF, if_pos o1, o2, hUl]
  have tk : List.take J.length (J.map byteAV) = J.map byteAV := List.take_of_length_le (by simp)
  ((first | with_reducible refine holds_of_ex X 400 _ _ _ ?_ | skip); simp (maxSteps := 1000000) only [push_cast, reduceCtorEq, Nat.reduceAdd, Nat.reduceMul, Nat.reduceSub, Nat.reduceBEq, Nat.reduceGT, Nat.reduceLT, Int.toNat_zero, Nat.reduceLeDiff, Int.reduceEq, Int.reduceLT, Int.reduceLE, hP, hΓ, hL, hfin, String.reduceEq, not_false_eq_true, if_true, h7, hrJ, tk, unbytes_map, allBytes_map])
  refine ⟨by omega, ?_⟩
  refine Holds.loopM (ι := {k : Nat // k ≤ T.length}) [false, false, false, false, false, true, false, false, false, false, true, false, true, false, false, false, false, false, false, false, false, false, false, false, false, false, false, false, false, false, false, false, false, false, false, false, false, false, false, false, false, false, false, false, false, false, false, false, false, false, false, false, false, false, false, false, false, false, false, false, false, false, false, false, false, false, false, false, false, false, false, false, false, false, false, false, false, false, false, false, false, false, false, false, false, false, false, false, false, false, false, false, false, false, false, false, false, false, false, false, false, false, false, false, false, false, false, false, false, false, false, false, false, false, false, false, false, false, false, false, false, false, false, false, false, false, false, false, false, false, false, false, false, false, false, false, false, false, false, false, false, false, false, false, false, false, false, false, false, false, false, false, false] (fun i => [(15, .int .i64 i.1)]) (fun i => [.row (J.map byteAV) 1 0, .row (Q.map (AV.int .i64)) 1 0]) (fun i => T.length - i.1) ⟨0, Nat.zero_le _⟩ ?_ ?_
  · (rw [hL]; simp only [push_cast, Int.natCast_zero]; exact Into.sameA)
  rintro ⟨k, hk⟩
  ((first | with_reducible refine holds_of_ex X 400 _ _ _ ?_ | skip); simp (maxSteps := 1000000) only [push_cast, reduceCtorEq, Nat.reduceAdd, Nat.reduceMul, Nat.reduceSub, Nat.reduceBEq, Nat.reduceGT, Nat.reduceLT, Int.toNat_zero, Nat.reduceLeDiff, Int.reduceEq, Int.reduceLT, Int.reduceLE, hP, hΓ, hL, hfin, String.reduceEq, not_false_eq_true, if_true])
  ((with_reducible refine exB_split (fun h => ?_) (fun h => ?_)) <;> (try simp only [decide_eq_true_eq, decide_eq_false_iff_not, Bool.and_eq_true, Bool.or_eq_true, Bool.and_eq_false_iff, Bool.or_eq_false_iff, Bool.not_eq_true', Bool.not_eq_false', Bool.not_eq_true, Bool.not_eq_false, Int.not_lt, Int.not_le, beq_iff_eq, beq_eq_false_iff_ne, ne_eq] at h))
  · have hk' : k < T.length := by omega
    have hkU : k < U.length := by omega
    have hkQ : k < Q.length := by omega
    obtain ⟨a1, a2, a3, a4⟩ := hall k hk'
    have a4' : (U.getD k default).pl = Q.getD k default := a4.symm
    (refine Holds.drawnQ (by rw [hP]; kernel_rfl) (by kernel_rfl) ?_; simp (maxSteps := 1000000) only [push_cast, reduceCtorEq, Nat.reduceAdd, Nat.reduceMul, Nat.reduceSub, Nat.reduceBEq, Nat.reduceGT, Nat.reduceLT, Int.toNat_zero, Nat.reduceLeDiff, Int.reduceEq, Int.reduceLT, Int.reduceLE, hP, hΓ, hL, hfin, String.reduceEq, not_false_eq_true, if_true, hk', hkU, hkQ, a1, a2, a3, a4', beq_self_eq_true, decide_true, Bool.not_true, Bool.or_self, wr_i64 ((k : Int) + 1) (by constructor <;> omega)])
    refine ⟨⟨by omega, by omega⟩, by omega, by omega, by omega, ⟨by omega, by omega⟩, by omega, by omega, by omega, ⟨by omega, by omega⟩, by omega, by omega, by omega, ⟨by omega, by omega⟩, by omega, by omega, ⟨by omega, by omega⟩, ⟨k + 1, by omega⟩, by simp only; omega, ?_⟩
    exact Into.keep2A
  ((first | with_reducible refine holds_of_ex X 400 _ _ _ ?_ | skip); simp (maxSteps := 1000000) only [push_cast, reduceCtorEq, Nat.reduceAdd, Nat.reduceMul, Nat.reduceSub, Nat.reduceBEq, Nat.reduceGT, Nat.reduceLT, Int.toNat_zero, Nat.reduceLeDiff, Int.reduceEq, Int.reduceLT, Int.reduceLE, hP, hΓ, hL, hfin, String.reduceEq, not_false_eq_true, if_true])
  exact Into.one rfl rfl
noncomputable def sb0 : Env := noE
theorem sb0_ok : EnvOk Tryd.prog sb0 := noE_ok _
noncomputable def sb1 : Env := addE sb0 71 S71
theorem sb1_ok : EnvOk Tryd.prog sb1 := sb0_ok.add (con71)
noncomputable def sb2 : Env := addE sb1 52 S52
theorem sb2_ok : EnvOk Tryd.prog sb2 := sb1_ok.add (con52 sb1_ok rfl)
noncomputable def sb3 : Env := addE sb2 38 S38
theorem sb3_ok : EnvOk Tryd.prog sb3 := sb2_ok.add (con38 sb2_ok rfl)
noncomputable def sb4 : Env := addE sb3 69 S69
theorem sb4_ok : EnvOk Tryd.prog sb4 := sb3_ok.add (con69 sb3_ok rfl)
noncomputable def sb5 : Env := addE sb4 50 S50
theorem sb5_ok : EnvOk Tryd.prog sb5 := sb4_ok.add (con50 sb4_ok rfl)
noncomputable def sb6 : Env := addE sb5 35 S35
theorem sb6_ok : EnvOk Tryd.prog sb6 := sb5_ok.add (con35 sb5_ok rfl)
noncomputable def sb7 : Env := addE sb6 37 S37
theorem sb7_ok : EnvOk Tryd.prog sb7 := sb6_ok.add (con37 sb6_ok)
noncomputable def sb8 : Env := addE sb7 70 S70
theorem sb8_ok : EnvOk Tryd.prog sb8 := sb7_ok.add (con70 sb7_ok rfl)
noncomputable def sb9 : Env := addE sb8 51 S51
theorem sb9_ok : EnvOk Tryd.prog sb9 := sb8_ok.add (con51 sb8_ok rfl)
noncomputable def sb10 : Env := addE sb9 36 S36
theorem sb10_ok : EnvOk Tryd.prog sb10 := sb9_ok.add (con36 sb9_ok rfl)
noncomputable def sb11 : Env := addE sb10 58 S58
theorem sb11_ok : EnvOk Tryd.prog sb11 := sb10_ok.add (con58)
noncomputable def sb12 : Env := addE sb11 57 S57
theorem sb12_ok : EnvOk Tryd.prog sb12 := sb11_ok.add (con57 sb11_ok)
noncomputable def sb13 : Env := addE sb12 42 S42
theorem sb13_ok : EnvOk Tryd.prog sb13 := sb12_ok.add (con42 sb12_ok rfl rfl)
noncomputable def sb14 : Env := addE sb13 43 S43
theorem sb14_ok : EnvOk Tryd.prog sb14 := sb13_ok.add (con43)
noncomputable def sb15 : Env := addE sb14 33 S33
theorem sb15_ok : EnvOk Tryd.prog sb15 := sb14_ok.add (con33 sb14_ok rfl rfl)
noncomputable def sb16 : Env := addE sb15 34 S34
theorem sb16_ok : EnvOk Tryd.prog sb16 := sb15_ok.add (con34)
noncomputable def sb17 : Env := addE sb16 12 S12
theorem sb17_ok : EnvOk Tryd.prog sb17 := sb16_ok.add (con12)
noncomputable def sb18 : Env := addE sb17 21 S21
theorem sb18_ok : EnvOk Tryd.prog sb18 := sb17_ok.add (con21 sb17_ok)
noncomputable def sb19 : Env := addE sb18 13 S13
theorem sb19_ok : EnvOk Tryd.prog sb19 := sb18_ok.add (con13 sb18_ok rfl)
noncomputable def sb20 : Env := addE sb19 56 S56
theorem sb20_ok : EnvOk Tryd.prog sb20 := sb19_ok.add (con56 sb19_ok)
noncomputable def sb21 : Env := addE sb20 41 S41
theorem sb21_ok : EnvOk Tryd.prog sb21 := sb20_ok.add (con41 sb20_ok rfl)
noncomputable def sb22 : Env := addE sb21 32 S32
theorem sb22_ok : EnvOk Tryd.prog sb22 := sb21_ok.add (con32 sb21_ok rfl)
noncomputable def sb23 : Env := addE sb22 23 S23
theorem sb23_ok : EnvOk Tryd.prog sb23 := sb22_ok.add (con23 sb22_ok)
noncomputable def sb24 : Env := addE sb23 25 S25
theorem sb24_ok : EnvOk Tryd.prog sb24 := sb23_ok.add (con25 sb23_ok)
noncomputable def sb25 : Env := addE sb24 24 S24
theorem sb25_ok : EnvOk Tryd.prog sb25 := sb24_ok.add (con24 sb24_ok)
noncomputable def sb26 : Env := addE sb25 22 S22
theorem sb26_ok : EnvOk Tryd.prog sb26 := sb25_ok.add (con22 sb25_ok rfl rfl)
noncomputable def sb27 : Env := addE sb26 26 S26
theorem sb27_ok : EnvOk Tryd.prog sb27 := sb26_ok.add (con26 sb26_ok rfl rfl rfl)
noncomputable def sb28 : Env := addE sb27 27 S27
theorem sb28_ok : EnvOk Tryd.prog sb28 := sb27_ok.add (con27 sb27_ok rfl rfl)
noncomputable def sb29 : Env := addE sb28 28 S28
theorem sb29_ok : EnvOk Tryd.prog sb29 := sb28_ok.add (con28 sb28_ok rfl)
noncomputable def sb30 : Env := addE sb29 16 S16
theorem sb30_ok : EnvOk Tryd.prog sb30 := sb29_ok.add (con16 sb29_ok rfl rfl rfl rfl rfl rfl rfl)
noncomputable def sb31 : Env := addE sb30 14 S14
theorem sb31_ok : EnvOk Tryd.prog sb31 := sb30_ok.add (con14 sb30_ok)
noncomputable def sb32 : Env := addE sb31 15 S15
theorem sb32_ok : EnvOk Tryd.prog sb32 := sb31_ok.add (con15 sb31_ok)
noncomputable def sb33 : Env := addE sb32 7 Fz.S7
theorem sb33_ok : EnvOk Tryd.prog sb33 := sb32_ok.add (Fz.con7 sb32_ok rfl rfl rfl rfl rfl)
noncomputable def sb34 : Env := addE sb33 8 S8
theorem sb34_ok : EnvOk Tryd.prog sb34 := sb33_ok.add (con8 sb33_ok)
noncomputable def sb35 : Env := addE sb34 9 S9
theorem sb35_ok : EnvOk Tryd.prog sb35 := sb34_ok.add (con9 sb34_ok)
noncomputable def sb36 : Env := addE sb35 10 S10
theorem sb36_ok : EnvOk Tryd.prog sb36 := sb35_ok.add (con10 sb35_ok rfl)
noncomputable def sb37 : Env := addE sb36 6 S6
theorem sb37_ok : EnvOk Tryd.prog sb37 := sb36_ok.add (con6 sb36_ok rfl)
noncomputable abbrev sbE : Env := sb37
theorem sbE_ok : EnvOk Tryd.prog sbE := sb37_ok
end Go.Proofs.YtlehfbdkjkgaeaaDoor.scanDone
