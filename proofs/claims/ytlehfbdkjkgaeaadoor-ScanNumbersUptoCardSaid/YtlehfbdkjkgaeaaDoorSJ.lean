/- Of numbers, as a source says them: ScanNumbers' walk. Conditions stand in each. -/
import Derived.Test.YtlehfbdkjkgaeaaDoorSH
import Derived.Test.YtlehfbdkjkgaeaaDoorScF
namespace Go.Proofs.YtlehfbdkjkgaeaaDoor.scanDone
open Go Go.Eng Go.Proofs Go.Scan Go.RowKit
set_option linter.unusedVariables false
set_option linter.unusedSimpArgs false
set_option maxRecDepth 100000
set_option maxHeartbeats 4000000

/-- one token, or none -/
theorem rF_one (s : Bytes) (h : s.length ≤ 16384) (k n q p : Int) (e : rd s 0 = ⟨[⟨k, [], n, q⟩], p, 0⟩) : Fz.rF s = .tup [.sl [.int .i64 k, .str [], .int .i64 n, .int .i64 q, .int .i64 0, .str [], .int .i64 0, .int .i64 p] 2, .int .i64 0, .int .i64 0] := by
  have ht : toks s = [⟨k, [], n, q⟩, fin0 p] := by rw [toks, e]; rfl
  rw [Fz.rF, if_pos ⟨h, by rw [e]⟩, ht]
  rfl
theorem rF_none (s : Bytes) (h : s.length ≤ 16384) (p e' : Int) (hne : e' ≠ 0) (e : rd s 0 = ⟨[], p, e'⟩) : Fz.rF s = .tup [.lit (.slice none 0 0), .int .i64 p, .int .i64 e'] := by
  rw [Fz.rF, if_neg (fun h' => hne (by have := h'.2; rwa [e] at this)), badP, badE, if_neg (by omega), if_neg (by omega), e]
theorem i32s (w : Nat) (hw : w ≤ 4294967295) : IntKind.i32.wrap (w : Int) = sgn32 w := by
  rw [IntKind.wrap_i32, sgn32]
  split <;> omega
theorem sgn32_le (w : Nat) (hw : w ≤ 4294967295) : -2147483648 ≤ sgn32 w ∧ sgn32 w ≤ 2147483647 := by
  unfold sgn32
  split <;> omega
theorem law3a (Γ : Env) (h6 : Γ 6 = some S6) (h7 : Γ 7 = some Fz.S7) (h8 : Γ 8 = some S8) (h9 : Γ 9 = some S9) (w n : Nat) (z : Int) (hw : w ≤ 4294967295) (hn : n ≤ 18446744073709551615) (hz : -9223372036854775808 ≤ z ∧ z ≤ 9223372036854775807) (hc : w ≤ 255) : BodyOk Tryd.prog Γ Tryd.f3 [.int .u32 w, .int .u64 n, .int .i64 z] [] (.bool true) [] := by
  have hb : (based w).length ≤ 9 := by have := hexs_len hw; rw [based, List.length_cons]; omega
  have hd := decs_len hn
  have r1 := rF_one (based w ++ [72]) (by simp; omega) _ _ _ _ (rd_H w hw 0)
  have r2 := rF_one (32 :: (based w ++ [88])) (by simp; omega) _ _ _ _ ((rd_sp _ 0).trans ((rd_X w (0 + 1)).trans (if_pos hc)))
  obtain ⟨p2, hp2⟩ : ∃ p2 : Int, p2 = 0 + 1 + ((based w ++ [88]).length : Int) := ⟨_, rfl⟩
  rw [← hp2] at r2
  obtain ⟨p1, hp1⟩ : ∃ p1 : Int, p1 = 0 + ((based w ++ [72]).length : Int) := ⟨_, rfl⟩
  rw [← hp1] at r1
  (intro X hP hΓ hL hfin; refine ⟨_, rfl, ?_⟩; rw [show Tryd.f3.ntmps = 146 from rfl]; rw [show Tryd.f3.results.toList = [.tmp 6] from rfl] at hfin; apply holds_of_ex X 400; simp (maxSteps := 1000000) only [push_cast, reduceCtorEq, Nat.reduceAdd, Nat.reduceMul, Nat.reduceSub, Nat.reduceBEq, Nat.reduceGT, Nat.reduceLT, Int.toNat_zero, Nat.reduceLeDiff, Int.reduceEq, Int.reduceLT, Int.reduceLE, hP, hΓ, hL, hfin, String.reduceEq, not_false_eq_true, if_true, h6, h7, h8, r1, r2])
  refine ⟨by omega, by omega, by omega, by omega, by omega, by omega, by omega, ?_⟩
  refine Holds.loopM (ι := {k : Nat // k ≤ 30}) [true, true, true, false, false, false, true, true, true, false, true, true, true, true, false, false, true, true, true, false, false, false, false, false, false, false, false, false, false, false, false, false, false, false, false, false, false, false, false, false, false, false, false, false, false, false, false, false, false, false, false, false, false, false, false, false, false, false, false, false, false, false, false, false, false, false, false, false, false, false, false, false, false, false, false, false, false, false, false, false, false, false, false, false, false, false, false, false, false, false, false, false, false, false, false, false, false, false, false, false, false, false, false, false, false, false, false, false, false, false, false, false, false, false, false, false, false, false, false, false, false, false, false, false, false, false, false, false, false, false, false, false, false, false, false, false, false, false, false, false, false, false, false, false, false, false] (fun i => [(14, .str (List.replicate i.1 48)), (15, .int .i64 i.1)]) (fun i => []) (fun i => 30 - i.1) ⟨0, Nat.zero_le _⟩ ?_ ?_
  · (rw [hL]; simp only [push_cast, Int.natCast_zero]; exact Into.sameA)
  rintro ⟨k, hk⟩
  ((first | with_reducible refine holds_of_ex X 400 _ _ _ ?_ | skip); simp (maxSteps := 1000000) only [push_cast, reduceCtorEq, Nat.reduceAdd, Nat.reduceMul, Nat.reduceSub, Nat.reduceBEq, Nat.reduceGT, Nat.reduceLT, Int.toNat_zero, Nat.reduceLeDiff, Int.reduceEq, Int.reduceLT, Int.reduceLE, hP, hΓ, hL, hfin, String.reduceEq, not_false_eq_true, if_true])
  ((with_reducible refine exB_split (fun h => ?_) (fun h => ?_)) <;> (try simp only [decide_eq_true_eq, decide_eq_false_iff_not, Bool.and_eq_true, Bool.or_eq_true, Bool.and_eq_false_iff, Bool.or_eq_false_iff, Bool.not_eq_true', Bool.not_eq_false', Bool.not_eq_true, Bool.not_eq_false, Int.not_lt, Int.not_le, beq_iff_eq, beq_eq_false_iff_ne, ne_eq] at h))
  · have hrep : List.replicate k (48 : UInt8) ++ [48] = List.replicate (k + 1) 48 := List.replicate_succ'.symm
    ((first | with_reducible refine holds_of_ex X 400 _ _ _ ?_ | skip); simp (maxSteps := 1000000) only [push_cast, reduceCtorEq, Nat.reduceAdd, Nat.reduceMul, Nat.reduceSub, Nat.reduceBEq, Nat.reduceGT, Nat.reduceLT, Int.toNat_zero, Nat.reduceLeDiff, Int.reduceEq, Int.reduceLT, Int.reduceLE, hP, hΓ, hL, hfin, String.reduceEq, not_false_eq_true, if_true, hrep, wr_i64 ((k : Int) + 1) (by constructor <;> omega)])
    refine ⟨by rw [List.length_replicate] at *; omega, ⟨k + 1, by omega⟩, by simp only; omega, ?_⟩
    simp only [List.replicate_succ]
    exact Into.sameA
  have hlp : (List.replicate k (48 : UInt8) ++ decs n).length ≤ 16384 := by simp; omega
  have hr4 := rd_D k n 0
  generalize hpd : List.replicate k (48 : UInt8) = pad at *
  have hpl : pad.length ≤ 30 := by rw [← hpd]; simpa using hk
  have hcd : decide ((w : Int) ≤ 255) = true := by simp; omega
  have hs : IntKind.i64.wrap (sgn32 w) = sgn32 w := wr_i64 _ (by have := sgn32_le w hw; constructor <;> omega)
  have h2 : decide ((0 : Int) + 1 + 1 = 2) = true := by decide
  have h11 : decide ((0 : Int) + 1 = 1) = true := by decide
  have hw1 : decide ((w : Int) = IntKind.i64.wrap (w : Int)) = true := by rw [wr_i64 (w : Int) (by constructor <;> omega)]; simp
  have hcg : decide (255 < (w : Int)) = false := by simp; omega
  by_cases hm : n ≤ 2147483647
  · rw [if_pos hm] at hr4
    have hnd : decide ((n : Int) ≤ 2147483647) = true := by simp; omega
    have hnn : decide ((n : Int) = IntKind.i64.wrap (n : Int)) = true := by rw [wr_i64 (n : Int) (by constructor <;> omega)]; simp
    have r3 := rF_one (pad ++ decs n) hlp _ _ _ _ hr4
    ((first | with_reducible refine holds_of_ex X 400 _ _ _ ?_ | skip); simp (maxSteps := 1000000) only [push_cast, reduceCtorEq, Nat.reduceAdd, Nat.reduceMul, Nat.reduceSub, Nat.reduceBEq, Nat.reduceGT, Nat.reduceLT, Int.toNat_zero, Nat.reduceLeDiff, Int.reduceEq, Int.reduceLT, Int.reduceLE, hP, hΓ, hL, hfin, String.reduceEq, not_false_eq_true, if_true, h7, h9, r3, i32s w hw, hs, hcd, hcg, hw1, h11, hnd, hnn, h2, Bool.not_true, Bool.not_false, beq_self_eq_true, decide_true])
    repeat (first | exact Into.one rfl rfl | refine And.intro (by first | omega | decide) ?_)
  · rw [if_neg hm] at hr4
    have hnd : decide ((n : Int) ≤ 2147483647) = false := by simp; omega
    have r3 := rF_none (pad ++ decs n) hlp _ _ (by decide) hr4
    ((first | with_reducible refine holds_of_ex X 400 _ _ _ ?_ | skip); simp (maxSteps := 1000000) only [push_cast, reduceCtorEq, Nat.reduceAdd, Nat.reduceMul, Nat.reduceSub, Nat.reduceBEq, Nat.reduceGT, Nat.reduceLT, Int.toNat_zero, Nat.reduceLeDiff, Int.reduceEq, Int.reduceLT, Int.reduceLE, hP, hΓ, hL, hfin, String.reduceEq, not_false_eq_true, if_true, h7, h9, r3, i32s w hw, hs, hcd, hcg, hw1, h11, hnd, h2, Bool.not_true, Bool.not_false, beq_self_eq_true, decide_true])
    repeat (first | exact Into.one rfl rfl | refine And.intro (by first | omega | decide) ?_)
theorem law3b (Γ : Env) (h6 : Γ 6 = some S6) (h7 : Γ 7 = some Fz.S7) (h8 : Γ 8 = some S8) (h9 : Γ 9 = some S9) (w n : Nat) (z : Int) (hw : w ≤ 4294967295) (hn : n ≤ 18446744073709551615) (hz : -9223372036854775808 ≤ z ∧ z ≤ 9223372036854775807) (hc : 255 < w) : BodyOk Tryd.prog Γ Tryd.f3 [.int .u32 w, .int .u64 n, .int .i64 z] [] (.bool true) [] := by
  have hb : (based w).length ≤ 9 := by have := hexs_len hw; rw [based, List.length_cons]; omega
  have hd := decs_len hn
  have r1 := rF_one (based w ++ [72]) (by simp; omega) _ _ _ _ (rd_H w hw 0)
  have r2 := rF_none (32 :: (based w ++ [88])) (by simp; omega) _ _ (by decide) ((rd_sp _ 0).trans ((rd_X w (0 + 1)).trans (if_neg (by omega))))
  obtain ⟨p1, hp1⟩ : ∃ p1 : Int, p1 = 0 + ((based w ++ [72]).length : Int) := ⟨_, rfl⟩
  rw [← hp1] at r1
  (intro X hP hΓ hL hfin; refine ⟨_, rfl, ?_⟩; rw [show Tryd.f3.ntmps = 146 from rfl]; rw [show Tryd.f3.results.toList = [.tmp 6] from rfl] at hfin; apply holds_of_ex X 400; simp (maxSteps := 1000000) only [push_cast, reduceCtorEq, Nat.reduceAdd, Nat.reduceMul, Nat.reduceSub, Nat.reduceBEq, Nat.reduceGT, Nat.reduceLT, Int.toNat_zero, Nat.reduceLeDiff, Int.reduceEq, Int.reduceLT, Int.reduceLE, hP, hΓ, hL, hfin, String.reduceEq, not_false_eq_true, if_true, h6, h7, h8, r1, r2])
  refine ⟨by omega, by omega, by omega, by omega, by omega, by omega, by omega, ?_⟩
  refine Holds.loopM (ι := {k : Nat // k ≤ 30}) [true, true, true, false, false, false, true, true, true, false, true, true, true, true, false, false, true, true, true, false, false, false, false, false, false, false, false, false, false, false, false, false, false, false, false, false, false, false, false, false, false, false, false, false, false, false, false, false, false, false, false, false, false, false, false, false, false, false, false, false, false, false, false, false, false, false, false, false, false, false, false, false, false, false, false, false, false, false, false, false, false, false, false, false, false, false, false, false, false, false, false, false, false, false, false, false, false, false, false, false, false, false, false, false, false, false, false, false, false, false, false, false, false, false, false, false, false, false, false, false, false, false, false, false, false, false, false, false, false, false, false, false, false, false, false, false, false, false, false, false, false, false, false, false, false, false] (fun i => [(11, .sl [] 0), (14, .str (List.replicate i.1 48)), (15, .int .i64 i.1)]) (fun i => []) (fun i => 30 - i.1) ⟨0, Nat.zero_le _⟩ ?_ ?_
  · rw [hL]
    simp only [push_cast, Int.natCast_zero]
    refine IntoF.soft ?_
    simp only [push_cast]
    exact Into.sameA
  rintro ⟨k, hk⟩
  ((first | with_reducible refine holds_of_ex X 400 _ _ _ ?_ | skip); simp (maxSteps := 1000000) only [push_cast, reduceCtorEq, Nat.reduceAdd, Nat.reduceMul, Nat.reduceSub, Nat.reduceBEq, Nat.reduceGT, Nat.reduceLT, Int.toNat_zero, Nat.reduceLeDiff, Int.reduceEq, Int.reduceLT, Int.reduceLE, hP, hΓ, hL, hfin, String.reduceEq, not_false_eq_true, if_true])
  ((with_reducible refine exB_split (fun h => ?_) (fun h => ?_)) <;> (try simp only [decide_eq_true_eq, decide_eq_false_iff_not, Bool.and_eq_true, Bool.or_eq_true, Bool.and_eq_false_iff, Bool.or_eq_false_iff, Bool.not_eq_true', Bool.not_eq_false', Bool.not_eq_true, Bool.not_eq_false, Int.not_lt, Int.not_le, beq_iff_eq, beq_eq_false_iff_ne, ne_eq] at h))
  · have hrep : List.replicate k (48 : UInt8) ++ [48] = List.replicate (k + 1) 48 := List.replicate_succ'.symm
    ((first | with_reducible refine holds_of_ex X 400 _ _ _ ?_ | skip); simp (maxSteps := 1000000) only [push_cast, reduceCtorEq, Nat.reduceAdd, Nat.reduceMul, Nat.reduceSub, Nat.reduceBEq, Nat.reduceGT, Nat.reduceLT, Int.toNat_zero, Nat.reduceLeDiff, Int.reduceEq, Int.reduceLT, Int.reduceLE, hP, hΓ, hL, hfin, String.reduceEq, not_false_eq_true, if_true, hrep, wr_i64 ((k : Int) + 1) (by constructor <;> omega)])
    refine ⟨by rw [List.length_replicate] at *; omega, ⟨k + 1, by omega⟩, by simp only; omega, ?_⟩
    simp only [List.replicate_succ]
    exact Into.sameA
  have hlp : (List.replicate k (48 : UInt8) ++ decs n).length ≤ 16384 := by simp; omega
  have hr4 := rd_D k n 0
  generalize hpd : List.replicate k (48 : UInt8) = pad at *
  have hpl : pad.length ≤ 30 := by rw [← hpd]; simpa using hk
  have hcd : decide ((w : Int) ≤ 255) = false := by simp; omega
  have hs : IntKind.i64.wrap (sgn32 w) = sgn32 w := wr_i64 _ (by have := sgn32_le w hw; constructor <;> omega)
  have h2 : decide ((0 : Int) + 1 + 1 = 2) = true := by decide
  have h11 : decide ((0 : Int) + 1 = 1) = true := by decide
  have hw1 : decide ((w : Int) = IntKind.i64.wrap (w : Int)) = true := by rw [wr_i64 (w : Int) (by constructor <;> omega)]; simp
  have hcg : decide (255 < (w : Int)) = true := by simp; omega
  by_cases hm : n ≤ 2147483647
  · rw [if_pos hm] at hr4
    have hnd : decide ((n : Int) ≤ 2147483647) = true := by simp; omega
    have hnn : decide ((n : Int) = IntKind.i64.wrap (n : Int)) = true := by rw [wr_i64 (n : Int) (by constructor <;> omega)]; simp
    have r3 := rF_one (pad ++ decs n) hlp _ _ _ _ hr4
    ((first | with_reducible refine holds_of_ex X 400 _ _ _ ?_ | skip); simp (maxSteps := 1000000) only [push_cast, reduceCtorEq, Nat.reduceAdd, Nat.reduceMul, Nat.reduceSub, Nat.reduceBEq, Nat.reduceGT, Nat.reduceLT, Int.toNat_zero, Nat.reduceLeDiff, Int.reduceEq, Int.reduceLT, Int.reduceLE, hP, hΓ, hL, hfin, String.reduceEq, not_false_eq_true, if_true, h7, h9, r3, i32s w hw, hs, hcd, hcg, hw1, h11, hnd, hnn, h2, Bool.not_true, Bool.not_false, beq_self_eq_true, decide_true])
    repeat (first | exact Into.one rfl rfl | refine And.intro (by first | omega | decide) ?_)
  · rw [if_neg hm] at hr4
    have hnd : decide ((n : Int) ≤ 2147483647) = false := by simp; omega
    have r3 := rF_none (pad ++ decs n) hlp _ _ (by decide) hr4
    ((first | with_reducible refine holds_of_ex X 400 _ _ _ ?_ | skip); simp (maxSteps := 1000000) only [push_cast, reduceCtorEq, Nat.reduceAdd, Nat.reduceMul, Nat.reduceSub, Nat.reduceBEq, Nat.reduceGT, Nat.reduceLT, Int.toNat_zero, Nat.reduceLeDiff, Int.reduceEq, Int.reduceLT, Int.reduceLE, hP, hΓ, hL, hfin, String.reduceEq, not_false_eq_true, if_true, h7, h9, r3, i32s w hw, hs, hcd, hcg, hw1, h11, hnd, h2, Bool.not_true, Bool.not_false, beq_self_eq_true, decide_true])
    repeat (first | exact Into.one rfl rfl | refine And.intro (by first | omega | decide) ?_)
end Go.Proofs.YtlehfbdkjkgaeaaDoor.scanDone
