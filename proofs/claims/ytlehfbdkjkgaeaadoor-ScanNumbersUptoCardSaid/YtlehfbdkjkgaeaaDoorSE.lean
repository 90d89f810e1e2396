/- Of sources: up to a token, or a fault, a source is read by itself. Conditions stand in each. -/
import Derived.Test.YtlehfbdkjkgaeaaDoorSD
import Derived.Test.YtlehfbdkjkgaeaaDoorEng21
namespace Go.Proofs.YtlehfbdkjkgaeaaDoor.scanDone
open Go Go.Eng Go.Proofs Go.Scan Go.RowKit
set_option linter.unusedVariables false
set_option linter.unusedSimpArgs false
set_option maxRecDepth 100000
set_option maxHeartbeats 4000000

/-- what was read of a source's front -/
theorem front (s : Bytes) (hl : s.length ≤ 16384) (i : Nat) (hi : i ≤ (rd s 0).l.length) : ∃ j : Nat, (rd s 0).at? i = j ∧ j ≤ s.length ∧ okS (s.take j) ∧ toks (s.take j) = (rd s 0).l.take i ++ [fin0 j] := by
  obtain ⟨j, h1, h2, h3⟩ := cut (s.length + 1) s 0 i (Nat.lt_succ_self _) hi
  refine ⟨j, by rw [h1]; simp, h2, ⟨by rw [List.length_take]; omega, by rw [h3]⟩, ?_⟩
  rw [toks, h3]; simp [whole]
theorem count (s : Bytes) : (rd s 0).l.length ≤ s.length := by
  obtain ⟨r1, r2, r3⟩ := rises (s.length + 1) s 0 (Nat.lt_succ_self _)
  have key : ∀ i, i ≤ (rd s 0).l.length → (i : Int) ≤ (rd s 0).at? i := by
    intro i
    induction i with
    | zero => intro _; exact r1
    | succ i ih => intro h; have := ih (by omega); have := r2 i (by omega); omega
  have h1 := key _ (Nat.le_refl _)
  have h2 : (rd s 0).at? (rd s 0).l.length = (rd s 0).pl := by simp [Rs.at?]
  omega
theorem between (s : Bytes) (hpl : (rd s 0).pl = s.length) (i : Nat) (hi : i ≤ (rd s 0).l.length) : 0 ≤ (rd s 0).at? i ∧ (rd s 0).at? i ≤ s.length := by
  obtain ⟨r1, r2, r3⟩ := rises (s.length + 1) s 0 (Nat.lt_succ_self _)
  constructor
  · have key : ∀ i, i ≤ (rd s 0).l.length → (i : Int) ≤ (rd s 0).at? i := by
      intro i
      induction i with
      | zero => intro _; exact r1
      | succ i ih => intro h; have := ih (by omega); have := r2 i (by omega); omega
    have := key i hi; omega
  · have key : ∀ d, d ≤ (rd s 0).l.length → (rd s 0).at? ((rd s 0).l.length - d) ≤ s.length := by
      intro d
      induction d with
      | zero => intro _; simp [Rs.at?, hpl]
      | succ d ih =>
        intro h
        have h1 := ih (by omega)
        have h2 := r2 ((rd s 0).l.length - (d + 1)) (by omega)
        rw [show (rd s 0).l.length - (d + 1) + 1 = (rd s 0).l.length - d by omega] at h2
        omega
    have := key ((rd s 0).l.length - i) (by omega)
    rwa [show (rd s 0).l.length - ((rd s 0).l.length - i) = i by omega] at this
theorem law5a (Γ : Env) (h6 : Γ 6 = some S6) (h7 : Γ 7 = some Fz.S7) (h11 : Γ 11 = some S11) (s : Bytes) (hl : s.length ≤ 4194304) (hno : ¬ okS s) : BodyOk Tryd.prog Γ Tryd.f5 [.str s] [] (.bool true) [] := by
  have hr : Fz.rF s = .tup [.lit (.slice none 0 0), .int .i64 (badP s), .int .i64 (badE s)] := by rw [Fz.rF, if_neg hno]
  obtain ⟨r1, r2, r3⟩ := rises (s.length + 1) s 0 (Nat.lt_succ_self _)
  (intro X hP hΓ hL hfin; refine ⟨_, rfl, ?_⟩; rw [show Tryd.f5.ntmps = 218 from rfl]; rw [show Tryd.f5.results.toList = [.tmp 2] from rfl] at hfin; apply holds_of_ex X 400; simp (maxSteps := 1000000) only [push_cast, reduceCtorEq, Nat.reduceAdd, Nat.reduceMul, Nat.reduceSub, Nat.reduceBEq, Nat.reduceGT, Nat.reduceLT, Int.toNat_zero, Nat.reduceLeDiff, Int.reduceEq, Int.reduceLT, Int.reduceLE, hP, hΓ, hL, hfin, String.reduceEq, not_false_eq_true, if_true, h6, h7, hr])
  refine ⟨hl, ?_⟩
  by_cases hlong : 16384 < s.length
  · have hp : badP s = 0 := by rw [badP, if_pos hlong]
    have he : badE s = 80 := by rw [badE, if_pos hlong]
    have hd : decide (16384 < (s.length : Int)) = true := by simp; omega
    rw [hp, he]
    ((first | with_reducible refine holds_of_ex X 400 _ _ _ ?_ | skip); simp (maxSteps := 1000000) only [push_cast, reduceCtorEq, Nat.reduceAdd, Nat.reduceMul, Nat.reduceSub, Nat.reduceBEq, Nat.reduceGT, Nat.reduceLT, Int.toNat_zero, Nat.reduceLeDiff, Int.reduceEq, Int.reduceLT, Int.reduceLE, hP, hΓ, hL, hfin, String.reduceEq, not_false_eq_true, if_true, hd])
    exact Into.sameA
  · have hp : badP s = (rd s 0).pl := by rw [badP, if_neg hlong]
    have he : badE s = (rd s 0).e := by rw [badE, if_neg hlong]
    have he0 : (rd s 0).e ≠ 0 := fun h => hno ⟨by omega, h⟩
    obtain ⟨j, f1, f2, f3, f4⟩ := front s (by omega) (rd s 0).l.length (Nat.le_refl _)
    have hj : (rd s 0).pl = j := by rw [← f1]; simp [Rs.at?]
    have hrt : Fz.rF (s.take j) = .tup [.sl ((toks (s.take j)).flatMap Tk.c) (toks (s.take j)).length, .int .i64 0, .int .i64 0] := by rw [Fz.rF, if_pos f3]
    obtain ⟨T, hT⟩ : ∃ T, T = toks (s.take j) := ⟨_, rfl⟩
    rw [← hT] at hrt f4
    have hTl : T.length = (rd s 0).l.length + 1 := by rw [f4]; simp
    have hTm : T.length ≤ 16385 := by have := count s; omega
    have hlast : T.getD (T.length - 1) default = fin0 j := by rw [f4]; simp [List.getD]
    have hlt : T.length - 1 < T.length := by omega
    have hi : ((T.length : Int) - 1).toNat = T.length - 1 := by omega
    have htk : List.take ((j : Int)).toNat s = s.take j := by simp
    rw [hp, he, hj]
    ((with_reducible refine exB_split (fun h => ?_) (fun h => ?_)) <;> (try simp only [decide_eq_true_eq, decide_eq_false_iff_not, Bool.and_eq_true, Bool.or_eq_true, Bool.and_eq_false_iff, Bool.or_eq_false_iff, Bool.not_eq_true', Bool.not_eq_false', Bool.not_eq_true, Bool.not_eq_false, Int.not_lt, Int.not_le, beq_iff_eq, beq_eq_false_iff_ne, ne_eq] at h))
    · omega
    have hz : decide ((rd s 0).e = 0) = false := by simpa using he0
    ((first | with_reducible refine holds_of_ex X 400 _ _ _ ?_ | skip); simp (maxSteps := 1000000) only [push_cast, reduceCtorEq, Nat.reduceAdd, Nat.reduceMul, Nat.reduceSub, Nat.reduceBEq, Nat.reduceGT, Nat.reduceLT, Int.toNat_zero, Nat.reduceLeDiff, Int.reduceEq, Int.reduceLT, Int.reduceLE, hP, hΓ, hL, hfin, String.reduceEq, not_false_eq_true, if_true, hz])
    have hj0 : decide ((j : Int) < 0) = false := by simp
    have hj1 : decide ((s.length : Int) ≤ (j : Int)) = false := by simp; omega
    ((first | with_reducible refine holds_of_ex X 400 _ _ _ ?_ | skip); simp (maxSteps := 1000000) only [push_cast, reduceCtorEq, Nat.reduceAdd, Nat.reduceMul, Nat.reduceSub, Nat.reduceBEq, Nat.reduceGT, Nat.reduceLT, Int.toNat_zero, Nat.reduceLeDiff, Int.reduceEq, Int.reduceLT, Int.reduceLE, hP, hΓ, hL, hfin, String.reduceEq, not_false_eq_true, if_true, hj0, hj1, h7, hrt, hlast, hlt, hi, wr_i64 ((T.length : Int) - 1) (by constructor <;> omega)])
    exact ⟨by omega, by omega, fun h => by omega, fun h => by omega, Into.one (by
      have : decide (1 ≤ (T.length : Int)) = true := decide_eq_true (by omega)
      rw [this]; simp [fin0]) rfl⟩
theorem law5b (Γ : Env) (h6 : Γ 6 = some S6) (h7 : Γ 7 = some Fz.S7) (h11 : Γ 11 = some S11) (s : Bytes) (hok : okS s) : BodyOk Tryd.prog Γ Tryd.f5 [.str s] [] (.bool true) [] := by
  have hl := hok.1
  have hr : Fz.rF s = .tup [.sl ((toks s).flatMap Tk.c) (toks s).length, .int .i64 0, .int .i64 0] := by rw [Fz.rF, if_pos hok]
  obtain ⟨r1, r2, r3⟩ := rises (s.length + 1) s 0 (Nat.lt_succ_self _)
  have hpl : (rd s 0).pl = s.length := by have := hok.2; omega
  obtain ⟨T, hT⟩ : ∃ T, T = toks s := ⟨_, rfl⟩
  rw [← hT] at hr
  have hTe : T = (rd s 0).l ++ [fin0 s.length] := by rw [hT, toks, whole, hpl]
  have hn : T.length = (rd s 0).l.length + 1 := by rw [hTe]; simp
  have hTm : T.length ≤ 16385 := by have := count s; omega
  have hat : ∀ i, i < T.length → (T.getD i default).pl = (rd s 0).at? i := by
    intro i hi
    rw [hTe]
    unfold Rs.at?
    by_cases h : i < (rd s 0).l.length
    · simp [List.getD, List.getElem?_append_left h, h]
    · have : i = (rd s 0).l.length := by omega
      subst this
      simp [List.getD, fin0, hpl]
  have hlast : T.getD (T.length - 1) default = fin0 s.length := by
    have : T.length - 1 = (rd s 0).l.length := by omega
    rw [this, hTe]; simp [List.getD]
  have hlt : T.length - 1 < T.length := by omega
  have hi : ((T.length : Int) - 1).toNat = T.length - 1 := by omega
  have h0 : decide ((T.length : Int) = 0) = false := decide_eq_false (by omega)
  have hf : (fin0 (s.length : Int)).kind = 0 ∧ (fin0 (s.length : Int)).text = [] ∧ (fin0 (s.length : Int)).n = 0 ∧ (fin0 (s.length : Int)).pl = s.length := ⟨rfl, rfl, rfl, rfl⟩
  obtain ⟨f1, f2, f3, f4⟩ := hf
  obtain ⟨st, hs1, hs2, hst⟩ : ∃ st : Nat, 1 ≤ st ∧ st ≤ 1000 ∧ IntKind.i64.wrap (1 + IntKind.i64.wrap ((T.length : Int).tdiv 40)) = (st : Int) := by
    have e : (T.length : Int).tdiv 40 = ((T.length / 40 : Nat) : Int) := by rw [Int.tdiv_eq_ediv_of_nonneg (by omega)]; omega
    refine ⟨1 + T.length / 40, by omega, by omega, ?_⟩
    rw [e, wr_i64 ((T.length / 40 : Nat) : Int) (by constructor <;> omega), wr_i64 _ (by constructor <;> omega)]; omega
  (intro X hP hΓ hL hfin; refine ⟨_, rfl, ?_⟩; rw [show Tryd.f5.ntmps = 218 from rfl]; rw [show Tryd.f5.results.toList = [.tmp 2] from rfl] at hfin; apply holds_of_ex X 400; simp (maxSteps := 1000000) only [push_cast, reduceCtorEq, Nat.reduceAdd, Nat.reduceMul, Nat.reduceSub, Nat.reduceBEq, Nat.reduceGT, Nat.reduceLT, Int.toNat_zero, Nat.reduceLeDiff, Int.reduceEq, Int.reduceLT, Int.reduceLE, hP, hΓ, hL, hfin, String.reduceEq, not_false_eq_true, if_true, h6, h7, hr, hlast, hlt, hi, h0, wr_i64 ((T.length : Int) - 1) (by constructor <;> omega), f1, f2, f3, f4, decide_true, beq_self_eq_true, Bool.true_and, Bool.and_self, Bool.not_true])
  refine ⟨by omega, ⟨by omega, by omega⟩, by omega, ?_⟩
  refine Holds.loopM (ι := {k : Nat // k ≤ T.length}) [true, false, false, true, false, false, false, false, false, false, false, true, true, true, true, true, false, false, false, false, false, false, false, false, false, false, false, false, false, false, false, false, false, false, false, false, false, false, false, false, false, false, false, false, false, false, false, false, false, false, false, false, false, false, false, false, false, false, false, false, false, false, false, false, false, false, false, false, false, false, false, false, false, false, false, false, false, false, false, false, false, false, false, false, false, false, false, false, false, false, false, false, false, false, false, false, false, false, false, false, false, false, false, false, false, false, false, false, false, false, false, false, false, false, false, false, false, false, false, false, false, false, false, false, false, false, false, false, false, false, false, false, false, false, false, false, false, false, false, false, false, false, false, false, false, false, false, false, false, false, false, false, false, false, false, false, false, false, false, false, false, false, false, false, false, false, false, false, false, false, false, false, false, false, false, false, false, false, false, false, false, false, false, false, false, false, false, false, false, false, false, false, false, false, false, false, false, false, false, false, false, false, false, false, false, false, false, false, false, false, false, false, false, false, false, false, false, false] (fun i => [(10, .int .i64 i.1)]) (fun i => []) (fun i => T.length - i.1) ⟨0, Nat.zero_le _⟩ ?_ ?_
  · (rw [hL]; simp only [push_cast, Int.natCast_zero]; exact Into.sameA)
  rintro ⟨k, hk⟩
  ((first | with_reducible refine holds_of_ex X 400 _ _ _ ?_ | skip); simp (maxSteps := 1000000) only [push_cast, reduceCtorEq, Nat.reduceAdd, Nat.reduceMul, Nat.reduceSub, Nat.reduceBEq, Nat.reduceGT, Nat.reduceLT, Int.toNat_zero, Nat.reduceLeDiff, Int.reduceEq, Int.reduceLT, Int.reduceLE, hP, hΓ, hL, hfin, String.reduceEq, not_false_eq_true, if_true])
  ((with_reducible refine exB_split (fun h => ?_) (fun h => ?_)) <;> (try simp only [decide_eq_true_eq, decide_eq_false_iff_not, Bool.and_eq_true, Bool.or_eq_true, Bool.and_eq_false_iff, Bool.or_eq_false_iff, Bool.not_eq_true', Bool.not_eq_false', Bool.not_eq_true, Bool.not_eq_false, Int.not_lt, Int.not_le, beq_iff_eq, beq_eq_false_iff_ne, ne_eq] at h))
  · have hk' : k < T.length := by omega
    have hk1 : k - 1 < T.length := by omega
    (refine Holds.drawnQ (by rw [hP]; kernel_rfl) (by kernel_rfl) ?_; simp (maxSteps := 1000000) only [push_cast, reduceCtorEq, Nat.reduceAdd, Nat.reduceMul, Nat.reduceSub, Nat.reduceBEq, Nat.reduceGT, Nat.reduceLT, Int.toNat_zero, Nat.reduceLeDiff, Int.reduceEq, Int.reduceLT, Int.reduceLE, hP, hΓ, hL, hfin, String.reduceEq, not_false_eq_true, if_true, hk', hk1, wr_i64 ((k : Int) - 1) (by constructor <;> omega), wr_i64 ((k : Int) + 1) (by constructor <;> omega)])
    have hx := hat k hk'
    have hy := hat (k - 1) hk1
    have hb := between s hpl k (by omega)
    have hr2 : 0 < k → (rd s 0).at? (k - 1) < (rd s 0).at? k := fun h => by
      have := r2 (k - 1) (by omega)
      rwa [show k - 1 + 1 = k by omega] at this
    rw [← hx] at hb hr2
    rw [← hy] at hr2
    generalize (T.getD k default).pl = x at *
    generalize (T.getD (k - 1) default).pl = y at *
    refine ⟨by omega, by omega, ?_⟩
    (repeat (refine And.intro (by first | exact True.intro | omega | assumption | exact own_row _ | (simp only [List.length_append]; omega) | (intro hg; (try simp only [decide_eq_true_eq, decide_eq_false_iff_not, Bool.and_eq_true, Bool.or_eq_true, Bool.and_eq_false_iff, Bool.or_eq_false_iff, Bool.not_eq_true', Bool.not_eq_false', Bool.not_eq_true, Bool.not_eq_false, Int.not_lt, Int.not_le, beq_iff_eq, beq_eq_false_iff_ne, ne_eq] at hg); omega)) ?_))
    intro hfin0
    ((first | with_reducible refine holds_of_ex X 400 _ _ _ ?_ | skip); simp (maxSteps := 1000000) only [push_cast, reduceCtorEq, Nat.reduceAdd, Nat.reduceMul, Nat.reduceSub, Nat.reduceBEq, Nat.reduceGT, Nat.reduceLT, Int.toNat_zero, Nat.reduceLeDiff, Int.reduceEq, Int.reduceLT, Int.reduceLE, hP, hΓ, hL, hfin, String.reduceEq, not_false_eq_true, if_true, wr_i64 ((k : Int) + 1) (by constructor <;> omega)])
    refine ⟨⟨k + 1, hk'⟩, by simp only; omega, ?_⟩
    exact Into.sameA
  ((first | with_reducible refine holds_of_ex X 400 _ _ _ ?_ | skip); simp (maxSteps := 1000000) only [push_cast, reduceCtorEq, Nat.reduceAdd, Nat.reduceMul, Nat.reduceSub, Nat.reduceBEq, Nat.reduceGT, Nat.reduceLT, Int.toNat_zero, Nat.reduceLeDiff, Int.reduceEq, Int.reduceLT, Int.reduceLE, hP, hΓ, hL, hfin, String.reduceEq, not_false_eq_true, if_true, hst])
  refine Holds.loopM (ι := {k : Nat // k ≤ T.length + st}) [true, false, false, true, false, false, false, false, false, false, false, true, false, false, false, false, false, false, false, false, false, false, false, false, false, false, false, false, false, false, false, false, false, false, false, false, false, false, false, false, false, false, false, false, false, false, false, false, false, false, false, false, false, false, false, false, false, false, false, false, false, false, false, false, false, false, false, false, false, false, false, false, false, false, false, false, false, false, false, false, false, false, false, false, false, false, false, false, false, false, false, false, false, false, false, false, false, false, false, false, false, false, false, false, false, false, false, false, false, false, false, false, false, false, false, false, false, false, false, false, false, false, false, false, false, false, false, false, false, false, false, false, false, false, false, false, false, false, false, false, false, false, false, false, false, false, false, false, false, false, false, false, false, false, false, false, false, false, false, false, false, false, false, false, false, false, false, false, false, false, false, false, false, false, false, false, false, false, false, false, false, false, false, false, false, false, false, false, false, false, false, false, false, false, false, false, false, false, false, false, false, false, false, false, false, false, false, false, false, false, false, false, false, false, false, false, false, false] (fun i => [(12, .int .i64 i.1)]) (fun i => []) (fun i => T.length + st - i.1) ⟨0, Nat.zero_le _⟩ ?_ ?_
  · (rw [hL]; simp only [push_cast, Int.natCast_zero]; exact Into.sameA)
  rintro ⟨k, hk⟩
  ((first | with_reducible refine holds_of_ex X 400 _ _ _ ?_ | skip); simp (maxSteps := 1000000) only [push_cast, reduceCtorEq, Nat.reduceAdd, Nat.reduceMul, Nat.reduceSub, Nat.reduceBEq, Nat.reduceGT, Nat.reduceLT, Int.toNat_zero, Nat.reduceLeDiff, Int.reduceEq, Int.reduceLT, Int.reduceLE, hP, hΓ, hL, hfin, String.reduceEq, not_false_eq_true, if_true])
  ((with_reducible refine exB_split (fun h => ?_) (fun h => ?_)) <;> (try simp only [decide_eq_true_eq, decide_eq_false_iff_not, Bool.and_eq_true, Bool.or_eq_true, Bool.and_eq_false_iff, Bool.or_eq_false_iff, Bool.not_eq_true', Bool.not_eq_false', Bool.not_eq_true, Bool.not_eq_false, Int.not_lt, Int.not_le, beq_iff_eq, beq_eq_false_iff_ne, ne_eq] at h))
  · have hk' : k < T.length := by omega
    obtain ⟨j, g1, g2, g3, g4⟩ := front s hl k (by omega)
    have hx := hat k hk'
    rw [g1] at hx
    have hrj : Fz.rF (s.take j) = .tup [.sl ((toks (s.take j)).flatMap Tk.c) (toks (s.take j)).length, .int .i64 0, .int .i64 0] := by rw [Fz.rF, if_pos g3]
    obtain ⟨U, hU⟩ : ∃ U, U = toks (s.take j) := ⟨_, rfl⟩
    rw [← hU] at hrj g4
    have hUl : U.length = k + 1 := by rw [g4]; simp; omega
    have hUk : k < U.length := by omega
    have hUg : U.getD k default = fin0 j := by
      rw [g4]
      have : ((rd s 0).l.take k).length = k := by rw [List.length_take]; omega
      simp [List.getD, List.getElem?_append_right, this]
    have hUt : U.take k = T.take k := by
      rw [g4, hTe, List.take_append_of_le_length (by rw [List.length_take]; omega), List.take_append_of_le_length (by omega), List.take_take, Nat.min_self]
    have hd1 : decide ((U.length : Int) = (k : Int) + 1) = true := decide_eq_true (by omega)
    have tU : List.take (k * 4) (U.flatMap Tk.c) = (U.take k).flatMap Tk.c := take_fm U k
    have tT : List.take (k * 4) (T.flatMap Tk.c) = (T.take k).flatMap Tk.c := take_fm T k
    have lU : (U.take k).length = k := by rw [List.length_take]; omega
    have lT : (T.take k).length = k := by rw [List.length_take]; omega
    ((first | with_reducible refine holds_of_ex X 400 _ _ _ ?_ | skip); simp (maxSteps := 1000000) only [push_cast, reduceCtorEq, Nat.reduceAdd, Nat.reduceMul, Nat.reduceSub, Nat.reduceBEq, Nat.reduceGT, Nat.reduceLT, Int.toNat_zero, Nat.reduceLeDiff, Int.reduceEq, Int.reduceLT, Int.reduceLE, hP, hΓ, hL, hfin, String.reduceEq, not_false_eq_true, if_true, hk', hx, h7, hrj])
    refine ⟨by omega, by omega, by omega, by omega, ?_⟩
    have e1 : (fin0 (j : Int)).kind = 0 := rfl
    have e2 : (fin0 (j : Int)).text = [] := rfl
    have e3 : (fin0 (j : Int)).n = 0 := rfl
    have e4 : (fin0 (j : Int)).pl = j := rfl
    have hsame : decide (U.take k = T.take k) = true := decide_eq_true hUt
    (refine Holds.drawnQ (by rw [hP]; kernel_rfl) (by kernel_rfl) ?_; simp (maxSteps := 1000000) only [push_cast, reduceCtorEq, Nat.reduceAdd, Nat.reduceMul, Nat.reduceSub, Nat.reduceBEq, Nat.reduceGT, Nat.reduceLT, Int.toNat_zero, Nat.reduceLeDiff, Int.reduceEq, Int.reduceLT, Int.reduceLE, hP, hΓ, hL, hfin, String.reduceEq, not_false_eq_true, if_true, hk', hUk, hUg, hd1, hx, h11, tU, tT, Nat.sub_zero, e1, e2, e3, e4, decide_true, beq_self_eq_true, Bool.and_self, Bool.not_true, Bool.not_false, hsame, wr_i64 ((k : Int) + 1) (by constructor <;> omega), wr_i64 ((k : Int) + st) (by constructor <;> omega)])
    refine ⟨by omega, by omega, by omega, by omega, ⟨by omega, by omega⟩, ⟨by omega, by omega⟩, ⟨by omega, by omega, by omega⟩, ⟨k + st, by omega⟩, by simp only; omega, ?_⟩
    simp only [Int.natCast_add]
    exact Into.sameA
  ((first | with_reducible refine holds_of_ex X 400 _ _ _ ?_ | skip); simp (maxSteps := 1000000) only [push_cast, reduceCtorEq, Nat.reduceAdd, Nat.reduceMul, Nat.reduceSub, Nat.reduceBEq, Nat.reduceGT, Nat.reduceLT, Int.toNat_zero, Nat.reduceLeDiff, Int.reduceEq, Int.reduceLT, Int.reduceLE, hP, hΓ, hL, hfin, String.reduceEq, not_false_eq_true, if_true])
  exact Into.sameA
noncomputable def sa0 : Env := noE
theorem sa0_ok : EnvOk Tryd.prog sa0 := noE_ok _
noncomputable def sa1 : Env := addE sa0 71 S71
theorem sa1_ok : EnvOk Tryd.prog sa1 := sa0_ok.add (con71)
noncomputable def sa2 : Env := addE sa1 52 S52
theorem sa2_ok : EnvOk Tryd.prog sa2 := sa1_ok.add (con52 sa1_ok rfl)
noncomputable def sa3 : Env := addE sa2 38 S38
theorem sa3_ok : EnvOk Tryd.prog sa3 := sa2_ok.add (con38 sa2_ok rfl)
noncomputable def sa4 : Env := addE sa3 69 S69
theorem sa4_ok : EnvOk Tryd.prog sa4 := sa3_ok.add (con69 sa3_ok rfl)
noncomputable def sa5 : Env := addE sa4 50 S50
theorem sa5_ok : EnvOk Tryd.prog sa5 := sa4_ok.add (con50 sa4_ok rfl)
noncomputable def sa6 : Env := addE sa5 35 S35
theorem sa6_ok : EnvOk Tryd.prog sa6 := sa5_ok.add (con35 sa5_ok rfl)
noncomputable def sa7 : Env := addE sa6 37 S37
theorem sa7_ok : EnvOk Tryd.prog sa7 := sa6_ok.add (con37 sa6_ok)
noncomputable def sa8 : Env := addE sa7 70 S70
theorem sa8_ok : EnvOk Tryd.prog sa8 := sa7_ok.add (con70 sa7_ok rfl)
noncomputable def sa9 : Env := addE sa8 51 S51
theorem sa9_ok : EnvOk Tryd.prog sa9 := sa8_ok.add (con51 sa8_ok rfl)
noncomputable def sa10 : Env := addE sa9 36 S36
theorem sa10_ok : EnvOk Tryd.prog sa10 := sa9_ok.add (con36 sa9_ok rfl)
noncomputable def sa11 : Env := addE sa10 58 S58
theorem sa11_ok : EnvOk Tryd.prog sa11 := sa10_ok.add (con58)
noncomputable def sa12 : Env := addE sa11 57 S57
theorem sa12_ok : EnvOk Tryd.prog sa12 := sa11_ok.add (con57 sa11_ok)
noncomputable def sa13 : Env := addE sa12 42 S42
theorem sa13_ok : EnvOk Tryd.prog sa13 := sa12_ok.add (con42 sa12_ok rfl rfl)
noncomputable def sa14 : Env := addE sa13 43 S43
theorem sa14_ok : EnvOk Tryd.prog sa14 := sa13_ok.add (con43)
noncomputable def sa15 : Env := addE sa14 33 S33
theorem sa15_ok : EnvOk Tryd.prog sa15 := sa14_ok.add (con33 sa14_ok rfl rfl)
noncomputable def sa16 : Env := addE sa15 34 S34
theorem sa16_ok : EnvOk Tryd.prog sa16 := sa15_ok.add (con34)
noncomputable def sa17 : Env := addE sa16 12 S12
theorem sa17_ok : EnvOk Tryd.prog sa17 := sa16_ok.add (con12)
noncomputable def sa18 : Env := addE sa17 21 S21
theorem sa18_ok : EnvOk Tryd.prog sa18 := sa17_ok.add (con21 sa17_ok)
noncomputable def sa19 : Env := addE sa18 13 S13
theorem sa19_ok : EnvOk Tryd.prog sa19 := sa18_ok.add (con13 sa18_ok rfl)
noncomputable def sa20 : Env := addE sa19 56 S56
theorem sa20_ok : EnvOk Tryd.prog sa20 := sa19_ok.add (con56 sa19_ok)
noncomputable def sa21 : Env := addE sa20 41 S41
theorem sa21_ok : EnvOk Tryd.prog sa21 := sa20_ok.add (con41 sa20_ok rfl)
noncomputable def sa22 : Env := addE sa21 32 S32
theorem sa22_ok : EnvOk Tryd.prog sa22 := sa21_ok.add (con32 sa21_ok rfl)
noncomputable def sa23 : Env := addE sa22 23 S23
theorem sa23_ok : EnvOk Tryd.prog sa23 := sa22_ok.add (con23 sa22_ok)
noncomputable def sa24 : Env := addE sa23 25 S25
theorem sa24_ok : EnvOk Tryd.prog sa24 := sa23_ok.add (con25 sa23_ok)
noncomputable def sa25 : Env := addE sa24 24 S24
theorem sa25_ok : EnvOk Tryd.prog sa25 := sa24_ok.add (con24 sa24_ok)
noncomputable def sa26 : Env := addE sa25 22 S22
theorem sa26_ok : EnvOk Tryd.prog sa26 := sa25_ok.add (con22 sa25_ok rfl rfl)
noncomputable def sa27 : Env := addE sa26 26 S26
theorem sa27_ok : EnvOk Tryd.prog sa27 := sa26_ok.add (con26 sa26_ok rfl rfl rfl)
noncomputable def sa28 : Env := addE sa27 27 S27
theorem sa28_ok : EnvOk Tryd.prog sa28 := sa27_ok.add (con27 sa27_ok rfl rfl)
noncomputable def sa29 : Env := addE sa28 28 S28
theorem sa29_ok : EnvOk Tryd.prog sa29 := sa28_ok.add (con28 sa28_ok rfl)
noncomputable def sa30 : Env := addE sa29 16 S16
theorem sa30_ok : EnvOk Tryd.prog sa30 := sa29_ok.add (con16 sa29_ok rfl rfl rfl rfl rfl rfl rfl)
noncomputable def sa31 : Env := addE sa30 14 S14
theorem sa31_ok : EnvOk Tryd.prog sa31 := sa30_ok.add (con14 sa30_ok)
noncomputable def sa32 : Env := addE sa31 15 S15
theorem sa32_ok : EnvOk Tryd.prog sa32 := sa31_ok.add (con15 sa31_ok)
noncomputable def sa33 : Env := addE sa32 7 Fz.S7
theorem sa33_ok : EnvOk Tryd.prog sa33 := sa32_ok.add (Fz.con7 sa32_ok rfl rfl rfl rfl rfl)
noncomputable def sa34 : Env := addE sa33 11 S11
theorem sa34_ok : EnvOk Tryd.prog sa34 := sa33_ok.add (con11 sa33_ok)
noncomputable def sa35 : Env := addE sa34 6 S6
theorem sa35_ok : EnvOk Tryd.prog sa35 := sa34_ok.add (con6 sa34_ok rfl)
noncomputable abbrev saE : Env := sa35
theorem saE_ok : EnvOk Tryd.prog saE := sa35_ok
end Go.Proofs.YtlehfbdkjkgaeaaDoor.scanDone
