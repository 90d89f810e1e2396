/- Of sources: ScanReads' walk. Conditions stand in each. -/
import Derived.Test.YtlehfbdkjkgaeaaGreatDoorSRb
import Derived.Test.YtlehfbdkjkgaeaaGreatDoorEng21
namespace Go.Proofs.YtlehfbdkjkgaeaaGreatDoor.scanDone
open Go Go.Eng Go.Proofs Go.Scan Go.RowKit
set_option linter.unusedVariables false
set_option linter.unusedSimpArgs false
set_option maxRecDepth 100000
set_option maxHeartbeats 4000000

/-- a row of tokens, or none at all -/
def oT : Option (List Tk × Nat) → AV
  | none => .lit (.slice none 0 0)
  | some x => .sl (x.1.flatMap Tk.c) x.2
def oL : Option (List Tk × Nat) → List Tk
  | none => []
  | some x => x.1
def oK : Option (List Tk × Nat) → Prop
  | none => True
  | some x => x.2 = x.1.length ∧ x.2 ≤ 4194304
def e6o : Option (List Tk × Nat) × Option (List Tk × Nat) → List AV := fun x => [oT x.1, oT x.2]
def p6o : Option (List Tk × Nat) × Option (List Tk × Nat) → Prop := fun x => oK x.1 ∧ oK x.2
def r6o : Option (List Tk × Nat) × Option (List Tk × Nat) → AV := fun x => .bool (decide (oL x.1 = oL x.2))
def g6o : Option (List Tk × Nat) × Option (List Tk × Nat) → Heap := fun _ => []
theorem oT_inj : ∀ a b, oT a = oT b → a = b
  | none, none, _ => rfl
  | none, some _, h => by cases h
  | some _, none, h => by cases h
  | some (a, n), some (b, m), h => by
    simp only [oT, AV.sl.injEq, tk_iff] at h
    obtain ⟨rfl, rfl⟩ := h
    rfl
theorem inj6o : ∀ a b, e6o a = e6o b → a = b := by
  rintro ⟨a, b⟩ ⟨c, d⟩ h
  simp only [e6o, List.cons.injEq, and_true] at h
  rw [oT_inj _ _ h.1, oT_inj _ _ h.2]
noncomputable def S6o : FSpec := funS e6o p6o r6o g6o true
theorem ps6s (a : List Tk) (n : Nat) (b : List Tk) (m : Nat) : psel e6o p6o [.sl (a.flatMap Tk.c) n, .sl (b.flatMap Tk.c) m] = ((n = a.length ∧ n ≤ 4194304) ∧ (m = b.length ∧ m ≤ 4194304)) := psel_at inj6o p6o (some (a, n), some (b, m))
theorem rs6s (a : List Tk) (n : Nat) (b : List Tk) (m : Nat) : rsel e6o r6o .any [.sl (a.flatMap Tk.c) n, .sl (b.flatMap Tk.c) m] = .bool (decide (a = b)) := rsel_at inj6o r6o .any (some (a, n), some (b, m))
theorem hs6s (a : List Tk) (n : Nat) (b : List Tk) (m : Nat) : rsel e6o g6o [] [.sl (a.flatMap Tk.c) n, .sl (b.flatMap Tk.c) m] = [] := rsel_at inj6o g6o [] (some (a, n), some (b, m))
theorem ps6n : psel e6o p6o [.lit (.slice none 0 0), .lit (.slice none 0 0)] = (True ∧ True) := psel_at inj6o p6o (none, none)
theorem rs6n : rsel e6o r6o .any [.lit (.slice none 0 0), .lit (.slice none 0 0)] = .bool true := rsel_at inj6o r6o .any (none, none)
theorem hs6n : rsel e6o g6o [] [.lit (.slice none 0 0), .lit (.slice none 0 0)] = [] := rsel_at inj6o g6o [] (none, none)
attribute [push_cast] S6o ps6s rs6s hs6s ps6n rs6n hs6n
theorem soft_oT (x : Option (List Tk × Nat)) (h : oK x) : softV (oT x) = .sl ((oL x).flatMap Tk.c) (oL x).length ∧ (oL x).length ≤ 4194304 := by
  cases x with
  | none => exact ⟨softV_nil, Nat.zero_le _⟩
  | some x => obtain ⟨a, n⟩ := x; obtain ⟨rfl, h⟩ : n = a.length ∧ n ≤ 4194304 := h; exact ⟨softV_sl _ _, h⟩
theorem con6o {Γ : Env} (h : EnvOk Tryz.prog Γ) : Con Tryz.prog 6 S6o := by
  refine funS_con h (fn := Tryz.f6) (by kernel_rfl) rfl (by kernel_rfl) inj6o (fun _ _ => rfl) fun x hx => ?_
  obtain ⟨x, y⟩ := x
  obtain ⟨a1, a2⟩ := soft_oT x hx.1
  obtain ⟨b1, b2⟩ := soft_oT y hx.2
  refine BodyOk.soft ?_
  rw [show softL (e6o (x, y)) = e11 (oL x, (oL x).length, oL y, (oL y).length) by simp only [e6o, softL_cons, softL_nil, a1, b1, e11]]
  exact body11 Γ _ _ a2 b2
theorem rB_ok {s : Bytes} (h : okS s) : scanRef.rB s = .tup [.sl ((toks s).flatMap Tk.c) (toks s).length, .int .i64 0, .int .i64 0] := by
  rw [scanRef.rB, if_pos (show scanRef.okR s from h)]; rfl
theorem rB_no {s : Bytes} (h : ¬ okS s) : scanRef.rB s = .tup [.lit (.slice none 0 0), .int .i64 (badP s), .int .i64 (badE s)] := by
  rw [scanRef.rB, if_neg (show ¬ scanRef.okR s from h)]; rfl
theorem countR (s : Bytes) : (rd s 0).l.length ≤ s.length := by
  obtain ⟨r1, r2, r3⟩ := rises (s.length + 1) s 0 (Nat.lt_succ_self _)
  have key : ∀ i, i ≤ (rd s 0).l.length → (i : Int) ≤ (rd s 0).at? i := by
    intro i
    induction i with
    | zero => intro _; exact r1
    | succ i ih => intro h; have := ih (by omega); have := r2 i (by omega); omega
  have h1 := key _ (Nat.le_refl _)
  have h2 : (rd s 0).at? (rd s 0).l.length = (rd s 0).pl := by simp [Rs.at?]
  omega
theorem splice_fm (l : List Tk) (k : Nat) (x : Tk) (hk : k < l.length) : splice (l.flatMap Tk.c) (k * 4) x.c = (l.set k x).flatMap Tk.c := by
  have h4 : x.c.length = 4 := rfl
  have e : l.set k x = l.take k ++ x :: l.drop (k + 1) := by rw [List.set_eq_take_append_cons_drop, if_pos hk]
  rw [splice, h4, take_fm, show k * 4 + 4 = (k + 1) * 4 by omega, drop_fm, e]
  simp only [List.flatMap_append, List.flatMap_cons, List.append_assoc]
/-- a token that is nobody's -/
def mine : Tk := ⟨-3, [], 0, 0⟩
theorem splice_mine (l : List Tk) (k : Nat) (hk : k < l.length) : (l.flatMap Tk.c).take (k * 4) ++ [.int .i64 (-3), .str [], .int .i64 0, .int .i64 0] ++ (l.flatMap Tk.c).drop (k * 4 + 4) = (l.set k mine).flatMap Tk.c := splice_fm l k mine hk
def vL (n j : Nat) : AV := if j = 0 then .csl 0 0 0 n else .msl 2 0 0 (n + j)
def hL3 (A B C : List Tk) (j : Nat) : Heap := .row (A.flatMap Tk.c) 4 0 :: .row (B.flatMap Tk.c) 4 0 :: if j = 0 then [] else [.row (C.flatMap Tk.c) 4 0]
def vN (j : Nat) : AV := if j = 0 then .lit (.slice none 0 0) else .msl 0 0 0 j
def hN3 (C : List Tk) (j : Nat) : Heap := if j = 0 then [] else [.row (C.flatMap Tk.c) 4 0]
theorem mine_fm (A : List Tk) : A.flatMap Tk.c ++ [.int .i64 (-3), .str [], .int .i64 0, .int .i64 0] = (A ++ [mine]).flatMap Tk.c := by simp [Tk.c, mine]
theorem law3 (Γ : Env) (h4 : Γ 4 = some S7) (h5 : Γ 5 = some scanRef.S5) (h6 : Γ 6 = some S6o) (h7 : Γ 7 = some S6) (S : List Bytes) (hS : ∀ k, k < S.length → (S.getD k default).length ≤ 4194304) (hn : S.length ≤ 4194304) :
    BodyOk Tryz.prog Γ Tryz.f3 [.sl (S.map .str) S.length] [] (.bool true) [] := by
  (intro X hP hΓ hL hfin; refine ⟨_, rfl, ?_⟩; rw [show Tryz.f3.ntmps = 95 from rfl]; rw [show Tryz.f3.results.toList = [.tmp 2] from rfl] at hfin; apply holds_of_ex X 400; simp (maxSteps := 1000000) only [push_cast, reduceCtorEq, Nat.reduceAdd, Nat.reduceMul, Nat.reduceSub, Nat.reduceBEq, Nat.reduceGT, Nat.reduceLT, Int.toNat_zero, Nat.reduceLeDiff, Int.reduceEq, Int.reduceLT, Int.reduceLE, hP, hΓ, hL, hfin, String.reduceEq, not_false_eq_true, if_true])
  refine Holds.loopM (ι := {k : Nat // k ≤ S.length}) [true, false, false, false, false, false, false, false, false, false, false, false, false, false, false, false, false, false, false, false, false, false, false, false, false, false, false, false, false, false, false, false, false, false, false, false, false, false, false, false, false, false, false, false, false, false, false, false, false, false, false, false, false, false, false, false, false, false, false, false, false, false, false, false, false, false, false, false, false, false, false, false, false, false, false, false, false, false, false, false, false, false, false, false, false, false, false, false, false, false, false, false, false, false, false] (fun i => [(3, .int .i64 i.1)]) (fun i => []) (fun i => S.length - i.1) ⟨0, Nat.zero_le _⟩ ?_ ?_
  · (rw [hL]; simp only [push_cast, Int.natCast_zero]; exact Into.sameA)
  rintro ⟨k, hk⟩
  ((first | with_reducible refine holds_of_ex X 400 _ _ _ ?_ | skip); simp (maxSteps := 1000000) only [push_cast, reduceCtorEq, Nat.reduceAdd, Nat.reduceMul, Nat.reduceSub, Nat.reduceBEq, Nat.reduceGT, Nat.reduceLT, Int.toNat_zero, Nat.reduceLeDiff, Int.reduceEq, Int.reduceLT, Int.reduceLE, hP, hΓ, hL, hfin, String.reduceEq, not_false_eq_true, if_true])
  ((with_reducible refine exB_split (fun h => ?_) (fun h => ?_)) <;> (try simp only [decide_eq_true_eq, decide_eq_false_iff_not, Bool.and_eq_true, Bool.or_eq_true, Bool.and_eq_false_iff, Bool.or_eq_false_iff, Bool.not_eq_true', Bool.not_eq_false', Bool.not_eq_true, Bool.not_eq_false, Int.not_lt, Int.not_le, beq_iff_eq, beq_eq_false_iff_ne, ne_eq] at h))
  · have hk' : k < S.length := by omega
    have hsl := hS k hk'
    obtain ⟨s, hcg⟩ : ∃ s, S.getD k default = s := ⟨_, rfl⟩
    rw [hcg] at hsl
    by_cases ho : okS s
    · have hR := rB_ok ho
      have hA : rA s = .tup [.csl 0 0 0 (toks s).length, .int .i64 0, .int .i64 0] := by rw [rA, if_pos ho]
      have hG : gA s = [.row ((toks s).flatMap Tk.c) 4 0] := by rw [gA, if_pos ho]
      have hTl : (toks s).length ≤ 16385 := by
        have := countR s; have := ho.1
        rw [toks, whole, List.length_append]; simp; omega
      generalize toks s = T at hR hA hG hTl
      have htk : List.take (T.length * 4) (T.flatMap Tk.c) = T.flatMap Tk.c := List.take_of_length_le (by rw [len_fm (g := Tk.c)]; exact Nat.le_refl _)
      ((first | with_reducible refine holds_of_ex X 400 _ _ _ ?_ | skip); simp (maxSteps := 1000000) only [push_cast, reduceCtorEq, Nat.reduceAdd, Nat.reduceMul, Nat.reduceSub, Nat.reduceBEq, Nat.reduceGT, Nat.reduceLT, Int.toNat_zero, Nat.reduceLeDiff, Int.reduceEq, Int.reduceLT, Int.reduceLE, hP, hΓ, hL, hfin, String.reduceEq, not_false_eq_true, if_true, hk', hcg, h4, h5, h6, hA, hG, hR, htk])
      refine ⟨by omega, by omega, by omega, by omega, by omega, by omega, by omega, by omega, by omega, by omega, ?_⟩
      refine Holds.loopM (ι := {x : List Tk × Nat // x.1.length = T.length ∧ x.2 ≤ T.length}) [true, false, true, true, true, false, false, true, false, false, true, false, false, false, true, false, false, false, false, false, false, false, false, false, false, false, false, false, false, false, false, false, false, false, false, false, false, false, false, false, false, false, false, false, false, false, false, false, false, false, false, false, false, false, false, false, false, false, false, false, false, false, false, false, false, false, false, false, false, false, false, false, false, false, false, false, false, false, false, false, false, false, false, false, false, false, false, false, false, false, false, false, false, false, false] (fun i => [(13, .int .i64 i.1.2)]) (fun i => [.row (i.1.1.flatMap Tk.c) 4 0, .row (T.flatMap Tk.c) 4 0]) (fun i => T.length - i.1.2) ⟨(T, 0), rfl, Nat.zero_le _⟩ ?_ ?_
      · (rw [hL]; simp only [push_cast, Int.natCast_zero]; exact Into.sameA)
      rintro ⟨⟨A, j⟩, hA, hj⟩
      simp only at hA hj
      ((first | with_reducible refine holds_of_ex X 400 _ _ _ ?_ | skip); simp (maxSteps := 1000000) only [push_cast, reduceCtorEq, Nat.reduceAdd, Nat.reduceMul, Nat.reduceSub, Nat.reduceBEq, Nat.reduceGT, Nat.reduceLT, Int.toNat_zero, Nat.reduceLeDiff, Int.reduceEq, Int.reduceLT, Int.reduceLE, hP, hΓ, hL, hfin, String.reduceEq, not_false_eq_true, if_true])
      ((with_reducible refine exB_split (fun h => ?_) (fun h => ?_)) <;> (try simp only [decide_eq_true_eq, decide_eq_false_iff_not, Bool.and_eq_true, Bool.or_eq_true, Bool.and_eq_false_iff, Bool.or_eq_false_iff, Bool.not_eq_true', Bool.not_eq_false', Bool.not_eq_true, Bool.not_eq_false, Int.not_lt, Int.not_le, beq_iff_eq, beq_eq_false_iff_ne, ne_eq] at h))
      · have hj' : j < A.length := by omega
        have hsp := splice_mine A j hj'
        ((first | with_reducible refine holds_of_ex X 400 _ _ _ ?_ | skip); simp (maxSteps := 1000000) only [push_cast, reduceCtorEq, Nat.reduceAdd, Nat.reduceMul, Nat.reduceSub, Nat.reduceBEq, Nat.reduceGT, Nat.reduceLT, Int.toNat_zero, Nat.reduceLeDiff, Int.reduceEq, Int.reduceLT, Int.reduceLE, hP, hΓ, hL, hfin, String.reduceEq, not_false_eq_true, if_true, hj', hsp, len_fm (g := Tk.c), wr_i64 ((j : Int) + 1) (by constructor <;> omega)])
        refine ⟨by omega, by omega, ⟨(A.set j mine, j + 1), by simp only [List.length_set]; exact hA, by simp only; omega⟩, by simp only; omega, ?_⟩
        simp only [Int.natCast_add, Int.natCast_one]
        exact Into.sameA
      ((first | with_reducible refine holds_of_ex X 400 _ _ _ ?_ | skip); simp (maxSteps := 1000000) only [push_cast, reduceCtorEq, Nat.reduceAdd, Nat.reduceMul, Nat.reduceSub, Nat.reduceBEq, Nat.reduceGT, Nat.reduceLT, Int.toNat_zero, Nat.reduceLeDiff, Int.reduceEq, Int.reduceLT, Int.reduceLE, hP, hΓ, hL, hfin, String.reduceEq, not_false_eq_true, if_true])
      refine Holds.loopM (ι := {x : List Tk × Nat // x.2 ≤ 9 ∧ x.1.length = T.length + x.2}) [true, false, true, true, false, false, false, true, false, false, true, false, false, false, false, false, false, false, false, false, false, false, false, false, false, false, false, false, false, false, false, false, false, false, false, false, false, false, false, false, false, false, false, false, false, false, false, false, false, false, false, false, false, false, false, false, false, false, false, false, false, false, false, false, false, false, false, false, false, false, false, false, false, false, false, false, false, false, false, false, false, false, false, false, false, false, false, false, false, false, false, false, false, false, false] (fun i => [(4, vL T.length i.1.2), (14, .int .i64 i.1.2)]) (fun i => hL3 A T i.1.1 i.1.2) (fun i => 9 - i.1.2) ⟨(A, 0), by omega, by omega⟩ ?_ ?_
      · simp only [vL, hL3, if_true]
        (rw [hL]; simp only [push_cast, Int.natCast_zero]; exact Into.sameA)
      rintro ⟨⟨C, j⟩, hj, hC⟩
      simp only at hj hC
      ((first | with_reducible refine holds_of_ex X 400 _ _ _ ?_ | skip); simp (maxSteps := 1000000) only [push_cast, reduceCtorEq, Nat.reduceAdd, Nat.reduceMul, Nat.reduceSub, Nat.reduceBEq, Nat.reduceGT, Nat.reduceLT, Int.toNat_zero, Nat.reduceLeDiff, Int.reduceEq, Int.reduceLT, Int.reduceLE, hP, hΓ, hL, hfin, String.reduceEq, not_false_eq_true, if_true])
      ((with_reducible refine exB_split (fun h => ?_) (fun h => ?_)) <;> (try simp only [decide_eq_true_eq, decide_eq_false_iff_not, Bool.and_eq_true, Bool.or_eq_true, Bool.and_eq_false_iff, Bool.or_eq_false_iff, Bool.not_eq_true', Bool.not_eq_false', Bool.not_eq_true, Bool.not_eq_false, Int.not_lt, Int.not_le, beq_iff_eq, beq_eq_false_iff_ne, ne_eq] at h))
      · by_cases h0 : j = 0
        · subst h0
          simp only [vL, hL3, if_true]
          ((first | with_reducible refine holds_of_ex X 400 _ _ _ ?_ | skip); simp (maxSteps := 1000000) only [push_cast, reduceCtorEq, Nat.reduceAdd, Nat.reduceMul, Nat.reduceSub, Nat.reduceBEq, Nat.reduceGT, Nat.reduceLT, Int.toNat_zero, Nat.reduceLeDiff, Int.reduceEq, Int.reduceLT, Int.reduceLE, hP, hΓ, hL, hfin, String.reduceEq, not_false_eq_true, if_true, show IntKind.i64.wrap (0 + 1) = 1 from rfl])
          have htA : List.take (T.length * 4) (A.flatMap Tk.c) = A.flatMap Tk.c := List.take_of_length_le (by rw [len_fm (g := Tk.c)]; omega)
          refine ⟨by omega, ⟨(A ++ [mine], 1), by omega, by simp only [List.length_append, List.length_cons, List.length_nil]; omega⟩, by simp only; omega, ?_⟩
          rw [htA, mine_fm]
          simp only [Nat.one_ne_zero, if_false, Int.natCast_one]
          exact Into.sameA
        · simp only [vL, hL3, if_neg h0]
          ((first | with_reducible refine holds_of_ex X 400 _ _ _ ?_ | skip); simp (maxSteps := 1000000) only [push_cast, reduceCtorEq, Nat.reduceAdd, Nat.reduceMul, Nat.reduceSub, Nat.reduceBEq, Nat.reduceGT, Nat.reduceLT, Int.toNat_zero, Nat.reduceLeDiff, Int.reduceEq, Int.reduceLT, Int.reduceLE, hP, hΓ, hL, hfin, String.reduceEq, not_false_eq_true, if_true, wr_i64 ((j : Int) + 1) (by constructor <;> omega), hC, len_fm (g := Tk.c), mine_fm])
          refine ⟨by omega, ⟨(C ++ [mine], j + 1), by omega, by simp only [List.length_append, List.length_cons, List.length_nil]; omega⟩, by simp only; omega, ?_⟩
          simp only [Nat.succ_ne_zero, if_false, Int.natCast_add, Int.natCast_one, Nat.add_assoc]
          (refine IntoF.ver 2  0 (by simp only [push_cast, reduceCtorEq, Nat.reduceAdd, Nat.reduceMul, Nat.reduceSub, Nat.reduceBEq, Nat.reduceGT, Nat.reduceLT, Int.toNat_zero, Nat.reduceLeDiff, Int.reduceEq, Int.reduceLT, Int.reduceLE]) (by first | exact .inr (Nat.zero_le _) | (left; simp only [push_cast, reduceCtorEq, Nat.reduceAdd, Nat.reduceMul, Nat.reduceSub, Nat.reduceBEq, Nat.reduceGT, Nat.reduceLT, Int.toNat_zero, Nat.reduceLeDiff, Int.reduceEq, Int.reduceLT, Int.reduceLE]; omega) | (right; simp only [push_cast, reduceCtorEq, Nat.reduceAdd, Nat.reduceMul, Nat.reduceSub, Nat.reduceBEq, Nat.reduceGT, Nat.reduceLT, Int.toNat_zero, Nat.reduceLeDiff, Int.reduceEq, Int.reduceLT, Int.reduceLE]; omega)) ?_; simp only [push_cast, reduceCtorEq, Nat.reduceAdd, Nat.reduceMul, Nat.reduceSub, Nat.reduceBEq, Nat.reduceGT, Nat.reduceLT, Int.toNat_zero, Nat.reduceLeDiff, Int.reduceEq, Int.reduceLT, Int.reduceLE])
          exact Into.sameA
      simp only [vL, hL3]
      by_cases h0 : j = 0
      · omega
      simp only [if_neg h0]
      ((first | with_reducible refine holds_of_ex X 400 _ _ _ ?_ | skip); simp (maxSteps := 1000000) only [push_cast, reduceCtorEq, Nat.reduceAdd, Nat.reduceMul, Nat.reduceSub, Nat.reduceBEq, Nat.reduceGT, Nat.reduceLT, Int.toNat_zero, Nat.reduceLeDiff, Int.reduceEq, Int.reduceLT, Int.reduceLE, hP, hΓ, hL, hfin, String.reduceEq, not_false_eq_true, if_true, h6, htk, wr_i64 ((k : Int) + 1) (by constructor <;> omega)])
      refine ⟨by omega, ⟨k + 1, by omega⟩, by simp only; omega, ?_⟩
      simp only [Int.natCast_add, Int.natCast_one]
      exact Into.keep0A
    · have hR := rB_no ho
      have hA : rA s = .tup [.lit (.slice none 0 0), .int .i64 (badP s), .int .i64 (badE s)] := by rw [rA, if_neg ho]
      have hG : gA s = [] := by rw [gA, if_neg ho]
      generalize badP s = bp at *
      generalize badE s = be at *
      ((first | with_reducible refine holds_of_ex X 400 _ _ _ ?_ | skip); simp (maxSteps := 1000000) only [push_cast, reduceCtorEq, Nat.reduceAdd, Nat.reduceMul, Nat.reduceSub, Nat.reduceBEq, Nat.reduceGT, Nat.reduceLT, Int.toNat_zero, Nat.reduceLeDiff, Int.reduceEq, Int.reduceLT, Int.reduceLE, hP, hΓ, hL, hfin, String.reduceEq, not_false_eq_true, if_true, hk', hcg, h4, h5, h6, hA, hG, hR])
      refine ⟨by omega, by omega, by omega, by omega, by omega, by omega, by omega, by omega, by omega, ?_⟩
      refine Holds.loopM (ι := {k : Nat // k = 0}) [true, false, true, true, true, false, false, true, false, false, true, false, false, false, true, false, false, false, false, false, false, false, false, false, false, false, false, false, false, false, false, false, false, false, false, false, false, false, false, false, false, false, false, false, false, false, false, false, false, false, false, false, false, false, false, false, false, false, false, false, false, false, false, false, false, false, false, false, false, false, false, false, false, false, false, false, false, false, false, false, false, false, false, false, false, false, false, false, false, false, false, false, false, false, false] (fun i => [(13, .int .i64 i.1)]) (fun i => []) (fun i => i.1) ⟨0, rfl⟩ ?_ ?_
      · (rw [hL]; simp only [push_cast, Int.natCast_zero]; exact Into.sameA)
      rintro ⟨j, rfl⟩
      ((first | with_reducible refine holds_of_ex X 400 _ _ _ ?_ | skip); simp (maxSteps := 1000000) only [push_cast, reduceCtorEq, Nat.reduceAdd, Nat.reduceMul, Nat.reduceSub, Nat.reduceBEq, Nat.reduceGT, Nat.reduceLT, Int.toNat_zero, Nat.reduceLeDiff, Int.reduceEq, Int.reduceLT, Int.reduceLE, hP, hΓ, hL, hfin, String.reduceEq, not_false_eq_true, if_true])
      refine Holds.loopM (ι := {x : List Tk × Nat // x.2 ≤ 9 ∧ x.1.length = x.2}) [true, false, true, true, false, false, false, true, false, false, true, false, false, false, false, false, false, false, false, false, false, false, false, false, false, false, false, false, false, false, false, false, false, false, false, false, false, false, false, false, false, false, false, false, false, false, false, false, false, false, false, false, false, false, false, false, false, false, false, false, false, false, false, false, false, false, false, false, false, false, false, false, false, false, false, false, false, false, false, false, false, false, false, false, false, false, false, false, false, false, false, false, false, false, false] (fun i => [(4, vN i.1.2), (14, .int .i64 i.1.2)]) (fun i => hN3 i.1.1 i.1.2) (fun i => 9 - i.1.2) ⟨([], 0), by omega, rfl⟩ ?_ ?_
      · simp only [vN, hN3, if_true]
        (rw [hL]; simp only [push_cast, Int.natCast_zero]; exact Into.sameA)
      rintro ⟨⟨C, j⟩, hj, hC⟩
      simp only at hj hC
      ((first | with_reducible refine holds_of_ex X 400 _ _ _ ?_ | skip); simp (maxSteps := 1000000) only [push_cast, reduceCtorEq, Nat.reduceAdd, Nat.reduceMul, Nat.reduceSub, Nat.reduceBEq, Nat.reduceGT, Nat.reduceLT, Int.toNat_zero, Nat.reduceLeDiff, Int.reduceEq, Int.reduceLT, Int.reduceLE, hP, hΓ, hL, hfin, String.reduceEq, not_false_eq_true, if_true])
      ((with_reducible refine exB_split (fun h => ?_) (fun h => ?_)) <;> (try simp only [decide_eq_true_eq, decide_eq_false_iff_not, Bool.and_eq_true, Bool.or_eq_true, Bool.and_eq_false_iff, Bool.or_eq_false_iff, Bool.not_eq_true', Bool.not_eq_false', Bool.not_eq_true, Bool.not_eq_false, Int.not_lt, Int.not_le, beq_iff_eq, beq_eq_false_iff_ne, ne_eq] at h))
      · by_cases h0 : j = 0
        · subst h0
          simp only [vN, hN3, if_true]
          ((first | with_reducible refine holds_of_ex X 400 _ _ _ ?_ | skip); simp (maxSteps := 1000000) only [push_cast, reduceCtorEq, Nat.reduceAdd, Nat.reduceMul, Nat.reduceSub, Nat.reduceBEq, Nat.reduceGT, Nat.reduceLT, Int.toNat_zero, Nat.reduceLeDiff, Int.reduceEq, Int.reduceLT, Int.reduceLE, hP, hΓ, hL, hfin, String.reduceEq, not_false_eq_true, if_true, show IntKind.i64.wrap (0 + 1) = 1 from rfl])
          refine ⟨⟨([mine], 1), by omega, rfl⟩, by simp only; omega, ?_⟩
          simp only [Nat.one_ne_zero, if_false, Int.natCast_one]
          rw [show ([mine] : List Tk).flatMap Tk.c = [.int .i64 (-3), .str [], .int .i64 0, .int .i64 0] from rfl]
          exact Into.sameA
        · simp only [vN, hN3, if_neg h0]
          ((first | with_reducible refine holds_of_ex X 400 _ _ _ ?_ | skip); simp (maxSteps := 1000000) only [push_cast, reduceCtorEq, Nat.reduceAdd, Nat.reduceMul, Nat.reduceSub, Nat.reduceBEq, Nat.reduceGT, Nat.reduceLT, Int.toNat_zero, Nat.reduceLeDiff, Int.reduceEq, Int.reduceLT, Int.reduceLE, hP, hΓ, hL, hfin, String.reduceEq, not_false_eq_true, if_true, wr_i64 ((j : Int) + 1) (by constructor <;> omega), hC, len_fm (g := Tk.c), mine_fm])
          refine ⟨by omega, ⟨(C ++ [mine], j + 1), by omega, by simp only [List.length_append, List.length_cons, List.length_nil]; omega⟩, by simp only; omega, ?_⟩
          simp only [Nat.succ_ne_zero, if_false, Int.natCast_add, Int.natCast_one, Nat.add_assoc]
          (refine IntoF.ver 0  0 (by simp only [push_cast, reduceCtorEq, Nat.reduceAdd, Nat.reduceMul, Nat.reduceSub, Nat.reduceBEq, Nat.reduceGT, Nat.reduceLT, Int.toNat_zero, Nat.reduceLeDiff, Int.reduceEq, Int.reduceLT, Int.reduceLE]) (by first | exact .inr (Nat.zero_le _) | (left; simp only [push_cast, reduceCtorEq, Nat.reduceAdd, Nat.reduceMul, Nat.reduceSub, Nat.reduceBEq, Nat.reduceGT, Nat.reduceLT, Int.toNat_zero, Nat.reduceLeDiff, Int.reduceEq, Int.reduceLT, Int.reduceLE]; omega) | (right; simp only [push_cast, reduceCtorEq, Nat.reduceAdd, Nat.reduceMul, Nat.reduceSub, Nat.reduceBEq, Nat.reduceGT, Nat.reduceLT, Int.toNat_zero, Nat.reduceLeDiff, Int.reduceEq, Int.reduceLT, Int.reduceLE]; omega)) ?_; simp only [push_cast, reduceCtorEq, Nat.reduceAdd, Nat.reduceMul, Nat.reduceSub, Nat.reduceBEq, Nat.reduceGT, Nat.reduceLT, Int.toNat_zero, Nat.reduceLeDiff, Int.reduceEq, Int.reduceLT, Int.reduceLE])
          exact Into.sameA
      simp only [vN, hN3]
      by_cases h0 : j = 0
      · omega
      simp only [if_neg h0]
      ((first | with_reducible refine holds_of_ex X 400 _ _ _ ?_ | skip); simp (maxSteps := 1000000) only [push_cast, reduceCtorEq, Nat.reduceAdd, Nat.reduceMul, Nat.reduceSub, Nat.reduceBEq, Nat.reduceGT, Nat.reduceLT, Int.toNat_zero, Nat.reduceLeDiff, Int.reduceEq, Int.reduceLT, Int.reduceLE, hP, hΓ, hL, hfin, String.reduceEq, not_false_eq_true, if_true, h6, wr_i64 ((k : Int) + 1) (by constructor <;> omega)])
      refine ⟨⟨k + 1, by omega⟩, by simp only; omega, ?_⟩
      simp only [Int.natCast_add, Int.natCast_one]
      exact Into.keep0A
  ((first | with_reducible refine holds_of_ex X 400 _ _ _ ?_ | skip); simp (maxSteps := 1000000) only [push_cast, reduceCtorEq, Nat.reduceAdd, Nat.reduceMul, Nat.reduceSub, Nat.reduceBEq, Nat.reduceGT, Nat.reduceLT, Int.toNat_zero, Nat.reduceLeDiff, Int.reduceEq, Int.reduceLT, Int.reduceLE, hP, hΓ, hL, hfin, String.reduceEq, not_false_eq_true, if_true, h7])
  exact Into.sameA
end Go.Proofs.YtlehfbdkjkgaeaaGreatDoor.scanDone
