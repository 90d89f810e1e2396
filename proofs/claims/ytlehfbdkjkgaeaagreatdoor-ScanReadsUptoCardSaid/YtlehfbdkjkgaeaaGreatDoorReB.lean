/- Of sources: the reference's numbers. Conditions stand in each. -/
import Derived.Test.YtlehfbdkjkgaeaaGreatDoorReA
import Derived.Test.YtlehfbdkjkgaeaaGreatDoorScS
namespace Go.Proofs.YtlehfbdkjkgaeaaGreatDoor.scanRef
open Go Go.Eng Go.Proofs Go.Scan Go.RowKit
set_option linter.unusedVariables false
set_option linter.unusedSimpArgs false
set_option maxRecDepth 100000
set_option maxHeartbeats 4000000

def e64 : (UInt8) → List AV := fun c => [.int .u8 (c.toNat : Int)]
def p64 : (UInt8) → Prop := fun c => True
def r64 : (UInt8) → AV := fun c => .int .i64 (hexI c)
def g64 : (UInt8) → Heap := fun c => []
theorem inj64 : ∀ a b, e64 a = e64 b → a = b := by
  rintro c c' h
  simp only [e64, mi_iff, ms_iff, mb_iff, my_iff, UInt8.toNat_inj, List.cons.injEq, AV.int.injEq, AV.str.injEq, AV.bool.injEq, AV.sl.injEq, AV.agg.injEq, AV.ip.injEq, AV.fn.injEq, AV.ifc.injEq, AV.mpr.injEq, Int.natCast_inj, and_true, true_and] at h
  simp_all only
noncomputable def S64 : FSpec := funS e64 p64 r64 g64 true
theorem ps64 (c : (UInt8)) : psel e64 p64 [.int .u8 (c.toNat : Int)] = (True) := psel_at inj64 p64 c
theorem rs64 (c : (UInt8)) : rsel e64 r64 .any [.int .u8 (c.toNat : Int)] = (.int .i64 (hexI c)) := rsel_at inj64 r64 .any c
theorem hs64 (c : (UInt8)) : rsel e64 g64 [] [.int .u8 (c.toNat : Int)] = ([]) := rsel_at inj64 g64 [] c
attribute [push_cast] S64 ps64 rs64 hs64
theorem body64 (Γ : Env) (c : UInt8) : BodyOk Tryz.prog Γ Tryz.f64 (e64 c) [] (.int .i64 (hexI c)) [] := by
  (intro X hP hΓ hL hfin; refine ⟨_, rfl, ?_⟩; rw [show Tryz.f64.ntmps = 15 from rfl]; rw [show Tryz.f64.results.toList = [.tmp 2] from rfl] at hfin; apply holds_of_ex X 400; simp (maxSteps := 1000000) only [push_cast, reduceCtorEq, Nat.reduceAdd, Nat.reduceMul, Nat.reduceSub, Nat.reduceBEq, Nat.reduceGT, Nat.reduceLT, Int.toNat_zero, Nat.reduceLeDiff, Int.reduceEq, Int.reduceLT, Int.reduceLE, hP, hΓ, hL, hfin, String.reduceEq, not_false_eq_true, if_true, e64])
  refine Holds.loopM (ι := {k : Nat // k ≤ 16 ∧ ∀ i < k, HX.getD i 0 ≠ c}) [true, false, false, true, false, false, false, false, false, false, false, false, false, false, false] (fun i => [(4, .int .i64 i.1)]) (fun i => []) (fun i => 16 - i.1) ⟨0, Nat.zero_le _, fun i h => absurd h (Nat.not_lt_zero i)⟩ ?_ ?_
  · (rw [hL]; simp only [push_cast, Int.natCast_zero]; exact Into.sameA)
  rintro ⟨k, hk, hno⟩
  ((first | with_reducible refine holds_of_ex X 400 _ _ _ ?_ | skip); simp (maxSteps := 1000000) only [push_cast, reduceCtorEq, Nat.reduceAdd, Nat.reduceMul, Nat.reduceSub, Nat.reduceBEq, Nat.reduceGT, Nat.reduceLT, Int.toNat_zero, Nat.reduceLeDiff, Int.reduceEq, Int.reduceLT, Int.reduceLE, hP, hΓ, hL, hfin, String.reduceEq, not_false_eq_true, if_true])
  ((with_reducible refine exB_split (fun h => ?_) (fun h => ?_)) <;> (try simp only [decide_eq_true_eq, decide_eq_false_iff_not, Bool.and_eq_true, Bool.or_eq_true, Bool.and_eq_false_iff, Bool.or_eq_false_iff, Bool.not_eq_true', Bool.not_eq_false', Bool.not_eq_true, Bool.not_eq_false, Int.not_lt, Int.not_le, beq_iff_eq, beq_eq_false_iff_ne, ne_eq] at h))
  · have hk' : k < 16 := by omega
    have hat := hexI_at k hk'
    have hx : ([48, 49, 50, 51, 52, 53, 54, 55, 56, 57, 65, 66, 67, 68, 69, 70] : Bytes) = HX := rfl
    ((first | with_reducible refine holds_of_ex X 400 _ _ _ ?_ | skip); simp (maxSteps := 1000000) only [push_cast, reduceCtorEq, Nat.reduceAdd, Nat.reduceMul, Nat.reduceSub, Nat.reduceBEq, Nat.reduceGT, Nat.reduceLT, Int.toNat_zero, Nat.reduceLeDiff, Int.reduceEq, Int.reduceLT, Int.reduceLE, hP, hΓ, hL, hfin, String.reduceEq, not_false_eq_true, if_true, hx])
    generalize hg : HX.getD k 0 = x at *
    refine ⟨by have : HX.length = 16 := rfl; omega, ?_⟩
    ((with_reducible refine exB_split (fun h => ?_) (fun h => ?_)) <;> (try simp only [decide_eq_true_eq, decide_eq_false_iff_not, Bool.and_eq_true, Bool.or_eq_true, Bool.and_eq_false_iff, Bool.or_eq_false_iff, Bool.not_eq_true', Bool.not_eq_false', Bool.not_eq_true, Bool.not_eq_false, Int.not_lt, Int.not_le, beq_iff_eq, beq_eq_false_iff_ne, ne_eq] at h))
    · obtain rfl : x = c := UInt8.toNat_inj.1 (by omega)
      ((first | with_reducible refine holds_of_ex X 400 _ _ _ ?_ | skip); simp (maxSteps := 1000000) only [push_cast, reduceCtorEq, Nat.reduceAdd, Nat.reduceMul, Nat.reduceSub, Nat.reduceBEq, Nat.reduceGT, Nat.reduceLT, Int.toNat_zero, Nat.reduceLeDiff, Int.reduceEq, Int.reduceLT, Int.reduceLE, hP, hΓ, hL, hfin, String.reduceEq, not_false_eq_true, if_true])
      rw [hat]
      exact Into.one rfl rfl
    · ((first | with_reducible refine holds_of_ex X 400 _ _ _ ?_ | skip); simp (maxSteps := 1000000) only [push_cast, reduceCtorEq, Nat.reduceAdd, Nat.reduceMul, Nat.reduceSub, Nat.reduceBEq, Nat.reduceGT, Nat.reduceLT, Int.toNat_zero, Nat.reduceLeDiff, Int.reduceEq, Int.reduceLT, Int.reduceLE, hP, hΓ, hL, hfin, String.reduceEq, not_false_eq_true, if_true, wr_i64 ((k : Int) + 1) (by constructor <;> omega)])
      refine ⟨⟨k + 1, by omega, fun i hi => ?_⟩, by simp only; omega, ?_⟩
      · by_cases e : i = k
        · subst e; rw [hg]; intro e'; subst e'; exact h rfl
        · exact hno i (by omega)
      exact Into.sameA
  · obtain rfl : k = 16 := by omega
    ((first | with_reducible refine holds_of_ex X 400 _ _ _ ?_ | skip); simp (maxSteps := 1000000) only [push_cast, reduceCtorEq, Nat.reduceAdd, Nat.reduceMul, Nat.reduceSub, Nat.reduceBEq, Nat.reduceGT, Nat.reduceLT, Int.toNat_zero, Nat.reduceLeDiff, Int.reduceEq, Int.reduceLT, Int.reduceLE, hP, hΓ, hL, hfin, String.reduceEq, not_false_eq_true, if_true])
    rw [hexI_no c hno]
    exact Into.one rfl rfl
theorem con64 {Γ : Env} (h : EnvOk Tryz.prog Γ)  : Con Tryz.prog 64 S64 :=
  funS_con h (fn := Tryz.f64) (by kernel_rfl) rfl (by kernel_rfl) inj64 (by first | (intro h; cases h; done) | exact fun _ _ => rfl) fun c _ => body64 Γ c
def e47 : (Bytes) × (Int) → List AV := fun (s, m) => [.str s, .int .i64 m]
def p47 : (Bytes) × (Int) → Prop := fun (s, m) => s.length ≤ 4194304 ∧ 0 ≤ m ∧ m ≤ 4294967295
def r47 : (Bytes) × (Int) → AV := fun (s, m) => .tup [.int .i64 (numO (numM hexD 16 m.toNat s)), .bool (numM hexD 16 m.toNat s).isSome]
def g47 : (Bytes) × (Int) → Heap := fun (s, m) => []
theorem inj47 : ∀ a b, e47 a = e47 b → a = b := by
  rintro ⟨s, m⟩ ⟨s', m'⟩ h
  simp only [e47, mi_iff, ms_iff, mb_iff, my_iff, UInt8.toNat_inj, List.cons.injEq, AV.int.injEq, AV.str.injEq, AV.bool.injEq, AV.sl.injEq, AV.agg.injEq, AV.ip.injEq, AV.fn.injEq, AV.ifc.injEq, AV.mpr.injEq, Int.natCast_inj, and_true, true_and] at h
  simp_all only
noncomputable def S47 : FSpec := funS e47 p47 r47 g47 true
theorem ps47 (s : (Bytes)) (m : (Int)) : psel e47 p47 [.str s, .int .i64 m] = (s.length ≤ 4194304 ∧ 0 ≤ m ∧ m ≤ 4294967295) := psel_at inj47 p47 (s, m)
theorem rs47 (s : (Bytes)) (m : (Int)) : rsel e47 r47 .any [.str s, .int .i64 m] = (.tup [.int .i64 (numO (numM hexD 16 m.toNat s)), .bool (numM hexD 16 m.toNat s).isSome]) := rsel_at inj47 r47 .any (s, m)
theorem hs47 (s : (Bytes)) (m : (Int)) : rsel e47 g47 [] [.str s, .int .i64 m] = ([]) := rsel_at inj47 g47 [] (s, m)
attribute [push_cast] S47 ps47 rs47 hs47
theorem body47 (Γ : Env) (h64 : Γ 64 = some S64) (s : Bytes) (m : Nat) (hl : s.length ≤ 4194304) (hm : m ≤ 4294967295) : BodyOk Tryz.prog Γ Tryz.f47 (e47 (s, m)) [] (.tup [.int .i64 (numO (numM hexD 16 m s)), .bool (numM hexD 16 m s).isSome]) [] := by
  obtain ⟨R, hR⟩ : ∃ R, R = numM hexD 16 m s := ⟨_, rfl⟩
  rw [← hR]
  (intro X hP hΓ hL hfin; refine ⟨_, rfl, ?_⟩; rw [show Tryz.f47.ntmps = 29 from rfl]; rw [show Tryz.f47.results.toList = [.tmp 4, .tmp 5] from rfl] at hfin; apply holds_of_ex X 400; simp (maxSteps := 1000000) only [push_cast, reduceCtorEq, Nat.reduceAdd, Nat.reduceMul, Nat.reduceSub, Nat.reduceBEq, Nat.reduceGT, Nat.reduceLT, Int.toNat_zero, Nat.reduceLeDiff, Int.reduceEq, Int.reduceLT, Int.reduceLE, hP, hΓ, hL, hfin, String.reduceEq, not_false_eq_true, if_true, e47])
  refine Holds.loopM (ι := {x : Nat × Nat // x.1 ≤ s.length ∧ x.2 ≤ m ∧ (numF hexD 16 x.2 (s.drop x.1)).filter (· ≤ m) = R}) [true, true, false, false, false, false, false, false, false, false, false, false, false, false, false, false, false, false, false, false, false, false, false, false, false, false, false, false, false] (fun i => [(7, .int .i64 i.1.1), (6, .int .i64 i.1.2)]) (fun i => []) (fun i => s.length - i.1.1) ⟨(0, 0), Nat.zero_le _, Nat.zero_le _, hR.symm⟩ ?_ ?_
  · (rw [hL]; simp only [push_cast, Int.natCast_zero]; exact Into.sameA)
  rintro ⟨⟨k, n⟩, hk, hn, he⟩
  simp only at hk hn he
  ((first | with_reducible refine holds_of_ex X 400 _ _ _ ?_ | skip); simp (maxSteps := 1000000) only [push_cast, reduceCtorEq, Nat.reduceAdd, Nat.reduceMul, Nat.reduceSub, Nat.reduceBEq, Nat.reduceGT, Nat.reduceLT, Int.toNat_zero, Nat.reduceLeDiff, Int.reduceEq, Int.reduceLT, Int.reduceLE, hP, hΓ, hL, hfin, String.reduceEq, not_false_eq_true, if_true])
  ((with_reducible refine exB_split (fun h => ?_) (fun h => ?_)) <;> (try simp only [decide_eq_true_eq, decide_eq_false_iff_not, Bool.and_eq_true, Bool.or_eq_true, Bool.and_eq_false_iff, Bool.or_eq_false_iff, Bool.not_eq_true', Bool.not_eq_false', Bool.not_eq_true, Bool.not_eq_false, Int.not_lt, Int.not_le, beq_iff_eq, beq_eq_false_iff_ne, ne_eq] at h))
  · have hk' : k < s.length := by omega
    have hd := drop_c s k hk'
    ((first | with_reducible refine holds_of_ex X 400 _ _ _ ?_ | skip); simp (maxSteps := 1000000) only [push_cast, reduceCtorEq, Nat.reduceAdd, Nat.reduceMul, Nat.reduceSub, Nat.reduceBEq, Nat.reduceGT, Nat.reduceLT, Int.toNat_zero, Nat.reduceLeDiff, Int.reduceEq, Int.reduceLT, Int.reduceLE, hP, hΓ, hL, hfin, String.reduceEq, not_false_eq_true, if_true, h64])
    generalize s.getD k 0 = c at *
    rw [hd] at he
    obtain ⟨x1, x2⟩ := hexI_neg c
    refine ⟨by omega, ?_⟩
    ((with_reducible refine exB_split (fun h => ?_) (fun h => ?_)) <;> (try simp only [decide_eq_true_eq, decide_eq_false_iff_not, Bool.and_eq_true, Bool.or_eq_true, Bool.and_eq_false_iff, Bool.or_eq_false_iff, Bool.not_eq_true', Bool.not_eq_false', Bool.not_eq_true, Bool.not_eq_false, Int.not_lt, Int.not_le, beq_iff_eq, beq_eq_false_iff_ne, ne_eq] at h))
    · rw [numM_none _ _ _ _ _ _ (x1.1 h)] at he
      subst he
      ((first | with_reducible refine holds_of_ex X 400 _ _ _ ?_ | skip); simp (maxSteps := 1000000) only [push_cast, reduceCtorEq, Nat.reduceAdd, Nat.reduceMul, Nat.reduceSub, Nat.reduceBEq, Nat.reduceGT, Nat.reduceLT, Int.toNat_zero, Nat.reduceLeDiff, Int.reduceEq, Int.reduceLT, Int.reduceLE, hP, hΓ, hL, hfin, String.reduceEq, not_false_eq_true, if_true])
      exact Into.one rfl rfl
    · obtain ⟨x, hx⟩ : ∃ x, hexD c = some x := by
        cases hc : hexD c with
        | none => have := x1.2 hc; omega
        | some x => exact ⟨x, rfl⟩
      have hxi := x2 x hx
      have hxl := hexD_le c x hx
      rw [numM_step _ _ _ _ _ _ _ hx] at he
      ((first | with_reducible refine holds_of_ex X 400 _ _ _ ?_ | skip); simp (maxSteps := 1000000) only [push_cast, reduceCtorEq, Nat.reduceAdd, Nat.reduceMul, Nat.reduceSub, Nat.reduceBEq, Nat.reduceGT, Nat.reduceLT, Int.toNat_zero, Nat.reduceLeDiff, Int.reduceEq, Int.reduceLT, Int.reduceLE, hP, hΓ, hL, hfin, String.reduceEq, not_false_eq_true, if_true, hxi, wr_i64 ((16 : Int) * n) (by constructor <;> omega), wr_i64 ((16 : Int) * n + x) (by constructor <;> omega)])
      ((with_reducible refine exB_split (fun h => ?_) (fun h => ?_)) <;> (try simp only [decide_eq_true_eq, decide_eq_false_iff_not, Bool.and_eq_true, Bool.or_eq_true, Bool.and_eq_false_iff, Bool.or_eq_false_iff, Bool.not_eq_true', Bool.not_eq_false', Bool.not_eq_true, Bool.not_eq_false, Int.not_lt, Int.not_le, beq_iff_eq, beq_eq_false_iff_ne, ne_eq] at h))
      · rw [numF_big _ _ (by decide) _ _ _ (by omega)] at he
        subst he
        ((first | with_reducible refine holds_of_ex X 400 _ _ _ ?_ | skip); simp (maxSteps := 1000000) only [push_cast, reduceCtorEq, Nat.reduceAdd, Nat.reduceMul, Nat.reduceSub, Nat.reduceBEq, Nat.reduceGT, Nat.reduceLT, Int.toNat_zero, Nat.reduceLeDiff, Int.reduceEq, Int.reduceLT, Int.reduceLE, hP, hΓ, hL, hfin, String.reduceEq, not_false_eq_true, if_true])
        exact Into.one rfl rfl
      · ((first | with_reducible refine holds_of_ex X 400 _ _ _ ?_ | skip); simp (maxSteps := 1000000) only [push_cast, reduceCtorEq, Nat.reduceAdd, Nat.reduceMul, Nat.reduceSub, Nat.reduceBEq, Nat.reduceGT, Nat.reduceLT, Int.toNat_zero, Nat.reduceLeDiff, Int.reduceEq, Int.reduceLT, Int.reduceLE, hP, hΓ, hL, hfin, String.reduceEq, not_false_eq_true, if_true, wr_i64 ((k : Int) + 1) (by constructor <;> omega)])
        refine ⟨⟨(k + 1, 16 * n + x), by simp only; omega, by simp only; omega, he⟩, by simp only; omega, ?_⟩
        simp only [Int.natCast_add, Int.natCast_mul, Int.cast_ofNat_Int]
        exact Into.sameA
  · obtain rfl : k = s.length := by omega
    rw [List.drop_length, numM_nil _ _ _ _ hn] at he
    subst he
    ((first | with_reducible refine holds_of_ex X 400 _ _ _ ?_ | skip); simp (maxSteps := 1000000) only [push_cast, reduceCtorEq, Nat.reduceAdd, Nat.reduceMul, Nat.reduceSub, Nat.reduceBEq, Nat.reduceGT, Nat.reduceLT, Int.toNat_zero, Nat.reduceLeDiff, Int.reduceEq, Int.reduceLT, Int.reduceLE, hP, hΓ, hL, hfin, String.reduceEq, not_false_eq_true, if_true])
    exact Into.one rfl rfl
theorem con47 {Γ : Env} (h : EnvOk Tryz.prog Γ) (h64 : Γ 64 = some S64) : Con Tryz.prog 47 S47 :=
  funS_con h (fn := Tryz.f47) (by kernel_rfl) rfl (by kernel_rfl) inj47 (by first | (intro h; cases h; done) | exact fun _ _ => rfl) fun ⟨s, m⟩ h => by obtain ⟨h1, h2, h3⟩ := h; obtain ⟨m, rfl⟩ := Int.eq_ofNat_of_zero_le h2; exact body47 Γ h64 s m h1 (by omega)
theorem decD_digi (c : UInt8) : decD c = if digi c.toNat = true then some (c.toNat - 48) else none := by
  unfold decD digi
  by_cases h : 48 ≤ c.toNat ∧ c.toNat ≤ 57
  · rw [if_pos h, if_pos]
    simp only [Bool.and_eq_true, decide_eq_true_eq]; omega
  · rw [if_neg h, if_neg]
    simp only [Bool.and_eq_true, decide_eq_true_eq]; omega
def e48 : (Bytes) → List AV := fun s => [.str s]
def p48 : (Bytes) → Prop := fun s => s.length ≤ 4194304
def r48 : (Bytes) → AV := fun s => .tup [.int .i64 (numO (numM decD 10 2147483647 s)), .bool (numM decD 10 2147483647 s).isSome]
def g48 : (Bytes) → Heap := fun s => []
theorem inj48 : ∀ a b, e48 a = e48 b → a = b := by
  rintro s s' h
  simp only [e48, mi_iff, ms_iff, mb_iff, my_iff, UInt8.toNat_inj, List.cons.injEq, AV.int.injEq, AV.str.injEq, AV.bool.injEq, AV.sl.injEq, AV.agg.injEq, AV.ip.injEq, AV.fn.injEq, AV.ifc.injEq, AV.mpr.injEq, Int.natCast_inj, and_true, true_and] at h
  simp_all only
noncomputable def S48 : FSpec := funS e48 p48 r48 g48 true
theorem ps48 (s : (Bytes)) : psel e48 p48 [.str s] = (s.length ≤ 4194304) := psel_at inj48 p48 s
theorem rs48 (s : (Bytes)) : rsel e48 r48 .any [.str s] = (.tup [.int .i64 (numO (numM decD 10 2147483647 s)), .bool (numM decD 10 2147483647 s).isSome]) := rsel_at inj48 r48 .any s
theorem hs48 (s : (Bytes)) : rsel e48 g48 [] [.str s] = ([]) := rsel_at inj48 g48 [] s
attribute [push_cast] S48 ps48 rs48 hs48
theorem body48 (Γ : Env) (h31 : Γ 31 = some S31) (s : Bytes) (hl : s.length ≤ 4194304) : BodyOk Tryz.prog Γ Tryz.f48 (e48 s) [] (.tup [.int .i64 (numO (numM decD 10 2147483647 s)), .bool (numM decD 10 2147483647 s).isSome]) [] := by
  obtain ⟨R, hR⟩ : ∃ R, R = numM decD 10 2147483647 s := ⟨_, rfl⟩
  rw [← hR]
  (intro X hP hΓ hL hfin; refine ⟨_, rfl, ?_⟩; rw [show Tryz.f48.ntmps = 30 from rfl]; rw [show Tryz.f48.results.toList = [.tmp 2, .tmp 3] from rfl] at hfin; apply holds_of_ex X 400; simp (maxSteps := 1000000) only [push_cast, reduceCtorEq, Nat.reduceAdd, Nat.reduceMul, Nat.reduceSub, Nat.reduceBEq, Nat.reduceGT, Nat.reduceLT, Int.toNat_zero, Nat.reduceLeDiff, Int.reduceEq, Int.reduceLT, Int.reduceLE, hP, hΓ, hL, hfin, String.reduceEq, not_false_eq_true, if_true, e48])
  refine Holds.loopM (ι := {x : Nat × Nat // x.1 ≤ s.length ∧ x.2 ≤ 2147483647 ∧ (numF decD 10 x.2 (s.drop x.1)).filter (· ≤ 2147483647) = R}) [true, false, false, false, false, false, false, false, false, false, false, false, false, false, false, false, false, false, false, false, false, false, false, false, false, false, false, false, false, false] (fun i => [(5, .int .i64 i.1.1), (4, .int .i64 i.1.2)]) (fun i => []) (fun i => s.length - i.1.1) ⟨(0, 0), Nat.zero_le _, Nat.zero_le _, hR.symm⟩ ?_ ?_
  · (rw [hL]; simp only [push_cast, Int.natCast_zero]; exact Into.sameA)
  rintro ⟨⟨k, n⟩, hk, hn, he⟩
  simp only at hk hn he
  ((first | with_reducible refine holds_of_ex X 400 _ _ _ ?_ | skip); simp (maxSteps := 1000000) only [push_cast, reduceCtorEq, Nat.reduceAdd, Nat.reduceMul, Nat.reduceSub, Nat.reduceBEq, Nat.reduceGT, Nat.reduceLT, Int.toNat_zero, Nat.reduceLeDiff, Int.reduceEq, Int.reduceLT, Int.reduceLE, hP, hΓ, hL, hfin, String.reduceEq, not_false_eq_true, if_true])
  ((with_reducible refine exB_split (fun h => ?_) (fun h => ?_)) <;> (try simp only [decide_eq_true_eq, decide_eq_false_iff_not, Bool.and_eq_true, Bool.or_eq_true, Bool.and_eq_false_iff, Bool.or_eq_false_iff, Bool.not_eq_true', Bool.not_eq_false', Bool.not_eq_true, Bool.not_eq_false, Int.not_lt, Int.not_le, beq_iff_eq, beq_eq_false_iff_ne, ne_eq] at h))
  · have hk' : k < s.length := by omega
    have hd := drop_c s k hk'
    ((first | with_reducible refine holds_of_ex X 400 _ _ _ ?_ | skip); simp (maxSteps := 1000000) only [push_cast, reduceCtorEq, Nat.reduceAdd, Nat.reduceMul, Nat.reduceSub, Nat.reduceBEq, Nat.reduceGT, Nat.reduceLT, Int.toNat_zero, Nat.reduceLeDiff, Int.reduceEq, Int.reduceLT, Int.reduceLE, hP, hΓ, hL, hfin, String.reduceEq, not_false_eq_true, if_true, h31])
    generalize hcg : s.getD k 0 = c at *
    rw [hd] at he
    have hdc := decD_digi c
    refine ⟨by omega, ?_⟩
    ((with_reducible refine exB_split (fun h => ?_) (fun h => ?_)) <;> (try simp only [decide_eq_true_eq, decide_eq_false_iff_not, Bool.and_eq_true, Bool.or_eq_true, Bool.and_eq_false_iff, Bool.or_eq_false_iff, Bool.not_eq_true', Bool.not_eq_false', Bool.not_eq_true, Bool.not_eq_false, Int.not_lt, Int.not_le, beq_iff_eq, beq_eq_false_iff_ne, ne_eq] at h))
    · rw [h] at hdc
      rw [numM_none _ _ _ _ _ _ (by simpa using hdc)] at he
      subst he
      ((first | with_reducible refine holds_of_ex X 400 _ _ _ ?_ | skip); simp (maxSteps := 1000000) only [push_cast, reduceCtorEq, Nat.reduceAdd, Nat.reduceMul, Nat.reduceSub, Nat.reduceBEq, Nat.reduceGT, Nat.reduceLT, Int.toNat_zero, Nat.reduceLeDiff, Int.reduceEq, Int.reduceLT, Int.reduceLE, hP, hΓ, hL, hfin, String.reduceEq, not_false_eq_true, if_true])
      exact Into.one rfl rfl
    · rw [h, if_pos rfl] at hdc
      have hxl := decD_le c _ hdc
      have h48 : 48 ≤ c.toNat := by
        simp only [digi, Bool.and_eq_true, decide_eq_true_eq] at h; omega
      rw [numM_step _ _ _ _ _ _ _ hdc] at he
      obtain ⟨x, hx⟩ : ∃ x, c.toNat = x + 48 := ⟨c.toNat - 48, by omega⟩
      have hu : IntKind.u8.wrap ((c.toNat : Int) - 48) = (x : Int) := by rw [IntKind.wrap_u8]; omega
      rw [hx, Nat.add_sub_cancel] at he hxl
      ((first | with_reducible refine holds_of_ex X 400 _ _ _ ?_ | skip); simp (maxSteps := 1000000) only [push_cast, reduceCtorEq, Nat.reduceAdd, Nat.reduceMul, Nat.reduceSub, Nat.reduceBEq, Nat.reduceGT, Nat.reduceLT, Int.toNat_zero, Nat.reduceLeDiff, Int.reduceEq, Int.reduceLT, Int.reduceLE, hP, hΓ, hL, hfin, String.reduceEq, not_false_eq_true, if_true, hcg, hu, wr_i64 ((x : Int)) (by constructor <;> omega), wr_i64 ((10 : Int) * n) (by constructor <;> omega), wr_i64 ((10 : Int) * n + x) (by constructor <;> omega)])
      refine ⟨by omega, ?_⟩
      ((with_reducible refine exB_split (fun h => ?_) (fun h => ?_)) <;> (try simp only [decide_eq_true_eq, decide_eq_false_iff_not, Bool.and_eq_true, Bool.or_eq_true, Bool.and_eq_false_iff, Bool.or_eq_false_iff, Bool.not_eq_true', Bool.not_eq_false', Bool.not_eq_true, Bool.not_eq_false, Int.not_lt, Int.not_le, beq_iff_eq, beq_eq_false_iff_ne, ne_eq] at h))
      · rw [numF_big _ _ (by decide) _ _ _ (by omega)] at he
        subst he
        ((first | with_reducible refine holds_of_ex X 400 _ _ _ ?_ | skip); simp (maxSteps := 1000000) only [push_cast, reduceCtorEq, Nat.reduceAdd, Nat.reduceMul, Nat.reduceSub, Nat.reduceBEq, Nat.reduceGT, Nat.reduceLT, Int.toNat_zero, Nat.reduceLeDiff, Int.reduceEq, Int.reduceLT, Int.reduceLE, hP, hΓ, hL, hfin, String.reduceEq, not_false_eq_true, if_true])
        exact Into.one rfl rfl
      · ((first | with_reducible refine holds_of_ex X 400 _ _ _ ?_ | skip); simp (maxSteps := 1000000) only [push_cast, reduceCtorEq, Nat.reduceAdd, Nat.reduceMul, Nat.reduceSub, Nat.reduceBEq, Nat.reduceGT, Nat.reduceLT, Int.toNat_zero, Nat.reduceLeDiff, Int.reduceEq, Int.reduceLT, Int.reduceLE, hP, hΓ, hL, hfin, String.reduceEq, not_false_eq_true, if_true, wr_i64 ((k : Int) + 1) (by constructor <;> omega)])
        refine ⟨⟨(k + 1, 10 * n + x), by simp only; omega, by simp only; omega, he⟩, by simp only; omega, ?_⟩
        simp only [Int.natCast_add, Int.natCast_mul, Int.cast_ofNat_Int]
        exact Into.sameA
  · obtain rfl : k = s.length := by omega
    rw [List.drop_length, numM_nil _ _ _ _ hn] at he
    subst he
    ((first | with_reducible refine holds_of_ex X 400 _ _ _ ?_ | skip); simp (maxSteps := 1000000) only [push_cast, reduceCtorEq, Nat.reduceAdd, Nat.reduceMul, Nat.reduceSub, Nat.reduceBEq, Nat.reduceGT, Nat.reduceLT, Int.toNat_zero, Nat.reduceLeDiff, Int.reduceEq, Int.reduceLT, Int.reduceLE, hP, hΓ, hL, hfin, String.reduceEq, not_false_eq_true, if_true])
    exact Into.one rfl rfl
theorem con48 {Γ : Env} (h : EnvOk Tryz.prog Γ) (h31 : Γ 31 = some S31) : Con Tryz.prog 48 S48 :=
  funS_con h (fn := Tryz.f48) (by kernel_rfl) rfl (by kernel_rfl) inj48 (by first | (intro h; cases h; done) | exact fun _ _ => rfl) fun s h => body48 Γ h31 s h
end Go.Proofs.YtlehfbdkjkgaeaaGreatDoor.scanRef
