/- Of the model of a workstation: the law's own sameFiles. Conditions stand in each. -/
import Derived.Test.YtenopfmafecffaaGreatDoorMoZ
namespace Go.Proofs.YtenopfmafecffaaGreatDoor.modelDone
open Go Go.Eng Go.Proofs Go.Mdl Go.RowKit
set_option linter.unusedVariables false
set_option linter.unusedSimpArgs false
set_option maxRecDepth 100000
set_option maxHeartbeats 4000000
theorem same_len {a b : Fs} {k : Nat} (he : a.take k = b.take k) (h1 : k = a.length ∨ k = b.length) (ha : k ≤ a.length) (hb : k ≤ b.length) : decide ((a.length : Int) = b.length) = decide (a = b) := by
  by_cases e : a.length = b.length
  · have hk : k = a.length := by omega
    subst hk
    rw [List.take_length, List.take_of_length_le (by omega)] at he
    rw [he]; simp
  · have h : a ≠ b := fun h => e (by rw [h])
    rw [decide_eq_false h, decide_eq_false (by omega)]
def e15 : (Fs) × (Nat) × (Fs) × (Nat) → List AV := fun (a, n, b, m) => [.sl (a.flatMap fc) n, .sl (b.flatMap fc) m]
def p15 : (Fs) × (Nat) × (Fs) × (Nat) → Prop := fun (a, n, b, m) => n = a.length ∧ m = b.length ∧ n ≤ 1000000 ∧ m ≤ 1000000
def r15 : (Fs) × (Nat) × (Fs) × (Nat) → AV := fun (a, n, b, m) => .bool (decide (a = b))
def g15 : (Fs) × (Nat) × (Fs) × (Nat) → Heap := fun (a, n, b, m) => []
theorem inj15 : ∀ a b, e15 a = e15 b → a = b := by
  rintro ⟨a, n, b, m⟩ ⟨a', n', b', m'⟩ h
  simp only [e15, mi_iff, ms_iff, mb_iff, my_iff, UInt8.toNat_inj, fc_iff, List.cons.injEq, AV.int.injEq, AV.str.injEq, AV.bool.injEq, AV.sl.injEq, AV.agg.injEq, AV.ip.injEq, AV.fn.injEq, AV.ifc.injEq, AV.mpr.injEq, Int.natCast_inj, and_true, true_and] at h
  simp_all only
noncomputable def S15 : FSpec := funS e15 p15 r15 g15 true
theorem ps15 (a : (Fs)) (n : (Nat)) (b : (Fs)) (m : (Nat)) : psel e15 p15 [.sl (a.flatMap fc) n, .sl (b.flatMap fc) m] = (n = a.length ∧ m = b.length ∧ n ≤ 1000000 ∧ m ≤ 1000000) := psel_at inj15 p15 (a, n, b, m)
theorem rs15 (a : (Fs)) (n : (Nat)) (b : (Fs)) (m : (Nat)) : rsel e15 r15 .any [.sl (a.flatMap fc) n, .sl (b.flatMap fc) m] = (.bool (decide (a = b))) := rsel_at inj15 r15 .any (a, n, b, m)
theorem hs15 (a : (Fs)) (n : (Nat)) (b : (Fs)) (m : (Nat)) : rsel e15 g15 [] [.sl (a.flatMap fc) n, .sl (b.flatMap fc) m] = ([]) := rsel_at inj15 g15 [] (a, n, b, m)
attribute [push_cast] S15 ps15 rs15 hs15
theorem body15 (Γ : Env) (a b : Fs) (ha : a.length ≤ 1000000) (hb : b.length ≤ 1000000) : BodyOk Tryz.prog Γ Tryz.f15 (e15 (a, a.length, b, b.length)) [] (.bool (decide (a = b))) [] := by
  (intro X hP hΓ hL hfin; refine ⟨_, rfl, ?_⟩; rw [show Tryz.f15.ntmps = 32 from rfl]; rw [show Tryz.f15.results.toList = [.tmp 4] from rfl] at hfin; apply holds_of_ex X 400; simp (maxSteps := 1000000) only [push_cast, reduceCtorEq, Nat.reduceAdd, Nat.reduceMul, Nat.reduceSub, Nat.reduceBEq, Nat.reduceGT, Nat.reduceLT, Int.toNat_zero, Nat.reduceLeDiff, Int.reduceEq, Int.reduceLT, Int.reduceLE, hP, hΓ, hL, hfin, String.reduceEq, not_false_eq_true, if_true, e15])
  refine Holds.loopM (ι := {k : Nat // k ≤ a.length ∧ k ≤ b.length ∧ a.take k = b.take k}) [true, true, false, false, false, false, false, false, false, false, false, false, false, false, false, false, false, false, false, false, false, false, false, false, false, false, false, false, false, false, false, false] (fun i => [(5, .int .i64 i.1)]) (fun i => []) (fun i => a.length - i.1) ⟨0, Nat.zero_le _, Nat.zero_le _, by simp⟩ ?_ ?_
  · (rw [hL]; simp only [push_cast, Int.natCast_zero]; exact Into.sameA)
  rintro ⟨k, hk, hkb, he⟩
  by_cases c1 : k < a.length
  case neg =>
    have c1' : ¬ (k : Int) < (a.length : Int) := by omega
    ((first | with_reducible refine holds_of_ex X 400 _ _ _ ?_ | skip); simp (maxSteps := 1000000) only [push_cast, reduceCtorEq, Nat.reduceAdd, Nat.reduceMul, Nat.reduceSub, Nat.reduceBEq, Nat.reduceGT, Nat.reduceLT, Int.toNat_zero, Nat.reduceLeDiff, Int.reduceEq, Int.reduceLT, Int.reduceLE, hP, hΓ, hL, hfin, String.reduceEq, not_false_eq_true, if_true, c1'])
    rw [same_len he (.inl (by omega)) hk hkb]
    exact Into.sameA
  by_cases c2 : k < b.length
  case neg =>
    have c1' : (k : Int) < (a.length : Int) := by omega
    have c2' : ¬ (k : Int) < (b.length : Int) := by omega
    ((first | with_reducible refine holds_of_ex X 400 _ _ _ ?_ | skip); simp (maxSteps := 1000000) only [push_cast, reduceCtorEq, Nat.reduceAdd, Nat.reduceMul, Nat.reduceSub, Nat.reduceBEq, Nat.reduceGT, Nat.reduceLT, Int.toNat_zero, Nat.reduceLeDiff, Int.reduceEq, Int.reduceLT, Int.reduceLE, hP, hΓ, hL, hfin, String.reduceEq, not_false_eq_true, if_true, c1', c2'])
    rw [same_len he (.inr (by omega)) hk hkb]
    exact Into.sameA
  have c1' : (k : Int) < (a.length : Int) := by omega
  have c2' : (k : Int) < (b.length : Int) := by omega
  ((first | with_reducible refine holds_of_ex X 400 _ _ _ ?_ | skip); simp (maxSteps := 1000000) only [push_cast, reduceCtorEq, Nat.reduceAdd, Nat.reduceMul, Nat.reduceSub, Nat.reduceBEq, Nat.reduceGT, Nat.reduceLT, Int.toNat_zero, Nat.reduceLeDiff, Int.reduceEq, Int.reduceLT, Int.reduceLE, hP, hΓ, hL, hfin, String.reduceEq, not_false_eq_true, if_true, c1', c2'])
  (refine Holds.drawnQ (by rw [hP]; kernel_rfl) (by kernel_rfl) ?_; simp (maxSteps := 1000000) only [push_cast, reduceCtorEq, Nat.reduceAdd, Nat.reduceMul, Nat.reduceSub, Nat.reduceBEq, Nat.reduceGT, Nat.reduceLT, Int.toNat_zero, Nat.reduceLeDiff, Int.reduceEq, Int.reduceLT, Int.reduceLE, hP, hΓ, hL, hfin, String.reduceEq, not_false_eq_true, if_true, c1, c2, c1', c2'])
  refine ⟨by omega, by omega, ?_⟩
  have hx : a.getD k default = a[k] := by simp [List.getD, c1]
  have hy : b.getD k default = b[k] := by simp [List.getD, c2]
  generalize a.getD k default = x at hx ⊢
  generalize b.getD k default = y at hy ⊢
  refine exB_split (fun h => ?_) (fun h => ?_)
  · have hne : a ≠ b := by
      intro e
      subst e
      rw [← hx] at hy
      subst hy
      simp at h
    ((first | with_reducible refine holds_of_ex X 400 _ _ _ ?_ | skip); simp (maxSteps := 1000000) only [push_cast, reduceCtorEq, Nat.reduceAdd, Nat.reduceMul, Nat.reduceSub, Nat.reduceBEq, Nat.reduceGT, Nat.reduceLT, Int.toNat_zero, Nat.reduceLeDiff, Int.reduceEq, Int.reduceLT, Int.reduceLE, hP, hΓ, hL, hfin, String.reduceEq, not_false_eq_true, if_true])
    rw [decide_eq_false hne]
    exact Into.sameA
  · have hxy : x = y := by
      obtain ⟨x1, x2⟩ := x; obtain ⟨y1, y2⟩ := y
      simpa [Bool.and_eq_true, and_assoc] using h
    ((first | with_reducible refine holds_of_ex X 400 _ _ _ ?_ | skip); simp (maxSteps := 1000000) only [push_cast, reduceCtorEq, Nat.reduceAdd, Nat.reduceMul, Nat.reduceSub, Nat.reduceBEq, Nat.reduceGT, Nat.reduceLT, Int.toNat_zero, Nat.reduceLeDiff, Int.reduceEq, Int.reduceLT, Int.reduceLE, hP, hΓ, hL, hfin, String.reduceEq, not_false_eq_true, if_true, wr_i64 ((k : Int) + 1) (by constructor <;> omega)])
    refine ⟨⟨k + 1, c1, c2, ?_⟩, by simp only; omega, ?_⟩
    · rw [List.take_succ_eq_append_getElem c1, List.take_succ_eq_append_getElem c2, he, ← hx, ← hy, hxy]
    exact Into.sameA
theorem con15 {Γ : Env} (h : EnvOk Tryz.prog Γ)  : Con Tryz.prog 15 S15 :=
  funS_con h (fn := Tryz.f15) (by kernel_rfl) rfl (by kernel_rfl) inj15 (by first | (intro h; cases h; done) | exact fun _ _ => rfl) fun ⟨a, n, b, m⟩ h => by obtain ⟨rfl, rfl, ha, hb⟩ := h; exact body15 Γ a b ha hb
end Go.Proofs.YtenopfmafecffaaGreatDoor.modelDone
