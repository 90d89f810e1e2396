/- Of the model of a workstation: a new disk by the document. Conditions stand in each. -/
import Derived.Test.YtenopfmafecffaaGreatDoorMoY
namespace Go.Proofs.YtenopfmafecffaaGreatDoor.modelDone
open Go Go.Eng Go.Proofs Go.Mdl Go.RowKit
set_option linter.unusedVariables false
set_option linter.unusedSimpArgs false
set_option maxRecDepth 100000
set_option maxHeartbeats 4000000
def newE (S : Int) (l : Fs) : Int × Fs := if S < 8 ∨ 1024 < S then (30, []) else newF S [] l
def newV (S : Int) (l : Fs) : AV := if (newE S l).1 = 0 then .tup [.ref 0 0 0, .int .i64 0] else .tup [.lit (.pointer none), .int .i64 (newE S l).1]
def newH (S : Int) (l : Fs) : Heap := if (newE S l).1 = 0 then [.row [.sl ((newE S l).2.flatMap fc) (newE S l).2.length, .int .i64 S] 2 0] else []
theorem ok_nil {S : Int} (h : 8 ≤ S ∧ S ≤ 1024) : okS S [] := ⟨⟨List.Pairwise.nil, by simp, fun x hx => by cases hx⟩, by omega, by omega, by simp [freeF, leaves, cost]; omega⟩
structure New (S : Int) (l : Fs) where
  A : Fs
  k : Nat
  ok : okS S A
  le : k ≤ l.length
  eq : newF S A (l.drop k) = newF S [] l
theorem drop_get {l : Fs} {k : Nat} (h : k < l.length) : l.drop k = l.getD k default :: l.drop (k + 1) := by
  rw [List.drop_eq_getElem_cons h, List.getD, List.getElem?_eq_getElem h]; rfl
def e11 : (Int) × (Fs) → List AV := fun (S, l) => [.int .i64 S, .sl (l.flatMap fc) l.length]
def p11 : (Int) × (Fs) → Prop := fun (S, l) => l.length ≤ 1000000 ∧ ∀ x ∈ l, x.1.length ≤ 4194304 ∧ x.2.length ≤ 1000000000
def r11 : (Int) × (Fs) → AV := fun (S, l) => newV S l
def g11 : (Int) × (Fs) → Heap := fun (S, l) => newH S l
theorem inj11 : ∀ a b, e11 a = e11 b → a = b := by
  rintro ⟨S, l⟩ ⟨S', l'⟩ h
  simp only [e11, mi_iff, ms_iff, mb_iff, my_iff, UInt8.toNat_inj, fc_iff, List.cons.injEq, AV.int.injEq, AV.str.injEq, AV.bool.injEq, AV.sl.injEq, AV.agg.injEq, AV.ip.injEq, AV.fn.injEq, AV.ifc.injEq, AV.mpr.injEq, Int.natCast_inj, and_true, true_and] at h
  simp_all only
noncomputable def S11 : FSpec := funS e11 p11 r11 g11 false
theorem ps11 (S : (Int)) (l : (Fs)) : psel e11 p11 [.int .i64 S, .sl (l.flatMap fc) l.length] = (l.length ≤ 1000000 ∧ ∀ x ∈ l, x.1.length ≤ 4194304 ∧ x.2.length ≤ 1000000000) := psel_at inj11 p11 (S, l)
theorem rs11 (S : (Int)) (l : (Fs)) : rsel e11 r11 .any [.int .i64 S, .sl (l.flatMap fc) l.length] = (newV S l) := rsel_at inj11 r11 .any (S, l)
theorem hs11 (S : (Int)) (l : (Fs)) : rsel e11 g11 [] [.int .i64 S, .sl (l.flatMap fc) l.length] = (newH S l) := rsel_at inj11 g11 [] (S, l)
attribute [push_cast] S11 ps11 rs11 hs11
theorem body11 (Γ : Env) (h22 : Γ 22 = some S22) (h25 : Γ 25 = some S25) (h26 : Γ 26 = some S26) (h27 : Γ 27 = some S27) (S : Int) (l : Fs) (hl : l.length ≤ 1000000) (hb : ∀ x ∈ l, x.1.length ≤ 4194304 ∧ x.2.length ≤ 1000000000) : BodyOk Tryz.prog Γ Tryz.f11 [.int .i64 S, .sl (l.flatMap fc) l.length] [] (newV S l) (newH S l) := by
  by_cases c0 : S < 8 ∨ 1024 < S
  · have e : newE S l = (30, []) := by rw [newE, if_pos c0]
    rw [newV, newH, e]
    simp only [show ¬ (30 : Int) = 0 by decide, if_false]
    rcases Decidable.em (S < 8) with c1 | c1
    · (intro X hP hΓ hL hfin; refine ⟨_, rfl, ?_⟩; rw [show Tryz.f11.ntmps = 75 from rfl]; rw [show Tryz.f11.results.toList = [.tmp 4, .tmp 5] from rfl] at hfin; apply holds_of_ex X 400; simp (maxSteps := 1000000) only [push_cast, reduceCtorEq, Nat.reduceAdd, Nat.reduceMul, Nat.reduceSub, Nat.reduceBEq, Nat.reduceGT, Nat.reduceLT, Int.toNat_zero, Nat.reduceLeDiff, Int.reduceEq, Int.reduceLT, Int.reduceLE, hP, hΓ, hL, hfin, String.reduceEq, not_false_eq_true, if_true, fz0, fz1, bytesLess_eq, c1])
      exact Into.sameA
    · have c2 : 1024 < S := by omega
      (intro X hP hΓ hL hfin; refine ⟨_, rfl, ?_⟩; rw [show Tryz.f11.ntmps = 75 from rfl]; rw [show Tryz.f11.results.toList = [.tmp 4, .tmp 5] from rfl] at hfin; apply holds_of_ex X 400; simp (maxSteps := 1000000) only [push_cast, reduceCtorEq, Nat.reduceAdd, Nat.reduceMul, Nat.reduceSub, Nat.reduceBEq, Nat.reduceGT, Nat.reduceLT, Int.toNat_zero, Nat.reduceLeDiff, Int.reduceEq, Int.reduceLT, Int.reduceLE, hP, hΓ, hL, hfin, String.reduceEq, not_false_eq_true, if_true, fz0, fz1, bytesLess_eq, c1, c2])
      exact Into.sameA
  have c1 : ¬ S < 8 := by omega
  have c2 : ¬ 1024 < S := by omega
  have e : newE S l = newF S [] l := by rw [newE, if_neg c0]
  rw [newV, newH, e]
  (intro X hP hΓ hL hfin; refine ⟨_, rfl, ?_⟩; rw [show Tryz.f11.ntmps = 75 from rfl]; rw [show Tryz.f11.results.toList = [.tmp 4, .tmp 5] from rfl] at hfin; apply holds_of_ex X 400; simp (maxSteps := 1000000) only [push_cast, reduceCtorEq, Nat.reduceAdd, Nat.reduceMul, Nat.reduceSub, Nat.reduceBEq, Nat.reduceGT, Nat.reduceLT, Int.toNat_zero, Nat.reduceLeDiff, Int.reduceEq, Int.reduceLT, Int.reduceLE, hP, hΓ, hL, hfin, String.reduceEq, not_false_eq_true, if_true, fz0, fz1, bytesLess_eq, c1, c2])
  refine Holds.loopM (ι := New S l) [false, true, false, false, false, false, true, false, false, false, false, false, false, false, false, false, false, false, false, false, false, false, false, false, false, false, false, false, false, false, false, false, false, false, false, false, false, false, false, false, false, false, false, false, false, false, false, false, false, false, false, false, false, false, false, false, false, false, false, false, false, false, false, false, false, false, false, false, false, false, false, false, false, false, false] (fun i => [(7, .int .i64 i.k)]) (fun i => [.row [.sl (i.A.flatMap fc) i.A.length, .int .i64 S] 2 0]) (fun i => l.length - i.k) ⟨[], 0, ok_nil (by omega), Nat.zero_le _, rfl⟩ ?_ ?_
  · rw [hL]; simp only [push_cast, Int.natCast_zero]
    refine IntoF.softH 0 rfl ?_
    simp only [push_cast, Int.natCast_zero, List.flatMap_nil]
    exact Into.sameA
  rintro ⟨B, k, hB, hk, he⟩
  have hBl := hB.ok.le
  ((first | with_reducible refine holds_of_ex X 400 _ _ _ ?_ | skip); simp (maxSteps := 1000000) only [push_cast, reduceCtorEq, Nat.reduceAdd, Nat.reduceMul, Nat.reduceSub, Nat.reduceBEq, Nat.reduceGT, Nat.reduceLT, Int.toNat_zero, Nat.reduceLeDiff, Int.reduceEq, Int.reduceLT, Int.reduceLE, hP, hΓ, hL, hfin, String.reduceEq, not_false_eq_true, if_true, fz0, fz1, bytesLess_eq])
  ((with_reducible refine exB_split (fun h => ?_) (fun h => ?_)) <;> (try simp only [decide_eq_true_eq, decide_eq_false_iff_not, Bool.and_eq_true, Bool.or_eq_true, Bool.and_eq_false_iff, Bool.or_eq_false_iff, Bool.not_eq_true', Bool.not_eq_false', Bool.not_eq_true, Bool.not_eq_false, Int.not_lt, Int.not_le, beq_iff_eq, beq_eq_false_iff_ne, ne_eq] at h))
  · have hk' : k < l.length := by omega
    have hl' : (k : Int) < (l.length : Int) := by omega
    have hl2 : 0 < l.length * 2 - k * 2 := by omega
    have hl3 : 1 < l.length * 2 - k * 2 := by omega
    have hl4 : 0 < l.length * 2 - k * 2 - 1 := by omega
    have hx := hb _ (get_mem hk')
    rw [drop_get hk', newF] at he
    generalize hg : l.getD k default = x at *
    ((first | with_reducible refine holds_of_ex X 400 _ _ _ ?_ | skip); simp (maxSteps := 1000000) only [push_cast, reduceCtorEq, Nat.reduceAdd, Nat.reduceMul, Nat.reduceSub, Nat.reduceBEq, Nat.reduceGT, Nat.reduceLT, Int.toNat_zero, Nat.reduceLeDiff, Int.reduceEq, Int.reduceLT, Int.reduceLE, hP, hΓ, hL, hfin, String.reduceEq, not_false_eq_true, if_true, fz0, fz1, bytesLess_eq, h25, hl', hl2, hl3, hl4, hg])
    refine ⟨by omega, ?_⟩
    cases hh : has B x.1
    case true =>
      rw [if_pos hh] at he
      rw [← he] at hfin
      ((first | with_reducible refine holds_of_ex X 400 _ _ _ ?_ | skip); simp (maxSteps := 1000000) only [push_cast, reduceCtorEq, Nat.reduceAdd, Nat.reduceMul, Nat.reduceSub, Nat.reduceBEq, Nat.reduceGT, Nat.reduceLT, Int.toNat_zero, Nat.reduceLeDiff, Int.reduceEq, Int.reduceLT, Int.reduceLE, hP, hΓ, hL, hfin, String.reduceEq, not_false_eq_true, if_true, fz0, fz1, bytesLess_eq, hh])
      exact Into.keep0A
    case false =>
    rw [if_neg (by simp [hh])] at he
    ((first | with_reducible refine holds_of_ex X 400 _ _ _ ?_ | skip); simp (maxSteps := 1000000) only [push_cast, reduceCtorEq, Nat.reduceAdd, Nat.reduceMul, Nat.reduceSub, Nat.reduceBEq, Nat.reduceGT, Nat.reduceLT, Int.toNat_zero, Nat.reduceLeDiff, Int.reduceEq, Int.reduceLT, Int.reduceLE, hP, hΓ, hL, hfin, String.reduceEq, not_false_eq_true, if_true, fz0, fz1, bytesLess_eq, hh, h22, hl', hl2, hl3, hl4, hg])
    refine ⟨hx.1, ?_⟩
    cases hn : nameB x.1
    case false =>
      rw [if_pos hn] at he
      rw [← he] at hfin
      ((first | with_reducible refine holds_of_ex X 400 _ _ _ ?_ | skip); simp (maxSteps := 1000000) only [push_cast, reduceCtorEq, Nat.reduceAdd, Nat.reduceMul, Nat.reduceSub, Nat.reduceBEq, Nat.reduceGT, Nat.reduceLT, Int.toNat_zero, Nat.reduceLeDiff, Int.reduceEq, Int.reduceLT, Int.reduceLE, hP, hΓ, hL, hfin, String.reduceEq, not_false_eq_true, if_true, fz0, fz1, bytesLess_eq, hn])
      exact Into.keep0A
    case true =>
    rw [if_neg (by simp [hn])] at he
    ((first | with_reducible refine holds_of_ex X 400 _ _ _ ?_ | skip); simp (maxSteps := 1000000) only [push_cast, reduceCtorEq, Nat.reduceAdd, Nat.reduceMul, Nat.reduceSub, Nat.reduceBEq, Nat.reduceGT, Nat.reduceLT, Int.toNat_zero, Nat.reduceLeDiff, Int.reduceEq, Int.reduceLT, Int.reduceLE, hP, hΓ, hL, hfin, String.reduceEq, not_false_eq_true, if_true, fz0, fz1, bytesLess_eq, hn])
    (refine Holds.drawnE (patH [.row 2 0]) [0, 1, 2, 3, 4, 5, 6, 7, 8, 9, 10, 11, 12, 13] [] [] false (by rw [hP]; kernel_rfl) (by kernel_rfl) (by kernel_rfl) (by kernel_rfl) (by first | exact .inl rfl | exact .inr fun _ _ h => patH_app _ _ h) (by first | (simp only [push_cast]; done) | (simp only [push_cast, and_true]; omega)) ?_; simp (maxSteps := 1000000) only [↓reduceIte, Option.getD_some, push_cast, reduceCtorEq, Nat.reduceAdd, Nat.reduceMul, Nat.reduceSub, Nat.reduceBEq, Nat.reduceGT, Nat.reduceLT, Int.toNat_zero, Nat.reduceLeDiff, Int.reduceEq, Int.reduceLT, Int.reduceLE, hP, hΓ, hL, hfin, String.reduceEq, not_false_eq_true, if_true, fz0, fz1, bytesLess_eq, h26, hl', hl2, hl3, hl4, hg])
    refine ⟨⟨hB.ok, hB.lo, hB.hi, by omega⟩, ?_⟩
    by_cases h0 : fitsF S B x.1 x.2.length = 0
    · rw [if_pos h0] at he
      ((first | with_reducible refine holds_of_ex X 400 _ _ _ ?_ | skip); simp (maxSteps := 1000000) only [push_cast, reduceCtorEq, Nat.reduceAdd, Nat.reduceMul, Nat.reduceSub, Nat.reduceBEq, Nat.reduceGT, Nat.reduceLT, Int.toNat_zero, Nat.reduceLeDiff, Int.reduceEq, Int.reduceLT, Int.reduceLE, hP, hΓ, hL, hfin, String.reduceEq, not_false_eq_true, if_true, fz0, fz1, bytesLess_eq, h0])
      (refine Holds.drawnE (patH [.row 2 0]) [0, 1, 2, 3, 4, 5, 6, 7, 8, 9, 10, 11] [] [] true (by rw [hP]; kernel_rfl) (by kernel_rfl) (by kernel_rfl) (by kernel_rfl) (by first | exact .inl rfl | exact .inr fun _ _ h => patH_app _ _ h) (by first | (simp only [push_cast]; done) | (simp only [push_cast, and_true]; omega)) ?_; simp (maxSteps := 1000000) only [↓reduceIte, Option.getD_some, push_cast, reduceCtorEq, Nat.reduceAdd, Nat.reduceMul, Nat.reduceSub, Nat.reduceBEq, Nat.reduceGT, Nat.reduceLT, Int.toNat_zero, Nat.reduceLeDiff, Int.reduceEq, Int.reduceLT, Int.reduceLE, hP, hΓ, hL, hfin, String.reduceEq, not_false_eq_true, if_true, fz0, fz1, bytesLess_eq, h27, hl', hl2, hl3, hl4, hg])
      refine ⟨hB.ok, ?_⟩
      ((first | with_reducible refine holds_of_ex X 400 _ _ _ ?_ | skip); simp (maxSteps := 1000000) only [push_cast, reduceCtorEq, Nat.reduceAdd, Nat.reduceMul, Nat.reduceSub, Nat.reduceBEq, Nat.reduceGT, Nat.reduceLT, Int.toNat_zero, Nat.reduceLeDiff, Int.reduceEq, Int.reduceLT, Int.reduceLE, hP, hΓ, hL, hfin, String.reduceEq, not_false_eq_true, if_true, fz0, fz1, bytesLess_eq, wr_i64 ((k : Int) + 1) (by constructor <;> omega)])
      refine ⟨⟨ins B x.1 x.2, k + 1, lay_s hB hn h0, hk', he⟩, by simp only; omega, ?_⟩
      exact Into.sameA
    · rw [if_neg h0] at he
      rw [← he] at hfin
      generalize fitsF S B x.1 x.2.length = f at *
      ((first | with_reducible refine holds_of_ex X 400 _ _ _ ?_ | skip); simp (maxSteps := 1000000) only [push_cast, reduceCtorEq, Nat.reduceAdd, Nat.reduceMul, Nat.reduceSub, Nat.reduceBEq, Nat.reduceGT, Nat.reduceLT, Int.toNat_zero, Nat.reduceLeDiff, Int.reduceEq, Int.reduceLT, Int.reduceLE, hP, hΓ, hL, hfin, String.reduceEq, not_false_eq_true, if_true, fz0, fz1, bytesLess_eq, h0])
      exact Into.keep0A
  · obtain rfl : k = l.length := by omega
    rw [List.drop_length, newF] at he
    rw [← he] at hfin
    ((first | with_reducible refine holds_of_ex X 400 _ _ _ ?_ | skip); simp (maxSteps := 1000000) only [push_cast, reduceCtorEq, Nat.reduceAdd, Nat.reduceMul, Nat.reduceSub, Nat.reduceBEq, Nat.reduceGT, Nat.reduceLT, Int.toNat_zero, Nat.reduceLeDiff, Int.reduceEq, Int.reduceLT, Int.reduceLE, hP, hΓ, hL, hfin, String.reduceEq, not_false_eq_true, if_true, fz0, fz1, bytesLess_eq])
    exact Into.sameA
theorem con11 {Γ : Env} (h : EnvOk Tryz.prog Γ) (h22 : Γ 22 = some S22) (h25 : Γ 25 = some S25) (h26 : Γ 26 = some S26) (h27 : Γ 27 = some S27) : Con Tryz.prog 11 S11 :=
  funS_con h (fn := Tryz.f11) (by kernel_rfl) rfl (by kernel_rfl) inj11 (by first | (intro h; cases h; done) | exact fun _ _ => rfl) fun ⟨S, l⟩ h => body11 Γ h22 h25 h26 h27 S l h.1 h.2
end Go.Proofs.YtenopfmafecffaaGreatDoor.modelDone
