/- Of the model of a workstation: the program's New. Conditions stand in each. -/
import Derived.Test.YtenopfmafecffaaGreatDoorMpO
namespace Go.Proofs.YtenopfmafecffaaGreatDoor.modelDone
open Go Go.Eng Go.Proofs Go.Mdl Go.RowKit
set_option linter.unusedVariables false
set_option linter.unusedSimpArgs false
set_option maxRecDepth 100000
set_option maxHeartbeats 4000000
noncomputable section
def newMH (S : Int) (l : Fs) : Heap := if (newE S l).1 = 0 then [.row [.mp 1, .int .i64 S] 2 0, .raw (.map none (mapF (newE S l).2))] else []
def e10 : ((Int) × (Fs)) ⊕ ((Int)) → List AV × Heap
  | .inl (S, l) => ([.int .i64 S, .sl (l.flatMap fc) l.length], [])
  | .inr S => ([.int .i64 S, .lit (.slice none 0 0)], [])
def p10 : ((Int) × (Fs)) ⊕ ((Int)) → Prop
  | .inl (S, l) => l.length ≤ 1000000 ∧ ∀ x ∈ l, x.1.length ≤ 4194304 ∧ x.2.length ≤ 1000000000
  | .inr S => True
def r10 : ((Int) × (Fs)) ⊕ ((Int)) → AV
  | .inl (S, l) => newV S l
  | .inr S => newV S []
def g10 : ((Int) × (Fs)) ⊕ ((Int)) → Heap
  | .inl (S, l) => newMH S l
  | .inr S => newMH S []
theorem inj10 : ∀ a b, e10 a = e10 b → a = b := by
  rintro (⟨S, l⟩ | S) (⟨S', l'⟩ | S') h <;> simp only [e10, mi_iff, ms_iff, mb_iff, my_iff, UInt8.toNat_inj, fc_iff, Prod.mk.injEq, List.cons.injEq, AObj.row.injEq, AV.int.injEq, AV.str.injEq, AV.bool.injEq, AV.sl.injEq, AV.agg.injEq, AV.ip.injEq, AV.fn.injEq, AV.ifc.injEq, AV.mpr.injEq, AV.msl.injEq, AV.ref.injEq, Int.natCast_inj, and_true, true_and, reduceCtorEq, false_and, and_false, List.cons_ne_nil] at h <;> simp_all only
noncomputable def S10 : FSpec := heapE false e10 p10 r10 g10
theorem ps10 (S : (Int)) (l : (Fs)) : pselK e10 p10 ([.int .i64 S, .sl (l.flatMap fc) l.length], []) = (l.length ≤ 1000000 ∧ ∀ x ∈ l, x.1.length ≤ 4194304 ∧ x.2.length ≤ 1000000000) := pselK_at inj10 p10 (.inl (S, l))
theorem rs10 (S : (Int)) (l : (Fs)) : rselK e10 r10 .any ([.int .i64 S, .sl (l.flatMap fc) l.length], []) = (newV S l) := rselK_at inj10 r10 .any (.inl (S, l))
theorem hs10 (S : (Int)) (l : (Fs)) : rselK e10 g10 [] ([.int .i64 S, .sl (l.flatMap fc) l.length], []) = (newMH S l) := rselK_at inj10 g10 [] (.inl (S, l))
theorem ps10n (S : (Int)) : pselK e10 p10 ([.int .i64 S, .lit (.slice none 0 0)], []) = (True) := pselK_at inj10 p10 (.inr S)
theorem rs10n (S : (Int)) : rselK e10 r10 .any ([.int .i64 S, .lit (.slice none 0 0)], []) = (newV S []) := rselK_at inj10 r10 .any (.inr S)
theorem hs10n (S : (Int)) : rselK e10 g10 [] ([.int .i64 S, .lit (.slice none 0 0)], []) = (newMH S []) := rselK_at inj10 g10 [] (.inr S)
attribute [push_cast] S10 ps10 rs10 hs10 ps10n rs10n hs10n
theorem body10 (Γ : Env) (h23 : Γ 23 = some S23) (h24 : Γ 24 = some S24) (S : Int) (l : Fs) (hl : l.length ≤ 1000000) (hb : ∀ x ∈ l, x.1.length ≤ 4194304 ∧ x.2.length ≤ 1000000000) : BodyOk Tryz.prog Γ Tryz.f10 [.int .i64 S, .sl (l.flatMap fc) l.length] [] (newV S l) (newMH S l) := by
  by_cases c0 : S < 8 ∨ 1024 < S
  · have e : newE S l = (30, []) := by rw [newE, if_pos c0]
    rw [newV, newMH, e]
    simp only [show ¬ (30 : Int) = 0 by decide, if_false]
    rcases Decidable.em (S < 8) with c1 | c1
    · (intro X hP hΓ hL hfin; refine ⟨_, rfl, ?_⟩; rw [show Tryz.f10.ntmps = 63 from rfl]; rw [show Tryz.f10.results.toList = [.tmp 4, .tmp 5] from rfl] at hfin; apply holds_of_ex X 400; simp (maxSteps := 1000000) only [push_cast, reduceCtorEq, Nat.reduceAdd, Nat.reduceMul, Nat.reduceSub, Nat.reduceBEq, Nat.reduceGT, Nat.reduceLT, Int.toNat_zero, Nat.reduceLeDiff, Int.reduceEq, Int.reduceLT, Int.reduceLE, hP, hΓ, hL, hfin, String.reduceEq, not_false_eq_true, if_true, Int.toNat_one, c1])
      exact Into.sameA
    · have c2 : 1024 < S := by omega
      (intro X hP hΓ hL hfin; refine ⟨_, rfl, ?_⟩; rw [show Tryz.f10.ntmps = 63 from rfl]; rw [show Tryz.f10.results.toList = [.tmp 4, .tmp 5] from rfl] at hfin; apply holds_of_ex X 400; simp (maxSteps := 1000000) only [push_cast, reduceCtorEq, Nat.reduceAdd, Nat.reduceMul, Nat.reduceSub, Nat.reduceBEq, Nat.reduceGT, Nat.reduceLT, Int.toNat_zero, Nat.reduceLeDiff, Int.reduceEq, Int.reduceLT, Int.reduceLE, hP, hΓ, hL, hfin, String.reduceEq, not_false_eq_true, if_true, Int.toNat_one, c1, c2])
      exact Into.sameA
  have c1 : ¬ S < 8 := by omega
  have c2 : ¬ 1024 < S := by omega
  have e : newE S l = newF S [] l := by rw [newE, if_neg c0]
  rw [newV, newMH, e]
  (intro X hP hΓ hL hfin; refine ⟨_, rfl, ?_⟩; rw [show Tryz.f10.ntmps = 63 from rfl]; rw [show Tryz.f10.results.toList = [.tmp 4, .tmp 5] from rfl] at hfin; apply holds_of_ex X 400; simp (maxSteps := 1000000) only [push_cast, reduceCtorEq, Nat.reduceAdd, Nat.reduceMul, Nat.reduceSub, Nat.reduceBEq, Nat.reduceGT, Nat.reduceLT, Int.toNat_zero, Nat.reduceLeDiff, Int.reduceEq, Int.reduceLT, Int.reduceLE, hP, hΓ, hL, hfin, String.reduceEq, not_false_eq_true, if_true, Int.toNat_one, c1, c2])
  refine Holds.loopM (ι := New S l) [false, false, false, false, false, false, true, false, false, false, false, false, false, false, false, false, false, false, false, false, false, false, true, true, false, false, false, false, false, false, false, false, false, false, false, false, false, false, false, false, false, false, false, false, false, false, false, false, false, false, false, false, false, false, false, false, false, false, false, false, false, false, false] (fun i => [(24, .int .i64 i.k)]) (fun i => [.raw (.map none (mapF i.A)), .row [.mp 0, .int .i64 S] 2 0]) (fun i => l.length - i.k) ⟨[], 0, ok_nil (by omega), Nat.zero_le _, rfl⟩ ?_ ?_
  · (rw [hL]; simp only [push_cast, Int.natCast_zero, mapF_nil]; exact Into.sameA)
  rintro ⟨B, k, hB, hk, he⟩
  have hBl := hB.ok.le
  have hfs := fsOf_mapF hB.ok.so
  ((first | with_reducible refine holds_of_ex X 400 _ _ _ ?_ | skip); simp (maxSteps := 1000000) only [push_cast, reduceCtorEq, Nat.reduceAdd, Nat.reduceMul, Nat.reduceSub, Nat.reduceBEq, Nat.reduceGT, Nat.reduceLT, Int.toNat_zero, Nat.reduceLeDiff, Int.reduceEq, Int.reduceLT, Int.reduceLE, hP, hΓ, hL, hfin, String.reduceEq, not_false_eq_true, if_true, Int.toNat_one])
  ((with_reducible refine exB_split (fun h => ?_) (fun h => ?_)) <;> (try simp only [decide_eq_true_eq, decide_eq_false_iff_not, Bool.and_eq_true, Bool.or_eq_true, Bool.and_eq_false_iff, Bool.or_eq_false_iff, Bool.not_eq_true', Bool.not_eq_false', Bool.not_eq_true, Bool.not_eq_false, Int.not_lt, Int.not_le, beq_iff_eq, beq_eq_false_iff_ne, ne_eq] at h))
  · have hk' : k < l.length := by omega
    have hx := hb _ (get_mem hk')
    have hh0 : ((l.flatMap fc).drop (k * 2)).take 2 = fc (l.getD k default) := head_fm l k hk' default
    rw [drop_get hk', newF] at he
    generalize hg : l.getD k default = x at *
    have hh' : ((l.flatMap fc).drop (k * 2)).take 2 = [.str x.1, .str x.2] := hh0
    have hhl := has_lookup hB.ok.so x.1
    have hmi := mapF_ins hB.ok.so x.1 x.2
    simp only [vS] at hmi
    ((first | with_reducible refine holds_of_ex X 400 _ _ _ ?_ | skip); simp (maxSteps := 1000000) only [push_cast, reduceCtorEq, Nat.reduceAdd, Nat.reduceMul, Nat.reduceSub, Nat.reduceBEq, Nat.reduceGT, Nat.reduceLT, Int.toNat_zero, Nat.reduceLeDiff, Int.reduceEq, Int.reduceLT, Int.reduceLE, hP, hΓ, hL, hfin, String.reduceEq, not_false_eq_true, if_true, Int.toNat_one, hh'])
    refine ⟨by omega, by omega, ?_⟩
    cases hlk : B.lookup x.1 with
    | some d =>
      rw [hlk] at hhl
      rw [if_pos (by rw [hhl]; rfl)] at he
      rw [← he] at hfin
      (refine Holds.drawnQ (by rw [hP]; kernel_rfl) (by kernel_rfl) ?_; simp (maxSteps := 1000000) only [push_cast, reduceCtorEq, Nat.reduceAdd, Nat.reduceMul, Nat.reduceSub, Nat.reduceBEq, Nat.reduceGT, Nat.reduceLT, Int.toNat_zero, Nat.reduceLeDiff, Int.reduceEq, Int.reduceLT, Int.reduceLE, hP, hΓ, hL, hfin, String.reduceEq, not_false_eq_true, if_true, Int.toNat_one, mapF_s, hlk, vS, Option.getD_some])
      exact Into.keep0A
    | none =>
    rw [hlk] at hhl
    rw [if_neg (by rw [hhl]; simp)] at he
    (refine Holds.drawnQ (by rw [hP]; kernel_rfl) (by kernel_rfl) ?_; simp (maxSteps := 1000000) only [push_cast, reduceCtorEq, Nat.reduceAdd, Nat.reduceMul, Nat.reduceSub, Nat.reduceBEq, Nat.reduceGT, Nat.reduceLT, Int.toNat_zero, Nat.reduceLeDiff, Int.reduceEq, Int.reduceLT, Int.reduceLE, hP, hΓ, hL, hfin, String.reduceEq, not_false_eq_true, if_true, Int.toNat_one, mapF_s, hlk, vS, Option.getD_some, h23])
    refine ⟨hx.1, ?_⟩
    cases hn : nameB x.1
    case false =>
      rw [if_pos hn] at he
      rw [← he] at hfin
      ((first | with_reducible refine holds_of_ex X 400 _ _ _ ?_ | skip); simp (maxSteps := 1000000) only [push_cast, reduceCtorEq, Nat.reduceAdd, Nat.reduceMul, Nat.reduceSub, Nat.reduceBEq, Nat.reduceGT, Nat.reduceLT, Int.toNat_zero, Nat.reduceLeDiff, Int.reduceEq, Int.reduceLT, Int.reduceLE, hP, hΓ, hL, hfin, String.reduceEq, not_false_eq_true, if_true, Int.toNat_one, hn])
      exact Into.keep0A
    case true =>
    rw [if_neg (by simp [hn])] at he
    ((first | with_reducible refine holds_of_ex X 400 _ _ _ ?_ | skip); simp (maxSteps := 1000000) only [push_cast, reduceCtorEq, Nat.reduceAdd, Nat.reduceMul, Nat.reduceSub, Nat.reduceBEq, Nat.reduceGT, Nat.reduceLT, Int.toNat_zero, Nat.reduceLeDiff, Int.reduceEq, Int.reduceLT, Int.reduceLE, hP, hΓ, hL, hfin, String.reduceEq, not_false_eq_true, if_true, Int.toNat_one, hn, h24, hfs])
    refine ⟨⟨hB, by omega⟩, ?_⟩
    by_cases h0 : fitsF S B x.1 x.2.length = 0
    · rw [if_pos h0] at he
      ((first | with_reducible refine holds_of_ex X 400 _ _ _ ?_ | skip); simp (maxSteps := 1000000) only [push_cast, reduceCtorEq, Nat.reduceAdd, Nat.reduceMul, Nat.reduceSub, Nat.reduceBEq, Nat.reduceGT, Nat.reduceLT, Int.toNat_zero, Nat.reduceLeDiff, Int.reduceEq, Int.reduceLT, Int.reduceLE, hP, hΓ, hL, hfin, String.reduceEq, not_false_eq_true, if_true, Int.toNat_one, h0])
      (refine Holds.drawnE (patH []) [0, 1, 2, 3, 4, 5, 6, 7, 8] [] [] true (by rw [hP]; kernel_rfl) (by kernel_rfl) (by kernel_rfl) (by kernel_rfl) (by first | exact .inl rfl | exact .inr fun _ _ h => patH_app _ _ h) (by first | (simp only [push_cast]; done) | (simp only [push_cast, and_true]; omega)) ?_; simp (maxSteps := 1000000) only [↓reduceIte, Option.getD_some, push_cast, reduceCtorEq, Nat.reduceAdd, Nat.reduceMul, Nat.reduceSub, Nat.reduceBEq, Nat.reduceGT, Nat.reduceLT, Int.toNat_zero, Nat.reduceLeDiff, Int.reduceEq, Int.reduceLT, Int.reduceLE, hP, hΓ, hL, hfin, String.reduceEq, not_false_eq_true, if_true, Int.toNat_one, hmi])
      ((first | with_reducible refine holds_of_ex X 400 _ _ _ ?_ | skip); simp (maxSteps := 1000000) only [push_cast, reduceCtorEq, Nat.reduceAdd, Nat.reduceMul, Nat.reduceSub, Nat.reduceBEq, Nat.reduceGT, Nat.reduceLT, Int.toNat_zero, Nat.reduceLeDiff, Int.reduceEq, Int.reduceLT, Int.reduceLE, hP, hΓ, hL, hfin, String.reduceEq, not_false_eq_true, if_true, Int.toNat_one, wr_i64 ((k : Int) + 1) (by constructor <;> omega)])
      refine ⟨⟨ins B x.1 x.2, k + 1, lay_s hB hn h0, hk', he⟩, by simp only; omega, ?_⟩
      exact Into.keep2A
    · rw [if_neg h0] at he
      rw [← he] at hfin
      generalize fitsF S B x.1 x.2.length = f at *
      ((first | with_reducible refine holds_of_ex X 400 _ _ _ ?_ | skip); simp (maxSteps := 1000000) only [push_cast, reduceCtorEq, Nat.reduceAdd, Nat.reduceMul, Nat.reduceSub, Nat.reduceBEq, Nat.reduceGT, Nat.reduceLT, Int.toNat_zero, Nat.reduceLeDiff, Int.reduceEq, Int.reduceLT, Int.reduceLE, hP, hΓ, hL, hfin, String.reduceEq, not_false_eq_true, if_true, Int.toNat_one, h0])
      exact Into.keep0A
  · obtain rfl : k = l.length := by omega
    rw [List.drop_length, newF] at he
    rw [← he] at hfin
    ((first | with_reducible refine holds_of_ex X 400 _ _ _ ?_ | skip); simp (maxSteps := 1000000) only [push_cast, reduceCtorEq, Nat.reduceAdd, Nat.reduceMul, Nat.reduceSub, Nat.reduceBEq, Nat.reduceGT, Nat.reduceLT, Int.toNat_zero, Nat.reduceLeDiff, Int.reduceEq, Int.reduceLT, Int.reduceLE, hP, hΓ, hL, hfin, String.reduceEq, not_false_eq_true, if_true, Int.toNat_one])
    exact IntoF.base [1, 0] ⟨(by simp only [push_cast, reduceCtorEq, Nat.reduceAdd, Nat.reduceMul, Nat.reduceSub, Nat.reduceBEq, Nat.reduceGT, Nat.reduceLT, Int.toNat_zero, Nat.reduceLeDiff, Int.reduceEq, Int.reduceLT, Int.reduceLE, leF]), (by first | rfl | (simp only [push_cast, reduceCtorEq, Nat.reduceAdd, Nat.reduceMul, Nat.reduceSub, Nat.reduceBEq, Nat.reduceGT, Nat.reduceLT, Int.toNat_zero, Nat.reduceLeDiff, Int.reduceEq, Int.reduceLT, Int.reduceLE, leF, renO]; done)), (by decide), (by first | rfl | decide), (by simp only [push_cast, reduceCtorEq, Nat.reduceAdd, Nat.reduceMul, Nat.reduceSub, Nat.reduceBEq, Nat.reduceGT, Nat.reduceLT, Int.toNat_zero, Nat.reduceLeDiff, Int.reduceEq, Int.reduceLT, Int.reduceLE]), (by simp only [push_cast, reduceCtorEq, Nat.reduceAdd, Nat.reduceMul, Nat.reduceSub, Nat.reduceBEq, Nat.reduceGT, Nat.reduceLT, Int.toNat_zero, Nat.reduceLeDiff, Int.reduceEq, Int.reduceLT, Int.reduceLE])⟩ (by first | decide | (simp only [push_cast, reduceCtorEq, Nat.reduceAdd, Nat.reduceMul, Nat.reduceSub, Nat.reduceBEq, Nat.reduceGT, Nat.reduceLT, Int.toNat_zero, Nat.reduceLeDiff, Int.reduceEq, Int.reduceLT, Int.reduceLE]; done) | simp)
theorem body10n (Γ : Env) (h23 : Γ 23 = some S23) (h24 : Γ 24 = some S24) (S : Int) : BodyOk Tryz.prog Γ Tryz.f10 [.int .i64 S, .lit (.slice none 0 0)] [] (newV S []) (newMH S []) :=
  BodyOk.soft (by
    have := body10 Γ h23 h24 S [] (by simp) (by simp)
    simpa only [softL, softV, List.flatMap_nil, List.length_nil] using this)
theorem con10 {Γ : Env} (h : EnvOk Tryz.prog Γ) (h23 : Γ 23 = some S23) (h24 : Γ 24 = some S24) : Con Tryz.prog 10 S10 :=
  heapE_con h (fn := Tryz.f10) (by kernel_rfl) rfl (by kernel_rfl) inj10 fun a h => by
    rcases a with ⟨S, l⟩ | S
    · exact body10 Γ h23 h24 S l h.1 h.2
    · exact body10n Γ h23 h24 S
end
end Go.Proofs.YtenopfmafecffaaGreatDoor.modelDone
