/- Of the model of a workstation: the program's Files. Conditions stand in each. -/
import Derived.Test.YtenopfmafecffaaGreatDoorMpM
namespace Go.Proofs.YtenopfmafecffaaGreatDoor.modelDone
open Go Go.Eng Go.Proofs Go.Mdl Go.RowKit
set_option linter.unusedVariables false
set_option linter.unusedSimpArgs false
set_option maxRecDepth 100000
set_option maxHeartbeats 4000000
noncomputable section
def e14 : ((Key → Option Value) × (Int)) ⊕ (Unit) → List AV × Heap
  | .inl (f, S) => ([.ref 0 0 0], [.row [.mp 1, .int .i64 S] 2 0, .raw (.map none f)])
  | .inr _ => ([.lit (.pointer none)], [])
def p14 : ((Key → Option Value) × (Int)) ⊕ (Unit) → Prop
  | .inl (f, S) => okS S (fsOf f) ∧ mapF (fsOf f) = f
  | .inr _ => True
def r14 : ((Key → Option Value) × (Int)) ⊕ (Unit) → AV
  | .inl (f, S) => .msl 2 0 0 (fsOf f).length
  | .inr _ => .lit (.slice none 0 0)
def g14 : ((Key → Option Value) × (Int)) ⊕ (Unit) → Heap
  | .inl (f, S) => [.row [.mp 1, .int .i64 S] 2 0, .raw (.map none f), .row ((fsOf f).flatMap fc) 2 0]
  | .inr _ => []
theorem inj14 : ∀ a b, e14 a = e14 b → a = b := by
  rintro (⟨f, S⟩ | _) (⟨f', S'⟩ | _) h <;> simp only [e14, mi_iff, ms_iff, mb_iff, my_iff, UInt8.toNat_inj, AObj.raw.injEq, Raw.map.injEq, Prod.mk.injEq, List.cons.injEq, AObj.row.injEq, AV.int.injEq, AV.str.injEq, AV.bool.injEq, AV.sl.injEq, AV.agg.injEq, AV.ip.injEq, AV.fn.injEq, AV.ifc.injEq, AV.mpr.injEq, AV.msl.injEq, AV.ref.injEq, Int.natCast_inj, and_true, true_and, reduceCtorEq, false_and, and_false, List.cons_ne_nil] at h <;> simp_all only
noncomputable def S14 : FSpec := heapE true e14 p14 r14 g14
theorem ps14 (f : (Key → Option Value)) (S : (Int)) : pselK e14 p14 ([.ref 0 0 0], [.row [.mp 1, .int .i64 S] 2 0, .raw (.map none f)]) = (okS S (fsOf f) ∧ mapF (fsOf f) = f) := pselK_at inj14 p14 (.inl (f, S))
theorem rs14 (f : (Key → Option Value)) (S : (Int)) : rselK e14 r14 .any ([.ref 0 0 0], [.row [.mp 1, .int .i64 S] 2 0, .raw (.map none f)]) = (.msl 2 0 0 (fsOf f).length) := rselK_at inj14 r14 .any (.inl (f, S))
theorem hs14 (f : (Key → Option Value)) (S : (Int)) : rselK e14 g14 [] ([.ref 0 0 0], [.row [.mp 1, .int .i64 S] 2 0, .raw (.map none f)]) = ([.row [.mp 1, .int .i64 S] 2 0, .raw (.map none f), .row ((fsOf f).flatMap fc) 2 0]) := rselK_at inj14 g14 [] (.inl (f, S))
theorem ps14n  : pselK e14 p14 ([.lit (.pointer none)], []) = (True) := pselK_at inj14 p14 (.inr ())
theorem rs14n  : rselK e14 r14 .any ([.lit (.pointer none)], []) = (.lit (.slice none 0 0)) := rselK_at inj14 r14 .any (.inr ())
theorem hs14n  : rselK e14 g14 [] ([.lit (.pointer none)], []) = ([]) := rselK_at inj14 g14 [] (.inr ())
attribute [push_cast] S14 ps14 rs14 hs14 ps14n rs14n hs14n
theorem body14n (Γ : Env) : BodyOk Tryz.prog Γ Tryz.f14 [.lit (.pointer none)] [] (.lit (.slice none 0 0)) [] := by
  (intro X hP hΓ hL hfin; refine ⟨_, rfl, ?_⟩; rw [show Tryz.f14.ntmps = 32 from rfl]; rw [show Tryz.f14.results.toList = [.tmp 2] from rfl] at hfin; apply holds_of_ex X 400; simp (maxSteps := 1000000) only [push_cast, reduceCtorEq, Nat.reduceAdd, Nat.reduceMul, Nat.reduceSub, Nat.reduceBEq, Nat.reduceGT, Nat.reduceLT, Int.toNat_zero, Nat.reduceLeDiff, Int.reduceEq, Int.reduceLT, Int.reduceLE, hP, hΓ, hL, hfin, String.reduceEq, not_false_eq_true, if_true, Int.toNat_one])
  exact Into.sameA
theorem body14 (Γ : Env) (h41 : Γ 41 = some S41) (h42 : Γ 42 = some S42) (A : Fs) (S : Int) (hA : okS S A) : BodyOk Tryz.prog Γ Tryz.f14 [.ref 0 0 0] [.row [.mp 1, .int .i64 S] 2 0, .raw (.map none (mapF A))] (.msl 2 0 0 A.length) [.row [.mp 1, .int .i64 S] 2 0, .raw (.map none (mapF A)), .row (A.flatMap fc) 2 0] := by
  have hl := hA.ok.le
  have hfs := fsOf_mapF hA.ok.so
  have hnl : (namesF A).length = A.length := by simp [namesF]
  (intro X hP hΓ hL hfin; refine ⟨_, rfl, ?_⟩; rw [show Tryz.f14.ntmps = 32 from rfl]; rw [show Tryz.f14.results.toList = [.tmp 2] from rfl] at hfin; apply holds_of_ex X 400; simp (maxSteps := 1000000) only [push_cast, reduceCtorEq, Nat.reduceAdd, Nat.reduceMul, Nat.reduceSub, Nat.reduceBEq, Nat.reduceGT, Nat.reduceLT, Int.toNat_zero, Nat.reduceLeDiff, Int.reduceEq, Int.reduceLT, Int.reduceLE, hP, hΓ, hL, hfin, String.reduceEq, not_false_eq_true, if_true, Int.toNat_one, h41, h42, hfs])
  refine ⟨⟨by omega, hA.ok⟩, ?_⟩
  refine Holds.loopM (ι := {k : Nat // k ≤ A.length}) [true, false, true, false, false, false, false, false, false, false, false, false, false, true, true, false, false, false, false, false, false, false, false, false, false, false, false, false, false, false, false, false] (fun i => [(3, .msl 4 i.1 0 i.1), (15, .int .i64 i.1)]) (fun i => [.row [.mp 1, .int .i64 S] 2 0, .raw (.map none (mapF A)), .row [.mp 1] 1 0, .row ((namesF A).map .str) 1 0, .row ((A.take i.1).flatMap fc) 2 i.1]) (fun i => A.length - i.1) ⟨0, Nat.zero_le _⟩ ?_ ?_
  · rw [hL]
    simp only [push_cast, Int.natCast_zero]
    (refine IntoF.nil 3  2 rfl ?_; simp only [push_cast, reduceCtorEq, Nat.reduceAdd, Nat.reduceMul, Nat.reduceSub, Nat.reduceBEq, Nat.reduceGT, Nat.reduceLT, Int.toNat_zero, Nat.reduceLeDiff, Int.reduceEq, Int.reduceLT, Int.reduceLE])
    exact Into.sameA
  rintro ⟨k, hk⟩
  ((first | with_reducible refine holds_of_ex X 400 _ _ _ ?_ | skip); simp (maxSteps := 1000000) only [push_cast, reduceCtorEq, Nat.reduceAdd, Nat.reduceMul, Nat.reduceSub, Nat.reduceBEq, Nat.reduceGT, Nat.reduceLT, Int.toNat_zero, Nat.reduceLeDiff, Int.reduceEq, Int.reduceLT, Int.reduceLE, hP, hΓ, hL, hfin, String.reduceEq, not_false_eq_true, if_true, Int.toNat_one])
  ((with_reducible refine exB_split (fun h => ?_) (fun h => ?_)) <;> (try simp only [decide_eq_true_eq, decide_eq_false_iff_not, Bool.and_eq_true, Bool.or_eq_true, Bool.and_eq_false_iff, Bool.or_eq_false_iff, Bool.not_eq_true', Bool.not_eq_false', Bool.not_eq_true, Bool.not_eq_false, Int.not_lt, Int.not_le, beq_iff_eq, beq_eq_false_iff_ne, ne_eq] at h))
  · have hk' : k < A.length := by omega
    have hx : A.getD k default ∈ A := get_mem hk'
    have hg : (namesF A).getD k default = (A.getD k default).1 := by simp [namesF, List.getD, hk']
    have hlk : A.lookup (A.getD k default).1 = some (A.getD k default).2 := in_lookup hA.ok.so hx
    have htk := take_get hk'
    generalize A.getD k default = x at *
    ((first | with_reducible refine holds_of_ex X 400 _ _ _ ?_ | skip); simp (maxSteps := 1000000) only [push_cast, reduceCtorEq, Nat.reduceAdd, Nat.reduceMul, Nat.reduceSub, Nat.reduceBEq, Nat.reduceGT, Nat.reduceLT, Int.toNat_zero, Nat.reduceLeDiff, Int.reduceEq, Int.reduceLT, Int.reduceLE, hP, hΓ, hL, hfin, String.reduceEq, not_false_eq_true, if_true, Int.toNat_one, hnl, hg, mapF_s, hlk, vS, Option.getD_some, wr_i64 ((k : Int) + 1) (by constructor <;> omega), List.length_take])
    refine ⟨by omega, ⟨hk, by omega⟩, ⟨by omega, by omega⟩, ⟨k + 1, hk'⟩, by simp only; omega, ?_⟩
    rw [show (A.take k).flatMap fc ++ [AV.str x.1, AV.str x.2] = (A.take (k + 1)).flatMap fc by rw [htk, List.flatMap_append]; simp [fc]]
    exact Into.sameA
  · obtain rfl : k = A.length := by omega
    ((first | with_reducible refine holds_of_ex X 400 _ _ _ ?_ | skip); simp (maxSteps := 1000000) only [push_cast, reduceCtorEq, Nat.reduceAdd, Nat.reduceMul, Nat.reduceSub, Nat.reduceBEq, Nat.reduceGT, Nat.reduceLT, Int.toNat_zero, Nat.reduceLeDiff, Int.reduceEq, Int.reduceLT, Int.reduceLE, hP, hΓ, hL, hfin, String.reduceEq, not_false_eq_true, if_true, Int.toNat_one, List.take_length])
    (refine IntoF.ver 4  0 (by simp only [push_cast, reduceCtorEq, Nat.reduceAdd, Nat.reduceMul, Nat.reduceSub, Nat.reduceBEq, Nat.reduceGT, Nat.reduceLT, Int.toNat_zero, Nat.reduceLeDiff, Int.reduceEq, Int.reduceLT, Int.reduceLE]) (by first | exact .inr (Nat.zero_le _) | (left; simp only [push_cast, reduceCtorEq, Nat.reduceAdd, Nat.reduceMul, Nat.reduceSub, Nat.reduceBEq, Nat.reduceGT, Nat.reduceLT, Int.toNat_zero, Nat.reduceLeDiff, Int.reduceEq, Int.reduceLT, Int.reduceLE]; first | done | omega) | (right; simp only [push_cast, reduceCtorEq, Nat.reduceAdd, Nat.reduceMul, Nat.reduceSub, Nat.reduceBEq, Nat.reduceGT, Nat.reduceLT, Int.toNat_zero, Nat.reduceLeDiff, Int.reduceEq, Int.reduceLT, Int.reduceLE]; first | done | omega)) ?_; simp only [push_cast, reduceCtorEq, Nat.reduceAdd, Nat.reduceMul, Nat.reduceSub, Nat.reduceBEq, Nat.reduceGT, Nat.reduceLT, Int.toNat_zero, Nat.reduceLeDiff, Int.reduceEq, Int.reduceLT, Int.reduceLE])
    exact IntoF.base [0, 1, 4] ⟨(by simp only [push_cast, reduceCtorEq, Nat.reduceAdd, Nat.reduceMul, Nat.reduceSub, Nat.reduceBEq, Nat.reduceGT, Nat.reduceLT, Int.toNat_zero, Nat.reduceLeDiff, Int.reduceEq, Int.reduceLT, Int.reduceLE, leF]), (by first | rfl | (simp only [push_cast, reduceCtorEq, Nat.reduceAdd, Nat.reduceMul, Nat.reduceSub, Nat.reduceBEq, Nat.reduceGT, Nat.reduceLT, Int.toNat_zero, Nat.reduceLeDiff, Int.reduceEq, Int.reduceLT, Int.reduceLE, leF, renO]; done)), (by decide), (by first | rfl | decide), (by simp only [push_cast, reduceCtorEq, Nat.reduceAdd, Nat.reduceMul, Nat.reduceSub, Nat.reduceBEq, Nat.reduceGT, Nat.reduceLT, Int.toNat_zero, Nat.reduceLeDiff, Int.reduceEq, Int.reduceLT, Int.reduceLE]), (by simp only [push_cast, reduceCtorEq, Nat.reduceAdd, Nat.reduceMul, Nat.reduceSub, Nat.reduceBEq, Nat.reduceGT, Nat.reduceLT, Int.toNat_zero, Nat.reduceLeDiff, Int.reduceEq, Int.reduceLT, Int.reduceLE])⟩ (by first | decide | (simp only [push_cast, reduceCtorEq, Nat.reduceAdd, Nat.reduceMul, Nat.reduceSub, Nat.reduceBEq, Nat.reduceGT, Nat.reduceLT, Int.toNat_zero, Nat.reduceLeDiff, Int.reduceEq, Int.reduceLT, Int.reduceLE]; done) | simp)
theorem con14 {Γ : Env} (h : EnvOk Tryz.prog Γ) (h41 : Γ 41 = some S41) (h42 : Γ 42 = some S42) : Con Tryz.prog 14 S14 :=
  heapE_con h (fn := Tryz.f14) (by kernel_rfl) rfl (by kernel_rfl) inj14 fun a h => by
    rcases a with ⟨f, S⟩ | u
    · obtain ⟨h1, h2⟩ := h; have := body14 Γ h41 h42 (fsOf f) S h1; rw [h2] at this; exact this
    · exact body14n Γ
end
end Go.Proofs.YtenopfmafecffaaGreatDoor.modelDone
