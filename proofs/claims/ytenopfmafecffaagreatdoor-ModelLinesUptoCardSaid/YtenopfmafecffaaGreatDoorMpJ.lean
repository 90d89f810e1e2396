/- Of the model of a workstation: what the program's copy, rename and delete do with a file that is there. Conditions stand in each. -/
import Derived.Test.YtenopfmafecffaaGreatDoorMpI
namespace Go.Proofs.YtenopfmafecffaaGreatDoor.modelDone
open Go Go.Eng Go.Proofs Go.Mdl Go.RowKit
set_option linter.unusedVariables false
set_option linter.unusedSimpArgs false
set_option maxRecDepth 100000
set_option maxHeartbeats 4000000
noncomputable section
def e81 : (Key → Option Value) × (Int) × (Bytes) × (Bytes) × (Bytes) → List AV × Heap := fun (f, S, a, b, d) => ([.str d, .ref 0 0 0, .ref 1 0 0], [.row [.ref 2 0 0] 1 0, .row [.sl [.str a, .str b] 2] 1 0, .row [.mp 3, .int .i64 S] 2 0, .raw (.map none f)])
def p81 : (Key → Option Value) × (Int) × (Bytes) × (Bytes) × (Bytes) → Prop := fun (f, S, a, b, d) => okS S (fsOf f) ∧ mapF (fsOf f) = f ∧ b.length ≤ 4194304 ∧ d.length ≤ 1000000000
def r81 : (Key → Option Value) × (Int) × (Bytes) × (Bytes) × (Bytes) → AV := fun (f, S, a, b, d) => .str (writeF S (fsOf f) b d).1
def g81 : (Key → Option Value) × (Int) × (Bytes) × (Bytes) × (Bytes) → Heap := fun (f, S, a, b, d) => [.row [.ref 2 0 0] 1 0, .row [.sl [.str a, .str b] 2] 1 0, .row [.mp 3, .int .i64 S] 2 0, .raw (.map none (mapF (writeF S (fsOf f) b d).2))]
theorem inj81 : ∀ a b, e81 a = e81 b → a = b := by
  rintro ⟨f, S, a, b, d⟩ ⟨f', S', a', b', d'⟩ h
  simp only [e81, mi_iff, ms_iff, mb_iff, my_iff, UInt8.toNat_inj, AObj.raw.injEq, Raw.map.injEq, Prod.mk.injEq, List.cons.injEq, AObj.row.injEq, AV.int.injEq, AV.str.injEq, AV.bool.injEq, AV.sl.injEq, AV.agg.injEq, AV.ip.injEq, AV.fn.injEq, AV.ifc.injEq, AV.mpr.injEq, AV.msl.injEq, AV.ref.injEq, Int.natCast_inj, and_true, true_and] at h
  simp_all only
noncomputable def S81 : FSpec := heapE true e81 p81 r81 g81
theorem ps81 (f : (Key → Option Value)) (S : (Int)) (a : (Bytes)) (b : (Bytes)) (d : (Bytes)) : pselK e81 p81 ([.str d, .ref 0 0 0, .ref 1 0 0], [.row [.ref 2 0 0] 1 0, .row [.sl [.str a, .str b] 2] 1 0, .row [.mp 3, .int .i64 S] 2 0, .raw (.map none f)]) = (okS S (fsOf f) ∧ mapF (fsOf f) = f ∧ b.length ≤ 4194304 ∧ d.length ≤ 1000000000) := pselK_at inj81 p81 (f, S, a, b, d)
theorem rs81 (f : (Key → Option Value)) (S : (Int)) (a : (Bytes)) (b : (Bytes)) (d : (Bytes)) : rselK e81 r81 .any ([.str d, .ref 0 0 0, .ref 1 0 0], [.row [.ref 2 0 0] 1 0, .row [.sl [.str a, .str b] 2] 1 0, .row [.mp 3, .int .i64 S] 2 0, .raw (.map none f)]) = (.str (writeF S (fsOf f) b d).1) := rselK_at inj81 r81 .any (f, S, a, b, d)
theorem hs81 (f : (Key → Option Value)) (S : (Int)) (a : (Bytes)) (b : (Bytes)) (d : (Bytes)) : rselK e81 g81 [] ([.str d, .ref 0 0 0, .ref 1 0 0], [.row [.ref 2 0 0] 1 0, .row [.sl [.str a, .str b] 2] 1 0, .row [.mp 3, .int .i64 S] 2 0, .raw (.map none f)]) = ([.row [.ref 2 0 0] 1 0, .row [.sl [.str a, .str b] 2] 1 0, .row [.mp 3, .int .i64 S] 2 0, .raw (.map none (mapF (writeF S (fsOf f) b d).2))]) := rselK_at inj81 g81 [] (f, S, a, b, d)
attribute [push_cast] S81 ps81 rs81 hs81
theorem body81 (Γ : Env) (h79 : Γ 79 = some S79) (A : Fs) (S : Int) (a b d : Bytes) (hA : okS S A) (hb : b.length ≤ 4194304) (hd : d.length ≤ 1000000000) : BodyOk Tryz.prog Γ Tryz.f81 [.str d, .ref 0 0 0, .ref 1 0 0] [.row [.ref 2 0 0] 1 0, .row [.sl [.str a, .str b] 2] 1 0, .row [.mp 3, .int .i64 S] 2 0, .raw (.map none (mapF A))] (.str (writeF S A b d).1) [.row [.ref 2 0 0] 1 0, .row [.sl [.str a, .str b] 2] 1 0, .row [.mp 3, .int .i64 S] 2 0, .raw (.map none (mapF (writeF S A b d).2))] := by
  have hfs := fsOf_mapF hA.ok.so
  (intro X hP hΓ hL hfin; refine ⟨_, rfl, ?_⟩; rw [show Tryz.f81.ntmps = 11 from rfl]; rw [show Tryz.f81.results.toList = [.tmp 4] from rfl] at hfin; apply holds_of_ex X 400; simp (maxSteps := 1000000) only [push_cast, reduceCtorEq, Nat.reduceAdd, Nat.reduceMul, Nat.reduceSub, Nat.reduceBEq, Nat.reduceGT, Nat.reduceLT, Int.toNat_zero, Nat.reduceLeDiff, Int.reduceEq, Int.reduceLT, Int.reduceLE, hP, hΓ, hL, hfin, String.reduceEq, not_false_eq_true, if_true, Int.toNat_one])
  (refine Holds.drawnE (patH []) [0, 1, 2, 3, 4, 5, 6] [] [] false (by rw [hP]; kernel_rfl) (by kernel_rfl) (by kernel_rfl) (by kernel_rfl) (by first | exact .inl rfl | exact .inr fun _ _ h => patH_app _ _ h) (by first | (simp only [push_cast]; done) | (simp only [push_cast, and_true]; omega)) ?_; simp (maxSteps := 1000000) only [↓reduceIte, Option.getD_some, push_cast, reduceCtorEq, Nat.reduceAdd, Nat.reduceMul, Nat.reduceSub, Nat.reduceBEq, Nat.reduceGT, Nat.reduceLT, Int.toNat_zero, Nat.reduceLeDiff, Int.reduceEq, Int.reduceLT, Int.reduceLE, hP, hΓ, hL, hfin, String.reduceEq, not_false_eq_true, if_true, Int.toNat_one, h79, hfs])
  refine ⟨by omega, ⟨by omega, hA, hb, hd⟩, ?_⟩
  ((first | with_reducible refine holds_of_ex X 400 _ _ _ ?_ | skip); simp (maxSteps := 1000000) only [push_cast, reduceCtorEq, Nat.reduceAdd, Nat.reduceMul, Nat.reduceSub, Nat.reduceBEq, Nat.reduceGT, Nat.reduceLT, Int.toNat_zero, Nat.reduceLeDiff, Int.reduceEq, Int.reduceLT, Int.reduceLE, hP, hΓ, hL, hfin, String.reduceEq, not_false_eq_true, if_true, Int.toNat_one])
  exact Into.sameA
theorem con81 {Γ : Env} (h : EnvOk Tryz.prog Γ) (h79 : Γ 79 = some S79) : Con Tryz.prog 81 S81 :=
  heapE_con h (fn := Tryz.f81) (by kernel_rfl) rfl (by kernel_rfl) inj81 fun ⟨f, S, a, b, d⟩ h => by obtain ⟨h1, h2, h3, h4⟩ := h; have := body81 Γ h79 (fsOf f) S a b d h1 h3 h4; rw [h2] at this; exact this
/-- a file that is there, under another name -/
def renC (S : Int) (A : Fs) (a b d : Bytes) : Bytes × Fs :=
  if has A b = true then (wrongT 175, A) else if freeF S A < leaves A.length then (wrongT 174, A) else ([], ins (out A (pl A a)) b d)
def e82 : (Key → Option Value) × (Int) × (Bytes) × (Bytes) × (Bytes) → List AV × Heap := fun (f, S, a, b, d) => ([.str d, .ref 0 0 0, .ref 1 0 0], [.row [.ref 2 0 0] 1 0, .row [.sl [.str a, .str b] 2] 1 0, .row [.mp 3, .int .i64 S] 2 0, .raw (.map none f)])
def p82 : (Key → Option Value) × (Int) × (Bytes) × (Bytes) × (Bytes) → Prop := fun (f, S, a, b, d) => okS S (fsOf f) ∧ mapF (fsOf f) = f ∧ has (fsOf f) a = true
def r82 : (Key → Option Value) × (Int) × (Bytes) × (Bytes) × (Bytes) → AV := fun (f, S, a, b, d) => .str (renC S (fsOf f) a b d).1
def g82 : (Key → Option Value) × (Int) × (Bytes) × (Bytes) × (Bytes) → Heap := fun (f, S, a, b, d) => [.row [.ref 2 0 0] 1 0, .row [.sl [.str a, .str b] 2] 1 0, .row [.mp 3, .int .i64 S] 2 0, .raw (.map none (mapF (renC S (fsOf f) a b d).2))]
theorem inj82 : ∀ a b, e82 a = e82 b → a = b := by
  rintro ⟨f, S, a, b, d⟩ ⟨f', S', a', b', d'⟩ h
  simp only [e82, mi_iff, ms_iff, mb_iff, my_iff, UInt8.toNat_inj, AObj.raw.injEq, Raw.map.injEq, Prod.mk.injEq, List.cons.injEq, AObj.row.injEq, AV.int.injEq, AV.str.injEq, AV.bool.injEq, AV.sl.injEq, AV.agg.injEq, AV.ip.injEq, AV.fn.injEq, AV.ifc.injEq, AV.mpr.injEq, AV.msl.injEq, AV.ref.injEq, Int.natCast_inj, and_true, true_and] at h
  simp_all only
noncomputable def S82 : FSpec := heapE true e82 p82 r82 g82
theorem ps82 (f : (Key → Option Value)) (S : (Int)) (a : (Bytes)) (b : (Bytes)) (d : (Bytes)) : pselK e82 p82 ([.str d, .ref 0 0 0, .ref 1 0 0], [.row [.ref 2 0 0] 1 0, .row [.sl [.str a, .str b] 2] 1 0, .row [.mp 3, .int .i64 S] 2 0, .raw (.map none f)]) = (okS S (fsOf f) ∧ mapF (fsOf f) = f ∧ has (fsOf f) a = true) := pselK_at inj82 p82 (f, S, a, b, d)
theorem rs82 (f : (Key → Option Value)) (S : (Int)) (a : (Bytes)) (b : (Bytes)) (d : (Bytes)) : rselK e82 r82 .any ([.str d, .ref 0 0 0, .ref 1 0 0], [.row [.ref 2 0 0] 1 0, .row [.sl [.str a, .str b] 2] 1 0, .row [.mp 3, .int .i64 S] 2 0, .raw (.map none f)]) = (.str (renC S (fsOf f) a b d).1) := rselK_at inj82 r82 .any (f, S, a, b, d)
theorem hs82 (f : (Key → Option Value)) (S : (Int)) (a : (Bytes)) (b : (Bytes)) (d : (Bytes)) : rselK e82 g82 [] ([.str d, .ref 0 0 0, .ref 1 0 0], [.row [.ref 2 0 0] 1 0, .row [.sl [.str a, .str b] 2] 1 0, .row [.mp 3, .int .i64 S] 2 0, .raw (.map none f)]) = ([.row [.ref 2 0 0] 1 0, .row [.sl [.str a, .str b] 2] 1 0, .row [.mp 3, .int .i64 S] 2 0, .raw (.map none (mapF (renC S (fsOf f) a b d).2))]) := rselK_at inj82 g82 [] (f, S, a, b, d)
attribute [push_cast] S82 ps82 rs82 hs82
theorem body82 (Γ : Env) (h16 : Γ 16 = some S16) (h29 : Γ 29 = some S29) (h43 : Γ 43 = some S43) (A : Fs) (S : Int) (a b d : Bytes) (hA : okS S A) (ha : has A a = true) : BodyOk Tryz.prog Γ Tryz.f82 [.str d, .ref 0 0 0, .ref 1 0 0] [.row [.ref 2 0 0] 1 0, .row [.sl [.str a, .str b] 2] 1 0, .row [.mp 3, .int .i64 S] 2 0, .raw (.map none (mapF A))] (.str (renC S A a b d).1) [.row [.ref 2 0 0] 1 0, .row [.sl [.str a, .str b] 2] 1 0, .row [.mp 3, .int .i64 S] 2 0, .raw (.map none (mapF (renC S A a b d).2))] := by
  have hl := hA.ok.le
  have hfs := fsOf_mapF hA.ok.so
  have hc := card_mapF hA.ok.so
  have hhl := has_lookup hA.ok.so b
  have hmo := mapF_out hA.ok.so ha
  have hmi := mapF_ins (sorted_out hA.ok.so ha) b d
  cases hlk : A.lookup b with
  | some x =>
    rw [hlk] at hhl
    simp only [Option.isSome_some] at hhl
    (intro X hP hΓ hL hfin; refine ⟨_, rfl, ?_⟩; rw [show Tryz.f82.ntmps = 45 from rfl]; rw [show Tryz.f82.results.toList = [.tmp 4] from rfl] at hfin; apply holds_of_ex X 400; simp (maxSteps := 1000000) only [push_cast, reduceCtorEq, Nat.reduceAdd, Nat.reduceMul, Nat.reduceSub, Nat.reduceBEq, Nat.reduceGT, Nat.reduceLT, Int.toNat_zero, Nat.reduceLeDiff, Int.reduceEq, Int.reduceLT, Int.reduceLE, hP, hΓ, hL, hfin, String.reduceEq, not_false_eq_true, if_true, Int.toNat_one])
    (refine Holds.drawnQ (by rw [hP]; kernel_rfl) (by kernel_rfl) ?_; simp (maxSteps := 1000000) only [push_cast, reduceCtorEq, Nat.reduceAdd, Nat.reduceMul, Nat.reduceSub, Nat.reduceBEq, Nat.reduceGT, Nat.reduceLT, Int.toNat_zero, Nat.reduceLeDiff, Int.reduceEq, Int.reduceLT, Int.reduceLE, hP, hΓ, hL, hfin, String.reduceEq, not_false_eq_true, if_true, Int.toNat_one, mapF_s, hlk, vS, h29, Option.getD_some])
    refine ⟨by omega, ?_⟩
    rw [renC, if_pos hhl]
    exact Into.sameA
  | none =>
    rw [hlk] at hhl
    simp only [Option.isSome_none] at hhl
    have hhl' : ¬ has A b = true := by simp [hhl]
    have hlv : 0 ≤ leaves A.length ∧ leaves A.length ≤ 10 := by unfold leaves; omega
    (intro X hP hΓ hL hfin; refine ⟨_, rfl, ?_⟩; rw [show Tryz.f82.ntmps = 45 from rfl]; rw [show Tryz.f82.results.toList = [.tmp 4] from rfl] at hfin; apply holds_of_ex X 400; simp (maxSteps := 1000000) only [push_cast, reduceCtorEq, Nat.reduceAdd, Nat.reduceMul, Nat.reduceSub, Nat.reduceBEq, Nat.reduceGT, Nat.reduceLT, Int.toNat_zero, Nat.reduceLeDiff, Int.reduceEq, Int.reduceLT, Int.reduceLE, hP, hΓ, hL, hfin, String.reduceEq, not_false_eq_true, if_true, Int.toNat_one])
    (refine Holds.drawnQ (by rw [hP]; kernel_rfl) (by kernel_rfl) ?_; simp (maxSteps := 1000000) only [push_cast, reduceCtorEq, Nat.reduceAdd, Nat.reduceMul, Nat.reduceSub, Nat.reduceBEq, Nat.reduceGT, Nat.reduceLT, Int.toNat_zero, Nat.reduceLeDiff, Int.reduceEq, Int.reduceLT, Int.reduceLE, hP, hΓ, hL, hfin, String.reduceEq, not_false_eq_true, if_true, Int.toNat_one, mapF_s, hlk, vS, h29, Option.getD_some])
    refine ⟨by omega, ?_⟩
    by_cases c : freeF S A < leaves A.length
    · (refine Holds.drawnQ (by rw [hP]; kernel_rfl) (by kernel_rfl) ?_; simp (maxSteps := 1000000) only [push_cast, reduceCtorEq, Nat.reduceAdd, Nat.reduceMul, Nat.reduceSub, Nat.reduceBEq, Nat.reduceGT, Nat.reduceLT, Int.toNat_zero, Nat.reduceLeDiff, Int.reduceEq, Int.reduceLT, Int.reduceLE, hP, hΓ, hL, hfin, String.reduceEq, not_false_eq_true, if_true, Int.toNat_one, h16, h43, h29, hfs, hc, c])
      refine ⟨⟨_, _, rfl⟩, by omega, ⟨by omega, hA⟩, ?_⟩
      rw [renC, if_neg hhl', if_pos c]
      exact Into.sameA
    · (refine Holds.drawnQ (by rw [hP]; kernel_rfl) (by kernel_rfl) ?_; simp (maxSteps := 1000000) only [push_cast, reduceCtorEq, Nat.reduceAdd, Nat.reduceMul, Nat.reduceSub, Nat.reduceBEq, Nat.reduceGT, Nat.reduceLT, Int.toNat_zero, Nat.reduceLeDiff, Int.reduceEq, Int.reduceLT, Int.reduceLE, hP, hΓ, hL, hfin, String.reduceEq, not_false_eq_true, if_true, Int.toNat_one, h16, h43, h29, hfs, hc, c])
      refine ⟨⟨_, _, rfl⟩, by omega, ⟨by omega, hA⟩, ?_⟩
      (refine Holds.drawnE (patH []) [0, 1, 2, 3, 4, 5, 6, 7] [] [] true (by rw [hP]; kernel_rfl) (by kernel_rfl) (by kernel_rfl) (by kernel_rfl) (by first | exact .inl rfl | exact .inr fun _ _ h => patH_app _ _ h) (by first | (simp only [push_cast]; done) | (simp only [push_cast, and_true]; omega)) ?_; simp (maxSteps := 1000000) only [↓reduceIte, Option.getD_some, push_cast, reduceCtorEq, Nat.reduceAdd, Nat.reduceMul, Nat.reduceSub, Nat.reduceBEq, Nat.reduceGT, Nat.reduceLT, Int.toNat_zero, Nat.reduceLeDiff, Int.reduceEq, Int.reduceLT, Int.reduceLE, hP, hΓ, hL, hfin, String.reduceEq, not_false_eq_true, if_true, Int.toNat_one, hmo])
      refine ⟨by omega, ?_⟩
      (repeat (first | refine Holds.peel ?_ | refine Holds.peelB ?_ | refine Holds.peelS ?_ | refine Holds.peelL ?_ | refine Holds.peelN ?_))
      (refine Holds.drawnE (patH []) [0, 1, 2, 3, 4, 5, 6, 7, 8] [] [] true (by rw [hP]; kernel_rfl) (by kernel_rfl) (by kernel_rfl) (by kernel_rfl) (by first | exact .inl rfl | exact .inr fun _ _ h => patH_app _ _ h) (by first | (simp only [push_cast]; done) | (simp only [push_cast, and_true]; omega)) ?_; simp (maxSteps := 1000000) only [↓reduceIte, Option.getD_some, push_cast, reduceCtorEq, Nat.reduceAdd, Nat.reduceMul, Nat.reduceSub, Nat.reduceBEq, Nat.reduceGT, Nat.reduceLT, Int.toNat_zero, Nat.reduceLeDiff, Int.reduceEq, Int.reduceLT, Int.reduceLE, hP, hΓ, hL, hfin, String.reduceEq, not_false_eq_true, if_true, Int.toNat_one])
      refine ⟨by omega, ?_⟩
      simp only [vS] at hmi
      ((first | with_reducible refine holds_of_ex X 400 _ _ _ ?_ | skip); simp (maxSteps := 1000000) only [push_cast, reduceCtorEq, Nat.reduceAdd, Nat.reduceMul, Nat.reduceSub, Nat.reduceBEq, Nat.reduceGT, Nat.reduceLT, Int.toNat_zero, Nat.reduceLeDiff, Int.reduceEq, Int.reduceLT, Int.reduceLE, hP, hΓ, hL, hfin, String.reduceEq, not_false_eq_true, if_true, Int.toNat_one, hmi])
      rw [renC, if_neg hhl', if_neg c]
      exact Into.sameA
theorem con82 {Γ : Env} (h : EnvOk Tryz.prog Γ) (h16 : Γ 16 = some S16) (h29 : Γ 29 = some S29) (h43 : Γ 43 = some S43) : Con Tryz.prog 82 S82 :=
  heapE_con h (fn := Tryz.f82) (by kernel_rfl) rfl (by kernel_rfl) inj82 fun ⟨f, S, a, b, d⟩ h => by obtain ⟨h1, h2, h3⟩ := h; have := body82 Γ h16 h29 h43 (fsOf f) S a b d h1 h3; rw [h2] at this; exact this
/-- a file that is there, deleted -/
def delC (S : Int) (A : Fs) (a : Bytes) : Bytes × Fs := if freeF S A < leaves ((A.length : Int) - 1) then (wrongT 174, A) else ([], out A (pl A a))
def e83 : (Key → Option Value) × (Int) × (Bytes) × (Bytes) → List AV × Heap := fun (f, S, a, d) => ([.str d, .ref 0 0 0, .ref 1 0 0], [.row [.ref 2 0 0] 1 0, .row [.sl [.str a] 1] 1 0, .row [.mp 3, .int .i64 S] 2 0, .raw (.map none f)])
def p83 : (Key → Option Value) × (Int) × (Bytes) × (Bytes) → Prop := fun (f, S, a, d) => okS S (fsOf f) ∧ mapF (fsOf f) = f ∧ has (fsOf f) a = true
def r83 : (Key → Option Value) × (Int) × (Bytes) × (Bytes) → AV := fun (f, S, a, d) => .str (delC S (fsOf f) a).1
def g83 : (Key → Option Value) × (Int) × (Bytes) × (Bytes) → Heap := fun (f, S, a, d) => [.row [.ref 2 0 0] 1 0, .row [.sl [.str a] 1] 1 0, .row [.mp 3, .int .i64 S] 2 0, .raw (.map none (mapF (delC S (fsOf f) a).2))]
theorem inj83 : ∀ a b, e83 a = e83 b → a = b := by
  rintro ⟨f, S, a, d⟩ ⟨f', S', a', d'⟩ h
  simp only [e83, mi_iff, ms_iff, mb_iff, my_iff, UInt8.toNat_inj, AObj.raw.injEq, Raw.map.injEq, Prod.mk.injEq, List.cons.injEq, AObj.row.injEq, AV.int.injEq, AV.str.injEq, AV.bool.injEq, AV.sl.injEq, AV.agg.injEq, AV.ip.injEq, AV.fn.injEq, AV.ifc.injEq, AV.mpr.injEq, AV.msl.injEq, AV.ref.injEq, Int.natCast_inj, and_true, true_and] at h
  simp_all only
noncomputable def S83 : FSpec := heapE true e83 p83 r83 g83
theorem ps83 (f : (Key → Option Value)) (S : (Int)) (a : (Bytes)) (d : (Bytes)) : pselK e83 p83 ([.str d, .ref 0 0 0, .ref 1 0 0], [.row [.ref 2 0 0] 1 0, .row [.sl [.str a] 1] 1 0, .row [.mp 3, .int .i64 S] 2 0, .raw (.map none f)]) = (okS S (fsOf f) ∧ mapF (fsOf f) = f ∧ has (fsOf f) a = true) := pselK_at inj83 p83 (f, S, a, d)
theorem rs83 (f : (Key → Option Value)) (S : (Int)) (a : (Bytes)) (d : (Bytes)) : rselK e83 r83 .any ([.str d, .ref 0 0 0, .ref 1 0 0], [.row [.ref 2 0 0] 1 0, .row [.sl [.str a] 1] 1 0, .row [.mp 3, .int .i64 S] 2 0, .raw (.map none f)]) = (.str (delC S (fsOf f) a).1) := rselK_at inj83 r83 .any (f, S, a, d)
theorem hs83 (f : (Key → Option Value)) (S : (Int)) (a : (Bytes)) (d : (Bytes)) : rselK e83 g83 [] ([.str d, .ref 0 0 0, .ref 1 0 0], [.row [.ref 2 0 0] 1 0, .row [.sl [.str a] 1] 1 0, .row [.mp 3, .int .i64 S] 2 0, .raw (.map none f)]) = ([.row [.ref 2 0 0] 1 0, .row [.sl [.str a] 1] 1 0, .row [.mp 3, .int .i64 S] 2 0, .raw (.map none (mapF (delC S (fsOf f) a).2))]) := rselK_at inj83 g83 [] (f, S, a, d)
attribute [push_cast] S83 ps83 rs83 hs83
theorem body83 (Γ : Env) (h16 : Γ 16 = some S16) (h29 : Γ 29 = some S29) (h43 : Γ 43 = some S43) (A : Fs) (S : Int) (a d : Bytes) (hA : okS S A) (ha : has A a = true) : BodyOk Tryz.prog Γ Tryz.f83 [.str d, .ref 0 0 0, .ref 1 0 0] [.row [.ref 2 0 0] 1 0, .row [.sl [.str a] 1] 1 0, .row [.mp 3, .int .i64 S] 2 0, .raw (.map none (mapF A))] (.str (delC S A a).1) [.row [.ref 2 0 0] 1 0, .row [.sl [.str a] 1] 1 0, .row [.mp 3, .int .i64 S] 2 0, .raw (.map none (mapF (delC S A a).2))] := by
  have hl := hA.ok.le
  have hl1 : 1 ≤ A.length := by have := len_out hA.ok.so ha; omega
  have hfs := fsOf_mapF hA.ok.so
  have hc := card_mapF hA.ok.so
  have hmo := mapF_out hA.ok.so ha
  by_cases c : freeF S A < leaves ((A.length : Int) - 1)
  · (intro X hP hΓ hL hfin; refine ⟨_, rfl, ?_⟩; rw [show Tryz.f83.ntmps = 23 from rfl]; rw [show Tryz.f83.results.toList = [.tmp 4] from rfl] at hfin; apply holds_of_ex X 400; simp (maxSteps := 1000000) only [push_cast, reduceCtorEq, Nat.reduceAdd, Nat.reduceMul, Nat.reduceSub, Nat.reduceBEq, Nat.reduceGT, Nat.reduceLT, Int.toNat_zero, Nat.reduceLeDiff, Int.reduceEq, Int.reduceLT, Int.reduceLE, hP, hΓ, hL, hfin, String.reduceEq, not_false_eq_true, if_true, Int.toNat_one])
    (refine Holds.drawnQ (by rw [hP]; kernel_rfl) (by kernel_rfl) ?_; simp (maxSteps := 1000000) only [push_cast, reduceCtorEq, Nat.reduceAdd, Nat.reduceMul, Nat.reduceSub, Nat.reduceBEq, Nat.reduceGT, Nat.reduceLT, Int.toNat_zero, Nat.reduceLeDiff, Int.reduceEq, Int.reduceLT, Int.reduceLE, hP, hΓ, hL, hfin, String.reduceEq, not_false_eq_true, if_true, Int.toNat_one, h16, h43, h29, hfs, hc, c, wr_i64 ((A.length : Int) - 1) (by constructor <;> omega)])
    refine ⟨⟨_, _, rfl⟩, by omega, ⟨by omega, hA⟩, ?_⟩
    rw [delC, if_pos c]
    exact Into.sameA
  · (intro X hP hΓ hL hfin; refine ⟨_, rfl, ?_⟩; rw [show Tryz.f83.ntmps = 23 from rfl]; rw [show Tryz.f83.results.toList = [.tmp 4] from rfl] at hfin; apply holds_of_ex X 400; simp (maxSteps := 1000000) only [push_cast, reduceCtorEq, Nat.reduceAdd, Nat.reduceMul, Nat.reduceSub, Nat.reduceBEq, Nat.reduceGT, Nat.reduceLT, Int.toNat_zero, Nat.reduceLeDiff, Int.reduceEq, Int.reduceLT, Int.reduceLE, hP, hΓ, hL, hfin, String.reduceEq, not_false_eq_true, if_true, Int.toNat_one])
    (refine Holds.drawnQ (by rw [hP]; kernel_rfl) (by kernel_rfl) ?_; simp (maxSteps := 1000000) only [push_cast, reduceCtorEq, Nat.reduceAdd, Nat.reduceMul, Nat.reduceSub, Nat.reduceBEq, Nat.reduceGT, Nat.reduceLT, Int.toNat_zero, Nat.reduceLeDiff, Int.reduceEq, Int.reduceLT, Int.reduceLE, hP, hΓ, hL, hfin, String.reduceEq, not_false_eq_true, if_true, Int.toNat_one, h16, h43, h29, hfs, hc, c, wr_i64 ((A.length : Int) - 1) (by constructor <;> omega)])
    refine ⟨⟨_, _, rfl⟩, by omega, ⟨by omega, hA⟩, ?_⟩
    (refine Holds.drawnE (patH []) [0, 1, 2, 3, 4, 5, 6, 7] [] [] true (by rw [hP]; kernel_rfl) (by kernel_rfl) (by kernel_rfl) (by kernel_rfl) (by first | exact .inl rfl | exact .inr fun _ _ h => patH_app _ _ h) (by first | (simp only [push_cast]; done) | (simp only [push_cast, and_true]; omega)) ?_; simp (maxSteps := 1000000) only [↓reduceIte, Option.getD_some, push_cast, reduceCtorEq, Nat.reduceAdd, Nat.reduceMul, Nat.reduceSub, Nat.reduceBEq, Nat.reduceGT, Nat.reduceLT, Int.toNat_zero, Nat.reduceLeDiff, Int.reduceEq, Int.reduceLT, Int.reduceLE, hP, hΓ, hL, hfin, String.reduceEq, not_false_eq_true, if_true, Int.toNat_one, hmo])
    refine ⟨by omega, ?_⟩
    ((first | with_reducible refine holds_of_ex X 400 _ _ _ ?_ | skip); simp (maxSteps := 1000000) only [push_cast, reduceCtorEq, Nat.reduceAdd, Nat.reduceMul, Nat.reduceSub, Nat.reduceBEq, Nat.reduceGT, Nat.reduceLT, Int.toNat_zero, Nat.reduceLeDiff, Int.reduceEq, Int.reduceLT, Int.reduceLE, hP, hΓ, hL, hfin, String.reduceEq, not_false_eq_true, if_true, Int.toNat_one])
    rw [delC, if_neg c]
    exact Into.sameA
theorem con83 {Γ : Env} (h : EnvOk Tryz.prog Γ) (h16 : Γ 16 = some S16) (h29 : Γ 29 = some S29) (h43 : Γ 43 = some S43) : Con Tryz.prog 83 S83 :=
  heapE_con h (fn := Tryz.f83) (by kernel_rfl) rfl (by kernel_rfl) inj83 fun ⟨f, S, a, d⟩ h => by obtain ⟨h1, h2, h3⟩ := h; have := body83 Γ h16 h29 h43 (fsOf f) S a d h1 h3; rw [h2] at this; exact this
end
end Go.Proofs.YtenopfmafecffaaGreatDoor.modelDone
