/- Of the model of a workstation: the program's copy, rename, delete, show, size, run. Conditions stand in each. -/
import Derived.Test.YtenopfmafecffaaGreatDoorMpK
namespace Go.Proofs.YtenopfmafecffaaGreatDoor.modelDone
open Go Go.Eng Go.Proofs Go.Mdl Go.RowKit
set_option linter.unusedVariables false
set_option linter.unusedSimpArgs false
set_option maxRecDepth 100000
set_option maxHeartbeats 4000000
noncomputable section
theorem renameF_eq (S : Int) (A : Fs) (a b : Bytes) (h : nameB b = true) : renameF S A a b = renG S A a b := by
  unfold renameF renG renC
  rw [if_neg (by simp [h])]
def e59 : (Key → Option Value) × (Int) × (Bytes) × (Bytes) × (Bytes) → List AV × Heap := fun (f, S, a, b, t) => ([.ref 0 0 0, .sl [.str a, .str b] 2, .str t], [.row [.mp 1, .int .i64 S] 2 0, .raw (.map none f)])
def p59 : (Key → Option Value) × (Int) × (Bytes) × (Bytes) × (Bytes) → Prop := fun (f, S, a, b, t) => okS S (fsOf f) ∧ mapF (fsOf f) = f ∧ b.length ≤ 4194304
def r59 : (Key → Option Value) × (Int) × (Bytes) × (Bytes) × (Bytes) → AV := fun (f, S, a, b, t) => .str (copyF S (fsOf f) a b).1
def g59 : (Key → Option Value) × (Int) × (Bytes) × (Bytes) × (Bytes) → Heap := fun (f, S, a, b, t) => [.row [.mp 1, .int .i64 S] 2 0, .raw (.map none (mapF (copyF S (fsOf f) a b).2))]
theorem inj59 : ∀ a b, e59 a = e59 b → a = b := by
  rintro ⟨f, S, a, b, t⟩ ⟨f', S', a', b', t'⟩ h
  simp only [e59, mi_iff, ms_iff, mb_iff, my_iff, UInt8.toNat_inj, AObj.raw.injEq, Raw.map.injEq, Prod.mk.injEq, List.cons.injEq, AObj.row.injEq, AV.int.injEq, AV.str.injEq, AV.bool.injEq, AV.sl.injEq, AV.agg.injEq, AV.ip.injEq, AV.fn.injEq, AV.ifc.injEq, AV.mpr.injEq, AV.msl.injEq, AV.ref.injEq, Int.natCast_inj, and_true, true_and] at h
  simp_all only
noncomputable def S59 : FSpec := heapE true e59 p59 r59 g59
theorem ps59 (f : (Key → Option Value)) (S : (Int)) (a : (Bytes)) (b : (Bytes)) (t : (Bytes)) : pselK e59 p59 ([.ref 0 0 0, .sl [.str a, .str b] 2, .str t], [.row [.mp 1, .int .i64 S] 2 0, .raw (.map none f)]) = (okS S (fsOf f) ∧ mapF (fsOf f) = f ∧ b.length ≤ 4194304) := pselK_at inj59 p59 (f, S, a, b, t)
theorem rs59 (f : (Key → Option Value)) (S : (Int)) (a : (Bytes)) (b : (Bytes)) (t : (Bytes)) : rselK e59 r59 .any ([.ref 0 0 0, .sl [.str a, .str b] 2, .str t], [.row [.mp 1, .int .i64 S] 2 0, .raw (.map none f)]) = (.str (copyF S (fsOf f) a b).1) := rselK_at inj59 r59 .any (f, S, a, b, t)
theorem hs59 (f : (Key → Option Value)) (S : (Int)) (a : (Bytes)) (b : (Bytes)) (t : (Bytes)) : rselK e59 g59 [] ([.ref 0 0 0, .sl [.str a, .str b] 2, .str t], [.row [.mp 1, .int .i64 S] 2 0, .raw (.map none f)]) = ([.row [.mp 1, .int .i64 S] 2 0, .raw (.map none (mapF (copyF S (fsOf f) a b).2))]) := rselK_at inj59 g59 [] (f, S, a, b, t)
attribute [push_cast] S59 ps59 rs59 hs59
def e60 : (Key → Option Value) × (Int) × (Bytes) × (Bytes) × (Bytes) → List AV × Heap := fun (f, S, a, b, t) => ([.ref 0 0 0, .sl [.str a, .str b] 2, .str t], [.row [.mp 1, .int .i64 S] 2 0, .raw (.map none f)])
def p60 : (Key → Option Value) × (Int) × (Bytes) × (Bytes) × (Bytes) → Prop := fun (f, S, a, b, t) => okS S (fsOf f) ∧ mapF (fsOf f) = f ∧ b.length ≤ 4194304
def r60 : (Key → Option Value) × (Int) × (Bytes) × (Bytes) × (Bytes) → AV := fun (f, S, a, b, t) => .str (renameF S (fsOf f) a b).1
def g60 : (Key → Option Value) × (Int) × (Bytes) × (Bytes) × (Bytes) → Heap := fun (f, S, a, b, t) => [.row [.mp 1, .int .i64 S] 2 0, .raw (.map none (mapF (renameF S (fsOf f) a b).2))]
theorem inj60 : ∀ a b, e60 a = e60 b → a = b := by
  rintro ⟨f, S, a, b, t⟩ ⟨f', S', a', b', t'⟩ h
  simp only [e60, mi_iff, ms_iff, mb_iff, my_iff, UInt8.toNat_inj, AObj.raw.injEq, Raw.map.injEq, Prod.mk.injEq, List.cons.injEq, AObj.row.injEq, AV.int.injEq, AV.str.injEq, AV.bool.injEq, AV.sl.injEq, AV.agg.injEq, AV.ip.injEq, AV.fn.injEq, AV.ifc.injEq, AV.mpr.injEq, AV.msl.injEq, AV.ref.injEq, Int.natCast_inj, and_true, true_and] at h
  simp_all only
noncomputable def S60 : FSpec := heapE true e60 p60 r60 g60
theorem ps60 (f : (Key → Option Value)) (S : (Int)) (a : (Bytes)) (b : (Bytes)) (t : (Bytes)) : pselK e60 p60 ([.ref 0 0 0, .sl [.str a, .str b] 2, .str t], [.row [.mp 1, .int .i64 S] 2 0, .raw (.map none f)]) = (okS S (fsOf f) ∧ mapF (fsOf f) = f ∧ b.length ≤ 4194304) := pselK_at inj60 p60 (f, S, a, b, t)
theorem rs60 (f : (Key → Option Value)) (S : (Int)) (a : (Bytes)) (b : (Bytes)) (t : (Bytes)) : rselK e60 r60 .any ([.ref 0 0 0, .sl [.str a, .str b] 2, .str t], [.row [.mp 1, .int .i64 S] 2 0, .raw (.map none f)]) = (.str (renameF S (fsOf f) a b).1) := rselK_at inj60 r60 .any (f, S, a, b, t)
theorem hs60 (f : (Key → Option Value)) (S : (Int)) (a : (Bytes)) (b : (Bytes)) (t : (Bytes)) : rselK e60 g60 [] ([.ref 0 0 0, .sl [.str a, .str b] 2, .str t], [.row [.mp 1, .int .i64 S] 2 0, .raw (.map none f)]) = ([.row [.mp 1, .int .i64 S] 2 0, .raw (.map none (mapF (renameF S (fsOf f) a b).2))]) := rselK_at inj60 g60 [] (f, S, a, b, t)
attribute [push_cast] S60 ps60 rs60 hs60
theorem body59 (Γ : Env) (h80 : Γ 80 = some S80) (A : Fs) (S : Int) (a b t : Bytes) (hA : okS S A) (hb : b.length ≤ 4194304) : BodyOk Tryz.prog Γ Tryz.f59 [.ref 0 0 0, .sl [.str a, .str b] 2, .str t] [.row [.mp 1, .int .i64 S] 2 0, .raw (.map none (mapF A))] (.str (copyF S A a b).1) [.row [.mp 1, .int .i64 S] 2 0, .raw (.map none (mapF (copyF S A a b).2))] := by
  have hfs := fsOf_mapF hA.ok.so
  (intro X hP hΓ hL hfin; refine ⟨_, rfl, ?_⟩; rw [show Tryz.f59.ntmps = 13 from rfl]; rw [show Tryz.f59.results.toList = [.tmp 6] from rfl] at hfin; apply holds_of_ex X 400; simp (maxSteps := 1000000) only [push_cast, reduceCtorEq, Nat.reduceAdd, Nat.reduceMul, Nat.reduceSub, Nat.reduceBEq, Nat.reduceGT, Nat.reduceLT, Int.toNat_zero, Nat.reduceLeDiff, Int.reduceEq, Int.reduceLT, Int.reduceLE, hP, hΓ, hL, hfin, String.reduceEq, not_false_eq_true, if_true, Int.toNat_one])
  (refine Holds.drawnE (patH []) [0, 1, 2, 3, 5, 6] [] [] false (by rw [hP]; kernel_rfl) (by kernel_rfl) (by kernel_rfl) (by kernel_rfl) (by first | exact .inl rfl | exact .inr fun _ _ h => patH_app _ _ h) (by first | (simp only [push_cast]; done) | (simp only [push_cast, and_true]; omega)) ?_; simp (maxSteps := 1000000) only [↓reduceIte, Option.getD_some, push_cast, reduceCtorEq, Nat.reduceAdd, Nat.reduceMul, Nat.reduceSub, Nat.reduceBEq, Nat.reduceGT, Nat.reduceLT, Int.toNat_zero, Nat.reduceLeDiff, Int.reduceEq, Int.reduceLT, Int.reduceLE, hP, hΓ, hL, hfin, String.reduceEq, not_false_eq_true, if_true, Int.toNat_one, h80, hfs])
  refine ⟨by omega, ⟨⟨by omega, by omega⟩, hA, hb⟩, ?_⟩
  ((first | with_reducible refine holds_of_ex X 400 _ _ _ ?_ | skip); simp (maxSteps := 1000000) only [push_cast, reduceCtorEq, Nat.reduceAdd, Nat.reduceMul, Nat.reduceSub, Nat.reduceBEq, Nat.reduceGT, Nat.reduceLT, Int.toNat_zero, Nat.reduceLeDiff, Int.reduceEq, Int.reduceLT, Int.reduceLE, hP, hΓ, hL, hfin, String.reduceEq, not_false_eq_true, if_true, Int.toNat_one])
  exact Into.keep2A
theorem con59 {Γ : Env} (h : EnvOk Tryz.prog Γ) (h80 : Γ 80 = some S80) : Con Tryz.prog 59 S59 :=
  heapE_con h (fn := Tryz.f59) (by kernel_rfl) rfl (by kernel_rfl) inj59 fun ⟨f, S, a, b, t⟩ h => by obtain ⟨h1, h2, h3⟩ := h; have := body59 Γ h80 (fsOf f) S a b t h1 h3; rw [h2] at this; exact this
theorem body60 (Γ : Env) (h23 : Γ 23 = some S23) (h29 : Γ 29 = some S29) (h80 : Γ 80 = some S80) (A : Fs) (S : Int) (a b t : Bytes) (hA : okS S A) (hb : b.length ≤ 4194304) : BodyOk Tryz.prog Γ Tryz.f60 [.ref 0 0 0, .sl [.str a, .str b] 2, .str t] [.row [.mp 1, .int .i64 S] 2 0, .raw (.map none (mapF A))] (.str (renameF S A a b).1) [.row [.mp 1, .int .i64 S] 2 0, .raw (.map none (mapF (renameF S A a b).2))] := by
  have hfs := fsOf_mapF hA.ok.so
  cases hn : nameB b with
  | false =>
    (intro X hP hΓ hL hfin; refine ⟨_, rfl, ?_⟩; rw [show Tryz.f60.ntmps = 19 from rfl]; rw [show Tryz.f60.results.toList = [.tmp 6] from rfl] at hfin; apply holds_of_ex X 400; simp (maxSteps := 1000000) only [push_cast, reduceCtorEq, Nat.reduceAdd, Nat.reduceMul, Nat.reduceSub, Nat.reduceBEq, Nat.reduceGT, Nat.reduceLT, Int.toNat_zero, Nat.reduceLeDiff, Int.reduceEq, Int.reduceLT, Int.reduceLE, hP, hΓ, hL, hfin, String.reduceEq, not_false_eq_true, if_true, Int.toNat_one, h23, h29, hn])
    refine ⟨by omega, hb, ?_⟩
    rw [renameF, if_pos hn]
    exact Into.keep2A
  | true =>
    (intro X hP hΓ hL hfin; refine ⟨_, rfl, ?_⟩; rw [show Tryz.f60.ntmps = 19 from rfl]; rw [show Tryz.f60.results.toList = [.tmp 6] from rfl] at hfin; apply holds_of_ex X 400; simp (maxSteps := 1000000) only [push_cast, reduceCtorEq, Nat.reduceAdd, Nat.reduceMul, Nat.reduceSub, Nat.reduceBEq, Nat.reduceGT, Nat.reduceLT, Int.toNat_zero, Nat.reduceLeDiff, Int.reduceEq, Int.reduceLT, Int.reduceLE, hP, hΓ, hL, hfin, String.reduceEq, not_false_eq_true, if_true, Int.toNat_one, h23, h29, hn])
    refine ⟨by omega, hb, ?_⟩
    (refine Holds.drawnE (patH []) [0, 1, 2, 3, 5, 6] [] [] false (by rw [hP]; kernel_rfl) (by kernel_rfl) (by kernel_rfl) (by kernel_rfl) (by first | exact .inl rfl | exact .inr fun _ _ h => patH_app _ _ h) (by first | (simp only [push_cast]; done) | (simp only [push_cast, and_true]; omega)) ?_; simp (maxSteps := 1000000) only [↓reduceIte, Option.getD_some, push_cast, reduceCtorEq, Nat.reduceAdd, Nat.reduceMul, Nat.reduceSub, Nat.reduceBEq, Nat.reduceGT, Nat.reduceLT, Int.toNat_zero, Nat.reduceLeDiff, Int.reduceEq, Int.reduceLT, Int.reduceLE, hP, hΓ, hL, hfin, String.reduceEq, not_false_eq_true, if_true, Int.toNat_one, h80, hfs])
    refine ⟨by omega, ⟨⟨by omega, by omega⟩, hA⟩, ?_⟩
    ((first | with_reducible refine holds_of_ex X 400 _ _ _ ?_ | skip); simp (maxSteps := 1000000) only [push_cast, reduceCtorEq, Nat.reduceAdd, Nat.reduceMul, Nat.reduceSub, Nat.reduceBEq, Nat.reduceGT, Nat.reduceLT, Int.toNat_zero, Nat.reduceLeDiff, Int.reduceEq, Int.reduceLT, Int.reduceLE, hP, hΓ, hL, hfin, String.reduceEq, not_false_eq_true, if_true, Int.toNat_one])
    rw [renameF_eq _ _ _ _ hn]
    exact Into.keep2A
theorem con60 {Γ : Env} (h : EnvOk Tryz.prog Γ) (h23 : Γ 23 = some S23) (h29 : Γ 29 = some S29) (h80 : Γ 80 = some S80) : Con Tryz.prog 60 S60 :=
  heapE_con h (fn := Tryz.f60) (by kernel_rfl) rfl (by kernel_rfl) inj60 fun ⟨f, S, a, b, t⟩ h => by obtain ⟨h1, h2, h3⟩ := h; have := body60 Γ h23 h29 h80 (fsOf f) S a b t h1 h3; rw [h2] at this; exact this
def e61 : (Key → Option Value) × (Int) × (Bytes) × (Bytes) → List AV × Heap := fun (f, S, a, t) => ([.ref 0 0 0, .sl [.str a] 1, .str t], [.row [.mp 1, .int .i64 S] 2 0, .raw (.map none f)])
def p61 : (Key → Option Value) × (Int) × (Bytes) × (Bytes) → Prop := fun (f, S, a, t) => okS S (fsOf f) ∧ mapF (fsOf f) = f
def r61 : (Key → Option Value) × (Int) × (Bytes) × (Bytes) → AV := fun (f, S, a, t) => .str (delF S (fsOf f) a).1
def g61 : (Key → Option Value) × (Int) × (Bytes) × (Bytes) → Heap := fun (f, S, a, t) => [.row [.mp 1, .int .i64 S] 2 0, .raw (.map none (mapF (delF S (fsOf f) a).2))]
theorem inj61 : ∀ a b, e61 a = e61 b → a = b := by
  rintro ⟨f, S, a, t⟩ ⟨f', S', a', t'⟩ h
  simp only [e61, mi_iff, ms_iff, mb_iff, my_iff, UInt8.toNat_inj, AObj.raw.injEq, Raw.map.injEq, Prod.mk.injEq, List.cons.injEq, AObj.row.injEq, AV.int.injEq, AV.str.injEq, AV.bool.injEq, AV.sl.injEq, AV.agg.injEq, AV.ip.injEq, AV.fn.injEq, AV.ifc.injEq, AV.mpr.injEq, AV.msl.injEq, AV.ref.injEq, Int.natCast_inj, and_true, true_and] at h
  simp_all only
noncomputable def S61 : FSpec := heapE true e61 p61 r61 g61
theorem ps61 (f : (Key → Option Value)) (S : (Int)) (a : (Bytes)) (t : (Bytes)) : pselK e61 p61 ([.ref 0 0 0, .sl [.str a] 1, .str t], [.row [.mp 1, .int .i64 S] 2 0, .raw (.map none f)]) = (okS S (fsOf f) ∧ mapF (fsOf f) = f) := pselK_at inj61 p61 (f, S, a, t)
theorem rs61 (f : (Key → Option Value)) (S : (Int)) (a : (Bytes)) (t : (Bytes)) : rselK e61 r61 .any ([.ref 0 0 0, .sl [.str a] 1, .str t], [.row [.mp 1, .int .i64 S] 2 0, .raw (.map none f)]) = (.str (delF S (fsOf f) a).1) := rselK_at inj61 r61 .any (f, S, a, t)
theorem hs61 (f : (Key → Option Value)) (S : (Int)) (a : (Bytes)) (t : (Bytes)) : rselK e61 g61 [] ([.ref 0 0 0, .sl [.str a] 1, .str t], [.row [.mp 1, .int .i64 S] 2 0, .raw (.map none f)]) = ([.row [.mp 1, .int .i64 S] 2 0, .raw (.map none (mapF (delF S (fsOf f) a).2))]) := rselK_at inj61 g61 [] (f, S, a, t)
attribute [push_cast] S61 ps61 rs61 hs61
theorem body61 (Γ : Env) (h80 : Γ 80 = some S80) (A : Fs) (S : Int) (a t : Bytes) (hA : okS S A) : BodyOk Tryz.prog Γ Tryz.f61 [.ref 0 0 0, .sl [.str a] 1, .str t] [.row [.mp 1, .int .i64 S] 2 0, .raw (.map none (mapF A))] (.str (delF S A a).1) [.row [.mp 1, .int .i64 S] 2 0, .raw (.map none (mapF (delF S A a).2))] := by
  have hfs := fsOf_mapF hA.ok.so
  (intro X hP hΓ hL hfin; refine ⟨_, rfl, ?_⟩; rw [show Tryz.f61.ntmps = 13 from rfl]; rw [show Tryz.f61.results.toList = [.tmp 6] from rfl] at hfin; apply holds_of_ex X 400; simp (maxSteps := 1000000) only [push_cast, reduceCtorEq, Nat.reduceAdd, Nat.reduceMul, Nat.reduceSub, Nat.reduceBEq, Nat.reduceGT, Nat.reduceLT, Int.toNat_zero, Nat.reduceLeDiff, Int.reduceEq, Int.reduceLT, Int.reduceLE, hP, hΓ, hL, hfin, String.reduceEq, not_false_eq_true, if_true, Int.toNat_one])
  (refine Holds.drawnE (patH []) [0, 1, 2, 3, 5, 6] [] [] false (by rw [hP]; kernel_rfl) (by kernel_rfl) (by kernel_rfl) (by kernel_rfl) (by first | exact .inl rfl | exact .inr fun _ _ h => patH_app _ _ h) (by first | (simp only [push_cast]; done) | (simp only [push_cast, and_true]; omega)) ?_; simp (maxSteps := 1000000) only [↓reduceIte, Option.getD_some, push_cast, reduceCtorEq, Nat.reduceAdd, Nat.reduceMul, Nat.reduceSub, Nat.reduceBEq, Nat.reduceGT, Nat.reduceLT, Int.toNat_zero, Nat.reduceLeDiff, Int.reduceEq, Int.reduceLT, Int.reduceLE, hP, hΓ, hL, hfin, String.reduceEq, not_false_eq_true, if_true, Int.toNat_one, h80, hfs])
  refine ⟨by omega, ⟨⟨by omega, by omega⟩, hA⟩, ?_⟩
  ((first | with_reducible refine holds_of_ex X 400 _ _ _ ?_ | skip); simp (maxSteps := 1000000) only [push_cast, reduceCtorEq, Nat.reduceAdd, Nat.reduceMul, Nat.reduceSub, Nat.reduceBEq, Nat.reduceGT, Nat.reduceLT, Int.toNat_zero, Nat.reduceLeDiff, Int.reduceEq, Int.reduceLT, Int.reduceLE, hP, hΓ, hL, hfin, String.reduceEq, not_false_eq_true, if_true, Int.toNat_one])
  exact Into.keep2A
theorem con61 {Γ : Env} (h : EnvOk Tryz.prog Γ) (h80 : Γ 80 = some S80) : Con Tryz.prog 61 S61 :=
  heapE_con h (fn := Tryz.f61) (by kernel_rfl) rfl (by kernel_rfl) inj61 fun ⟨f, S, a, t⟩ h => by obtain ⟨h1, h2⟩ := h; have := body61 Γ h80 (fsOf f) S a t h1; rw [h2] at this; exact this
def e64 : (Key → Option Value) × (Int) × (Bytes) × (Bytes) → List AV × Heap := fun (f, S, a, t) => ([.ref 0 0 0, .sl [.str a] 1, .str t], [.row [.mp 1, .int .i64 S] 2 0, .raw (.map none f)])
def p64 : (Key → Option Value) × (Int) × (Bytes) × (Bytes) → Prop := fun (f, S, a, t) => okS S (fsOf f) ∧ mapF (fsOf f) = f
def r64 : (Key → Option Value) × (Int) × (Bytes) × (Bytes) → AV := fun (f, S, a, t) => .str (readC (fsOf f) a (dataF (fsOf f) a))
def g64 : (Key → Option Value) × (Int) × (Bytes) × (Bytes) → Heap := fun (f, S, a, t) => [.row [.mp 1, .int .i64 S] 2 0, .raw (.map none f)]
theorem inj64 : ∀ a b, e64 a = e64 b → a = b := by
  rintro ⟨f, S, a, t⟩ ⟨f', S', a', t'⟩ h
  simp only [e64, mi_iff, ms_iff, mb_iff, my_iff, UInt8.toNat_inj, AObj.raw.injEq, Raw.map.injEq, Prod.mk.injEq, List.cons.injEq, AObj.row.injEq, AV.int.injEq, AV.str.injEq, AV.bool.injEq, AV.sl.injEq, AV.agg.injEq, AV.ip.injEq, AV.fn.injEq, AV.ifc.injEq, AV.mpr.injEq, AV.msl.injEq, AV.ref.injEq, Int.natCast_inj, and_true, true_and] at h
  simp_all only
noncomputable def S64 : FSpec := heapE true e64 p64 r64 g64
theorem ps64 (f : (Key → Option Value)) (S : (Int)) (a : (Bytes)) (t : (Bytes)) : pselK e64 p64 ([.ref 0 0 0, .sl [.str a] 1, .str t], [.row [.mp 1, .int .i64 S] 2 0, .raw (.map none f)]) = (okS S (fsOf f) ∧ mapF (fsOf f) = f) := pselK_at inj64 p64 (f, S, a, t)
theorem rs64 (f : (Key → Option Value)) (S : (Int)) (a : (Bytes)) (t : (Bytes)) : rselK e64 r64 .any ([.ref 0 0 0, .sl [.str a] 1, .str t], [.row [.mp 1, .int .i64 S] 2 0, .raw (.map none f)]) = (.str (readC (fsOf f) a (dataF (fsOf f) a))) := rselK_at inj64 r64 .any (f, S, a, t)
theorem hs64 (f : (Key → Option Value)) (S : (Int)) (a : (Bytes)) (t : (Bytes)) : rselK e64 g64 [] ([.ref 0 0 0, .sl [.str a] 1, .str t], [.row [.mp 1, .int .i64 S] 2 0, .raw (.map none f)]) = ([.row [.mp 1, .int .i64 S] 2 0, .raw (.map none f)]) := rselK_at inj64 g64 [] (f, S, a, t)
attribute [push_cast] S64 ps64 rs64 hs64
theorem body64 (Γ : Env) (h80 : Γ 80 = some S80) (f : Key → Option Value) (S : Int) (a t : Bytes) (hA : okS S (fsOf f)) (hf : mapF (fsOf f) = f) : BodyOk Tryz.prog Γ Tryz.f64 [.ref 0 0 0, .sl [.str a] 1, .str t] [.row [.mp 1, .int .i64 S] 2 0, .raw (.map none f)] (.str (readC (fsOf f) a (dataF (fsOf f) a))) [.row [.mp 1, .int .i64 S] 2 0, .raw (.map none f)] := by
  (intro X hP hΓ hL hfin; refine ⟨_, rfl, ?_⟩; rw [show Tryz.f64.ntmps = 12 from rfl]; rw [show Tryz.f64.results.toList = [.tmp 6] from rfl] at hfin; apply holds_of_ex X 400; simp (maxSteps := 1000000) only [push_cast, reduceCtorEq, Nat.reduceAdd, Nat.reduceMul, Nat.reduceSub, Nat.reduceBEq, Nat.reduceGT, Nat.reduceLT, Int.toNat_zero, Nat.reduceLeDiff, Int.reduceEq, Int.reduceLT, Int.reduceLE, hP, hΓ, hL, hfin, String.reduceEq, not_false_eq_true, if_true, Int.toNat_one, h80])
  refine ⟨by omega, ⟨hA, hf⟩, ?_⟩
  exact Into.sameA
theorem con64 {Γ : Env} (h : EnvOk Tryz.prog Γ) (h80 : Γ 80 = some S80) : Con Tryz.prog 64 S64 :=
  heapE_con h (fn := Tryz.f64) (by kernel_rfl) rfl (by kernel_rfl) inj64 fun ⟨f, S, a, t⟩ h => body64 Γ h80 f S a t h.1 h.2
def e65 : (Key → Option Value) × (Int) × (Bytes) × (Bytes) → List AV × Heap := fun (f, S, a, t) => ([.ref 0 0 0, .sl [.str a] 1, .str t], [.row [.mp 1, .int .i64 S] 2 0, .raw (.map none f)])
def p65 : (Key → Option Value) × (Int) × (Bytes) × (Bytes) → Prop := fun (f, S, a, t) => okS S (fsOf f) ∧ mapF (fsOf f) = f
def r65 : (Key → Option Value) × (Int) × (Bytes) × (Bytes) → AV := fun (f, S, a, t) => .str (readC (fsOf f) a (numT (dataF (fsOf f) a).length))
def g65 : (Key → Option Value) × (Int) × (Bytes) × (Bytes) → Heap := fun (f, S, a, t) => [.row [.mp 1, .int .i64 S] 2 0, .raw (.map none f)]
theorem inj65 : ∀ a b, e65 a = e65 b → a = b := by
  rintro ⟨f, S, a, t⟩ ⟨f', S', a', t'⟩ h
  simp only [e65, mi_iff, ms_iff, mb_iff, my_iff, UInt8.toNat_inj, AObj.raw.injEq, Raw.map.injEq, Prod.mk.injEq, List.cons.injEq, AObj.row.injEq, AV.int.injEq, AV.str.injEq, AV.bool.injEq, AV.sl.injEq, AV.agg.injEq, AV.ip.injEq, AV.fn.injEq, AV.ifc.injEq, AV.mpr.injEq, AV.msl.injEq, AV.ref.injEq, Int.natCast_inj, and_true, true_and] at h
  simp_all only
noncomputable def S65 : FSpec := heapE true e65 p65 r65 g65
theorem ps65 (f : (Key → Option Value)) (S : (Int)) (a : (Bytes)) (t : (Bytes)) : pselK e65 p65 ([.ref 0 0 0, .sl [.str a] 1, .str t], [.row [.mp 1, .int .i64 S] 2 0, .raw (.map none f)]) = (okS S (fsOf f) ∧ mapF (fsOf f) = f) := pselK_at inj65 p65 (f, S, a, t)
theorem rs65 (f : (Key → Option Value)) (S : (Int)) (a : (Bytes)) (t : (Bytes)) : rselK e65 r65 .any ([.ref 0 0 0, .sl [.str a] 1, .str t], [.row [.mp 1, .int .i64 S] 2 0, .raw (.map none f)]) = (.str (readC (fsOf f) a (numT (dataF (fsOf f) a).length))) := rselK_at inj65 r65 .any (f, S, a, t)
theorem hs65 (f : (Key → Option Value)) (S : (Int)) (a : (Bytes)) (t : (Bytes)) : rselK e65 g65 [] ([.ref 0 0 0, .sl [.str a] 1, .str t], [.row [.mp 1, .int .i64 S] 2 0, .raw (.map none f)]) = ([.row [.mp 1, .int .i64 S] 2 0, .raw (.map none f)]) := rselK_at inj65 g65 [] (f, S, a, t)
attribute [push_cast] S65 ps65 rs65 hs65
theorem body65 (Γ : Env) (h80 : Γ 80 = some S80) (f : Key → Option Value) (S : Int) (a t : Bytes) (hA : okS S (fsOf f)) (hf : mapF (fsOf f) = f) : BodyOk Tryz.prog Γ Tryz.f65 [.ref 0 0 0, .sl [.str a] 1, .str t] [.row [.mp 1, .int .i64 S] 2 0, .raw (.map none f)] (.str (readC (fsOf f) a (numT (dataF (fsOf f) a).length))) [.row [.mp 1, .int .i64 S] 2 0, .raw (.map none f)] := by
  (intro X hP hΓ hL hfin; refine ⟨_, rfl, ?_⟩; rw [show Tryz.f65.ntmps = 12 from rfl]; rw [show Tryz.f65.results.toList = [.tmp 6] from rfl] at hfin; apply holds_of_ex X 400; simp (maxSteps := 1000000) only [push_cast, reduceCtorEq, Nat.reduceAdd, Nat.reduceMul, Nat.reduceSub, Nat.reduceBEq, Nat.reduceGT, Nat.reduceLT, Int.toNat_zero, Nat.reduceLeDiff, Int.reduceEq, Int.reduceLT, Int.reduceLE, hP, hΓ, hL, hfin, String.reduceEq, not_false_eq_true, if_true, Int.toNat_one, h80])
  refine ⟨by omega, ⟨hA, hf⟩, ?_⟩
  exact Into.sameA
theorem con65 {Γ : Env} (h : EnvOk Tryz.prog Γ) (h80 : Γ 80 = some S80) : Con Tryz.prog 65 S65 :=
  heapE_con h (fn := Tryz.f65) (by kernel_rfl) rfl (by kernel_rfl) inj65 fun ⟨f, S, a, t⟩ h => body65 Γ h80 f S a t h.1 h.2
def e66 : (Key → Option Value) × (Int) × (Bytes) × (Bytes) → List AV × Heap := fun (f, S, a, t) => ([.ref 0 0 0, .sl [.str a] 1, .str t], [.row [.mp 1, .int .i64 S] 2 0, .raw (.map none f)])
def p66 : (Key → Option Value) × (Int) × (Bytes) × (Bytes) → Prop := fun (f, S, a, t) => okS S (fsOf f) ∧ mapF (fsOf f) = f
def r66 : (Key → Option Value) × (Int) × (Bytes) × (Bytes) → AV := fun (f, S, a, t) => .str (readC (fsOf f) a (prgT (dataF (fsOf f) a)))
def g66 : (Key → Option Value) × (Int) × (Bytes) × (Bytes) → Heap := fun (f, S, a, t) => [.row [.mp 1, .int .i64 S] 2 0, .raw (.map none f)]
theorem inj66 : ∀ a b, e66 a = e66 b → a = b := by
  rintro ⟨f, S, a, t⟩ ⟨f', S', a', t'⟩ h
  simp only [e66, mi_iff, ms_iff, mb_iff, my_iff, UInt8.toNat_inj, AObj.raw.injEq, Raw.map.injEq, Prod.mk.injEq, List.cons.injEq, AObj.row.injEq, AV.int.injEq, AV.str.injEq, AV.bool.injEq, AV.sl.injEq, AV.agg.injEq, AV.ip.injEq, AV.fn.injEq, AV.ifc.injEq, AV.mpr.injEq, AV.msl.injEq, AV.ref.injEq, Int.natCast_inj, and_true, true_and] at h
  simp_all only
noncomputable def S66 : FSpec := heapE true e66 p66 r66 g66
theorem ps66 (f : (Key → Option Value)) (S : (Int)) (a : (Bytes)) (t : (Bytes)) : pselK e66 p66 ([.ref 0 0 0, .sl [.str a] 1, .str t], [.row [.mp 1, .int .i64 S] 2 0, .raw (.map none f)]) = (okS S (fsOf f) ∧ mapF (fsOf f) = f) := pselK_at inj66 p66 (f, S, a, t)
theorem rs66 (f : (Key → Option Value)) (S : (Int)) (a : (Bytes)) (t : (Bytes)) : rselK e66 r66 .any ([.ref 0 0 0, .sl [.str a] 1, .str t], [.row [.mp 1, .int .i64 S] 2 0, .raw (.map none f)]) = (.str (readC (fsOf f) a (prgT (dataF (fsOf f) a)))) := rselK_at inj66 r66 .any (f, S, a, t)
theorem hs66 (f : (Key → Option Value)) (S : (Int)) (a : (Bytes)) (t : (Bytes)) : rselK e66 g66 [] ([.ref 0 0 0, .sl [.str a] 1, .str t], [.row [.mp 1, .int .i64 S] 2 0, .raw (.map none f)]) = ([.row [.mp 1, .int .i64 S] 2 0, .raw (.map none f)]) := rselK_at inj66 g66 [] (f, S, a, t)
attribute [push_cast] S66 ps66 rs66 hs66
theorem body66 (Γ : Env) (h80 : Γ 80 = some S80) (f : Key → Option Value) (S : Int) (a t : Bytes) (hA : okS S (fsOf f)) (hf : mapF (fsOf f) = f) : BodyOk Tryz.prog Γ Tryz.f66 [.ref 0 0 0, .sl [.str a] 1, .str t] [.row [.mp 1, .int .i64 S] 2 0, .raw (.map none f)] (.str (readC (fsOf f) a (prgT (dataF (fsOf f) a)))) [.row [.mp 1, .int .i64 S] 2 0, .raw (.map none f)] := by
  (intro X hP hΓ hL hfin; refine ⟨_, rfl, ?_⟩; rw [show Tryz.f66.ntmps = 12 from rfl]; rw [show Tryz.f66.results.toList = [.tmp 6] from rfl] at hfin; apply holds_of_ex X 400; simp (maxSteps := 1000000) only [push_cast, reduceCtorEq, Nat.reduceAdd, Nat.reduceMul, Nat.reduceSub, Nat.reduceBEq, Nat.reduceGT, Nat.reduceLT, Int.toNat_zero, Nat.reduceLeDiff, Int.reduceEq, Int.reduceLT, Int.reduceLE, hP, hΓ, hL, hfin, String.reduceEq, not_false_eq_true, if_true, Int.toNat_one, h80])
  refine ⟨by omega, ⟨hA, hf⟩, ?_⟩
  exact Into.sameA
theorem con66 {Γ : Env} (h : EnvOk Tryz.prog Γ) (h80 : Γ 80 = some S80) : Con Tryz.prog 66 S66 :=
  heapE_con h (fn := Tryz.f66) (by kernel_rfl) rfl (by kernel_rfl) inj66 fun ⟨f, S, a, t⟩ h => body66 Γ h80 f S a t h.1 h.2
end
end Go.Proofs.YtenopfmafecffaaGreatDoor.modelDone
