/- Of the model of a workstation: the program's commands, as a map of functions. No conditions. Of the model of a workstation: the program's Do. Conditions stand in each. -/
import Derived.Test.YtenopfmafecffaaGreatDoorMpP
section
namespace Go.Proofs.YtenopfmafecffaaGreatDoor.modelDone
open Go Go.Eng Go.Proofs Go.Mdl Go.RowKit
set_option linter.unusedVariables false
set_option linter.unusedSimpArgs false
set_option maxRecDepth 100000
set_option maxHeartbeats 4000000
noncomputable section
def fnV (f : FuncId) : Value := .func (.func f) #[] #[]
def cmdsF : Key → Option Value := updK (updK (updK (updK (updK (updK (updK (updK (updK (updK noK (.s [112, 117, 116]) (fnV 57)) (.s [97, 100, 100]) (fnV 58)) (.s [99, 111, 112, 121]) (fnV 59)) (.s [114, 101, 110, 97, 109, 101]) (fnV 60)) (.s [100, 101, 108, 101, 116, 101]) (fnV 61)) (.s [100, 105, 114]) (fnV 62)) (.s [102, 114, 101, 101]) (fnV 63)) (.s [115, 104, 111, 119]) (fnV 64)) (.s [115, 105, 122, 101]) (fnV 65)) (.s [114, 117, 110]) (fnV 66)
theorem cm_put : cmdsF (.s [112, 117, 116]) = some (fnV 57) := by simp [cmdsF, updK]
theorem cm_add : cmdsF (.s [97, 100, 100]) = some (fnV 58) := by simp [cmdsF, updK]
theorem cm_copy : cmdsF (.s [99, 111, 112, 121]) = some (fnV 59) := by simp [cmdsF, updK]
theorem cm_rename : cmdsF (.s [114, 101, 110, 97, 109, 101]) = some (fnV 60) := by simp [cmdsF, updK]
theorem cm_delete : cmdsF (.s [100, 101, 108, 101, 116, 101]) = some (fnV 61) := by simp [cmdsF, updK]
theorem cm_dir : cmdsF (.s [100, 105, 114]) = some (fnV 62) := by simp [cmdsF, updK]
theorem cm_free : cmdsF (.s [102, 114, 101, 101]) = some (fnV 63) := by simp [cmdsF, updK]
theorem cm_show : cmdsF (.s [115, 104, 111, 119]) = some (fnV 64) := by simp [cmdsF, updK]
theorem cm_size : cmdsF (.s [115, 105, 122, 101]) = some (fnV 65) := by simp [cmdsF, updK]
theorem cm_run : cmdsF (.s [114, 117, 110]) = some (fnV 66) := by simp [cmdsF, updK]
theorem cm_nil : cmdsF (.s []) = none := by simp [cmdsF, updK, noK]
def e30 : Unit → List AV := fun _ => []
def p30 : Unit → Prop := fun _ => True
def r30 : Unit → AV := fun _ => .mp 0
def g30 : Unit → Heap := fun _ => [.raw (.map none cmdsF)]
theorem inj30 : ∀ a b, e30 a = e30 b → a = b := fun _ _ _ => rfl
noncomputable def S30 : FSpec := funS e30 p30 r30 g30 false
theorem ps30  : psel e30 p30 [] = (True) := psel_at inj30 p30 ()
theorem rs30  : rsel e30 r30 .any [] = (.mp 0) := rsel_at inj30 r30 .any ()
theorem hs30  : rsel e30 g30 [] [] = ([.raw (.map none cmdsF)]) := rsel_at inj30 g30 [] ()
attribute [push_cast] S30 ps30 rs30 hs30
theorem body30 (Γ : Env) : BodyOk Tryz.prog Γ Tryz.f30 [] [] (.mp 0) [.raw (.map none cmdsF)] := by
  rw [cmdsF]
  (intro X hP hΓ hL hfin; refine ⟨_, rfl, ?_⟩; rw [show Tryz.f30.ntmps = 3 from rfl]; rw [show Tryz.f30.results.toList = [.tmp 0] from rfl] at hfin; apply holds_of_ex X 400; simp (maxSteps := 1000000) only [push_cast, reduceCtorEq, Nat.reduceAdd, Nat.reduceMul, Nat.reduceSub, Nat.reduceBEq, Nat.reduceGT, Nat.reduceLT, Int.toNat_zero, Nat.reduceLeDiff, Int.reduceEq, Int.reduceLT, Int.reduceLE, hP, hΓ, hL, hfin, String.reduceEq, not_false_eq_true, if_true, Int.toNat_one, fnV])
  exact Into.sameA
theorem con30 {Γ : Env} (h : EnvOk Tryz.prog Γ)  : Con Tryz.prog 30 S30 :=
  funS_con h (fn := Tryz.f30) (by kernel_rfl) rfl (by kernel_rfl) inj30 (by first | (intro h; cases h; done) | exact fun _ _ => rfl) fun _ _ => body30 Γ
end
end Go.Proofs.YtenopfmafecffaaGreatDoor.modelDone
end
section
namespace Go.Proofs.YtenopfmafecffaaGreatDoor.modelDone
open Go Go.Eng Go.Proofs Go.Mdl Go.RowKit
open Go.Lines (pres)
open Go.Proofs.YtenopfmafecffaaGreatDoor.lineDone (parseS parseP)
set_option linter.unusedVariables false
set_option linter.unusedSimpArgs false
set_option maxRecDepth 100000
set_option maxHeartbeats 4000000
noncomputable section
def e12 : ((Key → Option Value) × (Int) × (Bytes)) ⊕ ((Bytes)) → List AV × Heap
  | .inl (f, S, l) => ([.ref 0 0 0, .str l], [.row [.mp 1, .int .i64 S] 2 0, .raw (.map none f)])
  | .inr l => ([.lit (.pointer none), .str l], [])
def p12 : ((Key → Option Value) × (Int) × (Bytes)) ⊕ ((Bytes)) → Prop
  | .inl (f, S, l) => okS S (fsOf f) ∧ mapF (fsOf f) = f
  | .inr l => True
def r12 : ((Key → Option Value) × (Int) × (Bytes)) ⊕ ((Bytes)) → AV
  | .inl (f, S, l) => .str (doF S (fsOf f) l).1
  | .inr l => .str []
def g12 : ((Key → Option Value) × (Int) × (Bytes)) ⊕ ((Bytes)) → Heap
  | .inl (f, S, l) => [.row [.mp 1, .int .i64 S] 2 0, .raw (.map none (mapF (doF S (fsOf f) l).2))]
  | .inr l => []
theorem inj12 : ∀ a b, e12 a = e12 b → a = b := by
  rintro (⟨f, S, l⟩ | l) (⟨f', S', l'⟩ | l') h <;> simp only [e12, mi_iff, ms_iff, mb_iff, my_iff, UInt8.toNat_inj, AObj.raw.injEq, Raw.map.injEq, Prod.mk.injEq, List.cons.injEq, AObj.row.injEq, AV.int.injEq, AV.str.injEq, AV.bool.injEq, AV.sl.injEq, AV.agg.injEq, AV.ip.injEq, AV.fn.injEq, AV.ifc.injEq, AV.mpr.injEq, AV.msl.injEq, AV.ref.injEq, Int.natCast_inj, and_true, true_and, reduceCtorEq, false_and, and_false, List.cons_ne_nil] at h <;> simp_all only
noncomputable def S12 : FSpec := heapE true e12 p12 r12 g12
theorem ps12 (f : (Key → Option Value)) (S : (Int)) (l : (Bytes)) : pselK e12 p12 ([.ref 0 0 0, .str l], [.row [.mp 1, .int .i64 S] 2 0, .raw (.map none f)]) = (okS S (fsOf f) ∧ mapF (fsOf f) = f) := pselK_at inj12 p12 (.inl (f, S, l))
theorem rs12 (f : (Key → Option Value)) (S : (Int)) (l : (Bytes)) : rselK e12 r12 .any ([.ref 0 0 0, .str l], [.row [.mp 1, .int .i64 S] 2 0, .raw (.map none f)]) = (.str (doF S (fsOf f) l).1) := rselK_at inj12 r12 .any (.inl (f, S, l))
theorem hs12 (f : (Key → Option Value)) (S : (Int)) (l : (Bytes)) : rselK e12 g12 [] ([.ref 0 0 0, .str l], [.row [.mp 1, .int .i64 S] 2 0, .raw (.map none f)]) = ([.row [.mp 1, .int .i64 S] 2 0, .raw (.map none (mapF (doF S (fsOf f) l).2))]) := rselK_at inj12 g12 [] (.inl (f, S, l))
theorem ps12n (l : (Bytes)) : pselK e12 p12 ([.lit (.pointer none), .str l], []) = (True) := pselK_at inj12 p12 (.inr l)
theorem rs12n (l : (Bytes)) : rselK e12 r12 .any ([.lit (.pointer none), .str l], []) = (.str []) := rselK_at inj12 r12 .any (.inr l)
theorem hs12n (l : (Bytes)) : rselK e12 g12 [] ([.lit (.pointer none), .str l], []) = ([]) := rselK_at inj12 g12 [] (.inr l)
attribute [push_cast] S12 ps12 rs12 hs12 ps12n rs12n hs12n
theorem prgT_eq (d : Bytes) : prgT d = if progR d = true then [] else [63, 32, 49, 57, 57, 10] := by
  unfold prgT
  rw [show wrongT 199 = [63, 32, 49, 57, 57, 10] by kernel_rfl]
theorem body12n (Γ : Env) (l : Bytes) : BodyOk Tryz.prog Γ Tryz.f12 [.lit (.pointer none), .str l] [] (.str []) [] := by
  (intro X hP hΓ hL hfin; refine ⟨_, rfl, ?_⟩; rw [show Tryz.f12.ntmps = 36 from rfl]; rw [show Tryz.f12.results.toList = [.tmp 4] from rfl] at hfin; apply holds_of_ex X 400; simp (maxSteps := 1000000) only [push_cast, reduceCtorEq, Nat.reduceAdd, Nat.reduceMul, Nat.reduceSub, Nat.reduceBEq, Nat.reduceGT, Nat.reduceLT, Int.toNat_zero, Nat.reduceLeDiff, Int.reduceEq, Int.reduceLT, Int.reduceLE, hP, hΓ, hL, hfin, String.reduceEq, not_false_eq_true, if_true, Int.toNat_one])
  exact Into.sameA
theorem body12 (Γ : Env) (h28 : Γ 28 = some parseS) (h29 : Γ 29 = some S29) (h30 : Γ 30 = some S30) (h57 : Γ 57 = some S57) (h58 : Γ 58 = some S58) (h59 : Γ 59 = some S59) (h60 : Γ 60 = some S60) (h61 : Γ 61 = some S61) (h62 : Γ 62 = some S62) (h63 : Γ 63 = some S63) (h64 : Γ 64 = some S64) (h65 : Γ 65 = some S65) (h66 : Γ 66 = some S66) (A : Fs) (S : Int) (l : Bytes) (hA : okS S A) : BodyOk Tryz.prog Γ Tryz.f12 [.ref 0 0 0, .str l] [.row [.mp 1, .int .i64 S] 2 0, .raw (.map none (mapF A))] (.str (doF S A l).1) [.row [.mp 1, .int .i64 S] 2 0, .raw (.map none (mapF (doF S A l).2))] := by
  have hPr := pres_pr l
  have hfs := fsOf_mapF hA.ok.so
  unfold doF
  (intro X hP hΓ hL hfin; refine ⟨_, rfl, ?_⟩; rw [show Tryz.f12.ntmps = 36 from rfl]; rw [show Tryz.f12.results.toList = [.tmp 4] from rfl] at hfin; apply holds_of_ex X 12; simp (maxSteps := 1000000) only [push_cast, reduceCtorEq, Nat.reduceAdd, Nat.reduceMul, Nat.reduceSub, Nat.reduceBEq, Nat.reduceGT, Nat.reduceLT, Int.toNat_zero, Nat.reduceLeDiff, Int.reduceEq, Int.reduceLT, Int.reduceLE, hP, hΓ, hL, hfin, String.reduceEq, not_false_eq_true, if_true, Int.toNat_one, h28])
  (refine Holds.frz 2 (by rw [hL]; simp) (by simp only [frzOk', frzOk, isMap, or_true, true_or, push_cast, reduceCtorEq, Nat.reduceAdd, Nat.reduceMul, Nat.reduceSub, Nat.reduceBEq, Nat.reduceGT, Nat.reduceLT, Int.toNat_zero, Nat.reduceLeDiff, Int.reduceEq, Int.reduceLT, Int.reduceLE]) ?_; simp only [push_cast, reduceCtorEq, Nat.reduceAdd, Nat.reduceMul, Nat.reduceSub, Nat.reduceBEq, Nat.reduceGT, Nat.reduceLT, Int.toNat_zero, Nat.reduceLeDiff, Int.reduceEq, Int.reduceLT, Int.reduceLE])
  generalize (pres l).1 = c at *
  generalize (pres l).2.1 = w at *
  generalize (pres l).2.2.1 = t at *
  generalize (pres l).2.2.2 = e at *
  cases hPr with
  | bad e he =>
    have h1 : ¬ (e : Int) = 0 := by omega
    have h2 : ¬ e = 0 := by omega
    ((first | with_reducible refine holds_of_ex X 400 _ _ _ ?_ | skip); simp (maxSteps := 1000000) only [push_cast, reduceCtorEq, Nat.reduceAdd, Nat.reduceMul, Nat.reduceSub, Nat.reduceBEq, Nat.reduceGT, Nat.reduceLT, Int.toNat_zero, Nat.reduceLeDiff, Int.reduceEq, Int.reduceLT, Int.reduceLE, hP, hΓ, hL, hfin, String.reduceEq, not_false_eq_true, if_true, Int.toNat_one, h1, h2, h29])
    refine ⟨by omega, ?_⟩
    exact Into.keep2A
  | nil =>
    ((first | with_reducible refine holds_of_ex X 400 _ _ _ ?_ | skip); simp (maxSteps := 1000000) only [push_cast, reduceCtorEq, Nat.reduceAdd, Nat.reduceMul, Nat.reduceSub, Nat.reduceBEq, Nat.reduceGT, Nat.reduceLT, Int.toNat_zero, Nat.reduceLeDiff, Int.reduceEq, Int.reduceLT, Int.reduceLE, hP, hΓ, hL, hfin, String.reduceEq, not_false_eq_true, if_true, Int.toNat_one, h30, cm_nil])
    rw [doC, if_pos rfl]
    exact Into.keep2A
  | cm c w t hc hw ht =>
    have hok := hA.ok
    have one : ∀ k, w.length = k → k = 1 → ∃ a, w = [a] := fun k h1 h2 => List.length_eq_one_iff.1 (h1.trans h2)
    have two : ∀ k, w.length = k → k = 2 → ∃ a b, w = [a, b] := fun k h1 h2 => by
      match w, h1.trans h2 with
      | [a, b], _ => exact ⟨a, b, rfl⟩
    generalize hk : w.length = k at hc
    cases hc with
    | free =>
      obtain rfl := List.eq_nil_of_length_eq_zero hk
      ((first | with_reducible refine holds_of_ex X 400 _ _ _ ?_ | skip); simp (maxSteps := 1000000) only [push_cast, reduceCtorEq, Nat.reduceAdd, Nat.reduceMul, Nat.reduceSub, Nat.reduceBEq, Nat.reduceGT, Nat.reduceLT, Int.toNat_zero, Nat.reduceLeDiff, Int.reduceEq, Int.reduceLT, Int.reduceLE, hP, hΓ, hL, hfin, String.reduceEq, not_false_eq_true, if_true, Int.toNat_one, h30, cm_free, Option.getD_some, fnV, h63, hfs])
      refine ⟨hA, ?_⟩
      rw [do_free]
      exact Into.keep2A
    | dir =>
      obtain rfl := List.eq_nil_of_length_eq_zero hk
      ((first | with_reducible refine holds_of_ex X 400 _ _ _ ?_ | skip); simp (maxSteps := 1000000) only [push_cast, reduceCtorEq, Nat.reduceAdd, Nat.reduceMul, Nat.reduceSub, Nat.reduceBEq, Nat.reduceGT, Nat.reduceLT, Int.toNat_zero, Nat.reduceLeDiff, Int.reduceEq, Int.reduceLT, Int.reduceLE, hP, hΓ, hL, hfin, String.reduceEq, not_false_eq_true, if_true, Int.toNat_one, h30, cm_dir, Option.getD_some, fnV, h62, hfs])
      refine ⟨hA, ?_⟩
      rw [do_dir]
      exact Into.keep2A
    | size =>
      obtain ⟨a, rfl⟩ := one _ hk rfl
      have ha := hw a (by simp)
      ((first | with_reducible refine holds_of_ex X 400 _ _ _ ?_ | skip); simp (maxSteps := 1000000) only [push_cast, reduceCtorEq, Nat.reduceAdd, Nat.reduceMul, Nat.reduceSub, Nat.reduceBEq, Nat.reduceGT, Nat.reduceLT, Int.toNat_zero, Nat.reduceLeDiff, Int.reduceEq, Int.reduceLT, Int.reduceLE, hP, hΓ, hL, hfin, String.reduceEq, not_false_eq_true, if_true, Int.toNat_one, h30, cm_size, Option.getD_some, fnV, h65, hfs])
      refine ⟨hA, ?_⟩
      cases hh : has A a
      case true =>
        rw [do_size _ _ _ _ hh, readC, if_neg (by simp [hh])]
        exact Into.keep2A
      case false =>
        rw [dn_size _ _ _ _ hh, readC, if_pos hh]
        exact Into.keep2A
    | «show» =>
      obtain ⟨a, rfl⟩ := one _ hk rfl
      have ha := hw a (by simp)
      ((first | with_reducible refine holds_of_ex X 400 _ _ _ ?_ | skip); simp (maxSteps := 1000000) only [push_cast, reduceCtorEq, Nat.reduceAdd, Nat.reduceMul, Nat.reduceSub, Nat.reduceBEq, Nat.reduceGT, Nat.reduceLT, Int.toNat_zero, Nat.reduceLeDiff, Int.reduceEq, Int.reduceLT, Int.reduceLE, hP, hΓ, hL, hfin, String.reduceEq, not_false_eq_true, if_true, Int.toNat_one, h30, cm_show, Option.getD_some, fnV, h64, hfs])
      refine ⟨hA, ?_⟩
      cases hh : has A a
      case true =>
        rw [do_show _ _ _ _ hh, readC, if_neg (by simp [hh])]
        exact Into.keep2A
      case false =>
        rw [dn_show _ _ _ _ hh, readC, if_pos hh]
        exact Into.keep2A
    | run =>
      obtain ⟨a, rfl⟩ := one _ hk rfl
      have ha := hw a (by simp)
      ((first | with_reducible refine holds_of_ex X 400 _ _ _ ?_ | skip); simp (maxSteps := 1000000) only [push_cast, reduceCtorEq, Nat.reduceAdd, Nat.reduceMul, Nat.reduceSub, Nat.reduceBEq, Nat.reduceGT, Nat.reduceLT, Int.toNat_zero, Nat.reduceLeDiff, Int.reduceEq, Int.reduceLT, Int.reduceLE, hP, hΓ, hL, hfin, String.reduceEq, not_false_eq_true, if_true, Int.toNat_one, h30, cm_run, Option.getD_some, fnV, h66, hfs])
      refine ⟨hA, ?_⟩
      cases hh : has A a
      case true =>
        rw [do_run _ _ _ _ hh, readC, if_neg (by simp [hh]), prgT_eq]
        exact Into.keep2A
      case false =>
        rw [dn_run _ _ _ _ hh, readC, if_pos hh]
        exact Into.keep2A
    | delete =>
      obtain ⟨a, rfl⟩ := one _ hk rfl
      have ha := hw a (by simp)
      ((first | with_reducible refine holds_of_ex X 400 _ _ _ ?_ | skip); simp (maxSteps := 1000000) only [push_cast, reduceCtorEq, Nat.reduceAdd, Nat.reduceMul, Nat.reduceSub, Nat.reduceBEq, Nat.reduceGT, Nat.reduceLT, Int.toNat_zero, Nat.reduceLeDiff, Int.reduceEq, Int.reduceLT, Int.reduceLE, hP, hΓ, hL, hfin, String.reduceEq, not_false_eq_true, if_true, Int.toNat_one, h30, cm_delete, Option.getD_some, fnV, h61, hfs])
      refine ⟨hA, ?_⟩
      cases hh : has A a
      case true =>
        rw [do_delete _ _ _ _ hh, delF, if_neg (by simp [hh]), delC]
        exact Into.keep2A
      case false =>
        rw [dn_delete _ _ _ _ hh, delF, if_pos hh]
        exact Into.keep2A
    | rename =>
      obtain ⟨a, b, rfl⟩ := two _ hk rfl
      have ha := hw a (by simp)
      have hb := hw b (by simp)
      ((first | with_reducible refine holds_of_ex X 400 _ _ _ ?_ | skip); simp (maxSteps := 1000000) only [push_cast, reduceCtorEq, Nat.reduceAdd, Nat.reduceMul, Nat.reduceSub, Nat.reduceBEq, Nat.reduceGT, Nat.reduceLT, Int.toNat_zero, Nat.reduceLeDiff, Int.reduceEq, Int.reduceLT, Int.reduceLE, hP, hΓ, hL, hfin, String.reduceEq, not_false_eq_true, if_true, Int.toNat_one, h30, cm_rename, Option.getD_some, fnV, h60, hfs])
      refine ⟨⟨hA, by omega⟩, ?_⟩
      rw [do_rename]
      exact Into.keep2A
    | copy =>
      obtain ⟨a, b, rfl⟩ := two _ hk rfl
      have ha := hw a (by simp)
      have hb := hw b (by simp)
      ((first | with_reducible refine holds_of_ex X 400 _ _ _ ?_ | skip); simp (maxSteps := 1000000) only [push_cast, reduceCtorEq, Nat.reduceAdd, Nat.reduceMul, Nat.reduceSub, Nat.reduceBEq, Nat.reduceGT, Nat.reduceLT, Int.toNat_zero, Nat.reduceLeDiff, Int.reduceEq, Int.reduceLT, Int.reduceLE, hP, hΓ, hL, hfin, String.reduceEq, not_false_eq_true, if_true, Int.toNat_one, h30, cm_copy, Option.getD_some, fnV, h59, hfs])
      refine ⟨⟨hA, by omega⟩, ?_⟩
      rw [do_copy]
      exact Into.keep2A
    | put =>
      obtain ⟨a, rfl⟩ := one _ hk rfl
      have ha := hw a (by simp)
      ((first | with_reducible refine holds_of_ex X 400 _ _ _ ?_ | skip); simp (maxSteps := 1000000) only [push_cast, reduceCtorEq, Nat.reduceAdd, Nat.reduceMul, Nat.reduceSub, Nat.reduceBEq, Nat.reduceGT, Nat.reduceLT, Int.toNat_zero, Nat.reduceLeDiff, Int.reduceEq, Int.reduceLT, Int.reduceLE, hP, hΓ, hL, hfin, String.reduceEq, not_false_eq_true, if_true, Int.toNat_one, h30, cm_put, Option.getD_some, fnV, h57, hfs])
      refine ⟨⟨hA, by omega, by omega⟩, ?_⟩
      rw [do_put]
      exact Into.keep2A
    | add =>
      obtain ⟨a, rfl⟩ := one _ hk rfl
      have ha := hw a (by simp)
      ((first | with_reducible refine holds_of_ex X 400 _ _ _ ?_ | skip); simp (maxSteps := 1000000) only [push_cast, reduceCtorEq, Nat.reduceAdd, Nat.reduceMul, Nat.reduceSub, Nat.reduceBEq, Nat.reduceGT, Nat.reduceLT, Int.toNat_zero, Nat.reduceLeDiff, Int.reduceEq, Int.reduceLT, Int.reduceLE, hP, hΓ, hL, hfin, String.reduceEq, not_false_eq_true, if_true, Int.toNat_one, h30, cm_add, Option.getD_some, fnV, h58, hfs])
      refine ⟨⟨hA, by omega, by omega⟩, ?_⟩
      rw [do_add]
      exact Into.keep2A
theorem con12 {Γ : Env} (h : EnvOk Tryz.prog Γ) (h28 : Γ 28 = some parseS) (h29 : Γ 29 = some S29) (h30 : Γ 30 = some S30) (h57 : Γ 57 = some S57) (h58 : Γ 58 = some S58) (h59 : Γ 59 = some S59) (h60 : Γ 60 = some S60) (h61 : Γ 61 = some S61) (h62 : Γ 62 = some S62) (h63 : Γ 63 = some S63) (h64 : Γ 64 = some S64) (h65 : Γ 65 = some S65) (h66 : Γ 66 = some S66) : Con Tryz.prog 12 S12 :=
  heapE_con h (fn := Tryz.f12) (by kernel_rfl) rfl (by kernel_rfl) inj12 fun a h => by
    rcases a with ⟨f, S, l⟩ | l
    · obtain ⟨h1, h2⟩ := h; have := body12 Γ h28 h29 h30 h57 h58 h59 h60 h61 h62 h63 h64 h65 h66 (fsOf f) S l h1; rw [h2] at this; exact this
    · exact body12n Γ l
end
end Go.Proofs.YtenopfmafecffaaGreatDoor.modelDone
end
