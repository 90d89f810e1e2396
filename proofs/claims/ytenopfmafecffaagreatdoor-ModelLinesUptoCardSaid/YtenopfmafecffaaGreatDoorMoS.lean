/- Of the model of a workstation: what the document's files answer. Conditions stand in each. -/
import Derived.Test.YtenopfmafecffaaGreatDoorMoR
namespace Go.Proofs.YtenopfmafecffaaGreatDoor.modelDone
open Go Go.Eng Go.Proofs Go.Mdl Go.RowKit
set_option linter.unusedVariables false
set_option linter.unusedSimpArgs false
set_option maxRecDepth 100000
set_option maxHeartbeats 4000000
/-- what is told, and the files behind -/
def writeF (S : Int) (A : Fs) (n d : Bytes) : Bytes × Fs :=
  if nameB n = false then (wrongT 171, A) else if fitsF S A n d.length = 0 then ([], ins A n d) else (wrongT (fitsF S A n d.length), A)
def dataF (A : Fs) (n : Bytes) : Bytes := (A.getD (pl A n) default).2
def copyF (S : Int) (A : Fs) (a b : Bytes) : Bytes × Fs := if has A a = false then (wrongT 172, A) else writeF S A b (dataF A a)
def renameF (S : Int) (A : Fs) (a b : Bytes) : Bytes × Fs :=
  if nameB b = false then (wrongT 171, A) else if has A a = false then (wrongT 172, A) else if has A b = true then (wrongT 175, A)
  else if freeF S A < leaves A.length then (wrongT 174, A) else ([], ins (out A (pl A a)) b (dataF A a))
theorem fits_b (S : Int) (A : Fs) (n : Bytes) (m : Int) : 0 ≤ fitsF S A n m ∧ fitsF S A n m ≤ 200 := by
  unfold fitsF; split
  · omega
  · split
    · omega
    · split <;> omega
theorem fits_0 {S : Int} {A : Fs} {n : Bytes} {m : Int} (h : fitsF S A n m = 0) : m ≤ 256000 ∧ (A.length : Int) + (if has A n then 0 else 1) ≤ 200 := by
  unfold fitsF at h
  by_cases c1 : 256000 < m
  · rw [if_pos c1] at h; omega
  · rw [if_neg c1] at h
    by_cases c2 : 200 < (A.length : Int) + (if has A n then 0 else 1)
    · rw [if_pos c2] at h; omega
    · omega
theorem name_len {n : Bytes} (h : nameB n = true) : n.length ≤ 23 := by
  unfold nameB at h
  simp only [Bool.and_eq_true, decide_eq_true_eq] at h
  omega
theorem write_ok {S : Int} {A : Fs} {n d : Bytes} (h : okF A) : okF (writeF S A n d).2 := by
  unfold writeF
  split
  · exact h
  · rename_i hn
    split
    · rename_i hf
      have := fits_0 hf
      have hl := name_len (by simpa using hn)
      refine ok_ins h (by omega) (by omega) ?_
      have := this.2
      cases hh : has A n <;> simp only [hh, if_true, if_false, Bool.false_eq_true] at this ⊢ <;> omega
    · exact h
def e35 : (Fs) × (Int) × (Bytes) × (Bytes) → List AV × Heap := fun (A, S, n, d) => ([.ref 0 0 0, .str n, .str d], [.row [.sl (A.flatMap fc) A.length, .int .i64 S] 2 0])
def p35 : (Fs) × (Int) × (Bytes) × (Bytes) → Prop := fun (A, S, n, d) => okF A ∧ 0 ≤ S ∧ S ≤ 1000000000 ∧ n.length ≤ 4194304 ∧ d.length ≤ 1000000000
def r35 : (Fs) × (Int) × (Bytes) × (Bytes) → AV := fun (A, S, n, d) => .str (writeF S A n d).1
def g35 : (Fs) × (Int) × (Bytes) × (Bytes) → Heap := fun (A, S, n, d) => [.row [.sl ((writeF S A n d).2.flatMap fc) (writeF S A n d).2.length, .int .i64 S] 2 0]
theorem inj35 : ∀ a b, e35 a = e35 b → a = b := by
  rintro ⟨A, S, n, d⟩ ⟨A', S', n', d'⟩ h
  simp only [e35, mi_iff, ms_iff, mb_iff, my_iff, UInt8.toNat_inj, fc_iff, Prod.mk.injEq, List.cons.injEq, AObj.row.injEq, AV.int.injEq, AV.str.injEq, AV.bool.injEq, AV.sl.injEq, AV.agg.injEq, AV.ip.injEq, AV.fn.injEq, AV.ifc.injEq, AV.mpr.injEq, AV.msl.injEq, AV.ref.injEq, Int.natCast_inj, and_true, true_and] at h
  simp_all only
noncomputable def S35 : FSpec := heapE false e35 p35 r35 g35
theorem ps35 (A : (Fs)) (S : (Int)) (n : (Bytes)) (d : (Bytes)) : pselK e35 p35 ([.ref 0 0 0, .str n, .str d], [.row [.sl (A.flatMap fc) A.length, .int .i64 S] 2 0]) = (okF A ∧ 0 ≤ S ∧ S ≤ 1000000000 ∧ n.length ≤ 4194304 ∧ d.length ≤ 1000000000) := pselK_at inj35 p35 (A, S, n, d)
theorem rs35 (A : (Fs)) (S : (Int)) (n : (Bytes)) (d : (Bytes)) : rselK e35 r35 .any ([.ref 0 0 0, .str n, .str d], [.row [.sl (A.flatMap fc) A.length, .int .i64 S] 2 0]) = (.str (writeF S A n d).1) := rselK_at inj35 r35 .any (A, S, n, d)
theorem hs35 (A : (Fs)) (S : (Int)) (n : (Bytes)) (d : (Bytes)) : rselK e35 g35 [] ([.ref 0 0 0, .str n, .str d], [.row [.sl (A.flatMap fc) A.length, .int .i64 S] 2 0]) = ([.row [.sl ((writeF S A n d).2.flatMap fc) (writeF S A n d).2.length, .int .i64 S] 2 0]) := rselK_at inj35 g35 [] (A, S, n, d)
attribute [push_cast] S35 ps35 rs35 hs35
theorem body35 (Γ : Env) (h22 : Γ 22 = some S22) (h26 : Γ 26 = some S26) (h27 : Γ 27 = some S27) (h32 : Γ 32 = some S32) (A : Fs) (S : Int) (n d : Bytes) (hA : okF A) (hS : 0 ≤ S ∧ S ≤ 1000000000) (hn : n.length ≤ 4194304) (hd : d.length ≤ 1000000000) : BodyOk Tryz.prog Γ Tryz.f35 [.ref 0 0 0, .str n, .str d] [.row [.sl (A.flatMap fc) A.length, .int .i64 S] 2 0] (.str (writeF S A n d).1) [.row [.sl ((writeF S A n d).2.flatMap fc) (writeF S A n d).2.length, .int .i64 S] 2 0] := by
  have hf := fits_b S A n d.length
  (intro X hP hΓ hL hfin; refine ⟨_, rfl, ?_⟩; rw [show Tryz.f35.ntmps = 27 from rfl]; rw [show Tryz.f35.results.toList = [.tmp 6] from rfl] at hfin; apply holds_of_ex X 400; simp (maxSteps := 1000000) only [push_cast, reduceCtorEq, Nat.reduceAdd, Nat.reduceMul, Nat.reduceSub, Nat.reduceBEq, Nat.reduceGT, Nat.reduceLT, Int.toNat_zero, Nat.reduceLeDiff, Int.reduceEq, Int.reduceLT, Int.reduceLE, hP, hΓ, hL, hfin, String.reduceEq, not_false_eq_true, if_true, fz0, fz1, bytesLess_eq, h22])
  refine ⟨hn, ?_⟩
  cases hb : nameB n with
  | false =>
    ((first | with_reducible refine holds_of_ex X 400 _ _ _ ?_ | skip); simp (maxSteps := 1000000) only [push_cast, reduceCtorEq, Nat.reduceAdd, Nat.reduceMul, Nat.reduceSub, Nat.reduceBEq, Nat.reduceGT, Nat.reduceLT, Int.toNat_zero, Nat.reduceLeDiff, Int.reduceEq, Int.reduceLT, Int.reduceLE, hP, hΓ, hL, hfin, String.reduceEq, not_false_eq_true, if_true, fz0, fz1, bytesLess_eq, h32])
    rw [writeF, if_pos hb]
    exact Into.sameA
  | true =>
    have hb' : ¬ nameB n = false := by simp [hb]
    ((first | with_reducible refine holds_of_ex X 400 _ _ _ ?_ | skip); simp (maxSteps := 1000000) only [push_cast, reduceCtorEq, Nat.reduceAdd, Nat.reduceMul, Nat.reduceSub, Nat.reduceBEq, Nat.reduceGT, Nat.reduceLT, Int.toNat_zero, Nat.reduceLeDiff, Int.reduceEq, Int.reduceLT, Int.reduceLE, hP, hΓ, hL, hfin, String.reduceEq, not_false_eq_true, if_true, fz0, fz1, bytesLess_eq, h26])
    refine ⟨⟨hA, hS.1, hS.2, by omega⟩, ?_⟩
    by_cases h0 : fitsF S A n d.length = 0
    · ((first | with_reducible refine holds_of_ex X 400 _ _ _ ?_ | skip); simp (maxSteps := 1000000) only [push_cast, reduceCtorEq, Nat.reduceAdd, Nat.reduceMul, Nat.reduceSub, Nat.reduceBEq, Nat.reduceGT, Nat.reduceLT, Int.toNat_zero, Nat.reduceLeDiff, Int.reduceEq, Int.reduceLT, Int.reduceLE, hP, hΓ, hL, hfin, String.reduceEq, not_false_eq_true, if_true, fz0, fz1, bytesLess_eq, h0, h27])
      refine ⟨hA, ?_⟩
      rw [writeF, if_neg hb', if_pos h0]
      exact Into.sameA
    · generalize hx : fitsF S A n d.length = x at *
      ((first | with_reducible refine holds_of_ex X 400 _ _ _ ?_ | skip); simp (maxSteps := 1000000) only [push_cast, reduceCtorEq, Nat.reduceAdd, Nat.reduceMul, Nat.reduceSub, Nat.reduceBEq, Nat.reduceGT, Nat.reduceLT, Int.toNat_zero, Nat.reduceLeDiff, Int.reduceEq, Int.reduceLT, Int.reduceLE, hP, hΓ, hL, hfin, String.reduceEq, not_false_eq_true, if_true, fz0, fz1, bytesLess_eq, h0, h32])
      refine ⟨⟨by omega, by omega⟩, ?_⟩
      rw [writeF, if_neg hb', hx, if_neg h0]
      exact Into.sameA
theorem con35 {Γ : Env} (h : EnvOk Tryz.prog Γ) (h22 : Γ 22 = some S22) (h26 : Γ 26 = some S26) (h27 : Γ 27 = some S27) (h32 : Γ 32 = some S32) : Con Tryz.prog 35 S35 :=
  heapE_con h (fn := Tryz.f35) (by kernel_rfl) rfl (by kernel_rfl) inj35 fun ⟨A, S, n, d⟩ h => body35 Γ h22 h26 h27 h32 A S n d h.1 ⟨h.2.1, h.2.2.1⟩ h.2.2.2.1 h.2.2.2.2
theorem data_le {A : Fs} (h : okF A) (n : Bytes) : (dataF A n).length ≤ 256000 := by
  unfold dataF
  by_cases hl : pl A n < A.length
  · exact (h.sm _ (get_mem hl)).2
  · rw [List.getD, List.getElem?_eq_none (by omega)]; exact Nat.zero_le _
def e36 : (Fs) × (Int) × (Bytes) × (Bytes) → List AV × Heap := fun (A, S, a, b) => ([.ref 0 0 0, .str a, .str b], [.row [.sl (A.flatMap fc) A.length, .int .i64 S] 2 0])
def p36 : (Fs) × (Int) × (Bytes) × (Bytes) → Prop := fun (A, S, a, b) => okF A ∧ 0 ≤ S ∧ S ≤ 1000000000 ∧ b.length ≤ 4194304
def r36 : (Fs) × (Int) × (Bytes) × (Bytes) → AV := fun (A, S, a, b) => .str (copyF S A a b).1
def g36 : (Fs) × (Int) × (Bytes) × (Bytes) → Heap := fun (A, S, a, b) => [.row [.sl ((copyF S A a b).2.flatMap fc) (copyF S A a b).2.length, .int .i64 S] 2 0]
theorem inj36 : ∀ a b, e36 a = e36 b → a = b := by
  rintro ⟨A, S, a, b⟩ ⟨A', S', a', b'⟩ h
  simp only [e36, mi_iff, ms_iff, mb_iff, my_iff, UInt8.toNat_inj, fc_iff, Prod.mk.injEq, List.cons.injEq, AObj.row.injEq, AV.int.injEq, AV.str.injEq, AV.bool.injEq, AV.sl.injEq, AV.agg.injEq, AV.ip.injEq, AV.fn.injEq, AV.ifc.injEq, AV.mpr.injEq, AV.msl.injEq, AV.ref.injEq, Int.natCast_inj, and_true, true_and] at h
  simp_all only
noncomputable def S36 : FSpec := heapE false e36 p36 r36 g36
theorem ps36 (A : (Fs)) (S : (Int)) (a : (Bytes)) (b : (Bytes)) : pselK e36 p36 ([.ref 0 0 0, .str a, .str b], [.row [.sl (A.flatMap fc) A.length, .int .i64 S] 2 0]) = (okF A ∧ 0 ≤ S ∧ S ≤ 1000000000 ∧ b.length ≤ 4194304) := pselK_at inj36 p36 (A, S, a, b)
theorem rs36 (A : (Fs)) (S : (Int)) (a : (Bytes)) (b : (Bytes)) : rselK e36 r36 .any ([.ref 0 0 0, .str a, .str b], [.row [.sl (A.flatMap fc) A.length, .int .i64 S] 2 0]) = (.str (copyF S A a b).1) := rselK_at inj36 r36 .any (A, S, a, b)
theorem hs36 (A : (Fs)) (S : (Int)) (a : (Bytes)) (b : (Bytes)) : rselK e36 g36 [] ([.ref 0 0 0, .str a, .str b], [.row [.sl (A.flatMap fc) A.length, .int .i64 S] 2 0]) = ([.row [.sl ((copyF S A a b).2.flatMap fc) (copyF S A a b).2.length, .int .i64 S] 2 0]) := rselK_at inj36 g36 [] (A, S, a, b)
attribute [push_cast] S36 ps36 rs36 hs36
theorem body36 (Γ : Env) (h25 : Γ 25 = some S25) (h35 : Γ 35 = some S35) (h32 : Γ 32 = some S32) (A : Fs) (S : Int) (a b : Bytes) (hA : okF A) (hS : 0 ≤ S ∧ S ≤ 1000000000) (hn : b.length ≤ 4194304) : BodyOk Tryz.prog Γ Tryz.f36 [.ref 0 0 0, .str a, .str b] [.row [.sl (A.flatMap fc) A.length, .int .i64 S] 2 0] (.str (copyF S A a b).1) [.row [.sl ((copyF S A a b).2.flatMap fc) (copyF S A a b).2.length, .int .i64 S] 2 0] := by
  have hl := hA.le
  have hdl := data_le hA a
  (intro X hP hΓ hL hfin; refine ⟨_, rfl, ?_⟩; rw [show Tryz.f36.ntmps = 29 from rfl]; rw [show Tryz.f36.results.toList = [.tmp 6] from rfl] at hfin; apply holds_of_ex X 400; simp (maxSteps := 1000000) only [push_cast, reduceCtorEq, Nat.reduceAdd, Nat.reduceMul, Nat.reduceSub, Nat.reduceBEq, Nat.reduceGT, Nat.reduceLT, Int.toNat_zero, Nat.reduceLeDiff, Int.reduceEq, Int.reduceLT, Int.reduceLE, hP, hΓ, hL, hfin, String.reduceEq, not_false_eq_true, if_true, fz0, fz1, bytesLess_eq, h25])
  refine ⟨by omega, ?_⟩
  cases hh : has A a with
  | false =>
    ((first | with_reducible refine holds_of_ex X 400 _ _ _ ?_ | skip); simp (maxSteps := 1000000) only [push_cast, reduceCtorEq, Nat.reduceAdd, Nat.reduceMul, Nat.reduceSub, Nat.reduceBEq, Nat.reduceGT, Nat.reduceLT, Int.toNat_zero, Nat.reduceLeDiff, Int.reduceEq, Int.reduceLT, Int.reduceLE, hP, hΓ, hL, hfin, String.reduceEq, not_false_eq_true, if_true, fz0, fz1, bytesLess_eq, h32])
    rw [copyF, if_pos hh]
    exact Into.sameA
  | true =>
    have hp := has_lt hA.so hh
    have hp' : (pl A a : Int) < A.length := by omega
    have hp2 : 0 < A.length * 2 - pl A a * 2 := by omega
    have hp3 : 1 < A.length * 2 - pl A a * 2 := by omega
    have hp4 : 0 < A.length * 2 - pl A a * 2 - 1 := by omega
    have hg : (A.getD (pl A a) default).2 = dataF A a := rfl
    ((first | with_reducible refine holds_of_ex X 400 _ _ _ ?_ | skip); simp (maxSteps := 1000000) only [push_cast, reduceCtorEq, Nat.reduceAdd, Nat.reduceMul, Nat.reduceSub, Nat.reduceBEq, Nat.reduceGT, Nat.reduceLT, Int.toNat_zero, Nat.reduceLeDiff, Int.reduceEq, Int.reduceLT, Int.reduceLE, hP, hΓ, hL, hfin, String.reduceEq, not_false_eq_true, if_true, fz0, fz1, bytesLess_eq, h35, hp', hp2, hp3, hp4, hg])
    refine ⟨⟨hA, hS.1, hS.2, hn, by omega⟩, ?_⟩
    rw [copyF, if_neg (by simp [hh])]
    exact Into.sameA
theorem con36 {Γ : Env} (h : EnvOk Tryz.prog Γ) (h25 : Γ 25 = some S25) (h35 : Γ 35 = some S35) (h32 : Γ 32 = some S32) : Con Tryz.prog 36 S36 :=
  heapE_con h (fn := Tryz.f36) (by kernel_rfl) rfl (by kernel_rfl) inj36 fun ⟨A, S, a, b⟩ h => body36 Γ h25 h35 h32 A S a b h.1 ⟨h.2.1, h.2.2.1⟩ h.2.2.2
theorem rename_ok {S : Int} {A : Fs} {a b : Bytes} (h : okF A) : okF (renameF S A a b).2 := by
  unfold renameF
  by_cases c1 : nameB b = false
  · rw [if_pos c1]; exact h
  rw [if_neg c1]
  by_cases c2 : has A a = false
  · rw [if_pos c2]; exact h
  rw [if_neg c2]
  split
  · exact h
  split
  · exact h
  have c2' : has A a = true := by simpa using c2
  have hl := name_len (by simpa using c1)
  have := len_out h.so c2'
  have := h.le
  refine ok_ins (ok_out h c2') (by omega) (data_le h a) ?_
  split <;> omega
theorem copy_ok {S : Int} {A : Fs} {a b : Bytes} (h : okF A) : okF (copyF S A a b).2 := by
  unfold copyF
  split
  · exact h
  · exact write_ok h
def e37 : (Fs) × (Int) × (Bytes) × (Bytes) → List AV × Heap := fun (A, S, a, b) => ([.ref 0 0 0, .str a, .str b], [.row [.sl (A.flatMap fc) A.length, .int .i64 S] 2 0])
def p37 : (Fs) × (Int) × (Bytes) × (Bytes) → Prop := fun (A, S, a, b) => okF A ∧ 0 ≤ S ∧ S ≤ 1000000000 ∧ b.length ≤ 4194304
def r37 : (Fs) × (Int) × (Bytes) × (Bytes) → AV := fun (A, S, a, b) => .str (renameF S A a b).1
def g37 : (Fs) × (Int) × (Bytes) × (Bytes) → Heap := fun (A, S, a, b) => [.row [.sl ((renameF S A a b).2.flatMap fc) (renameF S A a b).2.length, .int .i64 S] 2 0]
theorem inj37 : ∀ a b, e37 a = e37 b → a = b := by
  rintro ⟨A, S, a, b⟩ ⟨A', S', a', b'⟩ h
  simp only [e37, mi_iff, ms_iff, mb_iff, my_iff, UInt8.toNat_inj, fc_iff, Prod.mk.injEq, List.cons.injEq, AObj.row.injEq, AV.int.injEq, AV.str.injEq, AV.bool.injEq, AV.sl.injEq, AV.agg.injEq, AV.ip.injEq, AV.fn.injEq, AV.ifc.injEq, AV.mpr.injEq, AV.msl.injEq, AV.ref.injEq, Int.natCast_inj, and_true, true_and] at h
  simp_all only
noncomputable def S37 : FSpec := heapE false e37 p37 r37 g37
theorem ps37 (A : (Fs)) (S : (Int)) (a : (Bytes)) (b : (Bytes)) : pselK e37 p37 ([.ref 0 0 0, .str a, .str b], [.row [.sl (A.flatMap fc) A.length, .int .i64 S] 2 0]) = (okF A ∧ 0 ≤ S ∧ S ≤ 1000000000 ∧ b.length ≤ 4194304) := pselK_at inj37 p37 (A, S, a, b)
theorem rs37 (A : (Fs)) (S : (Int)) (a : (Bytes)) (b : (Bytes)) : rselK e37 r37 .any ([.ref 0 0 0, .str a, .str b], [.row [.sl (A.flatMap fc) A.length, .int .i64 S] 2 0]) = (.str (renameF S A a b).1) := rselK_at inj37 r37 .any (A, S, a, b)
theorem hs37 (A : (Fs)) (S : (Int)) (a : (Bytes)) (b : (Bytes)) : rselK e37 g37 [] ([.ref 0 0 0, .str a, .str b], [.row [.sl (A.flatMap fc) A.length, .int .i64 S] 2 0]) = ([.row [.sl ((renameF S A a b).2.flatMap fc) (renameF S A a b).2.length, .int .i64 S] 2 0]) := rselK_at inj37 g37 [] (A, S, a, b)
attribute [push_cast] S37 ps37 rs37 hs37
theorem body37 (Γ : Env) (h17 : Γ 17 = some S17) (h22 : Γ 22 = some S22) (h25 : Γ 25 = some S25) (h27 : Γ 27 = some S27) (h32 : Γ 32 = some S32) (h38 : Γ 38 = some S38) (h39 : Γ 39 = some S39) (A : Fs) (S : Int) (a b : Bytes) (hA : okF A) (hS : 0 ≤ S ∧ S ≤ 1000000000) (hn : b.length ≤ 4194304) : BodyOk Tryz.prog Γ Tryz.f37 [.ref 0 0 0, .str a, .str b] [.row [.sl (A.flatMap fc) A.length, .int .i64 S] 2 0] (.str (renameF S A a b).1) [.row [.sl ((renameF S A a b).2.flatMap fc) (renameF S A a b).2.length, .int .i64 S] 2 0] := by
  have hl := hA.le
  (intro X hP hΓ hL hfin; refine ⟨_, rfl, ?_⟩; rw [show Tryz.f37.ntmps = 64 from rfl]; rw [show Tryz.f37.results.toList = [.tmp 6] from rfl] at hfin; apply holds_of_ex X 400; simp (maxSteps := 1000000) only [push_cast, reduceCtorEq, Nat.reduceAdd, Nat.reduceMul, Nat.reduceSub, Nat.reduceBEq, Nat.reduceGT, Nat.reduceLT, Int.toNat_zero, Nat.reduceLeDiff, Int.reduceEq, Int.reduceLT, Int.reduceLE, hP, hΓ, hL, hfin, String.reduceEq, not_false_eq_true, if_true, fz0, fz1, bytesLess_eq, h22, h25])
  refine ⟨hn, by omega, by omega, ?_⟩
  cases c1 : nameB b with
  | false =>
    ((first | with_reducible refine holds_of_ex X 400 _ _ _ ?_ | skip); simp (maxSteps := 1000000) only [push_cast, reduceCtorEq, Nat.reduceAdd, Nat.reduceMul, Nat.reduceSub, Nat.reduceBEq, Nat.reduceGT, Nat.reduceLT, Int.toNat_zero, Nat.reduceLeDiff, Int.reduceEq, Int.reduceLT, Int.reduceLE, hP, hΓ, hL, hfin, String.reduceEq, not_false_eq_true, if_true, fz0, fz1, bytesLess_eq, h32])
    rw [renameF, if_pos c1]
    exact Into.sameA
  | true =>
  cases c2 : has A a with
  | false =>
    ((first | with_reducible refine holds_of_ex X 400 _ _ _ ?_ | skip); simp (maxSteps := 1000000) only [push_cast, reduceCtorEq, Nat.reduceAdd, Nat.reduceMul, Nat.reduceSub, Nat.reduceBEq, Nat.reduceGT, Nat.reduceLT, Int.toNat_zero, Nat.reduceLeDiff, Int.reduceEq, Int.reduceLT, Int.reduceLE, hP, hΓ, hL, hfin, String.reduceEq, not_false_eq_true, if_true, fz0, fz1, bytesLess_eq, h32, c2])
    rw [renameF, if_neg (by simp [c1]), if_pos c2]
    exact Into.sameA
  | true =>
  cases c3 : has A b with
  | true =>
    ((first | with_reducible refine holds_of_ex X 400 _ _ _ ?_ | skip); simp (maxSteps := 1000000) only [push_cast, reduceCtorEq, Nat.reduceAdd, Nat.reduceMul, Nat.reduceSub, Nat.reduceBEq, Nat.reduceGT, Nat.reduceLT, Int.toNat_zero, Nat.reduceLeDiff, Int.reduceEq, Int.reduceLT, Int.reduceLE, hP, hΓ, hL, hfin, String.reduceEq, not_false_eq_true, if_true, fz0, fz1, bytesLess_eq, h32, c2, c3])
    rw [renameF, if_neg (by simp [c1]), if_neg (by simp [c2]), if_pos c3]
    exact Into.sameA
  | false =>
  ((first | with_reducible refine holds_of_ex X 400 _ _ _ ?_ | skip); simp (maxSteps := 1000000) only [push_cast, reduceCtorEq, Nat.reduceAdd, Nat.reduceMul, Nat.reduceSub, Nat.reduceBEq, Nat.reduceGT, Nat.reduceLT, Int.toNat_zero, Nat.reduceLeDiff, Int.reduceEq, Int.reduceLT, Int.reduceLE, hP, hΓ, hL, hfin, String.reduceEq, not_false_eq_true, if_true, fz0, fz1, bytesLess_eq, h38, h17, c2, c3])
  refine ⟨by omega, ⟨hA, hS⟩, ?_⟩
  by_cases c4 : freeF S A < leaves A.length
  · ((first | with_reducible refine holds_of_ex X 400 _ _ _ ?_ | skip); simp (maxSteps := 1000000) only [push_cast, reduceCtorEq, Nat.reduceAdd, Nat.reduceMul, Nat.reduceSub, Nat.reduceBEq, Nat.reduceGT, Nat.reduceLT, Int.toNat_zero, Nat.reduceLeDiff, Int.reduceEq, Int.reduceLT, Int.reduceLE, hP, hΓ, hL, hfin, String.reduceEq, not_false_eq_true, if_true, fz0, fz1, bytesLess_eq, h32, c4])
    rw [renameF, if_neg (by simp [c1]), if_neg (by simp [c2]), if_neg (by simp [c3]), if_pos c4]
    exact Into.sameA
  · have hp := has_lt hA.so c2
    have hp' : (pl A a : Int) < A.length := by omega
    have hp2 : 0 < A.length * 2 - pl A a * 2 := by omega
    have hp3 : 1 < A.length * 2 - pl A a * 2 := by omega
    have hp4 : 0 < A.length * 2 - pl A a * 2 - 1 := by omega
    have hg : (A.getD (pl A a) default).2 = dataF A a := rfl
    ((first | with_reducible refine holds_of_ex X 400 _ _ _ ?_ | skip); simp (maxSteps := 1000000) only [push_cast, reduceCtorEq, Nat.reduceAdd, Nat.reduceMul, Nat.reduceSub, Nat.reduceBEq, Nat.reduceGT, Nat.reduceLT, Int.toNat_zero, Nat.reduceLeDiff, Int.reduceEq, Int.reduceLT, Int.reduceLE, hP, hΓ, hL, hfin, String.reduceEq, not_false_eq_true, if_true, fz0, fz1, bytesLess_eq, h39, h27, c4, hp', hp2, hp3, hp4, hg])
    refine ⟨⟨hA, hp⟩, ok_out hA c2, ?_⟩
    rw [renameF, if_neg (by simp [c1]), if_neg (by simp [c2]), if_neg (by simp [c3]), if_neg c4]
    exact Into.sameA
theorem con37 {Γ : Env} (h : EnvOk Tryz.prog Γ) (h17 : Γ 17 = some S17) (h22 : Γ 22 = some S22) (h25 : Γ 25 = some S25) (h27 : Γ 27 = some S27) (h32 : Γ 32 = some S32) (h38 : Γ 38 = some S38) (h39 : Γ 39 = some S39) : Con Tryz.prog 37 S37 :=
  heapE_con h (fn := Tryz.f37) (by kernel_rfl) rfl (by kernel_rfl) inj37 fun ⟨A, S, a, b⟩ h => body37 Γ h17 h22 h25 h27 h32 h38 h39 A S a b h.1 ⟨h.2.1, h.2.2.1⟩ h.2.2.2
end Go.Proofs.YtenopfmafecffaaGreatDoor.modelDone
