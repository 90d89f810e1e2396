/- Of the model of a workstation: a run by the document. Conditions stand in each. -/
import Derived.Test.YtenopfmafecffaaGreatDoorMoX
import Derived.Test.YtenopfmafecffaaGreatDoorLU
namespace Go.Proofs.YtenopfmafecffaaGreatDoor.modelDone
open Go Go.Eng Go.Proofs Go.Mdl Go.RowKit
open Go.Lines (pres)
open Go.Proofs.YtenopfmafecffaaGreatDoor.lineDone (cmd refS refV parseP)
open Go.Proofs.YtenopfmafecffaaGreatDoor.linesDone (linesS linesV lnF lrF lwP lines_eq)
set_option linter.unusedVariables false
set_option linter.unusedSimpArgs false
set_option maxRecDepth 100000
set_option maxHeartbeats 4000000
theorem dec_l {n : Int} (h : 0 ≤ n ∧ n ≤ 1000000000) : (dec n).length ≤ 10 := by rw [dec]; exact dec_len _ (by omega)
theorem wrong_l {n : Int} (h : 0 ≤ n ∧ n ≤ 1000000000) : (wrongT n).length ≤ 13 := by
  have := dec_l h
  simp only [wrongT, List.length_append, List.length_cons, List.length_nil]; omega
theorem num_l {n : Int} (h : 0 ≤ n ∧ n ≤ 1000000000) : (numT n).length ≤ 11 := by
  have := dec_l h
  simp only [numT, List.length_append, List.length_cons, List.length_nil]; omega
theorem write_l (S : Int) (A : Fs) (n d : Bytes) : (writeF S A n d).1.length ≤ 300000 := by
  have := fits_b S A n d.length
  unfold writeF
  split
  · have := wrong_l (n := 171) (by omega); simp only; omega
  split
  · simp
  · have := wrong_l (n := fitsF S A n d.length) (by omega); simp only; omega
theorem copy_l (S : Int) (A : Fs) (a b : Bytes) : (copyF S A a b).1.length ≤ 300000 := by
  unfold copyF; split
  · have := wrong_l (n := 172) (by omega); simp only; omega
  · exact write_l _ _ _ _
theorem rename_l (S : Int) (A : Fs) (a b : Bytes) : (renameF S A a b).1.length ≤ 300000 := by
  have h1 := wrong_l (n := 171) (by omega)
  have h2 := wrong_l (n := 172) (by omega)
  have h3 := wrong_l (n := 175) (by omega)
  have h4 := wrong_l (n := 174) (by omega)
  unfold renameF
  by_cases c1 : nameB b = false
  · rw [if_pos c1]; simp only; omega
  rw [if_neg c1]
  by_cases c2 : has A a = false
  · rw [if_pos c2]; simp only; omega
  rw [if_neg c2]
  split
  · simp only; omega
  split
  · simp only; omega
  · simp
theorem do_l {S : Int} {A : Fs} (h : okS S A) (l : Bytes) : (doF S A l).1.length ≤ 300000 := by
  have hp := pres_pr l
  unfold doF
  generalize (pres l).1 = c at *
  generalize (pres l).2.1 = w at *
  generalize (pres l).2.2.1 = t at *
  generalize (pres l).2.2.2 = e at *
  have hfb := free_b h.ok S ⟨h.lo, h.hi⟩
  have hfr := h.fr
  have hdl := data_le h.ok (w.getD 0 [])
  have hle := h.ok.le
  have hdi := dir_len h.ok.sm
  by_cases c0 : e = 0
  · rw [if_pos c0]
    unfold doC
    by_cases d0 : c = []
    · rw [if_pos d0]; simp
    rw [if_neg d0]
    by_cases d1 : c = [100, 105, 114]
    · rw [if_pos d1]; simp only; omega
    rw [if_neg d1]
    by_cases d2 : c = [102, 114, 101, 101]
    · rw [if_pos d2]; have := num_l (n := freeF S A) ⟨hfr, hfb.2⟩; simp only; omega
    rw [if_neg d2]
    by_cases d3 : c = [112, 117, 116]
    · rw [if_pos d3]; exact write_l _ _ _ _
    rw [if_neg d3]
    by_cases d4 : c = [97, 100, 100]
    · rw [if_pos d4]; exact write_l _ _ _ _
    rw [if_neg d4]
    by_cases d5 : c = [99, 111, 112, 121]
    · rw [if_pos d5]; exact copy_l _ _ _ _
    rw [if_neg d5]
    by_cases d6 : c = [114, 101, 110, 97, 109, 101]
    · rw [if_pos d6]; exact rename_l _ _ _ _
    rw [if_neg d6]
    by_cases d7 : has A (w.getD 0 []) = false
    · rw [if_pos d7]; have := wrong_l (n := 172) (by omega); simp only; omega
    rw [if_neg d7]
    by_cases d8 : c = [115, 104, 111, 119]
    · rw [if_pos d8]; simp only; omega
    rw [if_neg d8]
    by_cases d9 : c = [115, 105, 122, 101]
    · rw [if_pos d9]; have := num_l (n := (dataF A (w.getD 0 [])).length) (by omega); simp only; omega
    rw [if_neg d9]
    by_cases d10 : c = [100, 101, 108, 101, 116, 101]
    · rw [if_pos d10]
      by_cases d11 : freeF S A < leaves ((A.length : Int) - 1)
      · rw [if_pos d11]; have := wrong_l (n := 174) (by omega); simp only; omega
      · rw [if_neg d11]; simp
    rw [if_neg d10]
    split <;> simp
  · rw [if_neg c0]
    have : e ≤ 200 := by
      cases hp <;> omega
    have := wrong_l (n := e) (by omega); simp only; omega
theorem run_snoc (S : Int) : ∀ (A : Fs) (ls : List Bytes) (l : Bytes), runF S A (ls ++ [l]) = ((runF S A ls).1 ++ (doF S (runF S A ls).2 l).1 ++ [62, 32], (doF S (runF S A ls).2 l).2)
  | A, [], l => by simp [runF]
  | A, x :: ls, l => by
    rw [List.cons_append, runF, run_snoc S _ ls l]
    simp [runF]
theorem run_s {S : Int} : ∀ {A : Fs} (h : okS S A) (ls : List Bytes), okS S (runF S A ls).2
  | A, h, [] => h
  | A, h, l :: ls => run_s (do_s h l) ls
theorem run_l {S : Int} : ∀ {A : Fs} (h : okS S A) (ls : List Bytes), (runF S A ls).1.length ≤ 300002 * ls.length
  | A, h, [] => Nat.zero_le _
  | A, h, l :: ls => by
    have h1 := run_l (do_s h l) ls
    have h2 := do_l h l
    simp only [runF, List.length_append, List.length_cons, List.length_nil] at *
    omega
def headT : Bytes := [99, 97, 114, 114, 101, 108, 10, 62, 32]
def runT (S : Int) (A : Fs) (ls : List Bytes) : Bytes := headT ++ (runF S A ls).1
theorem runT_0 (S : Int) (A : Fs) : runT S A [] = headT := rfl
theorem runF_0 (S : Int) (A : Fs) : (runF S A []).2 = A := rfl
theorem ln_le (l : Bytes) : (lnF l).length ≤ l.length := by
  have := Lines.pieces_le 10 l
  have h := congrArg List.length (lines_eq l)
  rw [List.length_append] at h
  simp only [List.length_cons, List.length_nil] at h
  omega
def e20 : (Fs) × (Int) × (Bytes) → List AV × Heap := fun (A, S, l) => ([.ref 0 0 0, .str l], [.row [.sl (A.flatMap fc) A.length, .int .i64 S] 2 0])
def p20 : (Fs) × (Int) × (Bytes) → Prop := fun (A, S, l) => okS S A ∧ l.length ≤ 4194304
def r20 : (Fs) × (Int) × (Bytes) → AV := fun (A, S, l) => .str (runT S A (lnF l))
def g20 : (Fs) × (Int) × (Bytes) → Heap := fun (A, S, l) => [.row [.sl ((runF S A (lnF l)).2.flatMap fc) (runF S A (lnF l)).2.length, .int .i64 S] 2 0]
theorem inj20 : ∀ a b, e20 a = e20 b → a = b := by
  rintro ⟨A, S, l⟩ ⟨A', S', l'⟩ h
  simp only [e20, mi_iff, ms_iff, mb_iff, my_iff, UInt8.toNat_inj, fc_iff, Prod.mk.injEq, List.cons.injEq, AObj.row.injEq, AV.int.injEq, AV.str.injEq, AV.bool.injEq, AV.sl.injEq, AV.agg.injEq, AV.ip.injEq, AV.fn.injEq, AV.ifc.injEq, AV.mpr.injEq, AV.msl.injEq, AV.ref.injEq, Int.natCast_inj, and_true, true_and] at h
  simp_all only
noncomputable def S20 : FSpec := heapE false e20 p20 r20 g20
theorem ps20 (A : (Fs)) (S : (Int)) (l : (Bytes)) : pselK e20 p20 ([.ref 0 0 0, .str l], [.row [.sl (A.flatMap fc) A.length, .int .i64 S] 2 0]) = (okS S A ∧ l.length ≤ 4194304) := pselK_at inj20 p20 (A, S, l)
theorem rs20 (A : (Fs)) (S : (Int)) (l : (Bytes)) : rselK e20 r20 .any ([.ref 0 0 0, .str l], [.row [.sl (A.flatMap fc) A.length, .int .i64 S] 2 0]) = (.str (runT S A (lnF l))) := rselK_at inj20 r20 .any (A, S, l)
theorem hs20 (A : (Fs)) (S : (Int)) (l : (Bytes)) : rselK e20 g20 [] ([.ref 0 0 0, .str l], [.row [.sl (A.flatMap fc) A.length, .int .i64 S] 2 0]) = ([.row [.sl ((runF S A (lnF l)).2.flatMap fc) (runF S A (lnF l)).2.length, .int .i64 S] 2 0]) := rselK_at inj20 g20 [] (A, S, l)
attribute [push_cast] S20 ps20 rs20 hs20
theorem body20 (Γ : Env) (h13 : Γ 13 = some S13) (h18 : Γ 18 = some linesS) (A : Fs) (S : Int) (l : Bytes) (hA : okS S A) (hl : l.length ≤ 4194304) : BodyOk Tryz.prog Γ Tryz.f20 [.ref 0 0 0, .str l] [.row [.sl (A.flatMap fc) A.length, .int .i64 S] 2 0] (.str (runT S A (lnF l))) [.row [.sl ((runF S A (lnF l)).2.flatMap fc) (runF S A (lnF l)).2.length, .int .i64 S] 2 0] := by
  have hll := ln_le l
  (intro X hP hΓ hL hfin; refine ⟨_, rfl, ?_⟩; rw [show Tryz.f20.ntmps = 34 from rfl]; rw [show Tryz.f20.results.toList = [.tmp 4] from rfl] at hfin; apply holds_of_ex X 400; simp (maxSteps := 1000000) only [push_cast, reduceCtorEq, Nat.reduceAdd, Nat.reduceMul, Nat.reduceSub, Nat.reduceBEq, Nat.reduceGT, Nat.reduceLT, Int.toNat_zero, Nat.reduceLeDiff, Int.reduceEq, Int.reduceLT, Int.reduceLE, hP, hΓ, hL, hfin, String.reduceEq, not_false_eq_true, if_true, fz0, fz1, bytesLess_eq, h18])
  refine ⟨hl, ?_⟩
  generalize lnF l = ls at *
  ((first | with_reducible refine holds_of_ex X 400 _ _ _ ?_ | skip); simp (maxSteps := 1000000) only [push_cast, reduceCtorEq, Nat.reduceAdd, Nat.reduceMul, Nat.reduceSub, Nat.reduceBEq, Nat.reduceGT, Nat.reduceLT, Int.toNat_zero, Nat.reduceLeDiff, Int.reduceEq, Int.reduceLT, Int.reduceLE, hP, hΓ, hL, hfin, String.reduceEq, not_false_eq_true, if_true, fz0, fz1, bytesLess_eq])
  refine Holds.loopM (ι := {k : Nat // k ≤ ls.length}) [true, false, false, false, true, true, false, false, false, false, false, false, false, false, false, false, false, false, false, false, false, false, false, false, false, false, false, false, false, false, false, false, false, false] (fun i => [(7, .msl 1 (2 * i.1) 0 (runT S A (ls.take i.1)).length), (8, .int .i64 i.1)]) (fun i => [.row [.sl ((runF S A (ls.take i.1)).2.flatMap fc) (runF S A (ls.take i.1)).2.length, .int .i64 S] 2 0, .row ((runT S A (ls.take i.1)).map byteAV) 1 (2 * i.1)]) (fun i => ls.length - i.1) ⟨0, Nat.zero_le _⟩ ?_ ?_
  · rw [hL]
    simp only [List.take_zero, runT_0, runF_0]
    have hb : headT.map byteAV = [.int .u8 99, .int .u8 97, .int .u8 114, .int .u8 114, .int .u8 101, .int .u8 108, .int .u8 10, .int .u8 62, .int .u8 32] := rfl
    rw [hb, show headT.length = 9 from rfl]
    simp only [push_cast, Int.natCast_zero]
    exact Into.sameA
  rintro ⟨k, hk⟩
  have hB := run_s hA (ls.take k)
  have hT := run_l hA (ls.take k)
  have hkl : (ls.take k).length = k := by rw [List.length_take]; omega
  have hTl : (runT S A (ls.take k)).length = 9 + (runF S A (ls.take k)).1.length := by rw [runT, List.length_append]; rfl
  ((first | with_reducible refine holds_of_ex X 400 _ _ _ ?_ | skip); simp (maxSteps := 1000000) only [push_cast, reduceCtorEq, Nat.reduceAdd, Nat.reduceMul, Nat.reduceSub, Nat.reduceBEq, Nat.reduceGT, Nat.reduceLT, Int.toNat_zero, Nat.reduceLeDiff, Int.reduceEq, Int.reduceLT, Int.reduceLE, hP, hΓ, hL, hfin, String.reduceEq, not_false_eq_true, if_true, fz0, fz1, bytesLess_eq])
  ((with_reducible refine exB_split (fun h => ?_) (fun h => ?_)) <;> (try simp only [decide_eq_true_eq, decide_eq_false_iff_not, Bool.and_eq_true, Bool.or_eq_true, Bool.and_eq_false_iff, Bool.or_eq_false_iff, Bool.not_eq_true', Bool.not_eq_false', Bool.not_eq_true, Bool.not_eq_false, Int.not_lt, Int.not_le, beq_iff_eq, beq_eq_false_iff_ne, ne_eq] at h))
  · have hk' : k < ls.length := by omega
    have hl' : (k : Int) < (ls.length : Int) := by omega
    have hn : ls.take (k + 1) = ls.take k ++ [ls.getD k default] := by rw [List.take_add_one, List.getD, List.getElem?_eq_getElem hk']; rfl
    have hr := run_snoc S A (ls.take k) (ls.getD k default)
    rw [← hn] at hr
    have hT1 : runT S A (ls.take (k + 1)) = runT S A (ls.take k) ++ (doF S (runF S A (ls.take k)).2 (ls.getD k default)).1 ++ [62, 32] := by rw [runT, hr, runT]; simp
    have hF1 : (runF S A (ls.take (k + 1))).2 = (doF S (runF S A (ls.take k)).2 (ls.getD k default)).2 := by rw [hr]
    have hdl := do_l hB (ls.getD k default)
    have hle : (runT S A (ls.take k)).length ≤ 1300000000000 := by omega
    generalize hx : ls.getD k default = x at *
    clear hn hr hTl hT
    generalize (runF S A (ls.take k)).2 = B at *
    generalize runT S A (ls.take k) = T at *
    have oc : oneCells [byteAV 62, byteAV 32] = true := rfl
    ((first | with_reducible refine holds_of_ex X 400 _ _ _ ?_ | skip); simp (maxSteps := 1000000) only [push_cast, reduceCtorEq, Nat.reduceAdd, Nat.reduceMul, Nat.reduceSub, Nat.reduceBEq, Nat.reduceGT, Nat.reduceLT, Int.toNat_zero, Nat.reduceLeDiff, Int.reduceEq, Int.reduceLT, Int.reduceLE, hP, hΓ, hL, hfin, String.reduceEq, not_false_eq_true, if_true, fz0, fz1, bytesLess_eq, h13, hx, hl', wr_i64 ((k : Int) + 1) (by constructor <;> omega), oc])
    refine ⟨by omega, hB, by omega, by omega, ⟨k + 1, hk'⟩, by simp only; omega, ?_⟩
    rw [show List.map byteAV T ++ List.map byteAV (doF S B x).1 ++ [byteAV 62, byteAV 32] = (T ++ (doF S B x).1 ++ [62, 32]).map byteAV by simp,
      show T.length + (doF S B x).1.length + 2 = (T ++ (doF S B x).1 ++ [62, 32]).length by simp [Nat.add_assoc], show 2 * k + 1 + 1 = 2 * (k + 1) by omega, ← hT1, ← hF1]
    exact Into.sameA
  · obtain rfl : k = ls.length := by omega
    ((first | with_reducible refine holds_of_ex X 400 _ _ _ ?_ | skip); simp (maxSteps := 1000000) only [push_cast, reduceCtorEq, Nat.reduceAdd, Nat.reduceMul, Nat.reduceSub, Nat.reduceBEq, Nat.reduceGT, Nat.reduceLT, Int.toNat_zero, Nat.reduceLeDiff, Int.reduceEq, Int.reduceLT, Int.reduceLE, hP, hΓ, hL, hfin, String.reduceEq, not_false_eq_true, if_true, fz0, fz1, bytesLess_eq])
    rw [List.take_length, show List.take (runT S A ls).length ((runT S A ls).map byteAV) = (runT S A ls).map byteAV from List.take_of_length_le (by simp)]
    refine ⟨allBytes_map _, ?_⟩
    rw [unbytes_map]
    exact Into.keep1A
theorem con20 {Γ : Env} (h : EnvOk Tryz.prog Γ) (h13 : Γ 13 = some S13) (h18 : Γ 18 = some linesS) : Con Tryz.prog 20 S20 :=
  heapE_con h (fn := Tryz.f20) (by kernel_rfl) rfl (by kernel_rfl) inj20 fun ⟨A, S, l⟩ h => body20 Γ h13 h18 A S l h.1 h.2
end Go.Proofs.YtenopfmafecffaaGreatDoor.modelDone
