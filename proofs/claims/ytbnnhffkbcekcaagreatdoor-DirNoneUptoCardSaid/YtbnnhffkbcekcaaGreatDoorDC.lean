/- Of disks: a sector read; the writes told. Conditions stand in each. -/
import Derived.Test.YtbnnhffkbcekcaaGreatDoorDB
namespace Go.Proofs.YtbnnhffkbcekcaaGreatDoor.dirDone
open Go Go.Eng Go.Proofs
set_option linter.unusedVariables false
set_option linter.unusedSimpArgs false
set_option maxRecDepth 100000
set_option maxHeartbeats 4000000
theorem za121 : zeroA Tryz.prog 121 = .agg (secC default) := by kernel_rfl
theorem hz121 : hasZero Tryz.prog 121 := by unfold hasZero; kernel_rfl
def rdA (S : List Sec) (n : Int) : AV := if 0 ≤ n ∧ n < S.length then .tup [.sl ((S.getD n.toNat default).1.map byteAV) (S.getD n.toNat default).1.length, .int .i64 0] else .tup [.sl [] 0, .int .i64 31]
def e62 : (List Sec) × (List Wr) × (Int) → List AV × Heap := fun (S, W, n) => ([.ref 0 0 0, .int .i64 n], dskH S W)
def p62 : (List Sec) × (List Wr) × (Int) → Prop := fun (S, W, n) => True
def r62 : (List Sec) × (List Wr) × (Int) → AV := fun (S, W, n) => rdA S n
def g62 : (List Sec) × (List Wr) × (Int) → Heap := fun (S, W, n) => dskH S W
theorem inj62 : ∀ a b, e62 a = e62 b → a = b := by
  rintro ⟨S, W, n⟩ ⟨S', W', n'⟩ h
  simp only [e62, mi_iff, ms_iff, mb_iff, my_iff, UInt8.toNat_inj, secs_iff, wrs_iff, dskH, Prod.mk.injEq, List.cons.injEq, AObj.row.injEq, AV.int.injEq, AV.str.injEq, AV.bool.injEq, AV.sl.injEq, AV.agg.injEq, AV.ip.injEq, AV.fn.injEq, AV.ifc.injEq, AV.mpr.injEq, AV.msl.injEq, AV.ref.injEq, Int.natCast_inj, and_true, true_and] at h
  simp_all only
noncomputable def S62 : FSpec := heapE true e62 p62 r62 g62
theorem ps62 (S : (List Sec)) (W : (List Wr)) (n : (Int)) : pselK e62 p62 ([.ref 0 0 0, .int .i64 n], dskH S W) = (True) := pselK_at inj62 p62 (S, W, n)
theorem rs62 (S : (List Sec)) (W : (List Wr)) (n : (Int)) : rselK e62 r62 .any ([.ref 0 0 0, .int .i64 n], dskH S W) = (rdA S n) := rselK_at inj62 r62 .any (S, W, n)
theorem hs62 (S : (List Sec)) (W : (List Wr)) (n : (Int)) : rselK e62 g62 [] ([.ref 0 0 0, .int .i64 n], dskH S W) = (dskH S W) := rselK_at inj62 g62 [] (S, W, n)
attribute [push_cast] S62 ps62 rs62 hs62
theorem body62 (Γ : Env) (h115 : Γ 115 = some S115) (S : List Sec) (W : List Wr) (n : Int) : BodyOk Tryz.prog Γ Tryz.f62 [.ref 0 0 0, .int .i64 n] (dskH S W) (rdA S n) (dskH S W) := by
  have ps := ps115 S W n
  have rs := rs115 S W n
  have hs := hs115 S W n
  unfold rdA
  unfold dskH at *
  by_cases h : 0 ≤ n ∧ n < S.length
  · obtain ⟨k, rfl⟩ := Int.eq_ofNat_of_zero_le h.1
    have hk : k < S.length := by omega
    rw [if_pos h] at rs ⊢
    (intro X hP hΓ hL hfin; refine ⟨_, rfl, ?_⟩; rw [show Tryz.f62.ntmps = 22 from rfl]; rw [show Tryz.f62.results.toList = [.tmp 4, .tmp 5] from rfl] at hfin; apply holds_of_ex X 12; simp (maxSteps := 1000000) only [push_cast, reduceCtorEq, Nat.reduceAdd, Nat.reduceMul, Nat.reduceSub, Nat.reduceBEq, Nat.reduceGT, Nat.reduceLT, Int.toNat_zero, Nat.reduceLeDiff, Int.reduceEq, Int.reduceLT, Int.reduceLE, hP, hΓ, hL, hfin, String.reduceEq, Int.toNat_one, Bool.not_not, h115, ps, rs, hs, za121, hz121, hk])
    have hm : (k + 1) * 1024 ≤ S.length * 1024 := Nat.mul_le_mul_right _ hk
    refine ⟨by decide, by omega, ⟨by omega, by omega⟩, ?_⟩
    (refine Holds.frz 3 (by rw [hL]; simp) (by simp only [frzOk', frzOk, isMap, or_true, true_or, push_cast, reduceCtorEq, Nat.reduceAdd, Nat.reduceMul, Nat.reduceSub, Nat.reduceBEq, Nat.reduceGT, Nat.reduceLT, Int.toNat_zero, Nat.reduceLeDiff, Int.reduceEq, Int.reduceLT, Int.reduceLE]) ?_; simp only [push_cast, reduceCtorEq, Nat.reduceAdd, Nat.reduceMul, Nat.reduceSub, Nat.reduceBEq, Nat.reduceGT, Nat.reduceLT, Int.toNat_zero, Nat.reduceLeDiff, Int.reduceEq, Int.reduceLT, Int.reduceLE])
    ((first | with_reducible refine holds_of_ex X 400 _ _ _ ?_ | skip); simp (maxSteps := 1000000) only [push_cast, reduceCtorEq, Nat.reduceAdd, Nat.reduceMul, Nat.reduceSub, Nat.reduceBEq, Nat.reduceGT, Nat.reduceLT, Int.toNat_zero, Nat.reduceLeDiff, Int.reduceEq, Int.reduceLT, Int.reduceLE, hP, hΓ, hL, hfin, String.reduceEq, Int.toNat_one, Bool.not_not])
    have e : AV.sl (secC (S.getD k default)) 1024 = AV.sl ((S.getD k default).1.map byteAV) (S.getD k default).1.length := by rw [(S.getD k default).2]; rfl
    rw [e]
    exact Into.keep3A
  · rw [if_neg h] at rs ⊢
    (intro X hP hΓ hL hfin; refine ⟨_, rfl, ?_⟩; rw [show Tryz.f62.ntmps = 22 from rfl]; rw [show Tryz.f62.results.toList = [.tmp 4, .tmp 5] from rfl] at hfin; apply holds_of_ex X 400; simp (maxSteps := 1000000) only [push_cast, reduceCtorEq, Nat.reduceAdd, Nat.reduceMul, Nat.reduceSub, Nat.reduceBEq, Nat.reduceGT, Nat.reduceLT, Int.toNat_zero, Nat.reduceLeDiff, Int.reduceEq, Int.reduceLT, Int.reduceLE, hP, hΓ, hL, hfin, String.reduceEq, Int.toNat_one, Bool.not_not, h115, ps, rs, hs])
    refine ⟨by decide, ?_⟩
    refine IntoF.soft ?_
    simp only [push_cast]
    exact Into.sameA
theorem con62 {Γ : Env} (h : EnvOk Tryz.prog Γ) (h115 : Γ 115 = some S115) : Con Tryz.prog 62 S62 :=
  heapE_con h (fn := Tryz.f62) (by kernel_rfl) rfl (by kernel_rfl) inj62 fun ⟨S, W, n⟩ _ => body62 Γ h115 S W n
theorem za123 : zeroA Tryz.prog 123 = .agg (wrC default) := by kernel_rfl
theorem hz123 : hasZero Tryz.prog 123 := by unfold hasZero; kernel_rfl
theorem wr0 (w : Wr) (d : AV) : (wrC w).getD 0 d = .int .i64 w.1 := rfl
def wns (W : List Wr) : List Int := W.map Prod.fst
def e23 : (List Sec) × (List Wr) → List AV × Heap := fun (S, W) => ([.ref 0 0 0], dskH S W)
def p23 : (List Sec) × (List Wr) → Prop := fun (S, W) => W.length ≤ 4194304
def r23 : (List Sec) × (List Wr) → AV := fun (S, W) => .sl ((wns W).map (AV.int .i64)) (wns W).length
def g23 : (List Sec) × (List Wr) → Heap := fun (S, W) => dskH S W
theorem inj23 : ∀ a b, e23 a = e23 b → a = b := by
  rintro ⟨S, W⟩ ⟨S', W'⟩ h
  simp only [e23, mi_iff, ms_iff, mb_iff, my_iff, UInt8.toNat_inj, secs_iff, wrs_iff, dskH, Prod.mk.injEq, List.cons.injEq, AObj.row.injEq, AV.int.injEq, AV.str.injEq, AV.bool.injEq, AV.sl.injEq, AV.agg.injEq, AV.ip.injEq, AV.fn.injEq, AV.ifc.injEq, AV.mpr.injEq, AV.msl.injEq, AV.ref.injEq, Int.natCast_inj, and_true, true_and] at h
  simp_all only
noncomputable def S23 : FSpec := heapE true e23 p23 r23 g23
theorem ps23 (S : (List Sec)) (W : (List Wr)) : pselK e23 p23 ([.ref 0 0 0], dskH S W) = (W.length ≤ 4194304) := pselK_at inj23 p23 (S, W)
theorem rs23 (S : (List Sec)) (W : (List Wr)) : rselK e23 r23 .any ([.ref 0 0 0], dskH S W) = (.sl ((wns W).map (AV.int .i64)) (wns W).length) := rselK_at inj23 r23 .any (S, W)
theorem hs23 (S : (List Sec)) (W : (List Wr)) : rselK e23 g23 [] ([.ref 0 0 0], dskH S W) = (dskH S W) := rselK_at inj23 g23 [] (S, W)
attribute [push_cast] S23 ps23 rs23 hs23
theorem body23 (Γ : Env) (S : List Sec) (W : List Wr) (hW : W.length ≤ 4194304) : BodyOk Tryz.prog Γ Tryz.f23 [.ref 0 0 0] (dskH S W) (.sl ((wns W).map (AV.int .i64)) (wns W).length) (dskH S W) := by
  unfold dskH
  (intro X hP hΓ hL hfin; refine ⟨_, rfl, ?_⟩; rw [show Tryz.f23.ntmps = 24 from rfl]; rw [show Tryz.f23.results.toList = [.tmp 2] from rfl] at hfin; apply holds_of_ex X 400; simp (maxSteps := 1000000) only [push_cast, reduceCtorEq, Nat.reduceAdd, Nat.reduceMul, Nat.reduceSub, Nat.reduceBEq, Nat.reduceGT, Nat.reduceLT, Int.toNat_zero, Nat.reduceLeDiff, Int.reduceEq, Int.reduceLT, Int.reduceLE, hP, hΓ, hL, hfin, String.reduceEq, Int.toNat_one, Bool.not_not])
  refine Holds.loopM (ι := {k : Nat // k ≤ W.length}) [false, false, true, false, false, false, false, false, false, false, false, true, true, false, false, false, false, false, false, false, false, false, false, false] (fun i => [(13, .int .i64 i.1), (3, .msl 3 0 0 i.1)]) (fun i => [.row [.msl 1 0 0 S.length, .msl 2 W.length 0 W.length] 2 0, .row (S.flatMap secC) 1024 0, .row (W.flatMap wrC) 1025 W.length, .row ((wns (W.take i.1)).map (AV.int .i64)) 1 0]) (fun i => W.length - i.1) ⟨0, Nat.zero_le _⟩ ?_ ?_
  · rw [hL]; simp only [push_cast, Int.natCast_zero, wns]
    (refine IntoF.nil 3  1 rfl ?_; simp only [push_cast, reduceCtorEq, Nat.reduceAdd, Nat.reduceMul, Nat.reduceSub, Nat.reduceBEq, Nat.reduceGT, Nat.reduceLT, Int.toNat_zero, Nat.reduceLeDiff, Int.reduceEq, Int.reduceLT, Int.reduceLE])
    exact Into.sameA
  rintro ⟨k, hk⟩
  ((first | with_reducible refine holds_of_ex X 400 _ _ _ ?_ | skip); simp (maxSteps := 1000000) only [push_cast, reduceCtorEq, Nat.reduceAdd, Nat.reduceMul, Nat.reduceSub, Nat.reduceBEq, Nat.reduceGT, Nat.reduceLT, Int.toNat_zero, Nat.reduceLeDiff, Int.reduceEq, Int.reduceLT, Int.reduceLE, hP, hΓ, hL, hfin, String.reduceEq, Int.toNat_one, Bool.not_not])
  ((with_reducible refine exB_split (fun h => ?_) (fun h => ?_)) <;> (try simp only [decide_eq_true_eq, decide_eq_false_iff_not, Bool.and_eq_true, Bool.or_eq_true, Bool.and_eq_false_iff, Bool.or_eq_false_iff, Bool.not_eq_true', Bool.not_eq_false', Bool.not_eq_true, Bool.not_eq_false, Int.not_lt, Int.not_le, beq_iff_eq, beq_eq_false_iff_ne, ne_eq] at h))
  · have hk' : k < W.length := by omega
    have e1 : wns (W.take (k + 1)) = wns (W.take k) ++ [(W.getD k default).1] := by
      unfold wns
      rw [List.take_succ_eq_append_getElem hk', List.map_append]
      simp [List.getD, hk']
    have hm : (k + 1) * 1025 ≤ W.length * 1025 := Nat.mul_le_mul_right _ hk'
    have hl1 : (wns (W.take k)).length = k := by unfold wns; rw [List.length_map, List.length_take]; omega
    ((first | with_reducible refine holds_of_ex X 400 _ _ _ ?_ | skip); simp (maxSteps := 1000000) only [push_cast, reduceCtorEq, Nat.reduceAdd, Nat.reduceMul, Nat.reduceSub, Nat.reduceBEq, Nat.reduceGT, Nat.reduceLT, Int.toNat_zero, Nat.reduceLeDiff, Int.reduceEq, Int.reduceLT, Int.reduceLE, hP, hΓ, hL, hfin, String.reduceEq, Int.toNat_one, Bool.not_not, hk', za123, hz123, wr0])
    refine ⟨by omega, ⟨by omega, by omega⟩, ⟨hl1, by omega⟩, ⟨k + 1, hk'⟩, by simp only; omega, ?_⟩
    dsimp only
    rw [wr_i64 ((k : Int) + 1) (by constructor <;> omega), e1, List.map_append]
    (refine IntoF.ver 3  0 (by simp only [push_cast, reduceCtorEq, Nat.reduceAdd, Nat.reduceMul, Nat.reduceSub, Nat.reduceBEq, Nat.reduceGT, Nat.reduceLT, Int.toNat_zero, Nat.reduceLeDiff, Int.reduceEq, Int.reduceLT, Int.reduceLE]) (by first | exact .inr (Nat.zero_le _) | (left; simp only [push_cast, reduceCtorEq, Nat.reduceAdd, Nat.reduceMul, Nat.reduceSub, Nat.reduceBEq, Nat.reduceGT, Nat.reduceLT, Int.toNat_zero, Nat.reduceLeDiff, Int.reduceEq, Int.reduceLT, Int.reduceLE]; first | done | omega) | (right; simp only [push_cast, reduceCtorEq, Nat.reduceAdd, Nat.reduceMul, Nat.reduceSub, Nat.reduceBEq, Nat.reduceGT, Nat.reduceLT, Int.toNat_zero, Nat.reduceLeDiff, Int.reduceEq, Int.reduceLT, Int.reduceLE]; first | done | omega)) ?_; simp only [push_cast, reduceCtorEq, Nat.reduceAdd, Nat.reduceMul, Nat.reduceSub, Nat.reduceBEq, Nat.reduceGT, Nat.reduceLT, Int.toNat_zero, Nat.reduceLeDiff, Int.reduceEq, Int.reduceLT, Int.reduceLE])
    exact Into.keep4A
  · obtain rfl : k = W.length := by omega
    rw [List.take_length]
    have hl1 : (wns W).length = W.length := by unfold wns; rw [List.length_map]
    ((first | with_reducible refine holds_of_ex X 400 _ _ _ ?_ | skip); simp (maxSteps := 1000000) only [push_cast, reduceCtorEq, Nat.reduceAdd, Nat.reduceMul, Nat.reduceSub, Nat.reduceBEq, Nat.reduceGT, Nat.reduceLT, Int.toNat_zero, Nat.reduceLeDiff, Int.reduceEq, Int.reduceLT, Int.reduceLE, hP, hΓ, hL, hfin, String.reduceEq, Int.toNat_one, Bool.not_not])
    (refine IntoF.frz 3 (by simp only [push_cast, reduceCtorEq, Nat.reduceAdd, Nat.reduceMul, Nat.reduceSub, Nat.reduceBEq, Nat.reduceGT, Nat.reduceLT, Int.toNat_zero, Nat.reduceLeDiff, Int.reduceEq, Int.reduceLT, Int.reduceLE]; first | done | decide | omega) (by simp only [frzOk', frzOk, isMap, or_true, true_or, push_cast, reduceCtorEq, Nat.reduceAdd, Nat.reduceMul, Nat.reduceSub, Nat.reduceBEq, Nat.reduceGT, Nat.reduceLT, Int.toNat_zero, Nat.reduceLeDiff, Int.reduceEq, Int.reduceLT, Int.reduceLE]) ?_; simp only [push_cast, reduceCtorEq, Nat.reduceAdd, Nat.reduceMul, Nat.reduceSub, Nat.reduceBEq, Nat.reduceGT, Nat.reduceLT, Int.toNat_zero, Nat.reduceLeDiff, Int.reduceEq, Int.reduceLT, Int.reduceLE])
    rw [← hl1, tk_map]
    exact Into.keep3A
theorem con23 {Γ : Env} (h : EnvOk Tryz.prog Γ)  : Con Tryz.prog 23 S23 :=
  heapE_con h (fn := Tryz.f23) (by kernel_rfl) rfl (by kernel_rfl) inj23 fun ⟨S, W⟩ h => body23 Γ S W h
end Go.Proofs.YtbnnhffkbcekcaaGreatDoor.dirDone
