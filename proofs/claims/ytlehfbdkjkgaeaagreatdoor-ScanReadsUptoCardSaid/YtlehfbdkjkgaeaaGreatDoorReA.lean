/- Of sources: the reference's parts. Conditions stand in each. -/
import Derived.Test.YtlehfbdkjkgaeaaGreatDoorScR
import Derived.Test.YtlehfbdkjkgaeaaGreatDoorEng21
import Derived.Test.YtlehfbdkjkgaeaaGreatDoorTy
import Derived.Test.YtlehfbdkjkgaeaaGreatDoorAr
import Derived.Test.YtlehfbdkjkgaeaaGreatDoorEng23
namespace Go.Proofs.YtlehfbdkjkgaeaaGreatDoor.scanRef
open Go Go.Eng Go.Proofs Go.Scan Go.RowKit
set_option linter.unusedVariables false
set_option linter.unusedSimpArgs false
set_option maxRecDepth 100000
set_option maxHeartbeats 4000000

def e30 : (UInt8) → List AV := fun c => [.int .u8 (c.toNat : Int)]
def p30 : (UInt8) → Prop := fun c => True
def r30 : (UInt8) → AV := fun c => .bool (lett c.toNat)
def g30 : (UInt8) → Heap := fun c => []
theorem inj30 : ∀ a b, e30 a = e30 b → a = b := by
  rintro c c' h
  simp only [e30, mi_iff, ms_iff, mb_iff, my_iff, UInt8.toNat_inj, List.cons.injEq, AV.int.injEq, AV.str.injEq, AV.bool.injEq, AV.sl.injEq, AV.agg.injEq, AV.ip.injEq, AV.fn.injEq, AV.ifc.injEq, AV.mpr.injEq, Int.natCast_inj, and_true, true_and] at h
  simp_all only
noncomputable def S30 : FSpec := funS e30 p30 r30 g30 true
theorem ps30 (c : (UInt8)) : psel e30 p30 [.int .u8 (c.toNat : Int)] = (True) := psel_at inj30 p30 c
theorem rs30 (c : (UInt8)) : rsel e30 r30 .any [.int .u8 (c.toNat : Int)] = (.bool (lett c.toNat)) := rsel_at inj30 r30 .any c
theorem hs30 (c : (UInt8)) : rsel e30 g30 [] [.int .u8 (c.toNat : Int)] = ([]) := rsel_at inj30 g30 [] c
attribute [push_cast] S30 ps30 rs30 hs30
theorem body30 (Γ : Env) (c : UInt8) : BodyOk Tryz.prog Γ Tryz.f30 (e30 c) [] (.bool (lett c.toNat)) [] := by
  (intro X hP hΓ hL hfin; refine ⟨_, rfl, ?_⟩; rw [show Tryz.f30.ntmps = 17 from rfl]; rw [show Tryz.f30.results.toList = [.tmp 2] from rfl] at hfin; apply holds_of_ex X 400; simp (maxSteps := 1000000) only [push_cast, reduceCtorEq, Nat.reduceAdd, Nat.reduceMul, Nat.reduceSub, Nat.reduceBEq, Nat.reduceGT, Nat.reduceLT, Int.toNat_zero, Nat.reduceLeDiff, Int.reduceEq, Int.reduceLT, Int.reduceLE, hP, hΓ, hL, hfin, String.reduceEq, not_false_eq_true, if_true, e30])
  unfold lett
  exact Into.sameA
theorem con30 {Γ : Env} (h : EnvOk Tryz.prog Γ)  : Con Tryz.prog 30 S30 :=
  funS_con h (fn := Tryz.f30) (by kernel_rfl) rfl (by kernel_rfl) inj30 (by first | (intro h; cases h; done) | exact fun _ _ => rfl) fun c _ => body30 Γ c
def e31 : (UInt8) → List AV := fun c => [.int .u8 (c.toNat : Int)]
def p31 : (UInt8) → Prop := fun c => True
def r31 : (UInt8) → AV := fun c => .bool (digi c.toNat)
def g31 : (UInt8) → Heap := fun c => []
theorem inj31 : ∀ a b, e31 a = e31 b → a = b := by
  rintro c c' h
  simp only [e31, mi_iff, ms_iff, mb_iff, my_iff, UInt8.toNat_inj, List.cons.injEq, AV.int.injEq, AV.str.injEq, AV.bool.injEq, AV.sl.injEq, AV.agg.injEq, AV.ip.injEq, AV.fn.injEq, AV.ifc.injEq, AV.mpr.injEq, Int.natCast_inj, and_true, true_and] at h
  simp_all only
noncomputable def S31 : FSpec := funS e31 p31 r31 g31 true
theorem ps31 (c : (UInt8)) : psel e31 p31 [.int .u8 (c.toNat : Int)] = (True) := psel_at inj31 p31 c
theorem rs31 (c : (UInt8)) : rsel e31 r31 .any [.int .u8 (c.toNat : Int)] = (.bool (digi c.toNat)) := rsel_at inj31 r31 .any c
theorem hs31 (c : (UInt8)) : rsel e31 g31 [] [.int .u8 (c.toNat : Int)] = ([]) := rsel_at inj31 g31 [] c
attribute [push_cast] S31 ps31 rs31 hs31
theorem body31 (Γ : Env) (c : UInt8) : BodyOk Tryz.prog Γ Tryz.f31 (e31 c) [] (.bool (digi c.toNat)) [] := by
  (intro X hP hΓ hL hfin; refine ⟨_, rfl, ?_⟩; rw [show Tryz.f31.ntmps = 9 from rfl]; rw [show Tryz.f31.results.toList = [.tmp 2] from rfl] at hfin; apply holds_of_ex X 400; simp (maxSteps := 1000000) only [push_cast, reduceCtorEq, Nat.reduceAdd, Nat.reduceMul, Nat.reduceSub, Nat.reduceBEq, Nat.reduceGT, Nat.reduceLT, Int.toNat_zero, Nat.reduceLeDiff, Int.reduceEq, Int.reduceLT, Int.reduceLE, hP, hΓ, hL, hfin, String.reduceEq, not_false_eq_true, if_true, e31])
  unfold digi
  exact Into.sameA
theorem con31 {Γ : Env} (h : EnvOk Tryz.prog Γ)  : Con Tryz.prog 31 S31 :=
  funS_con h (fn := Tryz.f31) (by kernel_rfl) rfl (by kernel_rfl) inj31 (by first | (intro h; cases h; done) | exact fun _ _ => rfl) fun c _ => body31 Γ c
def e27 : (Bytes) × (Nat) × (Bytes) → List AV := fun (s, k, w) => [.str s, .int .i64 k, .str w]
def p27 : (Bytes) × (Nat) × (Bytes) → Prop := fun (s, k, w) => k ≤ s.length ∧ s.length ≤ 4194304
def r27 : (Bytes) × (Nat) × (Bytes) → AV := fun (s, k, w) => .bool (sta s k w)
def g27 : (Bytes) × (Nat) × (Bytes) → Heap := fun (s, k, w) => []
theorem inj27 : ∀ a b, e27 a = e27 b → a = b := by
  rintro ⟨s, k, w⟩ ⟨s', k', w'⟩ h
  simp only [e27, mi_iff, ms_iff, mb_iff, my_iff, UInt8.toNat_inj, List.cons.injEq, AV.int.injEq, AV.str.injEq, AV.bool.injEq, AV.sl.injEq, AV.agg.injEq, AV.ip.injEq, AV.fn.injEq, AV.ifc.injEq, AV.mpr.injEq, Int.natCast_inj, and_true, true_and] at h
  simp_all only
noncomputable def S27 : FSpec := funS e27 p27 r27 g27 true
theorem ps27 (s : (Bytes)) (k : (Nat)) (w : (Bytes)) : psel e27 p27 [.str s, .int .i64 k, .str w] = (k ≤ s.length ∧ s.length ≤ 4194304) := psel_at inj27 p27 (s, k, w)
theorem rs27 (s : (Bytes)) (k : (Nat)) (w : (Bytes)) : rsel e27 r27 .any [.str s, .int .i64 k, .str w] = (.bool (sta s k w)) := rsel_at inj27 r27 .any (s, k, w)
theorem hs27 (s : (Bytes)) (k : (Nat)) (w : (Bytes)) : rsel e27 g27 [] [.str s, .int .i64 k, .str w] = ([]) := rsel_at inj27 g27 [] (s, k, w)
attribute [push_cast] S27 ps27 rs27 hs27
theorem body27 (Γ : Env) (s : Bytes) (k : Nat) (w : Bytes) (hk : k ≤ s.length) (hl : s.length ≤ 4194304) : BodyOk Tryz.prog Γ Tryz.f27 (e27 (s, k, w)) [] (.bool (sta s k w)) [] := by
  (intro X hP hΓ hL hfin; refine ⟨_, rfl, ?_⟩; rw [show Tryz.f27.ntmps = 21 from rfl]; rw [show Tryz.f27.results.toList = [.tmp 6] from rfl] at hfin; apply holds_of_ex X 400; simp (maxSteps := 1000000) only [push_cast, reduceCtorEq, Nat.reduceAdd, Nat.reduceMul, Nat.reduceSub, Nat.reduceBEq, Nat.reduceGT, Nat.reduceLT, Int.toNat_zero, Nat.reduceLeDiff, Int.reduceEq, Int.reduceLT, Int.reduceLE, hP, hΓ, hL, hfin, String.reduceEq, not_false_eq_true, if_true, e27, wr_i64 ((k : Int) + 1) (by constructor <;> omega), wr_i64 ((k : Int) + 2) (by constructor <;> omega)])
  have e : List.drop k (List.take ((k : Int) + 2).toNat s) = (s.drop k).take 2 := by
    rw [show ((k : Int) + 2).toNat = k + 2 by omega, List.drop_take]; congr 1; omega
  refine ⟨fun h => ?_, Into.one ?_ rfl⟩
  · simp only [decide_eq_true_eq] at h; omega
  · rw [e, sta]; congr 2; simp only [decide_eq_decide]; omega
theorem con27 {Γ : Env} (h : EnvOk Tryz.prog Γ)  : Con Tryz.prog 27 S27 :=
  funS_con h (fn := Tryz.f27) (by kernel_rfl) rfl (by kernel_rfl) inj27 (by first | (intro h; cases h; done) | exact fun _ _ => rfl) fun ⟨s, k, w⟩ h => body27 Γ s k w h.1 h.2
def e29 : (Bytes) × (Nat) → List AV := fun (s, k) => [.str s, .int .i64 k]
def p29 : (Bytes) × (Nat) → Prop := fun (s, k) => k ≤ s.length ∧ s.length ≤ 4194304
def r29 : (Bytes) × (Nat) → AV := fun (s, k) => .int .i64 ((s.drop k).takeWhile alnum).length
def g29 : (Bytes) × (Nat) → Heap := fun (s, k) => []
theorem inj29 : ∀ a b, e29 a = e29 b → a = b := by
  rintro ⟨s, k⟩ ⟨s', k'⟩ h
  simp only [e29, mi_iff, ms_iff, mb_iff, my_iff, UInt8.toNat_inj, List.cons.injEq, AV.int.injEq, AV.str.injEq, AV.bool.injEq, AV.sl.injEq, AV.agg.injEq, AV.ip.injEq, AV.fn.injEq, AV.ifc.injEq, AV.mpr.injEq, Int.natCast_inj, and_true, true_and] at h
  simp_all only
noncomputable def S29 : FSpec := funS e29 p29 r29 g29 true
theorem ps29 (s : (Bytes)) (k : (Nat)) : psel e29 p29 [.str s, .int .i64 k] = (k ≤ s.length ∧ s.length ≤ 4194304) := psel_at inj29 p29 (s, k)
theorem rs29 (s : (Bytes)) (k : (Nat)) : rsel e29 r29 .any [.str s, .int .i64 k] = (.int .i64 ((s.drop k).takeWhile alnum).length) := rsel_at inj29 r29 .any (s, k)
theorem hs29 (s : (Bytes)) (k : (Nat)) : rsel e29 g29 [] [.str s, .int .i64 k] = ([]) := rsel_at inj29 g29 [] (s, k)
attribute [push_cast] S29 ps29 rs29 hs29
theorem body29 (Γ : Env) (h30 : Γ 30 = some S30) (h31 : Γ 31 = some S31) (s : Bytes) (k : Nat) (hk : k ≤ s.length) (hl : s.length ≤ 4194304) : BodyOk Tryz.prog Γ Tryz.f29 (e29 (s, k)) [] (.int .i64 ((s.drop k).takeWhile alnum).length) [] := by
  have hW : ((s.drop k).takeWhile alnum).length ≤ s.length - k := by have := tw_len alnum (s.drop k); rwa [List.length_drop] at this
  have hst := tw_step alnum (s.drop k)
  obtain ⟨W, hWe⟩ : ∃ W, W = ((s.drop k).takeWhile alnum).length := ⟨_, rfl⟩
  rw [← hWe] at hW hst
  rw [← hWe]
  (intro X hP hΓ hL hfin; refine ⟨_, rfl, ?_⟩; rw [show Tryz.f29.ntmps = 36 from rfl]; rw [show Tryz.f29.results.toList = [.tmp 4] from rfl] at hfin; apply holds_of_ex X 400; simp (maxSteps := 1000000) only [push_cast, reduceCtorEq, Nat.reduceAdd, Nat.reduceMul, Nat.reduceSub, Nat.reduceBEq, Nat.reduceGT, Nat.reduceLT, Int.toNat_zero, Nat.reduceLeDiff, Int.reduceEq, Int.reduceLT, Int.reduceLE, hP, hΓ, hL, hfin, String.reduceEq, not_false_eq_true, if_true, e29])
  refine Holds.loopM (ι := {n : Nat // n ≤ W}) [true, true, false, false, false, false, false, false, false, false, false, false, false, false, false, false, false, false, false, false, false, false, false, false, false, false, false, false, false, false, false, false, false, false, false, false] (fun i => [(5, .int .i64 i.1)]) (fun i => []) (fun i => W - i.1) ⟨0, Nat.zero_le _⟩ ?_ ?_
  · (rw [hL]; simp only [push_cast, Int.natCast_zero]; exact Into.sameA)
  rintro ⟨n, hn⟩
  ((first | with_reducible refine holds_of_ex X 400 _ _ _ ?_ | skip); simp (maxSteps := 1000000) only [push_cast, reduceCtorEq, Nat.reduceAdd, Nat.reduceMul, Nat.reduceSub, Nat.reduceBEq, Nat.reduceGT, Nat.reduceLT, Int.toNat_zero, Nat.reduceLeDiff, Int.reduceEq, Int.reduceLT, Int.reduceLE, hP, hΓ, hL, hfin, String.reduceEq, not_false_eq_true, if_true, wr_i64 ((k : Int) + n) (by constructor <;> omega)])
  ((with_reducible refine exB_split (fun h => ?_) (fun h => ?_)) <;> (try simp only [decide_eq_true_eq, decide_eq_false_iff_not, Bool.and_eq_true, Bool.or_eq_true, Bool.and_eq_false_iff, Bool.or_eq_false_iff, Bool.not_eq_true', Bool.not_eq_false', Bool.not_eq_true, Bool.not_eq_false, Int.not_lt, Int.not_le, beq_iff_eq, beq_eq_false_iff_ne, ne_eq] at h))
  · have hn' : n < (s.drop k).length := by rw [List.length_drop]; omega
    have hp := hst n hn hn'
    have hg : (s.drop k).getD n 0 = s.getD (k + n) 0 := by simp [List.getD, List.getElem?_drop]
    rw [hg] at hp
    have hi : ((k : Int) + n).toNat = k + n := by omega
    ((first | with_reducible refine holds_of_ex X 400 _ _ _ ?_ | skip); simp (maxSteps := 1000000) only [push_cast, reduceCtorEq, Nat.reduceAdd, Nat.reduceMul, Nat.reduceSub, Nat.reduceBEq, Nat.reduceGT, Nat.reduceLT, Int.toNat_zero, Nat.reduceLeDiff, Int.reduceEq, Int.reduceLT, Int.reduceLE, hP, hΓ, hL, hfin, String.reduceEq, not_false_eq_true, if_true, h30, h31, wr_i64 ((k : Int) + n) (by constructor <;> omega), hi])
    generalize s.getD (k + n) 0 = c at *
    refine ⟨⟨by omega, by omega⟩, ⟨by omega, by omega⟩, ?_⟩
    ((with_reducible refine exB_split (fun h => ?_) (fun h => ?_)) <;> (try simp only [decide_eq_true_eq, decide_eq_false_iff_not, Bool.and_eq_true, Bool.or_eq_true, Bool.and_eq_false_iff, Bool.or_eq_false_iff, Bool.not_eq_true', Bool.not_eq_false', Bool.not_eq_true, Bool.not_eq_false, Int.not_lt, Int.not_le, beq_iff_eq, beq_eq_false_iff_ne, ne_eq] at h))
    · have : alnum c = false := by rw [alnum, h.1, h.2]; rfl
      rw [this] at hp
      obtain rfl : n = W := by have := of_decide_eq_false hp.symm; omega
      ((first | with_reducible refine holds_of_ex X 400 _ _ _ ?_ | skip); simp (maxSteps := 1000000) only [push_cast, reduceCtorEq, Nat.reduceAdd, Nat.reduceMul, Nat.reduceSub, Nat.reduceBEq, Nat.reduceGT, Nat.reduceLT, Int.toNat_zero, Nat.reduceLeDiff, Int.reduceEq, Int.reduceLT, Int.reduceLE, hP, hΓ, hL, hfin, String.reduceEq, not_false_eq_true, if_true])
      exact Into.one rfl rfl
    · have : alnum c = true := by
        rw [alnum]
        rcases h with h | h <;> rw [h] <;> simp
      rw [this] at hp
      have hlt : n < W := of_decide_eq_true hp.symm
      ((first | with_reducible refine holds_of_ex X 400 _ _ _ ?_ | skip); simp (maxSteps := 1000000) only [push_cast, reduceCtorEq, Nat.reduceAdd, Nat.reduceMul, Nat.reduceSub, Nat.reduceBEq, Nat.reduceGT, Nat.reduceLT, Int.toNat_zero, Nat.reduceLeDiff, Int.reduceEq, Int.reduceLT, Int.reduceLE, hP, hΓ, hL, hfin, String.reduceEq, not_false_eq_true, if_true, wr_i64 ((n : Int) + 1) (by constructor <;> omega)])
      refine ⟨⟨n + 1, by omega⟩, by simp only; omega, ?_⟩
      exact Into.sameA
  · obtain rfl : n = W := by omega
    ((first | with_reducible refine holds_of_ex X 400 _ _ _ ?_ | skip); simp (maxSteps := 1000000) only [push_cast, reduceCtorEq, Nat.reduceAdd, Nat.reduceMul, Nat.reduceSub, Nat.reduceBEq, Nat.reduceGT, Nat.reduceLT, Int.toNat_zero, Nat.reduceLeDiff, Int.reduceEq, Int.reduceLT, Int.reduceLE, hP, hΓ, hL, hfin, String.reduceEq, not_false_eq_true, if_true])
    exact Into.one rfl rfl
theorem con29 {Γ : Env} (h : EnvOk Tryz.prog Γ) (h30 : Γ 30 = some S30) (h31 : Γ 31 = some S31) : Con Tryz.prog 29 S29 :=
  funS_con h (fn := Tryz.f29) (by kernel_rfl) rfl (by kernel_rfl) inj29 (by first | (intro h; cases h; done) | exact fun _ _ => rfl) fun ⟨s, k⟩ h => body29 Γ h30 h31 s k h.1 h.2
def e28 : (Bytes) × (Nat) → List AV := fun (s, k) => [.str s, .int .i64 k]
def p28 : (Bytes) × (Nat) → Prop := fun (s, k) => k ≤ s.length ∧ s.length ≤ 4194304 ∧ sta s k [40, 42] = true
def r28 : (Bytes) × (Nat) → AV := fun (s, k) => .int .i64 (remP s k 0)
def g28 : (Bytes) × (Nat) → Heap := fun (s, k) => []
theorem inj28 : ∀ a b, e28 a = e28 b → a = b := by
  rintro ⟨s, k⟩ ⟨s', k'⟩ h
  simp only [e28, mi_iff, ms_iff, mb_iff, my_iff, UInt8.toNat_inj, List.cons.injEq, AV.int.injEq, AV.str.injEq, AV.bool.injEq, AV.sl.injEq, AV.agg.injEq, AV.ip.injEq, AV.fn.injEq, AV.ifc.injEq, AV.mpr.injEq, Int.natCast_inj, and_true, true_and] at h
  simp_all only
noncomputable def S28 : FSpec := funS e28 p28 r28 g28 true
theorem ps28 (s : (Bytes)) (k : (Nat)) : psel e28 p28 [.str s, .int .i64 k] = (k ≤ s.length ∧ s.length ≤ 4194304 ∧ sta s k [40, 42] = true) := psel_at inj28 p28 (s, k)
theorem rs28 (s : (Bytes)) (k : (Nat)) : rsel e28 r28 .any [.str s, .int .i64 k] = (.int .i64 (remP s k 0)) := rsel_at inj28 r28 .any (s, k)
theorem hs28 (s : (Bytes)) (k : (Nat)) : rsel e28 g28 [] [.str s, .int .i64 k] = ([]) := rsel_at inj28 g28 [] (s, k)
attribute [push_cast] S28 ps28 rs28 hs28
theorem body28 (Γ : Env) (h27 : Γ 27 = some S27) (s : Bytes) (k : Nat) (hk : k ≤ s.length) (hl : s.length ≤ 4194304) (hr : sta s k [40, 42] = true) : BodyOk Tryz.prog Γ Tryz.f28 (e28 (s, k)) [] (.int .i64 (remP s k 0)) [] := by
  obtain ⟨R, hR⟩ : ∃ R, R = remP s k 0 := ⟨_, rfl⟩
  rw [← hR]
  (intro X hP hΓ hL hfin; refine ⟨_, rfl, ?_⟩; rw [show Tryz.f28.ntmps = 35 from rfl]; rw [show Tryz.f28.results.toList = [.tmp 4] from rfl] at hfin; apply holds_of_ex X 400; simp (maxSteps := 1000000) only [push_cast, reduceCtorEq, Nat.reduceAdd, Nat.reduceMul, Nat.reduceSub, Nat.reduceBEq, Nat.reduceGT, Nat.reduceLT, Int.toNat_zero, Nat.reduceLeDiff, Int.reduceEq, Int.reduceLT, Int.reduceLE, hP, hΓ, hL, hfin, String.reduceEq, not_false_eq_true, if_true, e28])
  refine Holds.loopM (ι := {x : Nat × Nat // x.1 ≤ s.length ∧ x.2 ≤ x.1 ∧ remP s x.1 x.2 = R ∧ (x.2 = 0 → x.1 = k)}) [true, false, false, false, false, false, false, false, false, false, false, false, false, false, false, false, false, false, false, false, false, false, false, false, false, false, false, false, false, false, false, false, false, false, false] (fun i => [(1, .int .i64 i.1.1), (5, .int .i64 i.1.2)]) (fun i => []) (fun i => s.length - i.1.1) ⟨(k, 0), hk, Nat.zero_le _, hR.symm, fun _ => rfl⟩ ?_ ?_
  · (rw [hL]; simp only [push_cast, Int.natCast_zero]; exact Into.sameA)
  rintro ⟨⟨a, d⟩, ha, hda, he, h0⟩
  simp only at ha hda he h0
  ((first | with_reducible refine holds_of_ex X 400 _ _ _ ?_ | skip); simp (maxSteps := 1000000) only [push_cast, reduceCtorEq, Nat.reduceAdd, Nat.reduceMul, Nat.reduceSub, Nat.reduceBEq, Nat.reduceGT, Nat.reduceLT, Int.toNat_zero, Nat.reduceLeDiff, Int.reduceEq, Int.reduceLT, Int.reduceLE, hP, hΓ, hL, hfin, String.reduceEq, not_false_eq_true, if_true])
  ((with_reducible refine exB_split (fun h => ?_) (fun h => ?_)) <;> (try simp only [decide_eq_true_eq, decide_eq_false_iff_not, Bool.and_eq_true, Bool.or_eq_true, Bool.and_eq_false_iff, Bool.or_eq_false_iff, Bool.not_eq_true', Bool.not_eq_false', Bool.not_eq_true, Bool.not_eq_false, Int.not_lt, Int.not_le, beq_iff_eq, beq_eq_false_iff_ne, ne_eq] at h))
  · have ha' : a < s.length := by omega
    ((first | with_reducible refine holds_of_ex X 400 _ _ _ ?_ | skip); simp (maxSteps := 1000000) only [push_cast, reduceCtorEq, Nat.reduceAdd, Nat.reduceMul, Nat.reduceSub, Nat.reduceBEq, Nat.reduceGT, Nat.reduceLT, Int.toNat_zero, Nat.reduceLeDiff, Int.reduceEq, Int.reduceLT, Int.reduceLE, hP, hΓ, hL, hfin, String.reduceEq, not_false_eq_true, if_true, h27])
    refine ⟨⟨ha, hl⟩, ⟨ha, hl⟩, ?_⟩
    ((with_reducible refine exB_split (fun h => ?_) (fun h => ?_)) <;> (try simp only [decide_eq_true_eq, decide_eq_false_iff_not, Bool.and_eq_true, Bool.or_eq_true, Bool.and_eq_false_iff, Bool.or_eq_false_iff, Bool.not_eq_true', Bool.not_eq_false', Bool.not_eq_true, Bool.not_eq_false, Int.not_lt, Int.not_le, beq_iff_eq, beq_eq_false_iff_ne, ne_eq] at h))
    · have hs := (sta_true h).1
      have ho := remP_open (d := d) h
      ((first | with_reducible refine holds_of_ex X 400 _ _ _ ?_ | skip); simp (maxSteps := 1000000) only [push_cast, reduceCtorEq, Nat.reduceAdd, Nat.reduceMul, Nat.reduceSub, Nat.reduceBEq, Nat.reduceGT, Nat.reduceLT, Int.toNat_zero, Nat.reduceLeDiff, Int.reduceEq, Int.reduceLT, Int.reduceLE, hP, hΓ, hL, hfin, String.reduceEq, not_false_eq_true, if_true, wr_i64 ((a : Int) + 2) (by constructor <;> omega), wr_i64 ((d : Int) + 1) (by constructor <;> omega)])
      refine ⟨⟨(a + 2, d + 1), by simp only; omega, by simp only; omega, by simp only; rw [← ho, he], by simp⟩, by simp only; omega, ?_⟩
      exact Into.sameA
    have hno := h
    obtain ⟨e, rfl⟩ : ∃ e, d = e + 1 := by
      cases d with
      | zero => rw [h0 rfl, hr] at hno; cases hno
      | succ e => exact ⟨e, rfl⟩
    have hde : IntKind.i64.wrap ((e : Int) + 1 - 1) = (e : Int) := by rw [wr_i64 _ (by constructor <;> omega)]; omega
    ((first | with_reducible refine holds_of_ex X 400 _ _ _ ?_ | skip); simp (maxSteps := 1000000) only [push_cast, reduceCtorEq, Nat.reduceAdd, Nat.reduceMul, Nat.reduceSub, Nat.reduceBEq, Nat.reduceGT, Nat.reduceLT, Int.toNat_zero, Nat.reduceLeDiff, Int.reduceEq, Int.reduceLT, Int.reduceLE, hP, hΓ, hL, hfin, String.reduceEq, not_false_eq_true, if_true])
    ((with_reducible refine exB_split (fun h => ?_) (fun h => ?_)) <;> (try simp only [decide_eq_true_eq, decide_eq_false_iff_not, Bool.and_eq_true, Bool.or_eq_true, Bool.and_eq_false_iff, Bool.or_eq_false_iff, Bool.not_eq_true', Bool.not_eq_false', Bool.not_eq_true, Bool.not_eq_false, Int.not_lt, Int.not_le, beq_iff_eq, beq_eq_false_iff_ne, ne_eq] at h))
    · have hs := (sta_true h).1
      have hcl := h
      ((first | with_reducible refine holds_of_ex X 400 _ _ _ ?_ | skip); simp (maxSteps := 1000000) only [push_cast, reduceCtorEq, Nat.reduceAdd, Nat.reduceMul, Nat.reduceSub, Nat.reduceBEq, Nat.reduceGT, Nat.reduceLT, Int.toNat_zero, Nat.reduceLeDiff, Int.reduceEq, Int.reduceLT, Int.reduceLE, hP, hΓ, hL, hfin, String.reduceEq, not_false_eq_true, if_true, wr_i64 ((a : Int) + 2) (by constructor <;> omega), hde])
      ((with_reducible refine exB_split (fun h => ?_) (fun h => ?_)) <;> (try simp only [decide_eq_true_eq, decide_eq_false_iff_not, Bool.and_eq_true, Bool.or_eq_true, Bool.and_eq_false_iff, Bool.or_eq_false_iff, Bool.not_eq_true', Bool.not_eq_false', Bool.not_eq_true, Bool.not_eq_false, Int.not_lt, Int.not_le, beq_iff_eq, beq_eq_false_iff_ne, ne_eq] at h))
      · obtain rfl : e = 0 := by omega
        have hre := remP_end hcl
        rw [show (0 + 1 : Nat) = 1 from rfl, hre] at he
        subst he
        ((first | with_reducible refine holds_of_ex X 400 _ _ _ ?_ | skip); simp (maxSteps := 1000000) only [push_cast, reduceCtorEq, Nat.reduceAdd, Nat.reduceMul, Nat.reduceSub, Nat.reduceBEq, Nat.reduceGT, Nat.reduceLT, Int.toNat_zero, Nat.reduceLeDiff, Int.reduceEq, Int.reduceLT, Int.reduceLE, hP, hΓ, hL, hfin, String.reduceEq, not_false_eq_true, if_true, wr_i64 ((a : Int) + 2) (by constructor <;> omega)])
        exact Into.one (by simp only [AV.int.injEq, true_and]; omega) rfl
      · have hre := remP_close (d := e + 1) hcl (by omega)
        ((first | with_reducible refine holds_of_ex X 400 _ _ _ ?_ | skip); simp (maxSteps := 1000000) only [push_cast, reduceCtorEq, Nat.reduceAdd, Nat.reduceMul, Nat.reduceSub, Nat.reduceBEq, Nat.reduceGT, Nat.reduceLT, Int.toNat_zero, Nat.reduceLeDiff, Int.reduceEq, Int.reduceLT, Int.reduceLE, hP, hΓ, hL, hfin, String.reduceEq, not_false_eq_true, if_true, wr_i64 ((a : Int) + 2) (by constructor <;> omega)])
        refine ⟨⟨(a + 2, e), by simp only; omega, by simp only; omega, by simp only; rw [← he, hre]; rfl, fun h => by simp only at h; omega⟩, by simp only; omega, ?_⟩
        exact Into.sameA
    · have hot := remP_other (d := e + 1) ha' hno h
      ((first | with_reducible refine holds_of_ex X 400 _ _ _ ?_ | skip); simp (maxSteps := 1000000) only [push_cast, reduceCtorEq, Nat.reduceAdd, Nat.reduceMul, Nat.reduceSub, Nat.reduceBEq, Nat.reduceGT, Nat.reduceLT, Int.toNat_zero, Nat.reduceLeDiff, Int.reduceEq, Int.reduceLT, Int.reduceLE, hP, hΓ, hL, hfin, String.reduceEq, not_false_eq_true, if_true, wr_i64 ((a : Int) + 1) (by constructor <;> omega)])
      refine ⟨⟨(a + 1, e + 1), by simp only; omega, by simp only; omega, by simp only; rw [← hot, he], by simp⟩, by simp only; omega, ?_⟩
      exact Into.sameA
  · rw [remP_nil (by omega)] at he
    subst he
    ((first | with_reducible refine holds_of_ex X 400 _ _ _ ?_ | skip); simp (maxSteps := 1000000) only [push_cast, reduceCtorEq, Nat.reduceAdd, Nat.reduceMul, Nat.reduceSub, Nat.reduceBEq, Nat.reduceGT, Nat.reduceLT, Int.toNat_zero, Nat.reduceLeDiff, Int.reduceEq, Int.reduceLT, Int.reduceLE, hP, hΓ, hL, hfin, String.reduceEq, not_false_eq_true, if_true])
    exact Into.one rfl rfl
theorem con28 {Γ : Env} (h : EnvOk Tryz.prog Γ) (h27 : Γ 27 = some S27) : Con Tryz.prog 28 S28 :=
  funS_con h (fn := Tryz.f28) (by kernel_rfl) rfl (by kernel_rfl) inj28 (by first | (intro h; cases h; done) | exact fun _ _ => rfl) fun ⟨s, k⟩ h => body28 Γ h27 s k h.1 h.2.1 h.2.2
theorem blank_iff (c : UInt8) : Go.Scan.blank c = true ↔ ((((c.toNat : Int) = 32 ∨ (c.toNat : Int) = 9) ∨ (c.toNat : Int) = 10) ∨ (c.toNat : Int) = 13) := by
  have e : ∀ n : Nat, n < 256 → (c = UInt8.ofNat n ↔ (c.toNat : Int) = n) := fun n hn => by
    rw [← UInt8.toNat_inj, UInt8.toNat_ofNat_of_lt' hn]; omega
  have e1 := e 32 (by decide)
  have e2 := e 9 (by decide)
  have e3 := e 10 (by decide)
  have e4 := e 13 (by decide)
  simp only [Go.Scan.blank, Bool.or_eq_true, beq_iff_eq]
  exact or_congr (or_congr (or_congr e1 e2) e3) e4
def e13 : (Bytes) × (Nat) → List AV := fun (s, k) => [.str s, .int .i64 k]
def p13 : (Bytes) × (Nat) → Prop := fun (s, k) => k ≤ s.length ∧ s.length ≤ 4194304
def r13 : (Bytes) × (Nat) → AV := fun (s, k) => .tup [.int .i64 (blP s k).1, .bool (blP s k).2]
def g13 : (Bytes) × (Nat) → Heap := fun (s, k) => []
theorem inj13 : ∀ a b, e13 a = e13 b → a = b := by
  rintro ⟨s, k⟩ ⟨s', k'⟩ h
  simp only [e13, mi_iff, ms_iff, mb_iff, my_iff, UInt8.toNat_inj, List.cons.injEq, AV.int.injEq, AV.str.injEq, AV.bool.injEq, AV.sl.injEq, AV.agg.injEq, AV.ip.injEq, AV.fn.injEq, AV.ifc.injEq, AV.mpr.injEq, Int.natCast_inj, and_true, true_and] at h
  simp_all only
noncomputable def S13 : FSpec := funS e13 p13 r13 g13 true
theorem ps13 (s : (Bytes)) (k : (Nat)) : psel e13 p13 [.str s, .int .i64 k] = (k ≤ s.length ∧ s.length ≤ 4194304) := psel_at inj13 p13 (s, k)
theorem rs13 (s : (Bytes)) (k : (Nat)) : rsel e13 r13 .any [.str s, .int .i64 k] = (.tup [.int .i64 (blP s k).1, .bool (blP s k).2]) := rsel_at inj13 r13 .any (s, k)
theorem hs13 (s : (Bytes)) (k : (Nat)) : rsel e13 g13 [] [.str s, .int .i64 k] = ([]) := rsel_at inj13 g13 [] (s, k)
attribute [push_cast] S13 ps13 rs13 hs13
theorem body13 (Γ : Env) (h27 : Γ 27 = some S27) (h28 : Γ 28 = some S28) (s : Bytes) (k : Nat) (hk : k ≤ s.length) (hl : s.length ≤ 4194304) : BodyOk Tryz.prog Γ Tryz.f13 (e13 (s, k)) [] (.tup [.int .i64 (blP s k).1, .bool (blP s k).2]) [] := by
  obtain ⟨R, hR⟩ : ∃ R, R = blP s k := ⟨_, rfl⟩
  rw [← hR]
  (intro X hP hΓ hL hfin; refine ⟨_, rfl, ?_⟩; rw [show Tryz.f13.ntmps = 47 from rfl]; rw [show Tryz.f13.results.toList = [.tmp 4, .tmp 5] from rfl] at hfin; apply holds_of_ex X 400; simp (maxSteps := 1000000) only [push_cast, reduceCtorEq, Nat.reduceAdd, Nat.reduceMul, Nat.reduceSub, Nat.reduceBEq, Nat.reduceGT, Nat.reduceLT, Int.toNat_zero, Nat.reduceLeDiff, Int.reduceEq, Int.reduceLT, Int.reduceLE, hP, hΓ, hL, hfin, String.reduceEq, not_false_eq_true, if_true, e13])
  refine Holds.loopM (ι := {a : Nat // a ≤ s.length ∧ blP s a = R}) [true, false, false, false, false, false, false, false, false, false, false, false, false, false, false, false, false, false, false, false, false, false, false, false, false, false, false, false, false, false, false, false, false, false, false, false, false, false, false, false, false, false, false, false, false, false, false] (fun i => [(1, .int .i64 i.1)]) (fun i => []) (fun i => s.length - i.1) ⟨k, hk, hR.symm⟩ ?_ ?_
  · (rw [hL]; simp only [push_cast, Int.natCast_zero]; exact Into.sameA)
  rintro ⟨a, ha, he⟩
  ((first | with_reducible refine holds_of_ex X 400 _ _ _ ?_ | skip); simp (maxSteps := 1000000) only [push_cast, reduceCtorEq, Nat.reduceAdd, Nat.reduceMul, Nat.reduceSub, Nat.reduceBEq, Nat.reduceGT, Nat.reduceLT, Int.toNat_zero, Nat.reduceLeDiff, Int.reduceEq, Int.reduceLT, Int.reduceLE, hP, hΓ, hL, hfin, String.reduceEq, not_false_eq_true, if_true])
  ((with_reducible refine exB_split (fun h => ?_) (fun h => ?_)) <;> (try simp only [decide_eq_true_eq, decide_eq_false_iff_not, Bool.and_eq_true, Bool.or_eq_true, Bool.and_eq_false_iff, Bool.or_eq_false_iff, Bool.not_eq_true', Bool.not_eq_false', Bool.not_eq_true, Bool.not_eq_false, Int.not_lt, Int.not_le, beq_iff_eq, beq_eq_false_iff_ne, ne_eq] at h))
  · have ha' : a < s.length := by omega
    have hb1 := blP_blank ha'
    have hb2 := blP_other ha'
    ((first | with_reducible refine holds_of_ex X 400 _ _ _ ?_ | skip); simp (maxSteps := 1000000) only [push_cast, reduceCtorEq, Nat.reduceAdd, Nat.reduceMul, Nat.reduceSub, Nat.reduceBEq, Nat.reduceGT, Nat.reduceLT, Int.toNat_zero, Nat.reduceLeDiff, Int.reduceEq, Int.reduceLT, Int.reduceLE, hP, hΓ, hL, hfin, String.reduceEq, not_false_eq_true, if_true, h27])
    generalize s.getD a 0 = c at *
    refine ⟨by omega, ⟨by omega, hl⟩, ?_⟩
    ((with_reducible refine exB_split (fun h => ?_) (fun h => ?_)) <;> (try simp only [decide_eq_true_eq, decide_eq_false_iff_not, Bool.and_eq_true, Bool.or_eq_true, Bool.and_eq_false_iff, Bool.or_eq_false_iff, Bool.not_eq_true', Bool.not_eq_false', Bool.not_eq_true, Bool.not_eq_false, Int.not_lt, Int.not_le, beq_iff_eq, beq_eq_false_iff_ne, ne_eq] at h))
    · have hc : Go.Scan.blank c = true := by
        rw [blank_iff]; omega
      rw [hb1 hc] at he
      ((first | with_reducible refine holds_of_ex X 400 _ _ _ ?_ | skip); simp (maxSteps := 1000000) only [push_cast, reduceCtorEq, Nat.reduceAdd, Nat.reduceMul, Nat.reduceSub, Nat.reduceBEq, Nat.reduceGT, Nat.reduceLT, Int.toNat_zero, Nat.reduceLeDiff, Int.reduceEq, Int.reduceLT, Int.reduceLE, hP, hΓ, hL, hfin, String.reduceEq, not_false_eq_true, if_true, wr_i64 ((a : Int) + 1) (by constructor <;> omega)])
      refine ⟨⟨a + 1, by omega, he⟩, by simp only; omega, ?_⟩
      exact Into.sameA
    have hc : Go.Scan.blank c = false := by
      rw [Bool.eq_false_iff, Ne, blank_iff]; omega
    ((first | with_reducible refine holds_of_ex X 400 _ _ _ ?_ | skip); simp (maxSteps := 1000000) only [push_cast, reduceCtorEq, Nat.reduceAdd, Nat.reduceMul, Nat.reduceSub, Nat.reduceBEq, Nat.reduceGT, Nat.reduceLT, Int.toNat_zero, Nat.reduceLeDiff, Int.reduceEq, Int.reduceLT, Int.reduceLE, hP, hΓ, hL, hfin, String.reduceEq, not_false_eq_true, if_true])
    ((with_reducible refine exB_split (fun h => ?_) (fun h => ?_)) <;> (try simp only [decide_eq_true_eq, decide_eq_false_iff_not, Bool.and_eq_true, Bool.or_eq_true, Bool.and_eq_false_iff, Bool.or_eq_false_iff, Bool.not_eq_true', Bool.not_eq_false', Bool.not_eq_true, Bool.not_eq_false, Int.not_lt, Int.not_le, beq_iff_eq, beq_eq_false_iff_ne, ne_eq] at h))
    · have hs := (sta_true h).1
      have hre := blP_rem h
      have hle := remP_le (s := s) (k := a) (by omega)
      have hop := h
      ((first | with_reducible refine holds_of_ex X 400 _ _ _ ?_ | skip); simp (maxSteps := 1000000) only [push_cast, reduceCtorEq, Nat.reduceAdd, Nat.reduceMul, Nat.reduceSub, Nat.reduceBEq, Nat.reduceGT, Nat.reduceLT, Int.toNat_zero, Nat.reduceLeDiff, Int.reduceEq, Int.reduceLT, Int.reduceLE, hP, hΓ, hL, hfin, String.reduceEq, not_false_eq_true, if_true, h28])
      generalize remP s a 0 = q at *
      refine ⟨⟨by omega, hl, hop⟩, ?_⟩
      ((with_reducible refine exB_split (fun h => ?_) (fun h => ?_)) <;> (try simp only [decide_eq_true_eq, decide_eq_false_iff_not, Bool.and_eq_true, Bool.or_eq_true, Bool.and_eq_false_iff, Bool.or_eq_false_iff, Bool.not_eq_true', Bool.not_eq_false', Bool.not_eq_true, Bool.not_eq_false, Int.not_lt, Int.not_le, beq_iff_eq, beq_eq_false_iff_ne, ne_eq] at h))
      · rw [if_pos h] at hre
        rw [hre] at he
        subst he
        ((first | with_reducible refine holds_of_ex X 400 _ _ _ ?_ | skip); simp (maxSteps := 1000000) only [push_cast, reduceCtorEq, Nat.reduceAdd, Nat.reduceMul, Nat.reduceSub, Nat.reduceBEq, Nat.reduceGT, Nat.reduceLT, Int.toNat_zero, Nat.reduceLeDiff, Int.reduceEq, Int.reduceLT, Int.reduceLE, hP, hΓ, hL, hfin, String.reduceEq, not_false_eq_true, if_true])
        exact Into.one rfl rfl
      · rw [if_neg (by omega)] at hre
        obtain ⟨g1, g2⟩ := hle h
        obtain ⟨m, rfl⟩ := Int.eq_ofNat_of_zero_le h
        ((first | with_reducible refine holds_of_ex X 400 _ _ _ ?_ | skip); simp (maxSteps := 1000000) only [push_cast, reduceCtorEq, Nat.reduceAdd, Nat.reduceMul, Nat.reduceSub, Nat.reduceBEq, Nat.reduceGT, Nat.reduceLT, Int.toNat_zero, Nat.reduceLeDiff, Int.reduceEq, Int.reduceLT, Int.reduceLE, hP, hΓ, hL, hfin, String.reduceEq, not_false_eq_true, if_true])
        refine ⟨⟨m, by omega, by rw [← he, hre]; rfl⟩, by simp only; omega, ?_⟩
        exact Into.sameA
    · rw [hb2 hc h] at he
      subst he
      ((first | with_reducible refine holds_of_ex X 400 _ _ _ ?_ | skip); simp (maxSteps := 1000000) only [push_cast, reduceCtorEq, Nat.reduceAdd, Nat.reduceMul, Nat.reduceSub, Nat.reduceBEq, Nat.reduceGT, Nat.reduceLT, Int.toNat_zero, Nat.reduceLeDiff, Int.reduceEq, Int.reduceLT, Int.reduceLE, hP, hΓ, hL, hfin, String.reduceEq, not_false_eq_true, if_true])
      exact Into.one rfl rfl
  · rw [blP_nil (by omega)] at he
    subst he
    ((first | with_reducible refine holds_of_ex X 400 _ _ _ ?_ | skip); simp (maxSteps := 1000000) only [push_cast, reduceCtorEq, Nat.reduceAdd, Nat.reduceMul, Nat.reduceSub, Nat.reduceBEq, Nat.reduceGT, Nat.reduceLT, Int.toNat_zero, Nat.reduceLeDiff, Int.reduceEq, Int.reduceLT, Int.reduceLE, hP, hΓ, hL, hfin, String.reduceEq, not_false_eq_true, if_true])
    exact Into.one rfl rfl
theorem con13 {Γ : Env} (h : EnvOk Tryz.prog Γ) (h27 : Γ 27 = some S27) (h28 : Γ 28 = some S28) : Con Tryz.prog 13 S13 :=
  funS_con h (fn := Tryz.f13) (by kernel_rfl) rfl (by kernel_rfl) inj13 (by first | (intro h; cases h; done) | exact fun _ _ => rfl) fun ⟨s, k⟩ h => body13 Γ h27 h28 s k h.1 h.2
end Go.Proofs.YtlehfbdkjkgaeaaGreatDoor.scanRef
