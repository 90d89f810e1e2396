/- Of sources: what the statements call beside All. Conditions stand in each. -/
import Derived.Test.YtlehfbdkjkgaeaaGreatDoorSC
import Derived.Test.YtlehfbdkjkgaeaaGreatDoorEng21
namespace Go.Proofs.YtlehfbdkjkgaeaaGreatDoor.scanDone
open Go Go.Eng Go.Proofs Go.Scan Go.RowKit
set_option linter.unusedVariables false
set_option linter.unusedSimpArgs false
set_option maxRecDepth 100000
set_option maxHeartbeats 4000000

namespace Fz
/-- All, its answer laid fast -/
def rF (s : Bytes) : AV := if okS s then .tup [.sl ((toks s).flatMap Tk.c) (toks s).length, .int .i64 0, .int .i64 0] else .tup [.lit (.slice none 0 0), .int .i64 (badP s), .int .i64 (badE s)]
def e7 : (Bytes) → List AV := fun s => [.str s]
def p7 : (Bytes) → Prop := fun s => s.length ≤ 4194304
def r7 : (Bytes) → AV := fun s => rF s
def g7 : (Bytes) → Heap := fun s => []
theorem inj7 : ∀ a b, e7 a = e7 b → a = b := by
  rintro s s' h
  simp only [e7, tk_iff, mi_iff, ms_iff, mb_iff, my_iff, UInt8.toNat_inj, List.cons.injEq, AV.int.injEq, AV.str.injEq, AV.bool.injEq, AV.sl.injEq, AV.agg.injEq, AV.ip.injEq, AV.fn.injEq, AV.ifc.injEq, AV.mpr.injEq, Int.natCast_inj, and_true, true_and] at h
  simp_all only
noncomputable def S7 : FSpec := funS e7 p7 r7 g7 true
theorem ps7 (s : (Bytes)) : psel e7 p7 [.str s] = (s.length ≤ 4194304) := psel_at inj7 p7 s
theorem rs7 (s : (Bytes)) : rsel e7 r7 .any [.str s] = (rF s) := rsel_at inj7 r7 .any s
theorem hs7 (s : (Bytes)) : rsel e7 g7 [] [.str s] = ([]) := rsel_at inj7 g7 [] s
attribute [push_cast] S7 ps7 rs7 hs7
theorem body7 (Γ : Env) (h12 : Γ 8 = some S12) (h13 : Γ 9 = some S13) (h14 : Γ 10 = some S14) (h15 : Γ 11 = some S15) (h16 : Γ 12 = some S16) (s : Bytes) (hl : s.length ≤ 4194304) : BodyOk Tryz.prog Γ Tryz.f4 (e7 s) [] (rF s) [] := by
  refine BodyOk.weak (scanDone.body7 Γ h12 h13 h14 h15 h16 s hl) ?_
  unfold rA gA rF
  by_cases ho : okS s
  · simp only [if_pos ho]
    (refine IntoF.frz 0 (by simp only [push_cast, reduceCtorEq, Nat.reduceAdd, Nat.reduceMul, Nat.reduceSub, Nat.reduceBEq, Nat.reduceGT, Nat.reduceLT, Int.toNat_zero, Nat.reduceLeDiff, Int.reduceEq, Int.reduceLT, Int.reduceLE]; first | done | decide | omega) (by simp only [frzOk', frzOk, isMap, or_true, true_or, push_cast, reduceCtorEq, Nat.reduceAdd, Nat.reduceMul, Nat.reduceSub, Nat.reduceBEq, Nat.reduceGT, Nat.reduceLT, Int.toNat_zero, Nat.reduceLeDiff, Int.reduceEq, Int.reduceLT, Int.reduceLE]) ?_; simp only [push_cast, reduceCtorEq, Nat.reduceAdd, Nat.reduceMul, Nat.reduceSub, Nat.reduceBEq, Nat.reduceGT, Nat.reduceLT, Int.toNat_zero, Nat.reduceLeDiff, Int.reduceEq, Int.reduceLT, Int.reduceLE])
    simp only [tk_fm]
    exact Into.keep0A
  · simp only [if_neg ho]
    exact Into.sameA
theorem con7 {Γ : Env} (h : EnvOk Tryz.prog Γ) (h12 : Γ 8 = some S12) (h13 : Γ 9 = some S13) (h14 : Γ 10 = some S14) (h15 : Γ 11 = some S15) (h16 : Γ 12 = some S16) : Con Tryz.prog 4 S7 :=
  funS_con h (fn := Tryz.f4) (by kernel_rfl) rfl (by kernel_rfl) inj7 (by first | (intro h; cases h; done) | exact fun _ _ => rfl) fun s hs => body7 Γ h12 h13 h14 h15 h16 s hs
end Fz
def e11 : (List Tk) × (Nat) × (List Tk) × (Nat) → List AV := fun (a, n, b, m) => [.sl (a.flatMap Tk.c) n, .sl (b.flatMap Tk.c) m]
def p11 : (List Tk) × (Nat) × (List Tk) × (Nat) → Prop := fun (a, n, b, m) => n = a.length ∧ m = b.length ∧ n ≤ 4194304 ∧ m ≤ 4194304
def r11 : (List Tk) × (Nat) × (List Tk) × (Nat) → AV := fun (a, n, b, m) => .bool (decide (a = b))
def g11 : (List Tk) × (Nat) × (List Tk) × (Nat) → Heap := fun (a, n, b, m) => []
theorem inj11 : ∀ a b, e11 a = e11 b → a = b := by
  rintro ⟨a, n, b, m⟩ ⟨a', n', b', m'⟩ h
  simp only [e11, tk_iff, mi_iff, ms_iff, mb_iff, my_iff, UInt8.toNat_inj, List.cons.injEq, AV.int.injEq, AV.str.injEq, AV.bool.injEq, AV.sl.injEq, AV.agg.injEq, AV.ip.injEq, AV.fn.injEq, AV.ifc.injEq, AV.mpr.injEq, Int.natCast_inj, and_true, true_and] at h
  simp_all only
noncomputable def S11 : FSpec := funS e11 p11 r11 g11 true
theorem ps11 (a : (List Tk)) (n : (Nat)) (b : (List Tk)) (m : (Nat)) : psel e11 p11 [.sl (a.flatMap Tk.c) n, .sl (b.flatMap Tk.c) m] = (n = a.length ∧ m = b.length ∧ n ≤ 4194304 ∧ m ≤ 4194304) := psel_at inj11 p11 (a, n, b, m)
theorem rs11 (a : (List Tk)) (n : (Nat)) (b : (List Tk)) (m : (Nat)) : rsel e11 r11 .any [.sl (a.flatMap Tk.c) n, .sl (b.flatMap Tk.c) m] = (.bool (decide (a = b))) := rsel_at inj11 r11 .any (a, n, b, m)
theorem hs11 (a : (List Tk)) (n : (Nat)) (b : (List Tk)) (m : (Nat)) : rsel e11 g11 [] [.sl (a.flatMap Tk.c) n, .sl (b.flatMap Tk.c) m] = ([]) := rsel_at inj11 g11 [] (a, n, b, m)
attribute [push_cast] S11 ps11 rs11 hs11
theorem body11 (Γ : Env) (a b : List Tk) (ha : a.length ≤ 4194304) (hb : b.length ≤ 4194304) : BodyOk Tryz.prog Γ Tryz.f6 (e11 (a, a.length, b, b.length)) [] (.bool (decide (a = b))) [] := by
  (intro X hP hΓ hL hfin; refine ⟨_, rfl, ?_⟩; rw [show Tryz.f6.ntmps = 26 from rfl]; rw [show Tryz.f6.results.toList = [.tmp 4] from rfl] at hfin; apply holds_of_ex X 400; simp (maxSteps := 1000000) only [push_cast, reduceCtorEq, Nat.reduceAdd, Nat.reduceMul, Nat.reduceSub, Nat.reduceBEq, Nat.reduceGT, Nat.reduceLT, Int.toNat_zero, Nat.reduceLeDiff, Int.reduceEq, Int.reduceLT, Int.reduceLE, hP, hΓ, hL, hfin, String.reduceEq, not_false_eq_true, if_true, e11])
  ((with_reducible refine exB_split (fun h => ?_) (fun h => ?_)) <;> (try simp only [decide_eq_true_eq, decide_eq_false_iff_not, Bool.and_eq_true, Bool.or_eq_true, Bool.and_eq_false_iff, Bool.or_eq_false_iff, Bool.not_eq_true', Bool.not_eq_false', Bool.not_eq_true, Bool.not_eq_false, Int.not_lt, Int.not_le, beq_iff_eq, beq_eq_false_iff_ne, ne_eq] at h))
  · have hne : a ≠ b := fun e => h (by rw [e])
    ((first | with_reducible refine holds_of_ex X 400 _ _ _ ?_ | skip); simp (maxSteps := 1000000) only [push_cast, reduceCtorEq, Nat.reduceAdd, Nat.reduceMul, Nat.reduceSub, Nat.reduceBEq, Nat.reduceGT, Nat.reduceLT, Int.toNat_zero, Nat.reduceLeDiff, Int.reduceEq, Int.reduceLT, Int.reduceLE, hP, hΓ, hL, hfin, String.reduceEq, not_false_eq_true, if_true])
    rw [decide_eq_false hne]
    exact Into.sameA
  have hlen : a.length = b.length := by omega
  ((first | with_reducible refine holds_of_ex X 400 _ _ _ ?_ | skip); simp (maxSteps := 1000000) only [push_cast, reduceCtorEq, Nat.reduceAdd, Nat.reduceMul, Nat.reduceSub, Nat.reduceBEq, Nat.reduceGT, Nat.reduceLT, Int.toNat_zero, Nat.reduceLeDiff, Int.reduceEq, Int.reduceLT, Int.reduceLE, hP, hΓ, hL, hfin, String.reduceEq, not_false_eq_true, if_true])
  refine Holds.loopM (ι := {k : Nat // k ≤ a.length ∧ a.take k = b.take k}) [true, true, false, false, false, false, false, false, false, false, false, false, false, false, false, false, false, false, false, false, false, false, false, false, false, false] (fun i => [(5, .int .i64 i.1)]) (fun i => []) (fun i => a.length - i.1) ⟨0, Nat.zero_le _, by simp⟩ ?_ ?_
  · (rw [hL]; simp only [push_cast, Int.natCast_zero]; exact Into.sameA)
  rintro ⟨k, hk, he⟩
  ((first | with_reducible refine holds_of_ex X 400 _ _ _ ?_ | skip); simp (maxSteps := 1000000) only [push_cast, reduceCtorEq, Nat.reduceAdd, Nat.reduceMul, Nat.reduceSub, Nat.reduceBEq, Nat.reduceGT, Nat.reduceLT, Int.toNat_zero, Nat.reduceLeDiff, Int.reduceEq, Int.reduceLT, Int.reduceLE, hP, hΓ, hL, hfin, String.reduceEq, not_false_eq_true, if_true])
  ((with_reducible refine exB_split (fun h => ?_) (fun h => ?_)) <;> (try simp only [decide_eq_true_eq, decide_eq_false_iff_not, Bool.and_eq_true, Bool.or_eq_true, Bool.and_eq_false_iff, Bool.or_eq_false_iff, Bool.not_eq_true', Bool.not_eq_false', Bool.not_eq_true, Bool.not_eq_false, Int.not_lt, Int.not_le, beq_iff_eq, beq_eq_false_iff_ne, ne_eq] at h))
  · have hk' : k < a.length := by omega
    have hk2 : k < b.length := by omega
    (refine Holds.drawnQ (by rw [hP]; kernel_rfl) (by kernel_rfl) ?_; simp (maxSteps := 1000000) only [push_cast, reduceCtorEq, Nat.reduceAdd, Nat.reduceMul, Nat.reduceSub, Nat.reduceBEq, Nat.reduceGT, Nat.reduceLT, Int.toNat_zero, Nat.reduceLeDiff, Int.reduceEq, Int.reduceLT, Int.reduceLE, hP, hΓ, hL, hfin, String.reduceEq, not_false_eq_true, if_true, hk', hk2])
    refine ⟨by omega, by omega, by omega, by omega, ?_⟩
    have hx : a.getD k default = a[k] := by simp [List.getD, hk']
    have hy : b.getD k default = b[k] := by simp [List.getD, hk2]
    generalize a.getD k default = x at hx ⊢
    generalize b.getD k default = y at hy ⊢
    refine exB_split (fun h => ?_) (fun h => ?_)
    · have hne : a ≠ b := by
        intro e
        subst e
        rw [← hx] at hy
        subst hy
        simp at h
      ((first | with_reducible refine holds_of_ex X 400 _ _ _ ?_ | skip); simp (maxSteps := 1000000) only [push_cast, reduceCtorEq, Nat.reduceAdd, Nat.reduceMul, Nat.reduceSub, Nat.reduceBEq, Nat.reduceGT, Nat.reduceLT, Int.toNat_zero, Nat.reduceLeDiff, Int.reduceEq, Int.reduceLT, Int.reduceLE, hP, hΓ, hL, hfin, String.reduceEq, not_false_eq_true, if_true])
      rw [decide_eq_false hne]
      exact Into.sameA
    · have hxy : x = y := by
        cases x; cases y
        simpa [Bool.and_eq_true, and_assoc] using h
      ((first | with_reducible refine holds_of_ex X 400 _ _ _ ?_ | skip); simp (maxSteps := 1000000) only [push_cast, reduceCtorEq, Nat.reduceAdd, Nat.reduceMul, Nat.reduceSub, Nat.reduceBEq, Nat.reduceGT, Nat.reduceLT, Int.toNat_zero, Nat.reduceLeDiff, Int.reduceEq, Int.reduceLT, Int.reduceLE, hP, hΓ, hL, hfin, String.reduceEq, not_false_eq_true, if_true, wr_i64 ((k : Int) + 1) (by constructor <;> omega)])
      refine ⟨⟨k + 1, hk', ?_⟩, by simp only; omega, ?_⟩
      · rw [List.take_succ_eq_append_getElem hk', List.take_succ_eq_append_getElem hk2, he, ← hx, ← hy, hxy]
      exact Into.sameA
  · obtain rfl : k = a.length := by omega
    rw [List.take_length, List.take_of_length_le (by omega)] at he
    ((first | with_reducible refine holds_of_ex X 400 _ _ _ ?_ | skip); simp (maxSteps := 1000000) only [push_cast, reduceCtorEq, Nat.reduceAdd, Nat.reduceMul, Nat.reduceSub, Nat.reduceBEq, Nat.reduceGT, Nat.reduceLT, Int.toNat_zero, Nat.reduceLeDiff, Int.reduceEq, Int.reduceLT, Int.reduceLE, hP, hΓ, hL, hfin, String.reduceEq, not_false_eq_true, if_true])
    rw [decide_eq_true he]
    exact Into.sameA
theorem con11 {Γ : Env} (h : EnvOk Tryz.prog Γ)  : Con Tryz.prog 6 S11 :=
  funS_con h (fn := Tryz.f6) (by kernel_rfl) rfl (by kernel_rfl) inj11 (by first | (intro h; cases h; done) | exact fun _ _ => rfl) fun ⟨a, n, b, m⟩ h => by obtain ⟨rfl, rfl, ha, hb⟩ := h; exact body11 Γ a b ha hb
/-- one of the document's examples -/
def lit0 : Bytes := [120, 32, 58, 61, 32, 48, 70, 70, 72, 59, 32, 40, 42, 32, 97, 32, 40, 42, 32, 98, 32, 42, 41, 32, 42, 41]
theorem ok0 : okS lit0 := by decide +kernel
theorem toks0 : toks lit0 = [⟨1, [120], 0, 0⟩, ⟨6, [58, 61], 0, 2⟩, ⟨3, [], 255, 5⟩, ⟨6, [59], 0, 9⟩, ⟨0, [], 0, 26⟩] := by decide +kernel
def e6 : Unit → List AV := fun _ => []
def p6 : Unit → Prop := fun _ => True
def r6 : Unit → AV := fun _ => .bool true
def g6 : Unit → Heap := fun _ => []
theorem inj6 : ∀ a b, e6 a = e6 b → a = b := fun _ _ _ => rfl
noncomputable def S6 : FSpec := funS e6 p6 r6 g6 true
theorem ps6  : psel e6 p6 [] = (True) := psel_at inj6 p6 ()
theorem rs6  : rsel e6 r6 .any [] = (.bool true) := rsel_at inj6 r6 .any ()
theorem hs6  : rsel e6 g6 [] [] = ([]) := rsel_at inj6 g6 [] ()
attribute [push_cast] S6 ps6 rs6 hs6
theorem body6 (Γ : Env) (h7 : Γ 4 = some Fz.S7) : BodyOk Tryz.prog Γ Tryz.f7 (e6 ()) [] (.bool true) [] := by
  have hr : Fz.rF lit0 = .tup [.sl ([.int .i64 1, .str [120], .int .i64 0, .int .i64 0, .int .i64 6, .str [58, 61], .int .i64 0, .int .i64 2, .int .i64 3, .str [], .int .i64 255, .int .i64 5, .int .i64 6, .str [59], .int .i64 0, .int .i64 9, .int .i64 0, .str [], .int .i64 0, .int .i64 26]) 5, .int .i64 0, .int .i64 0] := by
    rw [Fz.rF, if_pos ok0, toks0]; rfl
  unfold lit0 at hr
  have t1 : List.take 4 (List.drop (Int.toNat 1 * 4) ([.int .i64 1, .str [120], .int .i64 0, .int .i64 0, .int .i64 6, .str [58, 61], .int .i64 0, .int .i64 2, .int .i64 3, .str [], .int .i64 255, .int .i64 5, .int .i64 6, .str [59], .int .i64 0, .int .i64 9, .int .i64 0, .str [], .int .i64 0, .int .i64 26] : List AV)) = [.int .i64 6, .str [58, 61], .int .i64 0, .int .i64 2] := rfl
  have t2 : List.take 4 (List.drop (Int.toNat 2 * 4) ([.int .i64 1, .str [120], .int .i64 0, .int .i64 0, .int .i64 6, .str [58, 61], .int .i64 0, .int .i64 2, .int .i64 3, .str [], .int .i64 255, .int .i64 5, .int .i64 6, .str [59], .int .i64 0, .int .i64 9, .int .i64 0, .str [], .int .i64 0, .int .i64 26] : List AV)) = [.int .i64 3, .str [], .int .i64 255, .int .i64 5] := rfl
  have t4 : List.take 4 (List.drop (Int.toNat 4 * 4) ([.int .i64 1, .str [120], .int .i64 0, .int .i64 0, .int .i64 6, .str [58, 61], .int .i64 0, .int .i64 2, .int .i64 3, .str [], .int .i64 255, .int .i64 5, .int .i64 6, .str [59], .int .i64 0, .int .i64 9, .int .i64 0, .str [], .int .i64 0, .int .i64 26] : List AV)) = [.int .i64 0, .str [], .int .i64 0, .int .i64 26] := rfl
  have h5 : decide ((0 : Int) + 1 + 1 + 1 + 1 + 1 = 5) = true := by decide
  (intro X hP hΓ hL hfin; refine ⟨_, rfl, ?_⟩; rw [show Tryz.f7.ntmps = 48 from rfl]; rw [show Tryz.f7.results.toList = [.tmp 0] from rfl] at hfin; apply holds_of_ex X 400; simp (maxSteps := 1000000) only [push_cast, reduceCtorEq, Nat.reduceAdd, Nat.reduceMul, Nat.reduceSub, Nat.reduceBEq, Nat.reduceGT, Nat.reduceLT, Int.toNat_zero, Nat.reduceLeDiff, Int.reduceEq, Int.reduceLT, Int.reduceLE, hP, hΓ, hL, hfin, String.reduceEq, not_false_eq_true, if_true, e6, h7, hr, t1, t2, t4, h5])
  exact ⟨by decide, by decide, by decide, by decide, by decide, by decide, by decide, Into.one rfl rfl⟩
theorem con6 {Γ : Env} (h : EnvOk Tryz.prog Γ) (h7 : Γ 4 = some Fz.S7) : Con Tryz.prog 7 S6 :=
  funS_con h (fn := Tryz.f7) (by kernel_rfl) rfl (by kernel_rfl) inj6 (by first | (intro h; cases h; done) | exact fun _ _ => rfl) fun _ _ => body6 Γ h7
end Go.Proofs.YtlehfbdkjkgaeaaGreatDoor.scanDone
