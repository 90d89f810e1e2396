/- Of the model of a workstation: names, numbers, their texts. Conditions stand in each. -/
import Derived.Test.YtenopfmafecffaaGreatDoorMoP
import Derived.Test.YtenopfmafecffaaGreatDoorTy
import Derived.Test.YtenopfmafecffaaGreatDoorEE
import Derived.Test.YtenopfmafecffaaGreatDoorAr
import Derived.Test.YtenopfmafecffaaGreatDoorIter
import Derived.Lib.LaidTab
namespace Go.Proofs.YtenopfmafecffaaGreatDoor.modelDone
open Go Go.Eng Go.Proofs Go.Mdl Go.RowKit
set_option linter.unusedVariables false
set_option linter.unusedSimpArgs false
set_option maxRecDepth 100000
set_option maxHeartbeats 4000000

/-! numbers -/
def pieces (n : Int) : Int := (n + 1023) / 1024
def leaves (n : Int) : Int := (n + 30) / 31
def e44 : (Int) → List AV := fun n => [.int .i64 n]
def p44 : (Int) → Prop := fun n => 0 ≤ n ∧ n ≤ 1000000000
def r44 : (Int) → AV := fun n => .int .i64 (pieces n)
def g44 : (Int) → Heap := fun n => []
theorem inj44 : ∀ a b, e44 a = e44 b → a = b := by
  rintro n n' h
  simp only [e44, mi_iff, ms_iff, mb_iff, my_iff, UInt8.toNat_inj, List.cons.injEq, AV.int.injEq, AV.str.injEq, AV.bool.injEq, AV.sl.injEq, AV.agg.injEq, AV.ip.injEq, AV.fn.injEq, AV.ifc.injEq, AV.mpr.injEq, Int.natCast_inj, and_true, true_and] at h
  simp_all only
noncomputable def S44 : FSpec := funS e44 p44 r44 g44 true
theorem ps44 (n : (Int)) : psel e44 p44 [.int .i64 n] = (0 ≤ n ∧ n ≤ 1000000000) := psel_at inj44 p44 n
theorem rs44 (n : (Int)) : rsel e44 r44 .any [.int .i64 n] = (.int .i64 (pieces n)) := rsel_at inj44 r44 .any n
theorem hs44 (n : (Int)) : rsel e44 g44 [] [.int .i64 n] = ([]) := rsel_at inj44 g44 [] n
attribute [push_cast] S44 ps44 rs44 hs44
theorem body44 (Γ : Env) (n : Int) (h0 : 0 ≤ n) (h1 : n ≤ 1000000000) : BodyOk Tryz.prog Γ Tryz.f44 (e44 n) [] (.int .i64 (pieces n)) [] := by
  have e : (n + 1024 - 1).tdiv 1024 = pieces n := by rw [Int.tdiv_eq_ediv_of_nonneg (by omega), pieces]; congr 1; omega
  have hb : 0 ≤ pieces n ∧ pieces n ≤ 2000000000 := by unfold pieces; omega
  (intro X hP hΓ hL hfin; refine ⟨_, rfl, ?_⟩; rw [show Tryz.f44.ntmps = 7 from rfl]; rw [show Tryz.f44.results.toList = [.tmp 2] from rfl] at hfin; apply holds_of_ex X 400; simp (maxSteps := 1000000) only [push_cast, reduceCtorEq, Nat.reduceAdd, Nat.reduceMul, Nat.reduceSub, Nat.reduceBEq, Nat.reduceGT, Nat.reduceLT, Int.toNat_zero, Nat.reduceLeDiff, Int.reduceEq, Int.reduceLT, Int.reduceLE, hP, hΓ, hL, hfin, String.reduceEq, not_false_eq_true, if_true, e44, wr_i64 (n + 1024) (by constructor <;> omega), wr_i64 (n + 1024 - 1) (by constructor <;> omega), e])
  rw [wr_i64 (pieces n) (by constructor <;> omega)]
  exact Into.sameA
theorem con44 {Γ : Env} (h : EnvOk Tryz.prog Γ)  : Con Tryz.prog 44 S44 :=
  funS_con h (fn := Tryz.f44) (by kernel_rfl) rfl (by kernel_rfl) inj44 (by first | (intro h; cases h; done) | exact fun _ _ => rfl) fun n h => body44 Γ n h.1 h.2
def e43 : (Int) → List AV := fun n => [.int .i64 n]
def p43 : (Int) → Prop := fun n => 0 ≤ n ∧ n ≤ 1000000000
def r43 : (Int) → AV := fun n => .int .i64 (leaves n)
def g43 : (Int) → Heap := fun n => []
theorem inj43 : ∀ a b, e43 a = e43 b → a = b := by
  rintro n n' h
  simp only [e43, mi_iff, ms_iff, mb_iff, my_iff, UInt8.toNat_inj, List.cons.injEq, AV.int.injEq, AV.str.injEq, AV.bool.injEq, AV.sl.injEq, AV.agg.injEq, AV.ip.injEq, AV.fn.injEq, AV.ifc.injEq, AV.mpr.injEq, Int.natCast_inj, and_true, true_and] at h
  simp_all only
noncomputable def S43 : FSpec := funS e43 p43 r43 g43 true
theorem ps43 (n : (Int)) : psel e43 p43 [.int .i64 n] = (0 ≤ n ∧ n ≤ 1000000000) := psel_at inj43 p43 n
theorem rs43 (n : (Int)) : rsel e43 r43 .any [.int .i64 n] = (.int .i64 (leaves n)) := rsel_at inj43 r43 .any n
theorem hs43 (n : (Int)) : rsel e43 g43 [] [.int .i64 n] = ([]) := rsel_at inj43 g43 [] n
attribute [push_cast] S43 ps43 rs43 hs43
theorem body43 (Γ : Env) (n : Int) (h0 : 0 ≤ n) (h1 : n ≤ 1000000000) : BodyOk Tryz.prog Γ Tryz.f43 (e43 n) [] (.int .i64 (leaves n)) [] := by
  have e : (n + 30).tdiv 31 = leaves n := by rw [Int.tdiv_eq_ediv_of_nonneg (by omega), leaves]
  have hb : 0 ≤ leaves n ∧ leaves n ≤ 2000000000 := by unfold leaves; omega
  (intro X hP hΓ hL hfin; refine ⟨_, rfl, ?_⟩; rw [show Tryz.f43.ntmps = 6 from rfl]; rw [show Tryz.f43.results.toList = [.tmp 2] from rfl] at hfin; apply holds_of_ex X 400; simp (maxSteps := 1000000) only [push_cast, reduceCtorEq, Nat.reduceAdd, Nat.reduceMul, Nat.reduceSub, Nat.reduceBEq, Nat.reduceGT, Nat.reduceLT, Int.toNat_zero, Nat.reduceLeDiff, Int.reduceEq, Int.reduceLT, Int.reduceLE, hP, hΓ, hL, hfin, String.reduceEq, not_false_eq_true, if_true, e43, wr_i64 (n + 30) (by constructor <;> omega), e])
  rw [wr_i64 (leaves n) (by constructor <;> omega)]
  exact Into.sameA
theorem con43 {Γ : Env} (h : EnvOk Tryz.prog Γ)  : Con Tryz.prog 43 S43 :=
  funS_con h (fn := Tryz.f43) (by kernel_rfl) rfl (by kernel_rfl) inj43 (by first | (intro h; cases h; done) | exact fun _ _ => rfl) fun n h => body43 Γ n h.1 h.2
def e45 : (Int) → List AV := fun n => [.int .i64 n]
def p45 : (Int) → Prop := fun n => 0 ≤ n ∧ n ≤ 1000000000
def r45 : (Int) → AV := fun n => .int .i64 (pieces n)
def g45 : (Int) → Heap := fun n => []
theorem inj45 : ∀ a b, e45 a = e45 b → a = b := by
  rintro n n' h
  simp only [e45, mi_iff, ms_iff, mb_iff, my_iff, UInt8.toNat_inj, List.cons.injEq, AV.int.injEq, AV.str.injEq, AV.bool.injEq, AV.sl.injEq, AV.agg.injEq, AV.ip.injEq, AV.fn.injEq, AV.ifc.injEq, AV.mpr.injEq, Int.natCast_inj, and_true, true_and] at h
  simp_all only
noncomputable def S45 : FSpec := funS e45 p45 r45 g45 true
theorem ps45 (n : (Int)) : psel e45 p45 [.int .i64 n] = (0 ≤ n ∧ n ≤ 1000000000) := psel_at inj45 p45 n
theorem rs45 (n : (Int)) : rsel e45 r45 .any [.int .i64 n] = (.int .i64 (pieces n)) := rsel_at inj45 r45 .any n
theorem hs45 (n : (Int)) : rsel e45 g45 [] [.int .i64 n] = ([]) := rsel_at inj45 g45 [] n
attribute [push_cast] S45 ps45 rs45 hs45
theorem body45 (Γ : Env) (n : Int) (h0 : 0 ≤ n) (h1 : n ≤ 1000000000) : BodyOk Tryz.prog Γ Tryz.f45 (e45 n) [] (.int .i64 (pieces n)) [] := by
  have e : (n + 1023).tdiv 1024 = pieces n := by rw [Int.tdiv_eq_ediv_of_nonneg (by omega), pieces]
  have hb : 0 ≤ pieces n ∧ pieces n ≤ 2000000000 := by unfold pieces; omega
  (intro X hP hΓ hL hfin; refine ⟨_, rfl, ?_⟩; rw [show Tryz.f45.ntmps = 6 from rfl]; rw [show Tryz.f45.results.toList = [.tmp 2] from rfl] at hfin; apply holds_of_ex X 400; simp (maxSteps := 1000000) only [push_cast, reduceCtorEq, Nat.reduceAdd, Nat.reduceMul, Nat.reduceSub, Nat.reduceBEq, Nat.reduceGT, Nat.reduceLT, Int.toNat_zero, Nat.reduceLeDiff, Int.reduceEq, Int.reduceLT, Int.reduceLE, hP, hΓ, hL, hfin, String.reduceEq, not_false_eq_true, if_true, e45, wr_i64 (n + 1023) (by constructor <;> omega), e])
  rw [wr_i64 (pieces n) (by constructor <;> omega)]
  exact Into.sameA
theorem con45 {Γ : Env} (h : EnvOk Tryz.prog Γ)  : Con Tryz.prog 45 S45 :=
  funS_con h (fn := Tryz.f45) (by kernel_rfl) rfl (by kernel_rfl) inj45 (by first | (intro h; cases h; done) | exact fun _ _ => rfl) fun n h => body45 Γ n h.1 h.2
def e38 : (Int) → List AV := fun n => [.int .i64 n]
def p38 : (Int) → Prop := fun n => 0 ≤ n ∧ n ≤ 1000000000
def r38 : (Int) → AV := fun n => .int .i64 (leaves n)
def g38 : (Int) → Heap := fun n => []
theorem inj38 : ∀ a b, e38 a = e38 b → a = b := by
  rintro n n' h
  simp only [e38, mi_iff, ms_iff, mb_iff, my_iff, UInt8.toNat_inj, List.cons.injEq, AV.int.injEq, AV.str.injEq, AV.bool.injEq, AV.sl.injEq, AV.agg.injEq, AV.ip.injEq, AV.fn.injEq, AV.ifc.injEq, AV.mpr.injEq, Int.natCast_inj, and_true, true_and] at h
  simp_all only
noncomputable def S38 : FSpec := funS e38 p38 r38 g38 true
theorem ps38 (n : (Int)) : psel e38 p38 [.int .i64 n] = (0 ≤ n ∧ n ≤ 1000000000) := psel_at inj38 p38 n
theorem rs38 (n : (Int)) : rsel e38 r38 .any [.int .i64 n] = (.int .i64 (leaves n)) := rsel_at inj38 r38 .any n
theorem hs38 (n : (Int)) : rsel e38 g38 [] [.int .i64 n] = ([]) := rsel_at inj38 g38 [] n
attribute [push_cast] S38 ps38 rs38 hs38
theorem body38 (Γ : Env) (n : Int) (h0 : 0 ≤ n) (h1 : n ≤ 1000000000) : BodyOk Tryz.prog Γ Tryz.f38 (e38 n) [] (.int .i64 (leaves n)) [] := by
  have e : (n + 30).tdiv 31 = leaves n := by rw [Int.tdiv_eq_ediv_of_nonneg (by omega), leaves]
  have hb : 0 ≤ leaves n ∧ leaves n ≤ 2000000000 := by unfold leaves; omega
  (intro X hP hΓ hL hfin; refine ⟨_, rfl, ?_⟩; rw [show Tryz.f38.ntmps = 6 from rfl]; rw [show Tryz.f38.results.toList = [.tmp 2] from rfl] at hfin; apply holds_of_ex X 400; simp (maxSteps := 1000000) only [push_cast, reduceCtorEq, Nat.reduceAdd, Nat.reduceMul, Nat.reduceSub, Nat.reduceBEq, Nat.reduceGT, Nat.reduceLT, Int.toNat_zero, Nat.reduceLeDiff, Int.reduceEq, Int.reduceLT, Int.reduceLE, hP, hΓ, hL, hfin, String.reduceEq, not_false_eq_true, if_true, e38, wr_i64 (n + 30) (by constructor <;> omega), e])
  rw [wr_i64 (leaves n) (by constructor <;> omega)]
  exact Into.sameA
theorem con38 {Γ : Env} (h : EnvOk Tryz.prog Γ)  : Con Tryz.prog 38 S38 :=
  funS_con h (fn := Tryz.f38) (by kernel_rfl) rfl (by kernel_rfl) inj38 (by first | (intro h; cases h; done) | exact fun _ _ => rfl) fun n h => body38 Γ n h.1 h.2
/-! names -/
def nmc (c : UInt8) : Bool := decide (97 ≤ c.toNat ∧ c.toNat ≤ 122) || decide (65 ≤ c.toNat ∧ c.toNat ≤ 90) || decide (48 ≤ c.toNat ∧ c.toNat ≤ 57) || decide (c.toNat = 46) || decide (c.toNat = 95)
def odd (n : Int) : Bool := (decide (n < 97) || decide (122 < n)) && (decide (n < 65) || decide (90 < n)) && (decide (n < 48) || decide (57 < n)) && !decide (n = 46) && !decide (n = 95)
def e49 : (Int) → List AV := fun n => [.int .i32 n]
def p49 : (Int) → Prop := fun n => True
def r49 : (Int) → AV := fun n => .bool (odd n)
def g49 : (Int) → Heap := fun n => []
theorem inj49 : ∀ a b, e49 a = e49 b → a = b := by
  rintro n n' h
  simp only [e49, mi_iff, ms_iff, mb_iff, my_iff, UInt8.toNat_inj, List.cons.injEq, AV.int.injEq, AV.str.injEq, AV.bool.injEq, AV.sl.injEq, AV.agg.injEq, AV.ip.injEq, AV.fn.injEq, AV.ifc.injEq, AV.mpr.injEq, Int.natCast_inj, and_true, true_and] at h
  simp_all only
noncomputable def S49 : FSpec := funS e49 p49 r49 g49 true
theorem ps49 (n : (Int)) : psel e49 p49 [.int .i32 n] = (True) := psel_at inj49 p49 n
theorem rs49 (n : (Int)) : rsel e49 r49 .any [.int .i32 n] = (.bool (odd n)) := rsel_at inj49 r49 .any n
theorem hs49 (n : (Int)) : rsel e49 g49 [] [.int .i32 n] = ([]) := rsel_at inj49 g49 [] n
attribute [push_cast] S49 ps49 rs49 hs49
theorem body49 (Γ : Env) (n : Int) : BodyOk Tryz.prog Γ Tryz.f49 (e49 n) [] (.bool (odd n)) [] := by
  (intro X hP hΓ hL hfin; refine ⟨_, rfl, ?_⟩; rw [show Tryz.f49.ntmps = 33 from rfl]; rw [show Tryz.f49.results.toList = [.tmp 2] from rfl] at hfin; apply holds_of_ex X 400; simp (maxSteps := 1000000) only [push_cast, reduceCtorEq, Nat.reduceAdd, Nat.reduceMul, Nat.reduceSub, Nat.reduceBEq, Nat.reduceGT, Nat.reduceLT, Int.toNat_zero, Nat.reduceLeDiff, Int.reduceEq, Int.reduceLT, Int.reduceLE, hP, hΓ, hL, hfin, String.reduceEq, not_false_eq_true, if_true, e49])
  exact Into.one rfl rfl
theorem con49 {Γ : Env} (h : EnvOk Tryz.prog Γ)  : Con Tryz.prog 49 S49 :=
  funS_con h (fn := Tryz.f49) (by kernel_rfl) rfl (by kernel_rfl) inj49 (by first | (intro h; cases h; done) | exact fun _ _ => rfl) fun n _ => body49 Γ n
def ixO (l : Bytes) : Int := if l.all nmc then -1 else ((l.takeWhile nmc).length : Int)
def e94 : (Bytes) → List AV := fun l => [.str l, .fn (.func 49) [] [], .bool true]
def p94 : (Bytes) → Prop := fun l => l.length ≤ 4194304
def r94 : (Bytes) → AV := fun l => .int .i64 (ixO l)
def g94 : (Bytes) → Heap := fun l => []
theorem inj94 : ∀ a b, e94 a = e94 b → a = b := by
  rintro l l' h
  simp only [e94, mi_iff, ms_iff, mb_iff, my_iff, UInt8.toNat_inj, List.cons.injEq, AV.int.injEq, AV.str.injEq, AV.bool.injEq, AV.sl.injEq, AV.agg.injEq, AV.ip.injEq, AV.fn.injEq, AV.ifc.injEq, AV.mpr.injEq, Int.natCast_inj, and_true, true_and] at h
  simp_all only
noncomputable def S94 : FSpec := funS e94 p94 r94 g94 true
theorem ps94 (l : (Bytes)) : psel e94 p94 [.str l, .fn (.func 49) [] [], .bool true] = (l.length ≤ 4194304) := psel_at inj94 p94 l
theorem rs94 (l : (Bytes)) : rsel e94 r94 .any [.str l, .fn (.func 49) [] [], .bool true] = (.int .i64 (ixO l)) := rsel_at inj94 r94 .any l
theorem hs94 (l : (Bytes)) : rsel e94 g94 [] [.str l, .fn (.func 49) [] [], .bool true] = ([]) := rsel_at inj94 g94 [] l
attribute [push_cast] S94 ps94 rs94 hs94
theorem tw_at {p : UInt8 → Bool} {l : Bytes} {k : Nat} (h : ∀ j < k, p (l.getD j 0) = true) (hk : k < l.length) (hp : p (l.getD k 0) = false) : (l.takeWhile p).length = k ∧ l.all p = false := by
  induction l generalizing k with
  | nil => simp at hk
  | cons c l ih =>
    cases k with
    | zero =>
      have : p c = false := by simpa using hp
      simp [List.takeWhile_cons, this]
    | succ k =>
      have h0 : p c = true := by simpa using h 0 (by omega)
      obtain ⟨a, b⟩ := ih (k := k) (fun j hj => by simpa using h (j + 1) (by omega)) (by simpa using hk) (by simpa using hp)
      simp [List.takeWhile_cons, h0, a, b]
theorem odd_lo (c : UInt8) : odd (c.toNat : Int) = !nmc c := by
  unfold odd nmc
  rw [Bool.eq_iff_iff]
  simp only [Bool.and_eq_true, Bool.or_eq_true, Bool.not_eq_true', decide_eq_true_eq, decide_eq_false_iff_not, Bool.or_eq_false_iff]
  omega
theorem body94 (Γ : Env) (h49 : Γ 49 = some S49) (l : Bytes) (hl : l.length ≤ 4194304) : BodyOk Tryz.prog Γ Tryz.f94 (e94 l) [] (.int .i64 (ixO l)) [] := by
  (intro X hP hΓ hL hfin; refine ⟨_, rfl, ?_⟩; rw [show Tryz.f94.ntmps = 21 from rfl]; rw [show Tryz.f94.results.toList = [.tmp 6] from rfl] at hfin; apply holds_of_ex X 400; simp (maxSteps := 1000000) only [push_cast, reduceCtorEq, Nat.reduceAdd, Nat.reduceMul, Nat.reduceSub, Nat.reduceBEq, Nat.reduceGT, Nat.reduceLT, Int.toNat_zero, Nat.reduceLeDiff, Int.reduceEq, Int.reduceLT, Int.reduceLE, hP, hΓ, hL, hfin, String.reduceEq, not_false_eq_true, if_true, e94, h49])
  refine Holds.loopM (ι := {k : Nat // k ≤ l.length ∧ ∀ j < k, nmc (l.getD j 0) = true}) [false, true, true, false, false, false, false, false, false, false, true, false, false, false, false, false, false, false, false, false, false] (fun i => [(10, .ref 0 0 0)]) (fun i => [.raw (.iter l i.1)]) (fun i => l.length - i.1) ⟨0, Nat.zero_le _, by simp⟩ ?_ ?_
  · (rw [hL]; simp only [push_cast, Int.natCast_zero]; exact Into.sameA)
  rintro ⟨k, hk, hg⟩
  ((first | with_reducible refine holds_of_ex X 400 _ _ _ ?_ | skip); simp (maxSteps := 1000000) only [push_cast, reduceCtorEq, Nat.reduceAdd, Nat.reduceMul, Nat.reduceSub, Nat.reduceBEq, Nat.reduceGT, Nat.reduceLT, Int.toNat_zero, Nat.reduceLeDiff, Int.reduceEq, Int.reduceLT, Int.reduceLE, hP, hΓ, hL, hfin, String.reduceEq, not_false_eq_true, if_true])
  ((with_reducible refine exB_split (fun h => ?_) (fun h => ?_)) <;> (try simp only [decide_eq_true_eq, decide_eq_false_iff_not, Bool.and_eq_true, Bool.or_eq_true, Bool.and_eq_false_iff, Bool.or_eq_false_iff, Bool.not_eq_true', Bool.not_eq_false', Bool.not_eq_true, Bool.not_eq_false, Int.not_lt, Int.not_le, beq_iff_eq, beq_eq_false_iff_ne, ne_eq] at h))
  · have hk' : k < l.length := by omega
    by_cases hc : (l.getD k 0).toNat < 128
    · have hr := rune_lo hk' hc
      have ho := odd_lo (l.getD k 0)
      ((first | with_reducible refine holds_of_ex X 400 _ _ _ ?_ | skip); simp (maxSteps := 1000000) only [push_cast, reduceCtorEq, Nat.reduceAdd, Nat.reduceMul, Nat.reduceSub, Nat.reduceBEq, Nat.reduceGT, Nat.reduceLT, Int.toNat_zero, Nat.reduceLeDiff, Int.reduceEq, Int.reduceLT, Int.reduceLE, hP, hΓ, hL, hfin, String.reduceEq, not_false_eq_true, if_true, h49, hr, hk', ho])
      refine exB_split (fun h => ?_) (fun h => ?_)
      · have hp : nmc (l.getD k 0) = false := by simpa using h
        obtain ⟨a, b⟩ := tw_at hg hk' hp
        ((first | with_reducible refine holds_of_ex X 400 _ _ _ ?_ | skip); simp (maxSteps := 1000000) only [push_cast, reduceCtorEq, Nat.reduceAdd, Nat.reduceMul, Nat.reduceSub, Nat.reduceBEq, Nat.reduceGT, Nat.reduceLT, Int.toNat_zero, Nat.reduceLeDiff, Int.reduceEq, Int.reduceLT, Int.reduceLE, hP, hΓ, hL, hfin, String.reduceEq, not_false_eq_true, if_true])
        rw [show ixO l = k by rw [ixO, b, if_neg (by simp), a]]
        exact Into.keep0A
      · have hp : nmc (l.getD k 0) = true := by simpa using h
        ((first | with_reducible refine holds_of_ex X 400 _ _ _ ?_ | skip); simp (maxSteps := 1000000) only [push_cast, reduceCtorEq, Nat.reduceAdd, Nat.reduceMul, Nat.reduceSub, Nat.reduceBEq, Nat.reduceGT, Nat.reduceLT, Int.toNat_zero, Nat.reduceLeDiff, Int.reduceEq, Int.reduceLT, Int.reduceLE, hP, hΓ, hL, hfin, String.reduceEq, not_false_eq_true, if_true, hk'])
        refine ⟨⟨k + 1, hk', fun j hj => ?_⟩, by simp only; omega, ?_⟩
        · rcases Nat.lt_succ_iff_lt_or_eq.1 hj with h' | rfl
          · exact hg j h'
          · exact hp
        exact Into.sameA
    · have hr := rune_hi hk' (by omega)
      have ho : odd ((runeAt l k).1 : Int) = true := by
        simp only [odd, Bool.and_eq_true, Bool.or_eq_true, Bool.not_eq_true', decide_eq_true_eq, decide_eq_false_iff_not]; omega
      have hp : nmc (l.getD k 0) = false := by
        unfold nmc
        simp only [Bool.or_eq_false_iff, decide_eq_false_iff_not]; omega
      obtain ⟨a, b⟩ := tw_at hg hk' hp
      ((first | with_reducible refine holds_of_ex X 400 _ _ _ ?_ | skip); simp (maxSteps := 1000000) only [push_cast, reduceCtorEq, Nat.reduceAdd, Nat.reduceMul, Nat.reduceSub, Nat.reduceBEq, Nat.reduceGT, Nat.reduceLT, Int.toNat_zero, Nat.reduceLeDiff, Int.reduceEq, Int.reduceLT, Int.reduceLE, hP, hΓ, hL, hfin, String.reduceEq, not_false_eq_true, if_true, h49, hk', ho])
      rw [show ixO l = k by rw [ixO, b, if_neg (by simp), a]]
      exact Into.keep0A
  · ((first | with_reducible refine holds_of_ex X 400 _ _ _ ?_ | skip); simp (maxSteps := 1000000) only [push_cast, reduceCtorEq, Nat.reduceAdd, Nat.reduceMul, Nat.reduceSub, Nat.reduceBEq, Nat.reduceGT, Nat.reduceLT, Int.toNat_zero, Nat.reduceLeDiff, Int.reduceEq, Int.reduceLT, Int.reduceLE, hP, hΓ, hL, hfin, String.reduceEq, not_false_eq_true, if_true])
    obtain rfl : k = l.length := by omega
    rw [show ixO l = -1 by
      rw [ixO, if_pos]
      rw [List.all_eq_true]
      intro c hc
      obtain ⟨i, hi, e⟩ := List.mem_iff_getElem.1 hc
      have := hg i hi
      rw [← e]; simpa [List.getD, hi] using this]
    exact Into.keep0A
theorem con94 {Γ : Env} (h : EnvOk Tryz.prog Γ) (h49 : Γ 49 = some S49) : Con Tryz.prog 94 S94 :=
  funS_con h (fn := Tryz.f94) (by kernel_rfl) rfl (by kernel_rfl) inj94 (by first | (intro h; cases h; done) | exact fun _ _ => rfl) fun l hl => body94 Γ h49 l hl
def e76 : (Bytes) → List AV := fun l => [.str l, .fn (.func 49) [] []]
def p76 : (Bytes) → Prop := fun l => l.length ≤ 4194304
def r76 : (Bytes) → AV := fun l => .int .i64 (ixO l)
def g76 : (Bytes) → Heap := fun l => []
theorem inj76 : ∀ a b, e76 a = e76 b → a = b := by
  rintro l l' h
  simp only [e76, mi_iff, ms_iff, mb_iff, my_iff, UInt8.toNat_inj, List.cons.injEq, AV.int.injEq, AV.str.injEq, AV.bool.injEq, AV.sl.injEq, AV.agg.injEq, AV.ip.injEq, AV.fn.injEq, AV.ifc.injEq, AV.mpr.injEq, Int.natCast_inj, and_true, true_and] at h
  simp_all only
noncomputable def S76 : FSpec := funS e76 p76 r76 g76 true
theorem ps76 (l : (Bytes)) : psel e76 p76 [.str l, .fn (.func 49) [] []] = (l.length ≤ 4194304) := psel_at inj76 p76 l
theorem rs76 (l : (Bytes)) : rsel e76 r76 .any [.str l, .fn (.func 49) [] []] = (.int .i64 (ixO l)) := rsel_at inj76 r76 .any l
theorem hs76 (l : (Bytes)) : rsel e76 g76 [] [.str l, .fn (.func 49) [] []] = ([]) := rsel_at inj76 g76 [] l
attribute [push_cast] S76 ps76 rs76 hs76
theorem body76 (Γ : Env) (h94 : Γ 94 = some S94) (l : Bytes) (hl : l.length ≤ 4194304) : BodyOk Tryz.prog Γ Tryz.f76 (e76 l) [] (.int .i64 (ixO l)) [] := by
  (intro X hP hΓ hL hfin; refine ⟨_, rfl, ?_⟩; rw [show Tryz.f76.ntmps = 8 from rfl]; rw [show Tryz.f76.results.toList = [.tmp 4] from rfl] at hfin; apply holds_of_ex X 400; simp (maxSteps := 1000000) only [push_cast, reduceCtorEq, Nat.reduceAdd, Nat.reduceMul, Nat.reduceSub, Nat.reduceBEq, Nat.reduceGT, Nat.reduceLT, Int.toNat_zero, Nat.reduceLeDiff, Int.reduceEq, Int.reduceLT, Int.reduceLE, hP, hΓ, hL, hfin, String.reduceEq, not_false_eq_true, if_true, e76, h94])
  exact ⟨hl, Into.one rfl rfl⟩
theorem con76 {Γ : Env} (h : EnvOk Tryz.prog Γ) (h94 : Γ 94 = some S94) : Con Tryz.prog 76 S76 :=
  funS_con h (fn := Tryz.f76) (by kernel_rfl) rfl (by kernel_rfl) inj76 (by first | (intro h; cases h; done) | exact fun _ _ => rfl) fun l hl => body76 Γ h94 l hl
def e50 : (Bytes) → List AV := fun l => [.str l, .fn (.func 49) [] []]
def p50 : (Bytes) → Prop := fun l => l.length ≤ 4194304
def r50 : (Bytes) → AV := fun l => .bool (!l.all nmc)
def g50 : (Bytes) → Heap := fun l => []
theorem inj50 : ∀ a b, e50 a = e50 b → a = b := by
  rintro l l' h
  simp only [e50, mi_iff, ms_iff, mb_iff, my_iff, UInt8.toNat_inj, List.cons.injEq, AV.int.injEq, AV.str.injEq, AV.bool.injEq, AV.sl.injEq, AV.agg.injEq, AV.ip.injEq, AV.fn.injEq, AV.ifc.injEq, AV.mpr.injEq, Int.natCast_inj, and_true, true_and] at h
  simp_all only
noncomputable def S50 : FSpec := funS e50 p50 r50 g50 true
theorem ps50 (l : (Bytes)) : psel e50 p50 [.str l, .fn (.func 49) [] []] = (l.length ≤ 4194304) := psel_at inj50 p50 l
theorem rs50 (l : (Bytes)) : rsel e50 r50 .any [.str l, .fn (.func 49) [] []] = (.bool (!l.all nmc)) := rsel_at inj50 r50 .any l
theorem hs50 (l : (Bytes)) : rsel e50 g50 [] [.str l, .fn (.func 49) [] []] = ([]) := rsel_at inj50 g50 [] l
attribute [push_cast] S50 ps50 rs50 hs50
theorem body50 (Γ : Env) (h76 : Γ 76 = some S76) (l : Bytes) (hl : l.length ≤ 4194304) : BodyOk Tryz.prog Γ Tryz.f50 (e50 l) [] (.bool (!l.all nmc)) [] := by
  (intro X hP hΓ hL hfin; refine ⟨_, rfl, ?_⟩; rw [show Tryz.f50.ntmps = 9 from rfl]; rw [show Tryz.f50.results.toList = [.tmp 4] from rfl] at hfin; apply holds_of_ex X 400; simp (maxSteps := 1000000) only [push_cast, reduceCtorEq, Nat.reduceAdd, Nat.reduceMul, Nat.reduceSub, Nat.reduceBEq, Nat.reduceGT, Nat.reduceLT, Int.toNat_zero, Nat.reduceLeDiff, Int.reduceEq, Int.reduceLT, Int.reduceLE, hP, hΓ, hL, hfin, String.reduceEq, not_false_eq_true, if_true, e50, h76])
  refine ⟨hl, Into.one ?_ rfl⟩
  unfold ixO
  split
  · rename_i h; simp [h]
  · rename_i h; simp [h]
theorem con50 {Γ : Env} (h : EnvOk Tryz.prog Γ) (h76 : Γ 76 = some S76) : Con Tryz.prog 50 S50 :=
  funS_con h (fn := Tryz.f50) (by kernel_rfl) rfl (by kernel_rfl) inj50 (by first | (intro h; cases h; done) | exact fun _ _ => rfl) fun l hl => body50 Γ h76 l hl
def heads : Bytes := [48, 49, 50, 51, 52, 53, 54, 55, 56, 57, 46, 95]
def e51 : (UInt8) → List AV := fun c => [.str [48, 49, 50, 51, 52, 53, 54, 55, 56, 57, 46, 95], .int .i32 c.toNat]
def p51 : (UInt8) → Prop := fun c => c.toNat < 128
def r51 : (UInt8) → AV := fun c => .bool (heads.contains c)
def g51 : (UInt8) → Heap := fun c => []
theorem inj51 : ∀ a b, e51 a = e51 b → a = b := by
  rintro c c' h
  simp only [e51, mi_iff, ms_iff, mb_iff, my_iff, UInt8.toNat_inj, List.cons.injEq, AV.int.injEq, AV.str.injEq, AV.bool.injEq, AV.sl.injEq, AV.agg.injEq, AV.ip.injEq, AV.fn.injEq, AV.ifc.injEq, AV.mpr.injEq, Int.natCast_inj, and_true, true_and] at h
  simp_all only
noncomputable def S51 : FSpec := funS e51 p51 r51 g51 true
theorem ps51 (c : (UInt8)) : psel e51 p51 [.str [48, 49, 50, 51, 52, 53, 54, 55, 56, 57, 46, 95], .int .i32 c.toNat] = (c.toNat < 128) := psel_at inj51 p51 c
theorem rs51 (c : (UInt8)) : rsel e51 r51 .any [.str [48, 49, 50, 51, 52, 53, 54, 55, 56, 57, 46, 95], .int .i32 c.toNat] = (.bool (heads.contains c)) := rsel_at inj51 r51 .any c
theorem hs51 (c : (UInt8)) : rsel e51 g51 [] [.str [48, 49, 50, 51, 52, 53, 54, 55, 56, 57, 46, 95], .int .i32 c.toNat] = ([]) := rsel_at inj51 g51 [] c
attribute [push_cast] S51 ps51 rs51 hs51
theorem con51 : Con Tryz.prog 51 S51 := by
  refine funS_below (fn := Tryz.f51) (by kernel_rfl) rfl (by kernel_rfl) inj51 (fun _ => rfl) fun m w c vs hW hx hp => ?_
  simp only [e51, CRel, VRel] at hx
  obtain ⟨_, _, rfl, rfl, _, _, rfl, rfl, rfl⟩ := hx
  refine Calls.mono (Tryz.strings_ContainsRune_ascii ⟨heads.toArray⟩ c.toNat w (by omega) (by have : c.toNat < 128 := hp; omega)) ?_
  rintro e w' ⟨rfl, rfl⟩
  refine ⟨_, rfl, ?_, Below.refl _ _⟩
  simp only [r51, VRel]
  have hc : c.toNat < 128 := hp
  have e : ((c.toNat : Int).toNat.toUInt8) = c := by simp
  rw [e]
  have key : ∀ n : Fin 256, decide (0 ≤ Lib.indexByte heads (UInt8.ofNat n.1)) = heads.contains (UInt8.ofNat n.1) := by decide +kernel
  have := key ⟨c.toNat, c.toNat_lt⟩
  simp only [UInt8.ofNat_toNat] at this
  exact congrArg Value.bool this
theorem i32n (n : Int) (h : 0 ≤ n ∧ n < 2147483648) : IntKind.i32.wrap n = n := by simp [IntKind.wrap, IntKind.bits, IntKind.signed]; omega
def nameB (s : Bytes) : Bool := !(s == []) && decide (s.length ≤ 23) && s.all nmc && !heads.contains (s.getD 0 0)
def e23 : (Bytes) → List AV := fun s => [.str s]
def p23 : (Bytes) → Prop := fun s => s.length ≤ 4194304
def r23 : (Bytes) → AV := fun s => .bool (nameB s)
def g23 : (Bytes) → Heap := fun s => []
theorem inj23 : ∀ a b, e23 a = e23 b → a = b := by
  rintro s s' h
  simp only [e23, mi_iff, ms_iff, mb_iff, my_iff, UInt8.toNat_inj, List.cons.injEq, AV.int.injEq, AV.str.injEq, AV.bool.injEq, AV.sl.injEq, AV.agg.injEq, AV.ip.injEq, AV.fn.injEq, AV.ifc.injEq, AV.mpr.injEq, Int.natCast_inj, and_true, true_and] at h
  simp_all only
noncomputable def S23 : FSpec := funS e23 p23 r23 g23 true
theorem ps23 (s : (Bytes)) : psel e23 p23 [.str s] = (s.length ≤ 4194304) := psel_at inj23 p23 s
theorem rs23 (s : (Bytes)) : rsel e23 r23 .any [.str s] = (.bool (nameB s)) := rsel_at inj23 r23 .any s
theorem hs23 (s : (Bytes)) : rsel e23 g23 [] [.str s] = ([]) := rsel_at inj23 g23 [] s
attribute [push_cast] S23 ps23 rs23 hs23
theorem body23 (Γ : Env) (h50 : Γ 50 = some S50) (h51 : Γ 51 = some S51) (s : Bytes) (hl : s.length ≤ 4194304) : BodyOk Tryz.prog Γ Tryz.f23 (e23 s) [] (.bool (nameB s)) [] := by
  (intro X hP hΓ hL hfin; refine ⟨_, rfl, ?_⟩; rw [show Tryz.f23.ntmps = 21 from rfl]; rw [show Tryz.f23.results.toList = [.tmp 2] from rfl] at hfin; apply holds_of_ex X 400; simp (maxSteps := 1000000) only [push_cast, reduceCtorEq, Nat.reduceAdd, Nat.reduceMul, Nat.reduceSub, Nat.reduceBEq, Nat.reduceGT, Nat.reduceLT, Int.toNat_zero, Nat.reduceLeDiff, Int.reduceEq, Int.reduceLT, Int.reduceLE, hP, hΓ, hL, hfin, String.reduceEq, not_false_eq_true, if_true, e23, h50])
  refine ⟨fun _ => hl, ?_⟩
  refine exB_split (fun h => ?_) (fun h => ?_)
  · have hn : nameB s = false := by
      simp only [Bool.or_eq_true, decide_eq_true_eq, beq_iff_eq, Bool.not_eq_true'] at h
      unfold nameB
      rcases h with (h | h) | h
      · simp [h]
      · simp [show ¬ s.length ≤ 23 by omega]
      · simp [h]
    ((first | with_reducible refine holds_of_ex X 400 _ _ _ ?_ | skip); simp (maxSteps := 1000000) only [push_cast, reduceCtorEq, Nat.reduceAdd, Nat.reduceMul, Nat.reduceSub, Nat.reduceBEq, Nat.reduceGT, Nat.reduceLT, Int.toNat_zero, Nat.reduceLeDiff, Int.reduceEq, Int.reduceLT, Int.reduceLE, hP, hΓ, hL, hfin, String.reduceEq, not_false_eq_true, if_true])
    rw [hn]
    exact Into.sameA
  · simp only [Bool.or_eq_false_iff, decide_eq_false_iff_not, beq_eq_false_iff_ne, Bool.not_eq_false'] at h
    obtain ⟨⟨h1, h2⟩, h3⟩ := h
    have hpos : 0 < s.length := List.length_pos_iff.2 h1
    have hm : nmc (s.getD 0 0) = true := by
      rw [List.all_eq_true] at h3
      exact h3 _ (by simp [List.getD, hpos])
    have hlt : (s.getD 0 0).toNat < 128 := by
      unfold nmc at hm
      simp only [Bool.or_eq_true, decide_eq_true_eq] at hm
      omega
    have hw := i32n ((s.getD 0 0).toNat : Int) (by omega)
    ((first | with_reducible refine holds_of_ex X 400 _ _ _ ?_ | skip); simp (maxSteps := 1000000) only [push_cast, reduceCtorEq, Nat.reduceAdd, Nat.reduceMul, Nat.reduceSub, Nat.reduceBEq, Nat.reduceGT, Nat.reduceLT, Int.toNat_zero, Nat.reduceLeDiff, Int.reduceEq, Int.reduceLT, Int.reduceLE, hP, hΓ, hL, hfin, String.reduceEq, not_false_eq_true, if_true, h51, hw, hpos])
    have hn : (!heads.contains (s.getD 0 0)) = nameB s := by
      unfold nameB
      rw [show (s == []) = false by simpa using h1, decide_eq_true (show s.length ≤ 23 by omega), h3]; simp
    rw [hn]
    exact ⟨by omega, hlt, by exact Into.sameA⟩
theorem con23 {Γ : Env} (h : EnvOk Tryz.prog Γ) (h50 : Γ 50 = some S50) (h51 : Γ 51 = some S51) : Con Tryz.prog 23 S23 :=
  funS_con h (fn := Tryz.f23) (by kernel_rfl) rfl (by kernel_rfl) inj23 (by first | (intro h; cases h; done) | exact fun _ _ => rfl) fun s h => body23 Γ h50 h51 s h
def okAt (s : Bytes) (i : Nat) : Bool := nmc (s.getD i 0) && (decide (0 < i) || !heads.contains (s.getD i 0))
def letB (c : UInt8) : Bool := decide (97 ≤ (c.toNat : Int)) && decide ((c.toNat : Int) ≤ 122) || decide (65 ≤ (c.toNat : Int)) && decide ((c.toNat : Int) ≤ 90)
def othB (c : UInt8) : Bool := decide (48 ≤ (c.toNat : Int)) && decide ((c.toNat : Int) ≤ 57) || decide ((c.toNat : Int) = 46) || decide ((c.toNat : Int) = 95)
theorem nmc_eq (c : UInt8) : nmc c = (letB c || othB c) := by
  unfold nmc letB othB
  rw [Bool.eq_iff_iff]
  simp only [Bool.or_eq_true, Bool.and_eq_true, decide_eq_true_eq]
  omega
theorem heads_eq (c : UInt8) : heads.contains c = othB c := by
  have key : ∀ n : Fin 256, heads.contains (UInt8.ofNat n.1) = othB (UInt8.ofNat n.1) := by decide +kernel
  have := key ⟨c.toNat, c.toNat_lt⟩
  simpa only [UInt8.ofNat_toNat] using this
theorem let_oth (c : UInt8) : letB c = true → othB c = false := by
  unfold letB othB
  simp only [Bool.or_eq_true, Bool.and_eq_true, decide_eq_true_eq, Bool.or_eq_false_iff, Bool.and_eq_false_iff, decide_eq_false_iff_not]
  omega
def e22 : (Bytes) → List AV := fun s => [.str s]
def p22 : (Bytes) → Prop := fun s => s.length ≤ 4194304
def r22 : (Bytes) → AV := fun s => .bool (nameB s)
def g22 : (Bytes) → Heap := fun s => []
theorem inj22 : ∀ a b, e22 a = e22 b → a = b := by
  rintro s s' h
  simp only [e22, mi_iff, ms_iff, mb_iff, my_iff, UInt8.toNat_inj, List.cons.injEq, AV.int.injEq, AV.str.injEq, AV.bool.injEq, AV.sl.injEq, AV.agg.injEq, AV.ip.injEq, AV.fn.injEq, AV.ifc.injEq, AV.mpr.injEq, Int.natCast_inj, and_true, true_and] at h
  simp_all only
noncomputable def S22 : FSpec := funS e22 p22 r22 g22 true
theorem ps22 (s : (Bytes)) : psel e22 p22 [.str s] = (s.length ≤ 4194304) := psel_at inj22 p22 s
theorem rs22 (s : (Bytes)) : rsel e22 r22 .any [.str s] = (.bool (nameB s)) := rsel_at inj22 r22 .any s
theorem hs22 (s : (Bytes)) : rsel e22 g22 [] [.str s] = ([]) := rsel_at inj22 g22 [] s
attribute [push_cast] S22 ps22 rs22 hs22
theorem body22 (Γ : Env) (s : Bytes) (hl : s.length ≤ 4194304) : BodyOk Tryz.prog Γ Tryz.f22 (e22 s) [] (.bool (nameB s)) [] := by
  (intro X hP hΓ hL hfin; refine ⟨_, rfl, ?_⟩; rw [show Tryz.f22.ntmps = 61 from rfl]; rw [show Tryz.f22.results.toList = [.tmp 2] from rfl] at hfin; apply holds_of_ex X 400; simp (maxSteps := 1000000) only [push_cast, reduceCtorEq, Nat.reduceAdd, Nat.reduceMul, Nat.reduceSub, Nat.reduceBEq, Nat.reduceGT, Nat.reduceLT, Int.toNat_zero, Nat.reduceLeDiff, Int.reduceEq, Int.reduceLT, Int.reduceLE, hP, hΓ, hL, hfin, String.reduceEq, not_false_eq_true, if_true, e22])
  refine exB_split (fun h => ?_) (fun h => ?_)
  · have hn : nameB s = false := by
      simp only [Bool.or_eq_true, decide_eq_true_eq, beq_iff_eq] at h
      unfold nameB
      rcases h with h | h
      · simp [h]
      · simp [show ¬ s.length ≤ 23 by omega]
    ((first | with_reducible refine holds_of_ex X 400 _ _ _ ?_ | skip); simp (maxSteps := 1000000) only [push_cast, reduceCtorEq, Nat.reduceAdd, Nat.reduceMul, Nat.reduceSub, Nat.reduceBEq, Nat.reduceGT, Nat.reduceLT, Int.toNat_zero, Nat.reduceLeDiff, Int.reduceEq, Int.reduceLT, Int.reduceLE, hP, hΓ, hL, hfin, String.reduceEq, not_false_eq_true, if_true])
    rw [hn]
    exact Into.sameA
  simp only [Bool.or_eq_false_iff, decide_eq_false_iff_not, beq_eq_false_iff_ne] at h
  obtain ⟨h1, h2⟩ := h
  have hpos : 0 < s.length := List.length_pos_iff.2 h1
  have hnm : nameB s = (s.all nmc && !heads.contains (s.getD 0 0)) := by
    unfold nameB
    rw [show (s == []) = false by simpa using h1, decide_eq_true (show s.length ≤ 23 by omega)]; simp
  ((first | with_reducible refine holds_of_ex X 400 _ _ _ ?_ | skip); simp (maxSteps := 1000000) only [push_cast, reduceCtorEq, Nat.reduceAdd, Nat.reduceMul, Nat.reduceSub, Nat.reduceBEq, Nat.reduceGT, Nat.reduceLT, Int.toNat_zero, Nat.reduceLeDiff, Int.reduceEq, Int.reduceLT, Int.reduceLE, hP, hΓ, hL, hfin, String.reduceEq, not_false_eq_true, if_true])
  refine Holds.loopM (ι := {k : Nat // k ≤ s.length ∧ ∀ j < k, okAt s j = true}) [true, false, false, false, false, false, false, false, false, false, false, false, false, false, false, false, false, false, false, false, false, false, false, false, false, false, false, false, false, false, false, false, false, false, false, false, false, false, false, false, false, false, false, false, false, false, false, false, false, false, false, false, false, false, false, false, false, false, false, false, false] (fun i => [(3, .int .i64 i.1)]) (fun i => []) (fun i => s.length - i.1) ⟨0, Nat.zero_le _, by simp⟩ ?_ ?_
  · (rw [hL]; simp only [push_cast, Int.natCast_zero]; exact Into.sameA)
  rintro ⟨k, hk, hg⟩
  ((first | with_reducible refine holds_of_ex X 400 _ _ _ ?_ | skip); simp (maxSteps := 1000000) only [push_cast, reduceCtorEq, Nat.reduceAdd, Nat.reduceMul, Nat.reduceSub, Nat.reduceBEq, Nat.reduceGT, Nat.reduceLT, Int.toNat_zero, Nat.reduceLeDiff, Int.reduceEq, Int.reduceLT, Int.reduceLE, hP, hΓ, hL, hfin, String.reduceEq, not_false_eq_true, if_true])
  ((with_reducible refine exB_split (fun h => ?_) (fun h => ?_)) <;> (try simp only [decide_eq_true_eq, decide_eq_false_iff_not, Bool.and_eq_true, Bool.or_eq_true, Bool.and_eq_false_iff, Bool.or_eq_false_iff, Bool.not_eq_true', Bool.not_eq_false', Bool.not_eq_true, Bool.not_eq_false, Int.not_lt, Int.not_le, beq_iff_eq, beq_eq_false_iff_ne, ne_eq] at h))
  · have hk' : k < s.length := by omega
    have hL : (decide (97 ≤ ((s.getD k 0).toNat : Int)) && decide (((s.getD k 0).toNat : Int) ≤ 122) || decide (65 ≤ ((s.getD k 0).toNat : Int)) && decide (((s.getD k 0).toNat : Int) ≤ 90)) = letB (s.getD k 0) := rfl
    have hO : (decide (48 ≤ ((s.getD k 0).toNat : Int)) && decide (((s.getD k 0).toNat : Int) ≤ 57) || decide (((s.getD k 0).toNat : Int) = 46) || decide (((s.getD k 0).toNat : Int) = 95)) = othB (s.getD k 0) := rfl
    have hok : (!letB (s.getD k 0) && (decide ((k : Int) = 0) || !othB (s.getD k 0))) = !okAt s k := by
      have h0 : decide ((k : Int) = 0) = !decide (0 < k) := by
        by_cases hz : k = 0
        · subst hz; rfl
        · rw [decide_eq_false (by omega), decide_eq_true (by omega)]; rfl
      have hlo := let_oth (s.getD k 0)
      rw [okAt, nmc_eq, heads_eq, h0]
      generalize letB (s.getD k 0) = a at *
      generalize othB (s.getD k 0) = b at *
      generalize decide (0 < k) = c
      cases a <;> cases b <;> cases c <;> simp_all
    ((first | with_reducible refine holds_of_ex X 400 _ _ _ ?_ | skip); simp (maxSteps := 1000000) only [push_cast, reduceCtorEq, Nat.reduceAdd, Nat.reduceMul, Nat.reduceSub, Nat.reduceBEq, Nat.reduceGT, Nat.reduceLT, Int.toNat_zero, Nat.reduceLeDiff, Int.reduceEq, Int.reduceLT, Int.reduceLE, hP, hΓ, hL, hfin, String.reduceEq, not_false_eq_true, if_true, hk', hL, hO])
    rw [hok]
    refine ⟨by omega, ?_⟩
    refine exB_split (fun h => ?_) (fun h => ?_)
    · have hno : okAt s k = false := by simpa using h
      have hn : nameB s = false := by
        rw [hnm]
        rw [okAt] at hno
        by_cases hm : nmc (s.getD k 0) = true
        · rw [hm, Bool.true_and, Bool.or_eq_false_iff] at hno
          obtain ⟨a, b⟩ := hno
          have hz : k = 0 := by simpa using a
          subst hz
          rw [b, Bool.and_false]
        · have : s.all nmc = false := by
            rw [← Bool.not_eq_true, List.all_eq_true]
            intro hall
            exact hm (hall _ (by simp [List.getD, hk']))
          rw [this, Bool.false_and]
      ((first | with_reducible refine holds_of_ex X 400 _ _ _ ?_ | skip); simp (maxSteps := 1000000) only [push_cast, reduceCtorEq, Nat.reduceAdd, Nat.reduceMul, Nat.reduceSub, Nat.reduceBEq, Nat.reduceGT, Nat.reduceLT, Int.toNat_zero, Nat.reduceLeDiff, Int.reduceEq, Int.reduceLT, Int.reduceLE, hP, hΓ, hL, hfin, String.reduceEq, not_false_eq_true, if_true])
      rw [hn]
      exact Into.sameA
    · have hyes : okAt s k = true := by simpa using h
      ((first | with_reducible refine holds_of_ex X 400 _ _ _ ?_ | skip); simp (maxSteps := 1000000) only [push_cast, reduceCtorEq, Nat.reduceAdd, Nat.reduceMul, Nat.reduceSub, Nat.reduceBEq, Nat.reduceGT, Nat.reduceLT, Int.toNat_zero, Nat.reduceLeDiff, Int.reduceEq, Int.reduceLT, Int.reduceLE, hP, hΓ, hL, hfin, String.reduceEq, not_false_eq_true, if_true, wr_i64 ((k : Int) + 1) (by constructor <;> omega)])
      refine ⟨⟨k + 1, hk', fun j hj => ?_⟩, by simp only; omega, ?_⟩
      · rcases Nat.lt_succ_iff_lt_or_eq.1 hj with h' | rfl
        · exact hg j h'
        · exact hyes
      simp only [Int.natCast_add, Int.natCast_one]
      exact Into.sameA
  ((first | with_reducible refine holds_of_ex X 400 _ _ _ ?_ | skip); simp (maxSteps := 1000000) only [push_cast, reduceCtorEq, Nat.reduceAdd, Nat.reduceMul, Nat.reduceSub, Nat.reduceBEq, Nat.reduceGT, Nat.reduceLT, Int.toNat_zero, Nat.reduceLeDiff, Int.reduceEq, Int.reduceLT, Int.reduceLE, hP, hΓ, hL, hfin, String.reduceEq, not_false_eq_true, if_true])
  have hk2 : k = s.length := by omega
  subst hk2
  have hn : nameB s = true := by
    rw [hnm]
    have h0 := hg 0 hpos
    simp only [okAt, Nat.lt_irrefl, decide_false, Bool.false_or, Bool.and_eq_true] at h0
    rw [h0.2, Bool.and_true, List.all_eq_true]
    intro c hc
    obtain ⟨i, hi, e⟩ := List.mem_iff_getElem.1 hc
    have := hg i hi
    simp only [okAt, Bool.and_eq_true] at this
    rw [← e]; simpa [List.getD, hi] using this.1
  rw [hn]
  exact Into.sameA
theorem con22 {Γ : Env} (h : EnvOk Tryz.prog Γ)  : Con Tryz.prog 22 S22 :=
  funS_con h (fn := Tryz.f22) (by kernel_rfl) rfl (by kernel_rfl) inj22 (by first | (intro h; cases h; done) | exact fun _ _ => rfl) fun s h => body22 Γ s h
/-! numbers' texts -/
theorem pow_tab {m : Mem} {L : Heap} {w : World} (hW : WRel m L w) : Lib.TabIs Tryz.prog w "internal/strconv.uint64pow10" .u64 Lib.pow10Tab := by
  obtain ⟨c, e, f, h1, h2⟩ := hW.glob.2 (1, (List.range 20).map fun i => Value.int .u64 ((10 ^ i : Nat) : Int)) (by simp [gTab])
  have h3 := hW.pobjs _ _ h1
  have hg : Tryz.prog.globalNamed "internal/strconv.uint64pow10" = some 1 := by kernel_rfl
  unfold Lib.TabIs World.var?
  rw [hg]
  simp only [Option.bind_some]
  simp only at h3
  rw [h3]
  simp only [Option.some.injEq]
  apply Array.ext'
  rw [h2]
  simp [Lib.pow10Tab]
abbrev dec (n : Int) : Bytes := Lib.decDigits n.toNat
def e56 : (Int) → List AV := fun n => [.int .i64 n]
def p56 : (Int) → Prop := fun n => 0 ≤ n ∧ n ≤ 1000000000
def r56 : (Int) → AV := fun n => .str (dec n)
def g56 : (Int) → Heap := fun n => []
theorem inj56 : ∀ a b, e56 a = e56 b → a = b := by
  rintro n n' h
  simp only [e56, mi_iff, ms_iff, mb_iff, my_iff, UInt8.toNat_inj, List.cons.injEq, AV.int.injEq, AV.str.injEq, AV.bool.injEq, AV.sl.injEq, AV.agg.injEq, AV.ip.injEq, AV.fn.injEq, AV.ifc.injEq, AV.mpr.injEq, Int.natCast_inj, and_true, true_and] at h
  simp_all only
noncomputable def S56 : FSpec := funS e56 p56 r56 g56 true
theorem ps56 (n : (Int)) : psel e56 p56 [.int .i64 n] = (0 ≤ n ∧ n ≤ 1000000000) := psel_at inj56 p56 n
theorem rs56 (n : (Int)) : rsel e56 r56 .any [.int .i64 n] = (.str (dec n)) := rsel_at inj56 r56 .any n
theorem hs56 (n : (Int)) : rsel e56 g56 [] [.int .i64 n] = ([]) := rsel_at inj56 g56 [] n
attribute [push_cast] S56 ps56 rs56 hs56
theorem con56 : Con Tryz.prog 56 S56 := by
  refine funS_below (fn := Tryz.f56) (by kernel_rfl) rfl (by kernel_rfl) inj56 (fun _ => rfl) fun m w n vs hW hx hp => ?_
  obtain ⟨h0, h1⟩ := hp
  simp only [e56, CRel, VRel] at hx
  obtain ⟨_, _, rfl, rfl, rfl⟩ := hx
  refine Calls.mono (Tryz.strconv_Itoa n (by omega) (by omega) w (pow_tab hW)) ?_
  rintro e w' ⟨rfl, k, os, rfl⟩
  refine ⟨_, rfl, ?_, ⟨rfl, rfl, rfl, by simp [Sort.grow, World.drewN], fun j hj => ?_⟩⟩
  · simp only [r56, VRel, dec, Lib.itoa, if_neg (show ¬ n < 0 by omega)]
  · simp only [Sort.grow, World.drewN]
    rw [Array.getElem?_append_left hj]
theorem dec_len (n : Nat) (h : n ≤ 1000000000) : (Lib.decDigits n).length ≤ 10 := by
  have key : ∀ (k n : Nat), n < 10 ^ k → 0 < k → (Lib.decDigits n).length ≤ k := by
    intro k
    induction k with
    | zero => intro n _ h; omega
    | succ k ih =>
      intro n hn _
      rw [Lib.decDigits]
      split
      · simp
      · rename_i h10
        rw [List.length_append]
        have hk : 0 < k := by
          rcases Nat.eq_zero_or_pos k with rfl | h
          · simp at hn; omega
          · exact h
        have := ih (n / 10) (by rw [Nat.pow_succ] at hn; omega) hk
        simp only [List.length_cons, List.length_nil]; omega
  exact key 10 n (by omega) (by omega)
def numT (n : Int) : Bytes := dec n ++ [10]
def wrongT (n : Int) : Bytes := [63, 32] ++ dec n ++ [10]
def e84 : (Int) → List AV := fun n => [.int .i64 n]
def p84 : (Int) → Prop := fun n => 0 ≤ n ∧ n ≤ 1000000000
def r84 : (Int) → AV := fun n => .str (numT n)
def g84 : (Int) → Heap := fun n => []
theorem inj84 : ∀ a b, e84 a = e84 b → a = b := by
  rintro n n' h
  simp only [e84, mi_iff, ms_iff, mb_iff, my_iff, UInt8.toNat_inj, List.cons.injEq, AV.int.injEq, AV.str.injEq, AV.bool.injEq, AV.sl.injEq, AV.agg.injEq, AV.ip.injEq, AV.fn.injEq, AV.ifc.injEq, AV.mpr.injEq, Int.natCast_inj, and_true, true_and] at h
  simp_all only
noncomputable def S84 : FSpec := funS e84 p84 r84 g84 true
theorem ps84 (n : (Int)) : psel e84 p84 [.int .i64 n] = (0 ≤ n ∧ n ≤ 1000000000) := psel_at inj84 p84 n
theorem rs84 (n : (Int)) : rsel e84 r84 .any [.int .i64 n] = (.str (numT n)) := rsel_at inj84 r84 .any n
theorem hs84 (n : (Int)) : rsel e84 g84 [] [.int .i64 n] = ([]) := rsel_at inj84 g84 [] n
attribute [push_cast] S84 ps84 rs84 hs84
theorem body84 (Γ : Env) (h56 : Γ 56 = some S56) (n : Int) (h : 0 ≤ n ∧ n ≤ 1000000000) : BodyOk Tryz.prog Γ Tryz.f84 (e84 n) [] (.str (numT n)) [] := by
  have hd : (dec n).length ≤ 10 := dec_len n.toNat (by omega)
  (intro X hP hΓ hL hfin; refine ⟨_, rfl, ?_⟩; rw [show Tryz.f84.ntmps = 6 from rfl]; rw [show Tryz.f84.results.toList = [.tmp 2] from rfl] at hfin; apply holds_of_ex X 400; simp (maxSteps := 1000000) only [push_cast, reduceCtorEq, Nat.reduceAdd, Nat.reduceMul, Nat.reduceSub, Nat.reduceBEq, Nat.reduceGT, Nat.reduceLT, Int.toNat_zero, Nat.reduceLeDiff, Int.reduceEq, Int.reduceLT, Int.reduceLE, hP, hΓ, hL, hfin, String.reduceEq, not_false_eq_true, if_true, e84, h56])
  refine ⟨h, by omega, ?_⟩
  rw [numT]
  exact Into.sameA
theorem con84 {Γ : Env} (h : EnvOk Tryz.prog Γ) (h56 : Γ 56 = some S56) : Con Tryz.prog 84 S84 :=
  funS_con h (fn := Tryz.f84) (by kernel_rfl) rfl (by kernel_rfl) inj84 (by first | (intro h; cases h; done) | exact fun _ _ => rfl) fun n h => body84 Γ h56 n h
def e29 : (Int) → List AV := fun n => [.int .i64 n]
def p29 : (Int) → Prop := fun n => 0 ≤ n ∧ n ≤ 1000000000
def r29 : (Int) → AV := fun n => .str (wrongT n)
def g29 : (Int) → Heap := fun n => []
theorem inj29 : ∀ a b, e29 a = e29 b → a = b := by
  rintro n n' h
  simp only [e29, mi_iff, ms_iff, mb_iff, my_iff, UInt8.toNat_inj, List.cons.injEq, AV.int.injEq, AV.str.injEq, AV.bool.injEq, AV.sl.injEq, AV.agg.injEq, AV.ip.injEq, AV.fn.injEq, AV.ifc.injEq, AV.mpr.injEq, Int.natCast_inj, and_true, true_and] at h
  simp_all only
noncomputable def S29 : FSpec := funS e29 p29 r29 g29 true
theorem ps29 (n : (Int)) : psel e29 p29 [.int .i64 n] = (0 ≤ n ∧ n ≤ 1000000000) := psel_at inj29 p29 n
theorem rs29 (n : (Int)) : rsel e29 r29 .any [.int .i64 n] = (.str (wrongT n)) := rsel_at inj29 r29 .any n
theorem hs29 (n : (Int)) : rsel e29 g29 [] [.int .i64 n] = ([]) := rsel_at inj29 g29 [] n
attribute [push_cast] S29 ps29 rs29 hs29
theorem body29 (Γ : Env) (h56 : Γ 56 = some S56) (n : Int) (h : 0 ≤ n ∧ n ≤ 1000000000) : BodyOk Tryz.prog Γ Tryz.f29 (e29 n) [] (.str (wrongT n)) [] := by
  have hd : (dec n).length ≤ 10 := dec_len n.toNat (by omega)
  (intro X hP hΓ hL hfin; refine ⟨_, rfl, ?_⟩; rw [show Tryz.f29.ntmps = 7 from rfl]; rw [show Tryz.f29.results.toList = [.tmp 2] from rfl] at hfin; apply holds_of_ex X 400; simp (maxSteps := 1000000) only [push_cast, reduceCtorEq, Nat.reduceAdd, Nat.reduceMul, Nat.reduceSub, Nat.reduceBEq, Nat.reduceGT, Nat.reduceLT, Int.toNat_zero, Nat.reduceLeDiff, Int.reduceEq, Int.reduceLT, Int.reduceLE, hP, hΓ, hL, hfin, String.reduceEq, not_false_eq_true, if_true, e29, h56])
  refine ⟨h, by omega, by omega, ?_⟩
  rw [show wrongT n = 63 :: 32 :: (dec n ++ [10]) from rfl]
  exact Into.sameA
theorem con29 {Γ : Env} (h : EnvOk Tryz.prog Γ) (h56 : Γ 56 = some S56) : Con Tryz.prog 29 S29 :=
  funS_con h (fn := Tryz.f29) (by kernel_rfl) rfl (by kernel_rfl) inj29 (by first | (intro h; cases h; done) | exact fun _ _ => rfl) fun n h => body29 Γ h56 n h
theorem lit9 (y : Nat) (h : y < 10) : List.drop y (48 :: List.take y ([49, 50, 51, 52, 53, 54, 55, 56, 57] : Bytes)) = [UInt8.ofNat (48 + y)] := by
  have : y = 0 ∨ y = 1 ∨ y = 2 ∨ y = 3 ∨ y = 4 ∨ y = 5 ∨ y = 6 ∨ y = 7 ∨ y = 8 ∨ y = 9 := by omega
  rcases this with rfl | rfl | rfl | rfl | rfl | rfl | rfl | rfl | rfl | rfl <;> rfl
/-- how far a number's digits are written -/
def Di (n k : Nat) (t : Bytes) : Prop := (t = [] ∧ k = n) ∨ (t ≠ [] ∧ Lib.decDigits n = (if k = 0 then [] else Lib.decDigits k) ++ t)
theorem Di.step {n k : Nat} {t : Bytes} (h : Di n k t) (hc : t = [] ∨ 0 < k) : Di n (k / 10) (UInt8.ofNat (48 + k % 10) :: t) := by
  right
  refine ⟨by simp, ?_⟩
  have e : Lib.decDigits k = (if k / 10 = 0 then [] else Lib.decDigits (k / 10)) ++ [UInt8.ofNat (48 + k % 10)] := by
    rw [Lib.decDigits]
    by_cases hk : k < 10
    · rw [dif_pos hk, if_pos (by omega), Nat.mod_eq_of_lt hk]; rfl
    · rw [dif_neg hk, if_neg (by omega)]
  rcases h with ⟨rfl, rfl⟩ | ⟨h1, h2⟩
  · exact e
  · rw [h2, if_neg (by rcases hc with h | h; exact absurd h h1; omega), e, List.append_assoc]; rfl
def e34 : (Int) → List AV := fun n => [.int .i64 n]
def p34 : (Int) → Prop := fun n => 0 ≤ n ∧ n ≤ 1000000000
def r34 : (Int) → AV := fun n => .str (dec n)
def g34 : (Int) → Heap := fun n => []
theorem inj34 : ∀ a b, e34 a = e34 b → a = b := by
  rintro n n' h
  simp only [e34, mi_iff, ms_iff, mb_iff, my_iff, UInt8.toNat_inj, List.cons.injEq, AV.int.injEq, AV.str.injEq, AV.bool.injEq, AV.sl.injEq, AV.agg.injEq, AV.ip.injEq, AV.fn.injEq, AV.ifc.injEq, AV.mpr.injEq, Int.natCast_inj, and_true, true_and] at h
  simp_all only
noncomputable def S34 : FSpec := funS e34 p34 r34 g34 true
theorem ps34 (n : (Int)) : psel e34 p34 [.int .i64 n] = (0 ≤ n ∧ n ≤ 1000000000) := psel_at inj34 p34 n
theorem rs34 (n : (Int)) : rsel e34 r34 .any [.int .i64 n] = (.str (dec n)) := rsel_at inj34 r34 .any n
theorem hs34 (n : (Int)) : rsel e34 g34 [] [.int .i64 n] = ([]) := rsel_at inj34 g34 [] n
attribute [push_cast] S34 ps34 rs34 hs34
theorem body34 (Γ : Env) (n : Int) (h : 0 ≤ n ∧ n ≤ 1000000000) : BodyOk Tryz.prog Γ Tryz.f34 (e34 n) [] (.str (dec n)) [] := by
  have hdl := dec_len n.toNat (by omega)
  obtain ⟨n, rfl⟩ := Int.eq_ofNat_of_zero_le h.1
  rw [Int.toNat_natCast] at hdl
  (intro X hP hΓ hL hfin; refine ⟨_, rfl, ?_⟩; rw [show Tryz.f34.ntmps = 21 from rfl]; rw [show Tryz.f34.results.toList = [.tmp 2] from rfl] at hfin; apply holds_of_ex X 400; simp (maxSteps := 1000000) only [push_cast, reduceCtorEq, Nat.reduceAdd, Nat.reduceMul, Nat.reduceSub, Nat.reduceBEq, Nat.reduceGT, Nat.reduceLT, Int.toNat_zero, Nat.reduceLeDiff, Int.reduceEq, Int.reduceLT, Int.reduceLE, hP, hΓ, hL, hfin, String.reduceEq, not_false_eq_true, if_true, e34])
  refine Holds.loopM (ι := {x : Nat × Bytes // x.1 ≤ n ∧ Di n x.1 x.2}) [false, false, true, false, false, false, false, false, false, false, false, false, false, false, false, false, false, false, false, false, false] (fun i => [(0, .int .i64 i.1.1), (3, .str i.1.2)]) (fun i => []) (fun i => 2 * i.1.1 + (if i.1.2 = [] then 1 else 0)) ⟨(n, []), Nat.le_refl _, .inl ⟨rfl, rfl⟩⟩ ?_ ?_
  · (rw [hL]; simp only [push_cast, Int.natCast_zero]; exact Into.sameA)
  rintro ⟨⟨m, s⟩, hm, hd⟩
  simp only at hm hd
  ((first | with_reducible refine holds_of_ex X 400 _ _ _ ?_ | skip); simp (maxSteps := 1000000) only [push_cast, reduceCtorEq, Nat.reduceAdd, Nat.reduceMul, Nat.reduceSub, Nat.reduceBEq, Nat.reduceGT, Nat.reduceLT, Int.toNat_zero, Nat.reduceLeDiff, Int.reduceEq, Int.reduceLT, Int.reduceLE, hP, hΓ, hL, hfin, String.reduceEq, not_false_eq_true, if_true])
  ((with_reducible refine exB_split (fun h => ?_) (fun h => ?_)) <;> (try simp only [decide_eq_true_eq, decide_eq_false_iff_not, Bool.and_eq_true, Bool.or_eq_true, Bool.and_eq_false_iff, Bool.or_eq_false_iff, Bool.not_eq_true', Bool.not_eq_false', Bool.not_eq_true, Bool.not_eq_false, Int.not_lt, Int.not_le, beq_iff_eq, beq_eq_false_iff_ne, ne_eq] at h))
  · have hc : s = [] ∨ 0 < m := by
      rcases h with h | h
      · exact .inl h
      · exact .inr (by omega)
    have hs := hd.step hc
    have hx0 : m % 10 < 10 := Nat.mod_lt _ (by decide)
    have hsl : s.length ≤ 10 := by
      rcases hd with ⟨rfl, _⟩ | ⟨_, hd⟩
      · simp
      · rw [hd, List.length_append] at hdl; omega
    have e0 : (m : Int).tmod 10 = ((m % 10 : Nat) : Int) := by rw [Int.tmod_eq_emod_of_nonneg (by omega)]; omega
    have e1 : IntKind.i64.wrap (((m % 10 : Nat) : Int) + 1) = ((m % 10 + 1 : Nat) : Int) := by rw [wr_i64 _ (by constructor <;> omega)]; omega
    have e2 : IntKind.i64.wrap ((m : Int).tdiv 10) = ((m / 10 : Nat) : Int) := by
      rw [Int.tdiv_eq_ediv_of_nonneg (by omega), wr_i64 _ (by constructor <;> omega)]; omega
    have e3 := lit9 (m % 10) hx0
    generalize hy : m % 10 = y at *
    generalize hz : m / 10 = z at *
    ((first | with_reducible refine holds_of_ex X 400 _ _ _ ?_ | skip); simp (maxSteps := 1000000) only [push_cast, reduceCtorEq, Nat.reduceAdd, Nat.reduceMul, Nat.reduceSub, Nat.reduceBEq, Nat.reduceGT, Nat.reduceLT, Int.toNat_zero, Nat.reduceLeDiff, Int.reduceEq, Int.reduceLT, Int.reduceLE, hP, hΓ, hL, hfin, String.reduceEq, not_false_eq_true, if_true, e0, e1, e2, e3, Int.toNat_natCast])
    refine ⟨⟨by omega, by omega⟩, by omega, ⟨(z, UInt8.ofNat (48 + y) :: s), by simp only; omega, hs⟩, ?_, ?_⟩
    · have : (UInt8.ofNat (48 + y) :: s = []) = False := by simp
      simp only [this, if_false]
      rcases hc with hc | hc
      · rw [if_pos hc]; omega
      · omega
    exact Into.sameA
  · have hf : dec (n : Int) = s := by
      rcases hd with ⟨h1, _⟩ | ⟨_, hd⟩
      · exact absurd h1 h.1
      · rw [dec, Int.toNat_natCast, hd, if_pos (by omega)]; rfl
    ((first | with_reducible refine holds_of_ex X 400 _ _ _ ?_ | skip); simp (maxSteps := 1000000) only [push_cast, reduceCtorEq, Nat.reduceAdd, Nat.reduceMul, Nat.reduceSub, Nat.reduceBEq, Nat.reduceGT, Nat.reduceLT, Int.toNat_zero, Nat.reduceLeDiff, Int.reduceEq, Int.reduceLT, Int.reduceLE, hP, hΓ, hL, hfin, String.reduceEq, not_false_eq_true, if_true])
    rw [hf]
    exact Into.sameA
theorem con34 {Γ : Env} (h : EnvOk Tryz.prog Γ)  : Con Tryz.prog 34 S34 :=
  funS_con h (fn := Tryz.f34) (by kernel_rfl) rfl (by kernel_rfl) inj34 (by first | (intro h; cases h; done) | exact fun _ _ => rfl) fun n h => body34 Γ n h
def e32 : (Int) → List AV := fun n => [.int .i64 n]
def p32 : (Int) → Prop := fun n => 0 ≤ n ∧ n ≤ 1000000000
def r32 : (Int) → AV := fun n => .str (wrongT n)
def g32 : (Int) → Heap := fun n => []
theorem inj32 : ∀ a b, e32 a = e32 b → a = b := by
  rintro n n' h
  simp only [e32, mi_iff, ms_iff, mb_iff, my_iff, UInt8.toNat_inj, List.cons.injEq, AV.int.injEq, AV.str.injEq, AV.bool.injEq, AV.sl.injEq, AV.agg.injEq, AV.ip.injEq, AV.fn.injEq, AV.ifc.injEq, AV.mpr.injEq, Int.natCast_inj, and_true, true_and] at h
  simp_all only
noncomputable def S32 : FSpec := funS e32 p32 r32 g32 true
theorem ps32 (n : (Int)) : psel e32 p32 [.int .i64 n] = (0 ≤ n ∧ n ≤ 1000000000) := psel_at inj32 p32 n
theorem rs32 (n : (Int)) : rsel e32 r32 .any [.int .i64 n] = (.str (wrongT n)) := rsel_at inj32 r32 .any n
theorem hs32 (n : (Int)) : rsel e32 g32 [] [.int .i64 n] = ([]) := rsel_at inj32 g32 [] n
attribute [push_cast] S32 ps32 rs32 hs32
theorem body32 (Γ : Env) (h34 : Γ 34 = some S34) (n : Int) (h : 0 ≤ n ∧ n ≤ 1000000000) : BodyOk Tryz.prog Γ Tryz.f32 (e32 n) [] (.str (wrongT n)) [] := by
  have hd : (dec n).length ≤ 10 := dec_len n.toNat (by omega)
  (intro X hP hΓ hL hfin; refine ⟨_, rfl, ?_⟩; rw [show Tryz.f32.ntmps = 7 from rfl]; rw [show Tryz.f32.results.toList = [.tmp 2] from rfl] at hfin; apply holds_of_ex X 400; simp (maxSteps := 1000000) only [push_cast, reduceCtorEq, Nat.reduceAdd, Nat.reduceMul, Nat.reduceSub, Nat.reduceBEq, Nat.reduceGT, Nat.reduceLT, Int.toNat_zero, Nat.reduceLeDiff, Int.reduceEq, Int.reduceLT, Int.reduceLE, hP, hΓ, hL, hfin, String.reduceEq, not_false_eq_true, if_true, e32, h34])
  refine ⟨h, by omega, by omega, ?_⟩
  rw [show wrongT n = 63 :: 32 :: (dec n ++ [10]) from rfl]
  exact Into.sameA
theorem con32 {Γ : Env} (h : EnvOk Tryz.prog Γ) (h34 : Γ 34 = some S34) : Con Tryz.prog 32 S32 :=
  funS_con h (fn := Tryz.f32) (by kernel_rfl) rfl (by kernel_rfl) inj32 (by first | (intro h; cases h; done) | exact fun _ _ => rfl) fun n h => body32 Γ h34 n h
end Go.Proofs.YtenopfmafecffaaGreatDoor.modelDone
