/- Of assembly texts: numbers and registers are read, by the program and by the document. Conditions stand in each. Of assembly texts: numbers and registers are read, by the document. Conditions stand in each. Of assembly texts: registers and conditions, by the document; branches. Conditions stand in each. Of assembly texts: branches, by the program and by the document. Conditions stand in each. -/
import Derived.Test.YtgemeilncdmapaaGreatDoorQO
import Derived.Test.YtgemeilncdmapaaGreatDoorQL
section
namespace Go.Proofs.YtgemeilncdmapaaGreatDoor.asmDone
open Go Go.Eng Go.Proofs Go.RowKit
open Go.Asm (mayB in16 rightB laid sx In flds rightI laidI decB laid_lo ops cnds opT cnT regT sufT nameT hexC hexT sep lastT insT showF joinT numO prgN prgB regO refP refO dgt dval ixO)
set_option linter.unusedVariables false
set_option linter.unusedSimpArgs false
set_option maxRecDepth 100000
set_option maxHeartbeats 4000000
def e97 : (List UInt8) → List AV := fun s => [.str s]
def p97 : (List UInt8) → Prop := fun s => s.length ≤ 4194304
def r97 : (List UInt8) → AV := fun s => .tup [.int .i64 (prgN s), .bool (prgB s)]
def g97 : (List UInt8) → Heap := fun s => []
theorem inj97 : ∀ a b, e97 a = e97 b → a = b := by
  rintro s s' h
  simp only [e97, mi_iff, ms_iff, mb_iff, my_iff, UInt8.toNat_inj, List.cons.injEq, AV.int.injEq, AV.str.injEq, AV.bool.injEq, AV.sl.injEq, AV.agg.injEq, AV.ip.injEq, AV.fn.injEq, AV.ifc.injEq, AV.mpr.injEq, Int.natCast_inj, and_true, true_and] at h
  simp_all only
noncomputable def S97 : FSpec := funS e97 p97 r97 g97 true
theorem ps97 (s : (List UInt8)) : psel e97 p97 [.str s] = (s.length ≤ 4194304) := psel_at inj97 p97 s
theorem rs97 (s : (List UInt8)) : rsel e97 r97 .any [.str s] = (.tup [.int .i64 (prgN s), .bool (prgB s)]) := rsel_at inj97 r97 .any s
theorem hs97 (s : (List UInt8)) : rsel e97 g97 [] [.str s] = ([]) := rsel_at inj97 g97 [] s
attribute [push_cast] S97 ps97 rs97 hs97
theorem body97 (Γ : Env) (h121 : Γ 121 = some S121) (h122 : Γ 122 = some S122) (s : List UInt8) (hs : s.length ≤ 4194304) : BodyOk Tryz.prog Γ Tryz.f97 [.str s] [] (.tup [.int .i64 (prgN s), .bool (prgB s)]) [] := by
  cases hpi : Lib.parseIntB 64 s with
  | ok v =>
    have hb := Lib.parseIntB_bounds hpi
    have hv : prgN s = v := by rw [prgN, hpi]
    have hb1 : -9223372036854775808 ≤ v := by simpa using hb.1
    have hb2 : v ≤ 9223372036854775807 := by have := hb.2; simp only [Nat.reduceSub, Nat.reducePow] at this; omega
    rw [prgB, hpi, hv]
    (intro X hP hΓ hL hfin; refine ⟨_, rfl, ?_⟩; rw [show Tryz.f97.ntmps = 20 from rfl]; rw [show Tryz.f97.results.toList = [.tmp 2, .tmp 3] from rfl] at hfin; apply holds_of_ex X 400; simp (maxSteps := 1000000) only [push_cast, reduceCtorEq, Nat.reduceAdd, Nat.reduceMul, Nat.reduceSub, Nat.reduceBEq, Nat.reduceGT, Nat.reduceLT, Int.toNat_zero, Nat.reduceLeDiff, Int.reduceEq, Int.reduceLT, Int.reduceLE, hP, hΓ, hL, hfin, String.reduceEq, not_false_eq_true, if_true, if_false, Int.toNat_one, Bool.not_not, h121, h122, hpi, hv, hs, hb1, hb2, and_self])
    exact Into.sameA
  | range =>
    rw [prgB, hpi]
    (intro X hP hΓ hL hfin; refine ⟨_, rfl, ?_⟩; rw [show Tryz.f97.ntmps = 20 from rfl]; rw [show Tryz.f97.results.toList = [.tmp 2, .tmp 3] from rfl] at hfin; apply holds_of_ex X 400; simp (maxSteps := 1000000) only [push_cast, reduceCtorEq, Nat.reduceAdd, Nat.reduceMul, Nat.reduceSub, Nat.reduceBEq, Nat.reduceGT, Nat.reduceLT, Int.toNat_zero, Nat.reduceLeDiff, Int.reduceEq, Int.reduceLT, Int.reduceLE, hP, hΓ, hL, hfin, String.reduceEq, not_false_eq_true, if_true, if_false, Int.toNat_one, Bool.not_not, h121, h122, hpi, hs])
    exact Into.sameA
  | _ =>
    rw [prgB, hpi]
    (intro X hP hΓ hL hfin; refine ⟨_, rfl, ?_⟩; rw [show Tryz.f97.ntmps = 20 from rfl]; rw [show Tryz.f97.results.toList = [.tmp 2, .tmp 3] from rfl] at hfin; apply holds_of_ex X 400; simp (maxSteps := 1000000) only [push_cast, reduceCtorEq, Nat.reduceAdd, Nat.reduceMul, Nat.reduceSub, Nat.reduceBEq, Nat.reduceGT, Nat.reduceLT, Int.toNat_zero, Nat.reduceLeDiff, Int.reduceEq, Int.reduceLT, Int.reduceLE, hP, hΓ, hL, hfin, String.reduceEq, not_false_eq_true, if_true, if_false, Int.toNat_one, Bool.not_not, h121, h122, hpi, hs])
    exact Into.sameA
theorem con97 {Γ : Env} (h : EnvOk Tryz.prog Γ) (h121 : Γ 121 = some S121) (h122 : Γ 122 = some S122) : Con Tryz.prog 97 S97 :=
  funS_con h (fn := Tryz.f97) (by kernel_rfl) rfl (by kernel_rfl) inj97 (by first | (intro h; cases h; done) | exact fun _ _ => rfl) fun s h => body97 Γ h121 h122 s h
def rgN (s : List UInt8) : Int := prgN (Lib.trimPrefix s [82])
theorem pre_r (s : List UInt8) : (Lib.hasPrefix s [82] = true ∧ ∃ t, s = 82 :: t ∧ Lib.trimPrefix s [82] = t) ∨ (Lib.hasPrefix s [82] = false ∧ ∀ t, s ≠ 82 :: t) := by
  cases s with
  | nil => right; exact ⟨by simp [Lib.hasPrefix], fun t h => by cases h⟩
  | cons c t =>
    by_cases hc : c = 82
    · subst hc; left; exact ⟨by simp [Lib.hasPrefix], t, rfl, by simp [Lib.trimPrefix, Lib.hasPrefix]⟩
    · right; exact ⟨by simp [Lib.hasPrefix, List.isPrefixOf, Ne.symm hc], fun t' h => hc (by cases h; rfl)⟩
theorem reg_no {s : List UInt8} (h : ∀ t, s ≠ 82 :: t) : regO s = none := by
  unfold regO
  split
  · rename_i t; exact absurd rfl (h t)
  · rfl
theorem reg_82 (t : List UInt8) : regO (82 :: t) = match numO t with
    | some n => if 0 ≤ n ∧ n ≤ 15 then some n else none
    | none => none := rfl
theorem rg_is (s : List UInt8) : (Lib.hasPrefix s [82] && prgB (Lib.trimPrefix s [82]) && decide (0 ≤ rgN s) && decide (rgN s ≤ 15)) = (regO s).isSome := by
  rcases pre_r s with ⟨h1, t, rfl, h2⟩ | ⟨h1, h2⟩
  · rw [h1, reg_82, rgN, h2]
    cases hn : numO t with
    | none =>
      have : prgB t = false := by
        cases hb : prgB t with
        | false => rfl
        | true => obtain ⟨n, h, _⟩ := (Go.Asm.prg_is t).1 hb; rw [hn] at h; cases h
      rw [this]; simp
    | some n =>
      simp only
      by_cases hr : 0 ≤ n ∧ n ≤ 15
      · rw [if_pos hr, (Go.Asm.prg_is t).2 ⟨n, hn, by omega, by omega⟩, Go.Asm.prg_val hn (by omega)]
        simp [hr.1, hr.2]
      · rw [if_neg hr]
        cases hb : prgB t with
        | false => simp
        | true =>
          obtain ⟨n', h, hb'⟩ := (Go.Asm.prg_is t).1 hb
          rw [hn] at h; cases h
          rw [Go.Asm.prg_val hn (by omega)]
          simp only [Bool.true_and, Option.isSome_none, Bool.and_eq_false_iff, decide_eq_false_iff_not]
          omega
  · rw [h1, reg_no h2]; rfl
theorem rg_val {s : List UInt8} {n : Int} (h : regO s = some n) : rgN s = n ∧ 0 ≤ n ∧ n ≤ 15 := by
  rcases pre_r s with ⟨h1, t, rfl, h2⟩ | ⟨h1, h2⟩
  · rw [reg_82] at h
    cases hn : numO t with
    | none => rw [hn] at h; cases h
    | some k =>
      rw [hn] at h
      simp only at h
      split at h
      · rename_i hr
        cases h
        exact ⟨by rw [rgN, h2, Go.Asm.prg_val hn (by omega)], hr⟩
      · cases h
  · rw [reg_no h2] at h; cases h
def e69 : (List UInt8) → List AV := fun s => [.str s]
def p69 : (List UInt8) → Prop := fun s => s.length ≤ 4194304
def r69 : (List UInt8) → AV := fun s => .tup [.int .i64 (rgN s), .bool (regO s).isSome]
def g69 : (List UInt8) → Heap := fun s => []
theorem inj69 : ∀ a b, e69 a = e69 b → a = b := by
  rintro s s' h
  simp only [e69, mi_iff, ms_iff, mb_iff, my_iff, UInt8.toNat_inj, List.cons.injEq, AV.int.injEq, AV.str.injEq, AV.bool.injEq, AV.sl.injEq, AV.agg.injEq, AV.ip.injEq, AV.fn.injEq, AV.ifc.injEq, AV.mpr.injEq, Int.natCast_inj, and_true, true_and] at h
  simp_all only
noncomputable def S69 : FSpec := funS e69 p69 r69 g69 true
theorem ps69 (s : (List UInt8)) : psel e69 p69 [.str s] = (s.length ≤ 4194304) := psel_at inj69 p69 s
theorem rs69 (s : (List UInt8)) : rsel e69 r69 .any [.str s] = (.tup [.int .i64 (rgN s), .bool (regO s).isSome]) := rsel_at inj69 r69 .any s
theorem hs69 (s : (List UInt8)) : rsel e69 g69 [] [.str s] = ([]) := rsel_at inj69 g69 [] s
attribute [push_cast] S69 ps69 rs69 hs69
theorem rg_b {s : List UInt8} : IntKind.i64.wrap (rgN s) = rgN s := by
  unfold rgN prgN
  cases h : Lib.parseIntB 64 (Lib.trimPrefix s [82]) with
  | ok v =>
    have hb := Lib.parseIntB_bounds h
    simp only [Nat.reduceSub, Nat.reducePow] at hb
    exact wr_i64 _ (by constructor <;> simp only <;> omega)
  | range =>
    simp only [Lib.intSat]
    split <;> rfl
  | _ => rfl
theorem body69 (Γ : Env) (h97 : Γ 97 = some S97) (h98 : Γ 98 = some S98) (s : List UInt8) (hs : s.length ≤ 4194304) : BodyOk Tryz.prog Γ Tryz.f69 [.str s] [] (.tup [.int .i64 (rgN s), .bool (regO s).isSome]) [] := by
  have hl : (Lib.trimPrefix s [82]).length ≤ 4194304 := by
    unfold Lib.trimPrefix; split
    · rw [List.length_drop]; omega
    · exact hs
  have hb := rg_b (s := s)
  have hg := rg_is s
  have hu : prgN (Lib.trimPrefix s [82]) = rgN s := rfl
  (intro X hP hΓ hL hfin; refine ⟨_, rfl, ?_⟩; rw [show Tryz.f69.ntmps = 31 from rfl]; rw [show Tryz.f69.results.toList = [.tmp 2, .tmp 3] from rfl] at hfin; apply holds_of_ex X 400; simp (maxSteps := 1000000) only [push_cast, reduceCtorEq, Nat.reduceAdd, Nat.reduceMul, Nat.reduceSub, Nat.reduceBEq, Nat.reduceGT, Nat.reduceLT, Int.toNat_zero, Nat.reduceLeDiff, Int.reduceEq, Int.reduceLT, Int.reduceLE, hP, hΓ, hL, hfin, String.reduceEq, not_false_eq_true, if_true, if_false, Int.toNat_one, Bool.not_not, h97, h98, hl, hb, hu])
  rw [hg]
  exact Into.sameA
theorem con69 {Γ : Env} (h : EnvOk Tryz.prog Γ) (h97 : Γ 97 = some S97) (h98 : Γ 98 = some S98) : Con Tryz.prog 69 S69 :=
  funS_con h (fn := Tryz.f69) (by kernel_rfl) rfl (by kernel_rfl) inj69 (by first | (intro h; cases h; done) | exact fun _ _ => rfl) fun s h => body69 Γ h97 h98 s h
end Go.Proofs.YtgemeilncdmapaaGreatDoor.asmDone
end
section
namespace Go.Proofs.YtgemeilncdmapaaGreatDoor.asmDone
open Go Go.Eng Go.Proofs Go.RowKit
open Go.Asm (mayB in16 rightB laid sx In flds rightI laidI decB laid_lo ops cnds opT cnT regT sufT nameT hexC hexT sep lastT insT showF joinT numO prgN prgB regO refP refO dgt dval ixO)
set_option linter.unusedVariables false
set_option linter.unusedSimpArgs false
set_option maxRecDepth 100000
set_option maxHeartbeats 4000000
theorem dval_lt (t : List UInt8) (h : t.all dgt = true) : dval 0 t < 10 ^ t.length := by
  have key : ∀ (t : List UInt8) (a : Nat), t.all dgt = true → dval a t < (a + 1) * 10 ^ t.length := by
    intro t
    induction t with
    | nil => intro a _; rw [Go.Asm.dval_nil]; simp
    | cons c r ih =>
      intro a h
      simp only [List.all_cons, Bool.and_eq_true] at h
      obtain ⟨hc, hr⟩ := h
      simp only [dgt, Bool.and_eq_true, decide_eq_true_eq] at hc
      rw [Go.Asm.dval_cons, List.length_cons, Nat.pow_succ]
      have h1 := ih (10 * a + (c.toNat - 48)) hr
      have h2 : (10 * a + (c.toNat - 48) + 1) * 10 ^ r.length ≤ (10 * (a + 1)) * 10 ^ r.length := Nat.mul_le_mul_right _ (by omega)
      have h3 : (10 * (a + 1)) * 10 ^ r.length = (a + 1) * (10 ^ r.length * 10) := by rw [Nat.mul_comm 10 (a + 1), Nat.mul_assoc, Nat.mul_comm 10]
      omega
  have := key t 0 h
  simpa using this
def e102 : (List UInt8) → List AV := fun s => [.str s]
def p102 : (List UInt8) → Prop := fun s => s.length ≤ 4194304
def r102 : (List UInt8) → AV := fun s => .tup [.int .i64 ((refO s).getD 0), .bool (refO s).isSome]
def g102 : (List UInt8) → Heap := fun s => []
theorem inj102 : ∀ a b, e102 a = e102 b → a = b := by
  rintro s s' h
  simp only [e102, mi_iff, ms_iff, mb_iff, my_iff, UInt8.toNat_inj, List.cons.injEq, AV.int.injEq, AV.str.injEq, AV.bool.injEq, AV.sl.injEq, AV.agg.injEq, AV.ip.injEq, AV.fn.injEq, AV.ifc.injEq, AV.mpr.injEq, Int.natCast_inj, and_true, true_and] at h
  simp_all only
noncomputable def S102 : FSpec := funS e102 p102 r102 g102 true
theorem ps102 (s : (List UInt8)) : psel e102 p102 [.str s] = (s.length ≤ 4194304) := psel_at inj102 p102 s
theorem rs102 (s : (List UInt8)) : rsel e102 r102 .any [.str s] = (.tup [.int .i64 ((refO s).getD 0), .bool (refO s).isSome]) := rsel_at inj102 r102 .any s
theorem hs102 (s : (List UInt8)) : rsel e102 g102 [] [.str s] = ([]) := rsel_at inj102 g102 [] s
attribute [push_cast] S102 ps102 rs102 hs102
theorem body102 (Γ : Env) (s : List UInt8) (hs : s.length ≤ 4194304) : BodyOk Tryz.prog Γ Tryz.f102 [.str s] [] (.tup [.int .i64 ((refO s).getD 0), .bool (refO s).isSome]) [] := by
  by_cases h45 : ∃ t, s = 45 :: t
  · obtain ⟨t, rfl⟩ := h45
    rw [Go.Asm.ref_45]
    have hpos : decide (0 < ((t.length : Nat) : Int) + 1) = true := decide_eq_true (by omega)
    have e45 : ((UInt8.toNat 45 : Nat) : Int) = 45 := rfl
    (intro X hP hΓ hL hfin; refine ⟨_, rfl, ?_⟩; rw [show Tryz.f102.ntmps = 66 from rfl]; rw [show Tryz.f102.results.toList = [.tmp 2, .tmp 3] from rfl] at hfin; apply holds_of_ex X 400; simp (maxSteps := 1000000) only [push_cast, reduceCtorEq, Nat.reduceAdd, Nat.reduceMul, Nat.reduceSub, Nat.reduceBEq, Nat.reduceGT, Nat.reduceLT, Int.toNat_zero, Nat.reduceLeDiff, Int.reduceEq, Int.reduceLT, Int.reduceLE, hP, hΓ, hL, hfin, String.reduceEq, not_false_eq_true, if_true, if_false, Int.toNat_one, Bool.not_not, List.take_length, hpos, e45])
    refine ⟨by omega, ?_⟩
    have hg : (!(t == [] || decide (10 < ((t.length : Nat) : Int)))) = true → 0 < ((t.length : Nat) : Int) := by
      intro h
      simp only [Bool.not_eq_true', Bool.or_eq_false_iff, beq_eq_false_iff_ne, ne_eq] at h
      cases t
      · exact absurd rfl h.1
      · simp only [List.length_cons]; omega
    refine ⟨⟨by omega, by omega⟩, hg, ?_⟩
    have t48 : ((t.getD 0 0).toNat : Int) = 48 ↔ t.getD 0 0 = 48 := by
      constructor
      · intro h; exact UInt8.toNat_inj.1 (by rw [show (48 : UInt8).toNat = 48 from rfl]; omega)
      · intro h; rw [h]; rfl
    have n1 : (10 : Int) < ((t.length : Nat) : Int) ↔ 10 < t.length := by omega
    have n2 : (1 : Int) < ((t.length : Nat) : Int) ↔ 1 < t.length := by omega
    ((with_reducible refine exB_split (fun h => ?_) (fun h => ?_)) <;> (try simp only [decide_eq_true_eq, decide_eq_false_iff_not, Bool.and_eq_true, Bool.or_eq_true, Bool.and_eq_false_iff, Bool.or_eq_false_iff, Bool.not_eq_true', Bool.not_eq_false', Bool.not_eq_true, Bool.not_eq_false, Int.not_lt, Int.not_le, beq_iff_eq, beq_eq_false_iff_ne, ne_eq] at h))
    · have hq : t = [] ∨ 10 < t.length ∨ (t.getD 0 0 = 48 ∧ (1 < t.length ∨ true = true)) := by
        simp only [t48, n1, n2, Bool.false_eq_true, or_false, or_true, and_true] at h ⊢
        first | exact h | (rw [← or_assoc]; exact h)
      have e : refP true t = none := by unfold refP; rw [if_pos hq]
      ((first | with_reducible refine holds_of_ex X 400 _ _ _ ?_ | skip); simp (maxSteps := 1000000) only [push_cast, reduceCtorEq, Nat.reduceAdd, Nat.reduceMul, Nat.reduceSub, Nat.reduceBEq, Nat.reduceGT, Nat.reduceLT, Int.toNat_zero, Nat.reduceLeDiff, Int.reduceEq, Int.reduceLT, Int.reduceLE, hP, hΓ, hL, hfin, String.reduceEq, not_false_eq_true, if_true, if_false, Int.toNat_one, Bool.not_not])
      rw [e]
      exact Into.sameA
    · have hq : ¬ (t = [] ∨ 10 < t.length ∨ (t.getD 0 0 = 48 ∧ (1 < t.length ∨ true = true))) := by
        rintro (h1 | h1 | ⟨h1, h2⟩)
        · simp [h1] at h
        · have : ¬ (t.length : Int) ≤ 10 := by omega
          simp [this] at h
        · have h48 := t48.2 h1
          simp only [h48, not_true_eq_false, false_and, and_false, false_or] at h
          first | done | omega
      have e : refP true t = if t.all dgt then some (if true then -((dval 0 t : Nat) : Int) else ((dval 0 t : Nat) : Int)) else none := by unfold refP; rw [if_neg hq]
      have h10 : t.length ≤ 10 := by omega
      rw [e] at hfin
      clear e hq h t48 hg
      ((first | with_reducible refine holds_of_ex X 400 _ _ _ ?_ | skip); simp (maxSteps := 1000000) only [push_cast, reduceCtorEq, Nat.reduceAdd, Nat.reduceMul, Nat.reduceSub, Nat.reduceBEq, Nat.reduceGT, Nat.reduceLT, Int.toNat_zero, Nat.reduceLeDiff, Int.reduceEq, Int.reduceLT, Int.reduceLE, hP, hΓ, hL, hfin, String.reduceEq, not_false_eq_true, if_true, if_false, Int.toNat_one, Bool.not_not])
      refine Holds.loopM (ι := {k : Nat // k ≤ t.length ∧ (t.take k).all dgt = true}) [true, false, false, false, true, false, false, false, false, false, false, false, false, false, false, false, false, false, false, false, false, false, false, false, false, false, false, false, false, false, false, false, false, false, false, false, false, false, false, false, false, false, false, false, false, false, false, false, false, false, false, false, false, false, false, false, false, false, false, false, false, false, false, false, false, false] (fun i => [(5, .int .i64 (dval 0 (t.take i.1) : Nat)), (6, .int .i64 i.1)]) (fun i => []) (fun i => t.length - i.1) ⟨0, Nat.zero_le _, rfl⟩ ?_ ?_
      · rw [hL]
        simp only [push_cast, Int.natCast_zero, List.take_zero, Go.Asm.dval_nil]
        exact Into.sameA
      rintro ⟨k, hk, ha⟩
      ((first | with_reducible refine holds_of_ex X 400 _ _ _ ?_ | skip); simp (maxSteps := 1000000) only [push_cast, reduceCtorEq, Nat.reduceAdd, Nat.reduceMul, Nat.reduceSub, Nat.reduceBEq, Nat.reduceGT, Nat.reduceLT, Int.toNat_zero, Nat.reduceLeDiff, Int.reduceEq, Int.reduceLT, Int.reduceLE, hP, hΓ, hL, hfin, String.reduceEq, not_false_eq_true, if_true, if_false, Int.toNat_one, Bool.not_not])
      ((with_reducible refine exB_split (fun h => ?_) (fun h => ?_)) <;> (try simp only [decide_eq_true_eq, decide_eq_false_iff_not, Bool.and_eq_true, Bool.or_eq_true, Bool.and_eq_false_iff, Bool.or_eq_false_iff, Bool.not_eq_true', Bool.not_eq_false', Bool.not_eq_true, Bool.not_eq_false, Int.not_lt, Int.not_le, beq_iff_eq, beq_eq_false_iff_ne, ne_eq] at h))
      · have hk' : k < t.length := by omega
        have hd : t.take (k + 1) = t.take k ++ [t.getD k 0] := by
          rw [List.take_succ_eq_append_getElem hk']; simp [List.getD, hk']
        have hv := dval_lt (t.take k) ha
        rw [List.length_take, Nat.min_eq_left hk] at hv
        have h10k : 10 ^ k ≤ 10 ^ 10 := Nat.pow_le_pow_right (by decide) (by omega)
        have h1010 : (10 : Nat) ^ 10 = 10000000000 := by decide
        have hval : dval 0 (t.take (k + 1)) = 10 * dval 0 (t.take k) + ((t.getD k 0).toNat - 48) := by rw [hd, Go.Asm.dval_snoc]
        have hc255 := (t.getD k 0).toNat_lt
        generalize hgv : dval 0 (t.take k) = v at *
        by_cases hc : dgt (t.getD k 0) = true
        · have hc' := hc
          simp only [dgt, Bool.and_eq_true, decide_eq_true_eq] at hc'
          have d1 : decide (((t.getD k 0).toNat : Int) < 48) = false := decide_eq_false (by omega)
          have d2 : decide (57 < ((t.getD k 0).toNat : Int)) = false := decide_eq_false (by omega)
          have w1 : IntKind.u8.wrap (((t.getD k 0).toNat : Int) - 48) = (((t.getD k 0).toNat - 48 : Nat) : Int) := by
            have : IntKind.u8.wrap (((t.getD k 0).toNat : Int) - 48) = (((t.getD k 0).toNat : Int) - 48) % 256 := by simp [IntKind.wrap, IntKind.bits, IntKind.signed]
            rw [this]; omega
          have w2 : IntKind.i64.wrap ((((t.getD k 0).toNat - 48 : Nat) : Int)) = (((t.getD k 0).toNat - 48 : Nat) : Int) := wr_i64 _ (by constructor <;> omega)
          have w3 : IntKind.i64.wrap (10 * ((v : Nat) : Int)) = 10 * ((v : Nat) : Int) := wr_i64 _ (by constructor <;> omega)
          have w4 : IntKind.i64.wrap (10 * ((v : Nat) : Int) + (((t.getD k 0).toNat - 48 : Nat) : Int)) = ((dval 0 (t.take (k + 1)) : Nat) : Int) := by rw [hval, wr_i64 _ (by constructor <;> omega)]; omega
          generalize hgw : (t.getD k 0).toNat - 48 = z at *
          ((first | with_reducible refine holds_of_ex X 400 _ _ _ ?_ | skip); simp (maxSteps := 1000000) only [push_cast, reduceCtorEq, Nat.reduceAdd, Nat.reduceMul, Nat.reduceSub, Nat.reduceBEq, Nat.reduceGT, Nat.reduceLT, Int.toNat_zero, Nat.reduceLeDiff, Int.reduceEq, Int.reduceLT, Int.reduceLE, hP, hΓ, hL, hfin, String.reduceEq, not_false_eq_true, if_true, if_false, Int.toNat_one, Bool.not_not, d1, d2, w1, w2, w3, w4])
          refine ⟨by omega, by omega, by omega, ⟨k + 1, hk', by rw [hd, List.all_append, ha]; simpa using hc⟩, by simp only; omega, ?_⟩
          dsimp only
          rw [wr_i64 ((k : Int) + 1) (by constructor <;> omega)]
          exact Into.sameA
        · have hr : t.all dgt = false := by
            rw [Bool.eq_false_iff]; intro h'
            exact hc (List.all_eq_true.1 h' _ (by rw [List.getD_eq_getElem?_getD, List.getElem?_eq_getElem hk']; exact List.getElem_mem _))
          have hd3 : (decide (((t.getD k 0).toNat : Int) < 48) || decide (57 < ((t.getD k 0).toNat : Int))) = true := by
            simp only [dgt, Bool.and_eq_true, decide_eq_true_eq, Bool.or_eq_true] at hc ⊢
            omega
          ((first | with_reducible refine holds_of_ex X 400 _ _ _ ?_ | skip); simp (maxSteps := 1000000) only [push_cast, reduceCtorEq, Nat.reduceAdd, Nat.reduceMul, Nat.reduceSub, Nat.reduceBEq, Nat.reduceGT, Nat.reduceLT, Int.toNat_zero, Nat.reduceLeDiff, Int.reduceEq, Int.reduceLT, Int.reduceLE, hP, hΓ, hL, hfin, String.reduceEq, not_false_eq_true, if_true, if_false, Int.toNat_one, Bool.not_not, hd3])
          refine ⟨by omega, fun _ => by omega, ?_⟩
          rw [hr]
          exact Into.sameA
      · obtain rfl : k = t.length := by omega
        rw [List.take_length] at ha
        rw [ha] at hfin
        have hvl := dval_lt t ha
        have h10k : 10 ^ t.length ≤ 10 ^ 10 := Nat.pow_le_pow_right (by decide) h10
        have h1010 : (10 : Nat) ^ 10 = 10000000000 := by decide
        have w5 : IntKind.i64.wrap (0 - ((dval 0 t : Nat) : Int)) = -((dval 0 t : Nat) : Int) := by rw [wr_i64 _ (by constructor <;> omega)]; omega
        ((first | with_reducible refine holds_of_ex X 400 _ _ _ ?_ | skip); simp (maxSteps := 1000000) only [push_cast, reduceCtorEq, Nat.reduceAdd, Nat.reduceMul, Nat.reduceSub, Nat.reduceBEq, Nat.reduceGT, Nat.reduceLT, Int.toNat_zero, Nat.reduceLeDiff, Int.reduceEq, Int.reduceLT, Int.reduceLE, hP, hΓ, hL, hfin, String.reduceEq, not_false_eq_true, if_true, if_false, Int.toNat_one, Bool.not_not, List.take_length, w5])
        exact Into.sameA
  · rw [Go.Asm.ref_no (fun t e => h45 ⟨t, e⟩)]
    have hm : (decide (0 < ((s.length : Nat) : Int)) && decide (((s.getD 0 0).toNat : Int) = 45)) = false := by
      rw [Bool.eq_false_iff]
      intro h
      simp only [Bool.and_eq_true, decide_eq_true_eq] at h
      cases s with
      | nil => simp at h
      | cons c r =>
        refine h45 ⟨r, ?_⟩
        have : c = 45 := UInt8.toNat_inj.1 (by rw [show (45 : UInt8).toNat = 45 from rfl]; have := h.2; simp only [List.getD_cons_zero] at this; omega)
        rw [this]
    generalize s = t at *
    (intro X hP hΓ hL hfin; refine ⟨_, rfl, ?_⟩; rw [show Tryz.f102.ntmps = 66 from rfl]; rw [show Tryz.f102.results.toList = [.tmp 2, .tmp 3] from rfl] at hfin; apply holds_of_ex X 400; simp (maxSteps := 1000000) only [push_cast, reduceCtorEq, Nat.reduceAdd, Nat.reduceMul, Nat.reduceSub, Nat.reduceBEq, Nat.reduceGT, Nat.reduceLT, Int.toNat_zero, Nat.reduceLeDiff, Int.reduceEq, Int.reduceLT, Int.reduceLE, hP, hΓ, hL, hfin, String.reduceEq, not_false_eq_true, if_true, if_false, Int.toNat_one, Bool.not_not, hm])
    refine ⟨fun h => by simpa using h, ?_⟩
    have hg : (!(t == [] || decide (10 < ((t.length : Nat) : Int)))) = true → 0 < ((t.length : Nat) : Int) := by
      intro h
      simp only [Bool.not_eq_true', Bool.or_eq_false_iff, beq_eq_false_iff_ne, ne_eq] at h
      cases t
      · exact absurd rfl h.1
      · simp only [List.length_cons]; omega
    refine ⟨hg, ?_⟩
    have t48 : ((t.getD 0 0).toNat : Int) = 48 ↔ t.getD 0 0 = 48 := by
      constructor
      · intro h; exact UInt8.toNat_inj.1 (by rw [show (48 : UInt8).toNat = 48 from rfl]; omega)
      · intro h; rw [h]; rfl
    have n1 : (10 : Int) < ((t.length : Nat) : Int) ↔ 10 < t.length := by omega
    have n2 : (1 : Int) < ((t.length : Nat) : Int) ↔ 1 < t.length := by omega
    ((with_reducible refine exB_split (fun h => ?_) (fun h => ?_)) <;> (try simp only [decide_eq_true_eq, decide_eq_false_iff_not, Bool.and_eq_true, Bool.or_eq_true, Bool.and_eq_false_iff, Bool.or_eq_false_iff, Bool.not_eq_true', Bool.not_eq_false', Bool.not_eq_true, Bool.not_eq_false, Int.not_lt, Int.not_le, beq_iff_eq, beq_eq_false_iff_ne, ne_eq] at h))
    · have hq : t = [] ∨ 10 < t.length ∨ (t.getD 0 0 = 48 ∧ (1 < t.length ∨ false = true)) := by
        simp only [t48, n1, n2, Bool.false_eq_true, or_false, or_true, and_true] at h ⊢
        first | exact h | (rw [← or_assoc]; exact h)
      have e : refP false t = none := by unfold refP; rw [if_pos hq]
      ((first | with_reducible refine holds_of_ex X 400 _ _ _ ?_ | skip); simp (maxSteps := 1000000) only [push_cast, reduceCtorEq, Nat.reduceAdd, Nat.reduceMul, Nat.reduceSub, Nat.reduceBEq, Nat.reduceGT, Nat.reduceLT, Int.toNat_zero, Nat.reduceLeDiff, Int.reduceEq, Int.reduceLT, Int.reduceLE, hP, hΓ, hL, hfin, String.reduceEq, not_false_eq_true, if_true, if_false, Int.toNat_one, Bool.not_not])
      rw [e]
      exact Into.sameA
    · have hq : ¬ (t = [] ∨ 10 < t.length ∨ (t.getD 0 0 = 48 ∧ (1 < t.length ∨ false = true))) := by
        rintro (h1 | h1 | ⟨h1, h2⟩)
        · simp [h1] at h
        · have : ¬ (t.length : Int) ≤ 10 := by omega
          simp [this] at h
        · have h3 : 1 < t.length := by
            rcases h2 with h2 | h2
            · exact h2
            · cases h2
          have h48 := t48.2 h1
          simp only [h48, not_true_eq_false, false_and, and_false, false_or] at h
          first | done | omega
      have e : refP false t = if t.all dgt then some (if false then -((dval 0 t : Nat) : Int) else ((dval 0 t : Nat) : Int)) else none := by unfold refP; rw [if_neg hq]
      have h10 : t.length ≤ 10 := by omega
      rw [e] at hfin
      clear e hq h t48 hg
      ((first | with_reducible refine holds_of_ex X 400 _ _ _ ?_ | skip); simp (maxSteps := 1000000) only [push_cast, reduceCtorEq, Nat.reduceAdd, Nat.reduceMul, Nat.reduceSub, Nat.reduceBEq, Nat.reduceGT, Nat.reduceLT, Int.toNat_zero, Nat.reduceLeDiff, Int.reduceEq, Int.reduceLT, Int.reduceLE, hP, hΓ, hL, hfin, String.reduceEq, not_false_eq_true, if_true, if_false, Int.toNat_one, Bool.not_not])
      refine Holds.loopM (ι := {k : Nat // k ≤ t.length ∧ (t.take k).all dgt = true}) [true, false, false, false, true, false, false, false, false, false, false, false, false, false, false, false, false, false, false, false, false, false, false, false, false, false, false, false, false, false, false, false, false, false, false, false, false, false, false, false, false, false, false, false, false, false, false, false, false, false, false, false, false, false, false, false, false, false, false, false, false, false, false, false, false, false] (fun i => [(5, .int .i64 (dval 0 (t.take i.1) : Nat)), (6, .int .i64 i.1)]) (fun i => []) (fun i => t.length - i.1) ⟨0, Nat.zero_le _, rfl⟩ ?_ ?_
      · rw [hL]
        simp only [push_cast, Int.natCast_zero, List.take_zero, Go.Asm.dval_nil]
        exact Into.sameA
      rintro ⟨k, hk, ha⟩
      ((first | with_reducible refine holds_of_ex X 400 _ _ _ ?_ | skip); simp (maxSteps := 1000000) only [push_cast, reduceCtorEq, Nat.reduceAdd, Nat.reduceMul, Nat.reduceSub, Nat.reduceBEq, Nat.reduceGT, Nat.reduceLT, Int.toNat_zero, Nat.reduceLeDiff, Int.reduceEq, Int.reduceLT, Int.reduceLE, hP, hΓ, hL, hfin, String.reduceEq, not_false_eq_true, if_true, if_false, Int.toNat_one, Bool.not_not])
      ((with_reducible refine exB_split (fun h => ?_) (fun h => ?_)) <;> (try simp only [decide_eq_true_eq, decide_eq_false_iff_not, Bool.and_eq_true, Bool.or_eq_true, Bool.and_eq_false_iff, Bool.or_eq_false_iff, Bool.not_eq_true', Bool.not_eq_false', Bool.not_eq_true, Bool.not_eq_false, Int.not_lt, Int.not_le, beq_iff_eq, beq_eq_false_iff_ne, ne_eq] at h))
      · have hk' : k < t.length := by omega
        have hd : t.take (k + 1) = t.take k ++ [t.getD k 0] := by
          rw [List.take_succ_eq_append_getElem hk']; simp [List.getD, hk']
        have hv := dval_lt (t.take k) ha
        rw [List.length_take, Nat.min_eq_left hk] at hv
        have h10k : 10 ^ k ≤ 10 ^ 10 := Nat.pow_le_pow_right (by decide) (by omega)
        have h1010 : (10 : Nat) ^ 10 = 10000000000 := by decide
        have hval : dval 0 (t.take (k + 1)) = 10 * dval 0 (t.take k) + ((t.getD k 0).toNat - 48) := by rw [hd, Go.Asm.dval_snoc]
        have hc255 := (t.getD k 0).toNat_lt
        generalize hgv : dval 0 (t.take k) = v at *
        by_cases hc : dgt (t.getD k 0) = true
        · have hc' := hc
          simp only [dgt, Bool.and_eq_true, decide_eq_true_eq] at hc'
          have d1 : decide (((t.getD k 0).toNat : Int) < 48) = false := decide_eq_false (by omega)
          have d2 : decide (57 < ((t.getD k 0).toNat : Int)) = false := decide_eq_false (by omega)
          have w1 : IntKind.u8.wrap (((t.getD k 0).toNat : Int) - 48) = (((t.getD k 0).toNat - 48 : Nat) : Int) := by
            have : IntKind.u8.wrap (((t.getD k 0).toNat : Int) - 48) = (((t.getD k 0).toNat : Int) - 48) % 256 := by simp [IntKind.wrap, IntKind.bits, IntKind.signed]
            rw [this]; omega
          have w2 : IntKind.i64.wrap ((((t.getD k 0).toNat - 48 : Nat) : Int)) = (((t.getD k 0).toNat - 48 : Nat) : Int) := wr_i64 _ (by constructor <;> omega)
          have w3 : IntKind.i64.wrap (10 * ((v : Nat) : Int)) = 10 * ((v : Nat) : Int) := wr_i64 _ (by constructor <;> omega)
          have w4 : IntKind.i64.wrap (10 * ((v : Nat) : Int) + (((t.getD k 0).toNat - 48 : Nat) : Int)) = ((dval 0 (t.take (k + 1)) : Nat) : Int) := by rw [hval, wr_i64 _ (by constructor <;> omega)]; omega
          generalize hgw : (t.getD k 0).toNat - 48 = z at *
          ((first | with_reducible refine holds_of_ex X 400 _ _ _ ?_ | skip); simp (maxSteps := 1000000) only [push_cast, reduceCtorEq, Nat.reduceAdd, Nat.reduceMul, Nat.reduceSub, Nat.reduceBEq, Nat.reduceGT, Nat.reduceLT, Int.toNat_zero, Nat.reduceLeDiff, Int.reduceEq, Int.reduceLT, Int.reduceLE, hP, hΓ, hL, hfin, String.reduceEq, not_false_eq_true, if_true, if_false, Int.toNat_one, Bool.not_not, d1, d2, w1, w2, w3, w4])
          refine ⟨by omega, by omega, by omega, ⟨k + 1, hk', by rw [hd, List.all_append, ha]; simpa using hc⟩, by simp only; omega, ?_⟩
          dsimp only
          rw [wr_i64 ((k : Int) + 1) (by constructor <;> omega)]
          exact Into.sameA
        · have hr : t.all dgt = false := by
            rw [Bool.eq_false_iff]; intro h'
            exact hc (List.all_eq_true.1 h' _ (by rw [List.getD_eq_getElem?_getD, List.getElem?_eq_getElem hk']; exact List.getElem_mem _))
          have hd3 : (decide (((t.getD k 0).toNat : Int) < 48) || decide (57 < ((t.getD k 0).toNat : Int))) = true := by
            simp only [dgt, Bool.and_eq_true, decide_eq_true_eq, Bool.or_eq_true] at hc ⊢
            omega
          ((first | with_reducible refine holds_of_ex X 400 _ _ _ ?_ | skip); simp (maxSteps := 1000000) only [push_cast, reduceCtorEq, Nat.reduceAdd, Nat.reduceMul, Nat.reduceSub, Nat.reduceBEq, Nat.reduceGT, Nat.reduceLT, Int.toNat_zero, Nat.reduceLeDiff, Int.reduceEq, Int.reduceLT, Int.reduceLE, hP, hΓ, hL, hfin, String.reduceEq, not_false_eq_true, if_true, if_false, Int.toNat_one, Bool.not_not, hd3])
          refine ⟨by omega, fun _ => by omega, ?_⟩
          rw [hr]
          exact Into.sameA
      · obtain rfl : k = t.length := by omega
        rw [List.take_length] at ha
        rw [ha] at hfin
        have hvl := dval_lt t ha
        have h10k : 10 ^ t.length ≤ 10 ^ 10 := Nat.pow_le_pow_right (by decide) h10
        have h1010 : (10 : Nat) ^ 10 = 10000000000 := by decide
        have w5 : IntKind.i64.wrap (0 - ((dval 0 t : Nat) : Int)) = -((dval 0 t : Nat) : Int) := by rw [wr_i64 _ (by constructor <;> omega)]; omega
        ((first | with_reducible refine holds_of_ex X 400 _ _ _ ?_ | skip); simp (maxSteps := 1000000) only [push_cast, reduceCtorEq, Nat.reduceAdd, Nat.reduceMul, Nat.reduceSub, Nat.reduceBEq, Nat.reduceGT, Nat.reduceLT, Int.toNat_zero, Nat.reduceLeDiff, Int.reduceEq, Int.reduceLT, Int.reduceLE, hP, hΓ, hL, hfin, String.reduceEq, not_false_eq_true, if_true, if_false, Int.toNat_one, Bool.not_not, List.take_length, w5])
        exact Into.sameA
theorem con102 {Γ : Env} (h : EnvOk Tryz.prog Γ)  : Con Tryz.prog 102 S102 :=
  funS_con h (fn := Tryz.f102) (by kernel_rfl) rfl (by kernel_rfl) inj102 (by first | (intro h; cases h; done) | exact fun _ _ => rfl) fun s h => body102 Γ s h
end Go.Proofs.YtgemeilncdmapaaGreatDoor.asmDone
end
section
namespace Go.Proofs.YtgemeilncdmapaaGreatDoor.asmDone
open Go Go.Eng Go.Proofs Go.RowKit
open Go.Asm (mayB in16 rightB laid sx In flds rightI laidI decB laid_lo ops cnds opT cnT regT sufT nameT hexC hexT sep lastT insT showF joinT numO prgN prgB regO refP refO dgt dval ixO blk)
set_option linter.unusedVariables false
set_option linter.unusedSimpArgs false
set_option maxRecDepth 100000
set_option maxHeartbeats 4000000
def rrN (s : List UInt8) : Int := if s.length < 2 ∨ s.getD 0 0 ≠ 82 then 0 else (refO (s.drop 1)).getD 0
theorem ref_bd {s : List UInt8} : -9999999999 ≤ (refO s).getD 0 ∧ (refO s).getD 0 ≤ 9999999999 := by
  cases h : refO s with
  | none => simp
  | some n => exact ((Go.Asm.ref_is s n).1 h).2
theorem ref_none {s : List UInt8} (h : refO s = none) : ∀ n, numO s = some n → n < -9999999999 ∨ 9999999999 < n := by
  intro n hn
  rcases Decidable.em (-9999999999 ≤ n ∧ n ≤ 9999999999) with h' | h'
  · have := (Go.Asm.ref_is s n).2 ⟨hn, h'⟩; rw [h] at this; cases this
  · omega
theorem rr_is {s : List UInt8} (h : ¬ (s.length < 2 ∨ s.getD 0 0 ≠ 82)) : ((refO (s.drop 1)).isSome && decide (0 ≤ (refO (s.drop 1)).getD 0) && decide ((refO (s.drop 1)).getD 0 ≤ 15)) = (regO s).isSome ∧ ∀ n, regO s = some n → (refO (s.drop 1)).getD 0 = n := by
  match s, h with
  | c :: t, h =>
    obtain rfl : c = 82 := by
      rcases Decidable.em (c = 82) with h' | h'
      · exact h'
      · exact absurd (.inr (by simpa using h')) h
    rw [reg_82, List.drop_succ_cons, List.drop_zero]
    cases hr : refO t with
    | none =>
      have hn := ref_none hr
      cases hk : numO t with
      | none => simp
      | some n =>
        have := hn n hk
        simp only
        rw [if_neg (by omega)]; simp
    | some n =>
      obtain ⟨h1, h2⟩ := (Go.Asm.ref_is t n).1 hr
      rw [h1]
      simp only [Option.isSome_some, Option.getD_some, Bool.true_and]
      by_cases hb : 0 ≤ n ∧ n ≤ 15
      · rw [if_pos hb]; simp [hb.1, hb.2]
      · rw [if_neg hb]
        refine ⟨?_, fun n h => by cases h⟩
        simp only [Option.isSome_none, Bool.and_eq_false_iff, decide_eq_false_iff_not]; omega
theorem rr_no {s : List UInt8} (h : s.length < 2 ∨ s.getD 0 0 ≠ 82) : regO s = none := by
  match s, h with
  | [], _ => rfl
  | c :: t, h =>
    by_cases hc : c = 82
    · subst hc
      rcases h with h | h
      · have : t = [] := List.length_eq_zero_iff.1 (by simp only [List.length_cons] at h; omega)
        subst this; rfl
      · exact absurd rfl h
    · exact reg_no fun t' h' => hc (by cases h'; rfl)
theorem rr_val {s : List UInt8} {n : Int} (h : regO s = some n) : rrN s = n := by
  rcases Decidable.em (s.length < 2 ∨ s.getD 0 0 ≠ 82) with h' | h'
  · rw [rr_no h'] at h; cases h
  · rw [rrN, if_neg h', (rr_is h').2 n h]
def e101 : (List UInt8) → List AV := fun s => [.str s]
def p101 : (List UInt8) → Prop := fun s => s.length ≤ 4194304
def r101 : (List UInt8) → AV := fun s => .tup [.int .i64 (rrN s), .bool (regO s).isSome]
def g101 : (List UInt8) → Heap := fun s => []
theorem inj101 : ∀ a b, e101 a = e101 b → a = b := by
  rintro s s' h
  simp only [e101, mi_iff, ms_iff, mb_iff, my_iff, UInt8.toNat_inj, List.cons.injEq, AV.int.injEq, AV.str.injEq, AV.bool.injEq, AV.sl.injEq, AV.agg.injEq, AV.ip.injEq, AV.fn.injEq, AV.ifc.injEq, AV.mpr.injEq, Int.natCast_inj, and_true, true_and] at h
  simp_all only
noncomputable def S101 : FSpec := funS e101 p101 r101 g101 true
theorem ps101 (s : (List UInt8)) : psel e101 p101 [.str s] = (s.length ≤ 4194304) := psel_at inj101 p101 s
theorem rs101 (s : (List UInt8)) : rsel e101 r101 .any [.str s] = (.tup [.int .i64 (rrN s), .bool (regO s).isSome]) := rsel_at inj101 r101 .any s
theorem hs101 (s : (List UInt8)) : rsel e101 g101 [] [.str s] = ([]) := rsel_at inj101 g101 [] s
attribute [push_cast] S101 ps101 rs101 hs101
theorem body101 (Γ : Env) (h102 : Γ 102 = some S102) (s : List UInt8) (hs : s.length ≤ 4194304) : BodyOk Tryz.prog Γ Tryz.f101 [.str s] [] (.tup [.int .i64 (rrN s), .bool (regO s).isSome]) [] := by
  have hb := ref_bd (s := s.drop 1)
  have hw : IntKind.i64.wrap ((refO (s.drop 1)).getD 0) = (refO (s.drop 1)).getD 0 := wr_i64 _ (by constructor <;> omega)
  have hl : (s.drop 1).length ≤ 4194304 := by rw [List.length_drop]; omega
  have n1 : ((s.length : Nat) : Int) < 2 ↔ s.length < 2 := by omega
  have c82 : ((s.getD 0 0).toNat : Int) = 82 ↔ s.getD 0 0 = 82 := by
    constructor
    · intro h; exact UInt8.toNat_inj.1 (by rw [show (82 : UInt8).toNat = 82 from rfl]; omega)
    · intro h; rw [h]; rfl
  by_cases hq : s.length < 2 ∨ s.getD 0 0 ≠ 82
  · have hd : (decide (((s.length : Nat) : Int) < 2) || !decide (((s.getD 0 0).toNat : Int) = 82)) = true := by
      simp only [n1, c82, Bool.or_eq_true, decide_eq_true_eq, Bool.not_eq_true', decide_eq_false_iff_not]; exact hq
    rw [rrN, if_pos hq, rr_no hq]
    (intro X hP hΓ hL hfin; refine ⟨_, rfl, ?_⟩; rw [show Tryz.f101.ntmps = 30 from rfl]; rw [show Tryz.f101.results.toList = [.tmp 2, .tmp 3] from rfl] at hfin; apply holds_of_ex X 400; simp (maxSteps := 1000000) only [push_cast, reduceCtorEq, Nat.reduceAdd, Nat.reduceMul, Nat.reduceSub, Nat.reduceBEq, Nat.reduceGT, Nat.reduceLT, Int.toNat_zero, Nat.reduceLeDiff, Int.reduceEq, Int.reduceLT, Int.reduceLE, hP, hΓ, hL, hfin, String.reduceEq, not_false_eq_true, if_true, if_false, Int.toNat_one, Bool.not_not, hd])
    refine ⟨fun h => by simp only [Bool.not_eq_true', decide_eq_false_iff_not] at h; omega, ?_⟩
    exact Into.sameA
  · have hd : (decide (((s.length : Nat) : Int) < 2) || !decide (((s.getD 0 0).toNat : Int) = 82)) = false := by
      rw [Bool.eq_false_iff]
      simp only [n1, c82, Bool.or_eq_true, decide_eq_true_eq, Bool.not_eq_true', decide_eq_false_iff_not, ne_eq]; exact hq
    have he := (rr_is hq).1
    have h2 : 2 ≤ s.length := by rcases Nat.lt_or_ge s.length 2 with h | h; exact absurd (.inl h) hq; exact h
    rw [rrN, if_neg hq]
    (intro X hP hΓ hL hfin; refine ⟨_, rfl, ?_⟩; rw [show Tryz.f101.ntmps = 30 from rfl]; rw [show Tryz.f101.results.toList = [.tmp 2, .tmp 3] from rfl] at hfin; apply holds_of_ex X 400; simp (maxSteps := 1000000) only [push_cast, reduceCtorEq, Nat.reduceAdd, Nat.reduceMul, Nat.reduceSub, Nat.reduceBEq, Nat.reduceGT, Nat.reduceLT, Int.toNat_zero, Nat.reduceLeDiff, Int.reduceEq, Int.reduceLT, Int.reduceLE, hP, hΓ, hL, hfin, String.reduceEq, not_false_eq_true, if_true, if_false, Int.toNat_one, Bool.not_not, hd, h102, List.take_length, hl, hw])
    refine ⟨fun _ => by omega, ⟨by omega, by omega⟩, by omega, ?_⟩
    rw [he]
    exact Into.sameA
theorem con101 {Γ : Env} (h : EnvOk Tryz.prog Γ) (h102 : Γ 102 = some S102) : Con Tryz.prog 101 S101 :=
  funS_con h (fn := Tryz.f101) (by kernel_rfl) rfl (by kernel_rfl) inj101 (by first | (intro h; cases h; done) | exact fun _ _ => rfl) fun s h => body101 Γ h102 s h
def e99 : (UInt8) → List AV := fun c => [.int .u8 c.toNat]
def p99 : (UInt8) → Prop := fun c => True
def r99 : (UInt8) → AV := fun c => .bool (blk c)
def g99 : (UInt8) → Heap := fun c => []
theorem inj99 : ∀ a b, e99 a = e99 b → a = b := by
  rintro c c' h
  simp only [e99, mi_iff, ms_iff, mb_iff, my_iff, UInt8.toNat_inj, List.cons.injEq, AV.int.injEq, AV.str.injEq, AV.bool.injEq, AV.sl.injEq, AV.agg.injEq, AV.ip.injEq, AV.fn.injEq, AV.ifc.injEq, AV.mpr.injEq, Int.natCast_inj, and_true, true_and] at h
  simp_all only
noncomputable def S99 : FSpec := funS e99 p99 r99 g99 true
theorem ps99 (c : (UInt8)) : psel e99 p99 [.int .u8 c.toNat] = (True) := psel_at inj99 p99 c
theorem rs99 (c : (UInt8)) : rsel e99 r99 .any [.int .u8 c.toNat] = (.bool (blk c)) := rsel_at inj99 r99 .any c
theorem hs99 (c : (UInt8)) : rsel e99 g99 [] [.int .u8 c.toNat] = ([]) := rsel_at inj99 g99 [] c
attribute [push_cast] S99 ps99 rs99 hs99
theorem body99 (Γ : Env) (c : UInt8) : BodyOk Tryz.prog Γ Tryz.f99 [.int .u8 c.toNat] [] (.bool (blk c)) [] := by
  have key : ∀ k : UInt8, decide ((c.toNat : Int) = (k.toNat : Int)) = (c == k) := fun k => by
    by_cases h : c = k
    · subst h; simp
    · have : ¬ (c.toNat : Int) = (k.toNat : Int) := fun e => h (UInt8.toNat_inj.1 (by omega))
      rw [decide_eq_false this]; exact (beq_eq_false_iff_ne.2 h).symm
  have k1 := key 32
  have k2 := key 9
  have k3 := key 13
  simp only [show (((32 : UInt8).toNat : Nat) : Int) = 32 from rfl, show (((9 : UInt8).toNat : Nat) : Int) = 9 from rfl, show (((13 : UInt8).toNat : Nat) : Int) = 13 from rfl] at k1 k2 k3
  (intro X hP hΓ hL hfin; refine ⟨_, rfl, ?_⟩; rw [show Tryz.f99.ntmps = 13 from rfl]; rw [show Tryz.f99.results.toList = [.tmp 2] from rfl] at hfin; apply holds_of_ex X 400; simp (maxSteps := 1000000) only [push_cast, reduceCtorEq, Nat.reduceAdd, Nat.reduceMul, Nat.reduceSub, Nat.reduceBEq, Nat.reduceGT, Nat.reduceLT, Int.toNat_zero, Nat.reduceLeDiff, Int.reduceEq, Int.reduceLT, Int.reduceLE, hP, hΓ, hL, hfin, String.reduceEq, not_false_eq_true, if_true, if_false, Int.toNat_one, Bool.not_not, k1, k2, k3])
  exact Into.one rfl rfl
theorem con99 {Γ : Env} (h : EnvOk Tryz.prog Γ)  : Con Tryz.prog 99 S99 :=
  funS_con h (fn := Tryz.f99) (by kernel_rfl) rfl (by kernel_rfl) inj99 (by first | (intro h; cases h; done) | exact fun _ _ => rfl) fun c _ => body99 Γ c
def fnd (l : List (List UInt8)) (s : List UInt8) : Int := match ixO l s with | some k => (k : Int) | none => -1
def e100 : (List (List UInt8)) × (List UInt8) → List AV := fun (l, s) => [.sl (l.map AV.str) l.length, .str s]
def p100 : (List (List UInt8)) × (List UInt8) → Prop := fun (l, s) => l.length ≤ 100 ∧ ∀ x ∈ l, x ≠ []
def r100 : (List (List UInt8)) × (List UInt8) → AV := fun (l, s) => .int .i64 (fnd l s)
def g100 : (List (List UInt8)) × (List UInt8) → Heap := fun (l, s) => []
theorem inj100 : ∀ a b, e100 a = e100 b → a = b := by
  rintro ⟨l, s⟩ ⟨l', s'⟩ h
  simp only [e100, mi_iff, ms_iff, mb_iff, my_iff, UInt8.toNat_inj, List.cons.injEq, AV.int.injEq, AV.str.injEq, AV.bool.injEq, AV.sl.injEq, AV.agg.injEq, AV.ip.injEq, AV.fn.injEq, AV.ifc.injEq, AV.mpr.injEq, Int.natCast_inj, and_true, true_and] at h
  simp_all only
noncomputable def S100 : FSpec := funS e100 p100 r100 g100 true
theorem ps100 (l : (List (List UInt8))) (s : (List UInt8)) : psel e100 p100 [.sl (l.map AV.str) l.length, .str s] = (l.length ≤ 100 ∧ ∀ x ∈ l, x ≠ []) := psel_at inj100 p100 (l, s)
theorem rs100 (l : (List (List UInt8))) (s : (List UInt8)) : rsel e100 r100 .any [.sl (l.map AV.str) l.length, .str s] = (.int .i64 (fnd l s)) := rsel_at inj100 r100 .any (l, s)
theorem hs100 (l : (List (List UInt8))) (s : (List UInt8)) : rsel e100 g100 [] [.sl (l.map AV.str) l.length, .str s] = ([]) := rsel_at inj100 g100 [] (l, s)
attribute [push_cast] S100 ps100 rs100 hs100
theorem ix_at {l : List (List UInt8)} {s : List UInt8} {k : Nat} (hk : k < l.length) (h : ∀ j < k, l.getD j [] ≠ s) (he : l.getD k [] = s) : ixO l s = some k := by
  induction l generalizing k with
  | nil => simp at hk
  | cons x r ih =>
    cases k with
    | zero => have : x = s := by simpa using he
              rw [ixO, if_pos this]
    | succ k =>
      have : x ≠ s := by simpa using h 0 (by omega)
      rw [ixO, if_neg this, ih (k := k) (by simpa using hk) (fun j hj => by simpa using h (j + 1) (by omega)) (by simpa using he)]; rfl
theorem ix_no {l : List (List UInt8)} {s : List UInt8} (h : ∀ j < l.length, l.getD j [] ≠ s) : ixO l s = none := by
  induction l with
  | nil => rfl
  | cons x r ih =>
    have : x ≠ s := by simpa using h 0 (by simp)
    rw [ixO, if_neg this, ih fun j hj => by simpa using h (j + 1) (by simpa using hj)]; rfl
theorem body100 (Γ : Env) (l : List (List UInt8)) (s : List UInt8) (hl : l.length ≤ 100) (hne : ∀ x ∈ l, x ≠ []) : BodyOk Tryz.prog Γ Tryz.f100 [.sl (l.map AV.str) l.length, .str s] [] (.int .i64 (fnd l s)) [] := by
  (intro X hP hΓ hL hfin; refine ⟨_, rfl, ?_⟩; rw [show Tryz.f100.ntmps = 23 from rfl]; rw [show Tryz.f100.results.toList = [.tmp 4] from rfl] at hfin; apply holds_of_ex X 400; simp (maxSteps := 1000000) only [push_cast, reduceCtorEq, Nat.reduceAdd, Nat.reduceMul, Nat.reduceSub, Nat.reduceBEq, Nat.reduceGT, Nat.reduceLT, Int.toNat_zero, Nat.reduceLeDiff, Int.reduceEq, Int.reduceLT, Int.reduceLE, hP, hΓ, hL, hfin, String.reduceEq, not_false_eq_true, if_true, if_false, Int.toNat_one, Bool.not_not])
  refine Holds.loopM (ι := {k : Nat // k ≤ l.length ∧ ∀ j < k, l.getD j [] ≠ s}) [true, true, false, false, false, false, false, false, false, false, false, false, false, false, false, false, false, false, false, false, false, false, false] (fun i => [(5, .int .i64 i.1)]) (fun i => []) (fun i => l.length - i.1) ⟨0, Nat.zero_le _, by simp⟩ ?_ ?_
  · (rw [hL]; simp only [push_cast, Int.natCast_zero]; exact Into.sameA)
  rintro ⟨k, hk, hg⟩
  ((first | with_reducible refine holds_of_ex X 400 _ _ _ ?_ | skip); simp (maxSteps := 1000000) only [push_cast, reduceCtorEq, Nat.reduceAdd, Nat.reduceMul, Nat.reduceSub, Nat.reduceBEq, Nat.reduceGT, Nat.reduceLT, Int.toNat_zero, Nat.reduceLeDiff, Int.reduceEq, Int.reduceLT, Int.reduceLE, hP, hΓ, hL, hfin, String.reduceEq, not_false_eq_true, if_true, if_false, Int.toNat_one, Bool.not_not])
  ((with_reducible refine exB_split (fun h => ?_) (fun h => ?_)) <;> (try simp only [decide_eq_true_eq, decide_eq_false_iff_not, Bool.and_eq_true, Bool.or_eq_true, Bool.and_eq_false_iff, Bool.or_eq_false_iff, Bool.not_eq_true', Bool.not_eq_false', Bool.not_eq_true, Bool.not_eq_false, Int.not_lt, Int.not_le, beq_iff_eq, beq_eq_false_iff_ne, ne_eq] at h))
  · have hk' : k < l.length := by omega
    have hd : l.getD k default = l.getD k [] := rfl
    by_cases he : l.getD k [] = s
    · have hs : (s == []) = false := by
        rw [beq_eq_false_iff_ne]; rw [← he]
        exact hne _ (by rw [List.getD_eq_getElem?_getD, List.getElem?_eq_getElem hk']; exact List.getElem_mem _)
      have hb : (l.getD k [] == s) = true := beq_iff_eq.2 he
      ((first | with_reducible refine holds_of_ex X 400 _ _ _ ?_ | skip); simp (maxSteps := 1000000) only [push_cast, reduceCtorEq, Nat.reduceAdd, Nat.reduceMul, Nat.reduceSub, Nat.reduceBEq, Nat.reduceGT, Nat.reduceLT, Int.toNat_zero, Nat.reduceLeDiff, Int.reduceEq, Int.reduceLT, Int.reduceLE, hP, hΓ, hL, hfin, String.reduceEq, not_false_eq_true, if_true, if_false, Int.toNat_one, Bool.not_not, hd, hb, hs])
      refine ⟨by omega, by omega, ?_⟩
      rw [fnd, ix_at hk' hg he]
      exact Into.one rfl rfl
    · have hb : (l.getD k [] == s) = false := beq_eq_false_iff_ne.2 he
      ((first | with_reducible refine holds_of_ex X 400 _ _ _ ?_ | skip); simp (maxSteps := 1000000) only [push_cast, reduceCtorEq, Nat.reduceAdd, Nat.reduceMul, Nat.reduceSub, Nat.reduceBEq, Nat.reduceGT, Nat.reduceLT, Int.toNat_zero, Nat.reduceLeDiff, Int.reduceEq, Int.reduceLT, Int.reduceLE, hP, hΓ, hL, hfin, String.reduceEq, not_false_eq_true, if_true, if_false, Int.toNat_one, Bool.not_not, hd, hb])
      refine ⟨by omega, by omega, ⟨k + 1, hk', fun j hj => ?_⟩, by simp only; omega, ?_⟩
      · rcases Nat.lt_succ_iff_lt_or_eq.1 hj with h' | rfl
        · exact hg j h'
        · exact he
      dsimp only
      rw [wr_i64 ((k : Int) + 1) (by constructor <;> omega)]
      exact Into.sameA
  · obtain rfl : k = l.length := by omega
    ((first | with_reducible refine holds_of_ex X 400 _ _ _ ?_ | skip); simp (maxSteps := 1000000) only [push_cast, reduceCtorEq, Nat.reduceAdd, Nat.reduceMul, Nat.reduceSub, Nat.reduceBEq, Nat.reduceGT, Nat.reduceLT, Int.toNat_zero, Nat.reduceLeDiff, Int.reduceEq, Int.reduceLT, Int.reduceLE, hP, hΓ, hL, hfin, String.reduceEq, not_false_eq_true, if_true, if_false, Int.toNat_one, Bool.not_not])
    rw [fnd, ix_no hg]
    exact Into.one rfl rfl
theorem con100 {Γ : Env} (h : EnvOk Tryz.prog Γ)  : Con Tryz.prog 100 S100 :=
  funS_con h (fn := Tryz.f100) (by kernel_rfl) rfl (by kernel_rfl) inj100 (by first | (intro h; cases h; done) | exact fun _ _ => rfl) fun ⟨l, s⟩ h => body100 Γ l s h.1 h.2
end Go.Proofs.YtgemeilncdmapaaGreatDoor.asmDone
end
section
namespace Go.Proofs.YtgemeilncdmapaaGreatDoor.asmDone
open Go Go.Eng Go.Proofs Go.RowKit
open Go.Asm (mayB in16 rightB laid sx In flds rightI laidI decB laid_lo ops cnds opT cnT regT sufT nameT hexC hexT sep lastT insT showF joinT numO prgN prgB regO refP refO dgt dval ixO blk brO)
set_option linter.unusedVariables false
set_option linter.unusedSimpArgs false
set_option maxRecDepth 100000
set_option maxHeartbeats 4000000
theorem prg_bd (s : List UInt8) : -9223372036854775808 ≤ prgN s ∧ prgN s ≤ 9223372036854775807 := by
  unfold prgN
  cases h : Lib.parseIntB 64 s with
  | ok v =>
    have hb := Lib.parseIntB_bounds h
    simp only [Nat.reduceSub, Nat.reducePow] at hb
    simp only; omega
  | range => simp only [Lib.intSat]; split <;> simp
  | _ => simp
/-- how far, in bytes -/
def dN (n at_ : Int) : Int := sx ((n - at_ - 4) % 4294967296) 4294967296
theorem dN_b (n at_ : Int) : -2147483648 ≤ dN n at_ ∧ dN n at_ ≤ 2147483647 := by unfold dN sx; split <;> omega
theorem dN_is (n at_ : Int) : IntKind.i32.wrap (IntKind.u32.wrap (IntKind.u32.wrap (IntKind.u32.wrap n - at_) - 4)) = dN n at_ := by
  simp only [u32w]
  rw [i32w _ (by omega), show ((n % 4294967296 - at_) % 4294967296 - 4) % 4294967296 = (n - at_ - 4) % 4294967296 by omega]
  unfold dN sx
  split <;> split <;> omega
theorem i32i (n : Int) (h : -2147483648 ≤ n ∧ n ≤ 2147483647) : IntKind.i32.wrap n = n := by
  have e : IntKind.i32.wrap n = (n + 2147483648) % 4294967296 - 2147483648 := by simp [IntKind.wrap, IntKind.bits, IntKind.signed]; omega
  rw [e]; omega
def brV (l : List (List UInt8)) (at_ : Int) : In := match l with
  | [x, y] => if (regO y).isSome then ⟨3, false, false, fnd cnds x, 0, 0, rgN y, 0⟩ else ⟨3, true, false, fnd cnds x, 0, 0, 0, (dN (prgN y) at_).tdiv 4⟩
  | _ => ⟨3, false, false, -1, 0, 0, 0, 0⟩
def brB (l : List (List UInt8)) (at_ : Int) : Bool := match l with
  | [_, y] => (regO y).isSome || (prgB y && decide (0 ≤ prgN y) && decide (prgN y = prgN y % 4294967296) && decide ((dN (prgN y) at_).tmod 4 = 0))
  | _ => false
theorem br_no {l : List (List UInt8)} (h : l.length ≠ 2) (at_ : Int) : brV l at_ = ⟨3, false, false, -1, 0, 0, 0, 0⟩ ∧ brB l at_ = false := by
  match l, h with
  | [], _ => exact ⟨rfl, rfl⟩
  | [_], _ => exact ⟨rfl, rfl⟩
  | [_, _], h => exact absurd rfl h
  | _ :: _ :: _ :: _, _ => exact ⟨rfl, rfl⟩
/-- the condition among the first -/
def fk (x : List UInt8) (k : Nat) : Int := fnd (cnds.take k) x
theorem ix_snoc (l : List (List UInt8)) (y x : List UInt8) : ixO (l ++ [y]) x = match ixO l x with | some j => some j | none => if y = x then some l.length else none := by
  induction l with
  | nil => simp only [List.nil_append, ixO]; split <;> rfl
  | cons z r ih =>
    rw [List.cons_append, ixO, ixO]
    split
    · rfl
    · rw [ih]
      cases ixO r x with
      | some j => rfl
      | none => simp only [Option.map_none, List.length_cons]; split <;> rfl
theorem fk_step (x : List UInt8) (k : Nat) (h : k < 16) : fk x (k + 1) = if cnT (k : Int) = x then (k : Int) else fk x k := by
  have key : ∀ i : Fin 16, ixO (cnds.take i.1) (cnT (i.1 : Int)) = none ∧ cnds.take (i.1 + 1) = cnds.take i.1 ++ [cnT (i.1 : Int)] ∧ (cnds.take i.1).length = i.1 := by decide
  obtain ⟨k1, k2, k3⟩ := key ⟨k, h⟩
  simp only at k1 k2 k3
  unfold fk fnd
  rw [k2, ix_snoc]
  by_cases hc : cnT (k : Int) = x
  · subst hc
    rw [k1, if_pos rfl]; simp only [if_true]; omega
  · rw [if_neg hc]
    cases ixO (cnds.take k) x with
    | some j => simp only [if_neg hc]
    | none => simp only [if_neg hc]
theorem fk_all (x : List UInt8) : fk x 16 = fnd cnds x := rfl
def e68 : (List (List UInt8)) × (Int) → List AV := fun (l, at_) => [.sl (l.map AV.str) l.length, .int .u32 at_]
def p68 : (List (List UInt8)) × (Int) → Prop := fun (l, at_) => (∀ x ∈ l, x.length ≤ 4194304) ∧ l.length ≤ 4194304 ∧ (0 ≤ at_ ∧ at_ < 4294967296)
def r68 : (List (List UInt8)) × (Int) → AV := fun (l, at_) => .tup [agI (brV l at_), .bool (brB l at_)]
def g68 : (List (List UInt8)) × (Int) → Heap := fun (l, at_) => []
theorem inj68 : ∀ a b, e68 a = e68 b → a = b := by
  rintro ⟨l, at_⟩ ⟨l', at_'⟩ h
  simp only [e68, mi_iff, ms_iff, mb_iff, my_iff, UInt8.toNat_inj, List.cons.injEq, AV.int.injEq, AV.str.injEq, AV.bool.injEq, AV.sl.injEq, AV.agg.injEq, AV.ip.injEq, AV.fn.injEq, AV.ifc.injEq, AV.mpr.injEq, Int.natCast_inj, and_true, true_and] at h
  simp_all only
noncomputable def S68 : FSpec := funS e68 p68 r68 g68 true
theorem ps68 (l : (List (List UInt8))) (at_ : (Int)) : psel e68 p68 [.sl (l.map AV.str) l.length, .int .u32 at_] = ((∀ x ∈ l, x.length ≤ 4194304) ∧ l.length ≤ 4194304 ∧ (0 ≤ at_ ∧ at_ < 4294967296)) := psel_at inj68 p68 (l, at_)
theorem rs68 (l : (List (List UInt8))) (at_ : (Int)) : rsel e68 r68 .any [.sl (l.map AV.str) l.length, .int .u32 at_] = (.tup [agI (brV l at_), .bool (brB l at_)]) := rsel_at inj68 r68 .any (l, at_)
theorem hs68 (l : (List (List UInt8))) (at_ : (Int)) : rsel e68 g68 [] [.sl (l.map AV.str) l.length, .int .u32 at_] = ([]) := rsel_at inj68 g68 [] (l, at_)
attribute [push_cast] S68 ps68 rs68 hs68
theorem body68 (Γ : Env) (h22 : Γ 22 = some S22) (h69 : Γ 69 = some S69) (h97 : Γ 97 = some S97) (l : List (List UInt8)) (at_ : Int) (hx : ∀ x ∈ l, x.length ≤ 4194304) (hl : l.length ≤ 4194304) (hat : 0 ≤ at_ ∧ at_ < 4294967296) : BodyOk Tryz.prog Γ Tryz.f68 [.sl (l.map AV.str) l.length, .int .u32 at_] [] (.tup [agI (brV l at_), .bool (brB l at_)]) [] := by
  by_cases h2 : l.length = 2
  case neg =>
    obtain ⟨e1, e2⟩ := br_no h2 at_
    have hd : decide (((l.length : Nat) : Int) = 2) = false := decide_eq_false (by omega)
    rw [e1, e2]
    (intro X hP hΓ hL hfin; refine ⟨_, rfl, ?_⟩; rw [show Tryz.f68.ntmps = 77 from rfl]; rw [show Tryz.f68.results.toList = [.cell 4 42, .tmp 5] from rfl] at hfin; apply holds_of_ex X 400; simp (maxSteps := 1000000) only [push_cast, reduceCtorEq, Nat.reduceAdd, Nat.reduceMul, Nat.reduceSub, Nat.reduceBEq, Nat.reduceGT, Nat.reduceLT, Int.toNat_zero, Nat.reduceLeDiff, Int.reduceEq, Int.reduceLT, Int.reduceLE, hP, hΓ, hL, hfin, String.reduceEq, not_false_eq_true, if_true, if_false, Int.toNat_one, Bool.not_not, hd])
    exact Into.one rfl rfl
  match l, h2 with
  | [x, y], _ =>
    have hx0 := hx x (by simp)
    have hy0 := hx y (by simp)
    show BodyOk Tryz.prog Γ Tryz.f68 [.sl [.str x, .str y] 2, .int .u32 at_] [] (.tup [agI (brV [x, y] at_), .bool (brB [x, y] at_)]) []
    (intro X hP hΓ hL hfin; refine ⟨_, rfl, ?_⟩; rw [show Tryz.f68.ntmps = 77 from rfl]; rw [show Tryz.f68.results.toList = [.cell 4 42, .tmp 5] from rfl] at hfin; apply holds_of_ex X 400; simp (maxSteps := 1000000) only [push_cast, reduceCtorEq, Nat.reduceAdd, Nat.reduceMul, Nat.reduceSub, Nat.reduceBEq, Nat.reduceGT, Nat.reduceLT, Int.toNat_zero, Nat.reduceLeDiff, Int.reduceEq, Int.reduceLT, Int.reduceLE, hP, hΓ, hL, hfin, String.reduceEq, not_false_eq_true, if_true, if_false, Int.toNat_one, Bool.not_not, Int.reduceAdd])
    refine Holds.loopM (ι := {k : Nat // k ≤ 16}) [true, true, false, false, true, true, true, false, true, true, true, true, true, false, false, false, false, false, false, false, false, false, false, false, false, false, false, false, false, false, false, false, false, false, false, false, false, false, false, false, false, false, false, false, false, false, false, false, false, false, false, false, false, false, false, false, false, false, false, false, false, false, false, false, false, false, false, false, false, false, false, false, false, false, false, false, false] (fun i => [(18, .int .i64 i.1)]) (fun i => [.row [.int .i64 0, .bool false, .bool false, .int .i64 0, .int .i64 0, .int .i64 0, .int .i64 0, .int .i64 0] 8 0, .row [.int .i64 3, .bool false, .bool false, .int .i64 (fk x i.1), .int .i64 0, .int .i64 0, .int .i64 0, .int .i64 0] 8 0]) (fun i => 16 - i.1) ⟨0, by decide⟩ ?_ ?_
    · rw [hL]
      simp only [push_cast, Int.natCast_zero, show fk x 0 = -1 from rfl]
      exact Into.sameA
    rintro ⟨k, hk⟩
    ((first | with_reducible refine holds_of_ex X 400 _ _ _ ?_ | skip); simp (maxSteps := 1000000) only [push_cast, reduceCtorEq, Nat.reduceAdd, Nat.reduceMul, Nat.reduceSub, Nat.reduceBEq, Nat.reduceGT, Nat.reduceLT, Int.toNat_zero, Nat.reduceLeDiff, Int.reduceEq, Int.reduceLT, Int.reduceLE, hP, hΓ, hL, hfin, String.reduceEq, not_false_eq_true, if_true, if_false, Int.toNat_one, Bool.not_not])
    ((with_reducible refine exB_split (fun h => ?_) (fun h => ?_)) <;> (try simp only [decide_eq_true_eq, decide_eq_false_iff_not, Bool.and_eq_true, Bool.or_eq_true, Bool.and_eq_false_iff, Bool.or_eq_false_iff, Bool.not_eq_true', Bool.not_eq_false', Bool.not_eq_true, Bool.not_eq_false, Int.not_lt, Int.not_le, beq_iff_eq, beq_eq_false_iff_ne, ne_eq] at h))
    · have hk' : k < 16 := by omega
      have hk0 : 0 ≤ (k : Int) ∧ (k : Int) ≤ 15 := by omega
      have hs := fk_step x k hk'
      ((first | with_reducible refine holds_of_ex X 400 _ _ _ ?_ | skip); simp (maxSteps := 1000000) only [push_cast, reduceCtorEq, Nat.reduceAdd, Nat.reduceMul, Nat.reduceSub, Nat.reduceBEq, Nat.reduceGT, Nat.reduceLT, Int.toNat_zero, Nat.reduceLeDiff, Int.reduceEq, Int.reduceLT, Int.reduceLE, hP, hΓ, hL, hfin, String.reduceEq, not_false_eq_true, if_true, if_false, Int.toNat_one, Bool.not_not])
      by_cases hc : cnT (k : Int) = x
      · rw [if_pos hc] at hs
        have hb : (cnT (k : Int) == x) = true := beq_iff_eq.2 hc
        (refine Holds.drawnQ (by rw [hP]; kernel_rfl) (by kernel_rfl) ?_; simp (maxSteps := 1000000) only [push_cast, reduceCtorEq, Nat.reduceAdd, Nat.reduceMul, Nat.reduceSub, Nat.reduceBEq, Nat.reduceGT, Nat.reduceLT, Int.toNat_zero, Nat.reduceLeDiff, Int.reduceEq, Int.reduceLT, Int.reduceLE, hP, hΓ, hL, hfin, String.reduceEq, not_false_eq_true, if_true, if_false, Int.toNat_one, Bool.not_not, h22, hk0, and_self, hb])
        refine ⟨by omega, ⟨k + 1, hk'⟩, by simp only; omega, ?_⟩
        dsimp only
        rw [hs, wr_i64 ((k : Int) + 1) (by constructor <;> omega)]
        exact Into.sameA
      · rw [if_neg hc] at hs
        have hb : (cnT (k : Int) == x) = false := beq_eq_false_iff_ne.2 hc
        (refine Holds.drawnQ (by rw [hP]; kernel_rfl) (by kernel_rfl) ?_; simp (maxSteps := 1000000) only [push_cast, reduceCtorEq, Nat.reduceAdd, Nat.reduceMul, Nat.reduceSub, Nat.reduceBEq, Nat.reduceGT, Nat.reduceLT, Int.toNat_zero, Nat.reduceLeDiff, Int.reduceEq, Int.reduceLT, Int.reduceLE, hP, hΓ, hL, hfin, String.reduceEq, not_false_eq_true, if_true, if_false, Int.toNat_one, Bool.not_not, h22, hk0, and_self, hb])
        refine ⟨by omega, ⟨k + 1, hk'⟩, by simp only; omega, ?_⟩
        dsimp only
        rw [hs, wr_i64 ((k : Int) + 1) (by constructor <;> omega)]
        exact Into.sameA
    · obtain rfl : k = 16 := by omega
      rw [fk_all]
      cases hr : regO y with
      | some c =>
        have e1 : brV [x, y] at_ = ⟨3, false, false, fnd cnds x, 0, 0, rgN y, 0⟩ := by rw [brV, hr]; rfl
        have e2 : brB [x, y] at_ = true := by rw [brB, hr]; rfl
        rw [e1, e2] at hfin
        ((first | with_reducible refine holds_of_ex X 400 _ _ _ ?_ | skip); simp (maxSteps := 1000000) only [push_cast, reduceCtorEq, Nat.reduceAdd, Nat.reduceMul, Nat.reduceSub, Nat.reduceBEq, Nat.reduceGT, Nat.reduceLT, Int.toNat_zero, Nat.reduceLeDiff, Int.reduceEq, Int.reduceLT, Int.reduceLE, hP, hΓ, hL, hfin, String.reduceEq, not_false_eq_true, if_true, if_false, Int.toNat_one, Bool.not_not, h69, hr, hy0, Option.isSome_some])
        refine ⟨by omega, ?_⟩
        exact Into.one rfl rfl
      | none =>
        have hp := prg_bd y
        have hb := dN_b (prgN y) at_
        have ht : -2147483648 ≤ (dN (prgN y) at_).tdiv 4 ∧ (dN (prgN y) at_).tdiv 4 ≤ 2147483647 := by
          have h1 := Int.tdiv_mul_add_tmod (dN (prgN y) at_) 4
          have h2 := Int.tmod_lt_of_pos (dN (prgN y) at_) (show (0 : Int) < 4 by decide)
          have h3 : -4 < (dN (prgN y) at_).tmod 4 := by
            have := Int.tmod_lt_of_pos (-(dN (prgN y) at_)) (show (0 : Int) < 4 by decide)
            rw [Int.neg_tmod] at this; omega
          omega
        have e1 : brV [x, y] at_ = ⟨3, true, false, fnd cnds x, 0, 0, 0, (dN (prgN y) at_).tdiv 4⟩ := by rw [brV, hr]; rfl
        have e2 : brB [x, y] at_ = (prgB y && decide (0 ≤ prgN y) && decide (prgN y = prgN y % 4294967296) && decide ((dN (prgN y) at_).tmod 4 = 0)) := by rw [brB, hr]; rfl
        rw [e1, e2] at hfin
        have w1 : IntKind.i64.wrap (IntKind.u32.wrap (prgN y)) = prgN y % 4294967296 := by rw [u32w]; exact wr_i64 _ (by constructor <;> omega)
        have w2 : IntKind.i64.wrap (IntKind.i32.wrap ((dN (prgN y) at_).tdiv 4)) = (dN (prgN y) at_).tdiv 4 := by
          have : IntKind.i32.wrap ((dN (prgN y) at_).tdiv 4) = (dN (prgN y) at_).tdiv 4 := i32i _ (by omega)
          rw [this]; exact wr_i64 _ (by constructor <;> omega)
        ((first | with_reducible refine holds_of_ex X 400 _ _ _ ?_ | skip); simp (maxSteps := 1000000) only [push_cast, reduceCtorEq, Nat.reduceAdd, Nat.reduceMul, Nat.reduceSub, Nat.reduceBEq, Nat.reduceGT, Nat.reduceLT, Int.toNat_zero, Nat.reduceLeDiff, Int.reduceEq, Int.reduceLT, Int.reduceLE, hP, hΓ, hL, hfin, String.reduceEq, not_false_eq_true, if_true, if_false, Int.toNat_one, Bool.not_not, h69, h97, hr, hy0, Option.isSome_none, dN_is, w1, w2])
        refine ⟨by omega, by omega, ?_⟩
        exact Into.one rfl rfl
theorem con68 {Γ : Env} (h : EnvOk Tryz.prog Γ) (h22 : Γ 22 = some S22) (h69 : Γ 69 = some S69) (h97 : Γ 97 = some S97) : Con Tryz.prog 68 S68 :=
  funS_con h (fn := Tryz.f68) (by kernel_rfl) rfl (by kernel_rfl) inj68 (by first | (intro h; cases h; done) | exact fun _ _ => rfl) fun ⟨l, at_⟩ h => body68 Γ h22 h69 h97 l at_ h.1 h.2.1 h.2.2
theorem dN_mod (n at_ : Int) : (dN n at_).tmod 4 = 0 ↔ (n - at_ - 4) % 4 = 0 := by
  have h1 : (dN n at_).tmod 4 = 0 ↔ (dN n at_) % 4 = 0 := ⟨fun h => Int.emod_eq_zero_of_dvd (Int.dvd_of_tmod_eq_zero h), fun h => Int.tmod_eq_zero_of_dvd (Int.dvd_of_emod_eq_zero h)⟩
  rw [h1]
  unfold dN sx; split <;> omega
theorem dN_div (n at_ : Int) (h : (n - at_ - 4) % 4 = 0) : (dN n at_).tdiv 4 = dN n at_ / 4 := by
  have h2 := (dN_mod n at_).2 h
  have h1 := Int.tdiv_mul_add_tmod (dN n at_) 4
  have h3 : (dN n at_) % 4 = 0 := Int.emod_eq_zero_of_dvd (Int.dvd_of_tmod_eq_zero h2)
  omega
/-- what may be, or nothing is said -/
def oA : Option In → AV
  | some i => agI i
  | none => .any
theorem oA_none : oA none = .any := rfl
theorem oA_some (i : In) : oA (some i) = agI i := rfl
def rbO (nm : List UInt8) (l : List (List UInt8)) (at_ : Int) : Option In := if nm = [74, 77, 80] ∨ nm = [67, 65, 76, 76] then brO (nm == [67, 65, 76, 76]) l at_ else none
/-- what is left of a branch that is none -/
def rbG (v : Bool) (x y : List UInt8) (at_ : Int) : In := match ixO cnds x with
  | none => ⟨3, false, v, -1, 0, 0, 0, 0⟩
  | some a => match refO y with
    | none => ⟨3, false, v, a, 0, 0, 0, 0⟩
    | some n => if 0 ≤ n ∧ n < 4294967296 then ⟨3, true, v, a, 0, 0, 0, (dN n at_).tdiv 4⟩ else ⟨3, false, v, a, 0, 0, 0, 0⟩
def rbF (nm : List UInt8) (l : List (List UInt8)) (at_ : Int) : In := if nm = [74, 77, 80] ∨ nm = [67, 65, 76, 76] then match l with
  | [x, y] => rbG (nm == [67, 65, 76, 76]) x y at_
  | _ => ⟨3, false, nm == [67, 65, 76, 76], 0, 0, 0, 0, 0⟩
  else ⟨3, false, nm == [67, 65, 76, 76], 0, 0, 0, 0, 0⟩
def e74 : (List UInt8) × (List (List UInt8)) × (Int) → List AV := fun (nm, l, at_) => [.str nm, .sl (l.map AV.str) l.length, .int .u32 at_]
def p74 : (List UInt8) × (List (List UInt8)) × (Int) → Prop := fun (nm, l, at_) => (∀ x ∈ l, x.length ≤ 4194304) ∧ l.length ≤ 4194304 ∧ (0 ≤ at_ ∧ at_ < 4294967296)
def r74 : (List UInt8) × (List (List UInt8)) × (Int) → AV := fun (nm, l, at_) => .tup [agI ((rbO nm l at_).getD (rbF nm l at_)), .bool (rbO nm l at_).isSome]
def g74 : (List UInt8) × (List (List UInt8)) × (Int) → Heap := fun (nm, l, at_) => []
theorem inj74 : ∀ a b, e74 a = e74 b → a = b := by
  rintro ⟨nm, l, at_⟩ ⟨nm', l', at_'⟩ h
  simp only [e74, mi_iff, ms_iff, mb_iff, my_iff, UInt8.toNat_inj, List.cons.injEq, AV.int.injEq, AV.str.injEq, AV.bool.injEq, AV.sl.injEq, AV.agg.injEq, AV.ip.injEq, AV.fn.injEq, AV.ifc.injEq, AV.mpr.injEq, Int.natCast_inj, and_true, true_and] at h
  simp_all only
noncomputable def S74 : FSpec := funS e74 p74 r74 g74 true
theorem ps74 (nm : (List UInt8)) (l : (List (List UInt8))) (at_ : (Int)) : psel e74 p74 [.str nm, .sl (l.map AV.str) l.length, .int .u32 at_] = ((∀ x ∈ l, x.length ≤ 4194304) ∧ l.length ≤ 4194304 ∧ (0 ≤ at_ ∧ at_ < 4294967296)) := psel_at inj74 p74 (nm, l, at_)
theorem rs74 (nm : (List UInt8)) (l : (List (List UInt8))) (at_ : (Int)) : rsel e74 r74 .any [.str nm, .sl (l.map AV.str) l.length, .int .u32 at_] = (.tup [agI ((rbO nm l at_).getD (rbF nm l at_)), .bool (rbO nm l at_).isSome]) := rsel_at inj74 r74 .any (nm, l, at_)
theorem hs74 (nm : (List UInt8)) (l : (List (List UInt8))) (at_ : (Int)) : rsel e74 g74 [] [.str nm, .sl (l.map AV.str) l.length, .int .u32 at_] = ([]) := rsel_at inj74 g74 [] (nm, l, at_)
attribute [push_cast] S74 ps74 rs74 hs74
theorem br_len {l : List (List UInt8)} (h : l.length ≠ 2) (v : Bool) (at_ : Int) : brO v l at_ = none := by
  match l, h with
  | [], _ => rfl
  | [_], _ => rfl
  | [_, _], h => exact absurd rfl h
  | _ :: _ :: _ :: _, _ => rfl
theorem body74 (Γ : Env) (h55 : Γ 55 = some S55) (h100 : Γ 100 = some S100) (h101 : Γ 101 = some S101) (h102 : Γ 102 = some S102) (nm : List UInt8) (l : List (List UInt8)) (at_ : Int) (hx : ∀ x ∈ l, x.length ≤ 4194304) (hl : l.length ≤ 4194304) (hat : 0 ≤ at_ ∧ at_ < 4294967296) : BodyOk Tryz.prog Γ Tryz.f74 [.str nm, .sl (l.map AV.str) l.length, .int .u32 at_] [] (.tup [agI ((rbO nm l at_).getD (rbF nm l at_)), .bool (rbO nm l at_).isSome]) [] := by
  by_cases hq : (nm = [74, 77, 80] ∨ nm = [67, 65, 76, 76]) ∧ l.length = 2
  case neg =>
    have e : rbO nm l at_ = none := by
      unfold rbO
      split
      · rename_i h; exact br_len (fun h' => hq ⟨h, h'⟩) _ _
      · rfl
    have hd : (!(nm == [74, 77, 80]) && !(nm == [67, 65, 76, 76]) || !decide (((l.length : Nat) : Int) = 2)) = true := by
      simp only [Bool.or_eq_true, Bool.and_eq_true, Bool.not_eq_true', beq_eq_false_iff_ne, decide_eq_false_iff_not]
      rcases Decidable.em (nm = [74, 77, 80] ∨ nm = [67, 65, 76, 76]) with h | h
      · right; exact fun h' => hq ⟨h, by omega⟩
      · left; exact ⟨fun h' => h (.inl h'), fun h' => h (.inr h')⟩
    have eF : rbF nm l at_ = ⟨3, false, nm == [67, 65, 76, 76], 0, 0, 0, 0, 0⟩ := by
      unfold rbF
      split
      · rename_i h
        have h2 : l.length ≠ 2 := fun h' => hq ⟨h, h'⟩
        match l, h2 with
        | [], _ => rfl
        | [_], _ => rfl
        | [_, _], h => exact absurd rfl h
        | _ :: _ :: _ :: _, _ => rfl
      · rfl
    rw [e, eF]
    (intro X hP hΓ hL hfin; refine ⟨_, rfl, ?_⟩; rw [show Tryz.f74.ntmps = 83 from rfl]; rw [show Tryz.f74.results.toList = [.cell 6 42, .tmp 7] from rfl] at hfin; apply holds_of_ex X 400; simp (maxSteps := 1000000) only [push_cast, reduceCtorEq, Nat.reduceAdd, Nat.reduceMul, Nat.reduceSub, Nat.reduceBEq, Nat.reduceGT, Nat.reduceLT, Int.toNat_zero, Nat.reduceLeDiff, Int.reduceEq, Int.reduceLT, Int.reduceLE, hP, hΓ, hL, hfin, String.reduceEq, not_false_eq_true, if_true, if_false, Int.toNat_one, Bool.not_not, hd, Option.getD_none, agI_mk, Option.isSome_none])
    exact Into.one rfl rfl
  obtain ⟨hnm, h2⟩ := hq
  match l, h2 with
  | [x, y], _ =>
    have hx0 := hx x (by simp)
    have hy0 := hx y (by simp)
    have hn1 : (!(nm == [74, 77, 80]) && !(nm == [67, 65, 76, 76])) = false := by
      rcases hnm with rfl | rfl <;> rfl
    have e0 : rbO nm [x, y] at_ = brO (nm == [67, 65, 76, 76]) [x, y] at_ := by rw [rbO, if_pos hnm]
    have f0 : rbF nm [x, y] at_ = rbG (nm == [67, 65, 76, 76]) x y at_ := by rw [rbF, if_pos hnm]
    rw [e0, f0]
    generalize hv : (nm == [67, 65, 76, 76]) = v at *
    have hc1 : cnds.length ≤ 100 := by decide
    have hc2 : ∀ z ∈ cnds, z ≠ [] := by decide
    have ps : psel e100 p100 [.sl (cnds.map AV.str) 16, .str x] = (cnds.length ≤ 100 ∧ ∀ z ∈ cnds, z ≠ []) := ps100 cnds x
    have rs : rsel e100 r100 .any [.sl (cnds.map AV.str) 16, .str x] = .int .i64 (fnd cnds x) := rs100 cnds x
    have hs : rsel e100 g100 [] [.sl (cnds.map AV.str) 16, .str x] = [] := hs100 cnds x
    show BodyOk Tryz.prog Γ Tryz.f74 [.str nm, .sl [.str x, .str y] 2, .int .u32 at_] [] (.tup [agI ((brO v [x, y] at_).getD (rbG v x y at_)), .bool (brO v [x, y] at_).isSome]) []
    (intro X hP hΓ hL hfin; refine ⟨_, rfl, ?_⟩; rw [show Tryz.f74.ntmps = 83 from rfl]; rw [show Tryz.f74.results.toList = [.cell 6 42, .tmp 7] from rfl] at hfin; apply holds_of_ex X 400; simp (maxSteps := 1000000) only [push_cast, reduceCtorEq, Nat.reduceAdd, Nat.reduceMul, Nat.reduceSub, Nat.reduceBEq, Nat.reduceGT, Nat.reduceLT, Int.toNat_zero, Nat.reduceLeDiff, Int.reduceEq, Int.reduceLT, Int.reduceLE, hP, hΓ, hL, hfin, String.reduceEq, not_false_eq_true, if_true, if_false, Int.toNat_one, Bool.not_not, hn1, hv, Int.reduceAdd])
    (refine Holds.drawnE (patH []) [1, 2, 3, 5, 6] [] [] true (by rw [hP]; kernel_rfl) (by kernel_rfl) (by kernel_rfl) (by kernel_rfl) (by first | exact .inl rfl | exact .inr fun _ _ h => patH_app _ _ h) (by first | (simp only [push_cast]; done) | (simp only [push_cast, and_true]; omega)) ?_; simp (maxSteps := 1000000) only [↓reduceIte, Option.getD_some, push_cast, reduceCtorEq, Nat.reduceAdd, Nat.reduceMul, Nat.reduceSub, Nat.reduceBEq, Nat.reduceGT, Nat.reduceLT, Int.toNat_zero, Nat.reduceLeDiff, Int.reduceEq, Int.reduceLT, Int.reduceLE, hP, hΓ, hL, hfin, String.reduceEq, not_false_eq_true, if_true, if_false, Int.toNat_one, Bool.not_not, h55, h100, ps, rs, hs])
    refine ⟨by omega, ⟨hc1, hc2⟩, ?_⟩
    have hat2 := hat
    cases hi : ixO cnds x with
    | none =>
      have hf : fnd cnds x = -1 := by rw [fnd, hi]
      have e : brO v [x, y] at_ = none := by simp only [brO, hi]
      have eF : rbG v x y at_ = ⟨3, false, v, -1, 0, 0, 0, 0⟩ := by simp only [rbG, hi]
      rw [e, eF] at hfin
      ((first | with_reducible refine holds_of_ex X 400 _ _ _ ?_ | skip); simp (maxSteps := 1000000) only [push_cast, reduceCtorEq, Nat.reduceAdd, Nat.reduceMul, Nat.reduceSub, Nat.reduceBEq, Nat.reduceGT, Nat.reduceLT, Int.toNat_zero, Nat.reduceLeDiff, Int.reduceEq, Int.reduceLT, Int.reduceLE, hP, hΓ, hL, hfin, String.reduceEq, not_false_eq_true, if_true, if_false, Int.toNat_one, Bool.not_not, hf, Option.getD_none, agI_mk, Option.isSome_none])
      exact Into.one rfl rfl
    | some a =>
      have hf : fnd cnds x = (a : Int) := by rw [fnd, hi]
      have ha0 : decide ((a : Int) < 0) = false := decide_eq_false (by omega)
      cases hr : regO y with
      | some c =>
        have e : brO v [x, y] at_ = some ⟨3, false, v, a, 0, 0, c, 0⟩ := by simp only [brO, hi, hr]
        have hrv := rr_val hr
        rw [e] at hfin
        ((first | with_reducible refine holds_of_ex X 400 _ _ _ ?_ | skip); simp (maxSteps := 1000000) only [push_cast, reduceCtorEq, Nat.reduceAdd, Nat.reduceMul, Nat.reduceSub, Nat.reduceBEq, Nat.reduceGT, Nat.reduceLT, Int.toNat_zero, Nat.reduceLeDiff, Int.reduceEq, Int.reduceLT, Int.reduceLE, hP, hΓ, hL, hfin, String.reduceEq, not_false_eq_true, if_true, if_false, Int.toNat_one, Bool.not_not, hf, ha0, h101, hy0, hr, hrv, Option.getD_some, agI_mk, Option.isSome_some])
        refine ⟨by omega, ?_⟩
        exact Into.one rfl rfl
      | none =>
        cases hro : refO y with
        | none =>
          have e : brO v [x, y] at_ = none := by
            simp only [brO, hi, hr]
            cases hn : numO y with
            | none => rfl
            | some n => have := ref_none hro n hn; simp only; rw [if_neg (by omega)]
          have eF : rbG v x y at_ = ⟨3, false, v, a, 0, 0, 0, 0⟩ := by simp only [rbG, hi, hro]
          rw [e, eF] at hfin
          ((first | with_reducible refine holds_of_ex X 400 _ _ _ ?_ | skip); simp (maxSteps := 1000000) only [push_cast, reduceCtorEq, Nat.reduceAdd, Nat.reduceMul, Nat.reduceSub, Nat.reduceBEq, Nat.reduceGT, Nat.reduceLT, Int.toNat_zero, Nat.reduceLeDiff, Int.reduceEq, Int.reduceLT, Int.reduceLE, hP, hΓ, hL, hfin, String.reduceEq, not_false_eq_true, if_true, if_false, Int.toNat_one, Bool.not_not, hf, ha0, h101, h102, hy0, hr, hro, agI_mk, Option.isSome_none, Option.getD_none])
          refine ⟨by omega, by omega, ?_⟩
          exact Into.one rfl rfl
        | some n =>
          obtain ⟨hn, hnb⟩ := (Go.Asm.ref_is y n).1 hro
          by_cases hb : 0 ≤ n ∧ n < 4294967296
          · have c1 : decide (n < 0) = false := decide_eq_false (by omega)
            have c2 : decide (4294967296 ≤ n) = false := decide_eq_false (by omega)
            have hdb := dN_b n at_
            have w1 : IntKind.i64.wrap (dN n at_) = dN n at_ := wr_i64 _ (by constructor <;> omega)
            by_cases hm : (n - at_ - 4) % 4 = 0
            · have e : brO v [x, y] at_ = some ⟨3, true, v, a, 0, 0, 0, (dN n at_).tdiv 4⟩ := by
                simp only [brO, hi, hr, hn]
                rw [if_pos (by omega), dN_div n at_ hm]; rfl
              have hm2 := (dN_mod n at_).2 hm
              have w2 : IntKind.i64.wrap ((dN n at_).tdiv 4) = (dN n at_).tdiv 4 := by rw [dN_div n at_ hm]; exact wr_i64 _ (by constructor <;> omega)
              rw [e] at hfin
              ((first | with_reducible refine holds_of_ex X 400 _ _ _ ?_ | skip); simp (maxSteps := 1000000) only [push_cast, reduceCtorEq, Nat.reduceAdd, Nat.reduceMul, Nat.reduceSub, Nat.reduceBEq, Nat.reduceGT, Nat.reduceLT, Int.toNat_zero, Nat.reduceLeDiff, Int.reduceEq, Int.reduceLT, Int.reduceLE, hP, hΓ, hL, hfin, String.reduceEq, not_false_eq_true, if_true, if_false, Int.toNat_one, Bool.not_not, hf, ha0, h101, h102, hy0, hr, hro, Option.getD_some, agI_mk, Option.isSome_some, Option.isSome_none, Option.getD_some, c1, c2, dN_is, w1, w2, hm2])
              refine ⟨by omega, by omega, ?_⟩
              exact Into.one rfl rfl
            · have e : brO v [x, y] at_ = none := by
                simp only [brO, hi, hr, hn]
                rw [if_neg (by omega)]
              have hm2 : ¬ (dN n at_).tmod 4 = 0 := fun h => hm ((dN_mod n at_).1 h)
              have eF : rbG v x y at_ = ⟨3, true, v, a, 0, 0, 0, (dN n at_).tdiv 4⟩ := by
                simp only [rbG, hi, hro]; rw [if_pos hb]
              have w2 : IntKind.i64.wrap ((dN n at_).tdiv 4) = (dN n at_).tdiv 4 := by
                have h1 := Int.tdiv_mul_add_tmod (dN n at_) 4
                have h2 := Int.tmod_lt_of_pos (dN n at_) (show (0 : Int) < 4 by decide)
                have h3 : -4 < (dN n at_).tmod 4 := by
                  have := Int.tmod_lt_of_pos (-(dN n at_)) (show (0 : Int) < 4 by decide)
                  rw [Int.neg_tmod] at this; omega
                refine wr_i64 _ ?_
                constructor <;> omega
              rw [e, eF] at hfin
              ((first | with_reducible refine holds_of_ex X 400 _ _ _ ?_ | skip); simp (maxSteps := 1000000) only [push_cast, reduceCtorEq, Nat.reduceAdd, Nat.reduceMul, Nat.reduceSub, Nat.reduceBEq, Nat.reduceGT, Nat.reduceLT, Int.toNat_zero, Nat.reduceLeDiff, Int.reduceEq, Int.reduceLT, Int.reduceLE, hP, hΓ, hL, hfin, String.reduceEq, not_false_eq_true, if_true, if_false, Int.toNat_one, Bool.not_not, hf, ha0, h101, h102, hy0, hr, hro, agI_mk, Option.getD_none, Option.isSome_some, Option.isSome_none, Option.getD_some, c1, c2, dN_is, w1, w2, hm2])
              refine ⟨by omega, by omega, ?_⟩
              exact Into.one rfl rfl
          · have e : brO v [x, y] at_ = none := by
              simp only [brO, hi, hr, hn]
              rw [if_neg (by omega)]
            have c1 : (decide (n < 0) || decide (4294967296 ≤ n)) = true := by
              simp only [Bool.or_eq_true, decide_eq_true_eq]; omega
            have eF : rbG v x y at_ = ⟨3, false, v, a, 0, 0, 0, 0⟩ := by simp only [rbG, hi, hro]; rw [if_neg hb]
            rw [e, eF] at hfin
            ((first | with_reducible refine holds_of_ex X 400 _ _ _ ?_ | skip); simp (maxSteps := 1000000) only [push_cast, reduceCtorEq, Nat.reduceAdd, Nat.reduceMul, Nat.reduceSub, Nat.reduceBEq, Nat.reduceGT, Nat.reduceLT, Int.toNat_zero, Nat.reduceLeDiff, Int.reduceEq, Int.reduceLT, Int.reduceLE, hP, hΓ, hL, hfin, String.reduceEq, not_false_eq_true, if_true, if_false, Int.toNat_one, Bool.not_not, hf, ha0, h101, h102, hy0, hr, hro, agI_mk, Option.getD_none, Option.isSome_some, Option.isSome_none, Option.getD_some, c1])
            refine ⟨by omega, by omega, ?_⟩
            exact Into.one rfl rfl
theorem con74 {Γ : Env} (h : EnvOk Tryz.prog Γ) (h55 : Γ 55 = some S55) (h100 : Γ 100 = some S100) (h101 : Γ 101 = some S101) (h102 : Γ 102 = some S102) : Con Tryz.prog 74 S74 :=
  funS_con h (fn := Tryz.f74) (by kernel_rfl) rfl (by kernel_rfl) inj74 (by first | (intro h; cases h; done) | exact fun _ _ => rfl) fun ⟨nm, l, at_⟩ h => body74 Γ h55 h100 h101 h102 nm l at_ h.1 h.2.1 h.2.2
end Go.Proofs.YtgemeilncdmapaaGreatDoor.asmDone
end
