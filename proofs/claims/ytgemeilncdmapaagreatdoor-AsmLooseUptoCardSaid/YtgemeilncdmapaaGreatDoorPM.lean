/- Of assembly texts: which instructions are right, and their words, by the program. Conditions stand in each. Of assembly texts: which instructions are right, and their words, by the program. Conditions stand in each. Of assembly texts: a number with its sign, by the program. Conditions stand in each. Of assembly texts: the word of an instruction, by the program. Conditions stand in each. Of assembly texts: which instruction a word is, by the program. Conditions stand in each. Of assembly texts: instructions and words, by the document. Conditions stand in each. Of assembly texts: instructions and words, by the document, second part. Conditions stand in each. -/
import Derived.Test.YtgemeilncdmapaaGreatDoorEF
import Derived.Test.YtgemeilncdmapaaGreatDoorTy
import Derived.Test.YtgemeilncdmapaaGreatDoorPL
section
namespace Go.Proofs.YtgemeilncdmapaaGreatDoor.asmDone
open Go Go.Eng Go.Proofs Go.RowKit
open Go.Asm (mayB in16 rightB b2 laid sx In flds rightI laidI decB)
set_option linter.unusedVariables false
set_option linter.unusedSimpArgs false
set_option maxRecDepth 100000
set_option maxHeartbeats 4000000
abbrev Bytes := List UInt8
def e104 : (Int) × (Int) × (Int) → List AV := fun (n, lo, hi) => [.int .i64 n, .int .i64 lo, .int .i64 hi]
def p104 : (Int) × (Int) × (Int) → Prop := fun (n, lo, hi) => True
def r104 : (Int) × (Int) × (Int) → AV := fun (n, lo, hi) => .bool (decide (lo ≤ n) && decide (n ≤ hi))
def g104 : (Int) × (Int) × (Int) → Heap := fun (n, lo, hi) => []
theorem inj104 : ∀ a b, e104 a = e104 b → a = b := by
  rintro ⟨n, lo, hi⟩ ⟨n', lo', hi'⟩ h
  simp only [e104, mi_iff, ms_iff, mb_iff, my_iff, UInt8.toNat_inj, List.cons.injEq, AV.int.injEq, AV.str.injEq, AV.bool.injEq, AV.sl.injEq, AV.agg.injEq, AV.ip.injEq, AV.fn.injEq, AV.ifc.injEq, AV.mpr.injEq, Int.natCast_inj, and_true, true_and] at h
  simp_all only
noncomputable def S104 : FSpec := funS e104 p104 r104 g104 true
theorem ps104 (n : (Int)) (lo : (Int)) (hi : (Int)) : psel e104 p104 [.int .i64 n, .int .i64 lo, .int .i64 hi] = (True) := psel_at inj104 p104 (n, lo, hi)
theorem rs104 (n : (Int)) (lo : (Int)) (hi : (Int)) : rsel e104 r104 .any [.int .i64 n, .int .i64 lo, .int .i64 hi] = (.bool (decide (lo ≤ n) && decide (n ≤ hi))) := rsel_at inj104 r104 .any (n, lo, hi)
theorem hs104 (n : (Int)) (lo : (Int)) (hi : (Int)) : rsel e104 g104 [] [.int .i64 n, .int .i64 lo, .int .i64 hi] = ([]) := rsel_at inj104 g104 [] (n, lo, hi)
attribute [push_cast] S104 ps104 rs104 hs104
theorem body104 (Γ : Env) (n lo hi : Int) : BodyOk Tryz.prog Γ Tryz.f104 [.int .i64 n, .int .i64 lo, .int .i64 hi] [] (.bool (decide (lo ≤ n) && decide (n ≤ hi))) [] := by
  (intro X hP hΓ hL hfin; refine ⟨_, rfl, ?_⟩; rw [show Tryz.f104.ntmps = 15 from rfl]; rw [show Tryz.f104.results.toList = [.tmp 6] from rfl] at hfin; apply holds_of_ex X 400; simp (maxSteps := 1000000) only [push_cast, reduceCtorEq, Nat.reduceAdd, Nat.reduceMul, Nat.reduceSub, Nat.reduceBEq, Nat.reduceGT, Nat.reduceLT, Int.toNat_zero, Nat.reduceLeDiff, Int.reduceEq, Int.reduceLT, Int.reduceLE, hP, hΓ, hL, hfin, String.reduceEq, not_false_eq_true, if_true, Int.toNat_one])
  exact Into.sameA
theorem con104 {Γ : Env} (h : EnvOk Tryz.prog Γ)  : Con Tryz.prog 104 S104 :=
  funS_con h (fn := Tryz.f104) (by kernel_rfl) rfl (by kernel_rfl) inj104 (by first | (intro h; cases h; done) | exact fun _ _ => rfl) fun ⟨n, lo, hi⟩ h => body104 Γ n lo hi
def bitv (b : Bool) (k : Int) : Int := if k = 28 then b2 b * 268435456 else b2 b * 536870912
def e80 : (Bool) × (Int) → List AV := fun (b, k) => [.bool b, .int .i64 k]
def p80 : (Bool) × (Int) → Prop := fun (b, k) => k = 28 ∨ k = 29
def r80 : (Bool) × (Int) → AV := fun (b, k) => .int .u32 (bitv b k)
def g80 : (Bool) × (Int) → Heap := fun (b, k) => []
theorem inj80 : ∀ a b, e80 a = e80 b → a = b := by
  rintro ⟨b, k⟩ ⟨b', k'⟩ h
  simp only [e80, mi_iff, ms_iff, mb_iff, my_iff, UInt8.toNat_inj, List.cons.injEq, AV.int.injEq, AV.str.injEq, AV.bool.injEq, AV.sl.injEq, AV.agg.injEq, AV.ip.injEq, AV.fn.injEq, AV.ifc.injEq, AV.mpr.injEq, Int.natCast_inj, and_true, true_and] at h
  simp_all only
noncomputable def S80 : FSpec := funS e80 p80 r80 g80 true
theorem ps80 (b : (Bool)) (k : (Int)) : psel e80 p80 [.bool b, .int .i64 k] = (k = 28 ∨ k = 29) := psel_at inj80 p80 (b, k)
theorem rs80 (b : (Bool)) (k : (Int)) : rsel e80 r80 .any [.bool b, .int .i64 k] = (.int .u32 (bitv b k)) := rsel_at inj80 r80 .any (b, k)
theorem hs80 (b : (Bool)) (k : (Int)) : rsel e80 g80 [] [.bool b, .int .i64 k] = ([]) := rsel_at inj80 g80 [] (b, k)
attribute [push_cast] S80 ps80 rs80 hs80
theorem body80 (Γ : Env) (b : Bool) (k : Int) (hk : k = 28 ∨ k = 29) : BodyOk Tryz.prog Γ Tryz.f80 [.bool b, .int .i64 k] [] (.int .u32 (bitv b k)) [] := by
  cases b
  · rcases hk with rfl | rfl
    · (intro X hP hΓ hL hfin; refine ⟨_, rfl, ?_⟩; rw [show Tryz.f80.ntmps = 8 from rfl]; rw [show Tryz.f80.results.toList = [.tmp 4] from rfl] at hfin; apply holds_of_ex X 400; simp (maxSteps := 1000000) only [push_cast, reduceCtorEq, Nat.reduceAdd, Nat.reduceMul, Nat.reduceSub, Nat.reduceBEq, Nat.reduceGT, Nat.reduceLT, Int.toNat_zero, Nat.reduceLeDiff, Int.reduceEq, Int.reduceLT, Int.reduceLE, hP, hΓ, hL, hfin, String.reduceEq, not_false_eq_true, if_true, Int.toNat_one])
      exact Into.sameA
    · (intro X hP hΓ hL hfin; refine ⟨_, rfl, ?_⟩; rw [show Tryz.f80.ntmps = 8 from rfl]; rw [show Tryz.f80.results.toList = [.tmp 4] from rfl] at hfin; apply holds_of_ex X 400; simp (maxSteps := 1000000) only [push_cast, reduceCtorEq, Nat.reduceAdd, Nat.reduceMul, Nat.reduceSub, Nat.reduceBEq, Nat.reduceGT, Nat.reduceLT, Int.toNat_zero, Nat.reduceLeDiff, Int.reduceEq, Int.reduceLT, Int.reduceLE, hP, hΓ, hL, hfin, String.reduceEq, not_false_eq_true, if_true, Int.toNat_one])
      exact Into.sameA
  · rcases hk with rfl | rfl
    · (intro X hP hΓ hL hfin; refine ⟨_, rfl, ?_⟩; rw [show Tryz.f80.ntmps = 8 from rfl]; rw [show Tryz.f80.results.toList = [.tmp 4] from rfl] at hfin; apply holds_of_ex X 400; simp (maxSteps := 1000000) only [push_cast, reduceCtorEq, Nat.reduceAdd, Nat.reduceMul, Nat.reduceSub, Nat.reduceBEq, Nat.reduceGT, Nat.reduceLT, Int.toNat_zero, Nat.reduceLeDiff, Int.reduceEq, Int.reduceLT, Int.reduceLE, hP, hΓ, hL, hfin, String.reduceEq, not_false_eq_true, if_true, Int.toNat_one])
      rw [show IntKind.u32.wrap (1 * 2 ^ min (Int.toNat 28) IntKind.u32.bits) = bitv true 28 by decide]
      exact Into.sameA
    · (intro X hP hΓ hL hfin; refine ⟨_, rfl, ?_⟩; rw [show Tryz.f80.ntmps = 8 from rfl]; rw [show Tryz.f80.results.toList = [.tmp 4] from rfl] at hfin; apply holds_of_ex X 400; simp (maxSteps := 1000000) only [push_cast, reduceCtorEq, Nat.reduceAdd, Nat.reduceMul, Nat.reduceSub, Nat.reduceBEq, Nat.reduceGT, Nat.reduceLT, Int.toNat_zero, Nat.reduceLeDiff, Int.reduceEq, Int.reduceLT, Int.reduceLE, hP, hΓ, hL, hfin, String.reduceEq, not_false_eq_true, if_true, Int.toNat_one])
      rw [show IntKind.u32.wrap (1 * 2 ^ min (Int.toNat 29) IntKind.u32.bits) = bitv true 29 by decide]
      exact Into.sameA
theorem con80 {Γ : Env} (h : EnvOk Tryz.prog Γ)  : Con Tryz.prog 80 S80 :=
  funS_con h (fn := Tryz.f80) (by kernel_rfl) rfl (by kernel_rfl) inj80 (by first | (intro h; cases h; done) | exact fun _ _ => rfl) fun ⟨b, k⟩ h => body80 Γ b k h
theorem tab2 : lkTab gTab 2 = some [.int .i64 3, .int .i64 2, .int .i64 2, .int .i64 2, .int .i64 2, .int .i64 2, .int .i64 2, .int .i64 2, .int .i64 3, .int .i64 3, .int .i64 3, .int .i64 2, .int .i64 4, .int .i64 4, .int .i64 4, .int .i64 0] := rfl
def tk (op : Int) : Int := [3, 2, 2, 2, 2, 2, 2, 2, 3, 3, 3, 2, 4, 4, 4, 0].getD op.toNat 0
theorem tkA (op : Int) : ([AV.int .i64 3, .int .i64 2, .int .i64 2, .int .i64 2, .int .i64 2, .int .i64 2, .int .i64 2, .int .i64 2, .int .i64 3, .int .i64 3, .int .i64 3, .int .i64 2, .int .i64 4, .int .i64 4, .int .i64 4, .int .i64 0]).getD op.toNat (.int .i64 0) = .int .i64 (tk op) := by
  rw [show [AV.int .i64 3, .int .i64 2, .int .i64 2, .int .i64 2, .int .i64 2, .int .i64 2, .int .i64 2, .int .i64 2, .int .i64 3, .int .i64 3, .int .i64 3, .int .i64 2, .int .i64 4, .int .i64 4, .int .i64 4, .int .i64 0] = [3, 2, 2, 2, 2, 2, 2, 2, 3, 3, 3, 2, 4, 4, 4, 0].map (AV.int .i64) from rfl, tk]
  simp only [List.getD_eq_getElem?_getD, List.getElem?_map]
  cases ([3, 2, 2, 2, 2, 2, 2, 2, 3, 3, 3, 2, 4, 4, 4, 0] : List Int)[op.toNat]? <;> rfl
theorem tk_all {op : Int} (h : 0 ≤ op ∧ op ≤ 15) : decide (tk op = 4) = decide (12 ≤ op ∧ op ≤ 14) ∧ ibits .and .i64 (tk op) 1 = if op = 0 ∨ op = 8 ∨ op = 9 ∨ op = 10 then 1 else 0 := by
  have key : ∀ i : Fin 16, decide (tk (i.1 : Int) = 4) = decide (12 ≤ (i.1 : Int) ∧ (i.1 : Int) ≤ 14) ∧ ibits .and .i64 (tk (i.1 : Int)) 1 = if (i.1 : Int) = 0 ∨ (i.1 : Int) = 8 ∨ (i.1 : Int) = 9 ∨ (i.1 : Int) = 10 then 1 else 0 := by decide
  have := key ⟨op.toNat, by omega⟩
  simpa only [Int.toNat_of_nonneg h.1] using this
def e105 : (Int) × (Bool) × (Bool) × (Int) × (Int) × (Int) × (Int) × (Int) → List AV := fun (f, u, v, a, b, op, c, n) => [.agg [.int .i64 f, .bool u, .bool v, .int .i64 a, .int .i64 b, .int .i64 op, .int .i64 c, .int .i64 n]]
def p105 : (Int) × (Bool) × (Bool) × (Int) × (Int) × (Int) × (Int) × (Int) → Prop := fun (f, u, v, a, b, op, c, n) => f = 0 ∨ f = 1
def r105 : (Int) × (Bool) × (Bool) × (Int) × (Int) × (Int) × (Int) × (Int) → AV := fun (f, u, v, a, b, op, c, n) => .bool (mayB f u v a b op c)
def g105 : (Int) × (Bool) × (Bool) × (Int) × (Int) × (Int) × (Int) × (Int) → Heap := fun (f, u, v, a, b, op, c, n) => []
theorem inj105 : ∀ a b, e105 a = e105 b → a = b := by
  rintro ⟨f, u, v, a, b, op, c, n⟩ ⟨f', u', v', a', b', op', c', n'⟩ h
  simp only [e105, mi_iff, ms_iff, mb_iff, my_iff, UInt8.toNat_inj, List.cons.injEq, AV.int.injEq, AV.str.injEq, AV.bool.injEq, AV.sl.injEq, AV.agg.injEq, AV.ip.injEq, AV.fn.injEq, AV.ifc.injEq, AV.mpr.injEq, Int.natCast_inj, and_true, true_and] at h
  simp_all only
noncomputable def S105 : FSpec := funS e105 p105 r105 g105 true
theorem ps105 (f : (Int)) (u : (Bool)) (v : (Bool)) (a : (Int)) (b : (Int)) (op : (Int)) (c : (Int)) (n : (Int)) : psel e105 p105 [.agg [.int .i64 f, .bool u, .bool v, .int .i64 a, .int .i64 b, .int .i64 op, .int .i64 c, .int .i64 n]] = (f = 0 ∨ f = 1) := psel_at inj105 p105 (f, u, v, a, b, op, c, n)
theorem rs105 (f : (Int)) (u : (Bool)) (v : (Bool)) (a : (Int)) (b : (Int)) (op : (Int)) (c : (Int)) (n : (Int)) : rsel e105 r105 .any [.agg [.int .i64 f, .bool u, .bool v, .int .i64 a, .int .i64 b, .int .i64 op, .int .i64 c, .int .i64 n]] = (.bool (mayB f u v a b op c)) := rsel_at inj105 r105 .any (f, u, v, a, b, op, c, n)
theorem hs105 (f : (Int)) (u : (Bool)) (v : (Bool)) (a : (Int)) (b : (Int)) (op : (Int)) (c : (Int)) (n : (Int)) : rsel e105 g105 [] [.agg [.int .i64 f, .bool u, .bool v, .int .i64 a, .int .i64 b, .int .i64 op, .int .i64 c, .int .i64 n]] = ([]) := rsel_at inj105 g105 [] (f, u, v, a, b, op, c, n)
attribute [push_cast] S105 ps105 rs105 hs105
theorem body105 (Γ : Env) (h104 : Γ 104 = some S104) (f : Int) (u v : Bool) (a b op c n : Int) (hf : f = 0 ∨ f = 1) : BodyOk Tryz.prog Γ Tryz.f105 [.agg [.int .i64 f, .bool u, .bool v, .int .i64 a, .int .i64 b, .int .i64 op, .int .i64 c, .int .i64 n]] [] (.bool (mayB f u v a b op c)) [] := by
  by_cases h1 : 0 ≤ op ∧ op ≤ 15
  case neg =>
    have h2 : (decide (0 ≤ op) && decide (op ≤ 15)) = false := by simp; omega
    have h3 : mayB f u v a b op c = false := by rw [mayB, if_pos (by omega)]
    rw [h3]
    (intro X hP hΓ hL hfin; refine ⟨_, rfl, ?_⟩; rw [show Tryz.f105.ntmps = 93 from rfl]; rw [show Tryz.f105.results.toList = [.tmp 2] from rfl] at hfin; apply holds_of_ex X 400; simp (maxSteps := 1000000) only [push_cast, reduceCtorEq, Nat.reduceAdd, Nat.reduceMul, Nat.reduceSub, Nat.reduceBEq, Nat.reduceGT, Nat.reduceLT, Int.toNat_zero, Nat.reduceLeDiff, Int.reduceEq, Int.reduceLT, Int.reduceLE, hP, hΓ, hL, hfin, String.reduceEq, not_false_eq_true, if_true, Int.toNat_one, h104, h2, tab2, tkA])
    exact Into.keep0A
  have h2 : (decide (0 ≤ op) && decide (op ≤ 15)) = true := by simp; omega
  have h3 : decide (0 ≤ op) = true := decide_eq_true h1.1
  have h4 : decide (op ≤ 15) = true := decide_eq_true h1.2
  have ho : op < 0 + 1 + 1 + 1 + 1 + 1 + 1 + 1 + 1 + 1 + 1 + 1 + 1 + 1 + 1 + 1 + 1 := by omega
  have ho1 : 0 ≤ op := h1.1
  have ho2 : 0 < 16 - op.toNat := by omega
  obtain ⟨t1, t2⟩ := tk_all h1
  by_cases c12 : 12 ≤ op ∧ op ≤ 14
  · rw [decide_eq_true c12] at t1
    rw [mayB, if_pos (by omega)]
    (intro X hP hΓ hL hfin; refine ⟨_, rfl, ?_⟩; rw [show Tryz.f105.ntmps = 93 from rfl]; rw [show Tryz.f105.results.toList = [.tmp 2] from rfl] at hfin; apply holds_of_ex X 400; simp (maxSteps := 1000000) only [push_cast, reduceCtorEq, Nat.reduceAdd, Nat.reduceMul, Nat.reduceSub, Nat.reduceBEq, Nat.reduceGT, Nat.reduceLT, Int.toNat_zero, Nat.reduceLeDiff, Int.reduceEq, Int.reduceLT, Int.reduceLE, hP, hΓ, hL, hfin, String.reduceEq, not_false_eq_true, if_true, Int.toNat_one, h104, h3, h4, Bool.and_self, tab2, ho, ho1, ho2, tkA, t1])
    exact Into.keep0A
  rw [decide_eq_false c12] at t1
  by_cases c15 : op = 15
  · subst c15
    rw [mayB, if_neg (by omega), if_pos rfl]
    (intro X hP hΓ hL hfin; refine ⟨_, rfl, ?_⟩; rw [show Tryz.f105.ntmps = 93 from rfl]; rw [show Tryz.f105.results.toList = [.tmp 2] from rfl] at hfin; apply holds_of_ex X 400; simp (maxSteps := 1000000) only [push_cast, reduceCtorEq, Nat.reduceAdd, Nat.reduceMul, Nat.reduceSub, Nat.reduceBEq, Nat.reduceGT, Nat.reduceLT, Int.toNat_zero, Nat.reduceLeDiff, Int.reduceEq, Int.reduceLT, Int.reduceLE, hP, hΓ, hL, hfin, String.reduceEq, not_false_eq_true, if_true, Int.toNat_one, h104, h3, h4, Bool.and_self, tab2, ho, ho1, ho2, tkA, t1])
    exact Into.keep0A
  by_cases c0 : op = 0
  · subst c0
    rcases hf with rfl | rfl
    · rw [mayB, if_neg (by omega), if_neg (by omega), if_pos ⟨rfl, rfl⟩]
      by_cases cb : b = 0
      · subst cb
        (intro X hP hΓ hL hfin; refine ⟨_, rfl, ?_⟩; rw [show Tryz.f105.ntmps = 93 from rfl]; rw [show Tryz.f105.results.toList = [.tmp 2] from rfl] at hfin; apply holds_of_ex X 400; simp (maxSteps := 1000000) only [push_cast, reduceCtorEq, Nat.reduceAdd, Nat.reduceMul, Nat.reduceSub, Nat.reduceBEq, Nat.reduceGT, Nat.reduceLT, Int.toNat_zero, Nat.reduceLeDiff, Int.reduceEq, Int.reduceLT, Int.reduceLE, hP, hΓ, hL, hfin, String.reduceEq, not_false_eq_true, if_true, Int.toNat_one, h104, h3, h4, Bool.and_self, tab2, ho, ho1, ho2, tkA, t1, c15])
        rw [show (!v && !u || u && decide (c = 0)) = (u && decide (c = 0) || !u && !v) by cases u <;> cases v <;> simp]
        exact Into.keep0A
      · (intro X hP hΓ hL hfin; refine ⟨_, rfl, ?_⟩; rw [show Tryz.f105.ntmps = 93 from rfl]; rw [show Tryz.f105.results.toList = [.tmp 2] from rfl] at hfin; apply holds_of_ex X 400; simp (maxSteps := 1000000) only [push_cast, reduceCtorEq, Nat.reduceAdd, Nat.reduceMul, Nat.reduceSub, Nat.reduceBEq, Nat.reduceGT, Nat.reduceLT, Int.toNat_zero, Nat.reduceLeDiff, Int.reduceEq, Int.reduceLT, Int.reduceLE, hP, hΓ, hL, hfin, String.reduceEq, not_false_eq_true, if_true, Int.toNat_one, h104, h3, h4, Bool.and_self, tab2, ho, ho1, ho2, tkA, t1, c15, cb])
        exact Into.keep0A
    · rw [mayB, if_neg (by omega), if_neg (by omega), if_neg (by omega), if_pos rfl]
      by_cases cb : b = 0
      · subst cb
        (intro X hP hΓ hL hfin; refine ⟨_, rfl, ?_⟩; rw [show Tryz.f105.ntmps = 93 from rfl]; rw [show Tryz.f105.results.toList = [.tmp 2] from rfl] at hfin; apply holds_of_ex X 400; simp (maxSteps := 1000000) only [push_cast, reduceCtorEq, Nat.reduceAdd, Nat.reduceMul, Nat.reduceSub, Nat.reduceBEq, Nat.reduceGT, Nat.reduceLT, Int.toNat_zero, Nat.reduceLeDiff, Int.reduceEq, Int.reduceLT, Int.reduceLE, hP, hΓ, hL, hfin, String.reduceEq, not_false_eq_true, if_true, Int.toNat_one, h104, h3, h4, Bool.and_self, tab2, ho, ho1, ho2, tkA, t1, c15])
        rw [show (!u || !v) = !(u && v) by cases u <;> cases v <;> rfl]
        exact Into.keep0A
      · (intro X hP hΓ hL hfin; refine ⟨_, rfl, ?_⟩; rw [show Tryz.f105.ntmps = 93 from rfl]; rw [show Tryz.f105.results.toList = [.tmp 2] from rfl] at hfin; apply holds_of_ex X 400; simp (maxSteps := 1000000) only [push_cast, reduceCtorEq, Nat.reduceAdd, Nat.reduceMul, Nat.reduceSub, Nat.reduceBEq, Nat.reduceGT, Nat.reduceLT, Int.toNat_zero, Nat.reduceLeDiff, Int.reduceEq, Int.reduceLT, Int.reduceLE, hP, hΓ, hL, hfin, String.reduceEq, not_false_eq_true, if_true, Int.toNat_one, h104, h3, h4, Bool.and_self, tab2, ho, ho1, ho2, tkA, t1, c15, cb])
        exact Into.keep0A
  rw [mayB, if_neg (by omega), if_neg c15, if_neg (by omega), if_neg c0]
  (intro X hP hΓ hL hfin; refine ⟨_, rfl, ?_⟩; rw [show Tryz.f105.ntmps = 93 from rfl]; rw [show Tryz.f105.results.toList = [.tmp 2] from rfl] at hfin; apply holds_of_ex X 400; simp (maxSteps := 1000000) only [push_cast, reduceCtorEq, Nat.reduceAdd, Nat.reduceMul, Nat.reduceSub, Nat.reduceBEq, Nat.reduceGT, Nat.reduceLT, Int.toNat_zero, Nat.reduceLeDiff, Int.reduceEq, Int.reduceLT, Int.reduceLE, hP, hΓ, hL, hfin, String.reduceEq, not_false_eq_true, if_true, Int.toNat_one, h104, h3, h4, Bool.and_self, tab2, ho, ho1, ho2, tkA, t1, t2, c15, c0])
  have hv : ((!u || !decide ((if op = 8 ∨ op = 9 ∨ op = 10 then (1 : Int) else 0) = 0)) && (!v || decide (f = 1))) = ((decide (op = 8 ∨ op = 9 ∨ op = 10) || !u) && (decide (f = 1) || !v)) := by
    by_cases hc : op = 8 ∨ op = 9 ∨ op = 10
    · rw [if_pos hc, decide_eq_true hc]; cases u <;> cases v <;> simp
    · rw [if_neg hc, decide_eq_false hc]; cases u <;> cases v <;> simp
  rw [hv]
  exact Into.keep0A
theorem con105 {Γ : Env} (h : EnvOk Tryz.prog Γ) (h104 : Γ 104 = some S104) : Con Tryz.prog 105 S105 :=
  funS_con h (fn := Tryz.f105) (by kernel_rfl) rfl (by kernel_rfl) inj105 (by first | (intro h; cases h; done) | exact fun _ _ => rfl) fun ⟨f, u, v, a, b, op, c, n⟩ h => body105 Γ h104 f u v a b op c n h
end Go.Proofs.YtgemeilncdmapaaGreatDoor.asmDone
end
section
namespace Go.Proofs.YtgemeilncdmapaaGreatDoor.asmDone
open Go Go.Eng Go.Proofs Go.RowKit
open Go.Asm (mayB in16 rightB b2 laid sx In flds rightI laidI decB)
set_option linter.unusedVariables false
set_option linter.unusedSimpArgs false
set_option maxRecDepth 100000
set_option maxHeartbeats 4000000
def e79 : (Int) × (Bool) × (Bool) × (Int) × (Int) × (Int) × (Int) × (Int) → List AV := fun (f, u, v, a, b, op, c, n) => [.agg [.int .i64 f, .bool u, .bool v, .int .i64 a, .int .i64 b, .int .i64 op, .int .i64 c, .int .i64 n]]
def p79 : (Int) × (Bool) × (Bool) × (Int) × (Int) × (Int) × (Int) × (Int) → Prop := fun (f, u, v, a, b, op, c, n) => True
def r79 : (Int) × (Bool) × (Bool) × (Int) × (Int) × (Int) × (Int) × (Int) → AV := fun (f, u, v, a, b, op, c, n) => .bool (rightB f u v a b op c n)
def g79 : (Int) × (Bool) × (Bool) × (Int) × (Int) × (Int) × (Int) × (Int) → Heap := fun (f, u, v, a, b, op, c, n) => []
theorem inj79 : ∀ a b, e79 a = e79 b → a = b := by
  rintro ⟨f, u, v, a, b, op, c, n⟩ ⟨f', u', v', a', b', op', c', n'⟩ h
  simp only [e79, mi_iff, ms_iff, mb_iff, my_iff, UInt8.toNat_inj, List.cons.injEq, AV.int.injEq, AV.str.injEq, AV.bool.injEq, AV.sl.injEq, AV.agg.injEq, AV.ip.injEq, AV.fn.injEq, AV.ifc.injEq, AV.mpr.injEq, Int.natCast_inj, and_true, true_and] at h
  simp_all only
noncomputable def S79 : FSpec := funS e79 p79 r79 g79 true
theorem ps79 (f : (Int)) (u : (Bool)) (v : (Bool)) (a : (Int)) (b : (Int)) (op : (Int)) (c : (Int)) (n : (Int)) : psel e79 p79 [.agg [.int .i64 f, .bool u, .bool v, .int .i64 a, .int .i64 b, .int .i64 op, .int .i64 c, .int .i64 n]] = (True) := psel_at inj79 p79 (f, u, v, a, b, op, c, n)
theorem rs79 (f : (Int)) (u : (Bool)) (v : (Bool)) (a : (Int)) (b : (Int)) (op : (Int)) (c : (Int)) (n : (Int)) : rsel e79 r79 .any [.agg [.int .i64 f, .bool u, .bool v, .int .i64 a, .int .i64 b, .int .i64 op, .int .i64 c, .int .i64 n]] = (.bool (rightB f u v a b op c n)) := rsel_at inj79 r79 .any (f, u, v, a, b, op, c, n)
theorem hs79 (f : (Int)) (u : (Bool)) (v : (Bool)) (a : (Int)) (b : (Int)) (op : (Int)) (c : (Int)) (n : (Int)) : rsel e79 g79 [] [.agg [.int .i64 f, .bool u, .bool v, .int .i64 a, .int .i64 b, .int .i64 op, .int .i64 c, .int .i64 n]] = ([]) := rsel_at inj79 g79 [] (f, u, v, a, b, op, c, n)
attribute [push_cast] S79 ps79 rs79 hs79
theorem body79 (Γ : Env) (h104 : Γ 104 = some S104) (h105 : Γ 105 = some S105) (f : Int) (u v : Bool) (a b op c n : Int) : BodyOk Tryz.prog Γ Tryz.f79 [.agg [.int .i64 f, .bool u, .bool v, .int .i64 a, .int .i64 b, .int .i64 op, .int .i64 c, .int .i64 n]] [] (.bool (rightB f u v a b op c n)) [] := by
  cases hr : (in16 a && in16 b && in16 c)
  case false =>
    have e : rightB f u v a b op c n = false := by rw [rightB, hr, Bool.false_and]
    rw [e]
    have hr' : (!(decide (0 ≤ a) && decide (a ≤ 15)) || !(decide (0 ≤ b) && decide (b ≤ 15)) || !(decide (0 ≤ c) && decide (c ≤ 15))) = true := by
      simp only [in16] at hr
      rw [← Bool.not_and, ← Bool.not_and, hr]; rfl
    (intro X hP hΓ hL hfin; refine ⟨_, rfl, ?_⟩; rw [show Tryz.f79.ntmps = 82 from rfl]; rw [show Tryz.f79.results.toList = [.tmp 2] from rfl] at hfin; apply holds_of_ex X 400; simp (maxSteps := 1000000) only [push_cast, reduceCtorEq, Nat.reduceAdd, Nat.reduceMul, Nat.reduceSub, Nat.reduceBEq, Nat.reduceGT, Nat.reduceLT, Int.toNat_zero, Nat.reduceLeDiff, Int.reduceEq, Int.reduceLT, Int.reduceLE, hP, hΓ, hL, hfin, String.reduceEq, not_false_eq_true, if_true, Int.toNat_one, h104, h105, hr'])
    exact Into.keep0A
  have e : rightB f u v a b op c n = (if f = 0 then decide (n = 0) && mayB f u v a b op c
     else if f = 1 then decide (c = 0) && (decide (0 ≤ n) && decide (n ≤ 65535)) && mayB f u v a b op c
     else if f = 2 then decide (c = 0) && decide (op = 0) && (decide (-524288 ≤ n) && decide (n ≤ 524287))
     else if f = 3 then decide (b = 0) && decide (op = 0) && (if u then decide (c = 0) && (decide (-8388608 ≤ n) && decide (n ≤ 8388607)) else decide (n = 0))
     else false) := by rw [rightB, hr, Bool.true_and]
  rw [e]
  have hr' : (!(decide (0 ≤ a) && decide (a ≤ 15)) || !(decide (0 ≤ b) && decide (b ≤ 15)) || !(decide (0 ≤ c) && decide (c ≤ 15))) = false := by
    simp only [in16] at hr
    rw [← Bool.not_and, ← Bool.not_and, hr]; rfl
  by_cases f0 : f = 0
  · subst f0
    rw [if_pos rfl]
    (intro X hP hΓ hL hfin; refine ⟨_, rfl, ?_⟩; rw [show Tryz.f79.ntmps = 82 from rfl]; rw [show Tryz.f79.results.toList = [.tmp 2] from rfl] at hfin; apply holds_of_ex X 400; simp (maxSteps := 1000000) only [push_cast, reduceCtorEq, Nat.reduceAdd, Nat.reduceMul, Nat.reduceSub, Nat.reduceBEq, Nat.reduceGT, Nat.reduceLT, Int.toNat_zero, Nat.reduceLeDiff, Int.reduceEq, Int.reduceLT, Int.reduceLE, hP, hΓ, hL, hfin, String.reduceEq, not_false_eq_true, if_true, Int.toNat_one, h104, h105, hr'])
    exact Into.keep0A
  rw [if_neg f0]
  by_cases f1 : f = 1
  · subst f1
    rw [if_pos rfl]
    (intro X hP hΓ hL hfin; refine ⟨_, rfl, ?_⟩; rw [show Tryz.f79.ntmps = 82 from rfl]; rw [show Tryz.f79.results.toList = [.tmp 2] from rfl] at hfin; apply holds_of_ex X 400; simp (maxSteps := 1000000) only [push_cast, reduceCtorEq, Nat.reduceAdd, Nat.reduceMul, Nat.reduceSub, Nat.reduceBEq, Nat.reduceGT, Nat.reduceLT, Int.toNat_zero, Nat.reduceLeDiff, Int.reduceEq, Int.reduceLT, Int.reduceLE, hP, hΓ, hL, hfin, String.reduceEq, not_false_eq_true, if_true, Int.toNat_one, h104, h105, hr', f0])
    exact Into.keep0A
  rw [if_neg f1]
  by_cases f2 : f = 2
  · subst f2
    rw [if_pos rfl]
    (intro X hP hΓ hL hfin; refine ⟨_, rfl, ?_⟩; rw [show Tryz.f79.ntmps = 82 from rfl]; rw [show Tryz.f79.results.toList = [.tmp 2] from rfl] at hfin; apply holds_of_ex X 400; simp (maxSteps := 1000000) only [push_cast, reduceCtorEq, Nat.reduceAdd, Nat.reduceMul, Nat.reduceSub, Nat.reduceBEq, Nat.reduceGT, Nat.reduceLT, Int.toNat_zero, Nat.reduceLeDiff, Int.reduceEq, Int.reduceLT, Int.reduceLE, hP, hΓ, hL, hfin, String.reduceEq, not_false_eq_true, if_true, Int.toNat_one, h104, h105, hr', f0, f1])
    exact Into.keep0A
  rw [if_neg f2]
  by_cases f3 : f = 3
  · subst f3
    rw [if_pos rfl]
    by_cases bo : b = 0 ∧ op = 0
    case neg =>
      have hb : (!decide (b = 0) || !decide (op = 0)) = true := by
        rw [← Bool.not_and, ← Bool.decide_and, decide_eq_false bo]; rfl
      have e2 : (decide (b = 0) && decide (op = 0)) = false := by rw [← Bool.decide_and, decide_eq_false bo]
      rw [e2, Bool.false_and]
      (intro X hP hΓ hL hfin; refine ⟨_, rfl, ?_⟩; rw [show Tryz.f79.ntmps = 82 from rfl]; rw [show Tryz.f79.results.toList = [.tmp 2] from rfl] at hfin; apply holds_of_ex X 400; simp (maxSteps := 1000000) only [push_cast, reduceCtorEq, Nat.reduceAdd, Nat.reduceMul, Nat.reduceSub, Nat.reduceBEq, Nat.reduceGT, Nat.reduceLT, Int.toNat_zero, Nat.reduceLeDiff, Int.reduceEq, Int.reduceLT, Int.reduceLE, hP, hΓ, hL, hfin, String.reduceEq, not_false_eq_true, if_true, Int.toNat_one, h104, h105, hr', f0, f1, f2, hb])
      exact Into.keep0A
    have hb : (!decide (b = 0) || !decide (op = 0)) = false := by rw [← Bool.not_and, ← Bool.decide_and, decide_eq_true bo]; rfl
    have e2 : (decide (b = 0) && decide (op = 0)) = true := by rw [← Bool.decide_and, decide_eq_true bo]
    rw [e2, Bool.true_and]
    cases u
    · simp only [Bool.false_eq_true, if_false]
      (intro X hP hΓ hL hfin; refine ⟨_, rfl, ?_⟩; rw [show Tryz.f79.ntmps = 82 from rfl]; rw [show Tryz.f79.results.toList = [.tmp 2] from rfl] at hfin; apply holds_of_ex X 400; simp (maxSteps := 1000000) only [push_cast, reduceCtorEq, Nat.reduceAdd, Nat.reduceMul, Nat.reduceSub, Nat.reduceBEq, Nat.reduceGT, Nat.reduceLT, Int.toNat_zero, Nat.reduceLeDiff, Int.reduceEq, Int.reduceLT, Int.reduceLE, hP, hΓ, hL, hfin, String.reduceEq, not_false_eq_true, if_true, Int.toNat_one, h104, h105, hr', f0, f1, f2, hb])
      exact Into.keep0A
    · simp only [if_true]
      (intro X hP hΓ hL hfin; refine ⟨_, rfl, ?_⟩; rw [show Tryz.f79.ntmps = 82 from rfl]; rw [show Tryz.f79.results.toList = [.tmp 2] from rfl] at hfin; apply holds_of_ex X 400; simp (maxSteps := 1000000) only [push_cast, reduceCtorEq, Nat.reduceAdd, Nat.reduceMul, Nat.reduceSub, Nat.reduceBEq, Nat.reduceGT, Nat.reduceLT, Int.toNat_zero, Nat.reduceLeDiff, Int.reduceEq, Int.reduceLT, Int.reduceLE, hP, hΓ, hL, hfin, String.reduceEq, not_false_eq_true, if_true, Int.toNat_one, h104, h105, hr', f0, f1, f2, hb])
      exact Into.keep0A
  rw [if_neg f3]
  (intro X hP hΓ hL hfin; refine ⟨_, rfl, ?_⟩; rw [show Tryz.f79.ntmps = 82 from rfl]; rw [show Tryz.f79.results.toList = [.tmp 2] from rfl] at hfin; apply holds_of_ex X 400; simp (maxSteps := 1000000) only [push_cast, reduceCtorEq, Nat.reduceAdd, Nat.reduceMul, Nat.reduceSub, Nat.reduceBEq, Nat.reduceGT, Nat.reduceLT, Int.toNat_zero, Nat.reduceLeDiff, Int.reduceEq, Int.reduceLT, Int.reduceLE, hP, hΓ, hL, hfin, String.reduceEq, not_false_eq_true, if_true, Int.toNat_one, h104, h105, hr', f0, f1, f2, f3])
  exact Into.keep0A
theorem con79 {Γ : Env} (h : EnvOk Tryz.prog Γ) (h104 : Γ 104 = some S104) (h105 : Γ 105 = some S105) : Con Tryz.prog 79 S79 :=
  funS_con h (fn := Tryz.f79) (by kernel_rfl) rfl (by kernel_rfl) inj79 (by first | (intro h; cases h; done) | exact fun _ _ => rfl) fun ⟨f, u, v, a, b, op, c, n⟩ h => body79 Γ h104 h105 f u v a b op c n
end Go.Proofs.YtgemeilncdmapaaGreatDoor.asmDone
end
section
namespace Go.Proofs.YtgemeilncdmapaaGreatDoor.asmDone
open Go Go.Eng Go.Proofs Go.RowKit
open Go.Asm (mayB in16 rightB b2 laid sx In flds rightI laidI decB)
set_option linter.unusedVariables false
set_option linter.unusedSimpArgs false
set_option maxRecDepth 100000
set_option maxHeartbeats 4000000
theorem i32w (n : Int) (h : 0 ≤ n ∧ n < 4294967296) : IntKind.i32.wrap n = if n < 2147483648 then n else n - 4294967296 := by
  have e : IntKind.i32.wrap n = (n + 2147483648) % 4294967296 - 2147483648 := by simp [IntKind.wrap, IntKind.bits, IntKind.signed]; omega
  rw [e]; split <;> omega
theorem u32w (n : Int) : IntKind.u32.wrap n = n % 4294967296 := by simp [IntKind.wrap, IntKind.bits, IntKind.signed]
theorem sx_is (w p q : Int) (hp : 0 < p) (hpq : p * q = 4294967296) (hq : ∃ c, q = 2 * c) : IntKind.i64.wrap ((IntKind.i32.wrap (IntKind.u32.wrap (w * p))).fdiv p) = sx (w % q) q := by
  have hq0 : 0 < q := by
    rcases Decidable.em (0 < q) with h | h
    · exact h
    · have := Int.mul_nonpos_of_nonneg_of_nonpos (Int.le_of_lt hp) (Int.not_lt.1 h); omega
  have hr0 : 0 ≤ w % q := Int.emod_nonneg _ (by omega)
  have hr1 : w % q < q := Int.emod_lt_of_pos _ hq0
  have e1 : w * p % 4294967296 = p * (w % q) := by rw [← hpq, Int.mul_comm w p, Int.mul_emod_mul_of_pos _ _ hp]
  have b0 : 0 ≤ p * (w % q) := Int.mul_nonneg (Int.le_of_lt hp) hr0
  have b1 : p * (w % q) < 4294967296 := by rw [← hpq]; exact Int.mul_lt_mul_of_pos_left hr1 hp
  have hq1 : q ≤ 4294967296 := by
    have := Int.mul_le_mul_of_nonneg_right (show (1 : Int) ≤ p by omega) (Int.le_of_lt hq0)
    rw [hpq, Int.one_mul] at this; exact this
  rw [u32w, e1, i32w _ ⟨b0, b1⟩, sx]
  obtain ⟨c, rfl⟩ := hq
  have hc : p * c = 2147483648 := by have : p * (2 * c) = 2 * (p * c) := by rw [Int.mul_left_comm]
                                     omega
  by_cases h : w % (2 * c) < c
  · have h1 : p * (w % (2 * c)) < 2147483648 := by rw [← hc]; exact Int.mul_lt_mul_of_pos_left h hp
    rw [if_pos h1, if_neg (by omega), Int.fdiv_eq_ediv_of_nonneg _ (Int.le_of_lt hp), Int.mul_ediv_cancel_left _ (by omega)]
    exact wrap_i64 _ (by omega)
  · have h1 : ¬ p * (w % (2 * c)) < 2147483648 := by rw [← hc]; exact Int.not_lt.2 (Int.mul_le_mul_of_nonneg_left (by omega) (Int.le_of_lt hp))
    rw [if_neg h1, if_pos (by omega), ← hpq, ← Int.mul_sub, Int.fdiv_eq_ediv_of_nonneg _ (Int.le_of_lt hp), Int.mul_ediv_cancel_left _ (by omega)]
    exact wrap_i64 _ (by omega)
def e44 : (Int) × (Int) → List AV := fun (w, k) => [.int .u32 w, .int .i64 k]
def p44 : (Int) × (Int) → Prop := fun (w, k) => (0 ≤ w ∧ w < 4294967296) ∧ (k = 20 ∨ k = 24)
def r44 : (Int) × (Int) → AV := fun (w, k) => .int .i64 (if k = 20 then sx (w % 1048576) 1048576 else sx (w % 16777216) 16777216)
def g44 : (Int) × (Int) → Heap := fun (w, k) => []
theorem inj44 : ∀ a b, e44 a = e44 b → a = b := by
  rintro ⟨w, k⟩ ⟨w', k'⟩ h
  simp only [e44, mi_iff, ms_iff, mb_iff, my_iff, UInt8.toNat_inj, List.cons.injEq, AV.int.injEq, AV.str.injEq, AV.bool.injEq, AV.sl.injEq, AV.agg.injEq, AV.ip.injEq, AV.fn.injEq, AV.ifc.injEq, AV.mpr.injEq, Int.natCast_inj, and_true, true_and] at h
  simp_all only
noncomputable def S44 : FSpec := funS e44 p44 r44 g44 true
theorem ps44 (w : (Int)) (k : (Int)) : psel e44 p44 [.int .u32 w, .int .i64 k] = ((0 ≤ w ∧ w < 4294967296) ∧ (k = 20 ∨ k = 24)) := psel_at inj44 p44 (w, k)
theorem rs44 (w : (Int)) (k : (Int)) : rsel e44 r44 .any [.int .u32 w, .int .i64 k] = (.int .i64 (if k = 20 then sx (w % 1048576) 1048576 else sx (w % 16777216) 16777216)) := rsel_at inj44 r44 .any (w, k)
theorem hs44 (w : (Int)) (k : (Int)) : rsel e44 g44 [] [.int .u32 w, .int .i64 k] = ([]) := rsel_at inj44 g44 [] (w, k)
attribute [push_cast] S44 ps44 rs44 hs44
theorem body44 (Γ : Env) (w k : Int) (hw : 0 ≤ w ∧ w < 4294967296) (hk : k = 20 ∨ k = 24) : BodyOk Tryz.prog Γ Tryz.f44 [.int .u32 w, .int .i64 k] [] (.int .i64 (if k = 20 then sx (w % 1048576) 1048576 else sx (w % 16777216) 16777216)) [] := by
  rcases hk with rfl | rfl
  · (intro X hP hΓ hL hfin; refine ⟨_, rfl, ?_⟩; rw [show Tryz.f44.ntmps = 20 from rfl]; rw [show Tryz.f44.results.toList = [.tmp 4] from rfl] at hfin; apply holds_of_ex X 400; simp (maxSteps := 1000000) only [push_cast, reduceCtorEq, Nat.reduceAdd, Nat.reduceMul, Nat.reduceSub, Nat.reduceBEq, Nat.reduceGT, Nat.reduceLT, Int.toNat_zero, Nat.reduceLeDiff, Int.reduceEq, Int.reduceLT, Int.reduceLE, hP, hΓ, hL, hfin, String.reduceEq, not_false_eq_true, if_true, Int.toNat_one])
    rw [show IntKind.i64.wrap (32 - 20) = 12 by decide, show (2 : Int) ^ min (Int.toNat 12) IntKind.u32.bits = 4096 by decide, show (2 : Int) ^ min (Int.toNat 12) IntKind.i32.bits = 4096 by decide, sx_is w 4096 1048576 (by decide) (by decide) ⟨524288, by decide⟩]
    refine ⟨by decide, by decide, ?_⟩
    exact Into.sameA
  · (intro X hP hΓ hL hfin; refine ⟨_, rfl, ?_⟩; rw [show Tryz.f44.ntmps = 20 from rfl]; rw [show Tryz.f44.results.toList = [.tmp 4] from rfl] at hfin; apply holds_of_ex X 400; simp (maxSteps := 1000000) only [push_cast, reduceCtorEq, Nat.reduceAdd, Nat.reduceMul, Nat.reduceSub, Nat.reduceBEq, Nat.reduceGT, Nat.reduceLT, Int.toNat_zero, Nat.reduceLeDiff, Int.reduceEq, Int.reduceLT, Int.reduceLE, hP, hΓ, hL, hfin, String.reduceEq, not_false_eq_true, if_true, Int.toNat_one])
    rw [show IntKind.i64.wrap (32 - 24) = 8 by decide, show (2 : Int) ^ min (Int.toNat 8) IntKind.u32.bits = 256 by decide, show (2 : Int) ^ min (Int.toNat 8) IntKind.i32.bits = 256 by decide, sx_is w 256 16777216 (by decide) (by decide) ⟨8388608, by decide⟩]
    refine ⟨by decide, by decide, ?_⟩
    exact Into.sameA
theorem con44 {Γ : Env} (h : EnvOk Tryz.prog Γ)  : Con Tryz.prog 44 S44 :=
  funS_con h (fn := Tryz.f44) (by kernel_rfl) rfl (by kernel_rfl) inj44 (by first | (intro h; cases h; done) | exact fun _ _ => rfl) fun ⟨w, k⟩ h => body44 Γ w k h.1 h.2
end Go.Proofs.YtgemeilncdmapaaGreatDoor.asmDone
end
section
namespace Go.Proofs.YtgemeilncdmapaaGreatDoor.asmDone
open Go Go.Eng Go.Proofs Go.RowKit
open Go.Asm (mayB in16 rightB b2 laid sx In flds rightI laidI decB laid_lo)
set_option linter.unusedVariables false
set_option linter.unusedSimpArgs false
set_option maxRecDepth 100000
set_option maxHeartbeats 4000000
theorem ior32 (x y : Nat) (hx : x < 2 ^ 32) (hy : y < 2 ^ 32) : ibits .or .u32 ↑x ↑y = ((x ||| y : Nat) : Int) := by
  have : x ||| y < 2 ^ 32 := Nat.or_lt_two_pow hx hy
  simp only [ibits, BitVec.ofInt_natCast, BitVec.toNat_or, BitVec.toNat_ofNat]
  rw [Nat.mod_eq_of_lt (by simpa [IntKind.bits] using hx), Nat.mod_eq_of_lt (by simpa [IntKind.bits] using hy)]
  simp [IntKind.wrap, IntKind.bits, IntKind.signed]; omega
theorem iand32 (x y : Nat) (hx : x < 2 ^ 32) (hy : y < 2 ^ 32) : ibits .and .u32 ↑x ↑y = ((x &&& y : Nat) : Int) := by
  have : x &&& y < 2 ^ 32 := Nat.lt_of_le_of_lt Nat.and_le_left hx
  simp only [ibits, BitVec.ofInt_natCast, BitVec.toNat_and, BitVec.toNat_ofNat]
  rw [Nat.mod_eq_of_lt (by simpa [IntKind.bits] using hx), Nat.mod_eq_of_lt (by simpa [IntKind.bits] using hy)]
  simp [IntKind.wrap, IntKind.bits, IntKind.signed]; omega
/-- fields that do not meet -/
theorem or_add (k : Nat) {x y : Int} (hx : 0 ≤ x ∧ x < 4294967296) (hy : 0 ≤ y ∧ y < 4294967296) (hk : y < ((2 ^ k : Nat) : Int)) (hd : x % ((2 ^ k : Nat) : Int) = 0) : ibits .or .u32 x y = x + y := by
  obtain ⟨x, rfl⟩ := Int.eq_ofNat_of_zero_le hx.1
  obtain ⟨y, rfl⟩ := Int.eq_ofNat_of_zero_le hy.1
  have hd' : x % 2 ^ k = 0 := by exact_mod_cast hd
  have hk' : y < 2 ^ k := by exact_mod_cast hk
  have hm : x = 2 ^ k * (x / 2 ^ k) := by have := Nat.div_add_mod x (2 ^ k); omega
  rw [ior32 x y (by omega) (by omega), hm, ← Nat.two_pow_add_eq_or_of_lt hk']
  simp
theorem and_mod (k : Nat) (hk : k ≤ 32) {x : Int} (hx : 0 ≤ x ∧ x < 4294967296) : ibits .and .u32 x ((2 ^ k - 1 : Nat) : Int) = x % ((2 ^ k : Nat) : Int) := by
  obtain ⟨x, rfl⟩ := Int.eq_ofNat_of_zero_le hx.1
  have h2 : 2 ^ k ≤ 2 ^ 32 := Nat.pow_le_pow_right (by decide) hk
  have h1 : 0 < 2 ^ k := Nat.two_pow_pos k
  rw [iand32 x _ (by omega) (by omega), Nat.and_two_pow_sub_one_eq_mod]
  simp
def e45 : (Int) × (Bool) × (Bool) × (Int) × (Int) × (Int) × (Int) × (Int) → List AV := fun (f, u, v, a, b, op, c, n) => [.agg [.int .i64 f, .bool u, .bool v, .int .i64 a, .int .i64 b, .int .i64 op, .int .i64 c, .int .i64 n]]
def p45 : (Int) × (Bool) × (Bool) × (Int) × (Int) × (Int) × (Int) × (Int) → Prop := fun (f, u, v, a, b, op, c, n) => True
def r45 : (Int) × (Bool) × (Bool) × (Int) × (Int) × (Int) × (Int) × (Int) → AV := fun (f, u, v, a, b, op, c, n) => .tup [.int .u32 (if rightB f u v a b op c n then laid f u v a b op c n else 0), .int .i64 (if rightB f u v a b op c n then 0 else 20)]
def g45 : (Int) × (Bool) × (Bool) × (Int) × (Int) × (Int) × (Int) × (Int) → Heap := fun (f, u, v, a, b, op, c, n) => []
theorem inj45 : ∀ a b, e45 a = e45 b → a = b := by
  rintro ⟨f, u, v, a, b, op, c, n⟩ ⟨f', u', v', a', b', op', c', n'⟩ h
  simp only [e45, mi_iff, ms_iff, mb_iff, my_iff, UInt8.toNat_inj, List.cons.injEq, AV.int.injEq, AV.str.injEq, AV.bool.injEq, AV.sl.injEq, AV.agg.injEq, AV.ip.injEq, AV.fn.injEq, AV.ifc.injEq, AV.mpr.injEq, Int.natCast_inj, and_true, true_and] at h
  simp_all only
noncomputable def S45 : FSpec := funS e45 p45 r45 g45 true
theorem ps45 (f : (Int)) (u : (Bool)) (v : (Bool)) (a : (Int)) (b : (Int)) (op : (Int)) (c : (Int)) (n : (Int)) : psel e45 p45 [.agg [.int .i64 f, .bool u, .bool v, .int .i64 a, .int .i64 b, .int .i64 op, .int .i64 c, .int .i64 n]] = (True) := psel_at inj45 p45 (f, u, v, a, b, op, c, n)
theorem rs45 (f : (Int)) (u : (Bool)) (v : (Bool)) (a : (Int)) (b : (Int)) (op : (Int)) (c : (Int)) (n : (Int)) : rsel e45 r45 .any [.agg [.int .i64 f, .bool u, .bool v, .int .i64 a, .int .i64 b, .int .i64 op, .int .i64 c, .int .i64 n]] = (.tup [.int .u32 (if rightB f u v a b op c n then laid f u v a b op c n else 0), .int .i64 (if rightB f u v a b op c n then 0 else 20)]) := rsel_at inj45 r45 .any (f, u, v, a, b, op, c, n)
theorem hs45 (f : (Int)) (u : (Bool)) (v : (Bool)) (a : (Int)) (b : (Int)) (op : (Int)) (c : (Int)) (n : (Int)) : rsel e45 g45 [] [.agg [.int .i64 f, .bool u, .bool v, .int .i64 a, .int .i64 b, .int .i64 op, .int .i64 c, .int .i64 n]] = ([]) := rsel_at inj45 g45 [] (f, u, v, a, b, op, c, n)
attribute [push_cast] S45 ps45 rs45 hs45
theorem bitv9 (b : Bool) : bitv b 29 = Asm.b2 b * 536870912 := rfl
theorem bitv8 (b : Bool) : bitv b 28 = Asm.b2 b * 268435456 := rfl
theorem pw30 : (2 : Int) ^ min (Int.toNat 30) IntKind.u32.bits = 1073741824 := by decide
theorem pw24 : (2 : Int) ^ min (Int.toNat 24) IntKind.u32.bits = 16777216 := by decide
theorem pw20 : (2 : Int) ^ min (Int.toNat 20) IntKind.u32.bits = 1048576 := by decide
theorem pw16 : (2 : Int) ^ min (Int.toNat 16) IntKind.u32.bits = 65536 := by decide
theorem u32i (n : Int) (h : 0 ≤ n ∧ n < 4294967296) : IntKind.u32.wrap n = n := by rw [u32w]; omega
theorem b2r (b : Bool) : 0 ≤ Asm.b2 b ∧ Asm.b2 b ≤ 1 := by cases b <;> simp [Asm.b2]
theorem body45 (Γ : Env) (h79 : Γ 79 = some S79) (h80 : Γ 80 = some S80) (f : Int) (u v : Bool) (a b op c n : Int) : BodyOk Tryz.prog Γ Tryz.f45 [.agg [.int .i64 f, .bool u, .bool v, .int .i64 a, .int .i64 b, .int .i64 op, .int .i64 c, .int .i64 n]] [] (.tup [.int .u32 (if rightB f u v a b op c n then laid f u v a b op c n else 0), .int .i64 (if rightB f u v a b op c n then 0 else 20)]) [] := by
  (intro X hP hΓ hL hfin; refine ⟨_, rfl, ?_⟩; rw [show Tryz.f45.ntmps = 68 from rfl]; rw [show Tryz.f45.results.toList = [.tmp 2, .tmp 3] from rfl] at hfin; apply holds_of_ex X 400; simp (maxSteps := 1000000) only [push_cast, reduceCtorEq, Nat.reduceAdd, Nat.reduceMul, Nat.reduceSub, Nat.reduceBEq, Nat.reduceGT, Nat.reduceLT, Int.toNat_zero, Nat.reduceLeDiff, Int.reduceEq, Int.reduceLT, Int.reduceLE, hP, hΓ, hL, hfin, String.reduceEq, not_false_eq_true, if_true, Int.toNat_one, h79])
  ((with_reducible refine exB_split (fun h => ?_) (fun h => ?_)) <;> (try simp only [decide_eq_true_eq, decide_eq_false_iff_not, Bool.and_eq_true, Bool.or_eq_true, Bool.and_eq_false_iff, Bool.or_eq_false_iff, Bool.not_eq_true', Bool.not_eq_false', Bool.not_eq_true, Bool.not_eq_false, Int.not_lt, Int.not_le, beq_iff_eq, beq_eq_false_iff_ne, ne_eq] at h))
  · obtain ⟨rfl, rfl, rfl, rfl, rfl, rfl, rfl, rfl⟩ := h
    ((first | with_reducible refine holds_of_ex X 400 _ _ _ ?_ | skip); simp (maxSteps := 1000000) only [push_cast, reduceCtorEq, Nat.reduceAdd, Nat.reduceMul, Nat.reduceSub, Nat.reduceBEq, Nat.reduceGT, Nat.reduceLT, Int.toNat_zero, Nat.reduceLeDiff, Int.reduceEq, Int.reduceLT, Int.reduceLE, hP, hΓ, hL, hfin, String.reduceEq, not_false_eq_true, if_true, Int.toNat_one])
    rw [show (if rightB 0 false false 0 0 0 0 0 = true then laid 0 false false 0 0 0 0 0 else 0) = 0 by decide, show (if rightB 0 false false 0 0 0 0 0 = true then (0 : Int) else 20) = 0 by decide]
    exact Into.keep0A
  ((first | with_reducible refine holds_of_ex X 400 _ _ _ ?_ | skip); simp (maxSteps := 1000000) only [push_cast, reduceCtorEq, Nat.reduceAdd, Nat.reduceMul, Nat.reduceSub, Nat.reduceBEq, Nat.reduceGT, Nat.reduceLT, Int.toNat_zero, Nat.reduceLeDiff, Int.reduceEq, Int.reduceLT, Int.reduceLE, hP, hΓ, hL, hfin, String.reduceEq, not_false_eq_true, if_true, Int.toNat_one, h79])
  cases hr : rightB f u v a b op c n
  · ((first | with_reducible refine holds_of_ex X 400 _ _ _ ?_ | skip); simp (maxSteps := 1000000) only [push_cast, reduceCtorEq, Nat.reduceAdd, Nat.reduceMul, Nat.reduceSub, Nat.reduceBEq, Nat.reduceGT, Nat.reduceLT, Int.toNat_zero, Nat.reduceLeDiff, Int.reduceEq, Int.reduceLT, Int.reduceLE, hP, hΓ, hL, hfin, String.reduceEq, not_false_eq_true, if_true, Int.toNat_one, hr])
    exact Into.keep0A
  ((first | with_reducible refine holds_of_ex X 400 _ _ _ ?_ | skip); simp (maxSteps := 1000000) only [push_cast, reduceCtorEq, Nat.reduceAdd, Nat.reduceMul, Nat.reduceSub, Nat.reduceBEq, Nat.reduceGT, Nat.reduceLT, Int.toNat_zero, Nat.reduceLeDiff, Int.reduceEq, Int.reduceLT, Int.reduceLE, hP, hΓ, hL, hfin, String.reduceEq, not_false_eq_true, if_true, Int.toNat_one, hr])
  have hl := laid_lo hr
  have hr' := hr
  simp only [rightB, in16, Bool.and_eq_true, decide_eq_true_eq] at hr'
  obtain ⟨⟨⟨ha, hb⟩, hc⟩, hq⟩ := hr'
  have hf : 0 ≤ f ∧ f ≤ 3 := by
    by_cases f0 : f = 0
    · omega
    by_cases f1 : f = 1
    · omega
    by_cases f2 : f = 2
    · omega
    by_cases f3 : f = 3
    · omega
    rw [if_neg f0, if_neg f1, if_neg f2, if_neg f3] at hq; cases hq
  have hop : 0 ≤ op ∧ op ≤ 15 := by
    by_cases f0 : f = 0
    · rw [if_pos f0, Bool.and_eq_true] at hq; exact Go.Asm.may_op hq.2
    by_cases f1 : f = 1
    · rw [if_neg f0, if_pos f1, Bool.and_eq_true] at hq; exact Go.Asm.may_op hq.2
    by_cases f2 : f = 2
    · rw [if_neg f0, if_neg f1, if_pos f2] at hq; simp only [Bool.and_eq_true, decide_eq_true_eq] at hq; omega
    by_cases f3 : f = 3
    · rw [if_neg f0, if_neg f1, if_neg f2, if_pos f3] at hq; simp only [Bool.and_eq_true, decide_eq_true_eq] at hq; omega
    omega
  have hu := b2r u
  have hv := b2r v
  have w1 : IntKind.u32.wrap f = f := u32i f (by omega)
  have w2 : IntKind.u32.wrap (f * 1073741824) = f * 1073741824 := u32i _ (by omega)
  have w3 : IntKind.u32.wrap a = a := u32i a (by omega)
  have w4 : IntKind.u32.wrap (a * 16777216) = a * 16777216 := u32i _ (by omega)
  have w5 : IntKind.u32.wrap b = b := u32i b (by omega)
  have w6 : IntKind.u32.wrap (b * 1048576) = b * 1048576 := u32i _ (by omega)
  have w7 : IntKind.u32.wrap op = op := u32i op (by omega)
  have w8 : IntKind.u32.wrap (op * 65536) = op * 65536 := u32i _ (by omega)
  have w9 : IntKind.u32.wrap c = c := u32i c (by omega)
  have o1 : ibits .or .u32 (f * 1073741824) (Asm.b2 u * 536870912) = f * 1073741824 + Asm.b2 u * 536870912 := or_add 30 (by omega) (by omega) (by omega) (by omega)
  have o2 : ibits .or .u32 (f * 1073741824 + Asm.b2 u * 536870912) (Asm.b2 v * 268435456) = f * 1073741824 + Asm.b2 u * 536870912 + Asm.b2 v * 268435456 := or_add 29 (by omega) (by omega) (by omega) (by omega)
  have o3 : ibits .or .u32 (f * 1073741824 + Asm.b2 u * 536870912 + Asm.b2 v * 268435456) (a * 16777216) = f * 1073741824 + Asm.b2 u * 536870912 + Asm.b2 v * 268435456 + a * 16777216 := or_add 28 (by omega) (by omega) (by omega) (by omega)
  generalize hz : f * 1073741824 + Asm.b2 u * 536870912 + Asm.b2 v * 268435456 + a * 16777216 = z at *
  have hz1 : z % 16777216 = 0 ∧ 0 ≤ z ∧ z ≤ 4278190080 := by omega
  have o4 : ibits .or .u32 z (b * 1048576) = z + b * 1048576 := or_add 24 (by omega) (by omega) (by omega) (by omega)
  have o5 : ibits .or .u32 (z + b * 1048576) (op * 65536) = z + b * 1048576 + op * 65536 := or_add 20 (by omega) (by omega) (by omega) (by omega)
  have o6 : ibits .or .u32 (z + b * 1048576 + op * 65536) c = z + b * 1048576 + op * 65536 + c := or_add 16 (by omega) (by omega) (by omega) (by omega)
  (refine Holds.drawnQ (by rw [hP]; kernel_rfl) (by kernel_rfl) ?_; simp (maxSteps := 1000000) only [push_cast, reduceCtorEq, Nat.reduceAdd, Nat.reduceMul, Nat.reduceSub, Nat.reduceBEq, Nat.reduceGT, Nat.reduceLT, Int.toNat_zero, Nat.reduceLeDiff, Int.reduceEq, Int.reduceLT, Int.reduceLE, hP, hΓ, hL, hfin, String.reduceEq, not_false_eq_true, if_true, Int.toNat_one, h80, bitv9, bitv8, pw30, pw24, pw20, pw16, w1, w2, w3, w4, w5, w6, w7, w8, w9, o1, o2, o3, o4, o5, o6, true_or, or_true])
  by_cases f1 : f = 1
  · rw [if_neg (by omega), if_pos f1] at hq
    simp only [Bool.and_eq_true, decide_eq_true_eq] at hq
    have w10 : IntKind.u32.wrap n = n := u32i n (by omega)
    have o7 : ibits .or .u32 (z + b * 1048576 + op * 65536 + c) n = laid f u v a b op c n := by
      rw [or_add 16 (by omega) (by omega) (by omega) (by omega), laid, hz, if_pos (by omega)]; omega
    ((first | with_reducible refine holds_of_ex X 400 _ _ _ ?_ | skip); simp (maxSteps := 1000000) only [push_cast, reduceCtorEq, Nat.reduceAdd, Nat.reduceMul, Nat.reduceSub, Nat.reduceBEq, Nat.reduceGT, Nat.reduceLT, Int.toNat_zero, Nat.reduceLeDiff, Int.reduceEq, Int.reduceLT, Int.reduceLE, hP, hΓ, hL, hfin, String.reduceEq, not_false_eq_true, if_true, Int.toNat_one, f1, w10, o7])
    rw [f1] at hr
    rw [if_pos hr, if_pos hr]
    exact Into.keep0A
  by_cases f2 : f = 2
  · rw [if_neg (by omega), if_neg (by omega), if_pos f2] at hq
    simp only [Bool.and_eq_true, decide_eq_true_eq] at hq
    have w10 : ibits .and .u32 (IntKind.u32.wrap n) 1048575 = n % 1048576 := by
      rw [u32w, show (1048575 : Int) = ((2 ^ 20 - 1 : Nat) : Int) by decide, and_mod 20 (by decide) (by omega)]; omega
    have o7 : ibits .or .u32 (z + b * 1048576 + op * 65536 + c) (n % 1048576) = laid f u v a b op c n := by
      rw [or_add 20 (by omega) (by omega) (by omega) (by omega), laid, hz, if_neg (by omega), if_pos f2]; omega
    ((first | with_reducible refine holds_of_ex X 400 _ _ _ ?_ | skip); simp (maxSteps := 1000000) only [push_cast, reduceCtorEq, Nat.reduceAdd, Nat.reduceMul, Nat.reduceSub, Nat.reduceBEq, Nat.reduceGT, Nat.reduceLT, Int.toNat_zero, Nat.reduceLeDiff, Int.reduceEq, Int.reduceLT, Int.reduceLE, hP, hΓ, hL, hfin, String.reduceEq, not_false_eq_true, if_true, Int.toNat_one, f1, f2, w10, o7])
    rw [f2] at hr
    rw [if_pos hr, if_pos hr]
    exact Into.keep0A
  by_cases f3 : f = 3
  · rw [if_neg (by omega), if_neg (by omega), if_neg f2, if_pos f3] at hq
    simp only [Bool.and_eq_true, decide_eq_true_eq] at hq
    have w10 : ibits .and .u32 (IntKind.u32.wrap n) 16777215 = n % 16777216 := by
      rw [u32w, show (16777215 : Int) = ((2 ^ 24 - 1 : Nat) : Int) by decide, and_mod 24 (by decide) (by omega)]; omega
    have o7 : ibits .or .u32 (z + b * 1048576 + op * 65536 + c) (n % 16777216) = laid f u v a b op c n := by
      cases u
      · simp only [Bool.false_eq_true, if_false, decide_eq_true_eq] at hq
        obtain ⟨_, rfl⟩ := hq
        rw [or_add 0 (by omega) (by omega) (by omega) (by omega), laid, hz, if_neg (by omega), if_neg f2]; omega
      · simp only [if_true, Bool.and_eq_true, decide_eq_true_eq] at hq
        rw [or_add 24 (by omega) (by omega) (by omega) (by omega), laid, hz, if_neg (by omega), if_neg f2]; omega
    ((first | with_reducible refine holds_of_ex X 400 _ _ _ ?_ | skip); simp (maxSteps := 1000000) only [push_cast, reduceCtorEq, Nat.reduceAdd, Nat.reduceMul, Nat.reduceSub, Nat.reduceBEq, Nat.reduceGT, Nat.reduceLT, Int.toNat_zero, Nat.reduceLeDiff, Int.reduceEq, Int.reduceLT, Int.reduceLE, hP, hΓ, hL, hfin, String.reduceEq, not_false_eq_true, if_true, Int.toNat_one, f1, f2, f3, w10, o7])
    rw [f3] at hr
    rw [if_pos hr, if_pos hr]
    exact Into.keep0A
  have f0 : f = 0 := by omega
  rw [if_pos f0] at hq
  simp only [Bool.and_eq_true, decide_eq_true_eq] at hq
  have o7 : z + b * 1048576 + op * 65536 + c = laid f u v a b op c n := by
    rw [laid, hz, if_pos (by omega)]; omega
  ((first | with_reducible refine holds_of_ex X 400 _ _ _ ?_ | skip); simp (maxSteps := 1000000) only [push_cast, reduceCtorEq, Nat.reduceAdd, Nat.reduceMul, Nat.reduceSub, Nat.reduceBEq, Nat.reduceGT, Nat.reduceLT, Int.toNat_zero, Nat.reduceLeDiff, Int.reduceEq, Int.reduceLT, Int.reduceLE, hP, hΓ, hL, hfin, String.reduceEq, not_false_eq_true, if_true, Int.toNat_one, f1, f2, f3, o7])
  rw [if_pos hr, if_pos hr]
  exact Into.keep0A
theorem con45 {Γ : Env} (h : EnvOk Tryz.prog Γ) (h79 : Γ 79 = some S79) (h80 : Γ 80 = some S80) : Con Tryz.prog 45 S45 :=
  funS_con h (fn := Tryz.f45) (by kernel_rfl) rfl (by kernel_rfl) inj45 (by first | (intro h; cases h; done) | exact fun _ _ => rfl) fun ⟨f, u, v, a, b, op, c, n⟩ h => body45 Γ h79 h80 f u v a b op c n
end Go.Proofs.YtgemeilncdmapaaGreatDoor.asmDone
end
section
namespace Go.Proofs.YtgemeilncdmapaaGreatDoor.asmDone
open Go Go.Eng Go.Proofs Go.RowKit
open Go.Asm (mayB in16 rightB b2 laid sx In flds rightI laidI decB laid_lo)
set_option linter.unusedVariables false
set_option linter.unusedSimpArgs false
set_option maxRecDepth 100000
set_option maxHeartbeats 4000000
def agI (i : In) : AV := .agg [.int .i64 i.f, .bool i.u, .bool i.v, .int .i64 i.a, .int .i64 i.b, .int .i64 i.op, .int .i64 i.c, .int .i64 i.n]
theorem agI_mk (f : Int) (u v : Bool) (a b op c n : Int) : agI ⟨f, u, v, a, b, op, c, n⟩ = .agg [.int .i64 f, .bool u, .bool v, .int .i64 a, .int .i64 b, .int .i64 op, .int .i64 c, .int .i64 n] := rfl
def z0 : In := ⟨0, false, false, 0, 0, 0, 0, 0⟩
theorem shr (w : Int) {p q : Int} (hp : p = q) (h : 0 ≤ q) : w.fdiv p = w / q := by rw [hp]; exact Int.fdiv_eq_ediv_of_nonneg _ h
theorem pw29 : (2 : Int) ^ min (Int.toNat 29) IntKind.u32.bits = 536870912 := by decide
theorem pw28 : (2 : Int) ^ min (Int.toNat 28) IntKind.u32.bits = 268435456 := by decide
theorem and1 {x : Int} (h : 0 ≤ x ∧ x < 4294967296) : ibits .and .u32 x 1 = x % 2 := by simpa using and_mod 1 (by decide) h
theorem and15 {x : Int} (h : 0 ≤ x ∧ x < 4294967296) : ibits .and .u32 x 15 = x % 16 := by simpa using and_mod 4 (by decide) h
theorem and16 {x : Int} (h : 0 ≤ x ∧ x < 4294967296) : ibits .and .u32 x 65535 = x % 65536 := by simpa using and_mod 16 (by decide) h
theorem bit01 (x : Int) : decide (x % 2 = 0) = !decide (x % 2 = 1) := by
  have : x % 2 = 0 ∨ x % 2 = 1 := by omega
  rcases this with h | h <;> rw [h] <;> rfl
theorem i64_0 : IntKind.i64.wrap 0 = 0 := rfl
theorem i64_1 : IntKind.i64.wrap 1 = 1 := rfl
theorem i64_2 : IntKind.i64.wrap 2 = 2 := rfl
theorem i64_3 : IntKind.i64.wrap 3 = 3 := rfl
theorem dec_some {w : Int} (h : rightI (flds w) = true) (e : laidI (flds w) = w) : decB w = some (flds w) := by
  rw [decB, h, e]; simp
theorem dec_none {w : Int} (h : ¬ (rightI (flds w) = true ∧ laidI (flds w) = w)) : decB w = none := by
  rw [decB, if_neg]
  rwa [Bool.and_eq_true, decide_eq_true_eq]
theorem fl0 {w : Int} (h : w / 1073741824 = 0) : flds w = ⟨0, decide (w / 536870912 % 2 = 1), decide (w / 268435456 % 2 = 1), w / 16777216 % 16, w / 1048576 % 16, w / 65536 % 16, w % 16, 0⟩ := by
  simp [flds, h]
theorem fl1 {w : Int} (h : w / 1073741824 = 1) : flds w = ⟨1, decide (w / 536870912 % 2 = 1), decide (w / 268435456 % 2 = 1), w / 16777216 % 16, w / 1048576 % 16, w / 65536 % 16, 0, w % 65536⟩ := by
  simp [flds, h]
theorem fl2 {w : Int} (h : w / 1073741824 = 2) : flds w = ⟨2, decide (w / 536870912 % 2 = 1), decide (w / 268435456 % 2 = 1), w / 16777216 % 16, w / 1048576 % 16, 0, 0, sx (w % 1048576) 1048576⟩ := by
  simp [flds, h]
theorem fl3 {w : Int} (h : w / 1073741824 = 3) (hu : decide (w / 536870912 % 2 = 1) = true) : flds w = ⟨3, true, decide (w / 268435456 % 2 = 1), w / 16777216 % 16, 0, 0, 0, sx (w % 16777216) 16777216⟩ := by
  have hu' := of_decide_eq_true hu
  simp [flds, h, hu']
theorem fl4 {w : Int} (h : w / 1073741824 = 3) (hu : decide (w / 536870912 % 2 = 1) = false) : flds w = ⟨3, false, decide (w / 268435456 % 2 = 1), w / 16777216 % 16, 0, 0, w % 16, 0⟩ := by
  have hu' := of_decide_eq_false hu
  simp [flds, h, hu']
def e17 : (Int) → List AV := fun w => [.int .u32 w]
def p17 : (Int) → Prop := fun w => 0 ≤ w ∧ w < 4294967296
def r17 : (Int) → AV := fun w => .tup [agI ((decB w).getD z0), .bool (decB w).isSome]
def g17 : (Int) → Heap := fun w => []
theorem inj17 : ∀ a b, e17 a = e17 b → a = b := by
  rintro w w' h
  simp only [e17, mi_iff, ms_iff, mb_iff, my_iff, UInt8.toNat_inj, List.cons.injEq, AV.int.injEq, AV.str.injEq, AV.bool.injEq, AV.sl.injEq, AV.agg.injEq, AV.ip.injEq, AV.fn.injEq, AV.ifc.injEq, AV.mpr.injEq, Int.natCast_inj, and_true, true_and] at h
  simp_all only
noncomputable def S17 : FSpec := funS e17 p17 r17 g17 true
theorem ps17 (w : (Int)) : psel e17 p17 [.int .u32 w] = (0 ≤ w ∧ w < 4294967296) := psel_at inj17 p17 w
theorem rs17 (w : (Int)) : rsel e17 r17 .any [.int .u32 w] = (.tup [agI ((decB w).getD z0), .bool (decB w).isSome]) := rsel_at inj17 r17 .any w
theorem hs17 (w : (Int)) : rsel e17 g17 [] [.int .u32 w] = ([]) := rsel_at inj17 g17 [] w
attribute [push_cast] S17 ps17 rs17 hs17
theorem body17 (Γ : Env) (h44 : Γ 44 = some S44) (h45 : Γ 45 = some S45) (w : Int) (hw : 0 ≤ w ∧ w < 4294967296) : BodyOk Tryz.prog Γ Tryz.f17 [.int .u32 w] [] (.tup [agI ((decB w).getD z0), .bool (decB w).isSome]) [] := by
  have s30 := shr w pw30 (by decide)
  have s29 := shr w pw29 (by decide)
  have s28 := shr w pw28 (by decide)
  have s24 := shr w pw24 (by decide)
  have s20 := shr w pw20 (by decide)
  have s16 := shr w pw16 (by decide)
  have a29 : ibits .and .u32 (w / 536870912) 1 = w / 536870912 % 2 := and1 (by omega)
  have a28 : ibits .and .u32 (w / 268435456) 1 = w / 268435456 % 2 := and1 (by omega)
  have a24 : ibits .and .u32 (w / 16777216) 15 = w / 16777216 % 16 := and15 (by omega)
  have a20 : ibits .and .u32 (w / 1048576) 15 = w / 1048576 % 16 := and15 (by omega)
  have a16 : ibits .and .u32 (w / 65536) 15 = w / 65536 % 16 := and15 (by omega)
  have a0 : ibits .and .u32 w 15 = w % 16 := and15 hw
  have a1 : ibits .and .u32 w 65535 = w % 65536 := and16 hw
  have c24 : IntKind.i64.wrap (w / 16777216 % 16) = w / 16777216 % 16 := wr_i64 _ (by constructor <;> omega)
  have c20 : IntKind.i64.wrap (w / 1048576 % 16) = w / 1048576 % 16 := wr_i64 _ (by constructor <;> omega)
  have c16 : IntKind.i64.wrap (w / 65536 % 16) = w / 65536 % 16 := wr_i64 _ (by constructor <;> omega)
  have c0 : IntKind.i64.wrap (w % 16) = w % 16 := wr_i64 _ (by constructor <;> omega)
  have c1 : IntKind.i64.wrap (w % 65536) = w % 65536 := wr_i64 _ (by constructor <;> omega)
  have b1 := bit01 (w / 536870912)
  have b0 := bit01 (w / 268435456)
  have hF : w / 1073741824 = 0 ∨ w / 1073741824 = 1 ∨ w / 1073741824 = 2 ∨ w / 1073741824 = 3 := by omega
  rcases hF with h | h | h | h
  · (intro X hP hΓ hL hfin; refine ⟨_, rfl, ?_⟩; rw [show Tryz.f17.ntmps = 83 from rfl]; rw [show Tryz.f17.results.toList = [.cell 2 42, .tmp 3] from rfl] at hfin; apply holds_of_ex X 400; simp (maxSteps := 1000000) only [push_cast, reduceCtorEq, Nat.reduceAdd, Nat.reduceMul, Nat.reduceSub, Nat.reduceBEq, Nat.reduceGT, Nat.reduceLT, Int.toNat_zero, Nat.reduceLeDiff, Int.reduceEq, Int.reduceLT, Int.reduceLE, hP, hΓ, hL, hfin, String.reduceEq, not_false_eq_true, if_true, if_false, Int.toNat_one, Bool.not_not, h44, h45, s30, s29, s28, s24, s20, s16, a29, a28, a24, a20, a16, a0, a1, c24, c20, c16, c0, c1, b1, b0, h, i64_0, i64_1, i64_2, i64_3, hw, true_or, or_true, and_self, true_and])
    cases hr : rightB (0) (decide (w / 536870912 % 2 = 1)) (decide (w / 268435456 % 2 = 1)) (w / 16777216 % 16) (w / 1048576 % 16) (w / 65536 % 16) (w % 16) (0)
    · ((first | with_reducible refine holds_of_ex X 400 _ _ _ ?_ | skip); simp (maxSteps := 1000000) only [push_cast, reduceCtorEq, Nat.reduceAdd, Nat.reduceMul, Nat.reduceSub, Nat.reduceBEq, Nat.reduceGT, Nat.reduceLT, Int.toNat_zero, Nat.reduceLeDiff, Int.reduceEq, Int.reduceLT, Int.reduceLE, hP, hΓ, hL, hfin, String.reduceEq, not_false_eq_true, if_true, if_false, Int.toNat_one, Bool.not_not, hr, Bool.false_eq_true, Bool.not_true, Bool.not_false, Bool.true_or, decide_false, decide_true])
      rw [dec_none (w := w) (by rw [fl0 h]; intro h'; have := h'.1.symm.trans hr; cases this)]
      simp only [Option.getD_none, Option.isSome_none, z0, agI_mk]
      exact Into.keep0A
    by_cases he : laid (0) (decide (w / 536870912 % 2 = 1)) (decide (w / 268435456 % 2 = 1)) (w / 16777216 % 16) (w / 1048576 % 16) (w / 65536 % 16) (w % 16) (0) = w
    · ((first | with_reducible refine holds_of_ex X 400 _ _ _ ?_ | skip); simp (maxSteps := 1000000) only [push_cast, reduceCtorEq, Nat.reduceAdd, Nat.reduceMul, Nat.reduceSub, Nat.reduceBEq, Nat.reduceGT, Nat.reduceLT, Int.toNat_zero, Nat.reduceLeDiff, Int.reduceEq, Int.reduceLT, Int.reduceLE, hP, hΓ, hL, hfin, String.reduceEq, not_false_eq_true, if_true, if_false, Int.toNat_one, Bool.not_not, hr, he, Bool.not_true, Bool.not_false, Bool.false_or, decide_false, decide_true])
      rw [dec_some (w := w) (by rw [fl0 h]; exact hr) (by rw [fl0 h]; exact he), fl0 h]
      simp only [Option.getD_some, Option.isSome_some, agI_mk]
      exact Into.keep0A
    · ((first | with_reducible refine holds_of_ex X 400 _ _ _ ?_ | skip); simp (maxSteps := 1000000) only [push_cast, reduceCtorEq, Nat.reduceAdd, Nat.reduceMul, Nat.reduceSub, Nat.reduceBEq, Nat.reduceGT, Nat.reduceLT, Int.toNat_zero, Nat.reduceLeDiff, Int.reduceEq, Int.reduceLT, Int.reduceLE, hP, hΓ, hL, hfin, String.reduceEq, not_false_eq_true, if_true, if_false, Int.toNat_one, Bool.not_not, hr, he, Bool.not_true, Bool.not_false, Bool.true_or, Bool.or_true, Bool.false_or, decide_false, decide_true])
      rw [dec_none (w := w) (by rw [fl0 h]; intro h'; exact he h'.2)]
      simp only [Option.getD_none, Option.isSome_none, z0, agI_mk]
      exact Into.keep0A
  · (intro X hP hΓ hL hfin; refine ⟨_, rfl, ?_⟩; rw [show Tryz.f17.ntmps = 83 from rfl]; rw [show Tryz.f17.results.toList = [.cell 2 42, .tmp 3] from rfl] at hfin; apply holds_of_ex X 400; simp (maxSteps := 1000000) only [push_cast, reduceCtorEq, Nat.reduceAdd, Nat.reduceMul, Nat.reduceSub, Nat.reduceBEq, Nat.reduceGT, Nat.reduceLT, Int.toNat_zero, Nat.reduceLeDiff, Int.reduceEq, Int.reduceLT, Int.reduceLE, hP, hΓ, hL, hfin, String.reduceEq, not_false_eq_true, if_true, if_false, Int.toNat_one, Bool.not_not, h44, h45, s30, s29, s28, s24, s20, s16, a29, a28, a24, a20, a16, a0, a1, c24, c20, c16, c0, c1, b1, b0, h, i64_0, i64_1, i64_2, i64_3, hw, true_or, or_true, and_self, true_and])
    cases hr : rightB (1) (decide (w / 536870912 % 2 = 1)) (decide (w / 268435456 % 2 = 1)) (w / 16777216 % 16) (w / 1048576 % 16) (w / 65536 % 16) (0) (w % 65536)
    · ((first | with_reducible refine holds_of_ex X 400 _ _ _ ?_ | skip); simp (maxSteps := 1000000) only [push_cast, reduceCtorEq, Nat.reduceAdd, Nat.reduceMul, Nat.reduceSub, Nat.reduceBEq, Nat.reduceGT, Nat.reduceLT, Int.toNat_zero, Nat.reduceLeDiff, Int.reduceEq, Int.reduceLT, Int.reduceLE, hP, hΓ, hL, hfin, String.reduceEq, not_false_eq_true, if_true, if_false, Int.toNat_one, Bool.not_not, hr, Bool.false_eq_true, Bool.not_true, Bool.not_false, Bool.true_or, decide_false, decide_true])
      rw [dec_none (w := w) (by rw [fl1 h]; intro h'; have := h'.1.symm.trans hr; cases this)]
      simp only [Option.getD_none, Option.isSome_none, z0, agI_mk]
      exact Into.keep0A
    by_cases he : laid (1) (decide (w / 536870912 % 2 = 1)) (decide (w / 268435456 % 2 = 1)) (w / 16777216 % 16) (w / 1048576 % 16) (w / 65536 % 16) (0) (w % 65536) = w
    · ((first | with_reducible refine holds_of_ex X 400 _ _ _ ?_ | skip); simp (maxSteps := 1000000) only [push_cast, reduceCtorEq, Nat.reduceAdd, Nat.reduceMul, Nat.reduceSub, Nat.reduceBEq, Nat.reduceGT, Nat.reduceLT, Int.toNat_zero, Nat.reduceLeDiff, Int.reduceEq, Int.reduceLT, Int.reduceLE, hP, hΓ, hL, hfin, String.reduceEq, not_false_eq_true, if_true, if_false, Int.toNat_one, Bool.not_not, hr, he, Bool.not_true, Bool.not_false, Bool.false_or, decide_false, decide_true])
      rw [dec_some (w := w) (by rw [fl1 h]; exact hr) (by rw [fl1 h]; exact he), fl1 h]
      simp only [Option.getD_some, Option.isSome_some, agI_mk]
      exact Into.keep0A
    · ((first | with_reducible refine holds_of_ex X 400 _ _ _ ?_ | skip); simp (maxSteps := 1000000) only [push_cast, reduceCtorEq, Nat.reduceAdd, Nat.reduceMul, Nat.reduceSub, Nat.reduceBEq, Nat.reduceGT, Nat.reduceLT, Int.toNat_zero, Nat.reduceLeDiff, Int.reduceEq, Int.reduceLT, Int.reduceLE, hP, hΓ, hL, hfin, String.reduceEq, not_false_eq_true, if_true, if_false, Int.toNat_one, Bool.not_not, hr, he, Bool.not_true, Bool.not_false, Bool.true_or, Bool.or_true, Bool.false_or, decide_false, decide_true])
      rw [dec_none (w := w) (by rw [fl1 h]; intro h'; exact he h'.2)]
      simp only [Option.getD_none, Option.isSome_none, z0, agI_mk]
      exact Into.keep0A
  · (intro X hP hΓ hL hfin; refine ⟨_, rfl, ?_⟩; rw [show Tryz.f17.ntmps = 83 from rfl]; rw [show Tryz.f17.results.toList = [.cell 2 42, .tmp 3] from rfl] at hfin; apply holds_of_ex X 400; simp (maxSteps := 1000000) only [push_cast, reduceCtorEq, Nat.reduceAdd, Nat.reduceMul, Nat.reduceSub, Nat.reduceBEq, Nat.reduceGT, Nat.reduceLT, Int.toNat_zero, Nat.reduceLeDiff, Int.reduceEq, Int.reduceLT, Int.reduceLE, hP, hΓ, hL, hfin, String.reduceEq, not_false_eq_true, if_true, if_false, Int.toNat_one, Bool.not_not, h44, h45, s30, s29, s28, s24, s20, s16, a29, a28, a24, a20, a16, a0, a1, c24, c20, c16, c0, c1, b1, b0, h, i64_0, i64_1, i64_2, i64_3, hw, true_or, or_true, and_self, true_and])
    cases hr : rightB (2) (decide (w / 536870912 % 2 = 1)) (decide (w / 268435456 % 2 = 1)) (w / 16777216 % 16) (w / 1048576 % 16) (0) (0) (sx (w % 1048576) 1048576)
    · ((first | with_reducible refine holds_of_ex X 400 _ _ _ ?_ | skip); simp (maxSteps := 1000000) only [push_cast, reduceCtorEq, Nat.reduceAdd, Nat.reduceMul, Nat.reduceSub, Nat.reduceBEq, Nat.reduceGT, Nat.reduceLT, Int.toNat_zero, Nat.reduceLeDiff, Int.reduceEq, Int.reduceLT, Int.reduceLE, hP, hΓ, hL, hfin, String.reduceEq, not_false_eq_true, if_true, if_false, Int.toNat_one, Bool.not_not, hr, Bool.false_eq_true, Bool.not_true, Bool.not_false, Bool.true_or, decide_false, decide_true])
      rw [dec_none (w := w) (by rw [fl2 h]; intro h'; have := h'.1.symm.trans hr; cases this)]
      simp only [Option.getD_none, Option.isSome_none, z0, agI_mk]
      exact Into.keep0A
    by_cases he : laid (2) (decide (w / 536870912 % 2 = 1)) (decide (w / 268435456 % 2 = 1)) (w / 16777216 % 16) (w / 1048576 % 16) (0) (0) (sx (w % 1048576) 1048576) = w
    · ((first | with_reducible refine holds_of_ex X 400 _ _ _ ?_ | skip); simp (maxSteps := 1000000) only [push_cast, reduceCtorEq, Nat.reduceAdd, Nat.reduceMul, Nat.reduceSub, Nat.reduceBEq, Nat.reduceGT, Nat.reduceLT, Int.toNat_zero, Nat.reduceLeDiff, Int.reduceEq, Int.reduceLT, Int.reduceLE, hP, hΓ, hL, hfin, String.reduceEq, not_false_eq_true, if_true, if_false, Int.toNat_one, Bool.not_not, hr, he, Bool.not_true, Bool.not_false, Bool.false_or, decide_false, decide_true])
      rw [dec_some (w := w) (by rw [fl2 h]; exact hr) (by rw [fl2 h]; exact he), fl2 h]
      simp only [Option.getD_some, Option.isSome_some, agI_mk]
      exact Into.keep0A
    · ((first | with_reducible refine holds_of_ex X 400 _ _ _ ?_ | skip); simp (maxSteps := 1000000) only [push_cast, reduceCtorEq, Nat.reduceAdd, Nat.reduceMul, Nat.reduceSub, Nat.reduceBEq, Nat.reduceGT, Nat.reduceLT, Int.toNat_zero, Nat.reduceLeDiff, Int.reduceEq, Int.reduceLT, Int.reduceLE, hP, hΓ, hL, hfin, String.reduceEq, not_false_eq_true, if_true, if_false, Int.toNat_one, Bool.not_not, hr, he, Bool.not_true, Bool.not_false, Bool.true_or, Bool.or_true, Bool.false_or, decide_false, decide_true])
      rw [dec_none (w := w) (by rw [fl2 h]; intro h'; exact he h'.2)]
      simp only [Option.getD_none, Option.isSome_none, z0, agI_mk]
      exact Into.keep0A
  cases hu : decide (w / 536870912 % 2 = 1)
  · (intro X hP hΓ hL hfin; refine ⟨_, rfl, ?_⟩; rw [show Tryz.f17.ntmps = 83 from rfl]; rw [show Tryz.f17.results.toList = [.cell 2 42, .tmp 3] from rfl] at hfin; apply holds_of_ex X 400; simp (maxSteps := 1000000) only [push_cast, reduceCtorEq, Nat.reduceAdd, Nat.reduceMul, Nat.reduceSub, Nat.reduceBEq, Nat.reduceGT, Nat.reduceLT, Int.toNat_zero, Nat.reduceLeDiff, Int.reduceEq, Int.reduceLT, Int.reduceLE, hP, hΓ, hL, hfin, String.reduceEq, not_false_eq_true, if_true, if_false, Int.toNat_one, Bool.not_not, h44, h45, s30, s29, s28, s24, s20, s16, a29, a28, a24, a20, a16, a0, a1, c24, c20, c16, c0, c1, b1, b0, h, i64_0, i64_1, i64_2, i64_3, hw, true_or, or_true, and_self, true_and, hu])
    cases hr : rightB (3) (false) (decide (w / 268435456 % 2 = 1)) (w / 16777216 % 16) (0) (0) (w % 16) (0)
    · ((first | with_reducible refine holds_of_ex X 400 _ _ _ ?_ | skip); simp (maxSteps := 1000000) only [push_cast, reduceCtorEq, Nat.reduceAdd, Nat.reduceMul, Nat.reduceSub, Nat.reduceBEq, Nat.reduceGT, Nat.reduceLT, Int.toNat_zero, Nat.reduceLeDiff, Int.reduceEq, Int.reduceLT, Int.reduceLE, hP, hΓ, hL, hfin, String.reduceEq, not_false_eq_true, if_true, if_false, Int.toNat_one, Bool.not_not, hr, Bool.false_eq_true, Bool.not_true, Bool.not_false, Bool.true_or, decide_false, decide_true])
      rw [dec_none (w := w) (by rw [fl4 h hu]; intro h'; have := h'.1.symm.trans hr; cases this)]
      simp only [Option.getD_none, Option.isSome_none, z0, agI_mk]
      exact Into.keep0A
    by_cases he : laid (3) (false) (decide (w / 268435456 % 2 = 1)) (w / 16777216 % 16) (0) (0) (w % 16) (0) = w
    · ((first | with_reducible refine holds_of_ex X 400 _ _ _ ?_ | skip); simp (maxSteps := 1000000) only [push_cast, reduceCtorEq, Nat.reduceAdd, Nat.reduceMul, Nat.reduceSub, Nat.reduceBEq, Nat.reduceGT, Nat.reduceLT, Int.toNat_zero, Nat.reduceLeDiff, Int.reduceEq, Int.reduceLT, Int.reduceLE, hP, hΓ, hL, hfin, String.reduceEq, not_false_eq_true, if_true, if_false, Int.toNat_one, Bool.not_not, hr, he, Bool.not_true, Bool.not_false, Bool.false_or, decide_false, decide_true])
      rw [dec_some (w := w) (by rw [fl4 h hu]; exact hr) (by rw [fl4 h hu]; exact he), fl4 h hu]
      simp only [Option.getD_some, Option.isSome_some, agI_mk]
      exact Into.keep0A
    · ((first | with_reducible refine holds_of_ex X 400 _ _ _ ?_ | skip); simp (maxSteps := 1000000) only [push_cast, reduceCtorEq, Nat.reduceAdd, Nat.reduceMul, Nat.reduceSub, Nat.reduceBEq, Nat.reduceGT, Nat.reduceLT, Int.toNat_zero, Nat.reduceLeDiff, Int.reduceEq, Int.reduceLT, Int.reduceLE, hP, hΓ, hL, hfin, String.reduceEq, not_false_eq_true, if_true, if_false, Int.toNat_one, Bool.not_not, hr, he, Bool.not_true, Bool.not_false, Bool.true_or, Bool.or_true, Bool.false_or, decide_false, decide_true])
      rw [dec_none (w := w) (by rw [fl4 h hu]; intro h'; exact he h'.2)]
      simp only [Option.getD_none, Option.isSome_none, z0, agI_mk]
      exact Into.keep0A
  · (intro X hP hΓ hL hfin; refine ⟨_, rfl, ?_⟩; rw [show Tryz.f17.ntmps = 83 from rfl]; rw [show Tryz.f17.results.toList = [.cell 2 42, .tmp 3] from rfl] at hfin; apply holds_of_ex X 400; simp (maxSteps := 1000000) only [push_cast, reduceCtorEq, Nat.reduceAdd, Nat.reduceMul, Nat.reduceSub, Nat.reduceBEq, Nat.reduceGT, Nat.reduceLT, Int.toNat_zero, Nat.reduceLeDiff, Int.reduceEq, Int.reduceLT, Int.reduceLE, hP, hΓ, hL, hfin, String.reduceEq, not_false_eq_true, if_true, if_false, Int.toNat_one, Bool.not_not, h44, h45, s30, s29, s28, s24, s20, s16, a29, a28, a24, a20, a16, a0, a1, c24, c20, c16, c0, c1, b1, b0, h, i64_0, i64_1, i64_2, i64_3, hw, true_or, or_true, and_self, true_and, hu])
    cases hr : rightB (3) (true) (decide (w / 268435456 % 2 = 1)) (w / 16777216 % 16) (0) (0) (0) (sx (w % 16777216) 16777216)
    · ((first | with_reducible refine holds_of_ex X 400 _ _ _ ?_ | skip); simp (maxSteps := 1000000) only [push_cast, reduceCtorEq, Nat.reduceAdd, Nat.reduceMul, Nat.reduceSub, Nat.reduceBEq, Nat.reduceGT, Nat.reduceLT, Int.toNat_zero, Nat.reduceLeDiff, Int.reduceEq, Int.reduceLT, Int.reduceLE, hP, hΓ, hL, hfin, String.reduceEq, not_false_eq_true, if_true, if_false, Int.toNat_one, Bool.not_not, hr, Bool.false_eq_true, Bool.not_true, Bool.not_false, Bool.true_or, decide_false, decide_true])
      rw [dec_none (w := w) (by rw [fl3 h hu]; intro h'; have := h'.1.symm.trans hr; cases this)]
      simp only [Option.getD_none, Option.isSome_none, z0, agI_mk]
      exact Into.keep0A
    by_cases he : laid (3) (true) (decide (w / 268435456 % 2 = 1)) (w / 16777216 % 16) (0) (0) (0) (sx (w % 16777216) 16777216) = w
    · ((first | with_reducible refine holds_of_ex X 400 _ _ _ ?_ | skip); simp (maxSteps := 1000000) only [push_cast, reduceCtorEq, Nat.reduceAdd, Nat.reduceMul, Nat.reduceSub, Nat.reduceBEq, Nat.reduceGT, Nat.reduceLT, Int.toNat_zero, Nat.reduceLeDiff, Int.reduceEq, Int.reduceLT, Int.reduceLE, hP, hΓ, hL, hfin, String.reduceEq, not_false_eq_true, if_true, if_false, Int.toNat_one, Bool.not_not, hr, he, Bool.not_true, Bool.not_false, Bool.false_or, decide_false, decide_true])
      rw [dec_some (w := w) (by rw [fl3 h hu]; exact hr) (by rw [fl3 h hu]; exact he), fl3 h hu]
      simp only [Option.getD_some, Option.isSome_some, agI_mk]
      exact Into.keep0A
    · ((first | with_reducible refine holds_of_ex X 400 _ _ _ ?_ | skip); simp (maxSteps := 1000000) only [push_cast, reduceCtorEq, Nat.reduceAdd, Nat.reduceMul, Nat.reduceSub, Nat.reduceBEq, Nat.reduceGT, Nat.reduceLT, Int.toNat_zero, Nat.reduceLeDiff, Int.reduceEq, Int.reduceLT, Int.reduceLE, hP, hΓ, hL, hfin, String.reduceEq, not_false_eq_true, if_true, if_false, Int.toNat_one, Bool.not_not, hr, he, Bool.not_true, Bool.not_false, Bool.true_or, Bool.or_true, Bool.false_or, decide_false, decide_true])
      rw [dec_none (w := w) (by rw [fl3 h hu]; intro h'; exact he h'.2)]
      simp only [Option.getD_none, Option.isSome_none, z0, agI_mk]
      exact Into.keep0A
theorem con17 {Γ : Env} (h : EnvOk Tryz.prog Γ) (h44 : Γ 44 = some S44) (h45 : Γ 45 = some S45) : Con Tryz.prog 17 S17 :=
  funS_con h (fn := Tryz.f17) (by kernel_rfl) rfl (by kernel_rfl) inj17 (by first | (intro h; cases h; done) | exact fun _ _ => rfl) fun w h => body17 Γ h44 h45 w h
end Go.Proofs.YtgemeilncdmapaaGreatDoor.asmDone
end
section
namespace Go.Proofs.YtgemeilncdmapaaGreatDoor.asmDone
open Go Go.Eng Go.Proofs Go.RowKit
open Go.Asm (mayB in16 rightB b2 laid sx In flds rightI laidI decB laid_lo)
set_option linter.unusedVariables false
set_option linter.unusedSimpArgs false
set_option maxRecDepth 100000
set_option maxHeartbeats 4000000
def fld (w a b : Int) : Int := w / (2 : Int) ^ a.toNat % (2 : Int) ^ b.toNat
def e51 : (Int) × (Int) × (Int) → List AV := fun (w, a, b) => [.int .u32 w, .int .i64 a, .int .i64 b]
def p51 : (Int) × (Int) × (Int) → Prop := fun (w, a, b) => (0 ≤ w ∧ w < 4294967296) ∧ (0 ≤ a ∧ a ≤ 31) ∧ (1 ≤ b ∧ b ≤ 31)
def r51 : (Int) × (Int) × (Int) → AV := fun (w, a, b) => .int .i64 (fld w a b)
def g51 : (Int) × (Int) × (Int) → Heap := fun (w, a, b) => []
theorem inj51 : ∀ a b, e51 a = e51 b → a = b := by
  rintro ⟨w, a, b⟩ ⟨w', a', b'⟩ h
  simp only [e51, mi_iff, ms_iff, mb_iff, my_iff, UInt8.toNat_inj, List.cons.injEq, AV.int.injEq, AV.str.injEq, AV.bool.injEq, AV.sl.injEq, AV.agg.injEq, AV.ip.injEq, AV.fn.injEq, AV.ifc.injEq, AV.mpr.injEq, Int.natCast_inj, and_true, true_and] at h
  simp_all only
noncomputable def S51 : FSpec := funS e51 p51 r51 g51 true
theorem ps51 (w : (Int)) (a : (Int)) (b : (Int)) : psel e51 p51 [.int .u32 w, .int .i64 a, .int .i64 b] = ((0 ≤ w ∧ w < 4294967296) ∧ (0 ≤ a ∧ a ≤ 31) ∧ (1 ≤ b ∧ b ≤ 31)) := psel_at inj51 p51 (w, a, b)
theorem rs51 (w : (Int)) (a : (Int)) (b : (Int)) : rsel e51 r51 .any [.int .u32 w, .int .i64 a, .int .i64 b] = (.int .i64 (fld w a b)) := rsel_at inj51 r51 .any (w, a, b)
theorem hs51 (w : (Int)) (a : (Int)) (b : (Int)) : rsel e51 g51 [] [.int .u32 w, .int .i64 a, .int .i64 b] = ([]) := rsel_at inj51 g51 [] (w, a, b)
attribute [push_cast] S51 ps51 rs51 hs51
theorem body51 (Γ : Env) (w a b : Int) (hw : 0 ≤ w ∧ w < 4294967296) (ha : 0 ≤ a ∧ a ≤ 31) (hb : 1 ≤ b ∧ b ≤ 31) : BodyOk Tryz.prog Γ Tryz.f51 [.int .u32 w, .int .i64 a, .int .i64 b] [] (.int .i64 (fld w a b)) [] := by
  have pa : (2 : Int) ^ min a.toNat IntKind.u32.bits = (2 : Int) ^ a.toNat := by
    rw [Nat.min_eq_left (by simp only [IntKind.bits]; omega)]
  have pb : (2 : Int) ^ min b.toNat IntKind.u32.bits = (2 : Int) ^ b.toNat := by
    rw [Nat.min_eq_left (by simp only [IntKind.bits]; omega)]
  have qa : 0 < (2 : Int) ^ a.toNat := Int.pow_pos (by decide)
  have qb : (2 : Int) ≤ (2 : Int) ^ b.toNat ∧ (2 : Int) ^ b.toNat ≤ 2147483648 := by
    have h1 : 2 ^ 1 ≤ 2 ^ b.toNat := Nat.pow_le_pow_right (by decide) (by omega)
    have h2 : 2 ^ b.toNat ≤ 2 ^ 31 := Nat.pow_le_pow_right (by decide) (by omega)
    have e : (2 : Int) ^ b.toNat = ((2 ^ b.toNat : Nat) : Int) := by simp
    rw [e]; omega
  have f1 : w.fdiv ((2 : Int) ^ a.toNat) = w / (2 : Int) ^ a.toNat := Int.fdiv_eq_ediv_of_nonneg _ (by omega)
  have hx : 0 ≤ w / (2 : Int) ^ a.toNat ∧ w / (2 : Int) ^ a.toNat ≤ w := ⟨Int.ediv_nonneg hw.1 (by omega), Int.ediv_le_self _ hw.1⟩
  have hr : ibits .and .u32 (w / (2 : Int) ^ a.toNat) ((2 : Int) ^ b.toNat - 1) = fld w a b := by
    have h := and_mod b.toNat (by omega) (x := w / (2 : Int) ^ a.toNat) (by omega)
    have e : ((2 ^ b.toNat - 1 : Nat) : Int) = (2 : Int) ^ b.toNat - 1 := by
      have : 1 ≤ 2 ^ b.toNat := Nat.one_le_two_pow
      rw [Int.natCast_sub this]; simp
    rw [e] at h
    rw [h, fld]; simp
  have hf : 0 ≤ fld w a b ∧ fld w a b < 4294967296 := by
    have h1 := Int.emod_nonneg (w / (2 : Int) ^ a.toNat) (show (2 : Int) ^ b.toNat ≠ 0 by omega)
    have h2 := Int.emod_lt_of_pos (w / (2 : Int) ^ a.toNat) (show 0 < (2 : Int) ^ b.toNat by omega)
    unfold fld; omega
  generalize hB : (2 : Int) ^ b.toNat = B at *
  generalize hA : (2 : Int) ^ a.toNat = A at *
  have w1 : IntKind.u32.wrap (1 * B) = B := by rw [Int.one_mul]; exact u32i _ (by omega)
  have w2 : IntKind.u32.wrap (B - 1) = B - 1 := u32i _ (by omega)
  have w3 : IntKind.i64.wrap (fld w a b) = fld w a b := wr_i64 _ (by constructor <;> omega)
  (intro X hP hΓ hL hfin; refine ⟨_, rfl, ?_⟩; rw [show Tryz.f51.ntmps = 15 from rfl]; rw [show Tryz.f51.results.toList = [.tmp 6] from rfl] at hfin; apply holds_of_ex X 400; simp (maxSteps := 1000000) only [push_cast, reduceCtorEq, Nat.reduceAdd, Nat.reduceMul, Nat.reduceSub, Nat.reduceBEq, Nat.reduceGT, Nat.reduceLT, Int.toNat_zero, Nat.reduceLeDiff, Int.reduceEq, Int.reduceLT, Int.reduceLE, hP, hΓ, hL, hfin, String.reduceEq, not_false_eq_true, if_true, if_false, Int.toNat_one, Bool.not_not])
  (refine Holds.drawnQ (by rw [hP]; kernel_rfl) (by kernel_rfl) ?_; simp (maxSteps := 1000000) only [push_cast, reduceCtorEq, Nat.reduceAdd, Nat.reduceMul, Nat.reduceSub, Nat.reduceBEq, Nat.reduceGT, Nat.reduceLT, Int.toNat_zero, Nat.reduceLeDiff, Int.reduceEq, Int.reduceLT, Int.reduceLE, hP, hΓ, hL, hfin, String.reduceEq, not_false_eq_true, if_true, if_false, Int.toNat_one, Bool.not_not, pa, pb, f1, w1, w2, hr, w3])
  refine ⟨by omega, by omega, ?_⟩
  exact Into.sameA
theorem con51 {Γ : Env} (h : EnvOk Tryz.prog Γ)  : Con Tryz.prog 51 S51 :=
  funS_con h (fn := Tryz.f51) (by kernel_rfl) rfl (by kernel_rfl) inj51 (by first | (intro h; cases h; done) | exact fun _ _ => rfl) fun ⟨w, a, b⟩ h => body51 Γ w a b h.1 h.2.1 h.2.2
def e52 : (Int) × (Int) → List AV := fun (n, k) => [.int .i64 n, .int .i64 k]
def p52 : (Int) × (Int) → Prop := fun (n, k) => (0 ≤ n ∧ n < 4294967296) ∧ (k = 20 ∨ k = 24)
def r52 : (Int) × (Int) → AV := fun (n, k) => .int .i64 (if k = 20 then sx n 1048576 else sx n 16777216)
def g52 : (Int) × (Int) → Heap := fun (n, k) => []
theorem inj52 : ∀ a b, e52 a = e52 b → a = b := by
  rintro ⟨n, k⟩ ⟨n', k'⟩ h
  simp only [e52, mi_iff, ms_iff, mb_iff, my_iff, UInt8.toNat_inj, List.cons.injEq, AV.int.injEq, AV.str.injEq, AV.bool.injEq, AV.sl.injEq, AV.agg.injEq, AV.ip.injEq, AV.fn.injEq, AV.ifc.injEq, AV.mpr.injEq, Int.natCast_inj, and_true, true_and] at h
  simp_all only
noncomputable def S52 : FSpec := funS e52 p52 r52 g52 true
theorem ps52 (n : (Int)) (k : (Int)) : psel e52 p52 [.int .i64 n, .int .i64 k] = ((0 ≤ n ∧ n < 4294967296) ∧ (k = 20 ∨ k = 24)) := psel_at inj52 p52 (n, k)
theorem rs52 (n : (Int)) (k : (Int)) : rsel e52 r52 .any [.int .i64 n, .int .i64 k] = (.int .i64 (if k = 20 then sx n 1048576 else sx n 16777216)) := rsel_at inj52 r52 .any (n, k)
theorem hs52 (n : (Int)) (k : (Int)) : rsel e52 g52 [] [.int .i64 n, .int .i64 k] = ([]) := rsel_at inj52 g52 [] (n, k)
attribute [push_cast] S52 ps52 rs52 hs52
theorem body52 (Γ : Env) (n k : Int) (hw : 0 ≤ n ∧ n < 4294967296) (hk : k = 20 ∨ k = 24) : BodyOk Tryz.prog Γ Tryz.f52 [.int .i64 n, .int .i64 k] [] (.int .i64 (if k = 20 then sx n 1048576 else sx n 16777216)) [] := by
  have q1 : IntKind.i64.wrap (20 - 1) = 19 := by decide
  have q2 : IntKind.i64.wrap (24 - 1) = 23 := by decide
  have q3 : IntKind.i64.wrap (1 * 2 ^ min (Int.toNat 19) IntKind.i64.bits) = 524288 := by decide
  have q4 : IntKind.i64.wrap (1 * 2 ^ min (Int.toNat 23) IntKind.i64.bits) = 8388608 := by decide
  have q5 : IntKind.i64.wrap (1 * 2 ^ min (Int.toNat 20) IntKind.i64.bits) = 1048576 := by decide
  have q6 : IntKind.i64.wrap (1 * 2 ^ min (Int.toNat 24) IntKind.i64.bits) = 16777216 := by decide
  have q7 : IntKind.i64.wrap (n - 1048576) = n - 1048576 := wr_i64 _ (by constructor <;> omega)
  have q8 : IntKind.i64.wrap (n - 16777216) = n - 16777216 := wr_i64 _ (by constructor <;> omega)
  rcases hk with rfl | rfl
  · (intro X hP hΓ hL hfin; refine ⟨_, rfl, ?_⟩; rw [show Tryz.f52.ntmps = 15 from rfl]; rw [show Tryz.f52.results.toList = [.tmp 4] from rfl] at hfin; apply holds_of_ex X 400; simp (maxSteps := 1000000) only [push_cast, reduceCtorEq, Nat.reduceAdd, Nat.reduceMul, Nat.reduceSub, Nat.reduceBEq, Nat.reduceGT, Nat.reduceLT, Int.toNat_zero, Nat.reduceLeDiff, Int.reduceEq, Int.reduceLT, Int.reduceLE, hP, hΓ, hL, hfin, String.reduceEq, not_false_eq_true, if_true, if_false, Int.toNat_one, Bool.not_not, q1, q2, q3, q4, q5, q6])
    ((with_reducible refine exB_split (fun h => ?_) (fun h => ?_)) <;> (try simp only [decide_eq_true_eq, decide_eq_false_iff_not, Bool.and_eq_true, Bool.or_eq_true, Bool.and_eq_false_iff, Bool.or_eq_false_iff, Bool.not_eq_true', Bool.not_eq_false', Bool.not_eq_true, Bool.not_eq_false, Int.not_lt, Int.not_le, beq_iff_eq, beq_eq_false_iff_ne, ne_eq] at h))
    · ((first | with_reducible refine holds_of_ex X 400 _ _ _ ?_ | skip); simp (maxSteps := 1000000) only [push_cast, reduceCtorEq, Nat.reduceAdd, Nat.reduceMul, Nat.reduceSub, Nat.reduceBEq, Nat.reduceGT, Nat.reduceLT, Int.toNat_zero, Nat.reduceLeDiff, Int.reduceEq, Int.reduceLT, Int.reduceLE, hP, hΓ, hL, hfin, String.reduceEq, not_false_eq_true, if_true, if_false, Int.toNat_one, Bool.not_not, q5, q7])
      rw [sx, if_pos (by omega)]
      exact Into.sameA
    · ((first | with_reducible refine holds_of_ex X 400 _ _ _ ?_ | skip); simp (maxSteps := 1000000) only [push_cast, reduceCtorEq, Nat.reduceAdd, Nat.reduceMul, Nat.reduceSub, Nat.reduceBEq, Nat.reduceGT, Nat.reduceLT, Int.toNat_zero, Nat.reduceLeDiff, Int.reduceEq, Int.reduceLT, Int.reduceLE, hP, hΓ, hL, hfin, String.reduceEq, not_false_eq_true, if_true, if_false, Int.toNat_one, Bool.not_not])
      rw [sx, if_neg (by omega)]
      exact Into.sameA
  · (intro X hP hΓ hL hfin; refine ⟨_, rfl, ?_⟩; rw [show Tryz.f52.ntmps = 15 from rfl]; rw [show Tryz.f52.results.toList = [.tmp 4] from rfl] at hfin; apply holds_of_ex X 400; simp (maxSteps := 1000000) only [push_cast, reduceCtorEq, Nat.reduceAdd, Nat.reduceMul, Nat.reduceSub, Nat.reduceBEq, Nat.reduceGT, Nat.reduceLT, Int.toNat_zero, Nat.reduceLeDiff, Int.reduceEq, Int.reduceLT, Int.reduceLE, hP, hΓ, hL, hfin, String.reduceEq, not_false_eq_true, if_true, if_false, Int.toNat_one, Bool.not_not, q1, q2, q3, q4, q5, q6])
    ((with_reducible refine exB_split (fun h => ?_) (fun h => ?_)) <;> (try simp only [decide_eq_true_eq, decide_eq_false_iff_not, Bool.and_eq_true, Bool.or_eq_true, Bool.and_eq_false_iff, Bool.or_eq_false_iff, Bool.not_eq_true', Bool.not_eq_false', Bool.not_eq_true, Bool.not_eq_false, Int.not_lt, Int.not_le, beq_iff_eq, beq_eq_false_iff_ne, ne_eq] at h))
    · ((first | with_reducible refine holds_of_ex X 400 _ _ _ ?_ | skip); simp (maxSteps := 1000000) only [push_cast, reduceCtorEq, Nat.reduceAdd, Nat.reduceMul, Nat.reduceSub, Nat.reduceBEq, Nat.reduceGT, Nat.reduceLT, Int.toNat_zero, Nat.reduceLeDiff, Int.reduceEq, Int.reduceLT, Int.reduceLE, hP, hΓ, hL, hfin, String.reduceEq, not_false_eq_true, if_true, if_false, Int.toNat_one, Bool.not_not, q6, q8])
      rw [sx, if_pos (by omega)]
      exact Into.sameA
    · ((first | with_reducible refine holds_of_ex X 400 _ _ _ ?_ | skip); simp (maxSteps := 1000000) only [push_cast, reduceCtorEq, Nat.reduceAdd, Nat.reduceMul, Nat.reduceSub, Nat.reduceBEq, Nat.reduceGT, Nat.reduceLT, Int.toNat_zero, Nat.reduceLeDiff, Int.reduceEq, Int.reduceLT, Int.reduceLE, hP, hΓ, hL, hfin, String.reduceEq, not_false_eq_true, if_true, if_false, Int.toNat_one, Bool.not_not])
      rw [sx, if_neg (by omega)]
      exact Into.sameA
theorem con52 {Γ : Env} (h : EnvOk Tryz.prog Γ)  : Con Tryz.prog 52 S52 :=
  funS_con h (fn := Tryz.f52) (by kernel_rfl) rfl (by kernel_rfl) inj52 (by first | (intro h; cases h; done) | exact fun _ _ => rfl) fun ⟨n, k⟩ h => body52 Γ n k h.1 h.2
def e87 : (Int) × (Bool) × (Bool) × (Int) × (Int) × (Int) × (Int) × (Int) → List AV := fun (f, u, v, a, b, op, c, n) => [.agg [.int .i64 f, .bool u, .bool v, .int .i64 a, .int .i64 b, .int .i64 op, .int .i64 c, .int .i64 n]]
def p87 : (Int) × (Bool) × (Bool) × (Int) × (Int) × (Int) × (Int) × (Int) → Prop := fun (f, u, v, a, b, op, c, n) => f = 0 ∨ f = 1
def r87 : (Int) × (Bool) × (Bool) × (Int) × (Int) × (Int) × (Int) × (Int) → AV := fun (f, u, v, a, b, op, c, n) => .bool (mayB f u v a b op c)
def g87 : (Int) × (Bool) × (Bool) × (Int) × (Int) × (Int) × (Int) × (Int) → Heap := fun (f, u, v, a, b, op, c, n) => []
theorem inj87 : ∀ a b, e87 a = e87 b → a = b := by
  rintro ⟨f, u, v, a, b, op, c, n⟩ ⟨f', u', v', a', b', op', c', n'⟩ h
  simp only [e87, mi_iff, ms_iff, mb_iff, my_iff, UInt8.toNat_inj, List.cons.injEq, AV.int.injEq, AV.str.injEq, AV.bool.injEq, AV.sl.injEq, AV.agg.injEq, AV.ip.injEq, AV.fn.injEq, AV.ifc.injEq, AV.mpr.injEq, Int.natCast_inj, and_true, true_and] at h
  simp_all only
noncomputable def S87 : FSpec := funS e87 p87 r87 g87 true
theorem ps87 (f : (Int)) (u : (Bool)) (v : (Bool)) (a : (Int)) (b : (Int)) (op : (Int)) (c : (Int)) (n : (Int)) : psel e87 p87 [.agg [.int .i64 f, .bool u, .bool v, .int .i64 a, .int .i64 b, .int .i64 op, .int .i64 c, .int .i64 n]] = (f = 0 ∨ f = 1) := psel_at inj87 p87 (f, u, v, a, b, op, c, n)
theorem rs87 (f : (Int)) (u : (Bool)) (v : (Bool)) (a : (Int)) (b : (Int)) (op : (Int)) (c : (Int)) (n : (Int)) : rsel e87 r87 .any [.agg [.int .i64 f, .bool u, .bool v, .int .i64 a, .int .i64 b, .int .i64 op, .int .i64 c, .int .i64 n]] = (.bool (mayB f u v a b op c)) := rsel_at inj87 r87 .any (f, u, v, a, b, op, c, n)
theorem hs87 (f : (Int)) (u : (Bool)) (v : (Bool)) (a : (Int)) (b : (Int)) (op : (Int)) (c : (Int)) (n : (Int)) : rsel e87 g87 [] [.agg [.int .i64 f, .bool u, .bool v, .int .i64 a, .int .i64 b, .int .i64 op, .int .i64 c, .int .i64 n]] = ([]) := rsel_at inj87 g87 [] (f, u, v, a, b, op, c, n)
attribute [push_cast] S87 ps87 rs87 hs87
theorem body87 (Γ : Env) (f : Int) (u v : Bool) (a b op c n : Int) (hf : f = 0 ∨ f = 1) : BodyOk Tryz.prog Γ Tryz.f87 [.agg [.int .i64 f, .bool u, .bool v, .int .i64 a, .int .i64 b, .int .i64 op, .int .i64 c, .int .i64 n]] [] (.bool (mayB f u v a b op c)) [] := by
  by_cases r : op < 0 ∨ 15 < op ∨ (11 < op ∧ op < 15)
  · rw [mayB, if_pos r]
    (intro X hP hΓ hL hfin; refine ⟨_, rfl, ?_⟩; rw [show Tryz.f87.ntmps = 126 from rfl]; rw [show Tryz.f87.results.toList = [.tmp 2] from rfl] at hfin; apply holds_of_ex X 400; simp (maxSteps := 1000000) only [push_cast, reduceCtorEq, Nat.reduceAdd, Nat.reduceMul, Nat.reduceSub, Nat.reduceBEq, Nat.reduceGT, Nat.reduceLT, Int.toNat_zero, Nat.reduceLeDiff, Int.reduceEq, Int.reduceLT, Int.reduceLE, hP, hΓ, hL, hfin, String.reduceEq, not_false_eq_true, if_true, if_false, Int.toNat_one, Bool.not_not])
    iterate 8 (all_goals (first | (exfalso; omega) | ((with_reducible refine exB_split (fun h => ?_) (fun h => ?_)) <;> (try simp only [decide_eq_true_eq, decide_eq_false_iff_not, Bool.and_eq_true, Bool.or_eq_true, Bool.and_eq_false_iff, Bool.or_eq_false_iff, Bool.not_eq_true', Bool.not_eq_false', Bool.not_eq_true, Bool.not_eq_false, Int.not_lt, Int.not_le, beq_iff_eq, beq_eq_false_iff_ne, ne_eq] at h)) | ((first | with_reducible refine holds_of_ex X 400 _ _ _ ?_ | skip); simp (maxSteps := 1000000) only [push_cast, reduceCtorEq, Nat.reduceAdd, Nat.reduceMul, Nat.reduceSub, Nat.reduceBEq, Nat.reduceGT, Nat.reduceLT, Int.toNat_zero, Nat.reduceLeDiff, Int.reduceEq, Int.reduceLT, Int.reduceLE, hP, hΓ, hL, hfin, String.reduceEq, not_false_eq_true, if_true, if_false, Int.toNat_one, Bool.not_not]) | skip))
    all_goals (refine Into.one (congrArg AV.bool ?_) rfl; simp)
  rw [mayB, if_neg r]
  by_cases o15 : op = 15
  · rw [if_pos o15]
    (intro X hP hΓ hL hfin; refine ⟨_, rfl, ?_⟩; rw [show Tryz.f87.ntmps = 126 from rfl]; rw [show Tryz.f87.results.toList = [.tmp 2] from rfl] at hfin; apply holds_of_ex X 400; simp (maxSteps := 1000000) only [push_cast, reduceCtorEq, Nat.reduceAdd, Nat.reduceMul, Nat.reduceSub, Nat.reduceBEq, Nat.reduceGT, Nat.reduceLT, Int.toNat_zero, Nat.reduceLeDiff, Int.reduceEq, Int.reduceLT, Int.reduceLE, hP, hΓ, hL, hfin, String.reduceEq, not_false_eq_true, if_true, if_false, Int.toNat_one, Bool.not_not])
    iterate 8 (all_goals (first | (exfalso; omega) | ((with_reducible refine exB_split (fun h => ?_) (fun h => ?_)) <;> (try simp only [decide_eq_true_eq, decide_eq_false_iff_not, Bool.and_eq_true, Bool.or_eq_true, Bool.and_eq_false_iff, Bool.or_eq_false_iff, Bool.not_eq_true', Bool.not_eq_false', Bool.not_eq_true, Bool.not_eq_false, Int.not_lt, Int.not_le, beq_iff_eq, beq_eq_false_iff_ne, ne_eq] at h)) | ((first | with_reducible refine holds_of_ex X 400 _ _ _ ?_ | skip); simp (maxSteps := 1000000) only [push_cast, reduceCtorEq, Nat.reduceAdd, Nat.reduceMul, Nat.reduceSub, Nat.reduceBEq, Nat.reduceGT, Nat.reduceLT, Int.toNat_zero, Nat.reduceLeDiff, Int.reduceEq, Int.reduceLT, Int.reduceLE, hP, hΓ, hL, hfin, String.reduceEq, not_false_eq_true, if_true, if_false, Int.toNat_one, Bool.not_not]) | skip))
    all_goals (refine Into.one (congrArg AV.bool ?_) rfl; simp)
  rw [if_neg o15]
  by_cases o0 : op = 0
  · rcases hf with rfl | rfl
    · rw [if_pos ⟨o0, rfl⟩]
      (intro X hP hΓ hL hfin; refine ⟨_, rfl, ?_⟩; rw [show Tryz.f87.ntmps = 126 from rfl]; rw [show Tryz.f87.results.toList = [.tmp 2] from rfl] at hfin; apply holds_of_ex X 400; simp (maxSteps := 1000000) only [push_cast, reduceCtorEq, Nat.reduceAdd, Nat.reduceMul, Nat.reduceSub, Nat.reduceBEq, Nat.reduceGT, Nat.reduceLT, Int.toNat_zero, Nat.reduceLeDiff, Int.reduceEq, Int.reduceLT, Int.reduceLE, hP, hΓ, hL, hfin, String.reduceEq, not_false_eq_true, if_true, if_false, Int.toNat_one, Bool.not_not])
      iterate 8 (all_goals (first | (exfalso; omega) | ((with_reducible refine exB_split (fun h => ?_) (fun h => ?_)) <;> (try simp only [decide_eq_true_eq, decide_eq_false_iff_not, Bool.and_eq_true, Bool.or_eq_true, Bool.and_eq_false_iff, Bool.or_eq_false_iff, Bool.not_eq_true', Bool.not_eq_false', Bool.not_eq_true, Bool.not_eq_false, Int.not_lt, Int.not_le, beq_iff_eq, beq_eq_false_iff_ne, ne_eq] at h)) | ((first | with_reducible refine holds_of_ex X 400 _ _ _ ?_ | skip); simp (maxSteps := 1000000) only [push_cast, reduceCtorEq, Nat.reduceAdd, Nat.reduceMul, Nat.reduceSub, Nat.reduceBEq, Nat.reduceGT, Nat.reduceLT, Int.toNat_zero, Nat.reduceLeDiff, Int.reduceEq, Int.reduceLT, Int.reduceLE, hP, hΓ, hL, hfin, String.reduceEq, not_false_eq_true, if_true, if_false, Int.toNat_one, Bool.not_not]) | skip))
      all_goals (refine Into.one (congrArg AV.bool ?_) rfl; simp)
    · rw [if_neg (by omega), if_pos o0]
      (intro X hP hΓ hL hfin; refine ⟨_, rfl, ?_⟩; rw [show Tryz.f87.ntmps = 126 from rfl]; rw [show Tryz.f87.results.toList = [.tmp 2] from rfl] at hfin; apply holds_of_ex X 400; simp (maxSteps := 1000000) only [push_cast, reduceCtorEq, Nat.reduceAdd, Nat.reduceMul, Nat.reduceSub, Nat.reduceBEq, Nat.reduceGT, Nat.reduceLT, Int.toNat_zero, Nat.reduceLeDiff, Int.reduceEq, Int.reduceLT, Int.reduceLE, hP, hΓ, hL, hfin, String.reduceEq, not_false_eq_true, if_true, if_false, Int.toNat_one, Bool.not_not])
      iterate 8 (all_goals (first | (exfalso; omega) | ((with_reducible refine exB_split (fun h => ?_) (fun h => ?_)) <;> (try simp only [decide_eq_true_eq, decide_eq_false_iff_not, Bool.and_eq_true, Bool.or_eq_true, Bool.and_eq_false_iff, Bool.or_eq_false_iff, Bool.not_eq_true', Bool.not_eq_false', Bool.not_eq_true, Bool.not_eq_false, Int.not_lt, Int.not_le, beq_iff_eq, beq_eq_false_iff_ne, ne_eq] at h)) | ((first | with_reducible refine holds_of_ex X 400 _ _ _ ?_ | skip); simp (maxSteps := 1000000) only [push_cast, reduceCtorEq, Nat.reduceAdd, Nat.reduceMul, Nat.reduceSub, Nat.reduceBEq, Nat.reduceGT, Nat.reduceLT, Int.toNat_zero, Nat.reduceLeDiff, Int.reduceEq, Int.reduceLT, Int.reduceLE, hP, hΓ, hL, hfin, String.reduceEq, not_false_eq_true, if_true, if_false, Int.toNat_one, Bool.not_not]) | skip))
      all_goals (refine Into.one (congrArg AV.bool ?_) rfl; simp)
  rw [if_neg (by omega), if_neg o0]
  (intro X hP hΓ hL hfin; refine ⟨_, rfl, ?_⟩; rw [show Tryz.f87.ntmps = 126 from rfl]; rw [show Tryz.f87.results.toList = [.tmp 2] from rfl] at hfin; apply holds_of_ex X 400; simp (maxSteps := 1000000) only [push_cast, reduceCtorEq, Nat.reduceAdd, Nat.reduceMul, Nat.reduceSub, Nat.reduceBEq, Nat.reduceGT, Nat.reduceLT, Int.toNat_zero, Nat.reduceLeDiff, Int.reduceEq, Int.reduceLT, Int.reduceLE, hP, hΓ, hL, hfin, String.reduceEq, not_false_eq_true, if_true, if_false, Int.toNat_one, Bool.not_not])
  iterate 8 (all_goals (first | (exfalso; omega) | ((with_reducible refine exB_split (fun h => ?_) (fun h => ?_)) <;> (try simp only [decide_eq_true_eq, decide_eq_false_iff_not, Bool.and_eq_true, Bool.or_eq_true, Bool.and_eq_false_iff, Bool.or_eq_false_iff, Bool.not_eq_true', Bool.not_eq_false', Bool.not_eq_true, Bool.not_eq_false, Int.not_lt, Int.not_le, beq_iff_eq, beq_eq_false_iff_ne, ne_eq] at h)) | ((first | with_reducible refine holds_of_ex X 400 _ _ _ ?_ | skip); simp (maxSteps := 1000000) only [push_cast, reduceCtorEq, Nat.reduceAdd, Nat.reduceMul, Nat.reduceSub, Nat.reduceBEq, Nat.reduceGT, Nat.reduceLT, Int.toNat_zero, Nat.reduceLeDiff, Int.reduceEq, Int.reduceLT, Int.reduceLE, hP, hΓ, hL, hfin, String.reduceEq, not_false_eq_true, if_true, if_false, Int.toNat_one, Bool.not_not]) | skip))
  all_goals (refine Into.one (congrArg AV.bool ?_) rfl; simp [Bool.decide_or, Bool.or_assoc])
theorem con87 {Γ : Env} (h : EnvOk Tryz.prog Γ)  : Con Tryz.prog 87 S87 :=
  funS_con h (fn := Tryz.f87) (by kernel_rfl) rfl (by kernel_rfl) inj87 (by first | (intro h; cases h; done) | exact fun _ _ => rfl) fun ⟨f, u, v, a, b, op, c, n⟩ h => body87 Γ f u v a b op c n h
end Go.Proofs.YtgemeilncdmapaaGreatDoor.asmDone
end
section
namespace Go.Proofs.YtgemeilncdmapaaGreatDoor.asmDone
open Go Go.Eng Go.Proofs Go.RowKit
open Go.Asm (mayB in16 rightB laid sx In flds rightI laidI decB laid_lo)
set_option linter.unusedVariables false
set_option linter.unusedSimpArgs false
set_option maxRecDepth 100000
set_option maxHeartbeats 4000000
def e53 : (Int) × (Bool) × (Bool) × (Int) × (Int) × (Int) × (Int) × (Int) → List AV := fun (f, u, v, a, b, op, c, n) => [.agg [.int .i64 f, .bool u, .bool v, .int .i64 a, .int .i64 b, .int .i64 op, .int .i64 c, .int .i64 n]]
def p53 : (Int) × (Bool) × (Bool) × (Int) × (Int) × (Int) × (Int) × (Int) → Prop := fun (f, u, v, a, b, op, c, n) => True
def r53 : (Int) × (Bool) × (Bool) × (Int) × (Int) × (Int) × (Int) × (Int) → AV := fun (f, u, v, a, b, op, c, n) => .bool (rightB f u v a b op c n)
def g53 : (Int) × (Bool) × (Bool) × (Int) × (Int) × (Int) × (Int) × (Int) → Heap := fun (f, u, v, a, b, op, c, n) => []
theorem inj53 : ∀ a b, e53 a = e53 b → a = b := by
  rintro ⟨f, u, v, a, b, op, c, n⟩ ⟨f', u', v', a', b', op', c', n'⟩ h
  simp only [e53, mi_iff, ms_iff, mb_iff, my_iff, UInt8.toNat_inj, List.cons.injEq, AV.int.injEq, AV.str.injEq, AV.bool.injEq, AV.sl.injEq, AV.agg.injEq, AV.ip.injEq, AV.fn.injEq, AV.ifc.injEq, AV.mpr.injEq, Int.natCast_inj, and_true, true_and] at h
  simp_all only
noncomputable def S53 : FSpec := funS e53 p53 r53 g53 true
theorem ps53 (f : (Int)) (u : (Bool)) (v : (Bool)) (a : (Int)) (b : (Int)) (op : (Int)) (c : (Int)) (n : (Int)) : psel e53 p53 [.agg [.int .i64 f, .bool u, .bool v, .int .i64 a, .int .i64 b, .int .i64 op, .int .i64 c, .int .i64 n]] = (True) := psel_at inj53 p53 (f, u, v, a, b, op, c, n)
theorem rs53 (f : (Int)) (u : (Bool)) (v : (Bool)) (a : (Int)) (b : (Int)) (op : (Int)) (c : (Int)) (n : (Int)) : rsel e53 r53 .any [.agg [.int .i64 f, .bool u, .bool v, .int .i64 a, .int .i64 b, .int .i64 op, .int .i64 c, .int .i64 n]] = (.bool (rightB f u v a b op c n)) := rsel_at inj53 r53 .any (f, u, v, a, b, op, c, n)
theorem hs53 (f : (Int)) (u : (Bool)) (v : (Bool)) (a : (Int)) (b : (Int)) (op : (Int)) (c : (Int)) (n : (Int)) : rsel e53 g53 [] [.agg [.int .i64 f, .bool u, .bool v, .int .i64 a, .int .i64 b, .int .i64 op, .int .i64 c, .int .i64 n]] = ([]) := rsel_at inj53 g53 [] (f, u, v, a, b, op, c, n)
attribute [push_cast] S53 ps53 rs53 hs53
theorem body53 (Γ : Env) (h87 : Γ 87 = some S87) (f : Int) (u v : Bool) (a b op c n : Int) : BodyOk Tryz.prog Γ Tryz.f53 [.agg [.int .i64 f, .bool u, .bool v, .int .i64 a, .int .i64 b, .int .i64 op, .int .i64 c, .int .i64 n]] [] (.bool (rightB f u v a b op c n)) [] := by
  by_cases f0 : f = 0
  · subst f0
    cases hm : mayB 0 u v a b op c
    all_goals
      (intro X hP hΓ hL hfin; refine ⟨_, rfl, ?_⟩; rw [show Tryz.f53.ntmps = 141 from rfl]; rw [show Tryz.f53.results.toList = [.tmp 2] from rfl] at hfin; apply holds_of_ex X 400; simp (maxSteps := 1000000) only [push_cast, reduceCtorEq, Nat.reduceAdd, Nat.reduceMul, Nat.reduceSub, Nat.reduceBEq, Nat.reduceGT, Nat.reduceLT, Int.toNat_zero, Nat.reduceLeDiff, Int.reduceEq, Int.reduceLT, Int.reduceLE, hP, hΓ, hL, hfin, String.reduceEq, not_false_eq_true, if_true, if_false, Int.toNat_one, Bool.not_not, h87, hm, true_or, or_true])
      refine Into.one (congrArg AV.bool ?_) rfl
      rw [Bool.eq_iff_iff, rightB, if_pos rfl, hm]
      simp only [in16, Bool.and_eq_true, decide_eq_true_eq, Bool.false_eq_true, and_false, and_true, false_and]
      (try omega)
  by_cases f1 : f = 1
  · subst f1
    cases hm : mayB 1 u v a b op c
    all_goals
      (intro X hP hΓ hL hfin; refine ⟨_, rfl, ?_⟩; rw [show Tryz.f53.ntmps = 141 from rfl]; rw [show Tryz.f53.results.toList = [.tmp 2] from rfl] at hfin; apply holds_of_ex X 400; simp (maxSteps := 1000000) only [push_cast, reduceCtorEq, Nat.reduceAdd, Nat.reduceMul, Nat.reduceSub, Nat.reduceBEq, Nat.reduceGT, Nat.reduceLT, Int.toNat_zero, Nat.reduceLeDiff, Int.reduceEq, Int.reduceLT, Int.reduceLE, hP, hΓ, hL, hfin, String.reduceEq, not_false_eq_true, if_true, if_false, Int.toNat_one, Bool.not_not, h87, hm, true_or, or_true])
      refine Into.one (congrArg AV.bool ?_) rfl
      rw [Bool.eq_iff_iff, rightB, if_neg (by decide), if_pos rfl, hm]
      simp only [in16, Bool.and_eq_true, decide_eq_true_eq, Bool.false_eq_true, and_false, and_true, false_and]
      (try omega)
  by_cases f2 : f = 2
  · subst f2
    (intro X hP hΓ hL hfin; refine ⟨_, rfl, ?_⟩; rw [show Tryz.f53.ntmps = 141 from rfl]; rw [show Tryz.f53.results.toList = [.tmp 2] from rfl] at hfin; apply holds_of_ex X 400; simp (maxSteps := 1000000) only [push_cast, reduceCtorEq, Nat.reduceAdd, Nat.reduceMul, Nat.reduceSub, Nat.reduceBEq, Nat.reduceGT, Nat.reduceLT, Int.toNat_zero, Nat.reduceLeDiff, Int.reduceEq, Int.reduceLT, Int.reduceLE, hP, hΓ, hL, hfin, String.reduceEq, not_false_eq_true, if_true, if_false, Int.toNat_one, Bool.not_not, h87])
    refine Into.one (congrArg AV.bool ?_) rfl
    rw [Bool.eq_iff_iff, rightB, if_neg (by decide), if_neg (by decide), if_pos rfl]
    simp only [in16, Bool.and_eq_true, decide_eq_true_eq, Bool.false_eq_true, and_false, and_true, false_and]
    (try omega)
  by_cases f3 : f = 3
  · subst f3
    cases u
    all_goals
      (intro X hP hΓ hL hfin; refine ⟨_, rfl, ?_⟩; rw [show Tryz.f53.ntmps = 141 from rfl]; rw [show Tryz.f53.results.toList = [.tmp 2] from rfl] at hfin; apply holds_of_ex X 400; simp (maxSteps := 1000000) only [push_cast, reduceCtorEq, Nat.reduceAdd, Nat.reduceMul, Nat.reduceSub, Nat.reduceBEq, Nat.reduceGT, Nat.reduceLT, Int.toNat_zero, Nat.reduceLeDiff, Int.reduceEq, Int.reduceLT, Int.reduceLE, hP, hΓ, hL, hfin, String.reduceEq, not_false_eq_true, if_true, if_false, Int.toNat_one, Bool.not_not, h87])
      refine Into.one (congrArg AV.bool ?_) rfl
      rw [Bool.eq_iff_iff, rightB, if_neg (by decide), if_neg (by decide), if_neg (by decide), if_pos rfl]
      simp only [in16, Bool.and_eq_true, decide_eq_true_eq, Bool.false_eq_true, and_false, and_true, false_and, if_true, if_false]
      (try omega)
  (intro X hP hΓ hL hfin; refine ⟨_, rfl, ?_⟩; rw [show Tryz.f53.ntmps = 141 from rfl]; rw [show Tryz.f53.results.toList = [.tmp 2] from rfl] at hfin; apply holds_of_ex X 400; simp (maxSteps := 1000000) only [push_cast, reduceCtorEq, Nat.reduceAdd, Nat.reduceMul, Nat.reduceSub, Nat.reduceBEq, Nat.reduceGT, Nat.reduceLT, Int.toNat_zero, Nat.reduceLeDiff, Int.reduceEq, Int.reduceLT, Int.reduceLE, hP, hΓ, hL, hfin, String.reduceEq, not_false_eq_true, if_true, if_false, Int.toNat_one, Bool.not_not, h87, f0, f1, f2, f3])
  refine Into.one (congrArg AV.bool ?_) rfl
  rw [rightB, if_neg f0, if_neg f1, if_neg f2, if_neg f3, Bool.and_false]
theorem con53 {Γ : Env} (h : EnvOk Tryz.prog Γ) (h87 : Γ 87 = some S87) : Con Tryz.prog 53 S53 :=
  funS_con h (fn := Tryz.f53) (by kernel_rfl) rfl (by kernel_rfl) inj53 (by first | (intro h; cases h; done) | exact fun _ _ => rfl) fun ⟨f, u, v, a, b, op, c, n⟩ h => body53 Γ h87 f u v a b op c n
def e88 : (Bool) → List AV := fun b => [.bool b]
def p88 : (Bool) → Prop := fun b => True
def r88 : (Bool) → AV := fun b => .int .u32 (Go.Asm.b2 b)
def g88 : (Bool) → Heap := fun b => []
theorem inj88 : ∀ a b, e88 a = e88 b → a = b := by
  rintro b b' h
  simp only [e88, mi_iff, ms_iff, mb_iff, my_iff, UInt8.toNat_inj, List.cons.injEq, AV.int.injEq, AV.str.injEq, AV.bool.injEq, AV.sl.injEq, AV.agg.injEq, AV.ip.injEq, AV.fn.injEq, AV.ifc.injEq, AV.mpr.injEq, Int.natCast_inj, and_true, true_and] at h
  simp_all only
noncomputable def S88 : FSpec := funS e88 p88 r88 g88 true
theorem ps88 (b : (Bool)) : psel e88 p88 [.bool b] = (True) := psel_at inj88 p88 b
theorem rs88 (b : (Bool)) : rsel e88 r88 .any [.bool b] = (.int .u32 (Go.Asm.b2 b)) := rsel_at inj88 r88 .any b
theorem hs88 (b : (Bool)) : rsel e88 g88 [] [.bool b] = ([]) := rsel_at inj88 g88 [] b
attribute [push_cast] S88 ps88 rs88 hs88
theorem body88 (Γ : Env) (b : Bool) : BodyOk Tryz.prog Γ Tryz.f88 [.bool b] [] (.int .u32 (Go.Asm.b2 b)) [] := by
  cases b
  · (intro X hP hΓ hL hfin; refine ⟨_, rfl, ?_⟩; rw [show Tryz.f88.ntmps = 4 from rfl]; rw [show Tryz.f88.results.toList = [.tmp 2] from rfl] at hfin; apply holds_of_ex X 400; simp (maxSteps := 1000000) only [push_cast, reduceCtorEq, Nat.reduceAdd, Nat.reduceMul, Nat.reduceSub, Nat.reduceBEq, Nat.reduceGT, Nat.reduceLT, Int.toNat_zero, Nat.reduceLeDiff, Int.reduceEq, Int.reduceLT, Int.reduceLE, hP, hΓ, hL, hfin, String.reduceEq, not_false_eq_true, if_true, if_false, Int.toNat_one, Bool.not_not])
    exact Into.one rfl rfl
  · (intro X hP hΓ hL hfin; refine ⟨_, rfl, ?_⟩; rw [show Tryz.f88.ntmps = 4 from rfl]; rw [show Tryz.f88.results.toList = [.tmp 2] from rfl] at hfin; apply holds_of_ex X 400; simp (maxSteps := 1000000) only [push_cast, reduceCtorEq, Nat.reduceAdd, Nat.reduceMul, Nat.reduceSub, Nat.reduceBEq, Nat.reduceGT, Nat.reduceLT, Int.toNat_zero, Nat.reduceLeDiff, Int.reduceEq, Int.reduceLT, Int.reduceLE, hP, hΓ, hL, hfin, String.reduceEq, not_false_eq_true, if_true, if_false, Int.toNat_one, Bool.not_not])
    exact Into.one rfl rfl
theorem con88 {Γ : Env} (h : EnvOk Tryz.prog Γ)  : Con Tryz.prog 88 S88 :=
  funS_con h (fn := Tryz.f88) (by kernel_rfl) rfl (by kernel_rfl) inj88 (by first | (intro h; cases h; done) | exact fun _ _ => rfl) fun b h => body88 Γ b
def e54 : (Int) × (Bool) × (Bool) × (Int) × (Int) × (Int) × (Int) × (Int) → List AV := fun (f, u, v, a, b, op, c, n) => [.agg [.int .i64 f, .bool u, .bool v, .int .i64 a, .int .i64 b, .int .i64 op, .int .i64 c, .int .i64 n]]
def p54 : (Int) × (Bool) × (Bool) × (Int) × (Int) × (Int) × (Int) × (Int) → Prop := fun (f, u, v, a, b, op, c, n) => rightB f u v a b op c n = true
def r54 : (Int) × (Bool) × (Bool) × (Int) × (Int) × (Int) × (Int) × (Int) → AV := fun (f, u, v, a, b, op, c, n) => .int .u32 (laid f u v a b op c n)
def g54 : (Int) × (Bool) × (Bool) × (Int) × (Int) × (Int) × (Int) × (Int) → Heap := fun (f, u, v, a, b, op, c, n) => []
theorem inj54 : ∀ a b, e54 a = e54 b → a = b := by
  rintro ⟨f, u, v, a, b, op, c, n⟩ ⟨f', u', v', a', b', op', c', n'⟩ h
  simp only [e54, mi_iff, ms_iff, mb_iff, my_iff, UInt8.toNat_inj, List.cons.injEq, AV.int.injEq, AV.str.injEq, AV.bool.injEq, AV.sl.injEq, AV.agg.injEq, AV.ip.injEq, AV.fn.injEq, AV.ifc.injEq, AV.mpr.injEq, Int.natCast_inj, and_true, true_and] at h
  simp_all only
noncomputable def S54 : FSpec := funS e54 p54 r54 g54 true
theorem ps54 (f : (Int)) (u : (Bool)) (v : (Bool)) (a : (Int)) (b : (Int)) (op : (Int)) (c : (Int)) (n : (Int)) : psel e54 p54 [.agg [.int .i64 f, .bool u, .bool v, .int .i64 a, .int .i64 b, .int .i64 op, .int .i64 c, .int .i64 n]] = (rightB f u v a b op c n = true) := psel_at inj54 p54 (f, u, v, a, b, op, c, n)
theorem rs54 (f : (Int)) (u : (Bool)) (v : (Bool)) (a : (Int)) (b : (Int)) (op : (Int)) (c : (Int)) (n : (Int)) : rsel e54 r54 .any [.agg [.int .i64 f, .bool u, .bool v, .int .i64 a, .int .i64 b, .int .i64 op, .int .i64 c, .int .i64 n]] = (.int .u32 (laid f u v a b op c n)) := rsel_at inj54 r54 .any (f, u, v, a, b, op, c, n)
theorem hs54 (f : (Int)) (u : (Bool)) (v : (Bool)) (a : (Int)) (b : (Int)) (op : (Int)) (c : (Int)) (n : (Int)) : rsel e54 g54 [] [.agg [.int .i64 f, .bool u, .bool v, .int .i64 a, .int .i64 b, .int .i64 op, .int .i64 c, .int .i64 n]] = ([]) := rsel_at inj54 g54 [] (f, u, v, a, b, op, c, n)
attribute [push_cast] S54 ps54 rs54 hs54
theorem body54 (Γ : Env) (h88 : Γ 88 = some S88) (f : Int) (u v : Bool) (a b op c n : Int) (hr : rightB f u v a b op c n = true) : BodyOk Tryz.prog Γ Tryz.f54 [.agg [.int .i64 f, .bool u, .bool v, .int .i64 a, .int .i64 b, .int .i64 op, .int .i64 c, .int .i64 n]] [] (.int .u32 (laid f u v a b op c n)) [] := by
  have hl := laid_lo hr
  have hr' := hr
  simp only [rightB, in16, Bool.and_eq_true, decide_eq_true_eq] at hr'
  obtain ⟨⟨⟨ha, hb⟩, hc⟩, hq⟩ := hr'
  have hf : 0 ≤ f ∧ f ≤ 3 := by
    by_cases f0 : f = 0
    · omega
    by_cases f1 : f = 1
    · omega
    by_cases f2 : f = 2
    · omega
    by_cases f3 : f = 3
    · omega
    rw [if_neg f0, if_neg f1, if_neg f2, if_neg f3] at hq; cases hq
  have hop : 0 ≤ op ∧ op ≤ 15 := by
    by_cases f0 : f = 0
    · rw [if_pos f0, Bool.and_eq_true] at hq; exact Go.Asm.may_op hq.2
    by_cases f1 : f = 1
    · rw [if_neg f0, if_pos f1, Bool.and_eq_true] at hq; exact Go.Asm.may_op hq.2
    by_cases f2 : f = 2
    · rw [if_neg f0, if_neg f1, if_pos f2] at hq; simp only [Bool.and_eq_true, decide_eq_true_eq] at hq; omega
    by_cases f3 : f = 3
    · rw [if_neg f0, if_neg f1, if_neg f2, if_pos f3] at hq; simp only [Bool.and_eq_true, decide_eq_true_eq] at hq; omega
    omega
  have hu := b2r u
  have hv := b2r v
  have w1 : IntKind.u32.wrap f = f := u32i f (by omega)
  have w2 : IntKind.u32.wrap (f * 1073741824) = f * 1073741824 := u32i _ (by omega)
  have w3 : IntKind.u32.wrap a = a := u32i a (by omega)
  have w4 : IntKind.u32.wrap (a * 16777216) = a * 16777216 := u32i _ (by omega)
  have w5 : IntKind.u32.wrap b = b := u32i b (by omega)
  have w6 : IntKind.u32.wrap (b * 1048576) = b * 1048576 := u32i _ (by omega)
  have w7 : IntKind.u32.wrap op = op := u32i op (by omega)
  have w8 : IntKind.u32.wrap (op * 65536) = op * 65536 := u32i _ (by omega)
  have w9 : IntKind.u32.wrap c = c := u32i c (by omega)
  have w11 : IntKind.u32.wrap (Go.Asm.b2 u * 536870912) = Go.Asm.b2 u * 536870912 := u32i _ (by omega)
  have w12 : IntKind.u32.wrap (Go.Asm.b2 v * 268435456) = Go.Asm.b2 v * 268435456 := u32i _ (by omega)
  have o1 : ibits .or .u32 (f * 1073741824) (Asm.b2 u * 536870912) = f * 1073741824 + Asm.b2 u * 536870912 := or_add 30 (by omega) (by omega) (by omega) (by omega)
  have o2 : ibits .or .u32 (f * 1073741824 + Asm.b2 u * 536870912) (Asm.b2 v * 268435456) = f * 1073741824 + Asm.b2 u * 536870912 + Asm.b2 v * 268435456 := or_add 29 (by omega) (by omega) (by omega) (by omega)
  have o3 : ibits .or .u32 (f * 1073741824 + Asm.b2 u * 536870912 + Asm.b2 v * 268435456) (a * 16777216) = f * 1073741824 + Asm.b2 u * 536870912 + Asm.b2 v * 268435456 + a * 16777216 := or_add 28 (by omega) (by omega) (by omega) (by omega)
  generalize hz : f * 1073741824 + Asm.b2 u * 536870912 + Asm.b2 v * 268435456 + a * 16777216 = z at *
  have hz1 : z % 16777216 = 0 ∧ 0 ≤ z ∧ z ≤ 4278190080 := by omega
  have o4 : ibits .or .u32 z (b * 1048576) = z + b * 1048576 := or_add 24 (by omega) (by omega) (by omega) (by omega)
  have o5 : ibits .or .u32 (z + b * 1048576) (op * 65536) = z + b * 1048576 + op * 65536 := or_add 20 (by omega) (by omega) (by omega) (by omega)
  (intro X hP hΓ hL hfin; refine ⟨_, rfl, ?_⟩; rw [show Tryz.f54.ntmps = 70 from rfl]; rw [show Tryz.f54.results.toList = [.tmp 2] from rfl] at hfin; apply holds_of_ex X 400; simp (maxSteps := 1000000) only [push_cast, reduceCtorEq, Nat.reduceAdd, Nat.reduceMul, Nat.reduceSub, Nat.reduceBEq, Nat.reduceGT, Nat.reduceLT, Int.toNat_zero, Nat.reduceLeDiff, Int.reduceEq, Int.reduceLT, Int.reduceLE, hP, hΓ, hL, hfin, String.reduceEq, not_false_eq_true, if_true, if_false, Int.toNat_one, Bool.not_not, h88])
  (refine Holds.drawnQ (by rw [hP]; kernel_rfl) (by kernel_rfl) ?_; simp (maxSteps := 1000000) only [push_cast, reduceCtorEq, Nat.reduceAdd, Nat.reduceMul, Nat.reduceSub, Nat.reduceBEq, Nat.reduceGT, Nat.reduceLT, Int.toNat_zero, Nat.reduceLeDiff, Int.reduceEq, Int.reduceLT, Int.reduceLE, hP, hΓ, hL, hfin, String.reduceEq, not_false_eq_true, if_true, if_false, Int.toNat_one, Bool.not_not, h88, pw30, pw29, pw28, pw24, w1, w2, w3, w4, w11, w12, o1, o2, o3, true_or, or_true])
  by_cases f0 : f = 0
  · rw [if_pos f0] at hq
    simp only [Bool.and_eq_true, decide_eq_true_eq] at hq
    have w10 : IntKind.u32.wrap n = n := u32i n (by omega)
    have o7 : ibits .or .u32 (z + b * 1048576 + op * 65536) n = z + b * 1048576 + op * 65536 + n := or_add 16 (by omega) (by omega) (by omega) (by omega)
    have o8 : ibits .or .u32 (z + b * 1048576 + op * 65536 + n) c = laid f u v a b op c n := by
      rw [or_add 16 (by omega) (by omega) (by omega) (by omega), laid, hz, if_pos (by omega)]; omega
    ((first | with_reducible refine holds_of_ex X 400 _ _ _ ?_ | skip); simp (maxSteps := 1000000) only [push_cast, reduceCtorEq, Nat.reduceAdd, Nat.reduceMul, Nat.reduceSub, Nat.reduceBEq, Nat.reduceGT, Nat.reduceLT, Int.toNat_zero, Nat.reduceLeDiff, Int.reduceEq, Int.reduceLT, Int.reduceLE, hP, hΓ, hL, hfin, String.reduceEq, not_false_eq_true, if_true, if_false, Int.toNat_one, Bool.not_not, f0, w10, w5, w6, w7, w8, w9, pw20, pw16, o4, o5, o7, o8])
    exact Into.one rfl rfl
  by_cases f1 : f = 1
  · rw [if_neg (by omega), if_pos f1] at hq
    simp only [Bool.and_eq_true, decide_eq_true_eq] at hq
    have w10 : IntKind.u32.wrap n = n := u32i n (by omega)
    have o7 : ibits .or .u32 (z + b * 1048576 + op * 65536) n = z + b * 1048576 + op * 65536 + n := or_add 16 (by omega) (by omega) (by omega) (by omega)
    have o8 : ibits .or .u32 (z + b * 1048576 + op * 65536 + n) c = laid f u v a b op c n := by
      rw [or_add 0 (by omega) (by omega) (by omega) (by omega), laid, hz, if_pos (by omega)]; omega
    ((first | with_reducible refine holds_of_ex X 400 _ _ _ ?_ | skip); simp (maxSteps := 1000000) only [push_cast, reduceCtorEq, Nat.reduceAdd, Nat.reduceMul, Nat.reduceSub, Nat.reduceBEq, Nat.reduceGT, Nat.reduceLT, Int.toNat_zero, Nat.reduceLeDiff, Int.reduceEq, Int.reduceLT, Int.reduceLE, hP, hΓ, hL, hfin, String.reduceEq, not_false_eq_true, if_true, if_false, Int.toNat_one, Bool.not_not, f0, f1, w10, w5, w6, w7, w8, w9, pw20, pw16, o4, o5, o7, o8])
    exact Into.one rfl rfl
  by_cases f2 : f = 2
  · rw [if_neg (by omega), if_neg (by omega), if_pos f2] at hq
    simp only [Bool.and_eq_true, decide_eq_true_eq] at hq
    have w10 : ibits .and .u32 (IntKind.u32.wrap n) 1048575 = n % 1048576 := by
      rw [u32w, show (1048575 : Int) = ((2 ^ 20 - 1 : Nat) : Int) by decide, and_mod 20 (by decide) (by omega)]; omega
    have o7 : ibits .or .u32 (z + b * 1048576) (n % 1048576) = laid f u v a b op c n := by
      rw [or_add 20 (by omega) (by omega) (by omega) (by omega), laid, hz, if_neg (by omega), if_pos f2]; omega
    ((first | with_reducible refine holds_of_ex X 400 _ _ _ ?_ | skip); simp (maxSteps := 1000000) only [push_cast, reduceCtorEq, Nat.reduceAdd, Nat.reduceMul, Nat.reduceSub, Nat.reduceBEq, Nat.reduceGT, Nat.reduceLT, Int.toNat_zero, Nat.reduceLeDiff, Int.reduceEq, Int.reduceLT, Int.reduceLE, hP, hΓ, hL, hfin, String.reduceEq, not_false_eq_true, if_true, if_false, Int.toNat_one, Bool.not_not, f0, f1, f2, w10, w5, w6, pw20, o4, o7])
    exact Into.one rfl rfl
  have f3 : f = 3 := by omega
  rw [if_neg (by omega), if_neg (by omega), if_neg f2, if_pos f3] at hq
  simp only [Bool.and_eq_true, decide_eq_true_eq] at hq
  have w10 : ibits .and .u32 (IntKind.u32.wrap n) 16777215 = n % 16777216 := by
    rw [u32w, show (16777215 : Int) = ((2 ^ 24 - 1 : Nat) : Int) by decide, and_mod 24 (by decide) (by omega)]; omega
  have o6 : ibits .or .u32 z (n % 16777216) = z + n % 16777216 := or_add 24 (by omega) (by omega) (by omega) (by omega)
  have o7 : ibits .or .u32 (z + n % 16777216) c = laid f u v a b op c n := by
    cases u
    · simp only [Bool.false_eq_true, if_false, decide_eq_true_eq] at hq
      obtain ⟨_, rfl⟩ := hq
      rw [or_add 24 (by omega) (by omega) (by omega) (by omega), laid, hz, if_neg (by omega), if_neg f2]; omega
    · simp only [if_true, Bool.and_eq_true, decide_eq_true_eq] at hq
      rw [or_add 0 (by omega) (by omega) (by omega) (by omega), laid, hz, if_neg (by omega), if_neg f2]; omega
  ((first | with_reducible refine holds_of_ex X 400 _ _ _ ?_ | skip); simp (maxSteps := 1000000) only [push_cast, reduceCtorEq, Nat.reduceAdd, Nat.reduceMul, Nat.reduceSub, Nat.reduceBEq, Nat.reduceGT, Nat.reduceLT, Int.toNat_zero, Nat.reduceLeDiff, Int.reduceEq, Int.reduceLT, Int.reduceLE, hP, hΓ, hL, hfin, String.reduceEq, not_false_eq_true, if_true, if_false, Int.toNat_one, Bool.not_not, f0, f1, f2, w10, o6, w9, o7])
  exact Into.one rfl rfl
theorem con54 {Γ : Env} (h : EnvOk Tryz.prog Γ) (h88 : Γ 88 = some S88) : Con Tryz.prog 54 S54 :=
  funS_con h (fn := Tryz.f54) (by kernel_rfl) rfl (by kernel_rfl) inj54 (by first | (intro h; cases h; done) | exact fun _ _ => rfl) fun ⟨f, u, v, a, b, op, c, n⟩ h => body54 Γ h88 f u v a b op c n h
end Go.Proofs.YtgemeilncdmapaaGreatDoor.asmDone
end
