/- Of assembly texts: operands, by the program. Conditions stand in each. Of assembly texts: operands, by the document. Conditions stand in each. Of assembly texts: the names, by the program. Conditions stand in each. Of assembly texts: the forms, by the document. Conditions stand in each. -/
import Derived.Test.YtgemeilncdmapaaGreatDoorQP
section
namespace Go.Proofs.YtgemeilncdmapaaGreatDoor.asmDone
open Go Go.Eng Go.Proofs Go.RowKit
open Go.Asm (mayB in16 rightB laid sx In flds rightI laidI decB laid_lo ops cnds opT cnT regT sufT nameT hexC hexT sep lastT insT showF joinT numO prgN prgB regO refP refO dgt dval ixO blk brO)
set_option linter.unusedVariables false
set_option linter.unusedSimpArgs false
set_option maxRecDepth 100000
set_option maxHeartbeats 4000000
theorem toNat2 : Int.toNat 2 = 2 := rfl
theorem prg_wr (s : List UInt8) : IntKind.i64.wrap (prgN s) = prgN s := by
  have := prg_bd s
  exact wr_i64 _ (by constructor <;> omega)
/-- the last operand -/
def fin7 (f : Int) (u v : Bool) (a b op c n : Int) (g : Bool) (z : List UInt8) : In × Bool :=
  if prgB z then (⟨f, u, v, a, b, op, c, prgN z⟩, decide (prgN z = IntKind.i64.wrap (IntKind.i32.wrap (prgN z)))) else (⟨0, u, v, a, b, op, rgN z, n⟩, (regO z).isSome && g && (!decide (op = 0) || !u && !v))
def opV (f : Int) (u v : Bool) (a b op c n : Int) (l : List (List UInt8)) : In × Bool :=
  if f = 0 then match l with
    | [x] => if (regO x).isSome then (⟨f, u, v, rgN x, b, op, c, n⟩, true) else (⟨f, u, v, a, b, op, c, n⟩, false)
    | _ => (⟨f, u, v, a, b, op, c, n⟩, false)
  else if f = 1 ∧ op = 15 then match l with
    | [z] => fin7 f u v a b op c n false z
    | _ => (⟨f, u, v, a, b, op, c, n⟩, false)
  else if f = 1 ∧ op = 0 then match l with
    | [x, z] => if (regO x).isSome then fin7 f u v (rgN x) b op c n true z else (⟨f, u, v, a, b, op, c, n⟩, false)
    | _ => (⟨f, u, v, a, b, op, c, n⟩, false)
  else match l with
    | [x, y, z] => if (regO x).isSome then (if (regO y).isSome then fin7 f u v (rgN x) (rgN y) op c n true z else (⟨f, u, v, rgN x, b, op, c, n⟩, false)) else (⟨f, u, v, a, b, op, c, n⟩, false)
    | _ => (⟨f, u, v, a, b, op, c, n⟩, false)
def e70 : (Int) × (Bool) × (Bool) × (Int) × (Int) × (Int) × (Int) × (Int) × (List (List UInt8)) → List AV := fun (f, u, v, a, b, op, c, n, l) => [.agg [.int .i64 f, .bool u, .bool v, .int .i64 a, .int .i64 b, .int .i64 op, .int .i64 c, .int .i64 n], .sl (l.map AV.str) l.length]
def p70 : (Int) × (Bool) × (Bool) × (Int) × (Int) × (Int) × (Int) × (Int) × (List (List UInt8)) → Prop := fun (f, u, v, a, b, op, c, n, l) => (∀ x ∈ l, x.length ≤ 4194304) ∧ l.length ≤ 4194304
def r70 : (Int) × (Bool) × (Bool) × (Int) × (Int) × (Int) × (Int) × (Int) × (List (List UInt8)) → AV := fun (f, u, v, a, b, op, c, n, l) => .tup [agI (opV f u v a b op c n l).1, .bool (opV f u v a b op c n l).2]
def g70 : (Int) × (Bool) × (Bool) × (Int) × (Int) × (Int) × (Int) × (Int) × (List (List UInt8)) → Heap := fun (f, u, v, a, b, op, c, n, l) => []
theorem inj70 : ∀ a b, e70 a = e70 b → a = b := by
  rintro ⟨f, u, v, a, b, op, c, n, l⟩ ⟨f', u', v', a', b', op', c', n', l'⟩ h
  simp only [e70, mi_iff, ms_iff, mb_iff, my_iff, UInt8.toNat_inj, List.cons.injEq, AV.int.injEq, AV.str.injEq, AV.bool.injEq, AV.sl.injEq, AV.agg.injEq, AV.ip.injEq, AV.fn.injEq, AV.ifc.injEq, AV.mpr.injEq, Int.natCast_inj, and_true, true_and] at h
  simp_all only
noncomputable def S70 : FSpec := funS e70 p70 r70 g70 true
theorem ps70 (f : (Int)) (u : (Bool)) (v : (Bool)) (a : (Int)) (b : (Int)) (op : (Int)) (c : (Int)) (n : (Int)) (l : (List (List UInt8))) : psel e70 p70 [.agg [.int .i64 f, .bool u, .bool v, .int .i64 a, .int .i64 b, .int .i64 op, .int .i64 c, .int .i64 n], .sl (l.map AV.str) l.length] = ((∀ x ∈ l, x.length ≤ 4194304) ∧ l.length ≤ 4194304) := psel_at inj70 p70 (f, u, v, a, b, op, c, n, l)
theorem rs70 (f : (Int)) (u : (Bool)) (v : (Bool)) (a : (Int)) (b : (Int)) (op : (Int)) (c : (Int)) (n : (Int)) (l : (List (List UInt8))) : rsel e70 r70 .any [.agg [.int .i64 f, .bool u, .bool v, .int .i64 a, .int .i64 b, .int .i64 op, .int .i64 c, .int .i64 n], .sl (l.map AV.str) l.length] = (.tup [agI (opV f u v a b op c n l).1, .bool (opV f u v a b op c n l).2]) := rsel_at inj70 r70 .any (f, u, v, a, b, op, c, n, l)
theorem hs70 (f : (Int)) (u : (Bool)) (v : (Bool)) (a : (Int)) (b : (Int)) (op : (Int)) (c : (Int)) (n : (Int)) (l : (List (List UInt8))) : rsel e70 g70 [] [.agg [.int .i64 f, .bool u, .bool v, .int .i64 a, .int .i64 b, .int .i64 op, .int .i64 c, .int .i64 n], .sl (l.map AV.str) l.length] = ([]) := rsel_at inj70 g70 [] (f, u, v, a, b, op, c, n, l)
attribute [push_cast] S70 ps70 rs70 hs70
theorem body70 (Γ : Env) (h21 : Γ 21 = some S21) (h69 : Γ 69 = some S69) (h97 : Γ 97 = some S97) (f : Int) (u v : Bool) (a b op c n : Int) (l : List (List UInt8)) (hx : ∀ x ∈ l, x.length ≤ 4194304) (hl : l.length ≤ 4194304) : BodyOk Tryz.prog Γ Tryz.f70 [.agg [.int .i64 f, .bool u, .bool v, .int .i64 a, .int .i64 b, .int .i64 op, .int .i64 c, .int .i64 n], .sl (l.map AV.str) l.length] [] (.tup [agI (opV f u v a b op c n l).1, .bool (opV f u v a b op c n l).2]) [] := by
  by_cases f0 : f = 0
  · subst f0
    by_cases h1 : l.length = 1
    case neg =>
      have hd : decide (((l.length : Nat) : Int) = 1) = false := decide_eq_false (by omega)
      have e : opV 0 u v a b op c n l = (⟨0, u, v, a, b, op, c, n⟩, false) := by
        unfold opV
        rw [if_pos rfl]
        match l, h1 with
        | [], _ => rfl
        | [_], h => exact absurd rfl h
        | _ :: _ :: _, _ => rfl
      rw [e]
      (intro X hP hΓ hL hfin; refine ⟨_, rfl, ?_⟩; rw [show Tryz.f70.ntmps = 124 from rfl]; rw [show Tryz.f70.results.toList = [.cell 4 42, .tmp 5] from rfl] at hfin; apply holds_of_ex X 400; simp (maxSteps := 1000000) only [push_cast, reduceCtorEq, Nat.reduceAdd, Nat.reduceMul, Nat.reduceSub, Nat.reduceBEq, Nat.reduceGT, Nat.reduceLT, Int.toNat_zero, Nat.reduceLeDiff, Int.reduceEq, Int.reduceLT, Int.reduceLE, hP, hΓ, hL, hfin, String.reduceEq, not_false_eq_true, if_true, if_false, Int.toNat_one, Bool.not_not, b2t, b2f, Int.reduceAdd, toNat2, i64_0, i64_1, i64_2, i64_3, h21, hd])
      exact Into.one rfl rfl
    match l, h1 with
    | [x], _ =>
      have hx0 := hx x (by simp)
      show BodyOk Tryz.prog Γ Tryz.f70 [.agg [.int .i64 0, .bool u, .bool v, .int .i64 a, .int .i64 b, .int .i64 op, .int .i64 c, .int .i64 n], .sl [.str x] 1] [] (.tup [agI (opV 0 u v a b op c n [x]).1, .bool (opV 0 u v a b op c n [x]).2]) []
      (intro X hP hΓ hL hfin; refine ⟨_, rfl, ?_⟩; rw [show Tryz.f70.ntmps = 124 from rfl]; rw [show Tryz.f70.results.toList = [.cell 4 42, .tmp 5] from rfl] at hfin; apply holds_of_ex X 400; simp (maxSteps := 1000000) only [push_cast, reduceCtorEq, Nat.reduceAdd, Nat.reduceMul, Nat.reduceSub, Nat.reduceBEq, Nat.reduceGT, Nat.reduceLT, Int.toNat_zero, Nat.reduceLeDiff, Int.reduceEq, Int.reduceLT, Int.reduceLE, hP, hΓ, hL, hfin, String.reduceEq, not_false_eq_true, if_true, if_false, Int.toNat_one, Bool.not_not, b2t, b2f, Int.reduceAdd, toNat2, i64_0, i64_1, i64_2, i64_3, h21])
      skip
      refine Holds.loopM (ι := {k : Nat // k ≤ 1 ∧ (0 < k → (regO x).isSome = true)}) [false, true, true, false, true, false, true, true, false, false, false, false, true, true, true, true, false, false, false, false, false, false, false, false, false, false, false, false, false, false, false, false, false, false, false, false, false, false, false, false, false, false, false, false, false, false, false, false, false, false, true, true, false, false, false, false, false, false, false, false, false, false, false, false, false, false, false, false, false, false, false, false, false, false, false, false, false, false, false, false, false, false, false, false, false, false, false, false, false, false, false, false, false, false, false, false, false, false, false, false, false, false, false, false, false, false, false, false, false, false, false, false, false, false, false, false, false, false, false, false, false, false, false, false] (fun i => [(52, .int .i64 i.1)]) (fun i => [.row [.int .i64 0, .bool u, .bool v, .int .i64 (if 0 < i.1 then rgN x else a), .int .i64 b, .int .i64 op, .int .i64 c, .int .i64 n] 8 0, .row [.int .i64 0, .bool false, .bool false, .int .i64 0, .int .i64 0, .int .i64 0, .int .i64 0, .int .i64 0] 8 0, .row [.ref 0 0 3, .ref 0 0 4] 1 0]) (fun i => 1 - i.1) ⟨0, by simp⟩ ?_ ?_
      · (rw [hL]; simp only [push_cast, Int.natCast_zero]; exact Into.sameA)
      rintro ⟨k, hk⟩
      have hk2 : k = 0 ∨ k = 1 := by omega
      rcases hk2 with rfl | rfl
      · rcases Bool.eq_false_or_eq_true (regO x).isSome with hr | hr
        · ((first | with_reducible refine holds_of_ex X 400 _ _ _ ?_ | skip); simp (maxSteps := 1000000) only [push_cast, reduceCtorEq, Nat.reduceAdd, Nat.reduceMul, Nat.reduceSub, Nat.reduceBEq, Nat.reduceGT, Nat.reduceLT, Int.toNat_zero, Nat.reduceLeDiff, Int.reduceEq, Int.reduceLT, Int.reduceLE, hP, hΓ, hL, hfin, String.reduceEq, not_false_eq_true, if_true, if_false, Int.toNat_one, Bool.not_not, b2t, b2f, Int.reduceAdd, toNat2, i64_0, i64_1, i64_2, i64_3, h69, hr, hx0, Int.natCast_zero])
          refine ⟨⟨1, by omega, fun _ => hr⟩, by simp only; omega, ?_⟩
          exact Into.sameA
        · have e : opV 0 u v a b op c n [x] = (⟨0, u, v, a, b, op, c, n⟩, false) := by
            unfold opV
            rw [if_pos rfl]
            simp only [hr, Bool.false_eq_true, if_false, if_true]
          rw [e] at hfin
          ((first | with_reducible refine holds_of_ex X 400 _ _ _ ?_ | skip); simp (maxSteps := 1000000) only [push_cast, reduceCtorEq, Nat.reduceAdd, Nat.reduceMul, Nat.reduceSub, Nat.reduceBEq, Nat.reduceGT, Nat.reduceLT, Int.toNat_zero, Nat.reduceLeDiff, Int.reduceEq, Int.reduceLT, Int.reduceLE, hP, hΓ, hL, hfin, String.reduceEq, not_false_eq_true, if_true, if_false, Int.toNat_one, Bool.not_not, b2t, b2f, Int.reduceAdd, toNat2, i64_0, i64_1, i64_2, i64_3, h69, hr, hx0, Int.natCast_zero])
          exact Into.one rfl rfl
      · have hrx := hk.2 (by decide)
        have e : opV 0 u v a b op c n [x] = (⟨0, u, v, rgN x, b, op, c, n⟩, true) := by
          unfold opV
          rw [if_pos rfl]
          simp only [hrx, if_true]
        rw [e] at hfin
        ((first | with_reducible refine holds_of_ex X 400 _ _ _ ?_ | skip); simp (maxSteps := 1000000) only [push_cast, reduceCtorEq, Nat.reduceAdd, Nat.reduceMul, Nat.reduceSub, Nat.reduceBEq, Nat.reduceGT, Nat.reduceLT, Int.toNat_zero, Nat.reduceLeDiff, Int.reduceEq, Int.reduceLT, Int.reduceLE, hP, hΓ, hL, hfin, String.reduceEq, not_false_eq_true, if_true, if_false, Int.toNat_one, Bool.not_not, b2t, b2f, Int.reduceAdd, toNat2, i64_0, i64_1, i64_2, i64_3, Int.natCast_zero])
        exact Into.one rfl rfl
  by_cases f15 : f = 1 ∧ op = 15
  · obtain ⟨rfl, rfl⟩ := f15
    by_cases h1 : l.length = 1
    case neg =>
      have hd : decide (((l.length : Nat) : Int) = 1) = false := decide_eq_false (by omega)
      have e : opV 1 u v a b 15 c n l = (⟨1, u, v, a, b, 15, c, n⟩, false) := by
        unfold opV
        rw [if_neg (by decide), if_pos ⟨rfl, rfl⟩]
        match l, h1 with
        | [], _ => rfl
        | [_], h => exact absurd rfl h
        | _ :: _ :: _, _ => rfl
      rw [e]
      (intro X hP hΓ hL hfin; refine ⟨_, rfl, ?_⟩; rw [show Tryz.f70.ntmps = 124 from rfl]; rw [show Tryz.f70.results.toList = [.cell 4 42, .tmp 5] from rfl] at hfin; apply holds_of_ex X 400; simp (maxSteps := 1000000) only [push_cast, reduceCtorEq, Nat.reduceAdd, Nat.reduceMul, Nat.reduceSub, Nat.reduceBEq, Nat.reduceGT, Nat.reduceLT, Int.toNat_zero, Nat.reduceLeDiff, Int.reduceEq, Int.reduceLT, Int.reduceLE, hP, hΓ, hL, hfin, String.reduceEq, not_false_eq_true, if_true, if_false, Int.toNat_one, Bool.not_not, b2t, b2f, Int.reduceAdd, toNat2, i64_0, i64_1, i64_2, i64_3, h21, hd])
      exact Into.one rfl rfl
    match l, h1 with
    | [z], _ =>
      have hz0 := hx z (by simp)
      show BodyOk Tryz.prog Γ Tryz.f70 [.agg [.int .i64 1, .bool u, .bool v, .int .i64 a, .int .i64 b, .int .i64 15, .int .i64 c, .int .i64 n], .sl [.str z] 1] [] (.tup [agI (opV 1 u v a b 15 c n [z]).1, .bool (opV 1 u v a b 15 c n [z]).2]) []
      (intro X hP hΓ hL hfin; refine ⟨_, rfl, ?_⟩; rw [show Tryz.f70.ntmps = 124 from rfl]; rw [show Tryz.f70.results.toList = [.cell 4 42, .tmp 5] from rfl] at hfin; apply holds_of_ex X 400; simp (maxSteps := 1000000) only [push_cast, reduceCtorEq, Nat.reduceAdd, Nat.reduceMul, Nat.reduceSub, Nat.reduceBEq, Nat.reduceGT, Nat.reduceLT, Int.toNat_zero, Nat.reduceLeDiff, Int.reduceEq, Int.reduceLT, Int.reduceLE, hP, hΓ, hL, hfin, String.reduceEq, not_false_eq_true, if_true, if_false, Int.toNat_one, Bool.not_not, b2t, b2f, Int.reduceAdd, toNat2, i64_0, i64_1, i64_2, i64_3, h21])
      skip
      refine Holds.loopM (ι := {k : Nat // k ≤ 0}) [false, true, true, false, true, false, true, true, false, false, false, false, true, true, true, true, false, false, false, false, false, false, false, false, false, false, false, false, false, false, false, false, false, false, false, false, false, false, false, false, false, false, false, false, false, false, false, false, false, false, true, true, false, false, false, false, false, false, false, false, false, false, false, false, false, false, false, false, false, false, false, false, false, false, false, false, false, false, false, false, false, false, false, false, false, false, false, false, false, false, false, false, false, false, false, false, false, false, false, false, false, false, false, false, false, false, false, false, false, false, false, false, false, false, false, false, false, false, false, false, false, false, false, false] (fun i => [(52, .int .i64 i.1)]) (fun i => [.row [.int .i64 1, .bool u, .bool v, .int .i64 a, .int .i64 b, .int .i64 15, .int .i64 c, .int .i64 n] 8 0, .row [.int .i64 0, .bool false, .bool false, .int .i64 0, .int .i64 0, .int .i64 0, .int .i64 0, .int .i64 0] 8 0, .row [.ref 0 0 3, .ref 0 0 4] 1 0]) (fun i => 0 - i.1) ⟨0, by simp⟩ ?_ ?_
      · (rw [hL]; simp only [push_cast, Int.natCast_zero]; exact Into.sameA)
      rintro ⟨k, hk⟩
      have hk2 : k = 0 := by omega
      subst hk2
      rcases Bool.eq_false_or_eq_true (prgB z) with hz | hz
      · have e : opV 1 u v a b 15 c n [z] = (⟨1, u, v, a, b, 15, c, prgN z⟩, decide (prgN z = IntKind.i64.wrap (IntKind.i32.wrap (prgN z)))) := by
          unfold opV
          rw [if_neg (by decide), if_pos ⟨rfl, rfl⟩]
          simp only [fin7, hz, if_true]
        rw [e] at hfin
        ((first | with_reducible refine holds_of_ex X 400 _ _ _ ?_ | skip); simp (maxSteps := 1000000) only [push_cast, reduceCtorEq, Nat.reduceAdd, Nat.reduceMul, Nat.reduceSub, Nat.reduceBEq, Nat.reduceGT, Nat.reduceLT, Int.toNat_zero, Nat.reduceLeDiff, Int.reduceEq, Int.reduceLT, Int.reduceLE, hP, hΓ, hL, hfin, String.reduceEq, not_false_eq_true, if_true, if_false, Int.toNat_one, Bool.not_not, b2t, b2f, Int.reduceAdd, toNat2, i64_0, i64_1, i64_2, i64_3, h97, hz, hz0, prg_wr])
        exact Into.one rfl rfl
      · have e : opV 1 u v a b 15 c n [z] = (⟨0, u, v, a, b, 15, rgN z, n⟩, (regO z).isSome && false && (!decide (15 = 0) || !u && !v)) := by
          unfold opV
          rw [if_neg (by decide), if_pos ⟨rfl, rfl⟩]
          simp only [fin7, hz, if_true, Bool.false_eq_true, if_false]
          (try rfl)
        rw [e] at hfin
        ((first | with_reducible refine holds_of_ex X 400 _ _ _ ?_ | skip); simp (maxSteps := 1000000) only [push_cast, reduceCtorEq, Nat.reduceAdd, Nat.reduceMul, Nat.reduceSub, Nat.reduceBEq, Nat.reduceGT, Nat.reduceLT, Int.toNat_zero, Nat.reduceLeDiff, Int.reduceEq, Int.reduceLT, Int.reduceLE, hP, hΓ, hL, hfin, String.reduceEq, not_false_eq_true, if_true, if_false, Int.toNat_one, Bool.not_not, b2t, b2f, Int.reduceAdd, toNat2, i64_0, i64_1, i64_2, i64_3, h97, h69, hz, hz0, prg_wr, Bool.and_assoc])
        (refine Holds.drawnE (patH [.fix (.row [.int .i64 0, .bool u, .bool v, .int .i64 (a), .int .i64 (b), .int .i64 15, .int .i64 (rgN z), .int .i64 n] 8 0)]) [0, 21] [] [] false (by rw [hP]; kernel_rfl) (by kernel_rfl) (by kernel_rfl) (by kernel_rfl) (by first | exact .inl rfl | exact .inr fun _ _ h => patH_app _ _ h) (by first | (simp only [push_cast]; done) | (simp only [push_cast, and_true]; omega)) ?_; simp (maxSteps := 1000000) only [↓reduceIte, Option.getD_some, push_cast, reduceCtorEq, Nat.reduceAdd, Nat.reduceMul, Nat.reduceSub, Nat.reduceBEq, Nat.reduceGT, Nat.reduceLT, Int.toNat_zero, Nat.reduceLeDiff, Int.reduceEq, Int.reduceLT, Int.reduceLE, hP, hΓ, hL, hfin, String.reduceEq, not_false_eq_true, if_true, if_false, Int.toNat_one, Bool.not_not, b2t, b2f, Int.reduceAdd, toNat2, i64_0, i64_1, i64_2, i64_3, Bool.and_assoc])
        (try ((first | with_reducible refine holds_of_ex X 400 _ _ _ ?_ | skip); simp (maxSteps := 1000000) only [push_cast, reduceCtorEq, Nat.reduceAdd, Nat.reduceMul, Nat.reduceSub, Nat.reduceBEq, Nat.reduceGT, Nat.reduceLT, Int.toNat_zero, Nat.reduceLeDiff, Int.reduceEq, Int.reduceLT, Int.reduceLE, hP, hΓ, hL, hfin, String.reduceEq, not_false_eq_true, if_true, if_false, Int.toNat_one, Bool.not_not, b2t, b2f, Int.reduceAdd, toNat2, i64_0, i64_1, i64_2, i64_3]))
        exact Into.one rfl rfl
  by_cases f10 : f = 1 ∧ op = 0
  · obtain ⟨rfl, rfl⟩ := f10
    by_cases h1 : l.length = 2
    case neg =>
      have hd : decide (((l.length : Nat) : Int) = 2) = false := decide_eq_false (by omega)
      have e : opV 1 u v a b 0 c n l = (⟨1, u, v, a, b, 0, c, n⟩, false) := by
        unfold opV
        rw [if_neg (by decide), if_neg (by decide), if_pos ⟨rfl, rfl⟩]
        match l, h1 with
        | [], _ => rfl
        | [_], _ => rfl
        | [_, _], h => exact absurd rfl h
        | _ :: _ :: _ :: _, _ => rfl
      rw [e]
      (intro X hP hΓ hL hfin; refine ⟨_, rfl, ?_⟩; rw [show Tryz.f70.ntmps = 124 from rfl]; rw [show Tryz.f70.results.toList = [.cell 4 42, .tmp 5] from rfl] at hfin; apply holds_of_ex X 400; simp (maxSteps := 1000000) only [push_cast, reduceCtorEq, Nat.reduceAdd, Nat.reduceMul, Nat.reduceSub, Nat.reduceBEq, Nat.reduceGT, Nat.reduceLT, Int.toNat_zero, Nat.reduceLeDiff, Int.reduceEq, Int.reduceLT, Int.reduceLE, hP, hΓ, hL, hfin, String.reduceEq, not_false_eq_true, if_true, if_false, Int.toNat_one, Bool.not_not, b2t, b2f, Int.reduceAdd, toNat2, i64_0, i64_1, i64_2, i64_3, h21, hd])
      exact Into.one rfl rfl
    match l, h1 with
    | [x, z], _ =>
      have hx0 := hx x (by simp)
      have hz0 := hx z (by simp)
      show BodyOk Tryz.prog Γ Tryz.f70 [.agg [.int .i64 1, .bool u, .bool v, .int .i64 a, .int .i64 b, .int .i64 0, .int .i64 c, .int .i64 n], .sl [.str x, .str z] 2] [] (.tup [agI (opV 1 u v a b 0 c n [x, z]).1, .bool (opV 1 u v a b 0 c n [x, z]).2]) []
      (intro X hP hΓ hL hfin; refine ⟨_, rfl, ?_⟩; rw [show Tryz.f70.ntmps = 124 from rfl]; rw [show Tryz.f70.results.toList = [.cell 4 42, .tmp 5] from rfl] at hfin; apply holds_of_ex X 400; simp (maxSteps := 1000000) only [push_cast, reduceCtorEq, Nat.reduceAdd, Nat.reduceMul, Nat.reduceSub, Nat.reduceBEq, Nat.reduceGT, Nat.reduceLT, Int.toNat_zero, Nat.reduceLeDiff, Int.reduceEq, Int.reduceLT, Int.reduceLE, hP, hΓ, hL, hfin, String.reduceEq, not_false_eq_true, if_true, if_false, Int.toNat_one, Bool.not_not, b2t, b2f, Int.reduceAdd, toNat2, i64_0, i64_1, i64_2, i64_3, h21])
      skip
      refine Holds.loopM (ι := {k : Nat // k ≤ 1 ∧ (0 < k → (regO x).isSome = true)}) [false, true, true, false, true, false, true, true, false, false, false, false, true, true, true, true, false, false, false, false, false, false, false, false, false, false, false, false, false, false, false, false, false, false, false, false, false, false, false, false, false, false, false, false, false, false, false, false, false, false, true, true, false, false, false, false, false, false, false, false, false, false, false, false, false, false, false, false, false, false, false, false, false, false, false, false, false, false, false, false, false, false, false, false, false, false, false, false, false, false, false, false, false, false, false, false, false, false, false, false, false, false, false, false, false, false, false, false, false, false, false, false, false, false, false, false, false, false, false, false, false, false, false, false] (fun i => [(52, .int .i64 i.1)]) (fun i => [.row [.int .i64 1, .bool u, .bool v, .int .i64 (if 0 < i.1 then rgN x else a), .int .i64 b, .int .i64 0, .int .i64 c, .int .i64 n] 8 0, .row [.int .i64 0, .bool false, .bool false, .int .i64 0, .int .i64 0, .int .i64 0, .int .i64 0, .int .i64 0] 8 0, .row [.ref 0 0 3, .ref 0 0 4] 1 0]) (fun i => 1 - i.1) ⟨0, by simp⟩ ?_ ?_
      · (rw [hL]; simp only [push_cast, Int.natCast_zero]; exact Into.sameA)
      rintro ⟨k, hk⟩
      have hk2 : k = 0 ∨ k = 1 := by omega
      rcases hk2 with rfl | rfl
      · rcases Bool.eq_false_or_eq_true (regO x).isSome with hr | hr
        · ((first | with_reducible refine holds_of_ex X 400 _ _ _ ?_ | skip); simp (maxSteps := 1000000) only [push_cast, reduceCtorEq, Nat.reduceAdd, Nat.reduceMul, Nat.reduceSub, Nat.reduceBEq, Nat.reduceGT, Nat.reduceLT, Int.toNat_zero, Nat.reduceLeDiff, Int.reduceEq, Int.reduceLT, Int.reduceLE, hP, hΓ, hL, hfin, String.reduceEq, not_false_eq_true, if_true, if_false, Int.toNat_one, Bool.not_not, b2t, b2f, Int.reduceAdd, toNat2, i64_0, i64_1, i64_2, i64_3, h69, hr, hx0, Int.natCast_zero])
          refine ⟨⟨1, by omega, fun _ => hr⟩, by simp only; omega, ?_⟩
          exact Into.sameA
        · have e : opV 1 u v a b 0 c n [x, z] = (⟨1, u, v, a, b, 0, c, n⟩, false) := by
            unfold opV
            rw [if_neg (by decide), if_neg (by decide), if_pos ⟨rfl, rfl⟩]
            simp only [hr, Bool.false_eq_true, if_false, if_true]
          rw [e] at hfin
          ((first | with_reducible refine holds_of_ex X 400 _ _ _ ?_ | skip); simp (maxSteps := 1000000) only [push_cast, reduceCtorEq, Nat.reduceAdd, Nat.reduceMul, Nat.reduceSub, Nat.reduceBEq, Nat.reduceGT, Nat.reduceLT, Int.toNat_zero, Nat.reduceLeDiff, Int.reduceEq, Int.reduceLT, Int.reduceLE, hP, hΓ, hL, hfin, String.reduceEq, not_false_eq_true, if_true, if_false, Int.toNat_one, Bool.not_not, b2t, b2f, Int.reduceAdd, toNat2, i64_0, i64_1, i64_2, i64_3, h69, hr, hx0, Int.natCast_zero])
          exact Into.one rfl rfl
      · have hrx := hk.2 (by decide)
        rcases Bool.eq_false_or_eq_true (prgB z) with hz | hz
        · have e : opV 1 u v a b 0 c n [x, z] = (⟨1, u, v, rgN x, b, 0, c, prgN z⟩, decide (prgN z = IntKind.i64.wrap (IntKind.i32.wrap (prgN z)))) := by
            unfold opV
            rw [if_neg (by decide), if_neg (by decide), if_pos ⟨rfl, rfl⟩]
            simp only [fin7, hz, hrx, if_true]
          rw [e] at hfin
          ((first | with_reducible refine holds_of_ex X 400 _ _ _ ?_ | skip); simp (maxSteps := 1000000) only [push_cast, reduceCtorEq, Nat.reduceAdd, Nat.reduceMul, Nat.reduceSub, Nat.reduceBEq, Nat.reduceGT, Nat.reduceLT, Int.toNat_zero, Nat.reduceLeDiff, Int.reduceEq, Int.reduceLT, Int.reduceLE, hP, hΓ, hL, hfin, String.reduceEq, not_false_eq_true, if_true, if_false, Int.toNat_one, Bool.not_not, b2t, b2f, Int.reduceAdd, toNat2, i64_0, i64_1, i64_2, i64_3, h97, hz, hz0, prg_wr])
          exact Into.one rfl rfl
        · have e : opV 1 u v a b 0 c n [x, z] = (⟨0, u, v, rgN x, b, 0, rgN z, n⟩, (regO z).isSome && true && (!decide (0 = 0) || !u && !v)) := by
            unfold opV
            rw [if_neg (by decide), if_neg (by decide), if_pos ⟨rfl, rfl⟩]
            simp only [fin7, hz, hrx, if_true, Bool.false_eq_true, if_false]
            (try rfl)
          rw [e] at hfin
          ((first | with_reducible refine holds_of_ex X 400 _ _ _ ?_ | skip); simp (maxSteps := 1000000) only [push_cast, reduceCtorEq, Nat.reduceAdd, Nat.reduceMul, Nat.reduceSub, Nat.reduceBEq, Nat.reduceGT, Nat.reduceLT, Int.toNat_zero, Nat.reduceLeDiff, Int.reduceEq, Int.reduceLT, Int.reduceLE, hP, hΓ, hL, hfin, String.reduceEq, not_false_eq_true, if_true, if_false, Int.toNat_one, Bool.not_not, b2t, b2f, Int.reduceAdd, toNat2, i64_0, i64_1, i64_2, i64_3, h97, h69, hz, hz0, prg_wr, Bool.and_assoc])
          (refine Holds.drawnE (patH [.fix (.row [.int .i64 0, .bool u, .bool v, .int .i64 (rgN x), .int .i64 (b), .int .i64 0, .int .i64 (rgN z), .int .i64 n] 8 0)]) [0, 21] [] [] false (by rw [hP]; kernel_rfl) (by kernel_rfl) (by kernel_rfl) (by kernel_rfl) (by first | exact .inl rfl | exact .inr fun _ _ h => patH_app _ _ h) (by first | (simp only [push_cast]; done) | (simp only [push_cast, and_true]; omega)) ?_; simp (maxSteps := 1000000) only [↓reduceIte, Option.getD_some, push_cast, reduceCtorEq, Nat.reduceAdd, Nat.reduceMul, Nat.reduceSub, Nat.reduceBEq, Nat.reduceGT, Nat.reduceLT, Int.toNat_zero, Nat.reduceLeDiff, Int.reduceEq, Int.reduceLT, Int.reduceLE, hP, hΓ, hL, hfin, String.reduceEq, not_false_eq_true, if_true, if_false, Int.toNat_one, Bool.not_not, b2t, b2f, Int.reduceAdd, toNat2, i64_0, i64_1, i64_2, i64_3, Bool.and_assoc])
          (try ((first | with_reducible refine holds_of_ex X 400 _ _ _ ?_ | skip); simp (maxSteps := 1000000) only [push_cast, reduceCtorEq, Nat.reduceAdd, Nat.reduceMul, Nat.reduceSub, Nat.reduceBEq, Nat.reduceGT, Nat.reduceLT, Int.toNat_zero, Nat.reduceLeDiff, Int.reduceEq, Int.reduceLT, Int.reduceLE, hP, hΓ, hL, hfin, String.reduceEq, not_false_eq_true, if_true, if_false, Int.toNat_one, Bool.not_not, b2t, b2f, Int.reduceAdd, toNat2, i64_0, i64_1, i64_2, i64_3]))
          exact Into.one rfl rfl
  have g1 : (decide (f = 1) && decide (op = 15)) = false := by rw [Bool.eq_false_iff]; simpa using f15
  have g2 : (decide (f = 1) && decide (op = 0)) = false := by rw [Bool.eq_false_iff]; simpa using f10
  by_cases h1 : l.length = 3
  case neg =>
    have hd : decide (((l.length : Nat) : Int) = 3) = false := decide_eq_false (by omega)
    have e : opV f u v a b op c n l = (⟨f, u, v, a, b, op, c, n⟩, false) := by
      unfold opV
      rw [if_neg f0, if_neg f15, if_neg f10]
      match l, h1 with
      | [], _ => rfl
      | [_], _ => rfl
      | [_, _], _ => rfl
      | [_, _, _], h => exact absurd rfl h
      | _ :: _ :: _ :: _ :: _, _ => rfl
    rw [e]
    (intro X hP hΓ hL hfin; refine ⟨_, rfl, ?_⟩; rw [show Tryz.f70.ntmps = 124 from rfl]; rw [show Tryz.f70.results.toList = [.cell 4 42, .tmp 5] from rfl] at hfin; apply holds_of_ex X 400; simp (maxSteps := 1000000) only [push_cast, reduceCtorEq, Nat.reduceAdd, Nat.reduceMul, Nat.reduceSub, Nat.reduceBEq, Nat.reduceGT, Nat.reduceLT, Int.toNat_zero, Nat.reduceLeDiff, Int.reduceEq, Int.reduceLT, Int.reduceLE, hP, hΓ, hL, hfin, String.reduceEq, not_false_eq_true, if_true, if_false, Int.toNat_one, Bool.not_not, b2t, b2f, Int.reduceAdd, toNat2, i64_0, i64_1, i64_2, i64_3, h21, hd, f0, g1, g2])
    exact Into.one rfl rfl
  match l, h1 with
  | [x, y, z], _ =>
    have hx0 := hx x (by simp)
    have hy0 := hx y (by simp)
    have hz0 := hx z (by simp)
    show BodyOk Tryz.prog Γ Tryz.f70 [.agg [.int .i64 f, .bool u, .bool v, .int .i64 a, .int .i64 b, .int .i64 op, .int .i64 c, .int .i64 n], .sl [.str x, .str y, .str z] 3] [] (.tup [agI (opV f u v a b op c n [x, y, z]).1, .bool (opV f u v a b op c n [x, y, z]).2]) []
    (intro X hP hΓ hL hfin; refine ⟨_, rfl, ?_⟩; rw [show Tryz.f70.ntmps = 124 from rfl]; rw [show Tryz.f70.results.toList = [.cell 4 42, .tmp 5] from rfl] at hfin; apply holds_of_ex X 400; simp (maxSteps := 1000000) only [push_cast, reduceCtorEq, Nat.reduceAdd, Nat.reduceMul, Nat.reduceSub, Nat.reduceBEq, Nat.reduceGT, Nat.reduceLT, Int.toNat_zero, Nat.reduceLeDiff, Int.reduceEq, Int.reduceLT, Int.reduceLE, hP, hΓ, hL, hfin, String.reduceEq, not_false_eq_true, if_true, if_false, Int.toNat_one, Bool.not_not, b2t, b2f, Int.reduceAdd, toNat2, i64_0, i64_1, i64_2, i64_3, h21, f0, g1, g2])
    trace_state
    refine Holds.loopM (ι := {k : Nat // k ≤ 2 ∧ (0 < k → (regO x).isSome = true) ∧ (1 < k → (regO y).isSome = true)}) [false, true, true, false, true, false, true, true, false, false, false, false, true, true, true, true, false, false, false, false, false, false, false, false, false, false, false, false, false, false, false, false, false, false, false, false, false, false, false, false, false, false, false, false, false, false, false, false, false, false, true, true, false, false, false, false, false, false, false, false, false, false, false, false, false, false, false, false, false, false, false, false, false, false, false, false, false, false, false, false, false, false, false, false, false, false, false, false, false, false, false, false, false, false, false, false, false, false, false, false, false, false, false, false, false, false, false, false, false, false, false, false, false, false, false, false, false, false, false, false, false, false, false, false] (fun i => [(52, .int .i64 i.1)]) (fun i => [.row [.int .i64 f, .bool u, .bool v, .int .i64 (if 0 < i.1 then rgN x else a), .int .i64 (if 1 < i.1 then rgN y else b), .int .i64 op, .int .i64 c, .int .i64 n] 8 0, .row [.int .i64 0, .bool false, .bool false, .int .i64 0, .int .i64 0, .int .i64 0, .int .i64 0, .int .i64 0] 8 0, .row [.ref 0 0 3, .ref 0 0 4] 1 0]) (fun i => 2 - i.1) ⟨0, by simp⟩ ?_ ?_
    · (rw [hL]; simp only [push_cast, Int.natCast_zero]; exact Into.sameA)
    rintro ⟨k, hk⟩
    have hk2 : k = 0 ∨ k = 1 ∨ k = 2 := by omega
    rcases hk2 with rfl | rfl | rfl
    · rcases Bool.eq_false_or_eq_true (regO x).isSome with hr | hr
      · ((first | with_reducible refine holds_of_ex X 400 _ _ _ ?_ | skip); simp (maxSteps := 1000000) only [push_cast, reduceCtorEq, Nat.reduceAdd, Nat.reduceMul, Nat.reduceSub, Nat.reduceBEq, Nat.reduceGT, Nat.reduceLT, Int.toNat_zero, Nat.reduceLeDiff, Int.reduceEq, Int.reduceLT, Int.reduceLE, hP, hΓ, hL, hfin, String.reduceEq, not_false_eq_true, if_true, if_false, Int.toNat_one, Bool.not_not, b2t, b2f, Int.reduceAdd, toNat2, i64_0, i64_1, i64_2, i64_3, h69, hr, hx0, Int.natCast_zero, f0, g1, g2])
        refine ⟨⟨1, by omega, fun _ => hr, fun h => by omega⟩, by simp only; omega, ?_⟩
        exact Into.sameA
      · have e : opV f u v a b op c n [x, y, z] = (⟨f, u, v, a, b, op, c, n⟩, false) := by
          unfold opV
          rw [if_neg f0, if_neg f15, if_neg f10]
          simp only [hr, Bool.false_eq_true, if_false, if_true]
        rw [e] at hfin
        ((first | with_reducible refine holds_of_ex X 400 _ _ _ ?_ | skip); simp (maxSteps := 1000000) only [push_cast, reduceCtorEq, Nat.reduceAdd, Nat.reduceMul, Nat.reduceSub, Nat.reduceBEq, Nat.reduceGT, Nat.reduceLT, Int.toNat_zero, Nat.reduceLeDiff, Int.reduceEq, Int.reduceLT, Int.reduceLE, hP, hΓ, hL, hfin, String.reduceEq, not_false_eq_true, if_true, if_false, Int.toNat_one, Bool.not_not, b2t, b2f, Int.reduceAdd, toNat2, i64_0, i64_1, i64_2, i64_3, h69, hr, hx0, Int.natCast_zero, f0, g1, g2])
        exact Into.one rfl rfl
    · have hrx := hk.2.1 (by decide)
      rcases Bool.eq_false_or_eq_true (regO y).isSome with hr | hr
      · ((first | with_reducible refine holds_of_ex X 400 _ _ _ ?_ | skip); simp (maxSteps := 1000000) only [push_cast, reduceCtorEq, Nat.reduceAdd, Nat.reduceMul, Nat.reduceSub, Nat.reduceBEq, Nat.reduceGT, Nat.reduceLT, Int.toNat_zero, Nat.reduceLeDiff, Int.reduceEq, Int.reduceLT, Int.reduceLE, hP, hΓ, hL, hfin, String.reduceEq, not_false_eq_true, if_true, if_false, Int.toNat_one, Bool.not_not, b2t, b2f, Int.reduceAdd, toNat2, i64_0, i64_1, i64_2, i64_3, h69, hr, hy0, Int.natCast_zero, hrx, f0, g1, g2])
        refine ⟨⟨2, by omega, fun _ => hrx, fun _ => hr⟩, by simp only; omega, ?_⟩
        exact Into.sameA
      · have e : opV f u v a b op c n [x, y, z] = (⟨f, u, v, rgN x, b, op, c, n⟩, false) := by
          unfold opV
          rw [if_neg f0, if_neg f15, if_neg f10]
          simp only [hr, hrx, Bool.false_eq_true, if_false, if_true]
        rw [e] at hfin
        ((first | with_reducible refine holds_of_ex X 400 _ _ _ ?_ | skip); simp (maxSteps := 1000000) only [push_cast, reduceCtorEq, Nat.reduceAdd, Nat.reduceMul, Nat.reduceSub, Nat.reduceBEq, Nat.reduceGT, Nat.reduceLT, Int.toNat_zero, Nat.reduceLeDiff, Int.reduceEq, Int.reduceLT, Int.reduceLE, hP, hΓ, hL, hfin, String.reduceEq, not_false_eq_true, if_true, if_false, Int.toNat_one, Bool.not_not, b2t, b2f, Int.reduceAdd, toNat2, i64_0, i64_1, i64_2, i64_3, h69, hr, hy0, Int.natCast_zero, hrx, f0, g1, g2])
        exact Into.one rfl rfl
    · have hrx := hk.2.1 (by decide)
      have hry := hk.2.2 (by decide)
      rcases Bool.eq_false_or_eq_true (prgB z) with hz | hz
      · have e : opV f u v a b op c n [x, y, z] = (⟨f, u, v, rgN x, rgN y, op, c, prgN z⟩, decide (prgN z = IntKind.i64.wrap (IntKind.i32.wrap (prgN z)))) := by
          unfold opV
          rw [if_neg f0, if_neg f15, if_neg f10]
          simp only [fin7, hz, hrx, hry, if_true]
        rw [e] at hfin
        ((first | with_reducible refine holds_of_ex X 400 _ _ _ ?_ | skip); simp (maxSteps := 1000000) only [push_cast, reduceCtorEq, Nat.reduceAdd, Nat.reduceMul, Nat.reduceSub, Nat.reduceBEq, Nat.reduceGT, Nat.reduceLT, Int.toNat_zero, Nat.reduceLeDiff, Int.reduceEq, Int.reduceLT, Int.reduceLE, hP, hΓ, hL, hfin, String.reduceEq, not_false_eq_true, if_true, if_false, Int.toNat_one, Bool.not_not, b2t, b2f, Int.reduceAdd, toNat2, i64_0, i64_1, i64_2, i64_3, h97, hz, hz0, prg_wr, f0, g1, g2])
        exact Into.one rfl rfl
      · have e : opV f u v a b op c n [x, y, z] = (⟨0, u, v, rgN x, rgN y, op, rgN z, n⟩, (regO z).isSome && true && (!decide (op = 0) || !u && !v)) := by
          unfold opV
          rw [if_neg f0, if_neg f15, if_neg f10]
          simp only [fin7, hz, hrx, hry, if_true, Bool.false_eq_true, if_false]
          (try rfl)
        rw [e] at hfin
        ((first | with_reducible refine holds_of_ex X 400 _ _ _ ?_ | skip); simp (maxSteps := 1000000) only [push_cast, reduceCtorEq, Nat.reduceAdd, Nat.reduceMul, Nat.reduceSub, Nat.reduceBEq, Nat.reduceGT, Nat.reduceLT, Int.toNat_zero, Nat.reduceLeDiff, Int.reduceEq, Int.reduceLT, Int.reduceLE, hP, hΓ, hL, hfin, String.reduceEq, not_false_eq_true, if_true, if_false, Int.toNat_one, Bool.not_not, b2t, b2f, Int.reduceAdd, toNat2, i64_0, i64_1, i64_2, i64_3, h97, h69, hz, hz0, prg_wr, Bool.and_assoc, f0, g1, g2])
        (refine Holds.drawnE (patH [.fix (.row [.int .i64 0, .bool u, .bool v, .int .i64 (rgN x), .int .i64 (rgN y), .int .i64 op, .int .i64 (rgN z), .int .i64 n] 8 0)]) [0, 21] [] [] false (by rw [hP]; kernel_rfl) (by kernel_rfl) (by kernel_rfl) (by kernel_rfl) (by first | exact .inl rfl | exact .inr fun _ _ h => patH_app _ _ h) (by first | (simp only [push_cast]; done) | (simp only [push_cast, and_true]; omega)) ?_; simp (maxSteps := 1000000) only [↓reduceIte, Option.getD_some, push_cast, reduceCtorEq, Nat.reduceAdd, Nat.reduceMul, Nat.reduceSub, Nat.reduceBEq, Nat.reduceGT, Nat.reduceLT, Int.toNat_zero, Nat.reduceLeDiff, Int.reduceEq, Int.reduceLT, Int.reduceLE, hP, hΓ, hL, hfin, String.reduceEq, not_false_eq_true, if_true, if_false, Int.toNat_one, Bool.not_not, b2t, b2f, Int.reduceAdd, toNat2, i64_0, i64_1, i64_2, i64_3, Bool.and_assoc, f0, g1, g2])
        (try ((first | with_reducible refine holds_of_ex X 400 _ _ _ ?_ | skip); simp (maxSteps := 1000000) only [push_cast, reduceCtorEq, Nat.reduceAdd, Nat.reduceMul, Nat.reduceSub, Nat.reduceBEq, Nat.reduceGT, Nat.reduceLT, Int.toNat_zero, Nat.reduceLeDiff, Int.reduceEq, Int.reduceLT, Int.reduceLE, hP, hΓ, hL, hfin, String.reduceEq, not_false_eq_true, if_true, if_false, Int.toNat_one, Bool.not_not, b2t, b2f, Int.reduceAdd, toNat2, i64_0, i64_1, i64_2, i64_3]))
        exact Into.one rfl rfl
theorem con70 {Γ : Env} (h : EnvOk Tryz.prog Γ) (h21 : Γ 21 = some S21) (h69 : Γ 69 = some S69) (h97 : Γ 97 = some S97) : Con Tryz.prog 70 S70 :=
  funS_con h (fn := Tryz.f70) (by kernel_rfl) rfl (by kernel_rfl) inj70 (by first | (intro h; cases h; done) | exact fun _ _ => rfl) fun ⟨f, u, v, a, b, op, c, n, l⟩ h => body70 Γ h21 h69 h97 f u v a b op c n l h.1 h.2
end Go.Proofs.YtgemeilncdmapaaGreatDoor.asmDone
end
section
namespace Go.Proofs.YtgemeilncdmapaaGreatDoor.asmDone
open Go Go.Eng Go.Proofs Go.RowKit
open Go.Asm (mayB in16 rightB laid sx In flds rightI laidI decB laid_lo ops cnds opT cnT regT sufT nameT hexC hexT sep lastT insT showF joinT numO prgN prgB regO refP refO dgt dval ixO blk brO readO lastO)
set_option linter.unusedVariables false
set_option linter.unusedSimpArgs false
set_option maxRecDepth 100000
set_option maxHeartbeats 4000000
theorem rd0 {u v : Bool} {a b op c n : Int} {l : List (List UInt8)} : readO ⟨0, u, v, a, b, op, c, n⟩ l = match l with
    | [x] => (regO x).map fun q => ⟨0, u, v, q, b, op, c, n⟩
    | _ => none := rfl
theorem rd15 {u v : Bool} {a b c n : Int} {l : List (List UInt8)} : readO ⟨1, u, v, a, b, 15, c, n⟩ l = match l with
    | [z] => lastO ⟨1, u, v, a, b, 15, c, n⟩ false z
    | _ => none := rfl
theorem rd10 {u v : Bool} {a b c n : Int} {l : List (List UInt8)} : readO ⟨1, u, v, a, b, 0, c, n⟩ l = match l with
    | [x, z] => match regO x with
      | some q => lastO ⟨1, u, v, q, b, 0, c, n⟩ (!u && !v) z
      | none => none
    | _ => none := rfl
theorem rdE {f op : Int} {u v : Bool} {a b c n : Int} {l : List (List UInt8)} (h0 : ¬ f = 0) (h1 : ¬ (f = 1 ∧ op = 15)) (h2 : ¬ (f = 1 ∧ op = 0)) : readO ⟨f, u, v, a, b, op, c, n⟩ l = match l with
    | [x, y, z] => match regO x, regO y with
      | some q, some r => lastO ⟨f, u, v, q, r, op, c, n⟩ (decide (f = 1)) z
      | _, _ => none
    | _ => none := by
  unfold readO
  exact (if_neg h0).trans ((if_neg h1).trans (if_neg h2))
/-- what is left of operands that are none -/
def rdF (f : Int) (u v : Bool) (a b op c n : Int) (l : List (List UInt8)) : In :=
  if f = 0 then ⟨f, u, v, a, b, op, c, n⟩
  else if f = 1 ∧ op = 15 then match l with
    | [z] => ⟨f, u, v, a, b, op, rrN z, n⟩
    | _ => ⟨f, u, v, a, b, op, c, n⟩
  else if f = 1 ∧ op = 0 then match l with
    | [x, z] => if (regO x).isSome then ⟨if !u && !v then 0 else f, u, v, rrN x, b, op, rrN z, n⟩ else ⟨f, u, v, a, b, op, c, n⟩
    | _ => ⟨f, u, v, a, b, op, c, n⟩
  else match l with
    | [x, y, z] => if (regO x).isSome then if (regO y).isSome then ⟨if f = 1 then 0 else f, u, v, rrN x, rrN y, op, rrN z, n⟩ else ⟨f, u, v, rrN x, b, op, c, n⟩ else ⟨f, u, v, a, b, op, c, n⟩
    | _ => ⟨f, u, v, a, b, op, c, n⟩
theorem rf0 {u v : Bool} {a b op c n : Int} {l : List (List UInt8)} : rdF 0 u v a b op c n l = ⟨0, u, v, a, b, op, c, n⟩ := rfl
theorem rf15 {u v : Bool} {a b c n : Int} {l : List (List UInt8)} : rdF 1 u v a b 15 c n l = match l with
    | [z] => ⟨1, u, v, a, b, 15, rrN z, n⟩
    | _ => ⟨1, u, v, a, b, 15, c, n⟩ := rfl
theorem rf10 {u v : Bool} {a b c n : Int} {l : List (List UInt8)} : rdF 1 u v a b 0 c n l = match l with
    | [x, z] => if (regO x).isSome then ⟨if !u && !v then 0 else 1, u, v, rrN x, b, 0, rrN z, n⟩ else ⟨1, u, v, a, b, 0, c, n⟩
    | _ => ⟨1, u, v, a, b, 0, c, n⟩ := rfl
theorem rfE {f op : Int} {u v : Bool} {a b c n : Int} {l : List (List UInt8)} (h0 : ¬ f = 0) (h1 : ¬ (f = 1 ∧ op = 15)) (h2 : ¬ (f = 1 ∧ op = 0)) : rdF f u v a b op c n l = match l with
    | [x, y, z] => if (regO x).isSome then if (regO y).isSome then ⟨if f = 1 then 0 else f, u, v, rrN x, rrN y, op, rrN z, n⟩ else ⟨f, u, v, rrN x, b, op, c, n⟩ else ⟨f, u, v, a, b, op, c, n⟩
    | _ => ⟨f, u, v, a, b, op, c, n⟩ := by
  unfold rdF
  exact (if_neg h0).trans ((if_neg h1).trans (if_neg h2))
theorem d21 : decide ((2 : Int) = 1) = false := by decide
theorem num_reg_no {z : List UInt8} {n : Int} (h : numO z = some n) : regO z = none := by
  rw [Go.Asm.num_is h]; exact Go.Asm.reg_itoa n
theorem last_num {z : List UInt8} {n : Int} (h : refO z = some n) (hb : -2147483648 ≤ n ∧ n < 2147483648) (i : In) (r : Bool) : lastO i r z = some { i with n := n } := by
  unfold lastO
  rw [((Go.Asm.ref_is z n).1 h).1]
  simp only
  rw [if_pos (by omega)]
theorem last_else {z : List UInt8} (h : ∀ n, refO z = some n → ¬ (-2147483648 ≤ n ∧ n < 2147483648)) (i : In) (r : Bool) : lastO i r z = if r then (regO z).map (fun c => { i with f := 0, c := c }) else none := by
  unfold lastO
  cases hn : numO z with
  | none => rfl
  | some n =>
    simp only
    rw [num_reg_no hn, if_neg]
    · cases r <;> rfl
    · intro hb
      exact h n ((Go.Asm.ref_is z n).2 ⟨hn, by omega⟩) (by omega)
def e76 : (List UInt8) × (Int) × (Bool) × (Bool) × (Int) × (Int) × (Int) × (Int) × (Int) × (Int) × (Bool) × (List (List UInt8)) → List AV := fun (nm, f, u, v, a, b, op, c, n, rg, lt, l) => [.agg [.str nm, .int .i64 f, .bool u, .bool v, .int .i64 a, .int .i64 b, .int .i64 op, .int .i64 c, .int .i64 n, .int .i64 rg, .bool lt], .sl (l.map AV.str) l.length]
def p76 : (List UInt8) × (Int) × (Bool) × (Bool) × (Int) × (Int) × (Int) × (Int) × (Int) × (Int) × (Bool) × (List (List UInt8)) → Prop := fun (nm, f, u, v, a, b, op, c, n, rg, lt, l) => ((∀ x ∈ l, x.length ≤ 4194304) ∧ l.length ≤ 4194304) ∧ (f = 0 ∨ f = 1 ∨ f = 2) ∧ rg = (if f = 0 then 1 else if f = 1 ∧ op = 15 then 0 else if f = 1 ∧ op = 0 then 1 else 2) ∧ lt = !decide (f = 0)
def r76 : (List UInt8) × (Int) × (Bool) × (Bool) × (Int) × (Int) × (Int) × (Int) × (Int) × (Int) × (Bool) × (List (List UInt8)) → AV := fun (nm, f, u, v, a, b, op, c, n, rg, lt, l) => .tup [agI ((readO ⟨f, u, v, a, b, op, c, n⟩ l).getD (rdF f u v a b op c n l)), .bool (readO ⟨f, u, v, a, b, op, c, n⟩ l).isSome]
def g76 : (List UInt8) × (Int) × (Bool) × (Bool) × (Int) × (Int) × (Int) × (Int) × (Int) × (Int) × (Bool) × (List (List UInt8)) → Heap := fun (nm, f, u, v, a, b, op, c, n, rg, lt, l) => []
theorem inj76 : ∀ a b, e76 a = e76 b → a = b := by
  rintro ⟨nm, f, u, v, a, b, op, c, n, rg, lt, l⟩ ⟨nm', f', u', v', a', b', op', c', n', rg', lt', l'⟩ h
  simp only [e76, mi_iff, ms_iff, mb_iff, my_iff, UInt8.toNat_inj, List.cons.injEq, AV.int.injEq, AV.str.injEq, AV.bool.injEq, AV.sl.injEq, AV.agg.injEq, AV.ip.injEq, AV.fn.injEq, AV.ifc.injEq, AV.mpr.injEq, Int.natCast_inj, and_true, true_and] at h
  simp_all only
noncomputable def S76 : FSpec := funS e76 p76 r76 g76 true
theorem ps76 (nm : (List UInt8)) (f : (Int)) (u : (Bool)) (v : (Bool)) (a : (Int)) (b : (Int)) (op : (Int)) (c : (Int)) (n : (Int)) (rg : (Int)) (lt : (Bool)) (l : (List (List UInt8))) : psel e76 p76 [.agg [.str nm, .int .i64 f, .bool u, .bool v, .int .i64 a, .int .i64 b, .int .i64 op, .int .i64 c, .int .i64 n, .int .i64 rg, .bool lt], .sl (l.map AV.str) l.length] = (((∀ x ∈ l, x.length ≤ 4194304) ∧ l.length ≤ 4194304) ∧ (f = 0 ∨ f = 1 ∨ f = 2) ∧ rg = (if f = 0 then 1 else if f = 1 ∧ op = 15 then 0 else if f = 1 ∧ op = 0 then 1 else 2) ∧ lt = !decide (f = 0)) := psel_at inj76 p76 (nm, f, u, v, a, b, op, c, n, rg, lt, l)
theorem rs76 (nm : (List UInt8)) (f : (Int)) (u : (Bool)) (v : (Bool)) (a : (Int)) (b : (Int)) (op : (Int)) (c : (Int)) (n : (Int)) (rg : (Int)) (lt : (Bool)) (l : (List (List UInt8))) : rsel e76 r76 .any [.agg [.str nm, .int .i64 f, .bool u, .bool v, .int .i64 a, .int .i64 b, .int .i64 op, .int .i64 c, .int .i64 n, .int .i64 rg, .bool lt], .sl (l.map AV.str) l.length] = (.tup [agI ((readO ⟨f, u, v, a, b, op, c, n⟩ l).getD (rdF f u v a b op c n l)), .bool (readO ⟨f, u, v, a, b, op, c, n⟩ l).isSome]) := rsel_at inj76 r76 .any (nm, f, u, v, a, b, op, c, n, rg, lt, l)
theorem hs76 (nm : (List UInt8)) (f : (Int)) (u : (Bool)) (v : (Bool)) (a : (Int)) (b : (Int)) (op : (Int)) (c : (Int)) (n : (Int)) (rg : (Int)) (lt : (Bool)) (l : (List (List UInt8))) : rsel e76 g76 [] [.agg [.str nm, .int .i64 f, .bool u, .bool v, .int .i64 a, .int .i64 b, .int .i64 op, .int .i64 c, .int .i64 n, .int .i64 rg, .bool lt], .sl (l.map AV.str) l.length] = ([]) := rsel_at inj76 g76 [] (nm, f, u, v, a, b, op, c, n, rg, lt, l)
attribute [push_cast] S76 ps76 rs76 hs76
theorem body76 (Γ : Env) (h101 : Γ 101 = some S101) (h102 : Γ 102 = some S102) (nm : List UInt8) (f : Int) (u v : Bool) (a b op c n rg : Int) (lt : Bool) (l : List (List UInt8)) (hx : ∀ x ∈ l, x.length ≤ 4194304) (hl : l.length ≤ 4194304) (hf : f = 0 ∨ f = 1 ∨ f = 2) (hrg : rg = (if f = 0 then 1 else if f = 1 ∧ op = 15 then 0 else if f = 1 ∧ op = 0 then 1 else 2)) (hlt : lt = !decide (f = 0)) : BodyOk Tryz.prog Γ Tryz.f76 [.agg [.str nm, .int .i64 f, .bool u, .bool v, .int .i64 a, .int .i64 b, .int .i64 op, .int .i64 c, .int .i64 n, .int .i64 rg, .bool lt], .sl (l.map AV.str) l.length] [] (.tup [agI ((readO ⟨f, u, v, a, b, op, c, n⟩ l).getD (rdF f u v a b op c n l)), .bool (readO ⟨f, u, v, a, b, op, c, n⟩ l).isSome]) [] := by
  by_cases f0 : f = 0
  · subst f0
    obtain rfl : rg = 1 := by rw [hrg, if_pos rfl]
    obtain rfl : lt = false := by rw [hlt]; rfl
    by_cases h1 : l.length = 1
    case neg =>
      have hd : decide (((l.length : Nat) : Int) = 1) = false := decide_eq_false (by omega)
      have e : readO ⟨0, u, v, a, b, op, c, n⟩ l = none := by
        rw [rd0]
        match l, h1 with
        | [], _ => rfl
        | [_], h => exact absurd rfl h
        | _ :: _ :: _, _ => rfl
      have eF : rdF 0 u v a b op c n l = ⟨0, u, v, a, b, op, c, n⟩ := by
        rw [rf0]
      rw [e, eF]
      (intro X hP hΓ hL hfin; refine ⟨_, rfl, ?_⟩; rw [show Tryz.f76.ntmps = 118 from rfl]; rw [show Tryz.f76.results.toList = [.cell 4 42, .tmp 5] from rfl] at hfin; apply holds_of_ex X 400; simp (maxSteps := 1000000) only [push_cast, reduceCtorEq, Nat.reduceAdd, Nat.reduceMul, Nat.reduceSub, Nat.reduceBEq, Nat.reduceGT, Nat.reduceLT, Int.toNat_zero, Nat.reduceLeDiff, Int.reduceEq, Int.reduceLT, Int.reduceLE, hP, hΓ, hL, hfin, String.reduceEq, not_false_eq_true, if_true, if_false, Int.toNat_one, Bool.not_not, b2t, b2f, Int.reduceAdd, Int.reduceSub, toNat2, i64_0, i64_1, i64_2, i64_3, agI_mk, Option.isSome_some, Option.isSome_none, Option.getD_some, Option.getD_none, hd])
      exact Into.one rfl rfl
    match l, h1 with
    | [x], _ =>
      have hx0 := hx x (by simp)
      show BodyOk Tryz.prog Γ Tryz.f76 [.agg [.str nm, .int .i64 0, .bool u, .bool v, .int .i64 a, .int .i64 b, .int .i64 op, .int .i64 c, .int .i64 n, .int .i64 1, .bool false], .sl [.str x] 1] [] (.tup [agI ((readO ⟨0, u, v, a, b, op, c, n⟩ [x]).getD (rdF 0 u v a b op c n [x])), .bool (readO ⟨0, u, v, a, b, op, c, n⟩ [x]).isSome]) []
      (intro X hP hΓ hL hfin; refine ⟨_, rfl, ?_⟩; rw [show Tryz.f76.ntmps = 118 from rfl]; rw [show Tryz.f76.results.toList = [.cell 4 42, .tmp 5] from rfl] at hfin; apply holds_of_ex X 400; simp (maxSteps := 1000000) only [push_cast, reduceCtorEq, Nat.reduceAdd, Nat.reduceMul, Nat.reduceSub, Nat.reduceBEq, Nat.reduceGT, Nat.reduceLT, Int.toNat_zero, Nat.reduceLeDiff, Int.reduceEq, Int.reduceLT, Int.reduceLE, hP, hΓ, hL, hfin, String.reduceEq, not_false_eq_true, if_true, if_false, Int.toNat_one, Bool.not_not, b2t, b2f, Int.reduceAdd, Int.reduceSub, toNat2, i64_0, i64_1, i64_2, i64_3, agI_mk, Option.isSome_some, Option.isSome_none, Option.getD_some, Option.getD_none])
      refine Holds.loopM (ι := {k : Nat // k ≤ 1 ∧ (0 < k → (regO x).isSome = true)}) [false, true, true, false, true, false, true, true, false, false, false, true, true, true, true, true, false, false, false, false, false, false, false, false, false, false, false, false, false, false, false, false, false, false, false, false, false, false, false, false, false, false, false, false, false, false, false, false, false, false, false, false, false, false, false, false, false, false, false, false, false, false, false, false, false, false, false, false, false, false, false, false, false, false, false, false, false, false, false, false, false, false, false, false, false, false, false, false, false, false, false, false, false, false, false, false, false, false, false, false, false, false, false, false, false, false, false, false, false, false, false, false, false, false, false, false, false, false] (fun i => [(8, .int .i64 i.1)]) (fun i => [.row [.str nm, .int .i64 0, .bool u, .bool v, .int .i64 a, .int .i64 b, .int .i64 op, .int .i64 c, .int .i64 n, .int .i64 1, .bool false] 11 0, .row [.int .i64 0, .bool false, .bool false, .int .i64 0, .int .i64 0, .int .i64 0, .int .i64 0, .int .i64 0] 8 0, .row [.int .i64 0, .bool u, .bool v, .int .i64 (if 0 < i.1 then rrN x else a), .int .i64 b, .int .i64 op, .int .i64 c, .int .i64 n] 8 0]) (fun i => 1 - i.1) ⟨0, by simp⟩ ?_ ?_
      · (rw [hL]; simp only [push_cast, Int.natCast_zero]; exact Into.sameA)
      rintro ⟨k, hk⟩
      have hk2 : k = 0 ∨ k = 1 := by omega
      rcases hk2 with rfl | rfl
      · rcases Bool.eq_false_or_eq_true (regO x).isSome with hr | hr
        · ((first | with_reducible refine holds_of_ex X 400 _ _ _ ?_ | skip); simp (maxSteps := 1000000) only [push_cast, reduceCtorEq, Nat.reduceAdd, Nat.reduceMul, Nat.reduceSub, Nat.reduceBEq, Nat.reduceGT, Nat.reduceLT, Int.toNat_zero, Nat.reduceLeDiff, Int.reduceEq, Int.reduceLT, Int.reduceLE, hP, hΓ, hL, hfin, String.reduceEq, not_false_eq_true, if_true, if_false, Int.toNat_one, Bool.not_not, b2t, b2f, Int.reduceAdd, Int.reduceSub, toNat2, i64_0, i64_1, i64_2, i64_3, agI_mk, Option.isSome_some, Option.isSome_none, Option.getD_some, Option.getD_none, h101, hr, hx0, Int.natCast_zero])
          refine ⟨⟨1, by omega, fun _ => hr⟩, by simp only; omega, ?_⟩
          exact Into.sameA
        · have hr2 : regO x = none := by rw [← Option.not_isSome_iff_eq_none, hr]; simp
          have e : readO ⟨0, u, v, a, b, op, c, n⟩ [x] = none := by
            rw [rd0]
            simp only [hr2, Option.map_none]
          have eF : rdF 0 u v a b op c n [x] = ⟨0, u, v, a, b, op, c, n⟩ := by
            rw [rf0]
          rw [e, eF] at hfin
          ((first | with_reducible refine holds_of_ex X 400 _ _ _ ?_ | skip); simp (maxSteps := 1000000) only [push_cast, reduceCtorEq, Nat.reduceAdd, Nat.reduceMul, Nat.reduceSub, Nat.reduceBEq, Nat.reduceGT, Nat.reduceLT, Int.toNat_zero, Nat.reduceLeDiff, Int.reduceEq, Int.reduceLT, Int.reduceLE, hP, hΓ, hL, hfin, String.reduceEq, not_false_eq_true, if_true, if_false, Int.toNat_one, Bool.not_not, b2t, b2f, Int.reduceAdd, Int.reduceSub, toNat2, i64_0, i64_1, i64_2, i64_3, agI_mk, Option.isSome_some, Option.isSome_none, Option.getD_some, Option.getD_none, h101, hr, hx0, Int.natCast_zero])
          exact Into.one rfl rfl
      · have hrx := hk.2 (by decide)
        obtain ⟨qx, hqx⟩ := Option.isSome_iff_exists.1 hrx
        have hvx := rr_val hqx
        have e : readO ⟨0, u, v, a, b, op, c, n⟩ [x] = some ⟨0, u, v, qx, b, op, c, n⟩ := by
          rw [rd0]
          simp only [hqx, Option.map_some]
        rw [e] at hfin
        ((first | with_reducible refine holds_of_ex X 400 _ _ _ ?_ | skip); simp (maxSteps := 1000000) only [push_cast, reduceCtorEq, Nat.reduceAdd, Nat.reduceMul, Nat.reduceSub, Nat.reduceBEq, Nat.reduceGT, Nat.reduceLT, Int.toNat_zero, Nat.reduceLeDiff, Int.reduceEq, Int.reduceLT, Int.reduceLE, hP, hΓ, hL, hfin, String.reduceEq, not_false_eq_true, if_true, if_false, Int.toNat_one, Bool.not_not, b2t, b2f, Int.reduceAdd, Int.reduceSub, toNat2, i64_0, i64_1, i64_2, i64_3, agI_mk, Option.isSome_some, Option.isSome_none, Option.getD_some, Option.getD_none, Int.natCast_zero, hvx])
        exact Into.one rfl rfl
  obtain rfl : lt = true := by rw [hlt, decide_eq_false f0]; rfl
  by_cases f15 : f = 1 ∧ op = 15
  · obtain ⟨rfl, rfl⟩ := f15
    obtain rfl : rg = 0 := by rw [hrg]; rfl
    by_cases h1 : l.length = 1
    case neg =>
      have hd : decide (((l.length : Nat) : Int) = 1) = false := decide_eq_false (by omega)
      have e : readO ⟨1, u, v, a, b, 15, c, n⟩ l = none := by
        rw [rd15]
        match l, h1 with
        | [], _ => rfl
        | [_], h => exact absurd rfl h
        | _ :: _ :: _, _ => rfl
      have eF : rdF 1 u v a b 15 c n l = ⟨1, u, v, a, b, 15, c, n⟩ := by
        rw [rf15]
        match l, h1 with
        | [], _ => rfl
        | [_], h => exact absurd rfl h
        | _ :: _ :: _, _ => rfl
      rw [e, eF]
      (intro X hP hΓ hL hfin; refine ⟨_, rfl, ?_⟩; rw [show Tryz.f76.ntmps = 118 from rfl]; rw [show Tryz.f76.results.toList = [.cell 4 42, .tmp 5] from rfl] at hfin; apply holds_of_ex X 400; simp (maxSteps := 1000000) only [push_cast, reduceCtorEq, Nat.reduceAdd, Nat.reduceMul, Nat.reduceSub, Nat.reduceBEq, Nat.reduceGT, Nat.reduceLT, Int.toNat_zero, Nat.reduceLeDiff, Int.reduceEq, Int.reduceLT, Int.reduceLE, hP, hΓ, hL, hfin, String.reduceEq, not_false_eq_true, if_true, if_false, Int.toNat_one, Bool.not_not, b2t, b2f, Int.reduceAdd, Int.reduceSub, toNat2, i64_0, i64_1, i64_2, i64_3, agI_mk, Option.isSome_some, Option.isSome_none, Option.getD_some, Option.getD_none, hd])
      exact Into.one rfl rfl
    match l, h1 with
    | [z], _ =>
      have hz0 := hx z (by simp)
      show BodyOk Tryz.prog Γ Tryz.f76 [.agg [.str nm, .int .i64 1, .bool u, .bool v, .int .i64 a, .int .i64 b, .int .i64 15, .int .i64 c, .int .i64 n, .int .i64 0, .bool true], .sl [.str z] 1] [] (.tup [agI ((readO ⟨1, u, v, a, b, 15, c, n⟩ [z]).getD (rdF 1 u v a b 15 c n [z])), .bool (readO ⟨1, u, v, a, b, 15, c, n⟩ [z]).isSome]) []
      (intro X hP hΓ hL hfin; refine ⟨_, rfl, ?_⟩; rw [show Tryz.f76.ntmps = 118 from rfl]; rw [show Tryz.f76.results.toList = [.cell 4 42, .tmp 5] from rfl] at hfin; apply holds_of_ex X 400; simp (maxSteps := 1000000) only [push_cast, reduceCtorEq, Nat.reduceAdd, Nat.reduceMul, Nat.reduceSub, Nat.reduceBEq, Nat.reduceGT, Nat.reduceLT, Int.toNat_zero, Nat.reduceLeDiff, Int.reduceEq, Int.reduceLT, Int.reduceLE, hP, hΓ, hL, hfin, String.reduceEq, not_false_eq_true, if_true, if_false, Int.toNat_one, Bool.not_not, b2t, b2f, Int.reduceAdd, Int.reduceSub, toNat2, i64_0, i64_1, i64_2, i64_3, agI_mk, Option.isSome_some, Option.isSome_none, Option.getD_some, Option.getD_none])
      refine Holds.loopM (ι := {k : Nat // k ≤ 0}) [false, true, true, false, true, false, true, true, false, false, false, true, true, true, true, true, false, false, false, false, false, false, false, false, false, false, false, false, false, false, false, false, false, false, false, false, false, false, false, false, false, false, false, false, false, false, false, false, false, false, false, false, false, false, false, false, false, false, false, false, false, false, false, false, false, false, false, false, false, false, false, false, false, false, false, false, false, false, false, false, false, false, false, false, false, false, false, false, false, false, false, false, false, false, false, false, false, false, false, false, false, false, false, false, false, false, false, false, false, false, false, false, false, false, false, false, false, false] (fun i => [(8, .int .i64 i.1)]) (fun i => [.row [.str nm, .int .i64 1, .bool u, .bool v, .int .i64 a, .int .i64 b, .int .i64 15, .int .i64 c, .int .i64 n, .int .i64 0, .bool true] 11 0, .row [.int .i64 0, .bool false, .bool false, .int .i64 0, .int .i64 0, .int .i64 0, .int .i64 0, .int .i64 0] 8 0, .row [.int .i64 1, .bool u, .bool v, .int .i64 a, .int .i64 b, .int .i64 15, .int .i64 c, .int .i64 n] 8 0]) (fun i => 0 - i.1) ⟨0, by simp⟩ ?_ ?_
      · (rw [hL]; simp only [push_cast, Int.natCast_zero]; exact Into.sameA)
      rintro ⟨k, hk⟩
      have hk2 : k = 0 := by omega
      subst hk2
      have eL : readO ⟨1, u, v, a, b, 15, c, n⟩ [z] = lastO ⟨1, u, v, a, b, 15, c, n⟩ false z := by
        rw [rd15]
      have hrb := ref_bd (s := z)
      have hwr : IntKind.i64.wrap ((refO z).getD 0) = (refO z).getD 0 := wr_i64 _ (by constructor <;> omega)
      by_cases hin : ∃ k, refO z = some k ∧ (-2147483648 ≤ k ∧ k < 2147483648)
      · obtain ⟨k, hz, hkb⟩ := hin
        rw [eL, last_num hz hkb] at hfin
        have c1 : decide (-2147483648 ≤ k) = true := decide_eq_true hkb.1
        have c2 : decide (k < 2147483648) = true := decide_eq_true hkb.2
        have hwk : IntKind.i64.wrap k = k := wr_i64 _ (by constructor <;> omega)
        ((first | with_reducible refine holds_of_ex X 400 _ _ _ ?_ | skip); simp (maxSteps := 1000000) only [push_cast, reduceCtorEq, Nat.reduceAdd, Nat.reduceMul, Nat.reduceSub, Nat.reduceBEq, Nat.reduceGT, Nat.reduceLT, Int.toNat_zero, Nat.reduceLeDiff, Int.reduceEq, Int.reduceLT, Int.reduceLE, hP, hΓ, hL, hfin, String.reduceEq, not_false_eq_true, if_true, if_false, Int.toNat_one, Bool.not_not, b2t, b2f, Int.reduceAdd, Int.reduceSub, toNat2, i64_0, i64_1, i64_2, i64_3, agI_mk, Option.isSome_some, Option.isSome_none, Option.getD_some, Option.getD_none, h102, hz, hz0, c1, c2, hwk])
        exact Into.one rfl rfl
      · have hin2 : ∀ k, refO z = some k → ¬ (-2147483648 ≤ k ∧ k < 2147483648) := fun k h h' => hin ⟨k, h, h'⟩
        have hc : ((refO z).isSome && decide (-2147483648 ≤ (refO z).getD 0) && decide ((refO z).getD 0 < 2147483648)) = false := by
          cases hz : refO z with
          | none => rfl
          | some k =>
            have := hin2 k hz
            simp only [Option.isSome_some, Option.getD_some, Bool.true_and, Bool.and_eq_false_iff, decide_eq_false_iff_not]; omega
        have eF : rdF 1 u v a b 15 c n [z] = ⟨1, u, v, a, b, 15, rrN z, n⟩ := by
          rw [rf15]
        rw [eL, last_else hin2, eF] at hfin
        simp only [Bool.false_eq_true, if_false] at hfin
        rcases Bool.eq_false_or_eq_true (regO z).isSome with hs | hs
        all_goals
          ((first | with_reducible refine holds_of_ex X 400 _ _ _ ?_ | skip); simp (maxSteps := 1000000) only [push_cast, reduceCtorEq, Nat.reduceAdd, Nat.reduceMul, Nat.reduceSub, Nat.reduceBEq, Nat.reduceGT, Nat.reduceLT, Int.toNat_zero, Nat.reduceLeDiff, Int.reduceEq, Int.reduceLT, Int.reduceLE, hP, hΓ, hL, hfin, String.reduceEq, not_false_eq_true, if_true, if_false, Int.toNat_one, Bool.not_not, b2t, b2f, Int.reduceAdd, Int.reduceSub, toNat2, i64_0, i64_1, i64_2, i64_3, agI_mk, Option.isSome_some, Option.isSome_none, Option.getD_some, Option.getD_none, h101, h102, hz0, hc, hs, hwr])
          exact Into.one rfl rfl
  by_cases f10 : f = 1 ∧ op = 0
  · obtain ⟨rfl, rfl⟩ := f10
    obtain rfl : rg = 1 := by rw [hrg]; rfl
    by_cases h1 : l.length = 2
    case neg =>
      have hd : decide (((l.length : Nat) : Int) = 2) = false := decide_eq_false (by omega)
      have e : readO ⟨1, u, v, a, b, 0, c, n⟩ l = none := by
        rw [rd10]
        match l, h1 with
        | [], _ => rfl
        | [_], _ => rfl
        | [_, _], h => exact absurd rfl h
        | _ :: _ :: _ :: _, _ => rfl
      have eF : rdF 1 u v a b 0 c n l = ⟨1, u, v, a, b, 0, c, n⟩ := by
        rw [rf10]
        match l, h1 with
        | [], _ => rfl
        | [_], _ => rfl
        | [_, _], h => exact absurd rfl h
        | _ :: _ :: _ :: _, _ => rfl
      rw [e, eF]
      (intro X hP hΓ hL hfin; refine ⟨_, rfl, ?_⟩; rw [show Tryz.f76.ntmps = 118 from rfl]; rw [show Tryz.f76.results.toList = [.cell 4 42, .tmp 5] from rfl] at hfin; apply holds_of_ex X 400; simp (maxSteps := 1000000) only [push_cast, reduceCtorEq, Nat.reduceAdd, Nat.reduceMul, Nat.reduceSub, Nat.reduceBEq, Nat.reduceGT, Nat.reduceLT, Int.toNat_zero, Nat.reduceLeDiff, Int.reduceEq, Int.reduceLT, Int.reduceLE, hP, hΓ, hL, hfin, String.reduceEq, not_false_eq_true, if_true, if_false, Int.toNat_one, Bool.not_not, b2t, b2f, Int.reduceAdd, Int.reduceSub, toNat2, i64_0, i64_1, i64_2, i64_3, agI_mk, Option.isSome_some, Option.isSome_none, Option.getD_some, Option.getD_none, hd])
      exact Into.one rfl rfl
    match l, h1 with
    | [x, z], _ =>
      have hx0 := hx x (by simp)
      have hz0 := hx z (by simp)
      show BodyOk Tryz.prog Γ Tryz.f76 [.agg [.str nm, .int .i64 1, .bool u, .bool v, .int .i64 a, .int .i64 b, .int .i64 0, .int .i64 c, .int .i64 n, .int .i64 1, .bool true], .sl [.str x, .str z] 2] [] (.tup [agI ((readO ⟨1, u, v, a, b, 0, c, n⟩ [x, z]).getD (rdF 1 u v a b 0 c n [x, z])), .bool (readO ⟨1, u, v, a, b, 0, c, n⟩ [x, z]).isSome]) []
      (intro X hP hΓ hL hfin; refine ⟨_, rfl, ?_⟩; rw [show Tryz.f76.ntmps = 118 from rfl]; rw [show Tryz.f76.results.toList = [.cell 4 42, .tmp 5] from rfl] at hfin; apply holds_of_ex X 400; simp (maxSteps := 1000000) only [push_cast, reduceCtorEq, Nat.reduceAdd, Nat.reduceMul, Nat.reduceSub, Nat.reduceBEq, Nat.reduceGT, Nat.reduceLT, Int.toNat_zero, Nat.reduceLeDiff, Int.reduceEq, Int.reduceLT, Int.reduceLE, hP, hΓ, hL, hfin, String.reduceEq, not_false_eq_true, if_true, if_false, Int.toNat_one, Bool.not_not, b2t, b2f, Int.reduceAdd, Int.reduceSub, toNat2, i64_0, i64_1, i64_2, i64_3, agI_mk, Option.isSome_some, Option.isSome_none, Option.getD_some, Option.getD_none])
      refine Holds.loopM (ι := {k : Nat // k ≤ 1 ∧ (0 < k → (regO x).isSome = true)}) [false, true, true, false, true, false, true, true, false, false, false, true, true, true, true, true, false, false, false, false, false, false, false, false, false, false, false, false, false, false, false, false, false, false, false, false, false, false, false, false, false, false, false, false, false, false, false, false, false, false, false, false, false, false, false, false, false, false, false, false, false, false, false, false, false, false, false, false, false, false, false, false, false, false, false, false, false, false, false, false, false, false, false, false, false, false, false, false, false, false, false, false, false, false, false, false, false, false, false, false, false, false, false, false, false, false, false, false, false, false, false, false, false, false, false, false, false, false] (fun i => [(8, .int .i64 i.1)]) (fun i => [.row [.str nm, .int .i64 1, .bool u, .bool v, .int .i64 a, .int .i64 b, .int .i64 0, .int .i64 c, .int .i64 n, .int .i64 1, .bool true] 11 0, .row [.int .i64 0, .bool false, .bool false, .int .i64 0, .int .i64 0, .int .i64 0, .int .i64 0, .int .i64 0] 8 0, .row [.int .i64 1, .bool u, .bool v, .int .i64 (if 0 < i.1 then rrN x else a), .int .i64 b, .int .i64 0, .int .i64 c, .int .i64 n] 8 0]) (fun i => 1 - i.1) ⟨0, by simp⟩ ?_ ?_
      · (rw [hL]; simp only [push_cast, Int.natCast_zero]; exact Into.sameA)
      rintro ⟨k, hk⟩
      have hk2 : k = 0 ∨ k = 1 := by omega
      rcases hk2 with rfl | rfl
      · rcases Bool.eq_false_or_eq_true (regO x).isSome with hr | hr
        · ((first | with_reducible refine holds_of_ex X 400 _ _ _ ?_ | skip); simp (maxSteps := 1000000) only [push_cast, reduceCtorEq, Nat.reduceAdd, Nat.reduceMul, Nat.reduceSub, Nat.reduceBEq, Nat.reduceGT, Nat.reduceLT, Int.toNat_zero, Nat.reduceLeDiff, Int.reduceEq, Int.reduceLT, Int.reduceLE, hP, hΓ, hL, hfin, String.reduceEq, not_false_eq_true, if_true, if_false, Int.toNat_one, Bool.not_not, b2t, b2f, Int.reduceAdd, Int.reduceSub, toNat2, i64_0, i64_1, i64_2, i64_3, agI_mk, Option.isSome_some, Option.isSome_none, Option.getD_some, Option.getD_none, h101, hr, hx0, Int.natCast_zero])
          refine ⟨⟨1, by omega, fun _ => hr⟩, by simp only; omega, ?_⟩
          exact Into.sameA
        · have hr2 : regO x = none := by rw [← Option.not_isSome_iff_eq_none, hr]; simp
          have e : readO ⟨1, u, v, a, b, 0, c, n⟩ [x, z] = none := by
            rw [rd10]
            simp only [hr2, Option.map_none]
          have eF : rdF 1 u v a b 0 c n [x, z] = ⟨1, u, v, a, b, 0, c, n⟩ := by
            rw [rf10]
            simp only [hr2, Option.isSome_none, Option.isSome_some, if_true, Bool.false_eq_true, if_false]
          rw [e, eF] at hfin
          ((first | with_reducible refine holds_of_ex X 400 _ _ _ ?_ | skip); simp (maxSteps := 1000000) only [push_cast, reduceCtorEq, Nat.reduceAdd, Nat.reduceMul, Nat.reduceSub, Nat.reduceBEq, Nat.reduceGT, Nat.reduceLT, Int.toNat_zero, Nat.reduceLeDiff, Int.reduceEq, Int.reduceLT, Int.reduceLE, hP, hΓ, hL, hfin, String.reduceEq, not_false_eq_true, if_true, if_false, Int.toNat_one, Bool.not_not, b2t, b2f, Int.reduceAdd, Int.reduceSub, toNat2, i64_0, i64_1, i64_2, i64_3, agI_mk, Option.isSome_some, Option.isSome_none, Option.getD_some, Option.getD_none, h101, hr, hx0, Int.natCast_zero])
          exact Into.one rfl rfl
      · have hrx := hk.2 (by decide)
        obtain ⟨qx, hqx⟩ := Option.isSome_iff_exists.1 hrx
        have hvx := rr_val hqx
        have eL : readO ⟨1, u, v, a, b, 0, c, n⟩ [x, z] = lastO ⟨1, u, v, qx, b, 0, c, n⟩ (!u && !v) z := by
          rw [rd10]
          simp only [hqx]
        have hrb := ref_bd (s := z)
        have hwr : IntKind.i64.wrap ((refO z).getD 0) = (refO z).getD 0 := wr_i64 _ (by constructor <;> omega)
        by_cases hin : ∃ k, refO z = some k ∧ (-2147483648 ≤ k ∧ k < 2147483648)
        · obtain ⟨k, hz, hkb⟩ := hin
          rw [eL, last_num hz hkb] at hfin
          have c1 : decide (-2147483648 ≤ k) = true := decide_eq_true hkb.1
          have c2 : decide (k < 2147483648) = true := decide_eq_true hkb.2
          have hwk : IntKind.i64.wrap k = k := wr_i64 _ (by constructor <;> omega)
          ((first | with_reducible refine holds_of_ex X 400 _ _ _ ?_ | skip); simp (maxSteps := 1000000) only [push_cast, reduceCtorEq, Nat.reduceAdd, Nat.reduceMul, Nat.reduceSub, Nat.reduceBEq, Nat.reduceGT, Nat.reduceLT, Int.toNat_zero, Nat.reduceLeDiff, Int.reduceEq, Int.reduceLT, Int.reduceLE, hP, hΓ, hL, hfin, String.reduceEq, not_false_eq_true, if_true, if_false, Int.toNat_one, Bool.not_not, b2t, b2f, Int.reduceAdd, Int.reduceSub, toNat2, i64_0, i64_1, i64_2, i64_3, agI_mk, Option.isSome_some, Option.isSome_none, Option.getD_some, Option.getD_none, h102, hz, hz0, c1, c2, hwk, hvx])
          exact Into.one rfl rfl
        · have hin2 : ∀ k, refO z = some k → ¬ (-2147483648 ≤ k ∧ k < 2147483648) := fun k h h' => hin ⟨k, h, h'⟩
          have hc : ((refO z).isSome && decide (-2147483648 ≤ (refO z).getD 0) && decide ((refO z).getD 0 < 2147483648)) = false := by
            cases hz : refO z with
            | none => rfl
            | some k =>
              have := hin2 k hz
              simp only [Option.isSome_some, Option.getD_some, Bool.true_and, Bool.and_eq_false_iff, decide_eq_false_iff_not]; omega
          have eF : rdF 1 u v a b 0 c n [x, z] = ⟨if !u && !v then 0 else 1, u, v, rrN x, b, 0, rrN z, n⟩ := by
            rw [rf10]
            simp only [hqx, Option.isSome_some, if_true]
          rw [eL, last_else hin2, eF] at hfin
          rcases Bool.eq_false_or_eq_true (!u && !v) with hw1 | hw1
          · rcases Bool.eq_false_or_eq_true (regO z).isSome with hs | hs
            · obtain ⟨q, hqz⟩ := Option.isSome_iff_exists.1 hs
              have hvz := rr_val hqz
              rw [hqz] at hfin
              simp only [hw1, Bool.not_false, Bool.and_self, Bool.true_and, if_true, Option.map_some] at hfin
              ((first | with_reducible refine holds_of_ex X 400 _ _ _ ?_ | skip); simp (maxSteps := 1000000) only [push_cast, reduceCtorEq, Nat.reduceAdd, Nat.reduceMul, Nat.reduceSub, Nat.reduceBEq, Nat.reduceGT, Nat.reduceLT, Int.toNat_zero, Nat.reduceLeDiff, Int.reduceEq, Int.reduceLT, Int.reduceLE, hP, hΓ, hL, hfin, String.reduceEq, not_false_eq_true, if_true, if_false, Int.toNat_one, Bool.not_not, b2t, b2f, Int.reduceAdd, Int.reduceSub, toNat2, i64_0, i64_1, i64_2, i64_3, agI_mk, Option.isSome_some, Option.isSome_none, Option.getD_some, Option.getD_none, h101, h102, hz0, hc, hs, hvz, hwr, hvx, hw1, Bool.not_false, Bool.and_self, Bool.true_and])
              exact Into.one rfl rfl
            · have hqz : regO z = none := by rw [← Option.not_isSome_iff_eq_none, hs]; simp
              rw [hqz] at hfin
              simp only [hw1, Bool.not_false, Bool.and_self, Bool.true_and, if_true, Option.map_none] at hfin
              ((first | with_reducible refine holds_of_ex X 400 _ _ _ ?_ | skip); simp (maxSteps := 1000000) only [push_cast, reduceCtorEq, Nat.reduceAdd, Nat.reduceMul, Nat.reduceSub, Nat.reduceBEq, Nat.reduceGT, Nat.reduceLT, Int.toNat_zero, Nat.reduceLeDiff, Int.reduceEq, Int.reduceLT, Int.reduceLE, hP, hΓ, hL, hfin, String.reduceEq, not_false_eq_true, if_true, if_false, Int.toNat_one, Bool.not_not, b2t, b2f, Int.reduceAdd, Int.reduceSub, toNat2, i64_0, i64_1, i64_2, i64_3, agI_mk, Option.isSome_some, Option.isSome_none, Option.getD_some, Option.getD_none, h101, h102, hz0, hc, hs, hwr, hvx, hw1, Bool.not_false, Bool.and_self, Bool.true_and])
              exact Into.one rfl rfl
          · simp only [hw1, Bool.false_eq_true, if_false] at hfin
            rcases Bool.eq_false_or_eq_true (regO z).isSome with hs | hs
            all_goals
              ((first | with_reducible refine holds_of_ex X 400 _ _ _ ?_ | skip); simp (maxSteps := 1000000) only [push_cast, reduceCtorEq, Nat.reduceAdd, Nat.reduceMul, Nat.reduceSub, Nat.reduceBEq, Nat.reduceGT, Nat.reduceLT, Int.toNat_zero, Nat.reduceLeDiff, Int.reduceEq, Int.reduceLT, Int.reduceLE, hP, hΓ, hL, hfin, String.reduceEq, not_false_eq_true, if_true, if_false, Int.toNat_one, Bool.not_not, b2t, b2f, Int.reduceAdd, Int.reduceSub, toNat2, i64_0, i64_1, i64_2, i64_3, agI_mk, Option.isSome_some, Option.isSome_none, Option.getD_some, Option.getD_none, h101, h102, hz0, hc, hs, hwr, hvx, hw1])
              exact Into.one rfl rfl
  obtain rfl : rg = 2 := by rw [hrg, if_neg f0, if_neg f15, if_neg f10]
  by_cases f1 : f = 1
  · subst f1
    have o15 : ¬ op = 15 := fun h => f15 ⟨rfl, h⟩
    have o0 : ¬ op = 0 := fun h => f10 ⟨rfl, h⟩
    by_cases h1 : l.length = 3
    case neg =>
      have hd : decide (((l.length : Nat) : Int) = 3) = false := decide_eq_false (by omega)
      have e : readO ⟨1, u, v, a, b, op, c, n⟩ l = none := by
        rw [rdE f0 f15 f10]
        match l, h1 with
        | [], _ => rfl
        | [_], _ => rfl
        | [_, _], _ => rfl
        | [_, _, _], h => exact absurd rfl h
        | _ :: _ :: _ :: _ :: _, _ => rfl
      have eF : rdF 1 u v a b op c n l = ⟨1, u, v, a, b, op, c, n⟩ := by
        rw [rfE f0 f15 f10]
        match l, h1 with
        | [], _ => rfl
        | [_], _ => rfl
        | [_, _], _ => rfl
        | [_, _, _], h => exact absurd rfl h
        | _ :: _ :: _ :: _ :: _, _ => rfl
      rw [e, eF]
      (intro X hP hΓ hL hfin; refine ⟨_, rfl, ?_⟩; rw [show Tryz.f76.ntmps = 118 from rfl]; rw [show Tryz.f76.results.toList = [.cell 4 42, .tmp 5] from rfl] at hfin; apply holds_of_ex X 400; simp (maxSteps := 1000000) only [push_cast, reduceCtorEq, Nat.reduceAdd, Nat.reduceMul, Nat.reduceSub, Nat.reduceBEq, Nat.reduceGT, Nat.reduceLT, Int.toNat_zero, Nat.reduceLeDiff, Int.reduceEq, Int.reduceLT, Int.reduceLE, hP, hΓ, hL, hfin, String.reduceEq, not_false_eq_true, if_true, if_false, Int.toNat_one, Bool.not_not, b2t, b2f, Int.reduceAdd, Int.reduceSub, toNat2, i64_0, i64_1, i64_2, i64_3, agI_mk, Option.isSome_some, Option.isSome_none, Option.getD_some, Option.getD_none, hd, o15, o0])
      exact Into.one rfl rfl
    match l, h1 with
    | [x, y, z], _ =>
      have hx0 := hx x (by simp)
      have hy0 := hx y (by simp)
      have hz0 := hx z (by simp)
      show BodyOk Tryz.prog Γ Tryz.f76 [.agg [.str nm, .int .i64 1, .bool u, .bool v, .int .i64 a, .int .i64 b, .int .i64 op, .int .i64 c, .int .i64 n, .int .i64 2, .bool true], .sl [.str x, .str y, .str z] 3] [] (.tup [agI ((readO ⟨1, u, v, a, b, op, c, n⟩ [x, y, z]).getD (rdF 1 u v a b op c n [x, y, z])), .bool (readO ⟨1, u, v, a, b, op, c, n⟩ [x, y, z]).isSome]) []
      (intro X hP hΓ hL hfin; refine ⟨_, rfl, ?_⟩; rw [show Tryz.f76.ntmps = 118 from rfl]; rw [show Tryz.f76.results.toList = [.cell 4 42, .tmp 5] from rfl] at hfin; apply holds_of_ex X 400; simp (maxSteps := 1000000) only [push_cast, reduceCtorEq, Nat.reduceAdd, Nat.reduceMul, Nat.reduceSub, Nat.reduceBEq, Nat.reduceGT, Nat.reduceLT, Int.toNat_zero, Nat.reduceLeDiff, Int.reduceEq, Int.reduceLT, Int.reduceLE, hP, hΓ, hL, hfin, String.reduceEq, not_false_eq_true, if_true, if_false, Int.toNat_one, Bool.not_not, b2t, b2f, Int.reduceAdd, Int.reduceSub, toNat2, i64_0, i64_1, i64_2, i64_3, agI_mk, Option.isSome_some, Option.isSome_none, Option.getD_some, Option.getD_none, o15, o0])
      refine Holds.loopM (ι := {k : Nat // k ≤ 2 ∧ (0 < k → (regO x).isSome = true) ∧ (1 < k → (regO y).isSome = true)}) [false, true, true, false, true, false, true, true, false, false, false, true, true, true, true, true, false, false, false, false, false, false, false, false, false, false, false, false, false, false, false, false, false, false, false, false, false, false, false, false, false, false, false, false, false, false, false, false, false, false, false, false, false, false, false, false, false, false, false, false, false, false, false, false, false, false, false, false, false, false, false, false, false, false, false, false, false, false, false, false, false, false, false, false, false, false, false, false, false, false, false, false, false, false, false, false, false, false, false, false, false, false, false, false, false, false, false, false, false, false, false, false, false, false, false, false, false, false] (fun i => [(8, .int .i64 i.1)]) (fun i => [.row [.str nm, .int .i64 1, .bool u, .bool v, .int .i64 a, .int .i64 b, .int .i64 op, .int .i64 c, .int .i64 n, .int .i64 2, .bool true] 11 0, .row [.int .i64 0, .bool false, .bool false, .int .i64 0, .int .i64 0, .int .i64 0, .int .i64 0, .int .i64 0] 8 0, .row [.int .i64 1, .bool u, .bool v, .int .i64 (if 0 < i.1 then rrN x else a), .int .i64 (if 1 < i.1 then rrN y else b), .int .i64 op, .int .i64 c, .int .i64 n] 8 0]) (fun i => 2 - i.1) ⟨0, by simp⟩ ?_ ?_
      · (rw [hL]; simp only [push_cast, Int.natCast_zero]; exact Into.sameA)
      rintro ⟨k, hk⟩
      have hk2 : k = 0 ∨ k = 1 ∨ k = 2 := by omega
      rcases hk2 with rfl | rfl | rfl
      · rcases Bool.eq_false_or_eq_true (regO x).isSome with hr | hr
        · ((first | with_reducible refine holds_of_ex X 400 _ _ _ ?_ | skip); simp (maxSteps := 1000000) only [push_cast, reduceCtorEq, Nat.reduceAdd, Nat.reduceMul, Nat.reduceSub, Nat.reduceBEq, Nat.reduceGT, Nat.reduceLT, Int.toNat_zero, Nat.reduceLeDiff, Int.reduceEq, Int.reduceLT, Int.reduceLE, hP, hΓ, hL, hfin, String.reduceEq, not_false_eq_true, if_true, if_false, Int.toNat_one, Bool.not_not, b2t, b2f, Int.reduceAdd, Int.reduceSub, toNat2, i64_0, i64_1, i64_2, i64_3, agI_mk, Option.isSome_some, Option.isSome_none, Option.getD_some, Option.getD_none, h101, hr, hx0, Int.natCast_zero, o15, o0])
          refine ⟨⟨1, by omega, fun _ => hr, fun h => by omega⟩, by simp only; omega, ?_⟩
          exact Into.sameA
        · have hr2 : regO x = none := by rw [← Option.not_isSome_iff_eq_none, hr]; simp
          have e : readO ⟨1, u, v, a, b, op, c, n⟩ [x, y, z] = none := by
            rw [rdE f0 f15 f10]
            simp only [hr2, Option.map_none]
          have eF : rdF 1 u v a b op c n [x, y, z] = ⟨1, u, v, a, b, op, c, n⟩ := by
            rw [rfE f0 f15 f10]
            simp only [hr2, Option.isSome_none, Option.isSome_some, if_true, Bool.false_eq_true, if_false]
          rw [e, eF] at hfin
          ((first | with_reducible refine holds_of_ex X 400 _ _ _ ?_ | skip); simp (maxSteps := 1000000) only [push_cast, reduceCtorEq, Nat.reduceAdd, Nat.reduceMul, Nat.reduceSub, Nat.reduceBEq, Nat.reduceGT, Nat.reduceLT, Int.toNat_zero, Nat.reduceLeDiff, Int.reduceEq, Int.reduceLT, Int.reduceLE, hP, hΓ, hL, hfin, String.reduceEq, not_false_eq_true, if_true, if_false, Int.toNat_one, Bool.not_not, b2t, b2f, Int.reduceAdd, Int.reduceSub, toNat2, i64_0, i64_1, i64_2, i64_3, agI_mk, Option.isSome_some, Option.isSome_none, Option.getD_some, Option.getD_none, h101, hr, hx0, Int.natCast_zero, o15, o0])
          exact Into.one rfl rfl
      · have hrx := hk.2.1 (by decide)
        rcases Bool.eq_false_or_eq_true (regO y).isSome with hr | hr
        · ((first | with_reducible refine holds_of_ex X 400 _ _ _ ?_ | skip); simp (maxSteps := 1000000) only [push_cast, reduceCtorEq, Nat.reduceAdd, Nat.reduceMul, Nat.reduceSub, Nat.reduceBEq, Nat.reduceGT, Nat.reduceLT, Int.toNat_zero, Nat.reduceLeDiff, Int.reduceEq, Int.reduceLT, Int.reduceLE, hP, hΓ, hL, hfin, String.reduceEq, not_false_eq_true, if_true, if_false, Int.toNat_one, Bool.not_not, b2t, b2f, Int.reduceAdd, Int.reduceSub, toNat2, i64_0, i64_1, i64_2, i64_3, agI_mk, Option.isSome_some, Option.isSome_none, Option.getD_some, Option.getD_none, h101, hr, hy0, Int.natCast_zero, hrx, o15, o0])
          refine ⟨⟨2, by omega, fun _ => hrx, fun _ => hr⟩, by simp only; omega, ?_⟩
          exact Into.sameA
        · have hr2 : regO y = none := by rw [← Option.not_isSome_iff_eq_none, hr]; simp
          obtain ⟨qx, hqx⟩ := Option.isSome_iff_exists.1 hrx
          have e : readO ⟨1, u, v, a, b, op, c, n⟩ [x, y, z] = none := by
            rw [rdE f0 f15 f10]
            simp only [hr2, hqx, Option.map_none]
          have eF : rdF 1 u v a b op c n [x, y, z] = ⟨1, u, v, rrN x, b, op, c, n⟩ := by
            rw [rfE f0 f15 f10]
            simp only [hr2, hqx, Option.isSome_none, Option.isSome_some, if_true, Bool.false_eq_true, if_false]
          rw [e, eF] at hfin
          ((first | with_reducible refine holds_of_ex X 400 _ _ _ ?_ | skip); simp (maxSteps := 1000000) only [push_cast, reduceCtorEq, Nat.reduceAdd, Nat.reduceMul, Nat.reduceSub, Nat.reduceBEq, Nat.reduceGT, Nat.reduceLT, Int.toNat_zero, Nat.reduceLeDiff, Int.reduceEq, Int.reduceLT, Int.reduceLE, hP, hΓ, hL, hfin, String.reduceEq, not_false_eq_true, if_true, if_false, Int.toNat_one, Bool.not_not, b2t, b2f, Int.reduceAdd, Int.reduceSub, toNat2, i64_0, i64_1, i64_2, i64_3, agI_mk, Option.isSome_some, Option.isSome_none, Option.getD_some, Option.getD_none, h101, hr, hy0, Int.natCast_zero, hrx, o15, o0])
          exact Into.one rfl rfl
      · have hrx := hk.2.1 (by decide)
        obtain ⟨qx, hqx⟩ := Option.isSome_iff_exists.1 hrx
        have hvx := rr_val hqx
        have hry := hk.2.2 (by decide)
        obtain ⟨qy, hqy⟩ := Option.isSome_iff_exists.1 hry
        have hvy := rr_val hqy
        have eL : readO ⟨1, u, v, a, b, op, c, n⟩ [x, y, z] = lastO ⟨1, u, v, qx, qy, op, c, n⟩ (decide ((1 : Int) = 1)) z := by
          rw [rdE f0 f15 f10]
          simp only [hqx, hqy]
        have hrb := ref_bd (s := z)
        have hwr : IntKind.i64.wrap ((refO z).getD 0) = (refO z).getD 0 := wr_i64 _ (by constructor <;> omega)
        by_cases hin : ∃ k, refO z = some k ∧ (-2147483648 ≤ k ∧ k < 2147483648)
        · obtain ⟨k, hz, hkb⟩ := hin
          rw [eL, last_num hz hkb] at hfin
          have c1 : decide (-2147483648 ≤ k) = true := decide_eq_true hkb.1
          have c2 : decide (k < 2147483648) = true := decide_eq_true hkb.2
          have hwk : IntKind.i64.wrap k = k := wr_i64 _ (by constructor <;> omega)
          ((first | with_reducible refine holds_of_ex X 400 _ _ _ ?_ | skip); simp (maxSteps := 1000000) only [push_cast, reduceCtorEq, Nat.reduceAdd, Nat.reduceMul, Nat.reduceSub, Nat.reduceBEq, Nat.reduceGT, Nat.reduceLT, Int.toNat_zero, Nat.reduceLeDiff, Int.reduceEq, Int.reduceLT, Int.reduceLE, hP, hΓ, hL, hfin, String.reduceEq, not_false_eq_true, if_true, if_false, Int.toNat_one, Bool.not_not, b2t, b2f, Int.reduceAdd, Int.reduceSub, toNat2, i64_0, i64_1, i64_2, i64_3, agI_mk, Option.isSome_some, Option.isSome_none, Option.getD_some, Option.getD_none, h102, hz, hz0, c1, c2, hwk, hvx, hvy, o15, o0])
          exact Into.one rfl rfl
        · have hin2 : ∀ k, refO z = some k → ¬ (-2147483648 ≤ k ∧ k < 2147483648) := fun k h h' => hin ⟨k, h, h'⟩
          have hc : ((refO z).isSome && decide (-2147483648 ≤ (refO z).getD 0) && decide ((refO z).getD 0 < 2147483648)) = false := by
            cases hz : refO z with
            | none => rfl
            | some k =>
              have := hin2 k hz
              simp only [Option.isSome_some, Option.getD_some, Bool.true_and, Bool.and_eq_false_iff, decide_eq_false_iff_not]; omega
          have eF : rdF 1 u v a b op c n [x, y, z] = ⟨0, u, v, rrN x, rrN y, op, rrN z, n⟩ := by
            rw [rfE f0 f15 f10]
            simp only [hqx, hqy, Option.isSome_some, if_true]
          rw [eL, last_else hin2, eF] at hfin
          rcases Bool.eq_false_or_eq_true (regO z).isSome with hs | hs
          · obtain ⟨q, hqz⟩ := Option.isSome_iff_exists.1 hs
            have hvz := rr_val hqz
            rw [hqz] at hfin
            simp only [o15, o0, decide_true, if_true, Option.map_some] at hfin
            ((first | with_reducible refine holds_of_ex X 400 _ _ _ ?_ | skip); simp (maxSteps := 1000000) only [push_cast, reduceCtorEq, Nat.reduceAdd, Nat.reduceMul, Nat.reduceSub, Nat.reduceBEq, Nat.reduceGT, Nat.reduceLT, Int.toNat_zero, Nat.reduceLeDiff, Int.reduceEq, Int.reduceLT, Int.reduceLE, hP, hΓ, hL, hfin, String.reduceEq, not_false_eq_true, if_true, if_false, Int.toNat_one, Bool.not_not, b2t, b2f, Int.reduceAdd, Int.reduceSub, toNat2, i64_0, i64_1, i64_2, i64_3, agI_mk, Option.isSome_some, Option.isSome_none, Option.getD_some, Option.getD_none, h101, h102, hz0, hc, hs, hvz, hwr, hvx, hvy, o15, o0, decide_true])
            exact Into.one rfl rfl
          · have hqz : regO z = none := by rw [← Option.not_isSome_iff_eq_none, hs]; simp
            rw [hqz] at hfin
            simp only [o15, o0, decide_true, if_true, Option.map_none] at hfin
            ((first | with_reducible refine holds_of_ex X 400 _ _ _ ?_ | skip); simp (maxSteps := 1000000) only [push_cast, reduceCtorEq, Nat.reduceAdd, Nat.reduceMul, Nat.reduceSub, Nat.reduceBEq, Nat.reduceGT, Nat.reduceLT, Int.toNat_zero, Nat.reduceLeDiff, Int.reduceEq, Int.reduceLT, Int.reduceLE, hP, hΓ, hL, hfin, String.reduceEq, not_false_eq_true, if_true, if_false, Int.toNat_one, Bool.not_not, b2t, b2f, Int.reduceAdd, Int.reduceSub, toNat2, i64_0, i64_1, i64_2, i64_3, agI_mk, Option.isSome_some, Option.isSome_none, Option.getD_some, Option.getD_none, h101, h102, hz0, hc, hs, hwr, hvx, hvy, o15, o0, decide_true])
            exact Into.one rfl rfl
  obtain rfl : f = 2 := by omega
  by_cases h1 : l.length = 3
  case neg =>
    have hd : decide (((l.length : Nat) : Int) = 3) = false := decide_eq_false (by omega)
    have e : readO ⟨2, u, v, a, b, op, c, n⟩ l = none := by
      rw [rdE f0 f15 f10]
      match l, h1 with
      | [], _ => rfl
      | [_], _ => rfl
      | [_, _], _ => rfl
      | [_, _, _], h => exact absurd rfl h
      | _ :: _ :: _ :: _ :: _, _ => rfl
    have eF : rdF 2 u v a b op c n l = ⟨2, u, v, a, b, op, c, n⟩ := by
      rw [rfE f0 f15 f10]
      match l, h1 with
      | [], _ => rfl
      | [_], _ => rfl
      | [_, _], _ => rfl
      | [_, _, _], h => exact absurd rfl h
      | _ :: _ :: _ :: _ :: _, _ => rfl
    rw [e, eF]
    (intro X hP hΓ hL hfin; refine ⟨_, rfl, ?_⟩; rw [show Tryz.f76.ntmps = 118 from rfl]; rw [show Tryz.f76.results.toList = [.cell 4 42, .tmp 5] from rfl] at hfin; apply holds_of_ex X 400; simp (maxSteps := 1000000) only [push_cast, reduceCtorEq, Nat.reduceAdd, Nat.reduceMul, Nat.reduceSub, Nat.reduceBEq, Nat.reduceGT, Nat.reduceLT, Int.toNat_zero, Nat.reduceLeDiff, Int.reduceEq, Int.reduceLT, Int.reduceLE, hP, hΓ, hL, hfin, String.reduceEq, not_false_eq_true, if_true, if_false, Int.toNat_one, Bool.not_not, b2t, b2f, Int.reduceAdd, Int.reduceSub, toNat2, i64_0, i64_1, i64_2, i64_3, agI_mk, Option.isSome_some, Option.isSome_none, Option.getD_some, Option.getD_none, hd])
    exact Into.one rfl rfl
  match l, h1 with
  | [x, y, z], _ =>
    have hx0 := hx x (by simp)
    have hy0 := hx y (by simp)
    have hz0 := hx z (by simp)
    show BodyOk Tryz.prog Γ Tryz.f76 [.agg [.str nm, .int .i64 2, .bool u, .bool v, .int .i64 a, .int .i64 b, .int .i64 op, .int .i64 c, .int .i64 n, .int .i64 2, .bool true], .sl [.str x, .str y, .str z] 3] [] (.tup [agI ((readO ⟨2, u, v, a, b, op, c, n⟩ [x, y, z]).getD (rdF 2 u v a b op c n [x, y, z])), .bool (readO ⟨2, u, v, a, b, op, c, n⟩ [x, y, z]).isSome]) []
    (intro X hP hΓ hL hfin; refine ⟨_, rfl, ?_⟩; rw [show Tryz.f76.ntmps = 118 from rfl]; rw [show Tryz.f76.results.toList = [.cell 4 42, .tmp 5] from rfl] at hfin; apply holds_of_ex X 400; simp (maxSteps := 1000000) only [push_cast, reduceCtorEq, Nat.reduceAdd, Nat.reduceMul, Nat.reduceSub, Nat.reduceBEq, Nat.reduceGT, Nat.reduceLT, Int.toNat_zero, Nat.reduceLeDiff, Int.reduceEq, Int.reduceLT, Int.reduceLE, hP, hΓ, hL, hfin, String.reduceEq, not_false_eq_true, if_true, if_false, Int.toNat_one, Bool.not_not, b2t, b2f, Int.reduceAdd, Int.reduceSub, toNat2, i64_0, i64_1, i64_2, i64_3, agI_mk, Option.isSome_some, Option.isSome_none, Option.getD_some, Option.getD_none])
    refine Holds.loopM (ι := {k : Nat // k ≤ 2 ∧ (0 < k → (regO x).isSome = true) ∧ (1 < k → (regO y).isSome = true)}) [false, true, true, false, true, false, true, true, false, false, false, true, true, true, true, true, false, false, false, false, false, false, false, false, false, false, false, false, false, false, false, false, false, false, false, false, false, false, false, false, false, false, false, false, false, false, false, false, false, false, false, false, false, false, false, false, false, false, false, false, false, false, false, false, false, false, false, false, false, false, false, false, false, false, false, false, false, false, false, false, false, false, false, false, false, false, false, false, false, false, false, false, false, false, false, false, false, false, false, false, false, false, false, false, false, false, false, false, false, false, false, false, false, false, false, false, false, false] (fun i => [(8, .int .i64 i.1)]) (fun i => [.row [.str nm, .int .i64 2, .bool u, .bool v, .int .i64 a, .int .i64 b, .int .i64 op, .int .i64 c, .int .i64 n, .int .i64 2, .bool true] 11 0, .row [.int .i64 0, .bool false, .bool false, .int .i64 0, .int .i64 0, .int .i64 0, .int .i64 0, .int .i64 0] 8 0, .row [.int .i64 2, .bool u, .bool v, .int .i64 (if 0 < i.1 then rrN x else a), .int .i64 (if 1 < i.1 then rrN y else b), .int .i64 op, .int .i64 c, .int .i64 n] 8 0]) (fun i => 2 - i.1) ⟨0, by simp⟩ ?_ ?_
    · (rw [hL]; simp only [push_cast, Int.natCast_zero]; exact Into.sameA)
    rintro ⟨k, hk⟩
    have hk2 : k = 0 ∨ k = 1 ∨ k = 2 := by omega
    rcases hk2 with rfl | rfl | rfl
    · rcases Bool.eq_false_or_eq_true (regO x).isSome with hr | hr
      · ((first | with_reducible refine holds_of_ex X 400 _ _ _ ?_ | skip); simp (maxSteps := 1000000) only [push_cast, reduceCtorEq, Nat.reduceAdd, Nat.reduceMul, Nat.reduceSub, Nat.reduceBEq, Nat.reduceGT, Nat.reduceLT, Int.toNat_zero, Nat.reduceLeDiff, Int.reduceEq, Int.reduceLT, Int.reduceLE, hP, hΓ, hL, hfin, String.reduceEq, not_false_eq_true, if_true, if_false, Int.toNat_one, Bool.not_not, b2t, b2f, Int.reduceAdd, Int.reduceSub, toNat2, i64_0, i64_1, i64_2, i64_3, agI_mk, Option.isSome_some, Option.isSome_none, Option.getD_some, Option.getD_none, h101, hr, hx0, Int.natCast_zero])
        refine ⟨⟨1, by omega, fun _ => hr, fun h => by omega⟩, by simp only; omega, ?_⟩
        exact Into.sameA
      · have hr2 : regO x = none := by rw [← Option.not_isSome_iff_eq_none, hr]; simp
        have e : readO ⟨2, u, v, a, b, op, c, n⟩ [x, y, z] = none := by
          rw [rdE f0 f15 f10]
          simp only [hr2, Option.map_none]
        have eF : rdF 2 u v a b op c n [x, y, z] = ⟨2, u, v, a, b, op, c, n⟩ := by
          rw [rfE f0 f15 f10]
          simp only [hr2, Option.isSome_none, Option.isSome_some, if_true, Bool.false_eq_true, if_false]
        rw [e, eF] at hfin
        ((first | with_reducible refine holds_of_ex X 400 _ _ _ ?_ | skip); simp (maxSteps := 1000000) only [push_cast, reduceCtorEq, Nat.reduceAdd, Nat.reduceMul, Nat.reduceSub, Nat.reduceBEq, Nat.reduceGT, Nat.reduceLT, Int.toNat_zero, Nat.reduceLeDiff, Int.reduceEq, Int.reduceLT, Int.reduceLE, hP, hΓ, hL, hfin, String.reduceEq, not_false_eq_true, if_true, if_false, Int.toNat_one, Bool.not_not, b2t, b2f, Int.reduceAdd, Int.reduceSub, toNat2, i64_0, i64_1, i64_2, i64_3, agI_mk, Option.isSome_some, Option.isSome_none, Option.getD_some, Option.getD_none, h101, hr, hx0, Int.natCast_zero])
        exact Into.one rfl rfl
    · have hrx := hk.2.1 (by decide)
      rcases Bool.eq_false_or_eq_true (regO y).isSome with hr | hr
      · ((first | with_reducible refine holds_of_ex X 400 _ _ _ ?_ | skip); simp (maxSteps := 1000000) only [push_cast, reduceCtorEq, Nat.reduceAdd, Nat.reduceMul, Nat.reduceSub, Nat.reduceBEq, Nat.reduceGT, Nat.reduceLT, Int.toNat_zero, Nat.reduceLeDiff, Int.reduceEq, Int.reduceLT, Int.reduceLE, hP, hΓ, hL, hfin, String.reduceEq, not_false_eq_true, if_true, if_false, Int.toNat_one, Bool.not_not, b2t, b2f, Int.reduceAdd, Int.reduceSub, toNat2, i64_0, i64_1, i64_2, i64_3, agI_mk, Option.isSome_some, Option.isSome_none, Option.getD_some, Option.getD_none, h101, hr, hy0, Int.natCast_zero, hrx])
        refine ⟨⟨2, by omega, fun _ => hrx, fun _ => hr⟩, by simp only; omega, ?_⟩
        exact Into.sameA
      · have hr2 : regO y = none := by rw [← Option.not_isSome_iff_eq_none, hr]; simp
        obtain ⟨qx, hqx⟩ := Option.isSome_iff_exists.1 hrx
        have e : readO ⟨2, u, v, a, b, op, c, n⟩ [x, y, z] = none := by
          rw [rdE f0 f15 f10]
          simp only [hr2, hqx, Option.map_none]
        have eF : rdF 2 u v a b op c n [x, y, z] = ⟨2, u, v, rrN x, b, op, c, n⟩ := by
          rw [rfE f0 f15 f10]
          simp only [hr2, hqx, Option.isSome_none, Option.isSome_some, if_true, Bool.false_eq_true, if_false]
        rw [e, eF] at hfin
        ((first | with_reducible refine holds_of_ex X 400 _ _ _ ?_ | skip); simp (maxSteps := 1000000) only [push_cast, reduceCtorEq, Nat.reduceAdd, Nat.reduceMul, Nat.reduceSub, Nat.reduceBEq, Nat.reduceGT, Nat.reduceLT, Int.toNat_zero, Nat.reduceLeDiff, Int.reduceEq, Int.reduceLT, Int.reduceLE, hP, hΓ, hL, hfin, String.reduceEq, not_false_eq_true, if_true, if_false, Int.toNat_one, Bool.not_not, b2t, b2f, Int.reduceAdd, Int.reduceSub, toNat2, i64_0, i64_1, i64_2, i64_3, agI_mk, Option.isSome_some, Option.isSome_none, Option.getD_some, Option.getD_none, h101, hr, hy0, Int.natCast_zero, hrx])
        exact Into.one rfl rfl
    · have hrx := hk.2.1 (by decide)
      obtain ⟨qx, hqx⟩ := Option.isSome_iff_exists.1 hrx
      have hvx := rr_val hqx
      have hry := hk.2.2 (by decide)
      obtain ⟨qy, hqy⟩ := Option.isSome_iff_exists.1 hry
      have hvy := rr_val hqy
      have eL : readO ⟨2, u, v, a, b, op, c, n⟩ [x, y, z] = lastO ⟨2, u, v, qx, qy, op, c, n⟩ (decide ((2 : Int) = 1)) z := by
        rw [rdE f0 f15 f10]
        simp only [hqx, hqy]
      have hrb := ref_bd (s := z)
      have hwr : IntKind.i64.wrap ((refO z).getD 0) = (refO z).getD 0 := wr_i64 _ (by constructor <;> omega)
      by_cases hin : ∃ k, refO z = some k ∧ (-2147483648 ≤ k ∧ k < 2147483648)
      · obtain ⟨k, hz, hkb⟩ := hin
        rw [eL, last_num hz hkb] at hfin
        have c1 : decide (-2147483648 ≤ k) = true := decide_eq_true hkb.1
        have c2 : decide (k < 2147483648) = true := decide_eq_true hkb.2
        have hwk : IntKind.i64.wrap k = k := wr_i64 _ (by constructor <;> omega)
        ((first | with_reducible refine holds_of_ex X 400 _ _ _ ?_ | skip); simp (maxSteps := 1000000) only [push_cast, reduceCtorEq, Nat.reduceAdd, Nat.reduceMul, Nat.reduceSub, Nat.reduceBEq, Nat.reduceGT, Nat.reduceLT, Int.toNat_zero, Nat.reduceLeDiff, Int.reduceEq, Int.reduceLT, Int.reduceLE, hP, hΓ, hL, hfin, String.reduceEq, not_false_eq_true, if_true, if_false, Int.toNat_one, Bool.not_not, b2t, b2f, Int.reduceAdd, Int.reduceSub, toNat2, i64_0, i64_1, i64_2, i64_3, agI_mk, Option.isSome_some, Option.isSome_none, Option.getD_some, Option.getD_none, h102, hz, hz0, c1, c2, hwk, hvx, hvy])
        exact Into.one rfl rfl
      · have hin2 : ∀ k, refO z = some k → ¬ (-2147483648 ≤ k ∧ k < 2147483648) := fun k h h' => hin ⟨k, h, h'⟩
        have hc : ((refO z).isSome && decide (-2147483648 ≤ (refO z).getD 0) && decide ((refO z).getD 0 < 2147483648)) = false := by
          cases hz : refO z with
          | none => rfl
          | some k =>
            have := hin2 k hz
            simp only [Option.isSome_some, Option.getD_some, Bool.true_and, Bool.and_eq_false_iff, decide_eq_false_iff_not]; omega
        have eF : rdF 2 u v a b op c n [x, y, z] = ⟨2, u, v, rrN x, rrN y, op, rrN z, n⟩ := by
          rw [rfE f0 f15 f10]
          simp only [hqx, hqy, Option.isSome_some, if_true, show ¬ (2 : Int) = 1 by decide, if_false]
        rw [eL, last_else hin2, eF] at hfin
        simp only [d21, Bool.false_eq_true, if_false] at hfin
        rcases Bool.eq_false_or_eq_true (regO z).isSome with hs | hs
        all_goals
          ((first | with_reducible refine holds_of_ex X 400 _ _ _ ?_ | skip); simp (maxSteps := 1000000) only [push_cast, reduceCtorEq, Nat.reduceAdd, Nat.reduceMul, Nat.reduceSub, Nat.reduceBEq, Nat.reduceGT, Nat.reduceLT, Int.toNat_zero, Nat.reduceLeDiff, Int.reduceEq, Int.reduceLT, Int.reduceLE, hP, hΓ, hL, hfin, String.reduceEq, not_false_eq_true, if_true, if_false, Int.toNat_one, Bool.not_not, b2t, b2f, Int.reduceAdd, Int.reduceSub, toNat2, i64_0, i64_1, i64_2, i64_3, agI_mk, Option.isSome_some, Option.isSome_none, Option.getD_some, Option.getD_none, h101, h102, hz0, hc, hs, hwr, hvx, hvy, d21])
          exact Into.one rfl rfl
theorem con76 {Γ : Env} (h : EnvOk Tryz.prog Γ) (h101 : Γ 101 = some S101) (h102 : Γ 102 = some S102) : Con Tryz.prog 76 S76 :=
  funS_con h (fn := Tryz.f76) (by kernel_rfl) rfl (by kernel_rfl) inj76 (by first | (intro h; cases h; done) | exact fun _ _ => rfl) fun ⟨nm, f, u, v, a, b, op, c, n, rg, lt, l⟩ h => body76 Γ h101 h102 nm f u v a b op c n rg lt l h.1.1 h.1.2 h.2.1 h.2.2.1 h.2.2.2
end Go.Proofs.YtgemeilncdmapaaGreatDoor.asmDone
end
section
namespace Go.Proofs.YtgemeilncdmapaaGreatDoor.asmDone
open Go Go.Eng Go.Proofs Go.RowKit
open Go.Asm (mayB in16 rightB laid sx In flds rightI laidI decB laid_lo ops cnds opT cnT regT sufT nameT hexC hexT sep lastT insT showF joinT numO prgN prgB regO refP refO dgt dval ixO blk brO readO lastO formO formL)
set_option linter.unusedVariables false
set_option linter.unusedSimpArgs false
set_option maxRecDepth 100000
set_option maxHeartbeats 4000000
def inV (i : In) : Value := .agg #[.int .i64 i.f, .bool i.u, .bool i.v, .int .i64 i.a, .int .i64 i.b, .int .i64 i.op, .int .i64 i.c, .int .i64 i.n]
/-- a map of names -/
def nmL : List (List UInt8 × In) → Key → Option Value
  | [], _ => none
  | p :: r, k => if k = .s p.1 then some (inV p.2) else nmL r k
theorem nmL_upd (r : List (List UInt8 × In)) (s : List UInt8) (f : Int) (u v : Bool) (a b op c n : Int) :
    updK (nmL r) (.s s) (.agg #[.int .i64 f, .bool u, .bool v, .int .i64 a, .int .i64 b, .int .i64 op, .int .i64 c, .int .i64 n]) = nmL ((s, ⟨f, u, v, a, b, op, c, n⟩) :: r) := by
  funext k; rfl
theorem noK_L : noK = nmL [] := by funext k; rfl
def uK (k : Nat) : Bool := k % 2 == 1
def vK (k : Nat) : Bool := decide (2 ≤ k)
def memE (k : Nat) : List UInt8 × In := (nameT 2 (uK k) (vK k) 0, ⟨2, uK k, vK k, 0, 0, 0, 0, 0⟩)
def opE (k op : Nat) : List UInt8 × In := (nameT 1 (uK k) (vK k) op, ⟨1, uK k, vK k, 0, 0, op, 0, 0⟩)
def baseE : List (List UInt8 × In) := [([84, 82, 65, 80], ⟨1, false, false, 0, 0, 15, 0, 0⟩), ([77, 79, 86, 70], ⟨0, true, true, 0, 0, 0, 0, 0⟩), ([77, 79, 86, 72], ⟨0, true, false, 0, 0, 0, 0, 0⟩)]
def opsE (k : Nat) (r : List (List UInt8 × In)) : Nat → List (List UInt8 × In)
  | 0 => r
  | op + 1 => opE k op :: opsE k r op
def allE : Nat → List (List UInt8 × In)
  | 0 => baseE
  | k + 1 => opsE k (memE k :: allE k) 12
theorem uvK (k : Nat) (h : k < 4) : (!decide (ibits .and .i64 (k : Int) 1 = 0)) = uK k ∧ (!decide (ibits .and .i64 (k : Int) 2 = 0)) = vK k := by
  have key : ∀ i : Fin 4, (!decide (ibits .and .i64 (i.1 : Int) 1 = 0)) = uK i.1 ∧ (!decide (ibits .and .i64 (i.1 : Int) 2 = 0)) = vK i.1 := by decide
  exact key ⟨k, h⟩
def e66 : Unit → List AV := fun _ => []
def p66 : Unit → Prop := fun _ => True
def r66 : Unit → AV := fun _ => .mpr none (nmL (allE 4))
def g66 : Unit → Heap := fun _ => []
theorem inj66 : ∀ a b, e66 a = e66 b → a = b := fun _ _ _ => rfl
noncomputable def S66 : FSpec := funS e66 p66 r66 g66 true
theorem ps66  : psel e66 p66 [] = (True) := psel_at inj66 p66 ()
theorem rs66  : rsel e66 r66 .any [] = (.mpr none (nmL (allE 4))) := rsel_at inj66 r66 .any ()
theorem hs66  : rsel e66 g66 [] [] = ([]) := rsel_at inj66 g66 [] ()
attribute [push_cast] S66 ps66 rs66 hs66
theorem body66 (Γ : Env) (h24 : Γ 24 = some S24) : BodyOk Tryz.prog Γ Tryz.f66 [] [] (.mpr none (nmL (allE 4))) [] := by
  (intro X hP hΓ hL hfin; refine ⟨_, rfl, ?_⟩; rw [show Tryz.f66.ntmps = 38 from rfl]; rw [show Tryz.f66.results.toList = [.tmp 0] from rfl] at hfin; apply holds_of_ex X 400; simp (maxSteps := 1000000) only [push_cast, reduceCtorEq, Nat.reduceAdd, Nat.reduceMul, Nat.reduceSub, Nat.reduceBEq, Nat.reduceGT, Nat.reduceLT, Int.toNat_zero, Nat.reduceLeDiff, Int.reduceEq, Int.reduceLT, Int.reduceLE, hP, hΓ, hL, hfin, String.reduceEq, not_false_eq_true, if_true, if_false, Int.toNat_one, Bool.not_not, b2t, b2f, Int.reduceAdd, Int.reduceSub, i64_0, i64_1, i64_2, i64_3, oA_some, oA_none, agI_mk, Option.isSome_some, Option.isSome_none, Option.getD_some, Option.getD_none, noK_L, nmL_upd])
  rw [show (nmL [([84, 82, 65, 80], ({ f := 1, u := false, v := false, a := 0, b := 0, op := 15, c := 0, n := 0 } : In)), ([77, 79, 86, 70], ⟨0, true, true, 0, 0, 0, 0, 0⟩), ([77, 79, 86, 72], ⟨0, true, false, 0, 0, 0, 0, 0⟩)]) = nmL (allE 0) from rfl]
  refine Holds.loopM (ι := {k : Nat // k ≤ 4}) [true, true, false, false, false, false, false, false, false, false, false, false, false, false, false, false, false, false, false, false, false, false, false, false, false, false, false, false, false, false, false, false, false, false, false, false, false, false] (fun i => [(9, .int .i64 i.1)]) (fun i => [.raw (.map none (nmL (allE i.1)))]) (fun i => 4 - i.1) ⟨0, by decide⟩ ?_ ?_
  · (rw [hL]; simp only [push_cast, Int.natCast_zero]; exact Into.sameA)
  rintro ⟨k, hk⟩
  ((first | with_reducible refine holds_of_ex X 400 _ _ _ ?_ | skip); simp (maxSteps := 1000000) only [push_cast, reduceCtorEq, Nat.reduceAdd, Nat.reduceMul, Nat.reduceSub, Nat.reduceBEq, Nat.reduceGT, Nat.reduceLT, Int.toNat_zero, Nat.reduceLeDiff, Int.reduceEq, Int.reduceLT, Int.reduceLE, hP, hΓ, hL, hfin, String.reduceEq, not_false_eq_true, if_true, if_false, Int.toNat_one, Bool.not_not, b2t, b2f, Int.reduceAdd, Int.reduceSub, i64_0, i64_1, i64_2, i64_3, oA_some, oA_none, agI_mk, Option.isSome_some, Option.isSome_none, Option.getD_some, Option.getD_none])
  ((with_reducible refine exB_split (fun h => ?_) (fun h => ?_)) <;> (try simp only [decide_eq_true_eq, decide_eq_false_iff_not, Bool.and_eq_true, Bool.or_eq_true, Bool.and_eq_false_iff, Bool.or_eq_false_iff, Bool.not_eq_true', Bool.not_eq_false', Bool.not_eq_true, Bool.not_eq_false, Int.not_lt, Int.not_le, beq_iff_eq, beq_eq_false_iff_ne, ne_eq] at h))
  · have hk' : k < 4 := by omega
    obtain ⟨hu, hv⟩ := uvK k hk'
    ((first | with_reducible refine holds_of_ex X 400 _ _ _ ?_ | skip); simp (maxSteps := 1000000) only [push_cast, reduceCtorEq, Nat.reduceAdd, Nat.reduceMul, Nat.reduceSub, Nat.reduceBEq, Nat.reduceGT, Nat.reduceLT, Int.toNat_zero, Nat.reduceLeDiff, Int.reduceEq, Int.reduceLT, Int.reduceLE, hP, hΓ, hL, hfin, String.reduceEq, not_false_eq_true, if_true, if_false, Int.toNat_one, Bool.not_not, b2t, b2f, Int.reduceAdd, Int.reduceSub, i64_0, i64_1, i64_2, i64_3, oA_some, oA_none, agI_mk, Option.isSome_some, Option.isSome_none, Option.getD_some, Option.getD_none, hu, hv])
    (refine Holds.drawnE (patH [.fix (.raw (.map none (nmL (allE k)))), .fix (.row [.int .i64 2, .bool (uK k), .bool (vK k), .int .i64 0, .int .i64 0, .int .i64 0, .int .i64 0, .int .i64 0] 8 0)]) [0, 1, 3, 4] [] [] true (by rw [hP]; kernel_rfl) (by kernel_rfl) (by kernel_rfl) (by kernel_rfl) (by first | exact .inl rfl | exact .inr fun _ _ h => patH_app _ _ h) (by first | (simp only [push_cast]; done) | (simp only [push_cast, and_true]; omega)) ?_; simp (maxSteps := 1000000) only [↓reduceIte, Option.getD_some, push_cast, reduceCtorEq, Nat.reduceAdd, Nat.reduceMul, Nat.reduceSub, Nat.reduceBEq, Nat.reduceGT, Nat.reduceLT, Int.toNat_zero, Nat.reduceLeDiff, Int.reduceEq, Int.reduceLT, Int.reduceLE, hP, hΓ, hL, hfin, String.reduceEq, not_false_eq_true, if_true, if_false, Int.toNat_one, Bool.not_not, b2t, b2f, Int.reduceAdd, Int.reduceSub, i64_0, i64_1, i64_2, i64_3, oA_some, oA_none, agI_mk, Option.isSome_some, Option.isSome_none, Option.getD_some, Option.getD_none, h24, nmL_upd])
    rw [show nmL ((nameT 2 (uK k) (vK k) 0, ({ f := 2, u := uK k, v := vK k, a := 0, b := 0, op := 0, c := 0, n := 0 } : In)) :: allE k) = nmL (opsE k (memE k :: allE k) 0) from rfl]
    ((first | with_reducible refine holds_of_ex X 400 _ _ _ ?_ | skip); simp (maxSteps := 1000000) only [push_cast, reduceCtorEq, Nat.reduceAdd, Nat.reduceMul, Nat.reduceSub, Nat.reduceBEq, Nat.reduceGT, Nat.reduceLT, Int.toNat_zero, Nat.reduceLeDiff, Int.reduceEq, Int.reduceLT, Int.reduceLE, hP, hΓ, hL, hfin, String.reduceEq, not_false_eq_true, if_true, if_false, Int.toNat_one, Bool.not_not, b2t, b2f, Int.reduceAdd, Int.reduceSub, i64_0, i64_1, i64_2, i64_3, oA_some, oA_none, agI_mk, Option.isSome_some, Option.isSome_none, Option.getD_some, Option.getD_none])
    refine Holds.loopM (ι := {op : Nat // op ≤ 12}) [true, true, false, true, false, false, false, false, false, true, false, false, false, false, false, false, false, false, false, false, false, false, false, false, false, false, false, false, false, false, false, false, false, false, false, false, false, false] (fun i => []) (fun i => [.raw (.map none (nmL (opsE k (memE k :: allE k) i.1))), .row [.int .i64 1, .bool (uK k), .bool (vK k), .int .i64 0, .int .i64 0, .int .i64 i.1, .int .i64 0, .int .i64 0] 8 0]) (fun i => 12 - i.1) ⟨0, by decide⟩ ?_ ?_
    · (rw [hL]; simp only [push_cast, Int.natCast_zero]; exact Into.sameA)
    rintro ⟨j, hj⟩
    ((first | with_reducible refine holds_of_ex X 400 _ _ _ ?_ | skip); simp (maxSteps := 1000000) only [push_cast, reduceCtorEq, Nat.reduceAdd, Nat.reduceMul, Nat.reduceSub, Nat.reduceBEq, Nat.reduceGT, Nat.reduceLT, Int.toNat_zero, Nat.reduceLeDiff, Int.reduceEq, Int.reduceLT, Int.reduceLE, hP, hΓ, hL, hfin, String.reduceEq, not_false_eq_true, if_true, if_false, Int.toNat_one, Bool.not_not, b2t, b2f, Int.reduceAdd, Int.reduceSub, i64_0, i64_1, i64_2, i64_3, oA_some, oA_none, agI_mk, Option.isSome_some, Option.isSome_none, Option.getD_some, Option.getD_none])
    ((with_reducible refine exB_split (fun h => ?_) (fun h => ?_)) <;> (try simp only [decide_eq_true_eq, decide_eq_false_iff_not, Bool.and_eq_true, Bool.or_eq_true, Bool.and_eq_false_iff, Bool.or_eq_false_iff, Bool.not_eq_true', Bool.not_eq_false', Bool.not_eq_true, Bool.not_eq_false, Int.not_lt, Int.not_le, beq_iff_eq, beq_eq_false_iff_ne, ne_eq] at h))
    · have hj0 : 0 ≤ (j : Int) ∧ (j : Int) ≤ 15 := by omega
      ((first | with_reducible refine holds_of_ex X 400 _ _ _ ?_ | skip); simp (maxSteps := 1000000) only [push_cast, reduceCtorEq, Nat.reduceAdd, Nat.reduceMul, Nat.reduceSub, Nat.reduceBEq, Nat.reduceGT, Nat.reduceLT, Int.toNat_zero, Nat.reduceLeDiff, Int.reduceEq, Int.reduceLT, Int.reduceLE, hP, hΓ, hL, hfin, String.reduceEq, not_false_eq_true, if_true, if_false, Int.toNat_one, Bool.not_not, b2t, b2f, Int.reduceAdd, Int.reduceSub, i64_0, i64_1, i64_2, i64_3, oA_some, oA_none, agI_mk, Option.isSome_some, Option.isSome_none, Option.getD_some, Option.getD_none])
      (refine Holds.drawnE (patH [.fix (.raw (.map none (nmL (opsE k (memE k :: allE k) j)))), .fix (.row [.int .i64 1, .bool (uK k), .bool (vK k), .int .i64 0, .int .i64 0, .int .i64 j, .int .i64 0, .int .i64 0] 8 0)]) [0, 1, 3, 4] [] [] true (by rw [hP]; kernel_rfl) (by kernel_rfl) (by kernel_rfl) (by kernel_rfl) (by first | exact .inl rfl | exact .inr fun _ _ h => patH_app _ _ h) (by first | (simp only [push_cast]; done) | (simp only [push_cast, and_true]; omega)) ?_; simp (maxSteps := 1000000) only [↓reduceIte, Option.getD_some, push_cast, reduceCtorEq, Nat.reduceAdd, Nat.reduceMul, Nat.reduceSub, Nat.reduceBEq, Nat.reduceGT, Nat.reduceLT, Int.toNat_zero, Nat.reduceLeDiff, Int.reduceEq, Int.reduceLT, Int.reduceLE, hP, hΓ, hL, hfin, String.reduceEq, not_false_eq_true, if_true, if_false, Int.toNat_one, Bool.not_not, b2t, b2f, Int.reduceAdd, Int.reduceSub, i64_0, i64_1, i64_2, i64_3, oA_some, oA_none, agI_mk, Option.isSome_some, Option.isSome_none, Option.getD_some, Option.getD_none, h24, hj0, and_self, nmL_upd])
      rw [show nmL ((nameT 1 (uK k) (vK k) (j : Int), ({ f := 1, u := uK k, v := vK k, a := 0, b := 0, op := (j : Int), c := 0, n := 0 } : In)) :: opsE k (memE k :: allE k) j) = nmL (opsE k (memE k :: allE k) (j + 1)) from rfl]
      ((first | with_reducible refine holds_of_ex X 400 _ _ _ ?_ | skip); simp (maxSteps := 1000000) only [push_cast, reduceCtorEq, Nat.reduceAdd, Nat.reduceMul, Nat.reduceSub, Nat.reduceBEq, Nat.reduceGT, Nat.reduceLT, Int.toNat_zero, Nat.reduceLeDiff, Int.reduceEq, Int.reduceLT, Int.reduceLE, hP, hΓ, hL, hfin, String.reduceEq, not_false_eq_true, if_true, if_false, Int.toNat_one, Bool.not_not, b2t, b2f, Int.reduceAdd, Int.reduceSub, i64_0, i64_1, i64_2, i64_3, oA_some, oA_none, agI_mk, Option.isSome_some, Option.isSome_none, Option.getD_some, Option.getD_none])
      refine ⟨⟨j + 1, by omega⟩, by simp only; omega, ?_⟩
      dsimp only
      rw [wr_i64 ((j : Int) + 1) (by constructor <;> omega)]
      exact Into.sameA
    · obtain rfl : j = 12 := by omega
      ((first | with_reducible refine holds_of_ex X 400 _ _ _ ?_ | skip); simp (maxSteps := 1000000) only [push_cast, reduceCtorEq, Nat.reduceAdd, Nat.reduceMul, Nat.reduceSub, Nat.reduceBEq, Nat.reduceGT, Nat.reduceLT, Int.toNat_zero, Nat.reduceLeDiff, Int.reduceEq, Int.reduceLT, Int.reduceLE, hP, hΓ, hL, hfin, String.reduceEq, not_false_eq_true, if_true, if_false, Int.toNat_one, Bool.not_not, b2t, b2f, Int.reduceAdd, Int.reduceSub, i64_0, i64_1, i64_2, i64_3, oA_some, oA_none, agI_mk, Option.isSome_some, Option.isSome_none, Option.getD_some, Option.getD_none])
      refine ⟨⟨k + 1, hk'⟩, by simp only; omega, ?_⟩
      dsimp only
      rw [wr_i64 ((k : Int) + 1) (by constructor <;> omega)]
      trace_state
      exact Into.keep1A
  · obtain rfl : k = 4 := by omega
    ((first | with_reducible refine holds_of_ex X 400 _ _ _ ?_ | skip); simp (maxSteps := 1000000) only [push_cast, reduceCtorEq, Nat.reduceAdd, Nat.reduceMul, Nat.reduceSub, Nat.reduceBEq, Nat.reduceGT, Nat.reduceLT, Int.toNat_zero, Nat.reduceLeDiff, Int.reduceEq, Int.reduceLT, Int.reduceLE, hP, hΓ, hL, hfin, String.reduceEq, not_false_eq_true, if_true, if_false, Int.toNat_one, Bool.not_not, b2t, b2f, Int.reduceAdd, Int.reduceSub, i64_0, i64_1, i64_2, i64_3, oA_some, oA_none, agI_mk, Option.isSome_some, Option.isSome_none, Option.getD_some, Option.getD_none])
    (refine IntoF.frz 0 (by simp only [push_cast, reduceCtorEq, Nat.reduceAdd, Nat.reduceMul, Nat.reduceSub, Nat.reduceBEq, Nat.reduceGT, Nat.reduceLT, Int.toNat_zero, Nat.reduceLeDiff, Int.reduceEq, Int.reduceLT, Int.reduceLE]; first | done | decide | omega) (by simp only [frzOk', frzOk, isMap, or_true, true_or, push_cast, reduceCtorEq, Nat.reduceAdd, Nat.reduceMul, Nat.reduceSub, Nat.reduceBEq, Nat.reduceGT, Nat.reduceLT, Int.toNat_zero, Nat.reduceLeDiff, Int.reduceEq, Int.reduceLT, Int.reduceLE]) ?_; simp only [push_cast, reduceCtorEq, Nat.reduceAdd, Nat.reduceMul, Nat.reduceSub, Nat.reduceBEq, Nat.reduceGT, Nat.reduceLT, Int.toNat_zero, Nat.reduceLeDiff, Int.reduceEq, Int.reduceLT, Int.reduceLE])
    exact Into.one rfl rfl
theorem con66 {Γ : Env} (h : EnvOk Tryz.prog Γ) (h24 : Γ 24 = some S24) : Con Tryz.prog 66 S66 :=
  funS_con h (fn := Tryz.f66) (by kernel_rfl) rfl (by kernel_rfl) inj66 (by first | (intro h; cases h; done) | exact fun _ _ => rfl) fun _ h => body66 Γ h24
end Go.Proofs.YtgemeilncdmapaaGreatDoor.asmDone
end
section
namespace Go.Proofs.YtgemeilncdmapaaGreatDoor.asmDone
open Go Go.Eng Go.Proofs Go.RowKit
open Go.Asm (mayB in16 rightB laid sx In flds rightI laidI decB laid_lo ops cnds opT cnT regT sufT nameT hexC hexT sep lastT insT showF joinT numO prgN prgB regO refP refO dgt dval ixO blk brO readO lastO formO formL)
set_option linter.unusedVariables false
set_option linter.unusedSimpArgs false
set_option maxRecDepth 100000
set_option maxHeartbeats 4000000
abbrev NE : Type := List UInt8 × In
def rgI (i : In) : Int := if i.f = 0 then 1 else if i.f = 1 ∧ i.op = 15 then 0 else if i.f = 1 ∧ i.op = 0 then 1 else 2
def fmC (p : NE) : List AV := [.str p.1, .int .i64 p.2.f, .bool p.2.u, .bool p.2.v, .int .i64 p.2.a, .int .i64 p.2.b, .int .i64 p.2.op, .int .i64 p.2.c, .int .i64 p.2.n, .int .i64 (rgI p.2), .bool (!decide (p.2.f = 0))]
instance : PureC fmC := ⟨fun x => rfl, fun x => rfl⟩
instance : Width fmC 11 := ⟨fun _ => rfl⟩
def base7 : List NE := [([77, 79, 86, 72], ⟨0, true, false, 0, 0, 0, 0, 0⟩), ([77, 79, 86, 70], ⟨0, true, true, 0, 0, 0, 0, 0⟩), ([84, 82, 65, 80], ⟨1, false, false, 0, 0, 15, 0, 0⟩),
  ([76, 68, 87], ⟨2, false, false, 0, 0, 0, 0, 0⟩), ([76, 68, 66], ⟨2, false, true, 0, 0, 0, 0, 0⟩), ([83, 84, 87], ⟨2, true, false, 0, 0, 0, 0, 0⟩), ([83, 84, 66], ⟨2, true, true, 0, 0, 0, 0, 0⟩)]
def ksE (op : Nat) (r : List NE) : Nat → List NE
  | 0 => r
  | k + 1 => ksE op r k ++ [opE k op]
def refE : Nat → List NE
  | 0 => base7
  | op + 1 => ksE op (refE op) 4
theorem ks_len (op : Nat) (r : List NE) (k : Nat) : (ksE op r k).length = r.length + k := by
  induction k with
  | zero => rfl
  | succ k ih => rw [ksE, List.length_append, ih]; rfl
theorem ref_len (op : Nat) : (refE op).length = 7 + 4 * op := by
  induction op with
  | zero => rfl
  | succ op ih => rw [refE, ks_len, ih]; omega
theorem uvR (k : Nat) (h : k < 4) : decide (((k : Nat) : Int).tmod 2 = 1) = uK k ∧ decide (2 ≤ ((k : Nat) : Int)) = vK k := by
  have key : ∀ i : Fin 4, decide (((i.1 : Nat) : Int).tmod 2 = 1) = uK i.1 ∧ decide (2 ≤ ((i.1 : Nat) : Int)) = vK i.1 := by decide
  exact key ⟨k, h⟩
theorem nm1 (u v : Bool) (op : Int) : nameT 1 u v op = opT op ++ sufT u v := by
  rw [nameT, if_neg (show ¬ (1 : Int) = 2 by decide), if_neg (fun h => absurd h.1 (by decide))]
theorem opC (k p : Nat) (h : p < 12) : fmC (opE k p) = [.str (opT (p : Int) ++ sufT (uK k) (vK k)), .int .i64 1, .bool (uK k), .bool (vK k), .int .i64 0, .int .i64 0, .int .i64 (p : Int), .int .i64 0, .int .i64 0, .int .i64 (if p = 0 then 1 else 2), .bool true] := by
  have hr : rgI ⟨1, uK k, vK k, 0, 0, (p : Int), 0, 0⟩ = if p = 0 then 1 else 2 := by
    unfold rgI
    simp only
    rw [if_neg (by decide), if_neg (by omega)]
    by_cases h0 : p = 0
    · subst h0; rfl
    · rw [if_neg h0, if_neg (by omega)]
  unfold opE fmC
  simp only [nm1, hr]
  rfl
def e75 : Unit → List AV := fun _ => []
def p75 : Unit → Prop := fun _ => True
def r75 : Unit → AV := fun _ => .sl ((refE 12).flatMap fmC) 55
def g75 : Unit → Heap := fun _ => []
theorem inj75 : ∀ a b, e75 a = e75 b → a = b := fun _ _ _ => rfl
noncomputable def S75 : FSpec := funS e75 p75 r75 g75 true
theorem ps75  : psel e75 p75 [] = (True) := psel_at inj75 p75 ()
theorem rs75  : rsel e75 r75 .any [] = (.sl ((refE 12).flatMap fmC) 55) := rsel_at inj75 r75 .any ()
theorem hs75  : rsel e75 g75 [] [] = ([]) := rsel_at inj75 g75 [] ()
attribute [push_cast] S75 ps75 rs75 hs75
theorem body75 (Γ : Env) (h32 : Γ 32 = some S32) (h33 : Γ 33 = some S33) : BodyOk Tryz.prog Γ Tryz.f75 [] [] (.sl ((refE 12).flatMap fmC) 55) [] := by
  (intro X hP hΓ hL hfin; refine ⟨_, rfl, ?_⟩; rw [show Tryz.f75.ntmps = 54 from rfl]; rw [show Tryz.f75.results.toList = [.tmp 0] from rfl] at hfin; apply holds_of_ex X 400; simp (maxSteps := 1000000) only [push_cast, reduceCtorEq, Nat.reduceAdd, Nat.reduceMul, Nat.reduceSub, Nat.reduceBEq, Nat.reduceGT, Nat.reduceLT, Int.toNat_zero, Nat.reduceLeDiff, Int.reduceEq, Int.reduceLT, Int.reduceLE, hP, hΓ, hL, hfin, String.reduceEq, not_false_eq_true, if_true, if_false, Int.toNat_one, Bool.not_not, b2t, b2f, Int.reduceAdd, Int.reduceSub, i64_0, i64_1, i64_2, i64_3, oA_some, oA_none, agI_mk, Option.isSome_some, Option.isSome_none, Option.getD_some, Option.getD_none, h32])
  refine Holds.loopM (ι := {k : Nat // k ≤ 12}) [true, false, true, false, false, false, false, false, false, false, false, false, false, false, false, false, false, false, false, false, false, false, false, false, false, false, false, false, false, false, false, false, false, false, false, false, false, false, false, false, false, false, false, false, false, false, false, false, false, false, false, false, false, false] (fun i => [(1, .msl 0 0 0 (refE i.1).length), (3, .int .i64 i.1)]) (fun i => [.row ((refE i.1).flatMap fmC) 11 0]) (fun i => 12 - i.1) ⟨0, by decide⟩ ?_ ?_
  · rw [hL]; simp only [push_cast, Int.natCast_zero]
    rw [show (refE 0).length = 0 + 1 + 1 + 1 + 1 + 1 + 1 + 1 from rfl]
    exact Into.sameA
  rintro ⟨p, hp⟩
  ((first | with_reducible refine holds_of_ex X 400 _ _ _ ?_ | skip); simp (maxSteps := 1000000) only [push_cast, reduceCtorEq, Nat.reduceAdd, Nat.reduceMul, Nat.reduceSub, Nat.reduceBEq, Nat.reduceGT, Nat.reduceLT, Int.toNat_zero, Nat.reduceLeDiff, Int.reduceEq, Int.reduceLT, Int.reduceLE, hP, hΓ, hL, hfin, String.reduceEq, not_false_eq_true, if_true, if_false, Int.toNat_one, Bool.not_not, b2t, b2f, Int.reduceAdd, Int.reduceSub, i64_0, i64_1, i64_2, i64_3, oA_some, oA_none, agI_mk, Option.isSome_some, Option.isSome_none, Option.getD_some, Option.getD_none])
  ((with_reducible refine exB_split (fun h => ?_) (fun h => ?_)) <;> (try simp only [decide_eq_true_eq, decide_eq_false_iff_not, Bool.and_eq_true, Bool.or_eq_true, Bool.and_eq_false_iff, Bool.or_eq_false_iff, Bool.not_eq_true', Bool.not_eq_false', Bool.not_eq_true, Bool.not_eq_false, Int.not_lt, Int.not_le, beq_iff_eq, beq_eq_false_iff_ne, ne_eq] at h))
  · have hp' : p < 12 := by omega
    rcases Nat.eq_zero_or_pos p with hp0 | hp0
    · have hd : decide ((p : Int) = 0) = true := decide_eq_true (by omega)
      ((first | with_reducible refine holds_of_ex X 400 _ _ _ ?_ | skip); simp (maxSteps := 1000000) only [push_cast, reduceCtorEq, Nat.reduceAdd, Nat.reduceMul, Nat.reduceSub, Nat.reduceBEq, Nat.reduceGT, Nat.reduceLT, Int.toNat_zero, Nat.reduceLeDiff, Int.reduceEq, Int.reduceLT, Int.reduceLE, hP, hΓ, hL, hfin, String.reduceEq, not_false_eq_true, if_true, if_false, Int.toNat_one, Bool.not_not, b2t, b2f, Int.reduceAdd, Int.reduceSub, i64_0, i64_1, i64_2, i64_3, oA_some, oA_none, agI_mk, Option.isSome_some, Option.isSome_none, Option.getD_some, Option.getD_none, hd])
      refine Holds.loopM (ι := {k : Nat // k ≤ 4}) [true, false, true, true, true, false, false, false, false, false, false, false, false, false, false, false, false, false, false, false, false, false, false, false, false, false, false, false, false, false, false, false, false, false, false, false, false, false, false, false, false, false, false, false, false, false, false, false, false, false, false, false, false, false] (fun i => [(1, .msl 0 0 0 (ksE p (refE p) i.1).length), (5, .int .i64 i.1)]) (fun i => [.row ((ksE p (refE p) i.1).flatMap fmC) 11 0]) (fun i => 4 - i.1) ⟨0, by decide⟩ ?_ ?_
      · rw [hL]; simp only [push_cast, Int.natCast_zero, ksE]
        exact Into.sameA
      rintro ⟨k, hk⟩
      ((first | with_reducible refine holds_of_ex X 400 _ _ _ ?_ | skip); simp (maxSteps := 1000000) only [push_cast, reduceCtorEq, Nat.reduceAdd, Nat.reduceMul, Nat.reduceSub, Nat.reduceBEq, Nat.reduceGT, Nat.reduceLT, Int.toNat_zero, Nat.reduceLeDiff, Int.reduceEq, Int.reduceLT, Int.reduceLE, hP, hΓ, hL, hfin, String.reduceEq, not_false_eq_true, if_true, if_false, Int.toNat_one, Bool.not_not, b2t, b2f, Int.reduceAdd, Int.reduceSub, i64_0, i64_1, i64_2, i64_3, oA_some, oA_none, agI_mk, Option.isSome_some, Option.isSome_none, Option.getD_some, Option.getD_none])
      ((with_reducible refine exB_split (fun h => ?_) (fun h => ?_)) <;> (try simp only [decide_eq_true_eq, decide_eq_false_iff_not, Bool.and_eq_true, Bool.or_eq_true, Bool.and_eq_false_iff, Bool.or_eq_false_iff, Bool.not_eq_true', Bool.not_eq_false', Bool.not_eq_true, Bool.not_eq_false, Int.not_lt, Int.not_le, beq_iff_eq, beq_eq_false_iff_ne, ne_eq] at h))
      · have hk' : k < 4 := by omega
        obtain ⟨hu, hv⟩ := uvR k hk'
        have opD : ops.getD p default = opT (p : Int) := rfl
        have lo := op_len (p : Int)
        have ls := suf_len (uK k) (vK k)
        have hln := ks_len p (refE p) k
        have hln2 := ref_len p
        ((first | with_reducible refine holds_of_ex X 400 _ _ _ ?_ | skip); simp (maxSteps := 1000000) only [push_cast, reduceCtorEq, Nat.reduceAdd, Nat.reduceMul, Nat.reduceSub, Nat.reduceBEq, Nat.reduceGT, Nat.reduceLT, Int.toNat_zero, Nat.reduceLeDiff, Int.reduceEq, Int.reduceLT, Int.reduceLE, hP, hΓ, hL, hfin, String.reduceEq, not_false_eq_true, if_true, if_false, Int.toNat_one, Bool.not_not, b2t, b2f, Int.reduceAdd, Int.reduceSub, i64_0, i64_1, i64_2, i64_3, oA_some, oA_none, agI_mk, Option.isSome_some, Option.isSome_none, Option.getD_some, Option.getD_none, hu, hv])
        (refine Holds.drawn (modH [.row [.int .i64 1, .bool (uK k), .bool (vK k), .int .i64 0, .int .i64 0, .int .i64 p, .int .i64 0, .int .i64 0] 8 0]) [6, 12] (by rw [hP]; kernel_rfl) (by kernel_rfl) (by kernel_rfl) (by first | exact ⟨_, [], rfl⟩ | exact ⟨_, _, rfl⟩ | (simp only [push_cast]; done) | exact ⟨[], by simp⟩) ?_; simp (maxSteps := 1000000) only [↓reduceIte, Option.getD_some, push_cast, reduceCtorEq, Nat.reduceAdd, Nat.reduceMul, Nat.reduceSub, Nat.reduceBEq, Nat.reduceGT, Nat.reduceLT, Int.toNat_zero, Nat.reduceLeDiff, Int.reduceEq, Int.reduceLT, Int.reduceLE, hP, hΓ, hL, hfin, String.reduceEq, not_false_eq_true, if_true, if_false, Int.toNat_one, Bool.not_not, b2t, b2f, Int.reduceAdd, Int.reduceSub, i64_0, i64_1, i64_2, i64_3, oA_some, oA_none, agI_mk, Option.isSome_some, Option.isSome_none, Option.getD_some, Option.getD_none, h33, opD])
        have e6 : (ksE p (refE p) k).flatMap fmC ++ [.str (opT (p : Int) ++ sufT (uK k) (vK k)), .int .i64 1, .bool (uK k), .bool (vK k), .int .i64 0, .int .i64 0, .int .i64 (p : Int), .int .i64 0, .int .i64 0, .int .i64 1, .bool true] = (ksE p (refE p) (k + 1)).flatMap fmC := by
          rw [ksE, List.flatMap_append, List.flatMap_cons, List.flatMap_nil, List.append_nil, opC k p hp', if_pos (show p = 0 by omega)]
        refine ⟨⟨rfl, by omega⟩, by rw [show ops.length = 16 from rfl]; omega, by omega, by omega, ?_⟩
        rw [e6]
        ((first | with_reducible refine holds_of_ex X 400 _ _ _ ?_ | skip); simp (maxSteps := 1000000) only [push_cast, reduceCtorEq, Nat.reduceAdd, Nat.reduceMul, Nat.reduceSub, Nat.reduceBEq, Nat.reduceGT, Nat.reduceLT, Int.toNat_zero, Nat.reduceLeDiff, Int.reduceEq, Int.reduceLT, Int.reduceLE, hP, hΓ, hL, hfin, String.reduceEq, not_false_eq_true, if_true, if_false, Int.toNat_one, Bool.not_not, b2t, b2f, Int.reduceAdd, Int.reduceSub, i64_0, i64_1, i64_2, i64_3, oA_some, oA_none, agI_mk, Option.isSome_some, Option.isSome_none, Option.getD_some, Option.getD_none])
        refine ⟨⟨k + 1, hk'⟩, by simp only; omega, ?_⟩
        dsimp only
        rw [wr_i64 ((k : Int) + 1) (by constructor <;> omega), show (ksE p (refE p) k).length + 1 = (ksE p (refE p) (k + 1)).length by simp only [ks_len]; omega]
        (refine IntoF.ver 0  0 (by simp only [push_cast, reduceCtorEq, Nat.reduceAdd, Nat.reduceMul, Nat.reduceSub, Nat.reduceBEq, Nat.reduceGT, Nat.reduceLT, Int.toNat_zero, Nat.reduceLeDiff, Int.reduceEq, Int.reduceLT, Int.reduceLE]) (by first | exact .inr (Nat.zero_le _) | (left; simp only [push_cast, reduceCtorEq, Nat.reduceAdd, Nat.reduceMul, Nat.reduceSub, Nat.reduceBEq, Nat.reduceGT, Nat.reduceLT, Int.toNat_zero, Nat.reduceLeDiff, Int.reduceEq, Int.reduceLT, Int.reduceLE]; first | done | omega) | (right; simp only [push_cast, reduceCtorEq, Nat.reduceAdd, Nat.reduceMul, Nat.reduceSub, Nat.reduceBEq, Nat.reduceGT, Nat.reduceLT, Int.toNat_zero, Nat.reduceLeDiff, Int.reduceEq, Int.reduceLT, Int.reduceLE]; first | done | omega)) ?_; simp only [push_cast, reduceCtorEq, Nat.reduceAdd, Nat.reduceMul, Nat.reduceSub, Nat.reduceBEq, Nat.reduceGT, Nat.reduceLT, Int.toNat_zero, Nat.reduceLeDiff, Int.reduceEq, Int.reduceLT, Int.reduceLE])
        exact Into.keep1A
      · obtain rfl : k = 4 := by omega
        ((first | with_reducible refine holds_of_ex X 400 _ _ _ ?_ | skip); simp (maxSteps := 1000000) only [push_cast, reduceCtorEq, Nat.reduceAdd, Nat.reduceMul, Nat.reduceSub, Nat.reduceBEq, Nat.reduceGT, Nat.reduceLT, Int.toNat_zero, Nat.reduceLeDiff, Int.reduceEq, Int.reduceLT, Int.reduceLE, hP, hΓ, hL, hfin, String.reduceEq, not_false_eq_true, if_true, if_false, Int.toNat_one, Bool.not_not, b2t, b2f, Int.reduceAdd, Int.reduceSub, i64_0, i64_1, i64_2, i64_3, oA_some, oA_none, agI_mk, Option.isSome_some, Option.isSome_none, Option.getD_some, Option.getD_none])
        refine ⟨⟨p + 1, hp'⟩, by simp only; omega, ?_⟩
        dsimp only
        rw [wr_i64 ((p : Int) + 1) (by constructor <;> omega)]
        rw [show refE (p + 1) = ksE p (refE p) 4 from rfl]
        exact Into.sameA
    · have hd : decide ((p : Int) = 0) = false := decide_eq_false (by omega)
      ((first | with_reducible refine holds_of_ex X 400 _ _ _ ?_ | skip); simp (maxSteps := 1000000) only [push_cast, reduceCtorEq, Nat.reduceAdd, Nat.reduceMul, Nat.reduceSub, Nat.reduceBEq, Nat.reduceGT, Nat.reduceLT, Int.toNat_zero, Nat.reduceLeDiff, Int.reduceEq, Int.reduceLT, Int.reduceLE, hP, hΓ, hL, hfin, String.reduceEq, not_false_eq_true, if_true, if_false, Int.toNat_one, Bool.not_not, b2t, b2f, Int.reduceAdd, Int.reduceSub, i64_0, i64_1, i64_2, i64_3, oA_some, oA_none, agI_mk, Option.isSome_some, Option.isSome_none, Option.getD_some, Option.getD_none, hd])
      refine Holds.loopM (ι := {k : Nat // k ≤ 4}) [true, false, true, true, true, false, false, false, false, false, false, false, false, false, false, false, false, false, false, false, false, false, false, false, false, false, false, false, false, false, false, false, false, false, false, false, false, false, false, false, false, false, false, false, false, false, false, false, false, false, false, false, false, false] (fun i => [(1, .msl 0 0 0 (ksE p (refE p) i.1).length), (5, .int .i64 i.1)]) (fun i => [.row ((ksE p (refE p) i.1).flatMap fmC) 11 0]) (fun i => 4 - i.1) ⟨0, by decide⟩ ?_ ?_
      · rw [hL]; simp only [push_cast, Int.natCast_zero, ksE]
        exact Into.sameA
      rintro ⟨k, hk⟩
      ((first | with_reducible refine holds_of_ex X 400 _ _ _ ?_ | skip); simp (maxSteps := 1000000) only [push_cast, reduceCtorEq, Nat.reduceAdd, Nat.reduceMul, Nat.reduceSub, Nat.reduceBEq, Nat.reduceGT, Nat.reduceLT, Int.toNat_zero, Nat.reduceLeDiff, Int.reduceEq, Int.reduceLT, Int.reduceLE, hP, hΓ, hL, hfin, String.reduceEq, not_false_eq_true, if_true, if_false, Int.toNat_one, Bool.not_not, b2t, b2f, Int.reduceAdd, Int.reduceSub, i64_0, i64_1, i64_2, i64_3, oA_some, oA_none, agI_mk, Option.isSome_some, Option.isSome_none, Option.getD_some, Option.getD_none])
      ((with_reducible refine exB_split (fun h => ?_) (fun h => ?_)) <;> (try simp only [decide_eq_true_eq, decide_eq_false_iff_not, Bool.and_eq_true, Bool.or_eq_true, Bool.and_eq_false_iff, Bool.or_eq_false_iff, Bool.not_eq_true', Bool.not_eq_false', Bool.not_eq_true, Bool.not_eq_false, Int.not_lt, Int.not_le, beq_iff_eq, beq_eq_false_iff_ne, ne_eq] at h))
      · have hk' : k < 4 := by omega
        obtain ⟨hu, hv⟩ := uvR k hk'
        have opD : ops.getD p default = opT (p : Int) := rfl
        have lo := op_len (p : Int)
        have ls := suf_len (uK k) (vK k)
        have hln := ks_len p (refE p) k
        have hln2 := ref_len p
        ((first | with_reducible refine holds_of_ex X 400 _ _ _ ?_ | skip); simp (maxSteps := 1000000) only [push_cast, reduceCtorEq, Nat.reduceAdd, Nat.reduceMul, Nat.reduceSub, Nat.reduceBEq, Nat.reduceGT, Nat.reduceLT, Int.toNat_zero, Nat.reduceLeDiff, Int.reduceEq, Int.reduceLT, Int.reduceLE, hP, hΓ, hL, hfin, String.reduceEq, not_false_eq_true, if_true, if_false, Int.toNat_one, Bool.not_not, b2t, b2f, Int.reduceAdd, Int.reduceSub, i64_0, i64_1, i64_2, i64_3, oA_some, oA_none, agI_mk, Option.isSome_some, Option.isSome_none, Option.getD_some, Option.getD_none, hu, hv])
        (refine Holds.drawn (modH [.row [.int .i64 1, .bool (uK k), .bool (vK k), .int .i64 0, .int .i64 0, .int .i64 p, .int .i64 0, .int .i64 0] 8 0]) [6, 12] (by rw [hP]; kernel_rfl) (by kernel_rfl) (by kernel_rfl) (by first | exact ⟨_, [], rfl⟩ | exact ⟨_, _, rfl⟩ | (simp only [push_cast]; done) | exact ⟨[], by simp⟩) ?_; simp (maxSteps := 1000000) only [↓reduceIte, Option.getD_some, push_cast, reduceCtorEq, Nat.reduceAdd, Nat.reduceMul, Nat.reduceSub, Nat.reduceBEq, Nat.reduceGT, Nat.reduceLT, Int.toNat_zero, Nat.reduceLeDiff, Int.reduceEq, Int.reduceLT, Int.reduceLE, hP, hΓ, hL, hfin, String.reduceEq, not_false_eq_true, if_true, if_false, Int.toNat_one, Bool.not_not, b2t, b2f, Int.reduceAdd, Int.reduceSub, i64_0, i64_1, i64_2, i64_3, oA_some, oA_none, agI_mk, Option.isSome_some, Option.isSome_none, Option.getD_some, Option.getD_none, h33, opD])
        have e6 : (ksE p (refE p) k).flatMap fmC ++ [.str (opT (p : Int) ++ sufT (uK k) (vK k)), .int .i64 1, .bool (uK k), .bool (vK k), .int .i64 0, .int .i64 0, .int .i64 (p : Int), .int .i64 0, .int .i64 0, .int .i64 2, .bool true] = (ksE p (refE p) (k + 1)).flatMap fmC := by
          rw [ksE, List.flatMap_append, List.flatMap_cons, List.flatMap_nil, List.append_nil, opC k p hp', if_neg (show ¬ p = 0 by omega)]
        refine ⟨⟨rfl, by omega⟩, by rw [show ops.length = 16 from rfl]; omega, by omega, by omega, ?_⟩
        rw [e6]
        ((first | with_reducible refine holds_of_ex X 400 _ _ _ ?_ | skip); simp (maxSteps := 1000000) only [push_cast, reduceCtorEq, Nat.reduceAdd, Nat.reduceMul, Nat.reduceSub, Nat.reduceBEq, Nat.reduceGT, Nat.reduceLT, Int.toNat_zero, Nat.reduceLeDiff, Int.reduceEq, Int.reduceLT, Int.reduceLE, hP, hΓ, hL, hfin, String.reduceEq, not_false_eq_true, if_true, if_false, Int.toNat_one, Bool.not_not, b2t, b2f, Int.reduceAdd, Int.reduceSub, i64_0, i64_1, i64_2, i64_3, oA_some, oA_none, agI_mk, Option.isSome_some, Option.isSome_none, Option.getD_some, Option.getD_none])
        refine ⟨⟨k + 1, hk'⟩, by simp only; omega, ?_⟩
        dsimp only
        rw [wr_i64 ((k : Int) + 1) (by constructor <;> omega), show (ksE p (refE p) k).length + 1 = (ksE p (refE p) (k + 1)).length by simp only [ks_len]; omega]
        (refine IntoF.ver 0  0 (by simp only [push_cast, reduceCtorEq, Nat.reduceAdd, Nat.reduceMul, Nat.reduceSub, Nat.reduceBEq, Nat.reduceGT, Nat.reduceLT, Int.toNat_zero, Nat.reduceLeDiff, Int.reduceEq, Int.reduceLT, Int.reduceLE]) (by first | exact .inr (Nat.zero_le _) | (left; simp only [push_cast, reduceCtorEq, Nat.reduceAdd, Nat.reduceMul, Nat.reduceSub, Nat.reduceBEq, Nat.reduceGT, Nat.reduceLT, Int.toNat_zero, Nat.reduceLeDiff, Int.reduceEq, Int.reduceLT, Int.reduceLE]; first | done | omega) | (right; simp only [push_cast, reduceCtorEq, Nat.reduceAdd, Nat.reduceMul, Nat.reduceSub, Nat.reduceBEq, Nat.reduceGT, Nat.reduceLT, Int.toNat_zero, Nat.reduceLeDiff, Int.reduceEq, Int.reduceLT, Int.reduceLE]; first | done | omega)) ?_; simp only [push_cast, reduceCtorEq, Nat.reduceAdd, Nat.reduceMul, Nat.reduceSub, Nat.reduceBEq, Nat.reduceGT, Nat.reduceLT, Int.toNat_zero, Nat.reduceLeDiff, Int.reduceEq, Int.reduceLT, Int.reduceLE])
        exact Into.keep1A
      · obtain rfl : k = 4 := by omega
        ((first | with_reducible refine holds_of_ex X 400 _ _ _ ?_ | skip); simp (maxSteps := 1000000) only [push_cast, reduceCtorEq, Nat.reduceAdd, Nat.reduceMul, Nat.reduceSub, Nat.reduceBEq, Nat.reduceGT, Nat.reduceLT, Int.toNat_zero, Nat.reduceLeDiff, Int.reduceEq, Int.reduceLT, Int.reduceLE, hP, hΓ, hL, hfin, String.reduceEq, not_false_eq_true, if_true, if_false, Int.toNat_one, Bool.not_not, b2t, b2f, Int.reduceAdd, Int.reduceSub, i64_0, i64_1, i64_2, i64_3, oA_some, oA_none, agI_mk, Option.isSome_some, Option.isSome_none, Option.getD_some, Option.getD_none])
        refine ⟨⟨p + 1, hp'⟩, by simp only; omega, ?_⟩
        dsimp only
        rw [wr_i64 ((p : Int) + 1) (by constructor <;> omega)]
        rw [show refE (p + 1) = ksE p (refE p) 4 from rfl]
        exact Into.sameA
  · obtain rfl : p = 12 := by omega
    ((first | with_reducible refine holds_of_ex X 400 _ _ _ ?_ | skip); simp (maxSteps := 1000000) only [push_cast, reduceCtorEq, Nat.reduceAdd, Nat.reduceMul, Nat.reduceSub, Nat.reduceBEq, Nat.reduceGT, Nat.reduceLT, Int.toNat_zero, Nat.reduceLeDiff, Int.reduceEq, Int.reduceLT, Int.reduceLE, hP, hΓ, hL, hfin, String.reduceEq, not_false_eq_true, if_true, if_false, Int.toNat_one, Bool.not_not, b2t, b2f, Int.reduceAdd, Int.reduceSub, i64_0, i64_1, i64_2, i64_3, oA_some, oA_none, agI_mk, Option.isSome_some, Option.isSome_none, Option.getD_some, Option.getD_none])
    rw [show (refE 12).length = 55 from rfl]
    refine IntoF.soft ?_
    simp only [push_cast]
    (refine IntoF.frz 0 (by simp only [push_cast, reduceCtorEq, Nat.reduceAdd, Nat.reduceMul, Nat.reduceSub, Nat.reduceBEq, Nat.reduceGT, Nat.reduceLT, Int.toNat_zero, Nat.reduceLeDiff, Int.reduceEq, Int.reduceLT, Int.reduceLE]; first | done | decide | omega) (by simp only [frzOk', frzOk, isMap, or_true, true_or, push_cast, reduceCtorEq, Nat.reduceAdd, Nat.reduceMul, Nat.reduceSub, Nat.reduceBEq, Nat.reduceGT, Nat.reduceLT, Int.toNat_zero, Nat.reduceLeDiff, Int.reduceEq, Int.reduceLT, Int.reduceLE]) ?_; simp only [push_cast, reduceCtorEq, Nat.reduceAdd, Nat.reduceMul, Nat.reduceSub, Nat.reduceBEq, Nat.reduceGT, Nat.reduceLT, Int.toNat_zero, Nat.reduceLeDiff, Int.reduceEq, Int.reduceLT, Int.reduceLE])
    exact Into.one rfl rfl
theorem con75 {Γ : Env} (h : EnvOk Tryz.prog Γ) (h32 : Γ 32 = some S32) (h33 : Γ 33 = some S33) : Con Tryz.prog 75 S75 :=
  funS_con h (fn := Tryz.f75) (by kernel_rfl) rfl (by kernel_rfl) inj75 (by first | (intro h; cases h; done) | exact fun _ _ => rfl) fun _ h => body75 Γ h32 h33
end Go.Proofs.YtgemeilncdmapaaGreatDoor.asmDone
end
