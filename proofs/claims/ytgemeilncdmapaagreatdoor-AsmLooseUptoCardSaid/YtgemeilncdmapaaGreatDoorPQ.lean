/- Of assembly texts: operands, by the program. Conditions stand in each. Of assembly texts: operands, by the document. Conditions stand in each. Of assembly texts: the names, by the program. Conditions stand in each. Of assembly texts: the forms, by the document. Conditions stand in each. -/
import Derived.Test.YtgemeilncdmapaaGreatDoorPP
section
namespace Go.Proofs.YtgemeilncdmapaaGreatDoor.asmDone
open Go Go.Eng Go.Proofs Go.RowKit
open Go.Asm (mayB in16 rightB laid sx In flds rightI laidI decB laid_lo ops cnds opT cnT regT sufT nameT hexC hexT sep lastT insT showF joinT numO prgN prgB regO dgt dval ixO blk brO)
set_option linter.unusedVariables false
set_option linter.unusedSimpArgs false
set_option maxRecDepth 100000
set_option maxHeartbeats 4000000
theorem toNat2 : Int.toNat 2 = 2 := rfl
theorem prg_wr (s : List UInt8) : IntKind.i64.wrap (prgN s) = prgN s := by
  have := prg_bd s
  exact wr_i64 _ (by constructor <;> omega)
/-- the last operand -/
def fin7 (f : Int) (u v : Bool) (a b op c n : Int) (g : Bool) (z : List UInt8) : In × Bool :=
  if prgB z then (⟨f, u, v, a, b, op, c, prgN z⟩, decide (prgN z = IntKind.i64.wrap (IntKind.i32.wrap (prgN z)))) else (⟨0, u, v, a, b, op, rgN z, n⟩, (regO z).isSome && g && (!decide (op = 0) || !u && !v))
def opV (f : Int) (u v : Bool) (a b op c n : Int) (l : List (List UInt8)) : In × Bool :=
  if f = 0 then match l with
    | [x] => if (regO x).isSome then (⟨f, u, v, rgN x, b, op, c, n⟩, true) else (⟨f, u, v, a, b, op, c, n⟩, false)
    | _ => (⟨f, u, v, a, b, op, c, n⟩, false)
  else if f = 1 ∧ op = 15 then match l with
    | [z] => fin7 f u v a b op c n false z
    | _ => (⟨f, u, v, a, b, op, c, n⟩, false)
  else if f = 1 ∧ op = 0 then match l with
    | [x, z] => if (regO x).isSome then fin7 f u v (rgN x) b op c n true z else (⟨f, u, v, a, b, op, c, n⟩, false)
    | _ => (⟨f, u, v, a, b, op, c, n⟩, false)
  else match l with
    | [x, y, z] => if (regO x).isSome then (if (regO y).isSome then fin7 f u v (rgN x) (rgN y) op c n true z else (⟨f, u, v, rgN x, b, op, c, n⟩, false)) else (⟨f, u, v, a, b, op, c, n⟩, false)
    | _ => (⟨f, u, v, a, b, op, c, n⟩, false)
def e70 : (Int) × (Bool) × (Bool) × (Int) × (Int) × (Int) × (Int) × (Int) × (List (List UInt8)) → List AV := fun (f, u, v, a, b, op, c, n, l) => [.agg [.int .i64 f, .bool u, .bool v, .int .i64 a, .int .i64 b, .int .i64 op, .int .i64 c, .int .i64 n], .sl (l.map AV.str) l.length]
def p70 : (Int) × (Bool) × (Bool) × (Int) × (Int) × (Int) × (Int) × (Int) × (List (List UInt8)) → Prop := fun (f, u, v, a, b, op, c, n, l) => (∀ x ∈ l, x.length ≤ 4194304) ∧ l.length ≤ 4194304
def r70 : (Int) × (Bool) × (Bool) × (Int) × (Int) × (Int) × (Int) × (Int) × (List (List UInt8)) → AV := fun (f, u, v, a, b, op, c, n, l) => .tup [agI (opV f u v a b op c n l).1, .bool (opV f u v a b op c n l).2]
def g70 : (Int) × (Bool) × (Bool) × (Int) × (Int) × (Int) × (Int) × (Int) × (List (List UInt8)) → Heap := fun (f, u, v, a, b, op, c, n, l) => []
theorem inj70 : ∀ a b, e70 a = e70 b → a = b := by
  rintro ⟨f, u, v, a, b, op, c, n, l⟩ ⟨f', u', v', a', b', op', c', n', l'⟩ h
  simp only [e70, mi_iff, ms_iff, mb_iff, my_iff, UInt8.toNat_inj, List.cons.injEq, AV.int.injEq, AV.str.injEq, AV.bool.injEq, AV.sl.injEq, AV.agg.injEq, AV.ip.injEq, AV.fn.injEq, AV.ifc.injEq, AV.mpr.injEq, Int.natCast_inj, and_true, true_and] at h
  simp_all only
noncomputable def S70 : FSpec := funS e70 p70 r70 g70 true
theorem ps70 (f : (Int)) (u : (Bool)) (v : (Bool)) (a : (Int)) (b : (Int)) (op : (Int)) (c : (Int)) (n : (Int)) (l : (List (List UInt8))) : psel e70 p70 [.agg [.int .i64 f, .bool u, .bool v, .int .i64 a, .int .i64 b, .int .i64 op, .int .i64 c, .int .i64 n], .sl (l.map AV.str) l.length] = ((∀ x ∈ l, x.length ≤ 4194304) ∧ l.length ≤ 4194304) := psel_at inj70 p70 (f, u, v, a, b, op, c, n, l)
theorem rs70 (f : (Int)) (u : (Bool)) (v : (Bool)) (a : (Int)) (b : (Int)) (op : (Int)) (c : (Int)) (n : (Int)) (l : (List (List UInt8))) : rsel e70 r70 .any [.agg [.int .i64 f, .bool u, .bool v, .int .i64 a, .int .i64 b, .int .i64 op, .int .i64 c, .int .i64 n], .sl (l.map AV.str) l.length] = (.tup [agI (opV f u v a b op c n l).1, .bool (opV f u v a b op c n l).2]) := rsel_at inj70 r70 .any (f, u, v, a, b, op, c, n, l)
theorem hs70 (f : (Int)) (u : (Bool)) (v : (Bool)) (a : (Int)) (b : (Int)) (op : (Int)) (c : (Int)) (n : (Int)) (l : (List (List UInt8))) : rsel e70 g70 [] [.agg [.int .i64 f, .bool u, .bool v, .int .i64 a, .int .i64 b, .int .i64 op, .int .i64 c, .int .i64 n], .sl (l.map AV.str) l.length] = ([]) := rsel_at inj70 g70 [] (f, u, v, a, b, op, c, n, l)
attribute [push_cast] S70 ps70 rs70 hs70
theorem body70 (Γ : Env) (h21 : Γ 21 = some S21) (h69 : Γ 69 = some S69) (h97 : Γ 97 = some S97) (f : Int) (u v : Bool) (a b op c n : Int) (l : List (List UInt8)) (hx : ∀ x ∈ l, x.length ≤ 4194304) (hl : l.length ≤ 4194304) : BodyOk Tryz.prog Γ Tryz.f70 [.agg [.int .i64 f, .bool u, .bool v, .int .i64 a, .int .i64 b, .int .i64 op, .int .i64 c, .int .i64 n], .sl (l.map AV.str) l.length] [] (.tup [agI (opV f u v a b op c n l).1, .bool (opV f u v a b op c n l).2]) [] := by
  by_cases f0 : f = 0
  · subst f0
    by_cases h1 : l.length = 1
    case neg =>
      have hd : decide (((l.length : Nat) : Int) = 1) = false := decide_eq_false (by omega)
      have e : opV 0 u v a b op c n l = (⟨0, u, v, a, b, op, c, n⟩, false) := by
        unfold opV
        rw [if_pos rfl]
        match l, h1 with
        | [], _ => rfl
        | [_], h => exact absurd rfl h
        | _ :: _ :: _, _ => rfl
      rw [e]
      (intro X hP hΓ hL hfin; refine ⟨_, rfl, ?_⟩; rw [show Tryz.f70.ntmps = 124 from rfl]; rw [show Tryz.f70.results.toList = [.cell 4 42, .tmp 5] from rfl] at hfin; apply holds_of_ex X 400; simp (maxSteps := 1000000) only [push_cast, reduceCtorEq, Nat.reduceAdd, Nat.reduceMul, Nat.reduceSub, Nat.reduceBEq, Nat.reduceGT, Nat.reduceLT, Int.toNat_zero, Nat.reduceLeDiff, Int.reduceEq, Int.reduceLT, Int.reduceLE, hP, hΓ, hL, hfin, String.reduceEq, not_false_eq_true, if_true, if_false, Int.toNat_one, Bool.not_not, b2t, b2f, Int.reduceAdd, toNat2, i64_0, i64_1, i64_2, i64_3, h21, hd])
      exact Into.one rfl rfl
    match l, h1 with
    | [x], _ =>
      have hx0 := hx x (by simp)
      show BodyOk Tryz.prog Γ Tryz.f70 [.agg [.int .i64 0, .bool u, .bool v, .int .i64 a, .int .i64 b, .int .i64 op, .int .i64 c, .int .i64 n], .sl [.str x] 1] [] (.tup [agI (opV 0 u v a b op c n [x]).1, .bool (opV 0 u v a b op c n [x]).2]) []
      (intro X hP hΓ hL hfin; refine ⟨_, rfl, ?_⟩; rw [show Tryz.f70.ntmps = 124 from rfl]; rw [show Tryz.f70.results.toList = [.cell 4 42, .tmp 5] from rfl] at hfin; apply holds_of_ex X 400; simp (maxSteps := 1000000) only [push_cast, reduceCtorEq, Nat.reduceAdd, Nat.reduceMul, Nat.reduceSub, Nat.reduceBEq, Nat.reduceGT, Nat.reduceLT, Int.toNat_zero, Nat.reduceLeDiff, Int.reduceEq, Int.reduceLT, Int.reduceLE, hP, hΓ, hL, hfin, String.reduceEq, not_false_eq_true, if_true, if_false, Int.toNat_one, Bool.not_not, b2t, b2f, Int.reduceAdd, toNat2, i64_0, i64_1, i64_2, i64_3, h21])
      skip
      refine Holds.loopM (ι := {k : Nat // k ≤ 1 ∧ (0 < k → (regO x).isSome = true)}) [false, true, true, false, true, false, true, true, false, false, false, false, true, true, true, true, false, false, false, false, false, false, false, false, false, false, false, false, false, false, false, false, false, false, false, false, false, false, false, false, false, false, false, false, false, false, false, false, false, false, true, true, false, false, false, false, false, false, false, false, false, false, false, false, false, false, false, false, false, false, false, false, false, false, false, false, false, false, false, false, false, false, false, false, false, false, false, false, false, false, false, false, false, false, false, false, false, false, false, false, false, false, false, false, false, false, false, false, false, false, false, false, false, false, false, false, false, false, false, false, false, false, false, false] (fun i => [(52, .int .i64 i.1)]) (fun i => [.row [.int .i64 0, .bool u, .bool v, .int .i64 (if 0 < i.1 then rgN x else a), .int .i64 b, .int .i64 op, .int .i64 c, .int .i64 n] 8 0, .row [.int .i64 0, .bool false, .bool false, .int .i64 0, .int .i64 0, .int .i64 0, .int .i64 0, .int .i64 0] 8 0, .row [.ref 0 0 3, .ref 0 0 4] 1 0]) (fun i => 1 - i.1) ⟨0, by simp⟩ ?_ ?_
      · (rw [hL]; simp only [push_cast, Int.natCast_zero]; exact Into.sameA)
      rintro ⟨k, hk⟩
      have hk2 : k = 0 ∨ k = 1 := by omega
      rcases hk2 with rfl | rfl
      · rcases Bool.eq_false_or_eq_true (regO x).isSome with hr | hr
        · ((first | with_reducible refine holds_of_ex X 400 _ _ _ ?_ | skip); simp (maxSteps := 1000000) only [push_cast, reduceCtorEq, Nat.reduceAdd, Nat.reduceMul, Nat.reduceSub, Nat.reduceBEq, Nat.reduceGT, Nat.reduceLT, Int.toNat_zero, Nat.reduceLeDiff, Int.reduceEq, Int.reduceLT, Int.reduceLE, hP, hΓ, hL, hfin, String.reduceEq, not_false_eq_true, if_true, if_false, Int.toNat_one, Bool.not_not, b2t, b2f, Int.reduceAdd, toNat2, i64_0, i64_1, i64_2, i64_3, h69, hr, hx0, Int.natCast_zero])
          refine ⟨⟨1, by omega, fun _ => hr⟩, by simp only; omega, ?_⟩
          exact Into.sameA
        · have e : opV 0 u v a b op c n [x] = (⟨0, u, v, a, b, op, c, n⟩, false) := by
            unfold opV
            rw [if_pos rfl]
            simp only [hr, Bool.false_eq_true, if_false, if_true]
          rw [e] at hfin
          ((first | with_reducible refine holds_of_ex X 400 _ _ _ ?_ | skip); simp (maxSteps := 1000000) only [push_cast, reduceCtorEq, Nat.reduceAdd, Nat.reduceMul, Nat.reduceSub, Nat.reduceBEq, Nat.reduceGT, Nat.reduceLT, Int.toNat_zero, Nat.reduceLeDiff, Int.reduceEq, Int.reduceLT, Int.reduceLE, hP, hΓ, hL, hfin, String.reduceEq, not_false_eq_true, if_true, if_false, Int.toNat_one, Bool.not_not, b2t, b2f, Int.reduceAdd, toNat2, i64_0, i64_1, i64_2, i64_3, h69, hr, hx0, Int.natCast_zero])
          exact Into.one rfl rfl
      · have hrx := hk.2 (by decide)
        have e : opV 0 u v a b op c n [x] = (⟨0, u, v, rgN x, b, op, c, n⟩, true) := by
          unfold opV
          rw [if_pos rfl]
          simp only [hrx, if_true]
        rw [e] at hfin
        ((first | with_reducible refine holds_of_ex X 400 _ _ _ ?_ | skip); simp (maxSteps := 1000000) only [push_cast, reduceCtorEq, Nat.reduceAdd, Nat.reduceMul, Nat.reduceSub, Nat.reduceBEq, Nat.reduceGT, Nat.reduceLT, Int.toNat_zero, Nat.reduceLeDiff, Int.reduceEq, Int.reduceLT, Int.reduceLE, hP, hΓ, hL, hfin, String.reduceEq, not_false_eq_true, if_true, if_false, Int.toNat_one, Bool.not_not, b2t, b2f, Int.reduceAdd, toNat2, i64_0, i64_1, i64_2, i64_3, Int.natCast_zero])
        exact Into.one rfl rfl
  by_cases f15 : f = 1 ∧ op = 15
  · obtain ⟨rfl, rfl⟩ := f15
    by_cases h1 : l.length = 1
    case neg =>
      have hd : decide (((l.length : Nat) : Int) = 1) = false := decide_eq_false (by omega)
      have e : opV 1 u v a b 15 c n l = (⟨1, u, v, a, b, 15, c, n⟩, false) := by
        unfold opV
        rw [if_neg (by decide), if_pos ⟨rfl, rfl⟩]
        match l, h1 with
        | [], _ => rfl
        | [_], h => exact absurd rfl h
        | _ :: _ :: _, _ => rfl
      rw [e]
      (intro X hP hΓ hL hfin; refine ⟨_, rfl, ?_⟩; rw [show Tryz.f70.ntmps = 124 from rfl]; rw [show Tryz.f70.results.toList = [.cell 4 42, .tmp 5] from rfl] at hfin; apply holds_of_ex X 400; simp (maxSteps := 1000000) only [push_cast, reduceCtorEq, Nat.reduceAdd, Nat.reduceMul, Nat.reduceSub, Nat.reduceBEq, Nat.reduceGT, Nat.reduceLT, Int.toNat_zero, Nat.reduceLeDiff, Int.reduceEq, Int.reduceLT, Int.reduceLE, hP, hΓ, hL, hfin, String.reduceEq, not_false_eq_true, if_true, if_false, Int.toNat_one, Bool.not_not, b2t, b2f, Int.reduceAdd, toNat2, i64_0, i64_1, i64_2, i64_3, h21, hd])
      exact Into.one rfl rfl
    match l, h1 with
    | [z], _ =>
      have hz0 := hx z (by simp)
      show BodyOk Tryz.prog Γ Tryz.f70 [.agg [.int .i64 1, .bool u, .bool v, .int .i64 a, .int .i64 b, .int .i64 15, .int .i64 c, .int .i64 n], .sl [.str z] 1] [] (.tup [agI (opV 1 u v a b 15 c n [z]).1, .bool (opV 1 u v a b 15 c n [z]).2]) []
      (intro X hP hΓ hL hfin; refine ⟨_, rfl, ?_⟩; rw [show Tryz.f70.ntmps = 124 from rfl]; rw [show Tryz.f70.results.toList = [.cell 4 42, .tmp 5] from rfl] at hfin; apply holds_of_ex X 400; simp (maxSteps := 1000000) only [push_cast, reduceCtorEq, Nat.reduceAdd, Nat.reduceMul, Nat.reduceSub, Nat.reduceBEq, Nat.reduceGT, Nat.reduceLT, Int.toNat_zero, Nat.reduceLeDiff, Int.reduceEq, Int.reduceLT, Int.reduceLE, hP, hΓ, hL, hfin, String.reduceEq, not_false_eq_true, if_true, if_false, Int.toNat_one, Bool.not_not, b2t, b2f, Int.reduceAdd, toNat2, i64_0, i64_1, i64_2, i64_3, h21])
      skip
      refine Holds.loopM (ι := {k : Nat // k ≤ 0}) [false, true, true, false, true, false, true, true, false, false, false, false, true, true, true, true, false, false, false, false, false, false, false, false, false, false, false, false, false, false, false, false, false, false, false, false, false, false, false, false, false, false, false, false, false, false, false, false, false, false, true, true, false, false, false, false, false, false, false, false, false, false, false, false, false, false, false, false, false, false, false, false, false, false, false, false, false, false, false, false, false, false, false, false, false, false, false, false, false, false, false, false, false, false, false, false, false, false, false, false, false, false, false, false, false, false, false, false, false, false, false, false, false, false, false, false, false, false, false, false, false, false, false, false] (fun i => [(52, .int .i64 i.1)]) (fun i => [.row [.int .i64 1, .bool u, .bool v, .int .i64 a, .int .i64 b, .int .i64 15, .int .i64 c, .int .i64 n] 8 0, .row [.int .i64 0, .bool false, .bool false, .int .i64 0, .int .i64 0, .int .i64 0, .int .i64 0, .int .i64 0] 8 0, .row [.ref 0 0 3, .ref 0 0 4] 1 0]) (fun i => 0 - i.1) ⟨0, by simp⟩ ?_ ?_
      · (rw [hL]; simp only [push_cast, Int.natCast_zero]; exact Into.sameA)
      rintro ⟨k, hk⟩
      have hk2 : k = 0 := by omega
      subst hk2
      rcases Bool.eq_false_or_eq_true (prgB z) with hz | hz
      · have e : opV 1 u v a b 15 c n [z] = (⟨1, u, v, a, b, 15, c, prgN z⟩, decide (prgN z = IntKind.i64.wrap (IntKind.i32.wrap (prgN z)))) := by
          unfold opV
          rw [if_neg (by decide), if_pos ⟨rfl, rfl⟩]
          simp only [fin7, hz, if_true]
        rw [e] at hfin
        ((first | with_reducible refine holds_of_ex X 400 _ _ _ ?_ | skip); simp (maxSteps := 1000000) only [push_cast, reduceCtorEq, Nat.reduceAdd, Nat.reduceMul, Nat.reduceSub, Nat.reduceBEq, Nat.reduceGT, Nat.reduceLT, Int.toNat_zero, Nat.reduceLeDiff, Int.reduceEq, Int.reduceLT, Int.reduceLE, hP, hΓ, hL, hfin, String.reduceEq, not_false_eq_true, if_true, if_false, Int.toNat_one, Bool.not_not, b2t, b2f, Int.reduceAdd, toNat2, i64_0, i64_1, i64_2, i64_3, h97, hz, hz0, prg_wr])
        exact Into.one rfl rfl
      · have e : opV 1 u v a b 15 c n [z] = (⟨0, u, v, a, b, 15, rgN z, n⟩, (regO z).isSome && false && (!decide (15 = 0) || !u && !v)) := by
          unfold opV
          rw [if_neg (by decide), if_pos ⟨rfl, rfl⟩]
          simp only [fin7, hz, if_true, Bool.false_eq_true, if_false]
          (try rfl)
        rw [e] at hfin
        ((first | with_reducible refine holds_of_ex X 400 _ _ _ ?_ | skip); simp (maxSteps := 1000000) only [push_cast, reduceCtorEq, Nat.reduceAdd, Nat.reduceMul, Nat.reduceSub, Nat.reduceBEq, Nat.reduceGT, Nat.reduceLT, Int.toNat_zero, Nat.reduceLeDiff, Int.reduceEq, Int.reduceLT, Int.reduceLE, hP, hΓ, hL, hfin, String.reduceEq, not_false_eq_true, if_true, if_false, Int.toNat_one, Bool.not_not, b2t, b2f, Int.reduceAdd, toNat2, i64_0, i64_1, i64_2, i64_3, h97, h69, hz, hz0, prg_wr, Bool.and_assoc])
        (refine Holds.drawnE (patH [.fix (.row [.int .i64 0, .bool u, .bool v, .int .i64 (a), .int .i64 (b), .int .i64 15, .int .i64 (rgN z), .int .i64 n] 8 0)]) [0, 21] [] [] false (by rw [hP]; kernel_rfl) (by kernel_rfl) (by kernel_rfl) (by kernel_rfl) (by first | exact .inl rfl | exact .inr fun _ _ h => patH_app _ _ h) (by first | (simp only [push_cast]; done) | (simp only [push_cast, and_true]; omega)) ?_; simp (maxSteps := 1000000) only [↓reduceIte, Option.getD_some, push_cast, reduceCtorEq, Nat.reduceAdd, Nat.reduceMul, Nat.reduceSub, Nat.reduceBEq, Nat.reduceGT, Nat.reduceLT, Int.toNat_zero, Nat.reduceLeDiff, Int.reduceEq, Int.reduceLT, Int.reduceLE, hP, hΓ, hL, hfin, String.reduceEq, not_false_eq_true, if_true, if_false, Int.toNat_one, Bool.not_not, b2t, b2f, Int.reduceAdd, toNat2, i64_0, i64_1, i64_2, i64_3, Bool.and_assoc])
        (try ((first | with_reducible refine holds_of_ex X 400 _ _ _ ?_ | skip); simp (maxSteps := 1000000) only [push_cast, reduceCtorEq, Nat.reduceAdd, Nat.reduceMul, Nat.reduceSub, Nat.reduceBEq, Nat.reduceGT, Nat.reduceLT, Int.toNat_zero, Nat.reduceLeDiff, Int.reduceEq, Int.reduceLT, Int.reduceLE, hP, hΓ, hL, hfin, String.reduceEq, not_false_eq_true, if_true, if_false, Int.toNat_one, Bool.not_not, b2t, b2f, Int.reduceAdd, toNat2, i64_0, i64_1, i64_2, i64_3]))
        exact Into.one rfl rfl
  by_cases f10 : f = 1 ∧ op = 0
  · obtain ⟨rfl, rfl⟩ := f10
    by_cases h1 : l.length = 2
    case neg =>
      have hd : decide (((l.length : Nat) : Int) = 2) = false := decide_eq_false (by omega)
      have e : opV 1 u v a b 0 c n l = (⟨1, u, v, a, b, 0, c, n⟩, false) := by
        unfold opV
        rw [if_neg (by decide), if_neg (by decide), if_pos ⟨rfl, rfl⟩]
        match l, h1 with
        | [], _ => rfl
        | [_], _ => rfl
        | [_, _], h => exact absurd rfl h
        | _ :: _ :: _ :: _, _ => rfl
      rw [e]
      (intro X hP hΓ hL hfin; refine ⟨_, rfl, ?_⟩; rw [show Tryz.f70.ntmps = 124 from rfl]; rw [show Tryz.f70.results.toList = [.cell 4 42, .tmp 5] from rfl] at hfin; apply holds_of_ex X 400; simp (maxSteps := 1000000) only [push_cast, reduceCtorEq, Nat.reduceAdd, Nat.reduceMul, Nat.reduceSub, Nat.reduceBEq, Nat.reduceGT, Nat.reduceLT, Int.toNat_zero, Nat.reduceLeDiff, Int.reduceEq, Int.reduceLT, Int.reduceLE, hP, hΓ, hL, hfin, String.reduceEq, not_false_eq_true, if_true, if_false, Int.toNat_one, Bool.not_not, b2t, b2f, Int.reduceAdd, toNat2, i64_0, i64_1, i64_2, i64_3, h21, hd])
      exact Into.one rfl rfl
    match l, h1 with
    | [x, z], _ =>
      have hx0 := hx x (by simp)
      have hz0 := hx z (by simp)
      show BodyOk Tryz.prog Γ Tryz.f70 [.agg [.int .i64 1, .bool u, .bool v, .int .i64 a, .int .i64 b, .int .i64 0, .int .i64 c, .int .i64 n], .sl [.str x, .str z] 2] [] (.tup [agI (opV 1 u v a b 0 c n [x, z]).1, .bool (opV 1 u v a b 0 c n [x, z]).2]) []
      (intro X hP hΓ hL hfin; refine ⟨_, rfl, ?_⟩; rw [show Tryz.f70.ntmps = 124 from rfl]; rw [show Tryz.f70.results.toList = [.cell 4 42, .tmp 5] from rfl] at hfin; apply holds_of_ex X 400; simp (maxSteps := 1000000) only [push_cast, reduceCtorEq, Nat.reduceAdd, Nat.reduceMul, Nat.reduceSub, Nat.reduceBEq, Nat.reduceGT, Nat.reduceLT, Int.toNat_zero, Nat.reduceLeDiff, Int.reduceEq, Int.reduceLT, Int.reduceLE, hP, hΓ, hL, hfin, String.reduceEq, not_false_eq_true, if_true, if_false, Int.toNat_one, Bool.not_not, b2t, b2f, Int.reduceAdd, toNat2, i64_0, i64_1, i64_2, i64_3, h21])
      skip
      refine Holds.loopM (ι := {k : Nat // k ≤ 1 ∧ (0 < k → (regO x).isSome = true)}) [false, true, true, false, true, false, true, true, false, false, false, false, true, true, true, true, false, false, false, false, false, false, false, false, false, false, false, false, false, false, false, false, false, false, false, false, false, false, false, false, false, false, false, false, false, false, false, false, false, false, true, true, false, false, false, false, false, false, false, false, false, false, false, false, false, false, false, false, false, false, false, false, false, false, false, false, false, false, false, false, false, false, false, false, false, false, false, false, false, false, false, false, false, false, false, false, false, false, false, false, false, false, false, false, false, false, false, false, false, false, false, false, false, false, false, false, false, false, false, false, false, false, false, false] (fun i => [(52, .int .i64 i.1)]) (fun i => [.row [.int .i64 1, .bool u, .bool v, .int .i64 (if 0 < i.1 then rgN x else a), .int .i64 b, .int .i64 0, .int .i64 c, .int .i64 n] 8 0, .row [.int .i64 0, .bool false, .bool false, .int .i64 0, .int .i64 0, .int .i64 0, .int .i64 0, .int .i64 0] 8 0, .row [.ref 0 0 3, .ref 0 0 4] 1 0]) (fun i => 1 - i.1) ⟨0, by simp⟩ ?_ ?_
      · (rw [hL]; simp only [push_cast, Int.natCast_zero]; exact Into.sameA)
      rintro ⟨k, hk⟩
      have hk2 : k = 0 ∨ k = 1 := by omega
      rcases hk2 with rfl | rfl
      · rcases Bool.eq_false_or_eq_true (regO x).isSome with hr | hr
        · ((first | with_reducible refine holds_of_ex X 400 _ _ _ ?_ | skip); simp (maxSteps := 1000000) only [push_cast, reduceCtorEq, Nat.reduceAdd, Nat.reduceMul, Nat.reduceSub, Nat.reduceBEq, Nat.reduceGT, Nat.reduceLT, Int.toNat_zero, Nat.reduceLeDiff, Int.reduceEq, Int.reduceLT, Int.reduceLE, hP, hΓ, hL, hfin, String.reduceEq, not_false_eq_true, if_true, if_false, Int.toNat_one, Bool.not_not, b2t, b2f, Int.reduceAdd, toNat2, i64_0, i64_1, i64_2, i64_3, h69, hr, hx0, Int.natCast_zero])
          refine ⟨⟨1, by omega, fun _ => hr⟩, by simp only; omega, ?_⟩
          exact Into.sameA
        · have e : opV 1 u v a b 0 c n [x, z] = (⟨1, u, v, a, b, 0, c, n⟩, false) := by
            unfold opV
            rw [if_neg (by decide), if_neg (by decide), if_pos ⟨rfl, rfl⟩]
            simp only [hr, Bool.false_eq_true, if_false, if_true]
          rw [e] at hfin
          ((first | with_reducible refine holds_of_ex X 400 _ _ _ ?_ | skip); simp (maxSteps := 1000000) only [push_cast, reduceCtorEq, Nat.reduceAdd, Nat.reduceMul, Nat.reduceSub, Nat.reduceBEq, Nat.reduceGT, Nat.reduceLT, Int.toNat_zero, Nat.reduceLeDiff, Int.reduceEq, Int.reduceLT, Int.reduceLE, hP, hΓ, hL, hfin, String.reduceEq, not_false_eq_true, if_true, if_false, Int.toNat_one, Bool.not_not, b2t, b2f, Int.reduceAdd, toNat2, i64_0, i64_1, i64_2, i64_3, h69, hr, hx0, Int.natCast_zero])
          exact Into.one rfl rfl
      · have hrx := hk.2 (by decide)
        rcases Bool.eq_false_or_eq_true (prgB z) with hz | hz
        · have e : opV 1 u v a b 0 c n [x, z] = (⟨1, u, v, rgN x, b, 0, c, prgN z⟩, decide (prgN z = IntKind.i64.wrap (IntKind.i32.wrap (prgN z)))) := by
            unfold opV
            rw [if_neg (by decide), if_neg (by decide), if_pos ⟨rfl, rfl⟩]
            simp only [fin7, hz, hrx, if_true]
          rw [e] at hfin
          ((first | with_reducible refine holds_of_ex X 400 _ _ _ ?_ | skip); simp (maxSteps := 1000000) only [push_cast, reduceCtorEq, Nat.reduceAdd, Nat.reduceMul, Nat.reduceSub, Nat.reduceBEq, Nat.reduceGT, Nat.reduceLT, Int.toNat_zero, Nat.reduceLeDiff, Int.reduceEq, Int.reduceLT, Int.reduceLE, hP, hΓ, hL, hfin, String.reduceEq, not_false_eq_true, if_true, if_false, Int.toNat_one, Bool.not_not, b2t, b2f, Int.reduceAdd, toNat2, i64_0, i64_1, i64_2, i64_3, h97, hz, hz0, prg_wr])
          exact Into.one rfl rfl
        · have e : opV 1 u v a b 0 c n [x, z] = (⟨0, u, v, rgN x, b, 0, rgN z, n⟩, (regO z).isSome && true && (!decide (0 = 0) || !u && !v)) := by
            unfold opV
            rw [if_neg (by decide), if_neg (by decide), if_pos ⟨rfl, rfl⟩]
            simp only [fin7, hz, hrx, if_true, Bool.false_eq_true, if_false]
            (try rfl)
          rw [e] at hfin
          ((first | with_reducible refine holds_of_ex X 400 _ _ _ ?_ | skip); simp (maxSteps := 1000000) only [push_cast, reduceCtorEq, Nat.reduceAdd, Nat.reduceMul, Nat.reduceSub, Nat.reduceBEq, Nat.reduceGT, Nat.reduceLT, Int.toNat_zero, Nat.reduceLeDiff, Int.reduceEq, Int.reduceLT, Int.reduceLE, hP, hΓ, hL, hfin, String.reduceEq, not_false_eq_true, if_true, if_false, Int.toNat_one, Bool.not_not, b2t, b2f, Int.reduceAdd, toNat2, i64_0, i64_1, i64_2, i64_3, h97, h69, hz, hz0, prg_wr, Bool.and_assoc])
          (refine Holds.drawnE (patH [.fix (.row [.int .i64 0, .bool u, .bool v, .int .i64 (rgN x), .int .i64 (b), .int .i64 0, .int .i64 (rgN z), .int .i64 n] 8 0)]) [0, 21] [] [] false (by rw [hP]; kernel_rfl) (by kernel_rfl) (by kernel_rfl) (by kernel_rfl) (by first | exact .inl rfl | exact .inr fun _ _ h => patH_app _ _ h) (by first | (simp only [push_cast]; done) | (simp only [push_cast, and_true]; omega)) ?_; simp (maxSteps := 1000000) only [↓reduceIte, Option.getD_some, push_cast, reduceCtorEq, Nat.reduceAdd, Nat.reduceMul, Nat.reduceSub, Nat.reduceBEq, Nat.reduceGT, Nat.reduceLT, Int.toNat_zero, Nat.reduceLeDiff, Int.reduceEq, Int.reduceLT, Int.reduceLE, hP, hΓ, hL, hfin, String.reduceEq, not_false_eq_true, if_true, if_false, Int.toNat_one, Bool.not_not, b2t, b2f, Int.reduceAdd, toNat2, i64_0, i64_1, i64_2, i64_3, Bool.and_assoc])
          (try ((first | with_reducible refine holds_of_ex X 400 _ _ _ ?_ | skip); simp (maxSteps := 1000000) only [push_cast, reduceCtorEq, Nat.reduceAdd, Nat.reduceMul, Nat.reduceSub, Nat.reduceBEq, Nat.reduceGT, Nat.reduceLT, Int.toNat_zero, Nat.reduceLeDiff, Int.reduceEq, Int.reduceLT, Int.reduceLE, hP, hΓ, hL, hfin, String.reduceEq, not_false_eq_true, if_true, if_false, Int.toNat_one, Bool.not_not, b2t, b2f, Int.reduceAdd, toNat2, i64_0, i64_1, i64_2, i64_3]))
          exact Into.one rfl rfl
  have g1 : (decide (f = 1) && decide (op = 15)) = false := by rw [Bool.eq_false_iff]; simpa using f15
  have g2 : (decide (f = 1) && decide (op = 0)) = false := by rw [Bool.eq_false_iff]; simpa using f10
  by_cases h1 : l.length = 3
  case neg =>
    have hd : decide (((l.length : Nat) : Int) = 3) = false := decide_eq_false (by omega)
    have e : opV f u v a b op c n l = (⟨f, u, v, a, b, op, c, n⟩, false) := by
      unfold opV
      rw [if_neg f0, if_neg f15, if_neg f10]
      match l, h1 with
      | [], _ => rfl
      | [_], _ => rfl
      | [_, _], _ => rfl
      | [_, _, _], h => exact absurd rfl h
      | _ :: _ :: _ :: _ :: _, _ => rfl
    rw [e]
    (intro X hP hΓ hL hfin; refine ⟨_, rfl, ?_⟩; rw [show Tryz.f70.ntmps = 124 from rfl]; rw [show Tryz.f70.results.toList = [.cell 4 42, .tmp 5] from rfl] at hfin; apply holds_of_ex X 400; simp (maxSteps := 1000000) only [push_cast, reduceCtorEq, Nat.reduceAdd, Nat.reduceMul, Nat.reduceSub, Nat.reduceBEq, Nat.reduceGT, Nat.reduceLT, Int.toNat_zero, Nat.reduceLeDiff, Int.reduceEq, Int.reduceLT, Int.reduceLE, hP, hΓ, hL, hfin, String.reduceEq, not_false_eq_true, if_true, if_false, Int.toNat_one, Bool.not_not, b2t, b2f, Int.reduceAdd, toNat2, i64_0, i64_1, i64_2, i64_3, h21, hd, f0, g1, g2])
    exact Into.one rfl rfl
  match l, h1 with
  | [x, y, z], _ =>
    have hx0 := hx x (by simp)
    have hy0 := hx y (by simp)
    have hz0 := hx z (by simp)
    show BodyOk Tryz.prog Γ Tryz.f70 [.agg [.int .i64 f, .bool u, .bool v, .int .i64 a, .int .i64 b, .int .i64 op, .int .i64 c, .int .i64 n], .sl [.str x, .str y, .str z] 3] [] (.tup [agI (opV f u v a b op c n [x, y, z]).1, .bool (opV f u v a b op c n [x, y, z]).2]) []
    (intro X hP hΓ hL hfin; refine ⟨_, rfl, ?_⟩; rw [show Tryz.f70.ntmps = 124 from rfl]; rw [show Tryz.f70.results.toList = [.cell 4 42, .tmp 5] from rfl] at hfin; apply holds_of_ex X 400; simp (maxSteps := 1000000) only [push_cast, reduceCtorEq, Nat.reduceAdd, Nat.reduceMul, Nat.reduceSub, Nat.reduceBEq, Nat.reduceGT, Nat.reduceLT, Int.toNat_zero, Nat.reduceLeDiff, Int.reduceEq, Int.reduceLT, Int.reduceLE, hP, hΓ, hL, hfin, String.reduceEq, not_false_eq_true, if_true, if_false, Int.toNat_one, Bool.not_not, b2t, b2f, Int.reduceAdd, toNat2, i64_0, i64_1, i64_2, i64_3, h21, f0, g1, g2])
    trace_state
    refine Holds.loopM (ι := {k : Nat // k ≤ 2 ∧ (0 < k → (regO x).isSome = true) ∧ (1 < k → (regO y).isSome = true)}) [false, true, true, false, true, false, true, true, false, false, false, false, true, true, true, true, false, false, false, false, false, false, false, false, false, false, false, false, false, false, false, false, false, false, false, false, false, false, false, false, false, false, false, false, false, false, false, false, false, false, true, true, false, false, false, false, false, false, false, false, false, false, false, false, false, false, false, false, false, false, false, false, false, false, false, false, false, false, false, false, false, false, false, false, false, false, false, false, false, false, false, false, false, false, false, false, false, false, false, false, false, false, false, false, false, false, false, false, false, false, false, false, false, false, false, false, false, false, false, false, false, false, false, false] (fun i => [(52, .int .i64 i.1)]) (fun i => [.row [.int .i64 f, .bool u, .bool v, .int .i64 (if 0 < i.1 then rgN x else a), .int .i64 (if 1 < i.1 then rgN y else b), .int .i64 op, .int .i64 c, .int .i64 n] 8 0, .row [.int .i64 0, .bool false, .bool false, .int .i64 0, .int .i64 0, .int .i64 0, .int .i64 0, .int .i64 0] 8 0, .row [.ref 0 0 3, .ref 0 0 4] 1 0]) (fun i => 2 - i.1) ⟨0, by simp⟩ ?_ ?_
    · (rw [hL]; simp only [push_cast, Int.natCast_zero]; exact Into.sameA)
    rintro ⟨k, hk⟩
    have hk2 : k = 0 ∨ k = 1 ∨ k = 2 := by omega
    rcases hk2 with rfl | rfl | rfl
    · rcases Bool.eq_false_or_eq_true (regO x).isSome with hr | hr
      · ((first | with_reducible refine holds_of_ex X 400 _ _ _ ?_ | skip); simp (maxSteps := 1000000) only [push_cast, reduceCtorEq, Nat.reduceAdd, Nat.reduceMul, Nat.reduceSub, Nat.reduceBEq, Nat.reduceGT, Nat.reduceLT, Int.toNat_zero, Nat.reduceLeDiff, Int.reduceEq, Int.reduceLT, Int.reduceLE, hP, hΓ, hL, hfin, String.reduceEq, not_false_eq_true, if_true, if_false, Int.toNat_one, Bool.not_not, b2t, b2f, Int.reduceAdd, toNat2, i64_0, i64_1, i64_2, i64_3, h69, hr, hx0, Int.natCast_zero, f0, g1, g2])
        refine ⟨⟨1, by omega, fun _ => hr, fun h => by omega⟩, by simp only; omega, ?_⟩
        exact Into.sameA
      · have e : opV f u v a b op c n [x, y, z] = (⟨f, u, v, a, b, op, c, n⟩, false) := by
          unfold opV
          rw [if_neg f0, if_neg f15, if_neg f10]
          simp only [hr, Bool.false_eq_true, if_false, if_true]
        rw [e] at hfin
        ((first | with_reducible refine holds_of_ex X 400 _ _ _ ?_ | skip); simp (maxSteps := 1000000) only [push_cast, reduceCtorEq, Nat.reduceAdd, Nat.reduceMul, Nat.reduceSub, Nat.reduceBEq, Nat.reduceGT, Nat.reduceLT, Int.toNat_zero, Nat.reduceLeDiff, Int.reduceEq, Int.reduceLT, Int.reduceLE, hP, hΓ, hL, hfin, String.reduceEq, not_false_eq_true, if_true, if_false, Int.toNat_one, Bool.not_not, b2t, b2f, Int.reduceAdd, toNat2, i64_0, i64_1, i64_2, i64_3, h69, hr, hx0, Int.natCast_zero, f0, g1, g2])
        exact Into.one rfl rfl
    · have hrx := hk.2.1 (by decide)
      rcases Bool.eq_false_or_eq_true (regO y).isSome with hr | hr
      · ((first | with_reducible refine holds_of_ex X 400 _ _ _ ?_ | skip); simp (maxSteps := 1000000) only [push_cast, reduceCtorEq, Nat.reduceAdd, Nat.reduceMul, Nat.reduceSub, Nat.reduceBEq, Nat.reduceGT, Nat.reduceLT, Int.toNat_zero, Nat.reduceLeDiff, Int.reduceEq, Int.reduceLT, Int.reduceLE, hP, hΓ, hL, hfin, String.reduceEq, not_false_eq_true, if_true, if_false, Int.toNat_one, Bool.not_not, b2t, b2f, Int.reduceAdd, toNat2, i64_0, i64_1, i64_2, i64_3, h69, hr, hy0, Int.natCast_zero, hrx, f0, g1, g2])
        refine ⟨⟨2, by omega, fun _ => hrx, fun _ => hr⟩, by simp only; omega, ?_⟩
        exact Into.sameA
      · have e : opV f u v a b op c n [x, y, z] = (⟨f, u, v, rgN x, b, op, c, n⟩, false) := by
          unfold opV
          rw [if_neg f0, if_neg f15, if_neg f10]
          simp only [hr, hrx, Bool.false_eq_true, if_false, if_true]
        rw [e] at hfin
        ((first | with_reducible refine holds_of_ex X 400 _ _ _ ?_ | skip); simp (maxSteps := 1000000) only [push_cast, reduceCtorEq, Nat.reduceAdd, Nat.reduceMul, Nat.reduceSub, Nat.reduceBEq, Nat.reduceGT, Nat.reduceLT, Int.toNat_zero, Nat.reduceLeDiff, Int.reduceEq, Int.reduceLT, Int.reduceLE, hP, hΓ, hL, hfin, String.reduceEq, not_false_eq_true, if_true, if_false, Int.toNat_one, Bool.not_not, b2t, b2f, Int.reduceAdd, toNat2, i64_0, i64_1, i64_2, i64_3, h69, hr, hy0, Int.natCast_zero, hrx, f0, g1, g2])
        exact Into.one rfl rfl
    · have hrx := hk.2.1 (by decide)
      have hry := hk.2.2 (by decide)
      rcases Bool.eq_false_or_eq_true (prgB z) with hz | hz
      · have e : opV f u v a b op c n [x, y, z] = (⟨f, u, v, rgN x, rgN y, op, c, prgN z⟩, decide (prgN z = IntKind.i64.wrap (IntKind.i32.wrap (prgN z)))) := by
          unfold opV
          rw [if_neg f0, if_neg f15, if_neg f10]
          simp only [fin7, hz, hrx, hry, if_true]
        rw [e] at hfin
        ((first | with_reducible refine holds_of_ex X 400 _ _ _ ?_ | skip); simp (maxSteps := 1000000) only [push_cast, reduceCtorEq, Nat.reduceAdd, Nat.reduceMul, Nat.reduceSub, Nat.reduceBEq, Nat.reduceGT, Nat.reduceLT, Int.toNat_zero, Nat.reduceLeDiff, Int.reduceEq, Int.reduceLT, Int.reduceLE, hP, hΓ, hL, hfin, String.reduceEq, not_false_eq_true, if_true, if_false, Int.toNat_one, Bool.not_not, b2t, b2f, Int.reduceAdd, toNat2, i64_0, i64_1, i64_2, i64_3, h97, hz, hz0, prg_wr, f0, g1, g2])
        exact Into.one rfl rfl
      · have e : opV f u v a b op c n [x, y, z] = (⟨0, u, v, rgN x, rgN y, op, rgN z, n⟩, (regO z).isSome && true && (!decide (op = 0) || !u && !v)) := by
          unfold opV
          rw [if_neg f0, if_neg f15, if_neg f10]
          simp only [fin7, hz, hrx, hry, if_true, Bool.false_eq_true, if_false]
          (try rfl)
        rw [e] at hfin
        ((first | with_reducible refine holds_of_ex X 400 _ _ _ ?_ | skip); simp (maxSteps := 1000000) only [push_cast, reduceCtorEq, Nat.reduceAdd, Nat.reduceMul, Nat.reduceSub, Nat.reduceBEq, Nat.reduceGT, Nat.reduceLT, Int.toNat_zero, Nat.reduceLeDiff, Int.reduceEq, Int.reduceLT, Int.reduceLE, hP, hΓ, hL, hfin, String.reduceEq, not_false_eq_true, if_true, if_false, Int.toNat_one, Bool.not_not, b2t, b2f, Int.reduceAdd, toNat2, i64_0, i64_1, i64_2, i64_3, h97, h69, hz, hz0, prg_wr, Bool.and_assoc, f0, g1, g2])
        (refine Holds.drawnE (patH [.fix (.row [.int .i64 0, .bool u, .bool v, .int .i64 (rgN x), .int .i64 (rgN y), .int .i64 op, .int .i64 (rgN z), .int .i64 n] 8 0)]) [0, 21] [] [] false (by rw [hP]; kernel_rfl) (by kernel_rfl) (by kernel_rfl) (by kernel_rfl) (by first | exact .inl rfl | exact .inr fun _ _ h => patH_app _ _ h) (by first | (simp only [push_cast]; done) | (simp only [push_cast, and_true]; omega)) ?_; simp (maxSteps := 1000000) only [↓reduceIte, Option.getD_some, push_cast, reduceCtorEq, Nat.reduceAdd, Nat.reduceMul, Nat.reduceSub, Nat.reduceBEq, Nat.reduceGT, Nat.reduceLT, Int.toNat_zero, Nat.reduceLeDiff, Int.reduceEq, Int.reduceLT, Int.reduceLE, hP, hΓ, hL, hfin, String.reduceEq, not_false_eq_true, if_true, if_false, Int.toNat_one, Bool.not_not, b2t, b2f, Int.reduceAdd, toNat2, i64_0, i64_1, i64_2, i64_3, Bool.and_assoc, f0, g1, g2])
        (try ((first | with_reducible refine holds_of_ex X 400 _ _ _ ?_ | skip); simp (maxSteps := 1000000) only [push_cast, reduceCtorEq, Nat.reduceAdd, Nat.reduceMul, Nat.reduceSub, Nat.reduceBEq, Nat.reduceGT, Nat.reduceLT, Int.toNat_zero, Nat.reduceLeDiff, Int.reduceEq, Int.reduceLT, Int.reduceLE, hP, hΓ, hL, hfin, String.reduceEq, not_false_eq_true, if_true, if_false, Int.toNat_one, Bool.not_not, b2t, b2f, Int.reduceAdd, toNat2, i64_0, i64_1, i64_2, i64_3]))
        exact Into.one rfl rfl
theorem con70 {Γ : Env} (h : EnvOk Tryz.prog Γ) (h21 : Γ 21 = some S21) (h69 : Γ 69 = some S69) (h97 : Γ 97 = some S97) : Con Tryz.prog 70 S70 :=
  funS_con h (fn := Tryz.f70) (by kernel_rfl) rfl (by kernel_rfl) inj70 (by first | (intro h; cases h; done) | exact fun _ _ => rfl) fun ⟨f, u, v, a, b, op, c, n, l⟩ h => body70 Γ h21 h69 h97 f u v a b op c n l h.1 h.2
end Go.Proofs.YtgemeilncdmapaaGreatDoor.asmDone
end
section
namespace Go.Proofs.YtgemeilncdmapaaGreatDoor.asmDone
open Go Go.Eng Go.Proofs Go.RowKit
open Go.Asm (mayB in16 rightB laid sx In flds rightI laidI decB laid_lo ops cnds opT cnT regT sufT nameT hexC hexT sep lastT insT showF joinT numO prgN prgB regO dgt dval ixO blk brO readO lastO)
set_option linter.unusedVariables false
set_option linter.unusedSimpArgs false
set_option maxRecDepth 100000
set_option maxHeartbeats 4000000
end Go.Proofs.YtgemeilncdmapaaGreatDoor.asmDone
end
section
namespace Go.Proofs.YtgemeilncdmapaaGreatDoor.asmDone
open Go Go.Eng Go.Proofs Go.RowKit
open Go.Asm (mayB in16 rightB laid sx In flds rightI laidI decB laid_lo ops cnds opT cnT regT sufT nameT hexC hexT sep lastT insT showF joinT numO prgN prgB regO dgt dval ixO blk brO readO lastO formO formL)
set_option linter.unusedVariables false
set_option linter.unusedSimpArgs false
set_option maxRecDepth 100000
set_option maxHeartbeats 4000000
def inV (i : In) : Value := .agg #[.int .i64 i.f, .bool i.u, .bool i.v, .int .i64 i.a, .int .i64 i.b, .int .i64 i.op, .int .i64 i.c, .int .i64 i.n]
/-- a map of names -/
def nmL : List (List UInt8 × In) → Key → Option Value
  | [], _ => none
  | p :: r, k => if k = .s p.1 then some (inV p.2) else nmL r k
theorem nmL_upd (r : List (List UInt8 × In)) (s : List UInt8) (f : Int) (u v : Bool) (a b op c n : Int) :
    updK (nmL r) (.s s) (.agg #[.int .i64 f, .bool u, .bool v, .int .i64 a, .int .i64 b, .int .i64 op, .int .i64 c, .int .i64 n]) = nmL ((s, ⟨f, u, v, a, b, op, c, n⟩) :: r) := by
  funext k; rfl
theorem noK_L : noK = nmL [] := by funext k; rfl
def uK (k : Nat) : Bool := k % 2 == 1
def vK (k : Nat) : Bool := decide (2 ≤ k)
def memE (k : Nat) : List UInt8 × In := (nameT 2 (uK k) (vK k) 0, ⟨2, uK k, vK k, 0, 0, 0, 0, 0⟩)
def opE (k op : Nat) : List UInt8 × In := (nameT 1 (uK k) (vK k) op, ⟨1, uK k, vK k, 0, 0, op, 0, 0⟩)
def baseE : List (List UInt8 × In) := [([84, 82, 65, 80], ⟨1, false, false, 0, 0, 15, 0, 0⟩), ([77, 79, 86, 70], ⟨0, true, true, 0, 0, 0, 0, 0⟩), ([77, 79, 86, 72], ⟨0, true, false, 0, 0, 0, 0, 0⟩)]
def opsE (k : Nat) (r : List (List UInt8 × In)) : Nat → List (List UInt8 × In)
  | 0 => r
  | op + 1 => opE k op :: opsE k r op
def allE : Nat → List (List UInt8 × In)
  | 0 => baseE
  | k + 1 => opsE k (memE k :: allE k) 12
theorem uvK (k : Nat) (h : k < 4) : (!decide (ibits .and .i64 (k : Int) 1 = 0)) = uK k ∧ (!decide (ibits .and .i64 (k : Int) 2 = 0)) = vK k := by
  have key : ∀ i : Fin 4, (!decide (ibits .and .i64 (i.1 : Int) 1 = 0)) = uK i.1 ∧ (!decide (ibits .and .i64 (i.1 : Int) 2 = 0)) = vK i.1 := by decide
  exact key ⟨k, h⟩
def e66 : Unit → List AV := fun _ => []
def p66 : Unit → Prop := fun _ => True
def r66 : Unit → AV := fun _ => .mpr none (nmL (allE 4))
def g66 : Unit → Heap := fun _ => []
theorem inj66 : ∀ a b, e66 a = e66 b → a = b := fun _ _ _ => rfl
noncomputable def S66 : FSpec := funS e66 p66 r66 g66 true
theorem ps66  : psel e66 p66 [] = (True) := psel_at inj66 p66 ()
theorem rs66  : rsel e66 r66 .any [] = (.mpr none (nmL (allE 4))) := rsel_at inj66 r66 .any ()
theorem hs66  : rsel e66 g66 [] [] = ([]) := rsel_at inj66 g66 [] ()
attribute [push_cast] S66 ps66 rs66 hs66
theorem body66 (Γ : Env) (h24 : Γ 24 = some S24) : BodyOk Tryz.prog Γ Tryz.f66 [] [] (.mpr none (nmL (allE 4))) [] := by
  (intro X hP hΓ hL hfin; refine ⟨_, rfl, ?_⟩; rw [show Tryz.f66.ntmps = 38 from rfl]; rw [show Tryz.f66.results.toList = [.tmp 0] from rfl] at hfin; apply holds_of_ex X 400; simp (maxSteps := 1000000) only [push_cast, reduceCtorEq, Nat.reduceAdd, Nat.reduceMul, Nat.reduceSub, Nat.reduceBEq, Nat.reduceGT, Nat.reduceLT, Int.toNat_zero, Nat.reduceLeDiff, Int.reduceEq, Int.reduceLT, Int.reduceLE, hP, hΓ, hL, hfin, String.reduceEq, not_false_eq_true, if_true, if_false, Int.toNat_one, Bool.not_not, b2t, b2f, Int.reduceAdd, Int.reduceSub, i64_0, i64_1, i64_2, i64_3, oA_some, oA_none, agI_mk, Option.isSome_some, Option.isSome_none, Option.getD_some, Option.getD_none, noK_L, nmL_upd])
  rw [show (nmL [([84, 82, 65, 80], ({ f := 1, u := false, v := false, a := 0, b := 0, op := 15, c := 0, n := 0 } : In)), ([77, 79, 86, 70], ⟨0, true, true, 0, 0, 0, 0, 0⟩), ([77, 79, 86, 72], ⟨0, true, false, 0, 0, 0, 0, 0⟩)]) = nmL (allE 0) from rfl]
  refine Holds.loopM (ι := {k : Nat // k ≤ 4}) [true, true, false, false, false, false, false, false, false, false, false, false, false, false, false, false, false, false, false, false, false, false, false, false, false, false, false, false, false, false, false, false, false, false, false, false, false, false] (fun i => [(9, .int .i64 i.1)]) (fun i => [.raw (.map none (nmL (allE i.1)))]) (fun i => 4 - i.1) ⟨0, by decide⟩ ?_ ?_
  · (rw [hL]; simp only [push_cast, Int.natCast_zero]; exact Into.sameA)
  rintro ⟨k, hk⟩
  ((first | with_reducible refine holds_of_ex X 400 _ _ _ ?_ | skip); simp (maxSteps := 1000000) only [push_cast, reduceCtorEq, Nat.reduceAdd, Nat.reduceMul, Nat.reduceSub, Nat.reduceBEq, Nat.reduceGT, Nat.reduceLT, Int.toNat_zero, Nat.reduceLeDiff, Int.reduceEq, Int.reduceLT, Int.reduceLE, hP, hΓ, hL, hfin, String.reduceEq, not_false_eq_true, if_true, if_false, Int.toNat_one, Bool.not_not, b2t, b2f, Int.reduceAdd, Int.reduceSub, i64_0, i64_1, i64_2, i64_3, oA_some, oA_none, agI_mk, Option.isSome_some, Option.isSome_none, Option.getD_some, Option.getD_none])
  ((with_reducible refine exB_split (fun h => ?_) (fun h => ?_)) <;> (try simp only [decide_eq_true_eq, decide_eq_false_iff_not, Bool.and_eq_true, Bool.or_eq_true, Bool.and_eq_false_iff, Bool.or_eq_false_iff, Bool.not_eq_true', Bool.not_eq_false', Bool.not_eq_true, Bool.not_eq_false, Int.not_lt, Int.not_le, beq_iff_eq, beq_eq_false_iff_ne, ne_eq] at h))
  · have hk' : k < 4 := by omega
    obtain ⟨hu, hv⟩ := uvK k hk'
    ((first | with_reducible refine holds_of_ex X 400 _ _ _ ?_ | skip); simp (maxSteps := 1000000) only [push_cast, reduceCtorEq, Nat.reduceAdd, Nat.reduceMul, Nat.reduceSub, Nat.reduceBEq, Nat.reduceGT, Nat.reduceLT, Int.toNat_zero, Nat.reduceLeDiff, Int.reduceEq, Int.reduceLT, Int.reduceLE, hP, hΓ, hL, hfin, String.reduceEq, not_false_eq_true, if_true, if_false, Int.toNat_one, Bool.not_not, b2t, b2f, Int.reduceAdd, Int.reduceSub, i64_0, i64_1, i64_2, i64_3, oA_some, oA_none, agI_mk, Option.isSome_some, Option.isSome_none, Option.getD_some, Option.getD_none, hu, hv])
    (refine Holds.drawnE (patH [.fix (.raw (.map none (nmL (allE k)))), .fix (.row [.int .i64 2, .bool (uK k), .bool (vK k), .int .i64 0, .int .i64 0, .int .i64 0, .int .i64 0, .int .i64 0] 8 0)]) [0, 1, 3, 4] [] [] true (by rw [hP]; kernel_rfl) (by kernel_rfl) (by kernel_rfl) (by kernel_rfl) (by first | exact .inl rfl | exact .inr fun _ _ h => patH_app _ _ h) (by first | (simp only [push_cast]; done) | (simp only [push_cast, and_true]; omega)) ?_; simp (maxSteps := 1000000) only [↓reduceIte, Option.getD_some, push_cast, reduceCtorEq, Nat.reduceAdd, Nat.reduceMul, Nat.reduceSub, Nat.reduceBEq, Nat.reduceGT, Nat.reduceLT, Int.toNat_zero, Nat.reduceLeDiff, Int.reduceEq, Int.reduceLT, Int.reduceLE, hP, hΓ, hL, hfin, String.reduceEq, not_false_eq_true, if_true, if_false, Int.toNat_one, Bool.not_not, b2t, b2f, Int.reduceAdd, Int.reduceSub, i64_0, i64_1, i64_2, i64_3, oA_some, oA_none, agI_mk, Option.isSome_some, Option.isSome_none, Option.getD_some, Option.getD_none, h24, nmL_upd])
    rw [show nmL ((nameT 2 (uK k) (vK k) 0, ({ f := 2, u := uK k, v := vK k, a := 0, b := 0, op := 0, c := 0, n := 0 } : In)) :: allE k) = nmL (opsE k (memE k :: allE k) 0) from rfl]
    ((first | with_reducible refine holds_of_ex X 400 _ _ _ ?_ | skip); simp (maxSteps := 1000000) only [push_cast, reduceCtorEq, Nat.reduceAdd, Nat.reduceMul, Nat.reduceSub, Nat.reduceBEq, Nat.reduceGT, Nat.reduceLT, Int.toNat_zero, Nat.reduceLeDiff, Int.reduceEq, Int.reduceLT, Int.reduceLE, hP, hΓ, hL, hfin, String.reduceEq, not_false_eq_true, if_true, if_false, Int.toNat_one, Bool.not_not, b2t, b2f, Int.reduceAdd, Int.reduceSub, i64_0, i64_1, i64_2, i64_3, oA_some, oA_none, agI_mk, Option.isSome_some, Option.isSome_none, Option.getD_some, Option.getD_none])
    refine Holds.loopM (ι := {op : Nat // op ≤ 12}) [true, true, false, true, false, false, false, false, false, true, false, false, false, false, false, false, false, false, false, false, false, false, false, false, false, false, false, false, false, false, false, false, false, false, false, false, false, false] (fun i => []) (fun i => [.raw (.map none (nmL (opsE k (memE k :: allE k) i.1))), .row [.int .i64 1, .bool (uK k), .bool (vK k), .int .i64 0, .int .i64 0, .int .i64 i.1, .int .i64 0, .int .i64 0] 8 0]) (fun i => 12 - i.1) ⟨0, by decide⟩ ?_ ?_
    · (rw [hL]; simp only [push_cast, Int.natCast_zero]; exact Into.sameA)
    rintro ⟨j, hj⟩
    ((first | with_reducible refine holds_of_ex X 400 _ _ _ ?_ | skip); simp (maxSteps := 1000000) only [push_cast, reduceCtorEq, Nat.reduceAdd, Nat.reduceMul, Nat.reduceSub, Nat.reduceBEq, Nat.reduceGT, Nat.reduceLT, Int.toNat_zero, Nat.reduceLeDiff, Int.reduceEq, Int.reduceLT, Int.reduceLE, hP, hΓ, hL, hfin, String.reduceEq, not_false_eq_true, if_true, if_false, Int.toNat_one, Bool.not_not, b2t, b2f, Int.reduceAdd, Int.reduceSub, i64_0, i64_1, i64_2, i64_3, oA_some, oA_none, agI_mk, Option.isSome_some, Option.isSome_none, Option.getD_some, Option.getD_none])
    ((with_reducible refine exB_split (fun h => ?_) (fun h => ?_)) <;> (try simp only [decide_eq_true_eq, decide_eq_false_iff_not, Bool.and_eq_true, Bool.or_eq_true, Bool.and_eq_false_iff, Bool.or_eq_false_iff, Bool.not_eq_true', Bool.not_eq_false', Bool.not_eq_true, Bool.not_eq_false, Int.not_lt, Int.not_le, beq_iff_eq, beq_eq_false_iff_ne, ne_eq] at h))
    · have hj0 : 0 ≤ (j : Int) ∧ (j : Int) ≤ 15 := by omega
      ((first | with_reducible refine holds_of_ex X 400 _ _ _ ?_ | skip); simp (maxSteps := 1000000) only [push_cast, reduceCtorEq, Nat.reduceAdd, Nat.reduceMul, Nat.reduceSub, Nat.reduceBEq, Nat.reduceGT, Nat.reduceLT, Int.toNat_zero, Nat.reduceLeDiff, Int.reduceEq, Int.reduceLT, Int.reduceLE, hP, hΓ, hL, hfin, String.reduceEq, not_false_eq_true, if_true, if_false, Int.toNat_one, Bool.not_not, b2t, b2f, Int.reduceAdd, Int.reduceSub, i64_0, i64_1, i64_2, i64_3, oA_some, oA_none, agI_mk, Option.isSome_some, Option.isSome_none, Option.getD_some, Option.getD_none])
      (refine Holds.drawnE (patH [.fix (.raw (.map none (nmL (opsE k (memE k :: allE k) j)))), .fix (.row [.int .i64 1, .bool (uK k), .bool (vK k), .int .i64 0, .int .i64 0, .int .i64 j, .int .i64 0, .int .i64 0] 8 0)]) [0, 1, 3, 4] [] [] true (by rw [hP]; kernel_rfl) (by kernel_rfl) (by kernel_rfl) (by kernel_rfl) (by first | exact .inl rfl | exact .inr fun _ _ h => patH_app _ _ h) (by first | (simp only [push_cast]; done) | (simp only [push_cast, and_true]; omega)) ?_; simp (maxSteps := 1000000) only [↓reduceIte, Option.getD_some, push_cast, reduceCtorEq, Nat.reduceAdd, Nat.reduceMul, Nat.reduceSub, Nat.reduceBEq, Nat.reduceGT, Nat.reduceLT, Int.toNat_zero, Nat.reduceLeDiff, Int.reduceEq, Int.reduceLT, Int.reduceLE, hP, hΓ, hL, hfin, String.reduceEq, not_false_eq_true, if_true, if_false, Int.toNat_one, Bool.not_not, b2t, b2f, Int.reduceAdd, Int.reduceSub, i64_0, i64_1, i64_2, i64_3, oA_some, oA_none, agI_mk, Option.isSome_some, Option.isSome_none, Option.getD_some, Option.getD_none, h24, hj0, and_self, nmL_upd])
      rw [show nmL ((nameT 1 (uK k) (vK k) (j : Int), ({ f := 1, u := uK k, v := vK k, a := 0, b := 0, op := (j : Int), c := 0, n := 0 } : In)) :: opsE k (memE k :: allE k) j) = nmL (opsE k (memE k :: allE k) (j + 1)) from rfl]
      ((first | with_reducible refine holds_of_ex X 400 _ _ _ ?_ | skip); simp (maxSteps := 1000000) only [push_cast, reduceCtorEq, Nat.reduceAdd, Nat.reduceMul, Nat.reduceSub, Nat.reduceBEq, Nat.reduceGT, Nat.reduceLT, Int.toNat_zero, Nat.reduceLeDiff, Int.reduceEq, Int.reduceLT, Int.reduceLE, hP, hΓ, hL, hfin, String.reduceEq, not_false_eq_true, if_true, if_false, Int.toNat_one, Bool.not_not, b2t, b2f, Int.reduceAdd, Int.reduceSub, i64_0, i64_1, i64_2, i64_3, oA_some, oA_none, agI_mk, Option.isSome_some, Option.isSome_none, Option.getD_some, Option.getD_none])
      refine ⟨⟨j + 1, by omega⟩, by simp only; omega, ?_⟩
      dsimp only
      rw [wr_i64 ((j : Int) + 1) (by constructor <;> omega)]
      exact Into.sameA
    · obtain rfl : j = 12 := by omega
      ((first | with_reducible refine holds_of_ex X 400 _ _ _ ?_ | skip); simp (maxSteps := 1000000) only [push_cast, reduceCtorEq, Nat.reduceAdd, Nat.reduceMul, Nat.reduceSub, Nat.reduceBEq, Nat.reduceGT, Nat.reduceLT, Int.toNat_zero, Nat.reduceLeDiff, Int.reduceEq, Int.reduceLT, Int.reduceLE, hP, hΓ, hL, hfin, String.reduceEq, not_false_eq_true, if_true, if_false, Int.toNat_one, Bool.not_not, b2t, b2f, Int.reduceAdd, Int.reduceSub, i64_0, i64_1, i64_2, i64_3, oA_some, oA_none, agI_mk, Option.isSome_some, Option.isSome_none, Option.getD_some, Option.getD_none])
      refine ⟨⟨k + 1, hk'⟩, by simp only; omega, ?_⟩
      dsimp only
      rw [wr_i64 ((k : Int) + 1) (by constructor <;> omega)]
      trace_state
      exact Into.keep1A
  · obtain rfl : k = 4 := by omega
    ((first | with_reducible refine holds_of_ex X 400 _ _ _ ?_ | skip); simp (maxSteps := 1000000) only [push_cast, reduceCtorEq, Nat.reduceAdd, Nat.reduceMul, Nat.reduceSub, Nat.reduceBEq, Nat.reduceGT, Nat.reduceLT, Int.toNat_zero, Nat.reduceLeDiff, Int.reduceEq, Int.reduceLT, Int.reduceLE, hP, hΓ, hL, hfin, String.reduceEq, not_false_eq_true, if_true, if_false, Int.toNat_one, Bool.not_not, b2t, b2f, Int.reduceAdd, Int.reduceSub, i64_0, i64_1, i64_2, i64_3, oA_some, oA_none, agI_mk, Option.isSome_some, Option.isSome_none, Option.getD_some, Option.getD_none])
    (refine IntoF.frz 0 (by simp only [push_cast, reduceCtorEq, Nat.reduceAdd, Nat.reduceMul, Nat.reduceSub, Nat.reduceBEq, Nat.reduceGT, Nat.reduceLT, Int.toNat_zero, Nat.reduceLeDiff, Int.reduceEq, Int.reduceLT, Int.reduceLE]; first | done | decide | omega) (by simp only [frzOk', frzOk, isMap, or_true, true_or, push_cast, reduceCtorEq, Nat.reduceAdd, Nat.reduceMul, Nat.reduceSub, Nat.reduceBEq, Nat.reduceGT, Nat.reduceLT, Int.toNat_zero, Nat.reduceLeDiff, Int.reduceEq, Int.reduceLT, Int.reduceLE]) ?_; simp only [push_cast, reduceCtorEq, Nat.reduceAdd, Nat.reduceMul, Nat.reduceSub, Nat.reduceBEq, Nat.reduceGT, Nat.reduceLT, Int.toNat_zero, Nat.reduceLeDiff, Int.reduceEq, Int.reduceLT, Int.reduceLE])
    exact Into.one rfl rfl
theorem con66 {Γ : Env} (h : EnvOk Tryz.prog Γ) (h24 : Γ 24 = some S24) : Con Tryz.prog 66 S66 :=
  funS_con h (fn := Tryz.f66) (by kernel_rfl) rfl (by kernel_rfl) inj66 (by first | (intro h; cases h; done) | exact fun _ _ => rfl) fun _ h => body66 Γ h24
end Go.Proofs.YtgemeilncdmapaaGreatDoor.asmDone
end
section
namespace Go.Proofs.YtgemeilncdmapaaGreatDoor.asmDone
open Go Go.Eng Go.Proofs Go.RowKit
open Go.Asm (mayB in16 rightB laid sx In flds rightI laidI decB laid_lo ops cnds opT cnT regT sufT nameT hexC hexT sep lastT insT showF joinT numO prgN prgB regO dgt dval ixO blk brO readO lastO formO formL)
set_option linter.unusedVariables false
set_option linter.unusedSimpArgs false
set_option maxRecDepth 100000
set_option maxHeartbeats 4000000
end Go.Proofs.YtgemeilncdmapaaGreatDoor.asmDone
end
