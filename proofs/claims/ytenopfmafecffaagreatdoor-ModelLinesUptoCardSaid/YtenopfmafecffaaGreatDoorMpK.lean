/- Of the model of a workstation: the program's own way to a file that is there, and the commands that go it. Conditions stand in each. -/
import Derived.Test.YtenopfmafecffaaGreatDoorMpJ
namespace Go.Proofs.YtenopfmafecffaaGreatDoor.modelDone
open Go Go.Eng Go.Proofs Go.Mdl Go.RowKit
set_option linter.unusedVariables false
set_option linter.unusedSimpArgs false
set_option maxRecDepth 100000
set_option maxHeartbeats 4000000
theorem data_look {A : Fs} (hs : sorted A) {n d : Bytes} (h : A.lookup n = some d) : dataF A n = d := by
  have := at_place hs h
  rw [dataF, List.getD, this]; rfl
def readC (A : Fs) (a : Bytes) (t : Bytes) : Bytes := if has A a = false then wrongT 172 else t
def delF (S : Int) (A : Fs) (a : Bytes) : Bytes × Fs := if has A a = false then (wrongT 172, A) else delC S A a
def renG (S : Int) (A : Fs) (a b : Bytes) : Bytes × Fs := if has A a = false then (wrongT 172, A) else renC S A a b (dataF A a)
noncomputable section
inductive A80 where
  | c0 (f : (Key → Option Value)) (S : (Int)) (a : (Bytes)) (b : (Bytes))
  | c1 (f : (Key → Option Value)) (S : (Int)) (a : (Bytes)) (b : (Bytes))
  | c2 (f : (Key → Option Value)) (S : (Int)) (a : (Bytes))
  | c3 (f : (Key → Option Value)) (S : (Int)) (a : (Bytes))
  | c4 (f : (Key → Option Value)) (S : (Int)) (a : (Bytes))
  | c5 (f : (Key → Option Value)) (S : (Int)) (a : (Bytes))
def e80 : A80 → List AV × Heap
  | .c0 f S a b => ([.ref 0 0 0, .str a, .fn (.func 81) [] [.ref 1 0 0, .ref 2 0 0]], [.row [.mp 3, .int .i64 S] 2 0, .row [.ref 0 0 0] 1 0, .row [.sl [.str a, .str b] 2] 1 0, .raw (.map none f)])
  | .c1 f S a b => ([.ref 0 0 0, .str a, .fn (.func 82) [] [.ref 1 0 0, .ref 2 0 0]], [.row [.mp 3, .int .i64 S] 2 0, .row [.ref 0 0 0] 1 0, .row [.sl [.str a, .str b] 2] 1 0, .raw (.map none f)])
  | .c2 f S a => ([.ref 0 0 0, .str a, .fn (.func 83) [] [.ref 1 0 0, .ref 2 0 0]], [.row [.mp 3, .int .i64 S] 2 0, .row [.ref 0 0 0] 1 0, .row [.sl [.str a] 1] 1 0, .raw (.map none f)])
  | .c3 f S a => ([.ref 0 0 0, .str a, .fn (.func 85) [] []], [.row [.mp 1, .int .i64 S] 2 0, .raw (.map none f)])
  | .c4 f S a => ([.ref 0 0 0, .str a, .fn (.func 86) [] []], [.row [.mp 1, .int .i64 S] 2 0, .raw (.map none f)])
  | .c5 f S a => ([.ref 0 0 0, .str a, .fn (.func 87) [] []], [.row [.mp 1, .int .i64 S] 2 0, .raw (.map none f)])
def p80 : A80 → Prop
  | .c0 f S a b => okS S (fsOf f) ∧ mapF (fsOf f) = f ∧ b.length ≤ 4194304
  | .c1 f S a b => okS S (fsOf f) ∧ mapF (fsOf f) = f
  | .c2 f S a => okS S (fsOf f) ∧ mapF (fsOf f) = f
  | .c3 f S a => okS S (fsOf f) ∧ mapF (fsOf f) = f
  | .c4 f S a => okS S (fsOf f) ∧ mapF (fsOf f) = f
  | .c5 f S a => okS S (fsOf f) ∧ mapF (fsOf f) = f
def r80 : A80 → AV
  | .c0 f S a b => .str (copyF S (fsOf f) a b).1
  | .c1 f S a b => .str (renG S (fsOf f) a b).1
  | .c2 f S a => .str (delF S (fsOf f) a).1
  | .c3 f S a => .str (readC (fsOf f) a (dataF (fsOf f) a))
  | .c4 f S a => .str (readC (fsOf f) a (numT (dataF (fsOf f) a).length))
  | .c5 f S a => .str (readC (fsOf f) a (prgT (dataF (fsOf f) a)))
def g80 : A80 → Heap
  | .c0 f S a b => [.row [.mp 3, .int .i64 S] 2 0, .row [.ref 0 0 0] 1 0, .row [.sl [.str a, .str b] 2] 1 0, .raw (.map none (mapF (copyF S (fsOf f) a b).2))]
  | .c1 f S a b => [.row [.mp 3, .int .i64 S] 2 0, .row [.ref 0 0 0] 1 0, .row [.sl [.str a, .str b] 2] 1 0, .raw (.map none (mapF (renG S (fsOf f) a b).2))]
  | .c2 f S a => [.row [.mp 3, .int .i64 S] 2 0, .row [.ref 0 0 0] 1 0, .row [.sl [.str a] 1] 1 0, .raw (.map none (mapF (delF S (fsOf f) a).2))]
  | .c3 f S a => [.row [.mp 1, .int .i64 S] 2 0, .raw (.map none f)]
  | .c4 f S a => [.row [.mp 1, .int .i64 S] 2 0, .raw (.map none f)]
  | .c5 f S a => [.row [.mp 1, .int .i64 S] 2 0, .raw (.map none f)]
theorem inj80 : ∀ a b, e80 a = e80 b → a = b := by
  intro a b h
  cases a <;> cases b <;> simp only [e80, mi_iff, ms_iff, mb_iff, my_iff, UInt8.toNat_inj, AObj.raw.injEq, Raw.map.injEq, Prod.mk.injEq, List.cons.injEq, AObj.row.injEq, AV.int.injEq, AV.str.injEq, AV.bool.injEq, AV.sl.injEq, AV.agg.injEq, AV.ip.injEq, AV.fn.injEq, Fn.func.injEq, AV.ifc.injEq, AV.mpr.injEq, AV.msl.injEq, AV.ref.injEq, Int.natCast_inj, and_true, true_and, reduceCtorEq, Nat.reduceEqDiff, false_and, and_false, List.cons_ne_nil] at h <;> simp_all only
noncomputable def S80 : FSpec := heapE true e80 p80 r80 g80
theorem ps80_0 (f : (Key → Option Value)) (S : (Int)) (a : (Bytes)) (b : (Bytes)) : pselK e80 p80 ([.ref 0 0 0, .str a, .fn (.func 81) [] [.ref 1 0 0, .ref 2 0 0]], [.row [.mp 3, .int .i64 S] 2 0, .row [.ref 0 0 0] 1 0, .row [.sl [.str a, .str b] 2] 1 0, .raw (.map none f)]) = (okS S (fsOf f) ∧ mapF (fsOf f) = f ∧ b.length ≤ 4194304) := pselK_at inj80 p80 (.c0 f S a b)
theorem rs80_0 (f : (Key → Option Value)) (S : (Int)) (a : (Bytes)) (b : (Bytes)) : rselK e80 r80 .any ([.ref 0 0 0, .str a, .fn (.func 81) [] [.ref 1 0 0, .ref 2 0 0]], [.row [.mp 3, .int .i64 S] 2 0, .row [.ref 0 0 0] 1 0, .row [.sl [.str a, .str b] 2] 1 0, .raw (.map none f)]) = (.str (copyF S (fsOf f) a b).1) := rselK_at inj80 r80 .any (.c0 f S a b)
theorem hs80_0 (f : (Key → Option Value)) (S : (Int)) (a : (Bytes)) (b : (Bytes)) : rselK e80 g80 [] ([.ref 0 0 0, .str a, .fn (.func 81) [] [.ref 1 0 0, .ref 2 0 0]], [.row [.mp 3, .int .i64 S] 2 0, .row [.ref 0 0 0] 1 0, .row [.sl [.str a, .str b] 2] 1 0, .raw (.map none f)]) = ([.row [.mp 3, .int .i64 S] 2 0, .row [.ref 0 0 0] 1 0, .row [.sl [.str a, .str b] 2] 1 0, .raw (.map none (mapF (copyF S (fsOf f) a b).2))]) := rselK_at inj80 g80 [] (.c0 f S a b)
theorem ps80_1 (f : (Key → Option Value)) (S : (Int)) (a : (Bytes)) (b : (Bytes)) : pselK e80 p80 ([.ref 0 0 0, .str a, .fn (.func 82) [] [.ref 1 0 0, .ref 2 0 0]], [.row [.mp 3, .int .i64 S] 2 0, .row [.ref 0 0 0] 1 0, .row [.sl [.str a, .str b] 2] 1 0, .raw (.map none f)]) = (okS S (fsOf f) ∧ mapF (fsOf f) = f) := pselK_at inj80 p80 (.c1 f S a b)
theorem rs80_1 (f : (Key → Option Value)) (S : (Int)) (a : (Bytes)) (b : (Bytes)) : rselK e80 r80 .any ([.ref 0 0 0, .str a, .fn (.func 82) [] [.ref 1 0 0, .ref 2 0 0]], [.row [.mp 3, .int .i64 S] 2 0, .row [.ref 0 0 0] 1 0, .row [.sl [.str a, .str b] 2] 1 0, .raw (.map none f)]) = (.str (renG S (fsOf f) a b).1) := rselK_at inj80 r80 .any (.c1 f S a b)
theorem hs80_1 (f : (Key → Option Value)) (S : (Int)) (a : (Bytes)) (b : (Bytes)) : rselK e80 g80 [] ([.ref 0 0 0, .str a, .fn (.func 82) [] [.ref 1 0 0, .ref 2 0 0]], [.row [.mp 3, .int .i64 S] 2 0, .row [.ref 0 0 0] 1 0, .row [.sl [.str a, .str b] 2] 1 0, .raw (.map none f)]) = ([.row [.mp 3, .int .i64 S] 2 0, .row [.ref 0 0 0] 1 0, .row [.sl [.str a, .str b] 2] 1 0, .raw (.map none (mapF (renG S (fsOf f) a b).2))]) := rselK_at inj80 g80 [] (.c1 f S a b)
theorem ps80_2 (f : (Key → Option Value)) (S : (Int)) (a : (Bytes)) : pselK e80 p80 ([.ref 0 0 0, .str a, .fn (.func 83) [] [.ref 1 0 0, .ref 2 0 0]], [.row [.mp 3, .int .i64 S] 2 0, .row [.ref 0 0 0] 1 0, .row [.sl [.str a] 1] 1 0, .raw (.map none f)]) = (okS S (fsOf f) ∧ mapF (fsOf f) = f) := pselK_at inj80 p80 (.c2 f S a)
theorem rs80_2 (f : (Key → Option Value)) (S : (Int)) (a : (Bytes)) : rselK e80 r80 .any ([.ref 0 0 0, .str a, .fn (.func 83) [] [.ref 1 0 0, .ref 2 0 0]], [.row [.mp 3, .int .i64 S] 2 0, .row [.ref 0 0 0] 1 0, .row [.sl [.str a] 1] 1 0, .raw (.map none f)]) = (.str (delF S (fsOf f) a).1) := rselK_at inj80 r80 .any (.c2 f S a)
theorem hs80_2 (f : (Key → Option Value)) (S : (Int)) (a : (Bytes)) : rselK e80 g80 [] ([.ref 0 0 0, .str a, .fn (.func 83) [] [.ref 1 0 0, .ref 2 0 0]], [.row [.mp 3, .int .i64 S] 2 0, .row [.ref 0 0 0] 1 0, .row [.sl [.str a] 1] 1 0, .raw (.map none f)]) = ([.row [.mp 3, .int .i64 S] 2 0, .row [.ref 0 0 0] 1 0, .row [.sl [.str a] 1] 1 0, .raw (.map none (mapF (delF S (fsOf f) a).2))]) := rselK_at inj80 g80 [] (.c2 f S a)
theorem ps80_3 (f : (Key → Option Value)) (S : (Int)) (a : (Bytes)) : pselK e80 p80 ([.ref 0 0 0, .str a, .fn (.func 85) [] []], [.row [.mp 1, .int .i64 S] 2 0, .raw (.map none f)]) = (okS S (fsOf f) ∧ mapF (fsOf f) = f) := pselK_at inj80 p80 (.c3 f S a)
theorem rs80_3 (f : (Key → Option Value)) (S : (Int)) (a : (Bytes)) : rselK e80 r80 .any ([.ref 0 0 0, .str a, .fn (.func 85) [] []], [.row [.mp 1, .int .i64 S] 2 0, .raw (.map none f)]) = (.str (readC (fsOf f) a (dataF (fsOf f) a))) := rselK_at inj80 r80 .any (.c3 f S a)
theorem hs80_3 (f : (Key → Option Value)) (S : (Int)) (a : (Bytes)) : rselK e80 g80 [] ([.ref 0 0 0, .str a, .fn (.func 85) [] []], [.row [.mp 1, .int .i64 S] 2 0, .raw (.map none f)]) = ([.row [.mp 1, .int .i64 S] 2 0, .raw (.map none f)]) := rselK_at inj80 g80 [] (.c3 f S a)
theorem ps80_4 (f : (Key → Option Value)) (S : (Int)) (a : (Bytes)) : pselK e80 p80 ([.ref 0 0 0, .str a, .fn (.func 86) [] []], [.row [.mp 1, .int .i64 S] 2 0, .raw (.map none f)]) = (okS S (fsOf f) ∧ mapF (fsOf f) = f) := pselK_at inj80 p80 (.c4 f S a)
theorem rs80_4 (f : (Key → Option Value)) (S : (Int)) (a : (Bytes)) : rselK e80 r80 .any ([.ref 0 0 0, .str a, .fn (.func 86) [] []], [.row [.mp 1, .int .i64 S] 2 0, .raw (.map none f)]) = (.str (readC (fsOf f) a (numT (dataF (fsOf f) a).length))) := rselK_at inj80 r80 .any (.c4 f S a)
theorem hs80_4 (f : (Key → Option Value)) (S : (Int)) (a : (Bytes)) : rselK e80 g80 [] ([.ref 0 0 0, .str a, .fn (.func 86) [] []], [.row [.mp 1, .int .i64 S] 2 0, .raw (.map none f)]) = ([.row [.mp 1, .int .i64 S] 2 0, .raw (.map none f)]) := rselK_at inj80 g80 [] (.c4 f S a)
theorem ps80_5 (f : (Key → Option Value)) (S : (Int)) (a : (Bytes)) : pselK e80 p80 ([.ref 0 0 0, .str a, .fn (.func 87) [] []], [.row [.mp 1, .int .i64 S] 2 0, .raw (.map none f)]) = (okS S (fsOf f) ∧ mapF (fsOf f) = f) := pselK_at inj80 p80 (.c5 f S a)
theorem rs80_5 (f : (Key → Option Value)) (S : (Int)) (a : (Bytes)) : rselK e80 r80 .any ([.ref 0 0 0, .str a, .fn (.func 87) [] []], [.row [.mp 1, .int .i64 S] 2 0, .raw (.map none f)]) = (.str (readC (fsOf f) a (prgT (dataF (fsOf f) a)))) := rselK_at inj80 r80 .any (.c5 f S a)
theorem hs80_5 (f : (Key → Option Value)) (S : (Int)) (a : (Bytes)) : rselK e80 g80 [] ([.ref 0 0 0, .str a, .fn (.func 87) [] []], [.row [.mp 1, .int .i64 S] 2 0, .raw (.map none f)]) = ([.row [.mp 1, .int .i64 S] 2 0, .raw (.map none f)]) := rselK_at inj80 g80 [] (.c5 f S a)
attribute [push_cast] S80 ps80_0 rs80_0 hs80_0 ps80_1 rs80_1 hs80_1 ps80_2 rs80_2 hs80_2 ps80_3 rs80_3 hs80_3 ps80_4 rs80_4 hs80_4 ps80_5 rs80_5 hs80_5
theorem body80 (Γ : Env) (h29 : Γ 29 = some S29) (h81 : Γ 81 = some S81) (h82 : Γ 82 = some S82) (h83 : Γ 83 = some S83) (h85 : Γ 85 = some S85) (h86 : Γ 86 = some S86) (h87 : Γ 87 = some S87) : ∀ x, p80 x → BodyOk Tryz.prog Γ Tryz.f80 (e80 x).1 (e80 x).2 (r80 x) (g80 x) := by
  have key : ∀ A : Fs, okF A → ∀ a, (A.lookup a = none ∧ has A a = false) ∨ ∃ d, A.lookup a = some d ∧ has A a = true ∧ dataF A a = d ∧ d.length ≤ 256000 := by
    intro A hA a
    have h := has_lookup hA.so a
    cases hl : A.lookup a with
    | none => exact .inl ⟨rfl, by rw [h, hl]; rfl⟩
    | some d =>
      have hd := data_look hA.so hl
      exact .inr ⟨d, rfl, by rw [h, hl]; rfl, hd, by rw [← hd]; exact data_le hA a⟩
  intro x hx
  cases x with
  | c0 f S a b =>
    obtain ⟨hA, hf, hb⟩ := hx
    simp only [e80, r80, g80]
    have hfs := fsOf_mapF hA.ok.so
    generalize fsOf f = A at *
    subst hf
    rcases key A hA.ok a with ⟨hl, hh⟩ | ⟨d, hl, hh, hd, hdl⟩
    · (intro X hP hΓ hL hfin; refine ⟨_, rfl, ?_⟩; rw [show Tryz.f80.ntmps = 23 from rfl]; rw [show Tryz.f80.results.toList = [.tmp 6] from rfl] at hfin; apply holds_of_ex X 400; simp (maxSteps := 1000000) only [push_cast, reduceCtorEq, Nat.reduceAdd, Nat.reduceMul, Nat.reduceSub, Nat.reduceBEq, Nat.reduceGT, Nat.reduceLT, Int.toNat_zero, Nat.reduceLeDiff, Int.reduceEq, Int.reduceLT, Int.reduceLE, hP, hΓ, hL, hfin, String.reduceEq, not_false_eq_true, if_true, Int.toNat_one, mapF_s, hl, vS, h29])
      rw [copyF, if_pos hh]
      exact Into.sameA
    · (intro X hP hΓ hL hfin; refine ⟨_, rfl, ?_⟩; rw [show Tryz.f80.ntmps = 23 from rfl]; rw [show Tryz.f80.results.toList = [.tmp 6] from rfl] at hfin; apply holds_of_ex X 400; simp (maxSteps := 1000000) only [push_cast, reduceCtorEq, Nat.reduceAdd, Nat.reduceMul, Nat.reduceSub, Nat.reduceBEq, Nat.reduceGT, Nat.reduceLT, Int.toNat_zero, Nat.reduceLeDiff, Int.reduceEq, Int.reduceLT, Int.reduceLE, hP, hΓ, hL, hfin, String.reduceEq, not_false_eq_true, if_true, Int.toNat_one, mapF_s, hl, vS, h81, Option.getD_some, hfs])
      have hh' : ¬ has A a = false := by simp [hh]
      refine ⟨⟨⟨by omega, by omega⟩, hA, hb, by omega⟩, ?_⟩
      rw [copyF, if_neg hh', hd]
      exact Into.sameA
  | c1 f S a b =>
    obtain ⟨hA, hf⟩ := hx
    simp only [e80, r80, g80]
    have hfs := fsOf_mapF hA.ok.so
    generalize fsOf f = A at *
    subst hf
    rcases key A hA.ok a with ⟨hl, hh⟩ | ⟨d, hl, hh, hd, hdl⟩
    · (intro X hP hΓ hL hfin; refine ⟨_, rfl, ?_⟩; rw [show Tryz.f80.ntmps = 23 from rfl]; rw [show Tryz.f80.results.toList = [.tmp 6] from rfl] at hfin; apply holds_of_ex X 400; simp (maxSteps := 1000000) only [push_cast, reduceCtorEq, Nat.reduceAdd, Nat.reduceMul, Nat.reduceSub, Nat.reduceBEq, Nat.reduceGT, Nat.reduceLT, Int.toNat_zero, Nat.reduceLeDiff, Int.reduceEq, Int.reduceLT, Int.reduceLE, hP, hΓ, hL, hfin, String.reduceEq, not_false_eq_true, if_true, Int.toNat_one, mapF_s, hl, vS, h29])
      rw [renG, if_pos hh]
      exact Into.sameA
    · have hh' : ¬ has A a = false := by simp [hh]
      (intro X hP hΓ hL hfin; refine ⟨_, rfl, ?_⟩; rw [show Tryz.f80.ntmps = 23 from rfl]; rw [show Tryz.f80.results.toList = [.tmp 6] from rfl] at hfin; apply holds_of_ex X 400; simp (maxSteps := 1000000) only [push_cast, reduceCtorEq, Nat.reduceAdd, Nat.reduceMul, Nat.reduceSub, Nat.reduceBEq, Nat.reduceGT, Nat.reduceLT, Int.toNat_zero, Nat.reduceLeDiff, Int.reduceEq, Int.reduceLT, Int.reduceLE, hP, hΓ, hL, hfin, String.reduceEq, not_false_eq_true, if_true, Int.toNat_one, mapF_s, hl, vS, h82, Option.getD_some, hfs])
      refine ⟨⟨⟨by omega, by omega⟩, hA, hh⟩, ?_⟩
      rw [renG, if_neg hh', hd]
      exact Into.sameA
  | c2 f S a =>
    obtain ⟨hA, hf⟩ := hx
    simp only [e80, r80, g80]
    have hfs := fsOf_mapF hA.ok.so
    generalize fsOf f = A at *
    subst hf
    rcases key A hA.ok a with ⟨hl, hh⟩ | ⟨d, hl, hh, hd, hdl⟩
    · (intro X hP hΓ hL hfin; refine ⟨_, rfl, ?_⟩; rw [show Tryz.f80.ntmps = 23 from rfl]; rw [show Tryz.f80.results.toList = [.tmp 6] from rfl] at hfin; apply holds_of_ex X 400; simp (maxSteps := 1000000) only [push_cast, reduceCtorEq, Nat.reduceAdd, Nat.reduceMul, Nat.reduceSub, Nat.reduceBEq, Nat.reduceGT, Nat.reduceLT, Int.toNat_zero, Nat.reduceLeDiff, Int.reduceEq, Int.reduceLT, Int.reduceLE, hP, hΓ, hL, hfin, String.reduceEq, not_false_eq_true, if_true, Int.toNat_one, mapF_s, hl, vS, h29])
      rw [delF, if_pos hh]
      exact Into.sameA
    · have hh' : ¬ has A a = false := by simp [hh]
      (intro X hP hΓ hL hfin; refine ⟨_, rfl, ?_⟩; rw [show Tryz.f80.ntmps = 23 from rfl]; rw [show Tryz.f80.results.toList = [.tmp 6] from rfl] at hfin; apply holds_of_ex X 400; simp (maxSteps := 1000000) only [push_cast, reduceCtorEq, Nat.reduceAdd, Nat.reduceMul, Nat.reduceSub, Nat.reduceBEq, Nat.reduceGT, Nat.reduceLT, Int.toNat_zero, Nat.reduceLeDiff, Int.reduceEq, Int.reduceLT, Int.reduceLE, hP, hΓ, hL, hfin, String.reduceEq, not_false_eq_true, if_true, Int.toNat_one, mapF_s, hl, vS, h83, Option.getD_some, hfs])
      refine ⟨⟨⟨by omega, by omega⟩, hA, hh⟩, ?_⟩
      rw [delF, if_neg hh']
      exact Into.sameA
  | c3 f S a =>
    obtain ⟨hA, hf⟩ := hx
    simp only [e80, r80, g80]
    have hfs := fsOf_mapF hA.ok.so
    generalize fsOf f = A at *
    subst hf
    rcases key A hA.ok a with ⟨hl, hh⟩ | ⟨d, hl, hh, hd, hdl⟩
    · (intro X hP hΓ hL hfin; refine ⟨_, rfl, ?_⟩; rw [show Tryz.f80.ntmps = 23 from rfl]; rw [show Tryz.f80.results.toList = [.tmp 6] from rfl] at hfin; apply holds_of_ex X 400; simp (maxSteps := 1000000) only [push_cast, reduceCtorEq, Nat.reduceAdd, Nat.reduceMul, Nat.reduceSub, Nat.reduceBEq, Nat.reduceGT, Nat.reduceLT, Int.toNat_zero, Nat.reduceLeDiff, Int.reduceEq, Int.reduceLT, Int.reduceLE, hP, hΓ, hL, hfin, String.reduceEq, not_false_eq_true, if_true, Int.toNat_one, mapF_s, hl, vS, h29])
      rw [readC, if_pos hh]
      exact Into.sameA
    · have hh' : ¬ has A a = false := by simp [hh]
      (intro X hP hΓ hL hfin; refine ⟨_, rfl, ?_⟩; rw [show Tryz.f80.ntmps = 23 from rfl]; rw [show Tryz.f80.results.toList = [.tmp 6] from rfl] at hfin; apply holds_of_ex X 400; simp (maxSteps := 1000000) only [push_cast, reduceCtorEq, Nat.reduceAdd, Nat.reduceMul, Nat.reduceSub, Nat.reduceBEq, Nat.reduceGT, Nat.reduceLT, Int.toNat_zero, Nat.reduceLeDiff, Int.reduceEq, Int.reduceLT, Int.reduceLE, hP, hΓ, hL, hfin, String.reduceEq, not_false_eq_true, if_true, Int.toNat_one, mapF_s, hl, vS, h85, Option.getD_some, hfs])
      refine ⟨by omega, ?_⟩
      rw [readC, if_neg hh', hd]
      exact Into.sameA
  | c4 f S a =>
    obtain ⟨hA, hf⟩ := hx
    simp only [e80, r80, g80]
    have hfs := fsOf_mapF hA.ok.so
    generalize fsOf f = A at *
    subst hf
    rcases key A hA.ok a with ⟨hl, hh⟩ | ⟨d, hl, hh, hd, hdl⟩
    · (intro X hP hΓ hL hfin; refine ⟨_, rfl, ?_⟩; rw [show Tryz.f80.ntmps = 23 from rfl]; rw [show Tryz.f80.results.toList = [.tmp 6] from rfl] at hfin; apply holds_of_ex X 400; simp (maxSteps := 1000000) only [push_cast, reduceCtorEq, Nat.reduceAdd, Nat.reduceMul, Nat.reduceSub, Nat.reduceBEq, Nat.reduceGT, Nat.reduceLT, Int.toNat_zero, Nat.reduceLeDiff, Int.reduceEq, Int.reduceLT, Int.reduceLE, hP, hΓ, hL, hfin, String.reduceEq, not_false_eq_true, if_true, Int.toNat_one, mapF_s, hl, vS, h29])
      rw [readC, if_pos hh]
      exact Into.sameA
    · have hh' : ¬ has A a = false := by simp [hh]
      (intro X hP hΓ hL hfin; refine ⟨_, rfl, ?_⟩; rw [show Tryz.f80.ntmps = 23 from rfl]; rw [show Tryz.f80.results.toList = [.tmp 6] from rfl] at hfin; apply holds_of_ex X 400; simp (maxSteps := 1000000) only [push_cast, reduceCtorEq, Nat.reduceAdd, Nat.reduceMul, Nat.reduceSub, Nat.reduceBEq, Nat.reduceGT, Nat.reduceLT, Int.toNat_zero, Nat.reduceLeDiff, Int.reduceEq, Int.reduceLT, Int.reduceLE, hP, hΓ, hL, hfin, String.reduceEq, not_false_eq_true, if_true, Int.toNat_one, mapF_s, hl, vS, h86, Option.getD_some, hfs])
      refine ⟨by omega, ?_⟩
      rw [readC, if_neg hh', hd]
      exact Into.sameA
  | c5 f S a =>
    obtain ⟨hA, hf⟩ := hx
    simp only [e80, r80, g80]
    have hfs := fsOf_mapF hA.ok.so
    generalize fsOf f = A at *
    subst hf
    rcases key A hA.ok a with ⟨hl, hh⟩ | ⟨d, hl, hh, hd, hdl⟩
    · (intro X hP hΓ hL hfin; refine ⟨_, rfl, ?_⟩; rw [show Tryz.f80.ntmps = 23 from rfl]; rw [show Tryz.f80.results.toList = [.tmp 6] from rfl] at hfin; apply holds_of_ex X 400; simp (maxSteps := 1000000) only [push_cast, reduceCtorEq, Nat.reduceAdd, Nat.reduceMul, Nat.reduceSub, Nat.reduceBEq, Nat.reduceGT, Nat.reduceLT, Int.toNat_zero, Nat.reduceLeDiff, Int.reduceEq, Int.reduceLT, Int.reduceLE, hP, hΓ, hL, hfin, String.reduceEq, not_false_eq_true, if_true, Int.toNat_one, mapF_s, hl, vS, h29])
      rw [readC, if_pos hh]
      exact Into.sameA
    · have hh' : ¬ has A a = false := by simp [hh]
      (intro X hP hΓ hL hfin; refine ⟨_, rfl, ?_⟩; rw [show Tryz.f80.ntmps = 23 from rfl]; rw [show Tryz.f80.results.toList = [.tmp 6] from rfl] at hfin; apply holds_of_ex X 400; simp (maxSteps := 1000000) only [push_cast, reduceCtorEq, Nat.reduceAdd, Nat.reduceMul, Nat.reduceSub, Nat.reduceBEq, Nat.reduceGT, Nat.reduceLT, Int.toNat_zero, Nat.reduceLeDiff, Int.reduceEq, Int.reduceLT, Int.reduceLE, hP, hΓ, hL, hfin, String.reduceEq, not_false_eq_true, if_true, Int.toNat_one, mapF_s, hl, vS, h87, Option.getD_some, hfs])
      refine ⟨by omega, ?_⟩
      rw [readC, if_neg hh', hd]
      exact Into.sameA
theorem con80 {Γ : Env} (h : EnvOk Tryz.prog Γ) (h29 : Γ 29 = some S29) (h81 : Γ 81 = some S81) (h82 : Γ 82 = some S82) (h83 : Γ 83 = some S83) (h85 : Γ 85 = some S85) (h86 : Γ 86 = some S86) (h87 : Γ 87 = some S87) : Con Tryz.prog 80 S80 :=
  heapE_con h (fn := Tryz.f80) (by kernel_rfl) rfl (by kernel_rfl) inj80 (body80 Γ h29 h81 h82 h83 h85 h86 h87)
end
end Go.Proofs.YtenopfmafecffaaGreatDoor.modelDone
