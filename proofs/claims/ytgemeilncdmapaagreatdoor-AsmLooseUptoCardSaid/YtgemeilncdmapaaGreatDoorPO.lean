/- Of assembly texts: how a word is written, by the document. Conditions stand in each. Of assembly texts: how a word is written, by the document, joined. Conditions stand in each. Of assembly texts: how a word is written, by the program. Conditions stand in each. Of assembly texts: how rows of words are written, by the program and by the document. Conditions stand in each. -/
import Derived.Test.YtgemeilncdmapaaGreatDoorPN
import Derived.Test.YtgemeilncdmapaaGreatDoorABL
section
namespace Go.Proofs.YtgemeilncdmapaaGreatDoor.asmDone
open Go Go.Eng Go.Proofs Go.RowKit
open Go.Asm (mayB in16 rightB laid sx In flds rightI laidI decB laid_lo ops cnds opT cnT regT sufT nameT hexC hexT sep lastT insT showF)
set_option linter.unusedVariables false
set_option linter.unusedSimpArgs false
set_option maxRecDepth 100000
set_option maxHeartbeats 4000000
def e32 : Unit → List AV := fun _ => []
def p32 : Unit → Prop := fun _ => True
def r32 : Unit → AV := fun _ => .sl (ops.map AV.str) 16
def g32 : Unit → Heap := fun _ => []
theorem inj32 : ∀ a b, e32 a = e32 b → a = b := fun _ _ _ => rfl
noncomputable def S32 : FSpec := funS e32 p32 r32 g32 true
theorem ps32  : psel e32 p32 [] = (True) := psel_at inj32 p32 ()
theorem rs32  : rsel e32 r32 .any [] = (.sl (ops.map AV.str) 16) := rsel_at inj32 r32 .any ()
theorem hs32  : rsel e32 g32 [] [] = ([]) := rsel_at inj32 g32 [] ()
attribute [push_cast] S32 ps32 rs32 hs32
theorem body32 (Γ : Env) : BodyOk Tryz.prog Γ Tryz.f32 [] [] (.sl (ops.map AV.str) 16) [] := by
  (intro X hP hΓ hL hfin; refine ⟨_, rfl, ?_⟩; rw [show Tryz.f32.ntmps = 2 from rfl]; rw [show Tryz.f32.results.toList = [.tmp 0] from rfl] at hfin; apply holds_of_ex X 400; simp (maxSteps := 1000000) only [push_cast, reduceCtorEq, Nat.reduceAdd, Nat.reduceMul, Nat.reduceSub, Nat.reduceBEq, Nat.reduceGT, Nat.reduceLT, Int.toNat_zero, Nat.reduceLeDiff, Int.reduceEq, Int.reduceLT, Int.reduceLE, hP, hΓ, hL, hfin, String.reduceEq, not_false_eq_true, if_true, if_false, Int.toNat_one, Bool.not_not])
  (refine IntoF.frz 0 (by simp only [push_cast, reduceCtorEq, Nat.reduceAdd, Nat.reduceMul, Nat.reduceSub, Nat.reduceBEq, Nat.reduceGT, Nat.reduceLT, Int.toNat_zero, Nat.reduceLeDiff, Int.reduceEq, Int.reduceLT, Int.reduceLE]; first | done | decide | omega) (by simp only [frzOk', frzOk, isMap, or_true, true_or, push_cast, reduceCtorEq, Nat.reduceAdd, Nat.reduceMul, Nat.reduceSub, Nat.reduceBEq, Nat.reduceGT, Nat.reduceLT, Int.toNat_zero, Nat.reduceLeDiff, Int.reduceEq, Int.reduceLT, Int.reduceLE]) ?_; simp only [push_cast, reduceCtorEq, Nat.reduceAdd, Nat.reduceMul, Nat.reduceSub, Nat.reduceBEq, Nat.reduceGT, Nat.reduceLT, Int.toNat_zero, Nat.reduceLeDiff, Int.reduceEq, Int.reduceLT, Int.reduceLE])
  exact Into.one rfl rfl
theorem con32 {Γ : Env} (h : EnvOk Tryz.prog Γ)  : Con Tryz.prog 32 S32 :=
  funS_con h (fn := Tryz.f32) (by kernel_rfl) rfl (by kernel_rfl) inj32 (by first | (intro h; cases h; done) | exact fun _ _ => rfl) fun _ h => body32 Γ
def e55 : Unit → List AV := fun _ => []
def p55 : Unit → Prop := fun _ => True
def r55 : Unit → AV := fun _ => .sl (cnds.map AV.str) 16
def g55 : Unit → Heap := fun _ => []
theorem inj55 : ∀ a b, e55 a = e55 b → a = b := fun _ _ _ => rfl
noncomputable def S55 : FSpec := funS e55 p55 r55 g55 true
theorem ps55  : psel e55 p55 [] = (True) := psel_at inj55 p55 ()
theorem rs55  : rsel e55 r55 .any [] = (.sl (cnds.map AV.str) 16) := rsel_at inj55 r55 .any ()
theorem hs55  : rsel e55 g55 [] [] = ([]) := rsel_at inj55 g55 [] ()
attribute [push_cast] S55 ps55 rs55 hs55
theorem body55 (Γ : Env) : BodyOk Tryz.prog Γ Tryz.f55 [] [] (.sl (cnds.map AV.str) 16) [] := by
  (intro X hP hΓ hL hfin; refine ⟨_, rfl, ?_⟩; rw [show Tryz.f55.ntmps = 2 from rfl]; rw [show Tryz.f55.results.toList = [.tmp 0] from rfl] at hfin; apply holds_of_ex X 400; simp (maxSteps := 1000000) only [push_cast, reduceCtorEq, Nat.reduceAdd, Nat.reduceMul, Nat.reduceSub, Nat.reduceBEq, Nat.reduceGT, Nat.reduceLT, Int.toNat_zero, Nat.reduceLeDiff, Int.reduceEq, Int.reduceLT, Int.reduceLE, hP, hΓ, hL, hfin, String.reduceEq, not_false_eq_true, if_true, if_false, Int.toNat_one, Bool.not_not])
  (refine IntoF.frz 0 (by simp only [push_cast, reduceCtorEq, Nat.reduceAdd, Nat.reduceMul, Nat.reduceSub, Nat.reduceBEq, Nat.reduceGT, Nat.reduceLT, Int.toNat_zero, Nat.reduceLeDiff, Int.reduceEq, Int.reduceLT, Int.reduceLE]; first | done | decide | omega) (by simp only [frzOk', frzOk, isMap, or_true, true_or, push_cast, reduceCtorEq, Nat.reduceAdd, Nat.reduceMul, Nat.reduceSub, Nat.reduceBEq, Nat.reduceGT, Nat.reduceLT, Int.toNat_zero, Nat.reduceLeDiff, Int.reduceEq, Int.reduceLT, Int.reduceLE]) ?_; simp only [push_cast, reduceCtorEq, Nat.reduceAdd, Nat.reduceMul, Nat.reduceSub, Nat.reduceBEq, Nat.reduceGT, Nat.reduceLT, Int.toNat_zero, Nat.reduceLeDiff, Int.reduceEq, Int.reduceLT, Int.reduceLE])
  exact Into.one rfl rfl
theorem con55 {Γ : Env} (h : EnvOk Tryz.prog Γ)  : Con Tryz.prog 55 S55 :=
  funS_con h (fn := Tryz.f55) (by kernel_rfl) rfl (by kernel_rfl) inj55 (by first | (intro h; cases h; done) | exact fun _ _ => rfl) fun _ h => body55 Γ
def e34 : (Int) × (Bool) × (Bool) × (Int) × (Int) × (Int) × (Int) × (Int) → List AV := fun (f, u, v, a, b, op, c, n) => [.agg [.int .i64 f, .bool u, .bool v, .int .i64 a, .int .i64 b, .int .i64 op, .int .i64 c, .int .i64 n]]
def p34 : (Int) × (Bool) × (Bool) × (Int) × (Int) × (Int) × (Int) × (Int) → Prop := fun (f, u, v, a, b, op, c, n) => (0 ≤ c ∧ c ≤ 15) ∧ (-9999999999 ≤ n ∧ n ≤ 9999999999)
def r34 : (Int) × (Bool) × (Bool) × (Int) × (Int) × (Int) × (Int) × (Int) → AV := fun (f, u, v, a, b, op, c, n) => .str (lastT f c n)
def g34 : (Int) × (Bool) × (Bool) × (Int) × (Int) × (Int) × (Int) × (Int) → Heap := fun (f, u, v, a, b, op, c, n) => []
theorem inj34 : ∀ a b, e34 a = e34 b → a = b := by
  rintro ⟨f, u, v, a, b, op, c, n⟩ ⟨f', u', v', a', b', op', c', n'⟩ h
  simp only [e34, mi_iff, ms_iff, mb_iff, my_iff, UInt8.toNat_inj, List.cons.injEq, AV.int.injEq, AV.str.injEq, AV.bool.injEq, AV.sl.injEq, AV.agg.injEq, AV.ip.injEq, AV.fn.injEq, AV.ifc.injEq, AV.mpr.injEq, Int.natCast_inj, and_true, true_and] at h
  simp_all only
noncomputable def S34 : FSpec := funS e34 p34 r34 g34 true
theorem ps34 (f : (Int)) (u : (Bool)) (v : (Bool)) (a : (Int)) (b : (Int)) (op : (Int)) (c : (Int)) (n : (Int)) : psel e34 p34 [.agg [.int .i64 f, .bool u, .bool v, .int .i64 a, .int .i64 b, .int .i64 op, .int .i64 c, .int .i64 n]] = ((0 ≤ c ∧ c ≤ 15) ∧ (-9999999999 ≤ n ∧ n ≤ 9999999999)) := psel_at inj34 p34 (f, u, v, a, b, op, c, n)
theorem rs34 (f : (Int)) (u : (Bool)) (v : (Bool)) (a : (Int)) (b : (Int)) (op : (Int)) (c : (Int)) (n : (Int)) : rsel e34 r34 .any [.agg [.int .i64 f, .bool u, .bool v, .int .i64 a, .int .i64 b, .int .i64 op, .int .i64 c, .int .i64 n]] = (.str (lastT f c n)) := rsel_at inj34 r34 .any (f, u, v, a, b, op, c, n)
theorem hs34 (f : (Int)) (u : (Bool)) (v : (Bool)) (a : (Int)) (b : (Int)) (op : (Int)) (c : (Int)) (n : (Int)) : rsel e34 g34 [] [.agg [.int .i64 f, .bool u, .bool v, .int .i64 a, .int .i64 b, .int .i64 op, .int .i64 c, .int .i64 n]] = ([]) := rsel_at inj34 g34 [] (f, u, v, a, b, op, c, n)
attribute [push_cast] S34 ps34 rs34 hs34
theorem body34 (Γ : Env) (h29 : Γ 29 = some S29) (h30 : Γ 30 = some S30) (f : Int) (u v : Bool) (a b op c n : Int) (hc : 0 ≤ c ∧ c ≤ 15) (hn : -9999999999 ≤ n ∧ n ≤ 9999999999) : BodyOk Tryz.prog Γ Tryz.f34 [.agg [.int .i64 f, .bool u, .bool v, .int .i64 a, .int .i64 b, .int .i64 op, .int .i64 c, .int .i64 n]] [] (.str (lastT f c n)) [] := by
  by_cases f0 : f = 0
  · rw [lastT, if_pos f0]
    (intro X hP hΓ hL hfin; refine ⟨_, rfl, ?_⟩; rw [show Tryz.f34.ntmps = 12 from rfl]; rw [show Tryz.f34.results.toList = [.tmp 2] from rfl] at hfin; apply holds_of_ex X 400; simp (maxSteps := 1000000) only [push_cast, reduceCtorEq, Nat.reduceAdd, Nat.reduceMul, Nat.reduceSub, Nat.reduceBEq, Nat.reduceGT, Nat.reduceLT, Int.toNat_zero, Nat.reduceLeDiff, Int.reduceEq, Int.reduceLT, Int.reduceLE, hP, hΓ, hL, hfin, String.reduceEq, not_false_eq_true, if_true, if_false, Int.toNat_one, Bool.not_not, f0, h29])
    exact ⟨by omega, Into.one rfl rfl⟩
  · rw [lastT, if_neg f0]
    (intro X hP hΓ hL hfin; refine ⟨_, rfl, ?_⟩; rw [show Tryz.f34.ntmps = 12 from rfl]; rw [show Tryz.f34.results.toList = [.tmp 2] from rfl] at hfin; apply holds_of_ex X 400; simp (maxSteps := 1000000) only [push_cast, reduceCtorEq, Nat.reduceAdd, Nat.reduceMul, Nat.reduceSub, Nat.reduceBEq, Nat.reduceGT, Nat.reduceLT, Int.toNat_zero, Nat.reduceLeDiff, Int.reduceEq, Int.reduceLT, Int.reduceLE, hP, hΓ, hL, hfin, String.reduceEq, not_false_eq_true, if_true, if_false, Int.toNat_one, Bool.not_not, f0, h30])
    exact ⟨by omega, Into.one rfl rfl⟩
theorem con34 {Γ : Env} (h : EnvOk Tryz.prog Γ) (h29 : Γ 29 = some S29) (h30 : Γ 30 = some S30) : Con Tryz.prog 34 S34 :=
  funS_con h (fn := Tryz.f34) (by kernel_rfl) rfl (by kernel_rfl) inj34 (by first | (intro h; cases h; done) | exact fun _ _ => rfl) fun ⟨f, u, v, a, b, op, c, n⟩ h => body34 Γ h29 h30 f u v a b op c n h.1 h.2
theorem reg_len {n : Int} (h : 0 ≤ n ∧ n ≤ 15) : (regT n).length ≤ 12 := by
  have := itoa_len n (by omega)
  simp only [regT, List.length_cons]; omega
theorem last_len {f c n : Int} (hc : 0 ≤ c ∧ c ≤ 15) (hn : -9999999999 ≤ n ∧ n ≤ 9999999999) : (lastT f c n).length ≤ 12 := by
  unfold lastT; split
  · exact reg_len hc
  · have := itoa_len n hn; omega
def movT (f : Int) (u v : Bool) (a c n : Int) : List UInt8 :=
  if f = 0 ∧ u = true then nameT f u v 0 ++ (32 :: regT a) else nameT f u v 0 ++ (32 :: (regT a ++ (sep ++ lastT f c n)))
def e31 : (Int) × (Bool) × (Bool) × (Int) × (Int) × (Int) × (Int) × (Int) → List AV := fun (f, u, v, a, b, op, c, n) => [.agg [.int .i64 f, .bool u, .bool v, .int .i64 a, .int .i64 b, .int .i64 op, .int .i64 c, .int .i64 n]]
def p31 : (Int) × (Bool) × (Bool) × (Int) × (Int) × (Int) × (Int) × (Int) → Prop := fun (f, u, v, a, b, op, c, n) => (f = 0 ∨ f = 1) ∧ (0 ≤ a ∧ a ≤ 15) ∧ (0 ≤ c ∧ c ≤ 15) ∧ (-9999999999 ≤ n ∧ n ≤ 9999999999)
def r31 : (Int) × (Bool) × (Bool) × (Int) × (Int) × (Int) × (Int) × (Int) → AV := fun (f, u, v, a, b, op, c, n) => .str (movT f u v a c n)
def g31 : (Int) × (Bool) × (Bool) × (Int) × (Int) × (Int) × (Int) × (Int) → Heap := fun (f, u, v, a, b, op, c, n) => []
theorem inj31 : ∀ a b, e31 a = e31 b → a = b := by
  rintro ⟨f, u, v, a, b, op, c, n⟩ ⟨f', u', v', a', b', op', c', n'⟩ h
  simp only [e31, mi_iff, ms_iff, mb_iff, my_iff, UInt8.toNat_inj, List.cons.injEq, AV.int.injEq, AV.str.injEq, AV.bool.injEq, AV.sl.injEq, AV.agg.injEq, AV.ip.injEq, AV.fn.injEq, AV.ifc.injEq, AV.mpr.injEq, Int.natCast_inj, and_true, true_and] at h
  simp_all only
noncomputable def S31 : FSpec := funS e31 p31 r31 g31 true
theorem ps31 (f : (Int)) (u : (Bool)) (v : (Bool)) (a : (Int)) (b : (Int)) (op : (Int)) (c : (Int)) (n : (Int)) : psel e31 p31 [.agg [.int .i64 f, .bool u, .bool v, .int .i64 a, .int .i64 b, .int .i64 op, .int .i64 c, .int .i64 n]] = ((f = 0 ∨ f = 1) ∧ (0 ≤ a ∧ a ≤ 15) ∧ (0 ≤ c ∧ c ≤ 15) ∧ (-9999999999 ≤ n ∧ n ≤ 9999999999)) := psel_at inj31 p31 (f, u, v, a, b, op, c, n)
theorem rs31 (f : (Int)) (u : (Bool)) (v : (Bool)) (a : (Int)) (b : (Int)) (op : (Int)) (c : (Int)) (n : (Int)) : rsel e31 r31 .any [.agg [.int .i64 f, .bool u, .bool v, .int .i64 a, .int .i64 b, .int .i64 op, .int .i64 c, .int .i64 n]] = (.str (movT f u v a c n)) := rsel_at inj31 r31 .any (f, u, v, a, b, op, c, n)
theorem hs31 (f : (Int)) (u : (Bool)) (v : (Bool)) (a : (Int)) (b : (Int)) (op : (Int)) (c : (Int)) (n : (Int)) : rsel e31 g31 [] [.agg [.int .i64 f, .bool u, .bool v, .int .i64 a, .int .i64 b, .int .i64 op, .int .i64 c, .int .i64 n]] = ([]) := rsel_at inj31 g31 [] (f, u, v, a, b, op, c, n)
attribute [push_cast] S31 ps31 rs31 hs31
theorem body31 (Γ : Env) (h29 : Γ 29 = some S29) (h33 : Γ 33 = some S33) (h34 : Γ 34 = some S34) (f : Int) (u v : Bool) (a b op c n : Int) (hf : f = 0 ∨ f = 1) (ha : 0 ≤ a ∧ a ≤ 15) (hc : 0 ≤ c ∧ c ≤ 15) (hn : -9999999999 ≤ n ∧ n ≤ 9999999999) : BodyOk Tryz.prog Γ Tryz.f31 [.agg [.int .i64 f, .bool u, .bool v, .int .i64 a, .int .i64 b, .int .i64 op, .int .i64 c, .int .i64 n]] [] (.str (movT f u v a c n)) [] := by
  have la := reg_len ha
  have ll := last_len (f := f) hc hn
  have ls := suf_len u v
  have ha2 : -9999999999 ≤ a ∧ a ≤ 9999999999 := by omega
  by_cases f0 : f = 0 ∧ u = true
  · obtain ⟨rfl, rfl⟩ := f0
    rw [movT, if_pos ⟨rfl, rfl⟩, nameT, if_neg (by decide), if_pos (by decide)]
    cases v <;> ((intro X hP hΓ hL hfin; refine ⟨_, rfl, ?_⟩; rw [show Tryz.f31.ntmps = 43 from rfl]; rw [show Tryz.f31.results.toList = [.tmp 2] from rfl] at hfin; apply holds_of_ex X 400; simp (maxSteps := 1000000) only [push_cast, reduceCtorEq, Nat.reduceAdd, Nat.reduceMul, Nat.reduceSub, Nat.reduceBEq, Nat.reduceGT, Nat.reduceLT, Int.toNat_zero, Nat.reduceLeDiff, Int.reduceEq, Int.reduceLT, Int.reduceLE, hP, hΓ, hL, hfin, String.reduceEq, not_false_eq_true, if_true, if_false, Int.toNat_one, Bool.not_not, h29, ha2, and_self]); exact ⟨by omega, Into.one rfl rfl⟩)
  rw [movT, if_neg f0, nameT, if_neg (by omega), if_neg (fun h => f0 ⟨h.1, h.2.2⟩)]
  have e1 : (decide (f = 0) && u) = false := by rw [Bool.eq_false_iff]; simpa using f0
  (intro X hP hΓ hL hfin; refine ⟨_, rfl, ?_⟩; rw [show Tryz.f31.ntmps = 43 from rfl]; rw [show Tryz.f31.results.toList = [.tmp 2] from rfl] at hfin; apply holds_of_ex X 400; simp (maxSteps := 1000000) only [push_cast, reduceCtorEq, Nat.reduceAdd, Nat.reduceMul, Nat.reduceSub, Nat.reduceBEq, Nat.reduceGT, Nat.reduceLT, Int.toNat_zero, Nat.reduceLeDiff, Int.reduceEq, Int.reduceLT, Int.reduceLE, hP, hΓ, hL, hfin, String.reduceEq, not_false_eq_true, if_true, if_false, Int.toNat_one, Bool.not_not, e1, h29, ha2, hc, hn, and_self])
  (refine Holds.drawnQ (by rw [hP]; kernel_rfl) (by kernel_rfl) ?_; simp (maxSteps := 1000000) only [push_cast, reduceCtorEq, Nat.reduceAdd, Nat.reduceMul, Nat.reduceSub, Nat.reduceBEq, Nat.reduceGT, Nat.reduceLT, Int.toNat_zero, Nat.reduceLeDiff, Int.reduceEq, Int.reduceLT, Int.reduceLE, hP, hΓ, hL, hfin, String.reduceEq, not_false_eq_true, if_true, if_false, Int.toNat_one, Bool.not_not, h29, h33, h34, ha2, hc, hn, and_self])
  refine ⟨by omega, by omega, by omega, by omega, by omega, ?_⟩
  exact Into.one (congrArg AV.str (by simp [opT, ops, sep])) rfl
theorem con31 {Γ : Env} (h : EnvOk Tryz.prog Γ) (h29 : Γ 29 = some S29) (h33 : Γ 33 = some S33) (h34 : Γ 34 = some S34) : Con Tryz.prog 31 S31 :=
  funS_con h (fn := Tryz.f31) (by kernel_rfl) rfl (by kernel_rfl) inj31 (by first | (intro h; cases h; done) | exact fun _ _ => rfl) fun ⟨f, u, v, a, b, op, c, n⟩ h => body31 Γ h29 h33 h34 f u v a b op c n h.1 h.2.1 h.2.2.1 h.2.2.2
def brT (u v : Bool) (a c n at_ : Int) : List UInt8 :=
  (if v then [67, 65, 76, 76, 32] else [74, 77, 80, 32]) ++ (cnT a ++ (sep ++ (if u then Lib.itoa ((at_ + 4 + n * 4) % 4294967296) else regT c)))
def e28 : (Int) × (Bool) × (Bool) × (Int) × (Int) × (Int) × (Int) × (Int) × (Int) → List AV := fun (f, u, v, a, b, op, c, n, at_) => [.agg [.int .i64 f, .bool u, .bool v, .int .i64 a, .int .i64 b, .int .i64 op, .int .i64 c, .int .i64 n], .int .u32 at_]
def p28 : (Int) × (Bool) × (Bool) × (Int) × (Int) × (Int) × (Int) × (Int) × (Int) → Prop := fun (f, u, v, a, b, op, c, n, at_) => (0 ≤ a ∧ a ≤ 15) ∧ (0 ≤ c ∧ c ≤ 15) ∧ (-9999999999 ≤ n ∧ n ≤ 9999999999) ∧ (0 ≤ at_ ∧ at_ < 4294967296)
def r28 : (Int) × (Bool) × (Bool) × (Int) × (Int) × (Int) × (Int) × (Int) × (Int) → AV := fun (f, u, v, a, b, op, c, n, at_) => .str (brT u v a c n at_)
def g28 : (Int) × (Bool) × (Bool) × (Int) × (Int) × (Int) × (Int) × (Int) × (Int) → Heap := fun (f, u, v, a, b, op, c, n, at_) => []
theorem inj28 : ∀ a b, e28 a = e28 b → a = b := by
  rintro ⟨f, u, v, a, b, op, c, n, at_⟩ ⟨f', u', v', a', b', op', c', n', at_'⟩ h
  simp only [e28, mi_iff, ms_iff, mb_iff, my_iff, UInt8.toNat_inj, List.cons.injEq, AV.int.injEq, AV.str.injEq, AV.bool.injEq, AV.sl.injEq, AV.agg.injEq, AV.ip.injEq, AV.fn.injEq, AV.ifc.injEq, AV.mpr.injEq, Int.natCast_inj, and_true, true_and] at h
  simp_all only
noncomputable def S28 : FSpec := funS e28 p28 r28 g28 true
theorem ps28 (f : (Int)) (u : (Bool)) (v : (Bool)) (a : (Int)) (b : (Int)) (op : (Int)) (c : (Int)) (n : (Int)) (at_ : (Int)) : psel e28 p28 [.agg [.int .i64 f, .bool u, .bool v, .int .i64 a, .int .i64 b, .int .i64 op, .int .i64 c, .int .i64 n], .int .u32 at_] = ((0 ≤ a ∧ a ≤ 15) ∧ (0 ≤ c ∧ c ≤ 15) ∧ (-9999999999 ≤ n ∧ n ≤ 9999999999) ∧ (0 ≤ at_ ∧ at_ < 4294967296)) := psel_at inj28 p28 (f, u, v, a, b, op, c, n, at_)
theorem rs28 (f : (Int)) (u : (Bool)) (v : (Bool)) (a : (Int)) (b : (Int)) (op : (Int)) (c : (Int)) (n : (Int)) (at_ : (Int)) : rsel e28 r28 .any [.agg [.int .i64 f, .bool u, .bool v, .int .i64 a, .int .i64 b, .int .i64 op, .int .i64 c, .int .i64 n], .int .u32 at_] = (.str (brT u v a c n at_)) := rsel_at inj28 r28 .any (f, u, v, a, b, op, c, n, at_)
theorem hs28 (f : (Int)) (u : (Bool)) (v : (Bool)) (a : (Int)) (b : (Int)) (op : (Int)) (c : (Int)) (n : (Int)) (at_ : (Int)) : rsel e28 g28 [] [.agg [.int .i64 f, .bool u, .bool v, .int .i64 a, .int .i64 b, .int .i64 op, .int .i64 c, .int .i64 n], .int .u32 at_] = ([]) := rsel_at inj28 g28 [] (f, u, v, a, b, op, c, n, at_)
attribute [push_cast] S28 ps28 rs28 hs28
theorem body28 (Γ : Env) (h29 : Γ 29 = some S29) (h30 : Γ 30 = some S30) (h55 : Γ 55 = some S55) (f : Int) (u v : Bool) (a b op c n at_ : Int) (ha : 0 ≤ a ∧ a ≤ 15) (hc : 0 ≤ c ∧ c ≤ 15) (hn : -9999999999 ≤ n ∧ n ≤ 9999999999) (hat : 0 ≤ at_ ∧ at_ < 4294967296) : BodyOk Tryz.prog Γ Tryz.f28 [.agg [.int .i64 f, .bool u, .bool v, .int .i64 a, .int .i64 b, .int .i64 op, .int .i64 c, .int .i64 n], .int .u32 at_] [] (.str (brT u v a c n at_)) [] := by
  have lc := cn_len a
  have lr := reg_len hc
  have hc2 : -9999999999 ≤ c ∧ c ≤ 9999999999 := by omega
  have ha16 : a < 16 := by omega
  have ha0 := ha.1
  have w1 : IntKind.i64.wrap (4 * n) = 4 * n := wr_i64 _ (by constructor <;> omega)
  have w2 : IntKind.u32.wrap (IntKind.u32.wrap (at_ + 4) + IntKind.u32.wrap (4 * n)) = (at_ + 4 + n * 4) % 4294967296 := by
    simp only [u32w]; omega
  have hx : 0 ≤ (at_ + 4 + n * 4) % 4294967296 ∧ (at_ + 4 + n * 4) % 4294967296 < 4294967296 := by omega
  generalize hX : (at_ + 4 + n * 4) % 4294967296 = x at *
  have w3 : IntKind.i64.wrap x = x := wr_i64 _ (by constructor <;> omega)
  have hx2 : -9999999999 ≤ x ∧ x ≤ 9999999999 := by omega
  have lx := itoa_len x hx2
  have cnD : cnds.getD a.toNat default = cnT a := rfl
  rw [brT, hX]
  cases u <;> cases v
  · (intro X hP hΓ hL hfin; refine ⟨_, rfl, ?_⟩; rw [show Tryz.f28.ntmps = 35 from rfl]; rw [show Tryz.f28.results.toList = [.tmp 4] from rfl] at hfin; apply holds_of_ex X 400; simp (maxSteps := 1000000) only [push_cast, reduceCtorEq, Nat.reduceAdd, Nat.reduceMul, Nat.reduceSub, Nat.reduceBEq, Nat.reduceGT, Nat.reduceLT, Int.toNat_zero, Nat.reduceLeDiff, Int.reduceEq, Int.reduceLT, Int.reduceLE, hP, hΓ, hL, hfin, String.reduceEq, not_false_eq_true, if_true, if_false, Int.toNat_one, Bool.not_not])
    (refine Holds.drawnQ (by rw [hP]; kernel_rfl) (by kernel_rfl) ?_; simp (maxSteps := 1000000) only [push_cast, reduceCtorEq, Nat.reduceAdd, Nat.reduceMul, Nat.reduceSub, Nat.reduceBEq, Nat.reduceGT, Nat.reduceLT, Int.toNat_zero, Nat.reduceLeDiff, Int.reduceEq, Int.reduceLT, Int.reduceLE, hP, hΓ, hL, hfin, String.reduceEq, not_false_eq_true, if_true, if_false, Int.toNat_one, Bool.not_not, h55, cnD])
    refine ⟨⟨rfl, by omega, by omega⟩, by rw [show cnds.length = 16 from rfl]; omega, by omega, by omega, ?_⟩
    ((first | with_reducible refine holds_of_ex X 400 _ _ _ ?_ | skip); simp (maxSteps := 1000000) only [push_cast, reduceCtorEq, Nat.reduceAdd, Nat.reduceMul, Nat.reduceSub, Nat.reduceBEq, Nat.reduceGT, Nat.reduceLT, Int.toNat_zero, Nat.reduceLeDiff, Int.reduceEq, Int.reduceLT, Int.reduceLE, hP, hΓ, hL, hfin, String.reduceEq, not_false_eq_true, if_true, if_false, Int.toNat_one, Bool.not_not, h29, hc2, and_self])
    refine ⟨by omega, ?_⟩
    exact Into.one (congrArg AV.str (by simp [sep])) rfl
  · (intro X hP hΓ hL hfin; refine ⟨_, rfl, ?_⟩; rw [show Tryz.f28.ntmps = 35 from rfl]; rw [show Tryz.f28.results.toList = [.tmp 4] from rfl] at hfin; apply holds_of_ex X 400; simp (maxSteps := 1000000) only [push_cast, reduceCtorEq, Nat.reduceAdd, Nat.reduceMul, Nat.reduceSub, Nat.reduceBEq, Nat.reduceGT, Nat.reduceLT, Int.toNat_zero, Nat.reduceLeDiff, Int.reduceEq, Int.reduceLT, Int.reduceLE, hP, hΓ, hL, hfin, String.reduceEq, not_false_eq_true, if_true, if_false, Int.toNat_one, Bool.not_not])
    (refine Holds.drawnQ (by rw [hP]; kernel_rfl) (by kernel_rfl) ?_; simp (maxSteps := 1000000) only [push_cast, reduceCtorEq, Nat.reduceAdd, Nat.reduceMul, Nat.reduceSub, Nat.reduceBEq, Nat.reduceGT, Nat.reduceLT, Int.toNat_zero, Nat.reduceLeDiff, Int.reduceEq, Int.reduceLT, Int.reduceLE, hP, hΓ, hL, hfin, String.reduceEq, not_false_eq_true, if_true, if_false, Int.toNat_one, Bool.not_not, h55, cnD])
    refine ⟨⟨rfl, by omega, by omega⟩, by rw [show cnds.length = 16 from rfl]; omega, by omega, by omega, ?_⟩
    ((first | with_reducible refine holds_of_ex X 400 _ _ _ ?_ | skip); simp (maxSteps := 1000000) only [push_cast, reduceCtorEq, Nat.reduceAdd, Nat.reduceMul, Nat.reduceSub, Nat.reduceBEq, Nat.reduceGT, Nat.reduceLT, Int.toNat_zero, Nat.reduceLeDiff, Int.reduceEq, Int.reduceLT, Int.reduceLE, hP, hΓ, hL, hfin, String.reduceEq, not_false_eq_true, if_true, if_false, Int.toNat_one, Bool.not_not, h29, hc2, and_self])
    refine ⟨by omega, ?_⟩
    exact Into.one (congrArg AV.str (by simp [sep])) rfl
  · (intro X hP hΓ hL hfin; refine ⟨_, rfl, ?_⟩; rw [show Tryz.f28.ntmps = 35 from rfl]; rw [show Tryz.f28.results.toList = [.tmp 4] from rfl] at hfin; apply holds_of_ex X 400; simp (maxSteps := 1000000) only [push_cast, reduceCtorEq, Nat.reduceAdd, Nat.reduceMul, Nat.reduceSub, Nat.reduceBEq, Nat.reduceGT, Nat.reduceLT, Int.toNat_zero, Nat.reduceLeDiff, Int.reduceEq, Int.reduceLT, Int.reduceLE, hP, hΓ, hL, hfin, String.reduceEq, not_false_eq_true, if_true, if_false, Int.toNat_one, Bool.not_not])
    (refine Holds.drawnQ (by rw [hP]; kernel_rfl) (by kernel_rfl) ?_; simp (maxSteps := 1000000) only [push_cast, reduceCtorEq, Nat.reduceAdd, Nat.reduceMul, Nat.reduceSub, Nat.reduceBEq, Nat.reduceGT, Nat.reduceLT, Int.toNat_zero, Nat.reduceLeDiff, Int.reduceEq, Int.reduceLT, Int.reduceLE, hP, hΓ, hL, hfin, String.reduceEq, not_false_eq_true, if_true, if_false, Int.toNat_one, Bool.not_not, h55, cnD])
    refine ⟨⟨rfl, by omega, by omega⟩, by rw [show cnds.length = 16 from rfl]; omega, by omega, by omega, ?_⟩
    ((first | with_reducible refine holds_of_ex X 400 _ _ _ ?_ | skip); simp (maxSteps := 1000000) only [push_cast, reduceCtorEq, Nat.reduceAdd, Nat.reduceMul, Nat.reduceSub, Nat.reduceBEq, Nat.reduceGT, Nat.reduceLT, Int.toNat_zero, Nat.reduceLeDiff, Int.reduceEq, Int.reduceLT, Int.reduceLE, hP, hΓ, hL, hfin, String.reduceEq, not_false_eq_true, if_true, if_false, Int.toNat_one, Bool.not_not, h30, w1, w2, w3, hx2, and_self])
    refine ⟨by omega, ?_⟩
    exact Into.one (congrArg AV.str (by simp [sep])) rfl
  · (intro X hP hΓ hL hfin; refine ⟨_, rfl, ?_⟩; rw [show Tryz.f28.ntmps = 35 from rfl]; rw [show Tryz.f28.results.toList = [.tmp 4] from rfl] at hfin; apply holds_of_ex X 400; simp (maxSteps := 1000000) only [push_cast, reduceCtorEq, Nat.reduceAdd, Nat.reduceMul, Nat.reduceSub, Nat.reduceBEq, Nat.reduceGT, Nat.reduceLT, Int.toNat_zero, Nat.reduceLeDiff, Int.reduceEq, Int.reduceLT, Int.reduceLE, hP, hΓ, hL, hfin, String.reduceEq, not_false_eq_true, if_true, if_false, Int.toNat_one, Bool.not_not])
    (refine Holds.drawnQ (by rw [hP]; kernel_rfl) (by kernel_rfl) ?_; simp (maxSteps := 1000000) only [push_cast, reduceCtorEq, Nat.reduceAdd, Nat.reduceMul, Nat.reduceSub, Nat.reduceBEq, Nat.reduceGT, Nat.reduceLT, Int.toNat_zero, Nat.reduceLeDiff, Int.reduceEq, Int.reduceLT, Int.reduceLE, hP, hΓ, hL, hfin, String.reduceEq, not_false_eq_true, if_true, if_false, Int.toNat_one, Bool.not_not, h55, cnD])
    refine ⟨⟨rfl, by omega, by omega⟩, by rw [show cnds.length = 16 from rfl]; omega, by omega, by omega, ?_⟩
    ((first | with_reducible refine holds_of_ex X 400 _ _ _ ?_ | skip); simp (maxSteps := 1000000) only [push_cast, reduceCtorEq, Nat.reduceAdd, Nat.reduceMul, Nat.reduceSub, Nat.reduceBEq, Nat.reduceGT, Nat.reduceLT, Int.toNat_zero, Nat.reduceLeDiff, Int.reduceEq, Int.reduceLT, Int.reduceLE, hP, hΓ, hL, hfin, String.reduceEq, not_false_eq_true, if_true, if_false, Int.toNat_one, Bool.not_not, h30, w1, w2, w3, hx2, and_self])
    refine ⟨by omega, ?_⟩
    exact Into.one (congrArg AV.str (by simp [sep])) rfl
theorem con28 {Γ : Env} (h : EnvOk Tryz.prog Γ) (h29 : Γ 29 = some S29) (h30 : Γ 30 = some S30) (h55 : Γ 55 = some S55) : Con Tryz.prog 28 S28 :=
  funS_con h (fn := Tryz.f28) (by kernel_rfl) rfl (by kernel_rfl) inj28 (by first | (intro h; cases h; done) | exact fun _ _ => rfl) fun ⟨f, u, v, a, b, op, c, n, at_⟩ h => body28 Γ h29 h30 h55 f u v a b op c n at_ h.1 h.2.1 h.2.2.1 h.2.2.2
end Go.Proofs.YtgemeilncdmapaaGreatDoor.asmDone
end
section
namespace Go.Proofs.YtgemeilncdmapaaGreatDoor.asmDone
open Go Go.Eng Go.Proofs Go.RowKit
open Go.Asm (mayB in16 rightB laid sx In flds rightI laidI decB laid_lo ops cnds opT cnT regT sufT nameT hexC hexT sep lastT insT showF)
set_option linter.unusedVariables false
set_option linter.unusedSimpArgs false
set_option maxRecDepth 100000
set_option maxHeartbeats 4000000
structure Lim (f : Int) (u v : Bool) (a b op c n : Int) : Prop where
  a : 0 ≤ a ∧ a ≤ 15
  b : 0 ≤ b ∧ b ≤ 15
  c : 0 ≤ c ∧ c ≤ 15
  op : 0 ≤ op ∧ op ≤ 15
  n : -9999999999 ≤ n ∧ n ≤ 9999999999
  f : 0 ≤ f ∧ f ≤ 3
theorem lim_of {f : Int} {u v : Bool} {a b op c n : Int} (hr : rightB f u v a b op c n = true) : Lim f u v a b op c n := by
  have hr' := hr
  simp only [rightB, in16, Bool.and_eq_true, decide_eq_true_eq] at hr'
  obtain ⟨⟨⟨ha, hb⟩, hc⟩, hq⟩ := hr'
  by_cases f0 : f = 0
  · rw [if_pos f0, Bool.and_eq_true, decide_eq_true_eq] at hq
    exact ⟨ha, hb, hc, Go.Asm.may_op hq.2, by omega, by omega⟩
  by_cases f1 : f = 1
  · rw [if_neg f0, if_pos f1, Bool.and_eq_true] at hq
    obtain ⟨h1, h2⟩ := hq
    simp only [Bool.and_eq_true, decide_eq_true_eq] at h1
    exact ⟨ha, hb, hc, Go.Asm.may_op h2, by omega, by omega⟩
  by_cases f2 : f = 2
  · rw [if_neg f0, if_neg f1, if_pos f2] at hq; simp only [Bool.and_eq_true, decide_eq_true_eq] at hq
    exact ⟨ha, hb, hc, by omega, by omega, by omega⟩
  by_cases f3 : f = 3
  · rw [if_neg f0, if_neg f1, if_neg f2, if_pos f3] at hq; simp only [Bool.and_eq_true, decide_eq_true_eq] at hq
    refine ⟨ha, hb, hc, by omega, ?_, by omega⟩
    cases u
    · simp only [Bool.false_eq_true, if_false, decide_eq_true_eq] at hq; omega
    · simp only [if_true, Bool.and_eq_true, decide_eq_true_eq] at hq; omega
  rw [if_neg f0, if_neg f1, if_neg f2, if_neg f3] at hq; cases hq
theorem ins3 (u v : Bool) (a b op c n at_ : Int) : insT ⟨3, u, v, a, b, op, c, n⟩ at_ = brT u v a c n at_ := rfl
theorem ins2 (u v : Bool) (a b op c n at_ : Int) : insT ⟨2, u, v, a, b, op, c, n⟩ at_ = nameT 2 u v op ++ (32 :: (regT a ++ (sep ++ (regT b ++ (sep ++ Lib.itoa n))))) := rfl
theorem insR {f : Int} {u v : Bool} {a b op c n at_ : Int} (hf : f = 0 ∨ f = 1) : insT ⟨f, u, v, a, b, op, c, n⟩ at_ = if op = 15 then nameT f u v 15 ++ (32 :: Lib.itoa n) else if op = 0 then movT f u v a c n else nameT f u v op ++ (32 :: (regT a ++ (sep ++ (regT b ++ (sep ++ lastT f c n))))) := by
  unfold insT
  simp only
  rw [if_neg (by omega), if_neg (by omega)]
  split
  · rename_i h; rw [h]
  by_cases h0 : op = 0
  · subst h0
    rw [if_neg (by decide), if_pos rfl, movT]
  · rw [if_pos h0, if_neg h0]
theorem trap_name {f : Int} {u v : Bool} {a b c n : Int} (hf : f = 0 ∨ f = 1) (hr : rightB f u v a b 15 c n = true) : nameT f u v 15 = [84, 82, 65, 80] := by
  have hm : mayB f u v a b 15 c = true := by
    simp only [rightB, Bool.and_eq_true] at hr
    rcases hf with rfl | rfl
    · have := hr.2; rw [if_pos rfl, Bool.and_eq_true] at this; exact this.2
    · have := hr.2; rw [if_neg (by decide), if_pos rfl, Bool.and_eq_true] at this; exact this.2
  rw [mayB, if_neg (by omega), if_pos rfl] at hm
  simp only [Bool.and_eq_true, decide_eq_true_eq, Bool.not_eq_true'] at hm
  obtain ⟨⟨⟨⟨rfl, rfl⟩, rfl⟩, rfl⟩, rfl⟩ := hm
  rfl
def e10 : (Int) × (Int) → List AV := fun (w, at_) => [.int .u32 w, .int .u32 at_]
def p10 : (Int) × (Int) → Prop := fun (w, at_) => (0 ≤ w ∧ w < 4294967296) ∧ (0 ≤ at_ ∧ at_ < 4294967296)
def r10 : (Int) × (Int) → AV := fun (w, at_) => .str (showF w at_)
def g10 : (Int) × (Int) → Heap := fun (w, at_) => []
theorem inj10 : ∀ a b, e10 a = e10 b → a = b := by
  rintro ⟨w, at_⟩ ⟨w', at_'⟩ h
  simp only [e10, mi_iff, ms_iff, mb_iff, my_iff, UInt8.toNat_inj, List.cons.injEq, AV.int.injEq, AV.str.injEq, AV.bool.injEq, AV.sl.injEq, AV.agg.injEq, AV.ip.injEq, AV.fn.injEq, AV.ifc.injEq, AV.mpr.injEq, Int.natCast_inj, and_true, true_and] at h
  simp_all only
noncomputable def S10 : FSpec := funS e10 p10 r10 g10 true
theorem ps10 (w : (Int)) (at_ : (Int)) : psel e10 p10 [.int .u32 w, .int .u32 at_] = ((0 ≤ w ∧ w < 4294967296) ∧ (0 ≤ at_ ∧ at_ < 4294967296)) := psel_at inj10 p10 (w, at_)
theorem rs10 (w : (Int)) (at_ : (Int)) : rsel e10 r10 .any [.int .u32 w, .int .u32 at_] = (.str (showF w at_)) := rsel_at inj10 r10 .any (w, at_)
theorem hs10 (w : (Int)) (at_ : (Int)) : rsel e10 g10 [] [.int .u32 w, .int .u32 at_] = ([]) := rsel_at inj10 g10 [] (w, at_)
attribute [push_cast] S10 ps10 rs10 hs10
theorem body10 (Γ : Env) (h26 : Γ 26 = some S26) (h27 : Γ 27 = some S27) (h28 : Γ 28 = some S28) (h29 : Γ 29 = some S29) (h30 : Γ 30 = some S30) (h31 : Γ 31 = some S31) (h32 : Γ 32 = some S32) (h33 : Γ 33 = some S33) (h34 : Γ 34 = some S34) (w at_ : Int) (hw : 0 ≤ w ∧ w < 4294967296) (hat : 0 ≤ at_ ∧ at_ < 4294967296) : BodyOk Tryz.prog Γ Tryz.f10 [.int .u32 w, .int .u32 at_] [] (.str (showF w at_)) [] := by
  cases hd : decB w with
  | none =>
    have hl := Go.Asm.hex_len w
    rw [showF, hd]
    (intro X hP hΓ hL hfin; refine ⟨_, rfl, ?_⟩; rw [show Tryz.f10.ntmps = 88 from rfl]; rw [show Tryz.f10.results.toList = [.tmp 4] from rfl] at hfin; apply holds_of_ex X 400; simp (maxSteps := 1000000) only [push_cast, reduceCtorEq, Nat.reduceAdd, Nat.reduceMul, Nat.reduceSub, Nat.reduceBEq, Nat.reduceGT, Nat.reduceLT, Int.toNat_zero, Nat.reduceLeDiff, Int.reduceEq, Int.reduceLT, Int.reduceLE, hP, hΓ, hL, hfin, String.reduceEq, not_false_eq_true, if_true, if_false, Int.toNat_one, Bool.not_not, Option.getD_some, Option.getD_none, Option.isSome_some, Option.isSome_none, agI_mk, h26, h27, hd, hw, and_self, z0])
    exact ⟨by omega, Into.one rfl rfl⟩
  | some i =>
    obtain ⟨f, u, v, a, b, op, c, n⟩ := i
    have hr : rightB f u v a b op c n = true := (Go.Asm.dec_is hd).1
    obtain ⟨ha, hb, hc, hop, hn, hf⟩ := lim_of hr
    rw [show showF w at_ = insT ⟨f, u, v, a, b, op, c, n⟩ at_ by rw [showF, hd]]
    have la := reg_len ha
    have lb := reg_len hb
    have ln := itoa_len n hn
    have ll := last_len (f := f) hc hn
    have ls := suf_len u v
    have lo := op_len op
    have ha2 : -9999999999 ≤ a ∧ a ≤ 9999999999 := by omega
    have hb2 : -9999999999 ≤ b ∧ b ≤ 9999999999 := by omega
    by_cases f3 : f = 3
    · subst f3
      rw [ins3]
      (intro X hP hΓ hL hfin; refine ⟨_, rfl, ?_⟩; rw [show Tryz.f10.ntmps = 88 from rfl]; rw [show Tryz.f10.results.toList = [.tmp 4] from rfl] at hfin; apply holds_of_ex X 400; simp (maxSteps := 1000000) only [push_cast, reduceCtorEq, Nat.reduceAdd, Nat.reduceMul, Nat.reduceSub, Nat.reduceBEq, Nat.reduceGT, Nat.reduceLT, Int.toNat_zero, Nat.reduceLeDiff, Int.reduceEq, Int.reduceLT, Int.reduceLE, hP, hΓ, hL, hfin, String.reduceEq, not_false_eq_true, if_true, if_false, Int.toNat_one, Bool.not_not, Option.getD_some, Option.getD_none, Option.isSome_some, Option.isSome_none, agI_mk, h26, h28, hd, hw, ha, hc, hn, hat, and_self])
      exact Into.one rfl rfl
    by_cases f2 : f = 2
    · subst f2
      rw [ins2]
      cases u <;> cases v
      all_goals
        (intro X hP hΓ hL hfin; refine ⟨_, rfl, ?_⟩; rw [show Tryz.f10.ntmps = 88 from rfl]; rw [show Tryz.f10.results.toList = [.tmp 4] from rfl] at hfin; apply holds_of_ex X 400; simp (maxSteps := 1000000) only [push_cast, reduceCtorEq, Nat.reduceAdd, Nat.reduceMul, Nat.reduceSub, Nat.reduceBEq, Nat.reduceGT, Nat.reduceLT, Int.toNat_zero, Nat.reduceLeDiff, Int.reduceEq, Int.reduceLT, Int.reduceLE, hP, hΓ, hL, hfin, String.reduceEq, not_false_eq_true, if_true, if_false, Int.toNat_one, Bool.not_not, Option.getD_some, Option.getD_none, Option.isSome_some, Option.isSome_none, agI_mk, h26, hd, hw, and_self])
        (refine Holds.drawnQ (by rw [hP]; kernel_rfl) (by kernel_rfl) ?_; simp (maxSteps := 1000000) only [push_cast, reduceCtorEq, Nat.reduceAdd, Nat.reduceMul, Nat.reduceSub, Nat.reduceBEq, Nat.reduceGT, Nat.reduceLT, Int.toNat_zero, Nat.reduceLeDiff, Int.reduceEq, Int.reduceLT, Int.reduceLE, hP, hΓ, hL, hfin, String.reduceEq, not_false_eq_true, if_true, if_false, Int.toNat_one, Bool.not_not, Option.getD_some, Option.getD_none, Option.isSome_some, Option.isSome_none, agI_mk, h29, h30, ha2, hb2, hn, and_self])
        refine ⟨by omega, by omega, by omega, by omega, by omega, ?_⟩
        exact Into.one (congrArg AV.str (by simp [sep, nameT])) rfl
    have hfr : f = 0 ∨ f = 1 := by omega
    rw [insR hfr]
    by_cases o15 : op = 15
    · subst o15
      rw [if_pos rfl]
      (intro X hP hΓ hL hfin; refine ⟨_, rfl, ?_⟩; rw [show Tryz.f10.ntmps = 88 from rfl]; rw [show Tryz.f10.results.toList = [.tmp 4] from rfl] at hfin; apply holds_of_ex X 400; simp (maxSteps := 1000000) only [push_cast, reduceCtorEq, Nat.reduceAdd, Nat.reduceMul, Nat.reduceSub, Nat.reduceBEq, Nat.reduceGT, Nat.reduceLT, Int.toNat_zero, Nat.reduceLeDiff, Int.reduceEq, Int.reduceLT, Int.reduceLE, hP, hΓ, hL, hfin, String.reduceEq, not_false_eq_true, if_true, if_false, Int.toNat_one, Bool.not_not, Option.getD_some, Option.getD_none, Option.isSome_some, Option.isSome_none, agI_mk, h26, h30, hd, hw, hn, f3, f2, and_self])
      refine ⟨by omega, ?_⟩
      rw [trap_name hfr hr]
      exact Into.one rfl rfl
    rw [if_neg o15]
    by_cases o0 : op = 0
    · subst o0
      rw [if_pos rfl]
      (intro X hP hΓ hL hfin; refine ⟨_, rfl, ?_⟩; rw [show Tryz.f10.ntmps = 88 from rfl]; rw [show Tryz.f10.results.toList = [.tmp 4] from rfl] at hfin; apply holds_of_ex X 400; simp (maxSteps := 1000000) only [push_cast, reduceCtorEq, Nat.reduceAdd, Nat.reduceMul, Nat.reduceSub, Nat.reduceBEq, Nat.reduceGT, Nat.reduceLT, Int.toNat_zero, Nat.reduceLeDiff, Int.reduceEq, Int.reduceLT, Int.reduceLE, hP, hΓ, hL, hfin, String.reduceEq, not_false_eq_true, if_true, if_false, Int.toNat_one, Bool.not_not, Option.getD_some, Option.getD_none, Option.isSome_some, Option.isSome_none, agI_mk, h26, h31, hd, hw, hn, ha, hc, hfr, f3, f2, and_self])
      exact Into.one rfl rfl
    rw [if_neg o0]
    have opD : ops.getD op.toNat default = opT op := rfl
    (intro X hP hΓ hL hfin; refine ⟨_, rfl, ?_⟩; rw [show Tryz.f10.ntmps = 88 from rfl]; rw [show Tryz.f10.results.toList = [.tmp 4] from rfl] at hfin; apply holds_of_ex X 400; simp (maxSteps := 1000000) only [push_cast, reduceCtorEq, Nat.reduceAdd, Nat.reduceMul, Nat.reduceSub, Nat.reduceBEq, Nat.reduceGT, Nat.reduceLT, Int.toNat_zero, Nat.reduceLeDiff, Int.reduceEq, Int.reduceLT, Int.reduceLE, hP, hΓ, hL, hfin, String.reduceEq, not_false_eq_true, if_true, if_false, Int.toNat_one, Bool.not_not, Option.getD_some, Option.getD_none, Option.isSome_some, Option.isSome_none, agI_mk, h26, hd, hw, f3, f2, o15, o0, and_self])
    (refine Holds.drawnQ (by rw [hP]; kernel_rfl) (by kernel_rfl) ?_; simp (maxSteps := 1000000) only [push_cast, reduceCtorEq, Nat.reduceAdd, Nat.reduceMul, Nat.reduceSub, Nat.reduceBEq, Nat.reduceGT, Nat.reduceLT, Int.toNat_zero, Nat.reduceLeDiff, Int.reduceEq, Int.reduceLT, Int.reduceLE, hP, hΓ, hL, hfin, String.reduceEq, not_false_eq_true, if_true, if_false, Int.toNat_one, Bool.not_not, Option.getD_some, Option.getD_none, Option.isSome_some, Option.isSome_none, agI_mk, h29, h32, h33, h34, opD, ha2, hb2, hc, hn, and_self])
    refine ⟨⟨rfl, by omega, by omega⟩, by rw [show ops.length = 16 from rfl]; omega, by omega, by omega, by omega, by omega, by omega, by omega, by omega, ?_⟩
    refine Into.one (congrArg AV.str ?_) rfl
    rw [nameT, if_neg f2, if_neg (fun h => o0 h.2.1)]
    simp [sep]
theorem con10 {Γ : Env} (h : EnvOk Tryz.prog Γ) (h26 : Γ 26 = some S26) (h27 : Γ 27 = some S27) (h28 : Γ 28 = some S28) (h29 : Γ 29 = some S29) (h30 : Γ 30 = some S30) (h31 : Γ 31 = some S31) (h32 : Γ 32 = some S32) (h33 : Γ 33 = some S33) (h34 : Γ 34 = some S34) : Con Tryz.prog 10 S10 :=
  funS_con h (fn := Tryz.f10) (by kernel_rfl) rfl (by kernel_rfl) inj10 (by first | (intro h; cases h; done) | exact fun _ _ => rfl) fun ⟨w, at_⟩ h => body10 Γ h26 h27 h28 h29 h30 h31 h32 h33 h34 w at_ h.1 h.2
end Go.Proofs.YtgemeilncdmapaaGreatDoor.asmDone
end
section
namespace Go.Proofs.YtgemeilncdmapaaGreatDoor.asmDone
open Go Go.Eng Go.Proofs Go.RowKit
open Go.Asm (mayB in16 rightB laid sx In flds rightI laidI decB laid_lo ops cnds opT cnT regT sufT nameT hexC hexT sep lastT insT showF joinT)
set_option linter.unusedVariables false
set_option linter.unusedSimpArgs false
set_option maxRecDepth 100000
set_option maxHeartbeats 4000000
theorem join_T : ∀ l : List (List UInt8), Lib.join l [44, 32] = joinT l
  | [] => rfl
  | [x] => Lib.join_one x _
  | x :: y :: r => by
    have := join_T (y :: r)
    rw [Lib.join_cons] at this
    rw [Lib.join_cons, joinT, ← this]
    simp [Lib.joinTail, sep]
theorem str_vals {m : Mem} {L : Heap} : ∀ {l : List (List UInt8)} {us : List Value}, CRel m L (l.map AV.str) us → us = l.map fun s => Value.string ⟨s.toArray⟩
  | [], us, h => by simpa [CRel] using h
  | s :: l, us, h => by
    simp only [List.map_cons, CRel, VRel] at h
    obtain ⟨u, us', rfl, rfl, h⟩ := h
    rw [str_vals h]; rfl
def e25 : (List (List UInt8)) → List AV := fun l => [.sl (l.map AV.str) l.length, .str [44, 32]]
def p25 : (List (List UInt8)) → Prop := fun l => l ≠ [] ∧ (joinT l).length ≤ 4194304 ∧ l.length ≤ 4194304
def r25 : (List (List UInt8)) → AV := fun l => .str (joinT l)
def g25 : (List (List UInt8)) → Heap := fun l => []
theorem inj25 : ∀ a b, e25 a = e25 b → a = b := by
  rintro l l' h
  simp only [e25, mi_iff, ms_iff, mb_iff, my_iff, UInt8.toNat_inj, List.cons.injEq, AV.int.injEq, AV.str.injEq, AV.bool.injEq, AV.sl.injEq, AV.agg.injEq, AV.ip.injEq, AV.fn.injEq, AV.ifc.injEq, AV.mpr.injEq, Int.natCast_inj, and_true, true_and] at h
  simp_all only
noncomputable def S25 : FSpec := funS e25 p25 r25 g25 true
theorem ps25 (l : (List (List UInt8))) : psel e25 p25 [.sl (l.map AV.str) l.length, .str [44, 32]] = (l ≠ [] ∧ (joinT l).length ≤ 4194304 ∧ l.length ≤ 4194304) := psel_at inj25 p25 l
theorem rs25 (l : (List (List UInt8))) : rsel e25 r25 .any [.sl (l.map AV.str) l.length, .str [44, 32]] = (.str (joinT l)) := rsel_at inj25 r25 .any l
theorem hs25 (l : (List (List UInt8))) : rsel e25 g25 [] [.sl (l.map AV.str) l.length, .str [44, 32]] = ([]) := rsel_at inj25 g25 [] l
attribute [push_cast] S25 ps25 rs25 hs25
theorem con25 : Con Tryz.prog 25 S25 := by
  refine funS_below (fn := Tryz.f25) (by kernel_rfl) rfl (by kernel_rfl) inj25 (fun _ => rfl) fun m w l vs hW hx hp => ?_
  obtain ⟨h0, h1, h2⟩ := hp
  simp only [e25, CRel, VRel] at hx
  obtain ⟨_, _, rfl, ⟨a, cap, rfl, hcap, us, hus, hmem⟩, _, _, rfl, rfl, rfl⟩ := hx
  have hv := str_vals hus
  subst hv
  rcases hmem with hmem | ⟨g, o, rfl, hpin⟩
  · exact absurd (by simpa using hmem) h0
  have hcells : ∀ (j : Nat) x, (l.map fun s => (⟨s.toArray⟩ : ByteArray))[j]? = some x → w.cell? ⟨g, o + j, none⟩ = some (.string x) := by
    intro j x hj
    have hj' : (l.map fun s => Value.string ⟨s.toArray⟩)[j]? = some (.string x) := by
      rw [List.getElem?_map] at hj ⊢
      cases hl : l[j]? with
      | none => rw [hl] at hj; cases hj
      | some s => rw [hl] at hj; cases hj; rfl
    exact hW.pins _ _ _ (hpin j _ hj')
  have hg : g < w.heap.size := by
    obtain ⟨s, r, rfl⟩ := List.exists_cons_of_ne_nil h0
    have := hcells 0 _ rfl
    unfold World.cell? at this
    rcases Nat.lt_or_ge g w.heap.size with h | h
    · exact h
    · simp [Array.getElem?_eq_none h] at this
  have e1 : (l.map fun s => (⟨s.toArray⟩ : ByteArray)).map (·.data.toList) = l := by
    rw [List.map_map]
    conv => rhs; rw [← List.map_id l]
    apply List.map_congr_left
    intro s _
    rfl
  have := Tryz.strings_Join g o cap (l.map fun s => ⟨s.toArray⟩) ⟨#[44, 32]⟩ w hcells hg (by rw [List.length_map]; omega) (by rw [List.length_map]; exact hcap) (by rw [e1, show (⟨#[44, 32]⟩ : ByteArray).data.toList = [44, 32] from rfl, join_T]; omega)
  rw [e1, List.length_map, show (⟨#[44, 32]⟩ : ByteArray).data.toList = [44, 32] from rfl, join_T] at this
  refine Calls.mono this ?_
  rintro e w' ⟨rfl, hb⟩
  refine ⟨_, rfl, ?_, hb⟩
  simp only [r25, VRel]
theorem ps25_1 (x : List UInt8) : psel e25 p25 [.sl [.str x] 1, .str [44, 32]] = (([x] ≠ []) ∧ (joinT [x]).length ≤ 4194304 ∧ [x].length ≤ 4194304) := ps25 [x]
theorem rs25_1 (x : List UInt8) : rsel e25 r25 .any [.sl [.str x] 1, .str [44, 32]] = .str (joinT [x]) := rs25 [x]
theorem hs25_1 (x : List UInt8) : rsel e25 g25 [] [.sl [.str x] 1, .str [44, 32]] = [] := hs25 [x]
theorem ps25_2 (x y : List UInt8) : psel e25 p25 [.sl [.str x, .str y] 2, .str [44, 32]] = (([x, y] ≠ []) ∧ (joinT [x, y]).length ≤ 4194304 ∧ [x, y].length ≤ 4194304) := ps25 [x, y]
theorem rs25_2 (x y : List UInt8) : rsel e25 r25 .any [.sl [.str x, .str y] 2, .str [44, 32]] = .str (joinT [x, y]) := rs25 [x, y]
theorem hs25_2 (x y : List UInt8) : rsel e25 g25 [] [.sl [.str x, .str y] 2, .str [44, 32]] = [] := hs25 [x, y]
theorem ps25_3 (x y z : List UInt8) : psel e25 p25 [.sl [.str x, .str y, .str z] 3, .str [44, 32]] = (([x, y, z] ≠ []) ∧ (joinT [x, y, z]).length ≤ 4194304 ∧ [x, y, z].length ≤ 4194304) := ps25 [x, y, z]
theorem rs25_3 (x y z : List UInt8) : rsel e25 r25 .any [.sl [.str x, .str y, .str z] 3, .str [44, 32]] = .str (joinT [x, y, z]) := rs25 [x, y, z]
theorem hs25_3 (x y z : List UInt8) : rsel e25 g25 [] [.sl [.str x, .str y, .str z] 3, .str [44, 32]] = [] := hs25 [x, y, z]
def e19 : (Int) → List AV := fun n => [.int .i64 n]
def p19 : (Int) → Prop := fun n => -9999999999 ≤ n ∧ n ≤ 9999999999
def r19 : (Int) → AV := fun n => .str (regT n)
def g19 : (Int) → Heap := fun n => []
theorem inj19 : ∀ a b, e19 a = e19 b → a = b := by
  rintro n n' h
  simp only [e19, mi_iff, ms_iff, mb_iff, my_iff, UInt8.toNat_inj, List.cons.injEq, AV.int.injEq, AV.str.injEq, AV.bool.injEq, AV.sl.injEq, AV.agg.injEq, AV.ip.injEq, AV.fn.injEq, AV.ifc.injEq, AV.mpr.injEq, Int.natCast_inj, and_true, true_and] at h
  simp_all only
noncomputable def S19 : FSpec := funS e19 p19 r19 g19 true
theorem ps19 (n : (Int)) : psel e19 p19 [.int .i64 n] = (-9999999999 ≤ n ∧ n ≤ 9999999999) := psel_at inj19 p19 n
theorem rs19 (n : (Int)) : rsel e19 r19 .any [.int .i64 n] = (.str (regT n)) := rsel_at inj19 r19 .any n
theorem hs19 (n : (Int)) : rsel e19 g19 [] [.int .i64 n] = ([]) := rsel_at inj19 g19 [] n
attribute [push_cast] S19 ps19 rs19 hs19
theorem body19 (Γ : Env) (h23 : Γ 23 = some S23) (n : Int) (h : -9999999999 ≤ n ∧ n ≤ 9999999999) : BodyOk Tryz.prog Γ Tryz.f19 [.int .i64 n] [] (.str (regT n)) [] := by
  have h3 := itoa_len n h
  (intro X hP hΓ hL hfin; refine ⟨_, rfl, ?_⟩; rw [show Tryz.f19.ntmps = 6 from rfl]; rw [show Tryz.f19.results.toList = [.tmp 2] from rfl] at hfin; apply holds_of_ex X 400; simp (maxSteps := 1000000) only [push_cast, reduceCtorEq, Nat.reduceAdd, Nat.reduceMul, Nat.reduceSub, Nat.reduceBEq, Nat.reduceGT, Nat.reduceLT, Int.toNat_zero, Nat.reduceLeDiff, Int.reduceEq, Int.reduceLT, Int.reduceLE, hP, hΓ, hL, hfin, String.reduceEq, not_false_eq_true, if_true, if_false, Int.toNat_one, Bool.not_not, Option.getD_some, Option.getD_none, Option.isSome_some, Option.isSome_none, agI_mk, h23, h, and_self])
  refine ⟨by omega, ?_⟩
  exact Into.one rfl rfl
theorem con19 {Γ : Env} (h : EnvOk Tryz.prog Γ) (h23 : Γ 23 = some S23) : Con Tryz.prog 19 S19 :=
  funS_con h (fn := Tryz.f19) (by kernel_rfl) rfl (by kernel_rfl) inj19 (by first | (intro h; cases h; done) | exact fun _ _ => rfl) fun n h => body19 Γ h23 n h
theorem mem_op {u v : Bool} {a b op c n : Int} (hr : rightB 2 u v a b op c n = true) : op = 0 ∧ c = 0 := by
  simp only [rightB, Bool.and_eq_true] at hr
  have := hr.2
  rw [if_neg (show ¬ (2 : Int) = 0 by decide), if_neg (show ¬ (2 : Int) = 1 by decide), if_pos True.intro] at this
  simp only [Bool.and_eq_true, decide_eq_true_eq] at this
  omega
theorem j1 (x : List UInt8) : joinT [x] = x := rfl
theorem j2 (x y : List UInt8) : joinT [x, y] = x ++ ([44, 32] ++ y) := rfl
theorem j3 (x y z : List UInt8) : joinT [x, y, z] = x ++ ([44, 32] ++ (y ++ ([44, 32] ++ z))) := rfl
theorem trap_f {f : Int} {u v : Bool} {a b c n : Int} (hf : f = 0 ∨ f = 1) (hr : rightB f u v a b 15 c n = true) : f = 1 ∧ u = false ∧ v = false := by
  have hm : mayB f u v a b 15 c = true := by
    simp only [rightB, Bool.and_eq_true] at hr
    rcases hf with rfl | rfl
    · have := hr.2; rw [if_pos rfl, Bool.and_eq_true] at this; exact this.2
    · have := hr.2; rw [if_neg (by decide), if_pos rfl, Bool.and_eq_true] at this; exact this.2
  rw [mayB, if_neg (by omega), if_pos rfl] at hm
  simp only [Bool.and_eq_true, decide_eq_true_eq, Bool.not_eq_true'] at hm
  exact ⟨hm.1.1.1.1, hm.1.1.1.2, hm.1.1.2⟩
def e9 : (Int) × (Int) → List AV := fun (w, at_) => [.int .u32 w, .int .u32 at_]
def p9 : (Int) × (Int) → Prop := fun (w, at_) => (0 ≤ w ∧ w < 4294967296) ∧ (0 ≤ at_ ∧ at_ < 4294967296)
def r9 : (Int) × (Int) → AV := fun (w, at_) => .str (showF w at_)
def g9 : (Int) × (Int) → Heap := fun (w, at_) => []
theorem inj9 : ∀ a b, e9 a = e9 b → a = b := by
  rintro ⟨w, at_⟩ ⟨w', at_'⟩ h
  simp only [e9, mi_iff, ms_iff, mb_iff, my_iff, UInt8.toNat_inj, List.cons.injEq, AV.int.injEq, AV.str.injEq, AV.bool.injEq, AV.sl.injEq, AV.agg.injEq, AV.ip.injEq, AV.fn.injEq, AV.ifc.injEq, AV.mpr.injEq, Int.natCast_inj, and_true, true_and] at h
  simp_all only
noncomputable def S9 : FSpec := funS e9 p9 r9 g9 true
theorem ps9 (w : (Int)) (at_ : (Int)) : psel e9 p9 [.int .u32 w, .int .u32 at_] = ((0 ≤ w ∧ w < 4294967296) ∧ (0 ≤ at_ ∧ at_ < 4294967296)) := psel_at inj9 p9 (w, at_)
theorem rs9 (w : (Int)) (at_ : (Int)) : rsel e9 r9 .any [.int .u32 w, .int .u32 at_] = (.str (showF w at_)) := rsel_at inj9 r9 .any (w, at_)
theorem hs9 (w : (Int)) (at_ : (Int)) : rsel e9 g9 [] [.int .u32 w, .int .u32 at_] = ([]) := rsel_at inj9 g9 [] (w, at_)
attribute [push_cast] S9 ps9 rs9 hs9
theorem body9 (Γ : Env) (h17 : Γ 17 = some S17) (h18 : Γ 18 = some S18) (h19 : Γ 19 = some S19) (h20 : Γ 20 = some S20) (h21 : Γ 21 = some S21) (h22 : Γ 22 = some S22) (h23 : Γ 23 = some S23) (h24 : Γ 24 = some S24) (h25 : Γ 25 = some S25) (w at_ : Int) (hw : 0 ≤ w ∧ w < 4294967296) (hat : 0 ≤ at_ ∧ at_ < 4294967296) : BodyOk Tryz.prog Γ Tryz.f9 [.int .u32 w, .int .u32 at_] [] (.str (showF w at_)) [] := by
  cases hd : decB w with
  | none =>
    have hl := Go.Asm.hex_len w
    rw [showF, hd]
    (intro X hP hΓ hL hfin; refine ⟨_, rfl, ?_⟩; rw [show Tryz.f9.ntmps = 104 from rfl]; rw [show Tryz.f9.results.toList = [.tmp 4] from rfl] at hfin; apply holds_of_ex X 400; simp (maxSteps := 1000000) only [push_cast, reduceCtorEq, Nat.reduceAdd, Nat.reduceMul, Nat.reduceSub, Nat.reduceBEq, Nat.reduceGT, Nat.reduceLT, Int.toNat_zero, Nat.reduceLeDiff, Int.reduceEq, Int.reduceLT, Int.reduceLE, hP, hΓ, hL, hfin, String.reduceEq, not_false_eq_true, if_true, if_false, Int.toNat_one, Bool.not_not, Option.getD_some, Option.getD_none, Option.isSome_some, Option.isSome_none, agI_mk, h17, h18, hd, hw, and_self, z0])
    exact ⟨by omega, Into.one rfl rfl⟩
  | some i =>
    obtain ⟨f, u, v, a, b, op, c, n⟩ := i
    have hr : rightB f u v a b op c n = true := (Go.Asm.dec_is hd).1
    obtain ⟨ha, hb, hc, hop, hn, hf⟩ := lim_of hr
    rw [show showF w at_ = insT ⟨f, u, v, a, b, op, c, n⟩ at_ by rw [showF, hd]]
    have la := reg_len ha
    have lb := reg_len hb
    have lc := reg_len hc
    have lm := name_len f u v op
    have ln := itoa_len n hn
    have ll := last_len (f := f) hc hn
    have lcn := cn_len a
    have ha2 : -9999999999 ≤ a ∧ a ≤ 9999999999 := by omega
    have hb2 : -9999999999 ≤ b ∧ b ≤ 9999999999 := by omega
    have hc2 : -9999999999 ≤ c ∧ c ≤ 9999999999 := by omega
    by_cases f3 : f = 3
    · subst f3
      rw [ins3]
      have w2 : IntKind.u32.wrap (IntKind.u32.wrap (at_ + 4) + IntKind.u32.wrap (IntKind.u32.wrap n * 4)) = (at_ + 4 + n * 4) % 4294967296 := by
        simp only [u32w]; omega
      have hx : 0 ≤ (at_ + 4 + n * 4) % 4294967296 ∧ (at_ + 4 + n * 4) % 4294967296 < 4294967296 := by omega
      rw [brT]
      generalize hX : (at_ + 4 + n * 4) % 4294967296 = x at *
      have w3 : IntKind.u64.wrap x = x := by simp [IntKind.wrap, IntKind.bits, IntKind.signed]; omega
      have hx2 : 0 ≤ x ∧ x ≤ 9999999999 := by omega
      have lx := itoa_len x (by omega)
      cases u <;> cases v
      all_goals
        (intro X hP hΓ hL hfin; refine ⟨_, rfl, ?_⟩; rw [show Tryz.f9.ntmps = 104 from rfl]; rw [show Tryz.f9.results.toList = [.tmp 4] from rfl] at hfin; apply holds_of_ex X 400; simp (maxSteps := 1000000) only [push_cast, reduceCtorEq, Nat.reduceAdd, Nat.reduceMul, Nat.reduceSub, Nat.reduceBEq, Nat.reduceGT, Nat.reduceLT, Int.toNat_zero, Nat.reduceLeDiff, Int.reduceEq, Int.reduceLT, Int.reduceLE, hP, hΓ, hL, hfin, String.reduceEq, not_false_eq_true, if_true, if_false, Int.toNat_one, Bool.not_not, Option.getD_some, Option.getD_none, Option.isSome_some, Option.isSome_none, agI_mk, h17, h19, h20, hd, hw, hc2, w2, w3, hx2, and_self])
        (refine Holds.drawnQ (by rw [hP]; kernel_rfl) (by kernel_rfl) ?_; simp (maxSteps := 1000000) only [push_cast, reduceCtorEq, Nat.reduceAdd, Nat.reduceMul, Nat.reduceSub, Nat.reduceBEq, Nat.reduceGT, Nat.reduceLT, Int.toNat_zero, Nat.reduceLeDiff, Int.reduceEq, Int.reduceLT, Int.reduceLE, hP, hΓ, hL, hfin, String.reduceEq, not_false_eq_true, if_true, if_false, Int.toNat_one, Bool.not_not, Option.getD_some, Option.getD_none, Option.isSome_some, Option.isSome_none, agI_mk, h21, h22, b2t, b2f, ha, and_self])
        exact ⟨by omega, by omega, by omega, by omega, Into.one (congrArg AV.str (by simp [sep])) rfl⟩
    by_cases f2 : f = 2
    · subst f2
      obtain rfl := (mem_op hr).1
      rw [ins2]
      (intro X hP hΓ hL hfin; refine ⟨_, rfl, ?_⟩; rw [show Tryz.f9.ntmps = 104 from rfl]; rw [show Tryz.f9.results.toList = [.tmp 4] from rfl] at hfin; apply holds_of_ex X 400; simp (maxSteps := 1000000) only [push_cast, reduceCtorEq, Nat.reduceAdd, Nat.reduceMul, Nat.reduceSub, Nat.reduceBEq, Nat.reduceGT, Nat.reduceLT, Int.toNat_zero, Nat.reduceLeDiff, Int.reduceEq, Int.reduceLT, Int.reduceLE, hP, hΓ, hL, hfin, String.reduceEq, not_false_eq_true, if_true, if_false, Int.toNat_one, Bool.not_not, Option.getD_some, Option.getD_none, Option.isSome_some, Option.isSome_none, agI_mk, h17, h19, h23, hd, hw, hn, and_self])
      (refine Holds.drawn (extH [.row [.int .i64 2, .bool u, .bool v, .int .i64 a, .int .i64 b, .int .i64 0, .int .i64 c, .int .i64 n] 8 0]) [2, 5, 7] (by rw [hP]; kernel_rfl) (by kernel_rfl) (by kernel_rfl) (by first | exact ⟨_, [], rfl⟩ | exact ⟨_, _, rfl⟩ | (simp only [push_cast]; done) | exact ⟨[], by simp⟩) ?_; simp (maxSteps := 1000000) only [↓reduceIte, Option.getD_some, push_cast, reduceCtorEq, Nat.reduceAdd, Nat.reduceMul, Nat.reduceSub, Nat.reduceBEq, Nat.reduceGT, Nat.reduceLT, Int.toNat_zero, Nat.reduceLeDiff, Int.reduceEq, Int.reduceLT, Int.reduceLE, hP, hΓ, hL, hfin, String.reduceEq, not_false_eq_true, if_true, if_false, Int.toNat_one, Bool.not_not, Option.getD_some, Option.getD_none, Option.isSome_some, Option.isSome_none, agI_mk, h19, ha2, hb2, and_self])
      ((first | with_reducible refine holds_of_ex X 400 _ _ _ ?_ | skip); simp (maxSteps := 1000000) only [push_cast, reduceCtorEq, Nat.reduceAdd, Nat.reduceMul, Nat.reduceSub, Nat.reduceBEq, Nat.reduceGT, Nat.reduceLT, Int.toNat_zero, Nat.reduceLeDiff, Int.reduceEq, Int.reduceLT, Int.reduceLE, hP, hΓ, hL, hfin, String.reduceEq, not_false_eq_true, if_true, if_false, Int.toNat_one, Bool.not_not, Option.getD_some, Option.getD_none, Option.isSome_some, Option.isSome_none, agI_mk, h24, h25, ps25_1, rs25_1, hs25_1, ps25_2, rs25_2, hs25_2, ps25_3, rs25_3, hs25_3, j1, j2, j3, hop, and_self])
      refine ⟨by omega, by omega, by omega, ?_⟩
      exact Into.one (congrArg AV.str (by simp [sep])) rfl
    have hfr : f = 0 ∨ f = 1 := by omega
    rw [insR hfr]
    by_cases o15 : op = 15
    · subst o15
      rw [if_pos rfl]
      obtain ⟨rfl, rfl, rfl⟩ := trap_f hfr hr
      (intro X hP hΓ hL hfin; refine ⟨_, rfl, ?_⟩; rw [show Tryz.f9.ntmps = 104 from rfl]; rw [show Tryz.f9.results.toList = [.tmp 4] from rfl] at hfin; apply holds_of_ex X 400; simp (maxSteps := 1000000) only [push_cast, reduceCtorEq, Nat.reduceAdd, Nat.reduceMul, Nat.reduceSub, Nat.reduceBEq, Nat.reduceGT, Nat.reduceLT, Int.toNat_zero, Nat.reduceLeDiff, Int.reduceEq, Int.reduceLT, Int.reduceLE, hP, hΓ, hL, hfin, String.reduceEq, not_false_eq_true, if_true, if_false, Int.toNat_one, Bool.not_not, Option.getD_some, Option.getD_none, Option.isSome_some, Option.isSome_none, agI_mk, h17, h19, h23, h24, h25, hd, hw, hn, ps25_1, rs25_1, hs25_1, ps25_2, rs25_2, hs25_2, ps25_3, rs25_3, hs25_3, j1, j2, j3, hop, and_self])
      refine ⟨by omega, by omega, by omega, ?_⟩
      exact Into.one (congrArg AV.str (by simp [sep])) rfl
    rw [if_neg o15]
    by_cases o0 : op = 0
    · subst o0
      rw [if_pos rfl]
      rcases hfr with rfl | rfl
      · cases u
        · rw [movT, if_neg (by simp), lastT, if_pos rfl]
          (intro X hP hΓ hL hfin; refine ⟨_, rfl, ?_⟩; rw [show Tryz.f9.ntmps = 104 from rfl]; rw [show Tryz.f9.results.toList = [.tmp 4] from rfl] at hfin; apply holds_of_ex X 400; simp (maxSteps := 1000000) only [push_cast, reduceCtorEq, Nat.reduceAdd, Nat.reduceMul, Nat.reduceSub, Nat.reduceBEq, Nat.reduceGT, Nat.reduceLT, Int.toNat_zero, Nat.reduceLeDiff, Int.reduceEq, Int.reduceLT, Int.reduceLE, hP, hΓ, hL, hfin, String.reduceEq, not_false_eq_true, if_true, if_false, Int.toNat_one, Bool.not_not, Option.getD_some, Option.getD_none, Option.isSome_some, Option.isSome_none, agI_mk, h17, h19, h23, h24, h25, hd, hw, hn, ha2, hc2, ps25_1, rs25_1, hs25_1, ps25_2, rs25_2, hs25_2, ps25_3, rs25_3, hs25_3, j1, j2, j3, hop, and_self])
          refine ⟨by omega, by omega, by omega, ?_⟩
          exact Into.one (congrArg AV.str (by simp [sep])) rfl
        · rw [movT, if_pos ⟨rfl, rfl⟩]
          (intro X hP hΓ hL hfin; refine ⟨_, rfl, ?_⟩; rw [show Tryz.f9.ntmps = 104 from rfl]; rw [show Tryz.f9.results.toList = [.tmp 4] from rfl] at hfin; apply holds_of_ex X 400; simp (maxSteps := 1000000) only [push_cast, reduceCtorEq, Nat.reduceAdd, Nat.reduceMul, Nat.reduceSub, Nat.reduceBEq, Nat.reduceGT, Nat.reduceLT, Int.toNat_zero, Nat.reduceLeDiff, Int.reduceEq, Int.reduceLT, Int.reduceLE, hP, hΓ, hL, hfin, String.reduceEq, not_false_eq_true, if_true, if_false, Int.toNat_one, Bool.not_not, Option.getD_some, Option.getD_none, Option.isSome_some, Option.isSome_none, agI_mk, h17, h19, h23, h24, h25, hd, hw, hn, ha2, hc2, ps25_1, rs25_1, hs25_1, ps25_2, rs25_2, hs25_2, ps25_3, rs25_3, hs25_3, j1, j2, j3, hop, and_self])
          refine ⟨by omega, by omega, by omega, ?_⟩
          exact Into.one (congrArg AV.str (by simp [sep])) rfl
      · rw [movT, if_neg (by simp), lastT, if_neg (by decide)]
        (intro X hP hΓ hL hfin; refine ⟨_, rfl, ?_⟩; rw [show Tryz.f9.ntmps = 104 from rfl]; rw [show Tryz.f9.results.toList = [.tmp 4] from rfl] at hfin; apply holds_of_ex X 400; simp (maxSteps := 1000000) only [push_cast, reduceCtorEq, Nat.reduceAdd, Nat.reduceMul, Nat.reduceSub, Nat.reduceBEq, Nat.reduceGT, Nat.reduceLT, Int.toNat_zero, Nat.reduceLeDiff, Int.reduceEq, Int.reduceLT, Int.reduceLE, hP, hΓ, hL, hfin, String.reduceEq, not_false_eq_true, if_true, if_false, Int.toNat_one, Bool.not_not, Option.getD_some, Option.getD_none, Option.isSome_some, Option.isSome_none, agI_mk, h17, h19, h23, h24, h25, hd, hw, hn, ha2, hc2, ps25_1, rs25_1, hs25_1, ps25_2, rs25_2, hs25_2, ps25_3, rs25_3, hs25_3, j1, j2, j3, hop, and_self])
        refine ⟨by omega, by omega, by omega, ?_⟩
        exact Into.one (congrArg AV.str (by simp [sep])) rfl
    rw [if_neg o0]
    rcases hfr with rfl | rfl
    · rw [lastT, if_pos rfl]
      (intro X hP hΓ hL hfin; refine ⟨_, rfl, ?_⟩; rw [show Tryz.f9.ntmps = 104 from rfl]; rw [show Tryz.f9.results.toList = [.tmp 4] from rfl] at hfin; apply holds_of_ex X 400; simp (maxSteps := 1000000) only [push_cast, reduceCtorEq, Nat.reduceAdd, Nat.reduceMul, Nat.reduceSub, Nat.reduceBEq, Nat.reduceGT, Nat.reduceLT, Int.toNat_zero, Nat.reduceLeDiff, Int.reduceEq, Int.reduceLT, Int.reduceLE, hP, hΓ, hL, hfin, String.reduceEq, not_false_eq_true, if_true, if_false, Int.toNat_one, Bool.not_not, Option.getD_some, Option.getD_none, Option.isSome_some, Option.isSome_none, agI_mk, h17, h19, h23, hd, hw, hn, hc2, o15, o0, and_self])
      (refine Holds.drawn (extH [.row [.int .i64 0, .bool u, .bool v, .int .i64 a, .int .i64 b, .int .i64 op, .int .i64 c, .int .i64 n] 8 0]) [2, 5, 7] (by rw [hP]; kernel_rfl) (by kernel_rfl) (by kernel_rfl) (by first | exact ⟨_, [], rfl⟩ | exact ⟨_, _, rfl⟩ | (simp only [push_cast]; done) | exact ⟨[], by simp⟩) ?_; simp (maxSteps := 1000000) only [↓reduceIte, Option.getD_some, push_cast, reduceCtorEq, Nat.reduceAdd, Nat.reduceMul, Nat.reduceSub, Nat.reduceBEq, Nat.reduceGT, Nat.reduceLT, Int.toNat_zero, Nat.reduceLeDiff, Int.reduceEq, Int.reduceLT, Int.reduceLE, hP, hΓ, hL, hfin, String.reduceEq, not_false_eq_true, if_true, if_false, Int.toNat_one, Bool.not_not, Option.getD_some, Option.getD_none, Option.isSome_some, Option.isSome_none, agI_mk, h19, ha2, hb2, and_self])
      ((first | with_reducible refine holds_of_ex X 400 _ _ _ ?_ | skip); simp (maxSteps := 1000000) only [push_cast, reduceCtorEq, Nat.reduceAdd, Nat.reduceMul, Nat.reduceSub, Nat.reduceBEq, Nat.reduceGT, Nat.reduceLT, Int.toNat_zero, Nat.reduceLeDiff, Int.reduceEq, Int.reduceLT, Int.reduceLE, hP, hΓ, hL, hfin, String.reduceEq, not_false_eq_true, if_true, if_false, Int.toNat_one, Bool.not_not, Option.getD_some, Option.getD_none, Option.isSome_some, Option.isSome_none, agI_mk, h24, h25, ps25_1, rs25_1, hs25_1, ps25_2, rs25_2, hs25_2, ps25_3, rs25_3, hs25_3, j1, j2, j3, hop, and_self])
      refine ⟨by omega, by omega, by omega, ?_⟩
      exact Into.one (congrArg AV.str (by simp [sep])) rfl
    · rw [lastT, if_neg (by decide)]
      (intro X hP hΓ hL hfin; refine ⟨_, rfl, ?_⟩; rw [show Tryz.f9.ntmps = 104 from rfl]; rw [show Tryz.f9.results.toList = [.tmp 4] from rfl] at hfin; apply holds_of_ex X 400; simp (maxSteps := 1000000) only [push_cast, reduceCtorEq, Nat.reduceAdd, Nat.reduceMul, Nat.reduceSub, Nat.reduceBEq, Nat.reduceGT, Nat.reduceLT, Int.toNat_zero, Nat.reduceLeDiff, Int.reduceEq, Int.reduceLT, Int.reduceLE, hP, hΓ, hL, hfin, String.reduceEq, not_false_eq_true, if_true, if_false, Int.toNat_one, Bool.not_not, Option.getD_some, Option.getD_none, Option.isSome_some, Option.isSome_none, agI_mk, h17, h19, h23, hd, hw, hn, hc2, o15, o0, and_self])
      (refine Holds.drawn (extH [.row [.int .i64 1, .bool u, .bool v, .int .i64 a, .int .i64 b, .int .i64 op, .int .i64 c, .int .i64 n] 8 0]) [2, 5, 7] (by rw [hP]; kernel_rfl) (by kernel_rfl) (by kernel_rfl) (by first | exact ⟨_, [], rfl⟩ | exact ⟨_, _, rfl⟩ | (simp only [push_cast]; done) | exact ⟨[], by simp⟩) ?_; simp (maxSteps := 1000000) only [↓reduceIte, Option.getD_some, push_cast, reduceCtorEq, Nat.reduceAdd, Nat.reduceMul, Nat.reduceSub, Nat.reduceBEq, Nat.reduceGT, Nat.reduceLT, Int.toNat_zero, Nat.reduceLeDiff, Int.reduceEq, Int.reduceLT, Int.reduceLE, hP, hΓ, hL, hfin, String.reduceEq, not_false_eq_true, if_true, if_false, Int.toNat_one, Bool.not_not, Option.getD_some, Option.getD_none, Option.isSome_some, Option.isSome_none, agI_mk, h19, ha2, hb2, and_self])
      ((first | with_reducible refine holds_of_ex X 400 _ _ _ ?_ | skip); simp (maxSteps := 1000000) only [push_cast, reduceCtorEq, Nat.reduceAdd, Nat.reduceMul, Nat.reduceSub, Nat.reduceBEq, Nat.reduceGT, Nat.reduceLT, Int.toNat_zero, Nat.reduceLeDiff, Int.reduceEq, Int.reduceLT, Int.reduceLE, hP, hΓ, hL, hfin, String.reduceEq, not_false_eq_true, if_true, if_false, Int.toNat_one, Bool.not_not, Option.getD_some, Option.getD_none, Option.isSome_some, Option.isSome_none, agI_mk, h24, h25, ps25_1, rs25_1, hs25_1, ps25_2, rs25_2, hs25_2, ps25_3, rs25_3, hs25_3, j1, j2, j3, hop, and_self])
      refine ⟨by omega, by omega, by omega, ?_⟩
      exact Into.one (congrArg AV.str (by simp [sep])) rfl
theorem con9 {Γ : Env} (h : EnvOk Tryz.prog Γ) (h17 : Γ 17 = some S17) (h18 : Γ 18 = some S18) (h19 : Γ 19 = some S19) (h20 : Γ 20 = some S20) (h21 : Γ 21 = some S21) (h22 : Γ 22 = some S22) (h23 : Γ 23 = some S23) (h24 : Γ 24 = some S24) (h25 : Γ 25 = some S25) : Con Tryz.prog 9 S9 :=
  funS_con h (fn := Tryz.f9) (by kernel_rfl) rfl (by kernel_rfl) inj9 (by first | (intro h; cases h; done) | exact fun _ _ => rfl) fun ⟨w, at_⟩ h => body9 Γ h17 h18 h19 h20 h21 h22 h23 h24 h25 w at_ h.1 h.2
end Go.Proofs.YtgemeilncdmapaaGreatDoor.asmDone
end
section
namespace Go.Proofs.YtgemeilncdmapaaGreatDoor.asmDone
open Go Go.Eng Go.Proofs Go.RowKit
open Go.Proofs.YtgemeilncdmapaaGreatDoor.bld (S41 S42 S43 ps41 rs41 hs41 ps42 rs42 hs42 ps43 rs43 hs43)
open Go.Asm (mayB in16 rightB laid sx In flds rightI laidI decB laid_lo ops cnds opT cnT regT sufT nameT hexC hexT sep lastT insT showF joinT)
set_option linter.unusedVariables false
set_option linter.unusedSimpArgs false
set_option maxRecDepth 100000
set_option maxHeartbeats 4000000
theorem show_len {w at_ : Int} (hat : 0 ≤ at_ ∧ at_ < 4294967296) : (showF w at_).length ≤ 50 := by
  unfold showF
  cases hd : decB w with
  | none => simp only [List.length_append, Go.Asm.hex_len]; decide
  | some i =>
    obtain ⟨f, u, v, a, b, op, c, n⟩ := i
    have hr : rightB f u v a b op c n = true := (Go.Asm.dec_is hd).1
    obtain ⟨ha, hb, hc, hop, hn, hf⟩ := lim_of hr
    have la := reg_len ha
    have lb := reg_len hb
    have lc := reg_len hc
    have lm := name_len f u v op
    have ln := itoa_len n hn
    have ll := last_len (f := f) hc hn
    have lcn := cn_len a
    have lx := itoa_len ((at_ + 4 + n * 4) % 4294967296) (by omega)
    have ls : sep.length = 2 := rfl
    simp only [insT]
    repeat' split
    all_goals simp only [List.length_append, List.length_cons, List.length_nil, ls]
    all_goals omega
/-- words' lines -/
def tls : Nat → List Int → List UInt8
  | _, [] => []
  | k, w :: r => showF w (4 * k) ++ 10 :: tls (k + 1) r
theorem tls_snoc (k : Nat) (ws : List Int) (w : Int) : tls k (ws ++ [w]) = tls k ws ++ (showF w (4 * ((k + ws.length : Nat) : Int)) ++ [10]) := by
  induction ws generalizing k with
  | nil => simp [tls]
  | cons x r ih =>
    rw [List.cons_append, tls, ih, tls, show k + 1 + r.length = k + (x :: r).length by simp only [List.length_cons]; omega]
    simp
theorem tls_len (k : Nat) (ws : List Int) (h : k + ws.length ≤ 16384) : (tls k ws).length ≤ 51 * ws.length := by
  induction ws generalizing k with
  | nil => simp [tls]
  | cons x r ih =>
    simp only [List.length_cons] at h ⊢
    have := ih (k + 1) (by omega)
    have h2 := show_len (w := x) (at_ := 4 * (k : Int)) (by omega)
    simp only [tls, List.length_append, List.length_cons]; omega
def textR (ws : List Int) : List UInt8 × Int := if 16384 < ws.length then ([], 60) else if 65536 < (tls 0 ws).length then ([], 60) else (tls 0 ws, 0)
def e15 : (List Int) → List AV := fun ws => [.sl (ws.map (AV.int .u32)) ws.length]
def p15 : (List Int) → Prop := fun ws => (∀ w ∈ ws, 0 ≤ w ∧ w < 4294967296) ∧ ws.length ≤ 1000000000
def r15 : (List Int) → AV := fun ws => .tup [.str (textR ws).1, .int .i64 (textR ws).2]
def g15 : (List Int) → Heap := fun ws => []
theorem inj15 : ∀ a b, e15 a = e15 b → a = b := by
  rintro ws ws' h
  simp only [e15, mi_iff, ms_iff, mb_iff, my_iff, UInt8.toNat_inj, List.cons.injEq, AV.int.injEq, AV.str.injEq, AV.bool.injEq, AV.sl.injEq, AV.agg.injEq, AV.ip.injEq, AV.fn.injEq, AV.ifc.injEq, AV.mpr.injEq, Int.natCast_inj, and_true, true_and] at h
  simp_all only
noncomputable def S15 : FSpec := funS e15 p15 r15 g15 true
theorem ps15 (ws : (List Int)) : psel e15 p15 [.sl (ws.map (AV.int .u32)) ws.length] = ((∀ w ∈ ws, 0 ≤ w ∧ w < 4294967296) ∧ ws.length ≤ 1000000000) := psel_at inj15 p15 ws
theorem rs15 (ws : (List Int)) : rsel e15 r15 .any [.sl (ws.map (AV.int .u32)) ws.length] = (.tup [.str (textR ws).1, .int .i64 (textR ws).2]) := rsel_at inj15 r15 .any ws
theorem hs15 (ws : (List Int)) : rsel e15 g15 [] [.sl (ws.map (AV.int .u32)) ws.length] = ([]) := rsel_at inj15 g15 [] ws
attribute [push_cast] S15 ps15 rs15 hs15
theorem take_get {ws : List Int} {i : Nat} (h : i < ws.length) : ws.take (i + 1) = ws.take i ++ [ws.getD i 0] := by
  rw [List.take_succ_eq_append_getElem h]; simp [List.getD, h]
theorem body15 (Γ : Env) (h9 : Γ 9 = some S9) (h41 : Γ 41 = some S41) (h42 : Γ 42 = some S42) (h43 : Γ 43 = some S43) (ws : List Int) (hws : ∀ w ∈ ws, 0 ≤ w ∧ w < 4294967296) (hl : ws.length ≤ 1000000000) : BodyOk Tryz.prog Γ Tryz.f15 [.sl (ws.map (AV.int .u32)) ws.length] [] (.tup [.str (textR ws).1, .int .i64 (textR ws).2]) [] := by
  (intro X hP hΓ hL hfin; refine ⟨_, rfl, ?_⟩; rw [show Tryz.f15.ntmps = 28 from rfl]; rw [show Tryz.f15.results.toList = [.tmp 2, .tmp 3] from rfl] at hfin; apply holds_of_ex X 400; simp (maxSteps := 1000000) only [push_cast, reduceCtorEq, Nat.reduceAdd, Nat.reduceMul, Nat.reduceSub, Nat.reduceBEq, Nat.reduceGT, Nat.reduceLT, Int.toNat_zero, Nat.reduceLeDiff, Int.reduceEq, Int.reduceLT, Int.reduceLE, hP, hΓ, hL, hfin, String.reduceEq, not_false_eq_true, if_true, if_false, Int.toNat_one, Bool.not_not])
  ((with_reducible refine exB_split (fun h => ?_) (fun h => ?_)) <;> (try simp only [decide_eq_true_eq, decide_eq_false_iff_not, Bool.and_eq_true, Bool.or_eq_true, Bool.and_eq_false_iff, Bool.or_eq_false_iff, Bool.not_eq_true', Bool.not_eq_false', Bool.not_eq_true, Bool.not_eq_false, Int.not_lt, Int.not_le, beq_iff_eq, beq_eq_false_iff_ne, ne_eq] at h))
  · ((first | with_reducible refine holds_of_ex X 400 _ _ _ ?_ | skip); simp (maxSteps := 1000000) only [push_cast, reduceCtorEq, Nat.reduceAdd, Nat.reduceMul, Nat.reduceSub, Nat.reduceBEq, Nat.reduceGT, Nat.reduceLT, Int.toNat_zero, Nat.reduceLeDiff, Int.reduceEq, Int.reduceLT, Int.reduceLE, hP, hΓ, hL, hfin, String.reduceEq, not_false_eq_true, if_true, if_false, Int.toNat_one, Bool.not_not])
    rw [textR, if_pos (by omega)]
    exact Into.sameA
  ((first | with_reducible refine holds_of_ex X 400 _ _ _ ?_ | skip); simp (maxSteps := 1000000) only [push_cast, reduceCtorEq, Nat.reduceAdd, Nat.reduceMul, Nat.reduceSub, Nat.reduceBEq, Nat.reduceGT, Nat.reduceLT, Int.toNat_zero, Nat.reduceLeDiff, Int.reduceEq, Int.reduceLT, Int.reduceLE, hP, hΓ, hL, hfin, String.reduceEq, not_false_eq_true, if_true, if_false, Int.toNat_one, Bool.not_not])
  refine Holds.loopM (ι := {k : Nat // k ≤ ws.length}) [false, false, true, true, true, false, false, false, false, false, true, true, false, false, false, false, false, false, false, false, false, false, false, false, false, false, false, false] (fun i => [(12, .int .i64 i.1)]) (fun i => [.raw (.bld 65 5 (tls 0 (ws.take i.1)))]) (fun i => ws.length - i.1) ⟨0, Nat.zero_le _⟩ ?_ ?_
  · (rw [hL]; simp only [push_cast, Int.natCast_zero]; exact Into.sameA)
  rintro ⟨k, hk⟩
  ((first | with_reducible refine holds_of_ex X 400 _ _ _ ?_ | skip); simp (maxSteps := 1000000) only [push_cast, reduceCtorEq, Nat.reduceAdd, Nat.reduceMul, Nat.reduceSub, Nat.reduceBEq, Nat.reduceGT, Nat.reduceLT, Int.toNat_zero, Nat.reduceLeDiff, Int.reduceEq, Int.reduceLT, Int.reduceLE, hP, hΓ, hL, hfin, String.reduceEq, not_false_eq_true, if_true, if_false, Int.toNat_one, Bool.not_not])
  ((with_reducible refine exB_split (fun h => ?_) (fun h => ?_)) <;> (try simp only [decide_eq_true_eq, decide_eq_false_iff_not, Bool.and_eq_true, Bool.or_eq_true, Bool.and_eq_false_iff, Bool.or_eq_false_iff, Bool.not_eq_true', Bool.not_eq_false', Bool.not_eq_true, Bool.not_eq_false, Int.not_lt, Int.not_le, beq_iff_eq, beq_eq_false_iff_ne, ne_eq] at h))
  · have hk' : k < ws.length := by omega
    have hx0 := hws (ws.getD k 0) (by rw [List.getD_eq_getElem?_getD]; simp only [List.getElem?_eq_getElem hk', Option.getD_some]; exact List.getElem_mem _)
    have w1 : IntKind.i64.wrap (4 * (k : Int)) = 4 * (k : Int) := wr_i64 _ (by constructor <;> omega)
    have w2 : IntKind.u32.wrap (4 * (k : Int)) = 4 * (k : Int) := u32i _ (by omega)
    have hd : (default : Int) = 0 := rfl
    have hs := show_len (w := ws.getD k 0) (at_ := 4 * (k : Int)) (by omega)
    have ht := tls_len 0 (ws.take k) (by rw [List.length_take]; omega)
    rw [List.length_take] at ht
    have hn : tls 0 (ws.take (k + 1)) = tls 0 (ws.take k) ++ (showF (ws.getD k 0) (4 * (k : Int)) ++ [10]) := by
      rw [take_get hk', tls_snoc, List.length_take, Nat.min_eq_left hk, Nat.zero_add]
    ((first | with_reducible refine holds_of_ex X 400 _ _ _ ?_ | skip); simp (maxSteps := 1000000) only [push_cast, reduceCtorEq, Nat.reduceAdd, Nat.reduceMul, Nat.reduceSub, Nat.reduceBEq, Nat.reduceGT, Nat.reduceLT, Int.toNat_zero, Nat.reduceLeDiff, Int.reduceEq, Int.reduceLT, Int.reduceLE, hP, hΓ, hL, hfin, String.reduceEq, not_false_eq_true, if_true, if_false, Int.toNat_one, Bool.not_not, h9, h41, w1, w2, hd])
    refine ⟨by omega, by omega, ⟨hx0, by omega, by omega⟩, by omega, by omega, ⟨k + 1, hk'⟩, by simp only; omega, ?_⟩
    dsimp only
    rw [hn, wr_i64 ((k : Int) + 1) (by constructor <;> omega)]
    exact Into.sameA
  · obtain rfl : k = ws.length := by omega
    have ht := tls_len 0 ws (by omega)
    ((first | with_reducible refine holds_of_ex X 400 _ _ _ ?_ | skip); simp (maxSteps := 1000000) only [push_cast, reduceCtorEq, Nat.reduceAdd, Nat.reduceMul, Nat.reduceSub, Nat.reduceBEq, Nat.reduceGT, Nat.reduceLT, Int.toNat_zero, Nat.reduceLeDiff, Int.reduceEq, Int.reduceLT, Int.reduceLE, hP, hΓ, hL, hfin, String.reduceEq, not_false_eq_true, if_true, if_false, Int.toNat_one, Bool.not_not, h42, List.take_length])
    refine ⟨by omega, ?_⟩
    ((with_reducible refine exB_split (fun h => ?_) (fun h => ?_)) <;> (try simp only [decide_eq_true_eq, decide_eq_false_iff_not, Bool.and_eq_true, Bool.or_eq_true, Bool.and_eq_false_iff, Bool.or_eq_false_iff, Bool.not_eq_true', Bool.not_eq_false', Bool.not_eq_true, Bool.not_eq_false, Int.not_lt, Int.not_le, beq_iff_eq, beq_eq_false_iff_ne, ne_eq] at h))
    · ((first | with_reducible refine holds_of_ex X 400 _ _ _ ?_ | skip); simp (maxSteps := 1000000) only [push_cast, reduceCtorEq, Nat.reduceAdd, Nat.reduceMul, Nat.reduceSub, Nat.reduceBEq, Nat.reduceGT, Nat.reduceLT, Int.toNat_zero, Nat.reduceLeDiff, Int.reduceEq, Int.reduceLT, Int.reduceLE, hP, hΓ, hL, hfin, String.reduceEq, not_false_eq_true, if_true, if_false, Int.toNat_one, Bool.not_not])
      rw [textR, if_neg (by omega), if_pos (by omega)]
      exact Into.keep0A
    · ((first | with_reducible refine holds_of_ex X 400 _ _ _ ?_ | skip); simp (maxSteps := 1000000) only [push_cast, reduceCtorEq, Nat.reduceAdd, Nat.reduceMul, Nat.reduceSub, Nat.reduceBEq, Nat.reduceGT, Nat.reduceLT, Int.toNat_zero, Nat.reduceLeDiff, Int.reduceEq, Int.reduceLT, Int.reduceLE, hP, hΓ, hL, hfin, String.reduceEq, not_false_eq_true, if_true, if_false, Int.toNat_one, Bool.not_not, h43])
      refine ⟨by omega, ?_⟩
      rw [textR, if_neg (by omega), if_neg (by omega)]
      exact Into.keep0A
theorem con15 {Γ : Env} (h : EnvOk Tryz.prog Γ) (h9 : Γ 9 = some S9) (h41 : Γ 41 = some S41) (h42 : Γ 42 = some S42) (h43 : Γ 43 = some S43) : Con Tryz.prog 15 S15 :=
  funS_con h (fn := Tryz.f15) (by kernel_rfl) rfl (by kernel_rfl) inj15 (by first | (intro h; cases h; done) | exact fun _ _ => rfl) fun ws h => body15 Γ h9 h41 h42 h43 ws h.1 h.2
def e16 : (List Int) → List AV := fun ws => [.sl (ws.map (AV.int .u32)) ws.length]
def p16 : (List Int) → Prop := fun ws => (∀ w ∈ ws, 0 ≤ w ∧ w < 4294967296) ∧ ws.length ≤ 1000000000
def r16 : (List Int) → AV := fun ws => .tup [.str (textR ws).1, .int .i64 (textR ws).2]
def g16 : (List Int) → Heap := fun ws => []
theorem inj16 : ∀ a b, e16 a = e16 b → a = b := by
  rintro ws ws' h
  simp only [e16, mi_iff, ms_iff, mb_iff, my_iff, UInt8.toNat_inj, List.cons.injEq, AV.int.injEq, AV.str.injEq, AV.bool.injEq, AV.sl.injEq, AV.agg.injEq, AV.ip.injEq, AV.fn.injEq, AV.ifc.injEq, AV.mpr.injEq, Int.natCast_inj, and_true, true_and] at h
  simp_all only
noncomputable def S16 : FSpec := funS e16 p16 r16 g16 true
theorem ps16 (ws : (List Int)) : psel e16 p16 [.sl (ws.map (AV.int .u32)) ws.length] = ((∀ w ∈ ws, 0 ≤ w ∧ w < 4294967296) ∧ ws.length ≤ 1000000000) := psel_at inj16 p16 ws
theorem rs16 (ws : (List Int)) : rsel e16 r16 .any [.sl (ws.map (AV.int .u32)) ws.length] = (.tup [.str (textR ws).1, .int .i64 (textR ws).2]) := rsel_at inj16 r16 .any ws
theorem hs16 (ws : (List Int)) : rsel e16 g16 [] [.sl (ws.map (AV.int .u32)) ws.length] = ([]) := rsel_at inj16 g16 [] ws
attribute [push_cast] S16 ps16 rs16 hs16
theorem body16 (Γ : Env) (h10 : Γ 10 = some S10) (ws : List Int) (hws : ∀ w ∈ ws, 0 ≤ w ∧ w < 4294967296) (hl : ws.length ≤ 1000000000) : BodyOk Tryz.prog Γ Tryz.f16 [.sl (ws.map (AV.int .u32)) ws.length] [] (.tup [.str (textR ws).1, .int .i64 (textR ws).2]) [] := by
  (intro X hP hΓ hL hfin; refine ⟨_, rfl, ?_⟩; rw [show Tryz.f16.ntmps = 33 from rfl]; rw [show Tryz.f16.results.toList = [.tmp 2, .tmp 3] from rfl] at hfin; apply holds_of_ex X 400; simp (maxSteps := 1000000) only [push_cast, reduceCtorEq, Nat.reduceAdd, Nat.reduceMul, Nat.reduceSub, Nat.reduceBEq, Nat.reduceGT, Nat.reduceLT, Int.toNat_zero, Nat.reduceLeDiff, Int.reduceEq, Int.reduceLT, Int.reduceLE, hP, hΓ, hL, hfin, String.reduceEq, not_false_eq_true, if_true, if_false, Int.toNat_one, Bool.not_not])
  ((with_reducible refine exB_split (fun h => ?_) (fun h => ?_)) <;> (try simp only [decide_eq_true_eq, decide_eq_false_iff_not, Bool.and_eq_true, Bool.or_eq_true, Bool.and_eq_false_iff, Bool.or_eq_false_iff, Bool.not_eq_true', Bool.not_eq_false', Bool.not_eq_true, Bool.not_eq_false, Int.not_lt, Int.not_le, beq_iff_eq, beq_eq_false_iff_ne, ne_eq] at h))
  · ((first | with_reducible refine holds_of_ex X 400 _ _ _ ?_ | skip); simp (maxSteps := 1000000) only [push_cast, reduceCtorEq, Nat.reduceAdd, Nat.reduceMul, Nat.reduceSub, Nat.reduceBEq, Nat.reduceGT, Nat.reduceLT, Int.toNat_zero, Nat.reduceLeDiff, Int.reduceEq, Int.reduceLT, Int.reduceLE, hP, hΓ, hL, hfin, String.reduceEq, not_false_eq_true, if_true, if_false, Int.toNat_one, Bool.not_not])
    rw [textR, if_pos (by omega)]
    exact Into.sameA
  ((first | with_reducible refine holds_of_ex X 400 _ _ _ ?_ | skip); simp (maxSteps := 1000000) only [push_cast, reduceCtorEq, Nat.reduceAdd, Nat.reduceMul, Nat.reduceSub, Nat.reduceBEq, Nat.reduceGT, Nat.reduceLT, Int.toNat_zero, Nat.reduceLeDiff, Int.reduceEq, Int.reduceLT, Int.reduceLE, hP, hΓ, hL, hfin, String.reduceEq, not_false_eq_true, if_true, if_false, Int.toNat_one, Bool.not_not])
  refine Holds.loopM (ι := {k : Nat // k ≤ ws.length}) [true, false, true, true, false, false, false, false, false, false, false, false, false, false, false, false, false, false, false, false, false, false, false, false, false, false, false, false, false, false, false, false, false] (fun i => [(4, .msl 0 0 0 (tls 0 (ws.take i.1)).length), (5, .int .i64 i.1)]) (fun i => [.row ((tls 0 (ws.take i.1)).map byteAV) 1 0]) (fun i => ws.length - i.1) ⟨0, Nat.zero_le _⟩ ?_ ?_
  · rw [hL]
    simp only [push_cast, Int.natCast_zero]
    (refine IntoF.nil 4  1 rfl ?_; simp only [push_cast, reduceCtorEq, Nat.reduceAdd, Nat.reduceMul, Nat.reduceSub, Nat.reduceBEq, Nat.reduceGT, Nat.reduceLT, Int.toNat_zero, Nat.reduceLeDiff, Int.reduceEq, Int.reduceLT, Int.reduceLE])
    simp only [List.take_zero, tls, List.length_nil, List.map_nil]
    exact Into.sameA
  rintro ⟨k, hk⟩
  ((first | with_reducible refine holds_of_ex X 400 _ _ _ ?_ | skip); simp (maxSteps := 1000000) only [push_cast, reduceCtorEq, Nat.reduceAdd, Nat.reduceMul, Nat.reduceSub, Nat.reduceBEq, Nat.reduceGT, Nat.reduceLT, Int.toNat_zero, Nat.reduceLeDiff, Int.reduceEq, Int.reduceLT, Int.reduceLE, hP, hΓ, hL, hfin, String.reduceEq, not_false_eq_true, if_true, if_false, Int.toNat_one, Bool.not_not])
  ((with_reducible refine exB_split (fun h => ?_) (fun h => ?_)) <;> (try simp only [decide_eq_true_eq, decide_eq_false_iff_not, Bool.and_eq_true, Bool.or_eq_true, Bool.and_eq_false_iff, Bool.or_eq_false_iff, Bool.not_eq_true', Bool.not_eq_false', Bool.not_eq_true, Bool.not_eq_false, Int.not_lt, Int.not_le, beq_iff_eq, beq_eq_false_iff_ne, ne_eq] at h))
  · have hk' : k < ws.length := by omega
    have hx0 := hws (ws.getD k 0) (by rw [List.getD_eq_getElem?_getD]; simp only [List.getElem?_eq_getElem hk', Option.getD_some]; exact List.getElem_mem _)
    have w1 : IntKind.i64.wrap (4 * (k : Int)) = 4 * (k : Int) := wr_i64 _ (by constructor <;> omega)
    have w2 : IntKind.u32.wrap (4 * (k : Int)) = 4 * (k : Int) := u32i _ (by omega)
    have hd : (default : Int) = 0 := rfl
    have hs := show_len (w := ws.getD k 0) (at_ := 4 * (k : Int)) (by omega)
    have ht := tls_len 0 (ws.take k) (by rw [List.length_take]; omega)
    rw [List.length_take] at ht
    have hn : tls 0 (ws.take (k + 1)) = tls 0 (ws.take k) ++ (showF (ws.getD k 0) (4 * (k : Int)) ++ [10]) := by
      rw [take_get hk', tls_snoc, List.length_take, Nat.min_eq_left hk, Nat.zero_add]
    have e6 : List.map byteAV (tls 0 (ws.take k)) ++ List.map byteAV (showF (ws.getD k 0) (4 * (k : Int))) ++ [AV.int .u8 10] = (tls 0 (ws.take (k + 1))).map byteAV := by
      rw [hn]; simp [byteAV]
    have e7 : (tls 0 (ws.take k)).length + (showF (ws.getD k 0) (4 * (k : Int))).length + 1 = (tls 0 (ws.take (k + 1))).length := by
      rw [hn]; simp only [List.length_append, List.length_cons, List.length_nil]; omega
    ((first | with_reducible refine holds_of_ex X 400 _ _ _ ?_ | skip); simp (maxSteps := 1000000) only [push_cast, reduceCtorEq, Nat.reduceAdd, Nat.reduceMul, Nat.reduceSub, Nat.reduceBEq, Nat.reduceGT, Nat.reduceLT, Int.toNat_zero, Nat.reduceLeDiff, Int.reduceEq, Int.reduceLT, Int.reduceLE, hP, hΓ, hL, hfin, String.reduceEq, not_false_eq_true, if_true, if_false, Int.toNat_one, Bool.not_not, h10, w1, w2, hd])
    refine ⟨by omega, by omega, ⟨hx0, by omega, by omega⟩, by omega, by omega, ⟨k + 1, hk'⟩, by simp only; omega, ?_⟩
    dsimp only
    rw [e6, e7, wr_i64 ((k : Int) + 1) (by constructor <;> omega)]
    (refine IntoF.ver 0  0 (by simp only [push_cast, reduceCtorEq, Nat.reduceAdd, Nat.reduceMul, Nat.reduceSub, Nat.reduceBEq, Nat.reduceGT, Nat.reduceLT, Int.toNat_zero, Nat.reduceLeDiff, Int.reduceEq, Int.reduceLT, Int.reduceLE]) (by first | exact .inr (Nat.zero_le _) | (left; simp only [push_cast, reduceCtorEq, Nat.reduceAdd, Nat.reduceMul, Nat.reduceSub, Nat.reduceBEq, Nat.reduceGT, Nat.reduceLT, Int.toNat_zero, Nat.reduceLeDiff, Int.reduceEq, Int.reduceLT, Int.reduceLE]; first | done | omega) | (right; simp only [push_cast, reduceCtorEq, Nat.reduceAdd, Nat.reduceMul, Nat.reduceSub, Nat.reduceBEq, Nat.reduceGT, Nat.reduceLT, Int.toNat_zero, Nat.reduceLeDiff, Int.reduceEq, Int.reduceLT, Int.reduceLE]; first | done | omega)) ?_; simp only [push_cast, reduceCtorEq, Nat.reduceAdd, Nat.reduceMul, Nat.reduceSub, Nat.reduceBEq, Nat.reduceGT, Nat.reduceLT, Int.toNat_zero, Nat.reduceLeDiff, Int.reduceEq, Int.reduceLT, Int.reduceLE])
    exact Into.sameA
  · obtain rfl : k = ws.length := by omega
    have ht := tls_len 0 ws (by omega)
    ((first | with_reducible refine holds_of_ex X 400 _ _ _ ?_ | skip); simp (maxSteps := 1000000) only [push_cast, reduceCtorEq, Nat.reduceAdd, Nat.reduceMul, Nat.reduceSub, Nat.reduceBEq, Nat.reduceGT, Nat.reduceLT, Int.toNat_zero, Nat.reduceLeDiff, Int.reduceEq, Int.reduceLT, Int.reduceLE, hP, hΓ, hL, hfin, String.reduceEq, not_false_eq_true, if_true, if_false, Int.toNat_one, Bool.not_not, List.take_length])
    ((with_reducible refine exB_split (fun h => ?_) (fun h => ?_)) <;> (try simp only [decide_eq_true_eq, decide_eq_false_iff_not, Bool.and_eq_true, Bool.or_eq_true, Bool.and_eq_false_iff, Bool.or_eq_false_iff, Bool.not_eq_true', Bool.not_eq_false', Bool.not_eq_true, Bool.not_eq_false, Int.not_lt, Int.not_le, beq_iff_eq, beq_eq_false_iff_ne, ne_eq] at h))
    · ((first | with_reducible refine holds_of_ex X 400 _ _ _ ?_ | skip); simp (maxSteps := 1000000) only [push_cast, reduceCtorEq, Nat.reduceAdd, Nat.reduceMul, Nat.reduceSub, Nat.reduceBEq, Nat.reduceGT, Nat.reduceLT, Int.toNat_zero, Nat.reduceLeDiff, Int.reduceEq, Int.reduceLT, Int.reduceLE, hP, hΓ, hL, hfin, String.reduceEq, not_false_eq_true, if_true, if_false, Int.toNat_one, Bool.not_not])
      rw [textR, if_neg (by omega), if_pos (by omega)]
      exact Into.keep0A
    · ((first | with_reducible refine holds_of_ex X 400 _ _ _ ?_ | skip); simp (maxSteps := 1000000) only [push_cast, reduceCtorEq, Nat.reduceAdd, Nat.reduceMul, Nat.reduceSub, Nat.reduceBEq, Nat.reduceGT, Nat.reduceLT, Int.toNat_zero, Nat.reduceLeDiff, Int.reduceEq, Int.reduceLT, Int.reduceLE, hP, hΓ, hL, hfin, String.reduceEq, not_false_eq_true, if_true, if_false, Int.toNat_one, Bool.not_not, tk_map])
      rw [textR, if_neg (by omega), if_neg (by omega)]
      exact Into.one rfl rfl
theorem con16 {Γ : Env} (h : EnvOk Tryz.prog Γ) (h10 : Γ 10 = some S10) : Con Tryz.prog 16 S16 :=
  funS_con h (fn := Tryz.f16) (by kernel_rfl) rfl (by kernel_rfl) inj16 (by first | (intro h; cases h; done) | exact fun _ _ => rfl) fun ws h => body16 Γ h10 ws h.1 h.2
end Go.Proofs.YtgemeilncdmapaaGreatDoor.asmDone
end
