/- Of sources: what the scanner calls of the library. Conditions stand in each. -/
import Derived.Test.YtlehfbdkjkgaeaaGreatDoorScN
import Derived.Test.YtlehfbdkjkgaeaaGreatDoorIter
import Derived.Test.YtlehfbdkjkgaeaaGreatDoorEng23
import Derived.Test.YtlehfbdkjkgaeaaGreatDoorAr
import Derived.Test.YtlehfbdkjkgaeaaGreatDoorTy
import Derived.Lib.Bytealg
import Derived.Laws.Externs
import Derived.Shelf.Strings.SlTrimAscii
namespace Go.Proofs.YtlehfbdkjkgaeaaGreatDoor.scanDone
open Go Go.Eng Go.Proofs Go.Scan Go.RowKit
set_option linter.unusedVariables false
set_option linter.unusedSimpArgs false
set_option maxRecDepth 100000
set_option maxHeartbeats 4000000
def e21 : (Bytes) × (Bytes) → List AV := fun (s, p) => [.str s, .str p]
def p21 : (Bytes) × (Bytes) → Prop := fun (s, p) => s.length ≤ 4194304 ∧ p.length ≤ 4194304
def r21 : (Bytes) × (Bytes) → AV := fun (s, p) => .bool (decide (p.length ≤ s.length) && (s.take p.length == p))
def g21 : (Bytes) × (Bytes) → Heap := fun (s, p) => []
theorem inj21 : ∀ a b, e21 a = e21 b → a = b := by
  rintro ⟨s, p⟩ ⟨s', p'⟩ h
  simp only [e21, mi_iff, ms_iff, mb_iff, my_iff, UInt8.toNat_inj, List.cons.injEq, AV.int.injEq, AV.str.injEq, AV.bool.injEq, AV.sl.injEq, AV.agg.injEq, AV.ip.injEq, AV.fn.injEq, AV.ifc.injEq, AV.mpr.injEq, Int.natCast_inj, and_true, true_and] at h
  simp_all only
noncomputable def S21 : FSpec := funS e21 p21 r21 g21 true
theorem ps21 (s : (Bytes)) (p : (Bytes)) : psel e21 p21 [.str s, .str p] = (s.length ≤ 4194304 ∧ p.length ≤ 4194304) := psel_at inj21 p21 (s, p)
theorem rs21 (s : (Bytes)) (p : (Bytes)) : rsel e21 r21 .any [.str s, .str p] = (.bool (decide (p.length ≤ s.length) && (s.take p.length == p))) := rsel_at inj21 r21 .any (s, p)
theorem hs21 (s : (Bytes)) (p : (Bytes)) : rsel e21 g21 [] [.str s, .str p] = ([]) := rsel_at inj21 g21 [] (s, p)
attribute [push_cast] S21 ps21 rs21 hs21
theorem body21 (Γ : Env) (s p : Bytes) (h : s.length ≤ 4194304 ∧ p.length ≤ 4194304) : BodyOk Tryz.prog Γ Tryz.f19 (e21 (s, p)) [] (.bool (decide (p.length ≤ s.length) && (s.take p.length == p))) [] := by
  (intro X hP hΓ hL hfin; refine ⟨_, rfl, ?_⟩; rw [show Tryz.f19.ntmps = 18 from rfl]; rw [show Tryz.f19.results.toList = [.tmp 4] from rfl] at hfin; apply holds_of_ex X 400; simp (maxSteps := 1000000) only [push_cast, reduceCtorEq, Nat.reduceAdd, Nat.reduceMul, Nat.reduceSub, Nat.reduceBEq, Nat.reduceGT, Nat.reduceLT, Int.toNat_zero, Nat.reduceLeDiff, Int.reduceEq, Int.reduceLT, Int.reduceLE, hP, hΓ, hL, hfin, String.reduceEq, not_false_eq_true, if_true, e21])
  refine ⟨fun h => by have := of_decide_eq_true h; omega, Into.one (by rw [show decide (((p.length : Nat) : Int) ≤ (s.length : Nat)) = decide (p.length ≤ s.length) by simp]) rfl⟩
theorem con21 {Γ : Env} (h : EnvOk Tryz.prog Γ)  : Con Tryz.prog 19 S21 :=
  funS_con h (fn := Tryz.f19) (by kernel_rfl) rfl (by kernel_rfl) inj21 (by first | (intro h; cases h; done) | exact fun _ _ => rfl) fun ⟨s, p⟩ h => body21 Γ s p h
def e13 : (Bytes) × (Bytes) → List AV := fun (s, p) => [.str s, .str p]
def p13 : (Bytes) × (Bytes) → Prop := fun (s, p) => s.length ≤ 4194304 ∧ p.length ≤ 4194304
def r13 : (Bytes) × (Bytes) → AV := fun (s, p) => .bool (decide (p.length ≤ s.length) && (s.take p.length == p))
def g13 : (Bytes) × (Bytes) → Heap := fun (s, p) => []
theorem inj13 : ∀ a b, e13 a = e13 b → a = b := by
  rintro ⟨s, p⟩ ⟨s', p'⟩ h
  simp only [e13, mi_iff, ms_iff, mb_iff, my_iff, UInt8.toNat_inj, List.cons.injEq, AV.int.injEq, AV.str.injEq, AV.bool.injEq, AV.sl.injEq, AV.agg.injEq, AV.ip.injEq, AV.fn.injEq, AV.ifc.injEq, AV.mpr.injEq, Int.natCast_inj, and_true, true_and] at h
  simp_all only
noncomputable def S13 : FSpec := funS e13 p13 r13 g13 true
theorem ps13 (s : (Bytes)) (p : (Bytes)) : psel e13 p13 [.str s, .str p] = (s.length ≤ 4194304 ∧ p.length ≤ 4194304) := psel_at inj13 p13 (s, p)
theorem rs13 (s : (Bytes)) (p : (Bytes)) : rsel e13 r13 .any [.str s, .str p] = (.bool (decide (p.length ≤ s.length) && (s.take p.length == p))) := rsel_at inj13 r13 .any (s, p)
theorem hs13 (s : (Bytes)) (p : (Bytes)) : rsel e13 g13 [] [.str s, .str p] = ([]) := rsel_at inj13 g13 [] (s, p)
attribute [push_cast] S13 ps13 rs13 hs13
theorem body13 (Γ : Env) (h21 : Γ 19 = some S21) (s p : Bytes) (h : s.length ≤ 4194304 ∧ p.length ≤ 4194304) : BodyOk Tryz.prog Γ Tryz.f9 (e13 (s, p)) [] (.bool (decide (p.length ≤ s.length) && (s.take p.length == p))) [] := by
  (intro X hP hΓ hL hfin; refine ⟨_, rfl, ?_⟩; rw [show Tryz.f9.ntmps = 8 from rfl]; rw [show Tryz.f9.results.toList = [.tmp 4] from rfl] at hfin; apply holds_of_ex X 400; simp (maxSteps := 1000000) only [push_cast, reduceCtorEq, Nat.reduceAdd, Nat.reduceMul, Nat.reduceSub, Nat.reduceBEq, Nat.reduceGT, Nat.reduceLT, Int.toNat_zero, Nat.reduceLeDiff, Int.reduceEq, Int.reduceLT, Int.reduceLE, hP, hΓ, hL, hfin, String.reduceEq, not_false_eq_true, if_true, e13, h21])
  exact ⟨h, Into.one rfl rfl⟩
theorem con13 {Γ : Env} (h : EnvOk Tryz.prog Γ) (h21 : Γ 19 = some S21) : Con Tryz.prog 9 S13 :=
  funS_con h (fn := Tryz.f9) (by kernel_rfl) rfl (by kernel_rfl) inj13 (by first | (intro h; cases h; done) | exact fun _ _ => rfl) fun ⟨s, p⟩ h => body13 Γ h21 s p h
def sufB (s p : Bytes) : Bool := decide (p.length ≤ s.length) && (s.drop (s.length - p.length) == p)
def e56 : (Bytes) × (Bytes) → List AV := fun (s, p) => [.str s, .str p]
def p56 : (Bytes) × (Bytes) → Prop := fun (s, p) => s.length ≤ 4194304 ∧ p.length ≤ 4194304
def r56 : (Bytes) × (Bytes) → AV := fun (s, p) => .bool (sufB s p)
def g56 : (Bytes) × (Bytes) → Heap := fun (s, p) => []
theorem inj56 : ∀ a b, e56 a = e56 b → a = b := by
  rintro ⟨s, p⟩ ⟨s', p'⟩ h
  simp only [e56, mi_iff, ms_iff, mb_iff, my_iff, UInt8.toNat_inj, List.cons.injEq, AV.int.injEq, AV.str.injEq, AV.bool.injEq, AV.sl.injEq, AV.agg.injEq, AV.ip.injEq, AV.fn.injEq, AV.ifc.injEq, AV.mpr.injEq, Int.natCast_inj, and_true, true_and] at h
  simp_all only
noncomputable def S56 : FSpec := funS e56 p56 r56 g56 true
theorem ps56 (s : (Bytes)) (p : (Bytes)) : psel e56 p56 [.str s, .str p] = (s.length ≤ 4194304 ∧ p.length ≤ 4194304) := psel_at inj56 p56 (s, p)
theorem rs56 (s : (Bytes)) (p : (Bytes)) : rsel e56 r56 .any [.str s, .str p] = (.bool (sufB s p)) := rsel_at inj56 r56 .any (s, p)
theorem hs56 (s : (Bytes)) (p : (Bytes)) : rsel e56 g56 [] [.str s, .str p] = ([]) := rsel_at inj56 g56 [] (s, p)
attribute [push_cast] S56 ps56 rs56 hs56
theorem body56 (Γ : Env) (s p : Bytes) (h : s.length ≤ 4194304 ∧ p.length ≤ 4194304) : BodyOk Tryz.prog Γ Tryz.f68 (e56 (s, p)) [] (.bool (sufB s p)) [] := by
  (intro X hP hΓ hL hfin; refine ⟨_, rfl, ?_⟩; rw [show Tryz.f68.ntmps = 21 from rfl]; rw [show Tryz.f68.results.toList = [.tmp 4] from rfl] at hfin; apply holds_of_ex X 400; simp (maxSteps := 1000000) only [push_cast, reduceCtorEq, Nat.reduceAdd, Nat.reduceMul, Nat.reduceSub, Nat.reduceBEq, Nat.reduceGT, Nat.reduceLT, Int.toNat_zero, Nat.reduceLeDiff, Int.reduceEq, Int.reduceLT, Int.reduceLE, hP, hΓ, hL, hfin, String.reduceEq, not_false_eq_true, if_true, e56, wr_i64 ((s.length : Int) - p.length) (by constructor <;> omega)])
  refine ⟨fun h => by have := of_decide_eq_true h; omega, Into.one ?_ rfl⟩
  rw [sufB, List.take_length, show ((s.length : Int) - p.length).toNat = s.length - p.length by omega, show decide (((p.length : Nat) : Int) ≤ (s.length : Nat)) = decide (p.length ≤ s.length) by simp]
theorem con56 {Γ : Env} (h : EnvOk Tryz.prog Γ)  : Con Tryz.prog 68 S56 :=
  funS_con h (fn := Tryz.f68) (by kernel_rfl) rfl (by kernel_rfl) inj56 (by first | (intro h; cases h; done) | exact fun _ _ => rfl) fun ⟨s, p⟩ h => body56 Γ s p h
def e41 : (Bytes) × (Bytes) → List AV := fun (s, p) => [.str s, .str p]
def p41 : (Bytes) × (Bytes) → Prop := fun (s, p) => s.length ≤ 4194304 ∧ p.length ≤ 4194304
def r41 : (Bytes) × (Bytes) → AV := fun (s, p) => .tup [.str (if sufB s p then s.take (s.length - p.length) else s), .bool (sufB s p)]
def g41 : (Bytes) × (Bytes) → Heap := fun (s, p) => []
theorem inj41 : ∀ a b, e41 a = e41 b → a = b := by
  rintro ⟨s, p⟩ ⟨s', p'⟩ h
  simp only [e41, mi_iff, ms_iff, mb_iff, my_iff, UInt8.toNat_inj, List.cons.injEq, AV.int.injEq, AV.str.injEq, AV.bool.injEq, AV.sl.injEq, AV.agg.injEq, AV.ip.injEq, AV.fn.injEq, AV.ifc.injEq, AV.mpr.injEq, Int.natCast_inj, and_true, true_and] at h
  simp_all only
noncomputable def S41 : FSpec := funS e41 p41 r41 g41 true
theorem ps41 (s : (Bytes)) (p : (Bytes)) : psel e41 p41 [.str s, .str p] = (s.length ≤ 4194304 ∧ p.length ≤ 4194304) := psel_at inj41 p41 (s, p)
theorem rs41 (s : (Bytes)) (p : (Bytes)) : rsel e41 r41 .any [.str s, .str p] = (.tup [.str (if sufB s p then s.take (s.length - p.length) else s), .bool (sufB s p)]) := rsel_at inj41 r41 .any (s, p)
theorem hs41 (s : (Bytes)) (p : (Bytes)) : rsel e41 g41 [] [.str s, .str p] = ([]) := rsel_at inj41 g41 [] (s, p)
attribute [push_cast] S41 ps41 rs41 hs41
theorem body41 (Γ : Env) (h56 : Γ 68 = some S56) (s p : Bytes) (h : s.length ≤ 4194304 ∧ p.length ≤ 4194304) : BodyOk Tryz.prog Γ Tryz.f52 (e41 (s, p)) [] (.tup [.str (if sufB s p then s.take (s.length - p.length) else s), .bool (sufB s p)]) [] := by
  (intro X hP hΓ hL hfin; refine ⟨_, rfl, ?_⟩; rw [show Tryz.f52.ntmps = 18 from rfl]; rw [show Tryz.f52.results.toList = [.tmp 4, .tmp 5] from rfl] at hfin; apply holds_of_ex X 400; simp (maxSteps := 1000000) only [push_cast, reduceCtorEq, Nat.reduceAdd, Nat.reduceMul, Nat.reduceSub, Nat.reduceBEq, Nat.reduceGT, Nat.reduceLT, Int.toNat_zero, Nat.reduceLeDiff, Int.reduceEq, Int.reduceLT, Int.reduceLE, hP, hΓ, hL, hfin, String.reduceEq, not_false_eq_true, if_true, e41, h56, wr_i64 ((s.length : Int) - p.length) (by constructor <;> omega)])
  refine ⟨h, ?_⟩
  ((with_reducible refine exB_split (fun h => ?_) (fun h => ?_)) <;> (try simp only [decide_eq_true_eq, decide_eq_false_iff_not, Bool.and_eq_true, Bool.or_eq_true, Bool.and_eq_false_iff, Bool.or_eq_false_iff, Bool.not_eq_true', Bool.not_eq_false', Bool.not_eq_true, Bool.not_eq_false, Int.not_lt, Int.not_le, beq_iff_eq, beq_eq_false_iff_ne, ne_eq] at h))
  · ((first | with_reducible refine holds_of_ex X 400 _ _ _ ?_ | skip); simp (maxSteps := 1000000) only [push_cast, reduceCtorEq, Nat.reduceAdd, Nat.reduceMul, Nat.reduceSub, Nat.reduceBEq, Nat.reduceGT, Nat.reduceLT, Int.toNat_zero, Nat.reduceLeDiff, Int.reduceEq, Int.reduceLT, Int.reduceLE, hP, hΓ, hL, hfin, String.reduceEq, not_false_eq_true, if_true])
    rw [h, if_neg (by simp)]
    exact Into.sameA
  · have hl : p.length ≤ s.length := by simp only [sufB, Bool.and_eq_true, decide_eq_true_eq] at h; exact h.1
    ((first | with_reducible refine holds_of_ex X 400 _ _ _ ?_ | skip); simp (maxSteps := 1000000) only [push_cast, reduceCtorEq, Nat.reduceAdd, Nat.reduceMul, Nat.reduceSub, Nat.reduceBEq, Nat.reduceGT, Nat.reduceLT, Int.toNat_zero, Nat.reduceLeDiff, Int.reduceEq, Int.reduceLT, Int.reduceLE, hP, hΓ, hL, hfin, String.reduceEq, not_false_eq_true, if_true, wr_i64 ((s.length : Int) - p.length) (by constructor <;> omega)])
    rw [h, if_pos rfl, show ((s.length : Int) - p.length).toNat = s.length - p.length by omega]
    exact ⟨by omega, by exact Into.sameA⟩
theorem con41 {Γ : Env} (h : EnvOk Tryz.prog Γ) (h56 : Γ 68 = some S56) : Con Tryz.prog 52 S41 :=
  funS_con h (fn := Tryz.f52) (by kernel_rfl) rfl (by kernel_rfl) inj41 (by first | (intro h; cases h; done) | exact fun _ _ => rfl) fun ⟨s, p⟩ h => body41 Γ h56 s p h
def e32 : (Bytes) × (Bytes) → List AV := fun (s, p) => [.str s, .str p]
def p32 : (Bytes) × (Bytes) → Prop := fun (s, p) => s.length ≤ 4194304 ∧ p.length ≤ 4194304
def r32 : (Bytes) × (Bytes) → AV := fun (s, p) => .tup [.str (if sufB s p then s.take (s.length - p.length) else s), .bool (sufB s p)]
def g32 : (Bytes) × (Bytes) → Heap := fun (s, p) => []
theorem inj32 : ∀ a b, e32 a = e32 b → a = b := by
  rintro ⟨s, p⟩ ⟨s', p'⟩ h
  simp only [e32, mi_iff, ms_iff, mb_iff, my_iff, UInt8.toNat_inj, List.cons.injEq, AV.int.injEq, AV.str.injEq, AV.bool.injEq, AV.sl.injEq, AV.agg.injEq, AV.ip.injEq, AV.fn.injEq, AV.ifc.injEq, AV.mpr.injEq, Int.natCast_inj, and_true, true_and] at h
  simp_all only
noncomputable def S32 : FSpec := funS e32 p32 r32 g32 true
theorem ps32 (s : (Bytes)) (p : (Bytes)) : psel e32 p32 [.str s, .str p] = (s.length ≤ 4194304 ∧ p.length ≤ 4194304) := psel_at inj32 p32 (s, p)
theorem rs32 (s : (Bytes)) (p : (Bytes)) : rsel e32 r32 .any [.str s, .str p] = (.tup [.str (if sufB s p then s.take (s.length - p.length) else s), .bool (sufB s p)]) := rsel_at inj32 r32 .any (s, p)
theorem hs32 (s : (Bytes)) (p : (Bytes)) : rsel e32 g32 [] [.str s, .str p] = ([]) := rsel_at inj32 g32 [] (s, p)
attribute [push_cast] S32 ps32 rs32 hs32
theorem body32 (Γ : Env) (h41 : Γ 52 = some S41) (s p : Bytes) (h : s.length ≤ 4194304 ∧ p.length ≤ 4194304) : BodyOk Tryz.prog Γ Tryz.f40 (e32 (s, p)) [] (.tup [.str (if sufB s p then s.take (s.length - p.length) else s), .bool (sufB s p)]) [] := by
  (intro X hP hΓ hL hfin; refine ⟨_, rfl, ?_⟩; rw [show Tryz.f40.ntmps = 11 from rfl]; rw [show Tryz.f40.results.toList = [.tmp 4, .tmp 5] from rfl] at hfin; apply holds_of_ex X 400; simp (maxSteps := 1000000) only [push_cast, reduceCtorEq, Nat.reduceAdd, Nat.reduceMul, Nat.reduceSub, Nat.reduceBEq, Nat.reduceGT, Nat.reduceLT, Int.toNat_zero, Nat.reduceLeDiff, Int.reduceEq, Int.reduceLT, Int.reduceLE, hP, hΓ, hL, hfin, String.reduceEq, not_false_eq_true, if_true, e32, h41])
  exact ⟨h, by exact Into.sameA⟩
theorem con32 {Γ : Env} (h : EnvOk Tryz.prog Γ) (h41 : Γ 52 = some S41) : Con Tryz.prog 40 S32 :=
  funS_con h (fn := Tryz.f40) (by kernel_rfl) rfl (by kernel_rfl) inj32 (by first | (intro h; cases h; done) | exact fun _ _ => rfl) fun ⟨s, p⟩ h => body32 Γ h41 s p h
theorem lower_or (c : UInt8) : ibits .or .u8 (c.toNat : Int) 32 = ((c ||| 32).toNat : Int) := by
  have : ∀ i : Fin 256, ibits .or .u8 ((UInt8.ofNat i.1).toNat : Int) 32 = ((UInt8.ofNat i.1 ||| 32).toNat : Int) := by decide +kernel
  have h := this ⟨c.toNat, c.toNat_lt⟩
  simpa using h
def e57 : (UInt8) → List AV := fun c => [.int .u8 c.toNat]
def p57 : (UInt8) → Prop := fun c => True
def r57 : (UInt8) → AV := fun c => .int .u8 (c ||| 32).toNat
def g57 : (UInt8) → Heap := fun c => []
theorem inj57 : ∀ a b, e57 a = e57 b → a = b := by
  rintro c c' h
  simp only [e57, mi_iff, ms_iff, mb_iff, my_iff, UInt8.toNat_inj, List.cons.injEq, AV.int.injEq, AV.str.injEq, AV.bool.injEq, AV.sl.injEq, AV.agg.injEq, AV.ip.injEq, AV.fn.injEq, AV.ifc.injEq, AV.mpr.injEq, Int.natCast_inj, and_true, true_and] at h
  simp_all only
noncomputable def S57 : FSpec := funS e57 p57 r57 g57 true
theorem ps57 (c : (UInt8)) : psel e57 p57 [.int .u8 c.toNat] = (True) := psel_at inj57 p57 c
theorem rs57 (c : (UInt8)) : rsel e57 r57 .any [.int .u8 c.toNat] = (.int .u8 (c ||| 32).toNat) := rsel_at inj57 r57 .any c
theorem hs57 (c : (UInt8)) : rsel e57 g57 [] [.int .u8 c.toNat] = ([]) := rsel_at inj57 g57 [] c
attribute [push_cast] S57 ps57 rs57 hs57
theorem body57 (Γ : Env) (c : UInt8) : BodyOk Tryz.prog Γ Tryz.f69 (e57 c) [] (.int .u8 (c ||| 32).toNat) [] := by
  (intro X hP hΓ hL hfin; refine ⟨_, rfl, ?_⟩; rw [show Tryz.f69.ntmps = 5 from rfl]; rw [show Tryz.f69.results.toList = [.tmp 2] from rfl] at hfin; apply holds_of_ex X 400; simp (maxSteps := 1000000) only [push_cast, reduceCtorEq, Nat.reduceAdd, Nat.reduceMul, Nat.reduceSub, Nat.reduceBEq, Nat.reduceGT, Nat.reduceLT, Int.toNat_zero, Nat.reduceLeDiff, Int.reduceEq, Int.reduceLT, Int.reduceLE, hP, hΓ, hL, hfin, String.reduceEq, not_false_eq_true, if_true, e57])
  exact Into.one (by rw [lower_or]) rfl
theorem con57 {Γ : Env} (h : EnvOk Tryz.prog Γ)  : Con Tryz.prog 69 S57 :=
  funS_con h (fn := Tryz.f69) (by kernel_rfl) rfl (by kernel_rfl) inj57 (by first | (intro h; cases h; done) | exact fun _ _ => rfl) fun c _ => body57 Γ c
/-- strings.TrimLeft, strings.ToUpper, errors of numbers: the kit's contracts joined -/
def e12 : (Bytes) → List AV := fun s => [.str s, .str [32, 9, 10, 13]]
def p12 : (Bytes) → Prop := fun s => s.length ≤ 4194304
def r12 : (Bytes) → AV := fun s => .str (skipB s)
def g12 : (Bytes) → Heap := fun s => []
theorem inj12 : ∀ a b, e12 a = e12 b → a = b := by
  rintro s s' h
  simp only [e12, mi_iff, ms_iff, mb_iff, my_iff, UInt8.toNat_inj, List.cons.injEq, AV.int.injEq, AV.str.injEq, AV.bool.injEq, AV.sl.injEq, AV.agg.injEq, AV.ip.injEq, AV.fn.injEq, AV.ifc.injEq, AV.mpr.injEq, Int.natCast_inj, and_true, true_and] at h
  simp_all only
noncomputable def S12 : FSpec := funS e12 p12 r12 g12 true
theorem ps12 (s : (Bytes)) : psel e12 p12 [.str s, .str [32, 9, 10, 13]] = (s.length ≤ 4194304) := psel_at inj12 p12 s
theorem rs12 (s : (Bytes)) : rsel e12 r12 .any [.str s, .str [32, 9, 10, 13]] = (.str (skipB s)) := rsel_at inj12 r12 .any s
theorem hs12 (s : (Bytes)) : rsel e12 g12 [] [.str s, .str [32, 9, 10, 13]] = ([]) := rsel_at inj12 g12 [] s
attribute [push_cast] S12 ps12 rs12 hs12
theorem trim_skip : ∀ s : Bytes, Lib.trimLeftS s [32, 9, 10, 13] = skipB s := by
  intro s
  have : (fun b : UInt8 => ([32, 9, 10, 13] : Bytes).contains b) = Go.Scan.blank := by
    funext b
    simp only [Go.Scan.blank, Bool.or_assoc, List.contains_cons, List.contains_nil, Bool.or_false]
  unfold Lib.trimLeftS skipB
  rw [this]
theorem con12 : Con Tryz.prog 8 S12 := by
  refine funS_below (fn := Tryz.f8) (by kernel_rfl) rfl (by kernel_rfl) inj12 (fun _ => rfl) fun m w s vs hW hx hp => ?_
  simp only [e12, CRel, VRel] at hx
  obtain ⟨_, _, rfl, rfl, _, _, rfl, rfl, rfl⟩ := hx
  have := Any.strings_TrimLeft_laid Tryz.lays161 (by kernel_rfl) ⟨s.toArray⟩ ⟨#[32, 9, 10, 13]⟩ w (by decide) (ascii_of_all (by decide))
  refine Calls.mono (show Calls Tryz.prog 8 #[.string ⟨s.toArray⟩, .string ⟨#[32, 9, 10, 13]⟩] w _ from this) ?_
  rintro e w' ⟨rfl, hb⟩
  refine ⟨_, rfl, ?_, hb⟩
  simp only [r12, VRel, ← trim_skip]
def e34 : (Bytes) → List AV := fun s => [.str s]
def p34 : (Bytes) → Prop := fun s => s.length ≤ 4194304 ∧ ∀ c ∈ s, c.toNat < 128
def r34 : (Bytes) → AV := fun s => .str (Lib.toUpperA s)
def g34 : (Bytes) → Heap := fun s => []
theorem inj34 : ∀ a b, e34 a = e34 b → a = b := by
  rintro s s' h
  simp only [e34, mi_iff, ms_iff, mb_iff, my_iff, UInt8.toNat_inj, List.cons.injEq, AV.int.injEq, AV.str.injEq, AV.bool.injEq, AV.sl.injEq, AV.agg.injEq, AV.ip.injEq, AV.fn.injEq, AV.ifc.injEq, AV.mpr.injEq, Int.natCast_inj, and_true, true_and] at h
  simp_all only
noncomputable def S34 : FSpec := funS e34 p34 r34 g34 true
theorem ps34 (s : (Bytes)) : psel e34 p34 [.str s] = (s.length ≤ 4194304 ∧ ∀ c ∈ s, c.toNat < 128) := psel_at inj34 p34 s
theorem rs34 (s : (Bytes)) : rsel e34 r34 .any [.str s] = (.str (Lib.toUpperA s)) := rsel_at inj34 r34 .any s
theorem hs34 (s : (Bytes)) : rsel e34 g34 [] [.str s] = ([]) := rsel_at inj34 g34 [] s
attribute [push_cast] S34 ps34 rs34 hs34
theorem con34 : Con Tryz.prog 42 S34 := by
  refine funS_below (fn := Tryz.f42) (by kernel_rfl) rfl (by kernel_rfl) inj34 (fun _ => rfl) fun m w s vs hW hx hp => ?_
  simp only [e34, CRel, VRel] at hx
  obtain ⟨_, _, rfl, rfl, rfl⟩ := hx
  refine Calls.mono (Tryz.strings_ToUpper_ascii ⟨s.toArray⟩ w (by have := hp.1; simp [ByteArray.size]; omega) (fun j b hb => hp.2 b (List.mem_of_getElem? (by simpa using hb)))) ?_
  rintro e w' ⟨rfl, hb⟩
  refine ⟨_, rfl, ?_, hb⟩
  simp only [r34, VRel]
/-- the errors -/
def e43 : (Bytes) × (Bytes) × (Int) × (Int) × (Int) → List AV := fun (fn, s, b, z, k) => [.str fn, .str s, .int .i64 b, .int .i64 z, .ifc 101 (.int .i64 k)]
def p43 : (Bytes) × (Bytes) × (Int) × (Int) × (Int) → Prop := fun (fn, s, b, z, k) => s.length ≤ 4194304 ∧ (k = 1 ∨ k = 2)
def r43 : (Bytes) × (Bytes) × (Int) × (Int) × (Int) → AV := fun (fn, s, b, z, k) => .ifc 103 .any
def g43 : (Bytes) × (Bytes) × (Int) × (Int) × (Int) → Heap := fun (fn, s, b, z, k) => []
theorem inj43 : ∀ a b, e43 a = e43 b → a = b := by
  rintro ⟨fn, s, b, z, k⟩ ⟨fn', s', b', z', k'⟩ h
  simp only [e43, mi_iff, ms_iff, mb_iff, my_iff, UInt8.toNat_inj, List.cons.injEq, AV.int.injEq, AV.str.injEq, AV.bool.injEq, AV.sl.injEq, AV.agg.injEq, AV.ip.injEq, AV.fn.injEq, AV.ifc.injEq, AV.mpr.injEq, Int.natCast_inj, and_true, true_and] at h
  simp_all only
noncomputable def S43 : FSpec := funS e43 p43 r43 g43 true
theorem ps43 (fn : (Bytes)) (s : (Bytes)) (b : (Int)) (z : (Int)) (k : (Int)) : psel e43 p43 [.str fn, .str s, .int .i64 b, .int .i64 z, .ifc 101 (.int .i64 k)] = (s.length ≤ 4194304 ∧ (k = 1 ∨ k = 2)) := psel_at inj43 p43 (fn, s, b, z, k)
theorem rs43 (fn : (Bytes)) (s : (Bytes)) (b : (Int)) (z : (Int)) (k : (Int)) : rsel e43 r43 .any [.str fn, .str s, .int .i64 b, .int .i64 z, .ifc 101 (.int .i64 k)] = (.ifc 103 .any) := rsel_at inj43 r43 .any (fn, s, b, z, k)
theorem hs43 (fn : (Bytes)) (s : (Bytes)) (b : (Int)) (z : (Int)) (k : (Int)) : rsel e43 g43 [] [.str fn, .str s, .int .i64 b, .int .i64 z, .ifc 101 (.int .i64 k)] = ([]) := rsel_at inj43 g43 [] (fn, s, b, z, k)
attribute [push_cast] S43 ps43 rs43 hs43
theorem con43 : Con Tryz.prog 54 S43 := by
  refine funS_below (fn := Tryz.f54) (by kernel_rfl) rfl (by kernel_rfl) inj43 (fun _ => rfl) fun m w a vs hW hx hp => ?_
  obtain ⟨fn, s, b, z, k⟩ := a
  simp only [e43, CRel, VRel] at hx
  obtain ⟨_, _, rfl, rfl, _, _, rfl, rfl, _, _, rfl, rfl, _, _, rfl, rfl, _, _, rfl, ⟨_, rfl, rfl⟩, rfl⟩ := hx
  obtain ⟨hs, hk⟩ := hp
  have hsz : (⟨s.toArray⟩ : ByteArray).size ≤ 281474976710656 := by simp [ByteArray.size]; omega
  have fin : ∀ e w', (∃ N, e = Ending.returned (.iface 103 (.pointer (some ⟨N, 0, none⟩))) ∧ w.heap.size ≤ N ∧ (∃ o, w'.heap[N]? = some o) ∧ Below w.heap.size w w') → ∃ v, e = .returned v ∧ VRel m [] (r43 (fn, s, b, z, k)) v ∧ Below w.heap.size w w' := by
    rintro e w' ⟨N, rfl, _, _, hb⟩
    exact ⟨_, rfl, by simp [r43, VRel], hb⟩
  rcases hk with rfl | rfl
  · obtain ⟨t, x, hg⟩ := glob_cell hW (g := 4) (by decide)
    refine Calls.mono (Tryz.strconv_toError_range ⟨fn.toArray⟩ ⟨s.toArray⟩ b z _ w hsz hg (.inr ⟨t, x, rfl⟩)) ?_
    rintro e w' ⟨N, h1, h2, h3, h4⟩
    exact fin e w' ⟨N, h1, h2, ⟨_, h3⟩, h4⟩
  · obtain ⟨t, x, hg⟩ := glob_cell hW (g := 3) (by decide)
    refine Calls.mono (Tryz.strconv_toError_syntax ⟨fn.toArray⟩ ⟨s.toArray⟩ b z _ w hsz hg (.inr ⟨t, x, rfl⟩)) ?_
    rintro e w' ⟨N, h1, h2, h3, h4⟩
    exact fin e w' ⟨N, h1, h2, ⟨_, h3⟩, h4⟩
def puE (x : Nat × Nat) : AV := if x.2 = 0 then .lit .nilIface else .ifc 101 (.int .i64 x.2)
theorem puE0 (n : Nat) : puE (n, 0) = .lit .nilIface := rfl
theorem puE1 (n : Nat) : puE (n, 1) = .ifc 101 (.int .i64 1) := rfl
theorem puE2 (n : Nat) : puE (n, 2) = .ifc 101 (.int .i64 2) := rfl
theorem u8_in (n : Int) (h : 0 ≤ n ∧ n < 256) : IntKind.u8.wrap n = n := by simp [IntKind.wrap, IntKind.bits, IntKind.signed]; omega
theorem u64_in (n : Int) (h : 0 ≤ n ∧ n < 18446744073709551616) : IntKind.u64.wrap n = n := by simp [IntKind.wrap, IntKind.bits, IntKind.signed]; omega
theorem u8_10 : IntKind.u8.wrap 10 = 10 := rfl
theorem u8_16 : IntKind.u8.wrap 16 = 16 := rfl
theorem u64_10 : IntKind.u64.wrap 10 = 10 := rfl
theorem u64_16 : IntKind.u64.wrap 16 = 16 := rfl
theorem u64_mod (n : Int) : IntKind.u64.wrap n = n % 18446744073709551616 := by simp [IntKind.wrap, IntKind.bits, IntKind.signed]
theorem cut_10 : cutN 10 = 1844674407370955162 := rfl
theorem cut_16 : cutN 16 = 1152921504606846976 := rfl
theorem u64most : IntKind.u64.wrap (IntKind.u64.wrap (1 * 2 ^ min (IntKind.u64.wrap 64).toNat IntKind.u64.bits) - 1) = 18446744073709551615 := by decide
/-- one digit more -/
theorem puF_at (b : Nat) (s : Bytes) (k n : Nat) (h : k < s.length) : puF b n (s.drop k) = if b ≤ puD (s.getD k 0) then (0, 2) else if cutN b ≤ n then (18446744073709551615, 1) else if 18446744073709551616 ≤ b * n + puD (s.getD k 0) then (18446744073709551615, 1) else puF b (b * n + puD (s.getD k 0)) (s.drop (k + 1)) := by
  rw [List.drop_eq_getElem_cons h, puF]
  simp [List.getD, h]
/-- what is never called -/
def e58 : (Bytes) → List AV := fun s => [.str s]
def p58 : (Bytes) → Prop := fun s => False
def r58 : (Bytes) → AV := fun s => .bool false
def g58 : (Bytes) → Heap := fun s => []
theorem inj58 : ∀ a b, e58 a = e58 b → a = b := by
  rintro s s' h
  simp only [e58, mi_iff, ms_iff, mb_iff, my_iff, UInt8.toNat_inj, List.cons.injEq, AV.int.injEq, AV.str.injEq, AV.bool.injEq, AV.sl.injEq, AV.agg.injEq, AV.ip.injEq, AV.fn.injEq, AV.ifc.injEq, AV.mpr.injEq, Int.natCast_inj, and_true, true_and] at h
  simp_all only
noncomputable def S58 : FSpec := funS e58 p58 r58 g58 true
theorem ps58 (s : (Bytes)) : psel e58 p58 [.str s] = (False) := psel_at inj58 p58 s
theorem rs58 (s : (Bytes)) : rsel e58 r58 .any [.str s] = (.bool false) := rsel_at inj58 r58 .any s
theorem hs58 (s : (Bytes)) : rsel e58 g58 [] [.str s] = ([]) := rsel_at inj58 g58 [] s
attribute [push_cast] S58 ps58 rs58 hs58
theorem con58 : Con Tryz.prog 70 S58 := funS_below (fn := Tryz.f70) (by kernel_rfl) rfl (by kernel_rfl) inj58 (fun _ => rfl) fun _ _ _ _ _ _ hp => hp.elim
def e42 : (Bytes) × (Int) → List AV := fun (s, b) => [.str s, .int .i64 b, .int .i64 64]
def p42 : (Bytes) × (Int) → Prop := fun (s, b) => s.length ≤ 4194304 ∧ (b = 10 ∨ b = 16)
def r42 : (Bytes) × (Int) → AV := fun (s, b) => .tup [.int .u64 (puR s b.toNat).1, puE (puR s b.toNat)]
def g42 : (Bytes) × (Int) → Heap := fun (s, b) => []
theorem inj42 : ∀ a b, e42 a = e42 b → a = b := by
  rintro ⟨s, b⟩ ⟨s', b'⟩ h
  simp only [e42, mi_iff, ms_iff, mb_iff, my_iff, UInt8.toNat_inj, List.cons.injEq, AV.int.injEq, AV.str.injEq, AV.bool.injEq, AV.sl.injEq, AV.agg.injEq, AV.ip.injEq, AV.fn.injEq, AV.ifc.injEq, AV.mpr.injEq, Int.natCast_inj, and_true, true_and] at h
  simp_all only
noncomputable def S42 : FSpec := funS e42 p42 r42 g42 true
theorem ps42 (s : (Bytes)) (b : (Int)) : psel e42 p42 [.str s, .int .i64 b, .int .i64 64] = (s.length ≤ 4194304 ∧ (b = 10 ∨ b = 16)) := psel_at inj42 p42 (s, b)
theorem rs42 (s : (Bytes)) (b : (Int)) : rsel e42 r42 .any [.str s, .int .i64 b, .int .i64 64] = (.tup [.int .u64 (puR s b.toNat).1, puE (puR s b.toNat)]) := rsel_at inj42 r42 .any (s, b)
theorem hs42 (s : (Bytes)) (b : (Int)) : rsel e42 g42 [] [.str s, .int .i64 b, .int .i64 64] = ([]) := rsel_at inj42 g42 [] (s, b)
attribute [push_cast] S42 ps42 rs42 hs42
theorem body42_10 (Γ : Env) (h57 : Γ 69 = some S57) (h58 : Γ 70 = some S58) (s : Bytes) (hs : s.length ≤ 4194304) : BodyOk Tryz.prog Γ Tryz.f53 (e42 (s, 10)) [] (.tup [.int .u64 (puR s 10).1, puE (puR s 10)]) [] := by
  (intro X hP hΓ hL hfin; refine ⟨_, rfl, ?_⟩; rw [show Tryz.f53.ntmps = 172 from rfl]; rw [show Tryz.f53.results.toList = [.tmp 6, .tmp 7] from rfl] at hfin; apply holds_of_ex X 400; simp (maxSteps := 1000000) only [push_cast, reduceCtorEq, Nat.reduceAdd, Nat.reduceMul, Nat.reduceSub, Nat.reduceBEq, Nat.reduceGT, Nat.reduceLT, Int.toNat_zero, Nat.reduceLeDiff, Int.reduceEq, Int.reduceLT, Int.reduceLE, hP, hΓ, hL, hfin, String.reduceEq, not_false_eq_true, if_true, e42, h57])
  ((with_reducible refine exB_split (fun h => ?_) (fun h => ?_)) <;> (try simp only [decide_eq_true_eq, decide_eq_false_iff_not, Bool.and_eq_true, Bool.or_eq_true, Bool.and_eq_false_iff, Bool.or_eq_false_iff, Bool.not_eq_true', Bool.not_eq_false', Bool.not_eq_true, Bool.not_eq_false, Int.not_lt, Int.not_le, beq_iff_eq, beq_eq_false_iff_ne, ne_eq] at h))
  · obtain rfl := h
    ((first | with_reducible refine holds_of_ex X 400 _ _ _ ?_ | skip); simp (maxSteps := 1000000) only [push_cast, reduceCtorEq, Nat.reduceAdd, Nat.reduceMul, Nat.reduceSub, Nat.reduceBEq, Nat.reduceGT, Nat.reduceLT, Int.toNat_zero, Nat.reduceLeDiff, Int.reduceEq, Int.reduceLT, Int.reduceLE, hP, hΓ, hL, hfin, String.reduceEq, not_false_eq_true, if_true])
    rw [show puR [] 10 = (0, 2) from rfl, puE2]
    exact Into.sameA
  have hR : puR s 10 = puF 10 0 s := by rw [puR, if_neg h]
  ((first | with_reducible refine holds_of_ex X 400 _ _ _ ?_ | skip); simp (maxSteps := 1000000) only [push_cast, reduceCtorEq, Nat.reduceAdd, Nat.reduceMul, Nat.reduceSub, Nat.reduceBEq, Nat.reduceGT, Nat.reduceLT, Int.toNat_zero, Nat.reduceLeDiff, Int.reduceEq, Int.reduceLT, Int.reduceLE, hP, hΓ, hL, hfin, String.reduceEq, not_false_eq_true, if_true, u64most])
  refine ⟨by decide, by omega, ?_⟩
  refine Holds.loopM (ι := {x : Nat × Nat // x.1 ≤ s.length ∧ x.2 < 18446744073709551616 ∧ puF 10 0 s = puF 10 x.2 (s.drop x.1)}) [false, true, false, false, false, false, false, false, true, true, true, true, false, false, false, false, false, false, false, false, false, false, false, false, false, false, false, false, false, false, false, false, false, false, false, false, false, false, false, false, false, false, false, false, false, false, false, false, false, false, false, false, false, false, false, false, false, false, false, false, false, false, false, false, false, false, false, false, false, false, false, false, false, false, false, false, false, false, false, false, false, false, false, false, false, false, false, false, false, false, false, false, false, false, false, false, false, false, false, true, true, false, false, false, false, false, false, false, false, false, false, false, false, false, false, false, false, false, false, false, false, false, false, false, false, false, false, false, false, false, false, false, false, false, false, false, false, false, false, false, false, false, false, false, false, false, false, false, false, false, false, false, false, false, false, false, false, false, false, false, false, false, false, false, false, false, false, false, false, false, false, false] (fun i => [(12, .bool false), (13, .int .u64 i.1.2), (101, .int .i64 i.1.1)]) (fun i => [.row (s.map byteAV) 1 0]) (fun i => s.length - i.1.1) ⟨(0, 0), Nat.zero_le _, by decide, rfl⟩ ?_ ?_
  · (rw [hL]; simp only [push_cast, Int.natCast_zero]; exact Into.sameA)
  rintro ⟨⟨k, n⟩, hk, hn, he⟩
  simp only at hk hn he
  ((first | with_reducible refine holds_of_ex X 400 _ _ _ ?_ | skip); simp (maxSteps := 1000000) only [push_cast, reduceCtorEq, Nat.reduceAdd, Nat.reduceMul, Nat.reduceSub, Nat.reduceBEq, Nat.reduceGT, Nat.reduceLT, Int.toNat_zero, Nat.reduceLeDiff, Int.reduceEq, Int.reduceLT, Int.reduceLE, hP, hΓ, hL, hfin, String.reduceEq, not_false_eq_true, if_true])
  ((with_reducible refine exB_split (fun h => ?_) (fun h => ?_)) <;> (try simp only [decide_eq_true_eq, decide_eq_false_iff_not, Bool.and_eq_true, Bool.or_eq_true, Bool.and_eq_false_iff, Bool.or_eq_false_iff, Bool.not_eq_true', Bool.not_eq_false', Bool.not_eq_true, Bool.not_eq_false, Int.not_lt, Int.not_le, beq_iff_eq, beq_eq_false_iff_ne, ne_eq] at h))
  · have hk' : k < s.length := by omega
    rw [puF_at _ _ _ _ hk'] at he
    have hc := (s.getD k 0).toNat_lt
    have hc2 := (s.getD k 0 ||| 32).toNat_lt
    ((first | with_reducible refine holds_of_ex X 400 _ _ _ ?_ | skip); simp (maxSteps := 1000000) only [push_cast, reduceCtorEq, Nat.reduceAdd, Nat.reduceMul, Nat.reduceSub, Nat.reduceBEq, Nat.reduceGT, Nat.reduceLT, Int.toNat_zero, Nat.reduceLeDiff, Int.reduceEq, Int.reduceLT, Int.reduceLE, hP, hΓ, hL, hfin, String.reduceEq, not_false_eq_true, if_true, hk', h57, Bool.and_false])
    refine ⟨by omega, ⟨by omega, by omega⟩, ?_⟩
    ((with_reducible refine exB_split (fun h => ?_) (fun h => ?_)) <;> (try simp only [decide_eq_true_eq, decide_eq_false_iff_not, Bool.and_eq_true, Bool.or_eq_true, Bool.and_eq_false_iff, Bool.or_eq_false_iff, Bool.not_eq_true', Bool.not_eq_false', Bool.not_eq_true, Bool.not_eq_false, Int.not_lt, Int.not_le, beq_iff_eq, beq_eq_false_iff_ne, ne_eq] at h))
    rotate_left
    · ((first | with_reducible refine holds_of_ex X 400 _ _ _ ?_ | skip); simp (maxSteps := 1000000) only [push_cast, reduceCtorEq, Nat.reduceAdd, Nat.reduceMul, Nat.reduceSub, Nat.reduceBEq, Nat.reduceGT, Nat.reduceLT, Int.toNat_zero, Nat.reduceLeDiff, Int.reduceEq, Int.reduceLT, Int.reduceLE, hP, hΓ, hL, hfin, String.reduceEq, not_false_eq_true, if_true, h57, Bool.and_false])
      ((with_reducible refine exB_split (fun h => ?_) (fun h => ?_)) <;> (try simp only [decide_eq_true_eq, decide_eq_false_iff_not, Bool.and_eq_true, Bool.or_eq_true, Bool.and_eq_false_iff, Bool.or_eq_false_iff, Bool.not_eq_true', Bool.not_eq_false', Bool.not_eq_true, Bool.not_eq_false, Int.not_lt, Int.not_le, beq_iff_eq, beq_eq_false_iff_ne, ne_eq] at h))
      rotate_left
      · have hd : puD (s.getD k 0) = 99 := by rw [puD, if_neg (by omega), if_neg (by omega)]
        rw [hd, if_pos (by decide)] at he
        ((first | with_reducible refine holds_of_ex X 400 _ _ _ ?_ | skip); simp (maxSteps := 1000000) only [push_cast, reduceCtorEq, Nat.reduceAdd, Nat.reduceMul, Nat.reduceSub, Nat.reduceBEq, Nat.reduceGT, Nat.reduceLT, Int.toNat_zero, Nat.reduceLeDiff, Int.reduceEq, Int.reduceLT, Int.reduceLE, hP, hΓ, hL, hfin, String.reduceEq, not_false_eq_true, if_true, h57])
        rw [hR, he, puE2]
        exact Into.keep0A
      have hd : IntKind.u8.wrap (IntKind.u8.wrap (((s.getD k 0 ||| 32).toNat : Int) - 97) + 10) = (puD (s.getD k 0) : Int) := by rw [u8_in (_ - 97) (by omega), u8_in _ (by omega), puD, if_neg (by omega), if_pos (by omega)]; omega
      ((first | with_reducible refine holds_of_ex X 400 _ _ _ ?_ | skip); simp (maxSteps := 1000000) only [push_cast, reduceCtorEq, Nat.reduceAdd, Nat.reduceMul, Nat.reduceSub, Nat.reduceBEq, Nat.reduceGT, Nat.reduceLT, Int.toNat_zero, Nat.reduceLeDiff, Int.reduceEq, Int.reduceLT, Int.reduceLE, hP, hΓ, hL, hfin, String.reduceEq, not_false_eq_true, if_true, h57, hd, u8_10])
      ((with_reducible refine exB_split (fun h => ?_) (fun h => ?_)) <;> (try simp only [decide_eq_true_eq, decide_eq_false_iff_not, Bool.and_eq_true, Bool.or_eq_true, Bool.and_eq_false_iff, Bool.or_eq_false_iff, Bool.not_eq_true', Bool.not_eq_false', Bool.not_eq_true, Bool.not_eq_false, Int.not_lt, Int.not_le, beq_iff_eq, beq_eq_false_iff_ne, ne_eq] at h))
      · rw [if_pos (by omega)] at he
        ((first | with_reducible refine holds_of_ex X 400 _ _ _ ?_ | skip); simp (maxSteps := 1000000) only [push_cast, reduceCtorEq, Nat.reduceAdd, Nat.reduceMul, Nat.reduceSub, Nat.reduceBEq, Nat.reduceGT, Nat.reduceLT, Int.toNat_zero, Nat.reduceLeDiff, Int.reduceEq, Int.reduceLT, Int.reduceLE, hP, hΓ, hL, hfin, String.reduceEq, not_false_eq_true, if_true])
        rw [hR, he, puE2]
        exact Into.keep0A
      rw [if_neg (by omega), cut_10] at he
      ((first | with_reducible refine holds_of_ex X 400 _ _ _ ?_ | skip); simp (maxSteps := 1000000) only [push_cast, reduceCtorEq, Nat.reduceAdd, Nat.reduceMul, Nat.reduceSub, Nat.reduceBEq, Nat.reduceGT, Nat.reduceLT, Int.toNat_zero, Nat.reduceLeDiff, Int.reduceEq, Int.reduceLT, Int.reduceLE, hP, hΓ, hL, hfin, String.reduceEq, not_false_eq_true, if_true])
      ((with_reducible refine exB_split (fun h => ?_) (fun h => ?_)) <;> (try simp only [decide_eq_true_eq, decide_eq_false_iff_not, Bool.and_eq_true, Bool.or_eq_true, Bool.and_eq_false_iff, Bool.or_eq_false_iff, Bool.not_eq_true', Bool.not_eq_false', Bool.not_eq_true, Bool.not_eq_false, Int.not_lt, Int.not_le, beq_iff_eq, beq_eq_false_iff_ne, ne_eq] at h))
      · rw [if_pos (by omega)] at he
        ((first | with_reducible refine holds_of_ex X 400 _ _ _ ?_ | skip); simp (maxSteps := 1000000) only [push_cast, reduceCtorEq, Nat.reduceAdd, Nat.reduceMul, Nat.reduceSub, Nat.reduceBEq, Nat.reduceGT, Nat.reduceLT, Int.toNat_zero, Nat.reduceLeDiff, Int.reduceEq, Int.reduceLT, Int.reduceLE, hP, hΓ, hL, hfin, String.reduceEq, not_false_eq_true, if_true])
        rw [hR, he, puE1]
        exact Into.keep0A
      rw [if_neg (by omega)] at he
      ((first | with_reducible refine holds_of_ex X 400 _ _ _ ?_ | skip); simp (maxSteps := 1000000) only [push_cast, reduceCtorEq, Nat.reduceAdd, Nat.reduceMul, Nat.reduceSub, Nat.reduceBEq, Nat.reduceGT, Nat.reduceLT, Int.toNat_zero, Nat.reduceLeDiff, Int.reduceEq, Int.reduceLT, Int.reduceLE, hP, hΓ, hL, hfin, String.reduceEq, not_false_eq_true, if_true, u64_10, u64_in ((n : Int) * 10) (by omega), u64_in (puD (s.getD k 0) : Int) (by omega)])
      ((with_reducible refine exB_split (fun h => ?_) (fun h => ?_)) <;> (try simp only [decide_eq_true_eq, decide_eq_false_iff_not, Bool.and_eq_true, Bool.or_eq_true, Bool.and_eq_false_iff, Bool.or_eq_false_iff, Bool.not_eq_true', Bool.not_eq_false', Bool.not_eq_true, Bool.not_eq_false, Int.not_lt, Int.not_le, beq_iff_eq, beq_eq_false_iff_ne, ne_eq] at h))
      · rw [u64_mod] at h
        rw [if_pos (by omega)] at he
        ((first | with_reducible refine holds_of_ex X 400 _ _ _ ?_ | skip); simp (maxSteps := 1000000) only [push_cast, reduceCtorEq, Nat.reduceAdd, Nat.reduceMul, Nat.reduceSub, Nat.reduceBEq, Nat.reduceGT, Nat.reduceLT, Int.toNat_zero, Nat.reduceLeDiff, Int.reduceEq, Int.reduceLT, Int.reduceLE, hP, hΓ, hL, hfin, String.reduceEq, not_false_eq_true, if_true])
        rw [hR, he, puE1]
        exact Into.keep0A
      rw [u64_mod] at h
      rw [if_neg (by omega)] at he
      ((first | with_reducible refine holds_of_ex X 400 _ _ _ ?_ | skip); simp (maxSteps := 1000000) only [push_cast, reduceCtorEq, Nat.reduceAdd, Nat.reduceMul, Nat.reduceSub, Nat.reduceBEq, Nat.reduceGT, Nat.reduceLT, Int.toNat_zero, Nat.reduceLeDiff, Int.reduceEq, Int.reduceLT, Int.reduceLE, hP, hΓ, hL, hfin, String.reduceEq, not_false_eq_true, if_true, u64_in ((n : Int) * 10 + puD (s.getD k 0)) (by omega), wr_i64 ((k : Int) + 1) (by constructor <;> omega)])
      refine ⟨⟨(k + 1, 10 * n + puD (s.getD k 0)), by omega, by omega, he⟩, by simp only; omega, ?_⟩
      simp only [show ((10 * n + puD (s.getD k 0) : Nat) : Int) = (n : Int) * 10 + puD (s.getD k 0) by omega, show ((k + 1 : Nat) : Int) = (k : Int) + 1 by omega]
      exact Into.sameA
    have hd : IntKind.u8.wrap (((s.getD k 0).toNat : Int) - 48) = (puD (s.getD k 0) : Int) := by rw [u8_in _ (by omega), puD, if_pos (by omega)]; omega
    ((first | with_reducible refine holds_of_ex X 400 _ _ _ ?_ | skip); simp (maxSteps := 1000000) only [push_cast, reduceCtorEq, Nat.reduceAdd, Nat.reduceMul, Nat.reduceSub, Nat.reduceBEq, Nat.reduceGT, Nat.reduceLT, Int.toNat_zero, Nat.reduceLeDiff, Int.reduceEq, Int.reduceLT, Int.reduceLE, hP, hΓ, hL, hfin, String.reduceEq, not_false_eq_true, if_true, h57, hd, u8_10])
    ((with_reducible refine exB_split (fun h => ?_) (fun h => ?_)) <;> (try simp only [decide_eq_true_eq, decide_eq_false_iff_not, Bool.and_eq_true, Bool.or_eq_true, Bool.and_eq_false_iff, Bool.or_eq_false_iff, Bool.not_eq_true', Bool.not_eq_false', Bool.not_eq_true, Bool.not_eq_false, Int.not_lt, Int.not_le, beq_iff_eq, beq_eq_false_iff_ne, ne_eq] at h))
    · rw [if_pos (by omega)] at he
      ((first | with_reducible refine holds_of_ex X 400 _ _ _ ?_ | skip); simp (maxSteps := 1000000) only [push_cast, reduceCtorEq, Nat.reduceAdd, Nat.reduceMul, Nat.reduceSub, Nat.reduceBEq, Nat.reduceGT, Nat.reduceLT, Int.toNat_zero, Nat.reduceLeDiff, Int.reduceEq, Int.reduceLT, Int.reduceLE, hP, hΓ, hL, hfin, String.reduceEq, not_false_eq_true, if_true])
      rw [hR, he, puE2]
      exact Into.keep0A
    rw [if_neg (by omega), cut_10] at he
    ((first | with_reducible refine holds_of_ex X 400 _ _ _ ?_ | skip); simp (maxSteps := 1000000) only [push_cast, reduceCtorEq, Nat.reduceAdd, Nat.reduceMul, Nat.reduceSub, Nat.reduceBEq, Nat.reduceGT, Nat.reduceLT, Int.toNat_zero, Nat.reduceLeDiff, Int.reduceEq, Int.reduceLT, Int.reduceLE, hP, hΓ, hL, hfin, String.reduceEq, not_false_eq_true, if_true])
    ((with_reducible refine exB_split (fun h => ?_) (fun h => ?_)) <;> (try simp only [decide_eq_true_eq, decide_eq_false_iff_not, Bool.and_eq_true, Bool.or_eq_true, Bool.and_eq_false_iff, Bool.or_eq_false_iff, Bool.not_eq_true', Bool.not_eq_false', Bool.not_eq_true, Bool.not_eq_false, Int.not_lt, Int.not_le, beq_iff_eq, beq_eq_false_iff_ne, ne_eq] at h))
    · rw [if_pos (by omega)] at he
      ((first | with_reducible refine holds_of_ex X 400 _ _ _ ?_ | skip); simp (maxSteps := 1000000) only [push_cast, reduceCtorEq, Nat.reduceAdd, Nat.reduceMul, Nat.reduceSub, Nat.reduceBEq, Nat.reduceGT, Nat.reduceLT, Int.toNat_zero, Nat.reduceLeDiff, Int.reduceEq, Int.reduceLT, Int.reduceLE, hP, hΓ, hL, hfin, String.reduceEq, not_false_eq_true, if_true])
      rw [hR, he, puE1]
      exact Into.keep0A
    rw [if_neg (by omega)] at he
    ((first | with_reducible refine holds_of_ex X 400 _ _ _ ?_ | skip); simp (maxSteps := 1000000) only [push_cast, reduceCtorEq, Nat.reduceAdd, Nat.reduceMul, Nat.reduceSub, Nat.reduceBEq, Nat.reduceGT, Nat.reduceLT, Int.toNat_zero, Nat.reduceLeDiff, Int.reduceEq, Int.reduceLT, Int.reduceLE, hP, hΓ, hL, hfin, String.reduceEq, not_false_eq_true, if_true, u64_10, u64_in ((n : Int) * 10) (by omega), u64_in (puD (s.getD k 0) : Int) (by omega)])
    ((with_reducible refine exB_split (fun h => ?_) (fun h => ?_)) <;> (try simp only [decide_eq_true_eq, decide_eq_false_iff_not, Bool.and_eq_true, Bool.or_eq_true, Bool.and_eq_false_iff, Bool.or_eq_false_iff, Bool.not_eq_true', Bool.not_eq_false', Bool.not_eq_true, Bool.not_eq_false, Int.not_lt, Int.not_le, beq_iff_eq, beq_eq_false_iff_ne, ne_eq] at h))
    · rw [u64_mod] at h
      rw [if_pos (by omega)] at he
      ((first | with_reducible refine holds_of_ex X 400 _ _ _ ?_ | skip); simp (maxSteps := 1000000) only [push_cast, reduceCtorEq, Nat.reduceAdd, Nat.reduceMul, Nat.reduceSub, Nat.reduceBEq, Nat.reduceGT, Nat.reduceLT, Int.toNat_zero, Nat.reduceLeDiff, Int.reduceEq, Int.reduceLT, Int.reduceLE, hP, hΓ, hL, hfin, String.reduceEq, not_false_eq_true, if_true])
      rw [hR, he, puE1]
      exact Into.keep0A
    rw [u64_mod] at h
    rw [if_neg (by omega)] at he
    ((first | with_reducible refine holds_of_ex X 400 _ _ _ ?_ | skip); simp (maxSteps := 1000000) only [push_cast, reduceCtorEq, Nat.reduceAdd, Nat.reduceMul, Nat.reduceSub, Nat.reduceBEq, Nat.reduceGT, Nat.reduceLT, Int.toNat_zero, Nat.reduceLeDiff, Int.reduceEq, Int.reduceLT, Int.reduceLE, hP, hΓ, hL, hfin, String.reduceEq, not_false_eq_true, if_true, u64_in ((n : Int) * 10 + puD (s.getD k 0)) (by omega), wr_i64 ((k : Int) + 1) (by constructor <;> omega)])
    refine ⟨⟨(k + 1, 10 * n + puD (s.getD k 0)), by omega, by omega, he⟩, by simp only; omega, ?_⟩
    simp only [show ((10 * n + puD (s.getD k 0) : Nat) : Int) = (n : Int) * 10 + puD (s.getD k 0) by omega, show ((k + 1 : Nat) : Int) = (k : Int) + 1 by omega]
    exact Into.sameA
  · obtain rfl : k = s.length := by omega
    rw [List.drop_length, puF] at he
    ((first | with_reducible refine holds_of_ex X 400 _ _ _ ?_ | skip); simp (maxSteps := 1000000) only [push_cast, reduceCtorEq, Nat.reduceAdd, Nat.reduceMul, Nat.reduceSub, Nat.reduceBEq, Nat.reduceGT, Nat.reduceLT, Int.toNat_zero, Nat.reduceLeDiff, Int.reduceEq, Int.reduceLT, Int.reduceLE, hP, hΓ, hL, hfin, String.reduceEq, not_false_eq_true, if_true, h58])
    rw [hR, he, puE0]
    exact Into.keep0A
theorem body42_16 (Γ : Env) (h57 : Γ 69 = some S57) (h58 : Γ 70 = some S58) (s : Bytes) (hs : s.length ≤ 4194304) : BodyOk Tryz.prog Γ Tryz.f53 (e42 (s, 16)) [] (.tup [.int .u64 (puR s 16).1, puE (puR s 16)]) [] := by
  (intro X hP hΓ hL hfin; refine ⟨_, rfl, ?_⟩; rw [show Tryz.f53.ntmps = 172 from rfl]; rw [show Tryz.f53.results.toList = [.tmp 6, .tmp 7] from rfl] at hfin; apply holds_of_ex X 400; simp (maxSteps := 1000000) only [push_cast, reduceCtorEq, Nat.reduceAdd, Nat.reduceMul, Nat.reduceSub, Nat.reduceBEq, Nat.reduceGT, Nat.reduceLT, Int.toNat_zero, Nat.reduceLeDiff, Int.reduceEq, Int.reduceLT, Int.reduceLE, hP, hΓ, hL, hfin, String.reduceEq, not_false_eq_true, if_true, e42, h57])
  ((with_reducible refine exB_split (fun h => ?_) (fun h => ?_)) <;> (try simp only [decide_eq_true_eq, decide_eq_false_iff_not, Bool.and_eq_true, Bool.or_eq_true, Bool.and_eq_false_iff, Bool.or_eq_false_iff, Bool.not_eq_true', Bool.not_eq_false', Bool.not_eq_true, Bool.not_eq_false, Int.not_lt, Int.not_le, beq_iff_eq, beq_eq_false_iff_ne, ne_eq] at h))
  · obtain rfl := h
    ((first | with_reducible refine holds_of_ex X 400 _ _ _ ?_ | skip); simp (maxSteps := 1000000) only [push_cast, reduceCtorEq, Nat.reduceAdd, Nat.reduceMul, Nat.reduceSub, Nat.reduceBEq, Nat.reduceGT, Nat.reduceLT, Int.toNat_zero, Nat.reduceLeDiff, Int.reduceEq, Int.reduceLT, Int.reduceLE, hP, hΓ, hL, hfin, String.reduceEq, not_false_eq_true, if_true])
    rw [show puR [] 16 = (0, 2) from rfl, puE2]
    exact Into.sameA
  have hR : puR s 16 = puF 16 0 s := by rw [puR, if_neg h]
  ((first | with_reducible refine holds_of_ex X 400 _ _ _ ?_ | skip); simp (maxSteps := 1000000) only [push_cast, reduceCtorEq, Nat.reduceAdd, Nat.reduceMul, Nat.reduceSub, Nat.reduceBEq, Nat.reduceGT, Nat.reduceLT, Int.toNat_zero, Nat.reduceLeDiff, Int.reduceEq, Int.reduceLT, Int.reduceLE, hP, hΓ, hL, hfin, String.reduceEq, not_false_eq_true, if_true, u64most])
  refine ⟨by decide, by omega, ?_⟩
  refine Holds.loopM (ι := {x : Nat × Nat // x.1 ≤ s.length ∧ x.2 < 18446744073709551616 ∧ puF 16 0 s = puF 16 x.2 (s.drop x.1)}) [false, true, false, false, false, false, false, false, true, true, true, true, false, false, false, false, false, false, false, false, false, false, false, false, false, false, false, false, false, false, false, false, false, false, false, false, false, false, false, false, false, false, false, false, false, false, false, false, false, false, false, false, false, false, false, false, false, false, false, false, false, false, false, false, false, false, false, false, false, false, false, false, false, false, false, false, false, false, false, false, false, false, false, false, false, false, false, false, false, false, false, false, false, false, false, false, false, false, false, true, true, false, false, false, false, false, false, false, false, false, false, false, false, false, false, false, false, false, false, false, false, false, false, false, false, false, false, false, false, false, false, false, false, false, false, false, false, false, false, false, false, false, false, false, false, false, false, false, false, false, false, false, false, false, false, false, false, false, false, false, false, false, false, false, false, false, false, false, false, false, false, false] (fun i => [(12, .bool false), (13, .int .u64 i.1.2), (101, .int .i64 i.1.1)]) (fun i => [.row (s.map byteAV) 1 0]) (fun i => s.length - i.1.1) ⟨(0, 0), Nat.zero_le _, by decide, rfl⟩ ?_ ?_
  · (rw [hL]; simp only [push_cast, Int.natCast_zero]; exact Into.sameA)
  rintro ⟨⟨k, n⟩, hk, hn, he⟩
  simp only at hk hn he
  ((first | with_reducible refine holds_of_ex X 400 _ _ _ ?_ | skip); simp (maxSteps := 1000000) only [push_cast, reduceCtorEq, Nat.reduceAdd, Nat.reduceMul, Nat.reduceSub, Nat.reduceBEq, Nat.reduceGT, Nat.reduceLT, Int.toNat_zero, Nat.reduceLeDiff, Int.reduceEq, Int.reduceLT, Int.reduceLE, hP, hΓ, hL, hfin, String.reduceEq, not_false_eq_true, if_true])
  ((with_reducible refine exB_split (fun h => ?_) (fun h => ?_)) <;> (try simp only [decide_eq_true_eq, decide_eq_false_iff_not, Bool.and_eq_true, Bool.or_eq_true, Bool.and_eq_false_iff, Bool.or_eq_false_iff, Bool.not_eq_true', Bool.not_eq_false', Bool.not_eq_true, Bool.not_eq_false, Int.not_lt, Int.not_le, beq_iff_eq, beq_eq_false_iff_ne, ne_eq] at h))
  · have hk' : k < s.length := by omega
    rw [puF_at _ _ _ _ hk'] at he
    have hc := (s.getD k 0).toNat_lt
    have hc2 := (s.getD k 0 ||| 32).toNat_lt
    ((first | with_reducible refine holds_of_ex X 400 _ _ _ ?_ | skip); simp (maxSteps := 1000000) only [push_cast, reduceCtorEq, Nat.reduceAdd, Nat.reduceMul, Nat.reduceSub, Nat.reduceBEq, Nat.reduceGT, Nat.reduceLT, Int.toNat_zero, Nat.reduceLeDiff, Int.reduceEq, Int.reduceLT, Int.reduceLE, hP, hΓ, hL, hfin, String.reduceEq, not_false_eq_true, if_true, hk', h57, Bool.and_false])
    refine ⟨by omega, ⟨by omega, by omega⟩, ?_⟩
    ((with_reducible refine exB_split (fun h => ?_) (fun h => ?_)) <;> (try simp only [decide_eq_true_eq, decide_eq_false_iff_not, Bool.and_eq_true, Bool.or_eq_true, Bool.and_eq_false_iff, Bool.or_eq_false_iff, Bool.not_eq_true', Bool.not_eq_false', Bool.not_eq_true, Bool.not_eq_false, Int.not_lt, Int.not_le, beq_iff_eq, beq_eq_false_iff_ne, ne_eq] at h))
    rotate_left
    · ((first | with_reducible refine holds_of_ex X 400 _ _ _ ?_ | skip); simp (maxSteps := 1000000) only [push_cast, reduceCtorEq, Nat.reduceAdd, Nat.reduceMul, Nat.reduceSub, Nat.reduceBEq, Nat.reduceGT, Nat.reduceLT, Int.toNat_zero, Nat.reduceLeDiff, Int.reduceEq, Int.reduceLT, Int.reduceLE, hP, hΓ, hL, hfin, String.reduceEq, not_false_eq_true, if_true, h57, Bool.and_false])
      ((with_reducible refine exB_split (fun h => ?_) (fun h => ?_)) <;> (try simp only [decide_eq_true_eq, decide_eq_false_iff_not, Bool.and_eq_true, Bool.or_eq_true, Bool.and_eq_false_iff, Bool.or_eq_false_iff, Bool.not_eq_true', Bool.not_eq_false', Bool.not_eq_true, Bool.not_eq_false, Int.not_lt, Int.not_le, beq_iff_eq, beq_eq_false_iff_ne, ne_eq] at h))
      rotate_left
      · have hd : puD (s.getD k 0) = 99 := by rw [puD, if_neg (by omega), if_neg (by omega)]
        rw [hd, if_pos (by decide)] at he
        ((first | with_reducible refine holds_of_ex X 400 _ _ _ ?_ | skip); simp (maxSteps := 1000000) only [push_cast, reduceCtorEq, Nat.reduceAdd, Nat.reduceMul, Nat.reduceSub, Nat.reduceBEq, Nat.reduceGT, Nat.reduceLT, Int.toNat_zero, Nat.reduceLeDiff, Int.reduceEq, Int.reduceLT, Int.reduceLE, hP, hΓ, hL, hfin, String.reduceEq, not_false_eq_true, if_true, h57])
        rw [hR, he, puE2]
        exact Into.keep0A
      have hd : IntKind.u8.wrap (IntKind.u8.wrap (((s.getD k 0 ||| 32).toNat : Int) - 97) + 10) = (puD (s.getD k 0) : Int) := by rw [u8_in (_ - 97) (by omega), u8_in _ (by omega), puD, if_neg (by omega), if_pos (by omega)]; omega
      ((first | with_reducible refine holds_of_ex X 400 _ _ _ ?_ | skip); simp (maxSteps := 1000000) only [push_cast, reduceCtorEq, Nat.reduceAdd, Nat.reduceMul, Nat.reduceSub, Nat.reduceBEq, Nat.reduceGT, Nat.reduceLT, Int.toNat_zero, Nat.reduceLeDiff, Int.reduceEq, Int.reduceLT, Int.reduceLE, hP, hΓ, hL, hfin, String.reduceEq, not_false_eq_true, if_true, h57, hd, u8_16])
      ((with_reducible refine exB_split (fun h => ?_) (fun h => ?_)) <;> (try simp only [decide_eq_true_eq, decide_eq_false_iff_not, Bool.and_eq_true, Bool.or_eq_true, Bool.and_eq_false_iff, Bool.or_eq_false_iff, Bool.not_eq_true', Bool.not_eq_false', Bool.not_eq_true, Bool.not_eq_false, Int.not_lt, Int.not_le, beq_iff_eq, beq_eq_false_iff_ne, ne_eq] at h))
      · rw [if_pos (by omega)] at he
        ((first | with_reducible refine holds_of_ex X 400 _ _ _ ?_ | skip); simp (maxSteps := 1000000) only [push_cast, reduceCtorEq, Nat.reduceAdd, Nat.reduceMul, Nat.reduceSub, Nat.reduceBEq, Nat.reduceGT, Nat.reduceLT, Int.toNat_zero, Nat.reduceLeDiff, Int.reduceEq, Int.reduceLT, Int.reduceLE, hP, hΓ, hL, hfin, String.reduceEq, not_false_eq_true, if_true])
        rw [hR, he, puE2]
        exact Into.keep0A
      rw [if_neg (by omega), cut_16] at he
      ((first | with_reducible refine holds_of_ex X 400 _ _ _ ?_ | skip); simp (maxSteps := 1000000) only [push_cast, reduceCtorEq, Nat.reduceAdd, Nat.reduceMul, Nat.reduceSub, Nat.reduceBEq, Nat.reduceGT, Nat.reduceLT, Int.toNat_zero, Nat.reduceLeDiff, Int.reduceEq, Int.reduceLT, Int.reduceLE, hP, hΓ, hL, hfin, String.reduceEq, not_false_eq_true, if_true])
      ((with_reducible refine exB_split (fun h => ?_) (fun h => ?_)) <;> (try simp only [decide_eq_true_eq, decide_eq_false_iff_not, Bool.and_eq_true, Bool.or_eq_true, Bool.and_eq_false_iff, Bool.or_eq_false_iff, Bool.not_eq_true', Bool.not_eq_false', Bool.not_eq_true, Bool.not_eq_false, Int.not_lt, Int.not_le, beq_iff_eq, beq_eq_false_iff_ne, ne_eq] at h))
      · rw [if_pos (by omega)] at he
        ((first | with_reducible refine holds_of_ex X 400 _ _ _ ?_ | skip); simp (maxSteps := 1000000) only [push_cast, reduceCtorEq, Nat.reduceAdd, Nat.reduceMul, Nat.reduceSub, Nat.reduceBEq, Nat.reduceGT, Nat.reduceLT, Int.toNat_zero, Nat.reduceLeDiff, Int.reduceEq, Int.reduceLT, Int.reduceLE, hP, hΓ, hL, hfin, String.reduceEq, not_false_eq_true, if_true])
        rw [hR, he, puE1]
        exact Into.keep0A
      rw [if_neg (by omega)] at he
      ((first | with_reducible refine holds_of_ex X 400 _ _ _ ?_ | skip); simp (maxSteps := 1000000) only [push_cast, reduceCtorEq, Nat.reduceAdd, Nat.reduceMul, Nat.reduceSub, Nat.reduceBEq, Nat.reduceGT, Nat.reduceLT, Int.toNat_zero, Nat.reduceLeDiff, Int.reduceEq, Int.reduceLT, Int.reduceLE, hP, hΓ, hL, hfin, String.reduceEq, not_false_eq_true, if_true, u64_16, u64_in ((n : Int) * 16) (by omega), u64_in (puD (s.getD k 0) : Int) (by omega)])
      ((with_reducible refine exB_split (fun h => ?_) (fun h => ?_)) <;> (try simp only [decide_eq_true_eq, decide_eq_false_iff_not, Bool.and_eq_true, Bool.or_eq_true, Bool.and_eq_false_iff, Bool.or_eq_false_iff, Bool.not_eq_true', Bool.not_eq_false', Bool.not_eq_true, Bool.not_eq_false, Int.not_lt, Int.not_le, beq_iff_eq, beq_eq_false_iff_ne, ne_eq] at h))
      · rw [u64_mod] at h
        rw [if_pos (by omega)] at he
        ((first | with_reducible refine holds_of_ex X 400 _ _ _ ?_ | skip); simp (maxSteps := 1000000) only [push_cast, reduceCtorEq, Nat.reduceAdd, Nat.reduceMul, Nat.reduceSub, Nat.reduceBEq, Nat.reduceGT, Nat.reduceLT, Int.toNat_zero, Nat.reduceLeDiff, Int.reduceEq, Int.reduceLT, Int.reduceLE, hP, hΓ, hL, hfin, String.reduceEq, not_false_eq_true, if_true])
        rw [hR, he, puE1]
        exact Into.keep0A
      rw [u64_mod] at h
      rw [if_neg (by omega)] at he
      ((first | with_reducible refine holds_of_ex X 400 _ _ _ ?_ | skip); simp (maxSteps := 1000000) only [push_cast, reduceCtorEq, Nat.reduceAdd, Nat.reduceMul, Nat.reduceSub, Nat.reduceBEq, Nat.reduceGT, Nat.reduceLT, Int.toNat_zero, Nat.reduceLeDiff, Int.reduceEq, Int.reduceLT, Int.reduceLE, hP, hΓ, hL, hfin, String.reduceEq, not_false_eq_true, if_true, u64_in ((n : Int) * 16 + puD (s.getD k 0)) (by omega), wr_i64 ((k : Int) + 1) (by constructor <;> omega)])
      refine ⟨⟨(k + 1, 16 * n + puD (s.getD k 0)), by omega, by omega, he⟩, by simp only; omega, ?_⟩
      simp only [show ((16 * n + puD (s.getD k 0) : Nat) : Int) = (n : Int) * 16 + puD (s.getD k 0) by omega, show ((k + 1 : Nat) : Int) = (k : Int) + 1 by omega]
      exact Into.sameA
    have hd : IntKind.u8.wrap (((s.getD k 0).toNat : Int) - 48) = (puD (s.getD k 0) : Int) := by rw [u8_in _ (by omega), puD, if_pos (by omega)]; omega
    ((first | with_reducible refine holds_of_ex X 400 _ _ _ ?_ | skip); simp (maxSteps := 1000000) only [push_cast, reduceCtorEq, Nat.reduceAdd, Nat.reduceMul, Nat.reduceSub, Nat.reduceBEq, Nat.reduceGT, Nat.reduceLT, Int.toNat_zero, Nat.reduceLeDiff, Int.reduceEq, Int.reduceLT, Int.reduceLE, hP, hΓ, hL, hfin, String.reduceEq, not_false_eq_true, if_true, h57, hd, u8_16])
    ((with_reducible refine exB_split (fun h => ?_) (fun h => ?_)) <;> (try simp only [decide_eq_true_eq, decide_eq_false_iff_not, Bool.and_eq_true, Bool.or_eq_true, Bool.and_eq_false_iff, Bool.or_eq_false_iff, Bool.not_eq_true', Bool.not_eq_false', Bool.not_eq_true, Bool.not_eq_false, Int.not_lt, Int.not_le, beq_iff_eq, beq_eq_false_iff_ne, ne_eq] at h))
    · rw [if_pos (by omega)] at he
      ((first | with_reducible refine holds_of_ex X 400 _ _ _ ?_ | skip); simp (maxSteps := 1000000) only [push_cast, reduceCtorEq, Nat.reduceAdd, Nat.reduceMul, Nat.reduceSub, Nat.reduceBEq, Nat.reduceGT, Nat.reduceLT, Int.toNat_zero, Nat.reduceLeDiff, Int.reduceEq, Int.reduceLT, Int.reduceLE, hP, hΓ, hL, hfin, String.reduceEq, not_false_eq_true, if_true])
      rw [hR, he, puE2]
      exact Into.keep0A
    rw [if_neg (by omega), cut_16] at he
    ((first | with_reducible refine holds_of_ex X 400 _ _ _ ?_ | skip); simp (maxSteps := 1000000) only [push_cast, reduceCtorEq, Nat.reduceAdd, Nat.reduceMul, Nat.reduceSub, Nat.reduceBEq, Nat.reduceGT, Nat.reduceLT, Int.toNat_zero, Nat.reduceLeDiff, Int.reduceEq, Int.reduceLT, Int.reduceLE, hP, hΓ, hL, hfin, String.reduceEq, not_false_eq_true, if_true])
    ((with_reducible refine exB_split (fun h => ?_) (fun h => ?_)) <;> (try simp only [decide_eq_true_eq, decide_eq_false_iff_not, Bool.and_eq_true, Bool.or_eq_true, Bool.and_eq_false_iff, Bool.or_eq_false_iff, Bool.not_eq_true', Bool.not_eq_false', Bool.not_eq_true, Bool.not_eq_false, Int.not_lt, Int.not_le, beq_iff_eq, beq_eq_false_iff_ne, ne_eq] at h))
    · rw [if_pos (by omega)] at he
      ((first | with_reducible refine holds_of_ex X 400 _ _ _ ?_ | skip); simp (maxSteps := 1000000) only [push_cast, reduceCtorEq, Nat.reduceAdd, Nat.reduceMul, Nat.reduceSub, Nat.reduceBEq, Nat.reduceGT, Nat.reduceLT, Int.toNat_zero, Nat.reduceLeDiff, Int.reduceEq, Int.reduceLT, Int.reduceLE, hP, hΓ, hL, hfin, String.reduceEq, not_false_eq_true, if_true])
      rw [hR, he, puE1]
      exact Into.keep0A
    rw [if_neg (by omega)] at he
    ((first | with_reducible refine holds_of_ex X 400 _ _ _ ?_ | skip); simp (maxSteps := 1000000) only [push_cast, reduceCtorEq, Nat.reduceAdd, Nat.reduceMul, Nat.reduceSub, Nat.reduceBEq, Nat.reduceGT, Nat.reduceLT, Int.toNat_zero, Nat.reduceLeDiff, Int.reduceEq, Int.reduceLT, Int.reduceLE, hP, hΓ, hL, hfin, String.reduceEq, not_false_eq_true, if_true, u64_16, u64_in ((n : Int) * 16) (by omega), u64_in (puD (s.getD k 0) : Int) (by omega)])
    ((with_reducible refine exB_split (fun h => ?_) (fun h => ?_)) <;> (try simp only [decide_eq_true_eq, decide_eq_false_iff_not, Bool.and_eq_true, Bool.or_eq_true, Bool.and_eq_false_iff, Bool.or_eq_false_iff, Bool.not_eq_true', Bool.not_eq_false', Bool.not_eq_true, Bool.not_eq_false, Int.not_lt, Int.not_le, beq_iff_eq, beq_eq_false_iff_ne, ne_eq] at h))
    · rw [u64_mod] at h
      rw [if_pos (by omega)] at he
      ((first | with_reducible refine holds_of_ex X 400 _ _ _ ?_ | skip); simp (maxSteps := 1000000) only [push_cast, reduceCtorEq, Nat.reduceAdd, Nat.reduceMul, Nat.reduceSub, Nat.reduceBEq, Nat.reduceGT, Nat.reduceLT, Int.toNat_zero, Nat.reduceLeDiff, Int.reduceEq, Int.reduceLT, Int.reduceLE, hP, hΓ, hL, hfin, String.reduceEq, not_false_eq_true, if_true])
      rw [hR, he, puE1]
      exact Into.keep0A
    rw [u64_mod] at h
    rw [if_neg (by omega)] at he
    ((first | with_reducible refine holds_of_ex X 400 _ _ _ ?_ | skip); simp (maxSteps := 1000000) only [push_cast, reduceCtorEq, Nat.reduceAdd, Nat.reduceMul, Nat.reduceSub, Nat.reduceBEq, Nat.reduceGT, Nat.reduceLT, Int.toNat_zero, Nat.reduceLeDiff, Int.reduceEq, Int.reduceLT, Int.reduceLE, hP, hΓ, hL, hfin, String.reduceEq, not_false_eq_true, if_true, u64_in ((n : Int) * 16 + puD (s.getD k 0)) (by omega), wr_i64 ((k : Int) + 1) (by constructor <;> omega)])
    refine ⟨⟨(k + 1, 16 * n + puD (s.getD k 0)), by omega, by omega, he⟩, by simp only; omega, ?_⟩
    simp only [show ((16 * n + puD (s.getD k 0) : Nat) : Int) = (n : Int) * 16 + puD (s.getD k 0) by omega, show ((k + 1 : Nat) : Int) = (k : Int) + 1 by omega]
    exact Into.sameA
  · obtain rfl : k = s.length := by omega
    rw [List.drop_length, puF] at he
    ((first | with_reducible refine holds_of_ex X 400 _ _ _ ?_ | skip); simp (maxSteps := 1000000) only [push_cast, reduceCtorEq, Nat.reduceAdd, Nat.reduceMul, Nat.reduceSub, Nat.reduceBEq, Nat.reduceGT, Nat.reduceLT, Int.toNat_zero, Nat.reduceLeDiff, Int.reduceEq, Int.reduceLT, Int.reduceLE, hP, hΓ, hL, hfin, String.reduceEq, not_false_eq_true, if_true, h58])
    rw [hR, he, puE0]
    exact Into.keep0A
theorem body42 (Γ : Env) (h57 : Γ 69 = some S57) (h58 : Γ 70 = some S58) (s : Bytes) (b : Int) (h : s.length ≤ 4194304 ∧ (b = 10 ∨ b = 16)) : BodyOk Tryz.prog Γ Tryz.f53 (e42 (s, b)) [] (.tup [.int .u64 (puR s b.toNat).1, puE (puR s b.toNat)]) [] := by
  obtain ⟨hs, rfl | rfl⟩ := h
  · exact body42_10 Γ h57 h58 s hs
  · exact body42_16 Γ h57 h58 s hs
theorem con42 {Γ : Env} (h : EnvOk Tryz.prog Γ) (h57 : Γ 69 = some S57) (h58 : Γ 70 = some S58) : Con Tryz.prog 53 S42 :=
  funS_con h (fn := Tryz.f53) (by kernel_rfl) rfl (by kernel_rfl) inj42 (by first | (intro h; cases h; done) | exact fun _ _ => rfl) fun ⟨s, b⟩ h => body42 Γ h57 h58 s b h
def puX (x : Nat × Nat) : AV := if x.2 = 0 then .lit .nilIface else .ifc 103 .any
def e33 : (Bytes) × (Int) → List AV := fun (s, b) => [.str s, .int .i64 b, .int .i64 64]
def p33 : (Bytes) × (Int) → Prop := fun (s, b) => s.length ≤ 4194304 ∧ (b = 10 ∨ b = 16)
def r33 : (Bytes) × (Int) → AV := fun (s, b) => .tup [.int .u64 (puR s b.toNat).1, puX (puR s b.toNat)]
def g33 : (Bytes) × (Int) → Heap := fun (s, b) => []
theorem inj33 : ∀ a b, e33 a = e33 b → a = b := by
  rintro ⟨s, b⟩ ⟨s', b'⟩ h
  simp only [e33, mi_iff, ms_iff, mb_iff, my_iff, UInt8.toNat_inj, List.cons.injEq, AV.int.injEq, AV.str.injEq, AV.bool.injEq, AV.sl.injEq, AV.agg.injEq, AV.ip.injEq, AV.fn.injEq, AV.ifc.injEq, AV.mpr.injEq, Int.natCast_inj, and_true, true_and] at h
  simp_all only
noncomputable def S33 : FSpec := funS e33 p33 r33 g33 true
theorem ps33 (s : (Bytes)) (b : (Int)) : psel e33 p33 [.str s, .int .i64 b, .int .i64 64] = (s.length ≤ 4194304 ∧ (b = 10 ∨ b = 16)) := psel_at inj33 p33 (s, b)
theorem rs33 (s : (Bytes)) (b : (Int)) : rsel e33 r33 .any [.str s, .int .i64 b, .int .i64 64] = (.tup [.int .u64 (puR s b.toNat).1, puX (puR s b.toNat)]) := rsel_at inj33 r33 .any (s, b)
theorem hs33 (s : (Bytes)) (b : (Int)) : rsel e33 g33 [] [.str s, .int .i64 b, .int .i64 64] = ([]) := rsel_at inj33 g33 [] (s, b)
attribute [push_cast] S33 ps33 rs33 hs33
theorem puR_e (s : Bytes) (b : Nat) : (puR s b).2 = 0 ∨ (puR s b).2 = 1 ∨ (puR s b).2 = 2 := by
  unfold puR
  split
  · simp
  · have : ∀ (s : Bytes) (n : Nat), (puF b n s).2 = 0 ∨ (puF b n s).2 = 1 ∨ (puF b n s).2 = 2 := by
      intro s
      induction s with
      | nil => intro n; simp [puF]
      | cons c r ih =>
        intro n
        rw [puF]
        split
        · simp
        split
        · simp
        split
        · simp
        · exact ih _
    exact this s 0
theorem body33 (Γ : Env) (h42 : Γ 53 = some S42) (h43 : Γ 54 = some S43) (s : Bytes) (b : Int) (h : s.length ≤ 4194304 ∧ (b = 10 ∨ b = 16)) : BodyOk Tryz.prog Γ Tryz.f41 (e33 (s, b)) [] (.tup [.int .u64 (puR s b.toNat).1, puX (puR s b.toNat)]) [] := by
  have he := puR_e s b.toNat
  generalize hx : puR s b.toNat = x at he
  obtain ⟨v, e⟩ := x
  simp only at he
  have hE : puE (puR s b.toNat) = puE (v, e) := by rw [hx]
  have hV : (puR s b.toNat).1 = v := by rw [hx]
  rcases he with rfl | rfl | rfl
  · (intro X hP hΓ hL hfin; refine ⟨_, rfl, ?_⟩; rw [show Tryz.f41.ntmps = 26 from rfl]; rw [show Tryz.f41.results.toList = [.tmp 6, .tmp 7] from rfl] at hfin; apply holds_of_ex X 400; simp (maxSteps := 1000000) only [push_cast, reduceCtorEq, Nat.reduceAdd, Nat.reduceMul, Nat.reduceSub, Nat.reduceBEq, Nat.reduceGT, Nat.reduceLT, Int.toNat_zero, Nat.reduceLeDiff, Int.reduceEq, Int.reduceLT, Int.reduceLE, hP, hΓ, hL, hfin, String.reduceEq, not_false_eq_true, if_true, e33, h42, h43, hV, hE, puE0])
    refine ⟨h, ?_⟩
    rw [show puX (v, 0) = .lit .nilIface from rfl]
    exact Into.sameA
  · (intro X hP hΓ hL hfin; refine ⟨_, rfl, ?_⟩; rw [show Tryz.f41.ntmps = 26 from rfl]; rw [show Tryz.f41.results.toList = [.tmp 6, .tmp 7] from rfl] at hfin; apply holds_of_ex X 400; simp (maxSteps := 1000000) only [push_cast, reduceCtorEq, Nat.reduceAdd, Nat.reduceMul, Nat.reduceSub, Nat.reduceBEq, Nat.reduceGT, Nat.reduceLT, Int.toNat_zero, Nat.reduceLeDiff, Int.reduceEq, Int.reduceLT, Int.reduceLE, hP, hΓ, hL, hfin, String.reduceEq, not_false_eq_true, if_true, e33, h42, h43, hV, hE, puE1])
    refine ⟨h, h.1, ?_⟩
    rw [show puX (v, 1) = .ifc 103 .any from rfl]
    exact Into.sameA
  · (intro X hP hΓ hL hfin; refine ⟨_, rfl, ?_⟩; rw [show Tryz.f41.ntmps = 26 from rfl]; rw [show Tryz.f41.results.toList = [.tmp 6, .tmp 7] from rfl] at hfin; apply holds_of_ex X 400; simp (maxSteps := 1000000) only [push_cast, reduceCtorEq, Nat.reduceAdd, Nat.reduceMul, Nat.reduceSub, Nat.reduceBEq, Nat.reduceGT, Nat.reduceLT, Int.toNat_zero, Nat.reduceLeDiff, Int.reduceEq, Int.reduceLT, Int.reduceLE, hP, hΓ, hL, hfin, String.reduceEq, not_false_eq_true, if_true, e33, h42, h43, hV, hE, puE2])
    refine ⟨h, h.1, ?_⟩
    rw [show puX (v, 2) = .ifc 103 .any from rfl]
    exact Into.sameA
theorem con33 {Γ : Env} (h : EnvOk Tryz.prog Γ) (h42 : Γ 53 = some S42) (h43 : Γ 54 = some S43) : Con Tryz.prog 41 S33 :=
  funS_con h (fn := Tryz.f41) (by kernel_rfl) rfl (by kernel_rfl) inj33 (by first | (intro h; cases h; done) | exact fun _ _ => rfl) fun ⟨s, b⟩ h => body33 Γ h42 h43 s b h
/-- the first place of a letter -/
def e71 : (Bytes) × (UInt8) → List AV := fun (l, c) => [.str l, .int .u8 c.toNat]
def p71 : (Bytes) × (UInt8) → Prop := fun (l, c) => l.length ≤ 4194304
def r71 : (Bytes) × (UInt8) → AV := fun (l, c) => .int .i64 (Lib.indexByte l c)
def g71 : (Bytes) × (UInt8) → Heap := fun (l, c) => []
theorem inj71 : ∀ a b, e71 a = e71 b → a = b := by
  rintro ⟨l, c⟩ ⟨l', c'⟩ h
  simp only [e71, mi_iff, ms_iff, mb_iff, my_iff, UInt8.toNat_inj, List.cons.injEq, AV.int.injEq, AV.str.injEq, AV.bool.injEq, AV.sl.injEq, AV.agg.injEq, AV.ip.injEq, AV.fn.injEq, AV.ifc.injEq, AV.mpr.injEq, Int.natCast_inj, and_true, true_and] at h
  simp_all only
noncomputable def S71 : FSpec := funS e71 p71 r71 g71 true
theorem ps71 (l : (Bytes)) (c : (UInt8)) : psel e71 p71 [.str l, .int .u8 c.toNat] = (l.length ≤ 4194304) := psel_at inj71 p71 (l, c)
theorem rs71 (l : (Bytes)) (c : (UInt8)) : rsel e71 r71 .any [.str l, .int .u8 c.toNat] = (.int .i64 (Lib.indexByte l c)) := rsel_at inj71 r71 .any (l, c)
theorem hs71 (l : (Bytes)) (c : (UInt8)) : rsel e71 g71 [] [.str l, .int .u8 c.toNat] = ([]) := rsel_at inj71 g71 [] (l, c)
attribute [push_cast] S71 ps71 rs71 hs71
theorem con71 : Con Tryz.prog 83 S71 := by
  have e0 : rsel e71 g71 ([] : Heap) = fun _ => [] := by
    funext xs
    unfold rsel
    split
    · rfl
    · rfl
  unfold S71 funS
  rw [e0]
  refine Con.ofExt (fun xs hx => ?_) fun m w xs vs hc hx => ?_
  · obtain ⟨a, rfl, _⟩ := hx
    rw [rsel_at inj71]; exact ⟨_, _, rfl⟩
  · obtain ⟨⟨l, c⟩, rfl, _⟩ := hx
    rw [rsel_at inj71]
    simp only [e71, CRel, VRel] at hc
    obtain ⟨v1, vs, rfl, rfl, v2, vs, rfl, rfl, rfl⟩ := hc
    refine ⟨.int .i64 (Lib.indexByte l c), ?_, by simp [r71, VRel]⟩
    rw [run_callFunc_extern Tryz.func83 (by kernel_rfl) (by kernel_rfl) (by kernel_rfl) (e := Extern.BytealgIndexByte.indexByte) (by kernel_rfl), Lib.run_indexByteString]
    simp
def e52 : (Bytes) × (UInt8) → List AV := fun (l, c) => [.str l, .int .u8 c.toNat]
def p52 : (Bytes) × (UInt8) → Prop := fun (l, c) => l.length ≤ 4194304
def r52 : (Bytes) × (UInt8) → AV := fun (l, c) => .int .i64 (Lib.indexByte l c)
def g52 : (Bytes) × (UInt8) → Heap := fun (l, c) => []
theorem inj52 : ∀ a b, e52 a = e52 b → a = b := by
  rintro ⟨l, c⟩ ⟨l', c'⟩ h
  simp only [e52, mi_iff, ms_iff, mb_iff, my_iff, UInt8.toNat_inj, List.cons.injEq, AV.int.injEq, AV.str.injEq, AV.bool.injEq, AV.sl.injEq, AV.agg.injEq, AV.ip.injEq, AV.fn.injEq, AV.ifc.injEq, AV.mpr.injEq, Int.natCast_inj, and_true, true_and] at h
  simp_all only
noncomputable def S52 : FSpec := funS e52 p52 r52 g52 true
theorem ps52 (l : (Bytes)) (c : (UInt8)) : psel e52 p52 [.str l, .int .u8 c.toNat] = (l.length ≤ 4194304) := psel_at inj52 p52 (l, c)
theorem rs52 (l : (Bytes)) (c : (UInt8)) : rsel e52 r52 .any [.str l, .int .u8 c.toNat] = (.int .i64 (Lib.indexByte l c)) := rsel_at inj52 r52 .any (l, c)
theorem hs52 (l : (Bytes)) (c : (UInt8)) : rsel e52 g52 [] [.str l, .int .u8 c.toNat] = ([]) := rsel_at inj52 g52 [] (l, c)
attribute [push_cast] S52 ps52 rs52 hs52
theorem body52 (Γ : Env) (h : Γ 83 = some S71) (l : Bytes) (c : UInt8) (hl : l.length ≤ 4194304) : BodyOk Tryz.prog Γ Tryz.f63 (e52 (l, c)) [] (.int .i64 (Lib.indexByte l c)) [] := by
  (intro X hP hΓ hL hfin; refine ⟨_, rfl, ?_⟩; rw [show Tryz.f63.ntmps = 8 from rfl]; rw [show Tryz.f63.results.toList = [.tmp 4] from rfl] at hfin; apply holds_of_ex X 400; simp (maxSteps := 1000000) only [push_cast, reduceCtorEq, Nat.reduceAdd, Nat.reduceMul, Nat.reduceSub, Nat.reduceBEq, Nat.reduceGT, Nat.reduceLT, Int.toNat_zero, Nat.reduceLeDiff, Int.reduceEq, Int.reduceLT, Int.reduceLE, hP, hΓ, hL, hfin, String.reduceEq, not_false_eq_true, if_true, e52, h])
  exact ⟨hl, Into.one rfl rfl⟩
theorem con52 {Γ : Env} (h : EnvOk Tryz.prog Γ) (h71 : Γ 83 = some S71) : Con Tryz.prog 63 S52 :=
  funS_con h (fn := Tryz.f63) (by kernel_rfl) rfl (by kernel_rfl) inj52 (by first | (intro h; cases h; done) | exact fun _ _ => rfl) fun ⟨l, c⟩ hl => body52 Γ h71 l c hl
def e38 : (Bytes) × (UInt8) → List AV := fun (l, c) => [.str l, .int .u8 c.toNat]
def p38 : (Bytes) × (UInt8) → Prop := fun (l, c) => l.length ≤ 4194304
def r38 : (Bytes) × (UInt8) → AV := fun (l, c) => .int .i64 (Lib.indexByte l c)
def g38 : (Bytes) × (UInt8) → Heap := fun (l, c) => []
theorem inj38 : ∀ a b, e38 a = e38 b → a = b := by
  rintro ⟨l, c⟩ ⟨l', c'⟩ h
  simp only [e38, mi_iff, ms_iff, mb_iff, my_iff, UInt8.toNat_inj, List.cons.injEq, AV.int.injEq, AV.str.injEq, AV.bool.injEq, AV.sl.injEq, AV.agg.injEq, AV.ip.injEq, AV.fn.injEq, AV.ifc.injEq, AV.mpr.injEq, Int.natCast_inj, and_true, true_and] at h
  simp_all only
noncomputable def S38 : FSpec := funS e38 p38 r38 g38 true
theorem ps38 (l : (Bytes)) (c : (UInt8)) : psel e38 p38 [.str l, .int .u8 c.toNat] = (l.length ≤ 4194304) := psel_at inj38 p38 (l, c)
theorem rs38 (l : (Bytes)) (c : (UInt8)) : rsel e38 r38 .any [.str l, .int .u8 c.toNat] = (.int .i64 (Lib.indexByte l c)) := rsel_at inj38 r38 .any (l, c)
theorem hs38 (l : (Bytes)) (c : (UInt8)) : rsel e38 g38 [] [.str l, .int .u8 c.toNat] = ([]) := rsel_at inj38 g38 [] (l, c)
attribute [push_cast] S38 ps38 rs38 hs38
theorem body38 (Γ : Env) (h : Γ 63 = some S52) (l : Bytes) (c : UInt8) (hl : l.length ≤ 4194304) : BodyOk Tryz.prog Γ Tryz.f46 (e38 (l, c)) [] (.int .i64 (Lib.indexByte l c)) [] := by
  (intro X hP hΓ hL hfin; refine ⟨_, rfl, ?_⟩; rw [show Tryz.f46.ntmps = 8 from rfl]; rw [show Tryz.f46.results.toList = [.tmp 4] from rfl] at hfin; apply holds_of_ex X 400; simp (maxSteps := 1000000) only [push_cast, reduceCtorEq, Nat.reduceAdd, Nat.reduceMul, Nat.reduceSub, Nat.reduceBEq, Nat.reduceGT, Nat.reduceLT, Int.toNat_zero, Nat.reduceLeDiff, Int.reduceEq, Int.reduceLT, Int.reduceLE, hP, hΓ, hL, hfin, String.reduceEq, not_false_eq_true, if_true, e38, h])
  exact ⟨hl, Into.one rfl rfl⟩
theorem con38 {Γ : Env} (h : EnvOk Tryz.prog Γ) (h52 : Γ 63 = some S52) : Con Tryz.prog 46 S38 :=
  funS_con h (fn := Tryz.f46) (by kernel_rfl) rfl (by kernel_rfl) inj38 (by first | (intro h; cases h; done) | exact fun _ _ => rfl) fun ⟨l, c⟩ hl => body38 Γ h52 l c hl
theorem one0 : decide ((0 : Int) + 1 = 0) = false := by decide
theorem one1 : decide ((0 : Int) + 1 = 1) = true := by decide
def e69 : (Bytes) → List AV := fun l => [.str l, .str [34]]
def p69 : (Bytes) → Prop := fun l => l.length ≤ 4194304
def r69 : (Bytes) → AV := fun l => .int .i64 (Lib.indexByte l 34)
def g69 : (Bytes) → Heap := fun l => []
theorem inj69 : ∀ a b, e69 a = e69 b → a = b := by
  rintro l l' h
  simp only [e69, mi_iff, ms_iff, mb_iff, my_iff, UInt8.toNat_inj, List.cons.injEq, AV.int.injEq, AV.str.injEq, AV.bool.injEq, AV.sl.injEq, AV.agg.injEq, AV.ip.injEq, AV.fn.injEq, AV.ifc.injEq, AV.mpr.injEq, Int.natCast_inj, and_true, true_and] at h
  simp_all only
noncomputable def S69 : FSpec := funS e69 p69 r69 g69 true
theorem ps69 (l : (Bytes)) : psel e69 p69 [.str l, .str [34]] = (l.length ≤ 4194304) := psel_at inj69 p69 l
theorem rs69 (l : (Bytes)) : rsel e69 r69 .any [.str l, .str [34]] = (.int .i64 (Lib.indexByte l 34)) := rsel_at inj69 r69 .any l
theorem hs69 (l : (Bytes)) : rsel e69 g69 [] [.str l, .str [34]] = ([]) := rsel_at inj69 g69 [] l
attribute [push_cast] S69 ps69 rs69 hs69
theorem body69 (Γ : Env) (h52 : Γ 63 = some S52) (l : Bytes) (hl : l.length ≤ 4194304) : BodyOk Tryz.prog Γ Tryz.f81 (e69 l) [] (.int .i64 (Lib.indexByte l 34)) [] := by
  (intro X hP hΓ hL hfin; refine ⟨_, rfl, ?_⟩; rw [show Tryz.f81.ntmps = 143 from rfl]; rw [show Tryz.f81.results.toList = [.tmp 4] from rfl] at hfin; apply holds_of_ex X 400; simp (maxSteps := 1000000) only [push_cast, reduceCtorEq, Nat.reduceAdd, Nat.reduceMul, Nat.reduceSub, Nat.reduceBEq, Nat.reduceGT, Nat.reduceLT, Int.toNat_zero, Nat.reduceLeDiff, Int.reduceEq, Int.reduceLT, Int.reduceLE, hP, hΓ, hL, hfin, String.reduceEq, not_false_eq_true, if_true, e69, h52, one0, one1])
  ((with_reducible refine exB_split (fun h => ?_) (fun h => ?_)) <;> (try simp only [decide_eq_true_eq, decide_eq_false_iff_not, Bool.and_eq_true, Bool.or_eq_true, Bool.and_eq_false_iff, Bool.or_eq_false_iff, Bool.not_eq_true', Bool.not_eq_false', Bool.not_eq_true, Bool.not_eq_false, Int.not_lt, Int.not_le, beq_iff_eq, beq_eq_false_iff_ne, ne_eq] at h))
  · ((first | with_reducible refine holds_of_ex X 400 _ _ _ ?_ | skip); simp (maxSteps := 1000000) only [push_cast, reduceCtorEq, Nat.reduceAdd, Nat.reduceMul, Nat.reduceSub, Nat.reduceBEq, Nat.reduceGT, Nat.reduceLT, Int.toNat_zero, Nat.reduceLeDiff, Int.reduceEq, Int.reduceLT, Int.reduceLE, hP, hΓ, hL, hfin, String.reduceEq, not_false_eq_true, if_true])
    obtain rfl := h
    exact Into.one (by rfl) rfl
  · ((first | with_reducible refine holds_of_ex X 400 _ _ _ ?_ | skip); simp (maxSteps := 1000000) only [push_cast, reduceCtorEq, Nat.reduceAdd, Nat.reduceMul, Nat.reduceSub, Nat.reduceBEq, Nat.reduceGT, Nat.reduceLT, Int.toNat_zero, Nat.reduceLeDiff, Int.reduceEq, Int.reduceLT, Int.reduceLE, hP, hΓ, hL, hfin, String.reduceEq, not_false_eq_true, if_true, one1, h52])
    exact ⟨by omega, hl, Into.one rfl rfl⟩
theorem con69 {Γ : Env} (h : EnvOk Tryz.prog Γ) (h52 : Γ 63 = some S52) : Con Tryz.prog 81 S69 :=
  funS_con h (fn := Tryz.f81) (by kernel_rfl) rfl (by kernel_rfl) inj69 (by first | (intro h; cases h; done) | exact fun _ _ => rfl) fun l hl => body69 Γ h52 l hl
/-- a text cut at the first quote -/
def cutQ (l : Bytes) : Bytes := l.takeWhile (· != 34)
theorem ix_quote : ∀ l : Bytes, Lib.indexByte l 34 = if (cutQ l).length < l.length then ((cutQ l).length : Int) else -1
  | [] => rfl
  | c :: l => by
    have ih := ix_quote l
    rw [Lib.indexByte]
    unfold cutQ at *
    rw [List.takeWhile_cons]
    by_cases hc : c = 34
    · subst hc; simp
    · have h1 : (c == 34) = false := by simpa using hc
      have h2 : (c != 34) = true := by simpa using hc
      rw [h1, h2, ih]
      by_cases hl : (List.takeWhile (· != 34) l).length < l.length
      · simp [hl]
      · simp [hl]
theorem cutQ_take (l : Bytes) : l.take (cutQ l).length = cutQ l := by
  exact (List.prefix_iff_eq_take.1 (List.takeWhile_prefix _)).symm
theorem cutQ_le (l : Bytes) : (cutQ l).length ≤ l.length := tw_len _ l
theorem cutQ_all {l : Bytes} (h : ¬ (cutQ l).length < l.length) : cutQ l = l := by
  have := cutQ_le l
  have e := cutQ_take l
  rw [List.take_of_length_le (by omega)] at e
  exact e.symm
def hasQ (l : Bytes) : Bool := decide ((cutQ l).length < l.length)
def e50 : (Bytes) → List AV := fun l => [.str l, .str [34]]
def p50 : (Bytes) → Prop := fun l => l.length ≤ 4194304
def r50 : (Bytes) → AV := fun l => .tup [.str (cutQ l), .any, .bool (hasQ l)]
def g50 : (Bytes) → Heap := fun l => []
theorem inj50 : ∀ a b, e50 a = e50 b → a = b := by
  rintro l l' h
  simp only [e50, mi_iff, ms_iff, mb_iff, my_iff, UInt8.toNat_inj, List.cons.injEq, AV.int.injEq, AV.str.injEq, AV.bool.injEq, AV.sl.injEq, AV.agg.injEq, AV.ip.injEq, AV.fn.injEq, AV.ifc.injEq, AV.mpr.injEq, Int.natCast_inj, and_true, true_and] at h
  simp_all only
noncomputable def S50 : FSpec := funS e50 p50 r50 g50 true
theorem ps50 (l : (Bytes)) : psel e50 p50 [.str l, .str [34]] = (l.length ≤ 4194304) := psel_at inj50 p50 l
theorem rs50 (l : (Bytes)) : rsel e50 r50 .any [.str l, .str [34]] = (.tup [.str (cutQ l), .any, .bool (hasQ l)]) := rsel_at inj50 r50 .any l
theorem hs50 (l : (Bytes)) : rsel e50 g50 [] [.str l, .str [34]] = ([]) := rsel_at inj50 g50 [] l
attribute [push_cast] S50 ps50 rs50 hs50
theorem body50 (Γ : Env) (h69 : Γ 81 = some S69) (l : Bytes) (hl : l.length ≤ 4194304) : BodyOk Tryz.prog Γ Tryz.f61 (e50 l) [] (.tup [.str (cutQ l), .any, .bool (hasQ l)]) [] := by
  have hc := cutQ_le l
  by_cases hq : (cutQ l).length < l.length
  · (intro X hP hΓ hL hfin; refine ⟨_, rfl, ?_⟩; rw [show Tryz.f61.ntmps = 23 from rfl]; rw [show Tryz.f61.results.toList = [.tmp 4, .tmp 5, .tmp 6] from rfl] at hfin; apply holds_of_ex X 400; simp (maxSteps := 1000000) only [push_cast, reduceCtorEq, Nat.reduceAdd, Nat.reduceMul, Nat.reduceSub, Nat.reduceBEq, Nat.reduceGT, Nat.reduceLT, Int.toNat_zero, Nat.reduceLeDiff, Int.reduceEq, Int.reduceLT, Int.reduceLE, hP, hΓ, hL, hfin, String.reduceEq, not_false_eq_true, if_true, e50, h69, ix_quote, if_pos hq, wr_i64 (((cutQ l).length : Int) + 1) (by constructor <;> omega)])
    refine ⟨hl, ?_⟩
    (refine Holds.drawnQ (by rw [hP]; kernel_rfl) (by kernel_rfl) ?_; simp (maxSteps := 1000000) only [push_cast, reduceCtorEq, Nat.reduceAdd, Nat.reduceMul, Nat.reduceSub, Nat.reduceBEq, Nat.reduceGT, Nat.reduceLT, Int.toNat_zero, Nat.reduceLeDiff, Int.reduceEq, Int.reduceLT, Int.reduceLE, hP, hΓ, hL, hfin, String.reduceEq, not_false_eq_true, if_true, wr_i64 (((cutQ l).length : Int) + 1) (by constructor <;> omega)])
    rw [show hasQ l = true by simp [hasQ, hq], cutQ_take, show (0 : Int) + 1 = 1 from rfl, wr_i64 _ (by constructor <;> omega)]
    exact ⟨by omega, ⟨by omega, by omega, by omega⟩, Into.tup0⟩
  · (intro X hP hΓ hL hfin; refine ⟨_, rfl, ?_⟩; rw [show Tryz.f61.ntmps = 23 from rfl]; rw [show Tryz.f61.results.toList = [.tmp 4, .tmp 5, .tmp 6] from rfl] at hfin; apply holds_of_ex X 400; simp (maxSteps := 1000000) only [push_cast, reduceCtorEq, Nat.reduceAdd, Nat.reduceMul, Nat.reduceSub, Nat.reduceBEq, Nat.reduceGT, Nat.reduceLT, Int.toNat_zero, Nat.reduceLeDiff, Int.reduceEq, Int.reduceLT, Int.reduceLE, hP, hΓ, hL, hfin, String.reduceEq, not_false_eq_true, if_true, e50, h69, ix_quote, if_neg hq])
    refine ⟨hl, ?_⟩
    rw [show hasQ l = false by simp [hasQ, hq], cutQ_all hq]
    exact Into.tup0
theorem con50 {Γ : Env} (h : EnvOk Tryz.prog Γ) (h69 : Γ 81 = some S69) : Con Tryz.prog 61 S50 :=
  funS_con h (fn := Tryz.f61) (by kernel_rfl) rfl (by kernel_rfl) inj50 (by first | (intro h; cases h; done) | exact fun _ _ => rfl) fun l hl => body50 Γ h69 l hl
def e35 : (Bytes) → List AV := fun l => [.str l, .str [34]]
def p35 : (Bytes) → Prop := fun l => l.length ≤ 4194304
def r35 : (Bytes) → AV := fun l => .tup [.str (cutQ l), .any, .bool (hasQ l)]
def g35 : (Bytes) → Heap := fun l => []
theorem inj35 : ∀ a b, e35 a = e35 b → a = b := by
  rintro l l' h
  simp only [e35, mi_iff, ms_iff, mb_iff, my_iff, UInt8.toNat_inj, List.cons.injEq, AV.int.injEq, AV.str.injEq, AV.bool.injEq, AV.sl.injEq, AV.agg.injEq, AV.ip.injEq, AV.fn.injEq, AV.ifc.injEq, AV.mpr.injEq, Int.natCast_inj, and_true, true_and] at h
  simp_all only
noncomputable def S35 : FSpec := funS e35 p35 r35 g35 true
theorem ps35 (l : (Bytes)) : psel e35 p35 [.str l, .str [34]] = (l.length ≤ 4194304) := psel_at inj35 p35 l
theorem rs35 (l : (Bytes)) : rsel e35 r35 .any [.str l, .str [34]] = (.tup [.str (cutQ l), .any, .bool (hasQ l)]) := rsel_at inj35 r35 .any l
theorem hs35 (l : (Bytes)) : rsel e35 g35 [] [.str l, .str [34]] = ([]) := rsel_at inj35 g35 [] l
attribute [push_cast] S35 ps35 rs35 hs35
theorem body35 (Γ : Env) (h50 : Γ 61 = some S50) (l : Bytes) (hl : l.length ≤ 4194304) : BodyOk Tryz.prog Γ Tryz.f43 (e35 l) [] (.tup [.str (cutQ l), .any, .bool (hasQ l)]) [] := by
  (intro X hP hΓ hL hfin; refine ⟨_, rfl, ?_⟩; rw [show Tryz.f43.ntmps = 13 from rfl]; rw [show Tryz.f43.results.toList = [.tmp 4, .tmp 5, .tmp 6] from rfl] at hfin; apply holds_of_ex X 400; simp (maxSteps := 1000000) only [push_cast, reduceCtorEq, Nat.reduceAdd, Nat.reduceMul, Nat.reduceSub, Nat.reduceBEq, Nat.reduceGT, Nat.reduceLT, Int.toNat_zero, Nat.reduceLeDiff, Int.reduceEq, Int.reduceLT, Int.reduceLE, hP, hΓ, hL, hfin, String.reduceEq, not_false_eq_true, if_true, e35, h50])
  exact ⟨hl, by exact Into.sameA⟩
theorem con35 {Γ : Env} (h : EnvOk Tryz.prog Γ) (h50 : Γ 61 = some S50) : Con Tryz.prog 43 S35 :=
  funS_con h (fn := Tryz.f43) (by kernel_rfl) rfl (by kernel_rfl) inj35 (by first | (intro h; cases h; done) | exact fun _ _ => rfl) fun l hl => body35 Γ h50 l hl
/-- is a letter none that may stand in a string? -/
def odd (n : Int) : Bool := decide (n < 32) || decide (126 < n)
def e37 : (Int) → List AV := fun n => [.int .i32 n]
def p37 : (Int) → Prop := fun n => True
def r37 : (Int) → AV := fun n => .bool (odd n)
def g37 : (Int) → Heap := fun n => []
theorem inj37 : ∀ a b, e37 a = e37 b → a = b := by
  rintro n n' h
  simp only [e37, mi_iff, ms_iff, mb_iff, my_iff, UInt8.toNat_inj, List.cons.injEq, AV.int.injEq, AV.str.injEq, AV.bool.injEq, AV.sl.injEq, AV.agg.injEq, AV.ip.injEq, AV.fn.injEq, AV.ifc.injEq, AV.mpr.injEq, Int.natCast_inj, and_true, true_and] at h
  simp_all only
noncomputable def S37 : FSpec := funS e37 p37 r37 g37 true
theorem ps37 (n : (Int)) : psel e37 p37 [.int .i32 n] = (True) := psel_at inj37 p37 n
theorem rs37 (n : (Int)) : rsel e37 r37 .any [.int .i32 n] = (.bool (odd n)) := rsel_at inj37 r37 .any n
theorem hs37 (n : (Int)) : rsel e37 g37 [] [.int .i32 n] = ([]) := rsel_at inj37 g37 [] n
attribute [push_cast] S37 ps37 rs37 hs37
theorem body37 (Γ : Env) (n : Int) : BodyOk Tryz.prog Γ Tryz.f45 (e37 n) [] (.bool (odd n)) [] := by
  (intro X hP hΓ hL hfin; refine ⟨_, rfl, ?_⟩; rw [show Tryz.f45.ntmps = 9 from rfl]; rw [show Tryz.f45.results.toList = [.tmp 2] from rfl] at hfin; apply holds_of_ex X 400; simp (maxSteps := 1000000) only [push_cast, reduceCtorEq, Nat.reduceAdd, Nat.reduceMul, Nat.reduceSub, Nat.reduceBEq, Nat.reduceGT, Nat.reduceLT, Int.toNat_zero, Nat.reduceLeDiff, Int.reduceEq, Int.reduceLT, Int.reduceLE, hP, hΓ, hL, hfin, String.reduceEq, not_false_eq_true, if_true, e37])
  exact Into.one rfl rfl
theorem con37 {Γ : Env} (h : EnvOk Tryz.prog Γ)  : Con Tryz.prog 45 S37 :=
  funS_con h (fn := Tryz.f45) (by kernel_rfl) rfl (by kernel_rfl) inj37 (by first | (intro h; cases h; done) | exact fun _ _ => rfl) fun n _ => body37 Γ n
def ixO (l : Bytes) : Int := if l.all prn then -1 else ((l.takeWhile prn).length : Int)
def e70 : (Bytes) → List AV := fun l => [.str l, .fn (.func 45) [] [], .bool true]
def p70 : (Bytes) → Prop := fun l => l.length ≤ 4194304
def r70 : (Bytes) → AV := fun l => .int .i64 (ixO l)
def g70 : (Bytes) → Heap := fun l => []
theorem inj70 : ∀ a b, e70 a = e70 b → a = b := by
  rintro l l' h
  simp only [e70, mi_iff, ms_iff, mb_iff, my_iff, UInt8.toNat_inj, List.cons.injEq, AV.int.injEq, AV.str.injEq, AV.bool.injEq, AV.sl.injEq, AV.agg.injEq, AV.ip.injEq, AV.fn.injEq, AV.ifc.injEq, AV.mpr.injEq, Int.natCast_inj, and_true, true_and] at h
  simp_all only
noncomputable def S70 : FSpec := funS e70 p70 r70 g70 true
theorem ps70 (l : (Bytes)) : psel e70 p70 [.str l, .fn (.func 45) [] [], .bool true] = (l.length ≤ 4194304) := psel_at inj70 p70 l
theorem rs70 (l : (Bytes)) : rsel e70 r70 .any [.str l, .fn (.func 45) [] [], .bool true] = (.int .i64 (ixO l)) := rsel_at inj70 r70 .any l
theorem hs70 (l : (Bytes)) : rsel e70 g70 [] [.str l, .fn (.func 45) [] [], .bool true] = ([]) := rsel_at inj70 g70 [] l
attribute [push_cast] S70 ps70 rs70 hs70
theorem tw_at {p : UInt8 → Bool} {l : Bytes} {k : Nat} (h : ∀ j < k, p (l.getD j 0) = true) (hk : k < l.length) (hp : p (l.getD k 0) = false) : (l.takeWhile p).length = k ∧ l.all p = false := by
  induction l generalizing k with
  | nil => simp at hk
  | cons c l ih =>
    cases k with
    | zero =>
      have : p c = false := by simpa using hp
      simp [List.takeWhile_cons, this]
    | succ k =>
      have h0 : p c = true := by simpa using h 0 (by omega)
      obtain ⟨a, b⟩ := ih (k := k) (fun j hj => by simpa using h (j + 1) (by omega)) (by simpa using hk) (by simpa using hp)
      simp [List.takeWhile_cons, h0, a, b]
theorem body70 (Γ : Env) (h37 : Γ 45 = some S37) (l : Bytes) (hl : l.length ≤ 4194304) : BodyOk Tryz.prog Γ Tryz.f82 (e70 l) [] (.int .i64 (ixO l)) [] := by
  (intro X hP hΓ hL hfin; refine ⟨_, rfl, ?_⟩; rw [show Tryz.f82.ntmps = 21 from rfl]; rw [show Tryz.f82.results.toList = [.tmp 6] from rfl] at hfin; apply holds_of_ex X 400; simp (maxSteps := 1000000) only [push_cast, reduceCtorEq, Nat.reduceAdd, Nat.reduceMul, Nat.reduceSub, Nat.reduceBEq, Nat.reduceGT, Nat.reduceLT, Int.toNat_zero, Nat.reduceLeDiff, Int.reduceEq, Int.reduceLT, Int.reduceLE, hP, hΓ, hL, hfin, String.reduceEq, not_false_eq_true, if_true, e70, h37])
  refine Holds.loopM (ι := {k : Nat // k ≤ l.length ∧ ∀ j < k, prn (l.getD j 0) = true}) [false, true, true, false, false, false, false, false, false, false, true, false, false, false, false, false, false, false, false, false, false] (fun i => [(10, .ref 0 0 0)]) (fun i => [.raw (.iter l i.1)]) (fun i => l.length - i.1) ⟨0, Nat.zero_le _, by simp⟩ ?_ ?_
  · (rw [hL]; simp only [push_cast, Int.natCast_zero]; exact Into.sameA)
  rintro ⟨k, hk, hg⟩
  ((first | with_reducible refine holds_of_ex X 400 _ _ _ ?_ | skip); simp (maxSteps := 1000000) only [push_cast, reduceCtorEq, Nat.reduceAdd, Nat.reduceMul, Nat.reduceSub, Nat.reduceBEq, Nat.reduceGT, Nat.reduceLT, Int.toNat_zero, Nat.reduceLeDiff, Int.reduceEq, Int.reduceLT, Int.reduceLE, hP, hΓ, hL, hfin, String.reduceEq, not_false_eq_true, if_true])
  ((with_reducible refine exB_split (fun h => ?_) (fun h => ?_)) <;> (try simp only [decide_eq_true_eq, decide_eq_false_iff_not, Bool.and_eq_true, Bool.or_eq_true, Bool.and_eq_false_iff, Bool.or_eq_false_iff, Bool.not_eq_true', Bool.not_eq_false', Bool.not_eq_true, Bool.not_eq_false, Int.not_lt, Int.not_le, beq_iff_eq, beq_eq_false_iff_ne, ne_eq] at h))
  · have hk' : k < l.length := by omega
    by_cases hc : (l.getD k 0).toNat < 128
    · have hr := rune_lo hk' hc
      ((first | with_reducible refine holds_of_ex X 400 _ _ _ ?_ | skip); simp (maxSteps := 1000000) only [push_cast, reduceCtorEq, Nat.reduceAdd, Nat.reduceMul, Nat.reduceSub, Nat.reduceBEq, Nat.reduceGT, Nat.reduceLT, Int.toNat_zero, Nat.reduceLeDiff, Int.reduceEq, Int.reduceLT, Int.reduceLE, hP, hΓ, hL, hfin, String.reduceEq, not_false_eq_true, if_true, h37, hr, hk'])
      ((with_reducible refine exB_split (fun h => ?_) (fun h => ?_)) <;> (try simp only [decide_eq_true_eq, decide_eq_false_iff_not, Bool.and_eq_true, Bool.or_eq_true, Bool.and_eq_false_iff, Bool.or_eq_false_iff, Bool.not_eq_true', Bool.not_eq_false', Bool.not_eq_true, Bool.not_eq_false, Int.not_lt, Int.not_le, beq_iff_eq, beq_eq_false_iff_ne, ne_eq] at h))
      · have hp : prn (l.getD k 0) = false := by
          simp only [odd, Bool.or_eq_true, decide_eq_true_eq] at h
          simp only [prn, decide_eq_false_iff_not]; omega
        obtain ⟨a, b⟩ := tw_at hg hk' hp
        ((first | with_reducible refine holds_of_ex X 400 _ _ _ ?_ | skip); simp (maxSteps := 1000000) only [push_cast, reduceCtorEq, Nat.reduceAdd, Nat.reduceMul, Nat.reduceSub, Nat.reduceBEq, Nat.reduceGT, Nat.reduceLT, Int.toNat_zero, Nat.reduceLeDiff, Int.reduceEq, Int.reduceLT, Int.reduceLE, hP, hΓ, hL, hfin, String.reduceEq, not_false_eq_true, if_true])
        rw [show ixO l = k by rw [ixO, b, if_neg (by simp), a]]
        exact Into.keep0A
      · have hp : prn (l.getD k 0) = true := by
          simp only [odd, Bool.or_eq_false_iff, decide_eq_false_iff_not] at h
          simp only [prn, decide_eq_true_eq]; omega
        ((first | with_reducible refine holds_of_ex X 400 _ _ _ ?_ | skip); simp (maxSteps := 1000000) only [push_cast, reduceCtorEq, Nat.reduceAdd, Nat.reduceMul, Nat.reduceSub, Nat.reduceBEq, Nat.reduceGT, Nat.reduceLT, Int.toNat_zero, Nat.reduceLeDiff, Int.reduceEq, Int.reduceLT, Int.reduceLE, hP, hΓ, hL, hfin, String.reduceEq, not_false_eq_true, if_true, hk'])
        refine ⟨⟨k + 1, hk', fun j hj => ?_⟩, by simp only; omega, ?_⟩
        · rcases Nat.lt_succ_iff_lt_or_eq.1 hj with h' | rfl
          · exact hg j h'
          · exact hp
        exact Into.sameA
    · have hr := rune_hi hk' (by omega)
      have ho : odd ((runeAt l k).1 : Int) = true := by simp only [odd, Bool.or_eq_true, decide_eq_true_eq]; omega
      have hp : prn (l.getD k 0) = false := by simp only [prn, decide_eq_false_iff_not]; omega
      obtain ⟨a, b⟩ := tw_at hg hk' hp
      ((first | with_reducible refine holds_of_ex X 400 _ _ _ ?_ | skip); simp (maxSteps := 1000000) only [push_cast, reduceCtorEq, Nat.reduceAdd, Nat.reduceMul, Nat.reduceSub, Nat.reduceBEq, Nat.reduceGT, Nat.reduceLT, Int.toNat_zero, Nat.reduceLeDiff, Int.reduceEq, Int.reduceLT, Int.reduceLE, hP, hΓ, hL, hfin, String.reduceEq, not_false_eq_true, if_true, h37, hk', ho])
      rw [show ixO l = k by rw [ixO, b, if_neg (by simp), a]]
      exact Into.keep0A
  · ((first | with_reducible refine holds_of_ex X 400 _ _ _ ?_ | skip); simp (maxSteps := 1000000) only [push_cast, reduceCtorEq, Nat.reduceAdd, Nat.reduceMul, Nat.reduceSub, Nat.reduceBEq, Nat.reduceGT, Nat.reduceLT, Int.toNat_zero, Nat.reduceLeDiff, Int.reduceEq, Int.reduceLT, Int.reduceLE, hP, hΓ, hL, hfin, String.reduceEq, not_false_eq_true, if_true])
    obtain rfl : k = l.length := by omega
    rw [show ixO l = -1 by
      rw [ixO, if_pos]
      rw [List.all_eq_true]
      intro c hc
      obtain ⟨i, hi, e⟩ := List.mem_iff_getElem.1 hc
      have := hg i hi
      rw [← e]; simpa [List.getD, hi] using this]
    exact Into.keep0A
theorem con70 {Γ : Env} (h : EnvOk Tryz.prog Γ) (h37 : Γ 45 = some S37) : Con Tryz.prog 82 S70 :=
  funS_con h (fn := Tryz.f82) (by kernel_rfl) rfl (by kernel_rfl) inj70 (by first | (intro h; cases h; done) | exact fun _ _ => rfl) fun l hl => body70 Γ h37 l hl
def e51 : (Bytes) → List AV := fun l => [.str l, .fn (.func 45) [] []]
def p51 : (Bytes) → Prop := fun l => l.length ≤ 4194304
def r51 : (Bytes) → AV := fun l => .int .i64 (ixO l)
def g51 : (Bytes) → Heap := fun l => []
theorem inj51 : ∀ a b, e51 a = e51 b → a = b := by
  rintro l l' h
  simp only [e51, mi_iff, ms_iff, mb_iff, my_iff, UInt8.toNat_inj, List.cons.injEq, AV.int.injEq, AV.str.injEq, AV.bool.injEq, AV.sl.injEq, AV.agg.injEq, AV.ip.injEq, AV.fn.injEq, AV.ifc.injEq, AV.mpr.injEq, Int.natCast_inj, and_true, true_and] at h
  simp_all only
noncomputable def S51 : FSpec := funS e51 p51 r51 g51 true
theorem ps51 (l : (Bytes)) : psel e51 p51 [.str l, .fn (.func 45) [] []] = (l.length ≤ 4194304) := psel_at inj51 p51 l
theorem rs51 (l : (Bytes)) : rsel e51 r51 .any [.str l, .fn (.func 45) [] []] = (.int .i64 (ixO l)) := rsel_at inj51 r51 .any l
theorem hs51 (l : (Bytes)) : rsel e51 g51 [] [.str l, .fn (.func 45) [] []] = ([]) := rsel_at inj51 g51 [] l
attribute [push_cast] S51 ps51 rs51 hs51
theorem body51 (Γ : Env) (h70 : Γ 82 = some S70) (l : Bytes) (hl : l.length ≤ 4194304) : BodyOk Tryz.prog Γ Tryz.f62 (e51 l) [] (.int .i64 (ixO l)) [] := by
  (intro X hP hΓ hL hfin; refine ⟨_, rfl, ?_⟩; rw [show Tryz.f62.ntmps = 8 from rfl]; rw [show Tryz.f62.results.toList = [.tmp 4] from rfl] at hfin; apply holds_of_ex X 400; simp (maxSteps := 1000000) only [push_cast, reduceCtorEq, Nat.reduceAdd, Nat.reduceMul, Nat.reduceSub, Nat.reduceBEq, Nat.reduceGT, Nat.reduceLT, Int.toNat_zero, Nat.reduceLeDiff, Int.reduceEq, Int.reduceLT, Int.reduceLE, hP, hΓ, hL, hfin, String.reduceEq, not_false_eq_true, if_true, e51, h70])
  exact ⟨hl, Into.one rfl rfl⟩
theorem con51 {Γ : Env} (h : EnvOk Tryz.prog Γ) (h70 : Γ 82 = some S70) : Con Tryz.prog 62 S51 :=
  funS_con h (fn := Tryz.f62) (by kernel_rfl) rfl (by kernel_rfl) inj51 (by first | (intro h; cases h; done) | exact fun _ _ => rfl) fun l hl => body51 Γ h70 l hl
def e36 : (Bytes) → List AV := fun l => [.str l, .fn (.func 45) [] []]
def p36 : (Bytes) → Prop := fun l => l.length ≤ 4194304
def r36 : (Bytes) → AV := fun l => .bool (!l.all prn)
def g36 : (Bytes) → Heap := fun l => []
theorem inj36 : ∀ a b, e36 a = e36 b → a = b := by
  rintro l l' h
  simp only [e36, mi_iff, ms_iff, mb_iff, my_iff, UInt8.toNat_inj, List.cons.injEq, AV.int.injEq, AV.str.injEq, AV.bool.injEq, AV.sl.injEq, AV.agg.injEq, AV.ip.injEq, AV.fn.injEq, AV.ifc.injEq, AV.mpr.injEq, Int.natCast_inj, and_true, true_and] at h
  simp_all only
noncomputable def S36 : FSpec := funS e36 p36 r36 g36 true
theorem ps36 (l : (Bytes)) : psel e36 p36 [.str l, .fn (.func 45) [] []] = (l.length ≤ 4194304) := psel_at inj36 p36 l
theorem rs36 (l : (Bytes)) : rsel e36 r36 .any [.str l, .fn (.func 45) [] []] = (.bool (!l.all prn)) := rsel_at inj36 r36 .any l
theorem hs36 (l : (Bytes)) : rsel e36 g36 [] [.str l, .fn (.func 45) [] []] = ([]) := rsel_at inj36 g36 [] l
attribute [push_cast] S36 ps36 rs36 hs36
theorem body36 (Γ : Env) (h51 : Γ 62 = some S51) (l : Bytes) (hl : l.length ≤ 4194304) : BodyOk Tryz.prog Γ Tryz.f44 (e36 l) [] (.bool (!l.all prn)) [] := by
  (intro X hP hΓ hL hfin; refine ⟨_, rfl, ?_⟩; rw [show Tryz.f44.ntmps = 9 from rfl]; rw [show Tryz.f44.results.toList = [.tmp 4] from rfl] at hfin; apply holds_of_ex X 400; simp (maxSteps := 1000000) only [push_cast, reduceCtorEq, Nat.reduceAdd, Nat.reduceMul, Nat.reduceSub, Nat.reduceBEq, Nat.reduceGT, Nat.reduceLT, Int.toNat_zero, Nat.reduceLeDiff, Int.reduceEq, Int.reduceLT, Int.reduceLE, hP, hΓ, hL, hfin, String.reduceEq, not_false_eq_true, if_true, e36, h51])
  refine ⟨hl, Into.one ?_ rfl⟩
  unfold ixO
  split
  · rename_i h; simp [h]
  · rename_i h; simp [h]
theorem con36 {Γ : Env} (h : EnvOk Tryz.prog Γ) (h51 : Γ 62 = some S51) : Con Tryz.prog 44 S36 :=
  funS_con h (fn := Tryz.f44) (by kernel_rfl) rfl (by kernel_rfl) inj36 (by first | (intro h; cases h; done) | exact fun _ _ => rfl) fun l hl => body36 Γ h51 l hl
end Go.Proofs.YtlehfbdkjkgaeaaGreatDoor.scanDone
