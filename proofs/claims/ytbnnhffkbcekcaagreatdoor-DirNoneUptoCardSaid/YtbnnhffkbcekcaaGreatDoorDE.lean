/- Of disks: a new one; what it bears; pages. Conditions stand in each. -/
import Derived.Test.YtbnnhffkbcekcaaGreatDoorDD
namespace Go.Proofs.YtbnnhffkbcekcaaGreatDoor.dirDone
open Go Go.Eng Go.Proofs
set_option linter.unusedVariables false
set_option linter.unusedSimpArgs false
set_option maxRecDepth 100000
set_option maxHeartbeats 4000000
def dskK (S : List Sec) (W : List Wr) : Heap := [.row [.msl 2 0 0 S.length, .msl 3 W.length 0 W.length] 2 0, .row (S.flatMap secC) 1024 0, .row (W.flatMap wrC) 1025 W.length]
def e90 : (List Sec) × (List Wr) × (Int) → List AV × Heap := fun (S, W, n) => ([.ref 0 0 0, .int .i64 n], dskH S W)
def p90 : (List Sec) × (List Wr) × (Int) → Prop := fun (S, W, n) => W.length ≤ 4096 ∧ -1000000 ≤ n ∧ n ≤ 1000000
def r90 : (List Sec) × (List Wr) × (Int) → AV := fun (S, W, n) => .bool (decide ((W.length : Int) + n ≤ 4096))
def g90 : (List Sec) × (List Wr) × (Int) → Heap := fun (S, W, n) => dskH S W
theorem inj90 : ∀ a b, e90 a = e90 b → a = b := by
  rintro ⟨S, W, n⟩ ⟨S', W', n'⟩ h
  simp only [e90, mi_iff, ms_iff, mb_iff, my_iff, UInt8.toNat_inj, secs_iff, wrs_iff, dskH, dskK, Prod.mk.injEq, List.cons.injEq, AObj.row.injEq, AV.int.injEq, AV.str.injEq, AV.bool.injEq, AV.sl.injEq, AV.agg.injEq, AV.ip.injEq, AV.fn.injEq, AV.ifc.injEq, AV.mpr.injEq, AV.msl.injEq, AV.ref.injEq, Int.natCast_inj, and_true, true_and] at h
  simp_all only
noncomputable def S90 : FSpec := heapE true e90 p90 r90 g90
theorem ps90 (S : (List Sec)) (W : (List Wr)) (n : (Int)) : pselK e90 p90 ([.ref 0 0 0, .int .i64 n], dskH S W) = (W.length ≤ 4096 ∧ -1000000 ≤ n ∧ n ≤ 1000000) := pselK_at inj90 p90 (S, W, n)
theorem rs90 (S : (List Sec)) (W : (List Wr)) (n : (Int)) : rselK e90 r90 .any ([.ref 0 0 0, .int .i64 n], dskH S W) = (.bool (decide ((W.length : Int) + n ≤ 4096))) := rselK_at inj90 r90 .any (S, W, n)
theorem hs90 (S : (List Sec)) (W : (List Wr)) (n : (Int)) : rselK e90 g90 [] ([.ref 0 0 0, .int .i64 n], dskH S W) = (dskH S W) := rselK_at inj90 g90 [] (S, W, n)
attribute [push_cast] S90 ps90 rs90 hs90
theorem body90 (Γ : Env) (h23 : Γ 23 = some S23) (S : List Sec) (W : List Wr) (n : Int) (hW : W.length ≤ 4096) (hn : -1000000 ≤ n ∧ n ≤ 1000000) : BodyOk Tryz.prog Γ Tryz.f90 [.ref 0 0 0, .int .i64 n] (dskH S W) (.bool (decide ((W.length : Int) + n ≤ 4096))) (dskH S W) := by
  have ps := ps23 S W
  have rs := rs23 S W
  have hs := hs23 S W
  have hl : (wns W).length = W.length := by unfold wns; rw [List.length_map]
  unfold dskH at *
  (intro X hP hΓ hL hfin; refine ⟨_, rfl, ?_⟩; rw [show Tryz.f90.ntmps = 11 from rfl]; rw [show Tryz.f90.results.toList = [.tmp 4] from rfl] at hfin; apply holds_of_ex X 400; simp (maxSteps := 1000000) only [push_cast, reduceCtorEq, Nat.reduceAdd, Nat.reduceMul, Nat.reduceSub, Nat.reduceBEq, Nat.reduceGT, Nat.reduceLT, Int.toNat_zero, Nat.reduceLeDiff, Int.reduceEq, Int.reduceLT, Int.reduceLE, hP, hΓ, hL, hfin, String.reduceEq, Int.toNat_one, Bool.not_not, h23, ps, rs, hs, hl])
  refine ⟨by omega, ?_⟩
  rw [wr_i64 _ (by constructor <;> omega)]
  exact Into.sameA
theorem con90 {Γ : Env} (h : EnvOk Tryz.prog Γ) (h23 : Γ 23 = some S23) : Con Tryz.prog 90 S90 :=
  heapE_con h (fn := Tryz.f90) (by kernel_rfl) rfl (by kernel_rfl) inj90 fun ⟨S, W, n⟩ h => body90 Γ h23 S W n h.1 h.2
def newD (n : Int) : List Sec := List.replicate n.toNat default
def e49 : (Int) → List AV × Heap := fun n => ([.int .i64 n], [])
def p49 : (Int) → Prop := fun n => True
def r49 : (Int) → AV := fun n => if 8 ≤ n ∧ n ≤ 1024 then .tup [.ref 0 0 0, .int .i64 0] else .tup [.lit (.pointer none), .int .i64 30]
def g49 : (Int) → Heap := fun n => if 8 ≤ n ∧ n ≤ 1024 then dskH (newD n) [] else []
theorem inj49 : ∀ a b, e49 a = e49 b → a = b := by
  rintro n n' h
  simp only [e49, mi_iff, ms_iff, mb_iff, my_iff, UInt8.toNat_inj, secs_iff, wrs_iff, dskH, dskK, Prod.mk.injEq, List.cons.injEq, AObj.row.injEq, AV.int.injEq, AV.str.injEq, AV.bool.injEq, AV.sl.injEq, AV.agg.injEq, AV.ip.injEq, AV.fn.injEq, AV.ifc.injEq, AV.mpr.injEq, AV.msl.injEq, AV.ref.injEq, Int.natCast_inj, and_true, true_and] at h
  simp_all only
noncomputable def S49 : FSpec := heapE true e49 p49 r49 g49
theorem ps49 (n : (Int)) : pselK e49 p49 ([.int .i64 n], []) = (True) := pselK_at inj49 p49 n
theorem rs49 (n : (Int)) : rselK e49 r49 .any ([.int .i64 n], []) = (if 8 ≤ n ∧ n ≤ 1024 then .tup [.ref 0 0 0, .int .i64 0] else .tup [.lit (.pointer none), .int .i64 30]) := rselK_at inj49 r49 .any n
theorem hs49 (n : (Int)) : rselK e49 g49 [] ([.int .i64 n], []) = (if 8 ≤ n ∧ n ≤ 1024 then dskH (newD n) [] else []) := rselK_at inj49 g49 [] n
attribute [push_cast] S49 ps49 rs49 hs49
theorem newD_len (n : Int) : (newD n).length = n.toNat := List.length_replicate
theorem fm_replicate {α : Type} {g : α → List AV} (x : α) : ∀ n : Nat, (List.replicate n x).flatMap g = reps n (g x)
  | 0 => rfl
  | n + 1 => by rw [List.replicate_succ, List.flatMap_cons, fm_replicate x n]; rfl
theorem body49 (Γ : Env) (n : Int) : BodyOk Tryz.prog Γ Tryz.f49 [.int .i64 n] [] (if 8 ≤ n ∧ n ≤ 1024 then .tup [.ref 0 0 0, .int .i64 0] else .tup [.lit (.pointer none), .int .i64 30]) (if 8 ≤ n ∧ n ≤ 1024 then dskH (newD n) [] else []) := by
  by_cases h : 8 ≤ n ∧ n ≤ 1024
  · have d1 : (decide (n < 8) || decide ((1024 : Int) < n)) = false := by
      rw [Bool.eq_false_iff]; intro h'; simp only [Bool.or_eq_true, decide_eq_true_eq] at h'; omega
    rw [if_pos h, if_pos h]
    unfold dskH
    (intro X hP hΓ hL hfin; refine ⟨_, rfl, ?_⟩; rw [show Tryz.f49.ntmps = 14 from rfl]; rw [show Tryz.f49.results.toList = [.tmp 2, .tmp 3] from rfl] at hfin; apply holds_of_ex X 400; simp (maxSteps := 1000000) only [push_cast, reduceCtorEq, Nat.reduceAdd, Nat.reduceMul, Nat.reduceSub, Nat.reduceBEq, Nat.reduceGT, Nat.reduceLT, Int.toNat_zero, Nat.reduceLeDiff, Int.reduceEq, Int.reduceLT, Int.reduceLE, hP, hΓ, hL, hfin, String.reduceEq, Int.toNat_one, Bool.not_not, d1, za121, hz121])
    refine ⟨⟨by omega, by omega, by omega⟩, ?_⟩
    refine IntoF.nilH 1 1 1025 rfl rfl ?_
    simp only [push_cast, newD_len]
    rw [show (List.replicate n.toNat (secC default)).flatten = (newD n).flatMap secC from (fm_replicate default n.toNat).symm]
    rw [List.flatMap_nil]
    exact IntoF.base [1, 0, 2] ⟨(by simp only [push_cast, reduceCtorEq, Nat.reduceAdd, Nat.reduceMul, Nat.reduceSub, Nat.reduceBEq, Nat.reduceGT, Nat.reduceLT, Int.toNat_zero, Nat.reduceLeDiff, Int.reduceEq, Int.reduceLT, Int.reduceLE, leF]), (by first | rfl | (simp only [push_cast, reduceCtorEq, Nat.reduceAdd, Nat.reduceMul, Nat.reduceSub, Nat.reduceBEq, Nat.reduceGT, Nat.reduceLT, Int.toNat_zero, Nat.reduceLeDiff, Int.reduceEq, Int.reduceLT, Int.reduceLE, leF, renO]; done)), (by decide), (by first | rfl | decide), (by simp only [push_cast, reduceCtorEq, Nat.reduceAdd, Nat.reduceMul, Nat.reduceSub, Nat.reduceBEq, Nat.reduceGT, Nat.reduceLT, Int.toNat_zero, Nat.reduceLeDiff, Int.reduceEq, Int.reduceLT, Int.reduceLE]), (by simp only [push_cast, reduceCtorEq, Nat.reduceAdd, Nat.reduceMul, Nat.reduceSub, Nat.reduceBEq, Nat.reduceGT, Nat.reduceLT, Int.toNat_zero, Nat.reduceLeDiff, Int.reduceEq, Int.reduceLT, Int.reduceLE])⟩ (by first | decide | (simp only [push_cast, reduceCtorEq, Nat.reduceAdd, Nat.reduceMul, Nat.reduceSub, Nat.reduceBEq, Nat.reduceGT, Nat.reduceLT, Int.toNat_zero, Nat.reduceLeDiff, Int.reduceEq, Int.reduceLT, Int.reduceLE]; done) | simp)
  · have d1 : (decide (n < 8) || decide ((1024 : Int) < n)) = true := by
      simp only [Bool.or_eq_true, decide_eq_true_eq]; omega
    rw [if_neg h, if_neg h]
    (intro X hP hΓ hL hfin; refine ⟨_, rfl, ?_⟩; rw [show Tryz.f49.ntmps = 14 from rfl]; rw [show Tryz.f49.results.toList = [.tmp 2, .tmp 3] from rfl] at hfin; apply holds_of_ex X 400; simp (maxSteps := 1000000) only [push_cast, reduceCtorEq, Nat.reduceAdd, Nat.reduceMul, Nat.reduceSub, Nat.reduceBEq, Nat.reduceGT, Nat.reduceLT, Int.toNat_zero, Nat.reduceLeDiff, Int.reduceEq, Int.reduceLT, Int.reduceLE, hP, hΓ, hL, hfin, String.reduceEq, Int.toNat_one, Bool.not_not, d1])
    exact Into.sameA
theorem con49 {Γ : Env} (h : EnvOk Tryz.prog Γ)  : Con Tryz.prog 49 S49 :=
  heapE_con h (fn := Tryz.f49) (by kernel_rfl) rfl (by kernel_rfl) inj49 fun n _ => body49 Γ n
/-- a word's bytes, the lowest first -/
def q8 (n : Nat) : Nat := n / 256
def q16 (n : Nat) : Nat := n / 65536
def q24 (n : Nat) : Nat := n / 16777216
def leW (w : Nat) : List UInt8 := [UInt8.ofNat w, UInt8.ofNat (q8 w), UInt8.ofNat (q16 w), UInt8.ofNat (q24 w)]
theorem leW_len (w : Nat) : (leW w).length = 4 := rfl
theorem wrap_u8 (n : Nat) : IntKind.u8.wrap (n : Int) = ((UInt8.ofNat n).toNat : Int) := by
  rw [show IntKind.u8.wrap (n : Int) = ((n % 256 : Nat) : Int) by simp [IntKind.wrap, IntKind.bits, IntKind.signed]]; congr 1
theorem shr_nat (n s : Nat) : (n : Int).fdiv (2 ^ s) = ((n / 2 ^ s : Nat) : Int) := by
  rw [Int.fdiv_eq_ediv_of_nonneg _ (by exact Int.le_of_lt (Int.pow_pos (by omega)))]
  simp
theorem sh8 (w : Nat) : (w : Int).fdiv (2 ^ min (Int.toNat 8) IntKind.u32.bits) = (q8 w : Int) := shr_nat w 8
theorem sh16 (w : Nat) : (w : Int).fdiv (2 ^ min (Int.toNat 16) IntKind.u32.bits) = (q16 w : Int) := shr_nat w 16
theorem sh24 (w : Nat) : (w : Int).fdiv (2 ^ min (Int.toNat 24) IntKind.u32.bits) = (q24 w : Int) := shr_nat w 24
inductive A91 where
  | c0 (w : (Nat))
  | c1 (w : (Nat)) (p : (List UInt8)) (v : (Nat))
def e91 : A91 → List AV × Heap
  | .c0 w => ([.lit (.slice none 0 0), .int .u32 w], [])
  | .c1 w p v => ([.msl 0 v 0 p.length, .int .u32 w], [.row (p.map byteAV) 1 v])
def p91 : A91 → Prop
  | .c0 w => True
  | .c1 w p v => p.length ≤ 1000000
def r91 : A91 → AV
  | .c0 w => .msl 0 0 0 4
  | .c1 w p v => .msl 0 (v + 1) 0 (p.length + 4)
def g91 : A91 → Heap
  | .c0 w => [.row ((leW w).map byteAV) 1 0]
  | .c1 w p v => [.row ((p ++ leW w).map byteAV) 1 (v + 1)]
theorem inj91 : ∀ a b, e91 a = e91 b → a = b := by
  intro a b h
  cases a <;> cases b <;> simp only [e91, mi_iff, ms_iff, mb_iff, my_iff, UInt8.toNat_inj, secs_iff, wrs_iff, dskH, dskK, Prod.mk.injEq, List.cons.injEq, AObj.row.injEq, AV.int.injEq, AV.str.injEq, AV.bool.injEq, AV.sl.injEq, AV.agg.injEq, AV.ip.injEq, AV.fn.injEq, Fn.func.injEq, AV.ifc.injEq, AV.mpr.injEq, AV.msl.injEq, AV.ref.injEq, Int.natCast_inj, and_true, true_and, reduceCtorEq, Nat.reduceEqDiff, false_and, and_false, List.cons_ne_nil] at h <;> simp_all only
noncomputable def S91 : FSpec := heapF e91 p91 r91 g91
theorem ps91_0 (w : (Nat)) : pselK e91 p91 ([.lit (.slice none 0 0), .int .u32 w], []) = (True) := pselK_at inj91 p91 (.c0 w)
theorem rs91_0 (w : (Nat)) : rselK e91 r91 .any ([.lit (.slice none 0 0), .int .u32 w], []) = (.msl 0 0 0 4) := rselK_at inj91 r91 .any (.c0 w)
theorem hs91_0 (w : (Nat)) : rselK e91 g91 [] ([.lit (.slice none 0 0), .int .u32 w], []) = ([.row ((leW w).map byteAV) 1 0]) := rselK_at inj91 g91 [] (.c0 w)
theorem ps91_1 (w : (Nat)) (p : (List UInt8)) (v : (Nat)) : pselK e91 p91 ([.msl 0 v 0 p.length, .int .u32 w], [.row (p.map byteAV) 1 v]) = (p.length ≤ 1000000) := pselK_at inj91 p91 (.c1 w p v)
theorem rs91_1 (w : (Nat)) (p : (List UInt8)) (v : (Nat)) : rselK e91 r91 .any ([.msl 0 v 0 p.length, .int .u32 w], [.row (p.map byteAV) 1 v]) = (.msl 0 (v + 1) 0 (p.length + 4)) := rselK_at inj91 r91 .any (.c1 w p v)
theorem hs91_1 (w : (Nat)) (p : (List UInt8)) (v : (Nat)) : rselK e91 g91 [] ([.msl 0 v 0 p.length, .int .u32 w], [.row (p.map byteAV) 1 v]) = ([.row ((p ++ leW w).map byteAV) 1 (v + 1)]) := rselK_at inj91 g91 [] (.c1 w p v)
attribute [push_cast] S91 ps91_0 rs91_0 hs91_0 ps91_1 rs91_1 hs91_1
theorem body91n (Γ : Env) (w : Nat) : BodyOk Tryz.prog Γ Tryz.f91 [.lit (.slice none 0 0), .int .u32 w] [] (.msl 0 0 0 4) [.row ((leW w).map byteAV) 1 0] := by
  (intro X hP hΓ hL hfin; refine ⟨_, rfl, ?_⟩; rw [show Tryz.f91.ntmps = 19 from rfl]; rw [show Tryz.f91.results.toList = [.tmp 4] from rfl] at hfin; apply holds_of_ex X 400; simp (maxSteps := 1000000) only [push_cast, reduceCtorEq, Nat.reduceAdd, Nat.reduceMul, Nat.reduceSub, Nat.reduceBEq, Nat.reduceGT, Nat.reduceLT, Int.toNat_zero, Nat.reduceLeDiff, Int.reduceEq, Int.reduceLT, Int.reduceLE, hP, hΓ, hL, hfin, String.reduceEq, Int.toNat_one, Bool.not_not, sh8, sh16, sh24, wrap_u8])
  exact Into.sameA
theorem body91 (Γ : Env) (w : Nat) (p : List UInt8) (v : Nat) (hp : p.length ≤ 1000000) : BodyOk Tryz.prog Γ Tryz.f91 [.msl 0 v 0 p.length, .int .u32 w] [.row (p.map byteAV) 1 v] (.msl 0 (v + 1) 0 (p.length + 4)) [.row ((p ++ leW w).map byteAV) 1 (v + 1)] := by
  (intro X hP hΓ hL hfin; refine ⟨_, rfl, ?_⟩; rw [show Tryz.f91.ntmps = 19 from rfl]; rw [show Tryz.f91.results.toList = [.tmp 4] from rfl] at hfin; apply holds_of_ex X 400; simp (maxSteps := 1000000) only [push_cast, reduceCtorEq, Nat.reduceAdd, Nat.reduceMul, Nat.reduceSub, Nat.reduceBEq, Nat.reduceGT, Nat.reduceLT, Int.toNat_zero, Nat.reduceLeDiff, Int.reduceEq, Int.reduceLT, Int.reduceLE, hP, hΓ, hL, hfin, String.reduceEq, Int.toNat_one, Bool.not_not, sh8, sh16, sh24, wrap_u8])
  refine ⟨by omega, ?_⟩
  rw [List.map_append]
  exact Into.sameA
theorem con91 {Γ : Env} (h : EnvOk Tryz.prog Γ)  : Con Tryz.prog 91 S91 :=
  heapF_con h (fn := Tryz.f91) (by kernel_rfl) rfl (by kernel_rfl) inj91 fun a h => match a, h with | .c0 w, _ => body91n Γ w | .c1 w p v, h => body91 Γ w p v h
theorem pinfreeL_fmF {α : Type} {g : α → List AV} (h : ∀ x, pinfreeL (g x) = true) : ∀ xs : List α, pinfreeL (xs.flatMap g) = true
  | [] => rfl
  | x :: xs => by rw [List.flatMap_cons, pinfreeL_append, h, pinfreeL_fmF h xs]; rfl
theorem pf_sec (S : List Sec) : pinfreeL (S.flatMap secC) = true := pinfreeL_fmF (fun s => pinfreeL_bytes _) S
theorem pf_wr (W : List Wr) : pinfreeL (W.flatMap wrC) = true := pinfreeL_fmF (fun w => by simp only [wrC, pinfreeL, pinfree, Bool.true_and]; exact pinfreeL_bytes _) W
attribute [push_cast] pf_sec pf_wr
def padP (p : List UInt8) : List UInt8 := p ++ List.replicate (1024 - p.length) 0
theorem padP_len {p : List UInt8} (h : p.length ≤ 1024) : (padP p).length = 1024 := by unfold padP; rw [List.length_append, List.length_replicate]; omega
def e92 : (List Sec) × (List Wr) × (List UInt8) × (Nat) × (Int) → List AV × Heap := fun (S, W, p, v, n) => ([.msl 0 v 0 p.length, .ref 1 0 0, .int .i64 n], .row (p.map byteAV) 1 v :: dskK S W)
def p92 : (List Sec) × (List Wr) × (List UInt8) × (Nat) × (Int) → Prop := fun (S, W, p, v, n) => p.length ≤ 1024 ∧ W.length ≤ 4096 ∧ S.length ≤ 4096
def r92 : (List Sec) × (List Wr) × (List UInt8) × (Nat) × (Int) → AV := fun (S, W, p, v, n) => .tup []
def g92 : (List Sec) × (List Wr) × (List UInt8) × (Nat) × (Int) → Heap := fun (S, W, p, v, n) => .row ((padP p).map byteAV) 1 (v + 1) :: dskK (wrS S W n (padP p)) (wrW S W n (padP p))
theorem inj92 : ∀ a b, e92 a = e92 b → a = b := by
  rintro ⟨S, W, p, v, n⟩ ⟨S', W', p', v', n'⟩ h
  simp only [e92, mi_iff, ms_iff, mb_iff, my_iff, UInt8.toNat_inj, secs_iff, wrs_iff, dskH, dskK, Prod.mk.injEq, List.cons.injEq, AObj.row.injEq, AV.int.injEq, AV.str.injEq, AV.bool.injEq, AV.sl.injEq, AV.agg.injEq, AV.ip.injEq, AV.fn.injEq, AV.ifc.injEq, AV.mpr.injEq, AV.msl.injEq, AV.ref.injEq, Int.natCast_inj, and_true, true_and] at h
  simp_all only
noncomputable def S92 : FSpec := heapF e92 p92 r92 g92
theorem ps92 (S : (List Sec)) (W : (List Wr)) (p : (List UInt8)) (v : (Nat)) (n : (Int)) : pselK e92 p92 ([.msl 0 v 0 p.length, .ref 1 0 0, .int .i64 n], .row (p.map byteAV) 1 v :: dskK S W) = (p.length ≤ 1024 ∧ W.length ≤ 4096 ∧ S.length ≤ 4096) := pselK_at inj92 p92 (S, W, p, v, n)
theorem rs92 (S : (List Sec)) (W : (List Wr)) (p : (List UInt8)) (v : (Nat)) (n : (Int)) : rselK e92 r92 .any ([.msl 0 v 0 p.length, .ref 1 0 0, .int .i64 n], .row (p.map byteAV) 1 v :: dskK S W) = (.tup []) := rselK_at inj92 r92 .any (S, W, p, v, n)
theorem hs92 (S : (List Sec)) (W : (List Wr)) (p : (List UInt8)) (v : (Nat)) (n : (Int)) : rselK e92 g92 [] ([.msl 0 v 0 p.length, .ref 1 0 0, .int .i64 n], .row (p.map byteAV) 1 v :: dskK S W) = (.row ((padP p).map byteAV) 1 (v + 1) :: dskK (wrS S W n (padP p)) (wrW S W n (padP p))) := rselK_at inj92 g92 [] (S, W, p, v, n)
attribute [push_cast] S92 ps92 rs92 hs92
theorem body92 (Γ : Env) (h61 : Γ 61 = some S61) (S : List Sec) (W : List Wr) (p : List UInt8) (v : Nat) (n : Int) (hp : p.length ≤ 1024) (hW : W.length ≤ 4096) (hS : S.length ≤ 4096) : BodyOk Tryz.prog Γ Tryz.f92 [.msl 0 v 0 p.length, .ref 1 0 0, .int .i64 n] (.row (p.map byteAV) 1 v :: dskK S W) (.tup []) (.row ((padP p).map byteAV) 1 (v + 1) :: dskK (wrS S W n (padP p)) (wrW S W n (padP p))) := by
  have ps := ps61 S W n (padP p)
  have rs := rs61 S W n (padP p)
  have hs := hs61 S W n (padP p)
  unfold dskH at *
  unfold dskK
  obtain ⟨q, hq⟩ : ∃ q, q = 1024 - p.length := ⟨_, rfl⟩
  have e1 : IntKind.i64.wrap (1024 - (p.length : Int)) = (q : Int) := by rw [wr_i64 _ (by constructor <;> omega)]; omega
  have e2 : List.map byteAV p ++ (List.replicate q [AV.int .u8 0]).flatten = (padP p).map byteAV := by
    unfold padP
    rw [List.map_append, ← hq]
    congr 1
    rw [List.map_replicate]
    clear hq e1
    induction q with
    | zero => rfl
    | succ q ih => rw [List.replicate_succ, List.flatten_cons, ih]; rfl
  have e3 : p.length + q = (padP p).length := by rw [padP_len hp]; omega
  have e4 := padP_len hp
  (intro X hP hΓ hL hfin; refine ⟨_, rfl, ?_⟩; rw [show Tryz.f92.ntmps = 14 from rfl]; rw [show Tryz.f92.results.toList = [] from rfl] at hfin; apply holds_of_ex X 400; simp (maxSteps := 1000000) only [push_cast, reduceCtorEq, Nat.reduceAdd, Nat.reduceMul, Nat.reduceSub, Nat.reduceBEq, Nat.reduceGT, Nat.reduceLT, Int.toNat_zero, Nat.reduceLeDiff, Int.reduceEq, Int.reduceLT, Int.reduceLE, hP, hΓ, hL, hfin, String.reduceEq, Int.toNat_one, Bool.not_not, h61, ps, rs, hs, e1, e2, e3, tk_map])
  refine ⟨by omega, ⟨by decide, ⟨hW, hS⟩⟩, ?_⟩
  exact Into.sameA
theorem con92 {Γ : Env} (h : EnvOk Tryz.prog Γ) (h61 : Γ 61 = some S61) : Con Tryz.prog 92 S92 :=
  heapF_con h (fn := Tryz.f92) (by kernel_rfl) rfl (by kernel_rfl) inj92 fun ⟨S, W, p, v, n⟩ h => body92 Γ h61 S W p v n h.1 h.2.1 h.2.2
def markR : Nat := 827475011
def fmtS (S : List Sec) (W : List Wr) : List Sec := wrS S W 0 (padP (leW markR))
def fmtW (S : List Sec) (W : List Wr) : List Wr := wrW S W 0 (padP (leW markR))
inductive A37 where
  | c0 
  | c1 (S : (List Sec)) (W : (List Wr))
def e37 : A37 → List AV × Heap
  | .c0  => ([.lit (.pointer none)], [])
  | .c1 S W => ([.ref 0 0 0], dskH S W)
def p37 : A37 → Prop
  | .c0  => True
  | .c1 S W => W.length ≤ 4096 ∧ S.length ≤ 4096
def r37 : A37 → AV
  | .c0  => .int .i64 1
  | .c1 S W => .int .i64 (if W.length < 4096 then 0 else 174)
def g37 : A37 → Heap
  | .c0  => []
  | .c1 S W => if W.length < 4096 then dskH (fmtS S W) (fmtW S W) else dskH S W
theorem inj37 : ∀ a b, e37 a = e37 b → a = b := by
  intro a b h
  cases a <;> cases b <;> simp only [e37, mi_iff, ms_iff, mb_iff, my_iff, UInt8.toNat_inj, secs_iff, wrs_iff, dskH, dskK, Prod.mk.injEq, List.cons.injEq, AObj.row.injEq, AV.int.injEq, AV.str.injEq, AV.bool.injEq, AV.sl.injEq, AV.agg.injEq, AV.ip.injEq, AV.fn.injEq, Fn.func.injEq, AV.ifc.injEq, AV.mpr.injEq, AV.msl.injEq, AV.ref.injEq, Int.natCast_inj, and_true, true_and, reduceCtorEq, Nat.reduceEqDiff, false_and, and_false, List.cons_ne_nil] at h <;> simp_all only
noncomputable def S37 : FSpec := heapE true e37 p37 r37 g37
theorem ps37_0  : pselK e37 p37 ([.lit (.pointer none)], []) = (True) := pselK_at inj37 p37 (.c0 )
theorem rs37_0  : rselK e37 r37 .any ([.lit (.pointer none)], []) = (.int .i64 1) := rselK_at inj37 r37 .any (.c0 )
theorem hs37_0  : rselK e37 g37 [] ([.lit (.pointer none)], []) = ([]) := rselK_at inj37 g37 [] (.c0 )
theorem ps37_1 (S : (List Sec)) (W : (List Wr)) : pselK e37 p37 ([.ref 0 0 0], dskH S W) = (W.length ≤ 4096 ∧ S.length ≤ 4096) := pselK_at inj37 p37 (.c1 S W)
theorem rs37_1 (S : (List Sec)) (W : (List Wr)) : rselK e37 r37 .any ([.ref 0 0 0], dskH S W) = (.int .i64 (if W.length < 4096 then 0 else 174)) := rselK_at inj37 r37 .any (.c1 S W)
theorem hs37_1 (S : (List Sec)) (W : (List Wr)) : rselK e37 g37 [] ([.ref 0 0 0], dskH S W) = (if W.length < 4096 then dskH (fmtS S W) (fmtW S W) else dskH S W) := rselK_at inj37 g37 [] (.c1 S W)
attribute [push_cast] S37 ps37_0 rs37_0 hs37_0 ps37_1 rs37_1 hs37_1
theorem body37n (Γ : Env) : BodyOk Tryz.prog Γ Tryz.f37 [.lit (.pointer none)] [] (.int .i64 1) [] := by
  (intro X hP hΓ hL hfin; refine ⟨_, rfl, ?_⟩; rw [show Tryz.f37.ntmps = 13 from rfl]; rw [show Tryz.f37.results.toList = [.tmp 2] from rfl] at hfin; apply holds_of_ex X 400; simp (maxSteps := 1000000) only [push_cast, reduceCtorEq, Nat.reduceAdd, Nat.reduceMul, Nat.reduceSub, Nat.reduceBEq, Nat.reduceGT, Nat.reduceLT, Int.toNat_zero, Nat.reduceLeDiff, Int.reduceEq, Int.reduceLT, Int.reduceLE, hP, hΓ, hL, hfin, String.reduceEq, Int.toNat_one, Bool.not_not, ])
  exact Into.sameA
theorem body37 (Γ : Env) (h90 : Γ 90 = some S90) (h91 : Γ 91 = some S91) (h92 : Γ 92 = some S92) (S : List Sec) (W : List Wr) (hW : W.length ≤ 4096) (hS : S.length ≤ 4096) : BodyOk Tryz.prog Γ Tryz.f37 [.ref 0 0 0] (dskH S W) (.int .i64 (if W.length < 4096 then 0 else 174)) (if W.length < 4096 then dskH (fmtS S W) (fmtW S W) else dskH S W) := by
  have ps := ps90 S W 1
  have rs := rs90 S W 1
  have hs := hs90 S W 1
  have p2 := ps92 S W (leW markR) 0 0
  have r2 := rs92 S W (leW markR) 0 0
  have g2 := hs92 S W (leW markR) 0 0
  have p1 := ps91_0 markR
  have r1 := rs91_0 markR
  have g1 := hs91_0 markR
  rw [show ((markR : Nat) : Int) = 827475011 from rfl] at p1 r1 g1
  rw [leW_len] at p2 r2 g2
  by_cases h : W.length < 4096
  · have d1 : decide ((W.length : Int) + 1 ≤ 4096) = true := decide_eq_true (by omega)
    rw [if_pos h, if_pos h]
    unfold fmtS fmtW
    unfold dskH dskK at *
    (intro X hP hΓ hL hfin; refine ⟨_, rfl, ?_⟩; rw [show Tryz.f37.ntmps = 13 from rfl]; rw [show Tryz.f37.results.toList = [.tmp 2] from rfl] at hfin; apply holds_of_ex X 400; simp (maxSteps := 1000000) only [push_cast, reduceCtorEq, Nat.reduceAdd, Nat.reduceMul, Nat.reduceSub, Nat.reduceBEq, Nat.reduceGT, Nat.reduceLT, Int.toNat_zero, Nat.reduceLeDiff, Int.reduceEq, Int.reduceLT, Int.reduceLE, hP, hΓ, hL, hfin, String.reduceEq, Int.toNat_one, Bool.not_not, h90, h91, h92, ps, rs, hs, d1, p1, r1, g1, p2, r2, g2])
    refine ⟨⟨by decide, hW⟩, ⟨by decide, hW, hS⟩, ?_⟩
    exact Into.keep3A
  · have d1 : decide ((W.length : Int) + 1 ≤ 4096) = false := decide_eq_false (by omega)
    rw [if_neg h, if_neg h]
    unfold dskH at *
    (intro X hP hΓ hL hfin; refine ⟨_, rfl, ?_⟩; rw [show Tryz.f37.ntmps = 13 from rfl]; rw [show Tryz.f37.results.toList = [.tmp 2] from rfl] at hfin; apply holds_of_ex X 400; simp (maxSteps := 1000000) only [push_cast, reduceCtorEq, Nat.reduceAdd, Nat.reduceMul, Nat.reduceSub, Nat.reduceBEq, Nat.reduceGT, Nat.reduceLT, Int.toNat_zero, Nat.reduceLeDiff, Int.reduceEq, Int.reduceLT, Int.reduceLE, hP, hΓ, hL, hfin, String.reduceEq, Int.toNat_one, Bool.not_not, h90, ps, rs, hs, d1])
    refine ⟨by omega, ?_⟩
    exact Into.sameA
theorem con37 {Γ : Env} (h : EnvOk Tryz.prog Γ) (h90 : Γ 90 = some S90) (h91 : Γ 91 = some S91) (h92 : Γ 92 = some S92) : Con Tryz.prog 37 S37 :=
  heapE_con h (fn := Tryz.f37) (by kernel_rfl) rfl (by kernel_rfl) inj37 fun a h => match a, h with | .c0, _ => body37n Γ | .c1 S W, h => body37 Γ h90 h91 h92 S W h.1 h.2
end Go.Proofs.YtbnnhffkbcekcaaGreatDoor.dirDone
