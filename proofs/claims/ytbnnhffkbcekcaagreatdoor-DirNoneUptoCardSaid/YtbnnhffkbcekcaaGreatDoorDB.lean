/- Of disks: sectors, writes. Conditions stand in each. -/
import Derived.Test.YtbnnhffkbcekcaaGreatDoorDA
namespace Go.Proofs.YtbnnhffkbcekcaaGreatDoor.dirDone
open Go Go.Eng Go.Proofs
set_option linter.unusedVariables false
set_option linter.unusedSimpArgs false
set_option maxRecDepth 100000
set_option maxHeartbeats 4000000
/-- a sector -/
abbrev Sec : Type := { l : List UInt8 // l.length = 1024 }
def secC (s : Sec) : List AV := s.1.map byteAV
instance : PureC secC := ⟨fun s => by simp only [secC, pureL_map], fun s => by simp only [secC]; exact one_map _⟩
instance : Width secC 1024 := ⟨fun s => by rw [secC, List.length_map, s.2]⟩
instance : Inhabited Sec := ⟨⟨List.replicate 1024 0, List.length_replicate⟩⟩
/-- a write: where, and what stood there -/
abbrev Wr : Type := Int × Sec
def wrC (w : Wr) : List AV := .int .i64 w.1 :: w.2.1.map byteAV
instance : PureC wrC := ⟨fun w => by simp only [wrC, pureL, pureA, pureL_map, Bool.and_self], fun w => by simp only [wrC, oneCells]; exact one_map _⟩
instance : Width wrC 1025 := ⟨fun w => by rw [wrC, List.length_cons, List.length_map, w.2.2]⟩
instance : Inhabited Wr := ⟨(0, default)⟩
theorem sec_inj (a b : Sec) (h : secC a = secC b) : a = b := Subtype.ext (my_iff.1 h)
theorem wr_inj (a b : Wr) (h : wrC a = wrC b) : a = b := by
  obtain ⟨n, s⟩ := a
  obtain ⟨k, t⟩ := b
  simp only [wrC, List.cons.injEq, AV.int.injEq, true_and] at h
  rw [h.1, sec_inj s t h.2]
theorem secs_iff {S T : List Sec} : S.flatMap secC = T.flatMap secC ↔ S = T := ⟨inj_fm (n := 1024) sec_inj (fun s => Width.len s) (by decide), fun h => by rw [h]⟩
theorem wrs_iff {S T : List Wr} : S.flatMap wrC = T.flatMap wrC ↔ S = T := ⟨inj_fm (n := 1025) wr_inj (fun s => Width.len s) (by decide), fun h => by rw [h]⟩
/-- a disk -/
def dskH (S : List Sec) (W : List Wr) : Heap := [.row [.msl 1 0 0 S.length, .msl 2 W.length 0 W.length] 2 0, .row (S.flatMap secC) 1024 0, .row (W.flatMap wrC) 1025 W.length]
def e31 : (List Sec) × (List Wr) → List AV × Heap := fun (S, W) => ([.ref 0 0 0], dskH S W)
def p31 : (List Sec) × (List Wr) → Prop := fun (S, W) => True
def r31 : (List Sec) × (List Wr) → AV := fun (S, W) => .int .i64 S.length
def g31 : (List Sec) × (List Wr) → Heap := fun (S, W) => dskH S W
theorem inj31 : ∀ a b, e31 a = e31 b → a = b := by
  rintro ⟨S, W⟩ ⟨S', W'⟩ h
  simp only [e31, mi_iff, ms_iff, mb_iff, my_iff, UInt8.toNat_inj, secs_iff, wrs_iff, dskH, Prod.mk.injEq, List.cons.injEq, AObj.row.injEq, AV.int.injEq, AV.str.injEq, AV.bool.injEq, AV.sl.injEq, AV.agg.injEq, AV.ip.injEq, AV.fn.injEq, AV.ifc.injEq, AV.mpr.injEq, AV.msl.injEq, AV.ref.injEq, Int.natCast_inj, and_true, true_and] at h
  simp_all only
noncomputable def S31 : FSpec := heapE true e31 p31 r31 g31
theorem ps31 (S : (List Sec)) (W : (List Wr)) : pselK e31 p31 ([.ref 0 0 0], dskH S W) = (True) := pselK_at inj31 p31 (S, W)
theorem rs31 (S : (List Sec)) (W : (List Wr)) : rselK e31 r31 .any ([.ref 0 0 0], dskH S W) = (.int .i64 S.length) := rselK_at inj31 r31 .any (S, W)
theorem hs31 (S : (List Sec)) (W : (List Wr)) : rselK e31 g31 [] ([.ref 0 0 0], dskH S W) = (dskH S W) := rselK_at inj31 g31 [] (S, W)
attribute [push_cast] S31 ps31 rs31 hs31
theorem body31 (Γ : Env) (S : List Sec) (W : List Wr) : BodyOk Tryz.prog Γ Tryz.f31 [.ref 0 0 0] (dskH S W) (.int .i64 S.length) (dskH S W) := by
  unfold dskH
  (intro X hP hΓ hL hfin; refine ⟨_, rfl, ?_⟩; rw [show Tryz.f31.ntmps = 10 from rfl]; rw [show Tryz.f31.results.toList = [.tmp 2] from rfl] at hfin; apply holds_of_ex X 400; simp (maxSteps := 1000000) only [push_cast, reduceCtorEq, Nat.reduceAdd, Nat.reduceMul, Nat.reduceSub, Nat.reduceBEq, Nat.reduceGT, Nat.reduceLT, Int.toNat_zero, Nat.reduceLeDiff, Int.reduceEq, Int.reduceLT, Int.reduceLE, hP, hΓ, hL, hfin, String.reduceEq, Int.toNat_one, Bool.not_not])
  exact Into.sameA
theorem con31 {Γ : Env} (h : EnvOk Tryz.prog Γ)  : Con Tryz.prog 31 S31 :=
  heapE_con h (fn := Tryz.f31) (by kernel_rfl) rfl (by kernel_rfl) inj31 fun ⟨S, W⟩ _ => body31 Γ S W
def e115 : (List Sec) × (List Wr) × (Int) → List AV × Heap := fun (S, W, n) => ([.ref 0 0 0, .int .i64 n], dskH S W)
def p115 : (List Sec) × (List Wr) × (Int) → Prop := fun (S, W, n) => True
def r115 : (List Sec) × (List Wr) × (Int) → AV := fun (S, W, n) => .int .i64 (if 0 ≤ n ∧ n < S.length then 0 else 31)
def g115 : (List Sec) × (List Wr) × (Int) → Heap := fun (S, W, n) => dskH S W
theorem inj115 : ∀ a b, e115 a = e115 b → a = b := by
  rintro ⟨S, W, n⟩ ⟨S', W', n'⟩ h
  simp only [e115, mi_iff, ms_iff, mb_iff, my_iff, UInt8.toNat_inj, secs_iff, wrs_iff, dskH, Prod.mk.injEq, List.cons.injEq, AObj.row.injEq, AV.int.injEq, AV.str.injEq, AV.bool.injEq, AV.sl.injEq, AV.agg.injEq, AV.ip.injEq, AV.fn.injEq, AV.ifc.injEq, AV.mpr.injEq, AV.msl.injEq, AV.ref.injEq, Int.natCast_inj, and_true, true_and] at h
  simp_all only
noncomputable def S115 : FSpec := heapE true e115 p115 r115 g115
theorem ps115 (S : (List Sec)) (W : (List Wr)) (n : (Int)) : pselK e115 p115 ([.ref 0 0 0, .int .i64 n], dskH S W) = (True) := pselK_at inj115 p115 (S, W, n)
theorem rs115 (S : (List Sec)) (W : (List Wr)) (n : (Int)) : rselK e115 r115 .any ([.ref 0 0 0, .int .i64 n], dskH S W) = (.int .i64 (if 0 ≤ n ∧ n < S.length then 0 else 31)) := rselK_at inj115 r115 .any (S, W, n)
theorem hs115 (S : (List Sec)) (W : (List Wr)) (n : (Int)) : rselK e115 g115 [] ([.ref 0 0 0, .int .i64 n], dskH S W) = (dskH S W) := rselK_at inj115 g115 [] (S, W, n)
attribute [push_cast] S115 ps115 rs115 hs115
theorem body115 (Γ : Env) (S : List Sec) (W : List Wr) (n : Int) : BodyOk Tryz.prog Γ Tryz.f115 [.ref 0 0 0, .int .i64 n] (dskH S W) (.int .i64 (if 0 ≤ n ∧ n < S.length then 0 else 31)) (dskH S W) := by
  unfold dskH
  by_cases h : 0 ≤ n ∧ n < S.length
  · have d1 : (decide (n < 0) || decide ((S.length : Int) ≤ n)) = false := by
      rw [Bool.eq_false_iff]; intro h'; simp only [Bool.or_eq_true, decide_eq_true_eq] at h'; omega
    rw [if_pos h]
    (intro X hP hΓ hL hfin; refine ⟨_, rfl, ?_⟩; rw [show Tryz.f115.ntmps = 20 from rfl]; rw [show Tryz.f115.results.toList = [.tmp 4] from rfl] at hfin; apply holds_of_ex X 400; simp (maxSteps := 1000000) only [push_cast, reduceCtorEq, Nat.reduceAdd, Nat.reduceMul, Nat.reduceSub, Nat.reduceBEq, Nat.reduceGT, Nat.reduceLT, Int.toNat_zero, Nat.reduceLeDiff, Int.reduceEq, Int.reduceLT, Int.reduceLE, hP, hΓ, hL, hfin, String.reduceEq, Int.toNat_one, Bool.not_not, d1])
    exact Into.sameA
  · have d1 : (decide (n < 0) || decide ((S.length : Int) ≤ n)) = true := by
      simp only [Bool.or_eq_true, decide_eq_true_eq]; omega
    rw [if_neg h]
    (intro X hP hΓ hL hfin; refine ⟨_, rfl, ?_⟩; rw [show Tryz.f115.ntmps = 20 from rfl]; rw [show Tryz.f115.results.toList = [.tmp 4] from rfl] at hfin; apply holds_of_ex X 400; simp (maxSteps := 1000000) only [push_cast, reduceCtorEq, Nat.reduceAdd, Nat.reduceMul, Nat.reduceSub, Nat.reduceBEq, Nat.reduceGT, Nat.reduceLT, Int.toNat_zero, Nat.reduceLeDiff, Int.reduceEq, Int.reduceLT, Int.reduceLE, hP, hΓ, hL, hfin, String.reduceEq, Int.toNat_one, Bool.not_not, d1])
    exact Into.sameA
theorem con115 {Γ : Env} (h : EnvOk Tryz.prog Γ)  : Con Tryz.prog 115 S115 :=
  heapE_con h (fn := Tryz.f115) (by kernel_rfl) rfl (by kernel_rfl) inj115 fun ⟨S, W, n⟩ _ => body115 Γ S W n
end Go.Proofs.YtbnnhffkbcekcaaGreatDoor.dirDone
