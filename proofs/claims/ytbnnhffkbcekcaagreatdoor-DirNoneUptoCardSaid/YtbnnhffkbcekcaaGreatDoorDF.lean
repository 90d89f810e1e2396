/- Of disks: a directory that is empty. Conditions stand in each. -/
import Derived.Test.YtbnnhffkbcekcaaGreatDoorDE
namespace Go.Proofs.YtbnnhffkbcekcaaGreatDoor.dirDone
open Go Go.Eng Go.Proofs
set_option linter.unusedVariables false
set_option linter.unusedSimpArgs false
set_option maxRecDepth 100000
set_option maxHeartbeats 4000000
/-- a directory without files -/
def d0H (S : List Sec) (W : List Wr) (U : List Int) : Heap := [.row [.ref 1 0 0, .lit (.slice none 0 0), .lit (.slice none 0 0), .msl 2 0 0 U.length] 4 0, .row [.msl 3 0 0 S.length, .msl 4 W.length 0 W.length] 2 0, .row (U.map (AV.int .i64)) 1 0, .row (S.flatMap secC) 1024 0, .row (W.flatMap wrC) 1025 W.length]
/-- the root's bytes -/
def rootB (S : List Sec) : List UInt8 := (S.getD 0 default).1
def empty0 (S : List Sec) : Prop := getW (rootB S) 0 = markR ∧ getW (rootB S) 4 = 0
def e55 : (List Sec) × (List Wr) × (List Int) → List AV × Heap := fun (S, W, U) => ([.ref 0 0 0], d0H S W U)
def p55 : (List Sec) × (List Wr) × (List Int) → Prop := fun (S, W, U) => 0 < S.length ∧ 0 < U.length ∧ empty0 S
def r55 : (List Sec) × (List Wr) × (List Int) → AV := fun (S, W, U) => .bool true
def g55 : (List Sec) × (List Wr) × (List Int) → Heap := fun (S, W, U) => d0H S W (U.set 0 1)
theorem inj55 : ∀ a b, e55 a = e55 b → a = b := by
  rintro ⟨S, W, U⟩ ⟨S', W', U'⟩ h
  simp only [e55, mi_iff, ms_iff, mb_iff, my_iff, UInt8.toNat_inj, secs_iff, wrs_iff, dskH, dskK, d0H, Prod.mk.injEq, List.cons.injEq, AObj.row.injEq, AV.int.injEq, AV.str.injEq, AV.bool.injEq, AV.sl.injEq, AV.agg.injEq, AV.ip.injEq, AV.fn.injEq, AV.ifc.injEq, AV.mpr.injEq, AV.msl.injEq, AV.ref.injEq, Int.natCast_inj, and_true, true_and] at h
  simp_all only
noncomputable def S55 : FSpec := heapE true e55 p55 r55 g55
theorem ps55 (S : (List Sec)) (W : (List Wr)) (U : (List Int)) : pselK e55 p55 ([.ref 0 0 0], d0H S W U) = (0 < S.length ∧ 0 < U.length ∧ empty0 S) := pselK_at inj55 p55 (S, W, U)
theorem rs55 (S : (List Sec)) (W : (List Wr)) (U : (List Int)) : rselK e55 r55 .any ([.ref 0 0 0], d0H S W U) = (.bool true) := rselK_at inj55 r55 .any (S, W, U)
theorem hs55 (S : (List Sec)) (W : (List Wr)) (U : (List Int)) : rselK e55 g55 [] ([.ref 0 0 0], d0H S W U) = (d0H S W (U.set 0 1)) := rselK_at inj55 g55 [] (S, W, U)
attribute [push_cast] S55 ps55 rs55 hs55
theorem body55 (Γ : Env) (h62 : Γ 62 = some S62) (h113 : Γ 113 = some S113) (S : List Sec) (W : List Wr) (U : List Int) (hS : 0 < S.length) (hU : 0 < U.length) (he : empty0 S) : BodyOk Tryz.prog Γ Tryz.f55 [.ref 0 0 0] (d0H S W U) (.bool true) (d0H S W (U.set 0 1)) := by
  have ps := ps62 S W 0
  have rs := rs62 S W 0
  have hs := hs62 S W 0
  have hl : (rootB S).length = 1024 := (S.getD 0 default).2
  have e1 : rdA S 0 = .tup [.sl ((rootB S).map byteAV) (rootB S).length, .int .i64 0] := by unfold rdA; rw [if_pos ⟨by omega, by omega⟩]; rfl
  rw [e1] at rs
  obtain ⟨q0, q1⟩ := he
  unfold d0H
  unfold dskH at *
  have f0 : ((getW (rootB S) (4 * 0 : Int).toNat : Nat) : Int) = 827475011 := by rw [show (4 * 0 : Int).toNat = 0 from rfl, q0]; rfl
  have f1 : ((getW (rootB S) (4 * 1 : Int).toNat : Nat) : Int) = 0 := by rw [show (4 * 1 : Int).toNat = 4 from rfl, q1]; rfl
  (intro X hP hΓ hL hfin; refine ⟨_, rfl, ?_⟩; rw [show Tryz.f55.ntmps = 100 from rfl]; rw [show Tryz.f55.results.toList = [.tmp 2] from rfl] at hfin; apply holds_of_ex X 400; simp (maxSteps := 1000000) only [push_cast, reduceCtorEq, Nat.reduceAdd, Nat.reduceMul, Nat.reduceSub, Nat.reduceBEq, Nat.reduceGT, Nat.reduceLT, Int.toNat_zero, Nat.reduceLeDiff, Int.reduceEq, Int.reduceLT, Int.reduceLE, hP, hΓ, hL, hfin, String.reduceEq, Int.toNat_one, Bool.not_not, h62, ps, rs, hs, h113, f0, f1])
  refine ⟨by decide, ⟨by omega, by omega⟩, ⟨by omega, by omega⟩, ?_⟩
  refine ⟨by omega, by omega, ?_⟩
  have hset : AV.int .i64 1 :: (U.map (AV.int .i64)).drop 1 = (U.set 0 1).map (AV.int .i64) := by
    cases U with
    | nil => simp at hU
    | cons u U => rfl
  refine Holds.loopM (ι := Unit) [true, false, false, true, false, true, false, true, true, true, true, false, false, false, false, false, false, false, false, false, false, false, false, false, false, false, false, false, false, false, false, false, false, false, true, false, false, false, false, false, false, false, false, false, false, false, false, false, false, false, false, false, false, false, false, false, true, true, false, false, false, false, false, false, false, false, false, false, false, false, false, false, false, false, false, false, false, false, false, false, false, false, false, false, false, false, false, false, false, false, false, false, false, false, false, false, false, false, false, false] (fun i => [(35, .int .i64 0), (34, .int .i64 0)]) (fun i => [.row [.ref 1 0 0, .lit (.slice none 0 0), .lit (.slice none 0 0), .msl 2 0 0 U.length] 4 0, .row [.msl 3 0 0 S.length, .msl 4 W.length 0 W.length] 2 0, .row ((U.set 0 1).map (AV.int .i64)) 1 0, .row (S.flatMap secC) 1024 0, .row (W.flatMap wrC) 1025 W.length]) (fun i => 0) () ?_ ?_
  · rw [hL]
    simp only [push_cast, hset, show IntKind.i64.wrap 0 = 0 from rfl]
    exact Into.sameA
  rintro ⟨⟩
  ((first | with_reducible refine holds_of_ex X 400 _ _ _ ?_ | skip); simp (maxSteps := 1000000) only [push_cast, reduceCtorEq, Nat.reduceAdd, Nat.reduceMul, Nat.reduceSub, Nat.reduceBEq, Nat.reduceGT, Nat.reduceLT, Int.toNat_zero, Nat.reduceLeDiff, Int.reduceEq, Int.reduceLT, Int.reduceLE, hP, hΓ, hL, hfin, String.reduceEq, Int.toNat_one, Bool.not_not])
  refine Holds.loopM (ι := Unit) [true, false, false, false, false, false, false, false, false, false, false, false, false, false, false, false, false, false, false, false, false, false, false, false, false, false, false, false, false, false, false, false, false, false, false, false, false, false, false, false, false, false, false, false, false, false, false, false, false, false, false, false, false, false, false, false, true, false, false, false, false, false, false, false, false, false, false, false, false, false, false, false, false, false, false, false, false, false, false, false, false, false, false, false, false, false, false, false, false, false, false, false, false, false, false, false, false, false, false, false] (fun i => [(57, .int .i64 0), (56, .int .i64 0)]) (fun i => [.row [.ref 1 0 0, .lit (.slice none 0 0), .lit (.slice none 0 0), .msl 2 0 0 U.length] 4 0, .row [.msl 3 0 0 S.length, .msl 4 W.length 0 W.length] 2 0, .row ((U.set 0 1).map (AV.int .i64)) 1 0, .row (S.flatMap secC) 1024 0, .row (W.flatMap wrC) 1025 W.length]) (fun i => 0) () ?_ ?_
  · (rw [hL]; simp only [push_cast, Int.natCast_zero, ]; exact Into.sameA)
  rintro ⟨⟩
  ((first | with_reducible refine holds_of_ex X 400 _ _ _ ?_ | skip); simp (maxSteps := 1000000) only [push_cast, reduceCtorEq, Nat.reduceAdd, Nat.reduceMul, Nat.reduceSub, Nat.reduceBEq, Nat.reduceGT, Nat.reduceLT, Int.toNat_zero, Nat.reduceLeDiff, Int.reduceEq, Int.reduceLT, Int.reduceLE, hP, hΓ, hL, hfin, String.reduceEq, Int.toNat_one, Bool.not_not])
  rw [List.length_set]
  exact Into.sameA
theorem con55 {Γ : Env} (h : EnvOk Tryz.prog Γ) (h62 : Γ 62 = some S62) (h113 : Γ 113 = some S113) : Con Tryz.prog 55 S55 :=
  heapE_con h (fn := Tryz.f55) (by kernel_rfl) rfl (by kernel_rfl) inj55 fun ⟨S, W, U⟩ h => body55 Γ h62 h113 S W U h.1 h.2.1 h.2.2
end Go.Proofs.YtbnnhffkbcekcaaGreatDoor.dirDone
