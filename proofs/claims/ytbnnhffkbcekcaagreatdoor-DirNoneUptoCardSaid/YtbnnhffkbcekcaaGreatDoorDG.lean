/- Of disks: a directory opened that is empty; what is free. Conditions stand in each. -/
import Derived.Test.YtbnnhffkbcekcaaGreatDoorDF
namespace Go.Proofs.YtbnnhffkbcekcaaGreatDoor.dirDone
open Go Go.Eng Go.Proofs
set_option linter.unusedVariables false
set_option linter.unusedSimpArgs false
set_option maxRecDepth 100000
set_option maxHeartbeats 4000000
def free0 (S : List Sec) : List Int := (List.replicate S.length (0 : Int)).set 0 1
/-- behind a disk: an empty directory of it -/
def dir0 (S : List Sec) (W : List Wr) (U : List Int) : Heap := dskH S W ++ [.row (U.map (AV.int .i64)) 1 0, .row [.ref 0 0 0, .lit (.slice none 0 0), .lit (.slice none 0 0), .msl 3 0 0 U.length] 4 0]
inductive A18 where
  | c0 
  | c1 (S : (List Sec)) (W : (List Wr))
def e18 : A18 → List AV × Heap
  | .c0  => ([.lit (.pointer none)], [])
  | .c1 S W => ([.ref 0 0 0], dskH S W)
def p18 : A18 → Prop
  | .c0  => True
  | .c1 S W => 0 < S.length ∧ S.length ≤ 1048576 ∧ empty0 S
def r18 : A18 → AV
  | .c0  => .tup [.lit (.pointer none), .int .i64 1]
  | .c1 S W => .tup [.ref 4 0 0, .int .i64 0]
def g18 : A18 → Heap
  | .c0  => []
  | .c1 S W => dir0 S W (free0 S)
theorem inj18 : ∀ a b, e18 a = e18 b → a = b := by
  intro a b h
  cases a <;> cases b <;> simp only [e18, mi_iff, ms_iff, mb_iff, my_iff, UInt8.toNat_inj, secs_iff, wrs_iff, dskH, dskK, d0H, Prod.mk.injEq, List.cons.injEq, AObj.row.injEq, AV.int.injEq, AV.str.injEq, AV.bool.injEq, AV.sl.injEq, AV.agg.injEq, AV.ip.injEq, AV.fn.injEq, Fn.func.injEq, AV.ifc.injEq, AV.mpr.injEq, AV.msl.injEq, AV.ref.injEq, Int.natCast_inj, and_true, true_and, reduceCtorEq, Nat.reduceEqDiff, false_and, and_false, List.cons_ne_nil] at h <;> simp_all only
noncomputable def S18 : FSpec := heapE true e18 p18 r18 g18
theorem ps18_0  : pselK e18 p18 ([.lit (.pointer none)], []) = (True) := pselK_at inj18 p18 (.c0 )
theorem rs18_0  : rselK e18 r18 .any ([.lit (.pointer none)], []) = (.tup [.lit (.pointer none), .int .i64 1]) := rselK_at inj18 r18 .any (.c0 )
theorem hs18_0  : rselK e18 g18 [] ([.lit (.pointer none)], []) = ([]) := rselK_at inj18 g18 [] (.c0 )
theorem ps18_1 (S : (List Sec)) (W : (List Wr)) : pselK e18 p18 ([.ref 0 0 0], dskH S W) = (0 < S.length ∧ S.length ≤ 1048576 ∧ empty0 S) := pselK_at inj18 p18 (.c1 S W)
theorem rs18_1 (S : (List Sec)) (W : (List Wr)) : rselK e18 r18 .any ([.ref 0 0 0], dskH S W) = (.tup [.ref 4 0 0, .int .i64 0]) := rselK_at inj18 r18 .any (.c1 S W)
theorem hs18_1 (S : (List Sec)) (W : (List Wr)) : rselK e18 g18 [] ([.ref 0 0 0], dskH S W) = (dir0 S W (free0 S)) := rselK_at inj18 g18 [] (.c1 S W)
attribute [push_cast] S18 ps18_0 rs18_0 hs18_0 ps18_1 rs18_1 hs18_1
theorem body18n (Γ : Env) : BodyOk Tryz.prog Γ Tryz.f18 [.lit (.pointer none)] [] (.tup [.lit (.pointer none), .int .i64 1]) [] := by
  (intro X hP hΓ hL hfin; refine ⟨_, rfl, ?_⟩; rw [show Tryz.f18.ntmps = 17 from rfl]; rw [show Tryz.f18.results.toList = [.tmp 2, .tmp 3] from rfl] at hfin; apply holds_of_ex X 400; simp (maxSteps := 1000000) only [push_cast, reduceCtorEq, Nat.reduceAdd, Nat.reduceMul, Nat.reduceSub, Nat.reduceBEq, Nat.reduceGT, Nat.reduceLT, Int.toNat_zero, Nat.reduceLeDiff, Int.reduceEq, Int.reduceLT, Int.reduceLE, hP, hΓ, hL, hfin, String.reduceEq, Int.toNat_one, Bool.not_not, ])
  exact Into.sameA
theorem body18 (Γ : Env) (h31 : Γ 31 = some S31) (h55 : Γ 55 = some S55) (S : List Sec) (W : List Wr) (hS : 0 < S.length) (hS2 : S.length ≤ 1048576) (he : empty0 S) : BodyOk Tryz.prog Γ Tryz.f18 [.ref 0 0 0] (dskH S W) (.tup [.ref 4 0 0, .int .i64 0]) (dir0 S W (free0 S)) := by
  have p1 := ps31 S W
  have r1 := rs31 S W
  have g1 := hs31 S W
  have p2 := ps55 S W (List.replicate S.length 0)
  have r2 := rs55 S W (List.replicate S.length 0)
  have g2 := hs55 S W (List.replicate S.length 0)
  have hl : (List.replicate S.length (0 : Int)).length = S.length := List.length_replicate
  have hz : (List.replicate S.length [AV.int .i64 0]).flatten = (List.replicate S.length (0 : Int)).map (AV.int .i64) := by
    rw [List.map_replicate]
    generalize S.length = n
    induction n with
    | zero => rfl
    | succ n ih => rw [List.replicate_succ, List.flatten_cons, ih]; rfl
  rw [hl] at p2
  unfold dir0 free0
  generalize List.replicate S.length (0 : Int) = U at *
  unfold d0H dskH at *
  rw [hl] at p2 r2 g2
  (intro X hP hΓ hL hfin; refine ⟨_, rfl, ?_⟩; rw [show Tryz.f18.ntmps = 17 from rfl]; rw [show Tryz.f18.results.toList = [.tmp 2, .tmp 3] from rfl] at hfin; apply holds_of_ex X 400; simp (maxSteps := 1000000) only [push_cast, reduceCtorEq, Nat.reduceAdd, Nat.reduceMul, Nat.reduceSub, Nat.reduceBEq, Nat.reduceGT, Nat.reduceLT, Int.toNat_zero, Nat.reduceLeDiff, Int.reduceEq, Int.reduceLT, Int.reduceLE, hP, hΓ, hL, hfin, String.reduceEq, Int.toNat_one, Bool.not_not, h31, h55, p1, r1, g1, p2, r2, g2, hz])
  refine ⟨by decide, ⟨Int.le_refl _, by omega⟩, ⟨by decide, hS, hS, he⟩, ?_⟩
  exact Into.keep5A
theorem con18 {Γ : Env} (h : EnvOk Tryz.prog Γ) (h31 : Γ 31 = some S31) (h55 : Γ 55 = some S55) : Con Tryz.prog 18 S18 :=
  heapE_con h (fn := Tryz.f18) (by kernel_rfl) rfl (by kernel_rfl) inj18 fun a h => match a, h with | .c0, _ => body18n Γ | .c1 S W, h => body18 Γ h31 h55 S W h.1 h.2.1 h.2.2
inductive A19 where
  | c0 
  | c1 (S : (List Sec)) (W : (List Wr)) (U : (List Int))
def e19 : A19 → List AV × Heap
  | .c0  => ([.lit (.pointer none)], [])
  | .c1 S W U => ([.ref 0 0 0], d0H S W U)
def p19 : A19 → Prop
  | .c0  => True
  | .c1 S W U => U.length ≤ 1048576
def r19 : A19 → AV
  | .c0  => .int .i64 0
  | .c1 S W U => .int .i64 (U.count 0 : Nat)
def g19 : A19 → Heap
  | .c0  => []
  | .c1 S W U => d0H S W U
theorem inj19 : ∀ a b, e19 a = e19 b → a = b := by
  intro a b h
  cases a <;> cases b <;> simp only [e19, mi_iff, ms_iff, mb_iff, my_iff, UInt8.toNat_inj, secs_iff, wrs_iff, dskH, dskK, d0H, Prod.mk.injEq, List.cons.injEq, AObj.row.injEq, AV.int.injEq, AV.str.injEq, AV.bool.injEq, AV.sl.injEq, AV.agg.injEq, AV.ip.injEq, AV.fn.injEq, Fn.func.injEq, AV.ifc.injEq, AV.mpr.injEq, AV.msl.injEq, AV.ref.injEq, Int.natCast_inj, and_true, true_and, reduceCtorEq, Nat.reduceEqDiff, false_and, and_false, List.cons_ne_nil] at h <;> simp_all only
noncomputable def S19 : FSpec := heapE true e19 p19 r19 g19
theorem ps19_0  : pselK e19 p19 ([.lit (.pointer none)], []) = (True) := pselK_at inj19 p19 (.c0 )
theorem rs19_0  : rselK e19 r19 .any ([.lit (.pointer none)], []) = (.int .i64 0) := rselK_at inj19 r19 .any (.c0 )
theorem hs19_0  : rselK e19 g19 [] ([.lit (.pointer none)], []) = ([]) := rselK_at inj19 g19 [] (.c0 )
theorem ps19_1 (S : (List Sec)) (W : (List Wr)) (U : (List Int)) : pselK e19 p19 ([.ref 0 0 0], d0H S W U) = (U.length ≤ 1048576) := pselK_at inj19 p19 (.c1 S W U)
theorem rs19_1 (S : (List Sec)) (W : (List Wr)) (U : (List Int)) : rselK e19 r19 .any ([.ref 0 0 0], d0H S W U) = (.int .i64 (U.count 0 : Nat)) := rselK_at inj19 r19 .any (.c1 S W U)
theorem hs19_1 (S : (List Sec)) (W : (List Wr)) (U : (List Int)) : rselK e19 g19 [] ([.ref 0 0 0], d0H S W U) = (d0H S W U) := rselK_at inj19 g19 [] (.c1 S W U)
attribute [push_cast] S19 ps19_0 rs19_0 hs19_0 ps19_1 rs19_1 hs19_1
theorem body19n (Γ : Env) : BodyOk Tryz.prog Γ Tryz.f19 [.lit (.pointer none)] [] (.int .i64 0) [] := by
  (intro X hP hΓ hL hfin; refine ⟨_, rfl, ?_⟩; rw [show Tryz.f19.ntmps = 23 from rfl]; rw [show Tryz.f19.results.toList = [.tmp 2] from rfl] at hfin; apply holds_of_ex X 400; simp (maxSteps := 1000000) only [push_cast, reduceCtorEq, Nat.reduceAdd, Nat.reduceMul, Nat.reduceSub, Nat.reduceBEq, Nat.reduceGT, Nat.reduceLT, Int.toNat_zero, Nat.reduceLeDiff, Int.reduceEq, Int.reduceLT, Int.reduceLE, hP, hΓ, hL, hfin, String.reduceEq, Int.toNat_one, Bool.not_not, ])
  exact Into.sameA
theorem body19 (Γ : Env) (S : List Sec) (W : List Wr) (U : List Int) (hU : U.length ≤ 1048576) : BodyOk Tryz.prog Γ Tryz.f19 [.ref 0 0 0] (d0H S W U) (.int .i64 (U.count 0 : Nat)) (d0H S W U) := by
  unfold d0H
  (intro X hP hΓ hL hfin; refine ⟨_, rfl, ?_⟩; rw [show Tryz.f19.ntmps = 23 from rfl]; rw [show Tryz.f19.results.toList = [.tmp 2] from rfl] at hfin; apply holds_of_ex X 400; simp (maxSteps := 1000000) only [push_cast, reduceCtorEq, Nat.reduceAdd, Nat.reduceMul, Nat.reduceSub, Nat.reduceBEq, Nat.reduceGT, Nat.reduceLT, Int.toNat_zero, Nat.reduceLeDiff, Int.reduceEq, Int.reduceLT, Int.reduceLE, hP, hΓ, hL, hfin, String.reduceEq, Int.toNat_one, Bool.not_not, ])
  refine Holds.loopM (ι := {k : Nat // k ≤ U.length}) [false, false, true, false, false, false, false, false, false, false, false, true, true, false, false, false, false, false, false, false, false, false, false] (fun i => [(13, .int .i64 i.1), (3, .int .i64 ((U.take i.1).count 0 : Nat))]) (fun i => [.row [.ref 1 0 0, .lit (.slice none 0 0), .lit (.slice none 0 0), .msl 2 0 0 U.length] 4 0, .row [.msl 3 0 0 S.length, .msl 4 W.length 0 W.length] 2 0, .row (U.map (AV.int .i64)) 1 0, .row (S.flatMap secC) 1024 0, .row (W.flatMap wrC) 1025 W.length]) (fun i => U.length - i.1) ⟨0, Nat.zero_le _⟩ ?_ ?_
  · (rw [hL]; simp only [push_cast, Int.natCast_zero, ]; exact Into.sameA)
  rintro ⟨k, hk⟩
  ((first | with_reducible refine holds_of_ex X 400 _ _ _ ?_ | skip); simp (maxSteps := 1000000) only [push_cast, reduceCtorEq, Nat.reduceAdd, Nat.reduceMul, Nat.reduceSub, Nat.reduceBEq, Nat.reduceGT, Nat.reduceLT, Int.toNat_zero, Nat.reduceLeDiff, Int.reduceEq, Int.reduceLT, Int.reduceLE, hP, hΓ, hL, hfin, String.reduceEq, Int.toNat_one, Bool.not_not])
  ((with_reducible refine exB_split (fun h => ?_) (fun h => ?_)) <;> (try simp only [decide_eq_true_eq, decide_eq_false_iff_not, Bool.and_eq_true, Bool.or_eq_true, Bool.and_eq_false_iff, Bool.or_eq_false_iff, Bool.not_eq_true', Bool.not_eq_false', Bool.not_eq_true, Bool.not_eq_false, Int.not_lt, Int.not_le, beq_iff_eq, beq_eq_false_iff_ne, ne_eq] at h))
  · have hk' : k < U.length := by omega
    have e1 : (U.take (k + 1)).count 0 = (U.take k).count 0 + (if U.getD k default = 0 then 1 else 0) := by
      rw [List.take_succ_eq_append_getElem hk', List.count_append]
      congr 1
      simp only [List.getD, hk', List.getElem?_eq_getElem, Option.getD_some]
      rw [List.count_singleton]
      simp
    have e2 : (U.take k).count 0 ≤ k := Nat.le_trans List.count_le_length (by rw [List.length_take]; omega)
    ((first | with_reducible refine holds_of_ex X 400 _ _ _ ?_ | skip); simp (maxSteps := 1000000) only [push_cast, reduceCtorEq, Nat.reduceAdd, Nat.reduceMul, Nat.reduceSub, Nat.reduceBEq, Nat.reduceGT, Nat.reduceLT, Int.toNat_zero, Nat.reduceLeDiff, Int.reduceEq, Int.reduceLT, Int.reduceLE, hP, hΓ, hL, hfin, String.reduceEq, Int.toNat_one, Bool.not_not, hk'])
    refine ⟨by omega, ⟨by omega, by omega⟩, ?_⟩
    ((with_reducible refine exB_split (fun h => ?_) (fun h => ?_)) <;> (try simp only [decide_eq_true_eq, decide_eq_false_iff_not, Bool.and_eq_true, Bool.or_eq_true, Bool.and_eq_false_iff, Bool.or_eq_false_iff, Bool.not_eq_true', Bool.not_eq_false', Bool.not_eq_true, Bool.not_eq_false, Int.not_lt, Int.not_le, beq_iff_eq, beq_eq_false_iff_ne, ne_eq] at h))
    · rw [if_pos h] at e1
      ((first | with_reducible refine holds_of_ex X 400 _ _ _ ?_ | skip); simp (maxSteps := 1000000) only [push_cast, reduceCtorEq, Nat.reduceAdd, Nat.reduceMul, Nat.reduceSub, Nat.reduceBEq, Nat.reduceGT, Nat.reduceLT, Int.toNat_zero, Nat.reduceLeDiff, Int.reduceEq, Int.reduceLT, Int.reduceLE, hP, hΓ, hL, hfin, String.reduceEq, Int.toNat_one, Bool.not_not])
      refine ⟨⟨k + 1, hk'⟩, by simp only; omega, ?_⟩
      dsimp only
      rw [wr_i64 ((k : Int) + 1) (by constructor <;> omega), wr_i64 _ (by constructor <;> omega), e1]
      exact Into.sameA
    · rw [if_neg h, Nat.add_zero] at e1
      ((first | with_reducible refine holds_of_ex X 400 _ _ _ ?_ | skip); simp (maxSteps := 1000000) only [push_cast, reduceCtorEq, Nat.reduceAdd, Nat.reduceMul, Nat.reduceSub, Nat.reduceBEq, Nat.reduceGT, Nat.reduceLT, Int.toNat_zero, Nat.reduceLeDiff, Int.reduceEq, Int.reduceLT, Int.reduceLE, hP, hΓ, hL, hfin, String.reduceEq, Int.toNat_one, Bool.not_not])
      refine ⟨⟨k + 1, hk'⟩, by simp only; omega, ?_⟩
      dsimp only
      rw [wr_i64 ((k : Int) + 1) (by constructor <;> omega), e1]
      exact Into.sameA
  · obtain rfl : k = U.length := by omega
    rw [List.take_length]
    ((first | with_reducible refine holds_of_ex X 400 _ _ _ ?_ | skip); simp (maxSteps := 1000000) only [push_cast, reduceCtorEq, Nat.reduceAdd, Nat.reduceMul, Nat.reduceSub, Nat.reduceBEq, Nat.reduceGT, Nat.reduceLT, Int.toNat_zero, Nat.reduceLeDiff, Int.reduceEq, Int.reduceLT, Int.reduceLE, hP, hΓ, hL, hfin, String.reduceEq, Int.toNat_one, Bool.not_not])
    exact Into.sameA
theorem con19 {Γ : Env} (h : EnvOk Tryz.prog Γ)  : Con Tryz.prog 19 S19 :=
  heapE_con h (fn := Tryz.f19) (by kernel_rfl) rfl (by kernel_rfl) inj19 fun a h => match a, h with | .c0, _ => body19n Γ | .c1 S W U, h => body19 Γ S W U h
end Go.Proofs.YtbnnhffkbcekcaaGreatDoor.dirDone
