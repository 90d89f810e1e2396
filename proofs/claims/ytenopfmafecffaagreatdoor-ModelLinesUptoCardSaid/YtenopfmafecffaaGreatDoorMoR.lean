/- Of the model of a workstation: the document's files. Conditions stand in each. -/
import Derived.Test.YtenopfmafecffaaGreatDoorMoA
namespace Go.Mdl
open Go Go.Eng
theorem pl_lt {n : Bytes} : ∀ {A : Fs} {k : Nat}, k ≤ pl A n → k < A.length → (A.getD k default).1 < n → k + 1 ≤ pl A n
  | [], _, _, h, _ => by simp at h
  | x :: A, k, hk, h, hl => by
    by_cases hx : x.1 < n
    · simp only [pl, if_pos hx] at hk ⊢
      cases k with
      | zero => omega
      | succ k =>
        have := pl_lt (A := A) (k := k) (n := n) (by omega) (by simpa using h) (by simpa using hl)
        omega
    · simp only [pl, if_neg hx] at hk
      obtain rfl : k = 0 := by omega
      exact absurd (by simpa using hl) hx
theorem pl_eq {n : Bytes} : ∀ {A : Fs} {k : Nat}, k ≤ pl A n → k < A.length → ¬ (A.getD k default).1 < n → pl A n = k ∧ has A n = decide ((A.getD k default).1 = n)
  | [], _, _, h, _ => by simp at h
  | x :: A, k, hk, h, hl => by
    by_cases hx : x.1 < n
    · simp only [pl, has, if_pos hx] at hk ⊢
      cases k with
      | zero => exact absurd (by simpa using hx) hl
      | succ k =>
        have := pl_eq (A := A) (k := k) (n := n) (by omega) (by simpa using h) (by simpa using hl)
        exact ⟨by omega, by rw [this.2]; rfl⟩
    · simp only [pl, has, if_neg hx] at hk ⊢
      obtain rfl : k = 0 := by omega
      exact ⟨rfl, rfl⟩
theorem pl_end {n : Bytes} : ∀ {A : Fs} {k : Nat}, k ≤ pl A n → ¬ k < A.length → pl A n = k ∧ has A n = false
  | [], k, hk, _ => ⟨by simp only [pl] at hk ⊢; omega, rfl⟩
  | x :: A, k, hk, h => by
    by_cases hx : x.1 < n
    · simp only [pl, has, if_pos hx] at hk ⊢
      cases k with
      | zero => simp at h
      | succ k =>
        have := pl_end (A := A) (k := k) (n := n) (by omega) (by simpa using h)
        exact ⟨by omega, this.2⟩
    · simp only [pl, if_neg hx] at hk
      simp only [List.length_cons] at h; omega
end Go.Mdl
namespace Go.Proofs.YtenopfmafecffaaGreatDoor.modelDone
open Go Go.Eng Go.Proofs Go.Mdl Go.RowKit
set_option linter.unusedVariables false
set_option linter.unusedSimpArgs false
set_option maxRecDepth 100000
set_option maxHeartbeats 4000000
/-- what files take -/
def cost : Fs → Int
  | [] => 0
  | x :: A => 1 + pieces x.2.length + cost A
def freeF (S : Int) (A : Fs) : Int := S - 1 - leaves A.length - cost A
def small (A : Fs) : Prop := ∀ x ∈ A, x.1.length ≤ 100 ∧ x.2.length ≤ 256000
structure okF (A : Fs) : Prop where
  so : sorted A
  le : A.length ≤ 200
  sm : small A
theorem cost_app (A B : Fs) : cost (A ++ B) = cost A + cost B := by
  induction A with
  | nil => simp [cost]
  | cons x A ih => simp only [List.cons_append, cost, ih]; omega
theorem cost_b {A : Fs} (h : small A) : 0 ≤ cost A ∧ cost A ≤ 251 * A.length := by
  induction A with
  | nil => exact ⟨Int.le_refl _, by simp [cost]⟩
  | cons x A ih =>
    have := ih fun y hy => h y (by simp [hy])
    have h1 := (h x (by simp)).2
    simp only [cost, List.length_cons, pieces] at *
    omega
theorem take_get {A : Fs} {k : Nat} (h : k < A.length) : A.take (k + 1) = A.take k ++ [A.getD k default] := by
  rw [List.take_add_one, List.getD, List.getElem?_eq_getElem h]; rfl
theorem get_mem {A : Fs} {k : Nat} (h : k < A.length) : A.getD k default ∈ A := by
  rw [List.getD, List.getElem?_eq_getElem h]; exact List.getElem_mem h
theorem small_take {A : Fs} (h : small A) (k : Nat) : small (A.take k) := fun x hx => h x (List.mem_of_mem_take hx)
theorem free_b {A : Fs} (h : okF A) (S : Int) (hS : 0 ≤ S ∧ S ≤ 1000000000) : -1000000 ≤ freeF S A ∧ freeF S A ≤ 1000000000 := by
  have := cost_b h.sm
  have := h.le
  unfold freeF leaves; omega
/-- why a file of so many bytes does not fit -/
def fitsF (S : Int) (A : Fs) (n : Bytes) (m : Int) : Int :=
  if 256000 < m then 181 else if 200 < (A.length : Int) + (if has A n then 0 else 1) then 173
  else if freeF S A < 1 + pieces m + leaves ((A.length : Int) + (if has A n then 0 else 1)) then 174 else 0
def fc (x : Bytes × Bytes) : List AV := [.str x.1, .str x.2]
instance : PureC fc := ⟨fun x => by simp only [fc, pureL, pureA, Bool.and_self], fun x => rfl⟩
instance : Width fc 2 := ⟨fun _ => rfl⟩
theorem fc_g0 (x : Bytes × Bytes) (d : AV) : (fc x).getD 0 d = .str x.1 := rfl
theorem fc_g1 (x : Bytes × Bytes) (d : AV) : (fc x).getD 1 d = .str x.2 := rfl
attribute [push_cast] fc_g0 fc_g1
theorem fc_inj (a b : Bytes × Bytes) (h : fc a = fc b) : a = b := by
  obtain ⟨a, a'⟩ := a; obtain ⟨b, b'⟩ := b
  simp only [fc, List.cons.injEq, AV.str.injEq, and_true] at h
  exact Prod.ext h.1 h.2
theorem fc_iff {xs ys : Fs} : xs.flatMap fc = ys.flatMap fc ↔ xs = ys := ⟨inj_fm (n := 2) fc_inj (fun _ => rfl) (by decide), fun h => by rw [h]⟩
theorem fz0 (A : Fs) (k : Nat) : (A.flatMap fc).getD (k * 2) (.str []) = .str (A.getD k default).1 := by
  by_cases h : k < A.length
  · rw [getD_fm0 _ _ _ h (by decide)]; rfl
  · rw [List.getD, List.getElem?_eq_none (by rw [len_fm]; omega), List.getD, List.getElem?_eq_none (by omega)]; rfl
theorem fz1 (A : Fs) (k : Nat) : (A.flatMap fc).getD (k * 2 + 1) (.str []) = .str (A.getD k default).2 := by
  by_cases h : k < A.length
  · rw [getD_fm _ _ _ _ h (by decide)]; rfl
  · rw [List.getD, List.getElem?_eq_none (by rw [len_fm]; omega), List.getD, List.getElem?_eq_none (by omega)]; rfl
theorem cost_nil : cost [] = 0 := rfl
attribute [push_cast] cost_nil Int.sub_zero
theorem dcb (a b : Bytes) : decide (a = b) = (a == b) := by by_cases h : a = b <;> simp [h]
def e25 : (Fs) × (Int) × (Bytes) → List AV × Heap := fun (A, S, n) => ([.ref 0 0 0, .str n], [.row [.sl (A.flatMap fc) A.length, .int .i64 S] 2 0])
def p25 : (Fs) × (Int) × (Bytes) → Prop := fun (A, S, n) => A.length ≤ 1000000
def r25 : (Fs) × (Int) × (Bytes) → AV := fun (A, S, n) => .tup [.int .i64 (pl A n), .bool (has A n)]
def g25 : (Fs) × (Int) × (Bytes) → Heap := fun (A, S, n) => [.row [.sl (A.flatMap fc) A.length, .int .i64 S] 2 0]
theorem inj25 : ∀ a b, e25 a = e25 b → a = b := by
  rintro ⟨A, S, n⟩ ⟨A', S', n'⟩ h
  simp only [e25, mi_iff, ms_iff, mb_iff, my_iff, UInt8.toNat_inj, fc_iff, Prod.mk.injEq, List.cons.injEq, AObj.row.injEq, AV.int.injEq, AV.str.injEq, AV.bool.injEq, AV.sl.injEq, AV.agg.injEq, AV.ip.injEq, AV.fn.injEq, AV.ifc.injEq, AV.mpr.injEq, AV.msl.injEq, AV.ref.injEq, Int.natCast_inj, and_true, true_and] at h
  simp_all only
noncomputable def S25 : FSpec := heapE false e25 p25 r25 g25
theorem ps25 (A : (Fs)) (S : (Int)) (n : (Bytes)) : pselK e25 p25 ([.ref 0 0 0, .str n], [.row [.sl (A.flatMap fc) A.length, .int .i64 S] 2 0]) = (A.length ≤ 1000000) := pselK_at inj25 p25 (A, S, n)
theorem rs25 (A : (Fs)) (S : (Int)) (n : (Bytes)) : rselK e25 r25 .any ([.ref 0 0 0, .str n], [.row [.sl (A.flatMap fc) A.length, .int .i64 S] 2 0]) = (.tup [.int .i64 (pl A n), .bool (has A n)]) := rselK_at inj25 r25 .any (A, S, n)
theorem hs25 (A : (Fs)) (S : (Int)) (n : (Bytes)) : rselK e25 g25 [] ([.ref 0 0 0, .str n], [.row [.sl (A.flatMap fc) A.length, .int .i64 S] 2 0]) = ([.row [.sl (A.flatMap fc) A.length, .int .i64 S] 2 0]) := rselK_at inj25 g25 [] (A, S, n)
attribute [push_cast] S25 ps25 rs25 hs25
theorem body25 (Γ : Env) (A : Fs) (S : Int) (n : Bytes) (h : A.length ≤ 1000000) : BodyOk Tryz.prog Γ Tryz.f25 [.ref 0 0 0, .str n] [.row [.sl (A.flatMap fc) A.length, .int .i64 S] 2 0] (.tup [.int .i64 (pl A n), .bool (has A n)]) [.row [.sl (A.flatMap fc) A.length, .int .i64 S] 2 0] := by
  (intro X hP hΓ hL hfin; refine ⟨_, rfl, ?_⟩; rw [show Tryz.f25.ntmps = 48 from rfl]; rw [show Tryz.f25.results.toList = [.tmp 4, .tmp 5] from rfl] at hfin; apply holds_of_ex X 400; simp (maxSteps := 1000000) only [push_cast, reduceCtorEq, Nat.reduceAdd, Nat.reduceMul, Nat.reduceSub, Nat.reduceBEq, Nat.reduceGT, Nat.reduceLT, Int.toNat_zero, Nat.reduceLeDiff, Int.reduceEq, Int.reduceLT, Int.reduceLE, hP, hΓ, hL, hfin, String.reduceEq, not_false_eq_true, if_true, fz0, fz1, bytesLess_eq])
  refine Holds.loopM (ι := {k : Nat // k ≤ pl A n}) [true, true, false, false, true, true, false, false, false, false, false, false, false, false, false, false, false, false, false, false, false, false, false, false, false, false, false, false, false, false, false, false, false, false, false, false, false, false, false, false, false, false, false, false, false, false, false, false] (fun i => [(6, .int .i64 i.1)]) (fun i => [.row [.sl (A.flatMap fc) A.length, .int .i64 S] 2 0]) (fun i => A.length - i.1) ⟨0, Nat.zero_le _⟩ ?_ ?_
  · (rw [hL]; simp only [push_cast, Int.natCast_zero]; exact Into.sameA)
  rintro ⟨k, hk⟩
  have hkl := pl_le A n
  by_cases hl : k < A.length
  · have hl' : (k : Int) < (A.length : Int) := by omega
    have hl2 : 0 < A.length * 2 - k * 2 := by omega
    ((first | with_reducible refine holds_of_ex X 400 _ _ _ ?_ | skip); simp (maxSteps := 1000000) only [push_cast, reduceCtorEq, Nat.reduceAdd, Nat.reduceMul, Nat.reduceSub, Nat.reduceBEq, Nat.reduceGT, Nat.reduceLT, Int.toNat_zero, Nat.reduceLeDiff, Int.reduceEq, Int.reduceLT, Int.reduceLE, hP, hΓ, hL, hfin, String.reduceEq, not_false_eq_true, if_true, fz0, fz1, bytesLess_eq, hl', hl2])
    ((with_reducible refine exB_split (fun h => ?_) (fun h => ?_)) <;> (try simp only [decide_eq_true_eq, decide_eq_false_iff_not, Bool.and_eq_true, Bool.or_eq_true, Bool.and_eq_false_iff, Bool.or_eq_false_iff, Bool.not_eq_true', Bool.not_eq_false', Bool.not_eq_true, Bool.not_eq_false, Int.not_lt, Int.not_le, beq_iff_eq, beq_eq_false_iff_ne, ne_eq] at h))
    · ((first | with_reducible refine holds_of_ex X 400 _ _ _ ?_ | skip); simp (maxSteps := 1000000) only [push_cast, reduceCtorEq, Nat.reduceAdd, Nat.reduceMul, Nat.reduceSub, Nat.reduceBEq, Nat.reduceGT, Nat.reduceLT, Int.toNat_zero, Nat.reduceLeDiff, Int.reduceEq, Int.reduceLT, Int.reduceLE, hP, hΓ, hL, hfin, String.reduceEq, not_false_eq_true, if_true, fz0, fz1, bytesLess_eq, hl', hl2, wr_i64 ((k : Int) + 1) (by constructor <;> omega)])
      have := pl_lt hk hl h
      refine ⟨⟨k + 1, this⟩, by simp only; omega, ?_⟩
      exact Into.sameA
    · have hp := pl_eq hk hl h
      ((first | with_reducible refine holds_of_ex X 400 _ _ _ ?_ | skip); simp (maxSteps := 1000000) only [push_cast, reduceCtorEq, Nat.reduceAdd, Nat.reduceMul, Nat.reduceSub, Nat.reduceBEq, Nat.reduceGT, Nat.reduceLT, Int.toNat_zero, Nat.reduceLeDiff, Int.reduceEq, Int.reduceLT, Int.reduceLE, hP, hΓ, hL, hfin, String.reduceEq, not_false_eq_true, if_true, fz0, fz1, bytesLess_eq])
      (refine Holds.drawnQ (by rw [hP]; kernel_rfl) (by kernel_rfl) ?_; simp (maxSteps := 1000000) only [push_cast, reduceCtorEq, Nat.reduceAdd, Nat.reduceMul, Nat.reduceSub, Nat.reduceBEq, Nat.reduceGT, Nat.reduceLT, Int.toNat_zero, Nat.reduceLeDiff, Int.reduceEq, Int.reduceLT, Int.reduceLE, hP, hΓ, hL, hfin, String.reduceEq, not_false_eq_true, if_true, fz0, fz1, bytesLess_eq, hl', hl2])
      rw [hp.1, hp.2, dcb]
      exact Into.sameA
  · have hp := pl_end hk hl
    have hl' : ¬ (k : Int) < (A.length : Int) := by omega
    ((first | with_reducible refine holds_of_ex X 400 _ _ _ ?_ | skip); simp (maxSteps := 1000000) only [push_cast, reduceCtorEq, Nat.reduceAdd, Nat.reduceMul, Nat.reduceSub, Nat.reduceBEq, Nat.reduceGT, Nat.reduceLT, Int.toNat_zero, Nat.reduceLeDiff, Int.reduceEq, Int.reduceLT, Int.reduceLE, hP, hΓ, hL, hfin, String.reduceEq, not_false_eq_true, if_true, fz0, fz1, bytesLess_eq, hl'])
    (refine Holds.drawnQ (by rw [hP]; kernel_rfl) (by kernel_rfl) ?_; simp (maxSteps := 1000000) only [push_cast, reduceCtorEq, Nat.reduceAdd, Nat.reduceMul, Nat.reduceSub, Nat.reduceBEq, Nat.reduceGT, Nat.reduceLT, Int.toNat_zero, Nat.reduceLeDiff, Int.reduceEq, Int.reduceLT, Int.reduceLE, hP, hΓ, hL, hfin, String.reduceEq, not_false_eq_true, if_true, fz0, fz1, bytesLess_eq, hl'])
    rw [hp.1, hp.2]
    exact Into.sameA
theorem con25 {Γ : Env} (h : EnvOk Tryz.prog Γ)  : Con Tryz.prog 25 S25 :=
  heapE_con h (fn := Tryz.f25) (by kernel_rfl) rfl (by kernel_rfl) inj25 fun ⟨A, S, n⟩ h => body25 Γ A S n h
def e17 : (Fs) × (Int) → List AV × Heap := fun (A, S) => ([.ref 0 0 0], [.row [.sl (A.flatMap fc) A.length, .int .i64 S] 2 0])
def p17 : (Fs) × (Int) → Prop := fun (A, S) => okF A ∧ 0 ≤ S ∧ S ≤ 1000000000
def r17 : (Fs) × (Int) → AV := fun (A, S) => .int .i64 (freeF S A)
def g17 : (Fs) × (Int) → Heap := fun (A, S) => [.row [.sl (A.flatMap fc) A.length, .int .i64 S] 2 0]
theorem inj17 : ∀ a b, e17 a = e17 b → a = b := by
  rintro ⟨A, S⟩ ⟨A', S'⟩ h
  simp only [e17, mi_iff, ms_iff, mb_iff, my_iff, UInt8.toNat_inj, fc_iff, Prod.mk.injEq, List.cons.injEq, AObj.row.injEq, AV.int.injEq, AV.str.injEq, AV.bool.injEq, AV.sl.injEq, AV.agg.injEq, AV.ip.injEq, AV.fn.injEq, AV.ifc.injEq, AV.mpr.injEq, AV.msl.injEq, AV.ref.injEq, Int.natCast_inj, and_true, true_and] at h
  simp_all only
noncomputable def S17 : FSpec := heapE false e17 p17 r17 g17
theorem ps17 (A : (Fs)) (S : (Int)) : pselK e17 p17 ([.ref 0 0 0], [.row [.sl (A.flatMap fc) A.length, .int .i64 S] 2 0]) = (okF A ∧ 0 ≤ S ∧ S ≤ 1000000000) := pselK_at inj17 p17 (A, S)
theorem rs17 (A : (Fs)) (S : (Int)) : rselK e17 r17 .any ([.ref 0 0 0], [.row [.sl (A.flatMap fc) A.length, .int .i64 S] 2 0]) = (.int .i64 (freeF S A)) := rselK_at inj17 r17 .any (A, S)
theorem hs17 (A : (Fs)) (S : (Int)) : rselK e17 g17 [] ([.ref 0 0 0], [.row [.sl (A.flatMap fc) A.length, .int .i64 S] 2 0]) = ([.row [.sl (A.flatMap fc) A.length, .int .i64 S] 2 0]) := rselK_at inj17 g17 [] (A, S)
attribute [push_cast] S17 ps17 rs17 hs17
theorem body17 (Γ : Env) (h38 : Γ 38 = some S38) (h45 : Γ 45 = some S45) (A : Fs) (S : Int) (hA : okF A) (hS : 0 ≤ S ∧ S ≤ 1000000000) : BodyOk Tryz.prog Γ Tryz.f17 [.ref 0 0 0] [.row [.sl (A.flatMap fc) A.length, .int .i64 S] 2 0] (.int .i64 (freeF S A)) [.row [.sl (A.flatMap fc) A.length, .int .i64 S] 2 0] := by
  have hl := hA.le
  have hv : 0 ≤ leaves A.length ∧ leaves A.length ≤ 10 := by unfold leaves; omega
  (intro X hP hΓ hL hfin; refine ⟨_, rfl, ?_⟩; rw [show Tryz.f17.ntmps = 40 from rfl]; rw [show Tryz.f17.results.toList = [.tmp 2] from rfl] at hfin; apply holds_of_ex X 400; simp (maxSteps := 1000000) only [push_cast, reduceCtorEq, Nat.reduceAdd, Nat.reduceMul, Nat.reduceSub, Nat.reduceBEq, Nat.reduceGT, Nat.reduceLT, Int.toNat_zero, Nat.reduceLeDiff, Int.reduceEq, Int.reduceLT, Int.reduceLE, hP, hΓ, hL, hfin, String.reduceEq, not_false_eq_true, if_true, fz0, fz1, bytesLess_eq])
  (refine Holds.drawnQ (by rw [hP]; kernel_rfl) (by kernel_rfl) ?_; simp (maxSteps := 1000000) only [push_cast, reduceCtorEq, Nat.reduceAdd, Nat.reduceMul, Nat.reduceSub, Nat.reduceBEq, Nat.reduceGT, Nat.reduceLT, Int.toNat_zero, Nat.reduceLeDiff, Int.reduceEq, Int.reduceLT, Int.reduceLE, hP, hΓ, hL, hfin, String.reduceEq, not_false_eq_true, if_true, fz0, fz1, bytesLess_eq, h38, wr_i64 (S - 1) (by constructor <;> omega), wr_i64 (S - 1 - leaves A.length) (by constructor <;> omega)])
  refine ⟨by omega, ?_⟩
  refine Holds.loopM (ι := {k : Nat // k ≤ A.length}) [true, false, true, false, false, false, false, false, false, false, false, false, false, false, false, false, false, false, false, false, false, false, false, false, false, false, false, false, false, false, false, false, false, false, false, false, false, false, false, false] (fun i => [(3, .int .i64 (S - 1 - leaves A.length - cost (A.take i.1))), (4, .int .i64 i.1)]) (fun i => [.row [.sl (A.flatMap fc) A.length, .int .i64 S] 2 0]) (fun i => A.length - i.1) ⟨0, Nat.zero_le _⟩ ?_ ?_
  · (rw [hL]; simp only [push_cast, Int.natCast_zero]; exact Into.sameA)
  rintro ⟨k, hk⟩
  ((first | with_reducible refine holds_of_ex X 400 _ _ _ ?_ | skip); simp (maxSteps := 1000000) only [push_cast, reduceCtorEq, Nat.reduceAdd, Nat.reduceMul, Nat.reduceSub, Nat.reduceBEq, Nat.reduceGT, Nat.reduceLT, Int.toNat_zero, Nat.reduceLeDiff, Int.reduceEq, Int.reduceLT, Int.reduceLE, hP, hΓ, hL, hfin, String.reduceEq, not_false_eq_true, if_true, fz0, fz1, bytesLess_eq])
  ((with_reducible refine exB_split (fun h => ?_) (fun h => ?_)) <;> (try simp only [decide_eq_true_eq, decide_eq_false_iff_not, Bool.and_eq_true, Bool.or_eq_true, Bool.and_eq_false_iff, Bool.or_eq_false_iff, Bool.not_eq_true', Bool.not_eq_false', Bool.not_eq_true, Bool.not_eq_false, Int.not_lt, Int.not_le, beq_iff_eq, beq_eq_false_iff_ne, ne_eq] at h))
  · have hk' : k < A.length := by omega
    have hm := hA.sm _ (get_mem hk')
    have hc := cost_b (small_take hA.sm k)
    have hcl : (A.take k).length ≤ 200 := by rw [List.length_take]; omega
    have hn := take_get hk'
    have hp : 0 ≤ pieces (A.getD k default).2.length ∧ pieces (A.getD k default).2.length ≤ 1000 := by unfold pieces; omega
    have hl' : (k : Int) < (A.length : Int) := by omega
    have hl2 : 0 < A.length * 2 - k * 2 := by omega
    have hl3 : 1 < A.length * 2 - k * 2 := by omega
    generalize hx : A.getD k default = x at *
    have hcost : cost (A.take (k + 1)) = cost (A.take k) + (1 + pieces x.2.length) := by rw [hn, cost_app]; simp only [cost]; omega
    have hw : IntKind.i64.wrap (IntKind.i64.wrap (S - 1 - leaves A.length - cost (A.take k) - 1) - pieces x.2.length) = S - 1 - leaves A.length - cost (A.take (k + 1)) := by
      rw [wr_i64 (S - 1 - leaves A.length - cost (A.take k) - 1) (by constructor <;> omega), wr_i64 _ (by constructor <;> omega)]; omega
    have hl4 : 0 < A.length * 2 - k * 2 - 1 := by omega
    ((first | with_reducible refine holds_of_ex X 400 _ _ _ ?_ | skip); simp (maxSteps := 1000000) only [push_cast, reduceCtorEq, Nat.reduceAdd, Nat.reduceMul, Nat.reduceSub, Nat.reduceBEq, Nat.reduceGT, Nat.reduceLT, Int.toNat_zero, Nat.reduceLeDiff, Int.reduceEq, Int.reduceLT, Int.reduceLE, hP, hΓ, hL, hfin, String.reduceEq, not_false_eq_true, if_true, fz0, fz1, bytesLess_eq, h45, hl', hl2, hl3, hl4, hx, wr_i64 ((k : Int) + 1) (by constructor <;> omega), hw])
    refine ⟨by omega, ⟨k + 1, hk'⟩, by simp only; omega, ?_⟩
    exact Into.sameA
  · ((first | with_reducible refine holds_of_ex X 400 _ _ _ ?_ | skip); simp (maxSteps := 1000000) only [push_cast, reduceCtorEq, Nat.reduceAdd, Nat.reduceMul, Nat.reduceSub, Nat.reduceBEq, Nat.reduceGT, Nat.reduceLT, Int.toNat_zero, Nat.reduceLeDiff, Int.reduceEq, Int.reduceLT, Int.reduceLE, hP, hΓ, hL, hfin, String.reduceEq, not_false_eq_true, if_true, fz0, fz1, bytesLess_eq])
    rw [List.take_of_length_le (by omega)]
    exact Into.sameA
theorem con17 {Γ : Env} (h : EnvOk Tryz.prog Γ) (h38 : Γ 38 = some S38) (h45 : Γ 45 = some S45) : Con Tryz.prog 17 S17 :=
  heapE_con h (fn := Tryz.f17) (by kernel_rfl) rfl (by kernel_rfl) inj17 fun ⟨A, S⟩ h => body17 Γ h38 h45 A S h.1 h.2
def e26 : (Fs) × (Int) × (Bytes) × (Int) → List AV × Heap := fun (A, S, n, m) => ([.ref 0 0 0, .str n, .int .i64 m], [.row [.sl (A.flatMap fc) A.length, .int .i64 S] 2 0])
def p26 : (Fs) × (Int) × (Bytes) × (Int) → Prop := fun (A, S, n, m) => okF A ∧ 0 ≤ S ∧ S ≤ 1000000000 ∧ 0 ≤ m ∧ m ≤ 1000000000
def r26 : (Fs) × (Int) × (Bytes) × (Int) → AV := fun (A, S, n, m) => .int .i64 (fitsF S A n m)
def g26 : (Fs) × (Int) × (Bytes) × (Int) → Heap := fun (A, S, n, m) => [.row [.sl (A.flatMap fc) A.length, .int .i64 S] 2 0]
theorem inj26 : ∀ a b, e26 a = e26 b → a = b := by
  rintro ⟨A, S, n, m⟩ ⟨A', S', n', m'⟩ h
  simp only [e26, mi_iff, ms_iff, mb_iff, my_iff, UInt8.toNat_inj, fc_iff, Prod.mk.injEq, List.cons.injEq, AObj.row.injEq, AV.int.injEq, AV.str.injEq, AV.bool.injEq, AV.sl.injEq, AV.agg.injEq, AV.ip.injEq, AV.fn.injEq, AV.ifc.injEq, AV.mpr.injEq, AV.msl.injEq, AV.ref.injEq, Int.natCast_inj, and_true, true_and] at h
  simp_all only
noncomputable def S26 : FSpec := heapE false e26 p26 r26 g26
theorem ps26 (A : (Fs)) (S : (Int)) (n : (Bytes)) (m : (Int)) : pselK e26 p26 ([.ref 0 0 0, .str n, .int .i64 m], [.row [.sl (A.flatMap fc) A.length, .int .i64 S] 2 0]) = (okF A ∧ 0 ≤ S ∧ S ≤ 1000000000 ∧ 0 ≤ m ∧ m ≤ 1000000000) := pselK_at inj26 p26 (A, S, n, m)
theorem rs26 (A : (Fs)) (S : (Int)) (n : (Bytes)) (m : (Int)) : rselK e26 r26 .any ([.ref 0 0 0, .str n, .int .i64 m], [.row [.sl (A.flatMap fc) A.length, .int .i64 S] 2 0]) = (.int .i64 (fitsF S A n m)) := rselK_at inj26 r26 .any (A, S, n, m)
theorem hs26 (A : (Fs)) (S : (Int)) (n : (Bytes)) (m : (Int)) : rselK e26 g26 [] ([.ref 0 0 0, .str n, .int .i64 m], [.row [.sl (A.flatMap fc) A.length, .int .i64 S] 2 0]) = ([.row [.sl (A.flatMap fc) A.length, .int .i64 S] 2 0]) := rselK_at inj26 g26 [] (A, S, n, m)
attribute [push_cast] S26 ps26 rs26 hs26
theorem body26 (Γ : Env) (h17 : Γ 17 = some S17) (h25 : Γ 25 = some S25) (h38 : Γ 38 = some S38) (h45 : Γ 45 = some S45) (A : Fs) (S : Int) (n : Bytes) (m : Int) (hA : okF A) (hS : 0 ≤ S ∧ S ≤ 1000000000) (hm : 0 ≤ m ∧ m ≤ 1000000000) : BodyOk Tryz.prog Γ Tryz.f26 [.ref 0 0 0, .str n, .int .i64 m] [.row [.sl (A.flatMap fc) A.length, .int .i64 S] 2 0] (.int .i64 (fitsF S A n m)) [.row [.sl (A.flatMap fc) A.length, .int .i64 S] 2 0] := by
  have hl := hA.le
  have hp : 0 ≤ pieces m ∧ pieces m ≤ 1000000000 := by unfold pieces; omega
  obtain ⟨q, hq⟩ : ∃ q, q = (A.length : Int) + (if has A n then 0 else 1) := ⟨_, rfl⟩
  have hq1 : 0 ≤ q ∧ q ≤ 201 := by rw [hq]; split <;> omega
  have hv : 0 ≤ leaves q ∧ leaves q ≤ 10 := by unfold leaves; omega
  have hf := free_b hA S hS
  rw [fitsF, ← hq]
  (intro X hP hΓ hL hfin; refine ⟨_, rfl, ?_⟩; rw [show Tryz.f26.ntmps = 41 from rfl]; rw [show Tryz.f26.results.toList = [.tmp 6] from rfl] at hfin; apply holds_of_ex X 400; simp (maxSteps := 1000000) only [push_cast, reduceCtorEq, Nat.reduceAdd, Nat.reduceMul, Nat.reduceSub, Nat.reduceBEq, Nat.reduceGT, Nat.reduceLT, Int.toNat_zero, Nat.reduceLeDiff, Int.reduceEq, Int.reduceLT, Int.reduceLE, hP, hΓ, hL, hfin, String.reduceEq, not_false_eq_true, if_true, fz0, fz1, bytesLess_eq, h25])
  refine ⟨by omega, ?_⟩
  cases hh : has A n
  all_goals
    simp only [hh, if_true, if_false, Bool.false_eq_true, Int.add_zero] at hq
    ((first | with_reducible refine holds_of_ex X 400 _ _ _ ?_ | skip); simp (maxSteps := 1000000) only [push_cast, reduceCtorEq, Nat.reduceAdd, Nat.reduceMul, Nat.reduceSub, Nat.reduceBEq, Nat.reduceGT, Nat.reduceLT, Int.toNat_zero, Nat.reduceLeDiff, Int.reduceEq, Int.reduceLT, Int.reduceLE, hP, hΓ, hL, hfin, String.reduceEq, not_false_eq_true, if_true, fz0, fz1, bytesLess_eq, hh, wr_i64 ((A.length : Int) + 1) (by constructor <;> omega)])
    simp only [← hq]
    by_cases c1 : 256000 < m
    · ((first | with_reducible refine holds_of_ex X 400 _ _ _ ?_ | skip); simp (maxSteps := 1000000) only [push_cast, reduceCtorEq, Nat.reduceAdd, Nat.reduceMul, Nat.reduceSub, Nat.reduceBEq, Nat.reduceGT, Nat.reduceLT, Int.toNat_zero, Nat.reduceLeDiff, Int.reduceEq, Int.reduceLT, Int.reduceLE, hP, hΓ, hL, hfin, String.reduceEq, not_false_eq_true, if_true, fz0, fz1, bytesLess_eq, c1])
      exact Into.sameA
    ((first | with_reducible refine holds_of_ex X 400 _ _ _ ?_ | skip); simp (maxSteps := 1000000) only [push_cast, reduceCtorEq, Nat.reduceAdd, Nat.reduceMul, Nat.reduceSub, Nat.reduceBEq, Nat.reduceGT, Nat.reduceLT, Int.toNat_zero, Nat.reduceLeDiff, Int.reduceEq, Int.reduceLT, Int.reduceLE, hP, hΓ, hL, hfin, String.reduceEq, not_false_eq_true, if_true, fz0, fz1, bytesLess_eq, c1])
    by_cases c2 : 200 < q
    · ((first | with_reducible refine holds_of_ex X 400 _ _ _ ?_ | skip); simp (maxSteps := 1000000) only [push_cast, reduceCtorEq, Nat.reduceAdd, Nat.reduceMul, Nat.reduceSub, Nat.reduceBEq, Nat.reduceGT, Nat.reduceLT, Int.toNat_zero, Nat.reduceLeDiff, Int.reduceEq, Int.reduceLT, Int.reduceLE, hP, hΓ, hL, hfin, String.reduceEq, not_false_eq_true, if_true, fz0, fz1, bytesLess_eq, c2, c1])
      exact Into.sameA
    ((first | with_reducible refine holds_of_ex X 400 _ _ _ ?_ | skip); simp (maxSteps := 1000000) only [push_cast, reduceCtorEq, Nat.reduceAdd, Nat.reduceMul, Nat.reduceSub, Nat.reduceBEq, Nat.reduceGT, Nat.reduceLT, Int.toNat_zero, Nat.reduceLeDiff, Int.reduceEq, Int.reduceLT, Int.reduceLE, hP, hΓ, hL, hfin, String.reduceEq, not_false_eq_true, if_true, fz0, fz1, bytesLess_eq, c2, h38, h45, h17, wr_i64 (1 + pieces m) (by constructor <;> omega), wr_i64 (1 + pieces m + leaves q) (by constructor <;> omega)])
    refine ⟨by omega, by omega, ⟨hA, by omega, by omega⟩, ?_⟩
    by_cases c3 : freeF S A < 1 + pieces m + leaves q
    · ((first | with_reducible refine holds_of_ex X 400 _ _ _ ?_ | skip); simp (maxSteps := 1000000) only [push_cast, reduceCtorEq, Nat.reduceAdd, Nat.reduceMul, Nat.reduceSub, Nat.reduceBEq, Nat.reduceGT, Nat.reduceLT, Int.toNat_zero, Nat.reduceLeDiff, Int.reduceEq, Int.reduceLT, Int.reduceLE, hP, hΓ, hL, hfin, String.reduceEq, not_false_eq_true, if_true, fz0, fz1, bytesLess_eq, c3, c1, c2])
      exact Into.sameA
    · ((first | with_reducible refine holds_of_ex X 400 _ _ _ ?_ | skip); simp (maxSteps := 1000000) only [push_cast, reduceCtorEq, Nat.reduceAdd, Nat.reduceMul, Nat.reduceSub, Nat.reduceBEq, Nat.reduceGT, Nat.reduceLT, Int.toNat_zero, Nat.reduceLeDiff, Int.reduceEq, Int.reduceLT, Int.reduceLE, hP, hΓ, hL, hfin, String.reduceEq, not_false_eq_true, if_true, fz0, fz1, bytesLess_eq, c3, c1, c2])
      exact Into.sameA
theorem con26 {Γ : Env} (h : EnvOk Tryz.prog Γ) (h17 : Γ 17 = some S17) (h25 : Γ 25 = some S25) (h38 : Γ 38 = some S38) (h45 : Γ 45 = some S45) : Con Tryz.prog 26 S26 :=
  heapE_con h (fn := Tryz.f26) (by kernel_rfl) rfl (by kernel_rfl) inj26 fun ⟨A, S, n, m⟩ h => body26 Γ h17 h25 h38 h45 A S n m h.1 ⟨h.2.1, h.2.2.1⟩ h.2.2.2
theorem tk_f (xs : Fs) (i : Nat) : List.take (i * 2) (xs.flatMap fc) = (xs.take i).flatMap fc := take_fm xs i
theorem dr_f (xs : Fs) (i : Nat) : List.drop (i * 2) (xs.flatMap fc) = (xs.drop i).flatMap fc := drop_fm xs i
theorem ap_f (xs ys : Fs) : xs.flatMap fc ++ ys.flatMap fc = (xs ++ ys).flatMap fc := by rw [List.flatMap_append]
theorem ln_f (xs : Fs) : (xs.flatMap fc).length = xs.length * 2 := len_fm xs
def e39 : (Fs) × (Int) × (Nat) → List AV × Heap := fun (A, S, i) => ([.ref 0 0 0, .int .i64 i], [.row [.sl (A.flatMap fc) A.length, .int .i64 S] 2 0])
def p39 : (Fs) × (Int) × (Nat) → Prop := fun (A, S, i) => okF A ∧ i < A.length
def r39 : (Fs) × (Int) × (Nat) → AV := fun (A, S, i) => .tup []
def g39 : (Fs) × (Int) × (Nat) → Heap := fun (A, S, i) => [.row [.sl ((out A i).flatMap fc) (out A i).length, .int .i64 S] 2 0]
theorem inj39 : ∀ a b, e39 a = e39 b → a = b := by
  rintro ⟨A, S, i⟩ ⟨A', S', i'⟩ h
  simp only [e39, mi_iff, ms_iff, mb_iff, my_iff, UInt8.toNat_inj, fc_iff, Prod.mk.injEq, List.cons.injEq, AObj.row.injEq, AV.int.injEq, AV.str.injEq, AV.bool.injEq, AV.sl.injEq, AV.agg.injEq, AV.ip.injEq, AV.fn.injEq, AV.ifc.injEq, AV.mpr.injEq, AV.msl.injEq, AV.ref.injEq, Int.natCast_inj, and_true, true_and] at h
  simp_all only
noncomputable def S39 : FSpec := heapE false e39 p39 r39 g39
theorem ps39 (A : (Fs)) (S : (Int)) (i : (Nat)) : pselK e39 p39 ([.ref 0 0 0, .int .i64 i], [.row [.sl (A.flatMap fc) A.length, .int .i64 S] 2 0]) = (okF A ∧ i < A.length) := pselK_at inj39 p39 (A, S, i)
theorem rs39 (A : (Fs)) (S : (Int)) (i : (Nat)) : rselK e39 r39 .any ([.ref 0 0 0, .int .i64 i], [.row [.sl (A.flatMap fc) A.length, .int .i64 S] 2 0]) = (.tup []) := rselK_at inj39 r39 .any (A, S, i)
theorem hs39 (A : (Fs)) (S : (Int)) (i : (Nat)) : rselK e39 g39 [] ([.ref 0 0 0, .int .i64 i], [.row [.sl (A.flatMap fc) A.length, .int .i64 S] 2 0]) = ([.row [.sl ((out A i).flatMap fc) (out A i).length, .int .i64 S] 2 0]) := rselK_at inj39 g39 [] (A, S, i)
attribute [push_cast] S39 ps39 rs39 hs39
theorem body39 (Γ : Env) (A : Fs) (S : Int) (i : Nat) (hA : okF A) (hi : i < A.length) : BodyOk Tryz.prog Γ Tryz.f39 [.ref 0 0 0, .int .i64 i] [.row [.sl (A.flatMap fc) A.length, .int .i64 S] 2 0] (.tup []) [.row [.sl ((out A i).flatMap fc) (out A i).length, .int .i64 S] 2 0] := by
  have hl := hA.le
  have hi' : (i : Int) ≤ A.length := by omega
  have hi2 : (i : Int) + 1 ≤ A.length := by omega
  have hm : min i A.length = i := by omega
  (intro X hP hΓ hL hfin; refine ⟨_, rfl, ?_⟩; rw [show Tryz.f39.ntmps = 25 from rfl]; rw [show Tryz.f39.results.toList = [] from rfl] at hfin; apply holds_of_ex X 400; simp (maxSteps := 1000000) only [push_cast, reduceCtorEq, Nat.reduceAdd, Nat.reduceMul, Nat.reduceSub, Nat.reduceBEq, Nat.reduceGT, Nat.reduceLT, Int.toNat_zero, Nat.reduceLeDiff, Int.reduceEq, Int.reduceLT, Int.reduceLE, hP, hΓ, hL, hfin, String.reduceEq, not_false_eq_true, if_true, fz0, fz1, bytesLess_eq, wr_i64 ((i : Int) + 1) (by constructor <;> omega), hi', hi2, tk_f, dr_f, hm, Nat.min_self, Nat.sub_zero, List.take_length, ap_f])
  refine ⟨by omega, by omega, ⟨by omega, by omega⟩, by omega, ?_⟩
  rw [show i + (A.length - (i + 1)) = (out A i).length by rw [out, List.length_append, List.length_take, List.length_drop]; omega, show A.take i ++ A.drop (i + 1) = out A i from rfl]
  (refine IntoF.frz 1 (by simp only [push_cast, reduceCtorEq, Nat.reduceAdd, Nat.reduceMul, Nat.reduceSub, Nat.reduceBEq, Nat.reduceGT, Nat.reduceLT, Int.toNat_zero, Nat.reduceLeDiff, Int.reduceEq, Int.reduceLT, Int.reduceLE]; first | done | decide | omega) (by simp only [frzOk', frzOk, isMap, or_true, true_or, push_cast, reduceCtorEq, Nat.reduceAdd, Nat.reduceMul, Nat.reduceSub, Nat.reduceBEq, Nat.reduceGT, Nat.reduceLT, Int.toNat_zero, Nat.reduceLeDiff, Int.reduceEq, Int.reduceLT, Int.reduceLE]) ?_; simp only [push_cast, reduceCtorEq, Nat.reduceAdd, Nat.reduceMul, Nat.reduceSub, Nat.reduceBEq, Nat.reduceGT, Nat.reduceLT, Int.toNat_zero, Nat.reduceLeDiff, Int.reduceEq, Int.reduceLT, Int.reduceLE])
  simp only [tk_f, List.take_length]
  exact Into.keep1A
theorem con39 {Γ : Env} (h : EnvOk Tryz.prog Γ)  : Con Tryz.prog 39 S39 :=
  heapE_con h (fn := Tryz.f39) (by kernel_rfl) rfl (by kernel_rfl) inj39 fun ⟨A, S, i⟩ h => body39 Γ A S i h.1 h.2
def lay1 (A : Fs) (n : Bytes) : Fs := if has A n then out A (pl A n) else A
theorem ins_eq (A : Fs) (n d : Bytes) : ins A n d = (lay1 A n).take (pl A n) ++ (n, d) :: (lay1 A n).drop (pl A n) := rfl
theorem small_out {A : Fs} (h : small A) (i : Nat) : small (out A i) := fun x hx => by
  rw [out, List.mem_append] at hx
  rcases hx with hx | hx
  · exact h x (List.mem_of_mem_take hx)
  · exact h x (List.mem_of_mem_drop hx)
theorem small_lay {A : Fs} (h : small A) (n : Bytes) : small (lay1 A n) := by
  rw [lay1]; split
  · exact small_out h _
  · exact h
theorem ok_ins {A : Fs} (h : okF A) {n d : Bytes} (hn : n.length ≤ 100) (hd : d.length ≤ 256000) (hl : A.length + (if has A n then 0 else 1) ≤ 200) : okF (ins A n d) :=
  ⟨sorted_ins h.so n d, by rw [len_ins h.so]; exact hl, fun x hx => by
    rw [ins_eq, List.mem_append, List.mem_cons] at hx
    rcases hx with hx | rfl | hx
    · exact small_lay h.sm n x (List.mem_of_mem_take hx)
    · exact ⟨hn, hd⟩
    · exact small_lay h.sm n x (List.mem_of_mem_drop hx)⟩
theorem ok_out {A : Fs} (h : okF A) {n : Bytes} (hn : has A n = true) : okF (out A (pl A n)) :=
  ⟨sorted_out h.so hn, by have := len_out h.so hn; have := h.le; omega, small_out h.sm _⟩
theorem has_lt {A : Fs} {n : Bytes} (hs : sorted A) (h : has A n = true) : pl A n < A.length := by
  have h' := h
  rw [has_lookup hs] at h'
  obtain ⟨d, hd⟩ := Option.isSome_iff_exists.1 h'
  have := at_place hs hd
  exact (List.getElem?_eq_some_iff.1 this).1
theorem lay_cells (B : Fs) (i : Nat) (n d : Bytes) : (B.take i).flatMap fc ++ [AV.str n, AV.str d] ++ (B.drop i).flatMap fc = (B.take i ++ (n, d) :: B.drop i).flatMap fc := by
  simp [fc]
theorem lay_len (B : Fs) (i : Nat) (n d : Bytes) (h : i ≤ B.length) : i + 1 + (B.length - i) = (B.take i ++ (n, d) :: B.drop i).length := by
  simp only [List.length_append, List.length_take, List.length_cons, List.length_drop]; omega
def e27 : (Fs) × (Int) × (Bytes) × (Bytes) → List AV × Heap := fun (A, S, n, d) => ([.ref 0 0 0, .str n, .str d], [.row [.sl (A.flatMap fc) A.length, .int .i64 S] 2 0])
def p27 : (Fs) × (Int) × (Bytes) × (Bytes) → Prop := fun (A, S, n, d) => okF A
def r27 : (Fs) × (Int) × (Bytes) × (Bytes) → AV := fun (A, S, n, d) => .tup []
def g27 : (Fs) × (Int) × (Bytes) × (Bytes) → Heap := fun (A, S, n, d) => [.row [.sl ((ins A n d).flatMap fc) (ins A n d).length, .int .i64 S] 2 0]
theorem inj27 : ∀ a b, e27 a = e27 b → a = b := by
  rintro ⟨A, S, n, d⟩ ⟨A', S', n', d'⟩ h
  simp only [e27, mi_iff, ms_iff, mb_iff, my_iff, UInt8.toNat_inj, fc_iff, Prod.mk.injEq, List.cons.injEq, AObj.row.injEq, AV.int.injEq, AV.str.injEq, AV.bool.injEq, AV.sl.injEq, AV.agg.injEq, AV.ip.injEq, AV.fn.injEq, AV.ifc.injEq, AV.mpr.injEq, AV.msl.injEq, AV.ref.injEq, Int.natCast_inj, and_true, true_and] at h
  simp_all only
noncomputable def S27 : FSpec := heapE false e27 p27 r27 g27
theorem ps27 (A : (Fs)) (S : (Int)) (n : (Bytes)) (d : (Bytes)) : pselK e27 p27 ([.ref 0 0 0, .str n, .str d], [.row [.sl (A.flatMap fc) A.length, .int .i64 S] 2 0]) = (okF A) := pselK_at inj27 p27 (A, S, n, d)
theorem rs27 (A : (Fs)) (S : (Int)) (n : (Bytes)) (d : (Bytes)) : rselK e27 r27 .any ([.ref 0 0 0, .str n, .str d], [.row [.sl (A.flatMap fc) A.length, .int .i64 S] 2 0]) = (.tup []) := rselK_at inj27 r27 .any (A, S, n, d)
theorem hs27 (A : (Fs)) (S : (Int)) (n : (Bytes)) (d : (Bytes)) : rselK e27 g27 [] ([.ref 0 0 0, .str n, .str d], [.row [.sl (A.flatMap fc) A.length, .int .i64 S] 2 0]) = ([.row [.sl ((ins A n d).flatMap fc) (ins A n d).length, .int .i64 S] 2 0]) := rselK_at inj27 g27 [] (A, S, n, d)
attribute [push_cast] S27 ps27 rs27 hs27
theorem body27 (Γ : Env) (h25 : Γ 25 = some S25) (h39 : Γ 39 = some S39) (A : Fs) (S : Int) (n d : Bytes) (hA : okF A) : BodyOk Tryz.prog Γ Tryz.f27 [.ref 0 0 0, .str n, .str d] [.row [.sl (A.flatMap fc) A.length, .int .i64 S] 2 0] (.tup []) [.row [.sl ((ins A n d).flatMap fc) (ins A n d).length, .int .i64 S] 2 0] := by
  have hl := hA.le
  (intro X hP hΓ hL hfin; refine ⟨_, rfl, ?_⟩; rw [show Tryz.f27.ntmps = 44 from rfl]; rw [show Tryz.f27.results.toList = [] from rfl] at hfin; apply holds_of_ex X 400; simp (maxSteps := 1000000) only [push_cast, reduceCtorEq, Nat.reduceAdd, Nat.reduceMul, Nat.reduceSub, Nat.reduceBEq, Nat.reduceGT, Nat.reduceLT, Int.toNat_zero, Nat.reduceLeDiff, Int.reduceEq, Int.reduceLT, Int.reduceLE, hP, hΓ, hL, hfin, String.reduceEq, not_false_eq_true, if_true, fz0, fz1, bytesLess_eq, h25])
  refine ⟨by omega, ?_⟩
  have key : ∀ B : Fs, B = lay1 A n → pl A n ≤ B.length ∧ B.length ≤ 200 := by
    rintro B rfl
    rw [lay1]; split
    · rename_i hh
      have := len_out hA.so hh
      have := has_lt hA.so hh
      omega
    · exact ⟨pl_le A n, hl⟩
  have hi := ins_eq A n d
  cases hh : has A n
  all_goals
    have hk := key _ rfl
    rw [lay1, hh] at hk hi
    simp only [if_true, if_false, Bool.false_eq_true] at hk hi
    generalize hp : pl A n = i at *
  · have hm : min i A.length = i := by omega
    ((first | with_reducible refine holds_of_ex X 400 _ _ _ ?_ | skip); simp (maxSteps := 1000000) only [push_cast, reduceCtorEq, Nat.reduceAdd, Nat.reduceMul, Nat.reduceSub, Nat.reduceBEq, Nat.reduceGT, Nat.reduceLT, Int.toNat_zero, Nat.reduceLeDiff, Int.reduceEq, Int.reduceLT, Int.reduceLE, hP, hΓ, hL, hfin, String.reduceEq, not_false_eq_true, if_true, fz0, fz1, bytesLess_eq, hh, tk_f, dr_f, hm, Nat.min_self, Nat.sub_zero, List.take_length])
    refine ⟨⟨by omega, by omega⟩, by omega, by omega, ⟨by omega, by omega⟩, ⟨by omega, by omega⟩, ?_⟩
    rw [lay_cells, lay_len A i n d hk.1, ← hi]
    (refine IntoF.frz 1 (by simp only [push_cast, reduceCtorEq, Nat.reduceAdd, Nat.reduceMul, Nat.reduceSub, Nat.reduceBEq, Nat.reduceGT, Nat.reduceLT, Int.toNat_zero, Nat.reduceLeDiff, Int.reduceEq, Int.reduceLT, Int.reduceLE]; first | done | decide | omega) (by simp only [frzOk', frzOk, isMap, or_true, true_or, push_cast, reduceCtorEq, Nat.reduceAdd, Nat.reduceMul, Nat.reduceSub, Nat.reduceBEq, Nat.reduceGT, Nat.reduceLT, Int.toNat_zero, Nat.reduceLeDiff, Int.reduceEq, Int.reduceLT, Int.reduceLE]) ?_; simp only [push_cast, reduceCtorEq, Nat.reduceAdd, Nat.reduceMul, Nat.reduceSub, Nat.reduceBEq, Nat.reduceGT, Nat.reduceLT, Int.toNat_zero, Nat.reduceLeDiff, Int.reduceEq, Int.reduceLT, Int.reduceLE])
    simp only [tk_f, List.take_length]
    exact Into.keep1A
  · have hi' : i < A.length := by rw [← hp]; exact has_lt hA.so hh
    have hm : min i (out A i).length = i := by omega
    ((first | with_reducible refine holds_of_ex X 400 _ _ _ ?_ | skip); simp (maxSteps := 1000000) only [push_cast, reduceCtorEq, Nat.reduceAdd, Nat.reduceMul, Nat.reduceSub, Nat.reduceBEq, Nat.reduceGT, Nat.reduceLT, Int.toNat_zero, Nat.reduceLeDiff, Int.reduceEq, Int.reduceLT, Int.reduceLE, hP, hΓ, hL, hfin, String.reduceEq, not_false_eq_true, if_true, fz0, fz1, bytesLess_eq, hh, h39, tk_f, dr_f, hm, Nat.min_self, Nat.sub_zero, List.take_length])
    refine ⟨⟨hA, hi'⟩, ⟨by omega, by omega⟩, by omega, by omega, ⟨by omega, by omega⟩, ⟨by omega, by omega⟩, ?_⟩
    rw [lay_cells, lay_len (out A i) i n d hk.1, ← hi]
    (refine IntoF.frz 1 (by simp only [push_cast, reduceCtorEq, Nat.reduceAdd, Nat.reduceMul, Nat.reduceSub, Nat.reduceBEq, Nat.reduceGT, Nat.reduceLT, Int.toNat_zero, Nat.reduceLeDiff, Int.reduceEq, Int.reduceLT, Int.reduceLE]; first | done | decide | omega) (by simp only [frzOk', frzOk, isMap, or_true, true_or, push_cast, reduceCtorEq, Nat.reduceAdd, Nat.reduceMul, Nat.reduceSub, Nat.reduceBEq, Nat.reduceGT, Nat.reduceLT, Int.toNat_zero, Nat.reduceLeDiff, Int.reduceEq, Int.reduceLT, Int.reduceLE]) ?_; simp only [push_cast, reduceCtorEq, Nat.reduceAdd, Nat.reduceMul, Nat.reduceSub, Nat.reduceBEq, Nat.reduceGT, Nat.reduceLT, Int.toNat_zero, Nat.reduceLeDiff, Int.reduceEq, Int.reduceLT, Int.reduceLE])
    simp only [tk_f, List.take_length]
    exact Into.keep1A
theorem con27 {Γ : Env} (h : EnvOk Tryz.prog Γ) (h25 : Γ 25 = some S25) (h39 : Γ 39 = some S39) : Con Tryz.prog 27 S27 :=
  heapE_con h (fn := Tryz.f27) (by kernel_rfl) rfl (by kernel_rfl) inj27 fun ⟨A, S, n, d⟩ h => body27 Γ h25 h39 A S n d h
end Go.Proofs.YtenopfmafecffaaGreatDoor.modelDone
