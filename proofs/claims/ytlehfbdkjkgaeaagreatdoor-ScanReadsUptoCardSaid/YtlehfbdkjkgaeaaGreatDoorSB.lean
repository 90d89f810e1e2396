/- Of sources: the scanner's walk. Conditions stand in each. -/
import Derived.Test.YtlehfbdkjkgaeaaGreatDoorSA
import Derived.Test.YtlehfbdkjkgaeaaGreatDoorEng20
namespace Go.Proofs.YtlehfbdkjkgaeaaGreatDoor.scanDone
open Go Go.Eng Go.Proofs Go.Scan Go.RowKit
set_option linter.unusedVariables false
set_option linter.unusedSimpArgs false
set_option maxRecDepth 100000
set_option maxHeartbeats 4000000

def e26 : (Bytes) → List AV := fun w => [.str w]
def p26 : (Bytes) → Prop := fun w => pN w
def r26 : (Bytes) → AV := fun w => rN w
def g26 : (Bytes) → Heap := fun w => []
theorem inj26 : ∀ a b, e26 a = e26 b → a = b := by
  rintro w w' h
  simp only [e26, mi_iff, ms_iff, mb_iff, my_iff, UInt8.toNat_inj, List.cons.injEq, AV.int.injEq, AV.str.injEq, AV.bool.injEq, AV.sl.injEq, AV.agg.injEq, AV.ip.injEq, AV.fn.injEq, AV.ifc.injEq, AV.mpr.injEq, Int.natCast_inj, and_true, true_and] at h
  simp_all only
noncomputable def S26 : FSpec := funS e26 p26 r26 g26 true
theorem ps26 (w : (Bytes)) : psel e26 p26 [.str w] = (pN w) := psel_at inj26 p26 w
theorem rs26 (w : (Bytes)) : rsel e26 r26 .any [.str w] = (rN w) := rsel_at inj26 r26 .any w
theorem hs26 (w : (Bytes)) : rsel e26 g26 [] [.str w] = ([]) := rsel_at inj26 g26 [] w
attribute [push_cast] S26 ps26 rs26 hs26
theorem con26 {Γ : Env} (h : EnvOk Tryz.prog Γ) (h32 : Γ 40 = some S32) (h33 : Γ 41 = some S33) (h34 : Γ 42 = some S34) : Con Tryz.prog 24 S26 :=
  funS_con h (fn := Tryz.f24) (by kernel_rfl) rfl (by kernel_rfl) inj26 (by first | (intro h; cases h; done) | exact fun _ _ => rfl) fun w hw => body26 Γ h32 h33 h34 w hw
/-- the string behind a quote -/
def e27 : (Bytes) → List AV := fun r => [.str (34 :: r)]
def p27 : (Bytes) → Prop := fun r => r.length ≤ 4194303
def r27 : (Bytes) → AV := fun r => .tup [.str (cutQ r), .bool (quo r).isSome]
def g27 : (Bytes) → Heap := fun r => []
theorem inj27 : ∀ a b, e27 a = e27 b → a = b := by
  rintro r r' h
  simp only [e27, mi_iff, ms_iff, mb_iff, my_iff, UInt8.toNat_inj, List.cons.injEq, AV.int.injEq, AV.str.injEq, AV.bool.injEq, AV.sl.injEq, AV.agg.injEq, AV.ip.injEq, AV.fn.injEq, AV.ifc.injEq, AV.mpr.injEq, Int.natCast_inj, and_true, true_and] at h
  simp_all only
noncomputable def S27 : FSpec := funS e27 p27 r27 g27 true
theorem ps27 (r : (Bytes)) : psel e27 p27 [.str (34 :: r)] = (r.length ≤ 4194303) := psel_at inj27 p27 r
theorem rs27 (r : (Bytes)) : rsel e27 r27 .any [.str (34 :: r)] = (.tup [.str (cutQ r), .bool (quo r).isSome]) := rsel_at inj27 r27 .any r
theorem hs27 (r : (Bytes)) : rsel e27 g27 [] [.str (34 :: r)] = ([]) := rsel_at inj27 g27 [] r
attribute [push_cast] S27 ps27 rs27 hs27
theorem body27 (Γ : Env) (h35 : Γ 43 = some S35) (h36 : Γ 44 = some S36) (r : Bytes) (hr : r.length ≤ 4194303) : BodyOk Tryz.prog Γ Tryz.f25 (e27 r) [] (.tup [.str (cutQ r), .bool (quo r).isSome]) [] := by
  have hc := cutQ_le r
  have hd : List.drop (Int.toNat 1) (34 :: List.take r.length r) = r := by simp
  (intro X hP hΓ hL hfin; refine ⟨_, rfl, ?_⟩; rw [show Tryz.f25.ntmps = 26 from rfl]; rw [show Tryz.f25.results.toList = [.tmp 2, .tmp 3] from rfl] at hfin; apply holds_of_ex X 400; simp (maxSteps := 1000000) only [push_cast, reduceCtorEq, Nat.reduceAdd, Nat.reduceMul, Nat.reduceSub, Nat.reduceBEq, Nat.reduceGT, Nat.reduceLT, Int.toNat_zero, Nat.reduceLeDiff, Int.reduceEq, Int.reduceLT, Int.reduceLE, hP, hΓ, hL, hfin, String.reduceEq, not_false_eq_true, if_true, e27, h35, h36, hd])
  refine ⟨⟨by omega, by omega⟩, by omega, fun _ => by omega, Into.one ?_ rfl⟩
  congr 3
  unfold quo hasQ
  rw [show (r.takeWhile fun x => x != 34) = cutQ r from rfl]
  congr 1
  rw [Bool.eq_iff_iff]
  simp only [Bool.not_not, Bool.and_eq_true, decide_eq_true_eq]
  split
  · rename_i h; simp only [Option.isSome_some, iff_true]; exact ⟨⟨h.1, by omega⟩, h.2.2⟩
  · rename_i h; simp only [Option.isSome_none, Bool.false_eq_true, iff_false]; intro hh; exact h ⟨hh.1.1, by have := hh.1.2; omega, hh.2⟩
theorem con27 {Γ : Env} (h : EnvOk Tryz.prog Γ) (h35 : Γ 43 = some S35) (h36 : Γ 44 = some S36) : Con Tryz.prog 25 S27 :=
  funS_con h (fn := Tryz.f25) (by kernel_rfl) rfl (by kernel_rfl) inj27 (by first | (intro h; cases h; done) | exact fun _ _ => rfl) fun r hr => body27 Γ h35 h36 r hr
theorem ix_ge : ∀ (l : Bytes) (c : UInt8), -1 ≤ Lib.indexByte l c
  | [], c => by simp [Lib.indexByte]
  | b :: l, c => by
    have ih := ix_ge l c
    rw [Lib.indexByte]
    split
    · omega
    · split <;> omega
theorem ix_lt : ∀ (l : Bytes) (c : UInt8), Lib.indexByte l c < 0 ↔ l.contains c = false
  | [], c => by simp [Lib.indexByte]
  | b :: l, c => by
    have ih := ix_lt l c
    rw [Lib.indexByte, List.contains_cons]
    by_cases hb : b = c
    · subst hb; simp
    · have h1 : (b == c) = false := by simpa using hb
      have h2 : (c == b) = false := by simpa using fun h : c = b => hb h.symm
      rw [h1, h2, Bool.false_or, ← ih]
      have h3 : -1 ≤ Lib.indexByte l c := ix_ge l c
      simp only [Bool.false_eq_true, if_false]
      split
      · rename_i h; simp only [beq_iff_eq] at h; omega
      · rename_i h; simp only [beq_iff_eq] at h; omega
def e28 : (Bytes) → List AV := fun s => [.str s]
def p28 : (Bytes) → Prop := fun s => s ≠ [] ∧ s.length ≤ 4194304
def r28 : (Bytes) → AV := fun s => .str (sgn s)
def g28 : (Bytes) → Heap := fun s => []
theorem inj28 : ∀ a b, e28 a = e28 b → a = b := by
  rintro s s' h
  simp only [e28, mi_iff, ms_iff, mb_iff, my_iff, UInt8.toNat_inj, List.cons.injEq, AV.int.injEq, AV.str.injEq, AV.bool.injEq, AV.sl.injEq, AV.agg.injEq, AV.ip.injEq, AV.fn.injEq, AV.ifc.injEq, AV.mpr.injEq, Int.natCast_inj, and_true, true_and] at h
  simp_all only
noncomputable def S28 : FSpec := funS e28 p28 r28 g28 true
theorem ps28 (s : (Bytes)) : psel e28 p28 [.str s] = (s ≠ [] ∧ s.length ≤ 4194304) := psel_at inj28 p28 s
theorem rs28 (s : (Bytes)) : rsel e28 r28 .any [.str s] = (.str (sgn s)) := rsel_at inj28 r28 .any s
theorem hs28 (s : (Bytes)) : rsel e28 g28 [] [.str s] = ([]) := rsel_at inj28 g28 [] s
attribute [push_cast] S28 ps28 rs28 hs28
theorem body28 (Γ : Env) (h38 : Γ 46 = some S38) (s : Bytes) (hne : s ≠ []) (hl : s.length ≤ 4194304) : BodyOk Tryz.prog Γ Tryz.f26 (e28 s) [] (.str (sgn s)) [] := by
  obtain ⟨c, r, rfl⟩ : ∃ c r, s = c :: r := by cases s with | nil => exact absurd rfl hne | cons c r => exact ⟨c, r, rfl⟩
  (intro X hP hΓ hL hfin; refine ⟨_, rfl, ?_⟩; rw [show Tryz.f26.ntmps = 21 from rfl]; rw [show Tryz.f26.results.toList = [.tmp 2] from rfl] at hfin; apply holds_of_ex X 400; simp (maxSteps := 1000000) only [push_cast, reduceCtorEq, Nat.reduceAdd, Nat.reduceMul, Nat.reduceSub, Nat.reduceBEq, Nat.reduceGT, Nat.reduceLT, Int.toNat_zero, Nat.reduceLeDiff, Int.reduceEq, Int.reduceLT, Int.reduceLE, hP, hΓ, hL, hfin, String.reduceEq, not_false_eq_true, if_true, e28, h38])
  have hix : Lib.indexByte [43, 45, 42, 47, 126, 38, 46, 44, 59, 124, 40, 41, 91, 93, 123, 125, 58, 94, 61, 35, 60, 62] c < 0 ↔ sg1.contains c = false := ix_lt sg1 c
  ((with_reducible refine exB_split (fun h => ?_) (fun h => ?_)) <;> (try simp only [decide_eq_true_eq, decide_eq_false_iff_not, Bool.and_eq_true, Bool.or_eq_true, Bool.and_eq_false_iff, Bool.or_eq_false_iff, Bool.not_eq_true', Bool.not_eq_false', Bool.not_eq_true, Bool.not_eq_false, Int.not_lt, Int.not_le, beq_iff_eq, beq_eq_false_iff_ne, ne_eq] at h))
  · obtain ⟨b, r, rfl⟩ : ∃ b r', r = b :: r' := by cases r with | nil => exact absurd h (by show ¬ ((1 : Int) < 0 + 1); decide) | cons b r => exact ⟨b, r, rfl⟩
    have ht : List.take (Int.toNat 2) (c :: b :: r) = [c, b] := rfl
    ((first | with_reducible refine holds_of_ex X 400 _ _ _ ?_ | skip); simp (maxSteps := 1000000) only [push_cast, reduceCtorEq, Nat.reduceAdd, Nat.reduceMul, Nat.reduceSub, Nat.reduceBEq, Nat.reduceGT, Nat.reduceLT, Int.toNat_zero, Nat.reduceLeDiff, Int.reduceEq, Int.reduceLT, Int.reduceLE, hP, hΓ, hL, hfin, String.reduceEq, not_false_eq_true, if_true, ht])
    refine ⟨by first | omega | (simp only [List.length_cons] at *; omega), ?_⟩
    have hs : ∀ x ∈ sg2, [c, b] = x → sgn (c :: b :: r) = [c, b] := fun x hx e => by
      rw [sgn, if_pos]; rfl
      rw [List.contains_iff_mem]; show [c, b] ∈ sg2; rw [e]; exact hx
    iterate 4
      refine exB_split (fun h => ?_) (fun h => ?_)
      · have h' := eq_of_beq h
        ((first | with_reducible refine holds_of_ex X 400 _ _ _ ?_ | skip); simp (maxSteps := 1000000) only [push_cast, reduceCtorEq, Nat.reduceAdd, Nat.reduceMul, Nat.reduceSub, Nat.reduceBEq, Nat.reduceGT, Nat.reduceLT, Int.toNat_zero, Nat.reduceLeDiff, Int.reduceEq, Int.reduceLT, Int.reduceLE, hP, hΓ, hL, hfin, String.reduceEq, not_false_eq_true, if_true, ht, h])
        rw [hs _ (by decide) h']
        exact ⟨by omega, by exact Into.sameA⟩
      have hnb := ne_of_beq_false h
      ((first | with_reducible refine holds_of_ex X 400 _ _ _ ?_ | skip); simp (maxSteps := 1000000) only [push_cast, reduceCtorEq, Nat.reduceAdd, Nat.reduceMul, Nat.reduceSub, Nat.reduceBEq, Nat.reduceGT, Nat.reduceLT, Int.toNat_zero, Nat.reduceLeDiff, Int.reduceEq, Int.reduceLT, Int.reduceLE, hP, hΓ, hL, hfin, String.reduceEq, not_false_eq_true, if_true, ht, h38, h])
    have h5 : sg2.contains (List.take 2 (c :: b :: r)) = false := by
      have : ∀ x ∈ sg2, [c, b] ≠ x := by
        intro x hx
        simp only [sg2, List.mem_cons, List.not_mem_nil, or_false] at hx
        rcases hx with rfl | rfl | rfl | rfl <;> assumption
      rw [← Bool.not_eq_true, List.contains_iff_mem]
      exact fun hm => this _ hm rfl
    refine ⟨by first | omega | (simp only [List.length_cons] at *; omega), ?_⟩
    ((with_reducible refine exB_split (fun h => ?_) (fun h => ?_)) <;> (try simp only [decide_eq_true_eq, decide_eq_false_iff_not, Bool.and_eq_true, Bool.or_eq_true, Bool.and_eq_false_iff, Bool.or_eq_false_iff, Bool.not_eq_true', Bool.not_eq_false', Bool.not_eq_true, Bool.not_eq_false, Int.not_lt, Int.not_le, beq_iff_eq, beq_eq_false_iff_ne, ne_eq] at h))
    · have h6 := hix.1 h
      ((first | with_reducible refine holds_of_ex X 400 _ _ _ ?_ | skip); simp (maxSteps := 1000000) only [push_cast, reduceCtorEq, Nat.reduceAdd, Nat.reduceMul, Nat.reduceSub, Nat.reduceBEq, Nat.reduceGT, Nat.reduceLT, Int.toNat_zero, Nat.reduceLeDiff, Int.reduceEq, Int.reduceLT, Int.reduceLE, hP, hΓ, hL, hfin, String.reduceEq, not_false_eq_true, if_true])
      rw [show sgn (c :: b :: r) = [] by rw [sgn, if_neg (by rw [h5]; simp)]; show (if sg1.contains c = true then [c] else []) = _; rw [h6]; rfl]
      exact Into.sameA
    · have h6 : sg1.contains c = true := by
        cases hc : sg1.contains c with
        | true => rfl
        | false => have := hix.2 hc; omega
      ((first | with_reducible refine holds_of_ex X 400 _ _ _ ?_ | skip); simp (maxSteps := 1000000) only [push_cast, reduceCtorEq, Nat.reduceAdd, Nat.reduceMul, Nat.reduceSub, Nat.reduceBEq, Nat.reduceGT, Nat.reduceLT, Int.toNat_zero, Nat.reduceLeDiff, Int.reduceEq, Int.reduceLT, Int.reduceLE, hP, hΓ, hL, hfin, String.reduceEq, not_false_eq_true, if_true])
      refine ⟨by first | omega | (simp only [List.length_cons] at *; omega), ?_⟩
      rw [show sgn (c :: b :: r) = [c] by rw [sgn, if_neg (by rw [h5]; simp)]; show (if sg1.contains c = true then [c] else []) = _; rw [h6]; rfl]
      rw [show List.take (Int.toNat 1) (c :: b :: r) = [c] from rfl]
      exact Into.sameA
  · obtain rfl : r = [] := List.eq_nil_of_length_eq_zero (by omega)
    have h5 : sg2.contains (List.take 2 [c]) = false := by simp [sg2]
    ((first | with_reducible refine holds_of_ex X 400 _ _ _ ?_ | skip); simp (maxSteps := 1000000) only [push_cast, reduceCtorEq, Nat.reduceAdd, Nat.reduceMul, Nat.reduceSub, Nat.reduceBEq, Nat.reduceGT, Nat.reduceLT, Int.toNat_zero, Nat.reduceLeDiff, Int.reduceEq, Int.reduceLT, Int.reduceLE, hP, hΓ, hL, hfin, String.reduceEq, not_false_eq_true, if_true, h38])
    refine ⟨by show (0 : Int) < 0 + 1; decide, ?_⟩
    ((with_reducible refine exB_split (fun h => ?_) (fun h => ?_)) <;> (try simp only [decide_eq_true_eq, decide_eq_false_iff_not, Bool.and_eq_true, Bool.or_eq_true, Bool.and_eq_false_iff, Bool.or_eq_false_iff, Bool.not_eq_true', Bool.not_eq_false', Bool.not_eq_true, Bool.not_eq_false, Int.not_lt, Int.not_le, beq_iff_eq, beq_eq_false_iff_ne, ne_eq] at h))
    · have h6 := hix.1 h
      ((first | with_reducible refine holds_of_ex X 400 _ _ _ ?_ | skip); simp (maxSteps := 1000000) only [push_cast, reduceCtorEq, Nat.reduceAdd, Nat.reduceMul, Nat.reduceSub, Nat.reduceBEq, Nat.reduceGT, Nat.reduceLT, Int.toNat_zero, Nat.reduceLeDiff, Int.reduceEq, Int.reduceLT, Int.reduceLE, hP, hΓ, hL, hfin, String.reduceEq, not_false_eq_true, if_true])
      rw [show sgn [c] = [] by rw [sgn, if_neg (by rw [h5]; simp)]; show (if sg1.contains c = true then [c] else []) = _; rw [h6]; rfl]
      exact Into.sameA
    · have h6 : sg1.contains c = true := by
        cases hc : sg1.contains c with
        | true => rfl
        | false => have := hix.2 hc; omega
      ((first | with_reducible refine holds_of_ex X 400 _ _ _ ?_ | skip); simp (maxSteps := 1000000) only [push_cast, reduceCtorEq, Nat.reduceAdd, Nat.reduceMul, Nat.reduceSub, Nat.reduceBEq, Nat.reduceGT, Nat.reduceLT, Int.toNat_zero, Nat.reduceLeDiff, Int.reduceEq, Int.reduceLT, Int.reduceLE, hP, hΓ, hL, hfin, String.reduceEq, not_false_eq_true, if_true])
      refine ⟨by show (1 : Int) ≤ 0 + 1; decide, ?_⟩
      rw [show sgn [c] = [c] by rw [sgn, if_neg (by rw [h5]; simp)]; show (if sg1.contains c = true then [c] else []) = _; rw [h6]; rfl]
      rw [show List.take (Int.toNat 1) [c] = [c] from rfl]
      exact Into.sameA
theorem con28 {Γ : Env} (h : EnvOk Tryz.prog Γ) (h38 : Γ 46 = some S38) : Con Tryz.prog 26 S28 :=
  funS_con h (fn := Tryz.f26) (by kernel_rfl) rfl (by kernel_rfl) inj28 (by first | (intro h; cases h; done) | exact fun _ _ => rfl) fun s hs => body28 Γ h38 s hs.1 hs.2
/-- a remark's length -/
def remN (s : Bytes) : Nat := (remA 0 s).getD 0
def e14 : (Bytes) → List AV := fun s => [.str s]
def p14 : (Bytes) → Prop := fun s => rem? s = true ∧ s.length ≤ 4194304
def r14 : (Bytes) → AV := fun s => .int .i64 (remN s)
def g14 : (Bytes) → Heap := fun s => []
theorem inj14 : ∀ a b, e14 a = e14 b → a = b := by
  rintro s s' h
  simp only [e14, mi_iff, ms_iff, mb_iff, my_iff, UInt8.toNat_inj, List.cons.injEq, AV.int.injEq, AV.str.injEq, AV.bool.injEq, AV.sl.injEq, AV.agg.injEq, AV.ip.injEq, AV.fn.injEq, AV.ifc.injEq, AV.mpr.injEq, Int.natCast_inj, and_true, true_and] at h
  simp_all only
noncomputable def S14 : FSpec := funS e14 p14 r14 g14 true
theorem ps14 (s : (Bytes)) : psel e14 p14 [.str s] = (rem? s = true ∧ s.length ≤ 4194304) := psel_at inj14 p14 s
theorem rs14 (s : (Bytes)) : rsel e14 r14 .any [.str s] = (.int .i64 (remN s)) := rsel_at inj14 r14 .any s
theorem hs14 (s : (Bytes)) : rsel e14 g14 [] [.str s] = ([]) := rsel_at inj14 g14 [] s
attribute [push_cast] S14 ps14 rs14 hs14
theorem body14 (Γ : Env) (s : Bytes) (h1 : rem? s = true) (hl : s.length ≤ 4194304) : BodyOk Tryz.prog Γ Tryz.f10 (e14 s) [] (.int .i64 (remN s)) [] := by
  (intro X hP hΓ hL hfin; refine ⟨_, rfl, ?_⟩; rw [show Tryz.f10.ntmps = 34 from rfl]; rw [show Tryz.f10.results.toList = [.tmp 2] from rfl] at hfin; apply holds_of_ex X 400; simp (maxSteps := 1000000) only [push_cast, reduceCtorEq, Nat.reduceAdd, Nat.reduceMul, Nat.reduceSub, Nat.reduceBEq, Nat.reduceGT, Nat.reduceLT, Int.toNat_zero, Nat.reduceLeDiff, Int.reduceEq, Int.reduceLT, Int.reduceLE, hP, hΓ, hL, hfin, String.reduceEq, not_false_eq_true, if_true, e14])
  refine Holds.loopM (ι := {x : Nat × Nat // x.2 ≤ s.length ∧ x.1 ≤ x.2 ∧ (x.1 = 0 → x.2 = 0) ∧ remA 0 s = (remA x.1 (s.drop x.2)).map (· + x.2)}) [true, false, true, false, false, false, false, false, false, false, false, false, false, false, false, false, false, false, false, false, false, false, false, false, false, false, false, false, false, false, false, false, false, false] (fun i => [(3, .int .i64 i.1.1), (4, .int .i64 i.1.2)]) (fun i => []) (fun i => s.length - i.1.2) ⟨(0, 0), Nat.zero_le _, Nat.le_refl _, fun _ => rfl, by simp⟩ ?_ ?_
  · (rw [hL]; simp only [push_cast, Int.natCast_zero]; exact Into.sameA)
  rintro ⟨⟨d, k⟩, hk, hd, h0, he⟩
  simp only at hk hd h0 he
  ((first | with_reducible refine holds_of_ex X 400 _ _ _ ?_ | skip); simp (maxSteps := 1000000) only [push_cast, reduceCtorEq, Nat.reduceAdd, Nat.reduceMul, Nat.reduceSub, Nat.reduceBEq, Nat.reduceGT, Nat.reduceLT, Int.toNat_zero, Nat.reduceLeDiff, Int.reduceEq, Int.reduceLT, Int.reduceLE, hP, hΓ, hL, hfin, String.reduceEq, not_false_eq_true, if_true, wr_i64 ((k : Int) + 1) (by constructor <;> omega)])
  ((with_reducible refine exB_split (fun h => ?_) (fun h => ?_)) <;> (try simp only [decide_eq_true_eq, decide_eq_false_iff_not, Bool.and_eq_true, Bool.or_eq_true, Bool.and_eq_false_iff, Bool.or_eq_false_iff, Bool.not_eq_true', Bool.not_eq_false', Bool.not_eq_true, Bool.not_eq_false, Int.not_lt, Int.not_le, beq_iff_eq, beq_eq_false_iff_ne, ne_eq] at h))
  · have hk' : k + 1 < s.length := by omega
    have hsl : List.drop k (List.take ((k : Int) + 2).toNat s) = [s.getD k 0, s.getD (k + 1) 0] := by
      rw [show ((k : Int) + 2).toNat = k + 2 by omega, List.drop_take, show k + 2 - k = 2 by omega, List.drop_eq_getElem_cons (show k < s.length by omega), List.drop_eq_getElem_cons hk', List.take_succ_cons, List.take_succ_cons, List.take_zero]
      simp only [List.getD, List.getElem?_eq_getElem hk', List.getElem?_eq_getElem (show k < s.length by omega), Option.getD_some]
    have hdr : List.drop k s = s.getD k 0 :: s.getD (k + 1) 0 :: List.drop (k + 2) s := by
      rw [List.drop_eq_getElem_cons (show k < s.length by omega), List.drop_eq_getElem_cons hk']
      simp [List.getD, show k < s.length by omega, hk']
    rw [hdr, remA] at he
    ((first | with_reducible refine holds_of_ex X 400 _ _ _ ?_ | skip); simp (maxSteps := 1000000) only [push_cast, reduceCtorEq, Nat.reduceAdd, Nat.reduceMul, Nat.reduceSub, Nat.reduceBEq, Nat.reduceGT, Nat.reduceLT, Int.toNat_zero, Nat.reduceLeDiff, Int.reduceEq, Int.reduceLT, Int.reduceLE, hP, hΓ, hL, hfin, String.reduceEq, not_false_eq_true, if_true, wr_i64 ((k : Int) + 2) (by constructor <;> omega), hsl])
    refine ⟨⟨by omega, by omega⟩, ?_⟩
    ((with_reducible refine exB_split (fun h => ?_) (fun h => ?_)) <;> (try simp only [decide_eq_true_eq, decide_eq_false_iff_not, Bool.and_eq_true, Bool.or_eq_true, Bool.and_eq_false_iff, Bool.or_eq_false_iff, Bool.not_eq_true', Bool.not_eq_false', Bool.not_eq_true, Bool.not_eq_false, Int.not_lt, Int.not_le, beq_iff_eq, beq_eq_false_iff_ne, ne_eq] at h))
    · have e1 : s.getD k 0 = 40 ∧ s.getD (k + 1) 0 = 42 := by simpa using h
      rw [if_pos e1, Option.map_map] at he
      ((first | with_reducible refine holds_of_ex X 400 _ _ _ ?_ | skip); simp (maxSteps := 1000000) only [push_cast, reduceCtorEq, Nat.reduceAdd, Nat.reduceMul, Nat.reduceSub, Nat.reduceBEq, Nat.reduceGT, Nat.reduceLT, Int.toNat_zero, Nat.reduceLeDiff, Int.reduceEq, Int.reduceLT, Int.reduceLE, hP, hΓ, hL, hfin, String.reduceEq, not_false_eq_true, if_true, wr_i64 ((k : Int) + 2) (by constructor <;> omega), wr_i64 ((d : Int) + 1) (by constructor <;> omega)])
      refine ⟨⟨(d + 1, k + 2), by omega, by omega, fun h => by omega, ?_⟩, by simp only; omega, ?_⟩
      · rw [he]; congr 1; funext n; simp only [Function.comp]; omega
      exact Into.sameA
    have e1 : ¬ (s.getD k 0 = 40 ∧ s.getD (k + 1) 0 = 42) := by simpa using h
    have hd0 : d ≠ 0 := by
      intro e0
      have := h0 e0
      subst this
      apply e1
      match s, h1 with
      | a :: b :: r, h1 => simpa [rem?] using h1
    rw [if_neg e1] at he
    ((first | with_reducible refine holds_of_ex X 400 _ _ _ ?_ | skip); simp (maxSteps := 1000000) only [push_cast, reduceCtorEq, Nat.reduceAdd, Nat.reduceMul, Nat.reduceSub, Nat.reduceBEq, Nat.reduceGT, Nat.reduceLT, Int.toNat_zero, Nat.reduceLeDiff, Int.reduceEq, Int.reduceLT, Int.reduceLE, hP, hΓ, hL, hfin, String.reduceEq, not_false_eq_true, if_true])
    ((with_reducible refine exB_split (fun h => ?_) (fun h => ?_)) <;> (try simp only [decide_eq_true_eq, decide_eq_false_iff_not, Bool.and_eq_true, Bool.or_eq_true, Bool.and_eq_false_iff, Bool.or_eq_false_iff, Bool.not_eq_true', Bool.not_eq_false', Bool.not_eq_true, Bool.not_eq_false, Int.not_lt, Int.not_le, beq_iff_eq, beq_eq_false_iff_ne, ne_eq] at h))
    · have e2 : s.getD k 0 = 42 ∧ s.getD (k + 1) 0 = 41 := by simpa using h
      rw [if_pos e2] at he
      ((first | with_reducible refine holds_of_ex X 400 _ _ _ ?_ | skip); simp (maxSteps := 1000000) only [push_cast, reduceCtorEq, Nat.reduceAdd, Nat.reduceMul, Nat.reduceSub, Nat.reduceBEq, Nat.reduceGT, Nat.reduceLT, Int.toNat_zero, Nat.reduceLeDiff, Int.reduceEq, Int.reduceLT, Int.reduceLE, hP, hΓ, hL, hfin, String.reduceEq, not_false_eq_true, if_true, wr_i64 ((k : Int) + 2) (by constructor <;> omega), wr_i64 ((d : Int) - 1) (by constructor <;> omega)])
      ((with_reducible refine exB_split (fun h => ?_) (fun h => ?_)) <;> (try simp only [decide_eq_true_eq, decide_eq_false_iff_not, Bool.and_eq_true, Bool.or_eq_true, Bool.and_eq_false_iff, Bool.or_eq_false_iff, Bool.not_eq_true', Bool.not_eq_false', Bool.not_eq_true, Bool.not_eq_false, Int.not_lt, Int.not_le, beq_iff_eq, beq_eq_false_iff_ne, ne_eq] at h))
      · have hd1 : d = 1 := by omega
        rw [if_pos hd1] at he
        ((first | with_reducible refine holds_of_ex X 400 _ _ _ ?_ | skip); simp (maxSteps := 1000000) only [push_cast, reduceCtorEq, Nat.reduceAdd, Nat.reduceMul, Nat.reduceSub, Nat.reduceBEq, Nat.reduceGT, Nat.reduceLT, Int.toNat_zero, Nat.reduceLeDiff, Int.reduceEq, Int.reduceLT, Int.reduceLE, hP, hΓ, hL, hfin, String.reduceEq, not_false_eq_true, if_true])
        ((with_reducible refine exB_split (fun h => ?_) (fun h => ?_)) <;> (try simp only [decide_eq_true_eq, decide_eq_false_iff_not, Bool.and_eq_true, Bool.or_eq_true, Bool.and_eq_false_iff, Bool.or_eq_false_iff, Bool.not_eq_true', Bool.not_eq_false', Bool.not_eq_true, Bool.not_eq_false, Int.not_lt, Int.not_le, beq_iff_eq, beq_eq_false_iff_ne, ne_eq] at h))
        · omega
        ((first | with_reducible refine holds_of_ex X 400 _ _ _ ?_ | skip); simp (maxSteps := 1000000) only [push_cast, reduceCtorEq, Nat.reduceAdd, Nat.reduceMul, Nat.reduceSub, Nat.reduceBEq, Nat.reduceGT, Nat.reduceLT, Int.toNat_zero, Nat.reduceLeDiff, Int.reduceEq, Int.reduceLT, Int.reduceLE, hP, hΓ, hL, hfin, String.reduceEq, not_false_eq_true, if_true])
        rw [show remN s = k + 2 by rw [remN, he]; simp; omega]
        exact Into.sameA
      · rw [if_neg (by omega), Option.map_map] at he
        ((first | with_reducible refine holds_of_ex X 400 _ _ _ ?_ | skip); simp (maxSteps := 1000000) only [push_cast, reduceCtorEq, Nat.reduceAdd, Nat.reduceMul, Nat.reduceSub, Nat.reduceBEq, Nat.reduceGT, Nat.reduceLT, Int.toNat_zero, Nat.reduceLeDiff, Int.reduceEq, Int.reduceLT, Int.reduceLE, hP, hΓ, hL, hfin, String.reduceEq, not_false_eq_true, if_true])
        refine ⟨⟨(d - 1, k + 2), by omega, by omega, fun h => by omega, ?_⟩, by simp only; omega, ?_⟩
        · rw [he]; congr 1; funext n; simp only [Function.comp]; omega
        simp only [show ((d - 1 : Nat) : Int) = (d : Int) - 1 by omega]
        exact Into.sameA
    · have e2 : ¬ (s.getD k 0 = 42 ∧ s.getD (k + 1) 0 = 41) := by simpa using h
      rw [if_neg e2, Option.map_map] at he
      ((first | with_reducible refine holds_of_ex X 400 _ _ _ ?_ | skip); simp (maxSteps := 1000000) only [push_cast, reduceCtorEq, Nat.reduceAdd, Nat.reduceMul, Nat.reduceSub, Nat.reduceBEq, Nat.reduceGT, Nat.reduceLT, Int.toNat_zero, Nat.reduceLeDiff, Int.reduceEq, Int.reduceLT, Int.reduceLE, hP, hΓ, hL, hfin, String.reduceEq, not_false_eq_true, if_true, wr_i64 ((k : Int) + 1) (by constructor <;> omega)])
      refine ⟨⟨(d, k + 1), by omega, by omega, fun h => by omega, ?_⟩, by simp only; omega, ?_⟩
      · rw [he, List.drop_eq_getElem_cons hk']
        simp only [List.getD, List.getElem?_eq_getElem hk', Option.getD_some]
        congr 1; funext n; simp only [Function.comp]; omega
      exact Into.sameA
  · have hn : remA d (List.drop k s) = none := by
      have hl2 : (List.drop k s).length ≤ 1 := by rw [List.length_drop]; omega
      match List.drop k s, hl2 with
      | [], _ => rfl
      | [a], _ => rfl
    have hd0 : d ≠ 0 := by
      intro e0
      have := h0 e0
      subst this
      match s, h1 with
      | a :: b :: r, h1 => simp at h; omega
    rw [hn] at he
    ((first | with_reducible refine holds_of_ex X 400 _ _ _ ?_ | skip); simp (maxSteps := 1000000) only [push_cast, reduceCtorEq, Nat.reduceAdd, Nat.reduceMul, Nat.reduceSub, Nat.reduceBEq, Nat.reduceGT, Nat.reduceLT, Int.toNat_zero, Nat.reduceLeDiff, Int.reduceEq, Int.reduceLT, Int.reduceLE, hP, hΓ, hL, hfin, String.reduceEq, not_false_eq_true, if_true])
    ((with_reducible refine exB_split (fun h => ?_) (fun h => ?_)) <;> (try simp only [decide_eq_true_eq, decide_eq_false_iff_not, Bool.and_eq_true, Bool.or_eq_true, Bool.and_eq_false_iff, Bool.or_eq_false_iff, Bool.not_eq_true', Bool.not_eq_false', Bool.not_eq_true, Bool.not_eq_false, Int.not_lt, Int.not_le, beq_iff_eq, beq_eq_false_iff_ne, ne_eq] at h))
    · ((first | with_reducible refine holds_of_ex X 400 _ _ _ ?_ | skip); simp (maxSteps := 1000000) only [push_cast, reduceCtorEq, Nat.reduceAdd, Nat.reduceMul, Nat.reduceSub, Nat.reduceBEq, Nat.reduceGT, Nat.reduceLT, Int.toNat_zero, Nat.reduceLeDiff, Int.reduceEq, Int.reduceLT, Int.reduceLE, hP, hΓ, hL, hfin, String.reduceEq, not_false_eq_true, if_true])
      rw [show remN s = 0 by rw [remN, he]; rfl]
      exact Into.sameA
    · omega
theorem con14 {Γ : Env} (h : EnvOk Tryz.prog Γ)  : Con Tryz.prog 10 S14 :=
  funS_con h (fn := Tryz.f10) (by kernel_rfl) rfl (by kernel_rfl) inj14 (by first | (intro h; cases h; done) | exact fun _ _ => rfl) fun s hs => body14 Γ s hs.1 hs.2
def tkv (k : Int) (t : Bytes) (n p : Int) : AV := .agg [.int .i64 k, .str t, .int .i64 n, .int .i64 p]
def rT (s : Bytes) : AV := match tok s with
  | .ok k t n len => .tup [tkv k t n 0, .int .i64 len, .int .i64 0]
  | .bad e => .tup [tkv 0 [] 0 0, .any, .int .i64 e]
def e16 : (Bytes) → List AV := fun s => [.str s]
def p16 : (Bytes) → Prop := fun s => s ≠ [] ∧ s.length ≤ 4194304
def r16 : (Bytes) → AV := fun s => rT s
def g16 : (Bytes) → Heap := fun s => []
theorem inj16 : ∀ a b, e16 a = e16 b → a = b := by
  rintro s s' h
  simp only [e16, mi_iff, ms_iff, mb_iff, my_iff, UInt8.toNat_inj, List.cons.injEq, AV.int.injEq, AV.str.injEq, AV.bool.injEq, AV.sl.injEq, AV.agg.injEq, AV.ip.injEq, AV.fn.injEq, AV.ifc.injEq, AV.mpr.injEq, Int.natCast_inj, and_true, true_and] at h
  simp_all only
noncomputable def S16 : FSpec := funS e16 p16 r16 g16 true
theorem ps16 (s : (Bytes)) : psel e16 p16 [.str s] = (s ≠ [] ∧ s.length ≤ 4194304) := psel_at inj16 p16 s
theorem rs16 (s : (Bytes)) : rsel e16 r16 .any [.str s] = (rT s) := rsel_at inj16 r16 .any s
theorem hs16 (s : (Bytes)) : rsel e16 g16 [] [.str s] = ([]) := rsel_at inj16 g16 [] s
attribute [push_cast] S16 ps16 rs16 hs16
theorem body16 (Γ : Env) (h22 : Γ 20 = some S22) (h23 : Γ 21 = some S23) (h24 : Γ 22 = some S24) (h25 : Γ 23 = some S25) (h26 : Γ 24 = some S26) (h27 : Γ 25 = some S27) (h28 : Γ 26 = some S28) (s : Bytes) (hne : s ≠ []) (hl : s.length ≤ 4194304) : BodyOk Tryz.prog Γ Tryz.f12 (e16 s) [] (rT s) [] := by
  obtain ⟨c, r, rfl⟩ : ∃ c r, s = c :: r := by cases s with | nil => exact absurd rfl hne | cons c r => exact ⟨c, r, rfl⟩
  have hc := c.toNat_lt
  have hi : IntKind.i32.wrap (c.toNat : Int) = c.toNat := IntWalk.i32_in _ (by omega)
  have hwl := tw_len alnum (c :: r)
  have hT : rT (c :: r) = match (if lett c.toNat then tokW ((c :: r).takeWhile alnum) else if digi c.toNat then tokN ((c :: r).takeWhile alnum) else if c = 34 then tokQ r else tokS (c :: r)) with
    | .ok k t n len => .tup [tkv k t n 0, .int .i64 len, .int .i64 0]
    | .bad e => .tup [tkv 0 [] 0 0, .any, .int .i64 e] := rfl
  (intro X hP hΓ hL hfin; refine ⟨_, rfl, ?_⟩; rw [show Tryz.f12.ntmps = 72 from rfl]; rw [show Tryz.f12.results.toList = [.cell 2 29, .tmp 3, .tmp 4] from rfl] at hfin; apply holds_of_ex X 400; simp (maxSteps := 1000000) only [push_cast, reduceCtorEq, Nat.reduceAdd, Nat.reduceMul, Nat.reduceSub, Nat.reduceBEq, Nat.reduceGT, Nat.reduceLT, Int.toNat_zero, Nat.reduceLeDiff, Int.reduceEq, Int.reduceLT, Int.reduceLE, hP, hΓ, hL, hfin, String.reduceEq, not_false_eq_true, if_true, e16, h22, h23, h24, h25, h26, h27, h28, hi])
  have hrl : r.length ≤ 4194303 := by have := hl; simp only [List.length_cons] at this; omega
  refine ⟨hrl, by omega, ?_⟩
  ((with_reducible refine exB_split (fun h => ?_) (fun h => ?_)) <;> (try simp only [decide_eq_true_eq, decide_eq_false_iff_not, Bool.and_eq_true, Bool.or_eq_true, Bool.and_eq_false_iff, Bool.or_eq_false_iff, Bool.not_eq_true', Bool.not_eq_false', Bool.not_eq_true, Bool.not_eq_false, Int.not_lt, Int.not_le, beq_iff_eq, beq_eq_false_iff_ne, ne_eq] at h))
  · rw [if_pos h] at hT
    generalize (c :: r).takeWhile alnum = w at hT hwl
    ((first | with_reducible refine holds_of_ex X 400 _ _ _ ?_ | skip); simp (maxSteps := 1000000) only [push_cast, reduceCtorEq, Nat.reduceAdd, Nat.reduceMul, Nat.reduceSub, Nat.reduceBEq, Nat.reduceGT, Nat.reduceLT, Int.toNat_zero, Nat.reduceLeDiff, Int.reduceEq, Int.reduceLT, Int.reduceLE, hP, hΓ, hL, hfin, String.reduceEq, not_false_eq_true, if_true, h24])
    ((with_reducible refine exB_split (fun h => ?_) (fun h => ?_)) <;> (try simp only [decide_eq_true_eq, decide_eq_false_iff_not, Bool.and_eq_true, Bool.or_eq_true, Bool.and_eq_false_iff, Bool.or_eq_false_iff, Bool.not_eq_true', Bool.not_eq_false', Bool.not_eq_true, Bool.not_eq_false, Int.not_lt, Int.not_le, beq_iff_eq, beq_eq_false_iff_ne, ne_eq] at h))
    · rw [show tokW w = .ok 2 w 0 w.length by rw [tokW, if_pos h]] at hT
      ((first | with_reducible refine holds_of_ex X 400 _ _ _ ?_ | skip); simp (maxSteps := 1000000) only [push_cast, reduceCtorEq, Nat.reduceAdd, Nat.reduceMul, Nat.reduceSub, Nat.reduceBEq, Nat.reduceGT, Nat.reduceLT, Int.toNat_zero, Nat.reduceLeDiff, Int.reduceEq, Int.reduceLT, Int.reduceLE, hP, hΓ, hL, hfin, String.reduceEq, not_false_eq_true, if_true])
      rw [hT]; simp only [tkv]
      exact Into.keep0A
    have hk := h
    ((first | with_reducible refine holds_of_ex X 400 _ _ _ ?_ | skip); simp (maxSteps := 1000000) only [push_cast, reduceCtorEq, Nat.reduceAdd, Nat.reduceMul, Nat.reduceSub, Nat.reduceBEq, Nat.reduceGT, Nat.reduceLT, Int.toNat_zero, Nat.reduceLeDiff, Int.reduceEq, Int.reduceLT, Int.reduceLE, hP, hΓ, hL, hfin, String.reduceEq, not_false_eq_true, if_true])
    ((with_reducible refine exB_split (fun h => ?_) (fun h => ?_)) <;> (try simp only [decide_eq_true_eq, decide_eq_false_iff_not, Bool.and_eq_true, Bool.or_eq_true, Bool.and_eq_false_iff, Bool.or_eq_false_iff, Bool.not_eq_true', Bool.not_eq_false', Bool.not_eq_true, Bool.not_eq_false, Int.not_lt, Int.not_le, beq_iff_eq, beq_eq_false_iff_ne, ne_eq] at h))
    · rw [show tokW w = .bad 84 by rw [tokW, if_neg (by rw [hk]; simp), if_pos (by omega)]] at hT
      ((first | with_reducible refine holds_of_ex X 400 _ _ _ ?_ | skip); simp (maxSteps := 1000000) only [push_cast, reduceCtorEq, Nat.reduceAdd, Nat.reduceMul, Nat.reduceSub, Nat.reduceBEq, Nat.reduceGT, Nat.reduceLT, Int.toNat_zero, Nat.reduceLeDiff, Int.reduceEq, Int.reduceLT, Int.reduceLE, hP, hΓ, hL, hfin, String.reduceEq, not_false_eq_true, if_true])
      rw [hT]; simp only [tkv]
      exact Into.tup0
    · rw [show tokW w = .ok 1 w 0 w.length by rw [tokW, if_neg (by rw [hk]; simp), if_neg (by omega)]] at hT
      ((first | with_reducible refine holds_of_ex X 400 _ _ _ ?_ | skip); simp (maxSteps := 1000000) only [push_cast, reduceCtorEq, Nat.reduceAdd, Nat.reduceMul, Nat.reduceSub, Nat.reduceBEq, Nat.reduceGT, Nat.reduceLT, Int.toNat_zero, Nat.reduceLeDiff, Int.reduceEq, Int.reduceLT, Int.reduceLE, hP, hΓ, hL, hfin, String.reduceEq, not_false_eq_true, if_true])
      rw [hT]; simp only [tkv]
      exact Into.keep0A
  rw [if_neg (by rw [h]; simp)] at hT
  ((first | with_reducible refine holds_of_ex X 400 _ _ _ ?_ | skip); simp (maxSteps := 1000000) only [push_cast, reduceCtorEq, Nat.reduceAdd, Nat.reduceMul, Nat.reduceSub, Nat.reduceBEq, Nat.reduceGT, Nat.reduceLT, Int.toNat_zero, Nat.reduceLeDiff, Int.reduceEq, Int.reduceLT, Int.reduceLE, hP, hΓ, hL, hfin, String.reduceEq, not_false_eq_true, if_true, h25])
  ((with_reducible refine exB_split (fun h => ?_) (fun h => ?_)) <;> (try simp only [decide_eq_true_eq, decide_eq_false_iff_not, Bool.and_eq_true, Bool.or_eq_true, Bool.and_eq_false_iff, Bool.or_eq_false_iff, Bool.not_eq_true', Bool.not_eq_false', Bool.not_eq_true, Bool.not_eq_false, Int.not_lt, Int.not_le, beq_iff_eq, beq_eq_false_iff_ne, ne_eq] at h))
  · rw [if_pos h] at hT
    have hp : pN ((c :: r).takeWhile alnum) := by
      refine ⟨by omega, tw_all _, c, r.takeWhile alnum, ?_, h⟩
      rw [List.takeWhile_cons, if_pos (by simp [alnum, h])]
    generalize (c :: r).takeWhile alnum = w at hT hwl hp
    cases hnb : numb w with
    | none =>
      rw [show tokN w = .bad 82 by rw [tokN, hnb]] at hT
      have hr : rN w = .tup [.agg [.int .i64 0, .str [], .int .i64 0, .int .i64 0], .int .i64 82] := by rw [rN, hnb]
      ((first | with_reducible refine holds_of_ex X 400 _ _ _ ?_ | skip); simp (maxSteps := 1000000) only [push_cast, reduceCtorEq, Nat.reduceAdd, Nat.reduceMul, Nat.reduceSub, Nat.reduceBEq, Nat.reduceGT, Nat.reduceLT, Int.toNat_zero, Nat.reduceLeDiff, Int.reduceEq, Int.reduceLT, Int.reduceLE, hP, hΓ, hL, hfin, String.reduceEq, not_false_eq_true, if_true, h26, hr])
      refine ⟨hp, ?_⟩
      rw [hT]; simp only [tkv]
      exact Into.tup0
    | some x =>
      obtain ⟨k, n⟩ := x
      rw [show tokN w = .ok k [] n w.length by rw [tokN, hnb]] at hT
      have hr : rN w = .tup [.agg [.int .i64 k, .str [], .int .i64 n, .int .i64 0], .int .i64 0] := by rw [rN, hnb]
      ((first | with_reducible refine holds_of_ex X 400 _ _ _ ?_ | skip); simp (maxSteps := 1000000) only [push_cast, reduceCtorEq, Nat.reduceAdd, Nat.reduceMul, Nat.reduceSub, Nat.reduceBEq, Nat.reduceGT, Nat.reduceLT, Int.toNat_zero, Nat.reduceLeDiff, Int.reduceEq, Int.reduceLT, Int.reduceLE, hP, hΓ, hL, hfin, String.reduceEq, not_false_eq_true, if_true, h26, hr])
      refine ⟨hp, ?_⟩
      rw [hT]; simp only [tkv]
      exact Into.keep0A
  rw [if_neg (by rw [h]; simp)] at hT
  ((first | with_reducible refine holds_of_ex X 400 _ _ _ ?_ | skip); simp (maxSteps := 1000000) only [push_cast, reduceCtorEq, Nat.reduceAdd, Nat.reduceMul, Nat.reduceSub, Nat.reduceBEq, Nat.reduceGT, Nat.reduceLT, Int.toNat_zero, Nat.reduceLeDiff, Int.reduceEq, Int.reduceLT, Int.reduceLE, hP, hΓ, hL, hfin, String.reduceEq, not_false_eq_true, if_true])
  ((with_reducible refine exB_split (fun h => ?_) (fun h => ?_)) <;> (try simp only [decide_eq_true_eq, decide_eq_false_iff_not, Bool.and_eq_true, Bool.or_eq_true, Bool.and_eq_false_iff, Bool.or_eq_false_iff, Bool.not_eq_true', Bool.not_eq_false', Bool.not_eq_true, Bool.not_eq_false, Int.not_lt, Int.not_le, beq_iff_eq, beq_eq_false_iff_ne, ne_eq] at h))
  · obtain rfl : c = 34 := UInt8.toNat.inj (show c.toNat = 34 by omega)
    rw [if_pos rfl] at hT
    cases hq : quo r with
    | none =>
      rw [show tokQ r = .bad 83 by rw [tokQ, hq]] at hT
      have hs : (quo r).isSome = false := by rw [hq]; rfl
      ((first | with_reducible refine holds_of_ex X 400 _ _ _ ?_ | skip); simp (maxSteps := 1000000) only [push_cast, reduceCtorEq, Nat.reduceAdd, Nat.reduceMul, Nat.reduceSub, Nat.reduceBEq, Nat.reduceGT, Nat.reduceLT, Int.toNat_zero, Nat.reduceLeDiff, Int.reduceEq, Int.reduceLT, Int.reduceLE, hP, hΓ, hL, hfin, String.reduceEq, not_false_eq_true, if_true, h27, hs])
      refine ⟨hrl, ?_⟩
      rw [hT]; simp only [tkv]
      exact Into.tup0
    | some x =>
      have hx : cutQ r = x := by
        unfold quo at hq
        split at hq
        · exact Option.some.inj hq
        · cases hq
      rw [show tokQ r = .ok 5 x 0 (x.length + 2) by rw [tokQ, hq]] at hT
      have hs : (quo r).isSome = true := by rw [hq]; rfl
      have hxl : x.length ≤ r.length := by rw [← hx]; exact cutQ_le r
      ((first | with_reducible refine holds_of_ex X 400 _ _ _ ?_ | skip); simp (maxSteps := 1000000) only [push_cast, reduceCtorEq, Nat.reduceAdd, Nat.reduceMul, Nat.reduceSub, Nat.reduceBEq, Nat.reduceGT, Nat.reduceLT, Int.toNat_zero, Nat.reduceLeDiff, Int.reduceEq, Int.reduceLT, Int.reduceLE, hP, hΓ, hL, hfin, String.reduceEq, not_false_eq_true, if_true, h27, hs, hx, wr_i64 ((x.length : Int) + 2) (by constructor <;> omega)])
      refine ⟨hrl, ?_⟩
      rw [hT]; simp only [tkv, Int.natCast_add]
      exact Into.keep0A
  have hc34 : ¬ c = 34 := fun e => by subst e; exact h rfl
  rw [if_neg hc34] at hT
  ((first | with_reducible refine holds_of_ex X 400 _ _ _ ?_ | skip); simp (maxSteps := 1000000) only [push_cast, reduceCtorEq, Nat.reduceAdd, Nat.reduceMul, Nat.reduceSub, Nat.reduceBEq, Nat.reduceGT, Nat.reduceLT, Int.toNat_zero, Nat.reduceLeDiff, Int.reduceEq, Int.reduceLT, Int.reduceLE, hP, hΓ, hL, hfin, String.reduceEq, not_false_eq_true, if_true, h28])
  refine ⟨hrl, ?_⟩
  ((with_reducible refine exB_split (fun h => ?_) (fun h => ?_)) <;> (try simp only [decide_eq_true_eq, decide_eq_false_iff_not, Bool.and_eq_true, Bool.or_eq_true, Bool.and_eq_false_iff, Bool.or_eq_false_iff, Bool.not_eq_true', Bool.not_eq_false', Bool.not_eq_true, Bool.not_eq_false, Int.not_lt, Int.not_le, beq_iff_eq, beq_eq_false_iff_ne, ne_eq] at h))
  · rw [show tokS (c :: r) = .bad 81 by rw [tokS, if_pos h]] at hT
    ((first | with_reducible refine holds_of_ex X 400 _ _ _ ?_ | skip); simp (maxSteps := 1000000) only [push_cast, reduceCtorEq, Nat.reduceAdd, Nat.reduceMul, Nat.reduceSub, Nat.reduceBEq, Nat.reduceGT, Nat.reduceLT, Int.toNat_zero, Nat.reduceLeDiff, Int.reduceEq, Int.reduceLT, Int.reduceLE, hP, hΓ, hL, hfin, String.reduceEq, not_false_eq_true, if_true])
    rw [hT]; simp only [tkv]
    exact Into.tup0
  · rw [show tokS (c :: r) = .ok 6 (sgn (c :: r)) 0 (sgn (c :: r)).length by rw [tokS, if_neg h]] at hT
    ((first | with_reducible refine holds_of_ex X 400 _ _ _ ?_ | skip); simp (maxSteps := 1000000) only [push_cast, reduceCtorEq, Nat.reduceAdd, Nat.reduceMul, Nat.reduceSub, Nat.reduceBEq, Nat.reduceGT, Nat.reduceLT, Int.toNat_zero, Nat.reduceLeDiff, Int.reduceEq, Int.reduceLT, Int.reduceLE, hP, hΓ, hL, hfin, String.reduceEq, not_false_eq_true, if_true])
    rw [hT]; simp only [tkv]
    exact Into.keep0A
theorem con16 {Γ : Env} (h : EnvOk Tryz.prog Γ) (h22 : Γ 20 = some S22) (h23 : Γ 21 = some S23) (h24 : Γ 22 = some S24) (h25 : Γ 23 = some S25) (h26 : Γ 24 = some S26) (h27 : Γ 25 = some S27) (h28 : Γ 26 = some S28) : Con Tryz.prog 12 S16 :=
  funS_con h (fn := Tryz.f12) (by kernel_rfl) rfl (by kernel_rfl) inj16 (by first | (intro h; cases h; done) | exact fun _ _ => rfl) fun s hs => body16 Γ h22 h23 h24 h25 h26 h27 h28 s hs.1 hs.2
end Go.Proofs.YtlehfbdkjkgaeaaGreatDoor.scanDone
