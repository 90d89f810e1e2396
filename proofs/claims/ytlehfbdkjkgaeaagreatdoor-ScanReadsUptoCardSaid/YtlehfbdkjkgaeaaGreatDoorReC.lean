/- Of sources: the reference's tables and strings. Conditions stand in each. -/
import Derived.Test.YtlehfbdkjkgaeaaGreatDoorReB
namespace Go.Proofs.YtlehfbdkjkgaeaaGreatDoor.scanRef
open Go Go.Eng Go.Proofs Go.Scan Go.RowKit
set_option linter.unusedVariables false
set_option linter.unusedSimpArgs false
set_option maxRecDepth 100000
set_option maxHeartbeats 4000000

def e33 : Unit → List AV := fun _ => []
def p33 : Unit → Prop := fun _ => True
def r33 : Unit → AV := fun _ => .sl (kws.map .str) 32
def g33 : Unit → Heap := fun _ => []
theorem inj33 : ∀ a b, e33 a = e33 b → a = b := fun _ _ _ => rfl
noncomputable def S33 : FSpec := funS e33 p33 r33 g33 true
theorem ps33  : psel e33 p33 [] = (True) := psel_at inj33 p33 ()
theorem rs33  : rsel e33 r33 .any [] = (.sl (kws.map .str) 32) := rsel_at inj33 r33 .any ()
theorem hs33  : rsel e33 g33 [] [] = ([]) := rsel_at inj33 g33 [] ()
attribute [push_cast] S33 ps33 rs33 hs33
theorem body33 (Γ : Env) : BodyOk Tryz.prog Γ Tryz.f33 (e33 ()) [] (.sl (kws.map .str) 32) [] := by
  (intro X hP hΓ hL hfin; refine ⟨_, rfl, ?_⟩; rw [show Tryz.f33.ntmps = 2 from rfl]; rw [show Tryz.f33.results.toList = [.tmp 0] from rfl] at hfin; apply holds_of_ex X 400; simp (maxSteps := 1000000) only [push_cast, reduceCtorEq, Nat.reduceAdd, Nat.reduceMul, Nat.reduceSub, Nat.reduceBEq, Nat.reduceGT, Nat.reduceLT, Int.toNat_zero, Nat.reduceLeDiff, Int.reduceEq, Int.reduceLT, Int.reduceLE, hP, hΓ, hL, hfin, String.reduceEq, not_false_eq_true, if_true, e33])
  (refine IntoF.frz 0 (by simp only [push_cast, reduceCtorEq, Nat.reduceAdd, Nat.reduceMul, Nat.reduceSub, Nat.reduceBEq, Nat.reduceGT, Nat.reduceLT, Int.toNat_zero, Nat.reduceLeDiff, Int.reduceEq, Int.reduceLT, Int.reduceLE]; first | done | decide | omega) (by simp only [frzOk', frzOk, isMap, or_true, true_or, push_cast, reduceCtorEq, Nat.reduceAdd, Nat.reduceMul, Nat.reduceSub, Nat.reduceBEq, Nat.reduceGT, Nat.reduceLT, Int.toNat_zero, Nat.reduceLeDiff, Int.reduceEq, Int.reduceLT, Int.reduceLE]) ?_; simp only [push_cast, reduceCtorEq, Nat.reduceAdd, Nat.reduceMul, Nat.reduceSub, Nat.reduceBEq, Nat.reduceGT, Nat.reduceLT, Int.toNat_zero, Nat.reduceLeDiff, Int.reduceEq, Int.reduceLT, Int.reduceLE])
  simp only [kws, List.map_cons, List.map_nil]
  exact Into.keep0A
theorem con33 {Γ : Env} (h : EnvOk Tryz.prog Γ)  : Con Tryz.prog 33 S33 :=
  funS_con h (fn := Tryz.f33) (by kernel_rfl) rfl (by kernel_rfl) inj33 (by first | (intro h; cases h; done) | exact fun _ _ => rfl) fun _ _ => body33 Γ
def e49 : Unit → List AV := fun _ => []
def p49 : Unit → Prop := fun _ => True
def r49 : Unit → AV := fun _ => .sl (sgs.map .str) 26
def g49 : Unit → Heap := fun _ => []
theorem inj49 : ∀ a b, e49 a = e49 b → a = b := fun _ _ _ => rfl
noncomputable def S49 : FSpec := funS e49 p49 r49 g49 true
theorem ps49  : psel e49 p49 [] = (True) := psel_at inj49 p49 ()
theorem rs49  : rsel e49 r49 .any [] = (.sl (sgs.map .str) 26) := rsel_at inj49 r49 .any ()
theorem hs49  : rsel e49 g49 [] [] = ([]) := rsel_at inj49 g49 [] ()
attribute [push_cast] S49 ps49 rs49 hs49
theorem body49 (Γ : Env) : BodyOk Tryz.prog Γ Tryz.f49 (e49 ()) [] (.sl (sgs.map .str) 26) [] := by
  (intro X hP hΓ hL hfin; refine ⟨_, rfl, ?_⟩; rw [show Tryz.f49.ntmps = 2 from rfl]; rw [show Tryz.f49.results.toList = [.tmp 0] from rfl] at hfin; apply holds_of_ex X 400; simp (maxSteps := 1000000) only [push_cast, reduceCtorEq, Nat.reduceAdd, Nat.reduceMul, Nat.reduceSub, Nat.reduceBEq, Nat.reduceGT, Nat.reduceLT, Int.toNat_zero, Nat.reduceLeDiff, Int.reduceEq, Int.reduceLT, Int.reduceLE, hP, hΓ, hL, hfin, String.reduceEq, not_false_eq_true, if_true, e49])
  (refine IntoF.frz 0 (by simp only [push_cast, reduceCtorEq, Nat.reduceAdd, Nat.reduceMul, Nat.reduceSub, Nat.reduceBEq, Nat.reduceGT, Nat.reduceLT, Int.toNat_zero, Nat.reduceLeDiff, Int.reduceEq, Int.reduceLT, Int.reduceLE]; first | done | decide | omega) (by simp only [frzOk', frzOk, isMap, or_true, true_or, push_cast, reduceCtorEq, Nat.reduceAdd, Nat.reduceMul, Nat.reduceSub, Nat.reduceBEq, Nat.reduceGT, Nat.reduceLT, Int.toNat_zero, Nat.reduceLeDiff, Int.reduceEq, Int.reduceLT, Int.reduceLE]) ?_; simp only [push_cast, reduceCtorEq, Nat.reduceAdd, Nat.reduceMul, Nat.reduceSub, Nat.reduceBEq, Nat.reduceGT, Nat.reduceLT, Int.toNat_zero, Nat.reduceLeDiff, Int.reduceEq, Int.reduceLT, Int.reduceLE])
  simp only [sgs, sg2, sg1, List.cons_append, List.nil_append, List.map_cons, List.map_nil]
  exact Into.keep0A
theorem con49 {Γ : Env} (h : EnvOk Tryz.prog Γ)  : Con Tryz.prog 49 S49 :=
  funS_con h (fn := Tryz.f49) (by kernel_rfl) rfl (by kernel_rfl) inj49 (by first | (intro h; cases h; done) | exact fun _ _ => rfl) fun _ _ => body49 Γ
def e32 : (List Bytes) × (Nat) × (Bytes) → List AV := fun (l, n, s) => [.sl (l.map .str) n, .str s]
def p32 : (List Bytes) × (Nat) × (Bytes) → Prop := fun (l, n, s) => n = l.length ∧ n ≤ 4194304
def r32 : (List Bytes) × (Nat) × (Bytes) → AV := fun (l, n, s) => .bool (l.contains s)
def g32 : (List Bytes) × (Nat) × (Bytes) → Heap := fun (l, n, s) => []
theorem inj32 : ∀ a b, e32 a = e32 b → a = b := by
  rintro ⟨l, n, s⟩ ⟨l', n', s'⟩ h
  simp only [e32, mi_iff, ms_iff, mb_iff, my_iff, UInt8.toNat_inj, List.cons.injEq, AV.int.injEq, AV.str.injEq, AV.bool.injEq, AV.sl.injEq, AV.agg.injEq, AV.ip.injEq, AV.fn.injEq, AV.ifc.injEq, AV.mpr.injEq, Int.natCast_inj, and_true, true_and] at h
  simp_all only
noncomputable def S32 : FSpec := funS e32 p32 r32 g32 true
theorem ps32 (l : (List Bytes)) (n : (Nat)) (s : (Bytes)) : psel e32 p32 [.sl (l.map .str) n, .str s] = (n = l.length ∧ n ≤ 4194304) := psel_at inj32 p32 (l, n, s)
theorem rs32 (l : (List Bytes)) (n : (Nat)) (s : (Bytes)) : rsel e32 r32 .any [.sl (l.map .str) n, .str s] = (.bool (l.contains s)) := rsel_at inj32 r32 .any (l, n, s)
theorem hs32 (l : (List Bytes)) (n : (Nat)) (s : (Bytes)) : rsel e32 g32 [] [.sl (l.map .str) n, .str s] = ([]) := rsel_at inj32 g32 [] (l, n, s)
attribute [push_cast] S32 ps32 rs32 hs32
theorem body32 (Γ : Env) (l : List Bytes) (s : Bytes) (hl : l.length ≤ 4194304) : BodyOk Tryz.prog Γ Tryz.f32 (e32 (l, l.length, s)) [] (.bool (l.contains s)) [] := by
  (intro X hP hΓ hL hfin; refine ⟨_, rfl, ?_⟩; rw [show Tryz.f32.ntmps = 18 from rfl]; rw [show Tryz.f32.results.toList = [.tmp 4] from rfl] at hfin; apply holds_of_ex X 400; simp (maxSteps := 1000000) only [push_cast, reduceCtorEq, Nat.reduceAdd, Nat.reduceMul, Nat.reduceSub, Nat.reduceBEq, Nat.reduceGT, Nat.reduceLT, Int.toNat_zero, Nat.reduceLeDiff, Int.reduceEq, Int.reduceLT, Int.reduceLE, hP, hΓ, hL, hfin, String.reduceEq, not_false_eq_true, if_true, e32])
  refine Holds.loopM (ι := {k : Nat // k ≤ l.length ∧ ∀ i < k, l.getD i default ≠ s}) [true, true, false, false, false, false, false, false, false, false, false, false, false, false, false, false, false, false] (fun i => [(5, .int .i64 i.1)]) (fun i => []) (fun i => l.length - i.1) ⟨0, Nat.zero_le _, fun i h => absurd h (Nat.not_lt_zero i)⟩ ?_ ?_
  · (rw [hL]; simp only [push_cast, Int.natCast_zero]; exact Into.sameA)
  rintro ⟨k, hk, hno⟩
  ((first | with_reducible refine holds_of_ex X 400 _ _ _ ?_ | skip); simp (maxSteps := 1000000) only [push_cast, reduceCtorEq, Nat.reduceAdd, Nat.reduceMul, Nat.reduceSub, Nat.reduceBEq, Nat.reduceGT, Nat.reduceLT, Int.toNat_zero, Nat.reduceLeDiff, Int.reduceEq, Int.reduceLT, Int.reduceLE, hP, hΓ, hL, hfin, String.reduceEq, not_false_eq_true, if_true])
  ((with_reducible refine exB_split (fun h => ?_) (fun h => ?_)) <;> (try simp only [decide_eq_true_eq, decide_eq_false_iff_not, Bool.and_eq_true, Bool.or_eq_true, Bool.and_eq_false_iff, Bool.or_eq_false_iff, Bool.not_eq_true', Bool.not_eq_false', Bool.not_eq_true, Bool.not_eq_false, Int.not_lt, Int.not_le, beq_iff_eq, beq_eq_false_iff_ne, ne_eq] at h))
  · have hk' : k < l.length := by omega
    ((first | with_reducible refine holds_of_ex X 400 _ _ _ ?_ | skip); simp (maxSteps := 1000000) only [push_cast, reduceCtorEq, Nat.reduceAdd, Nat.reduceMul, Nat.reduceSub, Nat.reduceBEq, Nat.reduceGT, Nat.reduceLT, Int.toNat_zero, Nat.reduceLeDiff, Int.reduceEq, Int.reduceLT, Int.reduceLE, hP, hΓ, hL, hfin, String.reduceEq, not_false_eq_true, if_true, hk'])
    generalize hg : l.getD k default = x at *
    refine ⟨by omega, by omega, ?_⟩
    ((with_reducible refine exB_split (fun h => ?_) (fun h => ?_)) <;> (try simp only [decide_eq_true_eq, decide_eq_false_iff_not, Bool.and_eq_true, Bool.or_eq_true, Bool.and_eq_false_iff, Bool.or_eq_false_iff, Bool.not_eq_true', Bool.not_eq_false', Bool.not_eq_true, Bool.not_eq_false, Int.not_lt, Int.not_le, beq_iff_eq, beq_eq_false_iff_ne, ne_eq] at h))
    · have : l.contains s = true := by
        rw [List.contains_iff_mem, ← h, ← hg]; simp [List.getD, hk']
      ((first | with_reducible refine holds_of_ex X 400 _ _ _ ?_ | skip); simp (maxSteps := 1000000) only [push_cast, reduceCtorEq, Nat.reduceAdd, Nat.reduceMul, Nat.reduceSub, Nat.reduceBEq, Nat.reduceGT, Nat.reduceLT, Int.toNat_zero, Nat.reduceLeDiff, Int.reduceEq, Int.reduceLT, Int.reduceLE, hP, hΓ, hL, hfin, String.reduceEq, not_false_eq_true, if_true])
      rw [this]
      exact Into.one rfl rfl
    · have hne := h
      ((first | with_reducible refine holds_of_ex X 400 _ _ _ ?_ | skip); simp (maxSteps := 1000000) only [push_cast, reduceCtorEq, Nat.reduceAdd, Nat.reduceMul, Nat.reduceSub, Nat.reduceBEq, Nat.reduceGT, Nat.reduceLT, Int.toNat_zero, Nat.reduceLeDiff, Int.reduceEq, Int.reduceLT, Int.reduceLE, hP, hΓ, hL, hfin, String.reduceEq, not_false_eq_true, if_true, wr_i64 ((k : Int) + 1) (by constructor <;> omega)])
      refine ⟨⟨k + 1, hk', fun i hi => ?_⟩, by simp only; omega, ?_⟩
      · by_cases e : i = k
        · subst e; rw [hg]; exact hne
        · exact hno i (by omega)
      exact Into.sameA
  · obtain rfl : k = l.length := by omega
    have : l.contains s = false := by
      rw [Bool.eq_false_iff]
      intro h
      rw [List.contains_iff_mem] at h
      obtain ⟨i, hi, e⟩ := List.mem_iff_getElem.1 h
      exact hno i hi (by simp [List.getD, hi, e])
    ((first | with_reducible refine holds_of_ex X 400 _ _ _ ?_ | skip); simp (maxSteps := 1000000) only [push_cast, reduceCtorEq, Nat.reduceAdd, Nat.reduceMul, Nat.reduceSub, Nat.reduceBEq, Nat.reduceGT, Nat.reduceLT, Int.toNat_zero, Nat.reduceLeDiff, Int.reduceEq, Int.reduceLT, Int.reduceLE, hP, hΓ, hL, hfin, String.reduceEq, not_false_eq_true, if_true])
    rw [this]
    exact Into.one rfl rfl
theorem con32 {Γ : Env} (h : EnvOk Tryz.prog Γ)  : Con Tryz.prog 32 S32 :=
  funS_con h (fn := Tryz.f32) (by kernel_rfl) rfl (by kernel_rfl) inj32 (by first | (intro h; cases h; done) | exact fun _ _ => rfl) fun ⟨l, n, s⟩ h => by obtain ⟨rfl, hl⟩ := h; exact body32 Γ l s hl
theorem tw_self (p : UInt8 → Bool) : ∀ l : Bytes, l.takeWhile p = l.take (l.takeWhile p).length
  | [] => rfl
  | c :: l => by
    have ih := tw_self p l
    rw [List.takeWhile_cons]
    split
    · rw [List.length_cons, List.take_succ_cons, ← ih]
    · rfl
theorem prn_iff (c : UInt8) : prn c = true ↔ 32 ≤ (c.toNat : Int) ∧ (c.toNat : Int) ≤ 126 := by
  unfold prn; simp only [decide_eq_true_eq]; omega
def e35 : (Bytes) × (Nat) → List AV := fun (s, k) => [.str s, .int .i64 k]
def p35 : (Bytes) × (Nat) → Prop := fun (s, k) => k < s.length ∧ s.length ≤ 4194304
def r35 : (Bytes) × (Nat) → AV := fun (s, k) => .int .i64 (quoP s k)
def g35 : (Bytes) × (Nat) → Heap := fun (s, k) => []
theorem inj35 : ∀ a b, e35 a = e35 b → a = b := by
  rintro ⟨s, k⟩ ⟨s', k'⟩ h
  simp only [e35, mi_iff, ms_iff, mb_iff, my_iff, UInt8.toNat_inj, List.cons.injEq, AV.int.injEq, AV.str.injEq, AV.bool.injEq, AV.sl.injEq, AV.agg.injEq, AV.ip.injEq, AV.fn.injEq, AV.ifc.injEq, AV.mpr.injEq, Int.natCast_inj, and_true, true_and] at h
  simp_all only
noncomputable def S35 : FSpec := funS e35 p35 r35 g35 true
theorem ps35 (s : (Bytes)) (k : (Nat)) : psel e35 p35 [.str s, .int .i64 k] = (k < s.length ∧ s.length ≤ 4194304) := psel_at inj35 p35 (s, k)
theorem rs35 (s : (Bytes)) (k : (Nat)) : rsel e35 r35 .any [.str s, .int .i64 k] = (.int .i64 (quoP s k)) := rsel_at inj35 r35 .any (s, k)
theorem hs35 (s : (Bytes)) (k : (Nat)) : rsel e35 g35 [] [.str s, .int .i64 k] = ([]) := rsel_at inj35 g35 [] (s, k)
attribute [push_cast] S35 ps35 rs35 hs35
theorem body35 (Γ : Env) (s : Bytes) (k : Nat) (hk : k < s.length) (hl : s.length ≤ 4194304) : BodyOk Tryz.prog Γ Tryz.f35 (e35 (s, k)) [] (.int .i64 (quoP s k)) [] := by
  have hst := tw_step (fun x => x != 34) (s.drop (k + 1))
  have hle := tw_len (fun x => x != 34) (s.drop (k + 1))
  have hq : quo (s.drop (k + 1)) = if ((s.drop (k + 1)).takeWhile (fun x => x != 34)).length < (s.drop (k + 1)).length ∧ ((s.drop (k + 1)).takeWhile (fun x => x != 34)).length ≤ 200 ∧ ((s.drop (k + 1)).takeWhile (fun x => x != 34)).all prn = true then some ((s.drop (k + 1)).takeWhile (fun x => x != 34)) else none := rfl
  have htg : ∀ j, j < ((s.drop (k + 1)).takeWhile (fun x => x != 34)).length → ((s.drop (k + 1)).takeWhile (fun x => x != 34)).getD j 0 = s.getD (k + 1 + j) 0 := by
    intro j hj
    have h1 : (s.drop (k + 1)).takeWhile (fun x => x != 34) = (s.drop (k + 1)).take ((s.drop (k + 1)).takeWhile (fun x => x != 34)).length := by
      exact tw_self _ _
    rw [h1]
    simp only [List.getD, List.getElem?_take, hj, if_true, List.getElem?_drop]
  rw [List.length_drop] at hst hle hq
  obtain ⟨w, hw⟩ : ∃ w, w = (s.drop (k + 1)).takeWhile (fun x => x != 34) := ⟨_, rfl⟩
  rw [← hw] at hst hle hq htg
  obtain ⟨Q, hQ⟩ : ∃ Q, Q = quoP s k := ⟨_, rfl⟩
  rw [← hQ]
  have hno : ¬ (w.length < s.length - (k + 1) ∧ w.length ≤ 200 ∧ w.all prn = true) → Q = -1 := fun h => by rw [hQ, quoP, hq, if_neg h]
  have hyes : (w.length < s.length - (k + 1) ∧ w.length ≤ 200 ∧ w.all prn = true) → Q = ((k + w.length + 2 : Nat) : Int) := fun h => by rw [hQ, quoP, hq, if_pos h]
  (intro X hP hΓ hL hfin; refine ⟨_, rfl, ?_⟩; rw [show Tryz.f35.ntmps = 37 from rfl]; rw [show Tryz.f35.results.toList = [.tmp 4] from rfl] at hfin; apply holds_of_ex X 400; simp (maxSteps := 1000000) only [push_cast, reduceCtorEq, Nat.reduceAdd, Nat.reduceMul, Nat.reduceSub, Nat.reduceBEq, Nat.reduceGT, Nat.reduceLT, Int.toNat_zero, Nat.reduceLeDiff, Int.reduceEq, Int.reduceLT, Int.reduceLE, hP, hΓ, hL, hfin, String.reduceEq, not_false_eq_true, if_true, e35, wr_i64 ((k : Int) + 1) (by constructor <;> omega)])
  refine Holds.loopM (ι := {j : Nat // j ≤ w.length ∧ j ≤ 201 ∧ ∀ i < j, prn (w.getD i 0) = true}) [true, true, false, false, false, false, false, false, false, false, false, false, false, false, false, false, false, false, false, false, false, false, false, false, false, false, false, false, false, false, false, false, false, false, false, false, false] (fun i => [(5, .int .i64 ((k : Int) + 1 + i.1))]) (fun i => []) (fun i => w.length - i.1) ⟨0, Nat.zero_le _, Nat.zero_le _, fun i h => absurd h (Nat.not_lt_zero i)⟩ ?_ ?_
  · (rw [hL]; simp only [push_cast, Int.natCast_zero]; exact Into.sameA)
  rintro ⟨j, hj, hj2, hp⟩
  ((first | with_reducible refine holds_of_ex X 400 _ _ _ ?_ | skip); simp (maxSteps := 1000000) only [push_cast, reduceCtorEq, Nat.reduceAdd, Nat.reduceMul, Nat.reduceSub, Nat.reduceBEq, Nat.reduceGT, Nat.reduceLT, Int.toNat_zero, Nat.reduceLeDiff, Int.reduceEq, Int.reduceLT, Int.reduceLE, hP, hΓ, hL, hfin, String.reduceEq, not_false_eq_true, if_true, wr_i64 ((k : Int) + 1 + j - k) (by constructor <;> omega), wr_i64 ((k : Int) + 1 + j - k - 1) (by constructor <;> omega)])
  have hi : ((k : Int) + 1 + j).toNat = k + 1 + j := by omega
  have hall : (∀ i < w.length, prn (w.getD i 0) = true) → w.all prn = true := fun h => by
    rw [List.all_eq_true]
    intro x hx
    obtain ⟨i, hi, e⟩ := List.mem_iff_getElem.1 hx
    have := h i hi
    simpa [List.getD, hi, e] using this
  ((with_reducible refine exB_split (fun h => ?_) (fun h => ?_)) <;> (try simp only [decide_eq_true_eq, decide_eq_false_iff_not, Bool.and_eq_true, Bool.or_eq_true, Bool.and_eq_false_iff, Bool.or_eq_false_iff, Bool.not_eq_true', Bool.not_eq_false', Bool.not_eq_true, Bool.not_eq_false, Int.not_lt, Int.not_le, beq_iff_eq, beq_eq_false_iff_ne, ne_eq] at h))
  · have hjl : j < s.length - (k + 1) := by omega
    have hj200 : j ≤ 200 := by omega
    have hc := hst j hj hjl
    have hg : (s.drop (k + 1)).getD j 0 = s.getD (k + 1 + j) 0 := by simp [List.getD, List.getElem?_drop]
    rw [hg] at hc
    have hpj := htg j
    ((first | with_reducible refine holds_of_ex X 400 _ _ _ ?_ | skip); simp (maxSteps := 1000000) only [push_cast, reduceCtorEq, Nat.reduceAdd, Nat.reduceMul, Nat.reduceSub, Nat.reduceBEq, Nat.reduceGT, Nat.reduceLT, Int.toNat_zero, Nat.reduceLeDiff, Int.reduceEq, Int.reduceLT, Int.reduceLE, hP, hΓ, hL, hfin, String.reduceEq, not_false_eq_true, if_true, hi])
    generalize hcg : s.getD (k + 1 + j) 0 = c at *
    refine ⟨by omega, ?_⟩
    ((with_reducible refine exB_split (fun h => ?_) (fun h => ?_)) <;> (try simp only [decide_eq_true_eq, decide_eq_false_iff_not, Bool.and_eq_true, Bool.or_eq_true, Bool.and_eq_false_iff, Bool.or_eq_false_iff, Bool.not_eq_true', Bool.not_eq_false', Bool.not_eq_true, Bool.not_eq_false, Int.not_lt, Int.not_le, beq_iff_eq, beq_eq_false_iff_ne, ne_eq] at h))
    · have e34 : c = 34 := by rw [← UInt8.toNat_inj]; show c.toNat = 34; omega
      rw [e34] at hc
      have hjw : j = w.length := by have := of_decide_eq_false hc.symm; omega
      subst hjw
      have hQ2 := hyes ⟨by omega, by omega, hall hp⟩
      ((first | with_reducible refine holds_of_ex X 400 _ _ _ ?_ | skip); simp (maxSteps := 1000000) only [push_cast, reduceCtorEq, Nat.reduceAdd, Nat.reduceMul, Nat.reduceSub, Nat.reduceBEq, Nat.reduceGT, Nat.reduceLT, Int.toNat_zero, Nat.reduceLeDiff, Int.reduceEq, Int.reduceLT, Int.reduceLE, hP, hΓ, hL, hfin, String.reduceEq, not_false_eq_true, if_true, wr_i64 ((k : Int) + 1 + w.length + 1) (by constructor <;> omega)])
      rw [hQ2]
      exact Into.one (by simp only [AV.int.injEq, true_and]; omega) rfl
    · have e34 : (c != 34) = true := by
        rw [bne_iff_ne]; intro e; subst e; exact absurd rfl h
      rw [e34] at hc
      have hjw : j < w.length := of_decide_eq_true hc.symm
      have hpc := hpj hjw
      ((first | with_reducible refine holds_of_ex X 400 _ _ _ ?_ | skip); simp (maxSteps := 1000000) only [push_cast, reduceCtorEq, Nat.reduceAdd, Nat.reduceMul, Nat.reduceSub, Nat.reduceBEq, Nat.reduceGT, Nat.reduceLT, Int.toNat_zero, Nat.reduceLeDiff, Int.reduceEq, Int.reduceLT, Int.reduceLE, hP, hΓ, hL, hfin, String.reduceEq, not_false_eq_true, if_true, hi, hcg])
      refine ⟨by omega, fun _ => by omega, ?_⟩
      ((with_reducible refine exB_split (fun h => ?_) (fun h => ?_)) <;> (try simp only [decide_eq_true_eq, decide_eq_false_iff_not, Bool.and_eq_true, Bool.or_eq_true, Bool.and_eq_false_iff, Bool.or_eq_false_iff, Bool.not_eq_true', Bool.not_eq_false', Bool.not_eq_true, Bool.not_eq_false, Int.not_lt, Int.not_le, beq_iff_eq, beq_eq_false_iff_ne, ne_eq] at h))
      · have hbad : prn c = false := by rw [Bool.eq_false_iff, Ne, prn_iff]; omega
        have hQ2 := hno (fun h' => by
          have := h'.2.2
          rw [List.all_eq_true] at this
          have := this (w.getD j 0) (by simp [List.getD, hjw])
          rw [hpc, hbad] at this; cases this)
        ((first | with_reducible refine holds_of_ex X 400 _ _ _ ?_ | skip); simp (maxSteps := 1000000) only [push_cast, reduceCtorEq, Nat.reduceAdd, Nat.reduceMul, Nat.reduceSub, Nat.reduceBEq, Nat.reduceGT, Nat.reduceLT, Int.toNat_zero, Nat.reduceLeDiff, Int.reduceEq, Int.reduceLT, Int.reduceLE, hP, hΓ, hL, hfin, String.reduceEq, not_false_eq_true, if_true])
        rw [hQ2]
        exact Into.one rfl rfl
      · have hgood : prn c = true := by rw [prn_iff]; omega
        ((first | with_reducible refine holds_of_ex X 400 _ _ _ ?_ | skip); simp (maxSteps := 1000000) only [push_cast, reduceCtorEq, Nat.reduceAdd, Nat.reduceMul, Nat.reduceSub, Nat.reduceBEq, Nat.reduceGT, Nat.reduceLT, Int.toNat_zero, Nat.reduceLeDiff, Int.reduceEq, Int.reduceLT, Int.reduceLE, hP, hΓ, hL, hfin, String.reduceEq, not_false_eq_true, if_true, wr_i64 ((k : Int) + 1 + j + 1) (by constructor <;> omega)])
        refine ⟨⟨j + 1, hjw, by omega, fun i hi => ?_⟩, by simp only; omega, ?_⟩
        · by_cases e : i = j
          · subst e; rw [hpc]; exact hgood
          · exact hp i (by omega)
        simp only [Int.natCast_add, Int.natCast_one, Int.add_assoc]
        exact Into.sameA
  · have hQ2 := hno (by omega)
    ((first | with_reducible refine holds_of_ex X 400 _ _ _ ?_ | skip); simp (maxSteps := 1000000) only [push_cast, reduceCtorEq, Nat.reduceAdd, Nat.reduceMul, Nat.reduceSub, Nat.reduceBEq, Nat.reduceGT, Nat.reduceLT, Int.toNat_zero, Nat.reduceLeDiff, Int.reduceEq, Int.reduceLT, Int.reduceLE, hP, hΓ, hL, hfin, String.reduceEq, not_false_eq_true, if_true])
    rw [hQ2]
    exact Into.one rfl rfl
theorem con35 {Γ : Env} (h : EnvOk Tryz.prog Γ)  : Con Tryz.prog 35 S35 :=
  funS_con h (fn := Tryz.f35) (by kernel_rfl) rfl (by kernel_rfl) inj35 (by first | (intro h; cases h; done) | exact fun _ _ => rfl) fun ⟨s, k⟩ h => body35 Γ s k h.1 h.2
end Go.Proofs.YtlehfbdkjkgaeaaGreatDoor.scanRef
