/- Of sources: the reference's All. Conditions stand in each. -/
import Derived.Test.YtlehfbdkjkgaeaaGreatDoorReF
namespace Go.Proofs.YtlehfbdkjkgaeaaGreatDoor.scanRef
open Go Go.Eng Go.Proofs Go.Scan Go.RowKit
set_option linter.unusedVariables false
set_option linter.unusedSimpArgs false
set_option maxRecDepth 100000
set_option maxHeartbeats 4000000

/-- a token's cells -/
def ck (x : Tk) : List AV := [.int .i64 x.kind, .str x.text, .int .i64 x.n, .int .i64 x.pl]
instance : PureC ck := ⟨fun x => rfl, fun x => rfl⟩
instance : Width ck 4 := ⟨fun _ => rfl⟩
def okR (s : Bytes) : Prop := s.length ≤ 16384 ∧ (rd s 0).e = 0
instance (s : Bytes) : Decidable (okR s) := by unfold okR; exact inferInstance
def rB (s : Bytes) : AV := if okR s then .tup [.sl ((whole (rd s 0)).flatMap ck) (whole (rd s 0)).length, .int .i64 0, .int .i64 0] else .tup [.lit (.slice none 0 0), .int .i64 (if 16384 < s.length then 0 else (rd s 0).pl), .int .i64 (if 16384 < s.length then 80 else (rd s 0).e)]
def e5 : (Bytes) → List AV := fun s => [.str s]
def p5 : (Bytes) → Prop := fun s => s.length ≤ 4194304
def r5 : (Bytes) → AV := fun s => rB s
def g5 : (Bytes) → Heap := fun s => []
theorem inj5 : ∀ a b, e5 a = e5 b → a = b := by
  rintro s s' h
  simp only [e5, mi_iff, ms_iff, mb_iff, my_iff, UInt8.toNat_inj, List.cons.injEq, AV.int.injEq, AV.str.injEq, AV.bool.injEq, AV.sl.injEq, AV.agg.injEq, AV.ip.injEq, AV.fn.injEq, AV.ifc.injEq, AV.mpr.injEq, Int.natCast_inj, and_true, true_and] at h
  simp_all only
noncomputable def S5 : FSpec := funS e5 p5 r5 g5 true
theorem ps5 (s : (Bytes)) : psel e5 p5 [.str s] = (s.length ≤ 4194304) := psel_at inj5 p5 s
theorem rs5 (s : (Bytes)) : rsel e5 r5 .any [.str s] = (rB s) := rsel_at inj5 r5 .any s
theorem hs5 (s : (Bytes)) : rsel e5 g5 [] [.str s] = ([]) := rsel_at inj5 g5 [] s
attribute [push_cast] S5 ps5 rs5 hs5
def pre (l : List Tk) (R : Rs) : Rs := ⟨l ++ R.l, R.pl, R.e⟩
theorem rd_blP (s : Bytes) (p : Nat) : rd (s.drop p) p = if (blP s p).2 = true then (if s.drop (blP s p).1 = [] then ⟨[], (blP s p).1, 0⟩ else match Go.Scan.tok (s.drop (blP s p).1) with
      | .bad e => ⟨[], (blP s p).1, e⟩
      | .ok k t n len => (rd (s.drop ((blP s p).1 + len)) (((blP s p).1 + len : Nat) : Int)).cons ⟨k, t, n, (blP s p).1⟩) else ⟨[], (blP s p).1, 85⟩ := by
  rw [rd_bl ((s.drop p).length + 1) (s.drop p) p (Nat.lt_succ_self _)]
  simp only [blP, List.drop_drop, Int.natCast_add, Nat.add_assoc, Int.add_assoc]
  split
  · split
    · rfl
    · cases Go.Scan.tok (List.drop (p + (bl (List.drop p s)).1) s) <;> rfl
  · rfl
theorem blP_le (s : Bytes) (p : Nat) (hp : p ≤ s.length) : p ≤ (blP s p).1 ∧ (blP s p).1 ≤ s.length := by
  have := bl_le ((s.drop p).length + 1) (s.drop p) (Nat.lt_succ_self _)
  rw [List.length_drop] at this
  simp only [blP]; omega
theorem body5 (Γ : Env) (h13 : Γ 13 = some S13) (h14 : Γ 14 = some S14) (s : Bytes) (hl : s.length ≤ 4194304) : BodyOk Tryz.prog Γ Tryz.f5 (e5 s) [] (rB s) [] := by
  (intro X hP hΓ hL hfin; refine ⟨_, rfl, ?_⟩; rw [show Tryz.f5.ntmps = 49 from rfl]; rw [show Tryz.f5.results.toList = [.tmp 2, .tmp 3, .tmp 4] from rfl] at hfin; apply holds_of_ex X 400; simp (maxSteps := 1000000) only [push_cast, reduceCtorEq, Nat.reduceAdd, Nat.reduceMul, Nat.reduceSub, Nat.reduceBEq, Nat.reduceGT, Nat.reduceLT, Int.toNat_zero, Nat.reduceLeDiff, Int.reduceEq, Int.reduceLT, Int.reduceLE, hP, hΓ, hL, hfin, String.reduceEq, not_false_eq_true, if_true, e5])
  ((with_reducible refine exB_split (fun h => ?_) (fun h => ?_)) <;> (try simp only [decide_eq_true_eq, decide_eq_false_iff_not, Bool.and_eq_true, Bool.or_eq_true, Bool.and_eq_false_iff, Bool.or_eq_false_iff, Bool.not_eq_true', Bool.not_eq_false', Bool.not_eq_true, Bool.not_eq_false, Int.not_lt, Int.not_le, beq_iff_eq, beq_eq_false_iff_ne, ne_eq] at h))
  · ((first | with_reducible refine holds_of_ex X 400 _ _ _ ?_ | skip); simp (maxSteps := 1000000) only [push_cast, reduceCtorEq, Nat.reduceAdd, Nat.reduceMul, Nat.reduceSub, Nat.reduceBEq, Nat.reduceGT, Nat.reduceLT, Int.toNat_zero, Nat.reduceLeDiff, Int.reduceEq, Int.reduceLT, Int.reduceLE, hP, hΓ, hL, hfin, String.reduceEq, not_false_eq_true, if_true])
    have ho : ¬ okR s := fun h' => by have := h'.1; omega
    rw [rB, if_neg ho, if_pos (by omega), if_pos (by omega)]
    exact Into.sameA
  have h16k : s.length ≤ 16384 := by omega
  ((first | with_reducible refine holds_of_ex X 400 _ _ _ ?_ | skip); simp (maxSteps := 1000000) only [push_cast, reduceCtorEq, Nat.reduceAdd, Nat.reduceMul, Nat.reduceSub, Nat.reduceBEq, Nat.reduceGT, Nat.reduceLT, Int.toNat_zero, Nat.reduceLeDiff, Int.reduceEq, Int.reduceLT, Int.reduceLE, hP, hΓ, hL, hfin, String.reduceEq, not_false_eq_true, if_true])
  refine Holds.loopM (ι := {x : List Tk × Nat // x.2 ≤ s.length ∧ x.1.length ≤ x.2 ∧ rd s 0 = pre x.1 (rd (s.drop x.2) x.2)}) [true, false, false, false, false, false, false, false, false, false, false, false, false, false, false, false, false, false, false, false, false, false, false, false, false, false, false, false, false, false, false, false, false, false, false, false, false, false, false, false, false, false, false, false, false, false, false, false, false] (fun i => [(5, .msl 0 i.1.1.length 0 i.1.1.length), (6, .int .i64 i.1.2)]) (fun i => [.row (i.1.1.flatMap ck) 4 i.1.1.length]) (fun i => s.length - i.1.2) ⟨([], 0), Nat.zero_le _, Nat.le_refl _, rfl⟩ ?_ ?_
  · rw [hL]; simp only [push_cast, Int.natCast_zero]
    (refine IntoF.nil 5  4 rfl ?_; simp only [push_cast, reduceCtorEq, Nat.reduceAdd, Nat.reduceMul, Nat.reduceSub, Nat.reduceBEq, Nat.reduceGT, Nat.reduceLT, Int.toNat_zero, Nat.reduceLeDiff, Int.reduceEq, Int.reduceLT, Int.reduceLE])
    simp only [List.length_nil, List.flatMap_nil, Int.natCast_zero]
    exact Into.sameA
  rintro ⟨⟨l, p⟩, hp, hlp, he⟩
  simp only at hp hlp he
  ((first | with_reducible refine holds_of_ex X 400 _ _ _ ?_ | skip); simp (maxSteps := 1000000) only [push_cast, reduceCtorEq, Nat.reduceAdd, Nat.reduceMul, Nat.reduceSub, Nat.reduceBEq, Nat.reduceGT, Nat.reduceLT, Int.toNat_zero, Nat.reduceLeDiff, Int.reduceEq, Int.reduceLT, Int.reduceLE, hP, hΓ, hL, hfin, String.reduceEq, not_false_eq_true, if_true, h13])
  have hq := rd_blP s p
  obtain ⟨hb1, hb2⟩ := blP_le s p hp
  generalize blP s p = B at *
  obtain ⟨b, o⟩ := B
  simp only at hq hb1 hb2
  refine ⟨⟨hp, hl⟩, ?_⟩
  ((with_reducible refine exB_split (fun h => ?_) (fun h => ?_)) <;> (try simp only [decide_eq_true_eq, decide_eq_false_iff_not, Bool.and_eq_true, Bool.or_eq_true, Bool.and_eq_false_iff, Bool.or_eq_false_iff, Bool.not_eq_true', Bool.not_eq_false', Bool.not_eq_true, Bool.not_eq_false, Int.not_lt, Int.not_le, beq_iff_eq, beq_eq_false_iff_ne, ne_eq] at h))
  · rw [if_neg (by rw [h]; simp)] at hq
    rw [hq] at he
    have hne : (rd s 0).e = 85 := by rw [he]; rfl
    have ho : ¬ okR s := fun h' => by have := h'.2; omega
    ((first | with_reducible refine holds_of_ex X 400 _ _ _ ?_ | skip); simp (maxSteps := 1000000) only [push_cast, reduceCtorEq, Nat.reduceAdd, Nat.reduceMul, Nat.reduceSub, Nat.reduceBEq, Nat.reduceGT, Nat.reduceLT, Int.toNat_zero, Nat.reduceLeDiff, Int.reduceEq, Int.reduceLT, Int.reduceLE, hP, hΓ, hL, hfin, String.reduceEq, not_false_eq_true, if_true])
    rw [rB, if_neg ho, if_neg (by omega), if_neg (by omega), hne, show (rd s 0).pl = (b : Int) by rw [he]; rfl]
    exact Into.keep0A
  rw [if_pos h] at hq
  have hdn : s.drop b = [] ↔ s.length ≤ b := by rw [List.drop_eq_nil_iff]
  ((first | with_reducible refine holds_of_ex X 400 _ _ _ ?_ | skip); simp (maxSteps := 1000000) only [push_cast, reduceCtorEq, Nat.reduceAdd, Nat.reduceMul, Nat.reduceSub, Nat.reduceBEq, Nat.reduceGT, Nat.reduceLT, Int.toNat_zero, Nat.reduceLeDiff, Int.reduceEq, Int.reduceLT, Int.reduceLE, hP, hΓ, hL, hfin, String.reduceEq, not_false_eq_true, if_true])
  ((with_reducible refine exB_split (fun h => ?_) (fun h => ?_)) <;> (try simp only [decide_eq_true_eq, decide_eq_false_iff_not, Bool.and_eq_true, Bool.or_eq_true, Bool.and_eq_false_iff, Bool.or_eq_false_iff, Bool.not_eq_true', Bool.not_eq_false', Bool.not_eq_true, Bool.not_eq_false, Int.not_lt, Int.not_le, beq_iff_eq, beq_eq_false_iff_ne, ne_eq] at h))
  · rw [if_pos (hdn.2 (by omega))] at hq
    rw [hq] at he
    have hz : (rd s 0).e = 0 := by rw [he]; rfl
    have ho : okR s := ⟨h16k, hz⟩
    have hw : whole (rd s 0) = l ++ [fin0 (b : Int)] := by rw [he]; simp [whole, pre]
    have hcell : l.flatMap ck ++ [AV.int .i64 0, .str [], .int .i64 0, .int .i64 b] = (l ++ [fin0 (b : Int)]).flatMap ck := by simp [ck, fin0]
    ((first | with_reducible refine holds_of_ex X 400 _ _ _ ?_ | skip); simp (maxSteps := 1000000) only [push_cast, reduceCtorEq, Nat.reduceAdd, Nat.reduceMul, Nat.reduceSub, Nat.reduceBEq, Nat.reduceGT, Nat.reduceLT, Int.toNat_zero, Nat.reduceLeDiff, Int.reduceEq, Int.reduceLT, Int.reduceLE, hP, hΓ, hL, hfin, String.reduceEq, not_false_eq_true, if_true, hcell])
    refine ⟨by omega, ?_⟩
    rw [rB, if_pos ho, hw]
    have htk : List.take ((l.length + 1) * 4) (List.flatMap ck (l ++ [fin0 (b : Int)])) = List.flatMap ck (l ++ [fin0 (b : Int)]) := by
      exact List.take_of_length_le (by rw [len_fm (g := ck)]; simp)
    (refine IntoF.frz 0 (by simp only [push_cast, reduceCtorEq, Nat.reduceAdd, Nat.reduceMul, Nat.reduceSub, Nat.reduceBEq, Nat.reduceGT, Nat.reduceLT, Int.toNat_zero, Nat.reduceLeDiff, Int.reduceEq, Int.reduceLT, Int.reduceLE]; first | done | decide | omega) (by simp only [frzOk', frzOk, isMap, or_true, true_or, push_cast, reduceCtorEq, Nat.reduceAdd, Nat.reduceMul, Nat.reduceSub, Nat.reduceBEq, Nat.reduceGT, Nat.reduceLT, Int.toNat_zero, Nat.reduceLeDiff, Int.reduceEq, Int.reduceLT, Int.reduceLE]) ?_; simp only [push_cast, reduceCtorEq, Nat.reduceAdd, Nat.reduceMul, Nat.reduceSub, Nat.reduceBEq, Nat.reduceGT, Nat.reduceLT, Int.toNat_zero, Nat.reduceLeDiff, Int.reduceEq, Int.reduceLT, Int.reduceLE])
    try simp only [htk, List.length_append, List.length_cons, List.length_nil, Nat.zero_add]
    exact Into.keep0A
  rw [if_neg (by rw [hdn]; omega)] at hq
  have hbl : b < s.length := by omega
  have hcase : (∃ e, Go.Scan.tok (s.drop b) = .bad e) ∨ ∃ k t n len, Go.Scan.tok (s.drop b) = .ok k t n len := by
    cases Go.Scan.tok (s.drop b) with
    | bad e => exact .inl ⟨e, rfl⟩
    | ok k t n len => exact .inr ⟨k, t, n, len, rfl⟩
  rcases hcase with ⟨e, ht⟩ | ⟨k, t, n, len, ht⟩
  · rw [ht] at hq
    simp only at hq
    rw [hq] at he
    have hT : toA s b = .tup [tkA 0 [] 0 0, .int .i64 0, .int .i64 e] := by rw [toA, ht]
    have hbe := tok_bad ht
    have hne : (rd s 0).e = e := by rw [he]; rfl
    have ho : ¬ okR s := fun h' => by have := h'.2; omega
    ((first | with_reducible refine holds_of_ex X 400 _ _ _ ?_ | skip); simp (maxSteps := 1000000) only [push_cast, reduceCtorEq, Nat.reduceAdd, Nat.reduceMul, Nat.reduceSub, Nat.reduceBEq, Nat.reduceGT, Nat.reduceLT, Int.toNat_zero, Nat.reduceLeDiff, Int.reduceEq, Int.reduceLT, Int.reduceLE, hP, hΓ, hL, hfin, String.reduceEq, not_false_eq_true, if_true, h14, hT, tkA])
    refine ⟨⟨hbl, hl⟩, ?_⟩
    ((with_reducible refine exB_split (fun h => ?_) (fun h => ?_)) <;> (try simp only [decide_eq_true_eq, decide_eq_false_iff_not, Bool.and_eq_true, Bool.or_eq_true, Bool.and_eq_false_iff, Bool.or_eq_false_iff, Bool.not_eq_true', Bool.not_eq_false', Bool.not_eq_true, Bool.not_eq_false, Int.not_lt, Int.not_le, beq_iff_eq, beq_eq_false_iff_ne, ne_eq] at h))
    rotate_left
    · omega
    ((first | with_reducible refine holds_of_ex X 400 _ _ _ ?_ | skip); simp (maxSteps := 1000000) only [push_cast, reduceCtorEq, Nat.reduceAdd, Nat.reduceMul, Nat.reduceSub, Nat.reduceBEq, Nat.reduceGT, Nat.reduceLT, Int.toNat_zero, Nat.reduceLeDiff, Int.reduceEq, Int.reduceLT, Int.reduceLE, hP, hΓ, hL, hfin, String.reduceEq, not_false_eq_true, if_true])
    rw [rB, if_neg ho, if_neg (by omega), if_neg (by omega), hne, show (rd s 0).pl = (b : Int) by rw [he]; rfl]
    exact Into.keep0A
  · have hnp := tok_pos ht
    rw [List.length_drop] at hnp
    rw [ht] at hq
    simp only at hq
    have hT : toA s b = .tup [tkA k t n b, .int .i64 ((b : Int) + len), .int .i64 0] := by rw [toA, ht]
    ((first | with_reducible refine holds_of_ex X 400 _ _ _ ?_ | skip); simp (maxSteps := 1000000) only [push_cast, reduceCtorEq, Nat.reduceAdd, Nat.reduceMul, Nat.reduceSub, Nat.reduceBEq, Nat.reduceGT, Nat.reduceLT, Int.toNat_zero, Nat.reduceLeDiff, Int.reduceEq, Int.reduceLT, Int.reduceLE, hP, hΓ, hL, hfin, String.reduceEq, not_false_eq_true, if_true, h14, hT, tkA])
    refine ⟨⟨hbl, hl⟩, by omega, ⟨(l ++ [⟨k, t, n, (b : Int)⟩], b + len), by simp only; omega, by simp only [List.length_append, List.length_cons, List.length_nil]; omega, ?_⟩, by simp only; omega, ?_⟩
    · rw [he, hq]; simp only [pre, Rs.cons, List.append_assoc, List.cons_append, List.nil_append]
    simp only [ck, List.flatMap_append, List.flatMap_cons, List.flatMap_nil, List.append_nil, List.length_append, List.length_cons, List.length_nil, Nat.zero_add, Int.natCast_add]
    exact Into.keep1A
theorem con5 {Γ : Env} (h : EnvOk Tryz.prog Γ) (h13 : Γ 13 = some S13) (h14 : Γ 14 = some S14) : Con Tryz.prog 5 S5 :=
  funS_con h (fn := Tryz.f5) (by kernel_rfl) rfl (by kernel_rfl) inj5 (by first | (intro h; cases h; done) | exact fun _ _ => rfl) fun s h => body5 Γ h13 h14 s h
end Go.Proofs.YtlehfbdkjkgaeaaGreatDoor.scanRef
