/- Of sources: the reference's token. Conditions stand in each. -/
import Derived.Test.YtlehfbdkjkgaeaaGreatDoorReE
namespace Go.Proofs.YtlehfbdkjkgaeaaGreatDoor.scanRef
open Go Go.Eng Go.Proofs Go.Scan Go.RowKit
set_option linter.unusedVariables false
set_option linter.unusedSimpArgs false
set_option maxRecDepth 100000
set_option maxHeartbeats 4000000

/-- the token there, the place behind it; or the fault -/
def toA (s : Bytes) (k : Nat) : AV := match Go.Scan.tok (s.drop k) with
  | .ok kd t n len => .tup [tkA kd t n k, .int .i64 ((k : Int) + len), .int .i64 0]
  | .bad e => .tup [tkA 0 [] 0 0, .int .i64 0, .int .i64 e]
def e14 : (Bytes) × (Nat) → List AV := fun (s, k) => [.str s, .int .i64 k]
def p14 : (Bytes) × (Nat) → Prop := fun (s, k) => k < s.length ∧ s.length ≤ 4194304
def r14 : (Bytes) × (Nat) → AV := fun (s, k) => toA s k
def g14 : (Bytes) × (Nat) → Heap := fun (s, k) => []
theorem inj14 : ∀ a b, e14 a = e14 b → a = b := by
  rintro ⟨s, k⟩ ⟨s', k'⟩ h
  simp only [e14, mi_iff, ms_iff, mb_iff, my_iff, UInt8.toNat_inj, List.cons.injEq, AV.int.injEq, AV.str.injEq, AV.bool.injEq, AV.sl.injEq, AV.agg.injEq, AV.ip.injEq, AV.fn.injEq, AV.ifc.injEq, AV.mpr.injEq, Int.natCast_inj, and_true, true_and] at h
  simp_all only
noncomputable def S14 : FSpec := funS e14 p14 r14 g14 true
theorem ps14 (s : (Bytes)) (k : (Nat)) : psel e14 p14 [.str s, .int .i64 k] = (k < s.length ∧ s.length ≤ 4194304) := psel_at inj14 p14 (s, k)
theorem rs14 (s : (Bytes)) (k : (Nat)) : rsel e14 r14 .any [.str s, .int .i64 k] = (toA s k) := rsel_at inj14 r14 .any (s, k)
theorem hs14 (s : (Bytes)) (k : (Nat)) : rsel e14 g14 [] [.str s, .int .i64 k] = ([]) := rsel_at inj14 g14 [] (s, k)
attribute [push_cast] S14 ps14 rs14 hs14
theorem body14 (Γ : Env) (h29 : Γ 29 = some S29) (h30 : Γ 30 = some S30) (h31 : Γ 31 = some S31) (h32 : Γ 32 = some S32) (h33 : Γ 33 = some S33) (h34 : Γ 34 = some S34) (h35 : Γ 35 = some S35) (h36 : Γ 36 = some S36) (s : Bytes) (k : Nat) (hk : k < s.length) (hl : s.length ≤ 4194304) : BodyOk Tryz.prog Γ Tryz.f14 (e14 (s, k)) [] (toA s k) [] := by
  have hd := drop_c s k hk
  have hw : ((s.drop k).takeWhile alnum).length ≤ s.length - k := by have := tw_len alnum (s.drop k); rwa [List.length_drop] at this
  have hsub : List.drop k (List.take (k + ((s.drop k).takeWhile alnum).length) s) = (s.drop k).takeWhile alnum := by
    rw [List.drop_take, Nat.add_sub_cancel_left]; exact (tw_self _ _).symm
  obtain ⟨w, hwe⟩ : ∃ w, w = (s.drop k).takeWhile alnum := ⟨_, rfl⟩
  rw [← hwe] at hw hsub
  have hto : Go.Scan.tok (s.drop k) = if lett (s.getD k 0).toNat then tokW w else if digi (s.getD k 0).toNat then tokN w else if s.getD k 0 = 34 then tokQ (s.drop (k + 1)) else tokS (s.drop k) := by
    rw [hwe]; conv => lhs; rw [hd]
    rw [Go.Scan.tok, ← hd]
  have hj : ((k : Int) + w.length).toNat = k + w.length := by omega
  (intro X hP hΓ hL hfin; refine ⟨_, rfl, ?_⟩; rw [show Tryz.f14.ntmps = 105 from rfl]; rw [show Tryz.f14.results.toList = [.cell 4 29, .tmp 5, .tmp 6] from rfl] at hfin; apply holds_of_ex X 400; simp (maxSteps := 1000000) only [push_cast, reduceCtorEq, Nat.reduceAdd, Nat.reduceMul, Nat.reduceSub, Nat.reduceBEq, Nat.reduceGT, Nat.reduceLT, Int.toNat_zero, Nat.reduceLeDiff, Int.reduceEq, Int.reduceLT, Int.reduceLE, hP, hΓ, hL, hfin, String.reduceEq, not_false_eq_true, if_true, e14, h29, h30, h31, ← hwe])
  generalize hcg : s.getD k 0 = c at *
  refine ⟨⟨by omega, hl⟩, by omega, by omega, ?_⟩
  ((with_reducible refine exB_split (fun h => ?_) (fun h => ?_)) <;> (try simp only [decide_eq_true_eq, decide_eq_false_iff_not, Bool.and_eq_true, Bool.or_eq_true, Bool.and_eq_false_iff, Bool.or_eq_false_iff, Bool.not_eq_true', Bool.not_eq_false', Bool.not_eq_true, Bool.not_eq_false, Int.not_lt, Int.not_le, beq_iff_eq, beq_eq_false_iff_ne, ne_eq] at h))
  · rw [if_pos h] at hto
    have hkl : (32 : Nat) = kws.length := rfl
    ((first | with_reducible refine holds_of_ex X 400 _ _ _ ?_ | skip); simp (maxSteps := 1000000) only [push_cast, reduceCtorEq, Nat.reduceAdd, Nat.reduceMul, Nat.reduceSub, Nat.reduceBEq, Nat.reduceGT, Nat.reduceLT, Int.toNat_zero, Nat.reduceLeDiff, Int.reduceEq, Int.reduceLT, Int.reduceLE, hP, hΓ, hL, hfin, String.reduceEq, not_false_eq_true, if_true, wr_i64 ((k : Int) + w.length) (by constructor <;> omega), hj, hsub])
    refine ⟨⟨by omega, by omega⟩, ?_⟩
    (refine Holds.drawnQ (by rw [hP]; kernel_rfl) (by kernel_rfl) ?_; simp (maxSteps := 1000000) only [push_cast, reduceCtorEq, Nat.reduceAdd, Nat.reduceMul, Nat.reduceSub, Nat.reduceBEq, Nat.reduceGT, Nat.reduceLT, Int.toNat_zero, Nat.reduceLeDiff, Int.reduceEq, Int.reduceLT, Int.reduceLE, hP, hΓ, hL, hfin, String.reduceEq, not_false_eq_true, if_true, h33, h32])
    refine ⟨hkl, ?_⟩
    ((with_reducible refine exB_split (fun h => ?_) (fun h => ?_)) <;> (try simp only [decide_eq_true_eq, decide_eq_false_iff_not, Bool.and_eq_true, Bool.or_eq_true, Bool.and_eq_false_iff, Bool.or_eq_false_iff, Bool.not_eq_true', Bool.not_eq_false', Bool.not_eq_true, Bool.not_eq_false, Int.not_lt, Int.not_le, beq_iff_eq, beq_eq_false_iff_ne, ne_eq] at h))
    · have hre : toA s k = .tup [tkA 2 w 0 k, .int .i64 ((k : Int) + w.length), .int .i64 0] := by rw [toA, hto, tokW, if_pos h]
      ((first | with_reducible refine holds_of_ex X 400 _ _ _ ?_ | skip); simp (maxSteps := 1000000) only [push_cast, reduceCtorEq, Nat.reduceAdd, Nat.reduceMul, Nat.reduceSub, Nat.reduceBEq, Nat.reduceGT, Nat.reduceLT, Int.toNat_zero, Nat.reduceLeDiff, Int.reduceEq, Int.reduceLT, Int.reduceLE, hP, hΓ, hL, hfin, String.reduceEq, not_false_eq_true, if_true, wr_i64 ((k : Int) + w.length) (by constructor <;> omega)])
      rw [hre]
      exact Into.one rfl rfl
    have hnk := h
    ((first | with_reducible refine holds_of_ex X 400 _ _ _ ?_ | skip); simp (maxSteps := 1000000) only [push_cast, reduceCtorEq, Nat.reduceAdd, Nat.reduceMul, Nat.reduceSub, Nat.reduceBEq, Nat.reduceGT, Nat.reduceLT, Int.toNat_zero, Nat.reduceLeDiff, Int.reduceEq, Int.reduceLT, Int.reduceLE, hP, hΓ, hL, hfin, String.reduceEq, not_false_eq_true, if_true])
    ((with_reducible refine exB_split (fun h => ?_) (fun h => ?_)) <;> (try simp only [decide_eq_true_eq, decide_eq_false_iff_not, Bool.and_eq_true, Bool.or_eq_true, Bool.and_eq_false_iff, Bool.or_eq_false_iff, Bool.not_eq_true', Bool.not_eq_false', Bool.not_eq_true, Bool.not_eq_false, Int.not_lt, Int.not_le, beq_iff_eq, beq_eq_false_iff_ne, ne_eq] at h))
    · have hre : toA s k = .tup [tkA 0 [] 0 0, .int .i64 0, .int .i64 84] := by rw [toA, hto, tokW, if_neg (by rw [hnk]; simp), if_pos (by omega)]
      ((first | with_reducible refine holds_of_ex X 400 _ _ _ ?_ | skip); simp (maxSteps := 1000000) only [push_cast, reduceCtorEq, Nat.reduceAdd, Nat.reduceMul, Nat.reduceSub, Nat.reduceBEq, Nat.reduceGT, Nat.reduceLT, Int.toNat_zero, Nat.reduceLeDiff, Int.reduceEq, Int.reduceLT, Int.reduceLE, hP, hΓ, hL, hfin, String.reduceEq, not_false_eq_true, if_true])
      rw [hre]
      exact Into.one rfl rfl
    · have hre : toA s k = .tup [tkA 1 w 0 k, .int .i64 ((k : Int) + w.length), .int .i64 0] := by rw [toA, hto, tokW, if_neg (by rw [hnk]; simp), if_neg (by omega)]
      ((first | with_reducible refine holds_of_ex X 400 _ _ _ ?_ | skip); simp (maxSteps := 1000000) only [push_cast, reduceCtorEq, Nat.reduceAdd, Nat.reduceMul, Nat.reduceSub, Nat.reduceBEq, Nat.reduceGT, Nat.reduceLT, Int.toNat_zero, Nat.reduceLeDiff, Int.reduceEq, Int.reduceLT, Int.reduceLE, hP, hΓ, hL, hfin, String.reduceEq, not_false_eq_true, if_true, wr_i64 ((k : Int) + w.length) (by constructor <;> omega)])
      rw [hre]
      exact Into.one rfl rfl
  have hnl := h
  rw [if_neg (by rw [h]; simp)] at hto
  ((first | with_reducible refine holds_of_ex X 400 _ _ _ ?_ | skip); simp (maxSteps := 1000000) only [push_cast, reduceCtorEq, Nat.reduceAdd, Nat.reduceMul, Nat.reduceSub, Nat.reduceBEq, Nat.reduceGT, Nat.reduceLT, Int.toNat_zero, Nat.reduceLeDiff, Int.reduceEq, Int.reduceLT, Int.reduceLE, hP, hΓ, hL, hfin, String.reduceEq, not_false_eq_true, if_true])
  ((with_reducible refine exB_split (fun h => ?_) (fun h => ?_)) <;> (try simp only [decide_eq_true_eq, decide_eq_false_iff_not, Bool.and_eq_true, Bool.or_eq_true, Bool.and_eq_false_iff, Bool.or_eq_false_iff, Bool.not_eq_true', Bool.not_eq_false', Bool.not_eq_true, Bool.not_eq_false, Int.not_lt, Int.not_le, beq_iff_eq, beq_eq_false_iff_ne, ne_eq] at h))
  · rw [if_pos h] at hto
    have hwn : w ≠ [] := by
      rw [hwe, hd, List.takeWhile_cons, if_pos (by rw [alnum, h]; simp)]; simp
    have hcase : (∃ kd n, numb w = some (kd, n)) ∨ numb w = none := by
      cases numb w with
      | none => exact .inr rfl
      | some x => exact .inl ⟨x.1, x.2, rfl⟩
    rcases hcase with ⟨kd, n, hn⟩ | hn
    · have hre : toA s k = .tup [tkA kd [] n k, .int .i64 ((k : Int) + w.length), .int .i64 0] := by rw [toA, hto, tokN, hn]
      have hnu : nuA w k = .tup [tkA kd [] n k, .bool true] := by rw [nuA, hn]
      unfold tkA at hnu
      ((first | with_reducible refine holds_of_ex X 400 _ _ _ ?_ | skip); simp (maxSteps := 1000000) only [push_cast, reduceCtorEq, Nat.reduceAdd, Nat.reduceMul, Nat.reduceSub, Nat.reduceBEq, Nat.reduceGT, Nat.reduceLT, Int.toNat_zero, Nat.reduceLeDiff, Int.reduceEq, Int.reduceLT, Int.reduceLE, hP, hΓ, hL, hfin, String.reduceEq, not_false_eq_true, if_true, wr_i64 ((k : Int) + w.length) (by constructor <;> omega), hj, hsub, h34, hnu])
      refine ⟨⟨by omega, by omega⟩, ⟨hwn, by omega⟩, ?_⟩
      rw [hre]
      exact Into.one rfl rfl
    · have hre : toA s k = .tup [tkA 0 [] 0 0, .int .i64 0, .int .i64 82] := by rw [toA, hto, tokN, hn]
      have hnu : nuA w k = .tup [tkA (if w.getLast? = some 88 then 4 else 3) [] 0 k, .bool false] := by rw [nuA, hn]
      unfold tkA at hnu
      generalize (if w.getLast? = some 88 then (4 : Int) else 3) = kd at hnu
      ((first | with_reducible refine holds_of_ex X 400 _ _ _ ?_ | skip); simp (maxSteps := 1000000) only [push_cast, reduceCtorEq, Nat.reduceAdd, Nat.reduceMul, Nat.reduceSub, Nat.reduceBEq, Nat.reduceGT, Nat.reduceLT, Int.toNat_zero, Nat.reduceLeDiff, Int.reduceEq, Int.reduceLT, Int.reduceLE, hP, hΓ, hL, hfin, String.reduceEq, not_false_eq_true, if_true, wr_i64 ((k : Int) + w.length) (by constructor <;> omega), hj, hsub, h34, hnu])
      refine ⟨⟨by omega, by omega⟩, ⟨hwn, by omega⟩, ?_⟩
      rw [hre]
      exact Into.one rfl rfl
  have hnd := h
  rw [if_neg (by rw [h]; simp)] at hto
  ((first | with_reducible refine holds_of_ex X 400 _ _ _ ?_ | skip); simp (maxSteps := 1000000) only [push_cast, reduceCtorEq, Nat.reduceAdd, Nat.reduceMul, Nat.reduceSub, Nat.reduceBEq, Nat.reduceGT, Nat.reduceLT, Int.toNat_zero, Nat.reduceLeDiff, Int.reduceEq, Int.reduceLT, Int.reduceLE, hP, hΓ, hL, hfin, String.reduceEq, not_false_eq_true, if_true, hcg])
  refine ⟨by omega, ?_⟩
  ((with_reducible refine exB_split (fun h => ?_) (fun h => ?_)) <;> (try simp only [decide_eq_true_eq, decide_eq_false_iff_not, Bool.and_eq_true, Bool.or_eq_true, Bool.and_eq_false_iff, Bool.or_eq_false_iff, Bool.not_eq_true', Bool.not_eq_false', Bool.not_eq_true, Bool.not_eq_false, Int.not_lt, Int.not_le, beq_iff_eq, beq_eq_false_iff_ne, ne_eq] at h))
  · have hc : c = 34 := by rw [← UInt8.toNat_inj]; show c.toNat = 34; omega
    rw [if_pos hc] at hto
    have hquo : quo (s.drop (k + 1)) = none ∨ ∃ t, quo (s.drop (k + 1)) = some t ∧ k + t.length + 2 ≤ s.length ∧ List.drop (k + 1) (List.take (k + t.length + 1) s) = t := by
      cases hq : quo (s.drop (k + 1)) with
      | none => exact .inl rfl
      | some t =>
        refine .inr ⟨t, rfl, ?_⟩
        unfold quo at hq
        split at hq
        · rename_i hh
          cases hq
          rw [List.length_drop] at hh
          have h1 := hh.1
          refine ⟨by omega, ?_⟩
          rw [List.drop_take, show k + (List.takeWhile (fun x => x != 34) (List.drop (k + 1) s)).length + 1 - (k + 1) = (List.takeWhile (fun x => x != 34) (List.drop (k + 1) s)).length by omega]
          exact (tw_self _ _).symm
        · cases hq
    rcases hquo with hq | ⟨t, hq, ht1, ht2⟩
    · have hre : toA s k = .tup [tkA 0 [] 0 0, .int .i64 0, .int .i64 83] := by rw [toA, hto, tokQ, hq]
      have hqp : quoP s k = -1 := by rw [quoP, hq]
      ((first | with_reducible refine holds_of_ex X 400 _ _ _ ?_ | skip); simp (maxSteps := 1000000) only [push_cast, reduceCtorEq, Nat.reduceAdd, Nat.reduceMul, Nat.reduceSub, Nat.reduceBEq, Nat.reduceGT, Nat.reduceLT, Int.toNat_zero, Nat.reduceLeDiff, Int.reduceEq, Int.reduceLT, Int.reduceLE, hP, hΓ, hL, hfin, String.reduceEq, not_false_eq_true, if_true, h35, hqp])
      refine ⟨⟨by omega, hl⟩, ?_⟩
      rw [hre]
      exact Into.one rfl rfl
    · have hre : toA s k = .tup [tkA 5 t 0 k, .int .i64 ((k : Int) + ((t.length + 2 : Nat) : Int)), .int .i64 0] := by rw [toA, hto, tokQ, hq]
      have hqp : quoP s k = ((k + t.length + 2 : Nat) : Int) := by rw [quoP, hq]
      obtain ⟨E, hE⟩ : ∃ E : Nat, E = k + t.length + 2 := ⟨_, rfl⟩
      rw [← hE] at hqp
      have hi1 : ((k : Int) + 1).toNat = k + 1 := by omega
      have hi2 : ((E : Int) - 1).toNat = k + t.length + 1 := by omega
      ((first | with_reducible refine holds_of_ex X 400 _ _ _ ?_ | skip); simp (maxSteps := 1000000) only [push_cast, reduceCtorEq, Nat.reduceAdd, Nat.reduceMul, Nat.reduceSub, Nat.reduceBEq, Nat.reduceGT, Nat.reduceLT, Int.toNat_zero, Nat.reduceLeDiff, Int.reduceEq, Int.reduceLT, Int.reduceLE, hP, hΓ, hL, hfin, String.reduceEq, not_false_eq_true, if_true, h35, hqp])
      refine ⟨⟨by omega, hl⟩, ?_⟩
      ((with_reducible refine exB_split (fun h => ?_) (fun h => ?_)) <;> (try simp only [decide_eq_true_eq, decide_eq_false_iff_not, Bool.and_eq_true, Bool.or_eq_true, Bool.and_eq_false_iff, Bool.or_eq_false_iff, Bool.not_eq_true', Bool.not_eq_false', Bool.not_eq_true, Bool.not_eq_false, Int.not_lt, Int.not_le, beq_iff_eq, beq_eq_false_iff_ne, ne_eq] at h))
      · omega
      ((first | with_reducible refine holds_of_ex X 400 _ _ _ ?_ | skip); simp (maxSteps := 1000000) only [push_cast, reduceCtorEq, Nat.reduceAdd, Nat.reduceMul, Nat.reduceSub, Nat.reduceBEq, Nat.reduceGT, Nat.reduceLT, Int.toNat_zero, Nat.reduceLeDiff, Int.reduceEq, Int.reduceLT, Int.reduceLE, hP, hΓ, hL, hfin, String.reduceEq, not_false_eq_true, if_true, wr_i64 ((k : Int) + 1) (by constructor <;> omega), wr_i64 ((E : Int) - 1) (by constructor <;> omega), hi1, hi2, ht2])
      refine ⟨⟨by omega, by omega, by omega⟩, ?_⟩
      rw [hre]
      exact Into.one (by simp only [tkA, AV.tup.injEq, List.cons.injEq, AV.int.injEq, true_and, and_true]; omega) rfl
  have h34c : c ≠ 34 := by intro e; subst e; exact absurd rfl h
  rw [if_neg h34c] at hto
  ((first | with_reducible refine holds_of_ex X 400 _ _ _ ?_ | skip); simp (maxSteps := 1000000) only [push_cast, reduceCtorEq, Nat.reduceAdd, Nat.reduceMul, Nat.reduceSub, Nat.reduceBEq, Nat.reduceGT, Nat.reduceLT, Int.toNat_zero, Nat.reduceLeDiff, Int.reduceEq, Int.reduceLT, Int.reduceLE, hP, hΓ, hL, hfin, String.reduceEq, not_false_eq_true, if_true, h36])
  refine ⟨⟨by omega, hl⟩, ?_⟩
  have htl := @tok_pos (s.drop k)
  obtain ⟨z, hz⟩ : ∃ z, z = sgn (s.drop k) := ⟨_, rfl⟩
  rw [tokS, ← hz] at hto
  rw [← hz]
  ((with_reducible refine exB_split (fun h => ?_) (fun h => ?_)) <;> (try simp only [decide_eq_true_eq, decide_eq_false_iff_not, Bool.and_eq_true, Bool.or_eq_true, Bool.and_eq_false_iff, Bool.or_eq_false_iff, Bool.not_eq_true', Bool.not_eq_false', Bool.not_eq_true, Bool.not_eq_false, Int.not_lt, Int.not_le, beq_iff_eq, beq_eq_false_iff_ne, ne_eq] at h))
  · rw [if_pos h] at hto
    have hre : toA s k = .tup [tkA 0 [] 0 0, .int .i64 0, .int .i64 81] := by rw [toA, hto]
    ((first | with_reducible refine holds_of_ex X 400 _ _ _ ?_ | skip); simp (maxSteps := 1000000) only [push_cast, reduceCtorEq, Nat.reduceAdd, Nat.reduceMul, Nat.reduceSub, Nat.reduceBEq, Nat.reduceGT, Nat.reduceLT, Int.toNat_zero, Nat.reduceLeDiff, Int.reduceEq, Int.reduceLT, Int.reduceLE, hP, hΓ, hL, hfin, String.reduceEq, not_false_eq_true, if_true, ← hz])
    rw [hre]
    exact Into.one rfl rfl
  · rw [if_neg h] at hto
    have hzl := (htl hto).2
    rw [List.length_drop] at hzl
    have hre : toA s k = .tup [tkA 6 z 0 k, .int .i64 ((k : Int) + z.length), .int .i64 0] := by rw [toA, hto]
    ((first | with_reducible refine holds_of_ex X 400 _ _ _ ?_ | skip); simp (maxSteps := 1000000) only [push_cast, reduceCtorEq, Nat.reduceAdd, Nat.reduceMul, Nat.reduceSub, Nat.reduceBEq, Nat.reduceGT, Nat.reduceLT, Int.toNat_zero, Nat.reduceLeDiff, Int.reduceEq, Int.reduceLT, Int.reduceLE, hP, hΓ, hL, hfin, String.reduceEq, not_false_eq_true, if_true, ← hz])
    (refine Holds.drawn (modH [.row [.int .i64 6, .str z, .int .i64 0, .int .i64 k] 4 0]) [6] (by rw [hP]; kernel_rfl) (by kernel_rfl) (by kernel_rfl) (by first | exact ⟨_, [], rfl⟩ | exact ⟨_, _, rfl⟩ | (simp only [push_cast]; done) | exact ⟨[], by simp⟩) ?_; simp (maxSteps := 1000000) only [↓reduceIte, Option.getD_some, push_cast, reduceCtorEq, Nat.reduceAdd, Nat.reduceMul, Nat.reduceSub, Nat.reduceBEq, Nat.reduceGT, Nat.reduceLT, Int.toNat_zero, Nat.reduceLeDiff, Int.reduceEq, Int.reduceLT, Int.reduceLE, hP, hΓ, hL, hfin, String.reduceEq, not_false_eq_true, if_true, wr_i64 ((k : Int) + z.length) (by constructor <;> omega)])
    ((first | with_reducible refine holds_of_ex X 400 _ _ _ ?_ | skip); simp (maxSteps := 1000000) only [push_cast, reduceCtorEq, Nat.reduceAdd, Nat.reduceMul, Nat.reduceSub, Nat.reduceBEq, Nat.reduceGT, Nat.reduceLT, Int.toNat_zero, Nat.reduceLeDiff, Int.reduceEq, Int.reduceLT, Int.reduceLE, hP, hΓ, hL, hfin, String.reduceEq, not_false_eq_true, if_true])
    rw [hre]
    exact Into.one rfl rfl
theorem con14 {Γ : Env} (h : EnvOk Tryz.prog Γ) (h29 : Γ 29 = some S29) (h30 : Γ 30 = some S30) (h31 : Γ 31 = some S31) (h32 : Γ 32 = some S32) (h33 : Γ 33 = some S33) (h34 : Γ 34 = some S34) (h35 : Γ 35 = some S35) (h36 : Γ 36 = some S36) : Con Tryz.prog 14 S14 :=
  funS_con h (fn := Tryz.f14) (by kernel_rfl) rfl (by kernel_rfl) inj14 (by first | (intro h; cases h; done) | exact fun _ _ => rfl) fun ⟨s, k⟩ h => body14 Γ h29 h30 h31 h32 h33 h34 h35 h36 s k h.1 h.2
end Go.Proofs.YtlehfbdkjkgaeaaGreatDoor.scanRef
