/- Of sources: All walked. Conditions stand in each. -/
import Derived.Test.YtlehfbdkjkgaeaaGreatDoorSB
import Derived.Test.YtlehfbdkjkgaeaaGreatDoorEng21
namespace Go.Proofs.YtlehfbdkjkgaeaaGreatDoor.scanDone
open Go Go.Eng Go.Proofs Go.Scan Go.RowKit
set_option linter.unusedVariables false
set_option linter.unusedSimpArgs false
set_option maxRecDepth 100000
set_option maxHeartbeats 4000000

/-- a token's cells -/
def _root_.Go.Scan.Tk.c (x : Tk) : List AV := [.int .i64 x.kind, .str x.text, .int .i64 x.n, .int .i64 x.pl]
instance : PureC Tk.c := ⟨fun x => rfl, fun x => rfl⟩
instance : Width Tk.c 4 := ⟨fun _ => rfl⟩
theorem tk_inj (a b : Tk) (h : a.c = b.c) : a = b := by
  cases a; cases b
  simp only [Tk.c, List.cons.injEq, AV.int.injEq, AV.str.injEq, true_and, and_true] at h
  obtain ⟨rfl, rfl, rfl, rfl⟩ := h
  rfl
theorem tk_iff {xs ys : List Tk} : xs.flatMap Tk.c = ys.flatMap Tk.c ↔ xs = ys := ⟨inj_fm (n := 4) tk_inj (fun _ => rfl) (by decide), fun h => by rw [h]⟩
theorem Tk.g0 (x : Tk) (d : AV) : x.c.getD 0 d = .int .i64 x.kind := rfl
theorem Tk.g1 (x : Tk) (d : AV) : x.c.getD 1 d = .str x.text := rfl
theorem Tk.g2 (x : Tk) (d : AV) : x.c.getD 2 d = .int .i64 x.n := rfl
theorem Tk.g3 (x : Tk) (d : AV) : x.c.getD 3 d = .int .i64 x.pl := rfl
attribute [push_cast] Tk.g0 Tk.g1 Tk.g2 Tk.g3
theorem remB (s : Bytes) : (decide (2 ≤ s.length) && (s.take 2 == [40, 42])) = rem? s := by
  match s with
  | [] => rfl
  | [a] => rfl
  | a :: b :: r => simp [rem?]
/-- what All answers -/
def okS (s : Bytes) : Prop := s.length ≤ 16384 ∧ (rd s 0).e = 0
def toks (s : Bytes) : List Tk := whole (rd s 0)
instance (s : Bytes) : Decidable (okS s) := by unfold okS; exact inferInstance
def badP (s : Bytes) : Int := if 16384 < s.length then 0 else (rd s 0).pl
def badE (s : Bytes) : Int := if 16384 < s.length then 80 else (rd s 0).e
def rA (s : Bytes) : AV := if okS s then .tup [.csl 0 0 0 (toks s).length, .int .i64 0, .int .i64 0] else .tup [.lit (.slice none 0 0), .int .i64 (badP s), .int .i64 (badE s)]
def gA (s : Bytes) : Heap := if okS s then [.row ((toks s).flatMap Tk.c) 4 0] else []
def e15 : (List Tk) × (Nat) → List AV × Heap := fun (l, n) => ([.msl 0 n 0 n], [.row (l.flatMap Tk.c) 4 n])
def p15 : (List Tk) × (Nat) → Prop := fun (l, n) => n = l.length
def r15 : (List Tk) × (Nat) → AV := fun (l, n) => .csl 0 n 0 n
def g15 : (List Tk) × (Nat) → Heap := fun (l, n) => [.row (l.flatMap Tk.c) 4 n]
theorem inj15 : ∀ a b, e15 a = e15 b → a = b := by
  rintro ⟨l, n⟩ ⟨l', n'⟩ h
  simp only [e15, tk_iff, mi_iff, ms_iff, mb_iff, my_iff, UInt8.toNat_inj, Prod.mk.injEq, List.cons.injEq, AObj.row.injEq, AV.int.injEq, AV.str.injEq, AV.bool.injEq, AV.sl.injEq, AV.agg.injEq, AV.ip.injEq, AV.fn.injEq, AV.ifc.injEq, AV.mpr.injEq, AV.msl.injEq, AV.ref.injEq, Int.natCast_inj, and_true, true_and] at h
  simp_all only
noncomputable def S15 : FSpec := heapF e15 p15 r15 g15
theorem ps15 (l : (List Tk)) (n : (Nat)) : pselK e15 p15 ([.msl 0 n 0 n], [.row (l.flatMap Tk.c) 4 n]) = (n = l.length) := pselK_at inj15 p15 (l, n)
theorem rs15 (l : (List Tk)) (n : (Nat)) : rselK e15 r15 .any ([.msl 0 n 0 n], [.row (l.flatMap Tk.c) 4 n]) = (.csl 0 n 0 n) := rselK_at inj15 r15 .any (l, n)
theorem hs15 (l : (List Tk)) (n : (Nat)) : rselK e15 g15 [] ([.msl 0 n 0 n], [.row (l.flatMap Tk.c) 4 n]) = ([.row (l.flatMap Tk.c) 4 n]) := rselK_at inj15 g15 [] (l, n)
attribute [push_cast] S15 ps15 rs15 hs15
theorem body15 (Γ : Env) (l : List Tk) : BodyOk Tryz.prog Γ Tryz.f11 [.msl 0 l.length 0 l.length] [.row (l.flatMap Tk.c) 4 l.length] (.csl 0 l.length 0 l.length) [.row (l.flatMap Tk.c) 4 l.length] := by
  (intro X hP hΓ hL hfin; refine ⟨_, rfl, ?_⟩; rw [show Tryz.f11.ntmps = 9 from rfl]; rw [show Tryz.f11.results.toList = [.tmp 2] from rfl] at hfin; apply holds_of_ex X 400; simp (maxSteps := 1000000) only [push_cast, reduceCtorEq, Nat.reduceAdd, Nat.reduceMul, Nat.reduceSub, Nat.reduceBEq, Nat.reduceGT, Nat.reduceLT, Int.toNat_zero, Nat.reduceLeDiff, Int.reduceEq, Int.reduceLT, Int.reduceLE, hP, hΓ, hL, hfin, String.reduceEq, not_false_eq_true, if_true])
  refine ⟨by omega, ?_⟩
  rw [Nat.sub_zero]
  exact Into.sameA
theorem con15 {Γ : Env} (h : EnvOk Tryz.prog Γ)  : Con Tryz.prog 11 S15 :=
  heapF_con h (fn := Tryz.f11) (by kernel_rfl) rfl (by kernel_rfl) inj15 fun ⟨l, n⟩ h => by obtain rfl := h; exact body15 Γ l
def e7 : (Bytes) → List AV := fun s => [.str s]
def p7 : (Bytes) → Prop := fun s => s.length ≤ 4194304
def r7 : (Bytes) → AV := fun s => rA s
def g7 : (Bytes) → Heap := fun s => gA s
theorem inj7 : ∀ a b, e7 a = e7 b → a = b := by
  rintro s s' h
  simp only [e7, tk_iff, mi_iff, ms_iff, mb_iff, my_iff, UInt8.toNat_inj, List.cons.injEq, AV.int.injEq, AV.str.injEq, AV.bool.injEq, AV.sl.injEq, AV.agg.injEq, AV.ip.injEq, AV.fn.injEq, AV.ifc.injEq, AV.mpr.injEq, Int.natCast_inj, and_true, true_and] at h
  simp_all only
noncomputable def S7 : FSpec := funS e7 p7 r7 g7 false
theorem ps7 (s : (Bytes)) : psel e7 p7 [.str s] = (s.length ≤ 4194304) := psel_at inj7 p7 s
theorem rs7 (s : (Bytes)) : rsel e7 r7 .any [.str s] = (rA s) := rsel_at inj7 r7 .any s
theorem hs7 (s : (Bytes)) : rsel e7 g7 [] [.str s] = (gA s) := rsel_at inj7 g7 [] s
attribute [push_cast] S7 ps7 rs7 hs7
def pre (l : List Tk) (R : Rs) : Rs := ⟨l ++ R.l, R.pl, R.e⟩
theorem body7 (Γ : Env) (h12 : Γ 8 = some S12) (h13 : Γ 9 = some S13) (h14 : Γ 10 = some S14) (h15 : Γ 11 = some S15) (h16 : Γ 12 = some S16) (s : Bytes) (hl : s.length ≤ 4194304) : BodyOk Tryz.prog Γ Tryz.f4 (e7 s) [] (rA s) (gA s) := by
  (intro X hP hΓ hL hfin; refine ⟨_, rfl, ?_⟩; rw [show Tryz.f4.ntmps = 61 from rfl]; rw [show Tryz.f4.results.toList = [.tmp 2, .tmp 3, .tmp 4] from rfl] at hfin; apply holds_of_ex X 400; simp (maxSteps := 1000000) only [push_cast, reduceCtorEq, Nat.reduceAdd, Nat.reduceMul, Nat.reduceSub, Nat.reduceBEq, Nat.reduceGT, Nat.reduceLT, Int.toNat_zero, Nat.reduceLeDiff, Int.reduceEq, Int.reduceLT, Int.reduceLE, hP, hΓ, hL, hfin, String.reduceEq, not_false_eq_true, if_true, e7])
  ((with_reducible refine exB_split (fun h => ?_) (fun h => ?_)) <;> (try simp only [decide_eq_true_eq, decide_eq_false_iff_not, Bool.and_eq_true, Bool.or_eq_true, Bool.and_eq_false_iff, Bool.or_eq_false_iff, Bool.not_eq_true', Bool.not_eq_false', Bool.not_eq_true, Bool.not_eq_false, Int.not_lt, Int.not_le, beq_iff_eq, beq_eq_false_iff_ne, ne_eq] at h))
  · ((first | with_reducible refine holds_of_ex X 400 _ _ _ ?_ | skip); simp (maxSteps := 1000000) only [push_cast, reduceCtorEq, Nat.reduceAdd, Nat.reduceMul, Nat.reduceSub, Nat.reduceBEq, Nat.reduceGT, Nat.reduceLT, Int.toNat_zero, Nat.reduceLeDiff, Int.reduceEq, Int.reduceLT, Int.reduceLE, hP, hΓ, hL, hfin, String.reduceEq, not_false_eq_true, if_true])
    have ho : ¬ okS s := fun h' => by have := h'.1; omega
    rw [rA, gA, if_neg ho, if_neg ho, badP, badE, if_pos (by omega), if_pos (by omega)]
    exact Into.sameA
  have h16k : s.length ≤ 16384 := by omega
  ((first | with_reducible refine holds_of_ex X 400 _ _ _ ?_ | skip); simp (maxSteps := 1000000) only [push_cast, reduceCtorEq, Nat.reduceAdd, Nat.reduceMul, Nat.reduceSub, Nat.reduceBEq, Nat.reduceGT, Nat.reduceLT, Int.toNat_zero, Nat.reduceLeDiff, Int.reduceEq, Int.reduceLT, Int.reduceLE, hP, hΓ, hL, hfin, String.reduceEq, not_false_eq_true, if_true])
  refine Holds.loopM (ι := {x : List Tk × Nat // x.2 ≤ s.length ∧ x.1.length ≤ x.2 ∧ rd s 0 = pre x.1 (rd (s.drop x.2) x.2)}) [true, false, false, false, false, false, false, false, false, false, false, false, false, false, false, false, false, false, false, false, false, false, false, false, false, false, false, false, false, false, false, false, false, false, false, false, false, false, false, false, false, false, false, false, false, false, false, false, false, false, false, false, false, false, false, false, false, false, false, false, false] (fun i => [(5, .msl 0 i.1.1.length 0 i.1.1.length), (6, .int .i64 i.1.2)]) (fun i => [.row (i.1.1.flatMap Tk.c) 4 i.1.1.length]) (fun i => s.length - i.1.2) ⟨([], 0), Nat.zero_le _, Nat.le_refl _, rfl⟩ ?_ ?_
  · rw [hL]; simp only [push_cast, Int.natCast_zero]
    (refine IntoF.nil 5  4 rfl ?_; simp only [push_cast, reduceCtorEq, Nat.reduceAdd, Nat.reduceMul, Nat.reduceSub, Nat.reduceBEq, Nat.reduceGT, Nat.reduceLT, Int.toNat_zero, Nat.reduceLeDiff, Int.reduceEq, Int.reduceLT, Int.reduceLE])
    simp only [List.length_nil, List.flatMap_nil, Int.natCast_zero]
    exact Into.sameA
  rintro ⟨⟨l, p⟩, hp, hlp, he⟩
  simp only at hp hlp he
  have hsk := skip_len (s.drop p)
  rw [List.length_drop] at hsk
  have hd : List.drop p (List.take s.length s) = s.drop p := by simp
  have hrl : (skipB (s.drop p)).length ≤ 4194304 := by omega
  have hat : IntKind.i64.wrap ((s.length : Int) - (skipB (s.drop p)).length) = ((p + nB (s.drop p) : Nat) : Int) := by rw [wr_i64 _ (by constructor <;> omega)]; omega
  have hq := rd_eq (s.drop p) p
  have hdr : skipB (s.drop p) = s.drop (p + nB (s.drop p)) := by
    have h1 := List.takeWhile_append_dropWhile (p := Go.Scan.blank) (l := s.drop p)
    have h2 : List.drop (nB (s.drop p)) (s.drop p) = skipB (s.drop p) := by
      conv => lhs; arg 2; rw [← h1]
      exact List.drop_left
    rw [← h2, List.drop_drop]
  have hrne : skipB (s.drop p) ≠ [] → 0 < (skipB (s.drop p)).length := List.length_pos_iff.2
  ((first | with_reducible refine holds_of_ex X 400 _ _ _ ?_ | skip); simp (maxSteps := 1000000) only [push_cast, reduceCtorEq, Nat.reduceAdd, Nat.reduceMul, Nat.reduceSub, Nat.reduceBEq, Nat.reduceGT, Nat.reduceLT, Int.toNat_zero, Nat.reduceLeDiff, Int.reduceEq, Int.reduceLT, Int.reduceLE, hP, hΓ, hL, hfin, String.reduceEq, not_false_eq_true, if_true, h12, h13, hd, hat, remB])
  generalize hr : skipB (s.drop p) = r at *
  generalize hb : nB (s.drop p) = b at *
  refine ⟨⟨by omega, by omega⟩, by omega, by omega, ?_⟩
  ((with_reducible refine exB_split (fun h => ?_) (fun h => ?_)) <;> (try simp only [decide_eq_true_eq, decide_eq_false_iff_not, Bool.and_eq_true, Bool.or_eq_true, Bool.and_eq_false_iff, Bool.or_eq_false_iff, Bool.not_eq_true', Bool.not_eq_false', Bool.not_eq_true, Bool.not_eq_false, Int.not_lt, Int.not_le, beq_iff_eq, beq_eq_false_iff_ne, ne_eq] at h))
  · rw [if_pos h] at hq
    have hrem := h
    ((first | with_reducible refine holds_of_ex X 400 _ _ _ ?_ | skip); simp (maxSteps := 1000000) only [push_cast, reduceCtorEq, Nat.reduceAdd, Nat.reduceMul, Nat.reduceSub, Nat.reduceBEq, Nat.reduceGT, Nat.reduceLT, Int.toNat_zero, Nat.reduceLeDiff, Int.reduceEq, Int.reduceLT, Int.reduceLE, hP, hΓ, hL, hfin, String.reduceEq, not_false_eq_true, if_true, h14])
    refine ⟨⟨h, hrl⟩, ?_⟩
    cases hn : remA 0 r with
    | none =>
      rw [hn] at hq
      simp only at hq
      rw [hq] at he
      have e0 : remN r = 0 := by rw [remN, hn]; rfl
      simp only [e0]
      ((with_reducible refine exB_split (fun h => ?_) (fun h => ?_)) <;> (try simp only [decide_eq_true_eq, decide_eq_false_iff_not, Bool.and_eq_true, Bool.or_eq_true, Bool.and_eq_false_iff, Bool.or_eq_false_iff, Bool.not_eq_true', Bool.not_eq_false', Bool.not_eq_true, Bool.not_eq_false, Int.not_lt, Int.not_le, beq_iff_eq, beq_eq_false_iff_ne, ne_eq] at h))
      rotate_left
      · simp at h
      have hne : (rd s 0).e = 85 := by rw [he]; rfl
      have ho : ¬ okS s := fun h' => by have := h'.2; omega
      ((first | with_reducible refine holds_of_ex X 400 _ _ _ ?_ | skip); simp (maxSteps := 1000000) only [push_cast, reduceCtorEq, Nat.reduceAdd, Nat.reduceMul, Nat.reduceSub, Nat.reduceBEq, Nat.reduceGT, Nat.reduceLT, Int.toNat_zero, Nat.reduceLeDiff, Int.reduceEq, Int.reduceLT, Int.reduceLE, hP, hΓ, hL, hfin, String.reduceEq, not_false_eq_true, if_true])
      rw [rA, gA, if_neg ho, if_neg ho, badP, badE, if_neg (by omega), if_neg (by omega), hne, show (rd s 0).pl = ((p + b : Nat) : Int) by rw [he]; simp [pre]]
      exact Into.keep0A
    | some n =>
      have hnp := remA_pos _ _ _ hn
      rw [hn] at hq
      simp only at hq
      have e0 : remN r = n := by rw [remN, hn]; rfl
      simp only [e0]
      ((with_reducible refine exB_split (fun h => ?_) (fun h => ?_)) <;> (try simp only [decide_eq_true_eq, decide_eq_false_iff_not, Bool.and_eq_true, Bool.or_eq_true, Bool.and_eq_false_iff, Bool.or_eq_false_iff, Bool.not_eq_true', Bool.not_eq_false', Bool.not_eq_true, Bool.not_eq_false, Int.not_lt, Int.not_le, beq_iff_eq, beq_eq_false_iff_ne, ne_eq] at h))
      · omega
      ((first | with_reducible refine holds_of_ex X 400 _ _ _ ?_ | skip); simp (maxSteps := 1000000) only [push_cast, reduceCtorEq, Nat.reduceAdd, Nat.reduceMul, Nat.reduceSub, Nat.reduceBEq, Nat.reduceGT, Nat.reduceLT, Int.toNat_zero, Nat.reduceLeDiff, Int.reduceEq, Int.reduceLT, Int.reduceLE, hP, hΓ, hL, hfin, String.reduceEq, not_false_eq_true, if_true, wr_i64 ((p : Int) + b + n) (by constructor <;> omega)])
      refine ⟨⟨(l, p + b + n), by simp only; omega, by simp only; omega, ?_⟩, by simp only; omega, ?_⟩
      · rw [he, hq, hdr, List.drop_drop]; simp only [Int.natCast_add]
      simp only [Int.natCast_add]
      exact Into.sameA
  rw [if_neg (by rw [h]; simp)] at hq
  ((first | with_reducible refine holds_of_ex X 400 _ _ _ ?_ | skip); simp (maxSteps := 1000000) only [push_cast, reduceCtorEq, Nat.reduceAdd, Nat.reduceMul, Nat.reduceSub, Nat.reduceBEq, Nat.reduceGT, Nat.reduceLT, Int.toNat_zero, Nat.reduceLeDiff, Int.reduceEq, Int.reduceLT, Int.reduceLE, hP, hΓ, hL, hfin, String.reduceEq, not_false_eq_true, if_true])
  ((with_reducible refine exB_split (fun h => ?_) (fun h => ?_)) <;> (try simp only [decide_eq_true_eq, decide_eq_false_iff_not, Bool.and_eq_true, Bool.or_eq_true, Bool.and_eq_false_iff, Bool.or_eq_false_iff, Bool.not_eq_true', Bool.not_eq_false', Bool.not_eq_true, Bool.not_eq_false, Int.not_lt, Int.not_le, beq_iff_eq, beq_eq_false_iff_ne, ne_eq] at h))
  · rw [if_pos h] at hq
    rw [hq] at he
    have hz : (rd s 0).e = 0 := by rw [he]; rfl
    have ho : okS s := ⟨h16k, hz⟩
    have hw : toks s = l ++ [fin0 ((p + b : Nat) : Int)] := by rw [toks, he]; simp [whole, pre]
    have hcell : l.flatMap Tk.c ++ [AV.int .i64 0, .str [], .int .i64 0, .int .i64 ((p : Int) + b)] = (l ++ [fin0 ((p : Int) + b)]).flatMap Tk.c := by simp [Tk.c, fin0]
    ((first | with_reducible refine holds_of_ex X 400 _ _ _ ?_ | skip); simp (maxSteps := 1000000) only [push_cast, reduceCtorEq, Nat.reduceAdd, Nat.reduceMul, Nat.reduceSub, Nat.reduceBEq, Nat.reduceGT, Nat.reduceLT, Int.toNat_zero, Nat.reduceLeDiff, Int.reduceEq, Int.reduceLT, Int.reduceLE, hP, hΓ, hL, hfin, String.reduceEq, not_false_eq_true, if_true, h15, hcell])
    refine ⟨by omega, ?_⟩
    rw [rA, gA, if_pos ho, if_pos ho, hw]
    (refine IntoF.ver 0  0 (by simp only [push_cast, reduceCtorEq, Nat.reduceAdd, Nat.reduceMul, Nat.reduceSub, Nat.reduceBEq, Nat.reduceGT, Nat.reduceLT, Int.toNat_zero, Nat.reduceLeDiff, Int.reduceEq, Int.reduceLT, Int.reduceLE]) (by first | exact .inr (Nat.zero_le _) | (left; simp only [push_cast, reduceCtorEq, Nat.reduceAdd, Nat.reduceMul, Nat.reduceSub, Nat.reduceBEq, Nat.reduceGT, Nat.reduceLT, Int.toNat_zero, Nat.reduceLeDiff, Int.reduceEq, Int.reduceLT, Int.reduceLE]; omega) | (right; simp only [push_cast, reduceCtorEq, Nat.reduceAdd, Nat.reduceMul, Nat.reduceSub, Nat.reduceBEq, Nat.reduceGT, Nat.reduceLT, Int.toNat_zero, Nat.reduceLeDiff, Int.reduceEq, Int.reduceLT, Int.reduceLE]; omega)) ?_; simp only [push_cast, reduceCtorEq, Nat.reduceAdd, Nat.reduceMul, Nat.reduceSub, Nat.reduceBEq, Nat.reduceGT, Nat.reduceLT, Int.toNat_zero, Nat.reduceLeDiff, Int.reduceEq, Int.reduceLT, Int.reduceLE])
    exact Into.sameA
  rw [if_neg h] at hq
  have hpos := hrne h
  ((first | with_reducible refine holds_of_ex X 400 _ _ _ ?_ | skip); simp (maxSteps := 1000000) only [push_cast, reduceCtorEq, Nat.reduceAdd, Nat.reduceMul, Nat.reduceSub, Nat.reduceBEq, Nat.reduceGT, Nat.reduceLT, Int.toNat_zero, Nat.reduceLeDiff, Int.reduceEq, Int.reduceLT, Int.reduceLE, hP, hΓ, hL, hfin, String.reduceEq, not_false_eq_true, if_true])
  have hcase : (∃ e, tok r = .bad e) ∨ ∃ k t n len, tok r = .ok k t n len := by
    cases tok r with
    | bad e => exact .inl ⟨e, rfl⟩
    | ok k t n len => exact .inr ⟨k, t, n, len, rfl⟩
  rcases hcase with ⟨e, ht⟩ | ⟨k, t, n, len, ht⟩
  · rw [ht] at hq
    simp only at hq
    rw [hq] at he
    have hT : rT r = .tup [tkv 0 [] 0 0, .any, .int .i64 e] := by rw [rT, ht]
    have hbe := tok_bad ht
    have hne : (rd s 0).e = e := by rw [he]; rfl
    have ho : ¬ okS s := fun h' => by have := h'.2; omega
    ((first | with_reducible refine holds_of_ex X 400 _ _ _ ?_ | skip); simp (maxSteps := 1000000) only [push_cast, reduceCtorEq, Nat.reduceAdd, Nat.reduceMul, Nat.reduceSub, Nat.reduceBEq, Nat.reduceGT, Nat.reduceLT, Int.toNat_zero, Nat.reduceLeDiff, Int.reduceEq, Int.reduceLT, Int.reduceLE, hP, hΓ, hL, hfin, String.reduceEq, not_false_eq_true, if_true, h16, hT, tkv])
    refine ⟨⟨h, hrl⟩, ?_⟩
    ((with_reducible refine exB_split (fun h => ?_) (fun h => ?_)) <;> (try simp only [decide_eq_true_eq, decide_eq_false_iff_not, Bool.and_eq_true, Bool.or_eq_true, Bool.and_eq_false_iff, Bool.or_eq_false_iff, Bool.not_eq_true', Bool.not_eq_false', Bool.not_eq_true, Bool.not_eq_false, Int.not_lt, Int.not_le, beq_iff_eq, beq_eq_false_iff_ne, ne_eq] at h))
    rotate_left
    · omega
    ((first | with_reducible refine holds_of_ex X 400 _ _ _ ?_ | skip); simp (maxSteps := 1000000) only [push_cast, reduceCtorEq, Nat.reduceAdd, Nat.reduceMul, Nat.reduceSub, Nat.reduceBEq, Nat.reduceGT, Nat.reduceLT, Int.toNat_zero, Nat.reduceLeDiff, Int.reduceEq, Int.reduceLT, Int.reduceLE, hP, hΓ, hL, hfin, String.reduceEq, not_false_eq_true, if_true])
    rw [rA, gA, if_neg ho, if_neg ho, badP, badE, if_neg (by omega), if_neg (by omega), hne, show (rd s 0).pl = (p : Int) + b by rw [he]; rfl]
    exact Into.keep0A
  · have hnp := tok_pos ht
    rw [ht] at hq
    simp only at hq
    have hT : rT r = .tup [tkv k t n 0, .int .i64 len, .int .i64 0] := by rw [rT, ht]
    ((first | with_reducible refine holds_of_ex X 400 _ _ _ ?_ | skip); simp (maxSteps := 1000000) only [push_cast, reduceCtorEq, Nat.reduceAdd, Nat.reduceMul, Nat.reduceSub, Nat.reduceBEq, Nat.reduceGT, Nat.reduceLT, Int.toNat_zero, Nat.reduceLeDiff, Int.reduceEq, Int.reduceLT, Int.reduceLE, hP, hΓ, hL, hfin, String.reduceEq, not_false_eq_true, if_true, h16, hT, tkv, wr_i64 ((p : Int) + b + len) (by constructor <;> omega)])
    refine ⟨⟨h, hrl⟩, by omega, ⟨(l ++ [⟨k, t, n, (p : Int) + b⟩], p + b + len), by simp only; omega, by simp only [List.length_append, List.length_cons, List.length_nil]; omega, ?_⟩, by simp only; omega, ?_⟩
    · rw [he, hq, hdr, List.drop_drop]; simp only [pre, Rs.cons, List.append_assoc, List.cons_append, List.nil_append, Int.natCast_add]
    simp only [Tk.c, List.flatMap_append, List.flatMap_cons, List.flatMap_nil, List.append_nil, List.length_append, List.length_cons, List.length_nil, Nat.zero_add, Int.natCast_add]
    exact Into.keep1A
theorem con7 {Γ : Env} (h : EnvOk Tryz.prog Γ) (h12 : Γ 8 = some S12) (h13 : Γ 9 = some S13) (h14 : Γ 10 = some S14) (h15 : Γ 11 = some S15) (h16 : Γ 12 = some S16) : Con Tryz.prog 4 S7 :=
  funS_con h (fn := Tryz.f4) (by kernel_rfl) rfl (by kernel_rfl) inj7 (by first | (intro h; cases h; done) | exact fun _ _ => rfl) fun s hs => body7 Γ h12 h13 h14 h15 h16 s hs
end Go.Proofs.YtlehfbdkjkgaeaaGreatDoor.scanDone
