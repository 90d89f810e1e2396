/- Of assembly texts: words' digits are read, by the program and by the document. Conditions stand in each. Of assembly texts: blanks and remarks, by the document. Conditions stand in each. Of lines: a text cut at a letter. Conditions stand in each. Of assembly texts: a line's name and operands, by the program. Conditions stand in each. -/
import Derived.Test.YtgemeilncdmapaaGreatDoorPQ
import Derived.Lib.Bytealg
import Derived.Laws.Externs
section
namespace Go.Proofs.YtgemeilncdmapaaGreatDoor.asmDone
open Go Go.Eng Go.Proofs Go.RowKit
open Go.Asm (hexV unhL unhO)
set_option linter.unusedVariables false
set_option linter.unusedSimpArgs false
set_option maxRecDepth 100000
set_option maxHeartbeats 4000000
theorem unh_app (t r : List UInt8) (a : Nat) : unhL a (t ++ r) = (unhL a t).bind fun n => unhL n r := by
  induction t generalizing a with
  | nil => rfl
  | cons c t ih =>
    rw [List.cons_append, unhL, unhL]
    cases hexV c with
    | none => rfl
    | some d => exact ih _
theorem hexV_lt {c : UInt8} {d : Nat} (h : hexV c = some d) : d < 16 := by
  unfold hexV at h
  split at h
  · cases h; omega
  split at h
  · cases h; omega
  · cases h
theorem unh_lt (t : List UInt8) (a n : Nat) (h : unhL a t = some n) : n < (a + 1) * 16 ^ t.length := by
  induction t generalizing a with
  | nil => cases h; simp
  | cons c t ih =>
    rw [unhL] at h
    cases hc : hexV c with
    | none => rw [hc] at h; cases h
    | some d =>
      rw [hc] at h
      have h1 := ih _ h
      have hd := hexV_lt hc
      rw [List.length_cons, Nat.pow_succ]
      have h2 : (16 * a + d + 1) * 16 ^ t.length ≤ (16 * (a + 1)) * 16 ^ t.length := Nat.mul_le_mul_right _ (by omega)
      have h3 : (16 * (a + 1)) * 16 ^ t.length = (a + 1) * (16 ^ t.length * 16) := by rw [Nat.mul_comm 16 (a + 1), Nat.mul_assoc, Nat.mul_comm 16]
      omega
theorem unh_step {s : List UInt8} {k n d : Nat} (hk : k < s.length) (h : unhL 0 (s.take k) = some n) (hd : hexV (s.getD k 0) = some d) : unhL 0 (s.take (k + 1)) = some (16 * n + d) := by
  rw [show s.take (k + 1) = s.take k ++ [s.getD k 0] by rw [List.take_succ_eq_append_getElem hk]; simp [List.getD, hk], unh_app, h]
  simp only [Option.bind_some, unhL, hd]
theorem unh_bad {s : List UInt8} {k : Nat} (hk : k < s.length) (hd : hexV (s.getD k 0) = none) : unhO s = none := by
  have : unhL 0 s = none := by
    rw [show s = s.take k ++ (s.getD k 0 :: s.drop (k + 1)) by rw [List.getD_eq_getElem?_getD, List.getElem?_eq_getElem hk, Option.getD_some, ← List.drop_eq_getElem_cons hk, List.take_append_drop], unh_app]
    cases unhL 0 (s.take k) with
    | none => rfl
    | some n =>
      have e : (List.take k s ++ List.getD s k 0 :: List.drop (k + 1) s).getD k 0 = s.getD k 0 := by
        have hl : (List.take k s).length = k := by rw [List.length_take]; omega
        rw [List.getD_eq_getElem?_getD, List.getElem?_append_right (by omega), hl, Nat.sub_self]; rfl
      simp only [Option.bind_some, unhL, hd]
  unfold unhO
  split
  · rfl
  · rw [this]; rfl
def hm (n : Nat) : Int := (n : Int) % 4294967296
theorem hm0 : hm 0 = 0 := rfl
def e67 : (List UInt8) → List AV := fun s => [.str s]
def p67 : (List UInt8) → Prop := fun s => s.length ≤ 4194304
def r67 : (List UInt8) → AV := fun s => .tup [.int .u32 ((unhO s).getD 0), .int .i64 (if (unhO s).isSome then 0 else 10)]
def g67 : (List UInt8) → Heap := fun s => []
theorem inj67 : ∀ a b, e67 a = e67 b → a = b := by
  rintro s s' h
  simp only [e67, mi_iff, ms_iff, mb_iff, my_iff, UInt8.toNat_inj, List.cons.injEq, AV.int.injEq, AV.str.injEq, AV.bool.injEq, AV.sl.injEq, AV.agg.injEq, AV.ip.injEq, AV.fn.injEq, AV.ifc.injEq, AV.mpr.injEq, Int.natCast_inj, and_true, true_and] at h
  simp_all only
noncomputable def S67 : FSpec := funS e67 p67 r67 g67 true
theorem ps67 (s : (List UInt8)) : psel e67 p67 [.str s] = (s.length ≤ 4194304) := psel_at inj67 p67 s
theorem rs67 (s : (List UInt8)) : rsel e67 r67 .any [.str s] = (.tup [.int .u32 ((unhO s).getD 0), .int .i64 (if (unhO s).isSome then 0 else 10)]) := rsel_at inj67 r67 .any s
theorem hs67 (s : (List UInt8)) : rsel e67 g67 [] [.str s] = ([]) := rsel_at inj67 g67 [] s
attribute [push_cast] S67 ps67 rs67 hs67
theorem u8i (n : Int) (h : 0 ≤ n ∧ n < 256) : IntKind.u8.wrap n = n := by
  have : IntKind.u8.wrap n = n % 256 := by simp [IntKind.wrap, IntKind.bits, IntKind.signed]
  rw [this]; omega
theorem pw4 : (2 : Int) ^ min (Int.toNat 4) IntKind.u32.bits = 16 := by decide
theorem body67 (Γ : Env) (s : List UInt8) (hs : s.length ≤ 4194304) : BodyOk Tryz.prog Γ Tryz.f67 [.str s] [] (.tup [.int .u32 ((unhO s).getD 0), .int .i64 (if (unhO s).isSome then 0 else 10)]) [] := by
  (intro X hP hΓ hL hfin; refine ⟨_, rfl, ?_⟩; rw [show Tryz.f67.ntmps = 47 from rfl]; rw [show Tryz.f67.results.toList = [.tmp 2, .tmp 3] from rfl] at hfin; apply holds_of_ex X 400; simp (maxSteps := 1000000) only [push_cast, reduceCtorEq, Nat.reduceAdd, Nat.reduceMul, Nat.reduceSub, Nat.reduceBEq, Nat.reduceGT, Nat.reduceLT, Int.toNat_zero, Nat.reduceLeDiff, Int.reduceEq, Int.reduceLT, Int.reduceLE, hP, hΓ, hL, hfin, String.reduceEq, not_false_eq_true, if_true, if_false, Int.toNat_one, Bool.not_not])
  refine Holds.loopM (ι := {x : Nat × Nat // x.1 ≤ s.length ∧ unhL 0 (s.take x.1) = some x.2}) [true, false, false, false, false, false, false, false, true, false, false, false, false, false, false, false, false, false, false, false, false, false, false, false, false, false, false, false, false, false, false, false, false, false, false, false, false, false, false, false, false, false, false, false, false, false, false] (fun i => [(9, .int .i64 i.1.1), (4, .int .u32 (hm i.1.2))]) (fun i => []) (fun i => s.length - i.1.1) ⟨(0, 0), Nat.zero_le _, rfl⟩ ?_ ?_
  · (rw [hL]; simp only [push_cast, Int.natCast_zero, hm0]; exact Into.sameA)
  rintro ⟨⟨k, n⟩, hk, hn⟩
  simp only at hk hn
  ((first | with_reducible refine holds_of_ex X 400 _ _ _ ?_ | skip); simp (maxSteps := 1000000) only [push_cast, reduceCtorEq, Nat.reduceAdd, Nat.reduceMul, Nat.reduceSub, Nat.reduceBEq, Nat.reduceGT, Nat.reduceLT, Int.toNat_zero, Nat.reduceLeDiff, Int.reduceEq, Int.reduceLT, Int.reduceLE, hP, hΓ, hL, hfin, String.reduceEq, not_false_eq_true, if_true, if_false, Int.toNat_one, Bool.not_not])
  ((with_reducible refine exB_split (fun h => ?_) (fun h => ?_)) <;> (try simp only [decide_eq_true_eq, decide_eq_false_iff_not, Bool.and_eq_true, Bool.or_eq_true, Bool.and_eq_false_iff, Bool.or_eq_false_iff, Bool.not_eq_true', Bool.not_eq_false', Bool.not_eq_true, Bool.not_eq_false, Int.not_lt, Int.not_le, beq_iff_eq, beq_eq_false_iff_ne, ne_eq] at h))
  · have hk' : k < s.length := by omega
    have hc255 := (s.getD k 0).toNat_lt
    by_cases hc : hexV (s.getD k 0) = none
    · have hbad := unh_bad hk' hc
      have g1 : (decide (48 ≤ ((s.getD k 0).toNat : Int)) && decide (((s.getD k 0).toNat : Int) ≤ 57)) = false := by
        rw [Bool.eq_false_iff]; intro h; simp only [Bool.and_eq_true, decide_eq_true_eq] at h
        unfold hexV at hc; rw [if_pos (by omega)] at hc; cases hc
      have g2 : (decide (65 ≤ ((s.getD k 0).toNat : Int)) && decide (((s.getD k 0).toNat : Int) ≤ 70)) = false := by
        rw [Bool.eq_false_iff]; intro h; simp only [Bool.and_eq_true, decide_eq_true_eq] at h
        unfold hexV at hc; rw [if_neg (by omega), if_pos (by omega)] at hc; cases hc
      rw [hbad] at hfin
      ((first | with_reducible refine holds_of_ex X 400 _ _ _ ?_ | skip); simp (maxSteps := 1000000) only [push_cast, reduceCtorEq, Nat.reduceAdd, Nat.reduceMul, Nat.reduceSub, Nat.reduceBEq, Nat.reduceGT, Nat.reduceLT, Int.toNat_zero, Nat.reduceLeDiff, Int.reduceEq, Int.reduceLT, Int.reduceLE, hP, hΓ, hL, hfin, String.reduceEq, not_false_eq_true, if_true, if_false, Int.toNat_one, Bool.not_not, g1, g2])
      refine ⟨by omega, ?_⟩
      exact Into.one rfl rfl
    · obtain ⟨d, hd⟩ := Option.ne_none_iff_exists'.1 hc
      have hd16 := hexV_lt hd
      have hst := unh_step hk' hn hd
      have w1 : IntKind.u32.wrap (hm n * 16) = hm (16 * n) := by rw [u32w]; unfold hm; omega
      have w2 : ibits .or .u32 (hm (16 * n)) (d : Int) = hm (16 * n + d) := by
        unfold hm
        rw [or_add 4 (by omega) (by omega) (by omega) (by omega)]; omega
      by_cases hdg : 48 ≤ (s.getD k 0).toNat ∧ (s.getD k 0).toNat ≤ 57
      · have g1 : (decide (48 ≤ ((s.getD k 0).toNat : Int)) && decide (((s.getD k 0).toNat : Int) ≤ 57)) = true := by
          simp only [Bool.and_eq_true, decide_eq_true_eq]; omega
        have e1 : (d : Int) = ((s.getD k 0).toNat : Int) - 48 := by
          unfold hexV at hd; rw [if_pos hdg] at hd; cases hd; omega
        have w3 : IntKind.u8.wrap (((s.getD k 0).toNat : Int) - 48) = (d : Int) := by rw [← e1]; exact u8i _ (by omega)
        have w4 : IntKind.u32.wrap (d : Int) = d := u32i _ (by omega)
        ((first | with_reducible refine holds_of_ex X 400 _ _ _ ?_ | skip); simp (maxSteps := 1000000) only [push_cast, reduceCtorEq, Nat.reduceAdd, Nat.reduceMul, Nat.reduceSub, Nat.reduceBEq, Nat.reduceGT, Nat.reduceLT, Int.toNat_zero, Nat.reduceLeDiff, Int.reduceEq, Int.reduceLT, Int.reduceLE, hP, hΓ, hL, hfin, String.reduceEq, not_false_eq_true, if_true, if_false, Int.toNat_one, Bool.not_not, g1, w3, w4, pw4, w1, w2])
        refine ⟨by omega, ⟨(k + 1, 16 * n + d), hk', hst⟩, by simp only; omega, ?_⟩
        dsimp only
        rw [wr_i64 ((k : Int) + 1) (by constructor <;> omega)]
        exact Into.sameA
      · have g1 : (decide (48 ≤ ((s.getD k 0).toNat : Int)) && decide (((s.getD k 0).toNat : Int) ≤ 57)) = false := by
          rw [Bool.eq_false_iff]; intro h; simp only [Bool.and_eq_true, decide_eq_true_eq] at h; omega
        have hl : 65 ≤ (s.getD k 0).toNat ∧ (s.getD k 0).toNat ≤ 70 := by
          unfold hexV at hd; rw [if_neg hdg] at hd
          split at hd
          · assumption
          · cases hd
        have g2 : (decide (65 ≤ ((s.getD k 0).toNat : Int)) && decide (((s.getD k 0).toNat : Int) ≤ 70)) = true := by
          simp only [Bool.and_eq_true, decide_eq_true_eq]; omega
        have e1 : (d : Int) = ((s.getD k 0).toNat : Int) - 55 := by
          unfold hexV at hd; rw [if_neg hdg, if_pos hl] at hd; cases hd; omega
        have w3 : IntKind.u8.wrap (((s.getD k 0).toNat : Int) - 55) = (d : Int) := by rw [← e1]; exact u8i _ (by omega)
        have w4 : IntKind.u32.wrap (d : Int) = d := u32i _ (by omega)
        ((first | with_reducible refine holds_of_ex X 400 _ _ _ ?_ | skip); simp (maxSteps := 1000000) only [push_cast, reduceCtorEq, Nat.reduceAdd, Nat.reduceMul, Nat.reduceSub, Nat.reduceBEq, Nat.reduceGT, Nat.reduceLT, Int.toNat_zero, Nat.reduceLeDiff, Int.reduceEq, Int.reduceLT, Int.reduceLE, hP, hΓ, hL, hfin, String.reduceEq, not_false_eq_true, if_true, if_false, Int.toNat_one, Bool.not_not, g1, g2, w3, w4, pw4, w1, w2])
        refine ⟨by omega, ⟨(k + 1, 16 * n + d), hk', hst⟩, by simp only; omega, ?_⟩
        dsimp only
        rw [wr_i64 ((k : Int) + 1) (by constructor <;> omega)]
        exact Into.sameA
  · obtain rfl : k = s.length := by omega
    rw [List.take_length] at hn
    by_cases hq : s = [] ∨ 8 < s.length
    · have hb : (s == [] || decide (8 < ((s.length : Nat) : Int))) = true := by
        simp only [Bool.or_eq_true, beq_iff_eq, decide_eq_true_eq]
        rcases hq with h | h
        · exact .inl h
        · exact .inr (by omega)
      have e : unhO s = none := by rw [unhO, if_pos hq]
      rw [e] at hfin
      ((first | with_reducible refine holds_of_ex X 400 _ _ _ ?_ | skip); simp (maxSteps := 1000000) only [push_cast, reduceCtorEq, Nat.reduceAdd, Nat.reduceMul, Nat.reduceSub, Nat.reduceBEq, Nat.reduceGT, Nat.reduceLT, Int.toNat_zero, Nat.reduceLeDiff, Int.reduceEq, Int.reduceLT, Int.reduceLE, hP, hΓ, hL, hfin, String.reduceEq, not_false_eq_true, if_true, if_false, Int.toNat_one, Bool.not_not, hb])
      exact Into.one rfl rfl
    · have hb : (s == [] || decide (8 < ((s.length : Nat) : Int))) = false := by
        rw [Bool.eq_false_iff]; intro h
        simp only [Bool.or_eq_true, beq_iff_eq, decide_eq_true_eq] at h
        exact hq (by rcases h with h | h; exact .inl h; exact .inr (by omega))
      have hlt := unh_lt s 0 n hn
      have hp : 16 ^ s.length ≤ 16 ^ 8 := Nat.pow_le_pow_right (by decide) (by rcases Nat.lt_or_ge 8 s.length with h | h; exact absurd (.inr h) hq; exact h)
      have h8 : (16 : Nat) ^ 8 = 4294967296 := by decide
      have e : unhO s = some (n : Int) := by rw [unhO, if_neg hq, hn]; rfl
      have hnm : hm n = (n : Int) := by unfold hm; omega
      rw [e] at hfin
      ((first | with_reducible refine holds_of_ex X 400 _ _ _ ?_ | skip); simp (maxSteps := 1000000) only [push_cast, reduceCtorEq, Nat.reduceAdd, Nat.reduceMul, Nat.reduceSub, Nat.reduceBEq, Nat.reduceGT, Nat.reduceLT, Int.toNat_zero, Nat.reduceLeDiff, Int.reduceEq, Int.reduceLT, Int.reduceLE, hP, hΓ, hL, hfin, String.reduceEq, not_false_eq_true, if_true, if_false, Int.toNat_one, Bool.not_not, hb, hnm])
      exact Into.one rfl rfl
theorem con67 {Γ : Env} (h : EnvOk Tryz.prog Γ)  : Con Tryz.prog 67 S67 :=
  funS_con h (fn := Tryz.f67) (by kernel_rfl) rfl (by kernel_rfl) inj67 (by first | (intro h; cases h; done) | exact fun _ _ => rfl) fun s h => body67 Γ s h
end Go.Proofs.YtgemeilncdmapaaGreatDoor.asmDone
end
section
namespace Go.Proofs.YtgemeilncdmapaaGreatDoor.asmDone
open Go Go.Eng Go.Proofs Go.RowKit
open Go.Asm (blk trimF bareF headF restF pcs)
set_option linter.unusedVariables false
set_option linter.unusedSimpArgs false
set_option maxRecDepth 100000
set_option maxHeartbeats 4000000
theorem tw_take {p : UInt8 → Bool} {l : List UInt8} {k : Nat} (h : ∀ j < k, p (l.getD j 0) = true) (hk : k ≤ l.length) (hp : k < l.length → p (l.getD k 0) = false) : l.takeWhile p = l.take k := by
  induction l generalizing k with
  | nil => simp
  | cons c l ih =>
    cases k with
    | zero =>
      have : p c = false := by simpa using hp (by simp)
      simp [List.takeWhile_cons, this]
    | succ k =>
      have h0 : p c = true := by simpa using h 0 (by omega)
      rw [List.takeWhile_cons, h0, List.take_succ_cons]
      simp only [if_true]
      rw [ih (k := k) (fun j hj => by simpa using h (j + 1) (by omega)) (by simpa using hk) (fun hj => by simpa using hp (by simpa using hj))]
end Go.Proofs.YtgemeilncdmapaaGreatDoor.asmDone
end
section
namespace Go.Lines
open Go.Lib
def consHead (b : UInt8) : List (List UInt8) → List (List UInt8)
  | [] => [[b]]
  | w :: r => (b :: w) :: r
/-- a text's pieces between the letters c -/
def pieces (c : UInt8) : List UInt8 → List (List UInt8)
  | [] => [[]]
  | b :: l => if b = c then [] :: pieces c l else consHead b (pieces c l)
theorem consHead_len {b : UInt8} {p : List (List UInt8)} (h : p ≠ []) : (consHead b p).length = p.length := by
  cases p with
  | nil => exact absurd rfl h
  | cons w r => rfl
theorem pieces_len (c : UInt8) : ∀ l, (pieces c l).length = countByte l c + 1
  | [] => rfl
  | b :: l => by
    have ih := pieces_len c l
    have hne : pieces c l ≠ [] := by intro h; rw [h] at ih; simp at ih
    rw [pieces]
    unfold countByte at *
    split
    · rename_i h; subst h; rw [List.length_cons, ih, List.count_cons_self]
    · rename_i h; rw [consHead_len hne, ih, List.count_cons_of_ne h]
theorem pieces_ne (c : UInt8) (l : List UInt8) : pieces c l ≠ [] := by intro h; have := pieces_len c l; rw [h] at this; simp at this
theorem pieces_ix (c : UInt8) : ∀ l, (indexByte l c = -1 ∧ pieces c l = [l]) ∨ ∃ i : Nat, indexByte l c = i ∧ i < l.length ∧ pieces c l = l.take i :: pieces c (l.drop (i + 1))
  | [] => .inl ⟨rfl, rfl⟩
  | b :: l => by
    rw [indexByte, pieces]
    by_cases hb : b = c
    · right
      exact ⟨0, by simp [hb], Nat.succ_pos _, by simp [hb]⟩
    · have hb' : (b == c) = false := by simpa using hb
      rcases pieces_ix c l with ⟨h1, h2⟩ | ⟨i, h1, h2, h3⟩
      · left
        simp [hb, h1, h2, consHead]
      · right
        refine ⟨i + 1, ?_, by simp; omega, ?_⟩
        · rw [hb', h1]
          have : ((i : Int) == -1) = false := by simp
          simp [this]
        · simp [hb, h3, consHead]
theorem pieces_last {c : UInt8} {l : List UInt8} (h : (pieces c l).length = 1) : pieces c l = [l] := by
  rcases pieces_ix c l with ⟨_, h2⟩ | ⟨i, _, _, h3⟩
  · exact h2
  · rw [h3] at h
    have := pieces_ne c (l.drop (i + 1))
    simp at h
    exact absurd h this
theorem pieces_le (c : UInt8) (l : List UInt8) : (pieces c l).length ≤ l.length + 1 := by
  rw [pieces_len]
  have : countByte l c ≤ l.length := List.count_le_length
  omega
end Go.Lines
namespace Go.Proofs.YtgemeilncdmapaaGreatDoor.linesDone
open Go Go.Eng Go.Proofs Go.Lines Go.Lib
set_option linter.unusedVariables false
set_option linter.unusedSimpArgs false
def oneP (xs : List AV) : Prop := match xs with
  | [.str l, .int .u8 n] => (∃ c : UInt8, n = c.toNat) ∧ l.length ≤ 4194304
  | _ => False
def ixR (xs : List AV) : AV := match xs with
  | [.str l, .int _ n] => .int .i64 (indexByte l n.toNat.toUInt8)
  | _ => .any
def ctR (xs : List AV) : AV := match xs with
  | [.str l, .int _ n] => .int .i64 (countByte l n.toNat.toUInt8)
  | _ => .any
def ixS : FSpec := lift0 oneP ixR (fun _ => []) true
def ctS : FSpec := lift0 oneP ctR (fun _ => []) true
attribute [push_cast] oneP ixR ctR ixS ctS
theorem byte_back (c : UInt8) : c.toNat.toUInt8 = c := by simp
theorem one0 : decide ((0 : Int) + 1 = 0) = false := by decide
theorem one1 : decide ((0 : Int) + 1 = 1) = true := by decide
theorem oneN (c : UInt8) : ([c] == ([] : List UInt8)) = false := rfl
attribute [push_cast] one0 one1 oneN byte_back
theorem con57 : Con Tryz.prog 126 ixS := by
  refine Con.ofExt (fun xs hx => ?_) fun m w xs vs hc hx => ?_
  · unfold oneP at hx
    split at hx
    · exact ⟨_, _, rfl⟩
    · exact hx.elim
  · unfold oneP at hx
    split at hx
    · rename_i l n
      simp only [CRel, VRel] at hc
      obtain ⟨v1, vs, rfl, rfl, v2, vs, rfl, rfl, rfl⟩ := hc
      refine ⟨.int .i64 (indexByte l n.toNat.toUInt8), ?_, by simp [ixR, VRel]⟩
      rw [run_callFunc_extern Tryz.func126 (by kernel_rfl) (by kernel_rfl) (by kernel_rfl) (e := Extern.BytealgIndexByte.indexByte) (by kernel_rfl), Lib.run_indexByteString]
      rfl
    · exact hx.elim
theorem con33 : Con Tryz.prog 113 ctS := by
  refine Con.ofExt (fun xs hx => ?_) fun m w xs vs hc hx => ?_
  · unfold oneP at hx
    split at hx
    · exact ⟨_, _, rfl⟩
    · exact hx.elim
  · unfold oneP at hx
    split at hx
    · rename_i l n
      simp only [CRel, VRel] at hc
      obtain ⟨v1, vs, rfl, rfl, v2, vs, rfl, rfl, rfl⟩ := hc
      refine ⟨.int .i64 (countByte l n.toNat.toUInt8), ?_, by simp [ctR, VRel]⟩
      rw [run_callFunc_extern Tryz.func113 (by kernel_rfl) (by kernel_rfl) (by kernel_rfl) (e := Extern.BytealgCount.count) (by kernel_rfl), Lib.run_countString]
      rfl
    · exact hx.elim
theorem byte47 (Γ : Env) (h57 : Γ 126 = some ixS) (l : List UInt8) (c : UInt8) (hl : l.length ≤ 4194304) : BodyOk Tryz.prog Γ Tryz.f114 [.str l, .int .u8 c.toNat] [] (.int .i64 (indexByte l c)) [] := by
  (intro X hP hΓ hL hfin; refine ⟨_, rfl, ?_⟩; rw [show Tryz.f114.ntmps = 8 from rfl]; rw [show Tryz.f114.results.toList = [.tmp 4] from rfl] at hfin; apply holds_of_ex X 400; simp only [push_cast, reduceCtorEq, Nat.reduceAdd, Nat.reduceMul, Nat.reduceSub, Nat.reduceBEq, Nat.reduceGT, Nat.reduceLT, Int.toNat_zero, Nat.reduceLeDiff, Int.reduceEq, Int.reduceLT, Int.reduceLE, hP, hΓ, hL, hfin, h57])
  exact ⟨⟨⟨c, rfl⟩, hl⟩, Into.one rfl rfl⟩
theorem con47 {Γ : Env} (h : EnvOk Tryz.prog Γ) (h57 : Γ 126 = some ixS) : Con Tryz.prog 114 ixS := by
  refine Con.of_body h (fn := Tryz.f114) (by kernel_rfl) rfl (by kernel_rfl) (fun _ _ => rfl) fun xs hx => ?_
  unfold oneP at hx
  split at hx
  · obtain ⟨⟨c, rfl⟩, hl⟩ := hx
    have := byte47 Γ h57 _ c hl
    simpa [ixR] using this
  · exact hx.elim
/-- the same, where the letter comes as a text -/
def oneT (xs : List AV) : Prop := match xs with
  | [.str l, .str s] => (∃ c : UInt8, s = [c]) ∧ l.length ≤ 4194304
  | _ => False
def ixT (xs : List AV) : AV := match xs with
  | [.str l, .str s] => .int .i64 (indexByte l (s.getD 0 0))
  | _ => .any
def ctT (xs : List AV) : AV := match xs with
  | [.str l, .str s] => .int .i64 (countByte l (s.getD 0 0))
  | _ => .any
def ixTS : FSpec := lift0 oneT ixT (fun _ => []) true
def ctTS : FSpec := lift0 oneT ctT (fun _ => []) true
attribute [push_cast] oneT ixT ctT ixTS ctTS
theorem text34 (Γ : Env) (h47 : Γ 114 = some ixS) (l : List UInt8) (c : UInt8) (hl : l.length ≤ 4194304) : BodyOk Tryz.prog Γ Tryz.f92 [.str l, .str [c]] [] (.int .i64 (indexByte l c)) [] := by
  (intro X hP hΓ hL hfin; refine ⟨_, rfl, ?_⟩; rw [show Tryz.f92.ntmps = 143 from rfl]; rw [show Tryz.f92.results.toList = [.tmp 4] from rfl] at hfin; apply holds_of_ex X 400; simp only [push_cast, reduceCtorEq, Nat.reduceAdd, Nat.reduceMul, Nat.reduceSub, Nat.reduceBEq, Nat.reduceGT, Nat.reduceLT, Int.toNat_zero, Nat.reduceLeDiff, Int.reduceEq, Int.reduceLT, Int.reduceLE, hP, hΓ, hL, hfin, h47])
  refine exB_split (fun h => ?_) (fun h => ?_)
  · ((first | with_reducible refine holds_of_ex X 400 _ _ _ ?_ | skip); simp only [push_cast, reduceCtorEq, Nat.reduceAdd, Nat.reduceMul, Nat.reduceSub, Nat.reduceBEq, Nat.reduceGT, Nat.reduceLT, Int.toNat_zero, Nat.reduceLeDiff, Int.reduceEq, Int.reduceLT, Int.reduceLE, hP, hΓ, hL, hfin])
    have e : l = [c] := (eq_of_beq h).symm
    subst e
    exact Into.one (by simp [indexByte]) rfl
  · ((first | with_reducible refine holds_of_ex X 400 _ _ _ ?_ | skip); simp only [push_cast, reduceCtorEq, Nat.reduceAdd, Nat.reduceMul, Nat.reduceSub, Nat.reduceBEq, Nat.reduceGT, Nat.reduceLT, Int.toNat_zero, Nat.reduceLeDiff, Int.reduceEq, Int.reduceLT, Int.reduceLE, hP, hΓ, hL, hfin, h47])
    exact ⟨by omega, ⟨⟨c, rfl⟩, hl⟩, Into.one rfl rfl⟩
theorem con34 {Γ : Env} (h : EnvOk Tryz.prog Γ) (h47 : Γ 114 = some ixS) : Con Tryz.prog 92 ixTS := by
  refine Con.of_body h (fn := Tryz.f92) (by kernel_rfl) rfl (by kernel_rfl) (fun _ _ => rfl) fun xs hx => ?_
  unfold oneT at hx
  split at hx
  · obtain ⟨⟨c, rfl⟩, hl⟩ := hx
    exact text34 Γ h47 _ c hl
  · exact hx.elim
theorem text27 (Γ : Env) (h34 : Γ 92 = some ixTS) (l : List UInt8) (c : UInt8) (hl : l.length ≤ 4194304) : BodyOk Tryz.prog Γ Tryz.f91 [.str l, .str [c]] [] (.int .i64 (indexByte l c)) [] := by
  (intro X hP hΓ hL hfin; refine ⟨_, rfl, ?_⟩; rw [show Tryz.f91.ntmps = 8 from rfl]; rw [show Tryz.f91.results.toList = [.tmp 4] from rfl] at hfin; apply holds_of_ex X 400; simp only [push_cast, reduceCtorEq, Nat.reduceAdd, Nat.reduceMul, Nat.reduceSub, Nat.reduceBEq, Nat.reduceGT, Nat.reduceLT, Int.toNat_zero, Nat.reduceLeDiff, Int.reduceEq, Int.reduceLT, Int.reduceLE, hP, hΓ, hL, hfin, h34])
  exact ⟨⟨⟨c, rfl⟩, hl⟩, Into.one rfl rfl⟩
theorem con27 {Γ : Env} (h : EnvOk Tryz.prog Γ) (h34 : Γ 92 = some ixTS) : Con Tryz.prog 91 ixTS := by
  refine Con.of_body h (fn := Tryz.f91) (by kernel_rfl) rfl (by kernel_rfl) (fun _ _ => rfl) fun xs hx => ?_
  unfold oneT at hx
  split at hx
  · obtain ⟨⟨c, rfl⟩, hl⟩ := hx
    exact text27 Γ h34 _ c hl
  · exact hx.elim
theorem text26 (Γ : Env) (h33 : Γ 113 = some ctS) (l : List UInt8) (c : UInt8) (hl : l.length ≤ 4194304) : BodyOk Tryz.prog Γ Tryz.f90 [.str l, .str [c]] [] (.int .i64 (countByte l c)) [] := by
  (intro X hP hΓ hL hfin; refine ⟨_, rfl, ?_⟩; rw [show Tryz.f90.ntmps = 34 from rfl]; rw [show Tryz.f90.results.toList = [.tmp 4] from rfl] at hfin; apply holds_of_ex X 400; simp only [push_cast, reduceCtorEq, Nat.reduceAdd, Nat.reduceMul, Nat.reduceSub, Nat.reduceBEq, Nat.reduceGT, Nat.reduceLT, Int.toNat_zero, Nat.reduceLeDiff, Int.reduceEq, Int.reduceLT, Int.reduceLE, hP, hΓ, hL, hfin, h33])
  exact ⟨by omega, ⟨⟨c, rfl⟩, hl⟩, Into.one rfl rfl⟩
theorem con26 {Γ : Env} (h : EnvOk Tryz.prog Γ) (h33 : Γ 113 = some ctS) : Con Tryz.prog 90 ctTS := by
  refine Con.of_body h (fn := Tryz.f90) (by kernel_rfl) rfl (by kernel_rfl) (fun _ _ => rfl) fun xs hx => ?_
  unfold oneT at hx
  split at hx
  · obtain ⟨⟨c, rfl⟩, hl⟩ := hx
    exact text26 Γ h33 _ c hl
  · exact hx.elim
theorem laid_piece (d : List (List UInt8)) (n : Nat) (x : List UInt8) (h : d.length < n) : List.take d.length ((d ++ List.replicate (n - d.length) []).map AV.str) ++ AV.str x :: List.drop (d.length + 1) ((d ++ List.replicate (n - d.length) []).map AV.str) = ((d ++ [x]) ++ List.replicate (n - (d ++ [x]).length) []).map .str := by
  have e : List.replicate (n - d.length) ([] : List UInt8) = [] :: List.replicate (n - (d.length + 1)) [] := by
    rw [← List.replicate_succ]; congr 1; omega
  rw [e]
  simp [List.take_append, List.drop_append]
set_option maxRecDepth 100000 in
theorem split_body (Γ : Env) (h26 : Γ 90 = some ctTS) (h27 : Γ 91 = some ixTS) (l : List UInt8) (c : UInt8) (hl : l.length ≤ 4194304) : BodyOk Tryz.prog Γ Tryz.f56 [.str l, .str [c], .int .i64 0, .int .i64 (-1)] [] (.msl 0 0 0 (pieces c l).length) [.row ((pieces c l).map .str) 1 0] := by
  have hpl := pieces_len c l
  have hp1 := pieces_le c l
  have hu0 : IntKind.i64.wrap ((countByte l c : Int) + 1) = (countByte l c : Int) + 1 := wrap_i64 _ (by omega)
  have hu1 : IntKind.i64.wrap ((l.length : Int) + 1) = (l.length : Int) + 1 := wrap_i64 _ (by omega)
  have hmin : min ((countByte l c : Int) + 1) ((l.length : Int) + 1) = (countByte l c : Int) + 1 := by omega
  obtain ⟨N, hN⟩ : ∃ N, N = countByte l c + 1 := ⟨_, rfl⟩
  have hmt : ((countByte l c : Int) + 1).toNat = N := by omega
  have hu2 : IntKind.i64.wrap ((countByte l c : Int) + 1 - 1) = (countByte l c : Int) := by rw [Int.add_sub_cancel]; exact wrap_i64 _ (by omega)
  generalize hk : countByte l c = k at *
  (intro X hP hΓ hL hfin; refine ⟨_, rfl, ?_⟩; rw [show Tryz.f56.ntmps = 66 from rfl]; rw [show Tryz.f56.results.toList = [.tmp 8] from rfl] at hfin; apply holds_of_ex X 400; simp only [push_cast, reduceCtorEq, Nat.reduceAdd, Nat.reduceMul, Nat.reduceSub, Nat.reduceBEq, Nat.reduceGT, Nat.reduceLT, Int.toNat_zero, Nat.reduceLeDiff, Int.reduceEq, Int.reduceLT, Int.reduceLE, hP, hΓ, hL, hfin, h26, hu0, hu1, hu2, hmin, hmt, hk])
  have hz : (List.replicate N [AV.str []]).flatten = (List.replicate N ([] : List UInt8)).map AV.str := by simp
  rw [hz]
  refine ⟨⟨⟨c, rfl⟩, hl⟩, ⟨by omega, by omega, by omega⟩, ?_⟩
  refine Holds.loop (ι := { p : List (List UInt8) × List UInt8 // p.1 ++ pieces c p.2 = pieces c l ∧ p.2.length ≤ l.length }) (fun i => ([.str i.1.2, .str [c], .int .i64 0, .int .i64 k, .any, .any, .any, .any, .any, .msl 0 0 0 N, .int .i64 i.1.1.length, .any, .any, .any, .any, .any, .any, .any, .any, .any, .any, .any, .any, .any, .any, .any, .any, .any, .any, .any, .any, .any, .any, .any, .any, .any, .any, .any, .any, .any, .any, .any, .any, .any, .any, .any, .any, .any, .any, .any, .any, .any, .any, .any, .any, .any, .any, .any, .any, .any, .any, .any, .any, .any, .any, .any], [.row ((i.1.1 ++ List.replicate (N - i.1.1.length) []).map .str) 1 0])) (fun i => k + 1 - i.1.1.length) ⟨([], l), rfl, Nat.le_refl _⟩ ?_ ?_
  · rw [hL]
    simp only [List.length_nil, Nat.sub_zero, List.nil_append, Int.natCast_zero]
    exact Into.sameA
  rintro ⟨⟨d, r⟩, hd, hr⟩
  simp only at hd hr
  have hlen := congrArg List.length hd
  rw [List.length_append, hpl] at hlen
  have hpos : 0 < (pieces c r).length := List.length_pos_iff.2 (pieces_ne c r)
  have hu3 : IntKind.i64.wrap ((d.length : Int) + 1) = (d.length : Int) + 1 := wrap_i64 _ (by omega)
  ((first | with_reducible refine holds_of_ex X 400 _ _ _ ?_ | skip); simp only [push_cast, reduceCtorEq, Nat.reduceAdd, Nat.reduceMul, Nat.reduceSub, Nat.reduceBEq, Nat.reduceGT, Nat.reduceLT, Int.toNat_zero, Nat.reduceLeDiff, Int.reduceEq, Int.reduceLT, Int.reduceLE, hP, hΓ, hL, hfin])
  refine exB_split (fun h => ?_) (fun h => ?_)
  · have hlt : d.length < k := by have := of_decide_eq_true h; omega
    obtain ⟨j, hj1, hj2, hj3⟩ : ∃ j : Nat, indexByte r c = j ∧ j < r.length ∧ pieces c r = r.take j :: pieces c (r.drop (j + 1)) := by
      rcases pieces_ix c r with ⟨_, h2⟩ | h2
      · rw [h2] at hlen; simp at hlen; omega
      · exact h2
    have hn : decide ((j : Int) < 0) = false := by rw [decide_eq_false_iff_not]; omega
    have hu4 : IntKind.i64.wrap ((j : Int) + 0) = (j : Int) := by rw [Int.add_zero]; exact wrap_i64 _ (by omega)
    have hu5 : IntKind.i64.wrap ((j : Int) + (0 + 1)) = (j : Int) + 1 := wrap_i64 _ (by omega)
    have hjt : ((j : Int) + 1).toNat = j + 1 := by omega
    have hst := laid_piece d N (r.take j) (by omega)
    have e : r.take (min j r.length) = r.take j := by congr 1; omega
    ((first | with_reducible refine holds_of_ex X 400 _ _ _ ?_ | skip); simp only [push_cast, reduceCtorEq, Nat.reduceAdd, Nat.reduceMul, Nat.reduceSub, Nat.reduceBEq, Nat.reduceGT, Nat.reduceLT, Int.toNat_zero, Nat.reduceLeDiff, Int.reduceEq, Int.reduceLT, Int.reduceLE, hP, hΓ, hL, hfin, h27, hj1, hn, hu3, hu4, hu5, hjt, List.take_length])
    rw [List.append_assoc, List.singleton_append, hst]
    refine ⟨⟨⟨c, rfl⟩, by omega⟩, by omega, by omega, by simp; omega, ⟨by omega, by omega, by omega⟩, ⟨(d ++ [r.take j], r.drop (j + 1)), by rw [List.append_assoc, List.singleton_append, ← hj3, hd], by simp only [List.length_drop]; omega⟩, by simp only [List.length_append, List.length_cons, List.length_nil]; omega, ?_⟩
    simp only [List.length_append, List.length_cons, List.length_nil, Nat.zero_add]
    exact Into.sameA
  · have hdk : d.length = k := by have := of_decide_eq_false h; omega
    have hp : pieces c r = [r] := pieces_last (by omega)
    rw [hp] at hd
    have hst := laid_piece d N r (by omega)
    rw [hd, hpl, show N - (k + 1) = 0 by omega, List.replicate_zero, List.append_nil] at hst
    ((first | with_reducible refine holds_of_ex X 400 _ _ _ ?_ | skip); simp only [push_cast, reduceCtorEq, Nat.reduceAdd, Nat.reduceMul, Nat.reduceSub, Nat.reduceBEq, Nat.reduceGT, Nat.reduceLT, Int.toNat_zero, Nat.reduceLeDiff, Int.reduceEq, Int.reduceLT, Int.reduceLE, hP, hΓ, hL, hfin, hu3])
    rw [List.append_assoc, List.singleton_append, hst, show d.length + 1 - 0 = (pieces c l).length by omega]
    refine ⟨by omega, by simp; omega, ⟨by omega, by simp only [List.length_replicate]; omega⟩, ?_⟩
    exact Into.sameA
set_option maxRecDepth 100000
set_option maxHeartbeats 4000000
def e56 : (List UInt8) × (UInt8) → List AV × Heap := fun (l, c) => ([.str l, .str [c], .int .i64 0, .int .i64 (-1)], [])
def p56 : (List UInt8) × (UInt8) → Prop := fun (l, c) => l.length ≤ 4194304
def r56 : (List UInt8) × (UInt8) → AV := fun (l, c) => .msl 0 0 0 (pieces c l).length
def g56 : (List UInt8) × (UInt8) → Heap := fun (l, c) => [.row ((pieces c l).map AV.str) 1 0]
theorem inj56 : ∀ a b, e56 a = e56 b → a = b := by
  rintro ⟨l, c⟩ ⟨l', c'⟩ h
  simp only [e56, mi_iff, ms_iff, mb_iff, my_iff, UInt8.toNat_inj, Prod.mk.injEq, List.cons.injEq, AObj.row.injEq, AV.int.injEq, AV.str.injEq, AV.bool.injEq, AV.sl.injEq, AV.agg.injEq, AV.ip.injEq, AV.fn.injEq, AV.ifc.injEq, AV.mpr.injEq, AV.msl.injEq, AV.ref.injEq, Int.natCast_inj, and_true, true_and] at h
  simp_all only
noncomputable def S56 : FSpec := heapE false e56 p56 r56 g56
theorem ps56 (l : (List UInt8)) (c : (UInt8)) : pselK e56 p56 ([.str l, .str [c], .int .i64 0, .int .i64 (-1)], []) = (l.length ≤ 4194304) := pselK_at inj56 p56 (l, c)
theorem rs56 (l : (List UInt8)) (c : (UInt8)) : rselK e56 r56 .any ([.str l, .str [c], .int .i64 0, .int .i64 (-1)], []) = (.msl 0 0 0 (pieces c l).length) := rselK_at inj56 r56 .any (l, c)
theorem hs56 (l : (List UInt8)) (c : (UInt8)) : rselK e56 g56 [] ([.str l, .str [c], .int .i64 0, .int .i64 (-1)], []) = ([.row ((pieces c l).map AV.str) 1 0]) := rselK_at inj56 g56 [] (l, c)
attribute [push_cast] S56 ps56 rs56 hs56
theorem con56 {Γ : Env} (h : EnvOk Tryz.prog Γ) (h90 : Γ 90 = some ctTS) (h91 : Γ 91 = some ixTS) : Con Tryz.prog 56 S56 :=
  heapE_con h (fn := Tryz.f56) (by kernel_rfl) rfl (by kernel_rfl) inj56 fun ⟨l, c⟩ h => split_body Γ h90 h91 l c h
def e35 : (List UInt8) × (UInt8) → List AV × Heap := fun (l, c) => ([.str l, .str [c]], [])
def p35 : (List UInt8) × (UInt8) → Prop := fun (l, c) => l.length ≤ 4194304
def r35 : (List UInt8) × (UInt8) → AV := fun (l, c) => .msl 0 0 0 (pieces c l).length
def g35 : (List UInt8) × (UInt8) → Heap := fun (l, c) => [.row ((pieces c l).map AV.str) 1 0]
theorem inj35 : ∀ a b, e35 a = e35 b → a = b := by
  rintro ⟨l, c⟩ ⟨l', c'⟩ h
  simp only [e35, mi_iff, ms_iff, mb_iff, my_iff, UInt8.toNat_inj, Prod.mk.injEq, List.cons.injEq, AObj.row.injEq, AV.int.injEq, AV.str.injEq, AV.bool.injEq, AV.sl.injEq, AV.agg.injEq, AV.ip.injEq, AV.fn.injEq, AV.ifc.injEq, AV.mpr.injEq, AV.msl.injEq, AV.ref.injEq, Int.natCast_inj, and_true, true_and] at h
  simp_all only
noncomputable def S35 : FSpec := heapE false e35 p35 r35 g35
theorem ps35 (l : (List UInt8)) (c : (UInt8)) : pselK e35 p35 ([.str l, .str [c]], []) = (l.length ≤ 4194304) := pselK_at inj35 p35 (l, c)
theorem rs35 (l : (List UInt8)) (c : (UInt8)) : rselK e35 r35 .any ([.str l, .str [c]], []) = (.msl 0 0 0 (pieces c l).length) := rselK_at inj35 r35 .any (l, c)
theorem hs35 (l : (List UInt8)) (c : (UInt8)) : rselK e35 g35 [] ([.str l, .str [c]], []) = ([.row ((pieces c l).map AV.str) 1 0]) := rselK_at inj35 g35 [] (l, c)
attribute [push_cast] S35 ps35 rs35 hs35
theorem body35 (Γ : Env) (h56 : Γ 56 = some S56) (l : List UInt8) (c : UInt8) (hl : l.length ≤ 4194304) : BodyOk Tryz.prog Γ Tryz.f35 [.str l, .str [c]] [] (.msl 0 0 0 (pieces c l).length) [.row ((pieces c l).map AV.str) 1 0] := by
  (intro X hP hΓ hL hfin; refine ⟨_, rfl, ?_⟩; rw [show Tryz.f35.ntmps = 8 from rfl]; rw [show Tryz.f35.results.toList = [.tmp 4] from rfl] at hfin; apply holds_of_ex X 400; simp (maxSteps := 1000000) only [push_cast, reduceCtorEq, Nat.reduceAdd, Nat.reduceMul, Nat.reduceSub, Nat.reduceBEq, Nat.reduceGT, Nat.reduceLT, Int.toNat_zero, Nat.reduceLeDiff, Int.reduceEq, Int.reduceLT, Int.reduceLE, hP, hΓ, hL, hfin, h56])
  refine ⟨hl, ?_⟩
  exact Into.sameA
theorem con35 {Γ : Env} (h : EnvOk Tryz.prog Γ) (h56 : Γ 56 = some S56) : Con Tryz.prog 35 S35 :=
  heapE_con h (fn := Tryz.f35) (by kernel_rfl) rfl (by kernel_rfl) inj35 fun ⟨l, c⟩ h => body35 Γ h56 l c h
theorem pcs_pieces (c : UInt8) (l : List UInt8) : Go.Asm.pcs c l = pieces c l := by
  induction l with
  | nil => rfl
  | cons b r ih =>
    rw [Go.Asm.pcs, pieces, ih]
    split
    · rfl
    · cases pieces c r <;> rfl
end Go.Proofs.YtgemeilncdmapaaGreatDoor.linesDone
end
section
namespace Go.Proofs.YtgemeilncdmapaaGreatDoor.asmDone
open Go Go.Eng Go.Proofs Go.RowKit
open Go.Asm (blk trimF bareF headF restF pcs)
open Go.Lines (pieces pieces_len pieces_le)
open Go.Proofs.YtgemeilncdmapaaGreatDoor.linesDone (ixTS oneT ixT S56 S35 ps35 rs35 hs35 pcs_pieces)
set_option linter.unusedVariables false
set_option linter.unusedSimpArgs false
set_option maxRecDepth 100000
set_option maxHeartbeats 4000000
/-- a text cut at the first ';' -/
def cutQ (l : List UInt8) : List UInt8 := l.takeWhile fun c => !(c == 59)
theorem ix_quote : ∀ l : List UInt8, Lib.indexByte l 59 = if (cutQ l).length < l.length then ((cutQ l).length : Int) else -1
  | [] => rfl
  | c :: l => by
    have ih := ix_quote l
    rw [Lib.indexByte]
    unfold cutQ at *
    rw [List.takeWhile_cons]
    by_cases hc : c = 59
    · subst hc; simp
    · have h1 : (c == 59) = false := by simpa using hc
      rw [h1, ih]
      by_cases hl : (List.takeWhile (fun c => !(c == 59)) l).length < l.length
      · simp [hl]
      · simp [hl]
theorem cutQ_take (l : List UInt8) : l.take (cutQ l).length = cutQ l := by
  exact (List.prefix_iff_eq_take.1 (List.takeWhile_prefix _)).symm
theorem cutQ_le (l : List UInt8) : (cutQ l).length ≤ l.length := (List.takeWhile_prefix _).length_le
theorem cutQ_all {l : List UInt8} (h : ¬ (cutQ l).length < l.length) : cutQ l = l := by
  have := cutQ_le l
  have e := cutQ_take l
  rw [List.take_of_length_le (by omega)] at e
  exact e.symm
def e57 : (List UInt8) → List AV := fun l => [.str l, .str [59]]
def p57 : (List UInt8) → Prop := fun l => l.length ≤ 4194304
def r57 : (List UInt8) → AV := fun l => .tup [.str (cutQ l), .any, .any]
def g57 : (List UInt8) → Heap := fun l => []
theorem inj57 : ∀ a b, e57 a = e57 b → a = b := by
  rintro l l' h
  simp only [e57, mi_iff, ms_iff, mb_iff, my_iff, UInt8.toNat_inj, List.cons.injEq, AV.int.injEq, AV.str.injEq, AV.bool.injEq, AV.sl.injEq, AV.agg.injEq, AV.ip.injEq, AV.fn.injEq, AV.ifc.injEq, AV.mpr.injEq, Int.natCast_inj, and_true, true_and] at h
  simp_all only
noncomputable def S57 : FSpec := funS e57 p57 r57 g57 true
theorem ps57 (l : (List UInt8)) : psel e57 p57 [.str l, .str [59]] = (l.length ≤ 4194304) := psel_at inj57 p57 l
theorem rs57 (l : (List UInt8)) : rsel e57 r57 .any [.str l, .str [59]] = (.tup [.str (cutQ l), .any, .any]) := rsel_at inj57 r57 .any l
theorem hs57 (l : (List UInt8)) : rsel e57 g57 [] [.str l, .str [59]] = ([]) := rsel_at inj57 g57 [] l
attribute [push_cast] S57 ps57 rs57 hs57
theorem body57 (Γ : Env) (h92 : Γ 92 = some ixTS) (l : List UInt8) (hl : l.length ≤ 4194304) : BodyOk Tryz.prog Γ Tryz.f57 [.str l, .str [59]] [] (.tup [.str (cutQ l), .any, .any]) [] := by
  have hc := cutQ_le l
  by_cases hq : (cutQ l).length < l.length
  · have hix : Lib.indexByte l 59 = ((cutQ l).length : Int) := by rw [ix_quote, if_pos hq]
    have hg : decide (0 ≤ ((cutQ l).length : Int)) = true := decide_eq_true (by omega)
    have w1 : IntKind.i64.wrap (((cutQ l).length : Int) + (0 + 1)) = ((cutQ l).length : Int) + 1 := by rw [wr_i64 _ (by constructor <;> omega)]; omega
    have w2 : IntKind.i64.wrap (((cutQ l).length : Int) + 1) = ((cutQ l).length : Int) + 1 := wr_i64 _ (by constructor <;> omega)
    (intro X hP hΓ hL hfin; refine ⟨_, rfl, ?_⟩; rw [show Tryz.f57.ntmps = 23 from rfl]; rw [show Tryz.f57.results.toList = [.tmp 4, .tmp 5, .tmp 6] from rfl] at hfin; apply holds_of_ex X 400; simp (maxSteps := 1000000) only [push_cast, reduceCtorEq, Nat.reduceAdd, Nat.reduceMul, Nat.reduceSub, Nat.reduceBEq, Nat.reduceGT, Nat.reduceLT, Int.toNat_zero, Nat.reduceLeDiff, Int.reduceEq, Int.reduceLT, Int.reduceLE, hP, hΓ, hL, hfin, String.reduceEq, not_false_eq_true, if_true, if_false, Int.toNat_one, Bool.not_not, h92, hix, hg])
    refine ⟨⟨⟨59, rfl⟩, hl⟩, ?_⟩
    (refine Holds.drawnQ (by rw [hP]; kernel_rfl) (by kernel_rfl) ?_; simp (maxSteps := 1000000) only [push_cast, reduceCtorEq, Nat.reduceAdd, Nat.reduceMul, Nat.reduceSub, Nat.reduceBEq, Nat.reduceGT, Nat.reduceLT, Int.toNat_zero, Nat.reduceLeDiff, Int.reduceEq, Int.reduceLT, Int.reduceLE, hP, hΓ, hL, hfin, String.reduceEq, not_false_eq_true, if_true, if_false, Int.toNat_one, Bool.not_not, w1, w2])
    rw [cutQ_take]
    exact ⟨by omega, ⟨by omega, by omega, by omega⟩, Into.tup0⟩
  · have hix : Lib.indexByte l 59 = -1 := by rw [ix_quote, if_neg hq]
    (intro X hP hΓ hL hfin; refine ⟨_, rfl, ?_⟩; rw [show Tryz.f57.ntmps = 23 from rfl]; rw [show Tryz.f57.results.toList = [.tmp 4, .tmp 5, .tmp 6] from rfl] at hfin; apply holds_of_ex X 400; simp (maxSteps := 1000000) only [push_cast, reduceCtorEq, Nat.reduceAdd, Nat.reduceMul, Nat.reduceSub, Nat.reduceBEq, Nat.reduceGT, Nat.reduceLT, Int.toNat_zero, Nat.reduceLeDiff, Int.reduceEq, Int.reduceLT, Int.reduceLE, hP, hΓ, hL, hfin, String.reduceEq, not_false_eq_true, if_true, if_false, Int.toNat_one, Bool.not_not, h92, hix])
    refine ⟨⟨⟨59, rfl⟩, hl⟩, ?_⟩
    rw [cutQ_all hq]
    exact Into.tup0
theorem con57 {Γ : Env} (h : EnvOk Tryz.prog Γ) (h92 : Γ 92 = some ixTS) : Con Tryz.prog 57 S57 :=
  funS_con h (fn := Tryz.f57) (by kernel_rfl) rfl (by kernel_rfl) inj57 (by first | (intro h; cases h; done) | exact fun _ _ => rfl) fun l hl => body57 Γ h92 l hl
def e36 : (List UInt8) → List AV := fun l => [.str l, .str [59]]
def p36 : (List UInt8) → Prop := fun l => l.length ≤ 4194304
def r36 : (List UInt8) → AV := fun l => .tup [.str (cutQ l), .any, .any]
def g36 : (List UInt8) → Heap := fun l => []
theorem inj36 : ∀ a b, e36 a = e36 b → a = b := by
  rintro l l' h
  simp only [e36, mi_iff, ms_iff, mb_iff, my_iff, UInt8.toNat_inj, List.cons.injEq, AV.int.injEq, AV.str.injEq, AV.bool.injEq, AV.sl.injEq, AV.agg.injEq, AV.ip.injEq, AV.fn.injEq, AV.ifc.injEq, AV.mpr.injEq, Int.natCast_inj, and_true, true_and] at h
  simp_all only
noncomputable def S36 : FSpec := funS e36 p36 r36 g36 true
theorem ps36 (l : (List UInt8)) : psel e36 p36 [.str l, .str [59]] = (l.length ≤ 4194304) := psel_at inj36 p36 l
theorem rs36 (l : (List UInt8)) : rsel e36 r36 .any [.str l, .str [59]] = (.tup [.str (cutQ l), .any, .any]) := rsel_at inj36 r36 .any l
theorem hs36 (l : (List UInt8)) : rsel e36 g36 [] [.str l, .str [59]] = ([]) := rsel_at inj36 g36 [] l
attribute [push_cast] S36 ps36 rs36 hs36
theorem body36 (Γ : Env) (h57 : Γ 57 = some S57) (l : List UInt8) (hl : l.length ≤ 4194304) : BodyOk Tryz.prog Γ Tryz.f36 [.str l, .str [59]] [] (.tup [.str (cutQ l), .any, .any]) [] := by
  (intro X hP hΓ hL hfin; refine ⟨_, rfl, ?_⟩; rw [show Tryz.f36.ntmps = 13 from rfl]; rw [show Tryz.f36.results.toList = [.tmp 4, .tmp 5, .tmp 6] from rfl] at hfin; apply holds_of_ex X 400; simp (maxSteps := 1000000) only [push_cast, reduceCtorEq, Nat.reduceAdd, Nat.reduceMul, Nat.reduceSub, Nat.reduceBEq, Nat.reduceGT, Nat.reduceLT, Int.toNat_zero, Nat.reduceLeDiff, Int.reduceEq, Int.reduceLT, Int.reduceLE, hP, hΓ, hL, hfin, String.reduceEq, not_false_eq_true, if_true, if_false, Int.toNat_one, Bool.not_not, h57, hl])
  exact Into.tup0
theorem con36 {Γ : Env} (h : EnvOk Tryz.prog Γ) (h57 : Γ 57 = some S57) : Con Tryz.prog 36 S36 :=
  funS_con h (fn := Tryz.f36) (by kernel_rfl) rfl (by kernel_rfl) inj36 (by first | (intro h; cases h; done) | exact fun _ _ => rfl) fun l hl => body36 Γ h57 l hl
/-! a line's name and operands -/
theorem trim_le (s : List UInt8) : (trimF s).length ≤ s.length := by
  have h1 := (List.dropWhile_suffix (l := s) blk).length_le
  have h2 := (List.dropWhile_suffix (l := (s.dropWhile blk).reverse) blk).length_le
  simp only [trimF, List.length_reverse] at h2 ⊢
  omega
theorem pcs_mem {c : UInt8} {l p : List UInt8} (h : p ∈ pieces c l) : p.length ≤ l.length := by
  rw [← pcs_pieces] at h
  induction l generalizing p with
  | nil => rw [pcs, List.mem_singleton] at h; subst h; exact Nat.le_refl _
  | cons b r ih =>
    rw [pcs] at h
    split at h
    · rcases List.mem_cons.1 h with rfl | h
      · simp
      · have := ih h; simp only [List.length_cons]; omega
    · cases hp : pcs c r with
      | nil => exact absurd hp (Go.Asm.pcs_ne c r)
      | cons x y =>
        rw [hp, Go.Asm.consH] at h
        rcases List.mem_cons.1 h with rfl | h
        · have := ih (p := x) (by rw [hp]; simp); simp only [List.length_cons]; omega
        · have := ih (p := p) (by rw [hp]; simp [h]); simp only [List.length_cons]; omega
theorem rest_0 {s : List UInt8} (h : trimF (s.drop (headF s).length) = []) : restF s = [] := by
  unfold restF; simp only [h, if_true]
theorem rest_1 {s : List UInt8} (h : trimF (s.drop (headF s).length) ≠ []) : restF s = (pieces 44 (trimF (s.drop (headF s).length))).map trimF := by
  unfold restF
  simp only
  rw [if_neg h, pcs_pieces]
/-- pieces, the first of them trimmed -/
def tr (D : List (List UInt8)) (i : Nat) : List (List UInt8) := (D.take i).map trimF ++ D.drop i
theorem tr_set (D : List (List UInt8)) (i : Nat) (h : i < D.length) : (tr D i).set i (trimF ((tr D i).getD i [])) = tr D (i + 1) ∧ (tr D i).getD i [] = D.getD i [] := by
  have hl : ((D.take i).map trimF).length = i := by rw [List.length_map, List.length_take]; omega
  have e : D.drop i = D.getD i [] :: D.drop (i + 1) := by
    rw [List.drop_eq_getElem_cons h]; simp [List.getD, h]
  have g : (tr D i).getD i [] = D.getD i [] := by
    rw [tr, List.getD_eq_getElem?_getD, List.getElem?_append_right (by omega), hl, Nat.sub_self, e]; rfl
  refine ⟨?_, g⟩
  rw [g, tr, List.set_append_right _ _ (by omega), hl, Nat.sub_self, e, List.set_cons_zero, tr, List.take_succ_eq_append_getElem h, List.map_append]
  simp [List.getD, h]
theorem tr_len (D : List (List UInt8)) (i : Nat) : (tr D i).length = D.length := by
  simp only [tr, List.length_append, List.length_map, List.length_take, List.length_drop]; omega
theorem tr_all (D : List (List UInt8)) : tr D D.length = D.map trimF := by
  simp [tr]
theorem str_set (l : List (List UInt8)) (i : Nat) (x : List UInt8) : (l.map AV.str).set i (.str x) = (l.set i x).map AV.str := by rw [List.map_set]
def e65 : (List UInt8) → List AV := fun s => [.str s]
def p65 : (List UInt8) → Prop := fun s => s.length ≤ 4194304
def r65 : (List UInt8) → AV := fun s => .tup [.str (headF s), .sl ((restF s).map AV.str) (restF s).length]
def g65 : (List UInt8) → Heap := fun s => []
theorem inj65 : ∀ a b, e65 a = e65 b → a = b := by
  rintro s s' h
  simp only [e65, mi_iff, ms_iff, mb_iff, my_iff, UInt8.toNat_inj, List.cons.injEq, AV.int.injEq, AV.str.injEq, AV.bool.injEq, AV.sl.injEq, AV.agg.injEq, AV.ip.injEq, AV.fn.injEq, AV.ifc.injEq, AV.mpr.injEq, Int.natCast_inj, and_true, true_and] at h
  simp_all only
noncomputable def S65 : FSpec := funS e65 p65 r65 g65 true
theorem ps65 (s : (List UInt8)) : psel e65 p65 [.str s] = (s.length ≤ 4194304) := psel_at inj65 p65 s
theorem rs65 (s : (List UInt8)) : rsel e65 r65 .any [.str s] = (.tup [.str (headF s), .sl ((restF s).map AV.str) (restF s).length]) := rsel_at inj65 r65 .any s
theorem hs65 (s : (List UInt8)) : rsel e65 g65 [] [.str s] = ([]) := rsel_at inj65 g65 [] s
attribute [push_cast] S65 ps65 rs65 hs65
theorem body65 (Γ : Env) (h35 : Γ 35 = some S35) (h37 : Γ 37 = some S37) (s : List UInt8) (hs : s.length ≤ 4194304) : BodyOk Tryz.prog Γ Tryz.f65 [.str s] [] (.tup [.str (headF s), .sl ((restF s).map AV.str) (restF s).length]) [] := by
  (intro X hP hΓ hL hfin; refine ⟨_, rfl, ?_⟩; rw [show Tryz.f65.ntmps = 58 from rfl]; rw [show Tryz.f65.results.toList = [.tmp 2, .tmp 3] from rfl] at hfin; apply holds_of_ex X 400; simp (maxSteps := 1000000) only [push_cast, reduceCtorEq, Nat.reduceAdd, Nat.reduceMul, Nat.reduceSub, Nat.reduceBEq, Nat.reduceGT, Nat.reduceLT, Int.toNat_zero, Nat.reduceLeDiff, Int.reduceEq, Int.reduceLT, Int.reduceLE, hP, hΓ, hL, hfin, String.reduceEq, not_false_eq_true, if_true, if_false, Int.toNat_one, Bool.not_not])
  refine Holds.loopM (ι := {k : Nat // k ≤ s.length ∧ ∀ j < k, (!blk (s.getD j 0)) = true}) [true, false, true, true, false, false, false, true, true, true, false, false, false, true, false, false, false, false, false, false, false, false, false, false, false, false, false, false, false, false, false, false, false, false, false, false, false, false, false, false, false, true, true, false, false, false, false, false, false, false, false, false, false, false, false, false, false, false] (fun i => [(4, .int .i64 s.length), (13, .ref 0 0 0)]) (fun i => [.raw (.iter s i.1)]) (fun i => s.length - i.1) ⟨0, Nat.zero_le _, by simp⟩ ?_ ?_
  · (rw [hL]; simp only [push_cast, Int.natCast_zero]; exact Into.sameA)
  rintro ⟨k, hk, hg⟩
  by_cases hb0 : k < s.length ∧ blk (s.getD k 0) = true
  · obtain ⟨hk', hbk⟩ := hb0
    have hlo : (s.getD k 0).toNat < 128 := by
      simp only [blk, Bool.or_eq_true, beq_iff_eq] at hbk
      rcases hbk with (h | h) | h <;> rw [h] <;> decide
    have hrn := rune_lo hk' hlo
    have hc0 : (decide (((s.getD k 0).toNat : Int) = 32) || decide (((s.getD k 0).toNat : Int) = 9) || decide (((s.getD k 0).toNat : Int) = 13)) = true := by
      simp only [blk, Bool.or_eq_true, beq_iff_eq, decide_eq_true_eq] at hbk ⊢
      rcases hbk with (h | h) | h <;> rw [h] <;> decide
    have hki : decide ((k : Int) < ((s.length : Nat) : Int)) = true := decide_eq_true (by omega)
    have hE : headF s = s.take k := tw_take (p := fun c => !blk c) hg (by omega) (fun _ => by rw [hbk]; rfl)
    have hlE : (headF s).length = k := by rw [hE, List.length_take]; omega
    have hdl : (s.drop k).length ≤ 4194304 := by rw [List.length_drop]; omega
    have htl := trim_le (s.drop k)
    by_cases hr : trimF (s.drop k) = []
    · have hb : (trimF (s.drop k) == []) = true := beq_iff_eq.2 hr
      have e : restF s = [] := rest_0 (by rw [hlE]; exact hr)
      rw [e, hE] at hfin
      ((first | with_reducible refine holds_of_ex X 400 _ _ _ ?_ | skip); simp (maxSteps := 1000000) only [push_cast, reduceCtorEq, Nat.reduceAdd, Nat.reduceMul, Nat.reduceSub, Nat.reduceBEq, Nat.reduceGT, Nat.reduceLT, Int.toNat_zero, Nat.reduceLeDiff, Int.reduceEq, Int.reduceLT, Int.reduceLE, hP, hΓ, hL, hfin, String.reduceEq, not_false_eq_true, if_true, if_false, Int.toNat_one, Bool.not_not, hki, hrn, hk', hc0, h37, hdl, hb, List.take_length])
      refine ⟨⟨by omega, by omega⟩, by omega, by omega, ?_⟩
      refine IntoF.soft ?_
      simp only [push_cast]
      exact Into.one rfl rfl
    · have hb : (trimF (s.drop k) == []) = false := beq_eq_false_iff_ne.2 hr
      have e : restF s = (pieces 44 (trimF (s.drop k))).map trimF := by rw [rest_1 (by rw [hlE]; exact hr), hlE]
      rw [e, hE] at hfin
      generalize hD : trimF (s.drop k) = rt at *
      have hrt : rt.length ≤ 4194304 := by omega
      have hmem : ∀ x ∈ pieces 44 rt, x.length ≤ 4194304 := fun x hx => Nat.le_trans (pcs_mem hx) hrt
      have hpl := pieces_le 44 rt
      ((first | with_reducible refine holds_of_ex X 400 _ _ _ ?_ | skip); simp (maxSteps := 1000000) only [push_cast, reduceCtorEq, Nat.reduceAdd, Nat.reduceMul, Nat.reduceSub, Nat.reduceBEq, Nat.reduceGT, Nat.reduceLT, Int.toNat_zero, Nat.reduceLeDiff, Int.reduceEq, Int.reduceLT, Int.reduceLE, hP, hΓ, hL, hfin, String.reduceEq, not_false_eq_true, if_true, if_false, Int.toNat_one, Bool.not_not, hki, hrn, hk', hc0, h37, hdl, hD, hb, h35, List.take_length])
      refine ⟨⟨by omega, by omega⟩, by omega, hrt, ?_⟩
      generalize hQ : pieces 44 rt = D at *
      refine Holds.loopM (ι := {i : Nat // i ≤ D.length}) [true, false, true, true, true, false, false, false, true, false, false, false, false, false, false, false, false, false, false, false, false, false, false, false, false, false, false, false, false, false, false, false, false, false, false, false, false, false, false, false, false, true, false, false, false, false, false, false, false, false, false, false, false, false, false, false, false, false] (fun i => [(8, .msl 0 0 0 D.length), (42, .int .i64 i.1)]) (fun i => [.row ((tr D i.1).map AV.str) 1 0]) (fun i => D.length - i.1) ⟨0, Nat.zero_le _⟩ ?_ ?_
      · rw [hL]; simp only [push_cast, Int.natCast_zero]
        rw [show tr D 0 = D by simp [tr]]
        exact IntoF.base [1] ⟨(by simp only [push_cast, reduceCtorEq, Nat.reduceAdd, Nat.reduceMul, Nat.reduceSub, Nat.reduceBEq, Nat.reduceGT, Nat.reduceLT, Int.toNat_zero, Nat.reduceLeDiff, Int.reduceEq, Int.reduceLT, Int.reduceLE, leF]), (by first | rfl | (simp only [push_cast, reduceCtorEq, Nat.reduceAdd, Nat.reduceMul, Nat.reduceSub, Nat.reduceBEq, Nat.reduceGT, Nat.reduceLT, Int.toNat_zero, Nat.reduceLeDiff, Int.reduceEq, Int.reduceLT, Int.reduceLE, leF, renO]; done)), (by decide), (by first | rfl | decide), (by simp only [push_cast, reduceCtorEq, Nat.reduceAdd, Nat.reduceMul, Nat.reduceSub, Nat.reduceBEq, Nat.reduceGT, Nat.reduceLT, Int.toNat_zero, Nat.reduceLeDiff, Int.reduceEq, Int.reduceLT, Int.reduceLE]), (by simp only [push_cast, reduceCtorEq, Nat.reduceAdd, Nat.reduceMul, Nat.reduceSub, Nat.reduceBEq, Nat.reduceGT, Nat.reduceLT, Int.toNat_zero, Nat.reduceLeDiff, Int.reduceEq, Int.reduceLT, Int.reduceLE])⟩ (by first | decide | (simp only [push_cast, reduceCtorEq, Nat.reduceAdd, Nat.reduceMul, Nat.reduceSub, Nat.reduceBEq, Nat.reduceGT, Nat.reduceLT, Int.toNat_zero, Nat.reduceLeDiff, Int.reduceEq, Int.reduceLT, Int.reduceLE]; done) | simp)
      rintro ⟨q, hq⟩
      ((first | with_reducible refine holds_of_ex X 400 _ _ _ ?_ | skip); simp (maxSteps := 1000000) only [push_cast, reduceCtorEq, Nat.reduceAdd, Nat.reduceMul, Nat.reduceSub, Nat.reduceBEq, Nat.reduceGT, Nat.reduceLT, Int.toNat_zero, Nat.reduceLeDiff, Int.reduceEq, Int.reduceLT, Int.reduceLE, hP, hΓ, hL, hfin, String.reduceEq, not_false_eq_true, if_true, if_false, Int.toNat_one, Bool.not_not])
      ((with_reducible refine exB_split (fun h => ?_) (fun h => ?_)) <;> (try simp only [decide_eq_true_eq, decide_eq_false_iff_not, Bool.and_eq_true, Bool.or_eq_true, Bool.and_eq_false_iff, Bool.or_eq_false_iff, Bool.not_eq_true', Bool.not_eq_false', Bool.not_eq_true, Bool.not_eq_false, Int.not_lt, Int.not_le, beq_iff_eq, beq_eq_false_iff_ne, ne_eq] at h))
      · have hq' : q < D.length := by omega
        obtain ⟨t1, t2⟩ := tr_set D q hq'
        have tl := tr_len D q
        have hxl : (D.getD q []).length ≤ 4194304 := hmem _ (by rw [List.getD_eq_getElem?_getD, List.getElem?_eq_getElem hq']; exact List.getElem_mem _)
        have hdd : (tr D q).getD q default = D.getD q [] := t2
        rw [t2] at t1
        have e6 : List.take q ((tr D q).map AV.str) ++ [AV.str (trimF (D.getD q []))] ++ List.drop (q + 1) ((tr D q).map AV.str) = (tr D (q + 1)).map AV.str := by
          rw [← t1, ← str_set, List.set_eq_take_append_cons_drop, if_pos (by rw [List.length_map, tl]; exact hq')]
          simp
        ((first | with_reducible refine holds_of_ex X 400 _ _ _ ?_ | skip); simp (maxSteps := 1000000) only [push_cast, reduceCtorEq, Nat.reduceAdd, Nat.reduceMul, Nat.reduceSub, Nat.reduceBEq, Nat.reduceGT, Nat.reduceLT, Int.toNat_zero, Nat.reduceLeDiff, Int.reduceEq, Int.reduceLT, Int.reduceLE, hP, hΓ, hL, hfin, String.reduceEq, not_false_eq_true, if_true, if_false, Int.toNat_one, Bool.not_not, h37, hdd, hxl])
        refine ⟨by omega, ⟨by omega, by omega⟩, by omega, by omega, ⟨q + 1, hq'⟩, by simp only; omega, ?_⟩
        dsimp only
        rw [e6, wr_i64 ((q : Int) + 1) (by constructor <;> omega)]
        exact Into.sameA
      · obtain rfl : q = D.length := by omega
        have ht := tr_all D
        ((first | with_reducible refine holds_of_ex X 400 _ _ _ ?_ | skip); simp (maxSteps := 1000000) only [push_cast, reduceCtorEq, Nat.reduceAdd, Nat.reduceMul, Nat.reduceSub, Nat.reduceBEq, Nat.reduceGT, Nat.reduceLT, Int.toNat_zero, Nat.reduceLeDiff, Int.reduceEq, Int.reduceLT, Int.reduceLE, hP, hΓ, hL, hfin, String.reduceEq, not_false_eq_true, if_true, if_false, Int.toNat_one, Bool.not_not, ht])
        refine ⟨by omega, ?_⟩
        (refine IntoF.frz 0 (by simp only [push_cast, reduceCtorEq, Nat.reduceAdd, Nat.reduceMul, Nat.reduceSub, Nat.reduceBEq, Nat.reduceGT, Nat.reduceLT, Int.toNat_zero, Nat.reduceLeDiff, Int.reduceEq, Int.reduceLT, Int.reduceLE]; first | done | decide | omega) (by simp only [frzOk', frzOk, isMap, or_true, true_or, push_cast, reduceCtorEq, Nat.reduceAdd, Nat.reduceMul, Nat.reduceSub, Nat.reduceBEq, Nat.reduceGT, Nat.reduceLT, Int.toNat_zero, Nat.reduceLeDiff, Int.reduceEq, Int.reduceLT, Int.reduceLE]) ?_; simp only [push_cast, reduceCtorEq, Nat.reduceAdd, Nat.reduceMul, Nat.reduceSub, Nat.reduceBEq, Nat.reduceGT, Nat.reduceLT, Int.toNat_zero, Nat.reduceLeDiff, Int.reduceEq, Int.reduceLT, Int.reduceLE])
        rw [List.take_of_length_le (l := (D.map trimF).map AV.str) (by simp), show D.length = (D.map trimF).length by simp]
        exact Into.one rfl (by simp only [scp, scpL, scpL_str, Bool.and_self])
  · by_cases hk' : k < s.length
    · have hki : decide ((k : Int) < ((s.length : Nat) : Int)) = true := decide_eq_true (by omega)
      have hbk : blk (s.getD k 0) = false := by
        rw [Bool.eq_false_iff]; intro h; exact hb0 ⟨hk', h⟩
      by_cases hlo : (s.getD k 0).toNat < 128
      · have hrn := rune_lo hk' hlo
        have hc0 : (decide (((s.getD k 0).toNat : Int) = 32) || decide (((s.getD k 0).toNat : Int) = 9) || decide (((s.getD k 0).toNat : Int) = 13)) = false := by
          rw [Bool.eq_false_iff]; intro h
          simp only [Bool.or_eq_true, decide_eq_true_eq] at h
          have : blk (s.getD k 0) = true := by
            simp only [blk, Bool.or_eq_true, beq_iff_eq]
            rcases h with (h | h) | h
            · exact .inl (.inl (UInt8.toNat_inj.1 (by rw [show (32 : UInt8).toNat = 32 from rfl]; omega)))
            · exact .inl (.inr (UInt8.toNat_inj.1 (by rw [show (9 : UInt8).toNat = 9 from rfl]; omega)))
            · exact .inr (UInt8.toNat_inj.1 (by rw [show (13 : UInt8).toNat = 13 from rfl]; omega))
          rw [hbk] at this; cases this
        ((first | with_reducible refine holds_of_ex X 400 _ _ _ ?_ | skip); simp (maxSteps := 1000000) only [push_cast, reduceCtorEq, Nat.reduceAdd, Nat.reduceMul, Nat.reduceSub, Nat.reduceBEq, Nat.reduceGT, Nat.reduceLT, Int.toNat_zero, Nat.reduceLeDiff, Int.reduceEq, Int.reduceLT, Int.reduceLE, hP, hΓ, hL, hfin, String.reduceEq, not_false_eq_true, if_true, if_false, Int.toNat_one, Bool.not_not, hki, hrn, hk', hc0])
        refine ⟨⟨k + 1, hk', fun j hj => ?_⟩, by simp only; omega, ?_⟩
        · rcases Nat.lt_succ_iff_lt_or_eq.1 hj with h' | rfl
          · exact hg j h'
          · rw [hbk]; rfl
        exact Into.sameA
      · obtain ⟨r1, r2, r3, r4⟩ := rune_span hk' (by omega)
        generalize hru : runeAt s k = ru at *
        obtain ⟨rn, rw_⟩ := ru
        simp only at r1 r2 r3 r4
        have hc0 : (decide ((rn : Int) = 32) || decide ((rn : Int) = 9) || decide ((rn : Int) = 13)) = false := by
          rw [Bool.eq_false_iff]; intro h
          simp only [Bool.or_eq_true, decide_eq_true_eq] at h
          omega
        ((first | with_reducible refine holds_of_ex X 400 _ _ _ ?_ | skip); simp (maxSteps := 1000000) only [push_cast, reduceCtorEq, Nat.reduceAdd, Nat.reduceMul, Nat.reduceSub, Nat.reduceBEq, Nat.reduceGT, Nat.reduceLT, Int.toNat_zero, Nat.reduceLeDiff, Int.reduceEq, Int.reduceLT, Int.reduceLE, hP, hΓ, hL, hfin, String.reduceEq, not_false_eq_true, if_true, if_false, Int.toNat_one, Bool.not_not, hki, hru, hk', hc0])
        refine ⟨⟨k + rw_, by omega, fun j hj => ?_⟩, by simp only; omega, ?_⟩
        · by_cases h' : j < k
          · exact hg j h'
          · have := r4 (j - k) (by omega)
            rw [show k + (j - k) = j by omega] at this
            rw [Bool.not_eq_true', Bool.eq_false_iff]; intro h
            simp only [blk, Bool.or_eq_true, beq_iff_eq] at h
            rcases h with (h | h) | h <;> rw [h] at this <;> revert this <;> decide
        simp only [push_cast]
        exact Into.sameA
    · obtain rfl : k = s.length := by omega
      have hE : headF s = s := by
        have := tw_take (p := fun c => !blk c) hg (by omega) (fun h => by omega)
        rw [List.take_length] at this; exact this
      have e : restF s = [] := rest_0 (by rw [hE, List.drop_length]; rfl)
      have hdl : (s.drop s.length).length ≤ 4194304 := by rw [List.length_drop]; omega
      have hb : (trimF (s.drop s.length) == []) = true := by rw [List.drop_length]; rfl
      rw [e, hE] at hfin
      ((first | with_reducible refine holds_of_ex X 400 _ _ _ ?_ | skip); simp (maxSteps := 1000000) only [push_cast, reduceCtorEq, Nat.reduceAdd, Nat.reduceMul, Nat.reduceSub, Nat.reduceBEq, Nat.reduceGT, Nat.reduceLT, Int.toNat_zero, Nat.reduceLeDiff, Int.reduceEq, Int.reduceLT, Int.reduceLE, hP, hΓ, hL, hfin, String.reduceEq, not_false_eq_true, if_true, if_false, Int.toNat_one, Bool.not_not])
      ((with_reducible refine exB_split (fun h => ?_) (fun h => ?_)) <;> (try simp only [decide_eq_true_eq, decide_eq_false_iff_not, Bool.and_eq_true, Bool.or_eq_true, Bool.and_eq_false_iff, Bool.or_eq_false_iff, Bool.not_eq_true', Bool.not_eq_false', Bool.not_eq_true, Bool.not_eq_false, Int.not_lt, Int.not_le, beq_iff_eq, beq_eq_false_iff_ne, ne_eq] at h))
      · exact absurd h (Nat.lt_irrefl _)
      ((first | with_reducible refine holds_of_ex X 400 _ _ _ ?_ | skip); simp (maxSteps := 1000000) only [push_cast, reduceCtorEq, Nat.reduceAdd, Nat.reduceMul, Nat.reduceSub, Nat.reduceBEq, Nat.reduceGT, Nat.reduceLT, Int.toNat_zero, Nat.reduceLeDiff, Int.reduceEq, Int.reduceLT, Int.reduceLE, hP, hΓ, hL, hfin, String.reduceEq, not_false_eq_true, if_true, if_false, Int.toNat_one, Bool.not_not, h37, hdl, hb, List.take_length])
      refine ⟨Int.le_refl _, by omega, Int.le_refl _, ?_⟩
      refine IntoF.soft ?_
      simp only [push_cast]
      exact Into.one rfl rfl
theorem con65 {Γ : Env} (h : EnvOk Tryz.prog Γ) (h35 : Γ 35 = some S35) (h37 : Γ 37 = some S37) : Con Tryz.prog 65 S65 :=
  funS_con h (fn := Tryz.f65) (by kernel_rfl) rfl (by kernel_rfl) inj65 (by first | (intro h; cases h; done) | exact fun _ _ => rfl) fun s h => body65 Γ h35 h37 s h
end Go.Proofs.YtgemeilncdmapaaGreatDoor.asmDone
end
