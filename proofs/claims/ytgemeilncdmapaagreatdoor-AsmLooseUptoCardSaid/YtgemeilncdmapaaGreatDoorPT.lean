/- Of assembly texts: a line's name and operands, by the document. Conditions stand in each. Of assembly texts: the word that a line says, by the document. Conditions stand in each. Of assembly texts: a text read by the document. Conditions stand in each. Of assembly texts: texts read by the program and by the document; words written and read again. Conditions stand in each. Of assembly texts, plainly: lines that say nothing make no difference but to the numbers of lines. -/
import Derived.Test.YtgemeilncdmapaaGreatDoorPS
import Derived.Test.YtgemeilncdmapaaGreatDoorEE
section
namespace Go.Proofs.YtgemeilncdmapaaGreatDoor.asmDone
open Go Go.Eng Go.Proofs Go.RowKit
open Go.Asm (blk trimF bareF headF restF pcs)
open Go.Lines (pieces pieces_len pieces_le)
open Go.Proofs.YtgemeilncdmapaaGreatDoor.linesDone (pcs_pieces)
set_option linter.unusedVariables false
set_option linter.unusedSimpArgs false
set_option maxRecDepth 100000
set_option maxHeartbeats 4000000
/-- between two places there is no such letter -/
def gap (c : UInt8) (s : List UInt8) (a b : Nat) : Prop := ∀ j, a ≤ j → j < b → s.getD j 0 ≠ c
theorem gap_mem {c : UInt8} {s : List UInt8} {a b : Nat} (h : gap c s a b) : ∀ x ∈ (s.take b).drop a, x ≠ c := by
  intro x hx
  obtain ⟨i, hi, rfl⟩ := List.getElem_of_mem hx
  have hl := hi
  rw [List.length_drop, List.length_take] at hl
  rw [List.getElem_drop, List.getElem_take]
  have := h (a + i) (by omega) (by omega)
  rwa [List.getD_eq_getElem?_getD, List.getElem?_eq_getElem (by omega), Option.getD_some] at this
theorem pc_end {c : UInt8} {s : List UInt8} {a : Nat} (h : gap c s a s.length) : pieces c (s.drop a) = [s.drop a] := by
  have := gap_mem h
  rw [List.take_length] at this
  rw [← pcs_pieces]
  exact Go.Asm.pcs_no this
theorem pc_at {c : UInt8} {s : List UInt8} {a b : Nat} (h : gap c s a b) (hab : a ≤ b) (hb : b < s.length) (hc : s.getD b 0 = c) : pieces c (s.drop a) = (s.take b).drop a :: pieces c (s.drop (b + 1)) := by
  have e : s.drop a = (s.take b).drop a ++ c :: s.drop (b + 1) := by
    have h1 : s = s.take b ++ c :: s.drop (b + 1) := by
      conv => lhs; rw [← List.take_append_drop b s, List.drop_eq_getElem_cons hb]
      rw [List.getD_eq_getElem?_getD, List.getElem?_eq_getElem hb, Option.getD_some] at hc
      rw [hc]
    conv => lhs; rw [h1]
    rw [List.drop_append_of_le_length (by rw [List.length_take]; omega)]
  rw [e, ← pcs_pieces, Go.Asm.pcs_at _ (gap_mem h), pcs_pieces]
theorem gap_snoc {c : UInt8} {s : List UInt8} {a b : Nat} (h : gap c s a b) (hc : s.getD b 0 ≠ c) : gap c s a (b + 1) := by
  intro j h1 h2
  rcases Nat.lt_succ_iff_lt_or_eq.1 h2 with h' | rfl
  · exact h j h1 h'
  · exact hc
theorem gap_nil (c : UInt8) (s : List UInt8) (a : Nat) : gap c s a a := fun j h1 h2 => by omega
theorem u8_eq {x : UInt8} {n : Nat} (c : UInt8) (hn : c.toNat = n) : ((x.toNat : Int) = (n : Int)) ↔ x = c := by
  constructor
  · intro h; exact UInt8.toNat_inj.1 (by omega)
  · intro h; rw [h, hn]
end Go.Proofs.YtgemeilncdmapaaGreatDoor.asmDone
end
section
namespace Go.Proofs.YtgemeilncdmapaaGreatDoor.asmDone
open Go Go.Eng Go.Proofs Go.RowKit
open Go.Asm (mayB in16 rightB laid In rightI laidI numO regO ixO brO readO lastO formO formL encO wordO lineO headF restF unhO)
set_option linter.unusedVariables false
set_option linter.unusedSimpArgs false
set_option maxRecDepth 100000
set_option maxHeartbeats 4000000
end Go.Proofs.YtgemeilncdmapaaGreatDoor.asmDone
end
section
namespace Go.Proofs.YtgemeilncdmapaaGreatDoor.asmDone
open Go Go.Eng Go.Proofs Go.RowKit
open Go.Lines (pieces pieces_le)
open Go.Asm (lineO trimF bareF linesO)
set_option linter.unusedVariables false
set_option linter.unusedSimpArgs false
set_option maxRecDepth 100000
set_option maxHeartbeats 4000000
def prF (s : List UInt8) : AV := match prsR s with
  | .ok ws => .tup [.sl (ws.map (AV.int .u32)) ws.length, .int .i64 0, .int .i64 0]
  | .error p => .tup [.sl [] 0, .int .i64 p.1, .int .i64 p.2]
end Go.Proofs.YtgemeilncdmapaaGreatDoor.asmDone
end
section
namespace Go.Proofs.YtgemeilncdmapaaGreatDoor.asmDone
open Go Go.Eng Go.Proofs Go.RowKit
open Go.Asm (showF)
set_option linter.unusedVariables false
set_option linter.unusedSimpArgs false
set_option maxRecDepth 100000
set_option maxHeartbeats 4000000
theorem prA_ok {s : List UInt8} {ws : List Int} (h : prsR s = .ok ws) : prA s = .tup [.msl 0 0 0 ws.length, .int .i64 0, .int .i64 0] ∧ prG s = [.row (ws.map (AV.int .u32)) 1 0] ∧ prF s = .tup [.sl (ws.map (AV.int .u32)) ws.length, .int .i64 0, .int .i64 0] := by
  unfold prA prG prF; rw [h]; exact ⟨rfl, rfl, rfl⟩
theorem prA_no {s : List UInt8} {p : Int × Int} (h : prsR s = .error p) : prA s = .tup [.sl [] 0, .int .i64 p.1, .int .i64 p.2] ∧ prG s = [] ∧ prF s = .tup [.sl [] 0, .int .i64 p.1, .int .i64 p.2] := by
  unfold prA prG prF; rw [h]; exact ⟨rfl, rfl, rfl⟩
theorem law7 (Γ : Env) (h11 : Γ 11 = some S11) (h12 : Γ 12 = some S12) (h14 : Γ 14 = some S14) (h15 : Γ 15 = some S15) (h16 : Γ 16 = some S16) (ws : List Int) (hw : ∀ w ∈ ws, 0 ≤ w ∧ w < 4294967296) (hn : ws.length ≤ 4194304) : BodyOk Tryz.prog Γ Tryz.f7 [.sl (ws.map (AV.int .u32)) ws.length] [] (.bool true) [] := by
  have hn2 : ws.length ≤ 1000000000 := by omega
  have htl := text_len ws
  rcases text_err ws with he | he
  · obtain ⟨e1, e2, _⟩ := prA_ok (text_back hw he)
    have hww : (ws == ws) = true := beq_iff_eq.2 rfl
    generalize hT : textR ws = T at *
    obtain ⟨tx, er⟩ := T
    simp only at he htl e1 e2
    subst he
    have htl2 : tx.length ≤ 4194303 := by omega
    (intro X hP hΓ hL hfin; refine ⟨_, rfl, ?_⟩; rw [show Tryz.f7.ntmps = 66 from rfl]; rw [show Tryz.f7.results.toList = [.tmp 2] from rfl] at hfin; apply holds_of_ex X 400; simp (maxSteps := 1000000) only [push_cast, reduceCtorEq, Nat.reduceAdd, Nat.reduceMul, Nat.reduceSub, Nat.reduceBEq, Nat.reduceGT, Nat.reduceLT, Int.toNat_zero, Nat.reduceLeDiff, Int.reduceEq, Int.reduceLT, Int.reduceLE, hP, hΓ, hL, hfin, String.reduceEq, not_false_eq_true, if_true, if_false, Int.toNat_one, Bool.not_not, tk_map, h11, h15, hw, hn2, hT, h12, htl2, e1, e2, h14, hn, hww])
    exact ⟨hw, hw, Into.one rfl rfl⟩
  · generalize hT : textR ws = T at *
    obtain ⟨tx, er⟩ := T
    simp only at he htl
    subst he
    (intro X hP hΓ hL hfin; refine ⟨_, rfl, ?_⟩; rw [show Tryz.f7.ntmps = 66 from rfl]; rw [show Tryz.f7.results.toList = [.tmp 2] from rfl] at hfin; apply holds_of_ex X 400; simp (maxSteps := 1000000) only [push_cast, reduceCtorEq, Nat.reduceAdd, Nat.reduceMul, Nat.reduceSub, Nat.reduceBEq, Nat.reduceGT, Nat.reduceLT, Int.toNat_zero, Nat.reduceLeDiff, Int.reduceEq, Int.reduceLT, Int.reduceLE, hP, hΓ, hL, hfin, String.reduceEq, not_false_eq_true, if_true, if_false, Int.toNat_one, Bool.not_not, tk_map, h11, h15, h16, hw, hn2, hT])
    exact ⟨hw, hw, Into.one rfl rfl⟩
theorem prs_err {s : List UInt8} {p : Int × Int} (h : prsR s = .error p) : 0 ≤ p.1 ∧ (p.2 = 60 ∨ p.2 = 61) ∧ (s.length ≤ 65536 → p.2 = 61) := by
  unfold prsR at h
  split at h
  · rename_i hs
    cases h
    exact ⟨by simp, .inl rfl, fun h => by omega⟩
  · split at h
    · cases h
    · rename_i k hk
      cases h
      exact ⟨by simp, .inr rfl, fun _ => rfl⟩
theorem law8 (Γ : Env) (h11 : Γ 11 = some S11) (h12 : Γ 12 = some S12) (h14 : Γ 14 = some S14) (h15 : Γ 15 = some S15) (s : List UInt8) (hs : s.length ≤ 4194303) : BodyOk Tryz.prog Γ Tryz.f8 [.str s] [] (.bool true) [] := by
  cases hp : prsR s with
  | error p =>
    obtain ⟨e1, e2, _⟩ := prA_no hp
    obtain ⟨h0, h6, _⟩ := prs_err hp
    obtain ⟨n, er⟩ := p
    simp only at h0 h6 e1
    have hn0 : decide (0 ≤ n) = true := decide_eq_true h0
    have her : decide (er = 0) = false := decide_eq_false (by omega)
    (intro X hP hΓ hL hfin; refine ⟨_, rfl, ?_⟩; rw [show Tryz.f8.ntmps = 66 from rfl]; rw [show Tryz.f8.results.toList = [.tmp 2] from rfl] at hfin; apply holds_of_ex X 400; simp (maxSteps := 1000000) only [push_cast, reduceCtorEq, Nat.reduceAdd, Nat.reduceMul, Nat.reduceSub, Nat.reduceBEq, Nat.reduceGT, Nat.reduceLT, Int.toNat_zero, Nat.reduceLeDiff, Int.reduceEq, Int.reduceLT, Int.reduceLE, hP, hΓ, hL, hfin, String.reduceEq, not_false_eq_true, if_true, if_false, Int.toNat_one, Bool.not_not, tk_map, h11, h12, hs, e1, e2, hn0, her])
    exact Into.one rfl rfl
  | ok ws =>
    obtain ⟨e1, e2, _⟩ := prA_ok hp
    obtain ⟨hw, hl⟩ := prs_rng hp
    have hn2 : ws.length ≤ 1000000000 := by omega
    have hn : ws.length ≤ 4194304 := by omega
    have htl := text_len ws
    have hww : (ws == ws) = true := beq_iff_eq.2 rfl
    rcases text_err ws with he | he
    · obtain ⟨e3, e4, _⟩ := prA_ok (text_back hw he)
      generalize hT : textR ws = T at *
      obtain ⟨tx, er⟩ := T
      simp only at he htl e3 e4
      subst he
      have htl2 : tx.length ≤ 4194303 := by omega
      (intro X hP hΓ hL hfin; refine ⟨_, rfl, ?_⟩; rw [show Tryz.f8.ntmps = 66 from rfl]; rw [show Tryz.f8.results.toList = [.tmp 2] from rfl] at hfin; apply holds_of_ex X 400; simp (maxSteps := 1000000) only [push_cast, reduceCtorEq, Nat.reduceAdd, Nat.reduceMul, Nat.reduceSub, Nat.reduceBEq, Nat.reduceGT, Nat.reduceLT, Int.toNat_zero, Nat.reduceLeDiff, Int.reduceEq, Int.reduceLT, Int.reduceLE, hP, hΓ, hL, hfin, String.reduceEq, not_false_eq_true, if_true, if_false, Int.toNat_one, Bool.not_not, tk_map, h11, h12, hs, e1, e2, h15, hw, hn2, hT, htl2, e3, e4, h14, hn, hww])
      exact ⟨hw, Into.one rfl rfl⟩
    · have hpos : 0 < s.length := by
        rcases Nat.eq_zero_or_pos s.length with h | h
        · obtain rfl := List.eq_nil_of_length_eq_zero h
          rw [prs_nil] at hp
          cases hp
          rw [text_nil] at he; cases he
        · exact h
      have hpd : decide (0 < ((s.length : Nat) : Int)) = true := decide_eq_true (by omega)
      generalize hT : textR ws = T at *
      obtain ⟨tx, er⟩ := T
      simp only at he htl
      subst he
      (intro X hP hΓ hL hfin; refine ⟨_, rfl, ?_⟩; rw [show Tryz.f8.ntmps = 66 from rfl]; rw [show Tryz.f8.results.toList = [.tmp 2] from rfl] at hfin; apply holds_of_ex X 400; simp (maxSteps := 1000000) only [push_cast, reduceCtorEq, Nat.reduceAdd, Nat.reduceMul, Nat.reduceSub, Nat.reduceBEq, Nat.reduceGT, Nat.reduceLT, Int.toNat_zero, Nat.reduceLeDiff, Int.reduceEq, Int.reduceLT, Int.reduceLE, hP, hΓ, hL, hfin, String.reduceEq, not_false_eq_true, if_true, if_false, Int.toNat_one, Bool.not_not, tk_map, h11, h12, hs, e1, e2, h15, hw, hn2, hT, hpd])
      exact ⟨hw, Into.one rfl rfl⟩
end Go.Proofs.YtgemeilncdmapaaGreatDoor.asmDone
end
section
namespace Go.Proofs.YtgemeilncdmapaaGreatDoor.asmDone
open Go Go.Eng Go.Proofs Go.RowKit
open Go.Lines (pieces pieces_le)
open Go.Asm (lineO trimF bareF linesO blk)
open Go.Proofs.YtgemeilncdmapaaGreatDoor.linesDone (pcs_pieces)
set_option linter.unusedVariables false
set_option linter.unusedSimpArgs false
set_option maxRecDepth 100000
set_option maxHeartbeats 4000000
/-- a line that says nothing -/
def blL (k : Nat) : List UInt8 := if k % 3 = 0 then [59, 32, 120] else if k % 3 = 1 then [32, 9] else [13]
/-- such lines ahead of a line -/
def insT (q : Nat) : Nat → List Int → List UInt8
  | _, [] => []
  | k, p :: r => (if p = (q : Int) then blL k ++ [10] else []) ++ insT q (k + 1) r
def cntT (q : Nat) : List Int → Nat
  | [] => 0
  | p :: r => (if p = (q : Int) then 1 else 0) + cntT q r
def looseT (ps : List Int) : Nat → List (List UInt8) → List UInt8
  | _, [] => []
  | q, s :: r => insT q 0 ps ++ (32 :: 9 :: (s ++ (match r with | [] => [] | _ :: _ => 10 :: looseT ps (q + 1) r)))
def tailT (ps : List Int) (q : Nat) : List (List UInt8) → List UInt8
  | [] => []
  | x :: r => 10 :: looseT ps q (x :: r)
def tailP (ps : List Int) (q : Nat) : List (List UInt8) → List (List UInt8)
  | [] => []
  | x :: r => pieces 10 (looseT ps q (x :: r))
theorem loose_cons (ps : List Int) (q : Nat) (s : List UInt8) (r : List (List UInt8)) : looseT ps q (s :: r) = insT q 0 ps ++ (32 :: 9 :: (s ++ tailT ps (q + 1) r)) := by
  cases r <;> rfl
/-- how many of them stand ahead of lines up to n -/
def mvT (ps : List Int) (n : Nat) : Nat → Nat → Nat
  | _, 0 => 0
  | q, c + 1 => (if q ≤ n then cntT q ps else 0) + mvT ps n (q + 1) c
theorem mv_0 (ps : List Int) (n : Nat) : ∀ (c q : Nat), n < q → mvT ps n q c = 0
  | 0, _, _ => rfl
  | c + 1, q, h => by rw [mvT, if_neg (by omega), mv_0 ps n c (q + 1) (by omega)]
theorem bl_bare (k : Nat) : bareF (blL k) = [] ∧ (∀ x ∈ blL k, x ≠ 10) ∧ (blL k).length ≤ 3 := by
  unfold blL
  split
  · decide
  split
  · decide
  · decide
theorem pc_cons {s t : List UInt8} (h : ∀ x ∈ s, x ≠ 10) : pieces 10 (s ++ 10 :: t) = s :: pieces 10 t := by
  rw [← pcs_pieces, Go.Asm.pcs_at _ h, pcs_pieces]
theorem pc_one {s : List UInt8} (h : ∀ x ∈ s, x ≠ 10) : pieces 10 s = [s] := by
  rw [← pcs_pieces, Go.Asm.pcs_no h]
theorem ins_lines (q : Nat) (out : List Int) (t : List UInt8) : ∀ (ps : List Int) (k j : Nat), linesO j out (pieces 10 (insT q k ps ++ t)) = linesO (j + cntT q ps) out (pieces 10 t)
  | [], k, j => rfl
  | p :: r, k, j => by
    obtain ⟨h1, h2, _⟩ := bl_bare k
    rw [insT, cntT]
    by_cases hp : p = (q : Int)
    · rw [if_pos hp, if_pos hp, List.append_assoc, List.append_assoc, List.cons_append, List.nil_append, pc_cons h2, linesO, if_pos h1, ins_lines q out t r (k + 1) (j + 1)]
      congr 1; omega
    · rw [if_neg hp, if_neg hp, List.nil_append, ins_lines q out t r (k + 1) j]
      congr 1; omega
theorem trim_blk {c : UInt8} (h : blk c = true) (s : List UInt8) : trimF (c :: s) = trimF s := by
  unfold trimF
  rw [List.dropWhile_cons, if_pos h]
theorem bare_sp (s : List UInt8) : bareF (32 :: 9 :: s) = bareF s := by
  unfold bareF
  have e : List.takeWhile (fun c => !(c == 59)) (32 :: 9 :: s) = 32 :: 9 :: List.takeWhile (fun c => !(c == 59)) s := rfl
  rw [e, trim_blk rfl, trim_blk rfl]
theorem lines_ge : ∀ (D : List (List UInt8)) (q : Nat) (out : List Int) (n : Nat), linesO q out D = .error n → q ≤ n
  | [], q, out, n, h => by cases h
  | s :: r, q, out, n, h => by
    rw [linesO] at h
    split at h
    · have := lines_ge r _ _ _ h; omega
    · split at h
      · have := lines_ge r _ _ _ h; omega
      · cases h; exact Nat.le_refl _
theorem loose_lines (ps : List Int) : ∀ (D : List (List UInt8)), D ≠ [] → (∀ s ∈ D, ∀ x ∈ s, x ≠ 10) → ∀ (q d : Nat) (out : List Int),
    linesO (q + d) out (pieces 10 (looseT ps q D)) = match linesO q out D with
      | .ok ws => .ok ws
      | .error n => .error (n + d + mvT ps n q D.length)
  | s :: r, _, hD, q, d, out => by
    have hs : ∀ x ∈ s, x ≠ 10 := hD s (by simp)
    have hs2 : ∀ x ∈ (32 :: 9 :: s : List UInt8), x ≠ 10 := by
      intro x hx
      rcases List.mem_cons.1 hx with rfl | hx
      · decide
      rcases List.mem_cons.1 hx with rfl | hx
      · decide
      exact hs x hx
    have hmv : ∀ n, q + 1 ≤ n → n + d + mvT ps n q (s :: r).length = n + (d + cntT q ps) + mvT ps n (q + 1) r.length := fun n hn => by
      rw [List.length_cons, mvT, if_pos (by omega)]; omega
    have hmq : q + d + mvT ps q q (s :: r).length = q + d + cntT q ps := by
      rw [List.length_cons, mvT, if_pos (Nat.le_refl _), mv_0 ps q _ _ (by omega)]; omega
    rw [loose_cons, ins_lines]
    have key : linesO (q + d + cntT q ps) out (pieces 10 (32 :: 9 :: (s ++ tailT ps (q + 1) r))) = linesO (q + d + cntT q ps) out ((32 :: 9 :: s) :: tailP ps (q + 1) r) := by
      cases r with
      | nil =>
        simp only [tailT, tailP, List.append_nil]
        rw [pc_one hs2]
      | cons a b =>
        simp only [tailT, tailP]
        rw [show (32 :: 9 :: (s ++ 10 :: looseT ps (q + 1) (a :: b)) : List UInt8) = (32 :: 9 :: s) ++ 10 :: looseT ps (q + 1) (a :: b) from rfl, pc_cons hs2]
    rw [key, linesO, linesO, bare_sp]
    have hrec : ∀ out', linesO (q + d + cntT q ps + 1) out' (tailP ps (q + 1) r) = match linesO (q + 1) out' r with
      | .ok ws => .ok ws
      | .error n => .error (n + d + mvT ps n q (s :: r).length) := fun out' => by
      cases r with
      | nil => rfl
      | cons a b =>
        have ih := loose_lines ps (a :: b) (by simp) (fun x hx => hD x (by simp [hx])) (q + 1) (d + cntT q ps) out'
        simp only [tailP]
        rw [show q + d + cntT q ps + 1 = q + 1 + (d + cntT q ps) by omega, ih]
        cases hl : linesO (q + 1) out' (a :: b) with
        | ok ws => rfl
        | error n =>
          simp only
          rw [hmv n (lines_ge _ _ _ _ hl)]
    by_cases h0 : bareF s = []
    · rw [if_pos h0, if_pos h0]
      exact hrec out
    · rw [if_neg h0, if_neg h0]
      cases hw : lineO (bareF s) (4 * out.length) with
      | some w => exact hrec (out ++ [w])
      | none => simp only; rw [hmq]
theorem pc_no (c : UInt8) (s : List UInt8) : ∀ p ∈ pieces c s, ∀ x ∈ p, x ≠ c := by
  rw [← pcs_pieces]
  induction s with
  | nil => intro p hp; rw [Go.Asm.pcs, List.mem_singleton] at hp; subst hp; simp
  | cons b r ih =>
    intro p hp
    rw [Go.Asm.pcs] at hp
    split at hp
    · rcases List.mem_cons.1 hp with rfl | hp
      · simp
      · exact ih p hp
    · rename_i hb
      cases hq : Go.Asm.pcs c r with
      | nil => exact absurd hq (Go.Asm.pcs_ne c r)
      | cons u v =>
        rw [hq] at ih hp
        rw [Go.Asm.consH] at hp
        rcases List.mem_cons.1 hp with rfl | hp
        · intro x hx
          rcases List.mem_cons.1 hx with rfl | hx
          · exact hb
          · exact ih u (by simp) x hx
        · exact ih p (by simp [hp])
theorem loose_prs {s : List UInt8} {ps : List Int} (hs : s.length ≤ 65536) (ht : (looseT ps 1 (pieces 10 s)).length ≤ 65536) :
    (∃ ws, prsR s = .ok ws ∧ prsR (looseT ps 1 (pieces 10 s)) = .ok ws) ∨ ∃ n : Nat, prsR s = .error ((n : Int), 61) ∧ 1 ≤ n ∧ n ≤ 65537 ∧ prsR (looseT ps 1 (pieces 10 s)) = .error (((n + mvT ps n 1 (pieces 10 s).length : Nat) : Int), 61) := by
  have h := loose_lines ps (pieces 10 s) (Go.Lines.pieces_ne 10 s) (pc_no 10 s) 1 0 []
  rw [show 1 + 0 = 1 from rfl] at h
  unfold prsR
  rw [if_neg (by omega), if_neg (by omega)]
  cases hl : linesO 1 [] (pieces 10 s) with
  | ok ws =>
    left
    rw [hl] at h
    simp only at h
    exact ⟨ws, rfl, by rw [h]⟩
  | error n =>
    right
    rw [hl] at h
    simp only at h
    have h1 := lines_ge _ _ _ _ hl
    have h2 : n ≤ 65537 := by
      have key : ∀ (D : List (List UInt8)) (q : Nat) (out : List Int) (n : Nat), linesO q out D = .error n → n < q + D.length := by
        intro D
        induction D with
        | nil => intro q out n h; cases h
        | cons s r ih =>
          intro q out n h
          rw [linesO] at h
          simp only [List.length_cons]
          split at h
          · have := ih _ _ _ h; omega
          · split at h
            · have := ih _ _ _ h; omega
            · cases h; omega
      have h3 := key _ _ _ _ hl
      have h4 := pieces_le 10 s
      omega
    exact ⟨n, rfl, h1, h2, by rw [h]; rfl⟩
end Go.Proofs.YtgemeilncdmapaaGreatDoor.asmDone
end
