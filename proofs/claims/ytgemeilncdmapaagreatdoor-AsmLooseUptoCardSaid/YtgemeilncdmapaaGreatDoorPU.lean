/- Of assembly texts: what comes in. Of assembly texts: lines that say nothing put in; the program's walk. Conditions stand in each. Of assembly texts: numbers that come in. Of assembly texts: what is called, in its order. -/
import Derived.Test.YtgemeilncdmapaaGreatDoorPS
import Derived.Test.YtgemeilncdmapaaGreatDoorEE
import Derived.Test.YtgemeilncdmapaaGreatDoorEF
import Derived.Test.YtgemeilncdmapaaGreatDoorPT
section
namespace Go.Proofs.YtgemeilncdmapaaGreatDoor.asmDone
open Go Go.Eng Go.Proofs Go.RowKit
set_option linter.unusedVariables false
set_option linter.unusedSimpArgs false
set_option maxRecDepth 100000
theorem has_u32s {v : Dv} (h : Dv.has (.sl (.int .u32)) v) : ∃ ws : List Int, v.av = .sl (ws.map (AV.int .u32)) ws.length ∧ ws.length ≤ v.vb ∧ ∀ w ∈ ws, 0 ≤ w ∧ w < 4294967296 := by
  obtain ⟨es, rfl, hl, he⟩ := has_sl h
  have key : ∀ es : List Dv, (∀ e ∈ es, Dv.has (.int .u32) e) → ∃ l : List Int, Dv.cellsL es = l.map (AV.int .u32) ∧ es.length = l.length ∧ l.length ≤ Dv.vbL es ∧ ∀ w ∈ l, 0 ≤ w ∧ w < 4294967296 := by
    intro es
    induction es with
    | nil => intro _; exact ⟨[], rfl, rfl, Nat.zero_le _, by simp⟩
    | cons e es ih =>
      intro he
      obtain ⟨l, h1, h2, h3, h4⟩ := ih fun x hx => he x (by simp [hx])
      obtain ⟨n, rfl, h5, h6⟩ := has_int (he e (by simp))
      have b1 : (0 : Int) ≤ n := h5
      have b2 : n ≤ 4294967295 := h6
      refine ⟨n :: l, by simp only [Dv.cellsL, Dv.cells, h1, List.map_cons, List.cons_append, List.nil_append], by simp [h2], ?_, ?_⟩
      · simp only [Dv.vbL, Dv.vb, List.length_cons]; omega
      · intro w hw
        rcases List.mem_cons.1 hw with rfl | hw
        · omega
        · exact h4 w hw
  obtain ⟨l, h1, h2, h3, h4⟩ := key es he
  refine ⟨l, ?_, ?_, h4⟩
  · simp only [Dv.av, Dv.cells, List.getD_cons_zero, h1, h2]
  · simp only [Dv.vb]; omega
end Go.Proofs.YtgemeilncdmapaaGreatDoor.asmDone
end
section
namespace Go.Proofs.YtgemeilncdmapaaGreatDoor.asmDone
open Go Go.Eng Go.Proofs Go.RowKit
open Go.Lines (pieces pieces_le)
set_option linter.unusedVariables false
set_option linter.unusedSimpArgs false
set_option maxRecDepth 100000
set_option maxHeartbeats 4000000
theorem ins_drop {q k : Nat} {ps : List Int} (h : k < ps.length) : insT q k (ps.drop k) = (if ps.getD k 0 = (q : Int) then blL k ++ [10] else []) ++ insT q (k + 1) (ps.drop (k + 1)) ∧ cntT q (ps.drop k) = (if ps.getD k 0 = (q : Int) then 1 else 0) + cntT q (ps.drop (k + 1)) := by
  have e : ps.drop k = ps.getD k 0 :: ps.drop (k + 1) := by
    rw [List.drop_eq_getElem_cons h]; simp [List.getD, h]
  rw [e]; exact ⟨rfl, rfl⟩
theorem lines_lt : ∀ (D : List (List UInt8)) (q : Nat) (out : List Int) (n : Nat), Go.Asm.linesO q out D = .error n → n < q + D.length
  | [], q, out, n, h => by cases h
  | s :: r, q, out, n, h => by
    rw [Go.Asm.linesO] at h
    simp only [List.length_cons]
    split at h
    · have := lines_lt r _ _ _ h; omega
    · split at h
      · have := lines_lt r _ _ _ h; omega
      · cases h; omega
theorem law5 (Γ : Env) (h11 : Γ 11 = some S11) (h12 : Γ 12 = some S12) (h14 : Γ 14 = some S14) (s : List UInt8) (ps : List Int) (hs : s.length ≤ 4194303) (hpl : ps.length ≤ 4194304) : BodyOk Tryz.prog Γ Tryz.f5 [.str s, .sl (ps.map (AV.int .i64)) ps.length] [] (.bool true) [] := by
  by_cases hb : 65536 < s.length ∨ 1000 < ps.length
  · have hd : (decide (65536 < ((s.length : Nat) : Int)) || decide (1000 < ((ps.length : Nat) : Int))) = true := by
      simp only [Bool.or_eq_true, decide_eq_true_eq]; omega
    (intro X hP hΓ hL hfin; refine ⟨_, rfl, ?_⟩; rw [show Tryz.f5.ntmps = 133 from rfl]; rw [show Tryz.f5.results.toList = [.tmp 4] from rfl] at hfin; apply holds_of_ex X 400; simp (maxSteps := 1000000) only [push_cast, reduceCtorEq, Nat.reduceAdd, Nat.reduceMul, Nat.reduceSub, Nat.reduceBEq, Nat.reduceGT, Nat.reduceLT, Int.toNat_zero, Nat.reduceLeDiff, Int.reduceEq, Int.reduceLT, Int.reduceLE, hP, hΓ, hL, hfin, String.reduceEq, not_false_eq_true, if_true, if_false, Int.toNat_one, Bool.not_not, tk_map, toNat2, h11, hd])
    exact Into.one rfl rfl
  have hs6 : s.length ≤ 65536 := by omega
  have hp1 : ps.length ≤ 1000 := by omega
  have hd : (decide (65536 < ((s.length : Nat) : Int)) || decide (1000 < ((ps.length : Nat) : Int))) = false := by
    rw [Bool.eq_false_iff]; intro h
    simp only [Bool.or_eq_true, decide_eq_true_eq] at h; omega
  have hM : ∃ TT, TT = looseT ps 1 (pieces 10 s) := ⟨_, rfl⟩
  obtain ⟨TT, hTT⟩ := hM
  obtain ⟨W, n, er, hn6, hcase⟩ : ∃ (W : List Int) (n : Nat) (er : Int), n ≤ 65537 ∧ ((prsR s = .ok W ∧ n = 0 ∧ er = 0) ∨ (prsR s = .error ((n : Int), 61) ∧ W = [] ∧ er = 61)) := by
    cases hp : prsR s with
    | ok ws => exact ⟨ws, 0, 0, by omega, .inl ⟨rfl, rfl, rfl⟩⟩
    | error p =>
      unfold prsR at hp
      rw [if_neg (by omega)] at hp
      split at hp
      · cases hp
      · rename_i k hk
        cases hp
        have h4 := pieces_le 10 s
        have h3 := lines_lt _ _ _ _ hk
        exact ⟨[], k, 61, by omega, .inr ⟨rfl, rfl, rfl⟩⟩
  obtain ⟨M, hMM⟩ : ∃ M, M = mvT ps n 1 (pieces 10 s).length := ⟨_, rfl⟩
  have hgr : ∀ x : Nat, (x : Int) ≤ (n : Int) ↔ x ≤ n := fun x => by omega
  rcases hcase with ⟨hp, hn0, her⟩ | ⟨hp, hW, her⟩
  · have hx := prA_ok hp; have hpA : prA s = .tup [.msl 0 0 0 W.length, .int .i64 n, .int .i64 er] := (by rw [hx.1, hn0, her]; rfl); have hpG := hx.2.1
    (intro X hP hΓ hL hfin; refine ⟨_, rfl, ?_⟩; rw [show Tryz.f5.ntmps = 133 from rfl]; rw [show Tryz.f5.results.toList = [.tmp 4] from rfl] at hfin; apply holds_of_ex X 400; simp (maxSteps := 1000000) only [push_cast, reduceCtorEq, Nat.reduceAdd, Nat.reduceMul, Nat.reduceSub, Nat.reduceBEq, Nat.reduceGT, Nat.reduceLT, Int.toNat_zero, Nat.reduceLeDiff, Int.reduceEq, Int.reduceLT, Int.reduceLE, hP, hΓ, hL, hfin, String.reduceEq, not_false_eq_true, if_true, if_false, Int.toNat_one, Bool.not_not, tk_map, toNat2, h11, hd, h12, hs, hpA, hpG])
    refine Holds.loopM (ι := {x : Nat × Nat × Nat × List UInt8 × Nat // x.1 ≤ s.length + 1 ∧ (1 ≤ x.2.2.1 ∧ x.2.2.1 ≤ x.1 + 1) ∧ x.2.2.2.1.length ≤ 100000 * x.2.2.1 ∧ x.2.2.2.2 ≤ 1000 * x.2.2.1 ∧ (x.1 ≤ s.length → x.2.1 ≤ x.1 ∧ gap 10 s x.2.1 x.1 ∧ TT = x.2.2.2.1 ++ looseT ps x.2.2.1 (pieces 10 (s.drop x.2.1)) ∧ M = x.2.2.2.2 + mvT ps n x.2.2.1 (pieces 10 (s.drop x.2.1)).length) ∧ (x.1 = s.length + 1 → TT = x.2.2.2.1 ∧ M = x.2.2.2.2)}) [true, true, false, false, true, false, false, false, false, true, true, true, false, false, false, true, true, true, false, false, false, false, false, false, false, false, false, false, false, false, false, false, false, false, false, false, false, false, false, false, false, false, false, false, false, false, false, false, false, false, false, false, false, false, false, false, false, false, false, false, false, false, false, false, false, false, false, false, false, false, false, false, false, false, false, false, false, false, false, false, false, false, false, false, false, false, false, false, false, false, false, false, false, false, false, false, false, false, false, false, false, false, false, false, false, false, false, false, false, false, false, false, false, false, false, false, false, false, false, false, false, false, false, false, false, false, false, false, false, false, false, false, false] (fun i => [(13, .int .i64 i.1.1), (12, .int .i64 i.1.2.1), (7, .int .i64 i.1.2.2.1), (8, .int .i64 i.1.2.2.2.2), (6, .msl 0 0 0 i.1.2.2.2.1.length), (9, .sl (W.map (AV.int .u32)) W.length)]) (fun i => [.row (i.1.2.2.2.1.map byteAV) 1 0]) (fun i => s.length + 1 - i.1.1) ⟨(0, 0, 1, [], 0), Nat.zero_le _, ⟨Nat.le_refl _, Nat.le_refl _⟩, Nat.zero_le _, Nat.zero_le _, fun _ => ⟨Nat.le_refl _, gap_nil _ _ _, hTT, by rw [hMM]; simp⟩, fun h => by simp only at h; omega⟩ ?_ ?_
    · rw [hL]; simp only [push_cast, Int.natCast_zero]
      (refine IntoF.frz 0 (by simp only [push_cast, reduceCtorEq, Nat.reduceAdd, Nat.reduceMul, Nat.reduceSub, Nat.reduceBEq, Nat.reduceGT, Nat.reduceLT, Int.toNat_zero, Nat.reduceLeDiff, Int.reduceEq, Int.reduceLT, Int.reduceLE]; first | done | decide | omega) (by simp only [frzOk', frzOk, isMap, or_true, true_or, push_cast, reduceCtorEq, Nat.reduceAdd, Nat.reduceMul, Nat.reduceSub, Nat.reduceBEq, Nat.reduceGT, Nat.reduceLT, Int.toNat_zero, Nat.reduceLeDiff, Int.reduceEq, Int.reduceLT, Int.reduceLE]) ?_; simp only [push_cast, reduceCtorEq, Nat.reduceAdd, Nat.reduceMul, Nat.reduceSub, Nat.reduceBEq, Nat.reduceGT, Nat.reduceLT, Int.toNat_zero, Nat.reduceLeDiff, Int.reduceEq, Int.reduceLT, Int.reduceLE]); simp only [tk_map, Int.zero_add]; (refine IntoF.nil 6  1 rfl ?_; simp only [push_cast, reduceCtorEq, Nat.reduceAdd, Nat.reduceMul, Nat.reduceSub, Nat.reduceBEq, Nat.reduceGT, Nat.reduceLT, Int.toNat_zero, Nat.reduceLeDiff, Int.reduceEq, Int.reduceLT, Int.reduceLE]); exact IntoF.base [1] ⟨(by simp only [push_cast, reduceCtorEq, Nat.reduceAdd, Nat.reduceMul, Nat.reduceSub, Nat.reduceBEq, Nat.reduceGT, Nat.reduceLT, Int.toNat_zero, Nat.reduceLeDiff, Int.reduceEq, Int.reduceLT, Int.reduceLE, leF]), (by first | rfl | (simp only [push_cast, reduceCtorEq, Nat.reduceAdd, Nat.reduceMul, Nat.reduceSub, Nat.reduceBEq, Nat.reduceGT, Nat.reduceLT, Int.toNat_zero, Nat.reduceLeDiff, Int.reduceEq, Int.reduceLT, Int.reduceLE, leF, renO]; done)), (by decide), (by first | rfl | decide), (by simp only [push_cast, reduceCtorEq, Nat.reduceAdd, Nat.reduceMul, Nat.reduceSub, Nat.reduceBEq, Nat.reduceGT, Nat.reduceLT, Int.toNat_zero, Nat.reduceLeDiff, Int.reduceEq, Int.reduceLT, Int.reduceLE]), (by simp only [push_cast, reduceCtorEq, Nat.reduceAdd, Nat.reduceMul, Nat.reduceSub, Nat.reduceBEq, Nat.reduceGT, Nat.reduceLT, Int.toNat_zero, Nat.reduceLeDiff, Int.reduceEq, Int.reduceLT, Int.reduceLE])⟩ (by first | decide | (simp only [push_cast, reduceCtorEq, Nat.reduceAdd, Nat.reduceMul, Nat.reduceSub, Nat.reduceBEq, Nat.reduceGT, Nat.reduceLT, Int.toNat_zero, Nat.reduceLeDiff, Int.reduceEq, Int.reduceLT, Int.reduceLE]; done) | simp)
    rintro ⟨⟨i, fr, q, out, m⟩, hi, ⟨hq1, hq⟩, hol, hml, hmid, hend⟩
    simp only at hi hq1 hq hol hml hmid hend
    ((first | with_reducible refine holds_of_ex X 400 _ _ _ ?_ | skip); simp (maxSteps := 1000000) only [push_cast, reduceCtorEq, Nat.reduceAdd, Nat.reduceMul, Nat.reduceSub, Nat.reduceBEq, Nat.reduceGT, Nat.reduceLT, Int.toNat_zero, Nat.reduceLeDiff, Int.reduceEq, Int.reduceLT, Int.reduceLE, hP, hΓ, hL, hfin, String.reduceEq, not_false_eq_true, if_true, if_false, Int.toNat_one, Bool.not_not, tk_map, toNat2])
    ((with_reducible refine exB_split (fun h => ?_) (fun h => ?_)) <;> (try simp only [decide_eq_true_eq, decide_eq_false_iff_not, Bool.and_eq_true, Bool.or_eq_true, Bool.and_eq_false_iff, Bool.or_eq_false_iff, Bool.not_eq_true', Bool.not_eq_false', Bool.not_eq_true, Bool.not_eq_false, Int.not_lt, Int.not_le, beq_iff_eq, beq_eq_false_iff_ne, ne_eq] at h))
    · have hi' : i ≤ s.length := by omega
      obtain ⟨hf, hgp, hT, hMm⟩ := hmid hi'
      have c10 := u8_eq (x := s.getD i 0) 10 rfl
      by_cases hc : i < s.length ∧ s.getD i 0 ≠ 10
      · have hcd : (decide ((i : Int) < ((s.length : Nat) : Int)) && !decide (((s.getD i 0).toNat : Int) = 10)) = true := by
          simp only [Bool.and_eq_true, decide_eq_true_eq, Bool.not_eq_true', decide_eq_false_iff_not]
          exact ⟨by omega, fun h => hc.2 (c10.1 h)⟩
        ((first | with_reducible refine holds_of_ex X 400 _ _ _ ?_ | skip); simp (maxSteps := 1000000) only [push_cast, reduceCtorEq, Nat.reduceAdd, Nat.reduceMul, Nat.reduceSub, Nat.reduceBEq, Nat.reduceGT, Nat.reduceLT, Int.toNat_zero, Nat.reduceLeDiff, Int.reduceEq, Int.reduceLT, Int.reduceLE, hP, hΓ, hL, hfin, String.reduceEq, not_false_eq_true, if_true, if_false, Int.toNat_one, Bool.not_not, tk_map, toNat2, hcd])
        refine ⟨fun h => by first | omega | (simp only [decide_eq_true_eq] at h; omega), ⟨(i + 1, fr, q, out, m), by simp only; omega, by simp only; omega, by simp only; omega, by simp only; omega, fun h => ?_, fun h => by simp only at h; omega⟩, by simp only; omega, ?_⟩
        · simp only at h ⊢
          exact ⟨by omega, gap_snoc hgp hc.2, hT, hMm⟩
        dsimp only
        rw [wr_i64 ((i : Int) + 1) (by constructor <;> omega)]
        exact Into.sameA
      · have hcd : (decide ((i : Int) < ((s.length : Nat) : Int)) && !decide (((s.getD i 0).toNat : Int) = 10)) = false := by
          rw [Bool.eq_false_iff]; intro h'
          simp only [Bool.and_eq_true, decide_eq_true_eq, Bool.not_eq_true', decide_eq_false_iff_not] at h'
          exact hc ⟨by omega, fun h => h'.2 (c10.2 h)⟩
        have hxl : ((s.take i).drop fr).length ≤ 65536 := by rw [List.length_drop, List.length_take]; omega
        obtain ⟨R, hR, hR1, hR2⟩ : ∃ R, pieces 10 (s.drop fr) = (s.take i).drop fr :: R ∧ (i < s.length → R = pieces 10 (s.drop (i + 1))) ∧ (i = s.length → R = []) := by
          by_cases h : i < s.length
          · have h10 : s.getD i 0 = 10 := by
              by_cases h' : s.getD i 0 = 10
              · exact h'
              · exact absurd ⟨h, h'⟩ hc
            exact ⟨_, pc_at hgp hf h h10, fun _ => rfl, fun h' => by omega⟩
          · obtain rfl : i = s.length := by omega
            exact ⟨[], by rw [pc_end hgp, List.take_length], fun h' => absurd h' h, fun _ => rfl⟩
        rw [hR, loose_cons] at hT
        rw [hR, List.length_cons, mvT] at hMm
        generalize hxe : (s.take i).drop fr = x at *
        ((first | with_reducible refine holds_of_ex X 400 _ _ _ ?_ | skip); simp (maxSteps := 1000000) only [push_cast, reduceCtorEq, Nat.reduceAdd, Nat.reduceMul, Nat.reduceSub, Nat.reduceBEq, Nat.reduceGT, Nat.reduceLT, Int.toNat_zero, Nat.reduceLeDiff, Int.reduceEq, Int.reduceLT, Int.reduceLE, hP, hΓ, hL, hfin, String.reduceEq, not_false_eq_true, if_true, if_false, Int.toNat_one, Bool.not_not, tk_map, toNat2, hcd])
        refine ⟨fun h => by first | omega | (simp only [decide_eq_true_eq] at h; omega), ?_⟩
        refine Holds.loopM (ι := {x : Nat × List UInt8 × Nat // x.1 ≤ ps.length ∧ x.2.1 ++ insT q x.1 (ps.drop x.1) = out ++ insT q 0 ps ∧ x.2.2 + (if q ≤ n then cntT q (ps.drop x.1) else 0) = m + (if q ≤ n then cntT q ps else 0) ∧ x.2.1.length ≤ out.length + 4 * x.1 ∧ x.2.2 ≤ m + x.1}) [true, true, false, false, true, false, false, true, false, true, true, true, true, true, false, true, true, true, false, false, false, false, false, false, false, false, false, false, false, false, false, false, false, false, false, false, false, false, false, false, false, false, false, false, false, false, false, false, false, false, false, false, false, false, false, false, false, false, false, false, false, false, false, false, false, false, false, false, false, false, false, false, false, false, false, false, false, false, false, false, false, false, false, false, false, false, false, false, false, false, false, false, false, false, false, false, false, false, false, false, false, false, false, false, false, false, false, false, false, false, false, false, false, false, false, false, false, false, false, false, false, false, false, false, false, false, false, false, false, false, false, false, false] (fun i => [(14, .int .i64 i.1.1), (6, .msl 0 0 0 i.1.2.1.length), (8, .int .i64 i.1.2.2)]) (fun i => [.row (i.1.2.1.map byteAV) 1 0]) (fun i => ps.length - i.1.1) ⟨(0, out, m), Nat.zero_le _, by rw [List.drop_zero], by rw [List.drop_zero], Nat.le_refl _, Nat.le_refl _⟩ ?_ ?_
        · (rw [hL]; simp only [push_cast, Int.natCast_zero]; exact Into.sameA)
        rintro ⟨⟨k, o2, m2⟩, hk, ho2, hm2, hl2, hm3⟩
        simp only at hk ho2 hm2 hl2 hm3
        ((first | with_reducible refine holds_of_ex X 400 _ _ _ ?_ | skip); simp (maxSteps := 1000000) only [push_cast, reduceCtorEq, Nat.reduceAdd, Nat.reduceMul, Nat.reduceSub, Nat.reduceBEq, Nat.reduceGT, Nat.reduceLT, Int.toNat_zero, Nat.reduceLeDiff, Int.reduceEq, Int.reduceLT, Int.reduceLE, hP, hΓ, hL, hfin, String.reduceEq, not_false_eq_true, if_true, if_false, Int.toNat_one, Bool.not_not, tk_map, toNat2])
        ((with_reducible refine exB_split (fun h => ?_) (fun h => ?_)) <;> (try simp only [decide_eq_true_eq, decide_eq_false_iff_not, Bool.and_eq_true, Bool.or_eq_true, Bool.and_eq_false_iff, Bool.or_eq_false_iff, Bool.not_eq_true', Bool.not_eq_false', Bool.not_eq_true, Bool.not_eq_false, Int.not_lt, Int.not_le, beq_iff_eq, beq_eq_false_iff_ne, ne_eq] at h))
        · have hk' : k < ps.length := by omega
          obtain ⟨hd1, hd2⟩ := ins_drop (q := q) hk'
          rw [hd1] at ho2
          rw [hd2] at hm2
          by_cases hpk : ps.getD k 0 = (q : Int)
          · rw [if_pos hpk] at ho2 hm2
            have hpd : decide (ps.getD k default = (q : Int)) = true := decide_eq_true hpk
            have h3 : k % 3 = 0 ∨ k % 3 = 1 ∨ k % 3 = 2 := by omega
            rcases h3 with h3 | h3 | h3
            · have hm : (k : Int).tmod 3 = 0 := by rw [Int.tmod_eq_emod_of_nonneg (by omega)]; omega
              have hby : [byteAV 59, byteAV 32, byteAV 120, byteAV 10] = List.map byteAV [59, 32, 120, 10] := rfl
              have hbl : blL k = [59, 32, 120] := by unfold blL; rw [if_pos h3]
              rw [hbl] at ho2
              by_cases hqn : q ≤ n
              · have hqd : decide ((q : Int) ≤ (n : Int)) = true := decide_eq_true (by omega)
                rw [if_pos hqn] at hm2
                ((first | with_reducible refine holds_of_ex X 400 _ _ _ ?_ | skip); simp (maxSteps := 1000000) only [push_cast, reduceCtorEq, Nat.reduceAdd, Nat.reduceMul, Nat.reduceSub, Nat.reduceBEq, Nat.reduceGT, Nat.reduceLT, Int.toNat_zero, Nat.reduceLeDiff, Int.reduceEq, Int.reduceLT, Int.reduceLE, hP, hΓ, hL, hfin, String.reduceEq, not_false_eq_true, if_true, if_false, Int.toNat_one, Bool.not_not, tk_map, toNat2, hpd, hm, hqd])
                refine ⟨by omega, by omega, by omega, ⟨rfl, by omega⟩, ⟨(k + 1, o2 ++ [59, 32, 120, 10], m2 + 1), hk', by simp only; rw [List.append_assoc]; exact ho2, by simp only; rw [if_pos hqn]; omega, by simp only [List.length_append, List.length_cons, List.length_nil]; omega, by simp only; omega⟩, by simp only; omega, ?_⟩
                dsimp only
                rw [wr_i64 ((k : Int) + 1) (by constructor <;> omega), wr_i64 ((m2 : Int) + 1) (by constructor <;> omega), hby, ← List.map_append, List.length_append]
                (refine IntoF.ver 0  0 (by simp only [push_cast, reduceCtorEq, Nat.reduceAdd, Nat.reduceMul, Nat.reduceSub, Nat.reduceBEq, Nat.reduceGT, Nat.reduceLT, Int.toNat_zero, Nat.reduceLeDiff, Int.reduceEq, Int.reduceLT, Int.reduceLE]) (by first | exact .inr (Nat.zero_le _) | (left; simp only [push_cast, reduceCtorEq, Nat.reduceAdd, Nat.reduceMul, Nat.reduceSub, Nat.reduceBEq, Nat.reduceGT, Nat.reduceLT, Int.toNat_zero, Nat.reduceLeDiff, Int.reduceEq, Int.reduceLT, Int.reduceLE]; first | done | omega) | (right; simp only [push_cast, reduceCtorEq, Nat.reduceAdd, Nat.reduceMul, Nat.reduceSub, Nat.reduceBEq, Nat.reduceGT, Nat.reduceLT, Int.toNat_zero, Nat.reduceLeDiff, Int.reduceEq, Int.reduceLT, Int.reduceLE]; first | done | omega)) ?_; simp only [push_cast, reduceCtorEq, Nat.reduceAdd, Nat.reduceMul, Nat.reduceSub, Nat.reduceBEq, Nat.reduceGT, Nat.reduceLT, Int.toNat_zero, Nat.reduceLeDiff, Int.reduceEq, Int.reduceLT, Int.reduceLE])
                exact Into.sameA
              · have hqd : decide ((q : Int) ≤ (n : Int)) = false := decide_eq_false (by omega)
                rw [if_neg hqn] at hm2
                ((first | with_reducible refine holds_of_ex X 400 _ _ _ ?_ | skip); simp (maxSteps := 1000000) only [push_cast, reduceCtorEq, Nat.reduceAdd, Nat.reduceMul, Nat.reduceSub, Nat.reduceBEq, Nat.reduceGT, Nat.reduceLT, Int.toNat_zero, Nat.reduceLeDiff, Int.reduceEq, Int.reduceLT, Int.reduceLE, hP, hΓ, hL, hfin, String.reduceEq, not_false_eq_true, if_true, if_false, Int.toNat_one, Bool.not_not, tk_map, toNat2, hpd, hm, hqd])
                refine ⟨by omega, by omega, by omega, ⟨rfl, by omega⟩, ⟨(k + 1, o2 ++ [59, 32, 120, 10], m2), hk', by simp only; rw [List.append_assoc]; exact ho2, by simp only; rw [if_neg hqn]; omega, by simp only [List.length_append, List.length_cons, List.length_nil]; omega, by simp only; omega⟩, by simp only; omega, ?_⟩
                dsimp only
                rw [wr_i64 ((k : Int) + 1) (by constructor <;> omega), hby, ← List.map_append, List.length_append]
                (refine IntoF.ver 0  0 (by simp only [push_cast, reduceCtorEq, Nat.reduceAdd, Nat.reduceMul, Nat.reduceSub, Nat.reduceBEq, Nat.reduceGT, Nat.reduceLT, Int.toNat_zero, Nat.reduceLeDiff, Int.reduceEq, Int.reduceLT, Int.reduceLE]) (by first | exact .inr (Nat.zero_le _) | (left; simp only [push_cast, reduceCtorEq, Nat.reduceAdd, Nat.reduceMul, Nat.reduceSub, Nat.reduceBEq, Nat.reduceGT, Nat.reduceLT, Int.toNat_zero, Nat.reduceLeDiff, Int.reduceEq, Int.reduceLT, Int.reduceLE]; first | done | omega) | (right; simp only [push_cast, reduceCtorEq, Nat.reduceAdd, Nat.reduceMul, Nat.reduceSub, Nat.reduceBEq, Nat.reduceGT, Nat.reduceLT, Int.toNat_zero, Nat.reduceLeDiff, Int.reduceEq, Int.reduceLT, Int.reduceLE]; first | done | omega)) ?_; simp only [push_cast, reduceCtorEq, Nat.reduceAdd, Nat.reduceMul, Nat.reduceSub, Nat.reduceBEq, Nat.reduceGT, Nat.reduceLT, Int.toNat_zero, Nat.reduceLeDiff, Int.reduceEq, Int.reduceLT, Int.reduceLE])
                exact Into.sameA
            · have hm : (k : Int).tmod 3 = 1 := by rw [Int.tmod_eq_emod_of_nonneg (by omega)]; omega
              have hby : [byteAV 32, byteAV 9, byteAV 10] = List.map byteAV [32, 9, 10] := rfl
              have hbl : blL k = [32, 9] := by unfold blL; rw [if_neg (by omega), if_pos h3]
              rw [hbl] at ho2
              by_cases hqn : q ≤ n
              · have hqd : decide ((q : Int) ≤ (n : Int)) = true := decide_eq_true (by omega)
                rw [if_pos hqn] at hm2
                ((first | with_reducible refine holds_of_ex X 400 _ _ _ ?_ | skip); simp (maxSteps := 1000000) only [push_cast, reduceCtorEq, Nat.reduceAdd, Nat.reduceMul, Nat.reduceSub, Nat.reduceBEq, Nat.reduceGT, Nat.reduceLT, Int.toNat_zero, Nat.reduceLeDiff, Int.reduceEq, Int.reduceLT, Int.reduceLE, hP, hΓ, hL, hfin, String.reduceEq, not_false_eq_true, if_true, if_false, Int.toNat_one, Bool.not_not, tk_map, toNat2, hpd, hm, hqd])
                refine ⟨by omega, by omega, by omega, ⟨rfl, by omega⟩, ⟨(k + 1, o2 ++ [32, 9, 10], m2 + 1), hk', by simp only; rw [List.append_assoc]; exact ho2, by simp only; rw [if_pos hqn]; omega, by simp only [List.length_append, List.length_cons, List.length_nil]; omega, by simp only; omega⟩, by simp only; omega, ?_⟩
                dsimp only
                rw [wr_i64 ((k : Int) + 1) (by constructor <;> omega), wr_i64 ((m2 : Int) + 1) (by constructor <;> omega), hby, ← List.map_append, List.length_append]
                (refine IntoF.ver 0  0 (by simp only [push_cast, reduceCtorEq, Nat.reduceAdd, Nat.reduceMul, Nat.reduceSub, Nat.reduceBEq, Nat.reduceGT, Nat.reduceLT, Int.toNat_zero, Nat.reduceLeDiff, Int.reduceEq, Int.reduceLT, Int.reduceLE]) (by first | exact .inr (Nat.zero_le _) | (left; simp only [push_cast, reduceCtorEq, Nat.reduceAdd, Nat.reduceMul, Nat.reduceSub, Nat.reduceBEq, Nat.reduceGT, Nat.reduceLT, Int.toNat_zero, Nat.reduceLeDiff, Int.reduceEq, Int.reduceLT, Int.reduceLE]; first | done | omega) | (right; simp only [push_cast, reduceCtorEq, Nat.reduceAdd, Nat.reduceMul, Nat.reduceSub, Nat.reduceBEq, Nat.reduceGT, Nat.reduceLT, Int.toNat_zero, Nat.reduceLeDiff, Int.reduceEq, Int.reduceLT, Int.reduceLE]; first | done | omega)) ?_; simp only [push_cast, reduceCtorEq, Nat.reduceAdd, Nat.reduceMul, Nat.reduceSub, Nat.reduceBEq, Nat.reduceGT, Nat.reduceLT, Int.toNat_zero, Nat.reduceLeDiff, Int.reduceEq, Int.reduceLT, Int.reduceLE])
                exact Into.sameA
              · have hqd : decide ((q : Int) ≤ (n : Int)) = false := decide_eq_false (by omega)
                rw [if_neg hqn] at hm2
                ((first | with_reducible refine holds_of_ex X 400 _ _ _ ?_ | skip); simp (maxSteps := 1000000) only [push_cast, reduceCtorEq, Nat.reduceAdd, Nat.reduceMul, Nat.reduceSub, Nat.reduceBEq, Nat.reduceGT, Nat.reduceLT, Int.toNat_zero, Nat.reduceLeDiff, Int.reduceEq, Int.reduceLT, Int.reduceLE, hP, hΓ, hL, hfin, String.reduceEq, not_false_eq_true, if_true, if_false, Int.toNat_one, Bool.not_not, tk_map, toNat2, hpd, hm, hqd])
                refine ⟨by omega, by omega, by omega, ⟨rfl, by omega⟩, ⟨(k + 1, o2 ++ [32, 9, 10], m2), hk', by simp only; rw [List.append_assoc]; exact ho2, by simp only; rw [if_neg hqn]; omega, by simp only [List.length_append, List.length_cons, List.length_nil]; omega, by simp only; omega⟩, by simp only; omega, ?_⟩
                dsimp only
                rw [wr_i64 ((k : Int) + 1) (by constructor <;> omega), hby, ← List.map_append, List.length_append]
                (refine IntoF.ver 0  0 (by simp only [push_cast, reduceCtorEq, Nat.reduceAdd, Nat.reduceMul, Nat.reduceSub, Nat.reduceBEq, Nat.reduceGT, Nat.reduceLT, Int.toNat_zero, Nat.reduceLeDiff, Int.reduceEq, Int.reduceLT, Int.reduceLE]) (by first | exact .inr (Nat.zero_le _) | (left; simp only [push_cast, reduceCtorEq, Nat.reduceAdd, Nat.reduceMul, Nat.reduceSub, Nat.reduceBEq, Nat.reduceGT, Nat.reduceLT, Int.toNat_zero, Nat.reduceLeDiff, Int.reduceEq, Int.reduceLT, Int.reduceLE]; first | done | omega) | (right; simp only [push_cast, reduceCtorEq, Nat.reduceAdd, Nat.reduceMul, Nat.reduceSub, Nat.reduceBEq, Nat.reduceGT, Nat.reduceLT, Int.toNat_zero, Nat.reduceLeDiff, Int.reduceEq, Int.reduceLT, Int.reduceLE]; first | done | omega)) ?_; simp only [push_cast, reduceCtorEq, Nat.reduceAdd, Nat.reduceMul, Nat.reduceSub, Nat.reduceBEq, Nat.reduceGT, Nat.reduceLT, Int.toNat_zero, Nat.reduceLeDiff, Int.reduceEq, Int.reduceLT, Int.reduceLE])
                exact Into.sameA
            · have hm : (k : Int).tmod 3 = 2 := by rw [Int.tmod_eq_emod_of_nonneg (by omega)]; omega
              have hby : [byteAV 13, byteAV 10] = List.map byteAV [13, 10] := rfl
              have hbl : blL k = [13] := by unfold blL; rw [if_neg (by omega), if_neg (by omega)]
              rw [hbl] at ho2
              by_cases hqn : q ≤ n
              · have hqd : decide ((q : Int) ≤ (n : Int)) = true := decide_eq_true (by omega)
                rw [if_pos hqn] at hm2
                ((first | with_reducible refine holds_of_ex X 400 _ _ _ ?_ | skip); simp (maxSteps := 1000000) only [push_cast, reduceCtorEq, Nat.reduceAdd, Nat.reduceMul, Nat.reduceSub, Nat.reduceBEq, Nat.reduceGT, Nat.reduceLT, Int.toNat_zero, Nat.reduceLeDiff, Int.reduceEq, Int.reduceLT, Int.reduceLE, hP, hΓ, hL, hfin, String.reduceEq, not_false_eq_true, if_true, if_false, Int.toNat_one, Bool.not_not, tk_map, toNat2, hpd, hm, hqd])
                refine ⟨by omega, by omega, by omega, ⟨rfl, by omega⟩, ⟨(k + 1, o2 ++ [13, 10], m2 + 1), hk', by simp only; rw [List.append_assoc]; exact ho2, by simp only; rw [if_pos hqn]; omega, by simp only [List.length_append, List.length_cons, List.length_nil]; omega, by simp only; omega⟩, by simp only; omega, ?_⟩
                dsimp only
                rw [wr_i64 ((k : Int) + 1) (by constructor <;> omega), wr_i64 ((m2 : Int) + 1) (by constructor <;> omega), hby, ← List.map_append, List.length_append]
                (refine IntoF.ver 0  0 (by simp only [push_cast, reduceCtorEq, Nat.reduceAdd, Nat.reduceMul, Nat.reduceSub, Nat.reduceBEq, Nat.reduceGT, Nat.reduceLT, Int.toNat_zero, Nat.reduceLeDiff, Int.reduceEq, Int.reduceLT, Int.reduceLE]) (by first | exact .inr (Nat.zero_le _) | (left; simp only [push_cast, reduceCtorEq, Nat.reduceAdd, Nat.reduceMul, Nat.reduceSub, Nat.reduceBEq, Nat.reduceGT, Nat.reduceLT, Int.toNat_zero, Nat.reduceLeDiff, Int.reduceEq, Int.reduceLT, Int.reduceLE]; first | done | omega) | (right; simp only [push_cast, reduceCtorEq, Nat.reduceAdd, Nat.reduceMul, Nat.reduceSub, Nat.reduceBEq, Nat.reduceGT, Nat.reduceLT, Int.toNat_zero, Nat.reduceLeDiff, Int.reduceEq, Int.reduceLT, Int.reduceLE]; first | done | omega)) ?_; simp only [push_cast, reduceCtorEq, Nat.reduceAdd, Nat.reduceMul, Nat.reduceSub, Nat.reduceBEq, Nat.reduceGT, Nat.reduceLT, Int.toNat_zero, Nat.reduceLeDiff, Int.reduceEq, Int.reduceLT, Int.reduceLE])
                exact Into.sameA
              · have hqd : decide ((q : Int) ≤ (n : Int)) = false := decide_eq_false (by omega)
                rw [if_neg hqn] at hm2
                ((first | with_reducible refine holds_of_ex X 400 _ _ _ ?_ | skip); simp (maxSteps := 1000000) only [push_cast, reduceCtorEq, Nat.reduceAdd, Nat.reduceMul, Nat.reduceSub, Nat.reduceBEq, Nat.reduceGT, Nat.reduceLT, Int.toNat_zero, Nat.reduceLeDiff, Int.reduceEq, Int.reduceLT, Int.reduceLE, hP, hΓ, hL, hfin, String.reduceEq, not_false_eq_true, if_true, if_false, Int.toNat_one, Bool.not_not, tk_map, toNat2, hpd, hm, hqd])
                refine ⟨by omega, by omega, by omega, ⟨rfl, by omega⟩, ⟨(k + 1, o2 ++ [13, 10], m2), hk', by simp only; rw [List.append_assoc]; exact ho2, by simp only; rw [if_neg hqn]; omega, by simp only [List.length_append, List.length_cons, List.length_nil]; omega, by simp only; omega⟩, by simp only; omega, ?_⟩
                dsimp only
                rw [wr_i64 ((k : Int) + 1) (by constructor <;> omega), hby, ← List.map_append, List.length_append]
                (refine IntoF.ver 0  0 (by simp only [push_cast, reduceCtorEq, Nat.reduceAdd, Nat.reduceMul, Nat.reduceSub, Nat.reduceBEq, Nat.reduceGT, Nat.reduceLT, Int.toNat_zero, Nat.reduceLeDiff, Int.reduceEq, Int.reduceLT, Int.reduceLE]) (by first | exact .inr (Nat.zero_le _) | (left; simp only [push_cast, reduceCtorEq, Nat.reduceAdd, Nat.reduceMul, Nat.reduceSub, Nat.reduceBEq, Nat.reduceGT, Nat.reduceLT, Int.toNat_zero, Nat.reduceLeDiff, Int.reduceEq, Int.reduceLT, Int.reduceLE]; first | done | omega) | (right; simp only [push_cast, reduceCtorEq, Nat.reduceAdd, Nat.reduceMul, Nat.reduceSub, Nat.reduceBEq, Nat.reduceGT, Nat.reduceLT, Int.toNat_zero, Nat.reduceLeDiff, Int.reduceEq, Int.reduceLT, Int.reduceLE]; first | done | omega)) ?_; simp only [push_cast, reduceCtorEq, Nat.reduceAdd, Nat.reduceMul, Nat.reduceSub, Nat.reduceBEq, Nat.reduceGT, Nat.reduceLT, Int.toNat_zero, Nat.reduceLeDiff, Int.reduceEq, Int.reduceLT, Int.reduceLE])
                exact Into.sameA
          · rw [if_neg hpk] at ho2 hm2
            have hpd : decide (ps.getD k default = (q : Int)) = false := decide_eq_false hpk
            rw [List.nil_append] at ho2
            rw [Nat.zero_add] at hm2
            ((first | with_reducible refine holds_of_ex X 400 _ _ _ ?_ | skip); simp (maxSteps := 1000000) only [push_cast, reduceCtorEq, Nat.reduceAdd, Nat.reduceMul, Nat.reduceSub, Nat.reduceBEq, Nat.reduceGT, Nat.reduceLT, Int.toNat_zero, Nat.reduceLeDiff, Int.reduceEq, Int.reduceLT, Int.reduceLE, hP, hΓ, hL, hfin, String.reduceEq, not_false_eq_true, if_true, if_false, Int.toNat_one, Bool.not_not, tk_map, toNat2, hpd])
            refine ⟨by omega, by omega, ⟨(k + 1, o2, m2), hk', ho2, hm2, by simp only; omega, by simp only; omega⟩, by simp only; omega, ?_⟩
            dsimp only
            rw [wr_i64 ((k : Int) + 1) (by constructor <;> omega)]
            exact Into.sameA
        · obtain rfl : k = ps.length := by omega
          rw [List.drop_length] at ho2 hm2
          have ho3 : o2 = out ++ insT q 0 ps := by rw [← ho2]; simp [insT]
          have hm4 : m2 = m + if q ≤ n then cntT q ps else 0 := by rw [← hm2]; simp [cntT]
          have hb2 : [byteAV 32, byteAV 9] = List.map byteAV [32, 9] := rfl
          have hb1 : [AV.int .u8 10] = List.map byteAV [10] := rfl
          by_cases hil : i < s.length
          · have dil : decide ((i : Int) < ((s.length : Nat) : Int)) = true := decide_eq_true (by omega)
            have hRn := hR1 hil
            obtain ⟨r1, r2, hrr⟩ := List.exists_cons_of_ne_nil (Go.Lines.pieces_ne 10 (s.drop (i + 1)))
            ((first | with_reducible refine holds_of_ex X 400 _ _ _ ?_ | skip); simp (maxSteps := 1000000) only [push_cast, reduceCtorEq, Nat.reduceAdd, Nat.reduceMul, Nat.reduceSub, Nat.reduceBEq, Nat.reduceGT, Nat.reduceLT, Int.toNat_zero, Nat.reduceLeDiff, Int.reduceEq, Int.reduceLT, Int.reduceLE, hP, hΓ, hL, hfin, String.reduceEq, not_false_eq_true, if_true, if_false, Int.toNat_one, Bool.not_not, tk_map, toNat2, hxe, dil])
            refine ⟨⟨rfl, by omega⟩, ⟨by omega, by omega⟩, by omega, by omega, ⟨(i + 1, i + 1, q + 1, o2 ++ [32, 9] ++ x ++ [10], m2), by simp only; omega, by simp only; omega, by simp only [List.length_append, List.length_cons, List.length_nil]; omega, by simp only; omega, fun h => ?_, fun h => by simp only at h; omega⟩, by simp only; omega, ?_⟩
            · simp only at h ⊢
              refine ⟨Nat.le_refl _, gap_nil _ _ _, ?_, ?_⟩
              · rw [hT, hRn, hrr, tailT, ho3]; simp
              · rw [hMm, hRn, hm4]; omega
            dsimp only
            rw [wr_i64 ((i : Int) + 1) (by constructor <;> omega), wr_i64 ((q : Int) + 1) (by constructor <;> omega), hb2, hb1, ← List.map_append, ← List.map_append, ← List.map_append, List.length_append, List.length_append, List.length_append]
            (refine IntoF.ver 0  0 (by simp only [push_cast, reduceCtorEq, Nat.reduceAdd, Nat.reduceMul, Nat.reduceSub, Nat.reduceBEq, Nat.reduceGT, Nat.reduceLT, Int.toNat_zero, Nat.reduceLeDiff, Int.reduceEq, Int.reduceLT, Int.reduceLE]) (by first | exact .inr (Nat.zero_le _) | (left; simp only [push_cast, reduceCtorEq, Nat.reduceAdd, Nat.reduceMul, Nat.reduceSub, Nat.reduceBEq, Nat.reduceGT, Nat.reduceLT, Int.toNat_zero, Nat.reduceLeDiff, Int.reduceEq, Int.reduceLT, Int.reduceLE]; first | done | omega) | (right; simp only [push_cast, reduceCtorEq, Nat.reduceAdd, Nat.reduceMul, Nat.reduceSub, Nat.reduceBEq, Nat.reduceGT, Nat.reduceLT, Int.toNat_zero, Nat.reduceLeDiff, Int.reduceEq, Int.reduceLT, Int.reduceLE]; first | done | omega)) ?_; simp only [push_cast, reduceCtorEq, Nat.reduceAdd, Nat.reduceMul, Nat.reduceSub, Nat.reduceBEq, Nat.reduceGT, Nat.reduceLT, Int.toNat_zero, Nat.reduceLeDiff, Int.reduceEq, Int.reduceLT, Int.reduceLE])
            exact Into.sameA
          · have dil : decide ((i : Int) < ((s.length : Nat) : Int)) = false := decide_eq_false (by omega)
            have hRn := hR2 (by omega)
            ((first | with_reducible refine holds_of_ex X 400 _ _ _ ?_ | skip); simp (maxSteps := 1000000) only [push_cast, reduceCtorEq, Nat.reduceAdd, Nat.reduceMul, Nat.reduceSub, Nat.reduceBEq, Nat.reduceGT, Nat.reduceLT, Int.toNat_zero, Nat.reduceLeDiff, Int.reduceEq, Int.reduceLT, Int.reduceLE, hP, hΓ, hL, hfin, String.reduceEq, not_false_eq_true, if_true, if_false, Int.toNat_one, Bool.not_not, tk_map, toNat2, hxe, dil])
            refine ⟨⟨rfl, by omega⟩, ⟨by omega, by omega⟩, by omega, ⟨(i + 1, i + 1, q + 1, o2 ++ [32, 9] ++ x, m2), by simp only; omega, by simp only; omega, by simp only [List.length_append, List.length_cons, List.length_nil]; omega, by simp only; omega, fun h => by simp only at h; omega, fun h => ?_⟩, by simp only; omega, ?_⟩
            · simp only
              refine ⟨?_, ?_⟩
              · rw [hT, hRn, tailT, ho3]; simp
              · rw [hMm, hRn, hm4]; rfl
            dsimp only
            rw [wr_i64 ((i : Int) + 1) (by constructor <;> omega), wr_i64 ((q : Int) + 1) (by constructor <;> omega), hb2, ← List.map_append, ← List.map_append, List.length_append, List.length_append]
            (refine IntoF.ver 0  0 (by simp only [push_cast, reduceCtorEq, Nat.reduceAdd, Nat.reduceMul, Nat.reduceSub, Nat.reduceBEq, Nat.reduceGT, Nat.reduceLT, Int.toNat_zero, Nat.reduceLeDiff, Int.reduceEq, Int.reduceLT, Int.reduceLE]) (by first | exact .inr (Nat.zero_le _) | (left; simp only [push_cast, reduceCtorEq, Nat.reduceAdd, Nat.reduceMul, Nat.reduceSub, Nat.reduceBEq, Nat.reduceGT, Nat.reduceLT, Int.toNat_zero, Nat.reduceLeDiff, Int.reduceEq, Int.reduceLT, Int.reduceLE]; first | done | omega) | (right; simp only [push_cast, reduceCtorEq, Nat.reduceAdd, Nat.reduceMul, Nat.reduceSub, Nat.reduceBEq, Nat.reduceGT, Nat.reduceLT, Int.toNat_zero, Nat.reduceLeDiff, Int.reduceEq, Int.reduceLT, Int.reduceLE]; first | done | omega)) ?_; simp only [push_cast, reduceCtorEq, Nat.reduceAdd, Nat.reduceMul, Nat.reduceSub, Nat.reduceBEq, Nat.reduceGT, Nat.reduceLT, Int.toNat_zero, Nat.reduceLeDiff, Int.reduceEq, Int.reduceLT, Int.reduceLE])
            exact Into.sameA
    · obtain rfl : i = s.length + 1 := by omega
      obtain ⟨hT, hMm⟩ := hend rfl
      subst hT hMm
      by_cases hbt : 65536 < TT.length
      · have dbt : decide (65536 < ((TT.length : Nat) : Int)) = true := decide_eq_true (by omega)
        ((first | with_reducible refine holds_of_ex X 400 _ _ _ ?_ | skip); simp (maxSteps := 1000000) only [push_cast, reduceCtorEq, Nat.reduceAdd, Nat.reduceMul, Nat.reduceSub, Nat.reduceBEq, Nat.reduceGT, Nat.reduceLT, Int.toNat_zero, Nat.reduceLeDiff, Int.reduceEq, Int.reduceLT, Int.reduceLE, hP, hΓ, hL, hfin, String.reduceEq, not_false_eq_true, if_true, if_false, Int.toNat_one, Bool.not_not, tk_map, toNat2, dbt])
        exact Into.one rfl rfl
      · have dbt : decide (65536 < ((TT.length : Nat) : Int)) = false := decide_eq_false (by omega)
        have hlp := loose_prs (ps := ps) hs6 (by rw [← hTT]; omega)
        rw [← hTT] at hlp
        have htl : TT.length ≤ 4194303 := by omega
        have hq : prsR TT = .ok W := (by rcases hlp with ⟨ws, h1, h2⟩ | ⟨k, h1, _⟩; rw [hp] at h1; cases h1; exact h2; rw [hp] at h1; cases h1); have hy := prA_ok hq; have hzA := hy.1; have hzG := hy.2.1; have hww : (W == W) = true := beq_iff_eq.2 rfl; have hWl : W.length ≤ 4194304 := (by have := (prs_rng hp).2; omega); subst hn0 her; ((first | with_reducible refine holds_of_ex X 400 _ _ _ ?_ | skip); simp (maxSteps := 1000000) only [push_cast, reduceCtorEq, Nat.reduceAdd, Nat.reduceMul, Nat.reduceSub, Nat.reduceBEq, Nat.reduceGT, Nat.reduceLT, Int.toNat_zero, Nat.reduceLeDiff, Int.reduceEq, Int.reduceLT, Int.reduceLE, hP, hΓ, hL, hfin, String.reduceEq, not_false_eq_true, if_true, if_false, Int.toNat_one, Bool.not_not, tk_map, toNat2, dbt, h12, htl, hzA, hzG, h14, hww, hWl]); exact Into.one rfl rfl
  · have hx := prA_no hp; have hpA : prA s = .tup [.sl [] 0, .int .i64 n, .int .i64 er] := (by rw [hx.1, her]); have hpG := hx.2.1
    (intro X hP hΓ hL hfin; refine ⟨_, rfl, ?_⟩; rw [show Tryz.f5.ntmps = 133 from rfl]; rw [show Tryz.f5.results.toList = [.tmp 4] from rfl] at hfin; apply holds_of_ex X 400; simp (maxSteps := 1000000) only [push_cast, reduceCtorEq, Nat.reduceAdd, Nat.reduceMul, Nat.reduceSub, Nat.reduceBEq, Nat.reduceGT, Nat.reduceLT, Int.toNat_zero, Nat.reduceLeDiff, Int.reduceEq, Int.reduceLT, Int.reduceLE, hP, hΓ, hL, hfin, String.reduceEq, not_false_eq_true, if_true, if_false, Int.toNat_one, Bool.not_not, tk_map, toNat2, h11, hd, h12, hs, hpA, hpG])
    refine Holds.loopM (ι := {x : Nat × Nat × Nat × List UInt8 × Nat // x.1 ≤ s.length + 1 ∧ (1 ≤ x.2.2.1 ∧ x.2.2.1 ≤ x.1 + 1) ∧ x.2.2.2.1.length ≤ 100000 * x.2.2.1 ∧ x.2.2.2.2 ≤ 1000 * x.2.2.1 ∧ (x.1 ≤ s.length → x.2.1 ≤ x.1 ∧ gap 10 s x.2.1 x.1 ∧ TT = x.2.2.2.1 ++ looseT ps x.2.2.1 (pieces 10 (s.drop x.2.1)) ∧ M = x.2.2.2.2 + mvT ps n x.2.2.1 (pieces 10 (s.drop x.2.1)).length) ∧ (x.1 = s.length + 1 → TT = x.2.2.2.1 ∧ M = x.2.2.2.2)}) [true, true, false, false, true, false, false, false, false, true, true, true, false, false, false, true, true, true, false, false, false, false, false, false, false, false, false, false, false, false, false, false, false, false, false, false, false, false, false, false, false, false, false, false, false, false, false, false, false, false, false, false, false, false, false, false, false, false, false, false, false, false, false, false, false, false, false, false, false, false, false, false, false, false, false, false, false, false, false, false, false, false, false, false, false, false, false, false, false, false, false, false, false, false, false, false, false, false, false, false, false, false, false, false, false, false, false, false, false, false, false, false, false, false, false, false, false, false, false, false, false, false, false, false, false, false, false, false, false, false, false, false, false] (fun i => [(13, .int .i64 i.1.1), (12, .int .i64 i.1.2.1), (7, .int .i64 i.1.2.2.1), (8, .int .i64 i.1.2.2.2.2), (6, .msl 0 0 0 i.1.2.2.2.1.length), (9, .sl (W.map (AV.int .u32)) W.length)]) (fun i => [.row (i.1.2.2.2.1.map byteAV) 1 0]) (fun i => s.length + 1 - i.1.1) ⟨(0, 0, 1, [], 0), Nat.zero_le _, ⟨Nat.le_refl _, Nat.le_refl _⟩, Nat.zero_le _, Nat.zero_le _, fun _ => ⟨Nat.le_refl _, gap_nil _ _ _, hTT, by rw [hMM]; simp⟩, fun h => by simp only at h; omega⟩ ?_ ?_
    · rw [hL]; simp only [push_cast, Int.natCast_zero]
      subst hW; simp only [Int.zero_add]; (refine IntoF.nil 6  1 rfl ?_; simp only [push_cast, reduceCtorEq, Nat.reduceAdd, Nat.reduceMul, Nat.reduceSub, Nat.reduceBEq, Nat.reduceGT, Nat.reduceLT, Int.toNat_zero, Nat.reduceLeDiff, Int.reduceEq, Int.reduceLT, Int.reduceLE]); exact Into.sameA
    rintro ⟨⟨i, fr, q, out, m⟩, hi, ⟨hq1, hq⟩, hol, hml, hmid, hend⟩
    simp only at hi hq1 hq hol hml hmid hend
    ((first | with_reducible refine holds_of_ex X 400 _ _ _ ?_ | skip); simp (maxSteps := 1000000) only [push_cast, reduceCtorEq, Nat.reduceAdd, Nat.reduceMul, Nat.reduceSub, Nat.reduceBEq, Nat.reduceGT, Nat.reduceLT, Int.toNat_zero, Nat.reduceLeDiff, Int.reduceEq, Int.reduceLT, Int.reduceLE, hP, hΓ, hL, hfin, String.reduceEq, not_false_eq_true, if_true, if_false, Int.toNat_one, Bool.not_not, tk_map, toNat2])
    ((with_reducible refine exB_split (fun h => ?_) (fun h => ?_)) <;> (try simp only [decide_eq_true_eq, decide_eq_false_iff_not, Bool.and_eq_true, Bool.or_eq_true, Bool.and_eq_false_iff, Bool.or_eq_false_iff, Bool.not_eq_true', Bool.not_eq_false', Bool.not_eq_true, Bool.not_eq_false, Int.not_lt, Int.not_le, beq_iff_eq, beq_eq_false_iff_ne, ne_eq] at h))
    · have hi' : i ≤ s.length := by omega
      obtain ⟨hf, hgp, hT, hMm⟩ := hmid hi'
      have c10 := u8_eq (x := s.getD i 0) 10 rfl
      by_cases hc : i < s.length ∧ s.getD i 0 ≠ 10
      · have hcd : (decide ((i : Int) < ((s.length : Nat) : Int)) && !decide (((s.getD i 0).toNat : Int) = 10)) = true := by
          simp only [Bool.and_eq_true, decide_eq_true_eq, Bool.not_eq_true', decide_eq_false_iff_not]
          exact ⟨by omega, fun h => hc.2 (c10.1 h)⟩
        ((first | with_reducible refine holds_of_ex X 400 _ _ _ ?_ | skip); simp (maxSteps := 1000000) only [push_cast, reduceCtorEq, Nat.reduceAdd, Nat.reduceMul, Nat.reduceSub, Nat.reduceBEq, Nat.reduceGT, Nat.reduceLT, Int.toNat_zero, Nat.reduceLeDiff, Int.reduceEq, Int.reduceLT, Int.reduceLE, hP, hΓ, hL, hfin, String.reduceEq, not_false_eq_true, if_true, if_false, Int.toNat_one, Bool.not_not, tk_map, toNat2, hcd])
        refine ⟨fun h => by first | omega | (simp only [decide_eq_true_eq] at h; omega), ⟨(i + 1, fr, q, out, m), by simp only; omega, by simp only; omega, by simp only; omega, by simp only; omega, fun h => ?_, fun h => by simp only at h; omega⟩, by simp only; omega, ?_⟩
        · simp only at h ⊢
          exact ⟨by omega, gap_snoc hgp hc.2, hT, hMm⟩
        dsimp only
        rw [wr_i64 ((i : Int) + 1) (by constructor <;> omega)]
        exact Into.sameA
      · have hcd : (decide ((i : Int) < ((s.length : Nat) : Int)) && !decide (((s.getD i 0).toNat : Int) = 10)) = false := by
          rw [Bool.eq_false_iff]; intro h'
          simp only [Bool.and_eq_true, decide_eq_true_eq, Bool.not_eq_true', decide_eq_false_iff_not] at h'
          exact hc ⟨by omega, fun h => h'.2 (c10.2 h)⟩
        have hxl : ((s.take i).drop fr).length ≤ 65536 := by rw [List.length_drop, List.length_take]; omega
        obtain ⟨R, hR, hR1, hR2⟩ : ∃ R, pieces 10 (s.drop fr) = (s.take i).drop fr :: R ∧ (i < s.length → R = pieces 10 (s.drop (i + 1))) ∧ (i = s.length → R = []) := by
          by_cases h : i < s.length
          · have h10 : s.getD i 0 = 10 := by
              by_cases h' : s.getD i 0 = 10
              · exact h'
              · exact absurd ⟨h, h'⟩ hc
            exact ⟨_, pc_at hgp hf h h10, fun _ => rfl, fun h' => by omega⟩
          · obtain rfl : i = s.length := by omega
            exact ⟨[], by rw [pc_end hgp, List.take_length], fun h' => absurd h' h, fun _ => rfl⟩
        rw [hR, loose_cons] at hT
        rw [hR, List.length_cons, mvT] at hMm
        generalize hxe : (s.take i).drop fr = x at *
        ((first | with_reducible refine holds_of_ex X 400 _ _ _ ?_ | skip); simp (maxSteps := 1000000) only [push_cast, reduceCtorEq, Nat.reduceAdd, Nat.reduceMul, Nat.reduceSub, Nat.reduceBEq, Nat.reduceGT, Nat.reduceLT, Int.toNat_zero, Nat.reduceLeDiff, Int.reduceEq, Int.reduceLT, Int.reduceLE, hP, hΓ, hL, hfin, String.reduceEq, not_false_eq_true, if_true, if_false, Int.toNat_one, Bool.not_not, tk_map, toNat2, hcd])
        refine ⟨fun h => by first | omega | (simp only [decide_eq_true_eq] at h; omega), ?_⟩
        refine Holds.loopM (ι := {x : Nat × List UInt8 × Nat // x.1 ≤ ps.length ∧ x.2.1 ++ insT q x.1 (ps.drop x.1) = out ++ insT q 0 ps ∧ x.2.2 + (if q ≤ n then cntT q (ps.drop x.1) else 0) = m + (if q ≤ n then cntT q ps else 0) ∧ x.2.1.length ≤ out.length + 4 * x.1 ∧ x.2.2 ≤ m + x.1}) [true, true, false, false, true, false, false, true, false, true, true, true, true, true, false, true, true, true, false, false, false, false, false, false, false, false, false, false, false, false, false, false, false, false, false, false, false, false, false, false, false, false, false, false, false, false, false, false, false, false, false, false, false, false, false, false, false, false, false, false, false, false, false, false, false, false, false, false, false, false, false, false, false, false, false, false, false, false, false, false, false, false, false, false, false, false, false, false, false, false, false, false, false, false, false, false, false, false, false, false, false, false, false, false, false, false, false, false, false, false, false, false, false, false, false, false, false, false, false, false, false, false, false, false, false, false, false, false, false, false, false, false, false] (fun i => [(14, .int .i64 i.1.1), (6, .msl 0 0 0 i.1.2.1.length), (8, .int .i64 i.1.2.2)]) (fun i => [.row (i.1.2.1.map byteAV) 1 0]) (fun i => ps.length - i.1.1) ⟨(0, out, m), Nat.zero_le _, by rw [List.drop_zero], by rw [List.drop_zero], Nat.le_refl _, Nat.le_refl _⟩ ?_ ?_
        · (rw [hL]; simp only [push_cast, Int.natCast_zero]; exact Into.sameA)
        rintro ⟨⟨k, o2, m2⟩, hk, ho2, hm2, hl2, hm3⟩
        simp only at hk ho2 hm2 hl2 hm3
        ((first | with_reducible refine holds_of_ex X 400 _ _ _ ?_ | skip); simp (maxSteps := 1000000) only [push_cast, reduceCtorEq, Nat.reduceAdd, Nat.reduceMul, Nat.reduceSub, Nat.reduceBEq, Nat.reduceGT, Nat.reduceLT, Int.toNat_zero, Nat.reduceLeDiff, Int.reduceEq, Int.reduceLT, Int.reduceLE, hP, hΓ, hL, hfin, String.reduceEq, not_false_eq_true, if_true, if_false, Int.toNat_one, Bool.not_not, tk_map, toNat2])
        ((with_reducible refine exB_split (fun h => ?_) (fun h => ?_)) <;> (try simp only [decide_eq_true_eq, decide_eq_false_iff_not, Bool.and_eq_true, Bool.or_eq_true, Bool.and_eq_false_iff, Bool.or_eq_false_iff, Bool.not_eq_true', Bool.not_eq_false', Bool.not_eq_true, Bool.not_eq_false, Int.not_lt, Int.not_le, beq_iff_eq, beq_eq_false_iff_ne, ne_eq] at h))
        · have hk' : k < ps.length := by omega
          obtain ⟨hd1, hd2⟩ := ins_drop (q := q) hk'
          rw [hd1] at ho2
          rw [hd2] at hm2
          by_cases hpk : ps.getD k 0 = (q : Int)
          · rw [if_pos hpk] at ho2 hm2
            have hpd : decide (ps.getD k default = (q : Int)) = true := decide_eq_true hpk
            have h3 : k % 3 = 0 ∨ k % 3 = 1 ∨ k % 3 = 2 := by omega
            rcases h3 with h3 | h3 | h3
            · have hm : (k : Int).tmod 3 = 0 := by rw [Int.tmod_eq_emod_of_nonneg (by omega)]; omega
              have hby : [byteAV 59, byteAV 32, byteAV 120, byteAV 10] = List.map byteAV [59, 32, 120, 10] := rfl
              have hbl : blL k = [59, 32, 120] := by unfold blL; rw [if_pos h3]
              rw [hbl] at ho2
              by_cases hqn : q ≤ n
              · have hqd : decide ((q : Int) ≤ (n : Int)) = true := decide_eq_true (by omega)
                rw [if_pos hqn] at hm2
                ((first | with_reducible refine holds_of_ex X 400 _ _ _ ?_ | skip); simp (maxSteps := 1000000) only [push_cast, reduceCtorEq, Nat.reduceAdd, Nat.reduceMul, Nat.reduceSub, Nat.reduceBEq, Nat.reduceGT, Nat.reduceLT, Int.toNat_zero, Nat.reduceLeDiff, Int.reduceEq, Int.reduceLT, Int.reduceLE, hP, hΓ, hL, hfin, String.reduceEq, not_false_eq_true, if_true, if_false, Int.toNat_one, Bool.not_not, tk_map, toNat2, hpd, hm, hqd])
                refine ⟨by omega, by omega, by omega, ⟨rfl, by omega⟩, ⟨(k + 1, o2 ++ [59, 32, 120, 10], m2 + 1), hk', by simp only; rw [List.append_assoc]; exact ho2, by simp only; rw [if_pos hqn]; omega, by simp only [List.length_append, List.length_cons, List.length_nil]; omega, by simp only; omega⟩, by simp only; omega, ?_⟩
                dsimp only
                rw [wr_i64 ((k : Int) + 1) (by constructor <;> omega), wr_i64 ((m2 : Int) + 1) (by constructor <;> omega), hby, ← List.map_append, List.length_append]
                (refine IntoF.ver 0  0 (by simp only [push_cast, reduceCtorEq, Nat.reduceAdd, Nat.reduceMul, Nat.reduceSub, Nat.reduceBEq, Nat.reduceGT, Nat.reduceLT, Int.toNat_zero, Nat.reduceLeDiff, Int.reduceEq, Int.reduceLT, Int.reduceLE]) (by first | exact .inr (Nat.zero_le _) | (left; simp only [push_cast, reduceCtorEq, Nat.reduceAdd, Nat.reduceMul, Nat.reduceSub, Nat.reduceBEq, Nat.reduceGT, Nat.reduceLT, Int.toNat_zero, Nat.reduceLeDiff, Int.reduceEq, Int.reduceLT, Int.reduceLE]; first | done | omega) | (right; simp only [push_cast, reduceCtorEq, Nat.reduceAdd, Nat.reduceMul, Nat.reduceSub, Nat.reduceBEq, Nat.reduceGT, Nat.reduceLT, Int.toNat_zero, Nat.reduceLeDiff, Int.reduceEq, Int.reduceLT, Int.reduceLE]; first | done | omega)) ?_; simp only [push_cast, reduceCtorEq, Nat.reduceAdd, Nat.reduceMul, Nat.reduceSub, Nat.reduceBEq, Nat.reduceGT, Nat.reduceLT, Int.toNat_zero, Nat.reduceLeDiff, Int.reduceEq, Int.reduceLT, Int.reduceLE])
                exact Into.sameA
              · have hqd : decide ((q : Int) ≤ (n : Int)) = false := decide_eq_false (by omega)
                rw [if_neg hqn] at hm2
                ((first | with_reducible refine holds_of_ex X 400 _ _ _ ?_ | skip); simp (maxSteps := 1000000) only [push_cast, reduceCtorEq, Nat.reduceAdd, Nat.reduceMul, Nat.reduceSub, Nat.reduceBEq, Nat.reduceGT, Nat.reduceLT, Int.toNat_zero, Nat.reduceLeDiff, Int.reduceEq, Int.reduceLT, Int.reduceLE, hP, hΓ, hL, hfin, String.reduceEq, not_false_eq_true, if_true, if_false, Int.toNat_one, Bool.not_not, tk_map, toNat2, hpd, hm, hqd])
                refine ⟨by omega, by omega, by omega, ⟨rfl, by omega⟩, ⟨(k + 1, o2 ++ [59, 32, 120, 10], m2), hk', by simp only; rw [List.append_assoc]; exact ho2, by simp only; rw [if_neg hqn]; omega, by simp only [List.length_append, List.length_cons, List.length_nil]; omega, by simp only; omega⟩, by simp only; omega, ?_⟩
                dsimp only
                rw [wr_i64 ((k : Int) + 1) (by constructor <;> omega), hby, ← List.map_append, List.length_append]
                (refine IntoF.ver 0  0 (by simp only [push_cast, reduceCtorEq, Nat.reduceAdd, Nat.reduceMul, Nat.reduceSub, Nat.reduceBEq, Nat.reduceGT, Nat.reduceLT, Int.toNat_zero, Nat.reduceLeDiff, Int.reduceEq, Int.reduceLT, Int.reduceLE]) (by first | exact .inr (Nat.zero_le _) | (left; simp only [push_cast, reduceCtorEq, Nat.reduceAdd, Nat.reduceMul, Nat.reduceSub, Nat.reduceBEq, Nat.reduceGT, Nat.reduceLT, Int.toNat_zero, Nat.reduceLeDiff, Int.reduceEq, Int.reduceLT, Int.reduceLE]; first | done | omega) | (right; simp only [push_cast, reduceCtorEq, Nat.reduceAdd, Nat.reduceMul, Nat.reduceSub, Nat.reduceBEq, Nat.reduceGT, Nat.reduceLT, Int.toNat_zero, Nat.reduceLeDiff, Int.reduceEq, Int.reduceLT, Int.reduceLE]; first | done | omega)) ?_; simp only [push_cast, reduceCtorEq, Nat.reduceAdd, Nat.reduceMul, Nat.reduceSub, Nat.reduceBEq, Nat.reduceGT, Nat.reduceLT, Int.toNat_zero, Nat.reduceLeDiff, Int.reduceEq, Int.reduceLT, Int.reduceLE])
                exact Into.sameA
            · have hm : (k : Int).tmod 3 = 1 := by rw [Int.tmod_eq_emod_of_nonneg (by omega)]; omega
              have hby : [byteAV 32, byteAV 9, byteAV 10] = List.map byteAV [32, 9, 10] := rfl
              have hbl : blL k = [32, 9] := by unfold blL; rw [if_neg (by omega), if_pos h3]
              rw [hbl] at ho2
              by_cases hqn : q ≤ n
              · have hqd : decide ((q : Int) ≤ (n : Int)) = true := decide_eq_true (by omega)
                rw [if_pos hqn] at hm2
                ((first | with_reducible refine holds_of_ex X 400 _ _ _ ?_ | skip); simp (maxSteps := 1000000) only [push_cast, reduceCtorEq, Nat.reduceAdd, Nat.reduceMul, Nat.reduceSub, Nat.reduceBEq, Nat.reduceGT, Nat.reduceLT, Int.toNat_zero, Nat.reduceLeDiff, Int.reduceEq, Int.reduceLT, Int.reduceLE, hP, hΓ, hL, hfin, String.reduceEq, not_false_eq_true, if_true, if_false, Int.toNat_one, Bool.not_not, tk_map, toNat2, hpd, hm, hqd])
                refine ⟨by omega, by omega, by omega, ⟨rfl, by omega⟩, ⟨(k + 1, o2 ++ [32, 9, 10], m2 + 1), hk', by simp only; rw [List.append_assoc]; exact ho2, by simp only; rw [if_pos hqn]; omega, by simp only [List.length_append, List.length_cons, List.length_nil]; omega, by simp only; omega⟩, by simp only; omega, ?_⟩
                dsimp only
                rw [wr_i64 ((k : Int) + 1) (by constructor <;> omega), wr_i64 ((m2 : Int) + 1) (by constructor <;> omega), hby, ← List.map_append, List.length_append]
                (refine IntoF.ver 0  0 (by simp only [push_cast, reduceCtorEq, Nat.reduceAdd, Nat.reduceMul, Nat.reduceSub, Nat.reduceBEq, Nat.reduceGT, Nat.reduceLT, Int.toNat_zero, Nat.reduceLeDiff, Int.reduceEq, Int.reduceLT, Int.reduceLE]) (by first | exact .inr (Nat.zero_le _) | (left; simp only [push_cast, reduceCtorEq, Nat.reduceAdd, Nat.reduceMul, Nat.reduceSub, Nat.reduceBEq, Nat.reduceGT, Nat.reduceLT, Int.toNat_zero, Nat.reduceLeDiff, Int.reduceEq, Int.reduceLT, Int.reduceLE]; first | done | omega) | (right; simp only [push_cast, reduceCtorEq, Nat.reduceAdd, Nat.reduceMul, Nat.reduceSub, Nat.reduceBEq, Nat.reduceGT, Nat.reduceLT, Int.toNat_zero, Nat.reduceLeDiff, Int.reduceEq, Int.reduceLT, Int.reduceLE]; first | done | omega)) ?_; simp only [push_cast, reduceCtorEq, Nat.reduceAdd, Nat.reduceMul, Nat.reduceSub, Nat.reduceBEq, Nat.reduceGT, Nat.reduceLT, Int.toNat_zero, Nat.reduceLeDiff, Int.reduceEq, Int.reduceLT, Int.reduceLE])
                exact Into.sameA
              · have hqd : decide ((q : Int) ≤ (n : Int)) = false := decide_eq_false (by omega)
                rw [if_neg hqn] at hm2
                ((first | with_reducible refine holds_of_ex X 400 _ _ _ ?_ | skip); simp (maxSteps := 1000000) only [push_cast, reduceCtorEq, Nat.reduceAdd, Nat.reduceMul, Nat.reduceSub, Nat.reduceBEq, Nat.reduceGT, Nat.reduceLT, Int.toNat_zero, Nat.reduceLeDiff, Int.reduceEq, Int.reduceLT, Int.reduceLE, hP, hΓ, hL, hfin, String.reduceEq, not_false_eq_true, if_true, if_false, Int.toNat_one, Bool.not_not, tk_map, toNat2, hpd, hm, hqd])
                refine ⟨by omega, by omega, by omega, ⟨rfl, by omega⟩, ⟨(k + 1, o2 ++ [32, 9, 10], m2), hk', by simp only; rw [List.append_assoc]; exact ho2, by simp only; rw [if_neg hqn]; omega, by simp only [List.length_append, List.length_cons, List.length_nil]; omega, by simp only; omega⟩, by simp only; omega, ?_⟩
                dsimp only
                rw [wr_i64 ((k : Int) + 1) (by constructor <;> omega), hby, ← List.map_append, List.length_append]
                (refine IntoF.ver 0  0 (by simp only [push_cast, reduceCtorEq, Nat.reduceAdd, Nat.reduceMul, Nat.reduceSub, Nat.reduceBEq, Nat.reduceGT, Nat.reduceLT, Int.toNat_zero, Nat.reduceLeDiff, Int.reduceEq, Int.reduceLT, Int.reduceLE]) (by first | exact .inr (Nat.zero_le _) | (left; simp only [push_cast, reduceCtorEq, Nat.reduceAdd, Nat.reduceMul, Nat.reduceSub, Nat.reduceBEq, Nat.reduceGT, Nat.reduceLT, Int.toNat_zero, Nat.reduceLeDiff, Int.reduceEq, Int.reduceLT, Int.reduceLE]; first | done | omega) | (right; simp only [push_cast, reduceCtorEq, Nat.reduceAdd, Nat.reduceMul, Nat.reduceSub, Nat.reduceBEq, Nat.reduceGT, Nat.reduceLT, Int.toNat_zero, Nat.reduceLeDiff, Int.reduceEq, Int.reduceLT, Int.reduceLE]; first | done | omega)) ?_; simp only [push_cast, reduceCtorEq, Nat.reduceAdd, Nat.reduceMul, Nat.reduceSub, Nat.reduceBEq, Nat.reduceGT, Nat.reduceLT, Int.toNat_zero, Nat.reduceLeDiff, Int.reduceEq, Int.reduceLT, Int.reduceLE])
                exact Into.sameA
            · have hm : (k : Int).tmod 3 = 2 := by rw [Int.tmod_eq_emod_of_nonneg (by omega)]; omega
              have hby : [byteAV 13, byteAV 10] = List.map byteAV [13, 10] := rfl
              have hbl : blL k = [13] := by unfold blL; rw [if_neg (by omega), if_neg (by omega)]
              rw [hbl] at ho2
              by_cases hqn : q ≤ n
              · have hqd : decide ((q : Int) ≤ (n : Int)) = true := decide_eq_true (by omega)
                rw [if_pos hqn] at hm2
                ((first | with_reducible refine holds_of_ex X 400 _ _ _ ?_ | skip); simp (maxSteps := 1000000) only [push_cast, reduceCtorEq, Nat.reduceAdd, Nat.reduceMul, Nat.reduceSub, Nat.reduceBEq, Nat.reduceGT, Nat.reduceLT, Int.toNat_zero, Nat.reduceLeDiff, Int.reduceEq, Int.reduceLT, Int.reduceLE, hP, hΓ, hL, hfin, String.reduceEq, not_false_eq_true, if_true, if_false, Int.toNat_one, Bool.not_not, tk_map, toNat2, hpd, hm, hqd])
                refine ⟨by omega, by omega, by omega, ⟨rfl, by omega⟩, ⟨(k + 1, o2 ++ [13, 10], m2 + 1), hk', by simp only; rw [List.append_assoc]; exact ho2, by simp only; rw [if_pos hqn]; omega, by simp only [List.length_append, List.length_cons, List.length_nil]; omega, by simp only; omega⟩, by simp only; omega, ?_⟩
                dsimp only
                rw [wr_i64 ((k : Int) + 1) (by constructor <;> omega), wr_i64 ((m2 : Int) + 1) (by constructor <;> omega), hby, ← List.map_append, List.length_append]
                (refine IntoF.ver 0  0 (by simp only [push_cast, reduceCtorEq, Nat.reduceAdd, Nat.reduceMul, Nat.reduceSub, Nat.reduceBEq, Nat.reduceGT, Nat.reduceLT, Int.toNat_zero, Nat.reduceLeDiff, Int.reduceEq, Int.reduceLT, Int.reduceLE]) (by first | exact .inr (Nat.zero_le _) | (left; simp only [push_cast, reduceCtorEq, Nat.reduceAdd, Nat.reduceMul, Nat.reduceSub, Nat.reduceBEq, Nat.reduceGT, Nat.reduceLT, Int.toNat_zero, Nat.reduceLeDiff, Int.reduceEq, Int.reduceLT, Int.reduceLE]; first | done | omega) | (right; simp only [push_cast, reduceCtorEq, Nat.reduceAdd, Nat.reduceMul, Nat.reduceSub, Nat.reduceBEq, Nat.reduceGT, Nat.reduceLT, Int.toNat_zero, Nat.reduceLeDiff, Int.reduceEq, Int.reduceLT, Int.reduceLE]; first | done | omega)) ?_; simp only [push_cast, reduceCtorEq, Nat.reduceAdd, Nat.reduceMul, Nat.reduceSub, Nat.reduceBEq, Nat.reduceGT, Nat.reduceLT, Int.toNat_zero, Nat.reduceLeDiff, Int.reduceEq, Int.reduceLT, Int.reduceLE])
                exact Into.sameA
              · have hqd : decide ((q : Int) ≤ (n : Int)) = false := decide_eq_false (by omega)
                rw [if_neg hqn] at hm2
                ((first | with_reducible refine holds_of_ex X 400 _ _ _ ?_ | skip); simp (maxSteps := 1000000) only [push_cast, reduceCtorEq, Nat.reduceAdd, Nat.reduceMul, Nat.reduceSub, Nat.reduceBEq, Nat.reduceGT, Nat.reduceLT, Int.toNat_zero, Nat.reduceLeDiff, Int.reduceEq, Int.reduceLT, Int.reduceLE, hP, hΓ, hL, hfin, String.reduceEq, not_false_eq_true, if_true, if_false, Int.toNat_one, Bool.not_not, tk_map, toNat2, hpd, hm, hqd])
                refine ⟨by omega, by omega, by omega, ⟨rfl, by omega⟩, ⟨(k + 1, o2 ++ [13, 10], m2), hk', by simp only; rw [List.append_assoc]; exact ho2, by simp only; rw [if_neg hqn]; omega, by simp only [List.length_append, List.length_cons, List.length_nil]; omega, by simp only; omega⟩, by simp only; omega, ?_⟩
                dsimp only
                rw [wr_i64 ((k : Int) + 1) (by constructor <;> omega), hby, ← List.map_append, List.length_append]
                (refine IntoF.ver 0  0 (by simp only [push_cast, reduceCtorEq, Nat.reduceAdd, Nat.reduceMul, Nat.reduceSub, Nat.reduceBEq, Nat.reduceGT, Nat.reduceLT, Int.toNat_zero, Nat.reduceLeDiff, Int.reduceEq, Int.reduceLT, Int.reduceLE]) (by first | exact .inr (Nat.zero_le _) | (left; simp only [push_cast, reduceCtorEq, Nat.reduceAdd, Nat.reduceMul, Nat.reduceSub, Nat.reduceBEq, Nat.reduceGT, Nat.reduceLT, Int.toNat_zero, Nat.reduceLeDiff, Int.reduceEq, Int.reduceLT, Int.reduceLE]; first | done | omega) | (right; simp only [push_cast, reduceCtorEq, Nat.reduceAdd, Nat.reduceMul, Nat.reduceSub, Nat.reduceBEq, Nat.reduceGT, Nat.reduceLT, Int.toNat_zero, Nat.reduceLeDiff, Int.reduceEq, Int.reduceLT, Int.reduceLE]; first | done | omega)) ?_; simp only [push_cast, reduceCtorEq, Nat.reduceAdd, Nat.reduceMul, Nat.reduceSub, Nat.reduceBEq, Nat.reduceGT, Nat.reduceLT, Int.toNat_zero, Nat.reduceLeDiff, Int.reduceEq, Int.reduceLT, Int.reduceLE])
                exact Into.sameA
          · rw [if_neg hpk] at ho2 hm2
            have hpd : decide (ps.getD k default = (q : Int)) = false := decide_eq_false hpk
            rw [List.nil_append] at ho2
            rw [Nat.zero_add] at hm2
            ((first | with_reducible refine holds_of_ex X 400 _ _ _ ?_ | skip); simp (maxSteps := 1000000) only [push_cast, reduceCtorEq, Nat.reduceAdd, Nat.reduceMul, Nat.reduceSub, Nat.reduceBEq, Nat.reduceGT, Nat.reduceLT, Int.toNat_zero, Nat.reduceLeDiff, Int.reduceEq, Int.reduceLT, Int.reduceLE, hP, hΓ, hL, hfin, String.reduceEq, not_false_eq_true, if_true, if_false, Int.toNat_one, Bool.not_not, tk_map, toNat2, hpd])
            refine ⟨by omega, by omega, ⟨(k + 1, o2, m2), hk', ho2, hm2, by simp only; omega, by simp only; omega⟩, by simp only; omega, ?_⟩
            dsimp only
            rw [wr_i64 ((k : Int) + 1) (by constructor <;> omega)]
            exact Into.sameA
        · obtain rfl : k = ps.length := by omega
          rw [List.drop_length] at ho2 hm2
          have ho3 : o2 = out ++ insT q 0 ps := by rw [← ho2]; simp [insT]
          have hm4 : m2 = m + if q ≤ n then cntT q ps else 0 := by rw [← hm2]; simp [cntT]
          have hb2 : [byteAV 32, byteAV 9] = List.map byteAV [32, 9] := rfl
          have hb1 : [AV.int .u8 10] = List.map byteAV [10] := rfl
          by_cases hil : i < s.length
          · have dil : decide ((i : Int) < ((s.length : Nat) : Int)) = true := decide_eq_true (by omega)
            have hRn := hR1 hil
            obtain ⟨r1, r2, hrr⟩ := List.exists_cons_of_ne_nil (Go.Lines.pieces_ne 10 (s.drop (i + 1)))
            ((first | with_reducible refine holds_of_ex X 400 _ _ _ ?_ | skip); simp (maxSteps := 1000000) only [push_cast, reduceCtorEq, Nat.reduceAdd, Nat.reduceMul, Nat.reduceSub, Nat.reduceBEq, Nat.reduceGT, Nat.reduceLT, Int.toNat_zero, Nat.reduceLeDiff, Int.reduceEq, Int.reduceLT, Int.reduceLE, hP, hΓ, hL, hfin, String.reduceEq, not_false_eq_true, if_true, if_false, Int.toNat_one, Bool.not_not, tk_map, toNat2, hxe, dil])
            refine ⟨⟨rfl, by omega⟩, ⟨by omega, by omega⟩, by omega, by omega, ⟨(i + 1, i + 1, q + 1, o2 ++ [32, 9] ++ x ++ [10], m2), by simp only; omega, by simp only; omega, by simp only [List.length_append, List.length_cons, List.length_nil]; omega, by simp only; omega, fun h => ?_, fun h => by simp only at h; omega⟩, by simp only; omega, ?_⟩
            · simp only at h ⊢
              refine ⟨Nat.le_refl _, gap_nil _ _ _, ?_, ?_⟩
              · rw [hT, hRn, hrr, tailT, ho3]; simp
              · rw [hMm, hRn, hm4]; omega
            dsimp only
            rw [wr_i64 ((i : Int) + 1) (by constructor <;> omega), wr_i64 ((q : Int) + 1) (by constructor <;> omega), hb2, hb1, ← List.map_append, ← List.map_append, ← List.map_append, List.length_append, List.length_append, List.length_append]
            (refine IntoF.ver 0  0 (by simp only [push_cast, reduceCtorEq, Nat.reduceAdd, Nat.reduceMul, Nat.reduceSub, Nat.reduceBEq, Nat.reduceGT, Nat.reduceLT, Int.toNat_zero, Nat.reduceLeDiff, Int.reduceEq, Int.reduceLT, Int.reduceLE]) (by first | exact .inr (Nat.zero_le _) | (left; simp only [push_cast, reduceCtorEq, Nat.reduceAdd, Nat.reduceMul, Nat.reduceSub, Nat.reduceBEq, Nat.reduceGT, Nat.reduceLT, Int.toNat_zero, Nat.reduceLeDiff, Int.reduceEq, Int.reduceLT, Int.reduceLE]; first | done | omega) | (right; simp only [push_cast, reduceCtorEq, Nat.reduceAdd, Nat.reduceMul, Nat.reduceSub, Nat.reduceBEq, Nat.reduceGT, Nat.reduceLT, Int.toNat_zero, Nat.reduceLeDiff, Int.reduceEq, Int.reduceLT, Int.reduceLE]; first | done | omega)) ?_; simp only [push_cast, reduceCtorEq, Nat.reduceAdd, Nat.reduceMul, Nat.reduceSub, Nat.reduceBEq, Nat.reduceGT, Nat.reduceLT, Int.toNat_zero, Nat.reduceLeDiff, Int.reduceEq, Int.reduceLT, Int.reduceLE])
            exact Into.sameA
          · have dil : decide ((i : Int) < ((s.length : Nat) : Int)) = false := decide_eq_false (by omega)
            have hRn := hR2 (by omega)
            ((first | with_reducible refine holds_of_ex X 400 _ _ _ ?_ | skip); simp (maxSteps := 1000000) only [push_cast, reduceCtorEq, Nat.reduceAdd, Nat.reduceMul, Nat.reduceSub, Nat.reduceBEq, Nat.reduceGT, Nat.reduceLT, Int.toNat_zero, Nat.reduceLeDiff, Int.reduceEq, Int.reduceLT, Int.reduceLE, hP, hΓ, hL, hfin, String.reduceEq, not_false_eq_true, if_true, if_false, Int.toNat_one, Bool.not_not, tk_map, toNat2, hxe, dil])
            refine ⟨⟨rfl, by omega⟩, ⟨by omega, by omega⟩, by omega, ⟨(i + 1, i + 1, q + 1, o2 ++ [32, 9] ++ x, m2), by simp only; omega, by simp only; omega, by simp only [List.length_append, List.length_cons, List.length_nil]; omega, by simp only; omega, fun h => by simp only at h; omega, fun h => ?_⟩, by simp only; omega, ?_⟩
            · simp only
              refine ⟨?_, ?_⟩
              · rw [hT, hRn, tailT, ho3]; simp
              · rw [hMm, hRn, hm4]; rfl
            dsimp only
            rw [wr_i64 ((i : Int) + 1) (by constructor <;> omega), wr_i64 ((q : Int) + 1) (by constructor <;> omega), hb2, ← List.map_append, ← List.map_append, List.length_append, List.length_append]
            (refine IntoF.ver 0  0 (by simp only [push_cast, reduceCtorEq, Nat.reduceAdd, Nat.reduceMul, Nat.reduceSub, Nat.reduceBEq, Nat.reduceGT, Nat.reduceLT, Int.toNat_zero, Nat.reduceLeDiff, Int.reduceEq, Int.reduceLT, Int.reduceLE]) (by first | exact .inr (Nat.zero_le _) | (left; simp only [push_cast, reduceCtorEq, Nat.reduceAdd, Nat.reduceMul, Nat.reduceSub, Nat.reduceBEq, Nat.reduceGT, Nat.reduceLT, Int.toNat_zero, Nat.reduceLeDiff, Int.reduceEq, Int.reduceLT, Int.reduceLE]; first | done | omega) | (right; simp only [push_cast, reduceCtorEq, Nat.reduceAdd, Nat.reduceMul, Nat.reduceSub, Nat.reduceBEq, Nat.reduceGT, Nat.reduceLT, Int.toNat_zero, Nat.reduceLeDiff, Int.reduceEq, Int.reduceLT, Int.reduceLE]; first | done | omega)) ?_; simp only [push_cast, reduceCtorEq, Nat.reduceAdd, Nat.reduceMul, Nat.reduceSub, Nat.reduceBEq, Nat.reduceGT, Nat.reduceLT, Int.toNat_zero, Nat.reduceLeDiff, Int.reduceEq, Int.reduceLT, Int.reduceLE])
            exact Into.sameA
    · obtain rfl : i = s.length + 1 := by omega
      obtain ⟨hT, hMm⟩ := hend rfl
      subst hT hMm
      by_cases hbt : 65536 < TT.length
      · have dbt : decide (65536 < ((TT.length : Nat) : Int)) = true := decide_eq_true (by omega)
        ((first | with_reducible refine holds_of_ex X 400 _ _ _ ?_ | skip); simp (maxSteps := 1000000) only [push_cast, reduceCtorEq, Nat.reduceAdd, Nat.reduceMul, Nat.reduceSub, Nat.reduceBEq, Nat.reduceGT, Nat.reduceLT, Int.toNat_zero, Nat.reduceLeDiff, Int.reduceEq, Int.reduceLT, Int.reduceLE, hP, hΓ, hL, hfin, String.reduceEq, not_false_eq_true, if_true, if_false, Int.toNat_one, Bool.not_not, tk_map, toNat2, dbt])
        exact Into.one rfl rfl
      · have dbt : decide (65536 < ((TT.length : Nat) : Int)) = false := decide_eq_false (by omega)
        have hlp := loose_prs (ps := ps) hs6 (by rw [← hTT]; omega)
        rw [← hTT] at hlp
        have htl : TT.length ≤ 4194303 := by omega
        have hq : prsR TT = .error (((n + M : Nat) : Int), 61) := (by rcases hlp with ⟨ws, h1, h2⟩ | ⟨k, h1, _, _, h2⟩; rw [hp] at h1; cases h1; rw [hp] at h1; cases h1; rw [h2, hMM]); have hy := prA_no hq; have hzA := hy.1; have hzG := hy.2.1; subst her hW; have p0 : psel e14 p14 [.sl [] 0, .sl [] 0] = ([].length ≤ 4194304 ∧ ([] : List Int).length ≤ 4194304) := ps14 [] []; have q0 : rsel e14 r14 .any [.sl [] 0, .sl [] 0] = .bool (([] : List Int) == []) := rs14 [] []; have r0 : rsel e14 g14 [] [.sl [] 0, .sl [] 0] = [] := hs14 [] []; have z0 : (([] : List Int) == []) = true := rfl; ((first | with_reducible refine holds_of_ex X 400 _ _ _ ?_ | skip); simp (maxSteps := 1000000) only [push_cast, reduceCtorEq, Nat.reduceAdd, Nat.reduceMul, Nat.reduceSub, Nat.reduceBEq, Nat.reduceGT, Nat.reduceLT, Int.toNat_zero, Nat.reduceLeDiff, Int.reduceEq, Int.reduceLT, Int.reduceLE, hP, hΓ, hL, hfin, String.reduceEq, not_false_eq_true, if_true, if_false, Int.toNat_one, Bool.not_not, tk_map, toNat2, dbt, h12, htl, hzA, hzG, h14, p0, q0, r0, z0, List.map_nil, List.length_nil]); rw [wr_i64 ((n : Int) + (M : Int)) (by constructor <;> omega)]; simp only [decide_true]; exact Into.one rfl rfl
end Go.Proofs.YtgemeilncdmapaaGreatDoor.asmDone
end
section
namespace Go.Proofs.YtgemeilncdmapaaGreatDoor.asmDone
open Go Go.Eng Go.Proofs Go.RowKit
set_option linter.unusedVariables false
set_option linter.unusedSimpArgs false
set_option maxRecDepth 100000
theorem has_i64s {v : Dv} (h : Dv.has (.sl (.int .i64)) v) : ∃ ws : List Int, v.av = .sl (ws.map (AV.int .i64)) ws.length ∧ ws.length ≤ v.vb := by
  obtain ⟨es, rfl, hl, he⟩ := has_sl h
  have key : ∀ es : List Dv, (∀ e ∈ es, Dv.has (.int .i64) e) → ∃ l : List Int, Dv.cellsL es = l.map (AV.int .i64) ∧ es.length = l.length ∧ l.length ≤ Dv.vbL es := by
    intro es
    induction es with
    | nil => intro _; exact ⟨[], rfl, rfl, Nat.zero_le _⟩
    | cons e es ih =>
      intro he
      obtain ⟨l, h1, h2, h3⟩ := ih fun x hx => he x (by simp [hx])
      obtain ⟨n, rfl, h5, h6⟩ := has_int (he e (by simp))
      refine ⟨n :: l, by simp only [Dv.cellsL, Dv.cells, h1, List.map_cons, List.cons_append, List.nil_append], by simp [h2], ?_⟩
      simp only [Dv.vbL, Dv.vb, List.length_cons]; omega
  obtain ⟨l, h1, h2, h3⟩ := key es he
  refine ⟨l, ?_, ?_⟩
  · simp only [Dv.av, Dv.cells, List.getD_cons_zero, h1, h2]
  · simp only [Dv.vb]; omega
end Go.Proofs.YtgemeilncdmapaaGreatDoor.asmDone
end
section
namespace Go.Proofs.YtgemeilncdmapaaGreatDoor.asmDone
open Go Go.Eng Go.Proofs Go.RowKit
open Go.Proofs.YtgemeilncdmapaaGreatDoor.linesDone (ixS ctS ixTS ctTS)
set_option linter.unusedVariables false
set_option linter.unusedSimpArgs false
set_option maxRecDepth 100000
noncomputable def an0 : Env := noE
theorem an0_ok : EnvOk Tryz.prog an0 := noE_ok _
noncomputable def an1 : Env := addE an0 104 S104
theorem an1_ok : EnvOk Tryz.prog an1 := an0_ok.add (con104 an0_ok)
noncomputable def an2 : Env := addE an1 105 S105
theorem an2_ok : EnvOk Tryz.prog an2 := an1_ok.add (con105 an1_ok rfl)
noncomputable def an3 : Env := addE an2 79 S79
theorem an3_ok : EnvOk Tryz.prog an3 := an2_ok.add (con79 an2_ok rfl rfl)
noncomputable def an4 : Env := addE an3 80 S80
theorem an4_ok : EnvOk Tryz.prog an4 := an3_ok.add (con80 an3_ok)
noncomputable def an5 : Env := addE an4 44 S44
theorem an5_ok : EnvOk Tryz.prog an5 := an4_ok.add (con44 an4_ok)
noncomputable def an6 : Env := addE an5 45 S45
theorem an6_ok : EnvOk Tryz.prog an6 := an5_ok.add (con45 an5_ok rfl rfl)
noncomputable def an7 : Env := addE an6 17 S17
theorem an7_ok : EnvOk Tryz.prog an7 := an6_ok.add (con17 an6_ok rfl rfl)
noncomputable def an8 : Env := addE an7 51 S51
theorem an8_ok : EnvOk Tryz.prog an8 := an7_ok.add (con51 an7_ok)
noncomputable def an9 : Env := addE an8 52 S52
theorem an9_ok : EnvOk Tryz.prog an9 := an8_ok.add (con52 an8_ok)
noncomputable def an10 : Env := addE an9 87 S87
theorem an10_ok : EnvOk Tryz.prog an10 := an9_ok.add (con87 an9_ok)
noncomputable def an11 : Env := addE an10 53 S53
theorem an11_ok : EnvOk Tryz.prog an11 := an10_ok.add (con53 an10_ok rfl)
noncomputable def an12 : Env := addE an11 88 S88
theorem an12_ok : EnvOk Tryz.prog an12 := an11_ok.add (con88 an11_ok)
noncomputable def an13 : Env := addE an12 54 S54
theorem an13_ok : EnvOk Tryz.prog an13 := an12_ok.add (con54 an12_ok rfl)
noncomputable def an14 : Env := addE an13 26 S26
theorem an14_ok : EnvOk Tryz.prog an14 := an13_ok.add (con26 an13_ok rfl rfl rfl rfl)
noncomputable def an15 : Env := addE an14 21 S21
theorem an15_ok : EnvOk Tryz.prog an15 := an14_ok.add (con21 an14_ok)
noncomputable def an16 : Env := addE an15 22 S22
theorem an16_ok : EnvOk Tryz.prog an16 := an15_ok.add (con22 an15_ok)
noncomputable def an17 : Env := addE an16 48 S48
theorem an17_ok : EnvOk Tryz.prog an17 := an16_ok.add (con48 an16_ok)
noncomputable def an18 : Env := addE an17 49 S49
theorem an18_ok : EnvOk Tryz.prog an18 := an17_ok.add (con49 an17_ok)
noncomputable def an19 : Env := addE an18 33 S33
theorem an19_ok : EnvOk Tryz.prog an19 := an18_ok.add (con33 an18_ok)
noncomputable def an20 : Env := addE an19 24 S24
theorem an20_ok : EnvOk Tryz.prog an20 := an19_ok.add (con24 an19_ok rfl rfl rfl)
noncomputable def an21 : Env := addE an20 18 S18
theorem an21_ok : EnvOk Tryz.prog an21 := an20_ok.add (con18 an20_ok)
noncomputable def an22 : Env := addE an21 27 S27
theorem an22_ok : EnvOk Tryz.prog an22 := an21_ok.add (con27 an21_ok)
noncomputable def an23 : Env := addE an22 30 S930
theorem an23_ok : EnvOk Tryz.prog an23 := an22_ok.add (con930 an22_ok)
noncomputable def an24 : Env := addE an23 30 S30
theorem an24_ok : EnvOk Tryz.prog an24 := an23_ok.add (con30 an23_ok rfl)
noncomputable def an25 : Env := addE an24 29 S29
theorem an25_ok : EnvOk Tryz.prog an25 := an24_ok.add (con29 an24_ok rfl)
noncomputable def an26 : Env := addE an25 81 S81
theorem an26_ok : EnvOk Tryz.prog an26 := an25_ok.add (con81)
noncomputable def an27 : Env := addE an26 82 S82
theorem an27_ok : EnvOk Tryz.prog an27 := an26_ok.add (con82)
noncomputable def an28 : Env := addE an27 46 S46
theorem an28_ok : EnvOk Tryz.prog an28 := an27_ok.add (con46 an27_ok rfl rfl)
noncomputable def an29 : Env := addE an28 20 S20
theorem an29_ok : EnvOk Tryz.prog an29 := an28_ok.add (con20 an28_ok rfl)
noncomputable def an30 : Env := addE an29 23 S23
theorem an30_ok : EnvOk Tryz.prog an30 := an29_ok.add (con23)
noncomputable def an31 : Env := addE an30 122 S122
theorem an31_ok : EnvOk Tryz.prog an31 := an30_ok.add (con122)
noncomputable def an32 : Env := addE an31 121 S121
theorem an32_ok : EnvOk Tryz.prog an32 := an31_ok.add (con121)
noncomputable def an33 : Env := addE an32 98 S98
theorem an33_ok : EnvOk Tryz.prog an33 := an32_ok.add (con98)
noncomputable def an34 : Env := addE an33 37 S37
theorem an34_ok : EnvOk Tryz.prog an34 := an33_ok.add (con37)
noncomputable def an35 : Env := addE an34 32 S32
theorem an35_ok : EnvOk Tryz.prog an35 := an34_ok.add (con32 an34_ok)
noncomputable def an36 : Env := addE an35 55 S55
theorem an36_ok : EnvOk Tryz.prog an36 := an35_ok.add (con55 an35_ok)
noncomputable def an37 : Env := addE an36 34 S34
theorem an37_ok : EnvOk Tryz.prog an37 := an36_ok.add (con34 an36_ok rfl rfl)
noncomputable def an38 : Env := addE an37 31 S31
theorem an38_ok : EnvOk Tryz.prog an38 := an37_ok.add (con31 an37_ok rfl rfl rfl)
noncomputable def an39 : Env := addE an38 28 S28
theorem an39_ok : EnvOk Tryz.prog an39 := an38_ok.add (con28 an38_ok rfl rfl rfl)
noncomputable def an40 : Env := addE an39 10 S10
theorem an40_ok : EnvOk Tryz.prog an40 := an39_ok.add (con10 an39_ok rfl rfl rfl rfl rfl rfl rfl rfl rfl)
noncomputable def an41 : Env := addE an40 25 S25
theorem an41_ok : EnvOk Tryz.prog an41 := an40_ok.add (con25)
noncomputable def an42 : Env := addE an41 19 S19
theorem an42_ok : EnvOk Tryz.prog an42 := an41_ok.add (con19 an41_ok rfl)
noncomputable def an43 : Env := addE an42 9 S9
theorem an43_ok : EnvOk Tryz.prog an43 := an42_ok.add (con9 an42_ok rfl rfl rfl rfl rfl rfl rfl rfl rfl)
noncomputable def an44 : Env := addE an43 41 bld.S41
theorem an44_ok : EnvOk Tryz.prog an44 := an43_ok.add (bld.con41)
noncomputable def an45 : Env := addE an44 42 bld.S42
theorem an45_ok : EnvOk Tryz.prog an45 := an44_ok.add (bld.con42)
noncomputable def an46 : Env := addE an45 43 bld.S43
theorem an46_ok : EnvOk Tryz.prog an46 := an45_ok.add (bld.con43)
noncomputable def an47 : Env := addE an46 15 S15
theorem an47_ok : EnvOk Tryz.prog an47 := an46_ok.add (con15 an46_ok rfl rfl rfl rfl)
noncomputable def an48 : Env := addE an47 16 S16
theorem an48_ok : EnvOk Tryz.prog an48 := an47_ok.add (con16 an47_ok rfl)
noncomputable def an49 : Env := addE an48 97 S97
theorem an49_ok : EnvOk Tryz.prog an49 := an48_ok.add (con97 an48_ok rfl rfl)
noncomputable def an50 : Env := addE an49 69 S69
theorem an50_ok : EnvOk Tryz.prog an50 := an49_ok.add (con69 an49_ok rfl rfl)
noncomputable def an51 : Env := addE an50 68 S68
theorem an51_ok : EnvOk Tryz.prog an51 := an50_ok.add (con68 an50_ok rfl rfl rfl)
noncomputable def an52 : Env := addE an51 70 S70
theorem an52_ok : EnvOk Tryz.prog an52 := an51_ok.add (con70 an51_ok rfl rfl rfl)
noncomputable def an53 : Env := addE an52 66 S66
theorem an53_ok : EnvOk Tryz.prog an53 := an52_ok.add (con66 an52_ok rfl)
noncomputable def an54 : Env := addE an53 67 S67
theorem an54_ok : EnvOk Tryz.prog an54 := an53_ok.add (con67 an53_ok)
noncomputable def an55 : Env := addE an54 126 ixS
theorem an55_ok : EnvOk Tryz.prog an55 := an54_ok.add (linesDone.con57)
noncomputable def an56 : Env := addE an55 113 ctS
theorem an56_ok : EnvOk Tryz.prog an56 := an55_ok.add (linesDone.con33)
noncomputable def an57 : Env := addE an56 114 ixS
theorem an57_ok : EnvOk Tryz.prog an57 := an56_ok.add (linesDone.con47 an56_ok rfl)
noncomputable def an58 : Env := addE an57 92 ixTS
theorem an58_ok : EnvOk Tryz.prog an58 := an57_ok.add (linesDone.con34 an57_ok rfl)
noncomputable def an59 : Env := addE an58 91 ixTS
theorem an59_ok : EnvOk Tryz.prog an59 := an58_ok.add (linesDone.con27 an58_ok rfl)
noncomputable def an60 : Env := addE an59 90 ctTS
theorem an60_ok : EnvOk Tryz.prog an60 := an59_ok.add (linesDone.con26 an59_ok rfl)
noncomputable def an61 : Env := addE an60 56 linesDone.S56
theorem an61_ok : EnvOk Tryz.prog an61 := an60_ok.add (linesDone.con56 an60_ok rfl rfl)
noncomputable def an62 : Env := addE an61 35 linesDone.S35
theorem an62_ok : EnvOk Tryz.prog an62 := an61_ok.add (linesDone.con35 an61_ok rfl)
noncomputable def an63 : Env := addE an62 57 S57
theorem an63_ok : EnvOk Tryz.prog an63 := an62_ok.add (con57 an62_ok rfl)
noncomputable def an64 : Env := addE an63 36 S36
theorem an64_ok : EnvOk Tryz.prog an64 := an63_ok.add (con36 an63_ok rfl)
noncomputable def an65 : Env := addE an64 65 S65
theorem an65_ok : EnvOk Tryz.prog an65 := an64_ok.add (con65 an64_ok rfl rfl)
noncomputable def an66 : Env := addE an65 38 S38
theorem an66_ok : EnvOk Tryz.prog an66 := an65_ok.add (con38 an65_ok rfl rfl rfl rfl rfl rfl rfl)
noncomputable def an67 : Env := addE an66 12 S12
theorem an67_ok : EnvOk Tryz.prog an67 := an66_ok.add (con12 an66_ok rfl rfl rfl rfl)
noncomputable def an68 : Env := addE an67 11 S11
theorem an68_ok : EnvOk Tryz.prog an68 := an67_ok.add (con11 an67_ok rfl rfl)
noncomputable def an69 : Env := addE an68 14 S14
theorem an69_ok : EnvOk Tryz.prog an69 := an68_ok.add (con14 an68_ok)
noncomputable abbrev anE : Env := an69
theorem anE_ok : EnvOk Tryz.prog anE := an69_ok
end Go.Proofs.YtgemeilncdmapaaGreatDoor.asmDone
end
