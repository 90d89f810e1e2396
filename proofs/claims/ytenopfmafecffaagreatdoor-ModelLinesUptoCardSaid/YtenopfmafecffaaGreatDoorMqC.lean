/- Of the model of a workstation: ModelLines, walked. Conditions stand in each. -/
import Derived.Test.YtenopfmafecffaaGreatDoorMqB
namespace Go.Proofs.YtenopfmafecffaaGreatDoor.modelDone
open Go Go.Eng Go.Proofs Go.Mdl Go.RowKit
open Go.Proofs.YtenopfmafecffaaGreatDoor.linesDone (linesS linesV lnF lrF lwP lines_eq pieces_cons)
set_option linter.unusedVariables false
set_option linter.unusedSimpArgs false
set_option maxRecDepth 100000
set_option maxHeartbeats 4000000
/-- is it one line? -/
def oneLn (x : Bytes) : Bool := decide ((lnF (x ++ [10])).length = 1) && lrF (x ++ [10]) == []
theorem one_free {x : Bytes} (h : (lnF (x ++ [10])).length = 1) : ∀ b ∈ x, b ≠ 10 := by
  have h1 := congrArg List.length (lines_eq (x ++ [10]))
  rw [Lines.pieces_len, List.length_append, h] at h1
  have h2 : Lib.countByte (x ++ [10]) 10 = x.count 10 + 1 := by simp [Lib.countByte, List.count_append]
  rw [h2] at h1
  simp only [List.length_cons, List.length_nil] at h1
  intro b hb e
  subst e
  have := List.count_pos_iff.2 hb
  omega
def inT (gs : List Bytes) : Bytes := gs.flatMap (· ++ [10])
theorem in_0 : inT [] = [] := rfl
theorem in_ln : ∀ (gs : List Bytes), (∀ x ∈ gs, oneLn x = true) → lnF (inT gs) = gs ∧ Lines.pieces 10 (inT gs) = gs ++ [[]]
  | [], _ => by refine ⟨?_, ?_⟩ <;> rfl
  | x :: gs, h => by
    have hx := h x (by simp)
    simp only [oneLn, Bool.and_eq_true, decide_eq_true_eq] at hx
    have ih := (in_ln gs fun y hy => h y (by simp [hy])).2
    have e : Lines.pieces 10 (inT (x :: gs)) = x :: gs ++ [[]] := by
      rw [inT, List.flatMap_cons, List.append_assoc, List.singleton_append, pieces_cons _ _ (one_free hx.1)]
      exact congrArg _ ih
    exact ⟨by rw [lnF, e, List.dropLast_concat], e⟩
theorem in_app (gs : List Bytes) (x : Bytes) : inT (gs ++ [x]) = inT gs ++ (x ++ [10]) := by simp [inT]
theorem in_len : ∀ (gs : List Bytes), (inT gs).length = (gs.map (·.length + 1)).sum
  | [] => rfl
  | x :: gs => by
    have := in_len gs
    simp only [inT, List.flatMap_cons, List.length_append, List.map_cons, List.sum_cons, List.length_cons, List.length_nil] at *
    omega
theorem sum_sub (f : Bytes → Bool) : ∀ (ls : List Bytes), ((ls.filter f).map (·.length + 1)).sum ≤ (ls.map (·.length + 1)).sum
  | [] => Nat.le_refl _
  | x :: ls => by
    have := sum_sub f ls
    rw [List.filter_cons]
    split <;> simp only [List.map_cons, List.sum_cons] <;> omega
theorem sum_take : ∀ (k : Nat) (ls : List Bytes), ((ls.take k).map (·.length + 1)).sum ≤ (ls.map (·.length + 1)).sum
  | 0, ls => by simp
  | k + 1, [] => by simp
  | k + 1, x :: ls => by
    have := sum_take k ls
    simp only [List.take_succ_cons, List.map_cons, List.sum_cons]; omega
theorem sum_mem : ∀ {x : Bytes} {ls : List Bytes}, x ∈ ls → x.length + 1 ≤ (ls.map (·.length + 1)).sum
  | x, y :: ls, h => by
    simp only [List.map_cons, List.sum_cons]
    rcases List.mem_cons.1 h with rfl | h
    · omega
    · have := sum_mem h; omega
theorem tk_b (l : Bytes) : (l.map byteAV).take l.length = l.map byteAV := List.take_of_length_le (by simp)
def gsF (ls : List Bytes) (k : Nat) : List Bytes := (ls.take k).filter oneLn
theorem gs_in (ls : List Bytes) (k : Nat) : (inT (gsF ls k)).length ≤ (ls.map (·.length + 1)).sum := by
  rw [in_len]
  exact Nat.le_trans (sum_sub _ _) (sum_take _ _)
theorem gs_0 (ls : List Bytes) : gsF ls 0 = [] := rfl
theorem gs_one (ls : List Bytes) (k : Nat) : ∀ x ∈ gsF ls k, oneLn x = true := fun x hx => (List.mem_filter.1 hx).2
theorem gs_le (ls : List Bytes) (k : Nat) : (gsF ls k).length ≤ k := Nat.le_trans (List.length_filter_le _ _) (by simp; omega)
theorem gs_s {ls : List Bytes} {k : Nat} (h : k < ls.length) : gsF ls (k + 1) = if oneLn (ls.getD k default) = true then gsF ls k ++ [ls.getD k default] else gsF ls k := by
  have e : ls.take (k + 1) = ls.take k ++ [ls.getD k default] := by rw [List.take_add_one, List.getD, List.getElem?_eq_getElem h]; rfl
  rw [gsF, e, List.filter_append]
  split
  · rename_i h1; rw [List.filter_cons_of_pos h1]; rfl
  · rename_i h1; rw [List.filter_cons_of_neg h1]; simp [gsF]
theorem law5 (Γ : Env) (h8 : Γ 8 = some S8) (h10 : Γ 10 = some S10) (h11 : Γ 11 = some S11) (h12 : Γ 12 = some S12) (h14 : Γ 14 = some S14) (h15 : Γ 15 = some S15) (h16 : Γ 16 = some S16) (h18 : Γ 18 = some linesS) (h19 : Γ 19 = some S19) (S : Int) (l : Fs) (ls : List Bytes) (hl : l.length ≤ 1000000) (hb : ∀ x ∈ l, x.1.length ≤ 4194304 ∧ x.2.length ≤ 1000000000) (hls : ls.length ≤ 4194304) (hsum : (ls.map (·.length + 1)).sum ≤ 4194304) : BodyOk Tryz.prog Γ Tryz.f5 [.int .i64 S, .sl (l.flatMap fc) l.length, .sl (ls.map .str) ls.length] [] (.bool true) [] := by
  by_cases he : (newE S l).1 = 0
  case neg =>
    have r1 := rn_v he
    have r2 := rn_m he
    have r3 := rn_h he
    (intro X hP hΓ hL hfin; refine ⟨_, rfl, ?_⟩; rw [show Tryz.f5.ntmps = 141 from rfl]; rw [show Tryz.f5.results.toList = [.tmp 6] from rfl] at hfin; apply holds_of_ex X 400; simp (maxSteps := 1000000) only [push_cast, reduceCtorEq, Nat.reduceAdd, Nat.reduceMul, Nat.reduceSub, Nat.reduceBEq, Nat.reduceGT, Nat.reduceLT, Int.toNat_zero, Nat.reduceLeDiff, Int.reduceEq, Int.reduceLT, Int.reduceLE, hP, hΓ, hL, hfin, String.reduceEq, not_false_eq_true, if_true, Int.toNat_one, h8, h10, h11, r1, r2, r3, he])
    refine ⟨⟨hl, hb⟩, ⟨hl, hb⟩, ⟨hl, hb⟩, ?_⟩
    exact Into.sameA
  have r1 := rw_v he
  have r2 := rw_m he
  have r3 := rw_h he
  have hA0 := new_s he
  (intro X hP hΓ hL hfin; refine ⟨_, rfl, ?_⟩; rw [show Tryz.f5.ntmps = 141 from rfl]; rw [show Tryz.f5.results.toList = [.tmp 6] from rfl] at hfin; apply holds_of_ex X 400; simp (maxSteps := 1000000) only [push_cast, reduceCtorEq, Nat.reduceAdd, Nat.reduceMul, Nat.reduceSub, Nat.reduceBEq, Nat.reduceGT, Nat.reduceLT, Int.toNat_zero, Nat.reduceLeDiff, Int.reduceEq, Int.reduceLT, Int.reduceLE, hP, hΓ, hL, hfin, String.reduceEq, not_false_eq_true, if_true, Int.toNat_one, h8, h10, h11, r1, r2, r3, he])
  refine ⟨⟨hl, hb⟩, ⟨hl, hb⟩, ⟨hl, hb⟩, ?_⟩
  generalize (newE S l).2 = A0 at *
  refine Holds.loopM (ι := {k : Nat // k ≤ ls.length}) [false, false, true, false, false, false, true, false, true, false, true, false, false, false, false, false, false, false, false, false, false, false, false, false, false, false, false, false, false, false, false, false, false, false, false, false, false, false, false, false, false, false, false, false, false, false, false, false, false, false, false, false, false, false, false, false, false, false, false, false, false, false, false, false, false, false, false, false, false, false, false, false, false, false, false, false, false, false, false, false, false, false, false, false, false, false, false, false, false, false, false, false, false, false, false, false, false, false, false, false, false, false, false, false, false, false, false, false, false, false, false, false, false, false, false, false, false, false, false, false, false, false, false, false, false, false, false, false, false, false, false, false, false, false, false, false, false, false, false, false, false] (fun i => [(14, .msl 5 (gsF ls i.1).length 0 (runT S A0 (gsF ls i.1)).length), (15, .msl 6 (gsF ls i.1).length 0 (inT (gsF ls i.1)).length), (16, .int .i64 i.1)]) (fun i => [.row [.mp 1, .int .i64 S] 2 0, .raw (.map none (mapF (runF S A0 (gsF ls i.1)).2)), .row [.mp 3, .int .i64 S] 2 0, .raw (.map none (mapF A0)), .row [.sl (A0.flatMap fc) A0.length, .int .i64 S] 2 0, .row ((runT S A0 (gsF ls i.1)).map byteAV) 1 (gsF ls i.1).length, .row ((inT (gsF ls i.1)).map byteAV) 1 (gsF ls i.1).length]) (fun i => ls.length - i.1) ⟨0, Nat.zero_le _⟩ ?_ ?_
  · rw [hL]; simp only [gs_0, runT_0, runF_0, List.length_nil, in_0]
    have hb : headT.map byteAV = [.int .u8 99, .int .u8 97, .int .u8 114, .int .u8 114, .int .u8 101, .int .u8 108, .int .u8 10, .int .u8 62, .int .u8 32] := rfl
    rw [hb, show headT.length = 9 from rfl]
    simp only [push_cast, Int.natCast_zero]
    (refine IntoF.nil 15  1 rfl ?_; simp only [push_cast, reduceCtorEq, Nat.reduceAdd, Nat.reduceMul, Nat.reduceSub, Nat.reduceBEq, Nat.reduceGT, Nat.reduceLT, Int.toNat_zero, Nat.reduceLeDiff, Int.reduceEq, Int.reduceLT, Int.reduceLE])
    exact Into.sameA
  rintro ⟨k, hk⟩
  have hB := run_s hA0 (gsF ls k)
  have hT := run_l hA0 (gsF ls k)
  have hgl := gs_le ls k
  have hg1 := gs_one ls k
  have hin := gs_in ls k
  have hTl : (runT S A0 (gsF ls k)).length = 9 + (runF S A0 (gsF ls k)).1.length := by rw [runT, List.length_append]; rfl
  have hln := (in_ln _ hg1).1
  ((first | with_reducible refine holds_of_ex X 400 _ _ _ ?_ | skip); simp (maxSteps := 1000000) only [push_cast, reduceCtorEq, Nat.reduceAdd, Nat.reduceMul, Nat.reduceSub, Nat.reduceBEq, Nat.reduceGT, Nat.reduceLT, Int.toNat_zero, Nat.reduceLeDiff, Int.reduceEq, Int.reduceLT, Int.reduceLE, hP, hΓ, hL, hfin, String.reduceEq, not_false_eq_true, if_true, Int.toNat_one])
  ((with_reducible refine exB_split (fun h => ?_) (fun h => ?_)) <;> (try simp only [decide_eq_true_eq, decide_eq_false_iff_not, Bool.and_eq_true, Bool.or_eq_true, Bool.and_eq_false_iff, Bool.or_eq_false_iff, Bool.not_eq_true', Bool.not_eq_false', Bool.not_eq_true, Bool.not_eq_false, Int.not_lt, Int.not_le, beq_iff_eq, beq_eq_false_iff_ne, ne_eq] at h))
  · have c1 : k < ls.length := by omega
    have hl' : (k : Int) < (ls.length : Int) := by omega
    have hgs := gs_s c1
    have hm : ls.getD k default ∈ ls := by rw [List.getD, List.getElem?_eq_getElem c1]; exact List.getElem_mem _
    have hxs := sum_mem hm
    generalize hx : ls.getD k default = x at *
    have hxl : (x ++ [10]).length ≤ 4194304 := by rw [List.length_append]; simp only [List.length_cons, List.length_nil]; omega
    have hr := run_snoc S A0 (gsF ls k) x
    have hia := in_app (gsF ls k) x
    have hfs := fsOf_mapF hB.ok.so
    have hdl := do_l hB x
    by_cases o1 : (lnF (x ++ [10])).length = 1
    case neg =>
      have o1' : ¬ ((lnF (x ++ [10])).length : Int) = 1 := by omega
      have ho : oneLn x = false := by simp [oneLn, o1]
      rw [if_neg (by simp [ho])] at hgs
      ((first | with_reducible refine holds_of_ex X 400 _ _ _ ?_ | skip); simp (maxSteps := 1000000) only [push_cast, reduceCtorEq, Nat.reduceAdd, Nat.reduceMul, Nat.reduceSub, Nat.reduceBEq, Nat.reduceGT, Nat.reduceLT, Int.toNat_zero, Nat.reduceLeDiff, Int.reduceEq, Int.reduceLT, Int.reduceLE, hP, hΓ, hL, hfin, String.reduceEq, not_false_eq_true, if_true, Int.toNat_one, hx, hl', h18, lwP, wr_i64 ((k : Int) + 1) (by constructor <;> omega), o1'])
      refine ⟨by omega, by omega, by simp only [List.length_append, List.length_cons, List.length_nil] at hxl; omega, ⟨k + 1, c1⟩, by simp only; omega, ?_⟩
      simp only [hgs]
      exact Into.sameA
    have o1' : ((lnF (x ++ [10])).length : Int) = 1 := by omega
    cases o2 : (lrF (x ++ [10]) == [])
    case false =>
      have ho : oneLn x = false := by simp [oneLn, o2]
      rw [if_neg (by simp [ho])] at hgs
      ((first | with_reducible refine holds_of_ex X 400 _ _ _ ?_ | skip); simp (maxSteps := 1000000) only [push_cast, reduceCtorEq, Nat.reduceAdd, Nat.reduceMul, Nat.reduceSub, Nat.reduceBEq, Nat.reduceGT, Nat.reduceLT, Int.toNat_zero, Nat.reduceLeDiff, Int.reduceEq, Int.reduceLT, Int.reduceLE, hP, hΓ, hL, hfin, String.reduceEq, not_false_eq_true, if_true, Int.toNat_one, hx, hl', h18, lwP, wr_i64 ((k : Int) + 1) (by constructor <;> omega), o1', o2])
      refine ⟨by omega, by omega, by simp only [List.length_append, List.length_cons, List.length_nil] at hxl; omega, ⟨k + 1, c1⟩, by simp only; omega, ?_⟩
      simp only [hgs]
      exact Into.sameA
    have ho : oneLn x = true := by simp [oneLn, o1, o2]
    rw [if_pos ho] at hgs
    rw [← hgs] at hr hia
    have hT1 : runT S A0 (gsF ls (k + 1)) = runT S A0 (gsF ls k) ++ ((doF S (runF S A0 (gsF ls k)).2 x).1 ++ [62, 32]) := by rw [runT, hr, runT]; simp
    have hF1 : (runF S A0 (gsF ls (k + 1))).2 = (doF S (runF S A0 (gsF ls k)).2 x).2 := by rw [hr]
    have hgn : (gsF ls (k + 1)).length = (gsF ls k).length + 1 := by rw [hgs]; simp
    have hle : (runT S A0 (gsF ls k)).length ≤ 1300000000000 := by omega
    clear hr hgs hT hTl hln hg1 hin
    have hin := gs_in ls k
    generalize (runF S A0 (gsF ls k)).2 = B at *
    generalize runT S A0 (gsF ls k) = T at *
    generalize inT (gsF ls k) = I at *
    have oc : oneCells [byteAV 62, byteAV 32] = true := rfl
    have oc1 : oneCells [byteAV 10] = true := rfl
    ((first | with_reducible refine holds_of_ex X 400 _ _ _ ?_ | skip); simp (maxSteps := 1000000) only [push_cast, reduceCtorEq, Nat.reduceAdd, Nat.reduceMul, Nat.reduceSub, Nat.reduceBEq, Nat.reduceGT, Nat.reduceLT, Int.toNat_zero, Nat.reduceLeDiff, Int.reduceEq, Int.reduceLT, Int.reduceLE, hP, hΓ, hL, hfin, String.reduceEq, not_false_eq_true, if_true, Int.toNat_one, hx, hl', h18, lwP, wr_i64 ((k : Int) + 1) (by constructor <;> omega), o1', o2, h12, hfs, oc, oc1])
    have hx3 : x.length ≤ 4194303 := by simp only [List.length_append, List.length_cons, List.length_nil] at hxl; omega
    refine ⟨by omega, by omega, hx3, by omega, by omega, by omega, by omega, hB, by omega, by omega, ⟨k + 1, c1⟩, by simp only; omega, ?_⟩
    rw [← List.map_append, ← List.map_append, show T.length + ((doF S B x).1.length + 2) = (T ++ ((doF S B x).1 ++ [62, 32])).length by simp, show I.length + (x.length + 1) = (I ++ (x ++ [10])).length by simp, ← hT1, ← hia, ← hF1, ← hgn]
    exact Into.sameA
  · have hfs0 := fsOf_mapF hA0.ok.so
    have hfs := fsOf_mapF hB.ok.so
    have hBl := hB.ok.le
    generalize gsF ls k = gs at *
    ((first | with_reducible refine holds_of_ex X 400 _ _ _ ?_ | skip); simp (maxSteps := 1000000) only [push_cast, reduceCtorEq, Nat.reduceAdd, Nat.reduceMul, Nat.reduceSub, Nat.reduceBEq, Nat.reduceGT, Nat.reduceLT, Int.toNat_zero, Nat.reduceLeDiff, Int.reduceEq, Int.reduceLT, Int.reduceLE, hP, hΓ, hL, hfin, String.reduceEq, not_false_eq_true, if_true, Int.toNat_one])
    (refine Holds.frz 5 (by rw [hL]; simp) (by simp only [frzOk', frzOk, isMap, or_true, true_or, push_cast, reduceCtorEq, Nat.reduceAdd, Nat.reduceMul, Nat.reduceSub, Nat.reduceBEq, Nat.reduceGT, Nat.reduceLT, Int.toNat_zero, Nat.reduceLeDiff, Int.reduceEq, Int.reduceLT, Int.reduceLE]) ?_; simp only [push_cast, reduceCtorEq, Nat.reduceAdd, Nat.reduceMul, Nat.reduceSub, Nat.reduceBEq, Nat.reduceGT, Nat.reduceLT, Int.toNat_zero, Nat.reduceLeDiff, Int.reduceEq, Int.reduceLT, Int.reduceLE])
    (refine Holds.frz 6 (by rw [hL]; simp) (by simp only [frzOk', frzOk, isMap, or_true, true_or, push_cast, reduceCtorEq, Nat.reduceAdd, Nat.reduceMul, Nat.reduceSub, Nat.reduceBEq, Nat.reduceGT, Nat.reduceLT, Int.toNat_zero, Nat.reduceLeDiff, Int.reduceEq, Int.reduceLT, Int.reduceLE]) ?_; simp only [push_cast, reduceCtorEq, Nat.reduceAdd, Nat.reduceMul, Nat.reduceSub, Nat.reduceBEq, Nat.reduceGT, Nat.reduceLT, Int.toNat_zero, Nat.reduceLeDiff, Int.reduceEq, Int.reduceLT, Int.reduceLE])
    simp only [tk_b]
    simp (maxSteps := 1000000) only [↓reduceIte, Option.getD_some, push_cast, reduceCtorEq, Nat.reduceAdd, Nat.reduceMul, Nat.reduceSub, Nat.reduceBEq, Nat.reduceGT, Nat.reduceLT, Int.toNat_zero, Nat.reduceLeDiff, Int.reduceEq, Int.reduceLT, Int.reduceLE, hP, hΓ, hL, hfin, String.reduceEq, not_false_eq_true, if_true, Int.toNat_one, tk_b]
    (refine Holds.drawnS 8 (patH []) [0, 1, 3, 6, 7, 9, 11, 12, 13, 14, 16, 18, 19, 20, 21] [] [] (patH []) false (by rw [hP]; kernel_rfl) (by kernel_rfl) (by kernel_rfl) (by kernel_rfl) (by kernel_rfl) (by decide) (by first | exact .inl rfl | exact .inr fun _ _ h => patH_app _ _ h) (by first | exact .inl rfl | exact .inr fun _ _ h => patH_app _ _ h) (by first | (simp only [push_cast]; done) | (simp only [push_cast, and_true]; omega)) ?_; simp (maxSteps := 1000000) only [↓reduceIte, Option.getD_some, List.take_succ_cons, List.take_zero, List.drop_succ_cons, List.drop_zero, push_cast, reduceCtorEq, Nat.reduceAdd, Nat.reduceMul, Nat.reduceSub, Nat.reduceBEq, Nat.reduceGT, Nat.reduceLT, Int.toNat_zero, Nat.reduceLeDiff, Int.reduceEq, Int.reduceLT, Int.reduceLE, hP, hΓ, hL, hfin, String.reduceEq, not_false_eq_true, if_true, Int.toNat_one, h19, h14, h15, h16, hfs, hfs0, fm_all, hln, tk_b, unbytes_map, allBytes_map])
    refine ⟨⟨by decide, hA0, by omega⟩, hB, ⟨by decide, hB⟩, by omega, hB, ⟨by decide, hB⟩, ?_⟩
    ((first | with_reducible refine holds_of_ex X 400 _ _ _ ?_ | skip); simp (maxSteps := 1000000) only [push_cast, reduceCtorEq, Nat.reduceAdd, Nat.reduceMul, Nat.reduceSub, Nat.reduceBEq, Nat.reduceGT, Nat.reduceLT, Int.toNat_zero, Nat.reduceLeDiff, Int.reduceEq, Int.reduceLT, Int.reduceLE, hP, hΓ, hL, hfin, String.reduceEq, not_false_eq_true, if_true, Int.toNat_one])
    exact Into.keep0A
end Go.Proofs.YtenopfmafecffaaGreatDoor.modelDone
