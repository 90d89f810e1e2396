/- Of lines: an input's lines by the document. -/
import Derived.Test.YtenopfmafecffaaGreatDoorLS
namespace Go.Proofs.YtenopfmafecffaaGreatDoor.linesDone
open Go Go.Eng Go.Proofs Go.Lines Go.Lib
open Go.Proofs.YtenopfmafecffaaGreatDoor.lineDone
set_option linter.unusedVariables false
set_option linter.unusedSimpArgs false
theorem pieces_cons {c : UInt8} : ∀ (w r : List UInt8), (∀ b ∈ w, b ≠ c) → pieces c (w ++ c :: r) = w :: pieces c r
  | [], r, _ => by simp [pieces]
  | b :: w, r, h => by
    have hb := h b (by simp)
    rw [List.cons_append, pieces, if_neg hb, pieces_cons w r fun x hx => h x (by simp [hx])]; rfl
theorem pieces_free {c : UInt8} : ∀ (w : List UInt8), (∀ b ∈ w, b ≠ c) → pieces c w = [w]
  | [], _ => rfl
  | b :: w, h => by
    have hb := h b (by simp)
    rw [pieces, if_neg hb, pieces_free w fun x hx => h x (by simp [hx])]; rfl
theorem free_of {l : List UInt8} {f i : Nat} (hi : i ≤ l.length) (h : ∀ j, f ≤ j → j < i → l.getD j 0 ≠ 10) : ∀ b ∈ (l.take i).drop f, b ≠ 10 := by
  intro b hb
  obtain ⟨j, hj, rfl⟩ := List.mem_iff_getElem.1 hb
  simp only [List.length_drop, List.length_take] at hj
  have := h (f + j) (by omega) (by omega)
  rw [List.getD_eq_getElem?_getD, List.getElem?_eq_getElem (by omega), Option.getD_some] at this
  simpa using this
theorem pieces_at {l : List UInt8} {f i : Nat} (hf : f ≤ i) (hi : i < l.length) (h : ∀ j, f ≤ j → j < i → l.getD j 0 ≠ 10) (h10 : l.getD i 0 = 10) : pieces 10 (l.drop f) = (l.take i).drop f :: pieces 10 (l.drop (i + 1)) := by
  have e : l.drop f = (l.take i).drop f ++ 10 :: l.drop (i + 1) := by
    rw [List.getD_eq_getElem?_getD, List.getElem?_eq_getElem hi, Option.getD_some] at h10
    conv => lhs; rw [← List.take_append_drop i l, List.drop_append_of_le_length (by simp; omega), List.drop_eq_getElem_cons hi, h10]
  rw [e, pieces_cons _ _ (free_of (by omega) h)]
set_option maxRecDepth 100000 in
theorem lines_ref (Γ : Env) (l : List UInt8) (hl : l.length ≤ 4194304) : BodyOk Tryz.prog Γ Tryz.f18 [.str l] [] (linesV l) [] := by
  have hpl := pieces_le 10 l
  (intro X hP hΓ hL hfin; refine ⟨_, rfl, ?_⟩; rw [show Tryz.f18.ntmps = 30 from rfl]; rw [show Tryz.f18.results.toList = [.tmp 2, .tmp 3] from rfl] at hfin; apply holds_of_ex X 400; simp only [push_cast, reduceCtorEq, Nat.reduceAdd, Nat.reduceMul, Nat.reduceSub, Nat.reduceBEq, Nat.reduceGT, Nat.reduceLT, Int.toNat_zero, Nat.reduceLeDiff, Int.reduceEq, Int.reduceLT, Int.reduceLE, hP, hΓ, hL, hfin])
  refine Holds.loop (ι := { p : List (List UInt8) × Nat × Nat // p.1 ++ pieces 10 (l.drop p.2.1) = pieces 10 l ∧ p.2.1 ≤ p.2.2 ∧ p.2.2 ≤ l.length ∧ ∀ j, p.2.1 ≤ j → j < p.2.2 → l.getD j 0 ≠ 10 })
    (fun i => ([.str l, .any, .any, .any, .msl 0 0 0 i.1.1.length, .int .i64 i.1.2.1, .int .i64 i.1.2.2, .any, .any, .any, .any, .any, .any, .any, .any, .any, .any, .any, .any, .any, .any, .any, .any, .any, .any, .any, .any, .any, .any, .any], [.row (i.1.1.map .str) 1 0])) (fun i => l.length - i.1.2.2) ⟨([], 0, 0), rfl, Nat.le_refl _, Nat.zero_le _, by intro j h1 h2; simp only at h2; omega⟩ ?_ ?_
  · rw [hL]
    (refine IntoF.nil 4  1 rfl ?_; simp only [push_cast, reduceCtorEq, Nat.reduceAdd, Nat.reduceMul, Nat.reduceSub, Nat.reduceBEq, Nat.reduceGT, Nat.reduceLT, Int.toNat_zero, Nat.reduceLeDiff, Int.reduceEq, Int.reduceLT, Int.reduceLE])
    (try simp only [List.map_append, List.append_assoc, List.map_cons, List.map_nil, List.length_append, List.length_cons, List.length_nil, byteAV, Nat.add_assoc, Nat.reduceAdd, Nat.zero_add, Nat.add_zero, List.append_nil, List.cons_append, List.nil_append])
    try simp only [Int.natCast_zero]
    exact Into.sameA
  rintro ⟨⟨p, f, i⟩, hp, hfi, hi, hno⟩
  simp only at hp hfi hi hno
  have hlen := congrArg List.length hp
  rw [List.length_append] at hlen
  ((first | with_reducible refine holds_of_ex X 400 _ _ _ ?_ | skip); simp only [push_cast, reduceCtorEq, Nat.reduceAdd, Nat.reduceMul, Nat.reduceSub, Nat.reduceBEq, Nat.reduceGT, Nat.reduceLT, Int.toNat_zero, Nat.reduceLeDiff, Int.reduceEq, Int.reduceLT, Int.reduceLE, hP, hΓ, hL, hfin])
  refine exB_split (fun h => ?_) (fun h => ?_)
  · have hi' : i < l.length := by have := of_decide_eq_true h; omega
    have hu : IntKind.i64.wrap ((i : Int) + 1) = (i : Int) + 1 := wrap_i64 _ (by omega)
    ((first | with_reducible refine holds_of_ex X 400 _ _ _ ?_ | skip); simp only [push_cast, reduceCtorEq, Nat.reduceAdd, Nat.reduceMul, Nat.reduceSub, Nat.reduceBEq, Nat.reduceGT, Nat.reduceLT, Int.toNat_zero, Nat.reduceLeDiff, Int.reduceEq, Int.reduceLT, Int.reduceLE, hP, hΓ, hL, hfin, hu])
    refine ⟨⟨by omega, by omega⟩, ?_⟩
    refine exB_split (fun h => ?_) (fun h => ?_)
    · have h10 : l.getD i 0 = 10 := by
        have := of_decide_eq_true h
        apply UInt8.toNat_inj.1
        simp [List.getD] at this ⊢; omega
      have hc := pieces_at hfi hi' hno h10
      rw [hc] at hp
      ((first | with_reducible refine holds_of_ex X 400 _ _ _ ?_ | skip); simp only [push_cast, reduceCtorEq, Nat.reduceAdd, Nat.reduceMul, Nat.reduceSub, Nat.reduceBEq, Nat.reduceGT, Nat.reduceLT, Int.toNat_zero, Nat.reduceLeDiff, Int.reduceEq, Int.reduceLT, Int.reduceLE, hP, hΓ, hL, hfin, hu])
      have hpc := pieces_le 10 l
      have hlen2 := congrArg List.length hp
      simp only [List.length_append, List.length_cons] at hlen2
      refine ⟨⟨by omega, by omega, by omega⟩, by omega, ⟨(p ++ [(l.take i).drop f], i + 1, i + 1), by simpa using hp, Nat.le_refl _, hi', by intro j h1 h2; simp only at h1 h2; omega⟩, by simp only; omega, ?_⟩
      (refine IntoF.ver 0  0 (by simp only [push_cast, reduceCtorEq, Nat.reduceAdd, Nat.reduceMul, Nat.reduceSub, Nat.reduceBEq, Nat.reduceGT, Nat.reduceLT, Int.toNat_zero, Nat.reduceLeDiff, Int.reduceEq, Int.reduceLT, Int.reduceLE]) (by first | exact .inr (Nat.zero_le _) | (left; simp only [push_cast, reduceCtorEq, Nat.reduceAdd, Nat.reduceMul, Nat.reduceSub, Nat.reduceBEq, Nat.reduceGT, Nat.reduceLT, Int.toNat_zero, Nat.reduceLeDiff, Int.reduceEq, Int.reduceLT, Int.reduceLE]; omega) | (right; simp only [push_cast, reduceCtorEq, Nat.reduceAdd, Nat.reduceMul, Nat.reduceSub, Nat.reduceBEq, Nat.reduceGT, Nat.reduceLT, Int.toNat_zero, Nat.reduceLeDiff, Int.reduceEq, Int.reduceLT, Int.reduceLE]; omega)) ?_; simp only [push_cast, reduceCtorEq, Nat.reduceAdd, Nat.reduceMul, Nat.reduceSub, Nat.reduceBEq, Nat.reduceGT, Nat.reduceLT, Int.toNat_zero, Nat.reduceLeDiff, Int.reduceEq, Int.reduceLT, Int.reduceLE])
      (try simp only [List.map_append, List.append_assoc, List.map_cons, List.map_nil, List.length_append, List.length_cons, List.length_nil, byteAV, Nat.add_assoc, Nat.reduceAdd, Nat.zero_add, Nat.add_zero, List.append_nil, List.cons_append, List.nil_append])
      exact Into.keep1A
    · have hne : l.getD i 0 ≠ 10 := by
        have := of_decide_eq_false h
        intro e; rw [e] at this; exact this rfl
      ((first | with_reducible refine holds_of_ex X 400 _ _ _ ?_ | skip); simp only [push_cast, reduceCtorEq, Nat.reduceAdd, Nat.reduceMul, Nat.reduceSub, Nat.reduceBEq, Nat.reduceGT, Nat.reduceLT, Int.toNat_zero, Nat.reduceLeDiff, Int.reduceEq, Int.reduceLT, Int.reduceLE, hP, hΓ, hL, hfin, hu])
      refine ⟨⟨(p, f, i + 1), hp, by simp only; omega, hi', fun j (h1 : f ≤ j) (h2 : j < i + 1) => ?_⟩, by simp only; omega, by exact Into.sameA⟩
      by_cases hj : j < i
      · exact hno j h1 hj
      · rw [show j = i by omega]; exact hne
  · have hi' : i = l.length := by have := of_decide_eq_false h; omega
    have hfree : pieces 10 (l.drop f) = [l.drop f] := by
      have := pieces_free _ (free_of (l := l) (f := f) (Nat.le_refl _) (by rw [← hi']; exact hno))
      rwa [List.take_length] at this
    rw [hfree, lines_eq l] at hp
    have hq := List.append_inj' hp rfl
    have hq2 : l.drop f = lrF l := (List.cons.inj hq.2).1
    ((first | with_reducible refine holds_of_ex X 400 _ _ _ ?_ | skip); simp only [push_cast, reduceCtorEq, Nat.reduceAdd, Nat.reduceMul, Nat.reduceSub, Nat.reduceBEq, Nat.reduceGT, Nat.reduceLT, Int.toNat_zero, Nat.reduceLeDiff, Int.reduceEq, Int.reduceLT, Int.reduceLE, hP, hΓ, hL, hfin])
    (refine Holds.drawnQ (by rw [hP]; kernel_rfl) (by kernel_rfl) ?_; simp only [push_cast, reduceCtorEq, Nat.reduceAdd, Nat.reduceMul, Nat.reduceSub, Nat.reduceBEq, Nat.reduceGT, Nat.reduceLT, Int.toNat_zero, Nat.reduceLeDiff, Int.reduceEq, Int.reduceLT, Int.reduceLE, hP, hΓ, hL, hfin, List.take_length])
    refine ⟨⟨by omega, by omega, by omega⟩, ?_⟩
    rw [hq.1, hq2]
    (refine IntoF.frz 0 (by simp only [push_cast, reduceCtorEq, Nat.reduceAdd, Nat.reduceMul, Nat.reduceSub, Nat.reduceBEq, Nat.reduceGT, Nat.reduceLT, Int.toNat_zero, Nat.reduceLeDiff, Int.reduceEq, Int.reduceLT, Int.reduceLE]; first | done | decide | omega) (by simp only [frzOk', frzOk, isMap, or_true, true_or, push_cast, reduceCtorEq, Nat.reduceAdd, Nat.reduceMul, Nat.reduceSub, Nat.reduceBEq, Nat.reduceGT, Nat.reduceLT, Int.toNat_zero, Nat.reduceLeDiff, Int.reduceEq, Int.reduceLT, Int.reduceLE]) ?_; simp only [push_cast, reduceCtorEq, Nat.reduceAdd, Nat.reduceMul, Nat.reduceSub, Nat.reduceBEq, Nat.reduceGT, Nat.reduceLT, Int.toNat_zero, Nat.reduceLeDiff, Int.reduceEq, Int.reduceLT, Int.reduceLE])
    exact Into.keep0A
theorem con9F {Γ : Env} (h : EnvOk Tryz.prog Γ) : Con Tryz.prog 18 linesS := by
  refine Con.of_body h (fn := Tryz.f18) (by kernel_rfl) rfl (by kernel_rfl) (fun _ _ => rfl) fun xs hx => ?_
  unfold lwP at hx
  split at hx
  · exact lines_ref Γ _ hx
  · exact hx.elim
end Go.Proofs.YtenopfmafecffaaGreatDoor.linesDone
