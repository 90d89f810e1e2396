/- Of assembly texts: a line's name and operands, by the document. Conditions stand in each. Of assembly texts: the word that a line says, by the document. Conditions stand in each. Of assembly texts: a text read by the document. Conditions stand in each. Of assembly texts: texts read by the program and by the document; words written and read again. Conditions stand in each. -/
import Derived.Test.YtgemeilncdmapaaGreatDoorQS
import Derived.Test.YtgemeilncdmapaaGreatDoorEE
section
namespace Go.Proofs.YtgemeilncdmapaaGreatDoor.asmDone
open Go Go.Eng Go.Proofs Go.RowKit
open Go.Asm (blk trimF bareF headF restF pcs)
open Go.Lines (pieces pieces_len pieces_le)
open Go.Proofs.YtgemeilncdmapaaGreatDoor.linesDone (pcs_pieces)
set_option linter.unusedVariables false
set_option linter.unusedSimpArgs false
set_option maxRecDepth 100000
set_option maxHeartbeats 4000000
/-- between two places there is no such letter -/
def gap (c : UInt8) (s : List UInt8) (a b : Nat) : Prop := ∀ j, a ≤ j → j < b → s.getD j 0 ≠ c
theorem gap_mem {c : UInt8} {s : List UInt8} {a b : Nat} (h : gap c s a b) : ∀ x ∈ (s.take b).drop a, x ≠ c := by
  intro x hx
  obtain ⟨i, hi, rfl⟩ := List.getElem_of_mem hx
  have hl := hi
  rw [List.length_drop, List.length_take] at hl
  rw [List.getElem_drop, List.getElem_take]
  have := h (a + i) (by omega) (by omega)
  rwa [List.getD_eq_getElem?_getD, List.getElem?_eq_getElem (by omega), Option.getD_some] at this
theorem pc_end {c : UInt8} {s : List UInt8} {a : Nat} (h : gap c s a s.length) : pieces c (s.drop a) = [s.drop a] := by
  have := gap_mem h
  rw [List.take_length] at this
  rw [← pcs_pieces]
  exact Go.Asm.pcs_no this
theorem pc_at {c : UInt8} {s : List UInt8} {a b : Nat} (h : gap c s a b) (hab : a ≤ b) (hb : b < s.length) (hc : s.getD b 0 = c) : pieces c (s.drop a) = (s.take b).drop a :: pieces c (s.drop (b + 1)) := by
  have e : s.drop a = (s.take b).drop a ++ c :: s.drop (b + 1) := by
    have h1 : s = s.take b ++ c :: s.drop (b + 1) := by
      conv => lhs; rw [← List.take_append_drop b s, List.drop_eq_getElem_cons hb]
      rw [List.getD_eq_getElem?_getD, List.getElem?_eq_getElem hb, Option.getD_some] at hc
      rw [hc]
    conv => lhs; rw [h1]
    rw [List.drop_append_of_le_length (by rw [List.length_take]; omega)]
  rw [e, ← pcs_pieces, Go.Asm.pcs_at _ (gap_mem h), pcs_pieces]
theorem gap_snoc {c : UInt8} {s : List UInt8} {a b : Nat} (h : gap c s a b) (hc : s.getD b 0 ≠ c) : gap c s a (b + 1) := by
  intro j h1 h2
  rcases Nat.lt_succ_iff_lt_or_eq.1 h2 with h' | rfl
  · exact h j h1 h'
  · exact hc
theorem gap_nil (c : UInt8) (s : List UInt8) (a : Nat) : gap c s a a := fun j h1 h2 => by omega
theorem u8_eq {x : UInt8} {n : Nat} (c : UInt8) (hn : c.toNat = n) : ((x.toNat : Int) = (n : Int)) ↔ x = c := by
  constructor
  · intro h; exact UInt8.toNat_inj.1 (by omega)
  · intro h; rw [h, hn]
def e72 : (List UInt8) → List AV := fun s => [.str s]
def p72 : (List UInt8) → Prop := fun s => s.length ≤ 4194304
def r72 : (List UInt8) → AV := fun s => .tup [.str (headF s), .sl ((restF s).map AV.str) (restF s).length]
def g72 : (List UInt8) → Heap := fun s => []
theorem inj72 : ∀ a b, e72 a = e72 b → a = b := by
  rintro s s' h
  simp only [e72, mi_iff, ms_iff, mb_iff, my_iff, UInt8.toNat_inj, List.cons.injEq, AV.int.injEq, AV.str.injEq, AV.bool.injEq, AV.sl.injEq, AV.agg.injEq, AV.ip.injEq, AV.fn.injEq, AV.ifc.injEq, AV.mpr.injEq, Int.natCast_inj, and_true, true_and] at h
  simp_all only
noncomputable def S72 : FSpec := funS e72 p72 r72 g72 true
theorem ps72 (s : (List UInt8)) : psel e72 p72 [.str s] = (s.length ≤ 4194304) := psel_at inj72 p72 s
theorem rs72 (s : (List UInt8)) : rsel e72 r72 .any [.str s] = (.tup [.str (headF s), .sl ((restF s).map AV.str) (restF s).length]) := rsel_at inj72 r72 .any s
theorem hs72 (s : (List UInt8)) : rsel e72 g72 [] [.str s] = ([]) := rsel_at inj72 g72 [] s
attribute [push_cast] S72 ps72 rs72 hs72
theorem body72 (Γ : Env) (h71 : Γ 71 = some S71) (h99 : Γ 99 = some S99) (s : List UInt8) (hs : s.length ≤ 4194304) : BodyOk Tryz.prog Γ Tryz.f72 [.str s] [] (.tup [.str (headF s), .sl ((restF s).map AV.str) (restF s).length]) [] := by
  (intro X hP hΓ hL hfin; refine ⟨_, rfl, ?_⟩; rw [show Tryz.f72.ntmps = 61 from rfl]; rw [show Tryz.f72.results.toList = [.tmp 2, .tmp 3] from rfl] at hfin; apply holds_of_ex X 400; simp (maxSteps := 1000000) only [push_cast, reduceCtorEq, Nat.reduceAdd, Nat.reduceMul, Nat.reduceSub, Nat.reduceBEq, Nat.reduceGT, Nat.reduceLT, Int.toNat_zero, Nat.reduceLeDiff, Int.reduceEq, Int.reduceLT, Int.reduceLE, hP, hΓ, hL, hfin, String.reduceEq, not_false_eq_true, if_true, if_false, Int.toNat_one, Bool.not_not])
  refine Holds.loopM (ι := {k : Nat // k ≤ s.length ∧ ∀ j < k, (!blk (s.getD j 0)) = true}) [true, false, true, true, false, true, true, true, true, false, false, false, false, false, false, false, false, false, false, false, false, false, false, false, false, false, false, false, false, false, false, false, false, false, false, false, false, false, false, false, false, false, false, false, false, false, false, false, false, false, false, false, false, false, false, false, false, false, false, false, false] (fun i => [(4, .int .i64 i.1)]) (fun i => []) (fun i => s.length - i.1) ⟨0, Nat.zero_le _, by simp⟩ ?_ ?_
  · (rw [hL]; simp only [push_cast, Int.natCast_zero]; exact Into.sameA)
  rintro ⟨k, hk, hg⟩
  by_cases hc : k < s.length ∧ blk (s.getD k 0) = false
  · obtain ⟨hk', hb⟩ := hc
    have hd : decide ((k : Int) < ((s.length : Nat) : Int)) = true := decide_eq_true (by omega)
    ((first | with_reducible refine holds_of_ex X 400 _ _ _ ?_ | skip); simp (maxSteps := 1000000) only [push_cast, reduceCtorEq, Nat.reduceAdd, Nat.reduceMul, Nat.reduceSub, Nat.reduceBEq, Nat.reduceGT, Nat.reduceLT, Int.toNat_zero, Nat.reduceLeDiff, Int.reduceEq, Int.reduceLT, Int.reduceLE, hP, hΓ, hL, hfin, String.reduceEq, not_false_eq_true, if_true, if_false, Int.toNat_one, Bool.not_not, h99, hd, hb])
    refine ⟨by omega, ⟨k + 1, hk', fun j hj => ?_⟩, by simp only; omega, ?_⟩
    · rcases Nat.lt_succ_iff_lt_or_eq.1 hj with h' | rfl
      · exact hg j h'
      · rw [hb]; rfl
    dsimp only
    rw [wr_i64 ((k : Int) + 1) (by constructor <;> omega)]
    exact Into.sameA
  · have hd : (decide ((k : Int) < ((s.length : Nat) : Int)) && !blk (s.getD k 0)) = false := by
      rw [Bool.eq_false_iff]; intro h
      simp only [Bool.and_eq_true, decide_eq_true_eq, Bool.not_eq_true'] at h
      exact hc ⟨by omega, h.2⟩
    have hE : headF s = s.take k := tw_take (p := fun c => !blk c) hg hk (fun h => by
      cases hb : blk (s.getD k 0) with
      | true => rfl
      | false => exact absurd ⟨h, hb⟩ hc)
    have hlE : (headF s).length = k := by rw [hE, List.length_take]; omega
    have hdl : (s.drop k).length ≤ 4194304 := by rw [List.length_drop]; omega
    have htl := trim_le (s.drop k)
    by_cases hr : trimF (s.drop k) = []
    · have hb : (trimF (s.drop k) == []) = true := beq_iff_eq.2 hr
      have e : restF s = [] := rest_0 (by rw [hlE]; exact hr)
      rw [e, hE] at hfin
      ((first | with_reducible refine holds_of_ex X 400 _ _ _ ?_ | skip); simp (maxSteps := 1000000) only [push_cast, reduceCtorEq, Nat.reduceAdd, Nat.reduceMul, Nat.reduceSub, Nat.reduceBEq, Nat.reduceGT, Nat.reduceLT, Int.toNat_zero, Nat.reduceLeDiff, Int.reduceEq, Int.reduceLT, Int.reduceLE, hP, hΓ, hL, hfin, String.reduceEq, not_false_eq_true, if_true, if_false, Int.toNat_one, Bool.not_not, h99, hd, h71, hdl, hb, List.take_length])
      refine ⟨fun h => by first | omega | (simp only [decide_eq_true_eq] at h; omega), by omega, by omega, by omega, ?_⟩
      refine IntoF.soft ?_
      simp only [push_cast]
      exact Into.one rfl rfl
    · have hb : (trimF (s.drop k) == []) = false := beq_eq_false_iff_ne.2 hr
      have e : restF s = (pieces 44 (trimF (s.drop k))).map trimF := by rw [rest_1 (by rw [hlE]; exact hr), hlE]
      rw [e, hE] at hfin
      generalize hD : trimF (s.drop k) = rt at *
      have hrt : rt.length ≤ 4194304 := by omega
      ((first | with_reducible refine holds_of_ex X 400 _ _ _ ?_ | skip); simp (maxSteps := 1000000) only [push_cast, reduceCtorEq, Nat.reduceAdd, Nat.reduceMul, Nat.reduceSub, Nat.reduceBEq, Nat.reduceGT, Nat.reduceLT, Int.toNat_zero, Nat.reduceLeDiff, Int.reduceEq, Int.reduceLT, Int.reduceLE, hP, hΓ, hL, hfin, String.reduceEq, not_false_eq_true, if_true, if_false, Int.toNat_one, Bool.not_not, h99, hd, h71, hdl, hD, hb, List.take_length])
      refine ⟨fun h => by first | omega | (simp only [decide_eq_true_eq] at h; omega), by omega, by omega, ?_⟩
      refine Holds.loopM (ι := {x : Nat × Nat × List (List UInt8) // x.1 ≤ rt.length + 1 ∧ x.2.2.length ≤ x.1 ∧ (x.1 ≤ rt.length → x.2.1 ≤ x.1 ∧ gap 44 rt x.2.1 x.1 ∧ (pieces 44 rt).map trimF = x.2.2 ++ (pieces 44 (rt.drop x.2.1)).map trimF) ∧ (x.1 = rt.length + 1 → (pieces 44 rt).map trimF = x.2.2)}) [true, false, true, true, true, true, false, false, false, false, false, false, false, false, false, false, false, false, false, false, false, false, false, false, false, false, false, false, false, false, false, false, false, false, false, false, false, false, false, false, false, false, false, false, false, false, false, false, false, false, false, false, false, false, false, false, false, false, false, false, false] (fun i => [(8, .int .i64 i.1.1), (7, .int .i64 i.1.2.1), (6, .msl 0 0 0 i.1.2.2.length)]) (fun i => [.row (i.1.2.2.map AV.str) 1 0]) (fun i => rt.length + 1 - i.1.1) ⟨(0, 0, []), Nat.zero_le _, Nat.le_refl _, fun _ => ⟨Nat.le_refl _, gap_nil _ _ _, rfl⟩, fun h => by simp only at h; omega⟩ ?_ ?_
      · rw [hL]; simp only [push_cast, Int.natCast_zero]
        (refine IntoF.nil 6  1 rfl ?_; simp only [push_cast, reduceCtorEq, Nat.reduceAdd, Nat.reduceMul, Nat.reduceSub, Nat.reduceBEq, Nat.reduceGT, Nat.reduceLT, Int.toNat_zero, Nat.reduceLeDiff, Int.reduceEq, Int.reduceLT, Int.reduceLE])
        exact Into.sameA
      rintro ⟨⟨q, fr, out⟩, hq, hol, hmid, hend⟩
      simp only at hq hol hmid hend
      ((first | with_reducible refine holds_of_ex X 400 _ _ _ ?_ | skip); simp (maxSteps := 1000000) only [push_cast, reduceCtorEq, Nat.reduceAdd, Nat.reduceMul, Nat.reduceSub, Nat.reduceBEq, Nat.reduceGT, Nat.reduceLT, Int.toNat_zero, Nat.reduceLeDiff, Int.reduceEq, Int.reduceLT, Int.reduceLE, hP, hΓ, hL, hfin, String.reduceEq, not_false_eq_true, if_true, if_false, Int.toNat_one, Bool.not_not])
      ((with_reducible refine exB_split (fun h => ?_) (fun h => ?_)) <;> (try simp only [decide_eq_true_eq, decide_eq_false_iff_not, Bool.and_eq_true, Bool.or_eq_true, Bool.and_eq_false_iff, Bool.or_eq_false_iff, Bool.not_eq_true', Bool.not_eq_false', Bool.not_eq_true, Bool.not_eq_false, Int.not_lt, Int.not_le, beq_iff_eq, beq_eq_false_iff_ne, ne_eq] at h))
      · have hq' : q ≤ rt.length := by omega
        obtain ⟨hf, hgp, hp⟩ := hmid hq'
        have c44 := u8_eq (x := rt.getD q 0) 44 rfl
        by_cases hc : q = rt.length ∨ rt.getD q 0 = 44
        · have hcd : (decide ((q : Int) = ((rt.length : Nat) : Int)) || decide (((rt.getD q 0).toNat : Int) = 44)) = true := by
            simp only [Bool.or_eq_true, decide_eq_true_eq]
            rcases hc with h | h
            · exact .inl (by omega)
            · exact .inr (c44.2 h)
          have hxl : ((rt.take q).drop fr).length ≤ 4194304 := by rw [List.length_drop, List.length_take]; omega
          generalize hxe : (rt.take q).drop fr = x at *
          ((first | with_reducible refine holds_of_ex X 400 _ _ _ ?_ | skip); simp (maxSteps := 1000000) only [push_cast, reduceCtorEq, Nat.reduceAdd, Nat.reduceMul, Nat.reduceSub, Nat.reduceBEq, Nat.reduceGT, Nat.reduceLT, Int.toNat_zero, Nat.reduceLeDiff, Int.reduceEq, Int.reduceLT, Int.reduceLE, hP, hΓ, hL, hfin, String.reduceEq, not_false_eq_true, if_true, if_false, Int.toNat_one, Bool.not_not, h71, hcd, hxe, hxl])
          refine ⟨fun h => by simp only [Bool.not_eq_true', decide_eq_false_iff_not] at h; omega, ⟨by omega, by omega⟩, by omega, ⟨(q + 1, q + 1, out ++ [trimF x]), by simp only; omega, by simp only [List.length_append, List.length_cons, List.length_nil]; omega, fun h => ?_, fun h => ?_⟩, by simp only; omega, ?_⟩
          · simp only at h ⊢
            have h44 : rt.getD q 0 = 44 := by
              rcases hc with h' | h'
              · omega
              · exact h'
            refine ⟨Nat.le_refl _, gap_nil _ _ _, ?_⟩
            rw [hp, pc_at hgp hf (by omega) h44, hxe, List.map_cons, List.append_assoc]; rfl
          · simp only at h ⊢
            obtain rfl : q = rt.length := by omega
            rw [List.take_length] at hxe
            rw [hp, pc_end hgp, hxe]; rfl
          dsimp only
          rw [wr_i64 ((q : Int) + 1) (by constructor <;> omega), List.map_append, List.length_append]
          (refine IntoF.ver 0  0 (by simp only [push_cast, reduceCtorEq, Nat.reduceAdd, Nat.reduceMul, Nat.reduceSub, Nat.reduceBEq, Nat.reduceGT, Nat.reduceLT, Int.toNat_zero, Nat.reduceLeDiff, Int.reduceEq, Int.reduceLT, Int.reduceLE]) (by first | exact .inr (Nat.zero_le _) | (left; simp only [push_cast, reduceCtorEq, Nat.reduceAdd, Nat.reduceMul, Nat.reduceSub, Nat.reduceBEq, Nat.reduceGT, Nat.reduceLT, Int.toNat_zero, Nat.reduceLeDiff, Int.reduceEq, Int.reduceLT, Int.reduceLE]; first | done | omega) | (right; simp only [push_cast, reduceCtorEq, Nat.reduceAdd, Nat.reduceMul, Nat.reduceSub, Nat.reduceBEq, Nat.reduceGT, Nat.reduceLT, Int.toNat_zero, Nat.reduceLeDiff, Int.reduceEq, Int.reduceLT, Int.reduceLE]; first | done | omega)) ?_; simp only [push_cast, reduceCtorEq, Nat.reduceAdd, Nat.reduceMul, Nat.reduceSub, Nat.reduceBEq, Nat.reduceGT, Nat.reduceLT, Int.toNat_zero, Nat.reduceLeDiff, Int.reduceEq, Int.reduceLT, Int.reduceLE])
          exact Into.sameA
        · have hcd : (decide ((q : Int) = ((rt.length : Nat) : Int)) || decide (((rt.getD q 0).toNat : Int) = 44)) = false := by
            rw [Bool.eq_false_iff]; intro h'
            simp only [Bool.or_eq_true, decide_eq_true_eq] at h'
            rcases h' with h' | h'
            · exact hc (.inl (by omega))
            · exact hc (.inr (c44.1 h'))
          have hne : q ≠ rt.length := fun h' => hc (.inl h')
          have hn44 : rt.getD q 0 ≠ 44 := fun h' => hc (.inr h')
          ((first | with_reducible refine holds_of_ex X 400 _ _ _ ?_ | skip); simp (maxSteps := 1000000) only [push_cast, reduceCtorEq, Nat.reduceAdd, Nat.reduceMul, Nat.reduceSub, Nat.reduceBEq, Nat.reduceGT, Nat.reduceLT, Int.toNat_zero, Nat.reduceLeDiff, Int.reduceEq, Int.reduceLT, Int.reduceLE, hP, hΓ, hL, hfin, String.reduceEq, not_false_eq_true, if_true, if_false, Int.toNat_one, Bool.not_not, hcd])
          refine ⟨fun h => by omega, ⟨(q + 1, fr, out), by simp only; omega, by simp only; omega, fun h => ?_, fun h => by simp only at h; omega⟩, by simp only; omega, ?_⟩
          · simp only at h ⊢
            exact ⟨by omega, gap_snoc hgp hn44, hp⟩
          dsimp only
          rw [wr_i64 ((q : Int) + 1) (by constructor <;> omega)]
          exact Into.sameA
      · obtain rfl : q = rt.length + 1 := by omega
        have ht := hend rfl
        rw [ht] at hfin
        ((first | with_reducible refine holds_of_ex X 400 _ _ _ ?_ | skip); simp (maxSteps := 1000000) only [push_cast, reduceCtorEq, Nat.reduceAdd, Nat.reduceMul, Nat.reduceSub, Nat.reduceBEq, Nat.reduceGT, Nat.reduceLT, Int.toNat_zero, Nat.reduceLeDiff, Int.reduceEq, Int.reduceLT, Int.reduceLE, hP, hΓ, hL, hfin, String.reduceEq, not_false_eq_true, if_true, if_false, Int.toNat_one, Bool.not_not])
        refine ⟨by omega, ?_⟩
        (refine IntoF.frz 0 (by simp only [push_cast, reduceCtorEq, Nat.reduceAdd, Nat.reduceMul, Nat.reduceSub, Nat.reduceBEq, Nat.reduceGT, Nat.reduceLT, Int.toNat_zero, Nat.reduceLeDiff, Int.reduceEq, Int.reduceLT, Int.reduceLE]; first | done | decide | omega) (by simp only [frzOk', frzOk, isMap, or_true, true_or, push_cast, reduceCtorEq, Nat.reduceAdd, Nat.reduceMul, Nat.reduceSub, Nat.reduceBEq, Nat.reduceGT, Nat.reduceLT, Int.toNat_zero, Nat.reduceLeDiff, Int.reduceEq, Int.reduceLT, Int.reduceLE]) ?_; simp only [push_cast, reduceCtorEq, Nat.reduceAdd, Nat.reduceMul, Nat.reduceSub, Nat.reduceBEq, Nat.reduceGT, Nat.reduceLT, Int.toNat_zero, Nat.reduceLeDiff, Int.reduceEq, Int.reduceLT, Int.reduceLE])
        rw [List.take_of_length_le (l := out.map AV.str) (by simp)]
        exact Into.one rfl (by simp only [scp, scpL, scpL_str, Bool.and_self])
theorem con72 {Γ : Env} (h : EnvOk Tryz.prog Γ) (h71 : Γ 71 = some S71) (h99 : Γ 99 = some S99) : Con Tryz.prog 72 S72 :=
  funS_con h (fn := Tryz.f72) (by kernel_rfl) rfl (by kernel_rfl) inj72 (by first | (intro h; cases h; done) | exact fun _ _ => rfl) fun s h => body72 Γ h71 h99 s h
end Go.Proofs.YtgemeilncdmapaaGreatDoor.asmDone
end
section
namespace Go.Proofs.YtgemeilncdmapaaGreatDoor.asmDone
open Go Go.Eng Go.Proofs Go.RowKit
open Go.Asm (mayB in16 rightB laid In rightI laidI numO regO refO ixO brO readO lastO formO formL encO wordO lineO headF restF unhO)
set_option linter.unusedVariables false
set_option linter.unusedSimpArgs false
set_option maxRecDepth 100000
set_option maxHeartbeats 4000000
instance : Inhabited NE := ⟨([], ⟨0, false, false, 0, 0, 0, 0, 0⟩)⟩
def hasNm (nm : List UInt8) (p : NE) : Bool := p.1 == nm
/-- what the forms from one on say of operands -/
def seekO (nm : List UInt8) (l : List (List UInt8)) (F : List NE) : Option In := (F.find? (hasNm nm)).bind fun p => readO p.2 l
/-- what a name that is not WORD says -/
def theO (nm : List UInt8) (l : List (List UInt8)) (at_ : Int) : Option In := if nm = [74, 77, 80] ∨ nm = [67, 65, 76, 76] then brO (nm == [67, 65, 76, 76]) l at_ else (formO nm).bind fun i => readO i l
theorem word_the {nm : List UInt8} {l : List (List UInt8)} {at_ : Int} (hw : nm ≠ [87, 79, 82, 68]) : wordO nm l at_ = encO (theO nm l at_) := by
  unfold wordO theO
  rw [if_neg hw]
  split
  · rfl
  · cases formO nm <;> rfl
theorem form_ref (s : List UInt8) : formO s = ((refE 12).find? (hasNm s)).map (·.2) := by
  have := find_eq (l1 := refE 12) (l2 := formL) (by decide +kernel) (by decide +kernel) s
  unfold hasNm
  rw [this]; rfl
theorem ref_one : ∀ k < 55, ∀ p ∈ (refE 12).drop (k + 1), p.1 ≠ ((refE 12).getD k default).1 := by decide +kernel
theorem ref_f : ∀ k < 55, (((refE 12).getD k default).2.f = 0 ∨ ((refE 12).getD k default).2.f = 1 ∨ ((refE 12).getD k default).2.f = 2) := by decide +kernel
theorem seek_0 (nm : List UInt8) (l : List (List UInt8)) (at_ : Int) : (rbO nm l at_ = none ∧ theO nm l at_ = seekO nm l ((refE 12).drop 0)) ∨ ∃ i, rbO nm l at_ = some i ∧ theO nm l at_ = some i := by
  unfold rbO theO seekO
  rw [List.drop_zero]
  split
  · rename_i h
    cases hb : brO (nm == [67, 65, 76, 76]) l at_ with
    | some i => exact .inr ⟨i, rfl, rfl⟩
    | none =>
      left
      refine ⟨rfl, ?_⟩
      rcases h with rfl | rfl <;> (rw [show (refE 12).find? (hasNm _) = none by decide +kernel]; rfl)
  · left
    refine ⟨rfl, ?_⟩
    rw [form_ref]
    cases (refE 12).find? (hasNm nm) <;> rfl
theorem ref_drop {k : Nat} (h : k < 55) : (refE 12).drop k = (refE 12).getD k default :: (refE 12).drop (k + 1) := by
  have hl : k < (refE 12).length := by rw [ref_len]; exact h
  rw [List.drop_eq_getElem_cons hl]; simp [List.getD, hl]
theorem seek_no {nm : List UInt8} {l : List (List UInt8)} {k : Nat} (h : k < 55) (hn : ((refE 12).getD k default).1 ≠ nm) : seekO nm l ((refE 12).drop k) = seekO nm l ((refE 12).drop (k + 1)) := by
  unfold seekO
  rw [ref_drop h, List.find?_cons, show hasNm nm ((refE 12).getD k default) = false from beq_eq_false_iff_ne.2 hn]
theorem seek_yes {nm : List UInt8} {l : List (List UInt8)} {k : Nat} (h : k < 55) (hn : ((refE 12).getD k default).1 = nm) : seekO nm l ((refE 12).drop k) = readO ((refE 12).getD k default).2 l ∧ seekO nm l ((refE 12).drop (k + 1)) = none := by
  unfold seekO
  constructor
  · rw [ref_drop h, List.find?_cons, show hasNm nm ((refE 12).getD k default) = true from beq_iff_eq.2 hn]; rfl
  · have : ((refE 12).drop (k + 1)).find? (hasNm nm) = none := by
      rw [List.find?_eq_none]
      intro p hp hh
      exact ref_one k h p hp (by rw [hn]; exact beq_iff_eq.1 hh)
    rw [this]; rfl
theorem seek_end (nm : List UInt8) (l : List (List UInt8)) : seekO nm l ((refE 12).drop 55) = none := by
  rw [List.drop_of_length_le (by rw [ref_len]; decide)]; rfl
theorem fmC_mk (pn : List UInt8) (f : Int) (u v : Bool) (a b op c n : Int) : fmC (pn, ⟨f, u, v, a, b, op, c, n⟩) = [.str pn, .int .i64 f, .bool u, .bool v, .int .i64 a, .int .i64 b, .int .i64 op, .int .i64 c, .int .i64 n, .int .i64 (rgI ⟨f, u, v, a, b, op, c, n⟩), .bool (!decide (f = 0))] := rfl
theorem enc_0 : encO none = none := rfl
theorem enc_1 (i : In) : encO (some i) = if rightI i then some (laidI i) else none := rfl
def e40 : (List UInt8) × (Int) → List AV := fun (s, at_) => [.str s, .int .u32 at_]
def p40 : (List UInt8) × (Int) → Prop := fun (s, at_) => s.length ≤ 4194303 ∧ (0 ≤ at_ ∧ at_ < 4294967296)
def r40 : (List UInt8) × (Int) → AV := fun (s, at_) => .tup [.int .u32 ((lineO s at_).getD 0), .bool (lineO s at_).isSome]
def g40 : (List UInt8) × (Int) → Heap := fun (s, at_) => []
theorem inj40 : ∀ a b, e40 a = e40 b → a = b := by
  rintro ⟨s, at_⟩ ⟨s', at_'⟩ h
  simp only [e40, mi_iff, ms_iff, mb_iff, my_iff, UInt8.toNat_inj, List.cons.injEq, AV.int.injEq, AV.str.injEq, AV.bool.injEq, AV.sl.injEq, AV.agg.injEq, AV.ip.injEq, AV.fn.injEq, AV.ifc.injEq, AV.mpr.injEq, Int.natCast_inj, and_true, true_and] at h
  simp_all only
noncomputable def S40 : FSpec := funS e40 p40 r40 g40 true
theorem ps40 (s : (List UInt8)) (at_ : (Int)) : psel e40 p40 [.str s, .int .u32 at_] = (s.length ≤ 4194303 ∧ (0 ≤ at_ ∧ at_ < 4294967296)) := psel_at inj40 p40 (s, at_)
theorem rs40 (s : (List UInt8)) (at_ : (Int)) : rsel e40 r40 .any [.str s, .int .u32 at_] = (.tup [.int .u32 ((lineO s at_).getD 0), .bool (lineO s at_).isSome]) := rsel_at inj40 r40 .any (s, at_)
theorem hs40 (s : (List UInt8)) (at_ : (Int)) : rsel e40 g40 [] [.str s, .int .u32 at_] = ([]) := rsel_at inj40 g40 [] (s, at_)
attribute [push_cast] S40 ps40 rs40 hs40
theorem body40 (Γ : Env) (h72 : Γ 72 = some S72) (h73 : Γ 73 = some S73) (h74 : Γ 74 = some S74) (h75 : Γ 75 = some S75) (h76 : Γ 76 = some S76) (h77 : Γ 77 = some S77) (s : List UInt8) (at_ : Int) (hs : s.length ≤ 4194303) (hat : 0 ≤ at_ ∧ at_ < 4294967296) : BodyOk Tryz.prog Γ Tryz.f40 [.str s, .int .u32 at_] [] (.tup [.int .u32 ((lineO s at_).getD 0), .bool (lineO s at_).isSome]) [] := by
  obtain ⟨hrl, hrm⟩ := rest_len s
  unfold lineO
  have hs1 : s.length ≤ 4194304 := by omega
  generalize hH : headF s = nm at *
  generalize hR : restF s = l at *
  have hl : l.length ≤ 4194304 := by omega
  have hm : ∀ x ∈ l, x.length ≤ 4194304 := fun x hx => Nat.le_trans (hrm x hx) (by omega)
  by_cases hw : nm = [87, 79, 82, 68]
  · subst hw
    by_cases h1 : l.length = 1
    case neg =>
      have hd : decide (((l.length : Nat) : Int) = 1) = false := decide_eq_false (by omega)
      have e : wordO [87, 79, 82, 68] l at_ = none := by
        unfold wordO
        rw [if_pos rfl]
        match l, h1 with
        | [], _ => rfl
        | [_], h => exact absurd rfl h
        | _ :: _ :: _, _ => rfl
      rw [e]
      (intro X hP hΓ hL hfin; refine ⟨_, rfl, ?_⟩; rw [show Tryz.f40.ntmps = 80 from rfl]; rw [show Tryz.f40.results.toList = [.tmp 4, .tmp 5] from rfl] at hfin; apply holds_of_ex X 400; simp (maxSteps := 1000000) only [push_cast, reduceCtorEq, Nat.reduceAdd, Nat.reduceMul, Nat.reduceSub, Nat.reduceBEq, Nat.reduceGT, Nat.reduceLT, Int.toNat_zero, Nat.reduceLeDiff, Int.reduceEq, Int.reduceLT, Int.reduceLE, hP, hΓ, hL, hfin, String.reduceEq, not_false_eq_true, if_true, if_false, Int.toNat_one, Bool.not_not, agI_mk, Option.isSome_some, Option.isSome_none, Option.getD_some, Option.getD_none, h72, hs1, hH, hR, hd])
      exact Into.one rfl rfl
    match l, h1 with
    | [x], _ =>
    have hx := hm x (by simp)
    have e : wordO [87, 79, 82, 68] [x] at_ = unhO x := by unfold wordO; rw [if_pos rfl]
    rw [e]
    have ev : decide ((if (unhO x).isSome = true then (0 : Int) else 10) = 0) = (unhO x).isSome := by cases (unhO x).isSome <;> rfl
    (intro X hP hΓ hL hfin; refine ⟨_, rfl, ?_⟩; rw [show Tryz.f40.ntmps = 80 from rfl]; rw [show Tryz.f40.results.toList = [.tmp 4, .tmp 5] from rfl] at hfin; apply holds_of_ex X 400; simp (maxSteps := 1000000) only [push_cast, reduceCtorEq, Nat.reduceAdd, Nat.reduceMul, Nat.reduceSub, Nat.reduceBEq, Nat.reduceGT, Nat.reduceLT, Int.toNat_zero, Nat.reduceLeDiff, Int.reduceEq, Int.reduceLT, Int.reduceLE, hP, hΓ, hL, hfin, String.reduceEq, not_false_eq_true, if_true, if_false, Int.toNat_one, Bool.not_not, agI_mk, Option.isSome_some, Option.isSome_none, Option.getD_some, Option.getD_none, h72, hs1, hH, hR, h73, hx, ev])
    exact ⟨by decide, Into.one rfl rfl⟩
  rw [word_the hw]
  have d1 : (nm == [87, 79, 82, 68]) = false := beq_eq_false_iff_ne.2 hw
  obtain ⟨i0, ok0, hi0, hok0, hT⟩ : ∃ (i0 : In) (ok0 : Bool), (rbO nm l at_).getD (rbF nm l at_) = i0 ∧ (rbO nm l at_).isSome = ok0 ∧ (theO nm l at_ = if ok0 then some i0 else seekO nm l ((refE 12).drop 0)) := by
    rcases seek_0 nm l at_ with ⟨e1, e2⟩ | ⟨i, e1, e2⟩
    · exact ⟨_, _, rfl, rfl, by rw [e1, e2]; rfl⟩
    · exact ⟨_, _, rfl, rfl, by rw [e1, e2]; rfl⟩
  obtain ⟨f0, u0, v0, a0, b0, op0, c0, n0⟩ := i0
  have e55 : AV.sl ((refE 12).flatMap fmC) 55 = AV.sl ((refE 12).flatMap fmC) (refE 12).length := by rw [ref_len]
  (intro X hP hΓ hL hfin; refine ⟨_, rfl, ?_⟩; rw [show Tryz.f40.ntmps = 80 from rfl]; rw [show Tryz.f40.results.toList = [.tmp 4, .tmp 5] from rfl] at hfin; apply holds_of_ex X 400; simp (maxSteps := 1000000) only [push_cast, reduceCtorEq, Nat.reduceAdd, Nat.reduceMul, Nat.reduceSub, Nat.reduceBEq, Nat.reduceGT, Nat.reduceLT, Int.toNat_zero, Nat.reduceLeDiff, Int.reduceEq, Int.reduceLT, Int.reduceLE, hP, hΓ, hL, hfin, String.reduceEq, not_false_eq_true, if_true, if_false, Int.toNat_one, Bool.not_not, agI_mk, Option.isSome_some, Option.isSome_none, Option.getD_some, Option.getD_none, h72, hs1, hH, hR, d1, h74, hm, hl, hat, hi0, hok0, h75, e55])
  refine ⟨hm, ?_⟩
  have hlen := ref_len 12
  refine Holds.loopM (ι := {x : Nat × In × Bool // x.1 ≤ 55 ∧ theO nm l at_ = (if x.2.2 then some x.2.1 else seekO nm l ((refE 12).drop x.1))}) [false, false, false, false, true, true, true, true, false, false, true, false, true, false, true, true, false, false, false, false, false, false, false, false, false, false, false, false, false, false, false, false, false, false, false, false, false, false, false, false, false, false, false, false, false, false, false, false, false, false, false, false, false, false, false, false, false, false, false, false, false, false, false, false, false, false, false, false, false, false, false, false, false, false, false, false, false, false, false, false] (fun i => [(13, .int .i64 i.1.1), (11, .bool i.1.2.2), (10, .ref 0 0 0)]) (fun i => [.row [.int .i64 i.1.2.1.f, .bool i.1.2.1.u, .bool i.1.2.1.v, .int .i64 i.1.2.1.a, .int .i64 i.1.2.1.b, .int .i64 i.1.2.1.op, .int .i64 i.1.2.1.c, .int .i64 i.1.2.1.n] 8 0]) (fun i => 55 - i.1.1) ⟨(0, ⟨f0, u0, v0, a0, b0, op0, c0, n0⟩, ok0), Nat.zero_le _, hT⟩ ?_ ?_
  · (rw [hL]; simp only [push_cast, Int.natCast_zero]; exact Into.sameA)
  rintro ⟨⟨k, ⟨f, u, v, a, b, op, c, n⟩, ok⟩, hk, hT2⟩
  simp only at hk hT2
  by_cases hgo : k < 55 ∧ ok = false
  · obtain ⟨hk', rfl⟩ := hgo
    simp only [Bool.false_eq_true, if_false] at hT2
    have hd : decide ((k : Int) < (((refE 12).length : Nat) : Int)) = true := decide_eq_true (by omega)
    have hkl : k < (refE 12).length := by rw [hlen]; exact hk'
    have hff := ref_f k hk'
    have hno := seek_no (l := l) (nm := nm) hk'
    have hye := seek_yes (l := l) (nm := nm) hk'
    generalize hp : (refE 12).getD k default = p at *
    obtain ⟨pn, pf, pu, pv, pa, pb, pop, pc, pm⟩ := p
    simp only at hff hno hye
    have hrg : rgI ⟨pf, pu, pv, pa, pb, pop, pc, pm⟩ = (if pf = 0 then 1 else if pf = 1 ∧ pop = 15 then 0 else if pf = 1 ∧ pop = 0 then 1 else 2) := rfl
    by_cases hc : pn = nm
    · subst hc
      have hcd : (pn == pn) = true := beq_iff_eq.2 rfl
      obtain ⟨hy1, hy2⟩ := hye rfl
      generalize hq : (readO ⟨pf, pu, pv, pa, pb, pop, pc, pm⟩ l).getD (rdF pf pu pv pa pb pop pc pm l) = q at *
      generalize hqs : (readO ⟨pf, pu, pv, pa, pb, pop, pc, pm⟩ l).isSome = ok at *
      have hT3 : theO pn l at_ = if ok then some q else seekO pn l ((refE 12).drop (k + 1)) := by
        rw [hT2, hy1, hy2]
        cases hr : readO ⟨pf, pu, pv, pa, pb, pop, pc, pm⟩ l with
        | none => rw [hr] at hqs; rw [← hqs]; rfl
        | some r => rw [hr] at hqs hq; rw [← hqs, ← hq]; rfl
      obtain ⟨qf, qu, qv, qa, qb, qop, qc, qn⟩ := q
      ((first | with_reducible refine holds_of_ex X 400 _ _ _ ?_ | skip); simp (maxSteps := 1000000) only [push_cast, reduceCtorEq, Nat.reduceAdd, Nat.reduceMul, Nat.reduceSub, Nat.reduceBEq, Nat.reduceGT, Nat.reduceLT, Int.toNat_zero, Nat.reduceLeDiff, Int.reduceEq, Int.reduceLT, Int.reduceLE, hP, hΓ, hL, hfin, String.reduceEq, not_false_eq_true, if_true, if_false, Int.toNat_one, Bool.not_not, agI_mk, Option.isSome_some, Option.isSome_none, Option.getD_some, Option.getD_none, hd, hkl, hp, hcd, fmC_mk, h76, hm, hl, hq, hqs, hrg])
      refine ⟨by omega, by omega, by omega, by omega, ⟨hm, hff⟩, ⟨(k + 1, ⟨qf, qu, qv, qa, qb, qop, qc, qn⟩, ok), by simp only; omega, hT3⟩, by simp only; omega, ?_⟩
      dsimp only
      rw [wr_i64 ((k : Int) + 1) (by constructor <;> omega)]
      exact Into.sameA
    · have hcd : (pn == nm) = false := beq_eq_false_iff_ne.2 hc
      ((first | with_reducible refine holds_of_ex X 400 _ _ _ ?_ | skip); simp (maxSteps := 1000000) only [push_cast, reduceCtorEq, Nat.reduceAdd, Nat.reduceMul, Nat.reduceSub, Nat.reduceBEq, Nat.reduceGT, Nat.reduceLT, Int.toNat_zero, Nat.reduceLeDiff, Int.reduceEq, Int.reduceLT, Int.reduceLE, hP, hΓ, hL, hfin, String.reduceEq, not_false_eq_true, if_true, if_false, Int.toNat_one, Bool.not_not, agI_mk, Option.isSome_some, Option.isSome_none, Option.getD_some, Option.getD_none, hd, hkl, hp, hcd, fmC_mk])
      refine ⟨by omega, by omega, ⟨(k + 1, ⟨f, u, v, a, b, op, c, n⟩, false), by simp only; omega, by simp only [Bool.false_eq_true, if_false]; rw [hT2]; exact hno hc⟩, by simp only; omega, ?_⟩
      dsimp only
      rw [wr_i64 ((k : Int) + 1) (by constructor <;> omega)]
      exact Into.sameA
  · have hd : (decide ((k : Int) < (((refE 12).length : Nat) : Int)) && !ok) = false := by
      rw [Bool.eq_false_iff]; intro h
      simp only [Bool.and_eq_true, decide_eq_true_eq, Bool.not_eq_true'] at h
      exact hgo ⟨by omega, h.2⟩
    cases ok with
    | false =>
      have hk55 : k = 55 := by
        rcases Nat.lt_or_ge k 55 with h | h
        · exact absurd ⟨h, rfl⟩ hgo
        · omega
      have e : theO nm l at_ = none := by rw [hT2, hk55, seek_end]; rfl
      have hd2 : decide ((k : Int) < (((refE 12).length : Nat) : Int)) = false := decide_eq_false (by rw [hlen, hk55]; decide)
      rw [e, enc_0] at hfin
      ((first | with_reducible refine holds_of_ex X 400 _ _ _ ?_ | skip); simp (maxSteps := 1000000) only [push_cast, reduceCtorEq, Nat.reduceAdd, Nat.reduceMul, Nat.reduceSub, Nat.reduceBEq, Nat.reduceGT, Nat.reduceLT, Int.toNat_zero, Nat.reduceLeDiff, Int.reduceEq, Int.reduceLT, Int.reduceLE, hP, hΓ, hL, hfin, String.reduceEq, not_false_eq_true, if_true, if_false, Int.toNat_one, Bool.not_not, agI_mk, Option.isSome_some, Option.isSome_none, Option.getD_some, Option.getD_none, hd2])
      exact Into.one rfl rfl
    | true =>
      have e : theO nm l at_ = some ⟨f, u, v, a, b, op, c, n⟩ := by rw [hT2]; rfl
      rw [e, enc_1, laidI] at hfin
      rcases Bool.eq_false_or_eq_true (rightB f u v a b op c n) with hr | hr
      · rw [show rightI ⟨f, u, v, a, b, op, c, n⟩ = true from hr] at hfin
        ((first | with_reducible refine holds_of_ex X 400 _ _ _ ?_ | skip); simp (maxSteps := 1000000) only [push_cast, reduceCtorEq, Nat.reduceAdd, Nat.reduceMul, Nat.reduceSub, Nat.reduceBEq, Nat.reduceGT, Nat.reduceLT, Int.toNat_zero, Nat.reduceLeDiff, Int.reduceEq, Int.reduceLT, Int.reduceLE, hP, hΓ, hL, hfin, String.reduceEq, not_false_eq_true, if_true, if_false, Int.toNat_one, Bool.not_not, agI_mk, Option.isSome_some, Option.isSome_none, Option.getD_some, Option.getD_none, hd, h77, hr])
        exact Into.one rfl rfl
      · rw [show rightI ⟨f, u, v, a, b, op, c, n⟩ = false from hr] at hfin
        ((first | with_reducible refine holds_of_ex X 400 _ _ _ ?_ | skip); simp (maxSteps := 1000000) only [push_cast, reduceCtorEq, Nat.reduceAdd, Nat.reduceMul, Nat.reduceSub, Nat.reduceBEq, Nat.reduceGT, Nat.reduceLT, Int.toNat_zero, Nat.reduceLeDiff, Int.reduceEq, Int.reduceLT, Int.reduceLE, hP, hΓ, hL, hfin, String.reduceEq, not_false_eq_true, if_true, if_false, Int.toNat_one, Bool.not_not, agI_mk, Option.isSome_some, Option.isSome_none, Option.getD_some, Option.getD_none, hd, h77, hr])
        exact Into.one rfl rfl
theorem con40 {Γ : Env} (h : EnvOk Tryz.prog Γ) (h72 : Γ 72 = some S72) (h73 : Γ 73 = some S73) (h74 : Γ 74 = some S74) (h75 : Γ 75 = some S75) (h76 : Γ 76 = some S76) (h77 : Γ 77 = some S77) : Con Tryz.prog 40 S40 :=
  funS_con h (fn := Tryz.f40) (by kernel_rfl) rfl (by kernel_rfl) inj40 (by first | (intro h; cases h; done) | exact fun _ _ => rfl) fun ⟨s, at_⟩ h => body40 Γ h72 h73 h74 h75 h76 h77 s at_ h.1 h.2
end Go.Proofs.YtgemeilncdmapaaGreatDoor.asmDone
end
section
namespace Go.Proofs.YtgemeilncdmapaaGreatDoor.asmDone
open Go Go.Eng Go.Proofs Go.RowKit
open Go.Lines (pieces pieces_le)
open Go.Asm (lineO trimF bareF linesO)
set_option linter.unusedVariables false
set_option linter.unusedSimpArgs false
set_option maxRecDepth 100000
set_option maxHeartbeats 4000000
def prF (s : List UInt8) : AV := match prsR s with
  | .ok ws => .tup [.sl (ws.map (AV.int .u32)) ws.length, .int .i64 0, .int .i64 0]
  | .error p => .tup [.sl [] 0, .int .i64 p.1, .int .i64 p.2]
theorem bare_le (s : List UInt8) : (bareF s).length ≤ s.length := by
  have h1 := trim_le (cutQ s)
  have h2 := cutQ_le s
  rw [← bare_cut]; omega
def e13 : (List UInt8) → List AV := fun s => [.str s]
def p13 : (List UInt8) → Prop := fun s => s.length ≤ 4194303
def r13 : (List UInt8) → AV := fun s => prF s
def g13 : (List UInt8) → Heap := fun s => []
theorem inj13 : ∀ a b, e13 a = e13 b → a = b := by
  rintro s s' h
  simp only [e13, mi_iff, ms_iff, mb_iff, my_iff, UInt8.toNat_inj, List.cons.injEq, AV.int.injEq, AV.str.injEq, AV.bool.injEq, AV.sl.injEq, AV.agg.injEq, AV.ip.injEq, AV.fn.injEq, AV.ifc.injEq, AV.mpr.injEq, Int.natCast_inj, and_true, true_and] at h
  simp_all only
noncomputable def S13 : FSpec := funS e13 p13 r13 g13 true
theorem ps13 (s : (List UInt8)) : psel e13 p13 [.str s] = (s.length ≤ 4194303) := psel_at inj13 p13 s
theorem rs13 (s : (List UInt8)) : rsel e13 r13 .any [.str s] = (prF s) := rsel_at inj13 r13 .any s
theorem hs13 (s : (List UInt8)) : rsel e13 g13 [] [.str s] = ([]) := rsel_at inj13 g13 [] s
attribute [push_cast] S13 ps13 rs13 hs13
theorem body13 (Γ : Env) (h39 : Γ 39 = some S39) (h40 : Γ 40 = some S40) (s : List UInt8) (hs : s.length ≤ 4194303) : BodyOk Tryz.prog Γ Tryz.f13 [.str s] [] (prF s) [] := by
  by_cases hb : 65536 < s.length
  · have hd : decide (65536 < ((s.length : Nat) : Int)) = true := decide_eq_true (by omega)
    have e : prsR s = .error (0, 60) := by unfold prsR; rw [if_pos hb]
    have e1 : prF s = .tup [.sl [] 0, .int .i64 0, .int .i64 60] := by unfold prF; rw [e]
    rw [e1]
    (intro X hP hΓ hL hfin; refine ⟨_, rfl, ?_⟩; rw [show Tryz.f13.ntmps = 59 from rfl]; rw [show Tryz.f13.results.toList = [.tmp 2, .tmp 3, .tmp 4] from rfl] at hfin; apply holds_of_ex X 400; simp (maxSteps := 1000000) only [push_cast, reduceCtorEq, Nat.reduceAdd, Nat.reduceMul, Nat.reduceSub, Nat.reduceBEq, Nat.reduceGT, Nat.reduceLT, Int.toNat_zero, Nat.reduceLeDiff, Int.reduceEq, Int.reduceLT, Int.reduceLE, hP, hΓ, hL, hfin, String.reduceEq, not_false_eq_true, if_true, if_false, Int.toNat_one, Bool.not_not, hd])
    refine IntoF.soft ?_
    simp only [push_cast]
    exact Into.one rfl rfl
  have hd : decide (65536 < ((s.length : Nat) : Int)) = false := decide_eq_false (by omega)
  have e : prsR s = match linesO 1 [] (pieces 10 s) with
    | .ok ws => .ok ws
    | .error k => .error ((k : Int), 61) := by unfold prsR; rw [if_neg hb]; cases linesO 1 [] (pieces 10 s) <;> rfl
  (intro X hP hΓ hL hfin; refine ⟨_, rfl, ?_⟩; rw [show Tryz.f13.ntmps = 59 from rfl]; rw [show Tryz.f13.results.toList = [.tmp 2, .tmp 3, .tmp 4] from rfl] at hfin; apply holds_of_ex X 400; simp (maxSteps := 1000000) only [push_cast, reduceCtorEq, Nat.reduceAdd, Nat.reduceMul, Nat.reduceSub, Nat.reduceBEq, Nat.reduceGT, Nat.reduceLT, Int.toNat_zero, Nat.reduceLeDiff, Int.reduceEq, Int.reduceLT, Int.reduceLE, hP, hΓ, hL, hfin, String.reduceEq, not_false_eq_true, if_true, if_false, Int.toNat_one, Bool.not_not, hd])
  generalize hQ : linesO 1 [] (pieces 10 s) = T at *
  refine Holds.loopM (ι := {x : Nat × Nat × Nat × List Int // x.1 ≤ s.length + 1 ∧ x.2.2.1 ≤ x.1 + 1 ∧ x.2.2.2.length + 1 ≤ x.2.2.1 ∧ (x.1 ≤ s.length → x.2.1 ≤ x.1 ∧ gap 10 s x.2.1 x.1 ∧ T = linesO x.2.2.1 x.2.2.2 (pieces 10 (s.drop x.2.1))) ∧ (x.1 = s.length + 1 → T = .ok x.2.2.2)}) [true, false, false, false, false, false, false, false, false, false, false, false, false, false, false, false, false, false, false, false, false, false, false, false, false, false, false, false, false, false, false, false, false, false, false, false, false, false, false, false, false, false, false, false, false, false, false, false, false, false, false, false, false, false, false, false, false, false, false] (fun i => [(8, .int .i64 i.1.1), (7, .int .i64 i.1.2.1), (6, .int .i64 i.1.2.2.1), (5, .msl 0 0 0 i.1.2.2.2.length)]) (fun i => [.row (i.1.2.2.2.map (AV.int .u32)) 1 0]) (fun i => s.length + 1 - i.1.1) ⟨(0, 0, 1, []), Nat.zero_le _, Nat.le_refl _, Nat.le_refl _, fun _ => ⟨Nat.le_refl _, gap_nil _ _ _, hQ.symm⟩, fun h => by simp only at h; omega⟩ ?_ ?_
  · rw [hL]; simp only [push_cast, Int.natCast_zero]
    (refine IntoF.nil 5  1 rfl ?_; simp only [push_cast, reduceCtorEq, Nat.reduceAdd, Nat.reduceMul, Nat.reduceSub, Nat.reduceBEq, Nat.reduceGT, Nat.reduceLT, Int.toNat_zero, Nat.reduceLeDiff, Int.reduceEq, Int.reduceLT, Int.reduceLE])
    exact Into.sameA
  rintro ⟨⟨i, fr, q, out⟩, hi, hq, hol, hmid, hend⟩
  simp only at hi hq hol hmid hend
  ((first | with_reducible refine holds_of_ex X 400 _ _ _ ?_ | skip); simp (maxSteps := 1000000) only [push_cast, reduceCtorEq, Nat.reduceAdd, Nat.reduceMul, Nat.reduceSub, Nat.reduceBEq, Nat.reduceGT, Nat.reduceLT, Int.toNat_zero, Nat.reduceLeDiff, Int.reduceEq, Int.reduceLT, Int.reduceLE, hP, hΓ, hL, hfin, String.reduceEq, not_false_eq_true, if_true, if_false, Int.toNat_one, Bool.not_not])
  ((with_reducible refine exB_split (fun h => ?_) (fun h => ?_)) <;> (try simp only [decide_eq_true_eq, decide_eq_false_iff_not, Bool.and_eq_true, Bool.or_eq_true, Bool.and_eq_false_iff, Bool.or_eq_false_iff, Bool.not_eq_true', Bool.not_eq_false', Bool.not_eq_true, Bool.not_eq_false, Int.not_lt, Int.not_le, beq_iff_eq, beq_eq_false_iff_ne, ne_eq] at h))
  · have hi' : i ≤ s.length := by omega
    obtain ⟨hf, hgp, hT⟩ := hmid hi'
    have c10 := u8_eq (x := s.getD i 0) 10 rfl
    by_cases hc : i < s.length ∧ s.getD i 0 ≠ 10
    · have hcd : (decide ((i : Int) < ((s.length : Nat) : Int)) && !decide (((s.getD i 0).toNat : Int) = 10)) = true := by
        simp only [Bool.and_eq_true, decide_eq_true_eq, Bool.not_eq_true', decide_eq_false_iff_not]
        exact ⟨by omega, fun h => hc.2 (c10.1 h)⟩
      ((first | with_reducible refine holds_of_ex X 400 _ _ _ ?_ | skip); simp (maxSteps := 1000000) only [push_cast, reduceCtorEq, Nat.reduceAdd, Nat.reduceMul, Nat.reduceSub, Nat.reduceBEq, Nat.reduceGT, Nat.reduceLT, Int.toNat_zero, Nat.reduceLeDiff, Int.reduceEq, Int.reduceLT, Int.reduceLE, hP, hΓ, hL, hfin, String.reduceEq, not_false_eq_true, if_true, if_false, Int.toNat_one, Bool.not_not, hcd])
      refine ⟨fun h => by first | omega | (simp only [decide_eq_true_eq] at h; omega), ⟨(i + 1, fr, q, out), by simp only; omega, by simp only; omega, by simp only; omega, fun h => ?_, fun h => by simp only at h; omega⟩, by simp only; omega, ?_⟩
      · simp only at h ⊢
        exact ⟨by omega, gap_snoc hgp hc.2, hT⟩
      dsimp only
      rw [wr_i64 ((i : Int) + 1) (by constructor <;> omega)]
      exact Into.sameA
    · have hcd : (decide ((i : Int) < ((s.length : Nat) : Int)) && !decide (((s.getD i 0).toNat : Int) = 10)) = false := by
        rw [Bool.eq_false_iff]; intro h'
        simp only [Bool.and_eq_true, decide_eq_true_eq, Bool.not_eq_true', decide_eq_false_iff_not] at h'
        exact hc ⟨by omega, fun h => h'.2 (c10.2 h)⟩
      have hxl : ((s.take i).drop fr).length ≤ 4194303 := by rw [List.length_drop, List.length_take]; omega
      obtain ⟨R, hR, hR1, hR2⟩ : ∃ R, pieces 10 (s.drop fr) = (s.take i).drop fr :: R ∧ (i < s.length → R = pieces 10 (s.drop (i + 1))) ∧ (i = s.length → R = []) := by
        by_cases h : i < s.length
        · have h10 : s.getD i 0 = 10 := by
            by_cases h' : s.getD i 0 = 10
            · exact h'
            · exact absurd ⟨h, h'⟩ hc
          exact ⟨_, pc_at hgp hf h h10, fun _ => rfl, fun h' => by omega⟩
        · obtain rfl : i = s.length := by omega
          exact ⟨[], by rw [pc_end hgp, List.take_length], fun h' => absurd h' h, fun _ => rfl⟩
      rw [hR, linesO] at hT
      generalize hxe : (s.take i).drop fr = x at *
      have hxl2 : x.length ≤ 4194304 := by omega
      have hb3 : (bareF x).length ≤ 4194303 := by have := bare_le x; omega
      have hat : IntKind.u32.wrap (IntKind.i64.wrap (4 * (out.length : Int))) = 4 * (out.length : Int) := by rw [wr_i64 _ (by constructor <;> omega), u32w]; omega
      by_cases h0 : bareF x = []
      · have hz : (bareF x == []) = true := beq_iff_eq.2 h0
        rw [if_pos h0] at hT
        ((first | with_reducible refine holds_of_ex X 400 _ _ _ ?_ | skip); simp (maxSteps := 1000000) only [push_cast, reduceCtorEq, Nat.reduceAdd, Nat.reduceMul, Nat.reduceSub, Nat.reduceBEq, Nat.reduceGT, Nat.reduceLT, Int.toNat_zero, Nat.reduceLeDiff, Int.reduceEq, Int.reduceLT, Int.reduceLE, hP, hΓ, hL, hfin, String.reduceEq, not_false_eq_true, if_true, if_false, Int.toNat_one, Bool.not_not, hcd, h39, hxe, hxl2, hz])
        refine ⟨fun h => by first | omega | (simp only [decide_eq_true_eq] at h; omega), ⟨by omega, by omega⟩, ⟨(i + 1, i + 1, q + 1, out), by simp only; omega, by simp only; omega, by simp only; omega, fun h => ?_, fun h => ?_⟩, by simp only; omega, ?_⟩
        · simp only at h ⊢
          exact ⟨Nat.le_refl _, gap_nil _ _ _, by rw [hT, hR1 (by omega)]⟩
        · simp only at h ⊢
          rw [hT, hR2 (by omega)]; rfl
        dsimp only
        rw [wr_i64 ((i : Int) + 1) (by constructor <;> omega), wr_i64 ((q : Int) + 1) (by constructor <;> omega)]
        exact Into.sameA
      · have hz : (bareF x == []) = false := beq_eq_false_iff_ne.2 h0
        rw [if_neg h0] at hT
        cases hw : lineO (bareF x) (4 * (out.length : Int)) with
        | some w =>
          rw [hw] at hT
          ((first | with_reducible refine holds_of_ex X 400 _ _ _ ?_ | skip); simp (maxSteps := 1000000) only [push_cast, reduceCtorEq, Nat.reduceAdd, Nat.reduceMul, Nat.reduceSub, Nat.reduceBEq, Nat.reduceGT, Nat.reduceLT, Int.toNat_zero, Nat.reduceLeDiff, Int.reduceEq, Int.reduceLT, Int.reduceLE, hP, hΓ, hL, hfin, String.reduceEq, not_false_eq_true, if_true, if_false, Int.toNat_one, Bool.not_not, hcd, h39, hxe, hxl2, hz, h40, hb3, hat, hw])
          refine ⟨fun h => by first | omega | (simp only [decide_eq_true_eq] at h; omega), ⟨by omega, by omega⟩, ⟨by omega, by omega⟩, by omega, ⟨(i + 1, i + 1, q + 1, out ++ [w]), by simp only; omega, by simp only; omega, by simp only [List.length_append, List.length_cons, List.length_nil]; omega, fun h => ?_, fun h => ?_⟩, by simp only; omega, ?_⟩
          · simp only at h ⊢
            exact ⟨Nat.le_refl _, gap_nil _ _ _, by rw [hT, hR1 (by omega)]⟩
          · simp only at h ⊢
            rw [hT, hR2 (by omega)]; rfl
          dsimp only
          rw [wr_i64 ((i : Int) + 1) (by constructor <;> omega), wr_i64 ((q : Int) + 1) (by constructor <;> omega), List.map_append, List.length_append]
          (refine IntoF.ver 0  0 (by simp only [push_cast, reduceCtorEq, Nat.reduceAdd, Nat.reduceMul, Nat.reduceSub, Nat.reduceBEq, Nat.reduceGT, Nat.reduceLT, Int.toNat_zero, Nat.reduceLeDiff, Int.reduceEq, Int.reduceLT, Int.reduceLE]) (by first | exact .inr (Nat.zero_le _) | (left; simp only [push_cast, reduceCtorEq, Nat.reduceAdd, Nat.reduceMul, Nat.reduceSub, Nat.reduceBEq, Nat.reduceGT, Nat.reduceLT, Int.toNat_zero, Nat.reduceLeDiff, Int.reduceEq, Int.reduceLT, Int.reduceLE]; first | done | omega) | (right; simp only [push_cast, reduceCtorEq, Nat.reduceAdd, Nat.reduceMul, Nat.reduceSub, Nat.reduceBEq, Nat.reduceGT, Nat.reduceLT, Int.toNat_zero, Nat.reduceLeDiff, Int.reduceEq, Int.reduceLT, Int.reduceLE]; first | done | omega)) ?_; simp only [push_cast, reduceCtorEq, Nat.reduceAdd, Nat.reduceMul, Nat.reduceSub, Nat.reduceBEq, Nat.reduceGT, Nat.reduceLT, Int.toNat_zero, Nat.reduceLeDiff, Int.reduceEq, Int.reduceLT, Int.reduceLE])
          exact Into.sameA
        | none =>
          rw [hw] at hT
          ((first | with_reducible refine holds_of_ex X 400 _ _ _ ?_ | skip); simp (maxSteps := 1000000) only [push_cast, reduceCtorEq, Nat.reduceAdd, Nat.reduceMul, Nat.reduceSub, Nat.reduceBEq, Nat.reduceGT, Nat.reduceLT, Int.toNat_zero, Nat.reduceLeDiff, Int.reduceEq, Int.reduceLT, Int.reduceLE, hP, hΓ, hL, hfin, String.reduceEq, not_false_eq_true, if_true, if_false, Int.toNat_one, Bool.not_not, hcd, h39, hxe, hxl2, hz, h40, hb3, hat, hw])
          refine ⟨fun h => by first | omega | (simp only [decide_eq_true_eq] at h; omega), ⟨by omega, by omega⟩, ⟨by omega, by omega⟩, ?_⟩
          have hR : prsR s = .error ((q : Int), 61) := by rw [e, hT]
          have e1 : prF s = .tup [.sl [] 0, .int .i64 q, .int .i64 61] := by unfold prF; rw [hR]
          rw [e1]
          refine IntoF.soft ?_
          simp only [push_cast]
          exact Into.one rfl rfl
  · obtain rfl : i = s.length + 1 := by omega
    have hR : prsR s = .ok out := by rw [e, hend rfl]
    have e1 : prF s = .tup [.sl (out.map (AV.int .u32)) out.length, .int .i64 0, .int .i64 0] := by unfold prF; rw [hR]
    rw [e1] at hfin
    ((first | with_reducible refine holds_of_ex X 400 _ _ _ ?_ | skip); simp (maxSteps := 1000000) only [push_cast, reduceCtorEq, Nat.reduceAdd, Nat.reduceMul, Nat.reduceSub, Nat.reduceBEq, Nat.reduceGT, Nat.reduceLT, Int.toNat_zero, Nat.reduceLeDiff, Int.reduceEq, Int.reduceLT, Int.reduceLE, hP, hΓ, hL, hfin, String.reduceEq, not_false_eq_true, if_true, if_false, Int.toNat_one, Bool.not_not])
    (refine IntoF.frz 0 (by simp only [push_cast, reduceCtorEq, Nat.reduceAdd, Nat.reduceMul, Nat.reduceSub, Nat.reduceBEq, Nat.reduceGT, Nat.reduceLT, Int.toNat_zero, Nat.reduceLeDiff, Int.reduceEq, Int.reduceLT, Int.reduceLE]; first | done | decide | omega) (by simp only [frzOk', frzOk, isMap, or_true, true_or, push_cast, reduceCtorEq, Nat.reduceAdd, Nat.reduceMul, Nat.reduceSub, Nat.reduceBEq, Nat.reduceGT, Nat.reduceLT, Int.toNat_zero, Nat.reduceLeDiff, Int.reduceEq, Int.reduceLT, Int.reduceLE]) ?_; simp only [push_cast, reduceCtorEq, Nat.reduceAdd, Nat.reduceMul, Nat.reduceSub, Nat.reduceBEq, Nat.reduceGT, Nat.reduceLT, Int.toNat_zero, Nat.reduceLeDiff, Int.reduceEq, Int.reduceLT, Int.reduceLE])
    rw [List.take_of_length_le (l := out.map (AV.int .u32)) (by simp)]
    exact Into.one rfl (by simp only [scp, scpL, scpL_map, Bool.and_self])
theorem con13 {Γ : Env} (h : EnvOk Tryz.prog Γ) (h39 : Γ 39 = some S39) (h40 : Γ 40 = some S40) : Con Tryz.prog 13 S13 :=
  funS_con h (fn := Tryz.f13) (by kernel_rfl) rfl (by kernel_rfl) inj13 (by first | (intro h; cases h; done) | exact fun _ _ => rfl) fun s h => body13 Γ h39 h40 s h
end Go.Proofs.YtgemeilncdmapaaGreatDoor.asmDone
end
section
namespace Go.Proofs.YtgemeilncdmapaaGreatDoor.asmDone
open Go Go.Eng Go.Proofs Go.RowKit
open Go.Asm (showF)
set_option linter.unusedVariables false
set_option linter.unusedSimpArgs false
set_option maxRecDepth 100000
set_option maxHeartbeats 4000000
theorem prA_ok {s : List UInt8} {ws : List Int} (h : prsR s = .ok ws) : prA s = .tup [.msl 0 0 0 ws.length, .int .i64 0, .int .i64 0] ∧ prG s = [.row (ws.map (AV.int .u32)) 1 0] ∧ prF s = .tup [.sl (ws.map (AV.int .u32)) ws.length, .int .i64 0, .int .i64 0] := by
  unfold prA prG prF; rw [h]; exact ⟨rfl, rfl, rfl⟩
theorem prA_no {s : List UInt8} {p : Int × Int} (h : prsR s = .error p) : prA s = .tup [.sl [] 0, .int .i64 p.1, .int .i64 p.2] ∧ prG s = [] ∧ prF s = .tup [.sl [] 0, .int .i64 p.1, .int .i64 p.2] := by
  unfold prA prG prF; rw [h]; exact ⟨rfl, rfl, rfl⟩
/-- words, the first of them spoilt -/
def spl (ws : List Int) (j : Nat) : List Int := List.replicate (min j ws.length) 77 ++ ws.drop j
theorem spl0 (ws : List Int) : spl ws 0 = ws := by simp [spl]
theorem spl_len (ws : List Int) (j : Nat) : (spl ws j).length = ws.length := by simp only [spl, List.length_append, List.length_replicate, List.length_drop]; omega
theorem spl_set {ws : List Int} {j : Nat} (h : j < ws.length) : (spl ws j).set j 77 = spl ws (j + 1) := by
  have e : ws.drop j = ws.getD j 0 :: ws.drop (j + 1) := by
    rw [List.drop_eq_getElem_cons h]; simp [List.getD, h]
  unfold spl
  rw [show min j ws.length = j by omega, show min (j + 1) ws.length = j + 1 by omega, List.set_append_right _ _ (by simp), List.length_replicate, Nat.sub_self, e, List.set_cons_zero, List.replicate_succ', List.append_assoc]
  rfl
theorem law4 (Γ : Env) (h11 : Γ 11 = some S11) (h12 : Γ 12 = some S12) (h13 : Γ 13 = some S13) (h14 : Γ 14 = some S14) (ss : List (List UInt8)) (hs : ∀ s ∈ ss, s.length ≤ 4194303) (hn : ss.length ≤ 4194304) : BodyOk Tryz.prog Γ Tryz.f4 [.sl (ss.map AV.str) ss.length] [] (.bool true) [] := by
  (intro X hP hΓ hL hfin; refine ⟨_, rfl, ?_⟩; rw [show Tryz.f4.ntmps = 75 from rfl]; rw [show Tryz.f4.results.toList = [.tmp 2] from rfl] at hfin; apply holds_of_ex X 400; simp (maxSteps := 1000000) only [push_cast, reduceCtorEq, Nat.reduceAdd, Nat.reduceMul, Nat.reduceSub, Nat.reduceBEq, Nat.reduceGT, Nat.reduceLT, Int.toNat_zero, Nat.reduceLeDiff, Int.reduceEq, Int.reduceLT, Int.reduceLE, hP, hΓ, hL, hfin, String.reduceEq, not_false_eq_true, if_true, if_false, Int.toNat_one, Bool.not_not, tk_map])
  refine Holds.loopM (ι := {k : Nat // k ≤ ss.length}) [true, false, false, false, false, false, false, false, false, false, false, false, false, false, false, false, false, false, false, false, false, false, false, false, false, false, false, false, false, false, false, false, false, false, false, false, false, false, false, false, false, false, false, false, false, false, false, false, false, false, false, false, false, false, false, false, false, false, false, false, false, false, false, false, false, false, false, false, false, false, false, false, false, false, false] (fun i => [(3, .int .i64 i.1)]) (fun i => []) (fun i => ss.length - i.1) ⟨0, Nat.zero_le _⟩ ?_ ?_
  · (rw [hL]; simp only [push_cast, Int.natCast_zero]; exact Into.sameA)
  rintro ⟨k, hk⟩
  ((first | with_reducible refine holds_of_ex X 400 _ _ _ ?_ | skip); simp (maxSteps := 1000000) only [push_cast, reduceCtorEq, Nat.reduceAdd, Nat.reduceMul, Nat.reduceSub, Nat.reduceBEq, Nat.reduceGT, Nat.reduceLT, Int.toNat_zero, Nat.reduceLeDiff, Int.reduceEq, Int.reduceLT, Int.reduceLE, hP, hΓ, hL, hfin, String.reduceEq, not_false_eq_true, if_true, if_false, Int.toNat_one, Bool.not_not, tk_map])
  ((with_reducible refine exB_split (fun h => ?_) (fun h => ?_)) <;> (try simp only [decide_eq_true_eq, decide_eq_false_iff_not, Bool.and_eq_true, Bool.or_eq_true, Bool.and_eq_false_iff, Bool.or_eq_false_iff, Bool.not_eq_true', Bool.not_eq_false', Bool.not_eq_true, Bool.not_eq_false, Int.not_lt, Int.not_le, beq_iff_eq, beq_eq_false_iff_ne, ne_eq] at h))
  · have hk' : k < ss.length := by omega
    have hx : (ss.getD k default).length ≤ 4194303 := hs _ (by rw [List.getD_eq_getElem?_getD, List.getElem?_eq_getElem hk']; exact List.getElem_mem _)
    generalize hxx : ss.getD k default = s at *
    cases hp : prsR s with
    | error p =>
      obtain ⟨e1, e2, e3⟩ := prA_no hp
      obtain ⟨n, er⟩ := p
      have p0 : psel e14 p14 [.sl [] 0, .sl [] 0] = ([].length ≤ 4194304 ∧ ([] : List Int).length ≤ 4194304) := ps14 [] []
      have q0 : rsel e14 r14 .any [.sl [] 0, .sl [] 0] = .bool (([] : List Int) == []) := rs14 [] []
      have r0 : rsel e14 g14 [] [.sl [] 0, .sl [] 0] = [] := hs14 [] []
      have z0 : (([] : List Int) == []) = true := rfl
      ((first | with_reducible refine holds_of_ex X 400 _ _ _ ?_ | skip); simp (maxSteps := 1000000) only [push_cast, reduceCtorEq, Nat.reduceAdd, Nat.reduceMul, Nat.reduceSub, Nat.reduceBEq, Nat.reduceGT, Nat.reduceLT, Int.toNat_zero, Nat.reduceLeDiff, Int.reduceEq, Int.reduceLT, Int.reduceLE, hP, hΓ, hL, hfin, String.reduceEq, not_false_eq_true, if_true, if_false, Int.toNat_one, Bool.not_not, tk_map, hxx, h12, h13, hx, e1, e2, e3, h14, p0, q0, r0, z0])
      refine ⟨by omega, by omega, by omega, by omega, by omega, by omega, ?_⟩
      refine Holds.loopM (ι := {j : Nat // j = 0}) [true, false, true, true, true, false, false, true, false, false, true, false, false, false, false, false, false, false, false, false, false, false, false, false, false, false, false, false, false, false, false, false, false, false, false, false, false, false, false, false, false, false, false, false, false, false, false, false, false, false, false, false, false, false, false, false, false, false, false, false, false, false, false, false, false, false, false, false, false, false, false, false, false, false, false] (fun i => [(13, .int .i64 0)]) (fun i => []) (fun i => 0) ⟨0, rfl⟩ ?_ ?_
      · (rw [hL]; simp only [push_cast, Int.natCast_zero]; exact Into.sameA)
      rintro ⟨j, hj⟩
      ((first | with_reducible refine holds_of_ex X 400 _ _ _ ?_ | skip); simp (maxSteps := 1000000) only [push_cast, reduceCtorEq, Nat.reduceAdd, Nat.reduceMul, Nat.reduceSub, Nat.reduceBEq, Nat.reduceGT, Nat.reduceLT, Int.toNat_zero, Nat.reduceLeDiff, Int.reduceEq, Int.reduceLT, Int.reduceLE, hP, hΓ, hL, hfin, String.reduceEq, not_false_eq_true, if_true, if_false, Int.toNat_one, Bool.not_not, tk_map, p0, q0, r0, z0, h14])
      refine ⟨⟨k + 1, hk'⟩, by simp only; omega, ?_⟩
      dsimp only
      rw [wr_i64 ((k : Int) + 1) (by constructor <;> omega)]
      exact Into.sameA
    | ok ws =>
      obtain ⟨e1, e2, e3⟩ := prA_ok hp
      obtain ⟨hw, hl⟩ := prs_rng hp
      have hnl : ws.length ≤ 4194304 := by omega
      have hww : (ws == ws) = true := beq_iff_eq.2 rfl
      ((first | with_reducible refine holds_of_ex X 400 _ _ _ ?_ | skip); simp (maxSteps := 1000000) only [push_cast, reduceCtorEq, Nat.reduceAdd, Nat.reduceMul, Nat.reduceSub, Nat.reduceBEq, Nat.reduceGT, Nat.reduceLT, Int.toNat_zero, Nat.reduceLeDiff, Int.reduceEq, Int.reduceLT, Int.reduceLE, hP, hΓ, hL, hfin, String.reduceEq, not_false_eq_true, if_true, if_false, Int.toNat_one, Bool.not_not, tk_map, hxx, h12, h13, hx, e1, e2, e3, h14, hnl, hww])
      refine ⟨by omega, by omega, by omega, by omega, by omega, by omega, ?_⟩
      refine Holds.loopM (ι := {j : Nat // j ≤ ws.length}) [true, false, true, true, true, false, false, true, false, false, true, false, false, false, false, false, false, false, false, false, false, false, false, false, false, false, false, false, false, false, false, false, false, false, false, false, false, false, false, false, false, false, false, false, false, false, false, false, false, false, false, false, false, false, false, false, false, false, false, false, false, false, false, false, false, false, false, false, false, false, false, false, false, false, false] (fun i => [(13, .int .i64 i.1), (4, .msl 0 0 0 ws.length), (7, .msl 1 0 0 ws.length)]) (fun i => [.row ((spl ws i.1).map (AV.int .u32)) 1 0, .row (ws.map (AV.int .u32)) 1 0]) (fun i => ws.length - i.1) ⟨0, Nat.zero_le _⟩ ?_ ?_
      · (rw [hL]; simp only [push_cast, Int.natCast_zero, spl0]; exact Into.sameA)
      rintro ⟨j, hj⟩
      have hsl := spl_len ws j
      ((first | with_reducible refine holds_of_ex X 400 _ _ _ ?_ | skip); simp (maxSteps := 1000000) only [push_cast, reduceCtorEq, Nat.reduceAdd, Nat.reduceMul, Nat.reduceSub, Nat.reduceBEq, Nat.reduceGT, Nat.reduceLT, Int.toNat_zero, Nat.reduceLeDiff, Int.reduceEq, Int.reduceLT, Int.reduceLE, hP, hΓ, hL, hfin, String.reduceEq, not_false_eq_true, if_true, if_false, Int.toNat_one, Bool.not_not, tk_map])
      ((with_reducible refine exB_split (fun h => ?_) (fun h => ?_)) <;> (try simp only [decide_eq_true_eq, decide_eq_false_iff_not, Bool.and_eq_true, Bool.or_eq_true, Bool.and_eq_false_iff, Bool.or_eq_false_iff, Bool.not_eq_true', Bool.not_eq_false', Bool.not_eq_true, Bool.not_eq_false, Int.not_lt, Int.not_le, beq_iff_eq, beq_eq_false_iff_ne, ne_eq] at h))
      · have hj' : j < ws.length := by omega
        ((first | with_reducible refine holds_of_ex X 400 _ _ _ ?_ | skip); simp (maxSteps := 1000000) only [push_cast, reduceCtorEq, Nat.reduceAdd, Nat.reduceMul, Nat.reduceSub, Nat.reduceBEq, Nat.reduceGT, Nat.reduceLT, Int.toNat_zero, Nat.reduceLeDiff, Int.reduceEq, Int.reduceLT, Int.reduceLE, hP, hΓ, hL, hfin, String.reduceEq, not_false_eq_true, if_true, if_false, Int.toNat_one, Bool.not_not, tk_map])
        have e6 : List.take j ((spl ws j).map (AV.int .u32)) ++ [AV.int .u32 77] ++ List.drop (j + 1) ((spl ws j).map (AV.int .u32)) = (spl ws (j + 1)).map (AV.int .u32) := by
          rw [← spl_set hj', List.map_set, List.set_eq_take_append_cons_drop, if_pos (by rw [List.length_map, hsl]; exact hj')]
          simp
        refine ⟨by omega, by omega, ⟨j + 1, hj'⟩, by simp only; omega, ?_⟩
        dsimp only
        rw [e6, wr_i64 ((j : Int) + 1) (by constructor <;> omega)]
        exact Into.sameA
      · ((first | with_reducible refine holds_of_ex X 400 _ _ _ ?_ | skip); simp (maxSteps := 1000000) only [push_cast, reduceCtorEq, Nat.reduceAdd, Nat.reduceMul, Nat.reduceSub, Nat.reduceBEq, Nat.reduceGT, Nat.reduceLT, Int.toNat_zero, Nat.reduceLeDiff, Int.reduceEq, Int.reduceLT, Int.reduceLE, hP, hΓ, hL, hfin, String.reduceEq, not_false_eq_true, if_true, if_false, Int.toNat_one, Bool.not_not, tk_map, h14, hnl, hww])
        refine ⟨⟨k + 1, hk'⟩, by simp only; omega, ?_⟩
        dsimp only
        rw [wr_i64 ((k : Int) + 1) (by constructor <;> omega)]
        exact Into.keep0A
  · ((first | with_reducible refine holds_of_ex X 400 _ _ _ ?_ | skip); simp (maxSteps := 1000000) only [push_cast, reduceCtorEq, Nat.reduceAdd, Nat.reduceMul, Nat.reduceSub, Nat.reduceBEq, Nat.reduceGT, Nat.reduceLT, Int.toNat_zero, Nat.reduceLeDiff, Int.reduceEq, Int.reduceLT, Int.reduceLE, hP, hΓ, hL, hfin, String.reduceEq, not_false_eq_true, if_true, if_false, Int.toNat_one, Bool.not_not, tk_map, h11])
    exact Into.one rfl rfl
end Go.Proofs.YtgemeilncdmapaaGreatDoor.asmDone
end
