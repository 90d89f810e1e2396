/- Of lines: the text behind the words, and a line's parts. -/
import Derived.Test.YtenopfmafecffaaGreatDoorLA
namespace Go.Lines
/-- what is left of a line after so many words -/
def aft : Nat → List UInt8 → List UInt8
  | 0, l => l
  | n + 1, l => (aft n l).drop (wTo (aft n l))
def posW : Nat → List UInt8 → Nat
  | 0, _ => 0
  | n + 1, l => posW n l + wTo (aft n l)
theorem aft_pos (l : List UInt8) : ∀ n, aft n l = l.drop (posW n l)
  | 0 => rfl
  | n + 1 => by
    conv => lhs; rw [aft, aft_pos l n, List.drop_drop, ← aft_pos l n]
    rw [posW]
theorem posW_le (l : List UInt8) : ∀ n, posW n l ≤ l.length
  | 0 => Nat.zero_le _
  | n + 1 => by
    have h := posW_le l n
    have h2 := wTo_le (aft n l)
    rw [aft_pos l n, List.length_drop] at h2
    rw [posW, aft_pos l n]; omega
/-- the text behind so many words -/
def text (n : Nat) (l : List UInt8) : List UInt8 := (aft n l).drop (wFrom (aft n l))
theorem getD_drop (l : List UInt8) (i j : Nat) : (l.drop i).getD j 0 = l.getD (i + j) 0 := by simp [List.getD]
theorem wFrom_is {l : List UInt8} {f : Nat} (hf : f ≤ l.length) (h1 : ∀ i, i < f → bl (l.getD i 0) = true) (h2 : f = l.length ∨ bl (l.getD f 0) = false) : wFrom l = f := by
  induction f generalizing l with
  | zero =>
    cases l with
    | nil => rfl
    | cons c l =>
      rcases h2 with h2 | h2
      · simp at h2
      · exact wFrom_cons_nb (by simpa using h2)
  | succ f ih =>
    cases l with
    | nil => simp at hf
    | cons c l =>
      rw [wFrom_cons_bl (by simpa using h1 0 (by omega)), ih (by simpa using hf) (fun i hi => by simpa using h1 (i + 1) (by omega)) (h2.imp (fun h2 => by simpa using h2) (fun h2 => by simpa using h2))]
/-- the same, of a tail -/
theorem wFrom_at {l : List UInt8} {p q : Nat} (hpq : p ≤ q) (hq : q ≤ l.length) (h1 : ∀ i, p ≤ i → i < q → bl (l.getD i 0) = true) (h2 : q = l.length ∨ bl (l.getD q 0) = false) : wFrom (l.drop p) = q - p := by
  refine wFrom_is (by simp; omega) (fun i hi => by rw [getD_drop]; exact h1 _ (by omega) (by omega)) ?_
  rw [getD_drop, show p + (q - p) = q by omega, List.length_drop]
  rcases h2 with h2 | h2
  · left; omega
  · exact .inr h2
theorem wTo_at {l : List UInt8} {p q t : Nat} (hpq : p ≤ q) (hqt : q ≤ t) (ht : t ≤ l.length) (h1 : ∀ i, p ≤ i → i < q → bl (l.getD i 0) = true) (h2 : q = l.length ∨ bl (l.getD q 0) = false) (h3 : ∀ i, q ≤ i → i < t → bl (l.getD i 0) = false) (h4 : t = l.length ∨ bl (l.getD t 0) = true) : wTo (l.drop p) = t - p := by
  by_cases hlt : q < t
  · refine (word_is (f := q - p) (t := t - p) (by simp; omega) (by omega) (fun i hi => by rw [getD_drop]; exact h1 _ (by omega) (by omega)) (fun i hi hi' => by rw [getD_drop]; exact h3 _ (by omega) (by omega)) ?_).2
    rw [getD_drop, show p + (t - p) = t by omega, List.length_drop]
    rcases h4 with h4 | h4
    · left; omega
    · exact .inr h4
  · obtain rfl : q = t := by omega
    have : q = l.length := by
      rcases h2 with h2 | h2
      · exact h2
      · rcases h4 with h4 | h4
        · exact h4
        · rw [h2] at h4; cases h4
    rw [(word_none (l := l.drop p) (fun i hi => by rw [getD_drop]; simp at hi; exact h1 _ (by omega) (by omega))).2, List.length_drop]; omega
end Go.Lines
namespace Go.Proofs.YtenopfmafecffaaGreatDoor.lineDone
open Go Go.Eng Go.Proofs Go.Lines
set_option linter.unusedVariables false
set_option linter.unusedSimpArgs false
theorem text_ref (Γ : Env) (l : List UInt8) (hl : l.length ≤ 1048576) : BodyOk Tryz.prog Γ Tryz.f69 [.str l] [] (.str (text 2 l)) [] := by
  (intro X hP hΓ hL hfin; refine ⟨_, rfl, ?_⟩; rw [show Tryz.f69.ntmps = 48 from rfl]; rw [show Tryz.f69.results.toList = [.tmp 2] from rfl] at hfin; apply holds_of_ex X 400; simp only [push_cast, reduceCtorEq, Nat.reduceAdd, Nat.reduceMul, Nat.reduceSub, Nat.reduceBEq, Nat.reduceGT, Nat.reduceLT, Int.toNat_zero, Nat.reduceLeDiff, Int.reduceEq, Int.reduceLT, Int.reduceLE, hP, hΓ, hL, hfin])
  refine Holds.loop (ι := { j : Nat // j ≤ 2 }) (fun j => ([.str l, .any, .any, .int .i64 (posW j.1 l), .int .i64 j.1, .any, .any, .any, .any, .any, .any, .any, .any, .any, .any, .any, .any, .any, .any, .any, .any, .any, .any, .any, .any, .any, .any, .any, .any, .any, .any, .any, .any, .any, .any, .any, .any, .any, .any, .any, .any, .any, .any, .any, .any, .any, .any, .any], [])) (fun j => 2 - j.1) ⟨0, by omega⟩ ?_ ?_
  · rw [hL]
    simp only [posW, Int.natCast_zero]
    exact Into.sameA
  rintro ⟨j, hj⟩
  have hp := posW_le l j
  ((first | with_reducible refine holds_of_ex X 400 _ _ _ ?_ | skip); simp only [push_cast, reduceCtorEq, Nat.reduceAdd, Nat.reduceMul, Nat.reduceSub, Nat.reduceBEq, Nat.reduceGT, Nat.reduceLT, Int.toNat_zero, Nat.reduceLeDiff, Int.reduceEq, Int.reduceLT, Int.reduceLE, hP, hΓ, hL, hfin])
  refine exB_split (fun h => ?_) (fun h => ?_)
  · have hj2 : j < 2 := by have := of_decide_eq_true h; omega
    have huj : IntKind.i64.wrap ((j : Int) + 1) = (j : Int) + 1 := wrap_i64 _ (by omega)
    ((first | with_reducible refine holds_of_ex X 400 _ _ _ ?_ | skip); simp only [push_cast, reduceCtorEq, Nat.reduceAdd, Nat.reduceMul, Nat.reduceSub, Nat.reduceBEq, Nat.reduceGT, Nat.reduceLT, Int.toNat_zero, Nat.reduceLeDiff, Int.reduceEq, Int.reduceLT, Int.reduceLE, hP, hΓ, hL, hfin])
    refine Holds.loop (ι := { q : Nat // posW j l ≤ q ∧ q ≤ l.length ∧ ∀ i, posW j l ≤ i → i < q → bl (l.getD i 0) = true }) (fun q => ([.str l, .any, .any, .int .i64 q.1, .int .i64 j, .any, .any, .any, .any, .any, .any, .any, .any, .any, .any, .any, .any, .any, .any, .any, .any, .any, .any, .any, .any, .any, .any, .any, .any, .any, .any, .any, .any, .any, .any, .any, .any, .any, .any, .any, .any, .any, .any, .any, .any, .any, .any, .any], [])) (fun q => l.length - q.1) ⟨posW j l, Nat.le_refl _, hp, by intro i h1 h2; omega⟩ ?_ ?_
    · rw [hL]
      exact Into.sameA
    rintro ⟨q, h1, h2, h3⟩
    have hu : IntKind.i64.wrap ((q : Int) + 1) = (q : Int) + 1 := wrap_i64 _ (by omega)
    ((first | with_reducible refine holds_of_ex X 400 _ _ _ ?_ | skip); simp only [push_cast, reduceCtorEq, Nat.reduceAdd, Nat.reduceMul, Nat.reduceSub, Nat.reduceBEq, Nat.reduceGT, Nat.reduceLT, Int.toNat_zero, Nat.reduceLeDiff, Int.reduceEq, Int.reduceLT, Int.reduceLE, hP, hΓ, hL, hfin, hu])
    refine ⟨fun h0 => by simp at h0; omega, exB_split (fun h => ?_) (fun h => ?_)⟩
    · have hb : q < l.length ∧ bl (l.getD q 0) = true := by
        rw [bl_iff]
        simp at h
        have : q < l.length := by omega
        exact ⟨this, by have := h.2; simp [List.getD] at this ⊢; omega⟩
      ((first | with_reducible refine holds_of_ex X 400 _ _ _ ?_ | skip); simp only [push_cast, reduceCtorEq, Nat.reduceAdd, Nat.reduceMul, Nat.reduceSub, Nat.reduceBEq, Nat.reduceGT, Nat.reduceLT, Int.toNat_zero, Nat.reduceLeDiff, Int.reduceEq, Int.reduceLT, Int.reduceLE, hP, hΓ, hL, hfin, hu])
      refine ⟨⟨q + 1, by omega, by omega, fun i h4 h5 => ?_⟩, by simp only; omega, by exact Into.sameA⟩
      by_cases hiq : i < q
      · exact h3 i h4 hiq
      · rw [show i = q by omega]; exact hb.2
    · have hb : q = l.length ∨ bl (l.getD q 0) = false := by
        rw [nbl_iff]
        simp at h
        by_cases hq : q < l.length
        · right; have := h (by omega); simp [List.getD] at this ⊢; omega
        · left; omega
      ((first | with_reducible refine holds_of_ex X 400 _ _ _ ?_ | skip); simp only [push_cast, reduceCtorEq, Nat.reduceAdd, Nat.reduceMul, Nat.reduceSub, Nat.reduceBEq, Nat.reduceGT, Nat.reduceLT, Int.toNat_zero, Nat.reduceLeDiff, Int.reduceEq, Int.reduceLT, Int.reduceLE, hP, hΓ, hL, hfin])
      refine Holds.loop (ι := { t : Nat // q ≤ t ∧ t ≤ l.length ∧ ∀ i, q ≤ i → i < t → bl (l.getD i 0) = false }) (fun q => ([.str l, .any, .any, .int .i64 q.1, .int .i64 j, .any, .any, .any, .any, .any, .any, .any, .any, .any, .any, .any, .any, .any, .any, .any, .any, .any, .any, .any, .any, .any, .any, .any, .any, .any, .any, .any, .any, .any, .any, .any, .any, .any, .any, .any, .any, .any, .any, .any, .any, .any, .any, .any], [])) (fun q => l.length - q.1) ⟨q, Nat.le_refl _, h2, by intro i h1 h2; omega⟩ ?_ ?_
      · rw [hL]
        exact Into.sameA
      rintro ⟨t, g1, g2, g3⟩
      have hu : IntKind.i64.wrap ((t : Int) + 1) = (t : Int) + 1 := wrap_i64 _ (by omega)
      ((first | with_reducible refine holds_of_ex X 400 _ _ _ ?_ | skip); simp only [push_cast, reduceCtorEq, Nat.reduceAdd, Nat.reduceMul, Nat.reduceSub, Nat.reduceBEq, Nat.reduceGT, Nat.reduceLT, Int.toNat_zero, Nat.reduceLeDiff, Int.reduceEq, Int.reduceLT, Int.reduceLE, hP, hΓ, hL, hfin, hu])
      refine ⟨fun h0 => by simp at h0; omega, exB_split (fun h => ?_) (fun h => ?_)⟩
      · rename_i h0
        have hb : t < l.length ∧ bl (l.getD t 0) = false := by
          rw [nbl_iff]
          simp at h
          have : t < l.length := by omega
          exact ⟨this, by have := h.2; simp [List.getD] at this ⊢; omega⟩
        ((first | with_reducible refine holds_of_ex X 400 _ _ _ ?_ | skip); simp only [push_cast, reduceCtorEq, Nat.reduceAdd, Nat.reduceMul, Nat.reduceSub, Nat.reduceBEq, Nat.reduceGT, Nat.reduceLT, Int.toNat_zero, Nat.reduceLeDiff, Int.reduceEq, Int.reduceLT, Int.reduceLE, hP, hΓ, hL, hfin, hu])
        refine ⟨⟨t + 1, by omega, by omega, fun i h4 h5 => ?_⟩, by simp only; omega, by exact Into.sameA⟩
        by_cases hiq : i < t
        · exact g3 i h4 hiq
        · rw [show i = t by omega]; exact hb.2
      · rename_i h0
        have hb2 : t = l.length ∨ bl (l.getD t 0) = true := by
          rw [bl_iff]
          simp at h
          by_cases hq : t < l.length
          · right; have := h (by omega); simp [List.getD] at this ⊢; omega
          · left; omega
        have hw := wTo_at h1 g1 g2 h3 hb g3 hb2
        rw [← aft_pos] at hw
        ((first | with_reducible refine holds_of_ex X 400 _ _ _ ?_ | skip); simp only [push_cast, reduceCtorEq, Nat.reduceAdd, Nat.reduceMul, Nat.reduceSub, Nat.reduceBEq, Nat.reduceGT, Nat.reduceLT, Int.toNat_zero, Nat.reduceLeDiff, Int.reduceEq, Int.reduceLT, Int.reduceLE, hP, hΓ, hL, hfin, huj])
        have e : (t : Int) = (posW (j + 1) l : Nat) := by rw [posW, hw]; omega
        rw [e]
        refine ⟨⟨j + 1, by omega⟩, by simp only; omega, by exact Into.sameA⟩
  · have hj2 : j = 2 := by have := of_decide_eq_false h; omega
    subst hj2
    ((first | with_reducible refine holds_of_ex X 400 _ _ _ ?_ | skip); simp only [push_cast, reduceCtorEq, Nat.reduceAdd, Nat.reduceMul, Nat.reduceSub, Nat.reduceBEq, Nat.reduceGT, Nat.reduceLT, Int.toNat_zero, Nat.reduceLeDiff, Int.reduceEq, Int.reduceLT, Int.reduceLE, hP, hΓ, hL, hfin])
    refine Holds.loop (ι := { q : Nat // posW 2 l ≤ q ∧ q ≤ l.length ∧ ∀ i, posW 2 l ≤ i → i < q → bl (l.getD i 0) = true }) (fun q => ([.str l, .any, .any, .int .i64 q.1, .any, .any, .any, .any, .any, .any, .any, .any, .any, .any, .any, .any, .any, .any, .any, .any, .any, .any, .any, .any, .any, .any, .any, .any, .any, .any, .any, .any, .any, .any, .any, .any, .any, .any, .any, .any, .any, .any, .any, .any, .any, .any, .any, .any], [])) (fun q => l.length - q.1) ⟨posW 2 l, Nat.le_refl _, hp, by intro i h1 h2; omega⟩ ?_ ?_
    · rw [hL]
      exact Into.sameA
    rintro ⟨q, h1, h2, h3⟩
    have hu : IntKind.i64.wrap ((q : Int) + 1) = (q : Int) + 1 := wrap_i64 _ (by omega)
    ((first | with_reducible refine holds_of_ex X 400 _ _ _ ?_ | skip); simp only [push_cast, reduceCtorEq, Nat.reduceAdd, Nat.reduceMul, Nat.reduceSub, Nat.reduceBEq, Nat.reduceGT, Nat.reduceLT, Int.toNat_zero, Nat.reduceLeDiff, Int.reduceEq, Int.reduceLT, Int.reduceLE, hP, hΓ, hL, hfin, hu])
    refine ⟨fun h0 => by simp at h0; omega, exB_split (fun h => ?_) (fun h => ?_)⟩
    · rename_i h0
      have hb : q < l.length ∧ bl (l.getD q 0) = true := by
        rw [bl_iff]
        simp at h
        have : q < l.length := by omega
        exact ⟨this, by have := h.2; simp [List.getD] at this ⊢; omega⟩
      ((first | with_reducible refine holds_of_ex X 400 _ _ _ ?_ | skip); simp only [push_cast, reduceCtorEq, Nat.reduceAdd, Nat.reduceMul, Nat.reduceSub, Nat.reduceBEq, Nat.reduceGT, Nat.reduceLT, Int.toNat_zero, Nat.reduceLeDiff, Int.reduceEq, Int.reduceLT, Int.reduceLE, hP, hΓ, hL, hfin, hu])
      refine ⟨⟨q + 1, by omega, by omega, fun i h4 h5 => ?_⟩, by simp only; omega, by exact Into.sameA⟩
      by_cases hiq : i < q
      · exact h3 i h4 hiq
      · rw [show i = q by omega]; exact hb.2
    · rename_i h0
      have hb : q = l.length ∨ bl (l.getD q 0) = false := by
        rw [nbl_iff]
        simp at h
        by_cases hq : q < l.length
        · right; have := h (by omega); simp [List.getD] at this ⊢; omega
        · left; omega
      have hw := wFrom_at h1 h2 h3 hb
      rw [← aft_pos] at hw
      ((first | with_reducible refine holds_of_ex X 400 _ _ _ ?_ | skip); simp only [push_cast, reduceCtorEq, Nat.reduceAdd, Nat.reduceMul, Nat.reduceSub, Nat.reduceBEq, Nat.reduceGT, Nat.reduceLT, Int.toNat_zero, Nat.reduceLeDiff, Int.reduceEq, Int.reduceLT, Int.reduceLE, hP, hΓ, hL, hfin, List.take_length])
      refine ⟨⟨by omega, by omega, by omega⟩, ?_⟩
      refine Into.one ?_ rfl
      rw [text, hw, aft_pos, List.drop_drop, show posW 2 l + (q - posW 2 l) = q by omega]
def textS : FSpec := lift0 wsP (fun xs => match xs with | [.str l] => .str (text 2 l) | _ => .any) (fun _ => []) true
attribute [push_cast] textS
theorem con31 {Γ : Env} (h : EnvOk Tryz.prog Γ) : Con Tryz.prog 69 textS := by
  refine Con.of_body h (fn := Tryz.f69) (by kernel_rfl) rfl (by kernel_rfl) (fun _ _ => rfl) fun xs hx => ?_
  unfold wsP at hx
  split at hx
  · exact text_ref Γ _ hx
  · exact hx.elim
end Go.Proofs.YtenopfmafecffaaGreatDoor.lineDone
