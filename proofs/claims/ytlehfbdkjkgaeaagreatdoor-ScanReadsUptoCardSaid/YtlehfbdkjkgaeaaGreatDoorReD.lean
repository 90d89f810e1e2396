/- Of sources: the reference's signs and numbers' tokens. Conditions stand in each. -/
import Derived.Test.YtlehfbdkjkgaeaaGreatDoorReC
namespace Go.Proofs.YtlehfbdkjkgaeaaGreatDoor.scanRef
open Go Go.Eng Go.Proofs Go.Scan Go.RowKit
set_option linter.unusedVariables false
set_option linter.unusedSimpArgs false
set_option maxRecDepth 100000
set_option maxHeartbeats 4000000

theorem find_first {α : Type} [Inhabited α] (q : α → Bool) : ∀ (l : List α) (i : Nat), i < l.length → q (l.getD i default) = true → (∀ j < i, q (l.getD j default) = false) → l.find? q = some (l.getD i default)
  | [], i, h, _, _ => by cases h
  | x :: l, 0, _, h, _ => by rw [List.find?_cons]; simp only [List.getD_cons_zero] at h ⊢; rw [h]
  | x :: l, i + 1, hi, h, hno => by
    have h0 := hno 0 (by omega)
    simp only [List.getD_cons_zero] at h0
    rw [List.find?_cons, h0]
    simp only [List.getD_cons_succ] at h ⊢
    exact find_first q l i (by simpa using hi) h (fun j hj => by have := hno (j + 1) (by omega); simpa only [List.getD_cons_succ] using this)
theorem find_none' {α : Type} [Inhabited α] (q : α → Bool) (l : List α) (h : ∀ j < l.length, q (l.getD j default) = false) : l.find? q = none := by
  refine find_no q l fun w hw => ?_
  obtain ⟨i, hi, e⟩ := List.mem_iff_getElem.1 hw
  have := h i hi
  simpa [List.getD, hi, e] using this
theorem sgs_len : ∀ w ∈ sgs, w.length ≤ 2 := by decide
def e36 : (Bytes) × (Nat) → List AV := fun (s, k) => [.str s, .int .i64 k]
def p36 : (Bytes) × (Nat) → Prop := fun (s, k) => k ≤ s.length ∧ s.length ≤ 4194304
def r36 : (Bytes) × (Nat) → AV := fun (s, k) => .str (sgn (s.drop k))
def g36 : (Bytes) × (Nat) → Heap := fun (s, k) => []
theorem inj36 : ∀ a b, e36 a = e36 b → a = b := by
  rintro ⟨s, k⟩ ⟨s', k'⟩ h
  simp only [e36, mi_iff, ms_iff, mb_iff, my_iff, UInt8.toNat_inj, List.cons.injEq, AV.int.injEq, AV.str.injEq, AV.bool.injEq, AV.sl.injEq, AV.agg.injEq, AV.ip.injEq, AV.fn.injEq, AV.ifc.injEq, AV.mpr.injEq, Int.natCast_inj, and_true, true_and] at h
  simp_all only
noncomputable def S36 : FSpec := funS e36 p36 r36 g36 true
theorem ps36 (s : (Bytes)) (k : (Nat)) : psel e36 p36 [.str s, .int .i64 k] = (k ≤ s.length ∧ s.length ≤ 4194304) := psel_at inj36 p36 (s, k)
theorem rs36 (s : (Bytes)) (k : (Nat)) : rsel e36 r36 .any [.str s, .int .i64 k] = (.str (sgn (s.drop k))) := rsel_at inj36 r36 .any (s, k)
theorem hs36 (s : (Bytes)) (k : (Nat)) : rsel e36 g36 [] [.str s, .int .i64 k] = ([]) := rsel_at inj36 g36 [] (s, k)
attribute [push_cast] S36 ps36 rs36 hs36
theorem body36 (Γ : Env) (h49 : Γ 49 = some S49) (s : Bytes) (k : Nat) (hk : k ≤ s.length) (hl : s.length ≤ 4194304) : BodyOk Tryz.prog Γ Tryz.f36 (e36 (s, k)) [] (.str (sgn (s.drop k))) [] := by
  have hf := sgn_find (s.drop k)
  obtain ⟨q, hq⟩ : ∃ q : Bytes → Bool, ∀ w, q w = (decide (w.length ≤ (s.drop k).length) && ((s.drop k).take w.length == w)) := ⟨_, fun _ => rfl⟩
  rw [show (fun w : Bytes => decide (w.length ≤ (s.drop k).length) && ((s.drop k).take w.length == w)) = q from (funext hq).symm] at hf
  obtain ⟨G, hG⟩ : ∃ G, G = sgs := ⟨_, rfl⟩
  have hGl : G.length = 26 := by rw [hG]; rfl
  have hG2 : ∀ i, i < G.length → (G.getD i default).length ≤ 2 := by
    intro i hi
    have : G.getD i default ∈ sgs := by rw [← hG]; simp [List.getD, hi]
    exact sgs_len _ this
  rw [← hG] at hf
  (intro X hP hΓ hL hfin; refine ⟨_, rfl, ?_⟩; rw [show Tryz.f36.ntmps = 43 from rfl]; rw [show Tryz.f36.results.toList = [.tmp 4] from rfl] at hfin; apply holds_of_ex X 400; simp (maxSteps := 1000000) only [push_cast, reduceCtorEq, Nat.reduceAdd, Nat.reduceMul, Nat.reduceSub, Nat.reduceBEq, Nat.reduceGT, Nat.reduceLT, Int.toNat_zero, Nat.reduceLeDiff, Int.reduceEq, Int.reduceLT, Int.reduceLE, hP, hΓ, hL, hfin, String.reduceEq, not_false_eq_true, if_true, e36, h49])
  rw [← hG]
  refine Holds.loopM (ι := {i : Nat // i ≤ 26 ∧ ∀ j < i, q (G.getD j default) = false}) [true, true, false, false, false, true, false, false, false, false, false, false, false, false, false, false, false, false, false, false, false, false, false, false, false, false, false, false, false, false, false, false, false, false, false, false, false, false, false, false, false, false, false] (fun i => [(6, .int .i64 i.1), (5, .sl (G.map .str) 26)]) (fun i => []) (fun i => 26 - i.1) ⟨0, Nat.zero_le _, fun i h => absurd h (Nat.not_lt_zero i)⟩ ?_ ?_
  · (rw [hL]; simp only [push_cast, Int.natCast_zero]; exact Into.sameA)
  rintro ⟨i, hi, hno⟩
  ((first | with_reducible refine holds_of_ex X 400 _ _ _ ?_ | skip); simp (maxSteps := 1000000) only [push_cast, reduceCtorEq, Nat.reduceAdd, Nat.reduceMul, Nat.reduceSub, Nat.reduceBEq, Nat.reduceGT, Nat.reduceLT, Int.toNat_zero, Nat.reduceLeDiff, Int.reduceEq, Int.reduceLT, Int.reduceLE, hP, hΓ, hL, hfin, String.reduceEq, not_false_eq_true, if_true])
  ((with_reducible refine exB_split (fun h => ?_) (fun h => ?_)) <;> (try simp only [decide_eq_true_eq, decide_eq_false_iff_not, Bool.and_eq_true, Bool.or_eq_true, Bool.and_eq_false_iff, Bool.or_eq_false_iff, Bool.not_eq_true', Bool.not_eq_false', Bool.not_eq_true, Bool.not_eq_false, Int.not_lt, Int.not_le, beq_iff_eq, beq_eq_false_iff_ne, ne_eq] at h))
  · have hi' : i < G.length := by omega
    have h2 := hG2 i hi'
    have hqi := hq (G.getD i default)
    have hff := find_first q G i hi'
    ((first | with_reducible refine holds_of_ex X 400 _ _ _ ?_ | skip); simp (maxSteps := 1000000) only [push_cast, reduceCtorEq, Nat.reduceAdd, Nat.reduceMul, Nat.reduceSub, Nat.reduceBEq, Nat.reduceGT, Nat.reduceLT, Int.toNat_zero, Nat.reduceLeDiff, Int.reduceEq, Int.reduceLT, Int.reduceLE, hP, hΓ, hL, hfin, String.reduceEq, not_false_eq_true, if_true, hi'])
    generalize hg : G.getD i default = x at *
    refine ⟨⟨by omega, by omega⟩, by omega, ?_⟩
    have e2 : ∀ n : Nat, n ≤ 2 → IntKind.i64.wrap ((k : Int) + n) = (k : Int) + n := fun n hn => wr_i64 _ (by constructor <;> omega)
    have e3 := e2 x.length h2
    have e4 : List.drop k (List.take ((k : Int) + x.length).toNat s) = (s.drop k).take x.length := by
      rw [show ((k : Int) + x.length).toNat = k + x.length by omega, List.drop_take]; congr 1; omega
    (refine Holds.drawnQ (by rw [hP]; kernel_rfl) (by kernel_rfl) ?_; simp (maxSteps := 1000000) only [push_cast, reduceCtorEq, Nat.reduceAdd, Nat.reduceMul, Nat.reduceSub, Nat.reduceBEq, Nat.reduceGT, Nat.reduceLT, Int.toNat_zero, Nat.reduceLeDiff, Int.reduceEq, Int.reduceLT, Int.reduceLE, hP, hΓ, hL, hfin, String.reduceEq, not_false_eq_true, if_true, hi', hg, wr_i64 ((s.length : Int) - k) (by constructor <;> omega), e3, e4])
    have hdl : (s.drop k).length = s.length - k := List.length_drop
    have hqe : q x = (decide ((x.length : Int) ≤ (s.length : Int) - k) && List.take x.length (s.drop k) == x) := by
      rw [hqi, hdl]; congr 1; rw [decide_eq_decide]; omega
    rw [← hqe]
    refine ⟨fun h' => by simp only [decide_eq_true_eq] at h'; omega, ⟨hGl, fun _ => by omega⟩, fun _ => by omega, ?_⟩
    ((with_reducible refine exB_split (fun h => ?_) (fun h => ?_)) <;> (try simp only [decide_eq_true_eq, decide_eq_false_iff_not, Bool.and_eq_true, Bool.or_eq_true, Bool.and_eq_false_iff, Bool.or_eq_false_iff, Bool.not_eq_true', Bool.not_eq_false', Bool.not_eq_true, Bool.not_eq_false, Int.not_lt, Int.not_le, beq_iff_eq, beq_eq_false_iff_ne, ne_eq] at h))
    · rw [hff h hno] at hf
      ((first | with_reducible refine holds_of_ex X 400 _ _ _ ?_ | skip); simp (maxSteps := 1000000) only [push_cast, reduceCtorEq, Nat.reduceAdd, Nat.reduceMul, Nat.reduceSub, Nat.reduceBEq, Nat.reduceGT, Nat.reduceLT, Int.toNat_zero, Nat.reduceLeDiff, Int.reduceEq, Int.reduceLT, Int.reduceLE, hP, hΓ, hL, hfin, String.reduceEq, not_false_eq_true, if_true, hi', hg])
      rw [hf]
      exact ⟨⟨hGl, by omega⟩, by omega, Into.one rfl rfl⟩
    · have hx := h
      ((first | with_reducible refine holds_of_ex X 400 _ _ _ ?_ | skip); simp (maxSteps := 1000000) only [push_cast, reduceCtorEq, Nat.reduceAdd, Nat.reduceMul, Nat.reduceSub, Nat.reduceBEq, Nat.reduceGT, Nat.reduceLT, Int.toNat_zero, Nat.reduceLeDiff, Int.reduceEq, Int.reduceLT, Int.reduceLE, hP, hΓ, hL, hfin, String.reduceEq, not_false_eq_true, if_true, wr_i64 ((i : Int) + 1) (by constructor <;> omega)])
      refine ⟨⟨i + 1, by omega, fun j hj => ?_⟩, by simp only; omega, ?_⟩
      · by_cases e : j = i
        · subst e; rw [hg]; exact hx
        · exact hno j (by omega)
      exact Into.sameA
  · obtain rfl : i = 26 := by omega
    rw [find_none' q G (by rw [hGl]; exact hno)] at hf
    ((first | with_reducible refine holds_of_ex X 400 _ _ _ ?_ | skip); simp (maxSteps := 1000000) only [push_cast, reduceCtorEq, Nat.reduceAdd, Nat.reduceMul, Nat.reduceSub, Nat.reduceBEq, Nat.reduceGT, Nat.reduceLT, Int.toNat_zero, Nat.reduceLeDiff, Int.reduceEq, Int.reduceLT, Int.reduceLE, hP, hΓ, hL, hfin, String.reduceEq, not_false_eq_true, if_true])
    rw [hf]
    exact Into.one rfl rfl
theorem con36 {Γ : Env} (h : EnvOk Tryz.prog Γ) (h49 : Γ 49 = some S49) : Con Tryz.prog 36 S36 :=
  funS_con h (fn := Tryz.f36) (by kernel_rfl) rfl (by kernel_rfl) inj36 (by first | (intro h; cases h; done) | exact fun _ _ => rfl) fun ⟨s, k⟩ h => body36 Γ h49 s k h.1 h.2
end Go.Proofs.YtlehfbdkjkgaeaaGreatDoor.scanRef
