/- ScanNames: whatever the texts, the two ways to say whether one is a name agree. No conditions. -/
import Derived.Test.YtkglmlfkcmpbbaaTy
import Derived.Test.YtkglmlfkcmpbbaaRows
import Derived.ProofKit
import Derived.OpenShut
import Derived.ShutString
import Derived.ChangeOld
import Derived.SliceStrings
import Derived.Laws.RangeAny
namespace Go.Proofs.Ytkglmlfkcmpbbaa.scanNamesDone
open Go Go.Eng Go.Proofs
open Go.ChangeShapes Go.WideShapes Go.ChangeAt Go.RowKit
open Go.ChangeMaps (open_string shut_string)
set_option linter.unusedVariables false
set_option linter.unusedSimpArgs false
def lett (n : Int) : Bool := decide (97 ≤ n) && decide (n ≤ 122) || decide (65 ≤ n) && decide (n ≤ 90)
def digi (n : Int) : Bool := decide (48 ≤ n) && decide (n ≤ 57)
def alnum (c : UInt8) : Bool := lett c.toNat || digi c.toNat
def kws : List (List UInt8) := [[65, 82, 82, 65, 89], [66, 69, 71, 73, 78], [66, 89], [67, 79, 78, 83, 84], [68, 73, 86], [68, 79], [69, 76, 83, 69], [69, 76, 83, 73, 70], [69, 78, 68], [70, 65, 76, 83, 69], [70, 79, 82], [73, 70], [73, 77, 80, 79, 82, 84], [73, 78], [73, 83], [77, 79, 68], [77, 79, 68, 85, 76, 69], [78, 73, 76], [79, 70], [79, 82], [80, 79, 73, 78, 84, 69, 82], [80, 82, 79, 67, 69, 68, 85, 82, 69], [82, 69, 67, 79, 82, 68], [82, 69, 80, 69, 65, 84], [82, 69, 84, 85, 82, 78], [84, 72, 69, 78], [84, 79], [84, 82, 85, 69], [84, 89, 80, 69], [85, 78, 84, 73, 76], [86, 65, 82], [87, 72, 73, 76, 69]]

/-- a function of one integer -/
def pureF1 (k : IntKind) (g : Int → AV) : FSpec := lift0 (fun xs => match xs with | [.int k' _] => k' = k | _ => False) (fun xs => match xs with | [.int _ n] => g n | _ => .any) (fun _ => []) true
attribute [local push_cast] pureF1

/-- a function of one text -/
def strF (g : List UInt8 → AV) : FSpec := lift0 (fun xs => match xs with | [.str l] => l.length ≤ 9223372036854775807 | _ => False) (fun xs => match xs with | [.str l] => g l | _ => .any) (fun _ => []) true
def memS (cs : List AV) (x : List UInt8) : Bool := cs.any fun c => match c with | .str l => l == x | _ => false
def isInF : FSpec := lift0 (fun xs => match xs with | [.sl cs n, .str x] => ∃ ss : List (List UInt8), cs = ss.map .str ∧ n = ss.length ∧ ss.length ≤ 9223372036854775807 | _ => False) (fun xs => match xs with | [.sl cs n, .str x] => .bool (memS cs x) | _ => .any) (fun _ => []) true
def wordF : FSpec := lift0 (fun xs => match xs with | [.str l, .int k i] => k = .i64 ∧ l.length ≤ 9223372036854775807 ∧ 0 ≤ i ∧ i ≤ l.length | _ => False) (fun xs => match xs with | [.str l, .int _ i] => .int .i64 ((l.drop i.toNat).takeWhile alnum).length | _ => .any) (fun _ => []) true
def kwF : FSpec := lift0 (fun xs => match xs with | [] => True | _ => False) (fun _ => .msl 0 0 0 32) (fun _ => [.row (kws.map .str) 1 0]) false
attribute [local push_cast] strF isInF wordF kwF
theorem getD_lt {α : Type} {l : List α} {i : Nat} {d : α} (h : i < l.length) : l.getD i d = l[i] := by simp [List.getD, h]
theorem memS_map (ss : List (List UInt8)) (x : List UInt8) : memS (ss.map .str) x = ss.contains x := by
  induction ss with
  | nil => rfl
  | cons s ss ih =>
    simp only [memS, List.map_cons, List.any_cons, List.contains_cons] at ih ⊢
    rw [ih, Bool.beq_comm]

theorem letter_body (Γ : Env) (n : Int) : BodyOk Try.prog Γ Try.f18 [.int .i32 n] [] (.bool (lett n)) [] := by
  (intro X hP hΓ hL hfin; refine ⟨_, rfl, ?_⟩; rw [show Try.f18.ntmps = 17 from rfl]; rw [show Try.f18.results.toList = [.tmp 2] from rfl] at hfin; apply holds_of_ex X 400; simp only [push_cast, reduceCtorEq, Nat.reduceAdd, Nat.reduceMul, Nat.reduceSub, Nat.reduceBEq, Nat.reduceGT, Nat.reduceLT, Int.toNat_zero, Nat.reduceLeDiff, hP, hΓ, hL, hfin])
  exact Into.one rfl (by rfl)
theorem letter_ref (Γ : Env) (n : Int) : BodyOk Try.prog Γ Try.f21 [.int .u8 n] [] (.bool (lett n)) [] := by
  (intro X hP hΓ hL hfin; refine ⟨_, rfl, ?_⟩; rw [show Try.f21.ntmps = 17 from rfl]; rw [show Try.f21.results.toList = [.tmp 2] from rfl] at hfin; apply holds_of_ex X 400; simp only [push_cast, reduceCtorEq, Nat.reduceAdd, Nat.reduceMul, Nat.reduceSub, Nat.reduceBEq, Nat.reduceGT, Nat.reduceLT, Int.toNat_zero, Nat.reduceLeDiff, hP, hΓ, hL, hfin])
  exact Into.one rfl (by rfl)
theorem digit_body (Γ : Env) (n : Int) : BodyOk Try.prog Γ Try.f34 [.int .i32 n] [] (.bool (digi n)) [] := by
  (intro X hP hΓ hL hfin; refine ⟨_, rfl, ?_⟩; rw [show Try.f34.ntmps = 9 from rfl]; rw [show Try.f34.results.toList = [.tmp 2] from rfl] at hfin; apply holds_of_ex X 400; simp only [push_cast, reduceCtorEq, Nat.reduceAdd, Nat.reduceMul, Nat.reduceSub, Nat.reduceBEq, Nat.reduceGT, Nat.reduceLT, Int.toNat_zero, Nat.reduceLeDiff, hP, hΓ, hL, hfin])
  exact Into.one rfl (by rfl)
theorem digit_ref (Γ : Env) (n : Int) : BodyOk Try.prog Γ Try.f35 [.int .u8 n] [] (.bool (digi n)) [] := by
  (intro X hP hΓ hL hfin; refine ⟨_, rfl, ?_⟩; rw [show Try.f35.ntmps = 9 from rfl]; rw [show Try.f35.results.toList = [.tmp 2] from rfl] at hfin; apply holds_of_ex X 400; simp only [push_cast, reduceCtorEq, Nat.reduceAdd, Nat.reduceMul, Nat.reduceSub, Nat.reduceBEq, Nat.reduceGT, Nat.reduceLT, Int.toNat_zero, Nat.reduceLeDiff, hP, hΓ, hL, hfin])
  exact Into.one rfl (by rfl)
theorem keyword_body (Γ : Env) (l : List UInt8) : BodyOk Try.prog Γ Try.f20 [.str l] [] (.bool (kws.contains l)) [] := by
  (intro X hP hΓ hL hfin; refine ⟨_, rfl, ?_⟩; rw [show Try.f20.ntmps = 37 from rfl]; rw [show Try.f20.results.toList = [.tmp 2] from rfl] at hfin; apply holds_of_ex X 400; simp only [push_cast, reduceCtorEq, Nat.reduceAdd, Nat.reduceMul, Nat.reduceSub, Nat.reduceBEq, Nat.reduceGT, Nat.reduceLT, Int.toNat_zero, Nat.reduceLeDiff, hP, hΓ, hL, hfin])
  iterate 32
    refine exB_split (fun h => ?_) (fun h => ?_)
    · ((first | refine holds_of_ex X 400 _ _ _ ?_ | skip); simp only [push_cast, reduceCtorEq, Nat.reduceAdd, Nat.reduceMul, Nat.reduceSub, Nat.reduceBEq, Nat.reduceGT, Nat.reduceLT, Int.toNat_zero, Nat.reduceLeDiff, hP, hΓ, hL, hfin, h])
      have e := eq_of_beq h
      subst e
      refine Into.one ?_ (by rfl)
      kernel_rfl
    ((first | refine holds_of_ex X 400 _ _ _ ?_ | skip); simp only [push_cast, reduceCtorEq, Nat.reduceAdd, Nat.reduceMul, Nat.reduceSub, Nat.reduceBEq, Nat.reduceGT, Nat.reduceLT, Int.toNat_zero, Nat.reduceLeDiff, hP, hΓ, hL, hfin, h])
  refine Into.one ?_ (by rfl)
  simp only [kws, List.contains_cons, *, Bool.false_or]; rfl
theorem keywords_body (Γ : Env) : BodyOk Try.prog Γ Try.f24 [] [] (.msl 0 0 0 32) [.row (kws.map .str) 1 0] := by
  (intro X hP hΓ hL hfin; refine ⟨_, rfl, ?_⟩; rw [show Try.f24.ntmps = 2 from rfl]; rw [show Try.f24.results.toList = [.tmp 0] from rfl] at hfin; apply holds_of_ex X 400; simp only [push_cast, reduceCtorEq, Nat.reduceAdd, Nat.reduceMul, Nat.reduceSub, Nat.reduceBEq, Nat.reduceGT, Nat.reduceLT, Int.toNat_zero, Nat.reduceLeDiff, hP, hΓ, hL, hfin])
  exact Into.same (leF_refl _) (by rfl) (by rfl) (by decide)
theorem isIn_body (Γ : Env) (ss : List (List UInt8)) (x : List UInt8) (hl : ss.length ≤ 9223372036854775807) : BodyOk Try.prog Γ Try.f23 [.sl (ss.map .str) ss.length, .str x] [] (.bool (memS (ss.map .str) x)) [] := by
  rw [memS_map]
  (intro X hP hΓ hL hfin; refine ⟨_, rfl, ?_⟩; rw [show Try.f23.ntmps = 18 from rfl]; rw [show Try.f23.results.toList = [.tmp 4] from rfl] at hfin; apply holds_of_ex X 400; simp only [push_cast, reduceCtorEq, Nat.reduceAdd, Nat.reduceMul, Nat.reduceSub, Nat.reduceBEq, Nat.reduceGT, Nat.reduceLT, Int.toNat_zero, Nat.reduceLeDiff, hP, hΓ, hL, hfin])
  refine Holds.loop (ι := { k : Nat // k ≤ ss.length ∧ ∀ i < k, (ss.getD i [] == x) = false }) (fun k => ([.sl (ss.map .str) ss.length, .str x, .any, .any, .any, .int .i64 k.1, .any, .any, .any, .any, .any, .any, .any, .any, .any, .any, .any, .any], [])) (fun k => ss.length - k.1) ⟨0, Nat.zero_le _, by simp⟩ ?_ ?_
  · rw [hL]; exact Into.flat (by simp [leF]) (by simp only [push_cast])
  rintro ⟨k, hk, hg⟩
  ((first | refine holds_of_ex X 400 _ _ _ ?_ | skip); simp only [push_cast, reduceCtorEq, Nat.reduceAdd, Nat.reduceMul, Nat.reduceSub, Nat.reduceBEq, Nat.reduceGT, Nat.reduceLT, Int.toNat_zero, Nat.reduceLeDiff, hP, hΓ, hL, hfin])
  refine exB_split (fun h => ?_) (fun h => ?_)
  · have hk' : k < ss.length := by simpa using h
    ((first | refine holds_of_ex X 400 _ _ _ ?_ | skip); simp only [push_cast, reduceCtorEq, Nat.reduceAdd, Nat.reduceMul, Nat.reduceSub, Nat.reduceBEq, Nat.reduceGT, Nat.reduceLT, Int.toNat_zero, Nat.reduceLeDiff, hP, hΓ, hL, hfin, drop_str hk'])
    refine ⟨by omega, by omega, exB_split (fun h => ?_) (fun h => ?_)⟩
    · ((first | refine holds_of_ex X 400 _ _ _ ?_ | skip); simp only [push_cast, reduceCtorEq, Nat.reduceAdd, Nat.reduceMul, Nat.reduceSub, Nat.reduceBEq, Nat.reduceGT, Nat.reduceLT, Int.toNat_zero, Nat.reduceLeDiff, hP, hΓ, hL, hfin])
      refine Into.one ?_ (by rfl)
      congr 1; symm
      rw [List.contains_iff_mem]
      have := eq_of_beq h
      rw [← this, getD_lt hk']
      exact List.getElem_mem hk'
    · ((first | refine holds_of_ex X 400 _ _ _ ?_ | skip); simp only [push_cast, reduceCtorEq, Nat.reduceAdd, Nat.reduceMul, Nat.reduceSub, Nat.reduceBEq, Nat.reduceGT, Nat.reduceLT, Int.toNat_zero, Nat.reduceLeDiff, hP, hΓ, hL, hfin])
      rw [wrap_i64 _ (by omega)]
      refine ⟨⟨k + 1, hk', fun i hi => ?_⟩, by simp only; omega, Into.flat (by simp [leF]) (by simp only [push_cast])⟩
      rcases Nat.lt_succ_iff_lt_or_eq.1 hi with h' | rfl
      · exact hg i h'
      · exact h
  · ((first | refine holds_of_ex X 400 _ _ _ ?_ | skip); simp only [push_cast, reduceCtorEq, Nat.reduceAdd, Nat.reduceMul, Nat.reduceSub, Nat.reduceBEq, Nat.reduceGT, Nat.reduceLT, Int.toNat_zero, Nat.reduceLeDiff, hP, hΓ, hL, hfin])
    refine Into.one ?_ (by rfl)
    congr 1; symm
    have hk' : k = ss.length := by have := (decide_eq_false_iff_not.1 h); omega
    rw [← Bool.not_eq_true, List.contains_iff_mem]
    intro hm
    obtain ⟨i, hi, he⟩ := List.mem_iff_getElem.1 hm
    have := hg i (by omega)
    rw [getD_lt hi, he] at this
    simp at this
theorem word_ref (Γ : Env) (h21 : Γ 21 = some (pureF1 .u8 fun n => .bool (lett n))) (h35 : Γ 35 = some (pureF1 .u8 fun n => .bool (digi n))) (l : List UInt8) (hl : l.length ≤ 9223372036854775807) (i : Nat) (hi : i ≤ l.length) :
    BodyOk Try.prog Γ Try.f22 [.str l, .int .i64 i] [] (.int .i64 ((l.drop i).takeWhile alnum).length) [] := by
  (intro X hP hΓ hL hfin; refine ⟨_, rfl, ?_⟩; rw [show Try.f22.ntmps = 36 from rfl]; rw [show Try.f22.results.toList = [.tmp 4] from rfl] at hfin; apply holds_of_ex X 400; simp only [push_cast, reduceCtorEq, Nat.reduceAdd, Nat.reduceMul, Nat.reduceSub, Nat.reduceBEq, Nat.reduceGT, Nat.reduceLT, Int.toNat_zero, Nat.reduceLeDiff, hP, hΓ, hL, hfin])
  refine Holds.loop (ι := { k : Nat // i + k ≤ l.length ∧ ∀ j < k, alnum (l.getD (i + j) 0) = true }) (fun k => ([.str l, .int .i64 i, .any, .any, .any, .int .i64 k.1, .any, .any, .any, .any, .any, .any, .any, .any, .any, .any, .any, .any, .any, .any, .any, .any, .any, .any, .any, .any, .any, .any, .any, .any, .any, .any, .any, .any, .any, .any], [])) (fun k => l.length - k.1) ⟨0, hi, by simp⟩ ?_ ?_
  · rw [hL]; exact Into.flat (by simp [leF]) (by rfl)
  rintro ⟨k, hk, hg⟩
  have hw : IntKind.i64.wrap ((i : Int) + (k : Int)) = (i : Int) + (k : Int) := by rw [wrap_i64 _ (by omega)]
  have ht : ((i : Int) + (k : Int)).toNat = i + k := by omega
  ((first | refine holds_of_ex X 400 _ _ _ ?_ | skip); simp only [push_cast, reduceCtorEq, Nat.reduceAdd, Nat.reduceMul, Nat.reduceSub, Nat.reduceBEq, Nat.reduceGT, Nat.reduceLT, Int.toNat_zero, Nat.reduceLeDiff, hP, hΓ, hL, hfin, hw])
  have hdone : i + k = l.length ∨ alnum (l.getD (i + k) 0) = false → ((l.drop i).takeWhile alnum).length = k := by
    intro h
    rw [takeWhile_at alnum 0 (l.drop i) k (by simp; omega) (fun j hj => by have := hg j hj; simpa [List.getD, List.getElem?_drop] using this) (by
      rcases h with h | h
      · left; simp; omega
      · right; simpa [List.getD, List.getElem?_drop] using h)]
    simp; omega
  refine exB_split (fun h => ?_) (fun h => ?_)
  · have hk' : i + k < l.length := by have := of_decide_eq_true h; omega
    ((first | refine holds_of_ex X 400 _ _ _ ?_ | skip); simp only [push_cast, reduceCtorEq, Nat.reduceAdd, Nat.reduceMul, Nat.reduceSub, Nat.reduceBEq, Nat.reduceGT, Nat.reduceLT, Int.toNat_zero, Nat.reduceLeDiff, hP, hΓ, hL, hfin, h21, h35, hw, ht])
    refine ⟨by omega, by omega, exB_split (fun h => ?_) (fun h => ?_)⟩
    · ((first | refine holds_of_ex X 400 _ _ _ ?_ | skip); simp only [push_cast, reduceCtorEq, Nat.reduceAdd, Nat.reduceMul, Nat.reduceSub, Nat.reduceBEq, Nat.reduceGT, Nat.reduceLT, Int.toNat_zero, Nat.reduceLeDiff, hP, hΓ, hL, hfin])
      refine Into.one ?_ (by rfl)
      rw [hdone (.inr ?_)]
      simp only [alnum]
      revert h
      cases lett ↑(l.getD (i + k) 0).toNat <;> cases digi ↑(l.getD (i + k) 0).toNat <;> simp
    · ((first | refine holds_of_ex X 400 _ _ _ ?_ | skip); simp only [push_cast, reduceCtorEq, Nat.reduceAdd, Nat.reduceMul, Nat.reduceSub, Nat.reduceBEq, Nat.reduceGT, Nat.reduceLT, Int.toNat_zero, Nat.reduceLeDiff, hP, hΓ, hL, hfin])
      rw [wrap_i64 _ (by omega)]
      refine ⟨⟨k + 1, by omega, fun j hj => ?_⟩, by simp only; omega, Into.flat (by simp [leF]) (by rfl)⟩
      rcases Nat.lt_succ_iff_lt_or_eq.1 hj with h' | rfl
      · exact hg j h'
      · simp only [alnum]
        revert h
        cases lett ↑(l.getD (i + j) 0).toNat <;> cases digi ↑(l.getD (i + j) 0).toNat <;> simp
  · ((first | refine holds_of_ex X 400 _ _ _ ?_ | skip); simp only [push_cast, reduceCtorEq, Nat.reduceAdd, Nat.reduceMul, Nat.reduceSub, Nat.reduceBEq, Nat.reduceGT, Nat.reduceLT, Int.toNat_zero, Nat.reduceLeDiff, hP, hΓ, hL, hfin])
    refine Into.one ?_ (by rfl)
    rw [hdone (.inl (by have := (decide_eq_false_iff_not.1 h); omega))]
theorem word_body (Γ : Env) (h18 : Γ 18 = some (pureF1 .i32 fun n => .bool (lett n))) (h34 : Γ 34 = some (pureF1 .i32 fun n => .bool (digi n))) (l : List UInt8) (hl : l.length ≤ 9223372036854775807) :
    BodyOk Try.prog Γ Try.f19 [.str l] [] (.str (l.takeWhile alnum)) [] := by
  (intro X hP hΓ hL hfin; refine ⟨_, rfl, ?_⟩; rw [show Try.f19.ntmps = 23 from rfl]; rw [show Try.f19.results.toList = [.tmp 2] from rfl] at hfin; apply holds_of_ex X 400; simp only [push_cast, reduceCtorEq, Nat.reduceAdd, Nat.reduceMul, Nat.reduceSub, Nat.reduceBEq, Nat.reduceGT, Nat.reduceLT, Int.toNat_zero, Nat.reduceLeDiff, hP, hΓ, hL, hfin])
  refine Holds.loop (ι := { k : Nat // k ≤ l.length ∧ ∀ j < k, alnum (l.getD j 0) = true }) (fun k => ([.str l, .any, .any, .any, .any, .any, .ref 0 0 0, .any, .any, .any, .any, .any, .any, .any, .any, .any, .any, .any, .any, .any, .any, .any, .any], [.iter l k.1])) (fun k => l.length - k.1) ⟨0, Nat.zero_le _, by simp⟩ ?_ ?_
  · rw [hL]; exact Into.same (by simp [leF]) (by rfl) (by rfl) (by simp)
  rintro ⟨k, hk, hg⟩
  ((first | refine holds_of_ex X 400 _ _ _ ?_ | skip); simp only [push_cast, reduceCtorEq, Nat.reduceAdd, Nat.reduceMul, Nat.reduceSub, Nat.reduceBEq, Nat.reduceGT, Nat.reduceLT, Int.toNat_zero, Nat.reduceLeDiff, hP, hΓ, hL, hfin])
  refine exB_split (fun h => ?_) (fun h => ?_)
  · have hk' : k < l.length := of_decide_eq_true h
    have hcut : alnum (l.getD k 0) = false → l.take k = l.takeWhile alnum := fun h => (takeWhile_at alnum 0 l k hk hg (.inr h)).symm
    by_cases hc : (l.getD k 0).toNat < 128
    · have hr := rune_lo hk' hc
      ((first | refine holds_of_ex X 400 _ _ _ ?_ | skip); simp only [push_cast, reduceCtorEq, Nat.reduceAdd, Nat.reduceMul, Nat.reduceSub, Nat.reduceBEq, Nat.reduceGT, Nat.reduceLT, Int.toNat_zero, Nat.reduceLeDiff, hP, hΓ, hL, hfin, h18, h34, hr, hk'])
      refine exB_split (fun h => ?_) (fun h => ?_)
      · ((first | refine holds_of_ex X 400 _ _ _ ?_ | skip); simp only [push_cast, reduceCtorEq, Nat.reduceAdd, Nat.reduceMul, Nat.reduceSub, Nat.reduceBEq, Nat.reduceGT, Nat.reduceLT, Int.toNat_zero, Nat.reduceLeDiff, hP, hΓ, hL, hfin])
        refine ⟨by omega, Into.one ?_ (by rfl)⟩
        rw [hcut ?_]
        simp only [alnum]
        revert h
        cases lett ↑(l.getD k 0).toNat <;> cases digi ↑(l.getD k 0).toNat <;> simp
      · ((first | refine holds_of_ex X 400 _ _ _ ?_ | skip); simp only [push_cast, reduceCtorEq, Nat.reduceAdd, Nat.reduceMul, Nat.reduceSub, Nat.reduceBEq, Nat.reduceGT, Nat.reduceLT, Int.toNat_zero, Nat.reduceLeDiff, hP, hΓ, hL, hfin])
        refine ⟨⟨k + 1, hk', fun j hj => ?_⟩, by simp only; omega, Into.same (by simp [leF]) (by rfl) (by rfl) (by simp)⟩
        rcases Nat.lt_succ_iff_lt_or_eq.1 hj with h' | rfl
        · exact hg j h'
        · simp only [alnum]
          revert h
          cases lett ↑(l.getD j 0).toNat <;> cases digi ↑(l.getD j 0).toNat <;> simp
    · have hr := rune_hi hk' (by omega)
      have h1 : lett ((runeAt l k).1 : Int) = false := by simp [lett]; omega
      have h2 : digi ((runeAt l k).1 : Int) = false := by simp [digi]; omega
      ((first | refine holds_of_ex X 400 _ _ _ ?_ | skip); simp only [push_cast, reduceCtorEq, Nat.reduceAdd, Nat.reduceMul, Nat.reduceSub, Nat.reduceBEq, Nat.reduceGT, Nat.reduceLT, Int.toNat_zero, Nat.reduceLeDiff, hP, hΓ, hL, hfin, h18, h34, h1, h2, hk'])
      refine ⟨by omega, Into.one ?_ (by rfl)⟩
      rw [hcut ?_]
      generalize l.getD k 0 = c at hc ⊢
      simp [alnum, lett, digi]; omega
  · ((first | refine holds_of_ex X 400 _ _ _ ?_ | skip); simp only [push_cast, reduceCtorEq, Nat.reduceAdd, Nat.reduceMul, Nat.reduceSub, Nat.reduceBEq, Nat.reduceGT, Nat.reduceLT, Int.toNat_zero, Nat.reduceLeDiff, hP, hΓ, hL, hfin])
    refine Into.one ?_ (by rfl)
    have hk' : k = l.length := by have := of_decide_eq_false h; omega
    rw [takeWhile_at alnum 0 l k hk hg (.inl hk'), hk', List.take_length]

def isN (l : List UInt8) : Bool := !(l == []) && lett (l.getD 0 0).toNat && decide (l.length ≤ 20) && (l.takeWhile alnum == l) && !kws.contains l
theorem isName_body (Γ : Env) (h18 : Γ 18 = some (pureF1 .i32 fun n => .bool (lett n))) (h19 : Γ 19 = some (strF fun l => .str (l.takeWhile alnum))) (h20 : Γ 20 = some (strF fun l => .bool (kws.contains l))) (l : List UInt8) (hl : l.length ≤ 9223372036854775807) :
    BodyOk Try.prog Γ Try.f10 [.str l] [] (.bool (isN l)) [] := by
  (intro X hP hΓ hL hfin; refine ⟨_, rfl, ?_⟩; rw [show Try.f10.ntmps = 27 from rfl]; rw [show Try.f10.results.toList = [.tmp 2] from rfl] at hfin; apply holds_of_ex X 400; simp only [push_cast, reduceCtorEq, Nat.reduceAdd, Nat.reduceMul, Nat.reduceSub, Nat.reduceBEq, Nat.reduceGT, Nat.reduceLT, Int.toNat_zero, Nat.reduceLeDiff, hP, hΓ, hL, hfin, h18, h19, h20])
  refine ⟨fun h => ⟨by omega, ?_⟩, fun _ => hl, fun _ => hl, Into.one ?_ (by rfl)⟩
  · cases l
    · simp at h
    · simp
  · congr 1
    have : IntKind.i32.wrap (l.getD 0 0).toNat = (l.getD 0 0).toNat := IntWalk.i32_in _ (by have := (l.getD 0 0).toNat_lt; omega)
    simp only [isN, this]
    congr 3
    simp
    omega
theorem isName_ref (Γ : Env) (h21 : Γ 21 = some (pureF1 .u8 fun n => .bool (lett n))) (h22 : Γ 22 = some wordF) (h23 : Γ 23 = some isInF) (h24 : Γ 24 = some kwF) (l : List UInt8) (hl : l.length ≤ 9223372036854775807) :
    BodyOk Try.prog Γ Try.f11 [.str l] [] (.bool (isN l)) [] := by
  (intro X hP hΓ hL hfin; refine ⟨_, rfl, ?_⟩; rw [show Try.f11.ntmps = 33 from rfl]; rw [show Try.f11.results.toList = [.tmp 2] from rfl] at hfin; apply holds_of_ex X 400; simp only [push_cast, reduceCtorEq, Nat.reduceAdd, Nat.reduceMul, Nat.reduceSub, Nat.reduceBEq, Nat.reduceGT, Nat.reduceLT, Int.toNat_zero, Nat.reduceLeDiff, hP, hΓ, hL, hfin, h21, h22, h23, h24])
  refine exB_split (fun h => ?_) (fun h => ?_)
  · ((first | refine holds_of_ex X 400 _ _ _ ?_ | skip); simp only [push_cast, reduceCtorEq, Nat.reduceAdd, Nat.reduceMul, Nat.reduceSub, Nat.reduceBEq, Nat.reduceGT, Nat.reduceLT, Int.toNat_zero, Nat.reduceLeDiff, hP, hΓ, hL, hfin])
    refine Into.one ?_ (by rfl)
    congr 1; symm
    cases l with
    | nil => rfl
    | cons c l =>
      simp at h
      simp [isN]; omega
  · ((first | refine holds_of_ex X 400 _ _ _ ?_ | skip); simp only [push_cast, reduceCtorEq, Nat.reduceAdd, Nat.reduceMul, Nat.reduceSub, Nat.reduceBEq, Nat.reduceGT, Nat.reduceLT, Int.toNat_zero, Nat.reduceLeDiff, hP, hΓ, hL, hfin, h21, h22, h23, h24])
    have hs : 0 < l.length ∧ l.length ≤ 20 := by simp at h; omega
    have e32 : List.take 32 (List.map AV.str kws) = List.map AV.str kws := rfl
    rw [e32, memS_map]
    refine ⟨by omega, ⟨hl, by omega, by omega⟩, ⟨scpL_str _ _, ⟨kws, rfl, rfl, by decide⟩, rfl⟩, Into.one ?_ (by rfl)⟩
    congr 1
    have h1 : (l == []) = false := by cases l; simp at hs; rfl
    have h2 : decide (l.length ≤ 20) = true := by simp [hs.2]
    have h3 : decide (((l.takeWhile alnum).length : Int) = l.length) = (l.takeWhile alnum == l) := by
      rw [Bool.eq_iff_iff, decide_eq_true_eq, beq_iff_eq]
      exact ⟨fun h => (List.takeWhile_prefix alnum).eq_of_length (by omega), fun h => by rw [h]⟩
    rw [isN, h1, h2, h3]
    simp

def isNS : FSpec := strF fun l => .bool (isN l)
attribute [local push_cast] isNS
/-- the contracts' environment -/
def e1 : Env := addE (addE (addE (addE (addE (addE noE 18 (pureF1 .i32 fun n => .bool (lett n))) 21 (pureF1 .u8 fun n => .bool (lett n))) 34 (pureF1 .i32 fun n => .bool (digi n))) 35 (pureF1 .u8 fun n => .bool (digi n))) 20 (strF fun l => .bool (kws.contains l))) 24 kwF
def e2 : Env := addE (addE (addE e1 19 (strF fun l => .str (l.takeWhile alnum))) 22 wordF) 23 isInF
def e3 : Env := addE (addE e2 10 isNS) 11 isNS
theorem con1 {Γ : Env} (h : EnvOk Try.prog Γ) {f : FuncId} {fn : Func} (hf : Try.prog.funcs[f]? = some fn) (hb : fn.body.isNone = false) (hn : (fn.name == "runtime.NumGoroutine") = false) {k : IntKind} {g : Int → AV} (hg : ∀ n, BodyOk Try.prog Γ fn [.int k n] [] (g n) []) : Con Try.prog f (pureF1 k g) := by
  refine Con.of_body h hf hb hn (fun _ _ => rfl) fun xs hx => ?_
  split at hx
  · subst hx; exact hg _
  · exact hx.elim
theorem conS {Γ : Env} (h : EnvOk Try.prog Γ) {f : FuncId} {fn : Func} (hf : Try.prog.funcs[f]? = some fn) (hb : fn.body.isNone = false) (hn : (fn.name == "runtime.NumGoroutine") = false) {g : List UInt8 → AV} (hg : ∀ l : List UInt8, l.length ≤ 9223372036854775807 → BodyOk Try.prog Γ fn [.str l] [] (g l) []) : Con Try.prog f (strF g) := by
  refine Con.of_body h hf hb hn (fun _ _ => rfl) fun xs hx => ?_
  split at hx
  · exact hg _ hx
  · exact hx.elim
theorem e1_ok : EnvOk Try.prog e1 := by
  refine EnvOk.add (EnvOk.add (EnvOk.add (EnvOk.add (EnvOk.add (EnvOk.add (noE_ok _) ?_) ?_) ?_) ?_) ?_) ?_
  · exact con1 (noE_ok _) (fn := Try.f18) rfl rfl (by kernel_rfl) fun n => letter_body _ n
  · exact con1 (noE_ok _) (fn := Try.f21) rfl rfl (by kernel_rfl) fun n => letter_ref _ n
  · exact con1 (noE_ok _) (fn := Try.f34) rfl rfl (by kernel_rfl) fun n => digit_body _ n
  · exact con1 (noE_ok _) (fn := Try.f35) rfl rfl (by kernel_rfl) fun n => digit_ref _ n
  · exact conS (noE_ok _) (fn := Try.f20) rfl rfl (by kernel_rfl) fun l _ => keyword_body _ l
  · refine Con.of_body (noE_ok _) (fn := Try.f24) rfl rfl (by kernel_rfl) (fun h => by cases h) fun xs hx => ?_
    split at hx
    · exact keywords_body _
    · exact hx.elim
theorem e2_ok : EnvOk Try.prog e2 := by
  refine EnvOk.add (EnvOk.add (EnvOk.add e1_ok ?_) ?_) ?_
  · exact conS e1_ok (fn := Try.f19) rfl rfl (by kernel_rfl) fun l hl => word_body _ rfl rfl l hl
  · refine Con.of_body e1_ok (fn := Try.f22) rfl rfl (by kernel_rfl) (fun _ _ => rfl) fun xs hx => ?_
    split at hx
    · rename_i l k i
      obtain ⟨rfl, h1, h2, h3⟩ := hx
      have := word_ref e1 rfl rfl l h1 i.toNat (by omega)
      rw [Int.toNat_of_nonneg h2] at this
      exact this
    · exact hx.elim
  · refine Con.of_body e1_ok (fn := Try.f23) rfl rfl (by kernel_rfl) (fun _ _ => rfl) fun xs hx => ?_
    split at hx
    · obtain ⟨ss, rfl, rfl, h⟩ := hx
      exact isIn_body _ ss _ h
    · exact hx.elim
theorem e3_ok : EnvOk Try.prog e3 := by
  refine EnvOk.add (EnvOk.add e2_ok ?_) ?_
  · exact conS e2_ok (fn := Try.f10) rfl rfl (by kernel_rfl) fun l hl => isName_body _ rfl rfl rfl l hl
  · exact conS e2_ok (fn := Try.f11) rfl rfl (by kernel_rfl) fun l hl => isName_ref _ rfl rfl rfl rfl l hl
theorem g10 : e3 10 = some isNS := rfl
theorem g11 : e3 11 = some isNS := rfl
attribute [local push_cast] g10 g11
theorem law_body (ss : List (List UInt8)) (hl : ss.length ≤ 9223372036854775807) (hs : ∀ s ∈ ss, s.length ≤ 9223372036854775807) : BodyOk Try.prog e3 Try.f4 [.sl (ss.map .str) ss.length] [] (.bool true) [] := by
  (intro X hP hΓ hL hfin; refine ⟨_, rfl, ?_⟩; rw [show Try.f4.ntmps = 26 from rfl]; rw [show Try.f4.results.toList = [.tmp 2] from rfl] at hfin; apply holds_of_ex X 400; simp only [push_cast, reduceCtorEq, Nat.reduceAdd, Nat.reduceMul, Nat.reduceSub, Nat.reduceBEq, Nat.reduceGT, Nat.reduceLT, Int.toNat_zero, Nat.reduceLeDiff, hP, hΓ, hL, hfin])
  refine Holds.loop (ι := { k : Nat // k ≤ ss.length }) (fun k => ([.sl (ss.map .str) ss.length, .any, .any, .int .i64 k.1, .any, .any, .any, .any, .any, .any, .any, .any, .any, .any, .any, .any, .any, .any, .any, .any, .any, .any, .any, .any, .any, .any], [])) (fun k => ss.length - k.1) ⟨0, Nat.zero_le _⟩ ?_ ?_
  · rw [hL]; exact Into.flat (by simp [leF]) (by simp only [push_cast])
  rintro ⟨k, hk⟩
  ((first | refine holds_of_ex X 400 _ _ _ ?_ | skip); simp only [push_cast, reduceCtorEq, Nat.reduceAdd, Nat.reduceMul, Nat.reduceSub, Nat.reduceBEq, Nat.reduceGT, Nat.reduceLT, Int.toNat_zero, Nat.reduceLeDiff, hP, hΓ, hL, hfin])
  refine exB_split (fun h => ?_) (fun h => ?_)
  · have hk' : k < ss.length := by simpa using h
    ((first | refine holds_of_ex X 400 _ _ _ ?_ | skip); simp only [push_cast, reduceCtorEq, Nat.reduceAdd, Nat.reduceMul, Nat.reduceSub, Nat.reduceBEq, Nat.reduceGT, Nat.reduceLT, Int.toNat_zero, Nat.reduceLeDiff, hP, hΓ, hL, hfin])
    (refine Holds.drawnQ (by rw [hP]; kernel_rfl) (by kernel_rfl) ?_; simp only [push_cast, reduceCtorEq, Nat.reduceAdd, Nat.reduceMul, Nat.reduceSub, Nat.reduceBEq, Nat.reduceGT, Nat.reduceLT, Int.toNat_zero, Nat.reduceLeDiff, hP, hΓ, hL, hfin, drop_str hk'])
    have hb : (ss.getD k []).length ≤ 9223372036854775807 := hs _ (by rw [getD_lt hk']; exact List.getElem_mem hk')
    rw [wrap_i64 _ (by omega)]
    exact ⟨by omega, by omega, hb, by omega, by omega, hb, ⟨k + 1, hk'⟩, by simp only; omega, Into.flat (by simp [leF]) (by simp only [push_cast])⟩
  · ((first | refine holds_of_ex X 400 _ _ _ ?_ | skip); simp only [push_cast, reduceCtorEq, Nat.reduceAdd, Nat.reduceMul, Nat.reduceSub, Nat.reduceBEq, Nat.reduceGT, Nat.reduceLT, Int.toNat_zero, Nat.reduceLeDiff, hP, hΓ, hL, hfin])
    refine Into.one ?_ (by rfl)
    kernel_rfl

theorem own : ownKnob Try.prog.godebug = none := by kernel_rfl
theorem laidOut : laidOutB Try.prog = true := by kernel_rfl
/-- a slice of texts that came in: it reads so -/
def IsRow (w : World) (a : Option Addr) (len cap : Nat) : Prop := ∃ ss : List (List UInt8), ss.length = len ∧ len ≤ maxLen ∧ (∀ s ∈ ss, s.length ≤ maxLen) ∧ VRel (pinW w) [] (.sl (ss.map .str) len) (.slice a len cap)
theorem walk (a0 : Option Addr) (len0 cap0 : Nat) (w : World) (h0 : IsRow w a0 len0 cap0) : Calls Try.prog 4 #[.slice a0 len0 cap0] w fun e w' => e = .returned (.bool true) ∧ Below w.heap.size w w' := by
  obtain ⟨ss, rfl, hl, hs, hr⟩ := h0
  exact law_of_body e3_ok (f := 4) (fn := Try.f4) (vs := [.slice a0 ss.length cap0]) rfl (pinW_pin w) (CRel.cons hr (CRel.nil _ _)) (law_body ss (by simpa [maxLen] using hl) fun s h => by simpa [maxLen] using hs s h)

set_option maxRecDepth 100000 in
theorem lifted (os : Os) (started : os.Started) (H : Type) (enc : TypeId × Value → H) :
    ReturnsInHanded {} Try.checked os 4 .any (Rows.scanNamesSpec.pre6 enc Try.prog Try.f4 Rows.scanNamesRow.domain false) (Rows.scanNamesSpec.post enc Try.prog Try.f4 false true false false) := by
  refine returnsInHanded_of_change (C := Try.checked) own started (by kernel_rfl) Try.func4
    (ChangeSpec.witness6 (enc := enc) (C := Try.checked) false ⟨#[], #[.slice none 0 0], []⟩ 8 (by kernel_rfl) (by kernel_rfl) (by kernel_rfl) (by kernel_rfl)) ?_
  intro W base args ds gs before hval0 hW hcnd _
  have hval : ∀ (j : Nat) t v, Try.f4.params[j]? = some t → args[j]? = some v → Value.okWide Try.prog W .any base t v := hval0
  have hW' := hW
  obtain ⟨p, q, hA0, hV, rfl, hfz, hnd⟩ := hW
  have hA : DataW.TrodAll enc Try.prog W 0 (fun _ => true) true Try.f4.params.toList args.toList ds p := hA0
  rw [Try.params4] at hA hval
  obtain ⟨v0, vs0, d0, ds0, p0, q0, hargs, rfl, rfl, h0, r0⟩ := trodAll_cons hA
  obtain ⟨rfl, rfl, rfl⟩ := trodAll_nil r0
  obtain rfl : args = #[v0] := by cases args; simp_all
  obtain ⟨rfl, rfl⟩ := trodVars_none hV
  obtain ⟨a0, len0, cap0, rfl⟩ := okWide_slice Try.underlying23 (hval 0 23 v0 rfl rfl)
  have k0 := h0
  have lt0 : ∀ x ∈ p0, x.block < W.heap.size := by obtain ⟨m, hm⟩ := k0; exact DataW.trod_lt m _ _ _ hm
  have w0 : IsRow W a0 len0 cap0 := by
    obtain ⟨fuel, hf⟩ := h0
    rcases open_strings Try.underlying23 Try.underlying9 (by kernel_rfl) hf with ⟨hcs, _⟩ | ⟨x, l, c, ss, hcs, _, hl, hm, hz, _, hcell, hsz⟩
    · simp [Value.cells] at hcs
      obtain ⟨rfl, rfl, rfl⟩ := hcs
      exact ⟨[], rfl, by simp, by simp, rel_nil W⟩
    · simp [Value.cells] at hcs
      obtain ⟨rfl, rfl, rfl⟩ := hcs
      have hz' : ss.length = cap0 := by simpa using hz
      refine ⟨(ss.take len0).map (·.data.toList), by simp; omega, by omega, ?_, rel_slice W x len0 cap0 ((ss.take len0).map .string) _ hl (crel_strs _ _ _) ?_⟩
      · intro s hs
        obtain ⟨b, hb, rfl⟩ := List.mem_map.1 hs
        have := hsz b (List.mem_of_mem_take hb)
        simpa using this
      · intro i v hi
        simp only [List.getElem?_map, Option.map_eq_some_iff] at hi
        obtain ⟨b, hb, rfl⟩ := hi
        rw [List.getElem?_take] at hb
        split at hb
        · have hlt := (List.getElem?_eq_some_iff.1 hb).1
          rw [hcell i hlt]
          simp [List.getD, hb]
        · cases hb
  clear hA0 hval0
  refine (walk a0 len0 cap0 W w0).mono fun e W' ⟨he, bel⟩ => ?_
  subst he
  exact ⟨_, rfl, _, _, _, [], _, [], hW', trodAll_mk1 (shut_bool Try.underlying4 _), (trodAll_cons_mk (Below.trod laidOut (by kernel_rfl) (of_decide_eq_true (by kernel_rfl)) k0 bel lt0) trodAll_mk0), rfl, bel.frame _, fun h => by cases h⟩

theorem over : Rows.scanNamesRow.holds Try.pinned (OpenSpec.ofChange Rows.scanNamesSpec) :=
  OpenClaim.holds_of_wide 4 Try.f4 rfl rfl rfl rfl rfl rfl rfl ⟨rfl, rfl, rfl, rfl, rfl⟩ rfl rfl rfl rfl rfl (by kernel_rfl) Try.func4 (by kernel_rfl)
    (of_decide_eq_true (by kernel_rfl)) (by unfold Func.isWrapper; first | (rw [if_pos (by decide +kernel)]; kernel_rfl) | (rw [if_neg (by decide +kernel)]; exact ⟨rfl, rfl⟩))
    (fun os started H enc _ => lifted os started H enc)

theorem proved : Rows.ScanNamesSaid := over
end Go.Proofs.Ytkglmlfkcmpbbaa.scanNamesDone
