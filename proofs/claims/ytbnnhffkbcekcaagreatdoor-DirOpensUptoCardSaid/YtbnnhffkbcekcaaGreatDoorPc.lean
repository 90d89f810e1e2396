/- Of directories: names; texts cut and trimmed at a letter. Conditions stand in each. Of directories: letters trimmed off a text's ends. Conditions stand in each. Of directories: a leaf read. Conditions stand in each. -/
import Derived.Test.YtbnnhffkbcekcaaGreatDoorPb
import Derived.Test.YtbnnhffkbcekcaaGreatDoorEg
import Derived.Lib.IndexLaws
set_option linter.unusedVariables false
set_option linter.unusedSimpArgs false
set_option maxRecDepth 100000
set_option maxHeartbeats 4000000
section
namespace Go.Proofs.YtbnnhffkbcekcaaGreatDoor.dirDone
open Go Go.Eng Go.Proofs Go.Lib
def gd (first : Bool) (c : UInt8) : Bool := (97 ≤ c.toNat && c.toNat ≤ 122 || 65 ≤ c.toNat && c.toNat ≤ 90) || !first && (48 ≤ c.toNat && c.toNat ≤ 57 || c.toNat == 46 || c.toNat == 95)
def isNm (l : List UInt8) : Bool := decide ((∀ i < l.length, gd (decide (i = 0)) (l.getD i 0) = true) ∧ l ≠ [] ∧ l.length ≤ 23)
def e56 : (List UInt8) → List AV := fun l => [.str l]
def p56 : (List UInt8) → Prop := fun l => l.length ≤ 9223372036854775807
def r56 : (List UInt8) → AV := fun l => .bool (isNm l)
def g56 : (List UInt8) → Heap := fun l => []
theorem inj56 : ∀ a b, e56 a = e56 b → a = b := by
  rintro l l' h
  simp only [e56, mi_iff, ms_iff, mb_iff, my_iff, UInt8.toNat_inj, avinj, List.cons.injEq] at h
  simp_all only
noncomputable def S56 : FSpec := funS e56 p56 r56 g56 true
theorem ps56 (l : (List UInt8)) : psel e56 p56 [.str l] = (l.length ≤ 9223372036854775807) := psel_at inj56 p56 l
theorem rs56 (l : (List UInt8)) : rsel e56 r56 .any [.str l] = (.bool (isNm l)) := rsel_at inj56 r56 .any l
theorem hs56 (l : (List UInt8)) : rsel e56 g56 [] [.str l] = ([]) := rsel_at inj56 g56 [] l
attribute [push_cast] S56 ps56 rs56 hs56
theorem isName_body (Γ : Env) (l : List UInt8) (hl : l.length ≤ 9223372036854775807) : BodyOk Tryz.prog Γ Tryz.f56 [.str l] [] (.bool (isNm l)) [] := by
  (intro X hP hΓ hL hfin; refine ⟨_, rfl, ?_⟩; rw [show Tryz.f56.ntmps = 52 from rfl]; rw [show Tryz.f56.results.toList = [.tmp 2] from rfl] at hfin; apply holds_of_ex X 400; simp only [push_cast, reduceCtorEq, Nat.reduceAdd, Nat.reduceMul, Nat.reduceSub, Nat.reduceBEq, Nat.reduceGT, Nat.reduceLT, Int.toNat_zero, Nat.reduceLeDiff, Int.reduceEq, Int.reduceLT, Int.reduceLE, hP, hΓ, hL, hfin])
  refine Holds.loop (ι := { k : Nat // k ≤ l.length ∧ ∀ i < k, gd (decide (i = 0)) (l.getD i 0) = true }) (fun k => ([.str l, .any, .any, .any, .any, .any, .any, .int .i64 l.length, .int .i64 k.1, .any, .any, .any, .any, .any, .any, .any, .any, .any, .any, .any, .any, .any, .any, .any, .any, .any, .any, .any, .any, .any, .any, .any, .any, .any, .any, .any, .any, .any, .any, .any, .any, .any, .any, .any, .any, .any, .any, .any, .any, .any, .any, .any], [])) (fun k => l.length - k.1) ⟨0, Nat.zero_le _, by simp⟩ ?_ ?_
  · rw [hL]; exact Into.flat (by simp [leF]) rfl
  rintro ⟨k, hk, hg⟩
  ((first | with_reducible refine holds_of_ex X 400 _ _ _ ?_ | skip); simp only [push_cast, reduceCtorEq, Nat.reduceAdd, Nat.reduceMul, Nat.reduceSub, Nat.reduceBEq, Nat.reduceGT, Nat.reduceLT, Int.toNat_zero, Nat.reduceLeDiff, Int.reduceEq, Int.reduceLT, Int.reduceLE, hP, hΓ, hL, hfin])
  refine exB_split (fun h => ?_) (fun h => ?_)
  · ((first | with_reducible refine holds_of_ex X 400 _ _ _ ?_ | skip); simp only [push_cast, reduceCtorEq, Nat.reduceAdd, Nat.reduceMul, Nat.reduceSub, Nat.reduceBEq, Nat.reduceGT, Nat.reduceLT, Int.toNat_zero, Nat.reduceLeDiff, Int.reduceEq, Int.reduceLT, Int.reduceLE, hP, hΓ, hL, hfin])
    have hk' : k < l.length := by simpa using h
    refine ⟨by omega, exB_split (fun h => ?_) (fun h => ?_)⟩
    · ((first | with_reducible refine holds_of_ex X 400 _ _ _ ?_ | skip); simp only [push_cast, reduceCtorEq, Nat.reduceAdd, Nat.reduceMul, Nat.reduceSub, Nat.reduceBEq, Nat.reduceGT, Nat.reduceLT, Int.toNat_zero, Nat.reduceLeDiff, Int.reduceEq, Int.reduceLT, Int.reduceLE, hP, hΓ, hL, hfin])
      have hb : gd (decide (k = 0)) (l.getD k 0) = false := by
        rw [show decide ((k : Int) = 0) = decide (k = 0) by simp] at h
        generalize decide (k = 0) = b at h ⊢
        generalize l.getD k 0 = c at h ⊢
        rw [← Bool.not_eq_true']
        revert h; revert c
        cases b
        · refine byte_imp ?_; kernel_rfl
        · refine byte_imp ?_; kernel_rfl
      refine Into.one ?_ (by rfl)
      congr 1
      symm
      simp only [isNm, decide_eq_false_iff_not]
      intro hh
      rw [hh.1 k hk'] at hb; cases hb
    · ((first | with_reducible refine holds_of_ex X 400 _ _ _ ?_ | skip); simp only [push_cast, reduceCtorEq, Nat.reduceAdd, Nat.reduceMul, Nat.reduceSub, Nat.reduceBEq, Nat.reduceGT, Nat.reduceLT, Int.toNat_zero, Nat.reduceLeDiff, Int.reduceEq, Int.reduceLT, Int.reduceLE, hP, hΓ, hL, hfin])
      have hb : gd (decide (k = 0)) (l.getD k 0) = true := by
        rw [show decide ((k : Int) = 0) = decide (k = 0) by simp] at h
        generalize decide (k = 0) = b at h ⊢
        generalize l.getD k 0 = c at h ⊢
        rw [← Bool.not_eq_true'] at h
        revert h; revert c
        cases b
        · refine byte_imp ?_; kernel_rfl
        · refine byte_imp ?_; kernel_rfl
      rw [wrap_i64 _ (by omega)]
      refine ⟨⟨k + 1, hk', fun i hi => ?_⟩, by simp only; omega, Into.flat (by simp [leF]) rfl⟩
      rcases Nat.lt_succ_iff_lt_or_eq.1 hi with h' | rfl
      · exact hg i h'
      · exact hb
  · ((first | with_reducible refine holds_of_ex X 400 _ _ _ ?_ | skip); simp only [push_cast, reduceCtorEq, Nat.reduceAdd, Nat.reduceMul, Nat.reduceSub, Nat.reduceBEq, Nat.reduceGT, Nat.reduceLT, Int.toNat_zero, Nat.reduceLeDiff, Int.reduceEq, Int.reduceLT, Int.reduceLE, hP, hΓ, hL, hfin])
    refine Into.one ?_ (by rfl)
    congr 1
    have hk' : k = l.length := by have := (decide_eq_false_iff_not.1 h); omega
    subst hk'
    rw [Bool.eq_iff_iff]
    simp only [isNm, decide_eq_true_eq, Bool.and_eq_true, Bool.not_eq_true', beq_eq_false_iff_ne]
    constructor
    · rintro ⟨h1, h2⟩; exact ⟨hg, h1, by omega⟩
    · rintro ⟨_, h1, h2⟩; exact ⟨h1, by omega⟩
theorem con56 {Γ : Env} (h : EnvOk Tryz.prog Γ)  : Con Tryz.prog 56 S56 :=
  funS_con h (fn := Tryz.f56) (by kernel_rfl) rfl (by kernel_rfl) inj56 (by first | (intro h; cases h; done) | exact fun _ _ => rfl) fun l h => isName_body Γ l h
def e109 : (List UInt8) → List AV := fun l => [.str l]
def p109 : (List UInt8) → Prop := fun l => l.length ≤ 9223372036854775807
def r109 : (List UInt8) → AV := fun l => .bool (isNm l)
def g109 : (List UInt8) → Heap := fun l => []
theorem inj109 : ∀ a b, e109 a = e109 b → a = b := by
  rintro l l' h
  simp only [e109, mi_iff, ms_iff, mb_iff, my_iff, UInt8.toNat_inj, avinj, List.cons.injEq] at h
  simp_all only
noncomputable def S109 : FSpec := funS e109 p109 r109 g109 true
theorem ps109 (l : (List UInt8)) : psel e109 p109 [.str l] = (l.length ≤ 9223372036854775807) := psel_at inj109 p109 l
theorem rs109 (l : (List UInt8)) : rsel e109 r109 .any [.str l] = (.bool (isNm l)) := rsel_at inj109 r109 .any l
theorem hs109 (l : (List UInt8)) : rsel e109 g109 [] [.str l] = ([]) := rsel_at inj109 g109 [] l
attribute [push_cast] S109 ps109 rs109 hs109
theorem isName_ref (Γ : Env) (l : List UInt8) (hl : l.length ≤ 9223372036854775807) : BodyOk Tryz.prog Γ Tryz.f109 [.str l] [] (.bool (isNm l)) [] := by
  (intro X hP hΓ hL hfin; refine ⟨_, rfl, ?_⟩; rw [show Tryz.f109.ntmps = 61 from rfl]; rw [show Tryz.f109.results.toList = [.tmp 2] from rfl] at hfin; apply holds_of_ex X 400; simp only [push_cast, reduceCtorEq, Nat.reduceAdd, Nat.reduceMul, Nat.reduceSub, Nat.reduceBEq, Nat.reduceGT, Nat.reduceLT, Int.toNat_zero, Nat.reduceLeDiff, Int.reduceEq, Int.reduceLT, Int.reduceLE, hP, hΓ, hL, hfin])
  refine exB_split (fun h => ?_) (fun h => ?_)
  · ((first | with_reducible refine holds_of_ex X 400 _ _ _ ?_ | skip); simp only [push_cast, reduceCtorEq, Nat.reduceAdd, Nat.reduceMul, Nat.reduceSub, Nat.reduceBEq, Nat.reduceGT, Nat.reduceLT, Int.toNat_zero, Nat.reduceLeDiff, Int.reduceEq, Int.reduceLT, Int.reduceLE, hP, hΓ, hL, hfin])
    refine Into.one ?_ (by rfl)
    congr 1
    symm
    simp only [isNm, decide_eq_false_iff_not]
    rintro ⟨_, h1, h2⟩
    simp [h1] at h; omega
  ((first | with_reducible refine holds_of_ex X 400 _ _ _ ?_ | skip); simp only [push_cast, reduceCtorEq, Nat.reduceAdd, Nat.reduceMul, Nat.reduceSub, Nat.reduceBEq, Nat.reduceGT, Nat.reduceLT, Int.toNat_zero, Nat.reduceLeDiff, Int.reduceEq, Int.reduceLT, Int.reduceLE, hP, hΓ, hL, hfin])
  have hs : l ≠ [] ∧ l.length ≤ 23 := by simp at h; exact ⟨h.1, by omega⟩
  refine Holds.loop (ι := { k : Nat // k ≤ l.length ∧ ∀ i < k, gd (decide (i = 0)) (l.getD i 0) = true }) (fun k => ([.str l, .any, .any, .int .i64 k.1, .any, .any, .any, .any, .any, .any, .any, .any, .any, .any, .any, .any, .any, .any, .any, .any, .any, .any, .any, .any, .any, .any, .any, .any, .any, .any, .any, .any, .any, .any, .any, .any, .any, .any, .any, .any, .any, .any, .any, .any, .any, .any, .any, .any, .any, .any, .any, .any, .any, .any, .any, .any, .any, .any, .any, .any, .any], [])) (fun k => l.length - k.1) ⟨0, Nat.zero_le _, by simp⟩ ?_ ?_
  · rw [hL]; exact Into.flat (by simp [leF]) rfl
  rintro ⟨k, hk, hg⟩
  ((first | with_reducible refine holds_of_ex X 400 _ _ _ ?_ | skip); simp only [push_cast, reduceCtorEq, Nat.reduceAdd, Nat.reduceMul, Nat.reduceSub, Nat.reduceBEq, Nat.reduceGT, Nat.reduceLT, Int.toNat_zero, Nat.reduceLeDiff, Int.reduceEq, Int.reduceLT, Int.reduceLE, hP, hΓ, hL, hfin])
  refine exB_split (fun h => ?_) (fun h => ?_)
  · ((first | with_reducible refine holds_of_ex X 400 _ _ _ ?_ | skip); simp only [push_cast, reduceCtorEq, Nat.reduceAdd, Nat.reduceMul, Nat.reduceSub, Nat.reduceBEq, Nat.reduceGT, Nat.reduceLT, Int.toNat_zero, Nat.reduceLeDiff, Int.reduceEq, Int.reduceLT, Int.reduceLE, hP, hΓ, hL, hfin])
    have hk' : k < l.length := by simpa using h
    refine ⟨by omega, exB_split (fun h => ?_) (fun h => ?_)⟩
    · ((first | with_reducible refine holds_of_ex X 400 _ _ _ ?_ | skip); simp only [push_cast, reduceCtorEq, Nat.reduceAdd, Nat.reduceMul, Nat.reduceSub, Nat.reduceBEq, Nat.reduceGT, Nat.reduceLT, Int.toNat_zero, Nat.reduceLeDiff, Int.reduceEq, Int.reduceLT, Int.reduceLE, hP, hΓ, hL, hfin])
      have hb : gd (decide (k = 0)) (l.getD k 0) = false := by
        rw [show decide ((k : Int) = 0) = decide (k = 0) by simp] at h
        generalize decide (k = 0) = b at h ⊢
        generalize l.getD k 0 = c at h ⊢
        rw [← Bool.not_eq_true']
        revert h; revert c
        cases b
        · refine byte_imp ?_; kernel_rfl
        · refine byte_imp ?_; kernel_rfl
      refine Into.one ?_ (by rfl)
      congr 1
      symm
      simp only [isNm, decide_eq_false_iff_not]
      intro hh
      rw [hh.1 k hk'] at hb; cases hb
    · ((first | with_reducible refine holds_of_ex X 400 _ _ _ ?_ | skip); simp only [push_cast, reduceCtorEq, Nat.reduceAdd, Nat.reduceMul, Nat.reduceSub, Nat.reduceBEq, Nat.reduceGT, Nat.reduceLT, Int.toNat_zero, Nat.reduceLeDiff, Int.reduceEq, Int.reduceLT, Int.reduceLE, hP, hΓ, hL, hfin])
      have hb : gd (decide (k = 0)) (l.getD k 0) = true := by
        rw [show decide ((k : Int) = 0) = decide (k = 0) by simp] at h
        generalize decide (k = 0) = b at h ⊢
        generalize l.getD k 0 = c at h ⊢
        rw [← Bool.not_eq_true'] at h
        revert h; revert c
        cases b
        · refine byte_imp ?_; kernel_rfl
        · refine byte_imp ?_; kernel_rfl
      rw [wrap_i64 _ (by omega)]
      refine ⟨⟨k + 1, hk', fun i hi => ?_⟩, by simp only; omega, Into.flat (by simp [leF]) rfl⟩
      rcases Nat.lt_succ_iff_lt_or_eq.1 hi with h' | rfl
      · exact hg i h'
      · exact hb
  · ((first | with_reducible refine holds_of_ex X 400 _ _ _ ?_ | skip); simp only [push_cast, reduceCtorEq, Nat.reduceAdd, Nat.reduceMul, Nat.reduceSub, Nat.reduceBEq, Nat.reduceGT, Nat.reduceLT, Int.toNat_zero, Nat.reduceLeDiff, Int.reduceEq, Int.reduceLT, Int.reduceLE, hP, hΓ, hL, hfin])
    refine Into.one ?_ (by rfl)
    congr 1
    have hk' : k = l.length := by have := (decide_eq_false_iff_not.1 h); omega
    subst hk'
    symm
    simp only [isNm, decide_eq_true_eq]
    exact ⟨hg, hs⟩
theorem con109 {Γ : Env} (h : EnvOk Tryz.prog Γ)  : Con Tryz.prog 109 S109 :=
  funS_con h (fn := Tryz.f109) (by kernel_rfl) rfl (by kernel_rfl) inj109 (by first | (intro h; cases h; done) | exact fun _ _ => rfl) fun l h => isName_ref Γ l h
def oneP (xs : List AV) : Prop := match xs with
  | [.str l, .int .u8 n] => (∃ c : UInt8, n = c.toNat) ∧ l.length ≤ 4194304
  | _ => False
def ixR (xs : List AV) : AV := match xs with
  | [.str l, .int _ n] => .int .i64 (indexByte l n.toNat.toUInt8)
  | _ => .any
def ixS : FSpec := lift0 oneP ixR (fun _ => []) true
theorem one0 : decide ((0 : Int) + 1 = 0) = false := by decide
theorem one1 : decide ((0 : Int) + 1 = 1) = true := by decide
theorem oneN (c : UInt8) : ([c] == ([] : List UInt8)) = false := rfl
theorem byte_back (c : UInt8) : c.toNat.toUInt8 = c := by simp
attribute [push_cast] one0 one1 oneN oneP ixR ixS byte_back
theorem con185 : Con Tryz.prog 185 ixS := by
  refine Con.ofExt (fun xs hx => ?_) fun m w xs vs hc hx => ?_
  · unfold oneP at hx
    split at hx
    · exact ⟨_, _, rfl⟩
    · exact hx.elim
  · unfold oneP at hx
    split at hx
    · rename_i l n
      simp only [CRel, VRel] at hc
      obtain ⟨v1, vs, rfl, rfl, v2, vs, rfl, rfl, rfl⟩ := hc
      refine ⟨.int .i64 (indexByte l n.toNat.toUInt8), ?_, by simp [ixR, VRel]⟩
      rw [run_callFunc_extern Tryz.func185 (by kernel_rfl) (by kernel_rfl) (by kernel_rfl) (e := Extern.BytealgIndexByte.indexByte) (by kernel_rfl), Lib.run_indexByteString]
      rfl
    · exact hx.elim
theorem byte178 (Γ : Env) (h185 : Γ 185 = some ixS) (l : List UInt8) (c : UInt8) (hl : l.length ≤ 4194304) : BodyOk Tryz.prog Γ Tryz.f178 [.str l, .int .u8 c.toNat] [] (.int .i64 (indexByte l c)) [] := by
  (intro X hP hΓ hL hfin; refine ⟨_, rfl, ?_⟩; rw [show Tryz.f178.ntmps = 8 from rfl]; rw [show Tryz.f178.results.toList = [.tmp 4] from rfl] at hfin; apply holds_of_ex X 400; simp only [push_cast, reduceCtorEq, Nat.reduceAdd, Nat.reduceMul, Nat.reduceSub, Nat.reduceBEq, Nat.reduceGT, Nat.reduceLT, Int.toNat_zero, Nat.reduceLeDiff, Int.reduceEq, Int.reduceLT, Int.reduceLE, hP, hΓ, hL, hfin, h185])
  exact ⟨⟨⟨c, rfl⟩, hl⟩, Into.one rfl rfl⟩
theorem con178 {Γ : Env} (h : EnvOk Tryz.prog Γ) (h185 : Γ 185 = some ixS) : Con Tryz.prog 178 ixS := by
  refine Con.of_body h (fn := Tryz.f178) (by kernel_rfl) rfl (by kernel_rfl) (fun _ _ => rfl) fun xs hx => ?_
  unfold oneP at hx
  split at hx
  · obtain ⟨⟨c, rfl⟩, hl⟩ := hx
    have := byte178 Γ h185 _ c hl
    simpa [ixR] using this
  · exact hx.elim
def e173 : (List UInt8) × (UInt8) → List AV := fun (l, c) => [.str l, .str [c]]
def p173 : (List UInt8) × (UInt8) → Prop := fun (l, c) => l.length ≤ 4194304
def r173 : (List UInt8) × (UInt8) → AV := fun (l, c) => .int .i64 (indexByte l c)
def g173 : (List UInt8) × (UInt8) → Heap := fun (l, c) => []
theorem inj173 : ∀ a b, e173 a = e173 b → a = b := by
  rintro ⟨l, c⟩ ⟨l', c'⟩ h
  simp only [e173, mi_iff, ms_iff, mb_iff, my_iff, UInt8.toNat_inj, avinj, List.cons.injEq] at h
  simp_all only
noncomputable def S173 : FSpec := funS e173 p173 r173 g173 true
theorem ps173 (l : (List UInt8)) (c : (UInt8)) : psel e173 p173 [.str l, .str [c]] = (l.length ≤ 4194304) := psel_at inj173 p173 (l, c)
theorem rs173 (l : (List UInt8)) (c : (UInt8)) : rsel e173 r173 .any [.str l, .str [c]] = (.int .i64 (indexByte l c)) := rsel_at inj173 r173 .any (l, c)
theorem hs173 (l : (List UInt8)) (c : (UInt8)) : rsel e173 g173 [] [.str l, .str [c]] = ([]) := rsel_at inj173 g173 [] (l, c)
attribute [push_cast] S173 ps173 rs173 hs173
theorem text173 (Γ : Env) (h178 : Γ 178 = some ixS) (l : List UInt8) (c : UInt8) (hl : l.length ≤ 4194304) : BodyOk Tryz.prog Γ Tryz.f173 [.str l, .str [c]] [] (.int .i64 (indexByte l c)) [] := by
  (intro X hP hΓ hL hfin; refine ⟨_, rfl, ?_⟩; rw [show Tryz.f173.ntmps = 143 from rfl]; rw [show Tryz.f173.results.toList = [.tmp 4] from rfl] at hfin; apply holds_of_ex X 400; simp only [push_cast, reduceCtorEq, Nat.reduceAdd, Nat.reduceMul, Nat.reduceSub, Nat.reduceBEq, Nat.reduceGT, Nat.reduceLT, Int.toNat_zero, Nat.reduceLeDiff, Int.reduceEq, Int.reduceLT, Int.reduceLE, hP, hΓ, hL, hfin, h178])
  refine exB_split (fun h => ?_) (fun h => ?_)
  · ((first | with_reducible refine holds_of_ex X 400 _ _ _ ?_ | skip); simp only [push_cast, reduceCtorEq, Nat.reduceAdd, Nat.reduceMul, Nat.reduceSub, Nat.reduceBEq, Nat.reduceGT, Nat.reduceLT, Int.toNat_zero, Nat.reduceLeDiff, Int.reduceEq, Int.reduceLT, Int.reduceLE, hP, hΓ, hL, hfin])
    have e : l = [c] := (eq_of_beq h).symm
    subst e
    exact Into.one (by simp [indexByte]) rfl
  · ((first | with_reducible refine holds_of_ex X 400 _ _ _ ?_ | skip); simp only [push_cast, reduceCtorEq, Nat.reduceAdd, Nat.reduceMul, Nat.reduceSub, Nat.reduceBEq, Nat.reduceGT, Nat.reduceLT, Int.toNat_zero, Nat.reduceLeDiff, Int.reduceEq, Int.reduceLT, Int.reduceLE, hP, hΓ, hL, hfin, h178])
    exact ⟨by omega, ⟨⟨c, rfl⟩, hl⟩, Into.one rfl rfl⟩
theorem con173 {Γ : Env} (h : EnvOk Tryz.prog Γ) (h178 : Γ 178 = some ixS) : Con Tryz.prog 173 S173 :=
  funS_con h (fn := Tryz.f173) (by kernel_rfl) rfl (by kernel_rfl) inj173 (by first | (intro h; cases h; done) | exact fun _ _ => rfl) fun ⟨l, c⟩ h => text173 Γ h178 l c h
def cutB (l : List UInt8) (c : UInt8) : List UInt8 := if indexByte l c < 0 then l else l.take (indexByte l c).toNat
def cutA (l : List UInt8) (c : UInt8) : List UInt8 := if indexByte l c < 0 then [] else l.drop ((indexByte l c).toNat + 1)
def e164 : (List UInt8) × (UInt8) → List AV := fun (l, c) => [.str l, .str [c]]
def p164 : (List UInt8) × (UInt8) → Prop := fun (l, c) => l.length ≤ 4194304
def r164 : (List UInt8) × (UInt8) → AV := fun (l, c) => .tup [.str (cutB l c), .str (cutA l c), .bool (decide (0 ≤ indexByte l c))]
def g164 : (List UInt8) × (UInt8) → Heap := fun (l, c) => []
theorem inj164 : ∀ a b, e164 a = e164 b → a = b := by
  rintro ⟨l, c⟩ ⟨l', c'⟩ h
  simp only [e164, mi_iff, ms_iff, mb_iff, my_iff, UInt8.toNat_inj, avinj, List.cons.injEq] at h
  simp_all only
noncomputable def S164 : FSpec := funS e164 p164 r164 g164 true
theorem ps164 (l : (List UInt8)) (c : (UInt8)) : psel e164 p164 [.str l, .str [c]] = (l.length ≤ 4194304) := psel_at inj164 p164 (l, c)
theorem rs164 (l : (List UInt8)) (c : (UInt8)) : rsel e164 r164 .any [.str l, .str [c]] = (.tup [.str (cutB l c), .str (cutA l c), .bool (decide (0 ≤ indexByte l c))]) := rsel_at inj164 r164 .any (l, c)
theorem hs164 (l : (List UInt8)) (c : (UInt8)) : rsel e164 g164 [] [.str l, .str [c]] = ([]) := rsel_at inj164 g164 [] (l, c)
attribute [push_cast] S164 ps164 rs164 hs164
theorem body164 (Γ : Env) (h173 : Γ 173 = some S173) (l : List UInt8) (c : UInt8) (hl : l.length ≤ 4194304) : BodyOk Tryz.prog Γ Tryz.f164 [.str l, .str [c]] [] (.tup [.str (cutB l c), .str (cutA l c), .bool (decide (0 ≤ indexByte l c))]) [] := by
  have hlt : indexByte l c < 0 ∨ ∃ k : Nat, indexByte l c = k ∧ k < l.length := by
    by_cases h : indexByte l c < 0
    · exact .inl h
    · obtain ⟨k, hk⟩ := Int.eq_ofNat_of_zero_le (show 0 ≤ indexByte l c by omega)
      have := (indexByte_some hk).1
      exact .inr ⟨k, hk, (List.getElem?_eq_some_iff.1 this).1⟩
  rcases hlt with h | ⟨k, hk, hkl⟩
  · have d0 : decide (0 ≤ indexByte l c) = false := decide_eq_false (by omega)
    have e1 : cutB l c = l := by unfold cutB; rw [if_pos h]
    have e2 : cutA l c = [] := by unfold cutA; rw [if_pos h]
    rw [e1, e2, d0]
    (intro X hP hΓ hL hfin; refine ⟨_, rfl, ?_⟩; rw [show Tryz.f164.ntmps = 23 from rfl]; rw [show Tryz.f164.results.toList = [.tmp 4, .tmp 5, .tmp 6] from rfl] at hfin; apply holds_of_ex X 400; simp (maxSteps := 1000000) only [push_cast, reduceCtorEq, Nat.reduceAdd, Nat.reduceMul, Nat.reduceSub, Nat.reduceBEq, Nat.reduceGT, Nat.reduceLT, Int.toNat_zero, Nat.reduceLeDiff, Int.reduceEq, Int.reduceLT, Int.reduceLE, hP, hΓ, hL, hfin, h173, d0])
    refine ⟨hl, ?_⟩
    exact Into.sameA
  · have e1 : cutB l c = l.take k := by unfold cutB; rw [hk, if_neg (by omega)]; rfl
    have e2 : cutA l c = l.drop (k + 1) := by unfold cutA; rw [hk, if_neg (by omega)]; rfl
    have d0 : decide ((0 : Int) ≤ (k : Int)) = true := decide_eq_true (by omega)
    have w1 : IntKind.i64.wrap ((k : Int) + (0 + 1)) = ((k + 1 : Nat) : Int) := by rw [wr_i64 _ (by constructor <;> omega)]; omega
    rw [e1, e2, hk, d0]
    (intro X hP hΓ hL hfin; refine ⟨_, rfl, ?_⟩; rw [show Tryz.f164.ntmps = 23 from rfl]; rw [show Tryz.f164.results.toList = [.tmp 4, .tmp 5, .tmp 6] from rfl] at hfin; apply holds_of_ex X 400; simp (maxSteps := 1000000) only [push_cast, reduceCtorEq, Nat.reduceAdd, Nat.reduceMul, Nat.reduceSub, Nat.reduceBEq, Nat.reduceGT, Nat.reduceLT, Int.toNat_zero, Nat.reduceLeDiff, Int.reduceEq, Int.reduceLT, Int.reduceLE, hP, hΓ, hL, hfin, h173, hk, d0, w1])
    refine ⟨hl, ?_⟩
    (refine Holds.drawnQ smp (by kernel_rfl) ?_; simp (maxSteps := 1000000) only [push_cast, reduceCtorEq, Nat.reduceAdd, Nat.reduceMul, Nat.reduceSub, Nat.reduceBEq, Nat.reduceGT, Nat.reduceLT, Int.toNat_zero, Nat.reduceLeDiff, Int.reduceEq, Int.reduceLT, Int.reduceLE, hP, hΓ, hL, hfin, hk, w1, Int.toNat_natCast])
    refine ⟨by omega, ⟨by omega, by omega, by omega⟩, ?_⟩
    rw [List.take_length]
    exact Into.sameA
theorem con164 {Γ : Env} (h : EnvOk Tryz.prog Γ) (h173 : Γ 173 = some S173) : Con Tryz.prog 164 S164 :=
  funS_con h (fn := Tryz.f164) (by kernel_rfl) rfl (by kernel_rfl) inj164 (by first | (intro h; cases h; done) | exact fun _ _ => rfl) fun ⟨l, c⟩ h => body164 Γ h173 l c h
def e156 : (List UInt8) × (UInt8) → List AV := fun (l, c) => [.str l, .str [c]]
def p156 : (List UInt8) × (UInt8) → Prop := fun (l, c) => l.length ≤ 4194304
def r156 : (List UInt8) × (UInt8) → AV := fun (l, c) => .tup [.str (cutB l c), .str (cutA l c), .bool (decide (0 ≤ indexByte l c))]
def g156 : (List UInt8) × (UInt8) → Heap := fun (l, c) => []
theorem inj156 : ∀ a b, e156 a = e156 b → a = b := by
  rintro ⟨l, c⟩ ⟨l', c'⟩ h
  simp only [e156, mi_iff, ms_iff, mb_iff, my_iff, UInt8.toNat_inj, avinj, List.cons.injEq] at h
  simp_all only
noncomputable def S156 : FSpec := funS e156 p156 r156 g156 true
theorem ps156 (l : (List UInt8)) (c : (UInt8)) : psel e156 p156 [.str l, .str [c]] = (l.length ≤ 4194304) := psel_at inj156 p156 (l, c)
theorem rs156 (l : (List UInt8)) (c : (UInt8)) : rsel e156 r156 .any [.str l, .str [c]] = (.tup [.str (cutB l c), .str (cutA l c), .bool (decide (0 ≤ indexByte l c))]) := rsel_at inj156 r156 .any (l, c)
theorem hs156 (l : (List UInt8)) (c : (UInt8)) : rsel e156 g156 [] [.str l, .str [c]] = ([]) := rsel_at inj156 g156 [] (l, c)
attribute [push_cast] S156 ps156 rs156 hs156
theorem body156 (Γ : Env) (h164 : Γ 164 = some S164) (l : List UInt8) (c : UInt8) (hl : l.length ≤ 4194304) : BodyOk Tryz.prog Γ Tryz.f156 [.str l, .str [c]] [] (.tup [.str (cutB l c), .str (cutA l c), .bool (decide (0 ≤ indexByte l c))]) [] := by
  (intro X hP hΓ hL hfin; refine ⟨_, rfl, ?_⟩; rw [show Tryz.f156.ntmps = 13 from rfl]; rw [show Tryz.f156.results.toList = [.tmp 4, .tmp 5, .tmp 6] from rfl] at hfin; apply holds_of_ex X 400; simp (maxSteps := 1000000) only [push_cast, reduceCtorEq, Nat.reduceAdd, Nat.reduceMul, Nat.reduceSub, Nat.reduceBEq, Nat.reduceGT, Nat.reduceLT, Int.toNat_zero, Nat.reduceLeDiff, Int.reduceEq, Int.reduceLT, Int.reduceLE, hP, hΓ, hL, hfin, h164])
  refine ⟨hl, ?_⟩
  exact Into.sameA
theorem con156 {Γ : Env} (h : EnvOk Tryz.prog Γ) (h164 : Γ 164 = some S164) : Con Tryz.prog 156 S156 :=
  funS_con h (fn := Tryz.f156) (by kernel_rfl) rfl (by kernel_rfl) inj156 (by first | (intro h; cases h; done) | exact fun _ _ => rfl) fun ⟨l, c⟩ h => body156 Γ h164 l c h
end Go.Proofs.YtbnnhffkbcekcaaGreatDoor.dirDone
end
section
namespace Go.Proofs.YtbnnhffkbcekcaaGreatDoor.dirDone
open Go Go.Eng Go.Proofs Go.Lib
def trimL (c : UInt8) (l : List UInt8) : List UInt8 := l.dropWhile (· == c)
def trimR (c : UInt8) (l : List UInt8) : List UInt8 := (l.reverse.dropWhile (· == c)).reverse
theorem trimL_step (c : UInt8) (l : List UInt8) (k : Nat) (h : k < l.length) (hc : l.getD k 0 = c) : trimL c (l.drop (k + 1)) = trimL c (l.drop k) := by
  have e : l.drop k = l.getD k 0 :: l.drop (k + 1) := by rw [List.drop_eq_getElem_cons h]; simp [List.getD, h]
  rw [e, hc]; unfold trimL; simp
theorem trimL_end (c : UInt8) (l : List UInt8) (k : Nat) (h : k < l.length) (hc : l.getD k 0 ≠ c) : trimL c (l.drop k) = l.drop k := by
  have e : l.drop k = l.getD k 0 :: l.drop (k + 1) := by rw [List.drop_eq_getElem_cons h]; simp [List.getD, h]
  rw [e]; unfold trimL; rw [List.dropWhile_cons_of_neg (by simpa using hc)]
theorem trimR_step (c : UInt8) (l : List UInt8) (k : Nat) (h : k < l.length) (hc : l.getD k 0 = c) : trimR c (l.take (k + 1)) = trimR c (l.take k) := by
  have e : l.take (k + 1) = l.take k ++ [l.getD k 0] := by rw [List.take_succ_eq_append_getElem h]; simp [List.getD, h]
  rw [e, hc]; unfold trimR; simp
theorem trimR_end (c : UInt8) (l : List UInt8) (k : Nat) (h : k < l.length) (hc : l.getD k 0 ≠ c) : trimR c (l.take (k + 1)) = l.take (k + 1) := by
  have e : l.take (k + 1) = l.take k ++ [l.getD k 0] := by rw [List.take_succ_eq_append_getElem h]; simp [List.getD, h]
  rw [e]; unfold trimR; rw [List.reverse_append, List.reverse_singleton, List.singleton_append, List.dropWhile_cons_of_neg (by simpa using hc)]; simp
def e165 : (List UInt8) × (UInt8) → List AV := fun (l, c) => [.str l, .int .u8 c.toNat]
def p165 : (List UInt8) × (UInt8) → Prop := fun (l, c) => l.length ≤ 4194304
def r165 : (List UInt8) × (UInt8) → AV := fun (l, c) => .str (trimL c l)
def g165 : (List UInt8) × (UInt8) → Heap := fun (l, c) => []
theorem inj165 : ∀ a b, e165 a = e165 b → a = b := by
  rintro ⟨l, c⟩ ⟨l', c'⟩ h
  simp only [e165, mi_iff, ms_iff, mb_iff, my_iff, UInt8.toNat_inj, avinj, List.cons.injEq] at h
  simp_all only
noncomputable def S165 : FSpec := funS e165 p165 r165 g165 true
theorem ps165 (l : (List UInt8)) (c : (UInt8)) : psel e165 p165 [.str l, .int .u8 c.toNat] = (l.length ≤ 4194304) := psel_at inj165 p165 (l, c)
theorem rs165 (l : (List UInt8)) (c : (UInt8)) : rsel e165 r165 .any [.str l, .int .u8 c.toNat] = (.str (trimL c l)) := rsel_at inj165 r165 .any (l, c)
theorem hs165 (l : (List UInt8)) (c : (UInt8)) : rsel e165 g165 [] [.str l, .int .u8 c.toNat] = ([]) := rsel_at inj165 g165 [] (l, c)
attribute [push_cast] S165 ps165 rs165 hs165
theorem body165 (Γ : Env) (l : List UInt8) (c : UInt8) (hl : l.length ≤ 4194304) : BodyOk Tryz.prog Γ Tryz.f165 [.str l, .int .u8 c.toNat] [] (.str (trimL c l)) [] := by
  (intro X hP hΓ hL hfin; refine ⟨_, rfl, ?_⟩; rw [show Tryz.f165.ntmps = 17 from rfl]; rw [show Tryz.f165.results.toList = [.tmp 4] from rfl] at hfin; apply holds_of_ex X 400; simp (maxSteps := 1000000) only [push_cast, reduceCtorEq, Nat.reduceAdd, Nat.reduceMul, Nat.reduceSub, Nat.reduceBEq, Nat.reduceGT, Nat.reduceLT, Int.toNat_zero, Nat.reduceLeDiff, Int.reduceEq, Int.reduceLT, Int.reduceLE, hP, hΓ, hL, hfin, ])
  refine Holds.loopM (ι := {k : Nat // k ≤ l.length ∧ trimL c (l.drop k) = trimL c l}) [ff,tt,ff,ff,tt,ff,ff,ff,ff,ff,ff,ff,ff,ff,ff,ff,ff] (fun i => [(0, .str (l.drop i.1))]) (fun i => []) (fun i => l.length - i.1) ⟨0, Nat.zero_le _, rfl⟩ ?_ ?_
  · (rw [hL]; simp only [push_cast, Int.natCast_zero, ]; exact Into.sameA)
  rintro ⟨k, hk, hg⟩
  by_cases c0 : k < l.length
  case neg =>
    have d0 : decide ((0 : Int) < ((l.length - k : Nat) : Int)) = false := decide_eq_false (by omega)
    have e : l.drop k = [] := List.drop_eq_nil_of_le (by omega)
    ((first | with_reducible refine holds_of_ex X 400 _ _ _ ?_ | skip); simp (maxSteps := 1000000) only [push_cast, reduceCtorEq, Nat.reduceAdd, Nat.reduceMul, Nat.reduceSub, Nat.reduceBEq, Nat.reduceGT, Nat.reduceLT, Int.toNat_zero, Nat.reduceLeDiff, Int.reduceEq, Int.reduceLT, Int.reduceLE, hP, hΓ, hL, hfin, d0])
    rw [← hg, e]
    exact Into.sameA
  have d0 : decide ((0 : Int) < ((l.length - k : Nat) : Int)) = true := decide_eq_true (by omega)
  have g0 : (l.drop k).getD 0 0 = l.getD k 0 := by simp [List.getD, List.getElem?_drop]
  by_cases c1 : l.getD k 0 = c
  · ((first | with_reducible refine holds_of_ex X 400 _ _ _ ?_ | skip); simp (maxSteps := 1000000) only [push_cast, reduceCtorEq, Nat.reduceAdd, Nat.reduceMul, Nat.reduceSub, Nat.reduceBEq, Nat.reduceGT, Nat.reduceLT, Int.toNat_zero, Nat.reduceLeDiff, Int.reduceEq, Int.reduceLT, Int.reduceLE, hP, hΓ, hL, hfin, d0, g0, c1])
    refine ⟨by omega, by omega, ⟨k + 1, c0, by rw [trimL_step c l k c0 c1]; exact hg⟩, by simp only; omega, ?_⟩
    have e : (List.take (l.length - k) (List.drop k l)).drop (Int.toNat 1) = l.drop (k + 1) := by
      rw [List.take_of_length_le (by rw [List.length_drop]; exact Nat.le_refl _), List.drop_drop]; rfl
    rw [e]
    exact Into.sameA
  · have d1 : decide (((l.getD k 0).toNat : Int) = (c.toNat : Int)) = false := decide_eq_false (fun h => c1 (UInt8.toNat_inj.1 (by omega)))
    ((first | with_reducible refine holds_of_ex X 400 _ _ _ ?_ | skip); simp (maxSteps := 1000000) only [push_cast, reduceCtorEq, Nat.reduceAdd, Nat.reduceMul, Nat.reduceSub, Nat.reduceBEq, Nat.reduceGT, Nat.reduceLT, Int.toNat_zero, Nat.reduceLeDiff, Int.reduceEq, Int.reduceLT, Int.reduceLE, hP, hΓ, hL, hfin, d0, g0, d1])
    refine ⟨by omega, ?_⟩
    rw [← hg, trimL_end c l k c0 c1]
    exact Into.sameA
theorem con165 {Γ : Env} (h : EnvOk Tryz.prog Γ)  : Con Tryz.prog 165 S165 :=
  funS_con h (fn := Tryz.f165) (by kernel_rfl) rfl (by kernel_rfl) inj165 (by first | (intro h; cases h; done) | exact fun _ _ => rfl) fun ⟨l, c⟩ h => body165 Γ l c h
def e166 : (List UInt8) × (UInt8) → List AV := fun (l, c) => [.str l, .int .u8 c.toNat]
def p166 : (List UInt8) × (UInt8) → Prop := fun (l, c) => l.length ≤ 4194304
def r166 : (List UInt8) × (UInt8) → AV := fun (l, c) => .str (trimR c l)
def g166 : (List UInt8) × (UInt8) → Heap := fun (l, c) => []
theorem inj166 : ∀ a b, e166 a = e166 b → a = b := by
  rintro ⟨l, c⟩ ⟨l', c'⟩ h
  simp only [e166, mi_iff, ms_iff, mb_iff, my_iff, UInt8.toNat_inj, avinj, List.cons.injEq] at h
  simp_all only
noncomputable def S166 : FSpec := funS e166 p166 r166 g166 true
theorem ps166 (l : (List UInt8)) (c : (UInt8)) : psel e166 p166 [.str l, .int .u8 c.toNat] = (l.length ≤ 4194304) := psel_at inj166 p166 (l, c)
theorem rs166 (l : (List UInt8)) (c : (UInt8)) : rsel e166 r166 .any [.str l, .int .u8 c.toNat] = (.str (trimR c l)) := rsel_at inj166 r166 .any (l, c)
theorem hs166 (l : (List UInt8)) (c : (UInt8)) : rsel e166 g166 [] [.str l, .int .u8 c.toNat] = ([]) := rsel_at inj166 g166 [] (l, c)
attribute [push_cast] S166 ps166 rs166 hs166
theorem body166 (Γ : Env) (l : List UInt8) (c : UInt8) (hl : l.length ≤ 4194304) : BodyOk Tryz.prog Γ Tryz.f166 [.str l, .int .u8 c.toNat] [] (.str (trimR c l)) [] := by
  (intro X hP hΓ hL hfin; refine ⟨_, rfl, ?_⟩; rw [show Tryz.f166.ntmps = 23 from rfl]; rw [show Tryz.f166.results.toList = [.tmp 4] from rfl] at hfin; apply holds_of_ex X 400; simp (maxSteps := 1000000) only [push_cast, reduceCtorEq, Nat.reduceAdd, Nat.reduceMul, Nat.reduceSub, Nat.reduceBEq, Nat.reduceGT, Nat.reduceLT, Int.toNat_zero, Nat.reduceLeDiff, Int.reduceEq, Int.reduceLT, Int.reduceLE, hP, hΓ, hL, hfin, ])
  refine Holds.loopM (ι := {k : Nat // k ≤ l.length ∧ trimR c (l.take k) = trimR c l}) [ff,tt,ff,ff,tt,ff,ff,ff,ff,ff,ff,ff,ff,ff,ff,ff,ff,ff,ff,ff,ff,ff,ff] (fun i => [(0, .str (l.take i.1))]) (fun i => []) (fun i => i.1) ⟨l.length, Nat.le_refl _, by rw [List.take_length]⟩ ?_ ?_
  · rw [hL, List.take_length]
    exact Into.sameA
  rintro ⟨k, hk, hg⟩
  cases k with
  | zero =>
    have e : l.take 0 = [] := List.take_zero
    rw [e] at hg
    ((first | with_reducible refine holds_of_ex X 400 _ _ _ ?_ | skip); simp (maxSteps := 1000000) only [push_cast, reduceCtorEq, Nat.reduceAdd, Nat.reduceMul, Nat.reduceSub, Nat.reduceBEq, Nat.reduceGT, Nat.reduceLT, Int.toNat_zero, Nat.reduceLeDiff, Int.reduceEq, Int.reduceLT, Int.reduceLE, hP, hΓ, hL, hfin, e])
    rw [← hg]
    exact Into.sameA
  | succ k =>
  have hm : (l.take (k + 1)).length = k + 1 := by rw [List.length_take]; omega
  have d0 : decide ((0 : Int) < (k : Int) + 1) = true := decide_eq_true (by omega)
  have g0 : (l.take (k + 1)).getD k 0 = l.getD k 0 := by simp [List.getD, List.getElem?_take]
  have w1 : IntKind.i64.wrap ((k : Int) + 1 - 1) = (k : Int) := by rw [wr_i64 _ (by constructor <;> omega)]; omega
  have hmn : min (k + 1) l.length = k + 1 := by omega
  by_cases c1 : l.getD k 0 = c
  · ((first | with_reducible refine holds_of_ex X 400 _ _ _ ?_ | skip); simp (maxSteps := 1000000) only [push_cast, reduceCtorEq, Nat.reduceAdd, Nat.reduceMul, Nat.reduceSub, Nat.reduceBEq, Nat.reduceGT, Nat.reduceLT, Int.toNat_zero, Nat.reduceLeDiff, Int.reduceEq, Int.reduceLT, Int.reduceLE, hP, hΓ, hL, hfin, hmn, d0, w1, g0, c1])
    refine ⟨by omega, by omega, ⟨k, by omega, by rw [← trimR_step c l k (by omega) c1]; exact hg⟩, by simp only; omega, ?_⟩
    have e : List.take k (List.take (k + 1) l) = l.take k := by rw [List.take_take, Nat.min_eq_left (by omega)]
    rw [e]
    exact Into.sameA
  · have d1 : decide (((l.getD k 0).toNat : Int) = (c.toNat : Int)) = false := decide_eq_false (fun h => c1 (UInt8.toNat_inj.1 (by omega)))
    ((first | with_reducible refine holds_of_ex X 400 _ _ _ ?_ | skip); simp (maxSteps := 1000000) only [push_cast, reduceCtorEq, Nat.reduceAdd, Nat.reduceMul, Nat.reduceSub, Nat.reduceBEq, Nat.reduceGT, Nat.reduceLT, Int.toNat_zero, Nat.reduceLeDiff, Int.reduceEq, Int.reduceLT, Int.reduceLE, hP, hΓ, hL, hfin, hmn, d0, w1, g0, d1])
    refine ⟨by omega, ?_⟩
    rw [← hg, trimR_end c l k (by omega) c1]
    exact Into.sameA
theorem con166 {Γ : Env} (h : EnvOk Tryz.prog Γ)  : Con Tryz.prog 166 S166 :=
  funS_con h (fn := Tryz.f166) (by kernel_rfl) rfl (by kernel_rfl) inj166 (by first | (intro h; cases h; done) | exact fun _ _ => rfl) fun ⟨l, c⟩ h => body166 Γ l c h
theorem trimR_len (c : UInt8) (l : List UInt8) : (trimR c l).length ≤ l.length := by
  unfold trimR
  rw [List.length_reverse]
  exact Nat.le_trans (List.dropWhile_suffix _).length_le (by rw [List.length_reverse]; exact Nat.le_refl _)
def e157 : (List UInt8) × (UInt8) → List AV := fun (l, c) => [.str l, .str [c]]
def p157 : (List UInt8) × (UInt8) → Prop := fun (l, c) => l.length ≤ 4194304 ∧ c.toNat < 128
def r157 : (List UInt8) × (UInt8) → AV := fun (l, c) => .str (trimL c (trimR c l))
def g157 : (List UInt8) × (UInt8) → Heap := fun (l, c) => []
theorem inj157 : ∀ a b, e157 a = e157 b → a = b := by
  rintro ⟨l, c⟩ ⟨l', c'⟩ h
  simp only [e157, mi_iff, ms_iff, mb_iff, my_iff, UInt8.toNat_inj, avinj, List.cons.injEq] at h
  simp_all only
noncomputable def S157 : FSpec := funS e157 p157 r157 g157 true
theorem ps157 (l : (List UInt8)) (c : (UInt8)) : psel e157 p157 [.str l, .str [c]] = (l.length ≤ 4194304 ∧ c.toNat < 128) := psel_at inj157 p157 (l, c)
theorem rs157 (l : (List UInt8)) (c : (UInt8)) : rsel e157 r157 .any [.str l, .str [c]] = (.str (trimL c (trimR c l))) := rsel_at inj157 r157 .any (l, c)
theorem hs157 (l : (List UInt8)) (c : (UInt8)) : rsel e157 g157 [] [.str l, .str [c]] = ([]) := rsel_at inj157 g157 [] (l, c)
attribute [push_cast] S157 ps157 rs157 hs157
theorem body157 (Γ : Env) (h165 : Γ 165 = some S165) (h166 : Γ 166 = some S166) (l : List UInt8) (c : UInt8) (hl : l.length ≤ 4194304) (hc : c.toNat < 128) : BodyOk Tryz.prog Γ Tryz.f157 [.str l, .str [c]] [] (.str (trimL c (trimR c l))) [] := by
  have hc' : decide ((c.toNat : Int) < 128) = true := decide_eq_true (by omega)
  have hr := trimR_len c l
  by_cases hn : l = []
  · subst hn
    have e : trimL c (trimR c []) = [] := rfl
    rw [e]
    (intro X hP hΓ hL hfin; refine ⟨_, rfl, ?_⟩; rw [show Tryz.f157.ntmps = 43 from rfl]; rw [show Tryz.f157.results.toList = [.tmp 4] from rfl] at hfin; apply holds_of_ex X 400; simp (maxSteps := 1000000) only [push_cast, reduceCtorEq, Nat.reduceAdd, Nat.reduceMul, Nat.reduceSub, Nat.reduceBEq, Nat.reduceGT, Nat.reduceLT, Int.toNat_zero, Nat.reduceLeDiff, Int.reduceEq, Int.reduceLT, Int.reduceLE, hP, hΓ, hL, hfin, h165, h166, hc'])
    exact Into.sameA
  have hb : (l == ([] : List UInt8)) = false := by simpa using hn
  (intro X hP hΓ hL hfin; refine ⟨_, rfl, ?_⟩; rw [show Tryz.f157.ntmps = 43 from rfl]; rw [show Tryz.f157.results.toList = [.tmp 4] from rfl] at hfin; apply holds_of_ex X 400; simp (maxSteps := 1000000) only [push_cast, reduceCtorEq, Nat.reduceAdd, Nat.reduceMul, Nat.reduceSub, Nat.reduceBEq, Nat.reduceGT, Nat.reduceLT, Int.toNat_zero, Nat.reduceLeDiff, Int.reduceEq, Int.reduceLT, Int.reduceLE, hP, hΓ, hL, hfin, h165, h166, hc', hb])
  refine ⟨by omega, ?_⟩
  (refine Holds.drawnQ smp (by kernel_rfl) ?_; simp (maxSteps := 1000000) only [push_cast, reduceCtorEq, Nat.reduceAdd, Nat.reduceMul, Nat.reduceSub, Nat.reduceBEq, Nat.reduceGT, Nat.reduceLT, Int.toNat_zero, Nat.reduceLeDiff, Int.reduceEq, Int.reduceLT, Int.reduceLE, hP, hΓ, hL, hfin, h165, h166])
  refine ⟨by omega, hl, by omega, by omega, ?_⟩
  exact Into.sameA
theorem con157 {Γ : Env} (h : EnvOk Tryz.prog Γ) (h165 : Γ 165 = some S165) (h166 : Γ 166 = some S166) : Con Tryz.prog 157 S157 :=
  funS_con h (fn := Tryz.f157) (by kernel_rfl) rfl (by kernel_rfl) inj157 (by first | (intro h; cases h; done) | exact fun _ _ => rfl) fun ⟨l, c⟩ h => body157 Γ h165 h166 l c h.1 h.2
end Go.Proofs.YtbnnhffkbcekcaaGreatDoor.dirDone
end
section
namespace Go.Proofs.YtbnnhffkbcekcaaGreatDoor.dirDone
open Go Go.Eng Go.Proofs Go.Lib
structure Fl where
  nm : List UInt8
  hd : Int
  ln : Int
  se : List Int
  deriving Inhabited, DecidableEq
def flC (f : Fl) : List AV := [.str f.nm, .int .i64 f.hd, .int .i64 f.ln, .sl (f.se.map (AV.int .i64)) f.se.length]
instance : Width flC 4 := ⟨fun _ => rfl⟩
instance : PureC flC := ⟨fun x => by simp only [flC, pureL, pureA, pureL_map, Bool.and_self], fun x => rfl⟩
theorem fl_inj : ∀ {a b : List Fl}, a.flatMap flC = b.flatMap flC → a = b
  | [], [], _ => rfl
  | [], y :: b, h => by simp [flC] at h
  | x :: a, [], h => by simp [flC] at h
  | x :: a, y :: b, h => by
    simp only [List.flatMap_cons, flC, List.cons_append, List.nil_append, List.cons.injEq, AV.str.injEq, AV.int.injEq, true_and, AV.sl.injEq, mi_iff, Int.natCast_inj] at h
    obtain ⟨h1, h2, h3, ⟨h4, _⟩, h5⟩ := h
    obtain ⟨a1, a2, a3, a4⟩ := x
    obtain ⟨b1, b2, b3, b4⟩ := y
    simp only at h1 h2 h3 h4
    rw [fl_inj h5, h1, h2, h3, h4]
theorem fl_iff {a b : List Fl} : a.flatMap flC = b.flatMap flC ↔ a = b := ⟨fl_inj, fun h => by rw [h]⟩
def dirH (F : List Fl) (Lv U : List Int) (S : List Sec) (W : List Wr) : Heap := [.row [.ref 1 0 0, .msl 2 F.length 0 F.length, .msl 3 Lv.length 0 Lv.length, .msl 4 0 0 U.length] 4 0, .row [.msl 5 0 0 S.length, .msl 6 W.length 0 W.length] 2 0, .row (F.flatMap flC) 4 F.length, .row (Lv.map (AV.int .i64)) 1 Lv.length, .row (U.map (AV.int .i64)) 1 0, .row (S.flatMap secC) 1024 0, .row (W.flatMap wrC) 1025 W.length]
def e139 : (List UInt8) × (Int) → List AV × Heap := fun (b, n) => ([.sl (b.map byteAV) b.length, .int .i64 n], [])
def p139 : (List UInt8) × (Int) → Prop := fun (b, n) => True
def r139 : (List UInt8) × (Int) → AV := fun (b, n) => .fn (.func 155) [] [.ref 0 0 0, .ref 1 0 0]
def g139 : (List UInt8) × (Int) → Heap := fun (b, n) => [.row [.int .i64 n] 1 0, .row [.sl (b.map byteAV) b.length] 1 0]
theorem inj139 : ∀ a b, e139 a = e139 b → a = b := by
  rintro ⟨b, n⟩ ⟨b', n'⟩ h
  simp only [e139, mi_iff, ms_iff, mb_iff, my_iff, UInt8.toNat_inj, secs_iff, wrs_iff, fl_iff, dskH, dskK, dirH, avinj, List.cons.injEq] at h
  simp_all only
noncomputable def S139 : FSpec := heapE true e139 p139 r139 g139
theorem ps139 (b : (List UInt8)) (n : (Int)) : pselK e139 p139 ([.sl (b.map byteAV) b.length, .int .i64 n], []) = (True) := pselK_at inj139 p139 (b, n)
theorem rs139 (b : (List UInt8)) (n : (Int)) : rselK e139 r139 .any ([.sl (b.map byteAV) b.length, .int .i64 n], []) = (.fn (.func 155) [] [.ref 0 0 0, .ref 1 0 0]) := rselK_at inj139 r139 .any (b, n)
theorem hs139 (b : (List UInt8)) (n : (Int)) : rselK e139 g139 [] ([.sl (b.map byteAV) b.length, .int .i64 n], []) = ([.row [.int .i64 n] 1 0, .row [.sl (b.map byteAV) b.length] 1 0]) := rselK_at inj139 g139 [] (b, n)
attribute [push_cast] S139 ps139 rs139 hs139
theorem body139 (Γ : Env) (b : List UInt8) (n : Int) : BodyOk Tryz.prog Γ Tryz.f139 [.sl (b.map byteAV) b.length, .int .i64 n] [] (.fn (.func 155) [] [.ref 0 0 0, .ref 1 0 0]) [.row [.int .i64 n] 1 0, .row [.sl (b.map byteAV) b.length] 1 0] := by
  (intro X hP hΓ hL hfin; refine ⟨_, rfl, ?_⟩; rw [show Tryz.f139.ntmps = 6 from rfl]; rw [show Tryz.f139.results.toList = [.tmp 4] from rfl] at hfin; refine gxq0 ?_)
  exact IntoF.base [1, 0] ⟨sml, smr, (by decide), (by first | rfl | decide), sm, sm⟩ smd
theorem con139 {Γ : Env} (h : EnvOk Tryz.prog Γ)  : Con Tryz.prog 139 S139 :=
  heapE_con h (fn := Tryz.f139) (by kernel_rfl) rfl (by kernel_rfl) inj139 fun ⟨b, n⟩ _ => body139 Γ b n
def enB (b : List UInt8) (i : Nat) : List UInt8 := (b.drop (8 + 32 * i)).take 24
def enN (b : List UInt8) (i : Nat) : List UInt8 := cutB (enB b i) 0
def enR (b : List UInt8) (i : Nat) : List UInt8 := cutA (enB b i) 0
def enH (b : List UInt8) (i : Nat) : Int := getW b (4 * ((8 + 32 * i + 24) / 4))
def enL (b : List UInt8) (i : Nat) : Int := getW b (4 * ((8 + 32 * i + 24) / 4 + 1))
def enOk (b : List UInt8) (i : Nat) : Bool := isNm (enN b i) && (trimL 0 (trimR 0 (enR b i)) == [])
end Go.Proofs.YtbnnhffkbcekcaaGreatDoor.dirDone
end
