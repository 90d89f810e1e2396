/- DirNames: whatever the text, the two ways to say whether it is a name agree. No conditions. -/
import Derived.Test.YtkglmlfkcmpbbaaTy
import Derived.Test.YtkglmlfkcmpbbaaRows
import Derived.ProofKit
import Derived.OpenShut
import Derived.ShutString
import Derived.ChangeOld
namespace Go.Proofs.Ytkglmlfkcmpbbaa.dirNamesDone
open Go Go.Eng Go.Proofs
open Go.ChangeShapes Go.WideShapes Go.ChangeAt Go.RowKit
open Go.ChangeMaps (open_string shut_string)
set_option linter.unusedVariables false
set_option linter.unusedSimpArgs false
/-- may a name have this byte there? -/
def gd (first : Bool) (c : UInt8) : Bool := (97 ≤ c.toNat && c.toNat ≤ 122 || 65 ≤ c.toNat && c.toNat ≤ 90) || !first && (48 ≤ c.toNat && c.toNat ≤ 57 || c.toNat == 46 || c.toNat == 95)
def isNm (l : List UInt8) : Bool := decide ((∀ i < l.length, gd (decide (i = 0)) (l.getD i 0) = true) ∧ l ≠ [] ∧ l.length ≤ 23)
theorem isName_body (Γ : Env) (l : List UInt8) (hl : l.length ≤ 9223372036854775807) : BodyOk Try.prog Γ Try.f8 [.str l] [] (.bool (isNm l)) [] := by
  (intro X hP hΓ hL hfin; refine ⟨_, rfl, ?_⟩; rw [show Try.f8.ntmps = 52 from rfl]; rw [show Try.f8.results.toList = [.tmp 2] from rfl] at hfin; apply holds_of_ex X 400; simp only [push_cast, reduceCtorEq, hP, hΓ, hL, hfin])
  refine Holds.loop (ι := { k : Nat // k ≤ l.length ∧ ∀ i < k, gd (decide (i = 0)) (l.getD i 0) = true }) (fun k => ([.str l, .any, .any, .any, .any, .any, .any, .int .i64 l.length, .int .i64 k.1, .any, .any, .any, .any, .any, .any, .any, .any, .any, .any, .any, .any, .any, .any, .any, .any, .any, .any, .any, .any, .any, .any, .any, .any, .any, .any, .any, .any, .any, .any, .any, .any, .any, .any, .any, .any, .any, .any, .any, .any, .any, .any, .any], [])) (fun k => l.length - k.1) ⟨0, Nat.zero_le _, by simp⟩ ?_ ?_
  · rw [hL]; exact Into.flat (by simp [leF]) rfl
  rintro ⟨k, hk, hg⟩
  (apply holds_of_ex X 400; simp only [push_cast, reduceCtorEq, hP, hΓ, hL, hfin])
  refine ⟨fun h => ?_, fun h => ?_⟩
  · (apply holds_of_ex X 400; simp only [push_cast, reduceCtorEq, hP, hΓ, hL, hfin])
    have hk' : k < l.length := by simpa using h
    refine ⟨⟨by omega, by omega⟩, fun h => ?_, fun h => ?_⟩
    · (apply holds_of_ex X 400; simp only [push_cast, reduceCtorEq, hP, hΓ, hL, hfin])
      have hb : gd (decide (k = 0)) (l.getD k 0) = false := by
        rw [show decide ((k : Int) = 0) = decide (k = 0) by simp] at h
        generalize decide (k = 0) = b at h ⊢
        generalize l.getD k 0 = c at h ⊢
        rw [← Bool.not_eq_true']
        revert h; revert c
        cases b
        · refine byte_imp ?_; kernel_rfl
        · refine byte_imp ?_; kernel_rfl
      refine Into.one ?_ (by rfl)
      congr 1
      symm
      simp only [isNm, decide_eq_false_iff_not]
      intro hh
      rw [hh.1 k hk'] at hb; cases hb
    · (apply holds_of_ex X 400; simp only [push_cast, reduceCtorEq, hP, hΓ, hL, hfin])
      have hb : gd (decide (k = 0)) (l.getD k 0) = true := by
        rw [show decide ((k : Int) = 0) = decide (k = 0) by simp] at h
        generalize decide (k = 0) = b at h ⊢
        generalize l.getD k 0 = c at h ⊢
        rw [← Bool.not_eq_true'] at h
        revert h; revert c
        cases b
        · refine byte_imp ?_; kernel_rfl
        · refine byte_imp ?_; kernel_rfl
      rw [wrap_i64 _ (by omega)]
      refine ⟨⟨k + 1, hk', fun i hi => ?_⟩, by simp only; omega, Into.flat (by simp [leF]) rfl⟩
      rcases Nat.lt_succ_iff_lt_or_eq.1 hi with h' | rfl
      · exact hg i h'
      · exact hb
  · (apply holds_of_ex X 400; simp only [push_cast, reduceCtorEq, hP, hΓ, hL, hfin])
    refine Into.one ?_ (by rfl)
    congr 1
    have hk' : k = l.length := by have := (decide_eq_false_iff_not.1 h); omega
    subst hk'
    rw [Bool.eq_iff_iff]
    simp only [isNm, decide_eq_true_eq, Bool.and_eq_true, Bool.not_eq_true', beq_eq_false_iff_ne]
    constructor
    · rintro ⟨h1, h2⟩; exact ⟨hg, h1, by omega⟩
    · rintro ⟨_, h1, h2⟩; exact ⟨h1, by omega⟩
theorem isName_ref (Γ : Env) (l : List UInt8) (hl : l.length ≤ 9223372036854775807) : BodyOk Try.prog Γ Try.f9 [.str l] [] (.bool (isNm l)) [] := by
  (intro X hP hΓ hL hfin; refine ⟨_, rfl, ?_⟩; rw [show Try.f9.ntmps = 61 from rfl]; rw [show Try.f9.results.toList = [.tmp 2] from rfl] at hfin; apply holds_of_ex X 400; simp only [push_cast, reduceCtorEq, hP, hΓ, hL, hfin])
  refine ⟨fun h => ?_, fun h => ?_⟩
  · (apply holds_of_ex X 400; simp only [push_cast, reduceCtorEq, hP, hΓ, hL, hfin])
    refine Into.one ?_ (by rfl)
    congr 1
    symm
    simp only [isNm, decide_eq_false_iff_not]
    rintro ⟨_, h1, h2⟩
    simp [h1] at h; omega
  (apply holds_of_ex X 400; simp only [push_cast, reduceCtorEq, hP, hΓ, hL, hfin])
  have hs : l ≠ [] ∧ l.length ≤ 23 := by simp at h; exact ⟨h.1, by omega⟩
  refine Holds.loop (ι := { k : Nat // k ≤ l.length ∧ ∀ i < k, gd (decide (i = 0)) (l.getD i 0) = true }) (fun k => ([.str l, .any, .any, .int .i64 k.1, .any, .any, .any, .any, .any, .any, .any, .any, .any, .any, .any, .any, .any, .any, .any, .any, .any, .any, .any, .any, .any, .any, .any, .any, .any, .any, .any, .any, .any, .any, .any, .any, .any, .any, .any, .any, .any, .any, .any, .any, .any, .any, .any, .any, .any, .any, .any, .any, .any, .any, .any, .any, .any, .any, .any, .any, .any], [])) (fun k => l.length - k.1) ⟨0, Nat.zero_le _, by simp⟩ ?_ ?_
  · rw [hL]; exact Into.flat (by simp [leF]) rfl
  rintro ⟨k, hk, hg⟩
  (apply holds_of_ex X 400; simp only [push_cast, reduceCtorEq, hP, hΓ, hL, hfin])
  refine ⟨fun h => ?_, fun h => ?_⟩
  · (apply holds_of_ex X 400; simp only [push_cast, reduceCtorEq, hP, hΓ, hL, hfin])
    have hk' : k < l.length := by simpa using h
    refine ⟨⟨by omega, by omega⟩, fun h => ?_, fun h => ?_⟩
    · (apply holds_of_ex X 400; simp only [push_cast, reduceCtorEq, hP, hΓ, hL, hfin])
      have hb : gd (decide (k = 0)) (l.getD k 0) = false := by
        rw [show decide ((k : Int) = 0) = decide (k = 0) by simp] at h
        generalize decide (k = 0) = b at h ⊢
        generalize l.getD k 0 = c at h ⊢
        rw [← Bool.not_eq_true']
        revert h; revert c
        cases b
        · refine byte_imp ?_; kernel_rfl
        · refine byte_imp ?_; kernel_rfl
      refine Into.one ?_ (by rfl)
      congr 1
      symm
      simp only [isNm, decide_eq_false_iff_not]
      intro hh
      rw [hh.1 k hk'] at hb; cases hb
    · (apply holds_of_ex X 400; simp only [push_cast, reduceCtorEq, hP, hΓ, hL, hfin])
      have hb : gd (decide (k = 0)) (l.getD k 0) = true := by
        rw [show decide ((k : Int) = 0) = decide (k = 0) by simp] at h
        generalize decide (k = 0) = b at h ⊢
        generalize l.getD k 0 = c at h ⊢
        rw [← Bool.not_eq_true'] at h
        revert h; revert c
        cases b
        · refine byte_imp ?_; kernel_rfl
        · refine byte_imp ?_; kernel_rfl
      rw [wrap_i64 _ (by omega)]
      refine ⟨⟨k + 1, hk', fun i hi => ?_⟩, by simp only; omega, Into.flat (by simp [leF]) rfl⟩
      rcases Nat.lt_succ_iff_lt_or_eq.1 hi with h' | rfl
      · exact hg i h'
      · exact hb
  · (apply holds_of_ex X 400; simp only [push_cast, reduceCtorEq, hP, hΓ, hL, hfin])
    refine Into.one ?_ (by rfl)
    congr 1
    have hk' : k = l.length := by have := (decide_eq_false_iff_not.1 h); omega
    subst hk'
    symm
    simp only [isNm, decide_eq_true_eq]
    exact ⟨hg, hs⟩
def isNmS : FSpec := lift0 (fun xs => match xs with | [.str l] => l.length ≤ 9223372036854775807 | _ => False) (fun xs => match xs with | [.str l] => .bool (isNm l) | _ => .any) (fun _ => []) true
attribute [local push_cast] isNmS
theorem con8 {Γ : Env} (h : EnvOk Try.prog Γ) : Con Try.prog 8 isNmS := by
  refine Con.of_body h (fn := Try.f8) rfl rfl (by kernel_rfl) (fun _ _ => rfl) fun xs hx => ?_
  split at hx
  · exact isName_body Γ _ hx
  · exact hx.elim
theorem con9 {Γ : Env} (h : EnvOk Try.prog Γ) : Con Try.prog 9 isNmS := by
  refine Con.of_body h (fn := Try.f9) rfl rfl (by kernel_rfl) (fun _ _ => rfl) fun xs hx => ?_
  split at hx
  · exact isName_ref Γ _ hx
  · exact hx.elim
def env : Env := fun f => if f = 8 ∨ f = 9 then some isNmS else none
theorem env_ok : EnvOk Try.prog env := by
  intro f sp h
  have hn : EnvOk Try.prog (fun _ => none) := fun _ _ h => by cases h
  simp only [env] at h
  split at h
  · rename_i hf
    obtain rfl := Option.some.inj h
    rcases hf with rfl | rfl
    · exact con8 hn
    · exact con9 hn
  · cases h
theorem e8 : env 8 = some isNmS := rfl
theorem e9 : env 9 = some isNmS := rfl
attribute [local push_cast] e8 e9
theorem law_body (l : List UInt8) (hl : l.length ≤ 9223372036854775807) : BodyOk Try.prog env Try.f3 [.str l] [] (.bool true) [] := by
  (intro X hP hΓ hL hfin; refine ⟨_, rfl, ?_⟩; rw [show Try.f3.ntmps = 15 from rfl]; rw [show Try.f3.results.toList = [.tmp 2] from rfl] at hfin; apply holds_of_ex X 400; simp only [push_cast, reduceCtorEq, hP, hΓ, hL, hfin])
  refine ⟨by omega, hl, fun _ => hl, Into.one ?_ (by rfl)⟩
  kernel_rfl

theorem own : ownKnob Try.prog.godebug = none := by kernel_rfl
theorem laidOut : laidOutB Try.prog = true := by kernel_rfl
theorem walk (a0 : ByteArray) (w : World) (h0 : a0.size ≤ maxLen) : Calls Try.prog 3 #[.string a0] w fun e w' => e = .returned (.bool true) ∧ Below w.heap.size w w' :=
  law_of_body env_ok (f := 3) (fn := Try.f3) (xs := [.str a0.data.toList]) (vs := [.string a0]) (m := ⟨fun g o => w.cell? ⟨g, o, none⟩, fun _ => 0, fun _ => 0⟩) rfl (fun _ _ _ h => h) (CRel.cons (by simp [VRel]) (CRel.nil _ _)) (law_body _ (by simpa [maxLen] using h0))

set_option maxRecDepth 100000 in
theorem lifted (os : Os) (started : os.Started) (H : Type) (enc : TypeId × Value → H) :
    ReturnsInHanded {} Try.checked os 3 .any (Rows.dirNamesSpec.pre6 enc Try.prog Try.f3 Rows.dirNamesRow.domain false) (Rows.dirNamesSpec.post enc Try.prog Try.f3 false true false false) := by
  refine returnsInHanded_of_change (C := Try.checked) own started (by kernel_rfl) Try.func3
    (ChangeSpec.witness6 (enc := enc) (C := Try.checked) false ⟨#[], #[.string ⟨#[]⟩], []⟩ 8 (by kernel_rfl) (by kernel_rfl) (by kernel_rfl) (by kernel_rfl)) ?_
  intro W base args ds gs before hval0 hW hcnd _
  have hval : ∀ (j : Nat) t v, Try.f3.params[j]? = some t → args[j]? = some v → Value.okWide Try.prog W .any base t v := hval0
  have hW' := hW
  obtain ⟨p, q, hA0, hV, rfl, hfz, hnd⟩ := hW
  have hA : DataW.TrodAll enc Try.prog W 0 (fun _ => true) true Try.f3.params.toList args.toList ds p := hA0
  rw [Try.params3] at hA hval
  obtain ⟨v0, vs0, d0, ds0, p0, q0, hargs, rfl, rfl, h0, r0⟩ := trodAll_cons hA
  obtain ⟨rfl, rfl, rfl⟩ := trodAll_nil r0
  obtain rfl : args = #[v0] := by cases args; simp_all
  obtain ⟨rfl, rfl⟩ := trodVars_none hV
  obtain ⟨a0, rfl, rfl, rfl, w0⟩ := open_string Try.underlying9 (hval 0 9 v0 rfl rfl) h0
  clear hA0 hval0
  refine (walk a0 W w0).mono fun e W' ⟨he, bel⟩ => ?_
  subst he
  exact ⟨_, rfl, _, _, _, [], _, [], hW', trodAll_mk1 (shut_bool Try.underlying4 _), (trodAll_cons_mk (shut_string Try.underlying9 w0) trodAll_mk0), rfl, bel.frame _, fun h => by cases h⟩

theorem over : Rows.dirNamesRow.holds Try.pinned (OpenSpec.ofChange Rows.dirNamesSpec) :=
  OpenClaim.holds_of_wide 3 Try.f3 rfl rfl rfl rfl rfl rfl rfl ⟨rfl, rfl, rfl, rfl, rfl⟩ rfl rfl rfl rfl rfl (by kernel_rfl) Try.func3 (by kernel_rfl)
    (of_decide_eq_true (by kernel_rfl)) (by unfold Func.isWrapper; first | (rw [if_pos (by decide +kernel)]; kernel_rfl) | (rw [if_neg (by decide +kernel)]; exact ⟨rfl, rfl⟩))
    (fun os started H enc _ => lifted os started H enc)

theorem proved : Rows.DirNamesSaid := over

end Go.Proofs.Ytkglmlfkcmpbbaa.dirNamesDone
