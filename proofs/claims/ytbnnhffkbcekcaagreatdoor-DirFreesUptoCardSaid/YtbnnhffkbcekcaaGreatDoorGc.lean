/- Of directories: names; texts cut and trimmed at a letter. Conditions stand in each. Of directories: letters trimmed off a text's ends. Conditions stand in each. Of directories: a leaf read. Conditions stand in each. -/
import Derived.Test.YtbnnhffkbcekcaaGreatDoorGb
import Derived.Test.YtbnnhffkbcekcaaGreatDoorFg
import Derived.Lib.IndexLaws
set_option linter.unusedVariables false
set_option linter.unusedSimpArgs false
set_option maxRecDepth 100000
set_option maxHeartbeats 4000000
section
namespace Go.Proofs.YtbnnhffkbcekcaaGreatDoor.dirDone
open Go Go.Eng Go.Proofs Go.Lib
def gd (first : Bool) (c : UInt8) : Bool := (97 ≤ c.toNat && c.toNat ≤ 122 || 65 ≤ c.toNat && c.toNat ≤ 90) || !first && (48 ≤ c.toNat && c.toNat ≤ 57 || c.toNat == 46 || c.toNat == 95)
def Z3E (l : List UInt8) : Bool := decide ((∀ i < l.length, gd (decide (i = 0)) (l.getD i 0) = true) ∧ l ≠ [] ∧ l.length ≤ 23)
def e56 : (List UInt8) → List AV := fun l => [.str l]
def p56 : (List UInt8) → Prop := fun l => l.length ≤ 9223372036854775807
def r56 : (List UInt8) → AV := fun l => .bool (Z3E l)
def g56 : (List UInt8) → Z01 := fun l => []
theorem inj56 : ∀ a b, e56 a = e56 b → a = b := by
 rintro l l' h
 simp only [e56, Z0g, Z0i, Z0k, Z0j, UInt8.toNat_inj, Z0z, List.cons.injEq] at h
 simp_all only
noncomputable def S56 : Z0n := Z5J e56 p56 r56 g56 true
theorem ps56 (l : (List UInt8)) : Z5I e56 p56 [.str l] = (l.length ≤ 9223372036854775807) := Z11 inj56 p56 l
theorem rs56 (l : (List UInt8)) : Z2m e56 r56 .any [.str l] = (.bool (Z3E l)) := Z0u inj56 r56 .any l
theorem hs56 (l : (List UInt8)) : Z2m e56 g56 [] [.str l] = ([]) := Z0u inj56 g56 [] l
attribute [push_cast] S56 ps56 rs56 hs56
theorem Z9D (Γ : Env) (l : List UInt8) (hl : l.length ≤ 9223372036854775807) : Z09 Tryz.prog Γ Tryz.f56 [.str l] [] (.bool (Z3E l)) [] := by
 refine stt 52 [.tmp 2] fun X hP hΓ hL hfin => ?_; refine Z0F ?_
 refine Z02.loop (ι := { k : Nat // k ≤ l.length ∧ ∀ i < k, gd (decide (i = 0)) (l.getD i 0) = true }) (fun k => ([.str l, .any, .any, .any, .any, .any, .any, .int .i64 l.length, .int .i64 k.1, .any, .any, .any, .any, .any, .any, .any, .any, .any, .any, .any, .any, .any, .any, .any, .any, .any, .any, .any, .any, .any, .any, .any, .any, .any, .any, .any, .any, .any, .any, .any, .any, .any, .any, .any, .any, .any, .any, .any, .any, .any, .any, .any], [])) (fun k => l.length - k.1) ⟨0, Nat.zero_le _, by simp⟩ ?_ ?_
 ·rw [hL]; exact Z08.flat (by simp [leF]) rfl
 rintro ⟨k, hk, hg⟩
 refine Z0F ?_
 refine Z0w (fun h => ?_) (fun h => ?_)
 ·refine Z0F ?_
  have hk' : k < l.length := by simpa using h
  refine ⟨by omega, Z0w (fun h => ?_) (fun h => ?_)⟩
  ·refine Z0F ?_
   have hb : gd (decide (k = 0)) (l.getD k 0) = false := by
    rw [show decide ((k : Int) = 0) = decide (k = 0) by simp] at h
    generalize decide (k = 0) = b at h ⊢
    generalize l.getD k 0 = c at h ⊢
    rw [← Bool.not_eq_true']
    revert h; revert c
    cases b
    ·refine Z2P ?_; kernel_rfl
    ·refine Z2P ?_; kernel_rfl
   refine Z08.one ?_ (by rfl)
   congr 1
   symm
   simp only [Z3E, decide_eq_false_iff_not]
   intro hh
   rw [hh.1 k hk'] at hb; cases hb
  ·refine Z0F ?_
   have hb : gd (decide (k = 0)) (l.getD k 0) = true := by
    rw [show decide ((k : Int) = 0) = decide (k = 0) by simp] at h
    generalize decide (k = 0) = b at h ⊢
    generalize l.getD k 0 = c at h ⊢
    rw [← Bool.not_eq_true'] at h
    revert h; revert c
    cases b
    ·refine Z2P ?_; kernel_rfl
    ·refine Z2P ?_; kernel_rfl
   rw [Za0 _ (by omega)]
   refine ⟨⟨k + 1, hk', fun i hi => ?_⟩, by simp only; omega, Z08.flat (by simp [leF]) rfl⟩
   rcases Nat.lt_succ_iff_lt_or_eq.1 hi with h' | rfl
   ·exact hg i h'
   ·exact hb
 ·refine Z0F ?_
  refine Z08.one ?_ (by rfl)
  congr 1
  have hk' : k = l.length := by have := (decide_eq_false_iff_not.1 h); omega
  subst hk'
  rw [Bool.eq_iff_iff]
  simp only [Z3E, decide_eq_true_eq, Bool.and_eq_true, Bool.not_eq_true', beq_eq_false_iff_ne]
  constructor
  ·rintro ⟨h1, h2⟩; exact ⟨hg, h1, by omega⟩
  ·rintro ⟨_, h1, h2⟩; exact ⟨h1, by omega⟩
theorem con56 {Γ : Env} (h : Z03 Tryz.prog Γ)  : Con Tryz.prog 56 S56 :=
 Z0V h (fn := Tryz.f56) (by kernel_rfl) rfl (by kernel_rfl) inj56 (by first | (intro h; cases h; done) | exact fun _ _ => rfl) fun l h => Z9D Γ l h
def ZkT : (List UInt8) → List AV := fun l => [.str l]
def p109 : (List UInt8) → Prop := fun l => l.length ≤ 9223372036854775807
def Zoo : (List UInt8) → AV := fun l => .bool (Z3E l)
def ZpK : (List UInt8) → Z01 := fun l => []
theorem inj109 : ∀ a b, ZkT a = ZkT b → a = b := by
 rintro l l' h
 simp only [ZkT, Z0g, Z0i, Z0k, Z0j, UInt8.toNat_inj, Z0z, List.cons.injEq] at h
 simp_all only
noncomputable def S109 : Z0n := Z5J ZkT p109 Zoo ZpK true
theorem ZoD (l : (List UInt8)) : Z5I ZkT p109 [.str l] = (l.length ≤ 9223372036854775807) := Z11 inj109 p109 l
theorem Zo4 (l : (List UInt8)) : Z2m ZkT Zoo .any [.str l] = (.bool (Z3E l)) := Z0u inj109 Zoo .any l
theorem Zpq (l : (List UInt8)) : Z2m ZkT ZpK [] [.str l] = ([]) := Z0u inj109 ZpK [] l
attribute [push_cast] S109 ZoD Zo4 Zpq
theorem Zbw (Γ : Env) (l : List UInt8) (hl : l.length ≤ 9223372036854775807) : Z09 Tryz.prog Γ Tryz.f109 [.str l] [] (.bool (Z3E l)) [] := by
 refine stt 61 [.tmp 2] fun X hP hΓ hL hfin => ?_; refine Z0F ?_
 refine Z0w (fun h => ?_) (fun h => ?_)
 ·refine Z0F ?_
  refine Z08.one ?_ (by rfl)
  congr 1
  symm
  simp only [Z3E, decide_eq_false_iff_not]
  rintro ⟨_, h1, h2⟩
  simp [h1] at h; omega
 refine Z0F ?_
 have hs : l ≠ [] ∧ l.length ≤ 23 := by simp at h; exact ⟨h.1, by omega⟩
 refine Z02.loop (ι := { k : Nat // k ≤ l.length ∧ ∀ i < k, gd (decide (i = 0)) (l.getD i 0) = true }) (fun k => ([.str l, .any, .any, .int .i64 k.1, .any, .any, .any, .any, .any, .any, .any, .any, .any, .any, .any, .any, .any, .any, .any, .any, .any, .any, .any, .any, .any, .any, .any, .any, .any, .any, .any, .any, .any, .any, .any, .any, .any, .any, .any, .any, .any, .any, .any, .any, .any, .any, .any, .any, .any, .any, .any, .any, .any, .any, .any, .any, .any, .any, .any, .any, .any], [])) (fun k => l.length - k.1) ⟨0, Nat.zero_le _, by simp⟩ ?_ ?_
 ·rw [hL]; exact Z08.flat (by simp [leF]) rfl
 rintro ⟨k, hk, hg⟩
 refine Z0F ?_
 refine Z0w (fun h => ?_) (fun h => ?_)
 ·refine Z0F ?_
  have hk' : k < l.length := by simpa using h
  refine ⟨by omega, Z0w (fun h => ?_) (fun h => ?_)⟩
  ·refine Z0F ?_
   have hb : gd (decide (k = 0)) (l.getD k 0) = false := by
    rw [show decide ((k : Int) = 0) = decide (k = 0) by simp] at h
    generalize decide (k = 0) = b at h ⊢
    generalize l.getD k 0 = c at h ⊢
    rw [← Bool.not_eq_true']
    revert h; revert c
    cases b
    ·refine Z2P ?_; kernel_rfl
    ·refine Z2P ?_; kernel_rfl
   refine Z08.one ?_ (by rfl)
   congr 1
   symm
   simp only [Z3E, decide_eq_false_iff_not]
   intro hh
   rw [hh.1 k hk'] at hb; cases hb
  ·refine Z0F ?_
   have hb : gd (decide (k = 0)) (l.getD k 0) = true := by
    rw [show decide ((k : Int) = 0) = decide (k = 0) by simp] at h
    generalize decide (k = 0) = b at h ⊢
    generalize l.getD k 0 = c at h ⊢
    rw [← Bool.not_eq_true'] at h
    revert h; revert c
    cases b
    ·refine Z2P ?_; kernel_rfl
    ·refine Z2P ?_; kernel_rfl
   rw [Za0 _ (by omega)]
   refine ⟨⟨k + 1, hk', fun i hi => ?_⟩, by simp only; omega, Z08.flat (by simp [leF]) rfl⟩
   rcases Nat.lt_succ_iff_lt_or_eq.1 hi with h' | rfl
   ·exact hg i h'
   ·exact hb
 ·refine Z0F ?_
  refine Z08.one ?_ (by rfl)
  congr 1
  have hk' : k = l.length := by have := (decide_eq_false_iff_not.1 h); omega
  subst hk'
  symm
  simp only [Z3E, decide_eq_true_eq]
  exact ⟨hg, hs⟩
theorem con109 {Γ : Env} (h : Z03 Tryz.prog Γ)  : Con Tryz.prog 109 S109 :=
 Z0V h (fn := Tryz.f109) (by kernel_rfl) rfl (by kernel_rfl) inj109 (by first | (intro h; cases h; done) | exact fun _ _ => rfl) fun l h => Zbw Γ l h
def Zmd (xs : List AV) : Prop := match xs with
 | [.str l, .int .u8 n] => (∃ c : UInt8, n = c.toNat) ∧ l.length ≤ 4194304
 | _ => False
def ixR (xs : List AV) : AV := match xs with
 | [.str l, .int _ n] => .int .i64 (indexByte l n.toNat.toUInt8)
 | _ => .any
def ixS : Z0n := Z6c Zmd ixR (fun _ => []) true
theorem one0 : decide ((0 : Int) + 1 = 0) = false := by decide
theorem one1 : decide ((0 : Int) + 1 = 1) = true := by decide
theorem oneN (c : UInt8) : ([c] == ([] : List UInt8)) = false := rfl
theorem ZgN (c : UInt8) : c.toNat.toUInt8 = c := by simp
attribute [push_cast] one0 one1 oneN Zmd ixR ixS ZgN
theorem con185 : Con Tryz.prog 185 ixS := by
 refine Con.ofExt (fun xs hx => ?_) fun m w xs vs hc hx => ?_
 ·unfold Zmd at hx
  split at hx
  ·exact ⟨_, _, rfl⟩
  ·exact hx.elim
 ·unfold Zmd at hx
  split at hx
  ·rename_i l n
   simp only [Z0b, Z05] at hc
   obtain ⟨v1, vs, rfl, rfl, v2, vs, rfl, rfl, rfl⟩ := hc
   refine ⟨.int .i64 (indexByte l n.toNat.toUInt8), ?_, by simp [ixR, Z05]⟩
   rw [run_callFunc_extern Tryz.func185 (by kernel_rfl) (by kernel_rfl) (by kernel_rfl) (e := Extern.BytealgIndexByte.indexByte) (by kernel_rfl), Lib.run_indexByteString]
   rfl
  ·exact hx.elim
theorem Zla (Γ : Env) (h185 : Γ 185 = some ixS) (l : List UInt8) (c : UInt8) (hl : l.length ≤ 4194304) : Z09 Tryz.prog Γ Tryz.f178 [.str l, .int .u8 c.toNat] [] (.int .i64 (indexByte l c)) [] := by
 refine stt 8 [.tmp 4] fun X hP hΓ hL hfin => ?_; refine gxq h185 ?_
 exact ⟨⟨⟨c, rfl⟩, hl⟩, Z08.one rfl rfl⟩
theorem con178 {Γ : Env} (h : Z03 Tryz.prog Γ) (h185 : Γ 185 = some ixS) : Con Tryz.prog 178 ixS := by
 refine Con.of_body h (fn := Tryz.f178) (by kernel_rfl) rfl (by kernel_rfl) (fun _ _ => rfl) fun xs hx => ?_
 unfold Zmd at hx
 split at hx
 ·obtain ⟨⟨c, rfl⟩, hl⟩ := hx
  have := Zla Γ h185 _ c hl
  simpa [ixR] using this
 ·exact hx.elim
def ZkC : (List UInt8) × (UInt8) → List AV := fun (l, c) => [.str l, .str [c]]
def ZoH : (List UInt8) × (UInt8) → Prop := fun (l, c) => l.length ≤ 4194304
def Zo8 : (List UInt8) × (UInt8) → AV := fun (l, c) => .int .i64 (indexByte l c)
def Zpu : (List UInt8) × (UInt8) → Z01 := fun (l, c) => []
theorem inj173 : ∀ a b, ZkC a = ZkC b → a = b := by
 rintro ⟨l, c⟩ ⟨l', c'⟩ h
 simp only [ZkC, Z0g, Z0i, Z0k, Z0j, UInt8.toNat_inj, Z0z, List.cons.injEq] at h
 simp_all only
noncomputable def S173 : Z0n := Z5J ZkC ZoH Zo8 Zpu true
theorem Zor (l : (List UInt8)) (c : (UInt8)) : Z5I ZkC ZoH [.str l, .str [c]] = (l.length ≤ 4194304) := Z11 inj173 ZoH (l, c)
theorem ZnT (l : (List UInt8)) (c : (UInt8)) : Z2m ZkC Zo8 .any [.str l, .str [c]] = (.int .i64 (indexByte l c)) := Z0u inj173 Zo8 .any (l, c)
theorem Zpd (l : (List UInt8)) (c : (UInt8)) : Z2m ZkC Zpu [] [.str l, .str [c]] = ([]) := Z0u inj173 Zpu [] (l, c)
attribute [push_cast] S173 Zor ZnT Zpd
theorem ZjK (Γ : Env) (h178 : Γ 178 = some ixS) (l : List UInt8) (c : UInt8) (hl : l.length ≤ 4194304) : Z09 Tryz.prog Γ Tryz.f173 [.str l, .str [c]] [] (.int .i64 (indexByte l c)) [] := by
 refine stt 143 [.tmp 4] fun X hP hΓ hL hfin => ?_; refine gxq h178 ?_
 refine Z0w (fun h => ?_) (fun h => ?_)
 ·refine Z0F ?_
  have e : l = [c] := (eq_of_beq h).symm
  subst e
  exact Z08.one (by simp [indexByte]) rfl
 ·refine gxq h178 ?_
  exact ⟨by omega, ⟨⟨c, rfl⟩, hl⟩, Z08.one rfl rfl⟩
theorem con173 {Γ : Env} (h : Z03 Tryz.prog Γ) (h178 : Γ 178 = some ixS) : Con Tryz.prog 173 S173 :=
 Z0V h (fn := Tryz.f173) (by kernel_rfl) rfl (by kernel_rfl) inj173 (by first | (intro h; cases h; done) | exact fun _ _ => rfl) fun ⟨l, c⟩ h => ZjK Γ h178 l c h
def Z9Q (l : List UInt8) (c : UInt8) : List UInt8 := if indexByte l c < 0 then l else l.take (indexByte l c).toNat
def ZaV (l : List UInt8) (c : UInt8) : List UInt8 := if indexByte l c < 0 then [] else l.drop ((indexByte l c).toNat + 1)
def ZkF : (List UInt8) × (UInt8) → List AV := fun (l, c) => [.str l, .str [c]]
def ZoK : (List UInt8) × (UInt8) → Prop := fun (l, c) => l.length ≤ 4194304
def Zob : (List UInt8) × (UInt8) → AV := fun (l, c) => .tup [.str (Z9Q l c), .str (ZaV l c), .bool (decide (0 ≤ indexByte l c))]
def Zpx : (List UInt8) × (UInt8) → Z01 := fun (l, c) => []
theorem inj164 : ∀ a b, ZkF a = ZkF b → a = b := by
 rintro ⟨l, c⟩ ⟨l', c'⟩ h
 simp only [ZkF, Z0g, Z0i, Z0k, Z0j, UInt8.toNat_inj, Z0z, List.cons.injEq] at h
 simp_all only
noncomputable def S164 : Z0n := Z5J ZkF ZoK Zob Zpx true
theorem Zou (l : (List UInt8)) (c : (UInt8)) : Z5I ZkF ZoK [.str l, .str [c]] = (l.length ≤ 4194304) := Z11 inj164 ZoK (l, c)
theorem ZnW (l : (List UInt8)) (c : (UInt8)) : Z2m ZkF Zob .any [.str l, .str [c]] = (.tup [.str (Z9Q l c), .str (ZaV l c), .bool (decide (0 ≤ indexByte l c))]) := Z0u inj164 Zob .any (l, c)
theorem Zpg (l : (List UInt8)) (c : (UInt8)) : Z2m ZkF Zpx [] [.str l, .str [c]] = ([]) := Z0u inj164 Zpx [] (l, c)
attribute [push_cast] S164 Zou ZnW Zpg
theorem body164 (Γ : Env) (h173 : Γ 173 = some S173) (l : List UInt8) (c : UInt8) (hl : l.length ≤ 4194304) : Z09 Tryz.prog Γ Tryz.f164 [.str l, .str [c]] [] (.tup [.str (Z9Q l c), .str (ZaV l c), .bool (decide (0 ≤ indexByte l c))]) [] := by
 have hlt : indexByte l c < 0 ∨ ∃ k : Nat, indexByte l c = k ∧ k < l.length := by
  by_cases h : indexByte l c < 0
  ·exact .inl h
  ·obtain ⟨k, hk⟩ := Int.eq_ofNat_of_zero_le (show 0 ≤ indexByte l c by omega)
   have := (indexByte_some hk).1
   exact .inr ⟨k, hk, (List.getElem?_eq_some_iff.1 this).1⟩
 rcases hlt with h | ⟨k, hk, hkl⟩
 ·have d0 : decide (0 ≤ indexByte l c) = false := decide_eq_false (by omega)
  have e1 : Z9Q l c = l := by unfold Z9Q; rw [if_pos h]
  have e2 : ZaV l c = [] := by unfold ZaV; rw [if_pos h]
  rw [e1, e2, d0]
  refine stt 23 [.tmp 4, .tmp 5, .tmp 6] fun X hP hΓ hL hfin => ?_; refine gxq (cj2 h173 d0) ?_
  refine ⟨hl, ?_⟩
  exact Z08.sameA
 ·have e1 : Z9Q l c = l.take k := by unfold Z9Q; rw [hk, if_neg (by omega)]; rfl
  have e2 : ZaV l c = l.drop (k + 1) := by unfold ZaV; rw [hk, if_neg (by omega)]; rfl
  have d0 : decide ((0 : Int) ≤ (k : Int)) = true := decide_eq_true (by omega)
  have w1 : IntKind.i64.wrap ((k : Int) + (0 + 1)) = ((k + 1 : Nat) : Int) := by rw [Z07 _ (by constructor <;> omega)]; omega
  rw [e1, e2, hk, d0]
  refine stt 23 [.tmp 4, .tmp 5, .tmp 6] fun X hP hΓ hL hfin => ?_; refine gxq (cj4 h173 hk d0 w1) ?_
  refine ⟨hl, ?_⟩
  refine Z02.drawnQ smp (by kernel_rfl) (gwq (cj3 hk w1 @Int.toNat_natCast) ?_)
  refine ⟨by omega, ⟨by omega, by omega, by omega⟩, ?_⟩
  rw [List.take_length]
  exact Z08.sameA
theorem con164 {Γ : Env} (h : Z03 Tryz.prog Γ) (h173 : Γ 173 = some S173) : Con Tryz.prog 164 S164 :=
 Z0V h (fn := Tryz.f164) (by kernel_rfl) rfl (by kernel_rfl) inj164 (by first | (intro h; cases h; done) | exact fun _ _ => rfl) fun ⟨l, c⟩ h => body164 Γ h173 l c h
def ZkH : (List UInt8) × (UInt8) → List AV := fun (l, c) => [.str l, .str [c]]
def ZoM : (List UInt8) × (UInt8) → Prop := fun (l, c) => l.length ≤ 4194304
def Zod : (List UInt8) × (UInt8) → AV := fun (l, c) => .tup [.str (Z9Q l c), .str (ZaV l c), .bool (decide (0 ≤ indexByte l c))]
def Zpz : (List UInt8) × (UInt8) → Z01 := fun (l, c) => []
theorem inj156 : ∀ a b, ZkH a = ZkH b → a = b := by
 rintro ⟨l, c⟩ ⟨l', c'⟩ h
 simp only [ZkH, Z0g, Z0i, Z0k, Z0j, UInt8.toNat_inj, Z0z, List.cons.injEq] at h
 simp_all only
noncomputable def S156 : Z0n := Z5J ZkH ZoM Zod Zpz true
theorem Zow (l : (List UInt8)) (c : (UInt8)) : Z5I ZkH ZoM [.str l, .str [c]] = (l.length ≤ 4194304) := Z11 inj156 ZoM (l, c)
theorem ZnY (l : (List UInt8)) (c : (UInt8)) : Z2m ZkH Zod .any [.str l, .str [c]] = (.tup [.str (Z9Q l c), .str (ZaV l c), .bool (decide (0 ≤ indexByte l c))]) := Z0u inj156 Zod .any (l, c)
theorem Zpi (l : (List UInt8)) (c : (UInt8)) : Z2m ZkH Zpz [] [.str l, .str [c]] = ([]) := Z0u inj156 Zpz [] (l, c)
attribute [push_cast] S156 Zow ZnY Zpi
theorem body156 (Γ : Env) (h164 : Γ 164 = some S164) (l : List UInt8) (c : UInt8) (hl : l.length ≤ 4194304) : Z09 Tryz.prog Γ Tryz.f156 [.str l, .str [c]] [] (.tup [.str (Z9Q l c), .str (ZaV l c), .bool (decide (0 ≤ indexByte l c))]) [] := by
 refine stt 13 [.tmp 4, .tmp 5, .tmp 6] fun X hP hΓ hL hfin => ?_; refine gxq h164 ?_
 refine ⟨hl, ?_⟩
 exact Z08.sameA
theorem con156 {Γ : Env} (h : Z03 Tryz.prog Γ) (h164 : Γ 164 = some S164) : Con Tryz.prog 156 S156 :=
 Z0V h (fn := Tryz.f156) (by kernel_rfl) rfl (by kernel_rfl) inj156 (by first | (intro h; cases h; done) | exact fun _ _ => rfl) fun ⟨l, c⟩ h => body156 Γ h164 l c h
def Z3f (c : UInt8) (l : List UInt8) : List UInt8 := l.dropWhile (· == c)
def Z2R (c : UInt8) (l : List UInt8) : List UInt8 := (l.reverse.dropWhile (· == c)).reverse
theorem Zb3 (c : UInt8) (l : List UInt8) (k : Nat) (h : k < l.length) (hc : l.getD k 0 = c) : Z3f c (l.drop (k + 1)) = Z3f c (l.drop k) := by
 have e : l.drop k = l.getD k 0 :: l.drop (k + 1) := by rw [List.drop_eq_getElem_cons h]; simp [List.getD, h]
 rw [e, hc]; unfold Z3f; simp
theorem ZbZ (c : UInt8) (l : List UInt8) (k : Nat) (h : k < l.length) (hc : l.getD k 0 ≠ c) : Z3f c (l.drop k) = l.drop k := by
 have e : l.drop k = l.getD k 0 :: l.drop (k + 1) := by rw [List.drop_eq_getElem_cons h]; simp [List.getD, h]
 rw [e]; unfold Z3f; rw [List.dropWhile_cons_of_neg (by simpa using hc)]
theorem Zb2 (c : UInt8) (l : List UInt8) (k : Nat) (h : k < l.length) (hc : l.getD k 0 = c) : Z2R c (l.take (k + 1)) = Z2R c (l.take k) := by
 have e : l.take (k + 1) = l.take k ++ [l.getD k 0] := by rw [List.take_succ_eq_append_getElem h]; simp [List.getD, h]
 rw [e, hc]; unfold Z2R; simp
theorem ZbY (c : UInt8) (l : List UInt8) (k : Nat) (h : k < l.length) (hc : l.getD k 0 ≠ c) : Z2R c (l.take (k + 1)) = l.take (k + 1) := by
 have e : l.take (k + 1) = l.take k ++ [l.getD k 0] := by rw [List.take_succ_eq_append_getElem h]; simp [List.getD, h]
 rw [e]; unfold Z2R; rw [List.reverse_append, List.reverse_singleton, List.singleton_append, List.dropWhile_cons_of_neg (by simpa using hc)]; simp
def ZkE : (List UInt8) × (UInt8) → List AV := fun (l, c) => [.str l, .int .u8 c.toNat]
def ZoJ : (List UInt8) × (UInt8) → Prop := fun (l, c) => l.length ≤ 4194304
def Zoa : (List UInt8) × (UInt8) → AV := fun (l, c) => .str (Z3f c l)
def Zpw : (List UInt8) × (UInt8) → Z01 := fun (l, c) => []
theorem inj165 : ∀ a b, ZkE a = ZkE b → a = b := by
 rintro ⟨l, c⟩ ⟨l', c'⟩ h
 simp only [ZkE, Z0g, Z0i, Z0k, Z0j, UInt8.toNat_inj, Z0z, List.cons.injEq] at h
 simp_all only
noncomputable def S165 : Z0n := Z5J ZkE ZoJ Zoa Zpw true
theorem Zot (l : (List UInt8)) (c : (UInt8)) : Z5I ZkE ZoJ [.str l, .int .u8 c.toNat] = (l.length ≤ 4194304) := Z11 inj165 ZoJ (l, c)
theorem ZnV (l : (List UInt8)) (c : (UInt8)) : Z2m ZkE Zoa .any [.str l, .int .u8 c.toNat] = (.str (Z3f c l)) := Z0u inj165 Zoa .any (l, c)
theorem Zpf (l : (List UInt8)) (c : (UInt8)) : Z2m ZkE Zpw [] [.str l, .int .u8 c.toNat] = ([]) := Z0u inj165 Zpw [] (l, c)
attribute [push_cast] S165 Zot ZnV Zpf
theorem body165 (Γ : Env) (l : List UInt8) (c : UInt8) (hl : l.length ≤ 4194304) : Z09 Tryz.prog Γ Tryz.f165 [.str l, .int .u8 c.toNat] [] (.str (Z3f c l)) [] := by
 refine stt 17 [.tmp 4] fun X hP hΓ hL hfin => ?_; refine Z0F ?_
 refine Z02.loopM (ι := {k : Nat // k ≤ l.length ∧ Z3f c (l.drop k) = Z3f c l}) [ff,tt,ff,ff,tt,ff,ff,ff,ff,ff,ff,ff,ff,ff,ff,ff,ff] (fun i => [(0, .str (l.drop i.1))]) (fun i => []) (fun i => l.length - i.1) ⟨0, Nat.zero_le _, rfl⟩ ?_ ?_
 ·(rw [hL]; simp only [push_cast, Int.natCast_zero, ]; exact Z08.sameA)
 rintro ⟨k, hk, hg⟩
 by_cases c0 : k < l.length
 case neg =>
  have d0 : decide ((0 : Int) < ((l.length - k : Nat) : Int)) = false := decide_eq_false (by omega)
  have e : l.drop k = [] := List.drop_eq_nil_of_le (by omega)
  refine gxq d0 ?_
  rw [← hg, e]
  exact Z08.sameA
 have d0 : decide ((0 : Int) < ((l.length - k : Nat) : Int)) = true := decide_eq_true (by omega)
 have g0 : (l.drop k).getD 0 0 = l.getD k 0 := by simp [List.getD, List.getElem?_drop]
 by_cases c1 : l.getD k 0 = c
 ·refine gxq (cj3 d0 g0 c1) ?_
  refine ⟨by omega, by omega, ⟨k + 1, c0, by rw [Zb3 c l k c0 c1]; exact hg⟩, by simp only; omega, ?_⟩
  have e : (List.take (l.length - k) (List.drop k l)).drop 1 = l.drop (k + 1) := by
   rw [List.take_of_length_le (by rw [List.length_drop]; exact Nat.le_refl _), List.drop_drop]
  rw [e]
  exact Z08.sameA
 ·have d1 : decide (((l.getD k 0).toNat : Int) = (c.toNat : Int)) = false := decide_eq_false (fun h => c1 (UInt8.toNat_inj.1 (by omega)))
  refine gxq (cj3 d0 g0 d1) ?_
  refine ⟨by omega, ?_⟩
  rw [← hg, ZbZ c l k c0 c1]
  exact Z08.sameA
theorem con165 {Γ : Env} (h : Z03 Tryz.prog Γ)  : Con Tryz.prog 165 S165 :=
 Z0V h (fn := Tryz.f165) (by kernel_rfl) rfl (by kernel_rfl) inj165 (by first | (intro h; cases h; done) | exact fun _ _ => rfl) fun ⟨l, c⟩ h => body165 Γ l c h
def ZkD : (List UInt8) × (UInt8) → List AV := fun (l, c) => [.str l, .int .u8 c.toNat]
def ZoI : (List UInt8) × (UInt8) → Prop := fun (l, c) => l.length ≤ 4194304
def Zo9 : (List UInt8) × (UInt8) → AV := fun (l, c) => .str (Z2R c l)
def Zpv : (List UInt8) × (UInt8) → Z01 := fun (l, c) => []
theorem inj166 : ∀ a b, ZkD a = ZkD b → a = b := by
 rintro ⟨l, c⟩ ⟨l', c'⟩ h
 simp only [ZkD, Z0g, Z0i, Z0k, Z0j, UInt8.toNat_inj, Z0z, List.cons.injEq] at h
 simp_all only
noncomputable def S166 : Z0n := Z5J ZkD ZoI Zo9 Zpv true
theorem Zos (l : (List UInt8)) (c : (UInt8)) : Z5I ZkD ZoI [.str l, .int .u8 c.toNat] = (l.length ≤ 4194304) := Z11 inj166 ZoI (l, c)
theorem ZnU (l : (List UInt8)) (c : (UInt8)) : Z2m ZkD Zo9 .any [.str l, .int .u8 c.toNat] = (.str (Z2R c l)) := Z0u inj166 Zo9 .any (l, c)
theorem Zpe (l : (List UInt8)) (c : (UInt8)) : Z2m ZkD Zpv [] [.str l, .int .u8 c.toNat] = ([]) := Z0u inj166 Zpv [] (l, c)
attribute [push_cast] S166 Zos ZnU Zpe
theorem body166 (Γ : Env) (l : List UInt8) (c : UInt8) (hl : l.length ≤ 4194304) : Z09 Tryz.prog Γ Tryz.f166 [.str l, .int .u8 c.toNat] [] (.str (Z2R c l)) [] := by
 refine stt 23 [.tmp 4] fun X hP hΓ hL hfin => ?_; refine Z0F ?_
 refine Z02.loopM (ι := {k : Nat // k ≤ l.length ∧ Z2R c (l.take k) = Z2R c l}) [ff,tt,ff,ff,tt,ff,ff,ff,ff,ff,ff,ff,ff,ff,ff,ff,ff,ff,ff,ff,ff,ff,ff] (fun i => [(0, .str (l.take i.1))]) (fun i => []) (fun i => i.1) ⟨l.length, Nat.le_refl _, by rw [List.take_length]⟩ ?_ ?_
 ·rw [hL, List.take_length]
  exact Z08.sameA
 rintro ⟨k, hk, hg⟩
 cases k with
 | zero =>
  have e : l.take 0 = [] := List.take_zero
  rw [e] at hg
  refine gxq e ?_
  rw [← hg]
  exact Z08.sameA
 | succ k =>
 have hm : (l.take (k + 1)).length = k + 1 := by rw [List.length_take]; omega
 have d0 : decide ((0 : Int) < (k : Int) + 1) = true := decide_eq_true (by omega)
 have g0 : (l.take (k + 1)).getD k 0 = l.getD k 0 := by simp [List.getD, List.getElem?_take]
 have w1 : IntKind.i64.wrap ((k : Int) + 1 - 1) = (k : Int) := by rw [Z07 _ (by constructor <;> omega)]; omega
 have hmn : min (k + 1) l.length = k + 1 := by omega
 by_cases c1 : l.getD k 0 = c
 ·refine gxq (cj5 hmn d0 w1 g0 c1) ?_
  refine ⟨by omega, by omega, ⟨k, by omega, by rw [← Zb2 c l k (by omega) c1]; exact hg⟩, by simp only; omega, ?_⟩
  have e : List.take k (List.take (k + 1) l) = l.take k := by rw [List.take_take, Nat.min_eq_left (by omega)]
  rw [e]
  exact Z08.sameA
 ·have d1 : decide (((l.getD k 0).toNat : Int) = (c.toNat : Int)) = false := decide_eq_false (fun h => c1 (UInt8.toNat_inj.1 (by omega)))
  refine gxq (cj5 hmn d0 w1 g0 d1) ?_
  refine ⟨by omega, ?_⟩
  rw [← hg, ZbY c l k (by omega) c1]
  exact Z08.sameA
theorem con166 {Γ : Env} (h : Z03 Tryz.prog Γ)  : Con Tryz.prog 166 S166 :=
 Z0V h (fn := Tryz.f166) (by kernel_rfl) rfl (by kernel_rfl) inj166 (by first | (intro h; cases h; done) | exact fun _ _ => rfl) fun ⟨l, c⟩ h => body166 Γ l c h
theorem ZbX (c : UInt8) (l : List UInt8) : (Z2R c l).length ≤ l.length := by
 unfold Z2R
 rw [List.length_reverse]
 exact Nat.le_trans (List.dropWhile_suffix _).length_le (by rw [List.length_reverse]; exact Nat.le_refl _)
def ZkG : (List UInt8) × (UInt8) → List AV := fun (l, c) => [.str l, .str [c]]
def ZoL : (List UInt8) × (UInt8) → Prop := fun (l, c) => l.length ≤ 4194304 ∧ c.toNat < 128
def Zoc : (List UInt8) × (UInt8) → AV := fun (l, c) => .str (Z3f c (Z2R c l))
def Zpy : (List UInt8) × (UInt8) → Z01 := fun (l, c) => []
theorem inj157 : ∀ a b, ZkG a = ZkG b → a = b := by
 rintro ⟨l, c⟩ ⟨l', c'⟩ h
 simp only [ZkG, Z0g, Z0i, Z0k, Z0j, UInt8.toNat_inj, Z0z, List.cons.injEq] at h
 simp_all only
noncomputable def S157 : Z0n := Z5J ZkG ZoL Zoc Zpy true
theorem Zov (l : (List UInt8)) (c : (UInt8)) : Z5I ZkG ZoL [.str l, .str [c]] = (l.length ≤ 4194304 ∧ c.toNat < 128) := Z11 inj157 ZoL (l, c)
theorem ZnX (l : (List UInt8)) (c : (UInt8)) : Z2m ZkG Zoc .any [.str l, .str [c]] = (.str (Z3f c (Z2R c l))) := Z0u inj157 Zoc .any (l, c)
theorem Zph (l : (List UInt8)) (c : (UInt8)) : Z2m ZkG Zpy [] [.str l, .str [c]] = ([]) := Z0u inj157 Zpy [] (l, c)
attribute [push_cast] S157 Zov ZnX Zph
theorem body157 (Γ : Env) (h165 : Γ 165 = some S165) (h166 : Γ 166 = some S166) (l : List UInt8) (c : UInt8) (hl : l.length ≤ 4194304) (hc : c.toNat < 128) : Z09 Tryz.prog Γ Tryz.f157 [.str l, .str [c]] [] (.str (Z3f c (Z2R c l))) [] := by
 have hc' : decide ((c.toNat : Int) < 128) = true := decide_eq_true (by omega)
 have hr := ZbX c l
 by_cases hn : l = []
 ·subst hn
  have e : Z3f c (Z2R c []) = [] := rfl
  rw [e]
  refine stt 43 [.tmp 4] fun X hP hΓ hL hfin => ?_; refine gxq (cj3 h165 h166 hc') ?_
  exact Z08.sameA
 have hb : (l == ([] : List UInt8)) = false := by simpa using hn
 refine stt 43 [.tmp 4] fun X hP hΓ hL hfin => ?_; refine gxq (cj4 h165 h166 hc' hb) ?_
 refine ⟨by omega, ?_⟩
 refine Z02.drawnQ smp (by kernel_rfl) (gwq (cj2 h165 h166) ?_)
 refine ⟨by omega, hl, by omega, by omega, ?_⟩
 exact Z08.sameA
theorem con157 {Γ : Env} (h : Z03 Tryz.prog Γ) (h165 : Γ 165 = some S165) (h166 : Γ 166 = some S166) : Con Tryz.prog 157 S157 :=
 Z0V h (fn := Tryz.f157) (by kernel_rfl) rfl (by kernel_rfl) inj157 (by first | (intro h; cases h; done) | exact fun _ _ => rfl) fun ⟨l, c⟩ h => body157 Γ h165 h166 l c h.1 h.2
structure Fl where
 nm : List UInt8
 hd : Int
 ln : Int
 se : List Int
 deriving Inhabited, DecidableEq
def flC (f : Fl) : List AV := [.str f.nm, .int .i64 f.hd, .int .i64 f.ln, .sl (f.se.map (AV.int .i64)) f.se.length]
instance : Z24 flC 4 := ⟨fun _ => rfl⟩
instance : Z25 flC := ⟨fun x => by simp only [flC, Z1M, Z0s, Z19, Bool.and_self], fun x => rfl⟩
theorem Zj8 : ∀ {a b : List Fl}, a.flatMap flC = b.flatMap flC → a = b
 | [], [], _ => rfl
 | [], y :: b, h => by simp [flC] at h
 | x :: a, [], h => by simp [flC] at h
 | x :: a, y :: b, h => by
  simp only [List.flatMap_cons, flC, List.cons_append, List.nil_append, List.cons.injEq, AV.str.injEq, AV.int.injEq, true_and, AV.sl.injEq, Z0g, Int.natCast_inj] at h
  obtain ⟨h1, h2, h3, ⟨h4, _⟩, h5⟩ := h
  obtain ⟨a1, a2, a3, a4⟩ := x
  obtain ⟨b1, b2, b3, b4⟩ := y
  simp only at h1 h2 h3 h4
  rw [Zj8 h5, h1, h2, h3, h4]
theorem Z0r {a b : List Fl} : a.flatMap flC = b.flatMap flC ↔ a = b := ⟨Zj8, fun h => by rw [h]⟩
def Z14 (F : List Fl) (Lv U : List Int) (S : List Sec) (W : List Wr) : Z01 := [.row [.ref 1 0 0, .msl 2 F.length 0 F.length, .msl 3 Lv.length 0 Lv.length, .msl 4 0 0 U.length] 4 0, .row [.msl 5 0 0 S.length, .msl 6 W.length 0 W.length] 2 0, .row (F.flatMap flC) 4 F.length, .row (Lv.map (AV.int .i64)) 1 Lv.length, .row (U.map (AV.int .i64)) 1 0, .row (S.flatMap Z2y) 1024 0, .row (W.flatMap wrC) 1025 W.length]
def k139 : List UInt8 × Int → Ct := fun (b, n) => ⟨([.sl (b.map Z04) b.length, .int .i64 n], []), True, .fn (.func 155) [] [.ref 0 0 0, .ref 1 0 0], [.row [.int .i64 n] 1 0, .row [.sl (b.map Z04) b.length] 1 0]⟩
theorem inj139 : ∀ a b, (k139 a).a = (k139 b).a → a = b := by
 rintro ⟨b, n⟩ ⟨b', n'⟩ h
 simp only [k139, Z0g, Z0i, Z0k, Z0j, UInt8.toNat_inj, Z0a, Z0d, Z0r, Z0p, Z18, Z14, Z0z, List.cons.injEq] at h
 simp_all only
noncomputable def S139 : Z0n := Z0U true k139
theorem ks139 (b : List UInt8) (n : Int) : KS k139 ([.sl (b.map Z04) b.length, .int .i64 n], []) (True) (.fn (.func 155) [] [.ref 0 0 0, .ref 1 0 0]) ([.row [.int .i64 n] 1 0, .row [.sl (b.map Z04) b.length] 1 0]) := kat inj139 (b, n)
attribute [push_cast] S139 ks139
theorem body139 (Γ : Env) (b : List UInt8) (n : Int) : Z09 Tryz.prog Γ Tryz.f139 [.sl (b.map Z04) b.length, .int .i64 n] [] (.fn (.func 155) [] [.ref 0 0 0, .ref 1 0 0]) [.row [.int .i64 n] 1 0, .row [.sl (b.map Z04) b.length] 1 0] := by
 refine stt 6 [.tmp 4] fun X hP hΓ hL hfin => ?_; refine Z0F ?_
 exact Z0o.base [1, 0] ⟨sml, smr, (by decide), (by first | rfl | decide), sm, sm⟩ smd
theorem con139 {Γ : Env} (h : Z03 Tryz.prog Γ)  : Con Tryz.prog 139 S139 :=
 Z23 h (fn := Tryz.f139) (by kernel_rfl) rfl (by kernel_rfl) inj139 fun ⟨b, n⟩ _ => body139 Γ b n
def enB (b : List UInt8) (i : Nat) : List UInt8 := (b.drop (8 + 32 * i)).take 24
def enN (b : List UInt8) (i : Nat) : List UInt8 := Z9Q (enB b i) 0
def enR (b : List UInt8) (i : Nat) : List UInt8 := ZaV (enB b i) 0
def enH (b : List UInt8) (i : Nat) : Int := getW b (4 * ((8 + 32 * i + 24) / 4))
def enL (b : List UInt8) (i : Nat) : Int := getW b (4 * ((8 + 32 * i + 24) / 4 + 1))
def ZkA (b : List UInt8) (i : Nat) : Bool := Z3E (enN b i) && (Z3f 0 (Z2R 0 (enR b i)) == [])
end Go.Proofs.YtbnnhffkbcekcaaGreatDoor.dirDone
end
