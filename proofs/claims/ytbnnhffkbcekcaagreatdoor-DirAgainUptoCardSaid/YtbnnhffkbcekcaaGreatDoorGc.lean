/- Parts of the walk through directories. Conditions stand in each. -/
import Derived.Test.YtbnnhffkbcekcaaGreatDoorGb
import Derived.Test.YtbnnhffkbcekcaaGreatDoorFg
import Derived.Lib.IndexLaws
set_option linter.unusedVariables false
set_option linter.unusedSimpArgs false
set_option maxRecDepth 100000
set_option maxHeartbeats 4000000
section
namespace Go.Proofs.YtbnnhffkbcekcaaGreatDoor.dirDone
open Go Go.Eng Go.Proofs Go.Lib
def gd (first : Bool) (c : UInt8) : Bool := (97 ≤ c.toNat && c.toNat ≤ 122 || 65 ≤ c.toNat && c.toNat ≤ 90) || !first && (48 ≤ c.toNat && c.toNat ≤ 57 || c.toNat == 46 || c.toNat == 95)
def Z2Z (l : List UInt8) : Bool := decide ((∀ i < l.length, gd (decide (i = 0)) (l.getD i 0) = true) ∧ l ≠ [] ∧ l.length ≤ 23)
def e56 : (List UInt8) → List AV := fun l => [.str l]
def p56 : (List UInt8) → Prop := fun l => l.length ≤ 9223372036854775807
def r56 : (List UInt8) → AV := fun l => .bool (Z2Z l)
def g56 : (List UInt8) → Z02 := fun l => []
theorem inj56 : ∀ a b, e56 a = e56 b → a = b := by
 rintro l l' h
 simp only [e56, Z0g, Z0i, Z0k, Z0j, UInt8.toNat_inj, Z0C, List.cons.injEq] at h
 simp_all only
noncomputable def S56 : Z0p := Z5Y e56 p56 r56 g56 true
theorem ps56 (l : List UInt8) : Z5U e56 p56 [.str l] = (l.length ≤ 9223372036854775807) := Z14 inj56 p56 l
theorem rs56 (l : List UInt8) : Z2q e56 r56 .any [.str l] = (.bool (Z2Z l)) := Z0w inj56 r56 .any l
theorem hs56 (l : List UInt8) : Z2q e56 g56 [] [.str l] = ([]) := Z0w inj56 g56 [] l
attribute [push_cast] S56 ps56 rs56 hs56
theorem Z9W (Γ : Env) (l : List UInt8) (hl : l.length ≤ 9223372036854775807) : Z08 Tryz.prog Γ Tryz.f56 [.str l] [] (.bool (Z2Z l)) [] := by
 refine stt 52 [.tmp 2] fun X hP hΓ hL hfin => ?_; refine Z0G ?_
 refine Z03.loop (ι := { k : Nat // k ≤ l.length ∧ ∀ i < k, gd (decide (i = 0)) (l.getD i 0) = true }) (fun k => ([.str l, .any, .any, .any, .any, .any, .any, .int .i64 l.length, .int .i64 k.1, .any, .any, .any, .any, .any, .any, .any, .any, .any, .any, .any, .any, .any, .any, .any, .any, .any, .any, .any, .any, .any, .any, .any, .any, .any, .any, .any, .any, .any, .any, .any, .any, .any, .any, .any, .any, .any, .any, .any, .any, .any, .any, .any], [])) (fun k => l.length - k.1) ⟨0, Nat.zero_le _, by simp⟩ ?_ ?_
 ·rw [hL]; exact Z07.flat (by simp [leF]) rfl
 rintro ⟨k, hk, hg⟩
 refine Z0G ?_
 refine Z0z (fun h => ?_) (fun h => ?_)
 ·refine Z0G ?_
  have hk' : k < l.length := by simpa using h
  refine ⟨by omega, Z0z (fun h => ?_) (fun h => ?_)⟩
  ·refine Z0G ?_
   have hb : gd (decide (k = 0)) (l.getD k 0) = false := by
    rw [show decide ((k : Int) = 0) = decide (k = 0) by simp] at h
    generalize decide (k = 0) = b at h ⊢
    generalize l.getD k 0 = c at h ⊢
    rw [← Bool.not_eq_true']
    revert h; revert c
    cases b
    ·refine Z30 ?_; kernel_rfl
    ·refine Z30 ?_; kernel_rfl
   refine Z07.one ?_ (by rfl)
   congr 1
   symm
   simp only [Z2Z, decide_eq_false_iff_not]
   intro hh
   rw [hh.1 k hk'] at hb; cases hb
  ·refine Z0G ?_
   have hb : gd (decide (k = 0)) (l.getD k 0) = true := by
    rw [show decide ((k : Int) = 0) = decide (k = 0) by simp] at h
    generalize decide (k = 0) = b at h ⊢
    generalize l.getD k 0 = c at h ⊢
    rw [← Bool.not_eq_true'] at h
    revert h; revert c
    cases b
    ·refine Z30 ?_; kernel_rfl
    ·refine Z30 ?_; kernel_rfl
   rw [Zai _ (by omega)]
   refine ⟨⟨k + 1, hk', fun i hi => ?_⟩, by simp only; omega, Z07.flat (by simp [leF]) rfl⟩
   rcases Nat.lt_succ_iff_lt_or_eq.1 hi with h' | rfl
   ·exact hg i h'
   ·exact hb
 ·refine Z0G ?_
  refine Z07.one ?_ (by rfl)
  congr 1
  have hk' : k = l.length := by have := (decide_eq_false_iff_not.1 h); omega
  subst hk'
  rw [Bool.eq_iff_iff]
  simp only [Z2Z, decide_eq_true_eq, Bool.and_eq_true, Bool.not_eq_true', beq_eq_false_iff_ne]
  constructor
  ·rintro ⟨h1, h2⟩; exact ⟨hg, h1, by omega⟩
  ·rintro ⟨_, h1, h2⟩; exact ⟨h1, by omega⟩
theorem con56 {Γ : Env} (h : Z01 Tryz.prog Γ)  : Con Tryz.prog 56 S56 :=
 Z0W h (fn := Tryz.f56) (by kernel_rfl) rfl (by kernel_rfl) inj56 (by first | (intro h; cases h; done) | exact fun _ _ => rfl) fun l h => Z9W Γ l h
def Zn2 : (List UInt8) → List AV := fun l => [.str l]
def p109 : (List UInt8) → Prop := fun l => l.length ≤ 9223372036854775807
def ZqC : (List UInt8) → AV := fun l => .bool (Z2Z l)
def ZrZ : (List UInt8) → Z02 := fun l => []
theorem inj109 : ∀ a b, Zn2 a = Zn2 b → a = b := by
 rintro l l' h
 simp only [Zn2, Z0g, Z0i, Z0k, Z0j, UInt8.toNat_inj, Z0C, List.cons.injEq] at h
 simp_all only
noncomputable def S109 : Z0p := Z5Y Zn2 p109 ZqC ZrZ true
theorem ZqR (l : List UInt8) : Z5U Zn2 p109 [.str l] = (l.length ≤ 9223372036854775807) := Z14 inj109 p109 l
theorem Zqi (l : List UInt8) : Z2q Zn2 ZqC .any [.str l] = (.bool (Z2Z l)) := Z0w inj109 ZqC .any l
theorem ZrE (l : List UInt8) : Z2q Zn2 ZrZ [] [.str l] = ([]) := Z0w inj109 ZrZ [] l
attribute [push_cast] S109 ZqR Zqi ZrE
theorem ZbV (Γ : Env) (l : List UInt8) (hl : l.length ≤ 9223372036854775807) : Z08 Tryz.prog Γ Tryz.f109 [.str l] [] (.bool (Z2Z l)) [] := by
 refine stt 61 [.tmp 2] fun X hP hΓ hL hfin => ?_; refine Z0G ?_
 refine Z0z (fun h => ?_) (fun h => ?_)
 ·refine Z0G ?_
  refine Z07.one ?_ (by rfl)
  congr 1
  symm
  simp only [Z2Z, decide_eq_false_iff_not]
  rintro ⟨_, h1, h2⟩
  simp [h1] at h; omega
 refine Z0G ?_
 have hs : l ≠ [] ∧ l.length ≤ 23 := by simp at h; exact ⟨h.1, by omega⟩
 refine Z03.loop (ι := { k : Nat // k ≤ l.length ∧ ∀ i < k, gd (decide (i = 0)) (l.getD i 0) = true }) (fun k => ([.str l, .any, .any, .int .i64 k.1, .any, .any, .any, .any, .any, .any, .any, .any, .any, .any, .any, .any, .any, .any, .any, .any, .any, .any, .any, .any, .any, .any, .any, .any, .any, .any, .any, .any, .any, .any, .any, .any, .any, .any, .any, .any, .any, .any, .any, .any, .any, .any, .any, .any, .any, .any, .any, .any, .any, .any, .any, .any, .any, .any, .any, .any, .any], [])) (fun k => l.length - k.1) ⟨0, Nat.zero_le _, by simp⟩ ?_ ?_
 ·rw [hL]; exact Z07.flat (by simp [leF]) rfl
 rintro ⟨k, hk, hg⟩
 refine Z0G ?_
 refine Z0z (fun h => ?_) (fun h => ?_)
 ·refine Z0G ?_
  have hk' : k < l.length := by simpa using h
  refine ⟨by omega, Z0z (fun h => ?_) (fun h => ?_)⟩
  ·refine Z0G ?_
   have hb : gd (decide (k = 0)) (l.getD k 0) = false := by
    rw [show decide ((k : Int) = 0) = decide (k = 0) by simp] at h
    generalize decide (k = 0) = b at h ⊢
    generalize l.getD k 0 = c at h ⊢
    rw [← Bool.not_eq_true']
    revert h; revert c
    cases b
    ·refine Z30 ?_; kernel_rfl
    ·refine Z30 ?_; kernel_rfl
   refine Z07.one ?_ (by rfl)
   congr 1
   symm
   simp only [Z2Z, decide_eq_false_iff_not]
   intro hh
   rw [hh.1 k hk'] at hb; cases hb
  ·refine Z0G ?_
   have hb : gd (decide (k = 0)) (l.getD k 0) = true := by
    rw [show decide ((k : Int) = 0) = decide (k = 0) by simp] at h
    generalize decide (k = 0) = b at h ⊢
    generalize l.getD k 0 = c at h ⊢
    rw [← Bool.not_eq_true'] at h
    revert h; revert c
    cases b
    ·refine Z30 ?_; kernel_rfl
    ·refine Z30 ?_; kernel_rfl
   rw [Zai _ (by omega)]
   refine ⟨⟨k + 1, hk', fun i hi => ?_⟩, by simp only; omega, Z07.flat (by simp [leF]) rfl⟩
   rcases Nat.lt_succ_iff_lt_or_eq.1 hi with h' | rfl
   ·exact hg i h'
   ·exact hb
 ·refine Z0G ?_
  refine Z07.one ?_ (by rfl)
  congr 1
  have hk' : k = l.length := by have := (decide_eq_false_iff_not.1 h); omega
  subst hk'
  symm
  simp only [Z2Z, decide_eq_true_eq]
  exact ⟨hg, hs⟩
theorem con109 {Γ : Env} (h : Z01 Tryz.prog Γ)  : Con Tryz.prog 109 S109 :=
 Z0W h (fn := Tryz.f109) (by kernel_rfl) rfl (by kernel_rfl) inj109 (by first | (intro h; cases h; done) | exact fun _ _ => rfl) fun l h => ZbV Γ l h
def Zon (xs : List AV) : Prop := match xs with
 | [.str l, .int .u8 n] => (∃ c : UInt8, n = c.toNat) ∧ l.length ≤ 4194304
 | _ => False
def ixR (xs : List AV) : AV := match xs with
 | [.str l, .int _ n] => .int .i64 (indexByte l n.toNat.toUInt8)
 | _ => .any
def ixS : Z0p := Z6r Zon ixR (fun _ => []) true
theorem one0 : decide ((0 : Int) + 1 = 0) = false := by decide
theorem one1 : decide ((0 : Int) + 1 = 1) = true := by decide
theorem oneN (c : UInt8) : ([c] == ([] : List UInt8)) = false := rfl
theorem Ziy (c : UInt8) : c.toNat.toUInt8 = c := by simp
attribute [push_cast] one0 one1 oneN Zon ixR ixS Ziy
theorem con185 : Con Tryz.prog 185 ixS := by
 refine Con.ofExt (fun xs hx => ?_) fun m w xs vs hc hx => ?_
 ·unfold Zon at hx
  split at hx
  ·exact ⟨_, _, rfl⟩
  ·exact hx.elim
 ·unfold Zon at hx
  split at hx
  ·rename_i l n
   simp only [Z0a, Z05] at hc
   obtain ⟨v1, vs, rfl, rfl, v2, vs, rfl, rfl, rfl⟩ := hc
   refine ⟨.int .i64 (indexByte l n.toNat.toUInt8), ?_, by simp [ixR, Z05]⟩
   rw [run_callFunc_extern Tryz.func185 (by kernel_rfl) (by kernel_rfl) (by kernel_rfl) (e := Extern.BytealgIndexByte.indexByte) (by kernel_rfl), Lib.run_indexByteString]
   rfl
  ·exact hx.elim
theorem Zno (Γ : Env) (h185 : Γ 185 = some ixS) (l : List UInt8) (c : UInt8) (hl : l.length ≤ 4194304) : Z08 Tryz.prog Γ Tryz.f178 [.str l, .int .u8 c.toNat] [] (.int .i64 (indexByte l c)) [] := by
 refine stt 8 [.tmp 4] fun X hP hΓ hL hfin => ?_; refine gxq h185 ?_
 exact ⟨⟨⟨c, rfl⟩, hl⟩, Z07.one rfl rfl⟩
theorem con178 {Γ : Env} (h : Z01 Tryz.prog Γ) (h185 : Γ 185 = some ixS) : Con Tryz.prog 178 ixS := by
 refine Con.of_body h (fn := Tryz.f178) (by kernel_rfl) rfl (by kernel_rfl) (fun _ _ => rfl) fun xs hx => ?_
 unfold Zon at hx
 split at hx
 ·obtain ⟨⟨c, rfl⟩, hl⟩ := hx
  have := Zno Γ h185 _ c hl
  simpa [ixR] using this
 ·exact hx.elim
def ZmL : List UInt8 × (UInt8) → List AV := fun (l, c) => [.str l, .str [c]]
def ZqV : List UInt8 × (UInt8) → Prop := fun (l, c) => l.length ≤ 4194304
def Zqm : List UInt8 × (UInt8) → AV := fun (l, c) => .int .i64 (indexByte l c)
def ZrJ : List UInt8 × (UInt8) → Z02 := fun (l, c) => []
theorem inj173 : ∀ a b, ZmL a = ZmL b → a = b := by
 rintro ⟨l, c⟩ ⟨l', c'⟩ h
 simp only [ZmL, Z0g, Z0i, Z0k, Z0j, UInt8.toNat_inj, Z0C, List.cons.injEq] at h
 simp_all only
noncomputable def S173 : Z0p := Z5Y ZmL ZqV Zqm ZrJ true
theorem ZqF (l : List UInt8) (c : (UInt8)) : Z5U ZmL ZqV [.str l, .str [c]] = (l.length ≤ 4194304) := Z14 inj173 ZqV (l, c)
theorem Zq7 (l : List UInt8) (c : (UInt8)) : Z2q ZmL Zqm .any [.str l, .str [c]] = (.int .i64 (indexByte l c)) := Z0w inj173 Zqm .any (l, c)
theorem Zrr (l : List UInt8) (c : (UInt8)) : Z2q ZmL ZrJ [] [.str l, .str [c]] = ([]) := Z0w inj173 ZrJ [] (l, c)
attribute [push_cast] S173 ZqF Zq7 Zrr
theorem ZlP (Γ : Env) (h178 : Γ 178 = some ixS) (l : List UInt8) (c : UInt8) (hl : l.length ≤ 4194304) : Z08 Tryz.prog Γ Tryz.f173 [.str l, .str [c]] [] (.int .i64 (indexByte l c)) [] := by
 refine stt 143 [.tmp 4] fun X hP hΓ hL hfin => ?_; refine gxq h178 ?_
 refine Z0z (fun h => ?_) (fun h => ?_)
 ·refine Z0G ?_
  have e : l = [c] := (eq_of_beq h).symm
  subst e
  exact Z07.one (by simp [indexByte]) rfl
 ·refine gxq h178 ?_
  exact ⟨by omega, ⟨⟨c, rfl⟩, hl⟩, Z07.one rfl rfl⟩
theorem con173 {Γ : Env} (h : Z01 Tryz.prog Γ) (h178 : Γ 178 = some ixS) : Con Tryz.prog 173 S173 :=
 Z0W h (fn := Tryz.f173) (by kernel_rfl) rfl (by kernel_rfl) inj173 (by first | (intro h; cases h; done) | exact fun _ _ => rfl) fun ⟨l, c⟩ h => ZlP Γ h178 l c h
def Z9g (l : List UInt8) (c : UInt8) : List UInt8 := if indexByte l c < 0 then l else l.take (indexByte l c).toNat
def Za9 (l : List UInt8) (c : UInt8) : List UInt8 := if indexByte l c < 0 then [] else l.drop ((indexByte l c).toNat + 1)
def ZmO : List UInt8 × (UInt8) → List AV := fun (l, c) => [.str l, .str [c]]
def ZqY : List UInt8 × (UInt8) → Prop := fun (l, c) => l.length ≤ 4194304
def Zqp : List UInt8 × (UInt8) → AV := fun (l, c) => .tup [.str (Z9g l c), .str (Za9 l c), .bool (decide (0 ≤ indexByte l c))]
def ZrM : List UInt8 × (UInt8) → Z02 := fun (l, c) => []
theorem inj164 : ∀ a b, ZmO a = ZmO b → a = b := by
 rintro ⟨l, c⟩ ⟨l', c'⟩ h
 simp only [ZmO, Z0g, Z0i, Z0k, Z0j, UInt8.toNat_inj, Z0C, List.cons.injEq] at h
 simp_all only
noncomputable def S164 : Z0p := Z5Y ZmO ZqY Zqp ZrM true
theorem ZqI (l : List UInt8) (c : (UInt8)) : Z5U ZmO ZqY [.str l, .str [c]] = (l.length ≤ 4194304) := Z14 inj164 ZqY (l, c)
theorem Zqa (l : List UInt8) (c : (UInt8)) : Z2q ZmO Zqp .any [.str l, .str [c]] = (.tup [.str (Z9g l c), .str (Za9 l c), .bool (decide (0 ≤ indexByte l c))]) := Z0w inj164 Zqp .any (l, c)
theorem Zru (l : List UInt8) (c : (UInt8)) : Z2q ZmO ZrM [] [.str l, .str [c]] = ([]) := Z0w inj164 ZrM [] (l, c)
attribute [push_cast] S164 ZqI Zqa Zru
theorem body164 (Γ : Env) (h173 : Γ 173 = some S173) (l : List UInt8) (c : UInt8) (hl : l.length ≤ 4194304) : Z08 Tryz.prog Γ Tryz.f164 [.str l, .str [c]] [] (.tup [.str (Z9g l c), .str (Za9 l c), .bool (decide (0 ≤ indexByte l c))]) [] := by
 have hlt : indexByte l c < 0 ∨ ∃ k : Nat, indexByte l c = k ∧ k < l.length := by
  by_cases h : indexByte l c < 0
  ·exact .inl h
  ·obtain ⟨k, hk⟩ := Int.eq_ofNat_of_zero_le (show 0 ≤ indexByte l c by omega)
   have := (indexByte_some hk).1
   exact .inr ⟨k, hk, (List.getElem?_eq_some_iff.1 this).1⟩
 rcases hlt with h | ⟨k, hk, hkl⟩
 ·have d0 : decide (0 ≤ indexByte l c) = false := decide_eq_false (by omega)
  have e1 : Z9g l c = l := by unfold Z9g; rw [if_pos h]
  have e2 : Za9 l c = [] := by unfold Za9; rw [if_pos h]
  rw [e1, e2, d0]
  refine stt 23 [.tmp 4, .tmp 5, .tmp 6] fun X hP hΓ hL hfin => ?_; refine gxq (cj2 h173 d0) ?_
  refine ⟨hl, ?_⟩
  exact Z07.sameA
 ·have e1 : Z9g l c = l.take k := by unfold Z9g; rw [hk, if_neg (by omega)]; rfl
  have e2 : Za9 l c = l.drop (k + 1) := by unfold Za9; rw [hk, if_neg (by omega)]; rfl
  have d0 : decide ((0 : Int) ≤ (k : Int)) = true := decide_eq_true (by omega)
  have w1 : IntKind.i64.wrap ((k : Int) + (0 + 1)) = ((k + 1 : Nat) : Int) := by rw [Z0u _ (by constructor <;> omega)]; omega
  rw [e1, e2, hk, d0]
  refine stt 23 [.tmp 4, .tmp 5, .tmp 6] fun X hP hΓ hL hfin => ?_; refine gxq (cj4 h173 hk d0 w1) ?_
  refine ⟨hl, ?_⟩
  refine Z03.drawnQ smp (by kernel_rfl) (gwq (cj3 hk w1 @Int.toNat_natCast) ?_)
  refine ⟨by omega, ⟨by omega, by omega, by omega⟩, ?_⟩
  rw [List.take_length]
  exact Z07.sameA
theorem con164 {Γ : Env} (h : Z01 Tryz.prog Γ) (h173 : Γ 173 = some S173) : Con Tryz.prog 164 S164 :=
 Z0W h (fn := Tryz.f164) (by kernel_rfl) rfl (by kernel_rfl) inj164 (by first | (intro h; cases h; done) | exact fun _ _ => rfl) fun ⟨l, c⟩ h => body164 Γ h173 l c h
def ZmQ : List UInt8 × (UInt8) → List AV := fun (l, c) => [.str l, .str [c]]
def Zr0 : List UInt8 × (UInt8) → Prop := fun (l, c) => l.length ≤ 4194304
def Zqr : List UInt8 × (UInt8) → AV := fun (l, c) => .tup [.str (Z9g l c), .str (Za9 l c), .bool (decide (0 ≤ indexByte l c))]
def ZrO : List UInt8 × (UInt8) → Z02 := fun (l, c) => []
theorem inj156 : ∀ a b, ZmQ a = ZmQ b → a = b := by
 rintro ⟨l, c⟩ ⟨l', c'⟩ h
 simp only [ZmQ, Z0g, Z0i, Z0k, Z0j, UInt8.toNat_inj, Z0C, List.cons.injEq] at h
 simp_all only
noncomputable def S156 : Z0p := Z5Y ZmQ Zr0 Zqr ZrO true
theorem ZqK (l : List UInt8) (c : (UInt8)) : Z5U ZmQ Zr0 [.str l, .str [c]] = (l.length ≤ 4194304) := Z14 inj156 Zr0 (l, c)
theorem Zqc (l : List UInt8) (c : (UInt8)) : Z2q ZmQ Zqr .any [.str l, .str [c]] = (.tup [.str (Z9g l c), .str (Za9 l c), .bool (decide (0 ≤ indexByte l c))]) := Z0w inj156 Zqr .any (l, c)
theorem Zrw (l : List UInt8) (c : (UInt8)) : Z2q ZmQ ZrO [] [.str l, .str [c]] = ([]) := Z0w inj156 ZrO [] (l, c)
attribute [push_cast] S156 ZqK Zqc Zrw
theorem body156 (Γ : Env) (h164 : Γ 164 = some S164) (l : List UInt8) (c : UInt8) (hl : l.length ≤ 4194304) : Z08 Tryz.prog Γ Tryz.f156 [.str l, .str [c]] [] (.tup [.str (Z9g l c), .str (Za9 l c), .bool (decide (0 ≤ indexByte l c))]) [] := by
 refine stt 13 [.tmp 4, .tmp 5, .tmp 6] fun X hP hΓ hL hfin => ?_; refine gxq h164 ?_
 refine ⟨hl, ?_⟩
 exact Z07.sameA
theorem con156 {Γ : Env} (h : Z01 Tryz.prog Γ) (h164 : Γ 164 = some S164) : Con Tryz.prog 156 S156 :=
 Z0W h (fn := Tryz.f156) (by kernel_rfl) rfl (by kernel_rfl) inj156 (by first | (intro h; cases h; done) | exact fun _ _ => rfl) fun ⟨l, c⟩ h => body156 Γ h164 l c h
def Z3b (c : UInt8) (l : List UInt8) : List UInt8 := l.dropWhile (· == c)
def Z2O (c : UInt8) (l : List UInt8) : List UInt8 := (l.reverse.dropWhile (· == c)).reverse
theorem Zbq (c : UInt8) (l : List UInt8) (k : Nat) (h : k < l.length) (hc : l.getD k 0 = c) : Z3b c (l.drop (k + 1)) = Z3b c (l.drop k) := by
 have e : l.drop k = l.getD k 0 :: l.drop (k + 1) := by rw [List.drop_eq_getElem_cons h]; simp [List.getD, h]
 rw [e, hc]; unfold Z3b; simp
theorem Zcn (c : UInt8) (l : List UInt8) (k : Nat) (h : k < l.length) (hc : l.getD k 0 ≠ c) : Z3b c (l.drop k) = l.drop k := by
 have e : l.drop k = l.getD k 0 :: l.drop (k + 1) := by rw [List.drop_eq_getElem_cons h]; simp [List.getD, h]
 rw [e]; unfold Z3b; rw [List.dropWhile_cons_of_neg (by simpa using hc)]
theorem Zbp (c : UInt8) (l : List UInt8) (k : Nat) (h : k < l.length) (hc : l.getD k 0 = c) : Z2O c (l.take (k + 1)) = Z2O c (l.take k) := by
 have e : l.take (k + 1) = l.take k ++ [l.getD k 0] := by rw [List.take_succ_eq_append_getElem h]; simp [List.getD, h]
 rw [e, hc]; unfold Z2O; simp
theorem Zcm (c : UInt8) (l : List UInt8) (k : Nat) (h : k < l.length) (hc : l.getD k 0 ≠ c) : Z2O c (l.take (k + 1)) = l.take (k + 1) := by
 have e : l.take (k + 1) = l.take k ++ [l.getD k 0] := by rw [List.take_succ_eq_append_getElem h]; simp [List.getD, h]
 rw [e]; unfold Z2O; rw [List.reverse_append, List.reverse_singleton, List.singleton_append, List.dropWhile_cons_of_neg (by simpa using hc)]; simp
def ZmN : List UInt8 × (UInt8) → List AV := fun (l, c) => [.str l, .int .u8 c.toNat]
def ZqX : List UInt8 × (UInt8) → Prop := fun (l, c) => l.length ≤ 4194304
def Zqo : List UInt8 × (UInt8) → AV := fun (l, c) => .str (Z3b c l)
def ZrL : List UInt8 × (UInt8) → Z02 := fun (l, c) => []
theorem inj165 : ∀ a b, ZmN a = ZmN b → a = b := by
 rintro ⟨l, c⟩ ⟨l', c'⟩ h
 simp only [ZmN, Z0g, Z0i, Z0k, Z0j, UInt8.toNat_inj, Z0C, List.cons.injEq] at h
 simp_all only
noncomputable def S165 : Z0p := Z5Y ZmN ZqX Zqo ZrL true
theorem ZqH (l : List UInt8) (c : (UInt8)) : Z5U ZmN ZqX [.str l, .int .u8 c.toNat] = (l.length ≤ 4194304) := Z14 inj165 ZqX (l, c)
theorem Zq9 (l : List UInt8) (c : (UInt8)) : Z2q ZmN Zqo .any [.str l, .int .u8 c.toNat] = (.str (Z3b c l)) := Z0w inj165 Zqo .any (l, c)
theorem Zrt (l : List UInt8) (c : (UInt8)) : Z2q ZmN ZrL [] [.str l, .int .u8 c.toNat] = ([]) := Z0w inj165 ZrL [] (l, c)
attribute [push_cast] S165 ZqH Zq9 Zrt
theorem body165 (Γ : Env) (l : List UInt8) (c : UInt8) (hl : l.length ≤ 4194304) : Z08 Tryz.prog Γ Tryz.f165 [.str l, .int .u8 c.toNat] [] (.str (Z3b c l)) [] := by
 refine stt 17 [.tmp 4] fun X hP hΓ hL hfin => ?_; refine Z0G ?_
 refine Z03.loopM (ι := {k : Nat // k ≤ l.length ∧ Z3b c (l.drop k) = Z3b c l}) [ff,tt,ff,ff,tt,ff,ff,ff,ff,ff,ff,ff,ff,ff,ff,ff,ff] (fun i => [(0, .str (l.drop i.1))]) (fun i => []) (fun i => l.length - i.1) ⟨0, Nat.zero_le _, rfl⟩ ?_ ?_
 ·(rw [hL]; simp only [push_cast, Int.natCast_zero, ]; exact Z07.sameA)
 rintro ⟨k, hk, hg⟩
 by_cases c0 : k < l.length
 case neg =>
  have d0 : decide ((0 : Int) < ((l.length - k : Nat) : Int)) = false := decide_eq_false (by omega)
  have e : l.drop k = [] := List.drop_eq_nil_of_le (by omega)
  refine gxq d0 ?_
  rw [← hg, e]
  exact Z07.sameA
 have d0 : decide ((0 : Int) < ((l.length - k : Nat) : Int)) = true := decide_eq_true (by omega)
 have g0 : (l.drop k).getD 0 0 = l.getD k 0 := by simp [List.getD, List.getElem?_drop]
 by_cases c1 : l.getD k 0 = c
 ·refine gxq (cj3 d0 g0 c1) ?_
  refine ⟨by omega, by omega, ⟨k + 1, c0, by rw [Zbq c l k c0 c1]; exact hg⟩, by simp only; omega, ?_⟩
  have e : (List.take (l.length - k) (List.drop k l)).drop 1 = l.drop (k + 1) := by
   rw [List.take_of_length_le (by rw [List.length_drop]; exact Nat.le_refl _), List.drop_drop]
  rw [e]
  exact Z07.sameA
 ·have d1 : decide (((l.getD k 0).toNat : Int) = (c.toNat : Int)) = false := decide_eq_false (fun h => c1 (UInt8.toNat_inj.1 (by omega)))
  refine gxq (cj3 d0 g0 d1) ?_
  refine ⟨by omega, ?_⟩
  rw [← hg, Zcn c l k c0 c1]
  exact Z07.sameA
theorem con165 {Γ : Env} (h : Z01 Tryz.prog Γ)  : Con Tryz.prog 165 S165 :=
 Z0W h (fn := Tryz.f165) (by kernel_rfl) rfl (by kernel_rfl) inj165 (by first | (intro h; cases h; done) | exact fun _ _ => rfl) fun ⟨l, c⟩ h => body165 Γ l c h
def ZmM : List UInt8 × (UInt8) → List AV := fun (l, c) => [.str l, .int .u8 c.toNat]
def ZqW : List UInt8 × (UInt8) → Prop := fun (l, c) => l.length ≤ 4194304
def Zqn : List UInt8 × (UInt8) → AV := fun (l, c) => .str (Z2O c l)
def ZrK : List UInt8 × (UInt8) → Z02 := fun (l, c) => []
theorem inj166 : ∀ a b, ZmM a = ZmM b → a = b := by
 rintro ⟨l, c⟩ ⟨l', c'⟩ h
 simp only [ZmM, Z0g, Z0i, Z0k, Z0j, UInt8.toNat_inj, Z0C, List.cons.injEq] at h
 simp_all only
noncomputable def S166 : Z0p := Z5Y ZmM ZqW Zqn ZrK true
theorem ZqG (l : List UInt8) (c : (UInt8)) : Z5U ZmM ZqW [.str l, .int .u8 c.toNat] = (l.length ≤ 4194304) := Z14 inj166 ZqW (l, c)
theorem Zq8 (l : List UInt8) (c : (UInt8)) : Z2q ZmM Zqn .any [.str l, .int .u8 c.toNat] = (.str (Z2O c l)) := Z0w inj166 Zqn .any (l, c)
theorem Zrs (l : List UInt8) (c : (UInt8)) : Z2q ZmM ZrK [] [.str l, .int .u8 c.toNat] = ([]) := Z0w inj166 ZrK [] (l, c)
attribute [push_cast] S166 ZqG Zq8 Zrs
theorem body166 (Γ : Env) (l : List UInt8) (c : UInt8) (hl : l.length ≤ 4194304) : Z08 Tryz.prog Γ Tryz.f166 [.str l, .int .u8 c.toNat] [] (.str (Z2O c l)) [] := by
 refine stt 23 [.tmp 4] fun X hP hΓ hL hfin => ?_; refine Z0G ?_
 refine Z03.loopM (ι := {k : Nat // k ≤ l.length ∧ Z2O c (l.take k) = Z2O c l}) [ff,tt,ff,ff,tt,ff,ff,ff,ff,ff,ff,ff,ff,ff,ff,ff,ff,ff,ff,ff,ff,ff,ff] (fun i => [(0, .str (l.take i.1))]) (fun i => []) (fun i => i.1) ⟨l.length, Nat.le_refl _, by rw [List.take_length]⟩ ?_ ?_
 ·rw [hL, List.take_length]
  exact Z07.sameA
 rintro ⟨k, hk, hg⟩
 cases k with
 | zero =>
  have e : l.take 0 = [] := List.take_zero
  rw [e] at hg
  refine gxq e ?_
  rw [← hg]
  exact Z07.sameA
 | succ k =>
 have hm : (l.take (k + 1)).length = k + 1 := by rw [List.length_take]; omega
 have d0 : decide ((0 : Int) < (k : Int) + 1) = true := decide_eq_true (by omega)
 have g0 : (l.take (k + 1)).getD k 0 = l.getD k 0 := by simp [List.getD, List.getElem?_take]
 have w1 : IntKind.i64.wrap ((k : Int) + 1 - 1) = (k : Int) := by rw [Z0u _ (by constructor <;> omega)]; omega
 have hmn : min (k + 1) l.length = k + 1 := by omega
 by_cases c1 : l.getD k 0 = c
 ·refine gxq (cj5 hmn d0 w1 g0 c1) ?_
  refine ⟨by omega, by omega, ⟨k, by omega, by rw [← Zbp c l k (by omega) c1]; exact hg⟩, by simp only; omega, ?_⟩
  have e : List.take k (List.take (k + 1) l) = l.take k := by rw [List.take_take, Nat.min_eq_left (by omega)]
  rw [e]
  exact Z07.sameA
 ·have d1 : decide (((l.getD k 0).toNat : Int) = (c.toNat : Int)) = false := decide_eq_false (fun h => c1 (UInt8.toNat_inj.1 (by omega)))
  refine gxq (cj5 hmn d0 w1 g0 d1) ?_
  refine ⟨by omega, ?_⟩
  rw [← hg, Zcm c l k (by omega) c1]
  exact Z07.sameA
theorem con166 {Γ : Env} (h : Z01 Tryz.prog Γ)  : Con Tryz.prog 166 S166 :=
 Z0W h (fn := Tryz.f166) (by kernel_rfl) rfl (by kernel_rfl) inj166 (by first | (intro h; cases h; done) | exact fun _ _ => rfl) fun ⟨l, c⟩ h => body166 Γ l c h
theorem Zcl (c : UInt8) (l : List UInt8) : (Z2O c l).length ≤ l.length := by
 unfold Z2O
 rw [List.length_reverse]
 exact Nat.le_trans (List.dropWhile_suffix _).length_le (by rw [List.length_reverse]; exact Nat.le_refl _)
def ZmP : List UInt8 × (UInt8) → List AV := fun (l, c) => [.str l, .str [c]]
def ZqZ : List UInt8 × (UInt8) → Prop := fun (l, c) => l.length ≤ 4194304 ∧ c.toNat < 128
def Zqq : List UInt8 × (UInt8) → AV := fun (l, c) => .str (Z3b c (Z2O c l))
def ZrN : List UInt8 × (UInt8) → Z02 := fun (l, c) => []
theorem inj157 : ∀ a b, ZmP a = ZmP b → a = b := by
 rintro ⟨l, c⟩ ⟨l', c'⟩ h
 simp only [ZmP, Z0g, Z0i, Z0k, Z0j, UInt8.toNat_inj, Z0C, List.cons.injEq] at h
 simp_all only
noncomputable def S157 : Z0p := Z5Y ZmP ZqZ Zqq ZrN true
theorem ZqJ (l : List UInt8) (c : (UInt8)) : Z5U ZmP ZqZ [.str l, .str [c]] = (l.length ≤ 4194304 ∧ c.toNat < 128) := Z14 inj157 ZqZ (l, c)
theorem Zqb (l : List UInt8) (c : (UInt8)) : Z2q ZmP Zqq .any [.str l, .str [c]] = (.str (Z3b c (Z2O c l))) := Z0w inj157 Zqq .any (l, c)
theorem Zrv (l : List UInt8) (c : (UInt8)) : Z2q ZmP ZrN [] [.str l, .str [c]] = ([]) := Z0w inj157 ZrN [] (l, c)
attribute [push_cast] S157 ZqJ Zqb Zrv
theorem body157 (Γ : Env) (h165 : Γ 165 = some S165) (h166 : Γ 166 = some S166) (l : List UInt8) (c : UInt8) (hl : l.length ≤ 4194304) (hc : c.toNat < 128) : Z08 Tryz.prog Γ Tryz.f157 [.str l, .str [c]] [] (.str (Z3b c (Z2O c l))) [] := by
 have hc' : decide ((c.toNat : Int) < 128) = true := decide_eq_true (by omega)
 have hr := Zcl c l
 by_cases hn : l = []
 ·subst hn
  have e : Z3b c (Z2O c []) = [] := rfl
  rw [e]
  refine stt 43 [.tmp 4] fun X hP hΓ hL hfin => ?_; refine gxq (cj3 h165 h166 hc') ?_
  exact Z07.sameA
 have hb : (l == ([] : List UInt8)) = false := by simpa using hn
 refine stt 43 [.tmp 4] fun X hP hΓ hL hfin => ?_; refine gxq (cj4 h165 h166 hc' hb) ?_
 refine ⟨by omega, ?_⟩
 refine Z03.drawnQ smp (by kernel_rfl) (gwq (cj2 h165 h166) ?_)
 refine ⟨by omega, hl, by omega, by omega, ?_⟩
 exact Z07.sameA
theorem con157 {Γ : Env} (h : Z01 Tryz.prog Γ) (h165 : Γ 165 = some S165) (h166 : Γ 166 = some S166) : Con Tryz.prog 157 S157 :=
 Z0W h (fn := Tryz.f157) (by kernel_rfl) rfl (by kernel_rfl) inj157 (by first | (intro h; cases h; done) | exact fun _ _ => rfl) fun ⟨l, c⟩ h => body157 Γ h165 h166 l c h.1 h.2
structure Fl where
 nm : List UInt8
 hd : Int
 ln : Int
 se : List Int
 deriving Inhabited, DecidableEq
def flC (f : Fl) : List AV := [.str f.nm, .int .i64 f.hd, .int .i64 f.ln, .sl (f.se.map (AV.int .i64)) f.se.length]
instance : Z27 flC 4 := ⟨fun _ => rfl⟩
instance : Z28 flC := ⟨fun x => by simp only [flC, Z1O, Z0v, Z1c, Bool.and_self], fun x => rfl⟩
theorem Zl1 : ∀ {a b : List Fl}, a.flatMap flC = b.flatMap flC → a = b
 | [], [], _ => rfl
 | [], y :: b, h => by simp [flC] at h
 | x :: a, [], h => by simp [flC] at h
 | x :: a, y :: b, h => by
  simp only [List.flatMap_cons, flC, List.cons_append, List.nil_append, List.cons.injEq, AV.str.injEq, AV.int.injEq, true_and, AV.sl.injEq, Z0g, Int.natCast_inj] at h
  obtain ⟨h1, h2, h3, ⟨h4, _⟩, h5⟩ := h
  obtain ⟨a1, a2, a3, a4⟩ := x
  obtain ⟨b1, b2, b3, b4⟩ := y
  simp only at h1 h2 h3 h4
  rw [Zl1 h5, h1, h2, h3, h4]
theorem Z0t {a b : List Fl} : a.flatMap flC = b.flatMap flC ↔ a = b := ⟨Zl1, fun h => by rw [h]⟩
def Z16 (F : List Fl) (Lv U : List Int) (S : List Sec) (W : List Wr) : Z02 := [.row [.ref 1 0 0, .msl 2 F.length 0 F.length, .msl 3 Lv.length 0 Lv.length, .msl 4 0 0 U.length] 4 0, .row [.msl 5 0 0 S.length, .msl 6 W.length 0 W.length] 2 0, .row (F.flatMap flC) 4 F.length, .row (Lv.map (AV.int .i64)) 1 Lv.length, .row (U.map (AV.int .i64)) 1 0, .row (S.flatMap Z2E) 1024 0, .row (W.flatMap wrC) 1025 W.length]
def k139 : List UInt8 × Int → Ct := fun (b, n) => ⟨([.sl (b.map Z04) b.length, .int .i64 n], []), True, .fn (.func 155) [] [.ref 0 0 0, .ref 1 0 0], [.row [.int .i64 n] 1 0, .row [.sl (b.map Z04) b.length] 1 0]⟩
theorem inj139 : ∀ a b, (k139 a).a = (k139 b).a → a = b := by
 rintro ⟨b, n⟩ ⟨b', n'⟩ h
 simp only [k139, Z0g, Z0i, Z0k, Z0j, UInt8.toNat_inj, Z09, Z0c, Z0t, Z0s, Z1b, Z16, Z0C, List.cons.injEq] at h
 simp_all only
noncomputable def S139 : Z0p := Z0V true k139
theorem ks139 (b : List UInt8) (n : Int) : KS k139 ([.sl (b.map Z04) b.length, .int .i64 n], []) (True) (.fn (.func 155) [] [.ref 0 0 0, .ref 1 0 0]) ([.row [.int .i64 n] 1 0, .row [.sl (b.map Z04) b.length] 1 0]) := kat inj139 (b, n)
attribute [push_cast] S139 ks139
theorem body139 (Γ : Env) (b : List UInt8) (n : Int) : Z08 Tryz.prog Γ Tryz.f139 [.sl (b.map Z04) b.length, .int .i64 n] [] (.fn (.func 155) [] [.ref 0 0 0, .ref 1 0 0]) [.row [.int .i64 n] 1 0, .row [.sl (b.map Z04) b.length] 1 0] := by
 refine stt 6 [.tmp 4] fun X hP hΓ hL hfin => ?_; refine Z0G ?_
 exact Z0o.base [1, 0] ⟨sml, smr, (by decide), (by first | rfl | decide), sm, sm⟩ smd
theorem con139 {Γ : Env} (h : Z01 Tryz.prog Γ)  : Con Tryz.prog 139 S139 :=
 kcn h (fn := Tryz.f139) inj139 fun ⟨b, n⟩ _ => body139 Γ b n
def enB (b : List UInt8) (i : Nat) : List UInt8 := (b.drop (8 + 32 * i)).take 24
def enN (b : List UInt8) (i : Nat) : List UInt8 := Z9g (enB b i) 0
def enR (b : List UInt8) (i : Nat) : List UInt8 := Za9 (enB b i) 0
def enH (b : List UInt8) (i : Nat) : Int := getW b (4 * ((8 + 32 * i + 24) / 4))
def enL (b : List UInt8) (i : Nat) : Int := getW b (4 * ((8 + 32 * i + 24) / 4 + 1))
def Zkm (b : List UInt8) (i : Nat) : Bool := Z2Z (enN b i) && (Z3b 0 (Z2O 0 (enR b i)) == [])
end Go.Proofs.YtbnnhffkbcekcaaGreatDoor.dirDone
end
