/- Of sources: numbers and strings, as the reference reads them. Plain. -/
import Derived.Test.YtlehfbdkjkgaeaaGreatDoorScR
namespace Go.Scan
set_option linter.unusedVariables false
set_option linter.unusedSimpArgs false
def HX : Bytes := [48, 49, 50, 51, 52, 53, 54, 55, 56, 57, 65, 66, 67, 68, 69, 70]
/-- a digit of base sixteen; below 0: it is none -/
def hexI (c : UInt8) : Int := match hexD c with | some n => n | none => -1
theorem hexI_at : ∀ i < 16, hexI (HX.getD i 0) = (i : Int) := by decide
theorem hexI_no (c : UInt8) (h : ∀ i < 16, HX.getD i 0 ≠ c) : hexI c = -1 := by
  have e : ∀ i, i < 16 → HX.getD i 0 = hx i := by decide
  unfold hexI
  cases hd : hexD c with
  | none => rfl
  | some n =>
    exfalso
    unfold hexD at hd
    have key : ∀ m : Nat, m < 256 → (48 ≤ m ∧ m ≤ 57 ∨ 65 ≤ m ∧ m ≤ 70) → ∃ i, i < 16 ∧ (HX.getD i 0).toNat = m := by decide +kernel
    have hc : 48 ≤ c.toNat ∧ c.toNat ≤ 57 ∨ 65 ≤ c.toNat ∧ c.toNat ≤ 70 := by
      split at hd
      · exact .inl (by assumption)
      · split at hd
        · exact .inr (by assumption)
        · cases hd
    obtain ⟨i, hi, hv⟩ := key c.toNat (UInt8.toNat_lt c) hc
    exact h i hi (UInt8.toNat_inj.1 hv)
/-- a number of base sixteen; none: 0 -/
def numO (o : Option Nat) : Int := match o with | some n => n | none => 0
theorem numM_nil (d : UInt8 → Option Nat) (b most n : Nat) (h : n ≤ most) : (numF d b n []).filter (· ≤ most) = some n := by
  rw [numF, Option.filter_some, if_pos (by simpa using h)]
theorem numM_none (d : UInt8 → Option Nat) (b most n : Nat) (c : UInt8) (r : Bytes) (h : d c = none) : (numF d b n (c :: r)).filter (· ≤ most) = none := by
  rw [numF, h]; rfl
theorem numM_step (d : UInt8 → Option Nat) (b most n x : Nat) (c : UInt8) (r : Bytes) (h : d c = some x) : (numF d b n (c :: r)).filter (· ≤ most) = (numF d b (b * n + x) r).filter (· ≤ most) := by
  rw [numF, h]
theorem drop_c (s : Bytes) (k : Nat) (hk : k < s.length) : s.drop k = s.getD k 0 :: s.drop (k + 1) := by
  rw [List.drop_eq_getElem_cons hk]; simp [List.getD, hk]
theorem hexI_neg (c : UInt8) : (hexI c < 0 ↔ hexD c = none) ∧ ∀ x, hexD c = some x → hexI c = x := by
  unfold hexI
  cases hexD c with
  | none => simp
  | some n => simp
theorem hexD_le (c : UInt8) (x : Nat) (h : hexD c = some x) : x ≤ 15 := by
  unfold hexD at h
  split at h
  · cases h; omega
  split at h
  · cases h; omega
  · cases h
theorem decD_le (c : UInt8) (x : Nat) (h : decD c = some x) : x ≤ 9 := by
  unfold decD at h
  split at h
  · cases h; omega
  · cases h
/-- the place behind a string, from its quote's place; below 0: there is none -/
def quoP (s : Bytes) (k : Nat) : Int := match quo (s.drop (k + 1)) with
  | some t => ((k + t.length + 2 : Nat) : Int)
  | none => -1
end Go.Scan
