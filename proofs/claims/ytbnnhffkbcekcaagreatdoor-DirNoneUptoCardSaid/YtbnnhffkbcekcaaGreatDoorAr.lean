/- Plain facts on numbers, bits and bytes. -/
import Derived.Test.YtbnnhffkbcekcaaGreatDoorEng12
import Derived.KernelRfl
import Derived.Laws.RangeAny
namespace Go.Eng
open Go Go.Eng
theorem wrap_u64 (n : Nat) (h : n < 2 ^ 64) : IntKind.u64.wrap (n : Int) = (n : Int) := by simp [IntKind.wrap, IntKind.bits, IntKind.signed]; omega
theorem ior64 (x y : Nat) (hx : x < 2 ^ 64) (hy : y < 2 ^ 64) : ibits .or .u64 ↑x ↑y = ((x ||| y : Nat) : Int) := by
  show IntKind.u64.wrap (((BitVec.ofInt 64 (x : Int) ||| BitVec.ofInt 64 (y : Int)).toNat : Nat) : Int) = _
  rw [BitVec.toNat_or, BitVec.ofInt_natCast, BitVec.ofInt_natCast, BitVec.toNat_ofNat, BitVec.toNat_ofNat, Nat.mod_eq_of_lt hx, Nat.mod_eq_of_lt hy]
  exact wrap_u64 _ (Nat.or_lt_two_pow hx hy)
theorem below (p : Nat → Bool) (m : Nat) (h : (List.range m).all p = true) (r : Nat) (hr : r < m) : p r = true := by
  rw [List.all_eq_true] at h; exact h r (List.mem_range.2 hr)
def low7 (c : UInt8) : Nat := c.toNat % 128
theorem iand7 (c : UInt8) : ibits .and .u8 (c.toNat : Int) 127 = (low7 c : Int) := by
  have h := below (fun r => ibits .and .u8 ↑r 127 == (r % 128 : Nat)) 256 (by kernel_rfl) c.toNat c.toNat_lt
  exact eq_of_beq h
theorem drop_bytes {l : List UInt8} {k : Nat} (h : k < l.length) {d : AV} : ((l.map byteAV).drop k).getD 0 d = .int .u8 (l.getD k 0).toNat := by
  simp [List.getD, h, byteAV]
def accU (acc : Nat) (c : UInt8) (i : Nat) : Nat := acc + c.toNat % 128 * 128 ^ i
theorem or_part (acc : Nat) (c : UInt8) (i : Nat) (ha : acc < 128 ^ i) (hi : i ≤ 4) : ibits .or .u64 ↑acc (IntKind.u64.wrap (IntKind.u64.wrap (low7 c : Int) * 2 ^ (min (IntKind.i64.wrap (7 * (i : Int))).toNat IntKind.u64.bits))) = (accU acc c i : Int) := by
  simp only [low7, accU]
  generalize c.toNat = c
  have hp : (128 : Nat) ^ i = 2 ^ (7 * i) := by rw [Nat.pow_mul]
  have hle : 2 ^ (7 * i) ≤ 2 ^ 28 := Nat.pow_le_pow_right (by omega) (by omega)
  have hm : c % 128 < 128 := Nat.mod_lt _ (by omega)
  have hw : IntKind.i64.wrap (7 * (i : Int)) = ((7 * i : Nat) : Int) := by rw [wrap_i64 _ (by omega)]; simp
  have hmul : c % 128 * 2 ^ (7 * i) ≤ 127 * 2 ^ 28 := Nat.mul_le_mul (by omega) hle
  rw [wrap_u64 _ (by omega), hw, Int.toNat_natCast, show min (7 * i) IntKind.u64.bits = 7 * i by simp [IntKind.bits]; omega]
  rw [show ((c % 128 : Nat) : Int) * 2 ^ (7 * i) = ((c % 128 * 2 ^ (7 * i) : Nat) : Int) by simp]
  rw [wrap_u64 _ (by omega), ior64 _ _ (by omega) (by omega), hp, Nat.or_comm, ← Nat.shiftLeft_eq, ← Nat.shiftLeft_add_eq_or_of_lt (by omega), Nat.add_comm]
/-- a rune that begins at a high byte: all of its bytes are high, and stand within the text -/
theorem rune_span {l : List UInt8} {k : Nat} (h : k < l.length) (ha : 128 ≤ (l.getD k 0).toNat) : 128 ≤ (runeAt l k).1 ∧ 1 ≤ (runeAt l k).2 ∧ k + (runeAt l k).2 ≤ l.length ∧ ∀ j, j < (runeAt l k).2 → 128 ≤ (l.getD (k + j) 0).toNat := by
  have hget : ∀ j, k + j < l.length → ((⟨l.toArray⟩ : ByteArray).get! (k + j)) = l.getD (k + j) 0 := by
    intro j hj
    show (l.toArray)[k + j]! = _
    simp [hj, List.getD]
  have hsz : (⟨l.toArray⟩ : ByteArray).size = l.length := by simp [ByteArray.size]
  have h0 := hget 0 (by omega)
  simp only [Nat.add_zero] at h0
  have hr : runeAt l k = Utf8.decode ⟨l.toArray⟩ k := rfl
  have e0 : 128 ≤ (runeAt l k).1 := rune_hi h ha
  refine ⟨e0, ?_⟩
  rw [hr]
  have hj0 : ∀ j, j < 1 → 128 ≤ (l.getD (k + j) 0).toNat := fun j hj => by
    have : j = 0 := by omega
    subst this; exact ha
  have hco : ∀ j, (decide (k + j < (⟨l.toArray⟩ : ByteArray).size) && ((⟨l.toArray⟩ : ByteArray).get! (k + j)).toNat / 64 == 2) = true → k + j < l.length ∧ 128 ≤ (l.getD (k + j) 0).toNat := fun j hj => by
    simp only [Bool.and_eq_true, decide_eq_true_eq, beq_iff_eq, hsz] at hj
    rw [hget j hj.1] at hj
    exact ⟨hj.1, by omega⟩
  simp only [Utf8.decode, Nat.add_zero, h0, show ¬ (l.getD k 0).toNat < 128 by omega, if_false]
  split
  · rename_i hc
    simp only [Bool.and_eq_true] at hc
    have c1 := hco 1 (by simp only [Bool.and_eq_true]; exact hc.2)
    split
    · refine ⟨by simp, by simp only; omega, fun j hj => ?_⟩
      simp only at hj
      rcases (by omega : j = 0 ∨ j = 1) with rfl | rfl
      · exact ha
      · exact c1.2
    · exact ⟨by simp, by simp only; omega, fun j hj => hj0 j hj⟩
  · split
    · rename_i hc
      simp only [Bool.and_eq_true] at hc
      have c1 := hco 1 (by simp only [Bool.and_eq_true]; exact hc.1.2)
      have c2 := hco 2 (by simp only [Bool.and_eq_true]; exact hc.2)
      split
      · refine ⟨by simp, by simp only; omega, fun j hj => ?_⟩
        simp only at hj
        rcases (by omega : j = 0 ∨ j = 1 ∨ j = 2) with rfl | rfl | rfl
        · exact ha
        · exact c1.2
        · exact c2.2
      · exact ⟨by simp, by simp only; omega, fun j hj => hj0 j hj⟩
    · split
      · rename_i hc
        simp only [Bool.and_eq_true] at hc
        have c1 := hco 1 (by simp only [Bool.and_eq_true]; exact hc.1.1.2)
        have c2 := hco 2 (by simp only [Bool.and_eq_true]; exact hc.1.2)
        have c3 := hco 3 (by simp only [Bool.and_eq_true]; exact hc.2)
        split
        · refine ⟨by simp, by simp only; omega, fun j hj => ?_⟩
          simp only at hj
          rcases (by omega : j = 0 ∨ j = 1 ∨ j = 2 ∨ j = 3) with rfl | rfl | rfl | rfl
          · exact ha
          · exact c1.2
          · exact c2.2
          · exact c3.2
        · exact ⟨by simp, by simp only; omega, fun j hj => hj0 j hj⟩
      · exact ⟨by simp, by simp only; omega, fun j hj => hj0 j hj⟩
end Go.Eng
