/- Of numbers: digits, one before the other. Plain. -/
import Derived.Test.YtlehfbdkjkgaeaaDoorScW
namespace Go.Scan
set_option linter.unusedVariables false
set_option linter.unusedSimpArgs false
theorem dg_len (b : Nat) (ch : Nat → UInt8) : ∀ (k n : Nat), n < (b + 2) ^ (k + 1) → (dg b ch n).length ≤ k + 1
  | 0, n, h => by
    rw [dg, dif_pos (by simpa using h)]; simp
  | k + 1, n, h => by
    rw [dg]
    split
    · simp
    · have : n / (b + 2) < (b + 2) ^ (k + 1) := Nat.div_lt_of_lt_mul (by rw [Nat.pow_succ] at h; rwa [Nat.mul_comm] at h)
      have := dg_len b ch k _ this
      rw [List.length_append]; simp; omega
theorem hexs_len {n : Nat} (h : n ≤ 4294967295) : (hexs n).length ≤ 8 := dg_len 14 hx 7 n (by simp; omega)
theorem decs_len {n : Nat} (h : n ≤ 18446744073709551615) : (decs n).length ≤ 20 := dg_len 8 dx 19 n (by simp; omega)
/-- digits of n: those of m are still to come -/
def DI (b : Nat) (ch : Nat → UInt8) (n m : Nat) (s : Bytes) : Prop := (s = [] ∧ m = n) ∨ (s ≠ [] ∧ ((m = 0 ∧ s = dg b ch n) ∨ (m ≠ 0 ∧ dg b ch m ++ s = dg b ch n)))
theorem DI.step {b : Nat} {ch : Nat → UInt8} {n m : Nat} {s : Bytes} (h : DI b ch n m s) (hc : s = [] ∨ 0 < m) : DI b ch n (m / (b + 2)) (ch (m % (b + 2)) :: s) := by
  refine .inr ⟨by simp, ?_⟩
  have e : dg b ch m = (if m / (b + 2) = 0 then [] else dg b ch (m / (b + 2))) ++ [ch (m % (b + 2))] := by
    rw [dg]
    split
    · rename_i h1
      rw [if_pos (Nat.div_eq_of_lt h1), Nat.mod_eq_of_lt h1]; rfl
    · rename_i h1
      rw [if_neg]
      intro h2
      have := Nat.div_eq_zero_iff.1 h2
      omega
  have h' : dg b ch m ++ s = dg b ch n := by
    rcases h with ⟨rfl, rfl⟩ | ⟨h1, ⟨h2, h3⟩ | ⟨h2, h3⟩⟩
    · simp
    · rcases hc with hc | hc
      · exact absurd hc h1
      · omega
    · exact h3
  rw [e] at h'
  by_cases h0 : m / (b + 2) = 0
  · rw [if_pos h0] at h'
    exact .inl ⟨h0, by simpa using h'⟩
  · rw [if_neg h0] at h'
    exact .inr ⟨h0, by simpa using h'⟩
theorem DI.len {b : Nat} {ch : Nat → UInt8} {n m : Nat} {s : Bytes} (h : DI b ch n m s) : s.length ≤ (dg b ch n).length := by
  rcases h with ⟨rfl, rfl⟩ | ⟨h1, ⟨h2, h3⟩ | ⟨h2, h3⟩⟩
  · simp
  · rw [h3]; exact Nat.le_refl _
  · rw [← h3]; simp
theorem DI.fin {b : Nat} {ch : Nat → UInt8} {n m : Nat} {s : Bytes} (h : DI b ch n m s) (hs : s ≠ []) (hm : m = 0) : s = dg b ch n := by
  rcases h with ⟨h1, _⟩ | ⟨h1, ⟨h2, h3⟩ | ⟨h2, h3⟩⟩
  · exact absurd h1 hs
  · exact h3
  · exact absurd hm h2
theorem DI.le {b : Nat} {ch : Nat → UInt8} {n m : Nat} {s : Bytes} (h : DI b ch n m s) (hc : s = [] ∨ 0 < m) : m / (b + 2) < m ∨ m = 0 := by
  by_cases h0 : m = 0
  · exact .inr h0
  · exact .inl (Nat.div_lt_self (by omega) (by omega))
end Go.Scan
