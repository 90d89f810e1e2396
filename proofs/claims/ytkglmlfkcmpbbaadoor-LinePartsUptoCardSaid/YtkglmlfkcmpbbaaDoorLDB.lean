/- Of lines: the text behind the words, and a line's parts. -/
import Derived.Test.YtkglmlfkcmpbbaaDoorLDA
namespace Go.Lines
/-- what is left of a line after so many words -/
def aft : Nat → List UInt8 → List UInt8
  | 0, l => l
  | n + 1, l => (aft n l).drop (wTo (aft n l))
def posW : Nat → List UInt8 → Nat
  | 0, _ => 0
  | n + 1, l => posW n l + wTo (aft n l)
theorem aft_pos (l : List UInt8) : ∀ n, aft n l = l.drop (posW n l)
  | 0 => rfl
  | n + 1 => by
    conv => lhs; rw [aft, aft_pos l n, List.drop_drop, ← aft_pos l n]
    rw [posW]
theorem posW_le (l : List UInt8) : ∀ n, posW n l ≤ l.length
  | 0 => Nat.zero_le _
  | n + 1 => by
    have h := posW_le l n
    have h2 := wTo_le (aft n l)
    rw [aft_pos l n, List.length_drop] at h2
    rw [posW, aft_pos l n]; omega
/-- the text behind so many words -/
def text (n : Nat) (l : List UInt8) : List UInt8 := (aft n l).drop (wFrom (aft n l))
theorem getD_drop (l : List UInt8) (i j : Nat) : (l.drop i).getD j 0 = l.getD (i + j) 0 := by simp [List.getD]
theorem wFrom_is {l : List UInt8} {f : Nat} (hf : f ≤ l.length) (h1 : ∀ i, i < f → bl (l.getD i 0) = true) (h2 : f = l.length ∨ bl (l.getD f 0) = false) : wFrom l = f := by
  induction f generalizing l with
  | zero =>
    cases l with
    | nil => rfl
    | cons c l =>
      rcases h2 with h2 | h2
      · simp at h2
      · exact wFrom_cons_nb (by simpa using h2)
  | succ f ih =>
    cases l with
    | nil => simp at hf
    | cons c l =>
      rw [wFrom_cons_bl (by simpa using h1 0 (by omega)), ih (by simpa using hf) (fun i hi => by simpa using h1 (i + 1) (by omega)) (h2.imp (fun h2 => by simpa using h2) (fun h2 => by simpa using h2))]
/-- the same, of a tail -/
theorem wFrom_at {l : List UInt8} {p q : Nat} (hpq : p ≤ q) (hq : q ≤ l.length) (h1 : ∀ i, p ≤ i → i < q → bl (l.getD i 0) = true) (h2 : q = l.length ∨ bl (l.getD q 0) = false) : wFrom (l.drop p) = q - p := by
  refine wFrom_is (by simp; omega) (fun i hi => by rw [getD_drop]; exact h1 _ (by omega) (by omega)) ?_
  rw [getD_drop, show p + (q - p) = q by omega, List.length_drop]
  rcases h2 with h2 | h2
  · left; omega
  · exact .inr h2
theorem wTo_at {l : List UInt8} {p q t : Nat} (hpq : p ≤ q) (hqt : q ≤ t) (ht : t ≤ l.length) (h1 : ∀ i, p ≤ i → i < q → bl (l.getD i 0) = true) (h2 : q = l.length ∨ bl (l.getD q 0) = false) (h3 : ∀ i, q ≤ i → i < t → bl (l.getD i 0) = false) (h4 : t = l.length ∨ bl (l.getD t 0) = true) : wTo (l.drop p) = t - p := by
  by_cases hlt : q < t
  · refine (word_is (f := q - p) (t := t - p) (by simp; omega) (by omega) (fun i hi => by rw [getD_drop]; exact h1 _ (by omega) (by omega)) (fun i hi hi' => by rw [getD_drop]; exact h3 _ (by omega) (by omega)) ?_).2
    rw [getD_drop, show p + (t - p) = t by omega, List.length_drop]
    rcases h4 with h4 | h4
    · left; omega
    · exact .inr h4
  · obtain rfl : q = t := by omega
    have : q = l.length := by
      rcases h2 with h2 | h2
      · exact h2
      · rcases h4 with h4 | h4
        · exact h4
        · rw [h2] at h4; cases h4
    rw [(word_none (l := l.drop p) (fun i hi => by rw [getD_drop]; simp at hi; exact h1 _ (by omega) (by omega))).2, List.length_drop]; omega
end Go.Lines
namespace Go.Proofs.YtkglmlfkcmpbbaaDoor.lineDone
open Go Go.Eng Go.Proofs Go.Lines
set_option linter.unusedVariables false
set_option linter.unusedSimpArgs false
end Go.Proofs.YtkglmlfkcmpbbaaDoor.lineDone
