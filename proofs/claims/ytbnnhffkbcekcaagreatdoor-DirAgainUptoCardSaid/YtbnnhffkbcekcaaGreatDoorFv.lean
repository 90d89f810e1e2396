/- What the given rows count as bulk, in the engine's words. -/
import Derived.Test.YtbnnhffkbcekcaaGreatDoorRows
import Derived.Test.YtbnnhffkbcekcaaGreatDoorFd
set_option linter.unusedVariables false
set_option linter.unusedSimpArgs false
namespace Go.Proofs.YtbnnhffkbcekcaaGreatDoor.Up
open Go Go.Eng
mutual
theorem Z8l {H : Type} : ∀ d : DataW H, Rows.uptoBulk d = bk d
 | .lit l => by cases l <;> simp [Rows.uptoBulk, bk]
 | .nil => by simp [Rows.uptoBulk, bk]
 | .ptr d => by simp only [Rows.uptoBulk, bk, Z8l d]
 | .slice a b => by simp only [Rows.uptoBulk, bk, Z59 a, Z59 b]
 | .agg a => by simp only [Rows.uptoBulk, bk, Z59 a]
 | .iface _ d => by simp only [Rows.uptoBulk, bk, Z8l d]
 | .map es => by simp only [Rows.uptoBulk, bk, Zbl es]
 | .held _ => by simp [Rows.uptoBulk, bk]
theorem Z59 {H : Type} : ∀ l : List (DataW H), Rows.uptoBulkAll l = bkL l
 | [] => by simp [Rows.uptoBulkAll, bkL]
 | d :: r => by simp only [Rows.uptoBulkAll, bkL, Z8l d, Z59 r]
theorem Zbl {H : Type} : ∀ l : List (Lit × DataW H), Rows.uptoBulkEntries l = bkE l
 | [] => by simp [Rows.uptoBulkEntries, bkE]
 | x :: r => by simp only [Rows.uptoBulkEntries, bkE, Zku x, Zbl r]
theorem Zku {H : Type} : ∀ x : Lit × DataW H, Rows.uptoBulkEntry x = bk1 x
 | (l, d) => by cases l <;> simp only [Rows.uptoBulkEntry, bk1, Z8l d]
end
theorem small {H : Type} {l : List (DataW H)} (hk : Rows.uptoSmall H l = true) : bkL l ≤ 1048576 := by
 rw [← Z59]; exact of_decide_eq_true hk
end Go.Proofs.YtbnnhffkbcekcaaGreatDoor.Up