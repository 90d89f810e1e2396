/- What the given rows count as bulk, in the engine's words. -/
import Derived.Test.YtbnnhffkbcekcaaGreatDoorRows
import Derived.Test.YtbnnhffkbcekcaaGreatDoorFd
set_option linter.unusedVariables false
set_option linter.unusedSimpArgs false
namespace Go.Proofs.YtbnnhffkbcekcaaGreatDoor.Up
open Go Go.Eng
mutual
theorem Z7I {H : Type} : ∀ d : DataW H, Rows.uptoBulk d = bk d
 | .lit l => by cases l <;> simp [Rows.uptoBulk, bk]
 | .nil => by simp [Rows.uptoBulk, bk]
 | .ptr d => by simp only [Rows.uptoBulk, bk, Z7I d]
 | .slice a b => by simp only [Rows.uptoBulk, bk, Z4R a, Z4R b]
 | .agg a => by simp only [Rows.uptoBulk, bk, Z4R a]
 | .iface _ d => by simp only [Rows.uptoBulk, bk, Z7I d]
 | .map es => by simp only [Rows.uptoBulk, bk, ZaF es]
 | .held _ => by simp [Rows.uptoBulk, bk]
theorem Z4R {H : Type} : ∀ l : List (DataW H), Rows.uptoBulkAll l = bkL l
 | [] => by simp [Rows.uptoBulkAll, bkL]
 | d :: r => by simp only [Rows.uptoBulkAll, bkL, Z7I d, Z4R r]
theorem ZaF {H : Type} : ∀ l : List (Lit × DataW H), Rows.uptoBulkEntries l = bkE l
 | [] => by simp [Rows.uptoBulkEntries, bkE]
 | x :: r => by simp only [Rows.uptoBulkEntries, bkE, Zh1 x, ZaF r]
theorem Zh1 {H : Type} : ∀ x : Lit × DataW H, Rows.uptoBulkEntry x = bk1 x
 | (l, d) => by cases l <;> simp only [Rows.uptoBulkEntry, bk1, Z7I d]
end
theorem small {H : Type} {l : List (DataW H)} (hk : Rows.uptoSmall H l = true) : bkL l ≤ 1048576 := by
 rw [← Z4R]; exact of_decide_eq_true hk
end Go.Proofs.YtbnnhffkbcekcaaGreatDoor.Up