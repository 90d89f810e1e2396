/- What the given rows count as bulk, in the engine's words. -/
import Derived.Test.YtbnnhffkbcekcaaGreatDoorRows
import Derived.Test.YtbnnhffkbcekcaaGreatDoorEd
namespace Go.Proofs.YtbnnhffkbcekcaaGreatDoor.Up
open Go Go.Eng
mutual
theorem bulk_eq {H : Type} : ∀ d : DataW H, Rows.uptoBulk d = bk d
  | .lit l => by cases l <;> simp [Rows.uptoBulk, bk]
  | .nil => by simp [Rows.uptoBulk, bk]
  | .ptr d => by simp only [Rows.uptoBulk, bk, bulk_eq d]
  | .slice a b => by simp only [Rows.uptoBulk, bk, bulkL_eq a, bulkL_eq b]
  | .agg a => by simp only [Rows.uptoBulk, bk, bulkL_eq a]
  | .iface _ d => by simp only [Rows.uptoBulk, bk, bulk_eq d]
  | .map es => by simp only [Rows.uptoBulk, bk, bulkE_eq es]
  | .held _ => by simp [Rows.uptoBulk, bk]
theorem bulkL_eq {H : Type} : ∀ l : List (DataW H), Rows.uptoBulkAll l = bkL l
  | [] => by simp [Rows.uptoBulkAll, bkL]
  | d :: r => by simp only [Rows.uptoBulkAll, bkL, bulk_eq d, bulkL_eq r]
theorem bulkE_eq {H : Type} : ∀ l : List (Lit × DataW H), Rows.uptoBulkEntries l = bkE l
  | [] => by simp [Rows.uptoBulkEntries, bkE]
  | x :: r => by simp only [Rows.uptoBulkEntries, bkE, bulk1_eq x, bulkE_eq r]
theorem bulk1_eq {H : Type} : ∀ x : Lit × DataW H, Rows.uptoBulkEntry x = bk1 x
  | (l, d) => by cases l <;> simp only [Rows.uptoBulkEntry, bk1, bulk_eq d]
end
theorem small {H : Type} {l : List (DataW H)} (hk : Rows.uptoSmall H l = true) : bkL l ≤ 1048576 := by
  rw [← bulkL_eq]; exact of_decide_eq_true hk
end Go.Proofs.YtbnnhffkbcekcaaGreatDoor.Up
