/- What the given rows count as bulk, in the engine's words. -/
import Derived.Test.YtmomhjmaanagaaaGreatRows
import Derived.Test.YtmomhjmaanagaaaGreatEng15
set_option linter.unusedVariables false
set_option linter.unusedSimpArgs false
namespace Go.Proofs.YtmomhjmaanagaaaGreat.Up
open Go Go.Eng
mutual
theorem Z7J{H:Type}:∀d:DataW H,Rows.uptoBulk d=bk d
 | .lit l=>by cases l <;> simp [Rows.uptoBulk,bk]
 | .nil=>by simp [Rows.uptoBulk,bk]
 | .ptr d=>by simp only [Rows.uptoBulk,bk,Z7J d]
 | .slice a b=>by simp only [Rows.uptoBulk,bk,Z4U a,Z4U b]
 | .agg a=>by simp only [Rows.uptoBulk,bk,Z4U a]
 | .iface _ d=>by simp only [Rows.uptoBulk,bk,Z7J d]
 | .map es=>by simp only [Rows.uptoBulk,bk,Z9O es]
 | .held _=>by simp [Rows.uptoBulk,bk]
theorem Z4U{H:Type}:∀l:List (DataW H),Rows.uptoBulkAll l=bkL l
 | []=>by simp [Rows.uptoBulkAll,bkL]
 | d::r=>by simp only [Rows.uptoBulkAll,bkL,Z7J d,Z4U r]
theorem Z9O{H:Type}:∀l:List (Lit×DataW H),Rows.uptoBulkEntries l=bkE l
 | []=>by simp [Rows.uptoBulkEntries,bkE]
 | x::r=>by simp only [Rows.uptoBulkEntries,bkE,Zfv x,Z9O r]
theorem Zfv{H:Type}:∀x:Lit×DataW H,Rows.uptoBulkEntry x=bk1 x
 | (l,d)=>by cases l <;> simp only [Rows.uptoBulkEntry,bk1,Z7J d]
end
theorem small{H:Type}{l:List (DataW H)}(hk:Rows.uptoSmall H l=true):bkL l≤1048576:=by
 rw [←Z4U]; exact of_decide_eq_true hk
end Go.Proofs.YtmomhjmaanagaaaGreat.Up