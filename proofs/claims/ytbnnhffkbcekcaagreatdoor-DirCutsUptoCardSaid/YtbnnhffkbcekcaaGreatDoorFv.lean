/- What the given rows count as bulk, in the engine's words. -/
import Derived.Test.YtbnnhffkbcekcaaGreatDoorRows
import Derived.Test.YtbnnhffkbcekcaaGreatDoorFd
set_option linter.unusedVariables false
set_option linter.unusedSimpArgs false
namespace Go.Proofs.YtbnnhffkbcekcaaGreatDoor.Up
open Go Go.Eng
mutual
theorem Z8b{H:Type}:∀d:DataW H,Rows.uptoBulk d=bk d
 | .lit l=>by cases l <;> simp [Rows.uptoBulk,bk]
 | .nil=>by simp [Rows.uptoBulk,bk]
 | .ptr d=>by simp only [Rows.uptoBulk,bk,Z8b d]
 | .slice a b=>by simp only [Rows.uptoBulk,bk,Z57 a,Z57 b]
 | .agg a=>by simp only [Rows.uptoBulk,bk,Z57 a]
 | .iface _ d=>by simp only [Rows.uptoBulk,bk,Z8b d]
 | .map es=>by simp only [Rows.uptoBulk,bk,Zbb es]
 | .held _=>by simp [Rows.uptoBulk,bk]
theorem Z57{H:Type}:∀l:List (DataW H),Rows.uptoBulkAll l=bkL l
 | []=>by simp [Rows.uptoBulkAll,bkL]
 | d::r=>by simp only [Rows.uptoBulkAll,bkL,Z8b d,Z57 r]
theorem Zbb{H:Type}:∀l:List (Lit×DataW H),Rows.uptoBulkEntries l=bkE l
 | []=>by simp [Rows.uptoBulkEntries,bkE]
 | x::r=>by simp only [Rows.uptoBulkEntries,bkE,ZhJ x,Zbb r]
theorem ZhJ{H:Type}:∀x:Lit×DataW H,Rows.uptoBulkEntry x=bk1 x
 | (l,d)=>by cases l <;> simp only [Rows.uptoBulkEntry,bk1,Z8b d]
end
theorem small{H:Type}{l:List (DataW H)}(hk:Rows.uptoSmall H l=true):bkL l≤1048576:=by
 rw [←Z57]; exact of_decide_eq_true hk
end Go.Proofs.YtbnnhffkbcekcaaGreatDoor.Up