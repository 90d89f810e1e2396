/- Of objects: what is called, in its order; Decode with own rows. -/
import Derived.Test.YtmomhjmaanagaaaGreatOwD
import Derived.Test.YtmomhjmaanagaaaGreatRDm
set_option linter.unusedVariables false
set_option linter.unusedSimpArgs false
set_option maxRecDepth 100000
set_option maxHeartbeats 4000000
namespace Go.Proofs.YtmomhjmaanagaaaGreat.objOwn
open Go Go.Eng Go.Proofs
open Go.Proofs.YtmomhjmaanagaaaGreat.objDone
noncomputable def ow0:Env:=objDone.ecE
theorem ZfW:Z07 Tryz.prog ow0:=objDone.ecE_ok
noncomputable def ow1:Env:=Z14 ow0 32 S77
theorem ZfV:Z07 Tryz.prog ow1:=ZfW.add (con77 ZfW rfl rfl)
noncomputable def ow2:Env:=Z14 ow1 34 S79
theorem ZfU:Z07 Tryz.prog ow2:=ZfV.add (con79 ZfV rfl rfl)
noncomputable def ow3:Env:=Z14 ow2 39 S84
theorem ZfT:Z07 Tryz.prog ow3:=ZfU.add (con84 ZfU rfl rfl)
noncomputable def ow4:Env:=Z14 ow3 43 S88
theorem ZfS:Z07 Tryz.prog ow4:=ZfT.add (con88 ZfT rfl rfl)
noncomputable def ow5:Env:=Z14 ow4 36 S81
theorem ZfR:Z07 Tryz.prog ow5:=ZfS.add (con81 ZfS rfl rfl rfl)
noncomputable def ow6:Env:=Z14 ow5 35 S80
theorem ZfQ:Z07 Tryz.prog ow6:=ZfR.add (con80 ZfR rfl rfl rfl)
noncomputable def ow7:Env:=Z14 ow6 42 S87
theorem ZfP:Z07 Tryz.prog ow7:=ZfQ.add (con87 ZfQ rfl rfl)
noncomputable def ow8:Env:=Z14 ow7 41 S86
theorem ZfO:Z07 Tryz.prog ow8:=ZfP.add (con86 ZfP rfl rfl)
noncomputable def ow9:Env:=Z14 ow8 14 S48
theorem ZfN:Z07 Tryz.prog ow9:=ZfO.add (con48 ZfO rfl rfl rfl rfl rfl rfl rfl rfl rfl)
noncomputable def ow10:Env:=Z14 ow9 6 S21
theorem Zh0:Z07 Tryz.prog ow10:=ZfN.add (con21 ZfN rfl rfl rfl rfl rfl)
noncomputable abbrev owE:Env:=ow10
theorem owE_ok:Z07 Tryz.prog owE:=Zh0
end Go.Proofs.YtmomhjmaanagaaaGreat.objOwn