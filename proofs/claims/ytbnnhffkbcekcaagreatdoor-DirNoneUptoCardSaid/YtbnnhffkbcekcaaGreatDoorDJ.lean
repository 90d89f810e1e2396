/- Of disks: what is called by the law of a directory that is none, in its order. -/
import Derived.Test.YtbnnhffkbcekcaaGreatDoorDI
namespace Go.Proofs.YtbnnhffkbcekcaaGreatDoor.dirDone
open Go Go.Eng Go.Proofs Go.RowKit
set_option linter.unusedVariables false
set_option linter.unusedSimpArgs false
set_option maxRecDepth 100000
noncomputable def dn0 : Env := noE
theorem dn0_ok : EnvOk Tryz.prog dn0 := noE_ok _
noncomputable def dn1 : Env := addE dn0 116 S116
theorem dn1_ok : EnvOk Tryz.prog dn1 := dn0_ok.add (con116 dn0_ok)
noncomputable def dn2 : Env := addE dn1 64 S64
theorem dn2_ok : EnvOk Tryz.prog dn2 := dn1_ok.add (con64 dn1_ok rfl)
noncomputable def dn3 : Env := addE dn2 113 S113
theorem dn3_ok : EnvOk Tryz.prog dn3 := dn2_ok.add (con113 dn2_ok rfl)
noncomputable def dn4 : Env := addE dn3 31 S31
theorem dn4_ok : EnvOk Tryz.prog dn4 := dn3_ok.add (con31 dn3_ok)
noncomputable def dn5 : Env := addE dn4 115 S115
theorem dn5_ok : EnvOk Tryz.prog dn5 := dn4_ok.add (con115 dn4_ok)
noncomputable def dn6 : Env := addE dn5 62 S62
theorem dn6_ok : EnvOk Tryz.prog dn6 := dn5_ok.add (con62 dn5_ok rfl)
noncomputable def dn7 : Env := addE dn6 23 S23
theorem dn7_ok : EnvOk Tryz.prog dn7 := dn6_ok.add (con23 dn6_ok)
noncomputable def dn8 : Env := addE dn7 61 S61
theorem dn8_ok : EnvOk Tryz.prog dn8 := dn7_ok.add (con61 dn7_ok rfl)
noncomputable def dn9 : Env := addE dn8 90 S90
theorem dn9_ok : EnvOk Tryz.prog dn9 := dn8_ok.add (con90 dn8_ok rfl)
noncomputable def dn10 : Env := addE dn9 91 S91
theorem dn10_ok : EnvOk Tryz.prog dn10 := dn9_ok.add (con91 dn9_ok)
noncomputable def dn11 : Env := addE dn10 92 S92
theorem dn11_ok : EnvOk Tryz.prog dn11 := dn10_ok.add (con92 dn10_ok rfl)
noncomputable def dn12 : Env := addE dn11 49 S49
theorem dn12_ok : EnvOk Tryz.prog dn12 := dn11_ok.add (con49 dn11_ok)
noncomputable def dn13 : Env := addE dn12 37 S37
theorem dn13_ok : EnvOk Tryz.prog dn13 := dn12_ok.add (con37 dn12_ok rfl rfl rfl)
noncomputable def dn14 : Env := addE dn13 55 S55
theorem dn14_ok : EnvOk Tryz.prog dn14 := dn13_ok.add (con55 dn13_ok rfl rfl)
noncomputable def dn15 : Env := addE dn14 18 S18
theorem dn15_ok : EnvOk Tryz.prog dn15 := dn14_ok.add (con18 dn14_ok rfl rfl)
noncomputable def dn16 : Env := addE dn15 19 S19
theorem dn16_ok : EnvOk Tryz.prog dn16 := dn15_ok.add (con19 dn15_ok)
noncomputable def dn17 : Env := addE dn16 25 S25
theorem dn17_ok : EnvOk Tryz.prog dn17 := dn16_ok.add (con25 dn16_ok rfl rfl rfl rfl)
noncomputable def dn18 : Env := addE dn17 29 S29
theorem dn18_ok : EnvOk Tryz.prog dn18 := dn17_ok.add (con29 dn17_ok)
noncomputable def dn19 : Env := addE dn18 30 S30
theorem dn19_ok : EnvOk Tryz.prog dn19 := dn18_ok.add (con30 dn18_ok)
noncomputable def dn20 : Env := addE dn19 32 S32
theorem dn20_ok : EnvOk Tryz.prog dn20 := dn19_ok.add (con32 dn19_ok)
noncomputable def dn21 : Env := addE dn20 33 S33
theorem dn21_ok : EnvOk Tryz.prog dn21 := dn20_ok.add (con33 dn20_ok)
noncomputable def dn22 : Env := addE dn21 34 S34
theorem dn22_ok : EnvOk Tryz.prog dn22 := dn21_ok.add (con34 dn21_ok)
noncomputable def dn23 : Env := addE dn22 35 S35
theorem dn23_ok : EnvOk Tryz.prog dn23 := dn22_ok.add (con35 dn22_ok)
noncomputable def dn24 : Env := addE dn23 36 S36
theorem dn24_ok : EnvOk Tryz.prog dn24 := dn23_ok.add (con36 dn23_ok)
noncomputable def dn25 : Env := addE dn24 38 S38
theorem dn25_ok : EnvOk Tryz.prog dn25 := dn24_ok.add (con38 dn24_ok)
noncomputable abbrev dnE : Env := dn25
theorem dnE_ok : EnvOk Tryz.prog dnE := dn25_ok
end Go.Proofs.YtbnnhffkbcekcaaGreatDoor.dirDone
