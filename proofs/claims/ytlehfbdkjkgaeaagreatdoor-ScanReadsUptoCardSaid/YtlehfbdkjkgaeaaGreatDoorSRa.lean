/- Of sources: the reference's functions, joined. -/
import Derived.Test.YtlehfbdkjkgaeaaGreatDoorReG
namespace Go.Proofs.YtlehfbdkjkgaeaaGreatDoor.scanRef
open Go Go.Eng Go.Proofs Go.Scan Go.RowKit
set_option linter.unusedVariables false
set_option maxRecDepth 100000
set_option maxHeartbeats 4000000
noncomputable def sr0 : Env := noE
theorem sr0_ok : EnvOk Tryz.prog sr0 := noE_ok _
noncomputable def sr1 : Env := addE sr0 30 S30
theorem sr1_ok : EnvOk Tryz.prog sr1 := sr0_ok.add (con30 sr0_ok)
noncomputable def sr2 : Env := addE sr1 31 S31
theorem sr2_ok : EnvOk Tryz.prog sr2 := sr1_ok.add (con31 sr1_ok)
noncomputable def sr3 : Env := addE sr2 27 S27
theorem sr3_ok : EnvOk Tryz.prog sr3 := sr2_ok.add (con27 sr2_ok)
noncomputable def sr4 : Env := addE sr3 29 S29
theorem sr4_ok : EnvOk Tryz.prog sr4 := sr3_ok.add (con29 sr3_ok rfl rfl)
noncomputable def sr5 : Env := addE sr4 28 S28
theorem sr5_ok : EnvOk Tryz.prog sr5 := sr4_ok.add (con28 sr4_ok rfl)
noncomputable def sr6 : Env := addE sr5 13 S13
theorem sr6_ok : EnvOk Tryz.prog sr6 := sr5_ok.add (con13 sr5_ok rfl rfl)
noncomputable def sr7 : Env := addE sr6 64 S64
theorem sr7_ok : EnvOk Tryz.prog sr7 := sr6_ok.add (con64 sr6_ok)
noncomputable def sr8 : Env := addE sr7 47 S47
theorem sr8_ok : EnvOk Tryz.prog sr8 := sr7_ok.add (con47 sr7_ok rfl)
noncomputable def sr9 : Env := addE sr8 48 S48
theorem sr9_ok : EnvOk Tryz.prog sr9 := sr8_ok.add (con48 sr8_ok rfl)
noncomputable def sr10 : Env := addE sr9 33 S33
theorem sr10_ok : EnvOk Tryz.prog sr10 := sr9_ok.add (con33 sr9_ok)
noncomputable def sr11 : Env := addE sr10 49 S49
theorem sr11_ok : EnvOk Tryz.prog sr11 := sr10_ok.add (con49 sr10_ok)
noncomputable def sr12 : Env := addE sr11 32 S32
theorem sr12_ok : EnvOk Tryz.prog sr12 := sr11_ok.add (con32 sr11_ok)
noncomputable def sr13 : Env := addE sr12 35 S35
theorem sr13_ok : EnvOk Tryz.prog sr13 := sr12_ok.add (con35 sr12_ok)
noncomputable def sr14 : Env := addE sr13 36 S36
theorem sr14_ok : EnvOk Tryz.prog sr14 := sr13_ok.add (con36 sr13_ok rfl)
noncomputable def sr15 : Env := addE sr14 34 S34
theorem sr15_ok : EnvOk Tryz.prog sr15 := sr14_ok.add (con34 sr14_ok rfl rfl)
noncomputable def sr16 : Env := addE sr15 14 S14
theorem sr16_ok : EnvOk Tryz.prog sr16 := sr15_ok.add (con14 sr15_ok rfl rfl rfl rfl rfl rfl rfl rfl)
noncomputable def sr17 : Env := addE sr16 5 S5
theorem sr17_ok : EnvOk Tryz.prog sr17 := sr16_ok.add (con5 sr16_ok rfl rfl)
noncomputable abbrev srE : Env := sr17
theorem srE_ok : EnvOk Tryz.prog srE := sr17_ok
end Go.Proofs.YtlehfbdkjkgaeaaGreatDoor.scanRef
