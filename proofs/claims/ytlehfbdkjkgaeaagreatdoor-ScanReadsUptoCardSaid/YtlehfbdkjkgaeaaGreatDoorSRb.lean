/- Of sources: the program's functions, joined with the reference's. -/
import Derived.Test.YtlehfbdkjkgaeaaGreatDoorSRa
import Derived.Test.YtlehfbdkjkgaeaaGreatDoorSD
namespace Go.Proofs.YtlehfbdkjkgaeaaGreatDoor.scanDone
open Go Go.Eng Go.Proofs Go.Scan Go.RowKit
set_option linter.unusedVariables false
set_option maxRecDepth 100000
set_option maxHeartbeats 4000000
noncomputable def sa0 : Env := scanRef.srE
theorem sa0_ok : EnvOk Tryz.prog sa0 := scanRef.srE_ok
noncomputable def sa1 : Env := addE sa0 83 S71
theorem sa1_ok : EnvOk Tryz.prog sa1 := sa0_ok.add (con71)
noncomputable def sa2 : Env := addE sa1 63 S52
theorem sa2_ok : EnvOk Tryz.prog sa2 := sa1_ok.add (con52 sa1_ok rfl)
noncomputable def sa3 : Env := addE sa2 46 S38
theorem sa3_ok : EnvOk Tryz.prog sa3 := sa2_ok.add (con38 sa2_ok rfl)
noncomputable def sa4 : Env := addE sa3 81 S69
theorem sa4_ok : EnvOk Tryz.prog sa4 := sa3_ok.add (con69 sa3_ok rfl)
noncomputable def sa5 : Env := addE sa4 61 S50
theorem sa5_ok : EnvOk Tryz.prog sa5 := sa4_ok.add (con50 sa4_ok rfl)
noncomputable def sa6 : Env := addE sa5 43 S35
theorem sa6_ok : EnvOk Tryz.prog sa6 := sa5_ok.add (con35 sa5_ok rfl)
noncomputable def sa7 : Env := addE sa6 45 S37
theorem sa7_ok : EnvOk Tryz.prog sa7 := sa6_ok.add (con37 sa6_ok)
noncomputable def sa8 : Env := addE sa7 82 S70
theorem sa8_ok : EnvOk Tryz.prog sa8 := sa7_ok.add (con70 sa7_ok rfl)
noncomputable def sa9 : Env := addE sa8 62 S51
theorem sa9_ok : EnvOk Tryz.prog sa9 := sa8_ok.add (con51 sa8_ok rfl)
noncomputable def sa10 : Env := addE sa9 44 S36
theorem sa10_ok : EnvOk Tryz.prog sa10 := sa9_ok.add (con36 sa9_ok rfl)
noncomputable def sa11 : Env := addE sa10 70 S58
theorem sa11_ok : EnvOk Tryz.prog sa11 := sa10_ok.add (con58)
noncomputable def sa12 : Env := addE sa11 69 S57
theorem sa12_ok : EnvOk Tryz.prog sa12 := sa11_ok.add (con57 sa11_ok)
noncomputable def sa13 : Env := addE sa12 53 S42
theorem sa13_ok : EnvOk Tryz.prog sa13 := sa12_ok.add (con42 sa12_ok rfl rfl)
noncomputable def sa14 : Env := addE sa13 54 S43
theorem sa14_ok : EnvOk Tryz.prog sa14 := sa13_ok.add (con43)
noncomputable def sa15 : Env := addE sa14 41 S33
theorem sa15_ok : EnvOk Tryz.prog sa15 := sa14_ok.add (con33 sa14_ok rfl rfl)
noncomputable def sa16 : Env := addE sa15 42 S34
theorem sa16_ok : EnvOk Tryz.prog sa16 := sa15_ok.add (con34)
noncomputable def sa17 : Env := addE sa16 8 S12
theorem sa17_ok : EnvOk Tryz.prog sa17 := sa16_ok.add (con12)
noncomputable def sa18 : Env := addE sa17 19 S21
theorem sa18_ok : EnvOk Tryz.prog sa18 := sa17_ok.add (con21 sa17_ok)
noncomputable def sa19 : Env := addE sa18 9 S13
theorem sa19_ok : EnvOk Tryz.prog sa19 := sa18_ok.add (con13 sa18_ok rfl)
noncomputable def sa20 : Env := addE sa19 68 S56
theorem sa20_ok : EnvOk Tryz.prog sa20 := sa19_ok.add (con56 sa19_ok)
noncomputable def sa21 : Env := addE sa20 52 S41
theorem sa21_ok : EnvOk Tryz.prog sa21 := sa20_ok.add (con41 sa20_ok rfl)
noncomputable def sa22 : Env := addE sa21 40 S32
theorem sa22_ok : EnvOk Tryz.prog sa22 := sa21_ok.add (con32 sa21_ok rfl)
noncomputable def sa23 : Env := addE sa22 21 S23
theorem sa23_ok : EnvOk Tryz.prog sa23 := sa22_ok.add (con23 sa22_ok)
noncomputable def sa24 : Env := addE sa23 23 S25
theorem sa24_ok : EnvOk Tryz.prog sa24 := sa23_ok.add (con25 sa23_ok)
noncomputable def sa25 : Env := addE sa24 22 S24
theorem sa25_ok : EnvOk Tryz.prog sa25 := sa24_ok.add (con24 sa24_ok)
noncomputable def sa26 : Env := addE sa25 20 S22
theorem sa26_ok : EnvOk Tryz.prog sa26 := sa25_ok.add (con22 sa25_ok rfl rfl)
noncomputable def sa27 : Env := addE sa26 24 S26
theorem sa27_ok : EnvOk Tryz.prog sa27 := sa26_ok.add (con26 sa26_ok rfl rfl rfl)
noncomputable def sa28 : Env := addE sa27 25 S27
theorem sa28_ok : EnvOk Tryz.prog sa28 := sa27_ok.add (con27 sa27_ok rfl rfl)
noncomputable def sa29 : Env := addE sa28 26 S28
theorem sa29_ok : EnvOk Tryz.prog sa29 := sa28_ok.add (con28 sa28_ok rfl)
noncomputable def sa30 : Env := addE sa29 12 S16
theorem sa30_ok : EnvOk Tryz.prog sa30 := sa29_ok.add (con16 sa29_ok rfl rfl rfl rfl rfl rfl rfl)
noncomputable def sa31 : Env := addE sa30 10 S14
theorem sa31_ok : EnvOk Tryz.prog sa31 := sa30_ok.add (con14 sa30_ok)
noncomputable def sa32 : Env := addE sa31 11 S15
theorem sa32_ok : EnvOk Tryz.prog sa32 := sa31_ok.add (con15 sa31_ok)
noncomputable def sa33 : Env := addE sa32 4 Fz.S7
theorem sa33_ok : EnvOk Tryz.prog sa33 := sa32_ok.add (Fz.con7 sa32_ok rfl rfl rfl rfl rfl)
noncomputable def sa34 : Env := addE sa33 6 S11
theorem sa34_ok : EnvOk Tryz.prog sa34 := sa33_ok.add (con11 sa33_ok)
noncomputable def sa35 : Env := addE sa34 7 S6
theorem sa35_ok : EnvOk Tryz.prog sa35 := sa34_ok.add (con6 sa34_ok rfl)
noncomputable def sa36 : Env := addE sa35 4 S7
theorem sa36_ok : EnvOk Tryz.prog sa36 := sa35_ok.add (con7 sa35_ok rfl rfl rfl rfl rfl)
noncomputable abbrev saE : Env := sa36
theorem saE_ok : EnvOk Tryz.prog saE := sa36_ok
end Go.Proofs.YtlehfbdkjkgaeaaGreatDoor.scanDone
