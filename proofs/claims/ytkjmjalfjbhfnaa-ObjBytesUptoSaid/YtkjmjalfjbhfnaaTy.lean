/- Facts on the types of this seat's program, printed by a program of ours. -/
import Derived.Test.YtkjmjalfjbhfnaaEng12
import Derived.Test.YtkjmjalfjbhfnaaRows
namespace Go.Proofs.Ytkjmjalfjbhfnaa.Ty
open Go Go.Eng Go.Proofs
theorem sz0 : Try.prog.cellsOf 0 = 1 := by kernel_rfl
theorem by0 : Try.prog.bytesOf 0 = 0 := by kernel_rfl
theorem io0 : (Try.prog.info? 0).isSome = true := by kernel_rfl
theorem eok0 : elemOk Try.prog 0 = false := by kernel_rfl
theorem sty0 : srcTy Try.prog 0 = true := by kernel_rfl
theorem ify0 : ifaceTy Try.prog 0 = false := by kernel_rfl
theorem hz0 : hasZero Try.prog 0 := by unfold hasZero; kernel_rfl
theorem sz1 : Try.prog.cellsOf 1 = 1 := by kernel_rfl
theorem by1 : Try.prog.bytesOf 1 = 8 := by kernel_rfl
theorem io1 : (Try.prog.info? 1).isSome = true := by kernel_rfl
theorem eok1 : elemOk Try.prog 1 = true := by kernel_rfl
theorem sty1 : srcTy Try.prog 1 = true := by kernel_rfl
theorem ify1 : ifaceTy Try.prog 1 = false := by kernel_rfl
theorem hz1 : hasZero Try.prog 1 := by unfold hasZero; kernel_rfl
theorem za1 : zeroA Try.prog 1 = Go.Eng.AV.lit Go.Value.nilFunc := by kernel_rfl
theorem sz2 : Try.prog.cellsOf 2 = 1 := by kernel_rfl
theorem by2 : Try.prog.bytesOf 2 = 8 := by kernel_rfl
theorem io2 : (Try.prog.info? 2).isSome = true := by kernel_rfl
theorem eok2 : elemOk Try.prog 2 = true := by kernel_rfl
theorem sty2 : srcTy Try.prog 2 = false := by kernel_rfl
theorem ify2 : ifaceTy Try.prog 2 = false := by kernel_rfl
theorem kf2 : kindOf Try.prog 2 = some (some Go.IntKind.i64) := by kernel_rfl
theorem sh2 : Try.prog.stoodInHeld 2 = false := by kernel_rfl
theorem eg2 : Try.prog.eqGuardType Try.prog.depth 2 = false := by kernel_rfl
theorem hz2 : hasZero Try.prog 2 := by unfold hasZero; kernel_rfl
theorem za2 : zeroA Try.prog 2 = Go.Eng.AV.int Go.IntKind.i64 0 := by kernel_rfl
theorem sz3 : Try.prog.cellsOf 3 = 1 := by kernel_rfl
theorem by3 : Try.prog.bytesOf 3 = 8 := by kernel_rfl
theorem io3 : (Try.prog.info? 3).isSome = true := by kernel_rfl
theorem eok3 : elemOk Try.prog 3 = true := by kernel_rfl
theorem sty3 : srcTy Try.prog 3 = false := by kernel_rfl
theorem ify3 : ifaceTy Try.prog 3 = false := by kernel_rfl
theorem kf3 : kindOf Try.prog 3 = some (some Go.IntKind.i64) := by kernel_rfl
theorem sh3 : Try.prog.stoodInHeld 3 = false := by kernel_rfl
theorem eg3 : Try.prog.eqGuardType Try.prog.depth 3 = false := by kernel_rfl
theorem hz3 : hasZero Try.prog 3 := by unfold hasZero; kernel_rfl
theorem za3 : zeroA Try.prog 3 = Go.Eng.AV.int Go.IntKind.i64 0 := by kernel_rfl
theorem sz4 : Try.prog.cellsOf 4 = 1 := by kernel_rfl
theorem by4 : Try.prog.bytesOf 4 = 1 := by kernel_rfl
theorem io4 : (Try.prog.info? 4).isSome = true := by kernel_rfl
theorem eok4 : elemOk Try.prog 4 = true := by kernel_rfl
theorem sty4 : srcTy Try.prog 4 = true := by kernel_rfl
theorem ify4 : ifaceTy Try.prog 4 = false := by kernel_rfl
theorem hz4 : hasZero Try.prog 4 := by unfold hasZero; kernel_rfl
theorem za4 : zeroA Try.prog 4 = Go.Eng.AV.bool false := by kernel_rfl
theorem sz5 : Try.prog.cellsOf 5 = 1 := by kernel_rfl
theorem by5 : Try.prog.bytesOf 5 = 1 := by kernel_rfl
theorem io5 : (Try.prog.info? 5).isSome = true := by kernel_rfl
theorem eok5 : elemOk Try.prog 5 = true := by kernel_rfl
theorem sty5 : srcTy Try.prog 5 = false := by kernel_rfl
theorem ify5 : ifaceTy Try.prog 5 = false := by kernel_rfl
theorem kf5 : kindOf Try.prog 5 = some (some Go.IntKind.u8) := by kernel_rfl
theorem sh5 : Try.prog.stoodInHeld 5 = false := by kernel_rfl
theorem eg5 : Try.prog.eqGuardType Try.prog.depth 5 = false := by kernel_rfl
theorem hz5 : hasZero Try.prog 5 := by unfold hasZero; kernel_rfl
theorem za5 : zeroA Try.prog 5 = Go.Eng.AV.int Go.IntKind.u8 0 := by kernel_rfl
theorem sz6 : Try.prog.cellsOf 6 = 1 := by kernel_rfl
theorem by6 : Try.prog.bytesOf 6 = 1 := by kernel_rfl
theorem io6 : (Try.prog.info? 6).isSome = true := by kernel_rfl
theorem eok6 : elemOk Try.prog 6 = true := by kernel_rfl
theorem sty6 : srcTy Try.prog 6 = false := by kernel_rfl
theorem ify6 : ifaceTy Try.prog 6 = false := by kernel_rfl
theorem kf6 : kindOf Try.prog 6 = some (some Go.IntKind.u8) := by kernel_rfl
theorem sh6 : Try.prog.stoodInHeld 6 = false := by kernel_rfl
theorem eg6 : Try.prog.eqGuardType Try.prog.depth 6 = false := by kernel_rfl
theorem hz6 : hasZero Try.prog 6 := by unfold hasZero; kernel_rfl
theorem za6 : zeroA Try.prog 6 = Go.Eng.AV.int Go.IntKind.u8 0 := by kernel_rfl
theorem sz7 : Try.prog.cellsOf 7 = 4 := by kernel_rfl
theorem by7 : Try.prog.bytesOf 7 = 24 := by kernel_rfl
theorem io7 : (Try.prog.info? 7).isSome = true := by kernel_rfl
theorem eok7 : elemOk Try.prog 7 = true := by kernel_rfl
theorem sty7 : srcTy Try.prog 7 = true := by kernel_rfl
theorem ify7 : ifaceTy Try.prog 7 = false := by kernel_rfl
theorem sh7 : Try.prog.stoodInHeld 7 = false := by kernel_rfl
theorem eg7 : Try.prog.eqGuardType Try.prog.depth 7 = false := by kernel_rfl
theorem hz7 : hasZero Try.prog 7 := by unfold hasZero; kernel_rfl
theorem za7 : zeroA Try.prog 7 = Go.Eng.AV.agg [Go.Eng.AV.int Go.IntKind.i64 0, Go.Eng.AV.int Go.IntKind.i64 0, Go.Eng.AV.bool false, Go.Eng.AV.int Go.IntKind.u8 0] := by kernel_rfl
theorem sz8 : Try.prog.cellsOf 8 = 4 := by kernel_rfl
theorem by8 : Try.prog.bytesOf 8 = 24 := by kernel_rfl
theorem io8 : (Try.prog.info? 8).isSome = true := by kernel_rfl
theorem eok8 : elemOk Try.prog 8 = true := by kernel_rfl
theorem sty8 : srcTy Try.prog 8 = true := by kernel_rfl
theorem ify8 : ifaceTy Try.prog 8 = false := by kernel_rfl
theorem sh8 : Try.prog.stoodInHeld 8 = false := by kernel_rfl
theorem eg8 : Try.prog.eqGuardType Try.prog.depth 8 = false := by kernel_rfl
theorem hz8 : hasZero Try.prog 8 := by unfold hasZero; kernel_rfl
theorem za8 : zeroA Try.prog 8 = Go.Eng.AV.agg [Go.Eng.AV.int Go.IntKind.i64 0, Go.Eng.AV.int Go.IntKind.i64 0, Go.Eng.AV.bool false, Go.Eng.AV.int Go.IntKind.u8 0] := by kernel_rfl
theorem sz9 : Try.prog.cellsOf 9 = 1 := by kernel_rfl
theorem by9 : Try.prog.bytesOf 9 = 16 := by kernel_rfl
theorem io9 : (Try.prog.info? 9).isSome = true := by kernel_rfl
theorem eok9 : elemOk Try.prog 9 = true := by kernel_rfl
theorem sty9 : srcTy Try.prog 9 = true := by kernel_rfl
theorem ify9 : ifaceTy Try.prog 9 = false := by kernel_rfl
theorem kf9 : kindOf Try.prog 9 = some none := by kernel_rfl
theorem sh9 : Try.prog.stoodInHeld 9 = false := by kernel_rfl
theorem eg9 : Try.prog.eqGuardType Try.prog.depth 9 = false := by kernel_rfl
theorem hz9 : hasZero Try.prog 9 := by unfold hasZero; kernel_rfl
theorem za9 : zeroA Try.prog 9 = Go.Eng.AV.str [] := by kernel_rfl
theorem sz10 : Try.prog.cellsOf 10 = 1 := by kernel_rfl
theorem by10 : Try.prog.bytesOf 10 = 16 := by kernel_rfl
theorem io10 : (Try.prog.info? 10).isSome = true := by kernel_rfl
theorem eok10 : elemOk Try.prog 10 = true := by kernel_rfl
theorem sty10 : srcTy Try.prog 10 = true := by kernel_rfl
theorem ify10 : ifaceTy Try.prog 10 = false := by kernel_rfl
theorem kf10 : kindOf Try.prog 10 = some none := by kernel_rfl
theorem sh10 : Try.prog.stoodInHeld 10 = false := by kernel_rfl
theorem eg10 : Try.prog.eqGuardType Try.prog.depth 10 = false := by kernel_rfl
theorem hz10 : hasZero Try.prog 10 := by unfold hasZero; kernel_rfl
theorem za10 : zeroA Try.prog 10 = Go.Eng.AV.str [] := by kernel_rfl
theorem sz11 : Try.prog.cellsOf 11 = 1 := by kernel_rfl
theorem by11 : Try.prog.bytesOf 11 = 16 := by kernel_rfl
theorem io11 : (Try.prog.info? 11).isSome = true := by kernel_rfl
theorem eok11 : elemOk Try.prog 11 = true := by kernel_rfl
theorem sty11 : srcTy Try.prog 11 = true := by kernel_rfl
theorem ify11 : ifaceTy Try.prog 11 = false := by kernel_rfl
theorem kf11 : kindOf Try.prog 11 = some none := by kernel_rfl
theorem sh11 : Try.prog.stoodInHeld 11 = false := by kernel_rfl
theorem eg11 : Try.prog.eqGuardType Try.prog.depth 11 = false := by kernel_rfl
theorem hz11 : hasZero Try.prog 11 := by unfold hasZero; kernel_rfl
theorem za11 : zeroA Try.prog 11 = Go.Eng.AV.str [] := by kernel_rfl
theorem sz12 : Try.prog.cellsOf 12 = 1 := by kernel_rfl
theorem by12 : Try.prog.bytesOf 12 = 8 := by kernel_rfl
theorem io12 : (Try.prog.info? 12).isSome = true := by kernel_rfl
theorem eok12 : elemOk Try.prog 12 = true := by kernel_rfl
theorem sty12 : srcTy Try.prog 12 = false := by kernel_rfl
theorem ify12 : ifaceTy Try.prog 12 = false := by kernel_rfl
theorem kf12 : kindOf Try.prog 12 = some (some Go.IntKind.u64) := by kernel_rfl
theorem sh12 : Try.prog.stoodInHeld 12 = false := by kernel_rfl
theorem eg12 : Try.prog.eqGuardType Try.prog.depth 12 = false := by kernel_rfl
theorem hz12 : hasZero Try.prog 12 := by unfold hasZero; kernel_rfl
theorem za12 : zeroA Try.prog 12 = Go.Eng.AV.int Go.IntKind.u64 0 := by kernel_rfl
theorem sz13 : Try.prog.cellsOf 13 = 2 := by kernel_rfl
theorem by13 : Try.prog.bytesOf 13 = 24 := by kernel_rfl
theorem io13 : (Try.prog.info? 13).isSome = true := by kernel_rfl
theorem eok13 : elemOk Try.prog 13 = true := by kernel_rfl
theorem sty13 : srcTy Try.prog 13 = true := by kernel_rfl
theorem ify13 : ifaceTy Try.prog 13 = false := by kernel_rfl
theorem sh13 : Try.prog.stoodInHeld 13 = true := by kernel_rfl
theorem eg13 : Try.prog.eqGuardType Try.prog.depth 13 = false := by kernel_rfl
theorem hz13 : hasZero Try.prog 13 := by unfold hasZero; kernel_rfl
theorem za13 : zeroA Try.prog 13 = Go.Eng.AV.agg [Go.Eng.AV.str [], Go.Eng.AV.int Go.IntKind.u64 0] := by kernel_rfl
theorem sz14 : Try.prog.cellsOf 14 = 2 := by kernel_rfl
theorem by14 : Try.prog.bytesOf 14 = 24 := by kernel_rfl
theorem io14 : (Try.prog.info? 14).isSome = true := by kernel_rfl
theorem eok14 : elemOk Try.prog 14 = true := by kernel_rfl
theorem sty14 : srcTy Try.prog 14 = true := by kernel_rfl
theorem ify14 : ifaceTy Try.prog 14 = false := by kernel_rfl
theorem sh14 : Try.prog.stoodInHeld 14 = true := by kernel_rfl
theorem eg14 : Try.prog.eqGuardType Try.prog.depth 14 = false := by kernel_rfl
theorem hz14 : hasZero Try.prog 14 := by unfold hasZero; kernel_rfl
theorem za14 : zeroA Try.prog 14 = Go.Eng.AV.agg [Go.Eng.AV.str [], Go.Eng.AV.int Go.IntKind.u64 0] := by kernel_rfl
theorem sz15 : Try.prog.cellsOf 15 = 1 := by kernel_rfl
theorem by15 : Try.prog.bytesOf 15 = 8 := by kernel_rfl
theorem io15 : (Try.prog.info? 15).isSome = true := by kernel_rfl
theorem eok15 : elemOk Try.prog 15 = true := by kernel_rfl
theorem sty15 : srcTy Try.prog 15 = true := by kernel_rfl
theorem ify15 : ifaceTy Try.prog 15 = false := by kernel_rfl
theorem hz15 : hasZero Try.prog 15 := by unfold hasZero; kernel_rfl
theorem za15 : zeroA Try.prog 15 = Go.Eng.AV.lit (Go.Value.pointer none) := by kernel_rfl
theorem sz16 : Try.prog.cellsOf 16 = 1 := by kernel_rfl
theorem by16 : Try.prog.bytesOf 16 = 8 := by kernel_rfl
theorem io16 : (Try.prog.info? 16).isSome = true := by kernel_rfl
theorem eok16 : elemOk Try.prog 16 = true := by kernel_rfl
theorem sty16 : srcTy Try.prog 16 = true := by kernel_rfl
theorem ify16 : ifaceTy Try.prog 16 = false := by kernel_rfl
theorem hz16 : hasZero Try.prog 16 := by unfold hasZero; kernel_rfl
theorem za16 : zeroA Try.prog 16 = Go.Eng.AV.lit (Go.Value.pointer none) := by kernel_rfl
theorem sz17 : Try.prog.cellsOf 17 = 1 := by kernel_rfl
theorem by17 : Try.prog.bytesOf 17 = 8 := by kernel_rfl
theorem io17 : (Try.prog.info? 17).isSome = true := by kernel_rfl
theorem eok17 : elemOk Try.prog 17 = true := by kernel_rfl
theorem sty17 : srcTy Try.prog 17 = true := by kernel_rfl
theorem ify17 : ifaceTy Try.prog 17 = false := by kernel_rfl
theorem hz17 : hasZero Try.prog 17 := by unfold hasZero; kernel_rfl
theorem za17 : zeroA Try.prog 17 = Go.Eng.AV.lit (Go.Value.pointer none) := by kernel_rfl
theorem sz18 : Try.prog.cellsOf 18 = 1 := by kernel_rfl
theorem by18 : Try.prog.bytesOf 18 = 8 := by kernel_rfl
theorem io18 : (Try.prog.info? 18).isSome = true := by kernel_rfl
theorem eok18 : elemOk Try.prog 18 = true := by kernel_rfl
theorem sty18 : srcTy Try.prog 18 = true := by kernel_rfl
theorem ify18 : ifaceTy Try.prog 18 = false := by kernel_rfl
theorem hz18 : hasZero Try.prog 18 := by unfold hasZero; kernel_rfl
theorem za18 : zeroA Try.prog 18 = Go.Eng.AV.agg [Go.Eng.AV.lit (Go.Value.pointer none)] := by kernel_rfl
theorem sz19 : Try.prog.cellsOf 19 = 1 := by kernel_rfl
theorem by19 : Try.prog.bytesOf 19 = 8 := by kernel_rfl
theorem io19 : (Try.prog.info? 19).isSome = true := by kernel_rfl
theorem eok19 : elemOk Try.prog 19 = true := by kernel_rfl
theorem sty19 : srcTy Try.prog 19 = true := by kernel_rfl
theorem ify19 : ifaceTy Try.prog 19 = false := by kernel_rfl
theorem hz19 : hasZero Try.prog 19 := by unfold hasZero; kernel_rfl
theorem za19 : zeroA Try.prog 19 = Go.Eng.AV.agg [Go.Eng.AV.lit (Go.Value.pointer none)] := by kernel_rfl
theorem sz20 : Try.prog.cellsOf 20 = 1 := by kernel_rfl
theorem by20 : Try.prog.bytesOf 20 = 16 := by kernel_rfl
theorem io20 : (Try.prog.info? 20).isSome = true := by kernel_rfl
theorem eok20 : elemOk Try.prog 20 = true := by kernel_rfl
theorem sty20 : srcTy Try.prog 20 = true := by kernel_rfl
theorem ify20 : ifaceTy Try.prog 20 = true := by kernel_rfl
theorem hz20 : hasZero Try.prog 20 := by unfold hasZero; kernel_rfl
theorem za20 : zeroA Try.prog 20 = Go.Eng.AV.lit Go.Value.nilIface := by kernel_rfl
theorem sz21 : Try.prog.cellsOf 21 = 1 := by kernel_rfl
theorem by21 : Try.prog.bytesOf 21 = 4 := by kernel_rfl
theorem io21 : (Try.prog.info? 21).isSome = true := by kernel_rfl
theorem eok21 : elemOk Try.prog 21 = true := by kernel_rfl
theorem sty21 : srcTy Try.prog 21 = false := by kernel_rfl
theorem ify21 : ifaceTy Try.prog 21 = false := by kernel_rfl
theorem kf21 : kindOf Try.prog 21 = some (some Go.IntKind.i32) := by kernel_rfl
theorem sh21 : Try.prog.stoodInHeld 21 = false := by kernel_rfl
theorem eg21 : Try.prog.eqGuardType Try.prog.depth 21 = false := by kernel_rfl
theorem hz21 : hasZero Try.prog 21 := by unfold hasZero; kernel_rfl
theorem za21 : zeroA Try.prog 21 = Go.Eng.AV.int Go.IntKind.i32 0 := by kernel_rfl
theorem sz22 : Try.prog.cellsOf 22 = 1 := by kernel_rfl
theorem by22 : Try.prog.bytesOf 22 = 24 := by kernel_rfl
theorem io22 : (Try.prog.info? 22).isSome = true := by kernel_rfl
theorem eok22 : elemOk Try.prog 22 = true := by kernel_rfl
theorem sty22 : srcTy Try.prog 22 = true := by kernel_rfl
theorem ify22 : ifaceTy Try.prog 22 = false := by kernel_rfl
theorem hz22 : hasZero Try.prog 22 := by unfold hasZero; kernel_rfl
theorem za22 : zeroA Try.prog 22 = Go.Eng.AV.lit (Go.Value.slice none 0 0) := by kernel_rfl
theorem sz23 : Try.prog.cellsOf 23 = 1 := by kernel_rfl
theorem by23 : Try.prog.bytesOf 23 = 4 := by kernel_rfl
theorem io23 : (Try.prog.info? 23).isSome = true := by kernel_rfl
theorem eok23 : elemOk Try.prog 23 = true := by kernel_rfl
theorem sty23 : srcTy Try.prog 23 = false := by kernel_rfl
theorem ify23 : ifaceTy Try.prog 23 = false := by kernel_rfl
theorem kf23 : kindOf Try.prog 23 = some (some Go.IntKind.u32) := by kernel_rfl
theorem sh23 : Try.prog.stoodInHeld 23 = false := by kernel_rfl
theorem eg23 : Try.prog.eqGuardType Try.prog.depth 23 = false := by kernel_rfl
theorem hz23 : hasZero Try.prog 23 := by unfold hasZero; kernel_rfl
theorem za23 : zeroA Try.prog 23 = Go.Eng.AV.int Go.IntKind.u32 0 := by kernel_rfl
theorem sz24 : Try.prog.cellsOf 24 = 1 := by kernel_rfl
theorem by24 : Try.prog.bytesOf 24 = 8 := by kernel_rfl
theorem io24 : (Try.prog.info? 24).isSome = true := by kernel_rfl
theorem eok24 : elemOk Try.prog 24 = true := by kernel_rfl
theorem sty24 : srcTy Try.prog 24 = true := by kernel_rfl
theorem ify24 : ifaceTy Try.prog 24 = false := by kernel_rfl
theorem hz24 : hasZero Try.prog 24 := by unfold hasZero; kernel_rfl
theorem za24 : zeroA Try.prog 24 = Go.Eng.AV.lit Go.Value.nilFunc := by kernel_rfl
theorem sz25 : Try.prog.cellsOf 25 = 1 := by kernel_rfl
theorem by25 : Try.prog.bytesOf 25 = 8 := by kernel_rfl
theorem io25 : (Try.prog.info? 25).isSome = true := by kernel_rfl
theorem eok25 : elemOk Try.prog 25 = true := by kernel_rfl
theorem sty25 : srcTy Try.prog 25 = true := by kernel_rfl
theorem ify25 : ifaceTy Try.prog 25 = false := by kernel_rfl
theorem hz25 : hasZero Try.prog 25 := by unfold hasZero; kernel_rfl
theorem za25 : zeroA Try.prog 25 = Go.Eng.AV.lit Go.Value.nilFunc := by kernel_rfl
theorem sz26 : Try.prog.cellsOf 26 = 1 := by kernel_rfl
theorem by26 : Try.prog.bytesOf 26 = 8 := by kernel_rfl
theorem io26 : (Try.prog.info? 26).isSome = true := by kernel_rfl
theorem eok26 : elemOk Try.prog 26 = true := by kernel_rfl
theorem sty26 : srcTy Try.prog 26 = true := by kernel_rfl
theorem ify26 : ifaceTy Try.prog 26 = false := by kernel_rfl
theorem hz26 : hasZero Try.prog 26 := by unfold hasZero; kernel_rfl
theorem za26 : zeroA Try.prog 26 = Go.Eng.AV.lit Go.Value.nilFunc := by kernel_rfl
theorem sz27 : Try.prog.cellsOf 27 = 1 := by kernel_rfl
theorem by27 : Try.prog.bytesOf 27 = 0 := by kernel_rfl
theorem io27 : (Try.prog.info? 27).isSome = true := by kernel_rfl
theorem eok27 : elemOk Try.prog 27 = false := by kernel_rfl
theorem sty27 : srcTy Try.prog 27 = true := by kernel_rfl
theorem ify27 : ifaceTy Try.prog 27 = false := by kernel_rfl
theorem hz27 : hasZero Try.prog 27 := by unfold hasZero; kernel_rfl
theorem sz28 : Try.prog.cellsOf 28 = 1 := by kernel_rfl
theorem by28 : Try.prog.bytesOf 28 = 8 := by kernel_rfl
theorem io28 : (Try.prog.info? 28).isSome = true := by kernel_rfl
theorem eok28 : elemOk Try.prog 28 = true := by kernel_rfl
theorem sty28 : srcTy Try.prog 28 = true := by kernel_rfl
theorem ify28 : ifaceTy Try.prog 28 = false := by kernel_rfl
theorem hz28 : hasZero Try.prog 28 := by unfold hasZero; kernel_rfl
theorem za28 : zeroA Try.prog 28 = Go.Eng.AV.lit Go.Value.nilFunc := by kernel_rfl
theorem sz29 : Try.prog.cellsOf 29 = 1 := by kernel_rfl
theorem by29 : Try.prog.bytesOf 29 = 0 := by kernel_rfl
theorem io29 : (Try.prog.info? 29).isSome = true := by kernel_rfl
theorem eok29 : elemOk Try.prog 29 = false := by kernel_rfl
theorem sty29 : srcTy Try.prog 29 = true := by kernel_rfl
theorem ify29 : ifaceTy Try.prog 29 = false := by kernel_rfl
theorem hz29 : hasZero Try.prog 29 := by unfold hasZero; kernel_rfl
theorem sz30 : Try.prog.cellsOf 30 = 1 := by kernel_rfl
theorem by30 : Try.prog.bytesOf 30 = 8 := by kernel_rfl
theorem io30 : (Try.prog.info? 30).isSome = true := by kernel_rfl
theorem eok30 : elemOk Try.prog 30 = true := by kernel_rfl
theorem sty30 : srcTy Try.prog 30 = true := by kernel_rfl
theorem ify30 : ifaceTy Try.prog 30 = false := by kernel_rfl
theorem hz30 : hasZero Try.prog 30 := by unfold hasZero; kernel_rfl
theorem za30 : zeroA Try.prog 30 = Go.Eng.AV.lit Go.Value.nilFunc := by kernel_rfl
theorem sz31 : Try.prog.cellsOf 31 = 1 := by kernel_rfl
theorem by31 : Try.prog.bytesOf 31 = 8 := by kernel_rfl
theorem io31 : (Try.prog.info? 31).isSome = true := by kernel_rfl
theorem eok31 : elemOk Try.prog 31 = true := by kernel_rfl
theorem sty31 : srcTy Try.prog 31 = true := by kernel_rfl
theorem ify31 : ifaceTy Try.prog 31 = false := by kernel_rfl
theorem hz31 : hasZero Try.prog 31 := by unfold hasZero; kernel_rfl
theorem za31 : zeroA Try.prog 31 = Go.Eng.AV.lit Go.Value.nilFunc := by kernel_rfl
theorem sz32 : Try.prog.cellsOf 32 = 1 := by kernel_rfl
theorem by32 : Try.prog.bytesOf 32 = 24 := by kernel_rfl
theorem io32 : (Try.prog.info? 32).isSome = true := by kernel_rfl
theorem eok32 : elemOk Try.prog 32 = true := by kernel_rfl
theorem sty32 : srcTy Try.prog 32 = true := by kernel_rfl
theorem ify32 : ifaceTy Try.prog 32 = false := by kernel_rfl
theorem hz32 : hasZero Try.prog 32 := by unfold hasZero; kernel_rfl
theorem za32 : zeroA Try.prog 32 = Go.Eng.AV.lit (Go.Value.slice none 0 0) := by kernel_rfl
theorem sz33 : Try.prog.cellsOf 33 = 1 := by kernel_rfl
theorem by33 : Try.prog.bytesOf 33 = 24 := by kernel_rfl
theorem io33 : (Try.prog.info? 33).isSome = true := by kernel_rfl
theorem eok33 : elemOk Try.prog 33 = true := by kernel_rfl
theorem sty33 : srcTy Try.prog 33 = true := by kernel_rfl
theorem ify33 : ifaceTy Try.prog 33 = false := by kernel_rfl
theorem hz33 : hasZero Try.prog 33 := by unfold hasZero; kernel_rfl
theorem za33 : zeroA Try.prog 33 = Go.Eng.AV.lit (Go.Value.slice none 0 0) := by kernel_rfl
theorem sz34 : Try.prog.cellsOf 34 = 1 := by kernel_rfl
theorem by34 : Try.prog.bytesOf 34 = 24 := by kernel_rfl
theorem io34 : (Try.prog.info? 34).isSome = true := by kernel_rfl
theorem eok34 : elemOk Try.prog 34 = true := by kernel_rfl
theorem sty34 : srcTy Try.prog 34 = true := by kernel_rfl
theorem ify34 : ifaceTy Try.prog 34 = false := by kernel_rfl
theorem hz34 : hasZero Try.prog 34 := by unfold hasZero; kernel_rfl
theorem za34 : zeroA Try.prog 34 = Go.Eng.AV.lit (Go.Value.slice none 0 0) := by kernel_rfl
theorem sz35 : Try.prog.cellsOf 35 = 1 := by kernel_rfl
theorem by35 : Try.prog.bytesOf 35 = 24 := by kernel_rfl
theorem io35 : (Try.prog.info? 35).isSome = true := by kernel_rfl
theorem eok35 : elemOk Try.prog 35 = true := by kernel_rfl
theorem sty35 : srcTy Try.prog 35 = true := by kernel_rfl
theorem ify35 : ifaceTy Try.prog 35 = false := by kernel_rfl
theorem hz35 : hasZero Try.prog 35 := by unfold hasZero; kernel_rfl
theorem za35 : zeroA Try.prog 35 = Go.Eng.AV.lit (Go.Value.slice none 0 0) := by kernel_rfl
theorem sz36 : Try.prog.cellsOf 36 = 1 := by kernel_rfl
theorem by36 : Try.prog.bytesOf 36 = 24 := by kernel_rfl
theorem io36 : (Try.prog.info? 36).isSome = true := by kernel_rfl
theorem eok36 : elemOk Try.prog 36 = true := by kernel_rfl
theorem sty36 : srcTy Try.prog 36 = true := by kernel_rfl
theorem ify36 : ifaceTy Try.prog 36 = false := by kernel_rfl
theorem hz36 : hasZero Try.prog 36 := by unfold hasZero; kernel_rfl
theorem za36 : zeroA Try.prog 36 = Go.Eng.AV.lit (Go.Value.slice none 0 0) := by kernel_rfl
theorem sz37 : Try.prog.cellsOf 37 = 1 := by kernel_rfl
theorem by37 : Try.prog.bytesOf 37 = 24 := by kernel_rfl
theorem io37 : (Try.prog.info? 37).isSome = true := by kernel_rfl
theorem eok37 : elemOk Try.prog 37 = true := by kernel_rfl
theorem sty37 : srcTy Try.prog 37 = true := by kernel_rfl
theorem ify37 : ifaceTy Try.prog 37 = false := by kernel_rfl
theorem hz37 : hasZero Try.prog 37 := by unfold hasZero; kernel_rfl
theorem za37 : zeroA Try.prog 37 = Go.Eng.AV.lit (Go.Value.slice none 0 0) := by kernel_rfl
theorem sz38 : Try.prog.cellsOf 38 = 1 := by kernel_rfl
theorem by38 : Try.prog.bytesOf 38 = 24 := by kernel_rfl
theorem io38 : (Try.prog.info? 38).isSome = true := by kernel_rfl
theorem eok38 : elemOk Try.prog 38 = true := by kernel_rfl
theorem sty38 : srcTy Try.prog 38 = true := by kernel_rfl
theorem ify38 : ifaceTy Try.prog 38 = false := by kernel_rfl
theorem hz38 : hasZero Try.prog 38 := by unfold hasZero; kernel_rfl
theorem za38 : zeroA Try.prog 38 = Go.Eng.AV.lit (Go.Value.slice none 0 0) := by kernel_rfl
theorem sz39 : Try.prog.cellsOf 39 = 13 := by kernel_rfl
theorem by39 : Try.prog.bytesOf 39 = 272 := by kernel_rfl
theorem io39 : (Try.prog.info? 39).isSome = true := by kernel_rfl
theorem eok39 : elemOk Try.prog 39 = true := by kernel_rfl
theorem sty39 : srcTy Try.prog 39 = true := by kernel_rfl
theorem ify39 : ifaceTy Try.prog 39 = false := by kernel_rfl
theorem sh39 : Try.prog.stoodInHeld 39 = false := by kernel_rfl
theorem eg39 : Try.prog.eqGuardType Try.prog.depth 39 = false := by kernel_rfl
theorem hz39 : hasZero Try.prog 39 := by unfold hasZero; kernel_rfl
theorem za39 : zeroA Try.prog 39 = Go.Eng.AV.agg [Go.Eng.AV.str [], Go.Eng.AV.int Go.IntKind.u32 0, Go.Eng.AV.lit (Go.Value.slice none 0 0), Go.Eng.AV.lit (Go.Value.slice none 0 0), Go.Eng.AV.lit (Go.Value.slice none 0 0), Go.Eng.AV.lit (Go.Value.slice none 0 0), Go.Eng.AV.lit (Go.Value.slice none 0 0), Go.Eng.AV.int Go.IntKind.i64 0, Go.Eng.AV.lit (Go.Value.slice none 0 0), Go.Eng.AV.lit (Go.Value.slice none 0 0), Go.Eng.AV.lit (Go.Value.slice none 0 0), Go.Eng.AV.lit (Go.Value.slice none 0 0), Go.Eng.AV.lit (Go.Value.slice none 0 0)] := by kernel_rfl
theorem sz40 : Try.prog.cellsOf 40 = 13 := by kernel_rfl
theorem by40 : Try.prog.bytesOf 40 = 272 := by kernel_rfl
theorem io40 : (Try.prog.info? 40).isSome = true := by kernel_rfl
theorem eok40 : elemOk Try.prog 40 = true := by kernel_rfl
theorem sty40 : srcTy Try.prog 40 = true := by kernel_rfl
theorem ify40 : ifaceTy Try.prog 40 = false := by kernel_rfl
theorem sh40 : Try.prog.stoodInHeld 40 = false := by kernel_rfl
theorem eg40 : Try.prog.eqGuardType Try.prog.depth 40 = false := by kernel_rfl
theorem hz40 : hasZero Try.prog 40 := by unfold hasZero; kernel_rfl
theorem za40 : zeroA Try.prog 40 = Go.Eng.AV.agg [Go.Eng.AV.str [], Go.Eng.AV.int Go.IntKind.u32 0, Go.Eng.AV.lit (Go.Value.slice none 0 0), Go.Eng.AV.lit (Go.Value.slice none 0 0), Go.Eng.AV.lit (Go.Value.slice none 0 0), Go.Eng.AV.lit (Go.Value.slice none 0 0), Go.Eng.AV.lit (Go.Value.slice none 0 0), Go.Eng.AV.int Go.IntKind.i64 0, Go.Eng.AV.lit (Go.Value.slice none 0 0), Go.Eng.AV.lit (Go.Value.slice none 0 0), Go.Eng.AV.lit (Go.Value.slice none 0 0), Go.Eng.AV.lit (Go.Value.slice none 0 0), Go.Eng.AV.lit (Go.Value.slice none 0 0)] := by kernel_rfl
theorem sz41 : Try.prog.cellsOf 41 = 1 := by kernel_rfl
theorem by41 : Try.prog.bytesOf 41 = 8 := by kernel_rfl
theorem io41 : (Try.prog.info? 41).isSome = true := by kernel_rfl
theorem eok41 : elemOk Try.prog 41 = true := by kernel_rfl
theorem sty41 : srcTy Try.prog 41 = true := by kernel_rfl
theorem ify41 : ifaceTy Try.prog 41 = false := by kernel_rfl
theorem hz41 : hasZero Try.prog 41 := by unfold hasZero; kernel_rfl
theorem za41 : zeroA Try.prog 41 = Go.Eng.AV.lit Go.Value.nilFunc := by kernel_rfl
theorem sz42 : Try.prog.cellsOf 42 = 1 := by kernel_rfl
theorem by42 : Try.prog.bytesOf 42 = 8 := by kernel_rfl
theorem io42 : (Try.prog.info? 42).isSome = true := by kernel_rfl
theorem eok42 : elemOk Try.prog 42 = true := by kernel_rfl
theorem sty42 : srcTy Try.prog 42 = true := by kernel_rfl
theorem ify42 : ifaceTy Try.prog 42 = false := by kernel_rfl
theorem hz42 : hasZero Try.prog 42 := by unfold hasZero; kernel_rfl
theorem za42 : zeroA Try.prog 42 = Go.Eng.AV.lit Go.Value.nilFunc := by kernel_rfl
theorem sz43 : Try.prog.cellsOf 43 = 1 := by kernel_rfl
theorem by43 : Try.prog.bytesOf 43 = 8 := by kernel_rfl
theorem io43 : (Try.prog.info? 43).isSome = true := by kernel_rfl
theorem eok43 : elemOk Try.prog 43 = true := by kernel_rfl
theorem sty43 : srcTy Try.prog 43 = false := by kernel_rfl
theorem ify43 : ifaceTy Try.prog 43 = false := by kernel_rfl
theorem kf43 : kindOf Try.prog 43 = some (some Go.IntKind.i64) := by kernel_rfl
theorem sh43 : Try.prog.stoodInHeld 43 = false := by kernel_rfl
theorem eg43 : Try.prog.eqGuardType Try.prog.depth 43 = false := by kernel_rfl
theorem hz43 : hasZero Try.prog 43 := by unfold hasZero; kernel_rfl
theorem za43 : zeroA Try.prog 43 = Go.Eng.AV.int Go.IntKind.i64 0 := by kernel_rfl
theorem sz44 : Try.prog.cellsOf 44 = 1 := by kernel_rfl
theorem by44 : Try.prog.bytesOf 44 = 0 := by kernel_rfl
theorem io44 : (Try.prog.info? 44).isSome = true := by kernel_rfl
theorem eok44 : elemOk Try.prog 44 = false := by kernel_rfl
theorem sty44 : srcTy Try.prog 44 = true := by kernel_rfl
theorem ify44 : ifaceTy Try.prog 44 = false := by kernel_rfl
theorem hz44 : hasZero Try.prog 44 := by unfold hasZero; kernel_rfl
theorem sz45 : Try.prog.cellsOf 45 = 1 := by kernel_rfl
theorem by45 : Try.prog.bytesOf 45 = 8 := by kernel_rfl
theorem io45 : (Try.prog.info? 45).isSome = true := by kernel_rfl
theorem eok45 : elemOk Try.prog 45 = true := by kernel_rfl
theorem sty45 : srcTy Try.prog 45 = true := by kernel_rfl
theorem ify45 : ifaceTy Try.prog 45 = false := by kernel_rfl
theorem hz45 : hasZero Try.prog 45 := by unfold hasZero; kernel_rfl
theorem za45 : zeroA Try.prog 45 = Go.Eng.AV.lit Go.Value.nilFunc := by kernel_rfl
theorem sz46 : Try.prog.cellsOf 46 = 1 := by kernel_rfl
theorem by46 : Try.prog.bytesOf 46 = 8 := by kernel_rfl
theorem io46 : (Try.prog.info? 46).isSome = true := by kernel_rfl
theorem eok46 : elemOk Try.prog 46 = true := by kernel_rfl
theorem sty46 : srcTy Try.prog 46 = true := by kernel_rfl
theorem ify46 : ifaceTy Try.prog 46 = false := by kernel_rfl
theorem hz46 : hasZero Try.prog 46 := by unfold hasZero; kernel_rfl
theorem za46 : zeroA Try.prog 46 = Go.Eng.AV.lit Go.Value.nilFunc := by kernel_rfl
theorem sz47 : Try.prog.cellsOf 47 = 1 := by kernel_rfl
theorem by47 : Try.prog.bytesOf 47 = 0 := by kernel_rfl
theorem io47 : (Try.prog.info? 47).isSome = true := by kernel_rfl
theorem eok47 : elemOk Try.prog 47 = false := by kernel_rfl
theorem sty47 : srcTy Try.prog 47 = true := by kernel_rfl
theorem ify47 : ifaceTy Try.prog 47 = false := by kernel_rfl
theorem hz47 : hasZero Try.prog 47 := by unfold hasZero; kernel_rfl
theorem sz48 : Try.prog.cellsOf 48 = 1 := by kernel_rfl
theorem by48 : Try.prog.bytesOf 48 = 8 := by kernel_rfl
theorem io48 : (Try.prog.info? 48).isSome = true := by kernel_rfl
theorem eok48 : elemOk Try.prog 48 = true := by kernel_rfl
theorem sty48 : srcTy Try.prog 48 = true := by kernel_rfl
theorem ify48 : ifaceTy Try.prog 48 = false := by kernel_rfl
theorem hz48 : hasZero Try.prog 48 := by unfold hasZero; kernel_rfl
theorem za48 : zeroA Try.prog 48 = Go.Eng.AV.lit Go.Value.nilFunc := by kernel_rfl
theorem sz49 : Try.prog.cellsOf 49 = 1 := by kernel_rfl
theorem by49 : Try.prog.bytesOf 49 = 8 := by kernel_rfl
theorem io49 : (Try.prog.info? 49).isSome = true := by kernel_rfl
theorem eok49 : elemOk Try.prog 49 = true := by kernel_rfl
theorem sty49 : srcTy Try.prog 49 = true := by kernel_rfl
theorem ify49 : ifaceTy Try.prog 49 = false := by kernel_rfl
theorem hz49 : hasZero Try.prog 49 := by unfold hasZero; kernel_rfl
theorem za49 : zeroA Try.prog 49 = Go.Eng.AV.lit Go.Value.nilFunc := by kernel_rfl
theorem sz50 : Try.prog.cellsOf 50 = 1 := by kernel_rfl
theorem by50 : Try.prog.bytesOf 50 = 8 := by kernel_rfl
theorem io50 : (Try.prog.info? 50).isSome = true := by kernel_rfl
theorem eok50 : elemOk Try.prog 50 = true := by kernel_rfl
theorem sty50 : srcTy Try.prog 50 = true := by kernel_rfl
theorem ify50 : ifaceTy Try.prog 50 = false := by kernel_rfl
theorem hz50 : hasZero Try.prog 50 := by unfold hasZero; kernel_rfl
theorem za50 : zeroA Try.prog 50 = Go.Eng.AV.lit Go.Value.nilFunc := by kernel_rfl
theorem sz51 : Try.prog.cellsOf 51 = 1 := by kernel_rfl
theorem by51 : Try.prog.bytesOf 51 = 8 := by kernel_rfl
theorem io51 : (Try.prog.info? 51).isSome = true := by kernel_rfl
theorem eok51 : elemOk Try.prog 51 = true := by kernel_rfl
theorem sty51 : srcTy Try.prog 51 = true := by kernel_rfl
theorem ify51 : ifaceTy Try.prog 51 = false := by kernel_rfl
theorem hz51 : hasZero Try.prog 51 := by unfold hasZero; kernel_rfl
theorem za51 : zeroA Try.prog 51 = Go.Eng.AV.lit Go.Value.nilFunc := by kernel_rfl
theorem sz52 : Try.prog.cellsOf 52 = 1 := by kernel_rfl
theorem by52 : Try.prog.bytesOf 52 = 8 := by kernel_rfl
theorem io52 : (Try.prog.info? 52).isSome = true := by kernel_rfl
theorem eok52 : elemOk Try.prog 52 = true := by kernel_rfl
theorem sty52 : srcTy Try.prog 52 = false := by kernel_rfl
theorem ify52 : ifaceTy Try.prog 52 = false := by kernel_rfl
theorem kf52 : kindOf Try.prog 52 = some (some Go.IntKind.u64) := by kernel_rfl
theorem sh52 : Try.prog.stoodInHeld 52 = false := by kernel_rfl
theorem eg52 : Try.prog.eqGuardType Try.prog.depth 52 = false := by kernel_rfl
theorem hz52 : hasZero Try.prog 52 := by unfold hasZero; kernel_rfl
theorem za52 : zeroA Try.prog 52 = Go.Eng.AV.int Go.IntKind.u64 0 := by kernel_rfl
theorem sz53 : Try.prog.cellsOf 53 = 3 := by kernel_rfl
theorem by53 : Try.prog.bytesOf 53 = 40 := by kernel_rfl
theorem io53 : (Try.prog.info? 53).isSome = true := by kernel_rfl
theorem eok53 : elemOk Try.prog 53 = true := by kernel_rfl
theorem sty53 : srcTy Try.prog 53 = true := by kernel_rfl
theorem ify53 : ifaceTy Try.prog 53 = false := by kernel_rfl
theorem sh53 : Try.prog.stoodInHeld 53 = false := by kernel_rfl
theorem eg53 : Try.prog.eqGuardType Try.prog.depth 53 = false := by kernel_rfl
theorem hz53 : hasZero Try.prog 53 := by unfold hasZero; kernel_rfl
theorem za53 : zeroA Try.prog 53 = Go.Eng.AV.agg [Go.Eng.AV.int Go.IntKind.i64 0, Go.Eng.AV.int Go.IntKind.i64 0, Go.Eng.AV.lit (Go.Value.slice none 0 0)] := by kernel_rfl
theorem sz54 : Try.prog.cellsOf 54 = 3 := by kernel_rfl
theorem by54 : Try.prog.bytesOf 54 = 40 := by kernel_rfl
theorem io54 : (Try.prog.info? 54).isSome = true := by kernel_rfl
theorem eok54 : elemOk Try.prog 54 = true := by kernel_rfl
theorem sty54 : srcTy Try.prog 54 = true := by kernel_rfl
theorem ify54 : ifaceTy Try.prog 54 = false := by kernel_rfl
theorem sh54 : Try.prog.stoodInHeld 54 = false := by kernel_rfl
theorem eg54 : Try.prog.eqGuardType Try.prog.depth 54 = false := by kernel_rfl
theorem hz54 : hasZero Try.prog 54 := by unfold hasZero; kernel_rfl
theorem za54 : zeroA Try.prog 54 = Go.Eng.AV.agg [Go.Eng.AV.int Go.IntKind.i64 0, Go.Eng.AV.int Go.IntKind.i64 0, Go.Eng.AV.lit (Go.Value.slice none 0 0)] := by kernel_rfl
theorem sz55 : Try.prog.cellsOf 55 = 1 := by kernel_rfl
theorem by55 : Try.prog.bytesOf 55 = 8 := by kernel_rfl
theorem io55 : (Try.prog.info? 55).isSome = true := by kernel_rfl
theorem eok55 : elemOk Try.prog 55 = true := by kernel_rfl
theorem sty55 : srcTy Try.prog 55 = true := by kernel_rfl
theorem ify55 : ifaceTy Try.prog 55 = false := by kernel_rfl
theorem hz55 : hasZero Try.prog 55 := by unfold hasZero; kernel_rfl
theorem za55 : zeroA Try.prog 55 = Go.Eng.AV.lit Go.Value.nilFunc := by kernel_rfl
theorem sz56 : Try.prog.cellsOf 56 = 2 := by kernel_rfl
theorem by56 : Try.prog.bytesOf 56 = 24 := by kernel_rfl
theorem io56 : (Try.prog.info? 56).isSome = true := by kernel_rfl
theorem eok56 : elemOk Try.prog 56 = true := by kernel_rfl
theorem sty56 : srcTy Try.prog 56 = true := by kernel_rfl
theorem ify56 : ifaceTy Try.prog 56 = false := by kernel_rfl
theorem sh56 : Try.prog.stoodInHeld 56 = false := by kernel_rfl
theorem eg56 : Try.prog.eqGuardType Try.prog.depth 56 = false := by kernel_rfl
theorem hz56 : hasZero Try.prog 56 := by unfold hasZero; kernel_rfl
theorem za56 : zeroA Try.prog 56 = Go.Eng.AV.agg [Go.Eng.AV.str [], Go.Eng.AV.int Go.IntKind.u32 0] := by kernel_rfl
theorem sz57 : Try.prog.cellsOf 57 = 2 := by kernel_rfl
theorem by57 : Try.prog.bytesOf 57 = 24 := by kernel_rfl
theorem io57 : (Try.prog.info? 57).isSome = true := by kernel_rfl
theorem eok57 : elemOk Try.prog 57 = true := by kernel_rfl
theorem sty57 : srcTy Try.prog 57 = true := by kernel_rfl
theorem ify57 : ifaceTy Try.prog 57 = false := by kernel_rfl
theorem sh57 : Try.prog.stoodInHeld 57 = false := by kernel_rfl
theorem eg57 : Try.prog.eqGuardType Try.prog.depth 57 = false := by kernel_rfl
theorem hz57 : hasZero Try.prog 57 := by unfold hasZero; kernel_rfl
theorem za57 : zeroA Try.prog 57 = Go.Eng.AV.agg [Go.Eng.AV.str [], Go.Eng.AV.int Go.IntKind.u32 0] := by kernel_rfl
theorem sz58 : Try.prog.cellsOf 58 = 1 := by kernel_rfl
theorem by58 : Try.prog.bytesOf 58 = 8 := by kernel_rfl
theorem io58 : (Try.prog.info? 58).isSome = true := by kernel_rfl
theorem eok58 : elemOk Try.prog 58 = true := by kernel_rfl
theorem sty58 : srcTy Try.prog 58 = true := by kernel_rfl
theorem ify58 : ifaceTy Try.prog 58 = false := by kernel_rfl
theorem hz58 : hasZero Try.prog 58 := by unfold hasZero; kernel_rfl
theorem za58 : zeroA Try.prog 58 = Go.Eng.AV.lit Go.Value.nilFunc := by kernel_rfl
theorem sz59 : Try.prog.cellsOf 59 = 1 := by kernel_rfl
theorem by59 : Try.prog.bytesOf 59 = 8 := by kernel_rfl
theorem io59 : (Try.prog.info? 59).isSome = true := by kernel_rfl
theorem eok59 : elemOk Try.prog 59 = true := by kernel_rfl
theorem sty59 : srcTy Try.prog 59 = true := by kernel_rfl
theorem ify59 : ifaceTy Try.prog 59 = false := by kernel_rfl
theorem hz59 : hasZero Try.prog 59 := by unfold hasZero; kernel_rfl
theorem za59 : zeroA Try.prog 59 = Go.Eng.AV.lit Go.Value.nilFunc := by kernel_rfl
theorem sz60 : Try.prog.cellsOf 60 = 1 := by kernel_rfl
theorem by60 : Try.prog.bytesOf 60 = 8 := by kernel_rfl
theorem io60 : (Try.prog.info? 60).isSome = true := by kernel_rfl
theorem eok60 : elemOk Try.prog 60 = true := by kernel_rfl
theorem sty60 : srcTy Try.prog 60 = true := by kernel_rfl
theorem ify60 : ifaceTy Try.prog 60 = false := by kernel_rfl
theorem hz60 : hasZero Try.prog 60 := by unfold hasZero; kernel_rfl
theorem za60 : zeroA Try.prog 60 = Go.Eng.AV.lit Go.Value.nilFunc := by kernel_rfl
theorem sz61 : Try.prog.cellsOf 61 = 1 := by kernel_rfl
theorem by61 : Try.prog.bytesOf 61 = 8 := by kernel_rfl
theorem io61 : (Try.prog.info? 61).isSome = true := by kernel_rfl
theorem eok61 : elemOk Try.prog 61 = true := by kernel_rfl
theorem sty61 : srcTy Try.prog 61 = true := by kernel_rfl
theorem ify61 : ifaceTy Try.prog 61 = false := by kernel_rfl
theorem hz61 : hasZero Try.prog 61 := by unfold hasZero; kernel_rfl
theorem za61 : zeroA Try.prog 61 = Go.Eng.AV.lit Go.Value.nilFunc := by kernel_rfl
theorem sz62 : Try.prog.cellsOf 62 = 1 := by kernel_rfl
theorem by62 : Try.prog.bytesOf 62 = 8 := by kernel_rfl
theorem io62 : (Try.prog.info? 62).isSome = true := by kernel_rfl
theorem eok62 : elemOk Try.prog 62 = true := by kernel_rfl
theorem sty62 : srcTy Try.prog 62 = true := by kernel_rfl
theorem ify62 : ifaceTy Try.prog 62 = false := by kernel_rfl
theorem hz62 : hasZero Try.prog 62 := by unfold hasZero; kernel_rfl
theorem za62 : zeroA Try.prog 62 = Go.Eng.AV.lit Go.Value.nilFunc := by kernel_rfl
theorem sz63 : Try.prog.cellsOf 63 = 1 := by kernel_rfl
theorem by63 : Try.prog.bytesOf 63 = 8 := by kernel_rfl
theorem io63 : (Try.prog.info? 63).isSome = true := by kernel_rfl
theorem eok63 : elemOk Try.prog 63 = true := by kernel_rfl
theorem sty63 : srcTy Try.prog 63 = true := by kernel_rfl
theorem ify63 : ifaceTy Try.prog 63 = false := by kernel_rfl
theorem hz63 : hasZero Try.prog 63 := by unfold hasZero; kernel_rfl
theorem za63 : zeroA Try.prog 63 = Go.Eng.AV.lit Go.Value.nilFunc := by kernel_rfl
theorem sz64 : Try.prog.cellsOf 64 = 1 := by kernel_rfl
theorem by64 : Try.prog.bytesOf 64 = 8 := by kernel_rfl
theorem io64 : (Try.prog.info? 64).isSome = true := by kernel_rfl
theorem eok64 : elemOk Try.prog 64 = true := by kernel_rfl
theorem sty64 : srcTy Try.prog 64 = true := by kernel_rfl
theorem ify64 : ifaceTy Try.prog 64 = false := by kernel_rfl
theorem hz64 : hasZero Try.prog 64 := by unfold hasZero; kernel_rfl
theorem za64 : zeroA Try.prog 64 = Go.Eng.AV.lit Go.Value.nilFunc := by kernel_rfl
theorem sz65 : Try.prog.cellsOf 65 = 1 := by kernel_rfl
theorem by65 : Try.prog.bytesOf 65 = 8 := by kernel_rfl
theorem io65 : (Try.prog.info? 65).isSome = true := by kernel_rfl
theorem eok65 : elemOk Try.prog 65 = true := by kernel_rfl
theorem sty65 : srcTy Try.prog 65 = true := by kernel_rfl
theorem ify65 : ifaceTy Try.prog 65 = false := by kernel_rfl
theorem hz65 : hasZero Try.prog 65 := by unfold hasZero; kernel_rfl
theorem za65 : zeroA Try.prog 65 = Go.Eng.AV.lit Go.Value.nilFunc := by kernel_rfl
theorem sz66 : Try.prog.cellsOf 66 = 1 := by kernel_rfl
theorem by66 : Try.prog.bytesOf 66 = 8 := by kernel_rfl
theorem io66 : (Try.prog.info? 66).isSome = true := by kernel_rfl
theorem eok66 : elemOk Try.prog 66 = true := by kernel_rfl
theorem sty66 : srcTy Try.prog 66 = true := by kernel_rfl
theorem ify66 : ifaceTy Try.prog 66 = false := by kernel_rfl
theorem hz66 : hasZero Try.prog 66 := by unfold hasZero; kernel_rfl
theorem za66 : zeroA Try.prog 66 = Go.Eng.AV.lit Go.Value.nilFunc := by kernel_rfl
theorem sz67 : Try.prog.cellsOf 67 = 1 := by kernel_rfl
theorem by67 : Try.prog.bytesOf 67 = 8 := by kernel_rfl
theorem io67 : (Try.prog.info? 67).isSome = true := by kernel_rfl
theorem eok67 : elemOk Try.prog 67 = true := by kernel_rfl
theorem sty67 : srcTy Try.prog 67 = true := by kernel_rfl
theorem ify67 : ifaceTy Try.prog 67 = false := by kernel_rfl
theorem hz67 : hasZero Try.prog 67 := by unfold hasZero; kernel_rfl
theorem za67 : zeroA Try.prog 67 = Go.Eng.AV.lit Go.Value.nilFunc := by kernel_rfl
theorem sz68 : Try.prog.cellsOf 68 = 4 := by kernel_rfl
theorem by68 : Try.prog.bytesOf 68 = 32 := by kernel_rfl
theorem io68 : (Try.prog.info? 68).isSome = true := by kernel_rfl
theorem eok68 : elemOk Try.prog 68 = true := by kernel_rfl
theorem sty68 : srcTy Try.prog 68 = true := by kernel_rfl
theorem ify68 : ifaceTy Try.prog 68 = false := by kernel_rfl
theorem sh68 : Try.prog.stoodInHeld 68 = false := by kernel_rfl
theorem eg68 : Try.prog.eqGuardType Try.prog.depth 68 = false := by kernel_rfl
theorem hz68 : hasZero Try.prog 68 := by unfold hasZero; kernel_rfl
theorem za68 : zeroA Try.prog 68 = Go.Eng.AV.agg [Go.Eng.AV.int Go.IntKind.i64 0, Go.Eng.AV.int Go.IntKind.i64 0, Go.Eng.AV.int Go.IntKind.i64 0, Go.Eng.AV.int Go.IntKind.i64 0] := by kernel_rfl
theorem sz69 : Try.prog.cellsOf 69 = 4 := by kernel_rfl
theorem by69 : Try.prog.bytesOf 69 = 32 := by kernel_rfl
theorem io69 : (Try.prog.info? 69).isSome = true := by kernel_rfl
theorem eok69 : elemOk Try.prog 69 = true := by kernel_rfl
theorem sty69 : srcTy Try.prog 69 = true := by kernel_rfl
theorem ify69 : ifaceTy Try.prog 69 = false := by kernel_rfl
theorem sh69 : Try.prog.stoodInHeld 69 = false := by kernel_rfl
theorem eg69 : Try.prog.eqGuardType Try.prog.depth 69 = false := by kernel_rfl
theorem hz69 : hasZero Try.prog 69 := by unfold hasZero; kernel_rfl
theorem za69 : zeroA Try.prog 69 = Go.Eng.AV.agg [Go.Eng.AV.int Go.IntKind.i64 0, Go.Eng.AV.int Go.IntKind.i64 0, Go.Eng.AV.int Go.IntKind.i64 0, Go.Eng.AV.int Go.IntKind.i64 0] := by kernel_rfl
theorem sz70 : Try.prog.cellsOf 70 = 1 := by kernel_rfl
theorem by70 : Try.prog.bytesOf 70 = 8 := by kernel_rfl
theorem io70 : (Try.prog.info? 70).isSome = true := by kernel_rfl
theorem eok70 : elemOk Try.prog 70 = true := by kernel_rfl
theorem sty70 : srcTy Try.prog 70 = true := by kernel_rfl
theorem ify70 : ifaceTy Try.prog 70 = false := by kernel_rfl
theorem hz70 : hasZero Try.prog 70 := by unfold hasZero; kernel_rfl
theorem za70 : zeroA Try.prog 70 = Go.Eng.AV.lit Go.Value.nilFunc := by kernel_rfl
theorem sz71 : Try.prog.cellsOf 71 = 1 := by kernel_rfl
theorem by71 : Try.prog.bytesOf 71 = 8 := by kernel_rfl
theorem io71 : (Try.prog.info? 71).isSome = true := by kernel_rfl
theorem eok71 : elemOk Try.prog 71 = true := by kernel_rfl
theorem sty71 : srcTy Try.prog 71 = true := by kernel_rfl
theorem ify71 : ifaceTy Try.prog 71 = false := by kernel_rfl
theorem hz71 : hasZero Try.prog 71 := by unfold hasZero; kernel_rfl
theorem za71 : zeroA Try.prog 71 = Go.Eng.AV.lit Go.Value.nilFunc := by kernel_rfl
theorem sz72 : Try.prog.cellsOf 72 = 1 := by kernel_rfl
theorem by72 : Try.prog.bytesOf 72 = 8 := by kernel_rfl
theorem io72 : (Try.prog.info? 72).isSome = true := by kernel_rfl
theorem eok72 : elemOk Try.prog 72 = true := by kernel_rfl
theorem sty72 : srcTy Try.prog 72 = true := by kernel_rfl
theorem ify72 : ifaceTy Try.prog 72 = false := by kernel_rfl
theorem hz72 : hasZero Try.prog 72 := by unfold hasZero; kernel_rfl
theorem za72 : zeroA Try.prog 72 = Go.Eng.AV.lit Go.Value.nilFunc := by kernel_rfl
theorem sz73 : Try.prog.cellsOf 73 = 1 := by kernel_rfl
theorem by73 : Try.prog.bytesOf 73 = 8 := by kernel_rfl
theorem io73 : (Try.prog.info? 73).isSome = true := by kernel_rfl
theorem eok73 : elemOk Try.prog 73 = true := by kernel_rfl
theorem sty73 : srcTy Try.prog 73 = true := by kernel_rfl
theorem ify73 : ifaceTy Try.prog 73 = false := by kernel_rfl
theorem hz73 : hasZero Try.prog 73 := by unfold hasZero; kernel_rfl
theorem za73 : zeroA Try.prog 73 = Go.Eng.AV.lit Go.Value.nilFunc := by kernel_rfl
theorem sz74 : Try.prog.cellsOf 74 = 1 := by kernel_rfl
theorem by74 : Try.prog.bytesOf 74 = 0 := by kernel_rfl
theorem io74 : (Try.prog.info? 74).isSome = true := by kernel_rfl
theorem eok74 : elemOk Try.prog 74 = false := by kernel_rfl
theorem sty74 : srcTy Try.prog 74 = true := by kernel_rfl
theorem ify74 : ifaceTy Try.prog 74 = false := by kernel_rfl
theorem hz74 : hasZero Try.prog 74 := by unfold hasZero; kernel_rfl
theorem sz75 : Try.prog.cellsOf 75 = 1 := by kernel_rfl
theorem by75 : Try.prog.bytesOf 75 = 8 := by kernel_rfl
theorem io75 : (Try.prog.info? 75).isSome = true := by kernel_rfl
theorem eok75 : elemOk Try.prog 75 = true := by kernel_rfl
theorem sty75 : srcTy Try.prog 75 = true := by kernel_rfl
theorem ify75 : ifaceTy Try.prog 75 = false := by kernel_rfl
theorem hz75 : hasZero Try.prog 75 := by unfold hasZero; kernel_rfl
theorem za75 : zeroA Try.prog 75 = Go.Eng.AV.lit Go.Value.nilFunc := by kernel_rfl
theorem sz76 : Try.prog.cellsOf 76 = 1 := by kernel_rfl
theorem by76 : Try.prog.bytesOf 76 = 8 := by kernel_rfl
theorem io76 : (Try.prog.info? 76).isSome = true := by kernel_rfl
theorem eok76 : elemOk Try.prog 76 = true := by kernel_rfl
theorem sty76 : srcTy Try.prog 76 = true := by kernel_rfl
theorem ify76 : ifaceTy Try.prog 76 = false := by kernel_rfl
theorem hz76 : hasZero Try.prog 76 := by unfold hasZero; kernel_rfl
theorem za76 : zeroA Try.prog 76 = Go.Eng.AV.lit (Go.Value.pointer none) := by kernel_rfl
theorem sz77 : Try.prog.cellsOf 77 = 3 := by kernel_rfl
theorem by77 : Try.prog.bytesOf 77 = 40 := by kernel_rfl
theorem io77 : (Try.prog.info? 77).isSome = true := by kernel_rfl
theorem eok77 : elemOk Try.prog 77 = true := by kernel_rfl
theorem sty77 : srcTy Try.prog 77 = true := by kernel_rfl
theorem ify77 : ifaceTy Try.prog 77 = false := by kernel_rfl
theorem sh77 : Try.prog.stoodInHeld 77 = false := by kernel_rfl
theorem eg77 : Try.prog.eqGuardType Try.prog.depth 77 = false := by kernel_rfl
theorem hz77 : hasZero Try.prog 77 := by unfold hasZero; kernel_rfl
theorem za77 : zeroA Try.prog 77 = Go.Eng.AV.agg [Go.Eng.AV.lit (Go.Value.slice none 0 0), Go.Eng.AV.int Go.IntKind.i64 0, Go.Eng.AV.int Go.IntKind.i64 0] := by kernel_rfl
theorem sz78 : Try.prog.cellsOf 78 = 3 := by kernel_rfl
theorem by78 : Try.prog.bytesOf 78 = 40 := by kernel_rfl
theorem io78 : (Try.prog.info? 78).isSome = true := by kernel_rfl
theorem eok78 : elemOk Try.prog 78 = true := by kernel_rfl
theorem sty78 : srcTy Try.prog 78 = true := by kernel_rfl
theorem ify78 : ifaceTy Try.prog 78 = false := by kernel_rfl
theorem sh78 : Try.prog.stoodInHeld 78 = false := by kernel_rfl
theorem eg78 : Try.prog.eqGuardType Try.prog.depth 78 = false := by kernel_rfl
theorem hz78 : hasZero Try.prog 78 := by unfold hasZero; kernel_rfl
theorem za78 : zeroA Try.prog 78 = Go.Eng.AV.agg [Go.Eng.AV.lit (Go.Value.slice none 0 0), Go.Eng.AV.int Go.IntKind.i64 0, Go.Eng.AV.int Go.IntKind.i64 0] := by kernel_rfl
theorem sz79 : Try.prog.cellsOf 79 = 1 := by kernel_rfl
theorem by79 : Try.prog.bytesOf 79 = 8 := by kernel_rfl
theorem io79 : (Try.prog.info? 79).isSome = true := by kernel_rfl
theorem eok79 : elemOk Try.prog 79 = true := by kernel_rfl
theorem sty79 : srcTy Try.prog 79 = true := by kernel_rfl
theorem ify79 : ifaceTy Try.prog 79 = false := by kernel_rfl
theorem hz79 : hasZero Try.prog 79 := by unfold hasZero; kernel_rfl
theorem za79 : zeroA Try.prog 79 = Go.Eng.AV.lit Go.Value.nilFunc := by kernel_rfl
theorem sz80 : Try.prog.cellsOf 80 = 1 := by kernel_rfl
theorem by80 : Try.prog.bytesOf 80 = 8 := by kernel_rfl
theorem io80 : (Try.prog.info? 80).isSome = true := by kernel_rfl
theorem eok80 : elemOk Try.prog 80 = true := by kernel_rfl
theorem sty80 : srcTy Try.prog 80 = true := by kernel_rfl
theorem ify80 : ifaceTy Try.prog 80 = false := by kernel_rfl
theorem hz80 : hasZero Try.prog 80 := by unfold hasZero; kernel_rfl
theorem za80 : zeroA Try.prog 80 = Go.Eng.AV.lit Go.Value.nilFunc := by kernel_rfl
theorem sz81 : Try.prog.cellsOf 81 = 1 := by kernel_rfl
theorem by81 : Try.prog.bytesOf 81 = 8 := by kernel_rfl
theorem io81 : (Try.prog.info? 81).isSome = true := by kernel_rfl
theorem eok81 : elemOk Try.prog 81 = true := by kernel_rfl
theorem sty81 : srcTy Try.prog 81 = true := by kernel_rfl
theorem ify81 : ifaceTy Try.prog 81 = false := by kernel_rfl
theorem hz81 : hasZero Try.prog 81 := by unfold hasZero; kernel_rfl
theorem za81 : zeroA Try.prog 81 = Go.Eng.AV.lit Go.Value.nilFunc := by kernel_rfl
theorem sz82 : Try.prog.cellsOf 82 = 1 := by kernel_rfl
theorem by82 : Try.prog.bytesOf 82 = 8 := by kernel_rfl
theorem io82 : (Try.prog.info? 82).isSome = true := by kernel_rfl
theorem eok82 : elemOk Try.prog 82 = true := by kernel_rfl
theorem sty82 : srcTy Try.prog 82 = false := by kernel_rfl
theorem ify82 : ifaceTy Try.prog 82 = false := by kernel_rfl
theorem kf82 : kindOf Try.prog 82 = some (some Go.IntKind.u64) := by kernel_rfl
theorem sh82 : Try.prog.stoodInHeld 82 = false := by kernel_rfl
theorem eg82 : Try.prog.eqGuardType Try.prog.depth 82 = false := by kernel_rfl
theorem hz82 : hasZero Try.prog 82 := by unfold hasZero; kernel_rfl
theorem za82 : zeroA Try.prog 82 = Go.Eng.AV.int Go.IntKind.u64 0 := by kernel_rfl
theorem sz83 : Try.prog.cellsOf 83 = 1 := by kernel_rfl
theorem by83 : Try.prog.bytesOf 83 = 8 := by kernel_rfl
theorem io83 : (Try.prog.info? 83).isSome = true := by kernel_rfl
theorem eok83 : elemOk Try.prog 83 = true := by kernel_rfl
theorem sty83 : srcTy Try.prog 83 = true := by kernel_rfl
theorem ify83 : ifaceTy Try.prog 83 = false := by kernel_rfl
theorem hz83 : hasZero Try.prog 83 := by unfold hasZero; kernel_rfl
theorem za83 : zeroA Try.prog 83 = Go.Eng.AV.lit Go.Value.nilFunc := by kernel_rfl
theorem sz84 : Try.prog.cellsOf 84 = 1 := by kernel_rfl
theorem by84 : Try.prog.bytesOf 84 = 8 := by kernel_rfl
theorem io84 : (Try.prog.info? 84).isSome = true := by kernel_rfl
theorem eok84 : elemOk Try.prog 84 = true := by kernel_rfl
theorem sty84 : srcTy Try.prog 84 = true := by kernel_rfl
theorem ify84 : ifaceTy Try.prog 84 = false := by kernel_rfl
theorem hz84 : hasZero Try.prog 84 := by unfold hasZero; kernel_rfl
theorem za84 : zeroA Try.prog 84 = Go.Eng.AV.lit (Go.Value.map none) := by kernel_rfl
theorem sz85 : Try.prog.cellsOf 85 = 1 := by kernel_rfl
theorem by85 : Try.prog.bytesOf 85 = 8 := by kernel_rfl
theorem io85 : (Try.prog.info? 85).isSome = true := by kernel_rfl
theorem eok85 : elemOk Try.prog 85 = true := by kernel_rfl
theorem sty85 : srcTy Try.prog 85 = true := by kernel_rfl
theorem ify85 : ifaceTy Try.prog 85 = false := by kernel_rfl
theorem hz85 : hasZero Try.prog 85 := by unfold hasZero; kernel_rfl
theorem za85 : zeroA Try.prog 85 = Go.Eng.AV.lit Go.Value.nilFunc := by kernel_rfl
theorem sz86 : Try.prog.cellsOf 86 = 1 := by kernel_rfl
theorem by86 : Try.prog.bytesOf 86 = 8 := by kernel_rfl
theorem io86 : (Try.prog.info? 86).isSome = true := by kernel_rfl
theorem eok86 : elemOk Try.prog 86 = true := by kernel_rfl
theorem sty86 : srcTy Try.prog 86 = true := by kernel_rfl
theorem ify86 : ifaceTy Try.prog 86 = false := by kernel_rfl
theorem hz86 : hasZero Try.prog 86 := by unfold hasZero; kernel_rfl
theorem za86 : zeroA Try.prog 86 = Go.Eng.AV.lit Go.Value.nilFunc := by kernel_rfl
theorem sz87 : Try.prog.cellsOf 87 = 1 := by kernel_rfl
theorem by87 : Try.prog.bytesOf 87 = 8 := by kernel_rfl
theorem io87 : (Try.prog.info? 87).isSome = true := by kernel_rfl
theorem eok87 : elemOk Try.prog 87 = true := by kernel_rfl
theorem sty87 : srcTy Try.prog 87 = true := by kernel_rfl
theorem ify87 : ifaceTy Try.prog 87 = false := by kernel_rfl
theorem hz87 : hasZero Try.prog 87 := by unfold hasZero; kernel_rfl
theorem za87 : zeroA Try.prog 87 = Go.Eng.AV.lit Go.Value.nilFunc := by kernel_rfl
theorem sz88 : Try.prog.cellsOf 88 = 1 := by kernel_rfl
theorem by88 : Try.prog.bytesOf 88 = 8 := by kernel_rfl
theorem io88 : (Try.prog.info? 88).isSome = true := by kernel_rfl
theorem eok88 : elemOk Try.prog 88 = true := by kernel_rfl
theorem sty88 : srcTy Try.prog 88 = true := by kernel_rfl
theorem ify88 : ifaceTy Try.prog 88 = false := by kernel_rfl
theorem hz88 : hasZero Try.prog 88 := by unfold hasZero; kernel_rfl
theorem za88 : zeroA Try.prog 88 = Go.Eng.AV.lit Go.Value.nilFunc := by kernel_rfl
theorem sz89 : Try.prog.cellsOf 89 = 1 := by kernel_rfl
theorem by89 : Try.prog.bytesOf 89 = 8 := by kernel_rfl
theorem io89 : (Try.prog.info? 89).isSome = true := by kernel_rfl
theorem eok89 : elemOk Try.prog 89 = true := by kernel_rfl
theorem sty89 : srcTy Try.prog 89 = true := by kernel_rfl
theorem ify89 : ifaceTy Try.prog 89 = false := by kernel_rfl
theorem hz89 : hasZero Try.prog 89 := by unfold hasZero; kernel_rfl
theorem za89 : zeroA Try.prog 89 = Go.Eng.AV.lit Go.Value.nilFunc := by kernel_rfl
theorem sz90 : Try.prog.cellsOf 90 = 1 := by kernel_rfl
theorem by90 : Try.prog.bytesOf 90 = 8 := by kernel_rfl
theorem io90 : (Try.prog.info? 90).isSome = true := by kernel_rfl
theorem eok90 : elemOk Try.prog 90 = true := by kernel_rfl
theorem sty90 : srcTy Try.prog 90 = true := by kernel_rfl
theorem ify90 : ifaceTy Try.prog 90 = false := by kernel_rfl
theorem hz90 : hasZero Try.prog 90 := by unfold hasZero; kernel_rfl
theorem za90 : zeroA Try.prog 90 = Go.Eng.AV.lit Go.Value.nilFunc := by kernel_rfl
theorem sz91 : Try.prog.cellsOf 91 = 1 := by kernel_rfl
theorem by91 : Try.prog.bytesOf 91 = 8 := by kernel_rfl
theorem io91 : (Try.prog.info? 91).isSome = true := by kernel_rfl
theorem eok91 : elemOk Try.prog 91 = true := by kernel_rfl
theorem sty91 : srcTy Try.prog 91 = true := by kernel_rfl
theorem ify91 : ifaceTy Try.prog 91 = false := by kernel_rfl
theorem hz91 : hasZero Try.prog 91 := by unfold hasZero; kernel_rfl
theorem za91 : zeroA Try.prog 91 = Go.Eng.AV.lit Go.Value.nilFunc := by kernel_rfl
theorem sz92 : Try.prog.cellsOf 92 = 1 := by kernel_rfl
theorem by92 : Try.prog.bytesOf 92 = 8 := by kernel_rfl
theorem io92 : (Try.prog.info? 92).isSome = true := by kernel_rfl
theorem eok92 : elemOk Try.prog 92 = true := by kernel_rfl
theorem sty92 : srcTy Try.prog 92 = true := by kernel_rfl
theorem ify92 : ifaceTy Try.prog 92 = false := by kernel_rfl
theorem hz92 : hasZero Try.prog 92 := by unfold hasZero; kernel_rfl
theorem za92 : zeroA Try.prog 92 = Go.Eng.AV.lit Go.Value.nilFunc := by kernel_rfl
theorem sz93 : Try.prog.cellsOf 93 = 1 := by kernel_rfl
theorem by93 : Try.prog.bytesOf 93 = 8 := by kernel_rfl
theorem io93 : (Try.prog.info? 93).isSome = true := by kernel_rfl
theorem eok93 : elemOk Try.prog 93 = true := by kernel_rfl
theorem sty93 : srcTy Try.prog 93 = true := by kernel_rfl
theorem ify93 : ifaceTy Try.prog 93 = false := by kernel_rfl
theorem hz93 : hasZero Try.prog 93 := by unfold hasZero; kernel_rfl
theorem za93 : zeroA Try.prog 93 = Go.Eng.AV.lit Go.Value.nilFunc := by kernel_rfl
theorem sz94 : Try.prog.cellsOf 94 = 1 := by kernel_rfl
theorem by94 : Try.prog.bytesOf 94 = 8 := by kernel_rfl
theorem io94 : (Try.prog.info? 94).isSome = true := by kernel_rfl
theorem eok94 : elemOk Try.prog 94 = true := by kernel_rfl
theorem sty94 : srcTy Try.prog 94 = true := by kernel_rfl
theorem ify94 : ifaceTy Try.prog 94 = false := by kernel_rfl
theorem hz94 : hasZero Try.prog 94 := by unfold hasZero; kernel_rfl
theorem za94 : zeroA Try.prog 94 = Go.Eng.AV.lit Go.Value.nilFunc := by kernel_rfl
theorem sz95 : Try.prog.cellsOf 95 = 1 := by kernel_rfl
theorem by95 : Try.prog.bytesOf 95 = 8 := by kernel_rfl
theorem io95 : (Try.prog.info? 95).isSome = true := by kernel_rfl
theorem eok95 : elemOk Try.prog 95 = true := by kernel_rfl
theorem sty95 : srcTy Try.prog 95 = true := by kernel_rfl
theorem ify95 : ifaceTy Try.prog 95 = false := by kernel_rfl
theorem hz95 : hasZero Try.prog 95 := by unfold hasZero; kernel_rfl
theorem za95 : zeroA Try.prog 95 = Go.Eng.AV.lit Go.Value.nilFunc := by kernel_rfl
theorem sz96 : Try.prog.cellsOf 96 = 1 := by kernel_rfl
theorem by96 : Try.prog.bytesOf 96 = 8 := by kernel_rfl
theorem io96 : (Try.prog.info? 96).isSome = true := by kernel_rfl
theorem eok96 : elemOk Try.prog 96 = true := by kernel_rfl
theorem sty96 : srcTy Try.prog 96 = true := by kernel_rfl
theorem ify96 : ifaceTy Try.prog 96 = false := by kernel_rfl
theorem hz96 : hasZero Try.prog 96 := by unfold hasZero; kernel_rfl
theorem za96 : zeroA Try.prog 96 = Go.Eng.AV.lit Go.Value.nilFunc := by kernel_rfl
theorem sz97 : Try.prog.cellsOf 97 = 1 := by kernel_rfl
theorem by97 : Try.prog.bytesOf 97 = 8 := by kernel_rfl
theorem io97 : (Try.prog.info? 97).isSome = true := by kernel_rfl
theorem eok97 : elemOk Try.prog 97 = true := by kernel_rfl
theorem sty97 : srcTy Try.prog 97 = true := by kernel_rfl
theorem ify97 : ifaceTy Try.prog 97 = false := by kernel_rfl
theorem hz97 : hasZero Try.prog 97 := by unfold hasZero; kernel_rfl
theorem za97 : zeroA Try.prog 97 = Go.Eng.AV.lit Go.Value.nilFunc := by kernel_rfl
theorem sz98 : Try.prog.cellsOf 98 = 1 := by kernel_rfl
theorem by98 : Try.prog.bytesOf 98 = 8 := by kernel_rfl
theorem io98 : (Try.prog.info? 98).isSome = true := by kernel_rfl
theorem eok98 : elemOk Try.prog 98 = true := by kernel_rfl
theorem sty98 : srcTy Try.prog 98 = true := by kernel_rfl
theorem ify98 : ifaceTy Try.prog 98 = false := by kernel_rfl
theorem hz98 : hasZero Try.prog 98 := by unfold hasZero; kernel_rfl
theorem za98 : zeroA Try.prog 98 = Go.Eng.AV.lit Go.Value.nilFunc := by kernel_rfl
theorem sz99 : Try.prog.cellsOf 99 = 1 := by kernel_rfl
theorem by99 : Try.prog.bytesOf 99 = 8 := by kernel_rfl
theorem io99 : (Try.prog.info? 99).isSome = true := by kernel_rfl
theorem eok99 : elemOk Try.prog 99 = true := by kernel_rfl
theorem sty99 : srcTy Try.prog 99 = true := by kernel_rfl
theorem ify99 : ifaceTy Try.prog 99 = false := by kernel_rfl
theorem hz99 : hasZero Try.prog 99 := by unfold hasZero; kernel_rfl
theorem za99 : zeroA Try.prog 99 = Go.Eng.AV.lit Go.Value.nilFunc := by kernel_rfl
theorem sz100 : Try.prog.cellsOf 100 = 1 := by kernel_rfl
theorem by100 : Try.prog.bytesOf 100 = 8 := by kernel_rfl
theorem io100 : (Try.prog.info? 100).isSome = true := by kernel_rfl
theorem eok100 : elemOk Try.prog 100 = true := by kernel_rfl
theorem sty100 : srcTy Try.prog 100 = true := by kernel_rfl
theorem ify100 : ifaceTy Try.prog 100 = false := by kernel_rfl
theorem hz100 : hasZero Try.prog 100 := by unfold hasZero; kernel_rfl
theorem za100 : zeroA Try.prog 100 = Go.Eng.AV.lit Go.Value.nilFunc := by kernel_rfl
theorem sz101 : Try.prog.cellsOf 101 = 1 := by kernel_rfl
theorem by101 : Try.prog.bytesOf 101 = 8 := by kernel_rfl
theorem io101 : (Try.prog.info? 101).isSome = true := by kernel_rfl
theorem eok101 : elemOk Try.prog 101 = true := by kernel_rfl
theorem sty101 : srcTy Try.prog 101 = true := by kernel_rfl
theorem ify101 : ifaceTy Try.prog 101 = false := by kernel_rfl
theorem hz101 : hasZero Try.prog 101 := by unfold hasZero; kernel_rfl
theorem za101 : zeroA Try.prog 101 = Go.Eng.AV.lit Go.Value.nilFunc := by kernel_rfl
theorem sz102 : Try.prog.cellsOf 102 = 1 := by kernel_rfl
theorem by102 : Try.prog.bytesOf 102 = 8 := by kernel_rfl
theorem io102 : (Try.prog.info? 102).isSome = true := by kernel_rfl
theorem eok102 : elemOk Try.prog 102 = true := by kernel_rfl
theorem sty102 : srcTy Try.prog 102 = true := by kernel_rfl
theorem ify102 : ifaceTy Try.prog 102 = false := by kernel_rfl
theorem hz102 : hasZero Try.prog 102 := by unfold hasZero; kernel_rfl
theorem za102 : zeroA Try.prog 102 = Go.Eng.AV.lit Go.Value.nilFunc := by kernel_rfl
theorem sz103 : Try.prog.cellsOf 103 = 1 := by kernel_rfl
theorem by103 : Try.prog.bytesOf 103 = 8 := by kernel_rfl
theorem io103 : (Try.prog.info? 103).isSome = true := by kernel_rfl
theorem eok103 : elemOk Try.prog 103 = true := by kernel_rfl
theorem sty103 : srcTy Try.prog 103 = true := by kernel_rfl
theorem ify103 : ifaceTy Try.prog 103 = false := by kernel_rfl
theorem hz103 : hasZero Try.prog 103 := by unfold hasZero; kernel_rfl
theorem za103 : zeroA Try.prog 103 = Go.Eng.AV.lit Go.Value.nilFunc := by kernel_rfl
theorem sz104 : Try.prog.cellsOf 104 = 1 := by kernel_rfl
theorem by104 : Try.prog.bytesOf 104 = 8 := by kernel_rfl
theorem io104 : (Try.prog.info? 104).isSome = true := by kernel_rfl
theorem eok104 : elemOk Try.prog 104 = true := by kernel_rfl
theorem sty104 : srcTy Try.prog 104 = true := by kernel_rfl
theorem ify104 : ifaceTy Try.prog 104 = false := by kernel_rfl
theorem hz104 : hasZero Try.prog 104 := by unfold hasZero; kernel_rfl
theorem za104 : zeroA Try.prog 104 = Go.Eng.AV.lit Go.Value.nilFunc := by kernel_rfl
theorem sz105 : Try.prog.cellsOf 105 = 1 := by kernel_rfl
theorem by105 : Try.prog.bytesOf 105 = 8 := by kernel_rfl
theorem io105 : (Try.prog.info? 105).isSome = true := by kernel_rfl
theorem eok105 : elemOk Try.prog 105 = true := by kernel_rfl
theorem sty105 : srcTy Try.prog 105 = true := by kernel_rfl
theorem ify105 : ifaceTy Try.prog 105 = false := by kernel_rfl
theorem hz105 : hasZero Try.prog 105 := by unfold hasZero; kernel_rfl
theorem za105 : zeroA Try.prog 105 = Go.Eng.AV.lit Go.Value.nilFunc := by kernel_rfl
theorem sz106 : Try.prog.cellsOf 106 = 1 := by kernel_rfl
theorem by106 : Try.prog.bytesOf 106 = 8 := by kernel_rfl
theorem io106 : (Try.prog.info? 106).isSome = true := by kernel_rfl
theorem eok106 : elemOk Try.prog 106 = true := by kernel_rfl
theorem sty106 : srcTy Try.prog 106 = true := by kernel_rfl
theorem ify106 : ifaceTy Try.prog 106 = false := by kernel_rfl
theorem hz106 : hasZero Try.prog 106 := by unfold hasZero; kernel_rfl
theorem za106 : zeroA Try.prog 106 = Go.Eng.AV.lit Go.Value.nilFunc := by kernel_rfl
theorem sz107 : Try.prog.cellsOf 107 = 1 := by kernel_rfl
theorem by107 : Try.prog.bytesOf 107 = 8 := by kernel_rfl
theorem io107 : (Try.prog.info? 107).isSome = true := by kernel_rfl
theorem eok107 : elemOk Try.prog 107 = true := by kernel_rfl
theorem sty107 : srcTy Try.prog 107 = true := by kernel_rfl
theorem ify107 : ifaceTy Try.prog 107 = false := by kernel_rfl
theorem hz107 : hasZero Try.prog 107 := by unfold hasZero; kernel_rfl
theorem za107 : zeroA Try.prog 107 = Go.Eng.AV.lit Go.Value.nilFunc := by kernel_rfl
theorem sz108 : Try.prog.cellsOf 108 = 1 := by kernel_rfl
theorem by108 : Try.prog.bytesOf 108 = 8 := by kernel_rfl
theorem io108 : (Try.prog.info? 108).isSome = true := by kernel_rfl
theorem eok108 : elemOk Try.prog 108 = true := by kernel_rfl
theorem sty108 : srcTy Try.prog 108 = true := by kernel_rfl
theorem ify108 : ifaceTy Try.prog 108 = false := by kernel_rfl
theorem hz108 : hasZero Try.prog 108 := by unfold hasZero; kernel_rfl
theorem za108 : zeroA Try.prog 108 = Go.Eng.AV.lit Go.Value.nilFunc := by kernel_rfl
theorem sz109 : Try.prog.cellsOf 109 = 1 := by kernel_rfl
theorem by109 : Try.prog.bytesOf 109 = 8 := by kernel_rfl
theorem io109 : (Try.prog.info? 109).isSome = true := by kernel_rfl
theorem eok109 : elemOk Try.prog 109 = true := by kernel_rfl
theorem sty109 : srcTy Try.prog 109 = true := by kernel_rfl
theorem ify109 : ifaceTy Try.prog 109 = false := by kernel_rfl
theorem hz109 : hasZero Try.prog 109 := by unfold hasZero; kernel_rfl
theorem za109 : zeroA Try.prog 109 = Go.Eng.AV.lit Go.Value.nilFunc := by kernel_rfl
theorem sz110 : Try.prog.cellsOf 110 = 1 := by kernel_rfl
theorem by110 : Try.prog.bytesOf 110 = 8 := by kernel_rfl
theorem io110 : (Try.prog.info? 110).isSome = true := by kernel_rfl
theorem eok110 : elemOk Try.prog 110 = true := by kernel_rfl
theorem sty110 : srcTy Try.prog 110 = true := by kernel_rfl
theorem ify110 : ifaceTy Try.prog 110 = false := by kernel_rfl
theorem hz110 : hasZero Try.prog 110 := by unfold hasZero; kernel_rfl
theorem za110 : zeroA Try.prog 110 = Go.Eng.AV.lit Go.Value.nilFunc := by kernel_rfl
theorem sz111 : Try.prog.cellsOf 111 = 1 := by kernel_rfl
theorem by111 : Try.prog.bytesOf 111 = 8 := by kernel_rfl
theorem io111 : (Try.prog.info? 111).isSome = true := by kernel_rfl
theorem eok111 : elemOk Try.prog 111 = true := by kernel_rfl
theorem sty111 : srcTy Try.prog 111 = true := by kernel_rfl
theorem ify111 : ifaceTy Try.prog 111 = false := by kernel_rfl
theorem hz111 : hasZero Try.prog 111 := by unfold hasZero; kernel_rfl
theorem za111 : zeroA Try.prog 111 = Go.Eng.AV.lit Go.Value.nilFunc := by kernel_rfl
theorem sz112 : Try.prog.cellsOf 112 = 1 := by kernel_rfl
theorem by112 : Try.prog.bytesOf 112 = 8 := by kernel_rfl
theorem io112 : (Try.prog.info? 112).isSome = true := by kernel_rfl
theorem eok112 : elemOk Try.prog 112 = true := by kernel_rfl
theorem sty112 : srcTy Try.prog 112 = true := by kernel_rfl
theorem ify112 : ifaceTy Try.prog 112 = false := by kernel_rfl
theorem hz112 : hasZero Try.prog 112 := by unfold hasZero; kernel_rfl
theorem za112 : zeroA Try.prog 112 = Go.Eng.AV.lit Go.Value.nilFunc := by kernel_rfl
theorem sz113 : Try.prog.cellsOf 113 = 1 := by kernel_rfl
theorem by113 : Try.prog.bytesOf 113 = 8 := by kernel_rfl
theorem io113 : (Try.prog.info? 113).isSome = true := by kernel_rfl
theorem eok113 : elemOk Try.prog 113 = true := by kernel_rfl
theorem sty113 : srcTy Try.prog 113 = true := by kernel_rfl
theorem ify113 : ifaceTy Try.prog 113 = false := by kernel_rfl
theorem hz113 : hasZero Try.prog 113 := by unfold hasZero; kernel_rfl
theorem za113 : zeroA Try.prog 113 = Go.Eng.AV.lit Go.Value.nilFunc := by kernel_rfl
theorem sz114 : Try.prog.cellsOf 114 = 1 := by kernel_rfl
theorem by114 : Try.prog.bytesOf 114 = 8 := by kernel_rfl
theorem io114 : (Try.prog.info? 114).isSome = true := by kernel_rfl
theorem eok114 : elemOk Try.prog 114 = true := by kernel_rfl
theorem sty114 : srcTy Try.prog 114 = true := by kernel_rfl
theorem ify114 : ifaceTy Try.prog 114 = false := by kernel_rfl
theorem hz114 : hasZero Try.prog 114 := by unfold hasZero; kernel_rfl
theorem za114 : zeroA Try.prog 114 = Go.Eng.AV.lit Go.Value.nilFunc := by kernel_rfl
theorem sz115 : Try.prog.cellsOf 115 = 1 := by kernel_rfl
theorem by115 : Try.prog.bytesOf 115 = 8 := by kernel_rfl
theorem io115 : (Try.prog.info? 115).isSome = true := by kernel_rfl
theorem eok115 : elemOk Try.prog 115 = true := by kernel_rfl
theorem sty115 : srcTy Try.prog 115 = true := by kernel_rfl
theorem ify115 : ifaceTy Try.prog 115 = false := by kernel_rfl
theorem hz115 : hasZero Try.prog 115 := by unfold hasZero; kernel_rfl
theorem za115 : zeroA Try.prog 115 = Go.Eng.AV.lit Go.Value.nilFunc := by kernel_rfl
theorem sz116 : Try.prog.cellsOf 116 = 1 := by kernel_rfl
theorem by116 : Try.prog.bytesOf 116 = 8 := by kernel_rfl
theorem io116 : (Try.prog.info? 116).isSome = true := by kernel_rfl
theorem eok116 : elemOk Try.prog 116 = true := by kernel_rfl
theorem sty116 : srcTy Try.prog 116 = true := by kernel_rfl
theorem ify116 : ifaceTy Try.prog 116 = false := by kernel_rfl
theorem hz116 : hasZero Try.prog 116 := by unfold hasZero; kernel_rfl
theorem za116 : zeroA Try.prog 116 = Go.Eng.AV.lit Go.Value.nilFunc := by kernel_rfl
theorem sz117 : Try.prog.cellsOf 117 = 1 := by kernel_rfl
theorem by117 : Try.prog.bytesOf 117 = 8 := by kernel_rfl
theorem io117 : (Try.prog.info? 117).isSome = true := by kernel_rfl
theorem eok117 : elemOk Try.prog 117 = true := by kernel_rfl
theorem sty117 : srcTy Try.prog 117 = true := by kernel_rfl
theorem ify117 : ifaceTy Try.prog 117 = false := by kernel_rfl
theorem hz117 : hasZero Try.prog 117 := by unfold hasZero; kernel_rfl
theorem za117 : zeroA Try.prog 117 = Go.Eng.AV.lit Go.Value.nilFunc := by kernel_rfl
theorem sz118 : Try.prog.cellsOf 118 = 1 := by kernel_rfl
theorem by118 : Try.prog.bytesOf 118 = 8 := by kernel_rfl
theorem io118 : (Try.prog.info? 118).isSome = true := by kernel_rfl
theorem eok118 : elemOk Try.prog 118 = true := by kernel_rfl
theorem sty118 : srcTy Try.prog 118 = true := by kernel_rfl
theorem ify118 : ifaceTy Try.prog 118 = false := by kernel_rfl
theorem hz118 : hasZero Try.prog 118 := by unfold hasZero; kernel_rfl
theorem za118 : zeroA Try.prog 118 = Go.Eng.AV.lit Go.Value.nilFunc := by kernel_rfl
theorem sz119 : Try.prog.cellsOf 119 = 1 := by kernel_rfl
theorem by119 : Try.prog.bytesOf 119 = 8 := by kernel_rfl
theorem io119 : (Try.prog.info? 119).isSome = true := by kernel_rfl
theorem eok119 : elemOk Try.prog 119 = true := by kernel_rfl
theorem sty119 : srcTy Try.prog 119 = true := by kernel_rfl
theorem ify119 : ifaceTy Try.prog 119 = false := by kernel_rfl
theorem hz119 : hasZero Try.prog 119 := by unfold hasZero; kernel_rfl
theorem za119 : zeroA Try.prog 119 = Go.Eng.AV.lit Go.Value.nilFunc := by kernel_rfl
theorem sz120 : Try.prog.cellsOf 120 = 1 := by kernel_rfl
theorem by120 : Try.prog.bytesOf 120 = 8 := by kernel_rfl
theorem io120 : (Try.prog.info? 120).isSome = true := by kernel_rfl
theorem eok120 : elemOk Try.prog 120 = true := by kernel_rfl
theorem sty120 : srcTy Try.prog 120 = true := by kernel_rfl
theorem ify120 : ifaceTy Try.prog 120 = false := by kernel_rfl
theorem hz120 : hasZero Try.prog 120 := by unfold hasZero; kernel_rfl
theorem za120 : zeroA Try.prog 120 = Go.Eng.AV.lit Go.Value.nilFunc := by kernel_rfl
theorem sz121 : Try.prog.cellsOf 121 = 1 := by kernel_rfl
theorem by121 : Try.prog.bytesOf 121 = 8 := by kernel_rfl
theorem io121 : (Try.prog.info? 121).isSome = true := by kernel_rfl
theorem eok121 : elemOk Try.prog 121 = true := by kernel_rfl
theorem sty121 : srcTy Try.prog 121 = true := by kernel_rfl
theorem ify121 : ifaceTy Try.prog 121 = false := by kernel_rfl
theorem hz121 : hasZero Try.prog 121 := by unfold hasZero; kernel_rfl
theorem za121 : zeroA Try.prog 121 = Go.Eng.AV.lit Go.Value.nilFunc := by kernel_rfl
theorem sz122 : Try.prog.cellsOf 122 = 1 := by kernel_rfl
theorem by122 : Try.prog.bytesOf 122 = 8 := by kernel_rfl
theorem io122 : (Try.prog.info? 122).isSome = true := by kernel_rfl
theorem eok122 : elemOk Try.prog 122 = true := by kernel_rfl
theorem sty122 : srcTy Try.prog 122 = true := by kernel_rfl
theorem ify122 : ifaceTy Try.prog 122 = false := by kernel_rfl
theorem hz122 : hasZero Try.prog 122 := by unfold hasZero; kernel_rfl
theorem za122 : zeroA Try.prog 122 = Go.Eng.AV.lit Go.Value.nilFunc := by kernel_rfl
theorem sz123 : Try.prog.cellsOf 123 = 1 := by kernel_rfl
theorem by123 : Try.prog.bytesOf 123 = 8 := by kernel_rfl
theorem io123 : (Try.prog.info? 123).isSome = true := by kernel_rfl
theorem eok123 : elemOk Try.prog 123 = true := by kernel_rfl
theorem sty123 : srcTy Try.prog 123 = true := by kernel_rfl
theorem ify123 : ifaceTy Try.prog 123 = false := by kernel_rfl
theorem hz123 : hasZero Try.prog 123 := by unfold hasZero; kernel_rfl
theorem za123 : zeroA Try.prog 123 = Go.Eng.AV.lit Go.Value.nilFunc := by kernel_rfl
theorem sz124 : Try.prog.cellsOf 124 = 1 := by kernel_rfl
theorem by124 : Try.prog.bytesOf 124 = 8 := by kernel_rfl
theorem io124 : (Try.prog.info? 124).isSome = true := by kernel_rfl
theorem eok124 : elemOk Try.prog 124 = true := by kernel_rfl
theorem sty124 : srcTy Try.prog 124 = false := by kernel_rfl
theorem ify124 : ifaceTy Try.prog 124 = false := by kernel_rfl
theorem kf124 : kindOf Try.prog 124 = some (some Go.IntKind.i64) := by kernel_rfl
theorem sh124 : Try.prog.stoodInHeld 124 = false := by kernel_rfl
theorem eg124 : Try.prog.eqGuardType Try.prog.depth 124 = false := by kernel_rfl
theorem hz124 : hasZero Try.prog 124 := by unfold hasZero; kernel_rfl
theorem za124 : zeroA Try.prog 124 = Go.Eng.AV.int Go.IntKind.i64 0 := by kernel_rfl
theorem sz125 : Try.prog.cellsOf 125 = 1 := by kernel_rfl
theorem by125 : Try.prog.bytesOf 125 = 0 := by kernel_rfl
theorem io125 : (Try.prog.info? 125).isSome = true := by kernel_rfl
theorem eok125 : elemOk Try.prog 125 = false := by kernel_rfl
theorem sty125 : srcTy Try.prog 125 = true := by kernel_rfl
theorem ify125 : ifaceTy Try.prog 125 = false := by kernel_rfl
theorem hz125 : hasZero Try.prog 125 := by unfold hasZero; kernel_rfl
theorem sz126 : Try.prog.cellsOf 126 = 1 := by kernel_rfl
theorem by126 : Try.prog.bytesOf 126 = 8 := by kernel_rfl
theorem io126 : (Try.prog.info? 126).isSome = true := by kernel_rfl
theorem eok126 : elemOk Try.prog 126 = true := by kernel_rfl
theorem sty126 : srcTy Try.prog 126 = true := by kernel_rfl
theorem ify126 : ifaceTy Try.prog 126 = false := by kernel_rfl
theorem hz126 : hasZero Try.prog 126 := by unfold hasZero; kernel_rfl
theorem za126 : zeroA Try.prog 126 = Go.Eng.AV.lit Go.Value.nilFunc := by kernel_rfl
theorem sz127 : Try.prog.cellsOf 127 = 1 := by kernel_rfl
theorem by127 : Try.prog.bytesOf 127 = 8 := by kernel_rfl
theorem io127 : (Try.prog.info? 127).isSome = true := by kernel_rfl
theorem eok127 : elemOk Try.prog 127 = true := by kernel_rfl
theorem sty127 : srcTy Try.prog 127 = true := by kernel_rfl
theorem ify127 : ifaceTy Try.prog 127 = false := by kernel_rfl
theorem hz127 : hasZero Try.prog 127 := by unfold hasZero; kernel_rfl
theorem za127 : zeroA Try.prog 127 = Go.Eng.AV.lit Go.Value.nilFunc := by kernel_rfl
theorem sz128 : Try.prog.cellsOf 128 = 1 := by kernel_rfl
theorem by128 : Try.prog.bytesOf 128 = 8 := by kernel_rfl
theorem io128 : (Try.prog.info? 128).isSome = true := by kernel_rfl
theorem eok128 : elemOk Try.prog 128 = true := by kernel_rfl
theorem sty128 : srcTy Try.prog 128 = true := by kernel_rfl
theorem ify128 : ifaceTy Try.prog 128 = false := by kernel_rfl
theorem hz128 : hasZero Try.prog 128 := by unfold hasZero; kernel_rfl
theorem za128 : zeroA Try.prog 128 = Go.Eng.AV.lit Go.Value.nilFunc := by kernel_rfl
theorem sz129 : Try.prog.cellsOf 129 = 1 := by kernel_rfl
theorem by129 : Try.prog.bytesOf 129 = 8 := by kernel_rfl
theorem io129 : (Try.prog.info? 129).isSome = true := by kernel_rfl
theorem eok129 : elemOk Try.prog 129 = true := by kernel_rfl
theorem sty129 : srcTy Try.prog 129 = true := by kernel_rfl
theorem ify129 : ifaceTy Try.prog 129 = false := by kernel_rfl
theorem hz129 : hasZero Try.prog 129 := by unfold hasZero; kernel_rfl
theorem za129 : zeroA Try.prog 129 = Go.Eng.AV.lit Go.Value.nilFunc := by kernel_rfl
theorem sz130 : Try.prog.cellsOf 130 = 1 := by kernel_rfl
theorem by130 : Try.prog.bytesOf 130 = 0 := by kernel_rfl
theorem io130 : (Try.prog.info? 130).isSome = true := by kernel_rfl
theorem eok130 : elemOk Try.prog 130 = false := by kernel_rfl
theorem sty130 : srcTy Try.prog 130 = true := by kernel_rfl
theorem ify130 : ifaceTy Try.prog 130 = false := by kernel_rfl
theorem hz130 : hasZero Try.prog 130 := by unfold hasZero; kernel_rfl
theorem sz131 : Try.prog.cellsOf 131 = 1 := by kernel_rfl
theorem by131 : Try.prog.bytesOf 131 = 8 := by kernel_rfl
theorem io131 : (Try.prog.info? 131).isSome = true := by kernel_rfl
theorem eok131 : elemOk Try.prog 131 = true := by kernel_rfl
theorem sty131 : srcTy Try.prog 131 = true := by kernel_rfl
theorem ify131 : ifaceTy Try.prog 131 = false := by kernel_rfl
theorem hz131 : hasZero Try.prog 131 := by unfold hasZero; kernel_rfl
theorem za131 : zeroA Try.prog 131 = Go.Eng.AV.lit Go.Value.nilFunc := by kernel_rfl
theorem sz132 : Try.prog.cellsOf 132 = 1 := by kernel_rfl
theorem by132 : Try.prog.bytesOf 132 = 8 := by kernel_rfl
theorem io132 : (Try.prog.info? 132).isSome = true := by kernel_rfl
theorem eok132 : elemOk Try.prog 132 = true := by kernel_rfl
theorem sty132 : srcTy Try.prog 132 = true := by kernel_rfl
theorem ify132 : ifaceTy Try.prog 132 = false := by kernel_rfl
theorem hz132 : hasZero Try.prog 132 := by unfold hasZero; kernel_rfl
theorem za132 : zeroA Try.prog 132 = Go.Eng.AV.lit Go.Value.nilFunc := by kernel_rfl
theorem sz133 : Try.prog.cellsOf 133 = 1 := by kernel_rfl
theorem by133 : Try.prog.bytesOf 133 = 8 := by kernel_rfl
theorem io133 : (Try.prog.info? 133).isSome = true := by kernel_rfl
theorem eok133 : elemOk Try.prog 133 = true := by kernel_rfl
theorem sty133 : srcTy Try.prog 133 = false := by kernel_rfl
theorem ify133 : ifaceTy Try.prog 133 = false := by kernel_rfl
theorem kf133 : kindOf Try.prog 133 = some (some Go.IntKind.u64) := by kernel_rfl
theorem sh133 : Try.prog.stoodInHeld 133 = false := by kernel_rfl
theorem eg133 : Try.prog.eqGuardType Try.prog.depth 133 = false := by kernel_rfl
theorem hz133 : hasZero Try.prog 133 := by unfold hasZero; kernel_rfl
theorem za133 : zeroA Try.prog 133 = Go.Eng.AV.int Go.IntKind.u64 0 := by kernel_rfl
theorem sz134 : Try.prog.cellsOf 134 = 1 := by kernel_rfl
theorem by134 : Try.prog.bytesOf 134 = 8 := by kernel_rfl
theorem io134 : (Try.prog.info? 134).isSome = true := by kernel_rfl
theorem eok134 : elemOk Try.prog 134 = true := by kernel_rfl
theorem sty134 : srcTy Try.prog 134 = true := by kernel_rfl
theorem ify134 : ifaceTy Try.prog 134 = false := by kernel_rfl
theorem hz134 : hasZero Try.prog 134 := by unfold hasZero; kernel_rfl
theorem za134 : zeroA Try.prog 134 = Go.Eng.AV.lit Go.Value.nilFunc := by kernel_rfl
theorem sz135 : Try.prog.cellsOf 135 = 1 := by kernel_rfl
theorem by135 : Try.prog.bytesOf 135 = 8 := by kernel_rfl
theorem io135 : (Try.prog.info? 135).isSome = true := by kernel_rfl
theorem eok135 : elemOk Try.prog 135 = true := by kernel_rfl
theorem sty135 : srcTy Try.prog 135 = true := by kernel_rfl
theorem ify135 : ifaceTy Try.prog 135 = false := by kernel_rfl
theorem hz135 : hasZero Try.prog 135 := by unfold hasZero; kernel_rfl
theorem za135 : zeroA Try.prog 135 = Go.Eng.AV.lit Go.Value.nilFunc := by kernel_rfl
theorem sz136 : Try.prog.cellsOf 136 = 1 := by kernel_rfl
theorem by136 : Try.prog.bytesOf 136 = 8 := by kernel_rfl
theorem io136 : (Try.prog.info? 136).isSome = true := by kernel_rfl
theorem eok136 : elemOk Try.prog 136 = true := by kernel_rfl
theorem sty136 : srcTy Try.prog 136 = true := by kernel_rfl
theorem ify136 : ifaceTy Try.prog 136 = false := by kernel_rfl
theorem hz136 : hasZero Try.prog 136 := by unfold hasZero; kernel_rfl
theorem za136 : zeroA Try.prog 136 = Go.Eng.AV.lit Go.Value.nilFunc := by kernel_rfl
theorem sz137 : Try.prog.cellsOf 137 = 1 := by kernel_rfl
theorem by137 : Try.prog.bytesOf 137 = 8 := by kernel_rfl
theorem io137 : (Try.prog.info? 137).isSome = true := by kernel_rfl
theorem eok137 : elemOk Try.prog 137 = true := by kernel_rfl
theorem sty137 : srcTy Try.prog 137 = true := by kernel_rfl
theorem ify137 : ifaceTy Try.prog 137 = false := by kernel_rfl
theorem hz137 : hasZero Try.prog 137 := by unfold hasZero; kernel_rfl
theorem za137 : zeroA Try.prog 137 = Go.Eng.AV.lit (Go.Value.pointer none) := by kernel_rfl
theorem sz138 : Try.prog.cellsOf 138 = 1 := by kernel_rfl
theorem by138 : Try.prog.bytesOf 138 = 8 := by kernel_rfl
theorem io138 : (Try.prog.info? 138).isSome = true := by kernel_rfl
theorem eok138 : elemOk Try.prog 138 = true := by kernel_rfl
theorem sty138 : srcTy Try.prog 138 = true := by kernel_rfl
theorem ify138 : ifaceTy Try.prog 138 = false := by kernel_rfl
theorem hz138 : hasZero Try.prog 138 := by unfold hasZero; kernel_rfl
theorem za138 : zeroA Try.prog 138 = Go.Eng.AV.lit Go.Value.nilFunc := by kernel_rfl
theorem sz139 : Try.prog.cellsOf 139 = 1 := by kernel_rfl
theorem by139 : Try.prog.bytesOf 139 = 8 := by kernel_rfl
theorem io139 : (Try.prog.info? 139).isSome = true := by kernel_rfl
theorem eok139 : elemOk Try.prog 139 = true := by kernel_rfl
theorem sty139 : srcTy Try.prog 139 = true := by kernel_rfl
theorem ify139 : ifaceTy Try.prog 139 = false := by kernel_rfl
theorem hz139 : hasZero Try.prog 139 := by unfold hasZero; kernel_rfl
theorem za139 : zeroA Try.prog 139 = Go.Eng.AV.lit (Go.Value.pointer none) := by kernel_rfl
theorem sz140 : Try.prog.cellsOf 140 = 1 := by kernel_rfl
theorem by140 : Try.prog.bytesOf 140 = 0 := by kernel_rfl
theorem io140 : (Try.prog.info? 140).isSome = true := by kernel_rfl
theorem eok140 : elemOk Try.prog 140 = false := by kernel_rfl
theorem sty140 : srcTy Try.prog 140 = true := by kernel_rfl
theorem ify140 : ifaceTy Try.prog 140 = false := by kernel_rfl
theorem hz140 : hasZero Try.prog 140 := by unfold hasZero; kernel_rfl
theorem sz141 : Try.prog.cellsOf 141 = 1 := by kernel_rfl
theorem by141 : Try.prog.bytesOf 141 = 8 := by kernel_rfl
theorem io141 : (Try.prog.info? 141).isSome = true := by kernel_rfl
theorem eok141 : elemOk Try.prog 141 = true := by kernel_rfl
theorem sty141 : srcTy Try.prog 141 = true := by kernel_rfl
theorem ify141 : ifaceTy Try.prog 141 = false := by kernel_rfl
theorem hz141 : hasZero Try.prog 141 := by unfold hasZero; kernel_rfl
theorem za141 : zeroA Try.prog 141 = Go.Eng.AV.lit Go.Value.nilFunc := by kernel_rfl
theorem sz142 : Try.prog.cellsOf 142 = 4 := by kernel_rfl
theorem by142 : Try.prog.bytesOf 142 = 40 := by kernel_rfl
theorem io142 : (Try.prog.info? 142).isSome = true := by kernel_rfl
theorem eok142 : elemOk Try.prog 142 = true := by kernel_rfl
theorem sty142 : srcTy Try.prog 142 = true := by kernel_rfl
theorem ify142 : ifaceTy Try.prog 142 = false := by kernel_rfl
theorem sh142 : Try.prog.stoodInHeld 142 = true := by kernel_rfl
theorem eg142 : Try.prog.eqGuardType Try.prog.depth 142 = false := by kernel_rfl
theorem hz142 : hasZero Try.prog 142 := by unfold hasZero; kernel_rfl
theorem za142 : zeroA Try.prog 142 = Go.Eng.AV.agg [Go.Eng.AV.lit (Go.Value.pointer none), Go.Eng.AV.lit (Go.Value.pointer none), Go.Eng.AV.lit (Go.Value.pointer none), Go.Eng.AV.str []] := by kernel_rfl
theorem sz143 : Try.prog.cellsOf 143 = 4 := by kernel_rfl
theorem by143 : Try.prog.bytesOf 143 = 40 := by kernel_rfl
theorem io143 : (Try.prog.info? 143).isSome = true := by kernel_rfl
theorem eok143 : elemOk Try.prog 143 = true := by kernel_rfl
theorem sty143 : srcTy Try.prog 143 = true := by kernel_rfl
theorem ify143 : ifaceTy Try.prog 143 = false := by kernel_rfl
theorem sh143 : Try.prog.stoodInHeld 143 = true := by kernel_rfl
theorem eg143 : Try.prog.eqGuardType Try.prog.depth 143 = false := by kernel_rfl
theorem hz143 : hasZero Try.prog 143 := by unfold hasZero; kernel_rfl
theorem za143 : zeroA Try.prog 143 = Go.Eng.AV.agg [Go.Eng.AV.lit (Go.Value.pointer none), Go.Eng.AV.lit (Go.Value.pointer none), Go.Eng.AV.lit (Go.Value.pointer none), Go.Eng.AV.str []] := by kernel_rfl
theorem sz144 : Try.prog.cellsOf 144 = 0 := by kernel_rfl
theorem by144 : Try.prog.bytesOf 144 = 0 := by kernel_rfl
theorem io144 : (Try.prog.info? 144).isSome = true := by kernel_rfl
theorem eok144 : elemOk Try.prog 144 = false := by kernel_rfl
theorem sty144 : srcTy Try.prog 144 = true := by kernel_rfl
theorem ify144 : ifaceTy Try.prog 144 = false := by kernel_rfl
theorem hz144 : hasZero Try.prog 144 := by unfold hasZero; kernel_rfl
theorem za144 : zeroA Try.prog 144 = Go.Eng.AV.agg [] := by kernel_rfl
theorem sz145 : Try.prog.cellsOf 145 = 0 := by kernel_rfl
theorem by145 : Try.prog.bytesOf 145 = 0 := by kernel_rfl
theorem io145 : (Try.prog.info? 145).isSome = true := by kernel_rfl
theorem eok145 : elemOk Try.prog 145 = false := by kernel_rfl
theorem sty145 : srcTy Try.prog 145 = true := by kernel_rfl
theorem ify145 : ifaceTy Try.prog 145 = false := by kernel_rfl
theorem hz145 : hasZero Try.prog 145 := by unfold hasZero; kernel_rfl
theorem za145 : zeroA Try.prog 145 = Go.Eng.AV.agg [] := by kernel_rfl
theorem sz146 : Try.prog.cellsOf 146 = 0 := by kernel_rfl
theorem by146 : Try.prog.bytesOf 146 = 0 := by kernel_rfl
theorem io146 : (Try.prog.info? 146).isSome = true := by kernel_rfl
theorem eok146 : elemOk Try.prog 146 = false := by kernel_rfl
theorem sty146 : srcTy Try.prog 146 = true := by kernel_rfl
theorem ify146 : ifaceTy Try.prog 146 = false := by kernel_rfl
theorem hz146 : hasZero Try.prog 146 := by unfold hasZero; kernel_rfl
theorem za146 : zeroA Try.prog 146 = Go.Eng.AV.agg [] := by kernel_rfl
theorem sz147 : Try.prog.cellsOf 147 = 1 := by kernel_rfl
theorem by147 : Try.prog.bytesOf 147 = 1 := by kernel_rfl
theorem io147 : (Try.prog.info? 147).isSome = true := by kernel_rfl
theorem eok147 : elemOk Try.prog 147 = true := by kernel_rfl
theorem sty147 : srcTy Try.prog 147 = false := by kernel_rfl
theorem ify147 : ifaceTy Try.prog 147 = false := by kernel_rfl
theorem kf147 : kindOf Try.prog 147 = some (some Go.IntKind.u8) := by kernel_rfl
theorem sh147 : Try.prog.stoodInHeld 147 = false := by kernel_rfl
theorem eg147 : Try.prog.eqGuardType Try.prog.depth 147 = false := by kernel_rfl
theorem hz147 : hasZero Try.prog 147 := by unfold hasZero; kernel_rfl
theorem za147 : zeroA Try.prog 147 = Go.Eng.AV.int Go.IntKind.u8 0 := by kernel_rfl
theorem sz148 : Try.prog.cellsOf 148 = 1 := by kernel_rfl
theorem by148 : Try.prog.bytesOf 148 = 1 := by kernel_rfl
theorem io148 : (Try.prog.info? 148).isSome = true := by kernel_rfl
theorem eok148 : elemOk Try.prog 148 = true := by kernel_rfl
theorem sty148 : srcTy Try.prog 148 = false := by kernel_rfl
theorem ify148 : ifaceTy Try.prog 148 = false := by kernel_rfl
theorem kf148 : kindOf Try.prog 148 = some (some Go.IntKind.u8) := by kernel_rfl
theorem sh148 : Try.prog.stoodInHeld 148 = false := by kernel_rfl
theorem eg148 : Try.prog.eqGuardType Try.prog.depth 148 = false := by kernel_rfl
theorem hz148 : hasZero Try.prog 148 := by unfold hasZero; kernel_rfl
theorem za148 : zeroA Try.prog 148 = Go.Eng.AV.int Go.IntKind.u8 0 := by kernel_rfl
theorem sz149 : Try.prog.cellsOf 149 = 1 := by kernel_rfl
theorem by149 : Try.prog.bytesOf 149 = 8 := by kernel_rfl
theorem io149 : (Try.prog.info? 149).isSome = true := by kernel_rfl
theorem eok149 : elemOk Try.prog 149 = true := by kernel_rfl
theorem sty149 : srcTy Try.prog 149 = true := by kernel_rfl
theorem ify149 : ifaceTy Try.prog 149 = false := by kernel_rfl
theorem hz149 : hasZero Try.prog 149 := by unfold hasZero; kernel_rfl
theorem za149 : zeroA Try.prog 149 = Go.Eng.AV.lit Go.Value.nilFunc := by kernel_rfl
theorem sz150 : Try.prog.cellsOf 150 = 1 := by kernel_rfl
theorem by150 : Try.prog.bytesOf 150 = 8 := by kernel_rfl
theorem io150 : (Try.prog.info? 150).isSome = true := by kernel_rfl
theorem eok150 : elemOk Try.prog 150 = true := by kernel_rfl
theorem sty150 : srcTy Try.prog 150 = true := by kernel_rfl
theorem ify150 : ifaceTy Try.prog 150 = false := by kernel_rfl
theorem hz150 : hasZero Try.prog 150 := by unfold hasZero; kernel_rfl
theorem za150 : zeroA Try.prog 150 = Go.Eng.AV.lit (Go.Value.pointer none) := by kernel_rfl
theorem sz151 : Try.prog.cellsOf 151 = 1 := by kernel_rfl
theorem by151 : Try.prog.bytesOf 151 = 4 := by kernel_rfl
theorem io151 : (Try.prog.info? 151).isSome = true := by kernel_rfl
theorem eok151 : elemOk Try.prog 151 = true := by kernel_rfl
theorem sty151 : srcTy Try.prog 151 = false := by kernel_rfl
theorem ify151 : ifaceTy Try.prog 151 = false := by kernel_rfl
theorem kf151 : kindOf Try.prog 151 = some (some Go.IntKind.i32) := by kernel_rfl
theorem sh151 : Try.prog.stoodInHeld 151 = false := by kernel_rfl
theorem eg151 : Try.prog.eqGuardType Try.prog.depth 151 = false := by kernel_rfl
theorem hz151 : hasZero Try.prog 151 := by unfold hasZero; kernel_rfl
theorem za151 : zeroA Try.prog 151 = Go.Eng.AV.int Go.IntKind.i32 0 := by kernel_rfl
theorem sz152 : Try.prog.cellsOf 152 = 1 := by kernel_rfl
theorem by152 : Try.prog.bytesOf 152 = 4 := by kernel_rfl
theorem io152 : (Try.prog.info? 152).isSome = true := by kernel_rfl
theorem eok152 : elemOk Try.prog 152 = true := by kernel_rfl
theorem sty152 : srcTy Try.prog 152 = false := by kernel_rfl
theorem ify152 : ifaceTy Try.prog 152 = false := by kernel_rfl
theorem kf152 : kindOf Try.prog 152 = some (some Go.IntKind.i32) := by kernel_rfl
theorem sh152 : Try.prog.stoodInHeld 152 = false := by kernel_rfl
theorem eg152 : Try.prog.eqGuardType Try.prog.depth 152 = false := by kernel_rfl
theorem hz152 : hasZero Try.prog 152 := by unfold hasZero; kernel_rfl
theorem za152 : zeroA Try.prog 152 = Go.Eng.AV.int Go.IntKind.i32 0 := by kernel_rfl
theorem sz153 : Try.prog.cellsOf 153 = 11 := by kernel_rfl
theorem by153 : Try.prog.bytesOf 153 = 48 := by kernel_rfl
theorem io153 : (Try.prog.info? 153).isSome = true := by kernel_rfl
theorem eok153 : elemOk Try.prog 153 = true := by kernel_rfl
theorem sty153 : srcTy Try.prog 153 = true := by kernel_rfl
theorem ify153 : ifaceTy Try.prog 153 = false := by kernel_rfl
theorem sh153 : Try.prog.stoodInHeld 153 = true := by kernel_rfl
theorem eg153 : Try.prog.eqGuardType Try.prog.depth 153 = false := by kernel_rfl
theorem hz153 : hasZero Try.prog 153 := by unfold hasZero; kernel_rfl
theorem za153 : zeroA Try.prog 153 = Go.Eng.AV.agg [Go.Eng.AV.int Go.IntKind.u64 0, Go.Eng.AV.int Go.IntKind.u64 0, Go.Eng.AV.int Go.IntKind.u32 0, Go.Eng.AV.int Go.IntKind.u8 0, Go.Eng.AV.int Go.IntKind.u8 0, Go.Eng.AV.int Go.IntKind.u8 0, Go.Eng.AV.int Go.IntKind.u8 0, Go.Eng.AV.lit Go.Value.nilFunc, Go.Eng.AV.lit (Go.Value.pointer none), Go.Eng.AV.int Go.IntKind.i32 0, Go.Eng.AV.int Go.IntKind.i32 0] := by kernel_rfl
theorem sz154 : Try.prog.cellsOf 154 = 11 := by kernel_rfl
theorem by154 : Try.prog.bytesOf 154 = 48 := by kernel_rfl
theorem io154 : (Try.prog.info? 154).isSome = true := by kernel_rfl
theorem eok154 : elemOk Try.prog 154 = true := by kernel_rfl
theorem sty154 : srcTy Try.prog 154 = true := by kernel_rfl
theorem ify154 : ifaceTy Try.prog 154 = false := by kernel_rfl
theorem sh154 : Try.prog.stoodInHeld 154 = true := by kernel_rfl
theorem eg154 : Try.prog.eqGuardType Try.prog.depth 154 = false := by kernel_rfl
theorem hz154 : hasZero Try.prog 154 := by unfold hasZero; kernel_rfl
theorem za154 : zeroA Try.prog 154 = Go.Eng.AV.agg [Go.Eng.AV.int Go.IntKind.u64 0, Go.Eng.AV.int Go.IntKind.u64 0, Go.Eng.AV.int Go.IntKind.u32 0, Go.Eng.AV.int Go.IntKind.u8 0, Go.Eng.AV.int Go.IntKind.u8 0, Go.Eng.AV.int Go.IntKind.u8 0, Go.Eng.AV.int Go.IntKind.u8 0, Go.Eng.AV.lit Go.Value.nilFunc, Go.Eng.AV.lit (Go.Value.pointer none), Go.Eng.AV.int Go.IntKind.i32 0, Go.Eng.AV.int Go.IntKind.i32 0] := by kernel_rfl
theorem sz155 : Try.prog.cellsOf 155 = 1 := by kernel_rfl
theorem by155 : Try.prog.bytesOf 155 = 8 := by kernel_rfl
theorem io155 : (Try.prog.info? 155).isSome = true := by kernel_rfl
theorem eok155 : elemOk Try.prog 155 = true := by kernel_rfl
theorem sty155 : srcTy Try.prog 155 = true := by kernel_rfl
theorem ify155 : ifaceTy Try.prog 155 = false := by kernel_rfl
theorem hz155 : hasZero Try.prog 155 := by unfold hasZero; kernel_rfl
theorem za155 : zeroA Try.prog 155 = Go.Eng.AV.lit (Go.Value.pointer none) := by kernel_rfl
attribute [push_cast] sz0 by0 io0 eok0 sty0 ify0 hz0 sz1 by1 io1 eok1 sty1 ify1 hz1 za1 sz2 by2 io2 eok2 sty2 ify2 kf2 sh2 eg2 hz2 za2 sz3 by3 io3 eok3 sty3 ify3 kf3 sh3 eg3 hz3 za3 sz4 by4 io4 eok4 sty4 ify4 hz4 za4 sz5 by5 io5 eok5 sty5 ify5 kf5 sh5 eg5 hz5 za5 sz6 by6 io6 eok6 sty6 ify6 kf6 sh6 eg6 hz6 za6 sz7 by7 io7 eok7 sty7 ify7 sh7 eg7 hz7 za7 sz8 by8 io8 eok8 sty8 ify8 sh8 eg8 hz8 za8 sz9 by9 io9 eok9 sty9 ify9 kf9 sh9 eg9 hz9 za9 sz10 by10 io10 eok10 sty10 ify10 kf10 sh10 eg10 hz10 za10 sz11 by11 io11 eok11 sty11 ify11 kf11 sh11 eg11 hz11 za11 sz12 by12 io12 eok12 sty12 ify12 kf12 sh12 eg12 hz12 za12 sz13 by13 io13 eok13 sty13 ify13 sh13 eg13 hz13 za13 sz14 by14 io14 eok14 sty14 ify14 sh14 eg14 hz14 za14 sz15 by15 io15 eok15 sty15 ify15 hz15 za15 sz16 by16 io16 eok16 sty16 ify16 hz16 za16 sz17 by17 io17 eok17 sty17 ify17 hz17 za17 sz18 by18 io18 eok18 sty18 ify18 hz18 za18 sz19 by19 io19 eok19 sty19 ify19 hz19 za19 sz20 by20 io20 eok20 sty20 ify20 hz20 za20 sz21 by21 io21 eok21 sty21 ify21 kf21 sh21 eg21 hz21 za21 sz22 by22 io22 eok22 sty22 ify22 hz22 za22 sz23 by23 io23 eok23 sty23 ify23 kf23 sh23 eg23 hz23 za23 sz24 by24 io24 eok24 sty24 ify24 hz24 za24 sz25 by25 io25 eok25 sty25 ify25 hz25 za25 sz26 by26 io26 eok26 sty26 ify26 hz26 za26 sz27 by27 io27 eok27 sty27 ify27 hz27 sz28 by28 io28 eok28 sty28 ify28 hz28 za28 sz29 by29 io29 eok29 sty29 ify29 hz29 sz30 by30 io30 eok30 sty30 ify30 hz30 za30 sz31 by31 io31 eok31 sty31 ify31 hz31 za31 sz32 by32 io32 eok32 sty32 ify32 hz32 za32 sz33 by33 io33 eok33 sty33 ify33 hz33 za33 sz34 by34 io34 eok34 sty34 ify34 hz34 za34 sz35 by35 io35 eok35 sty35 ify35 hz35 za35 sz36 by36 io36 eok36 sty36 ify36 hz36 za36 sz37 by37 io37 eok37 sty37 ify37 hz37 za37 sz38 by38 io38 eok38 sty38 ify38 hz38 za38 sz39 by39 io39 eok39 sty39 ify39 sh39 eg39 hz39 za39 sz40 by40 io40 eok40 sty40 ify40 sh40 eg40 hz40 za40 sz41 by41 io41 eok41 sty41 ify41 hz41 za41 sz42 by42 io42 eok42 sty42 ify42 hz42 za42 sz43 by43 io43 eok43 sty43 ify43 kf43 sh43 eg43 hz43 za43 sz44 by44 io44 eok44 sty44 ify44 hz44 sz45 by45 io45 eok45 sty45 ify45 hz45 za45 sz46 by46 io46 eok46 sty46 ify46 hz46 za46 sz47 by47 io47 eok47 sty47 ify47 hz47 sz48 by48 io48 eok48 sty48 ify48 hz48 za48 sz49 by49 io49 eok49 sty49 ify49 hz49 za49 sz50 by50 io50 eok50 sty50 ify50 hz50 za50 sz51 by51 io51 eok51 sty51 ify51 hz51 za51 sz52 by52 io52 eok52 sty52 ify52 kf52 sh52 eg52 hz52 za52 sz53 by53 io53 eok53 sty53 ify53 sh53 eg53 hz53 za53 sz54 by54 io54 eok54 sty54 ify54 sh54 eg54 hz54 za54 sz55 by55 io55 eok55 sty55 ify55 hz55 za55 sz56 by56 io56 eok56 sty56 ify56 sh56 eg56 hz56 za56 sz57 by57 io57 eok57 sty57 ify57 sh57 eg57 hz57 za57 sz58 by58 io58 eok58 sty58 ify58 hz58 za58 sz59 by59 io59 eok59 sty59 ify59 hz59 za59 sz60 by60 io60 eok60 sty60 ify60 hz60 za60 sz61 by61 io61 eok61 sty61 ify61 hz61 za61 sz62 by62 io62 eok62 sty62 ify62 hz62 za62 sz63 by63 io63 eok63 sty63 ify63 hz63 za63 sz64 by64 io64 eok64 sty64 ify64 hz64 za64 sz65 by65 io65 eok65 sty65 ify65 hz65 za65 sz66 by66 io66 eok66 sty66 ify66 hz66 za66 sz67 by67 io67 eok67 sty67 ify67 hz67 za67 sz68 by68 io68 eok68 sty68 ify68 sh68 eg68 hz68 za68 sz69 by69 io69 eok69 sty69 ify69 sh69 eg69 hz69 za69 sz70 by70 io70 eok70 sty70 ify70 hz70 za70 sz71 by71 io71 eok71 sty71 ify71 hz71 za71 sz72 by72 io72 eok72 sty72 ify72 hz72 za72 sz73 by73 io73 eok73 sty73 ify73 hz73 za73 sz74 by74 io74 eok74 sty74 ify74 hz74 sz75 by75 io75 eok75 sty75 ify75 hz75 za75 sz76 by76 io76 eok76 sty76 ify76 hz76 za76 sz77 by77 io77 eok77 sty77 ify77 sh77 eg77 hz77 za77 sz78 by78 io78 eok78 sty78 ify78 sh78 eg78 hz78 za78 sz79 by79 io79 eok79 sty79 ify79 hz79 za79 sz80 by80 io80 eok80 sty80 ify80 hz80 za80 sz81 by81 io81 eok81 sty81 ify81 hz81 za81 sz82 by82 io82 eok82 sty82 ify82 kf82 sh82 eg82 hz82 za82 sz83 by83 io83 eok83 sty83 ify83 hz83 za83 sz84 by84 io84 eok84 sty84 ify84 hz84 za84 sz85 by85 io85 eok85 sty85 ify85 hz85 za85 sz86 by86 io86 eok86 sty86 ify86 hz86 za86 sz87 by87 io87 eok87 sty87 ify87 hz87 za87 sz88 by88 io88 eok88 sty88 ify88 hz88 za88 sz89 by89 io89 eok89 sty89 ify89 hz89 za89 sz90 by90 io90 eok90 sty90 ify90 hz90 za90 sz91 by91 io91 eok91 sty91 ify91 hz91 za91 sz92 by92 io92 eok92 sty92 ify92 hz92 za92 sz93 by93 io93 eok93 sty93 ify93 hz93 za93 sz94 by94 io94 eok94 sty94 ify94 hz94 za94 sz95 by95 io95 eok95 sty95 ify95 hz95 za95 sz96 by96 io96 eok96 sty96 ify96 hz96 za96 sz97 by97 io97 eok97 sty97 ify97 hz97 za97 sz98 by98 io98 eok98 sty98 ify98 hz98 za98 sz99 by99 io99 eok99 sty99 ify99 hz99 za99 sz100 by100 io100 eok100 sty100 ify100 hz100 za100 sz101 by101 io101 eok101 sty101 ify101 hz101 za101 sz102 by102 io102 eok102 sty102 ify102 hz102 za102 sz103 by103 io103 eok103 sty103 ify103 hz103 za103 sz104 by104 io104 eok104 sty104 ify104 hz104 za104 sz105 by105 io105 eok105 sty105 ify105 hz105 za105 sz106 by106 io106 eok106 sty106 ify106 hz106 za106 sz107 by107 io107 eok107 sty107 ify107 hz107 za107 sz108 by108 io108 eok108 sty108 ify108 hz108 za108 sz109 by109 io109 eok109 sty109 ify109 hz109 za109 sz110 by110 io110 eok110 sty110 ify110 hz110 za110 sz111 by111 io111 eok111 sty111 ify111 hz111 za111 sz112 by112 io112 eok112 sty112 ify112 hz112 za112 sz113 by113 io113 eok113 sty113 ify113 hz113 za113 sz114 by114 io114 eok114 sty114 ify114 hz114 za114 sz115 by115 io115 eok115 sty115 ify115 hz115 za115 sz116 by116 io116 eok116 sty116 ify116 hz116 za116 sz117 by117 io117 eok117 sty117 ify117 hz117 za117 sz118 by118 io118 eok118 sty118 ify118 hz118 za118 sz119 by119 io119 eok119 sty119 ify119 hz119 za119 sz120 by120 io120 eok120 sty120 ify120 hz120 za120 sz121 by121 io121 eok121 sty121 ify121 hz121 za121 sz122 by122 io122 eok122 sty122 ify122 hz122 za122 sz123 by123 io123 eok123 sty123 ify123 hz123 za123 sz124 by124 io124 eok124 sty124 ify124 kf124 sh124 eg124 hz124 za124 sz125 by125 io125 eok125 sty125 ify125 hz125 sz126 by126 io126 eok126 sty126 ify126 hz126 za126 sz127 by127 io127 eok127 sty127 ify127 hz127 za127 sz128 by128 io128 eok128 sty128 ify128 hz128 za128 sz129 by129 io129 eok129 sty129 ify129 hz129 za129 sz130 by130 io130 eok130 sty130 ify130 hz130 sz131 by131 io131 eok131 sty131 ify131 hz131 za131 sz132 by132 io132 eok132 sty132 ify132 hz132 za132 sz133 by133 io133 eok133 sty133 ify133 kf133 sh133 eg133 hz133 za133 sz134 by134 io134 eok134 sty134 ify134 hz134 za134 sz135 by135 io135 eok135 sty135 ify135 hz135 za135 sz136 by136 io136 eok136 sty136 ify136 hz136 za136 sz137 by137 io137 eok137 sty137 ify137 hz137 za137 sz138 by138 io138 eok138 sty138 ify138 hz138 za138 sz139 by139 io139 eok139 sty139 ify139 hz139 za139 sz140 by140 io140 eok140 sty140 ify140 hz140 sz141 by141 io141 eok141 sty141 ify141 hz141 za141 sz142 by142 io142 eok142 sty142 ify142 sh142 eg142 hz142 za142 sz143 by143 io143 eok143 sty143 ify143 sh143 eg143 hz143 za143 sz144 by144 io144 eok144 sty144 ify144 hz144 za144 sz145 by145 io145 eok145 sty145 ify145 hz145 za145 sz146 by146 io146 eok146 sty146 ify146 hz146 za146 sz147 by147 io147 eok147 sty147 ify147 kf147 sh147 eg147 hz147 za147 sz148 by148 io148 eok148 sty148 ify148 kf148 sh148 eg148 hz148 za148 sz149 by149 io149 eok149 sty149 ify149 hz149 za149 sz150 by150 io150 eok150 sty150 ify150 hz150 za150 sz151 by151 io151 eok151 sty151 ify151 kf151 sh151 eg151 hz151 za151 sz152 by152 io152 eok152 sty152 ify152 kf152 sh152 eg152 hz152 za152 sz153 by153 io153 eok153 sty153 ify153 sh153 eg153 hz153 za153 sz154 by154 io154 eok154 sty154 ify154 sh154 eg154 hz154 za154 sz155 by155 io155 eok155 sty155 ify155 hz155 za155 Go.Proofs.Try.underlying0 Go.Proofs.Try.underlying1 Go.Proofs.Try.underlying2 Go.Proofs.Try.underlying3 Go.Proofs.Try.underlying4 Go.Proofs.Try.underlying5 Go.Proofs.Try.underlying6 Go.Proofs.Try.underlying7 Go.Proofs.Try.underlying8 Go.Proofs.Try.underlying9 Go.Proofs.Try.underlying10 Go.Proofs.Try.underlying11 Go.Proofs.Try.underlying12 Go.Proofs.Try.underlying13 Go.Proofs.Try.underlying14 Go.Proofs.Try.underlying15 Go.Proofs.Try.underlying16 Go.Proofs.Try.underlying17 Go.Proofs.Try.underlying18 Go.Proofs.Try.underlying19 Go.Proofs.Try.underlying20 Go.Proofs.Try.underlying21 Go.Proofs.Try.underlying22 Go.Proofs.Try.underlying23 Go.Proofs.Try.underlying24 Go.Proofs.Try.underlying25 Go.Proofs.Try.underlying26 Go.Proofs.Try.underlying27 Go.Proofs.Try.underlying28 Go.Proofs.Try.underlying29 Go.Proofs.Try.underlying30 Go.Proofs.Try.underlying31 Go.Proofs.Try.underlying32 Go.Proofs.Try.underlying33 Go.Proofs.Try.underlying34 Go.Proofs.Try.underlying35 Go.Proofs.Try.underlying36 Go.Proofs.Try.underlying37 Go.Proofs.Try.underlying38 Go.Proofs.Try.underlying39 Go.Proofs.Try.underlying40 Go.Proofs.Try.underlying41 Go.Proofs.Try.underlying42 Go.Proofs.Try.underlying43 Go.Proofs.Try.underlying44 Go.Proofs.Try.underlying45 Go.Proofs.Try.underlying46 Go.Proofs.Try.underlying47 Go.Proofs.Try.underlying48 Go.Proofs.Try.underlying49 Go.Proofs.Try.underlying50 Go.Proofs.Try.underlying51 Go.Proofs.Try.underlying52 Go.Proofs.Try.underlying53 Go.Proofs.Try.underlying54 Go.Proofs.Try.underlying55 Go.Proofs.Try.underlying56 Go.Proofs.Try.underlying57 Go.Proofs.Try.underlying58 Go.Proofs.Try.underlying59 Go.Proofs.Try.underlying60 Go.Proofs.Try.underlying61 Go.Proofs.Try.underlying62 Go.Proofs.Try.underlying63 Go.Proofs.Try.underlying64 Go.Proofs.Try.underlying65 Go.Proofs.Try.underlying66 Go.Proofs.Try.underlying67 Go.Proofs.Try.underlying68 Go.Proofs.Try.underlying69 Go.Proofs.Try.underlying70 Go.Proofs.Try.underlying71 Go.Proofs.Try.underlying72 Go.Proofs.Try.underlying73 Go.Proofs.Try.underlying74 Go.Proofs.Try.underlying75 Go.Proofs.Try.underlying76 Go.Proofs.Try.underlying77 Go.Proofs.Try.underlying78 Go.Proofs.Try.underlying79 Go.Proofs.Try.underlying80 Go.Proofs.Try.underlying81 Go.Proofs.Try.underlying82 Go.Proofs.Try.underlying83 Go.Proofs.Try.underlying84 Go.Proofs.Try.underlying85 Go.Proofs.Try.underlying86 Go.Proofs.Try.underlying87 Go.Proofs.Try.underlying88 Go.Proofs.Try.underlying89 Go.Proofs.Try.underlying90 Go.Proofs.Try.underlying91 Go.Proofs.Try.underlying92 Go.Proofs.Try.underlying93 Go.Proofs.Try.underlying94 Go.Proofs.Try.underlying95 Go.Proofs.Try.underlying96 Go.Proofs.Try.underlying97 Go.Proofs.Try.underlying98 Go.Proofs.Try.underlying99 Go.Proofs.Try.underlying100 Go.Proofs.Try.underlying101 Go.Proofs.Try.underlying102 Go.Proofs.Try.underlying103 Go.Proofs.Try.underlying104 Go.Proofs.Try.underlying105 Go.Proofs.Try.underlying106 Go.Proofs.Try.underlying107 Go.Proofs.Try.underlying108 Go.Proofs.Try.underlying109 Go.Proofs.Try.underlying110 Go.Proofs.Try.underlying111 Go.Proofs.Try.underlying112 Go.Proofs.Try.underlying113 Go.Proofs.Try.underlying114 Go.Proofs.Try.underlying115 Go.Proofs.Try.underlying116 Go.Proofs.Try.underlying117 Go.Proofs.Try.underlying118 Go.Proofs.Try.underlying119 Go.Proofs.Try.underlying120 Go.Proofs.Try.underlying121 Go.Proofs.Try.underlying122 Go.Proofs.Try.underlying123 Go.Proofs.Try.underlying124 Go.Proofs.Try.underlying125 Go.Proofs.Try.underlying126 Go.Proofs.Try.underlying127 Go.Proofs.Try.underlying128 Go.Proofs.Try.underlying129 Go.Proofs.Try.underlying130 Go.Proofs.Try.underlying131 Go.Proofs.Try.underlying132 Go.Proofs.Try.underlying133 Go.Proofs.Try.underlying134 Go.Proofs.Try.underlying135 Go.Proofs.Try.underlying136 Go.Proofs.Try.underlying137 Go.Proofs.Try.underlying138 Go.Proofs.Try.underlying139 Go.Proofs.Try.underlying140 Go.Proofs.Try.underlying141 Go.Proofs.Try.underlying142 Go.Proofs.Try.underlying143 Go.Proofs.Try.underlying144 Go.Proofs.Try.underlying145 Go.Proofs.Try.underlying146 Go.Proofs.Try.underlying147 Go.Proofs.Try.underlying148 Go.Proofs.Try.underlying149 Go.Proofs.Try.underlying150 Go.Proofs.Try.underlying151 Go.Proofs.Try.underlying152 Go.Proofs.Try.underlying153 Go.Proofs.Try.underlying154 Go.Proofs.Try.underlying155
end Go.Proofs.Ytkjmjalfjbhfnaa.Ty
