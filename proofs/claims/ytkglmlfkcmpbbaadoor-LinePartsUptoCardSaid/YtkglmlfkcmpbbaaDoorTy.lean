/- Facts on the types of this seat's program, printed by a program of ours. -/
import Derived.Test.YtkglmlfkcmpbbaaDoorEng12
import Derived.Test.YtkglmlfkcmpbbaaDoorRows
namespace Go.Proofs.YtkglmlfkcmpbbaaDoor.Ty
open Go Go.Eng Go.Proofs
theorem sz0 : Tryd.prog.cellsOf 0 = 1 := by kernel_rfl
theorem by0 : Tryd.prog.bytesOf 0 = 0 := by kernel_rfl
theorem io0 : (Tryd.prog.info? 0).isSome = true := by kernel_rfl
theorem eok0 : elemOk Tryd.prog 0 = false := by kernel_rfl
theorem sty0 : srcTy Tryd.prog 0 = true := by kernel_rfl
theorem ify0 : ifaceTy Tryd.prog 0 = false := by kernel_rfl
theorem hz0 : hasZero Tryd.prog 0 := by unfold hasZero; kernel_rfl
theorem sz1 : Tryd.prog.cellsOf 1 = 1 := by kernel_rfl
theorem by1 : Tryd.prog.bytesOf 1 = 8 := by kernel_rfl
theorem io1 : (Tryd.prog.info? 1).isSome = true := by kernel_rfl
theorem eok1 : elemOk Tryd.prog 1 = true := by kernel_rfl
theorem sty1 : srcTy Tryd.prog 1 = true := by kernel_rfl
theorem ify1 : ifaceTy Tryd.prog 1 = false := by kernel_rfl
theorem hz1 : hasZero Tryd.prog 1 := by unfold hasZero; kernel_rfl
theorem za1 : zeroA Tryd.prog 1 = Go.Eng.AV.lit Go.Value.nilFunc := by kernel_rfl
theorem sz2 : Tryd.prog.cellsOf 2 = 1 := by kernel_rfl
theorem by2 : Tryd.prog.bytesOf 2 = 8 := by kernel_rfl
theorem io2 : (Tryd.prog.info? 2).isSome = true := by kernel_rfl
theorem eok2 : elemOk Tryd.prog 2 = true := by kernel_rfl
theorem sty2 : srcTy Tryd.prog 2 = false := by kernel_rfl
theorem ify2 : ifaceTy Tryd.prog 2 = false := by kernel_rfl
theorem kf2 : kindOf Tryd.prog 2 = some (some Go.IntKind.i64) := by kernel_rfl
theorem sh2 : Tryd.prog.stoodInHeld 2 = false := by kernel_rfl
theorem eg2 : Tryd.prog.eqGuardType Tryd.prog.depth 2 = false := by kernel_rfl
theorem hz2 : hasZero Tryd.prog 2 := by unfold hasZero; kernel_rfl
theorem za2 : zeroA Tryd.prog 2 = Go.Eng.AV.int Go.IntKind.i64 0 := by kernel_rfl
theorem sz3 : Tryd.prog.cellsOf 3 = 1 := by kernel_rfl
theorem by3 : Tryd.prog.bytesOf 3 = 8 := by kernel_rfl
theorem io3 : (Tryd.prog.info? 3).isSome = true := by kernel_rfl
theorem eok3 : elemOk Tryd.prog 3 = true := by kernel_rfl
theorem sty3 : srcTy Tryd.prog 3 = false := by kernel_rfl
theorem ify3 : ifaceTy Tryd.prog 3 = false := by kernel_rfl
theorem kf3 : kindOf Tryd.prog 3 = some (some Go.IntKind.i64) := by kernel_rfl
theorem sh3 : Tryd.prog.stoodInHeld 3 = false := by kernel_rfl
theorem eg3 : Tryd.prog.eqGuardType Tryd.prog.depth 3 = false := by kernel_rfl
theorem hz3 : hasZero Tryd.prog 3 := by unfold hasZero; kernel_rfl
theorem za3 : zeroA Tryd.prog 3 = Go.Eng.AV.int Go.IntKind.i64 0 := by kernel_rfl
theorem sz4 : Tryd.prog.cellsOf 4 = 1 := by kernel_rfl
theorem by4 : Tryd.prog.bytesOf 4 = 1 := by kernel_rfl
theorem io4 : (Tryd.prog.info? 4).isSome = true := by kernel_rfl
theorem eok4 : elemOk Tryd.prog 4 = true := by kernel_rfl
theorem sty4 : srcTy Tryd.prog 4 = true := by kernel_rfl
theorem ify4 : ifaceTy Tryd.prog 4 = false := by kernel_rfl
theorem hz4 : hasZero Tryd.prog 4 := by unfold hasZero; kernel_rfl
theorem za4 : zeroA Tryd.prog 4 = Go.Eng.AV.bool false := by kernel_rfl
theorem sz5 : Tryd.prog.cellsOf 5 = 1 := by kernel_rfl
theorem by5 : Tryd.prog.bytesOf 5 = 1 := by kernel_rfl
theorem io5 : (Tryd.prog.info? 5).isSome = true := by kernel_rfl
theorem eok5 : elemOk Tryd.prog 5 = true := by kernel_rfl
theorem sty5 : srcTy Tryd.prog 5 = false := by kernel_rfl
theorem ify5 : ifaceTy Tryd.prog 5 = false := by kernel_rfl
theorem kf5 : kindOf Tryd.prog 5 = some (some Go.IntKind.u8) := by kernel_rfl
theorem sh5 : Tryd.prog.stoodInHeld 5 = false := by kernel_rfl
theorem eg5 : Tryd.prog.eqGuardType Tryd.prog.depth 5 = false := by kernel_rfl
theorem hz5 : hasZero Tryd.prog 5 := by unfold hasZero; kernel_rfl
theorem za5 : zeroA Tryd.prog 5 = Go.Eng.AV.int Go.IntKind.u8 0 := by kernel_rfl
theorem sz6 : Tryd.prog.cellsOf 6 = 1 := by kernel_rfl
theorem by6 : Tryd.prog.bytesOf 6 = 1 := by kernel_rfl
theorem io6 : (Tryd.prog.info? 6).isSome = true := by kernel_rfl
theorem eok6 : elemOk Tryd.prog 6 = true := by kernel_rfl
theorem sty6 : srcTy Tryd.prog 6 = false := by kernel_rfl
theorem ify6 : ifaceTy Tryd.prog 6 = false := by kernel_rfl
theorem kf6 : kindOf Tryd.prog 6 = some (some Go.IntKind.u8) := by kernel_rfl
theorem sh6 : Tryd.prog.stoodInHeld 6 = false := by kernel_rfl
theorem eg6 : Tryd.prog.eqGuardType Tryd.prog.depth 6 = false := by kernel_rfl
theorem hz6 : hasZero Tryd.prog 6 := by unfold hasZero; kernel_rfl
theorem za6 : zeroA Tryd.prog 6 = Go.Eng.AV.int Go.IntKind.u8 0 := by kernel_rfl
theorem sz7 : Tryd.prog.cellsOf 7 = 4 := by kernel_rfl
theorem by7 : Tryd.prog.bytesOf 7 = 24 := by kernel_rfl
theorem io7 : (Tryd.prog.info? 7).isSome = true := by kernel_rfl
theorem eok7 : elemOk Tryd.prog 7 = true := by kernel_rfl
theorem sty7 : srcTy Tryd.prog 7 = true := by kernel_rfl
theorem ify7 : ifaceTy Tryd.prog 7 = false := by kernel_rfl
theorem sh7 : Tryd.prog.stoodInHeld 7 = false := by kernel_rfl
theorem eg7 : Tryd.prog.eqGuardType Tryd.prog.depth 7 = false := by kernel_rfl
theorem hz7 : hasZero Tryd.prog 7 := by unfold hasZero; kernel_rfl
theorem za7 : zeroA Tryd.prog 7 = Go.Eng.AV.agg [Go.Eng.AV.int Go.IntKind.i64 0, Go.Eng.AV.int Go.IntKind.i64 0, Go.Eng.AV.bool false, Go.Eng.AV.int Go.IntKind.u8 0] := by kernel_rfl
theorem sz8 : Tryd.prog.cellsOf 8 = 4 := by kernel_rfl
theorem by8 : Tryd.prog.bytesOf 8 = 24 := by kernel_rfl
theorem io8 : (Tryd.prog.info? 8).isSome = true := by kernel_rfl
theorem eok8 : elemOk Tryd.prog 8 = true := by kernel_rfl
theorem sty8 : srcTy Tryd.prog 8 = true := by kernel_rfl
theorem ify8 : ifaceTy Tryd.prog 8 = false := by kernel_rfl
theorem sh8 : Tryd.prog.stoodInHeld 8 = false := by kernel_rfl
theorem eg8 : Tryd.prog.eqGuardType Tryd.prog.depth 8 = false := by kernel_rfl
theorem hz8 : hasZero Tryd.prog 8 := by unfold hasZero; kernel_rfl
theorem za8 : zeroA Tryd.prog 8 = Go.Eng.AV.agg [Go.Eng.AV.int Go.IntKind.i64 0, Go.Eng.AV.int Go.IntKind.i64 0, Go.Eng.AV.bool false, Go.Eng.AV.int Go.IntKind.u8 0] := by kernel_rfl
theorem sz9 : Tryd.prog.cellsOf 9 = 1 := by kernel_rfl
theorem by9 : Tryd.prog.bytesOf 9 = 16 := by kernel_rfl
theorem io9 : (Tryd.prog.info? 9).isSome = true := by kernel_rfl
theorem eok9 : elemOk Tryd.prog 9 = true := by kernel_rfl
theorem sty9 : srcTy Tryd.prog 9 = true := by kernel_rfl
theorem ify9 : ifaceTy Tryd.prog 9 = false := by kernel_rfl
theorem kf9 : kindOf Tryd.prog 9 = some none := by kernel_rfl
theorem sh9 : Tryd.prog.stoodInHeld 9 = false := by kernel_rfl
theorem eg9 : Tryd.prog.eqGuardType Tryd.prog.depth 9 = false := by kernel_rfl
theorem hz9 : hasZero Tryd.prog 9 := by unfold hasZero; kernel_rfl
theorem za9 : zeroA Tryd.prog 9 = Go.Eng.AV.str [] := by kernel_rfl
theorem sz10 : Tryd.prog.cellsOf 10 = 1 := by kernel_rfl
theorem by10 : Tryd.prog.bytesOf 10 = 16 := by kernel_rfl
theorem io10 : (Tryd.prog.info? 10).isSome = true := by kernel_rfl
theorem eok10 : elemOk Tryd.prog 10 = true := by kernel_rfl
theorem sty10 : srcTy Tryd.prog 10 = true := by kernel_rfl
theorem ify10 : ifaceTy Tryd.prog 10 = false := by kernel_rfl
theorem kf10 : kindOf Tryd.prog 10 = some none := by kernel_rfl
theorem sh10 : Tryd.prog.stoodInHeld 10 = false := by kernel_rfl
theorem eg10 : Tryd.prog.eqGuardType Tryd.prog.depth 10 = false := by kernel_rfl
theorem hz10 : hasZero Tryd.prog 10 := by unfold hasZero; kernel_rfl
theorem za10 : zeroA Tryd.prog 10 = Go.Eng.AV.str [] := by kernel_rfl
theorem sz11 : Tryd.prog.cellsOf 11 = 1 := by kernel_rfl
theorem by11 : Tryd.prog.bytesOf 11 = 16 := by kernel_rfl
theorem io11 : (Tryd.prog.info? 11).isSome = true := by kernel_rfl
theorem eok11 : elemOk Tryd.prog 11 = true := by kernel_rfl
theorem sty11 : srcTy Tryd.prog 11 = true := by kernel_rfl
theorem ify11 : ifaceTy Tryd.prog 11 = false := by kernel_rfl
theorem kf11 : kindOf Tryd.prog 11 = some none := by kernel_rfl
theorem sh11 : Tryd.prog.stoodInHeld 11 = false := by kernel_rfl
theorem eg11 : Tryd.prog.eqGuardType Tryd.prog.depth 11 = false := by kernel_rfl
theorem hz11 : hasZero Tryd.prog 11 := by unfold hasZero; kernel_rfl
theorem za11 : zeroA Tryd.prog 11 = Go.Eng.AV.str [] := by kernel_rfl
theorem sz12 : Tryd.prog.cellsOf 12 = 1 := by kernel_rfl
theorem by12 : Tryd.prog.bytesOf 12 = 8 := by kernel_rfl
theorem io12 : (Tryd.prog.info? 12).isSome = true := by kernel_rfl
theorem eok12 : elemOk Tryd.prog 12 = true := by kernel_rfl
theorem sty12 : srcTy Tryd.prog 12 = false := by kernel_rfl
theorem ify12 : ifaceTy Tryd.prog 12 = false := by kernel_rfl
theorem kf12 : kindOf Tryd.prog 12 = some (some Go.IntKind.u64) := by kernel_rfl
theorem sh12 : Tryd.prog.stoodInHeld 12 = false := by kernel_rfl
theorem eg12 : Tryd.prog.eqGuardType Tryd.prog.depth 12 = false := by kernel_rfl
theorem hz12 : hasZero Tryd.prog 12 := by unfold hasZero; kernel_rfl
theorem za12 : zeroA Tryd.prog 12 = Go.Eng.AV.int Go.IntKind.u64 0 := by kernel_rfl
theorem sz13 : Tryd.prog.cellsOf 13 = 2 := by kernel_rfl
theorem by13 : Tryd.prog.bytesOf 13 = 24 := by kernel_rfl
theorem io13 : (Tryd.prog.info? 13).isSome = true := by kernel_rfl
theorem eok13 : elemOk Tryd.prog 13 = true := by kernel_rfl
theorem sty13 : srcTy Tryd.prog 13 = true := by kernel_rfl
theorem ify13 : ifaceTy Tryd.prog 13 = false := by kernel_rfl
theorem sh13 : Tryd.prog.stoodInHeld 13 = true := by kernel_rfl
theorem eg13 : Tryd.prog.eqGuardType Tryd.prog.depth 13 = false := by kernel_rfl
theorem hz13 : hasZero Tryd.prog 13 := by unfold hasZero; kernel_rfl
theorem za13 : zeroA Tryd.prog 13 = Go.Eng.AV.agg [Go.Eng.AV.str [], Go.Eng.AV.int Go.IntKind.u64 0] := by kernel_rfl
theorem sz14 : Tryd.prog.cellsOf 14 = 2 := by kernel_rfl
theorem by14 : Tryd.prog.bytesOf 14 = 24 := by kernel_rfl
theorem io14 : (Tryd.prog.info? 14).isSome = true := by kernel_rfl
theorem eok14 : elemOk Tryd.prog 14 = true := by kernel_rfl
theorem sty14 : srcTy Tryd.prog 14 = true := by kernel_rfl
theorem ify14 : ifaceTy Tryd.prog 14 = false := by kernel_rfl
theorem sh14 : Tryd.prog.stoodInHeld 14 = true := by kernel_rfl
theorem eg14 : Tryd.prog.eqGuardType Tryd.prog.depth 14 = false := by kernel_rfl
theorem hz14 : hasZero Tryd.prog 14 := by unfold hasZero; kernel_rfl
theorem za14 : zeroA Tryd.prog 14 = Go.Eng.AV.agg [Go.Eng.AV.str [], Go.Eng.AV.int Go.IntKind.u64 0] := by kernel_rfl
theorem sz15 : Tryd.prog.cellsOf 15 = 1 := by kernel_rfl
theorem by15 : Tryd.prog.bytesOf 15 = 8 := by kernel_rfl
theorem io15 : (Tryd.prog.info? 15).isSome = true := by kernel_rfl
theorem eok15 : elemOk Tryd.prog 15 = true := by kernel_rfl
theorem sty15 : srcTy Tryd.prog 15 = true := by kernel_rfl
theorem ify15 : ifaceTy Tryd.prog 15 = false := by kernel_rfl
theorem hz15 : hasZero Tryd.prog 15 := by unfold hasZero; kernel_rfl
theorem za15 : zeroA Tryd.prog 15 = Go.Eng.AV.lit (Go.Value.pointer none) := by kernel_rfl
theorem sz16 : Tryd.prog.cellsOf 16 = 1 := by kernel_rfl
theorem by16 : Tryd.prog.bytesOf 16 = 8 := by kernel_rfl
theorem io16 : (Tryd.prog.info? 16).isSome = true := by kernel_rfl
theorem eok16 : elemOk Tryd.prog 16 = true := by kernel_rfl
theorem sty16 : srcTy Tryd.prog 16 = true := by kernel_rfl
theorem ify16 : ifaceTy Tryd.prog 16 = false := by kernel_rfl
theorem hz16 : hasZero Tryd.prog 16 := by unfold hasZero; kernel_rfl
theorem za16 : zeroA Tryd.prog 16 = Go.Eng.AV.lit (Go.Value.pointer none) := by kernel_rfl
theorem sz17 : Tryd.prog.cellsOf 17 = 1 := by kernel_rfl
theorem by17 : Tryd.prog.bytesOf 17 = 8 := by kernel_rfl
theorem io17 : (Tryd.prog.info? 17).isSome = true := by kernel_rfl
theorem eok17 : elemOk Tryd.prog 17 = true := by kernel_rfl
theorem sty17 : srcTy Tryd.prog 17 = true := by kernel_rfl
theorem ify17 : ifaceTy Tryd.prog 17 = false := by kernel_rfl
theorem hz17 : hasZero Tryd.prog 17 := by unfold hasZero; kernel_rfl
theorem za17 : zeroA Tryd.prog 17 = Go.Eng.AV.lit (Go.Value.pointer none) := by kernel_rfl
theorem sz18 : Tryd.prog.cellsOf 18 = 1 := by kernel_rfl
theorem by18 : Tryd.prog.bytesOf 18 = 8 := by kernel_rfl
theorem io18 : (Tryd.prog.info? 18).isSome = true := by kernel_rfl
theorem eok18 : elemOk Tryd.prog 18 = true := by kernel_rfl
theorem sty18 : srcTy Tryd.prog 18 = true := by kernel_rfl
theorem ify18 : ifaceTy Tryd.prog 18 = false := by kernel_rfl
theorem hz18 : hasZero Tryd.prog 18 := by unfold hasZero; kernel_rfl
theorem za18 : zeroA Tryd.prog 18 = Go.Eng.AV.agg [Go.Eng.AV.lit (Go.Value.pointer none)] := by kernel_rfl
theorem sz19 : Tryd.prog.cellsOf 19 = 1 := by kernel_rfl
theorem by19 : Tryd.prog.bytesOf 19 = 8 := by kernel_rfl
theorem io19 : (Tryd.prog.info? 19).isSome = true := by kernel_rfl
theorem eok19 : elemOk Tryd.prog 19 = true := by kernel_rfl
theorem sty19 : srcTy Tryd.prog 19 = true := by kernel_rfl
theorem ify19 : ifaceTy Tryd.prog 19 = false := by kernel_rfl
theorem hz19 : hasZero Tryd.prog 19 := by unfold hasZero; kernel_rfl
theorem za19 : zeroA Tryd.prog 19 = Go.Eng.AV.agg [Go.Eng.AV.lit (Go.Value.pointer none)] := by kernel_rfl
theorem sz20 : Tryd.prog.cellsOf 20 = 1 := by kernel_rfl
theorem by20 : Tryd.prog.bytesOf 20 = 16 := by kernel_rfl
theorem io20 : (Tryd.prog.info? 20).isSome = true := by kernel_rfl
theorem eok20 : elemOk Tryd.prog 20 = true := by kernel_rfl
theorem sty20 : srcTy Tryd.prog 20 = true := by kernel_rfl
theorem ify20 : ifaceTy Tryd.prog 20 = true := by kernel_rfl
theorem hz20 : hasZero Tryd.prog 20 := by unfold hasZero; kernel_rfl
theorem za20 : zeroA Tryd.prog 20 = Go.Eng.AV.lit Go.Value.nilIface := by kernel_rfl
theorem sz21 : Tryd.prog.cellsOf 21 = 1 := by kernel_rfl
theorem by21 : Tryd.prog.bytesOf 21 = 4 := by kernel_rfl
theorem io21 : (Tryd.prog.info? 21).isSome = true := by kernel_rfl
theorem eok21 : elemOk Tryd.prog 21 = true := by kernel_rfl
theorem sty21 : srcTy Tryd.prog 21 = false := by kernel_rfl
theorem ify21 : ifaceTy Tryd.prog 21 = false := by kernel_rfl
theorem kf21 : kindOf Tryd.prog 21 = some (some Go.IntKind.i32) := by kernel_rfl
theorem sh21 : Tryd.prog.stoodInHeld 21 = false := by kernel_rfl
theorem eg21 : Tryd.prog.eqGuardType Tryd.prog.depth 21 = false := by kernel_rfl
theorem hz21 : hasZero Tryd.prog 21 := by unfold hasZero; kernel_rfl
theorem za21 : zeroA Tryd.prog 21 = Go.Eng.AV.int Go.IntKind.i32 0 := by kernel_rfl
theorem sz22 : Tryd.prog.cellsOf 22 = 1 := by kernel_rfl
theorem by22 : Tryd.prog.bytesOf 22 = 8 := by kernel_rfl
theorem io22 : (Tryd.prog.info? 22).isSome = true := by kernel_rfl
theorem eok22 : elemOk Tryd.prog 22 = true := by kernel_rfl
theorem sty22 : srcTy Tryd.prog 22 = true := by kernel_rfl
theorem ify22 : ifaceTy Tryd.prog 22 = false := by kernel_rfl
theorem hz22 : hasZero Tryd.prog 22 := by unfold hasZero; kernel_rfl
theorem za22 : zeroA Tryd.prog 22 = Go.Eng.AV.lit Go.Value.nilFunc := by kernel_rfl
theorem sz23 : Tryd.prog.cellsOf 23 = 1 := by kernel_rfl
theorem by23 : Tryd.prog.bytesOf 23 = 24 := by kernel_rfl
theorem io23 : (Tryd.prog.info? 23).isSome = true := by kernel_rfl
theorem eok23 : elemOk Tryd.prog 23 = true := by kernel_rfl
theorem sty23 : srcTy Tryd.prog 23 = true := by kernel_rfl
theorem ify23 : ifaceTy Tryd.prog 23 = false := by kernel_rfl
theorem hz23 : hasZero Tryd.prog 23 := by unfold hasZero; kernel_rfl
theorem za23 : zeroA Tryd.prog 23 = Go.Eng.AV.lit (Go.Value.slice none 0 0) := by kernel_rfl
theorem sz24 : Tryd.prog.cellsOf 24 = 1 := by kernel_rfl
theorem by24 : Tryd.prog.bytesOf 24 = 0 := by kernel_rfl
theorem io24 : (Tryd.prog.info? 24).isSome = true := by kernel_rfl
theorem eok24 : elemOk Tryd.prog 24 = false := by kernel_rfl
theorem sty24 : srcTy Tryd.prog 24 = true := by kernel_rfl
theorem ify24 : ifaceTy Tryd.prog 24 = false := by kernel_rfl
theorem hz24 : hasZero Tryd.prog 24 := by unfold hasZero; kernel_rfl
theorem sz25 : Tryd.prog.cellsOf 25 = 1 := by kernel_rfl
theorem by25 : Tryd.prog.bytesOf 25 = 8 := by kernel_rfl
theorem io25 : (Tryd.prog.info? 25).isSome = true := by kernel_rfl
theorem eok25 : elemOk Tryd.prog 25 = true := by kernel_rfl
theorem sty25 : srcTy Tryd.prog 25 = true := by kernel_rfl
theorem ify25 : ifaceTy Tryd.prog 25 = false := by kernel_rfl
theorem hz25 : hasZero Tryd.prog 25 := by unfold hasZero; kernel_rfl
theorem za25 : zeroA Tryd.prog 25 = Go.Eng.AV.lit Go.Value.nilFunc := by kernel_rfl
theorem sz26 : Tryd.prog.cellsOf 26 = 1 := by kernel_rfl
theorem by26 : Tryd.prog.bytesOf 26 = 24 := by kernel_rfl
theorem io26 : (Tryd.prog.info? 26).isSome = true := by kernel_rfl
theorem eok26 : elemOk Tryd.prog 26 = true := by kernel_rfl
theorem sty26 : srcTy Tryd.prog 26 = true := by kernel_rfl
theorem ify26 : ifaceTy Tryd.prog 26 = false := by kernel_rfl
theorem hz26 : hasZero Tryd.prog 26 := by unfold hasZero; kernel_rfl
theorem za26 : zeroA Tryd.prog 26 = Go.Eng.AV.lit (Go.Value.slice none 0 0) := by kernel_rfl
theorem sz27 : Tryd.prog.cellsOf 27 = 1 := by kernel_rfl
theorem by27 : Tryd.prog.bytesOf 27 = 8 := by kernel_rfl
theorem io27 : (Tryd.prog.info? 27).isSome = true := by kernel_rfl
theorem eok27 : elemOk Tryd.prog 27 = true := by kernel_rfl
theorem sty27 : srcTy Tryd.prog 27 = true := by kernel_rfl
theorem ify27 : ifaceTy Tryd.prog 27 = false := by kernel_rfl
theorem hz27 : hasZero Tryd.prog 27 := by unfold hasZero; kernel_rfl
theorem za27 : zeroA Tryd.prog 27 = Go.Eng.AV.lit Go.Value.nilFunc := by kernel_rfl
theorem sz28 : Tryd.prog.cellsOf 28 = 1 := by kernel_rfl
theorem by28 : Tryd.prog.bytesOf 28 = 8 := by kernel_rfl
theorem io28 : (Tryd.prog.info? 28).isSome = true := by kernel_rfl
theorem eok28 : elemOk Tryd.prog 28 = true := by kernel_rfl
theorem sty28 : srcTy Tryd.prog 28 = true := by kernel_rfl
theorem ify28 : ifaceTy Tryd.prog 28 = false := by kernel_rfl
theorem hz28 : hasZero Tryd.prog 28 := by unfold hasZero; kernel_rfl
theorem za28 : zeroA Tryd.prog 28 = Go.Eng.AV.lit Go.Value.nilFunc := by kernel_rfl
theorem sz29 : Tryd.prog.cellsOf 29 = 1 := by kernel_rfl
theorem by29 : Tryd.prog.bytesOf 29 = 8 := by kernel_rfl
theorem io29 : (Tryd.prog.info? 29).isSome = true := by kernel_rfl
theorem eok29 : elemOk Tryd.prog 29 = true := by kernel_rfl
theorem sty29 : srcTy Tryd.prog 29 = true := by kernel_rfl
theorem ify29 : ifaceTy Tryd.prog 29 = false := by kernel_rfl
theorem hz29 : hasZero Tryd.prog 29 := by unfold hasZero; kernel_rfl
theorem za29 : zeroA Tryd.prog 29 = Go.Eng.AV.lit Go.Value.nilFunc := by kernel_rfl
theorem sz30 : Tryd.prog.cellsOf 30 = 1 := by kernel_rfl
theorem by30 : Tryd.prog.bytesOf 30 = 8 := by kernel_rfl
theorem io30 : (Tryd.prog.info? 30).isSome = true := by kernel_rfl
theorem eok30 : elemOk Tryd.prog 30 = true := by kernel_rfl
theorem sty30 : srcTy Tryd.prog 30 = true := by kernel_rfl
theorem ify30 : ifaceTy Tryd.prog 30 = false := by kernel_rfl
theorem hz30 : hasZero Tryd.prog 30 := by unfold hasZero; kernel_rfl
theorem za30 : zeroA Tryd.prog 30 = Go.Eng.AV.lit Go.Value.nilFunc := by kernel_rfl
theorem sz31 : Tryd.prog.cellsOf 31 = 1 := by kernel_rfl
theorem by31 : Tryd.prog.bytesOf 31 = 8 := by kernel_rfl
theorem io31 : (Tryd.prog.info? 31).isSome = true := by kernel_rfl
theorem eok31 : elemOk Tryd.prog 31 = true := by kernel_rfl
theorem sty31 : srcTy Tryd.prog 31 = true := by kernel_rfl
theorem ify31 : ifaceTy Tryd.prog 31 = false := by kernel_rfl
theorem hz31 : hasZero Tryd.prog 31 := by unfold hasZero; kernel_rfl
theorem za31 : zeroA Tryd.prog 31 = Go.Eng.AV.lit Go.Value.nilFunc := by kernel_rfl
theorem sz32 : Tryd.prog.cellsOf 32 = 1 := by kernel_rfl
theorem by32 : Tryd.prog.bytesOf 32 = 8 := by kernel_rfl
theorem io32 : (Tryd.prog.info? 32).isSome = true := by kernel_rfl
theorem eok32 : elemOk Tryd.prog 32 = true := by kernel_rfl
theorem sty32 : srcTy Tryd.prog 32 = false := by kernel_rfl
theorem ify32 : ifaceTy Tryd.prog 32 = false := by kernel_rfl
theorem kf32 : kindOf Tryd.prog 32 = some (some Go.IntKind.i64) := by kernel_rfl
theorem sh32 : Tryd.prog.stoodInHeld 32 = false := by kernel_rfl
theorem eg32 : Tryd.prog.eqGuardType Tryd.prog.depth 32 = false := by kernel_rfl
theorem hz32 : hasZero Tryd.prog 32 := by unfold hasZero; kernel_rfl
theorem za32 : zeroA Tryd.prog 32 = Go.Eng.AV.int Go.IntKind.i64 0 := by kernel_rfl
theorem sz33 : Tryd.prog.cellsOf 33 = 1 := by kernel_rfl
theorem by33 : Tryd.prog.bytesOf 33 = 0 := by kernel_rfl
theorem io33 : (Tryd.prog.info? 33).isSome = true := by kernel_rfl
theorem eok33 : elemOk Tryd.prog 33 = false := by kernel_rfl
theorem sty33 : srcTy Tryd.prog 33 = true := by kernel_rfl
theorem ify33 : ifaceTy Tryd.prog 33 = false := by kernel_rfl
theorem hz33 : hasZero Tryd.prog 33 := by unfold hasZero; kernel_rfl
theorem sz34 : Tryd.prog.cellsOf 34 = 1 := by kernel_rfl
theorem by34 : Tryd.prog.bytesOf 34 = 8 := by kernel_rfl
theorem io34 : (Tryd.prog.info? 34).isSome = true := by kernel_rfl
theorem eok34 : elemOk Tryd.prog 34 = true := by kernel_rfl
theorem sty34 : srcTy Tryd.prog 34 = true := by kernel_rfl
theorem ify34 : ifaceTy Tryd.prog 34 = false := by kernel_rfl
theorem hz34 : hasZero Tryd.prog 34 := by unfold hasZero; kernel_rfl
theorem za34 : zeroA Tryd.prog 34 = Go.Eng.AV.lit Go.Value.nilFunc := by kernel_rfl
theorem sz35 : Tryd.prog.cellsOf 35 = 1 := by kernel_rfl
theorem by35 : Tryd.prog.bytesOf 35 = 8 := by kernel_rfl
theorem io35 : (Tryd.prog.info? 35).isSome = true := by kernel_rfl
theorem eok35 : elemOk Tryd.prog 35 = true := by kernel_rfl
theorem sty35 : srcTy Tryd.prog 35 = true := by kernel_rfl
theorem ify35 : ifaceTy Tryd.prog 35 = false := by kernel_rfl
theorem hz35 : hasZero Tryd.prog 35 := by unfold hasZero; kernel_rfl
theorem za35 : zeroA Tryd.prog 35 = Go.Eng.AV.lit Go.Value.nilFunc := by kernel_rfl
theorem sz36 : Tryd.prog.cellsOf 36 = 1 := by kernel_rfl
theorem by36 : Tryd.prog.bytesOf 36 = 0 := by kernel_rfl
theorem io36 : (Tryd.prog.info? 36).isSome = true := by kernel_rfl
theorem eok36 : elemOk Tryd.prog 36 = false := by kernel_rfl
theorem sty36 : srcTy Tryd.prog 36 = true := by kernel_rfl
theorem ify36 : ifaceTy Tryd.prog 36 = false := by kernel_rfl
theorem hz36 : hasZero Tryd.prog 36 := by unfold hasZero; kernel_rfl
theorem sz37 : Tryd.prog.cellsOf 37 = 1 := by kernel_rfl
theorem by37 : Tryd.prog.bytesOf 37 = 8 := by kernel_rfl
theorem io37 : (Tryd.prog.info? 37).isSome = true := by kernel_rfl
theorem eok37 : elemOk Tryd.prog 37 = true := by kernel_rfl
theorem sty37 : srcTy Tryd.prog 37 = true := by kernel_rfl
theorem ify37 : ifaceTy Tryd.prog 37 = false := by kernel_rfl
theorem hz37 : hasZero Tryd.prog 37 := by unfold hasZero; kernel_rfl
theorem za37 : zeroA Tryd.prog 37 = Go.Eng.AV.lit Go.Value.nilFunc := by kernel_rfl
theorem sz38 : Tryd.prog.cellsOf 38 = 1 := by kernel_rfl
theorem by38 : Tryd.prog.bytesOf 38 = 8 := by kernel_rfl
theorem io38 : (Tryd.prog.info? 38).isSome = true := by kernel_rfl
theorem eok38 : elemOk Tryd.prog 38 = true := by kernel_rfl
theorem sty38 : srcTy Tryd.prog 38 = true := by kernel_rfl
theorem ify38 : ifaceTy Tryd.prog 38 = false := by kernel_rfl
theorem hz38 : hasZero Tryd.prog 38 := by unfold hasZero; kernel_rfl
theorem za38 : zeroA Tryd.prog 38 = Go.Eng.AV.lit Go.Value.nilFunc := by kernel_rfl
theorem sz39 : Tryd.prog.cellsOf 39 = 1 := by kernel_rfl
theorem by39 : Tryd.prog.bytesOf 39 = 8 := by kernel_rfl
theorem io39 : (Tryd.prog.info? 39).isSome = true := by kernel_rfl
theorem eok39 : elemOk Tryd.prog 39 = true := by kernel_rfl
theorem sty39 : srcTy Tryd.prog 39 = true := by kernel_rfl
theorem ify39 : ifaceTy Tryd.prog 39 = false := by kernel_rfl
theorem hz39 : hasZero Tryd.prog 39 := by unfold hasZero; kernel_rfl
theorem za39 : zeroA Tryd.prog 39 = Go.Eng.AV.lit Go.Value.nilFunc := by kernel_rfl
theorem sz40 : Tryd.prog.cellsOf 40 = 1 := by kernel_rfl
theorem by40 : Tryd.prog.bytesOf 40 = 8 := by kernel_rfl
theorem io40 : (Tryd.prog.info? 40).isSome = true := by kernel_rfl
theorem eok40 : elemOk Tryd.prog 40 = true := by kernel_rfl
theorem sty40 : srcTy Tryd.prog 40 = true := by kernel_rfl
theorem ify40 : ifaceTy Tryd.prog 40 = false := by kernel_rfl
theorem hz40 : hasZero Tryd.prog 40 := by unfold hasZero; kernel_rfl
theorem za40 : zeroA Tryd.prog 40 = Go.Eng.AV.lit Go.Value.nilFunc := by kernel_rfl
theorem sz41 : Tryd.prog.cellsOf 41 = 1 := by kernel_rfl
theorem by41 : Tryd.prog.bytesOf 41 = 8 := by kernel_rfl
theorem io41 : (Tryd.prog.info? 41).isSome = true := by kernel_rfl
theorem eok41 : elemOk Tryd.prog 41 = true := by kernel_rfl
theorem sty41 : srcTy Tryd.prog 41 = true := by kernel_rfl
theorem ify41 : ifaceTy Tryd.prog 41 = false := by kernel_rfl
theorem hz41 : hasZero Tryd.prog 41 := by unfold hasZero; kernel_rfl
theorem za41 : zeroA Tryd.prog 41 = Go.Eng.AV.lit Go.Value.nilFunc := by kernel_rfl
theorem sz42 : Tryd.prog.cellsOf 42 = 1 := by kernel_rfl
theorem by42 : Tryd.prog.bytesOf 42 = 8 := by kernel_rfl
theorem io42 : (Tryd.prog.info? 42).isSome = true := by kernel_rfl
theorem eok42 : elemOk Tryd.prog 42 = true := by kernel_rfl
theorem sty42 : srcTy Tryd.prog 42 = true := by kernel_rfl
theorem ify42 : ifaceTy Tryd.prog 42 = false := by kernel_rfl
theorem hz42 : hasZero Tryd.prog 42 := by unfold hasZero; kernel_rfl
theorem za42 : zeroA Tryd.prog 42 = Go.Eng.AV.lit (Go.Value.map none) := by kernel_rfl
theorem sz43 : Tryd.prog.cellsOf 43 = 2 := by kernel_rfl
theorem by43 : Tryd.prog.bytesOf 43 = 16 := by kernel_rfl
theorem io43 : (Tryd.prog.info? 43).isSome = true := by kernel_rfl
theorem eok43 : elemOk Tryd.prog 43 = true := by kernel_rfl
theorem sty43 : srcTy Tryd.prog 43 = true := by kernel_rfl
theorem ify43 : ifaceTy Tryd.prog 43 = false := by kernel_rfl
theorem sh43 : Tryd.prog.stoodInHeld 43 = false := by kernel_rfl
theorem eg43 : Tryd.prog.eqGuardType Tryd.prog.depth 43 = false := by kernel_rfl
theorem hz43 : hasZero Tryd.prog 43 := by unfold hasZero; kernel_rfl
theorem za43 : zeroA Tryd.prog 43 = Go.Eng.AV.agg [Go.Eng.AV.int Go.IntKind.i64 0, Go.Eng.AV.int Go.IntKind.i64 0] := by kernel_rfl
theorem sz44 : Tryd.prog.cellsOf 44 = 2 := by kernel_rfl
theorem by44 : Tryd.prog.bytesOf 44 = 16 := by kernel_rfl
theorem io44 : (Tryd.prog.info? 44).isSome = true := by kernel_rfl
theorem eok44 : elemOk Tryd.prog 44 = true := by kernel_rfl
theorem sty44 : srcTy Tryd.prog 44 = true := by kernel_rfl
theorem ify44 : ifaceTy Tryd.prog 44 = false := by kernel_rfl
theorem sh44 : Tryd.prog.stoodInHeld 44 = false := by kernel_rfl
theorem eg44 : Tryd.prog.eqGuardType Tryd.prog.depth 44 = false := by kernel_rfl
theorem hz44 : hasZero Tryd.prog 44 := by unfold hasZero; kernel_rfl
theorem za44 : zeroA Tryd.prog 44 = Go.Eng.AV.agg [Go.Eng.AV.int Go.IntKind.i64 0, Go.Eng.AV.int Go.IntKind.i64 0] := by kernel_rfl
theorem sz45 : Tryd.prog.cellsOf 45 = 1 := by kernel_rfl
theorem by45 : Tryd.prog.bytesOf 45 = 8 := by kernel_rfl
theorem io45 : (Tryd.prog.info? 45).isSome = true := by kernel_rfl
theorem eok45 : elemOk Tryd.prog 45 = true := by kernel_rfl
theorem sty45 : srcTy Tryd.prog 45 = true := by kernel_rfl
theorem ify45 : ifaceTy Tryd.prog 45 = false := by kernel_rfl
theorem hz45 : hasZero Tryd.prog 45 := by unfold hasZero; kernel_rfl
theorem za45 : zeroA Tryd.prog 45 = Go.Eng.AV.lit Go.Value.nilFunc := by kernel_rfl
theorem sz46 : Tryd.prog.cellsOf 46 = 1 := by kernel_rfl
theorem by46 : Tryd.prog.bytesOf 46 = 0 := by kernel_rfl
theorem io46 : (Tryd.prog.info? 46).isSome = true := by kernel_rfl
theorem eok46 : elemOk Tryd.prog 46 = false := by kernel_rfl
theorem sty46 : srcTy Tryd.prog 46 = true := by kernel_rfl
theorem ify46 : ifaceTy Tryd.prog 46 = false := by kernel_rfl
theorem hz46 : hasZero Tryd.prog 46 := by unfold hasZero; kernel_rfl
theorem sz47 : Tryd.prog.cellsOf 47 = 1 := by kernel_rfl
theorem by47 : Tryd.prog.bytesOf 47 = 8 := by kernel_rfl
theorem io47 : (Tryd.prog.info? 47).isSome = true := by kernel_rfl
theorem eok47 : elemOk Tryd.prog 47 = true := by kernel_rfl
theorem sty47 : srcTy Tryd.prog 47 = true := by kernel_rfl
theorem ify47 : ifaceTy Tryd.prog 47 = false := by kernel_rfl
theorem hz47 : hasZero Tryd.prog 47 := by unfold hasZero; kernel_rfl
theorem za47 : zeroA Tryd.prog 47 = Go.Eng.AV.lit Go.Value.nilFunc := by kernel_rfl
theorem sz48 : Tryd.prog.cellsOf 48 = 1 := by kernel_rfl
theorem by48 : Tryd.prog.bytesOf 48 = 8 := by kernel_rfl
theorem io48 : (Tryd.prog.info? 48).isSome = true := by kernel_rfl
theorem eok48 : elemOk Tryd.prog 48 = true := by kernel_rfl
theorem sty48 : srcTy Tryd.prog 48 = true := by kernel_rfl
theorem ify48 : ifaceTy Tryd.prog 48 = false := by kernel_rfl
theorem hz48 : hasZero Tryd.prog 48 := by unfold hasZero; kernel_rfl
theorem za48 : zeroA Tryd.prog 48 = Go.Eng.AV.lit Go.Value.nilFunc := by kernel_rfl
theorem sz49 : Tryd.prog.cellsOf 49 = 1 := by kernel_rfl
theorem by49 : Tryd.prog.bytesOf 49 = 8 := by kernel_rfl
theorem io49 : (Tryd.prog.info? 49).isSome = true := by kernel_rfl
theorem eok49 : elemOk Tryd.prog 49 = true := by kernel_rfl
theorem sty49 : srcTy Tryd.prog 49 = true := by kernel_rfl
theorem ify49 : ifaceTy Tryd.prog 49 = false := by kernel_rfl
theorem hz49 : hasZero Tryd.prog 49 := by unfold hasZero; kernel_rfl
theorem za49 : zeroA Tryd.prog 49 = Go.Eng.AV.lit Go.Value.nilFunc := by kernel_rfl
theorem sz50 : Tryd.prog.cellsOf 50 = 1 := by kernel_rfl
theorem by50 : Tryd.prog.bytesOf 50 = 8 := by kernel_rfl
theorem io50 : (Tryd.prog.info? 50).isSome = true := by kernel_rfl
theorem eok50 : elemOk Tryd.prog 50 = true := by kernel_rfl
theorem sty50 : srcTy Tryd.prog 50 = true := by kernel_rfl
theorem ify50 : ifaceTy Tryd.prog 50 = false := by kernel_rfl
theorem hz50 : hasZero Tryd.prog 50 := by unfold hasZero; kernel_rfl
theorem za50 : zeroA Tryd.prog 50 = Go.Eng.AV.lit Go.Value.nilFunc := by kernel_rfl
theorem sz51 : Tryd.prog.cellsOf 51 = 1 := by kernel_rfl
theorem by51 : Tryd.prog.bytesOf 51 = 8 := by kernel_rfl
theorem io51 : (Tryd.prog.info? 51).isSome = true := by kernel_rfl
theorem eok51 : elemOk Tryd.prog 51 = true := by kernel_rfl
theorem sty51 : srcTy Tryd.prog 51 = true := by kernel_rfl
theorem ify51 : ifaceTy Tryd.prog 51 = false := by kernel_rfl
theorem hz51 : hasZero Tryd.prog 51 := by unfold hasZero; kernel_rfl
theorem za51 : zeroA Tryd.prog 51 = Go.Eng.AV.lit Go.Value.nilFunc := by kernel_rfl
theorem sz52 : Tryd.prog.cellsOf 52 = 1 := by kernel_rfl
theorem by52 : Tryd.prog.bytesOf 52 = 8 := by kernel_rfl
theorem io52 : (Tryd.prog.info? 52).isSome = true := by kernel_rfl
theorem eok52 : elemOk Tryd.prog 52 = true := by kernel_rfl
theorem sty52 : srcTy Tryd.prog 52 = true := by kernel_rfl
theorem ify52 : ifaceTy Tryd.prog 52 = false := by kernel_rfl
theorem hz52 : hasZero Tryd.prog 52 := by unfold hasZero; kernel_rfl
theorem za52 : zeroA Tryd.prog 52 = Go.Eng.AV.lit Go.Value.nilFunc := by kernel_rfl
theorem sz53 : Tryd.prog.cellsOf 53 = 1 := by kernel_rfl
theorem by53 : Tryd.prog.bytesOf 53 = 8 := by kernel_rfl
theorem io53 : (Tryd.prog.info? 53).isSome = true := by kernel_rfl
theorem eok53 : elemOk Tryd.prog 53 = true := by kernel_rfl
theorem sty53 : srcTy Tryd.prog 53 = true := by kernel_rfl
theorem ify53 : ifaceTy Tryd.prog 53 = false := by kernel_rfl
theorem hz53 : hasZero Tryd.prog 53 := by unfold hasZero; kernel_rfl
theorem za53 : zeroA Tryd.prog 53 = Go.Eng.AV.lit Go.Value.nilFunc := by kernel_rfl
theorem sz54 : Tryd.prog.cellsOf 54 = 1 := by kernel_rfl
theorem by54 : Tryd.prog.bytesOf 54 = 8 := by kernel_rfl
theorem io54 : (Tryd.prog.info? 54).isSome = true := by kernel_rfl
theorem eok54 : elemOk Tryd.prog 54 = true := by kernel_rfl
theorem sty54 : srcTy Tryd.prog 54 = false := by kernel_rfl
theorem ify54 : ifaceTy Tryd.prog 54 = false := by kernel_rfl
theorem kf54 : kindOf Tryd.prog 54 = some (some Go.IntKind.u64) := by kernel_rfl
theorem sh54 : Tryd.prog.stoodInHeld 54 = false := by kernel_rfl
theorem eg54 : Tryd.prog.eqGuardType Tryd.prog.depth 54 = false := by kernel_rfl
theorem hz54 : hasZero Tryd.prog 54 := by unfold hasZero; kernel_rfl
theorem za54 : zeroA Tryd.prog 54 = Go.Eng.AV.int Go.IntKind.u64 0 := by kernel_rfl
theorem sz55 : Tryd.prog.cellsOf 55 = 1 := by kernel_rfl
theorem by55 : Tryd.prog.bytesOf 55 = 8 := by kernel_rfl
theorem io55 : (Tryd.prog.info? 55).isSome = true := by kernel_rfl
theorem eok55 : elemOk Tryd.prog 55 = true := by kernel_rfl
theorem sty55 : srcTy Tryd.prog 55 = true := by kernel_rfl
theorem ify55 : ifaceTy Tryd.prog 55 = false := by kernel_rfl
theorem hz55 : hasZero Tryd.prog 55 := by unfold hasZero; kernel_rfl
theorem za55 : zeroA Tryd.prog 55 = Go.Eng.AV.lit Go.Value.nilFunc := by kernel_rfl
theorem sz56 : Tryd.prog.cellsOf 56 = 1 := by kernel_rfl
theorem by56 : Tryd.prog.bytesOf 56 = 0 := by kernel_rfl
theorem io56 : (Tryd.prog.info? 56).isSome = true := by kernel_rfl
theorem eok56 : elemOk Tryd.prog 56 = false := by kernel_rfl
theorem sty56 : srcTy Tryd.prog 56 = true := by kernel_rfl
theorem ify56 : ifaceTy Tryd.prog 56 = false := by kernel_rfl
theorem hz56 : hasZero Tryd.prog 56 := by unfold hasZero; kernel_rfl
theorem sz57 : Tryd.prog.cellsOf 57 = 1 := by kernel_rfl
theorem by57 : Tryd.prog.bytesOf 57 = 8 := by kernel_rfl
theorem io57 : (Tryd.prog.info? 57).isSome = true := by kernel_rfl
theorem eok57 : elemOk Tryd.prog 57 = true := by kernel_rfl
theorem sty57 : srcTy Tryd.prog 57 = true := by kernel_rfl
theorem ify57 : ifaceTy Tryd.prog 57 = false := by kernel_rfl
theorem hz57 : hasZero Tryd.prog 57 := by unfold hasZero; kernel_rfl
theorem za57 : zeroA Tryd.prog 57 = Go.Eng.AV.lit Go.Value.nilFunc := by kernel_rfl
theorem sz58 : Tryd.prog.cellsOf 58 = 1 := by kernel_rfl
theorem by58 : Tryd.prog.bytesOf 58 = 8 := by kernel_rfl
theorem io58 : (Tryd.prog.info? 58).isSome = true := by kernel_rfl
theorem eok58 : elemOk Tryd.prog 58 = true := by kernel_rfl
theorem sty58 : srcTy Tryd.prog 58 = true := by kernel_rfl
theorem ify58 : ifaceTy Tryd.prog 58 = false := by kernel_rfl
theorem hz58 : hasZero Tryd.prog 58 := by unfold hasZero; kernel_rfl
theorem za58 : zeroA Tryd.prog 58 = Go.Eng.AV.lit Go.Value.nilFunc := by kernel_rfl
theorem sz59 : Tryd.prog.cellsOf 59 = 1 := by kernel_rfl
theorem by59 : Tryd.prog.bytesOf 59 = 8 := by kernel_rfl
theorem io59 : (Tryd.prog.info? 59).isSome = true := by kernel_rfl
theorem eok59 : elemOk Tryd.prog 59 = true := by kernel_rfl
theorem sty59 : srcTy Tryd.prog 59 = true := by kernel_rfl
theorem ify59 : ifaceTy Tryd.prog 59 = false := by kernel_rfl
theorem hz59 : hasZero Tryd.prog 59 := by unfold hasZero; kernel_rfl
theorem za59 : zeroA Tryd.prog 59 = Go.Eng.AV.lit Go.Value.nilFunc := by kernel_rfl
theorem sz60 : Tryd.prog.cellsOf 60 = 1 := by kernel_rfl
theorem by60 : Tryd.prog.bytesOf 60 = 8 := by kernel_rfl
theorem io60 : (Tryd.prog.info? 60).isSome = true := by kernel_rfl
theorem eok60 : elemOk Tryd.prog 60 = true := by kernel_rfl
theorem sty60 : srcTy Tryd.prog 60 = false := by kernel_rfl
theorem ify60 : ifaceTy Tryd.prog 60 = false := by kernel_rfl
theorem kf60 : kindOf Tryd.prog 60 = some (some Go.IntKind.i64) := by kernel_rfl
theorem sh60 : Tryd.prog.stoodInHeld 60 = false := by kernel_rfl
theorem eg60 : Tryd.prog.eqGuardType Tryd.prog.depth 60 = false := by kernel_rfl
theorem hz60 : hasZero Tryd.prog 60 := by unfold hasZero; kernel_rfl
theorem za60 : zeroA Tryd.prog 60 = Go.Eng.AV.int Go.IntKind.i64 0 := by kernel_rfl
theorem sz61 : Tryd.prog.cellsOf 61 = 1 := by kernel_rfl
theorem by61 : Tryd.prog.bytesOf 61 = 0 := by kernel_rfl
theorem io61 : (Tryd.prog.info? 61).isSome = true := by kernel_rfl
theorem eok61 : elemOk Tryd.prog 61 = false := by kernel_rfl
theorem sty61 : srcTy Tryd.prog 61 = true := by kernel_rfl
theorem ify61 : ifaceTy Tryd.prog 61 = false := by kernel_rfl
theorem hz61 : hasZero Tryd.prog 61 := by unfold hasZero; kernel_rfl
theorem sz62 : Tryd.prog.cellsOf 62 = 1 := by kernel_rfl
theorem by62 : Tryd.prog.bytesOf 62 = 8 := by kernel_rfl
theorem io62 : (Tryd.prog.info? 62).isSome = true := by kernel_rfl
theorem eok62 : elemOk Tryd.prog 62 = true := by kernel_rfl
theorem sty62 : srcTy Tryd.prog 62 = true := by kernel_rfl
theorem ify62 : ifaceTy Tryd.prog 62 = false := by kernel_rfl
theorem hz62 : hasZero Tryd.prog 62 := by unfold hasZero; kernel_rfl
theorem za62 : zeroA Tryd.prog 62 = Go.Eng.AV.lit Go.Value.nilFunc := by kernel_rfl
theorem sz63 : Tryd.prog.cellsOf 63 = 1 := by kernel_rfl
theorem by63 : Tryd.prog.bytesOf 63 = 8 := by kernel_rfl
theorem io63 : (Tryd.prog.info? 63).isSome = true := by kernel_rfl
theorem eok63 : elemOk Tryd.prog 63 = true := by kernel_rfl
theorem sty63 : srcTy Tryd.prog 63 = true := by kernel_rfl
theorem ify63 : ifaceTy Tryd.prog 63 = false := by kernel_rfl
theorem hz63 : hasZero Tryd.prog 63 := by unfold hasZero; kernel_rfl
theorem za63 : zeroA Tryd.prog 63 = Go.Eng.AV.lit Go.Value.nilFunc := by kernel_rfl
theorem sz64 : Tryd.prog.cellsOf 64 = 1 := by kernel_rfl
theorem by64 : Tryd.prog.bytesOf 64 = 8 := by kernel_rfl
theorem io64 : (Tryd.prog.info? 64).isSome = true := by kernel_rfl
theorem eok64 : elemOk Tryd.prog 64 = true := by kernel_rfl
theorem sty64 : srcTy Tryd.prog 64 = true := by kernel_rfl
theorem ify64 : ifaceTy Tryd.prog 64 = false := by kernel_rfl
theorem hz64 : hasZero Tryd.prog 64 := by unfold hasZero; kernel_rfl
theorem za64 : zeroA Tryd.prog 64 = Go.Eng.AV.lit Go.Value.nilFunc := by kernel_rfl
theorem sz65 : Tryd.prog.cellsOf 65 = 1 := by kernel_rfl
theorem by65 : Tryd.prog.bytesOf 65 = 8 := by kernel_rfl
theorem io65 : (Tryd.prog.info? 65).isSome = true := by kernel_rfl
theorem eok65 : elemOk Tryd.prog 65 = true := by kernel_rfl
theorem sty65 : srcTy Tryd.prog 65 = true := by kernel_rfl
theorem ify65 : ifaceTy Tryd.prog 65 = false := by kernel_rfl
theorem hz65 : hasZero Tryd.prog 65 := by unfold hasZero; kernel_rfl
theorem za65 : zeroA Tryd.prog 65 = Go.Eng.AV.lit Go.Value.nilFunc := by kernel_rfl
theorem sz66 : Tryd.prog.cellsOf 66 = 1 := by kernel_rfl
theorem by66 : Tryd.prog.bytesOf 66 = 0 := by kernel_rfl
theorem io66 : (Tryd.prog.info? 66).isSome = true := by kernel_rfl
theorem eok66 : elemOk Tryd.prog 66 = false := by kernel_rfl
theorem sty66 : srcTy Tryd.prog 66 = true := by kernel_rfl
theorem ify66 : ifaceTy Tryd.prog 66 = false := by kernel_rfl
theorem hz66 : hasZero Tryd.prog 66 := by unfold hasZero; kernel_rfl
theorem sz67 : Tryd.prog.cellsOf 67 = 1 := by kernel_rfl
theorem by67 : Tryd.prog.bytesOf 67 = 8 := by kernel_rfl
theorem io67 : (Tryd.prog.info? 67).isSome = true := by kernel_rfl
theorem eok67 : elemOk Tryd.prog 67 = true := by kernel_rfl
theorem sty67 : srcTy Tryd.prog 67 = true := by kernel_rfl
theorem ify67 : ifaceTy Tryd.prog 67 = false := by kernel_rfl
theorem hz67 : hasZero Tryd.prog 67 := by unfold hasZero; kernel_rfl
theorem za67 : zeroA Tryd.prog 67 = Go.Eng.AV.lit Go.Value.nilFunc := by kernel_rfl
theorem sz68 : Tryd.prog.cellsOf 68 = 1 := by kernel_rfl
theorem by68 : Tryd.prog.bytesOf 68 = 8 := by kernel_rfl
theorem io68 : (Tryd.prog.info? 68).isSome = true := by kernel_rfl
theorem eok68 : elemOk Tryd.prog 68 = true := by kernel_rfl
theorem sty68 : srcTy Tryd.prog 68 = true := by kernel_rfl
theorem ify68 : ifaceTy Tryd.prog 68 = false := by kernel_rfl
theorem hz68 : hasZero Tryd.prog 68 := by unfold hasZero; kernel_rfl
theorem za68 : zeroA Tryd.prog 68 = Go.Eng.AV.lit Go.Value.nilFunc := by kernel_rfl
theorem sz69 : Tryd.prog.cellsOf 69 = 1 := by kernel_rfl
theorem by69 : Tryd.prog.bytesOf 69 = 4 := by kernel_rfl
theorem io69 : (Tryd.prog.info? 69).isSome = true := by kernel_rfl
theorem eok69 : elemOk Tryd.prog 69 = true := by kernel_rfl
theorem sty69 : srcTy Tryd.prog 69 = false := by kernel_rfl
theorem ify69 : ifaceTy Tryd.prog 69 = false := by kernel_rfl
theorem kf69 : kindOf Tryd.prog 69 = some (some Go.IntKind.u32) := by kernel_rfl
theorem sh69 : Tryd.prog.stoodInHeld 69 = false := by kernel_rfl
theorem eg69 : Tryd.prog.eqGuardType Tryd.prog.depth 69 = false := by kernel_rfl
theorem hz69 : hasZero Tryd.prog 69 := by unfold hasZero; kernel_rfl
theorem za69 : zeroA Tryd.prog 69 = Go.Eng.AV.int Go.IntKind.u32 0 := by kernel_rfl
theorem sz70 : Tryd.prog.cellsOf 70 = 1 := by kernel_rfl
theorem by70 : Tryd.prog.bytesOf 70 = 8 := by kernel_rfl
theorem io70 : (Tryd.prog.info? 70).isSome = true := by kernel_rfl
theorem eok70 : elemOk Tryd.prog 70 = true := by kernel_rfl
theorem sty70 : srcTy Tryd.prog 70 = true := by kernel_rfl
theorem ify70 : ifaceTy Tryd.prog 70 = false := by kernel_rfl
theorem hz70 : hasZero Tryd.prog 70 := by unfold hasZero; kernel_rfl
theorem za70 : zeroA Tryd.prog 70 = Go.Eng.AV.lit Go.Value.nilFunc := by kernel_rfl
theorem sz71 : Tryd.prog.cellsOf 71 = 1 := by kernel_rfl
theorem by71 : Tryd.prog.bytesOf 71 = 8 := by kernel_rfl
theorem io71 : (Tryd.prog.info? 71).isSome = true := by kernel_rfl
theorem eok71 : elemOk Tryd.prog 71 = true := by kernel_rfl
theorem sty71 : srcTy Tryd.prog 71 = false := by kernel_rfl
theorem ify71 : ifaceTy Tryd.prog 71 = false := by kernel_rfl
theorem kf71 : kindOf Tryd.prog 71 = some (some Go.IntKind.u64) := by kernel_rfl
theorem sh71 : Tryd.prog.stoodInHeld 71 = false := by kernel_rfl
theorem eg71 : Tryd.prog.eqGuardType Tryd.prog.depth 71 = false := by kernel_rfl
theorem hz71 : hasZero Tryd.prog 71 := by unfold hasZero; kernel_rfl
theorem za71 : zeroA Tryd.prog 71 = Go.Eng.AV.int Go.IntKind.u64 0 := by kernel_rfl
theorem sz72 : Tryd.prog.cellsOf 72 = 1 := by kernel_rfl
theorem by72 : Tryd.prog.bytesOf 72 = 8 := by kernel_rfl
theorem io72 : (Tryd.prog.info? 72).isSome = true := by kernel_rfl
theorem eok72 : elemOk Tryd.prog 72 = true := by kernel_rfl
theorem sty72 : srcTy Tryd.prog 72 = true := by kernel_rfl
theorem ify72 : ifaceTy Tryd.prog 72 = false := by kernel_rfl
theorem hz72 : hasZero Tryd.prog 72 := by unfold hasZero; kernel_rfl
theorem za72 : zeroA Tryd.prog 72 = Go.Eng.AV.lit Go.Value.nilFunc := by kernel_rfl
theorem sz73 : Tryd.prog.cellsOf 73 = 1 := by kernel_rfl
theorem by73 : Tryd.prog.bytesOf 73 = 8 := by kernel_rfl
theorem io73 : (Tryd.prog.info? 73).isSome = true := by kernel_rfl
theorem eok73 : elemOk Tryd.prog 73 = true := by kernel_rfl
theorem sty73 : srcTy Tryd.prog 73 = false := by kernel_rfl
theorem ify73 : ifaceTy Tryd.prog 73 = false := by kernel_rfl
theorem kf73 : kindOf Tryd.prog 73 = some (some Go.IntKind.u64) := by kernel_rfl
theorem sh73 : Tryd.prog.stoodInHeld 73 = false := by kernel_rfl
theorem eg73 : Tryd.prog.eqGuardType Tryd.prog.depth 73 = false := by kernel_rfl
theorem hz73 : hasZero Tryd.prog 73 := by unfold hasZero; kernel_rfl
theorem za73 : zeroA Tryd.prog 73 = Go.Eng.AV.int Go.IntKind.u64 0 := by kernel_rfl
theorem sz74 : Tryd.prog.cellsOf 74 = 1 := by kernel_rfl
theorem by74 : Tryd.prog.bytesOf 74 = 8 := by kernel_rfl
theorem io74 : (Tryd.prog.info? 74).isSome = true := by kernel_rfl
theorem eok74 : elemOk Tryd.prog 74 = true := by kernel_rfl
theorem sty74 : srcTy Tryd.prog 74 = true := by kernel_rfl
theorem ify74 : ifaceTy Tryd.prog 74 = false := by kernel_rfl
theorem hz74 : hasZero Tryd.prog 74 := by unfold hasZero; kernel_rfl
theorem za74 : zeroA Tryd.prog 74 = Go.Eng.AV.lit Go.Value.nilFunc := by kernel_rfl
theorem sz75 : Tryd.prog.cellsOf 75 = 1 := by kernel_rfl
theorem by75 : Tryd.prog.bytesOf 75 = 8 := by kernel_rfl
theorem io75 : (Tryd.prog.info? 75).isSome = true := by kernel_rfl
theorem eok75 : elemOk Tryd.prog 75 = true := by kernel_rfl
theorem sty75 : srcTy Tryd.prog 75 = true := by kernel_rfl
theorem ify75 : ifaceTy Tryd.prog 75 = false := by kernel_rfl
theorem hz75 : hasZero Tryd.prog 75 := by unfold hasZero; kernel_rfl
theorem za75 : zeroA Tryd.prog 75 = Go.Eng.AV.lit Go.Value.nilFunc := by kernel_rfl
theorem sz76 : Tryd.prog.cellsOf 76 = 1 := by kernel_rfl
theorem by76 : Tryd.prog.bytesOf 76 = 8 := by kernel_rfl
theorem io76 : (Tryd.prog.info? 76).isSome = true := by kernel_rfl
theorem eok76 : elemOk Tryd.prog 76 = true := by kernel_rfl
theorem sty76 : srcTy Tryd.prog 76 = true := by kernel_rfl
theorem ify76 : ifaceTy Tryd.prog 76 = false := by kernel_rfl
theorem hz76 : hasZero Tryd.prog 76 := by unfold hasZero; kernel_rfl
theorem za76 : zeroA Tryd.prog 76 = Go.Eng.AV.lit Go.Value.nilFunc := by kernel_rfl
theorem sz77 : Tryd.prog.cellsOf 77 = 1 := by kernel_rfl
theorem by77 : Tryd.prog.bytesOf 77 = 8 := by kernel_rfl
theorem io77 : (Tryd.prog.info? 77).isSome = true := by kernel_rfl
theorem eok77 : elemOk Tryd.prog 77 = true := by kernel_rfl
theorem sty77 : srcTy Tryd.prog 77 = true := by kernel_rfl
theorem ify77 : ifaceTy Tryd.prog 77 = false := by kernel_rfl
theorem hz77 : hasZero Tryd.prog 77 := by unfold hasZero; kernel_rfl
theorem za77 : zeroA Tryd.prog 77 = Go.Eng.AV.lit (Go.Value.pointer none) := by kernel_rfl
theorem sz78 : Tryd.prog.cellsOf 78 = 1 := by kernel_rfl
theorem by78 : Tryd.prog.bytesOf 78 = 8 := by kernel_rfl
theorem io78 : (Tryd.prog.info? 78).isSome = true := by kernel_rfl
theorem eok78 : elemOk Tryd.prog 78 = true := by kernel_rfl
theorem sty78 : srcTy Tryd.prog 78 = true := by kernel_rfl
theorem ify78 : ifaceTy Tryd.prog 78 = false := by kernel_rfl
theorem hz78 : hasZero Tryd.prog 78 := by unfold hasZero; kernel_rfl
theorem za78 : zeroA Tryd.prog 78 = Go.Eng.AV.lit Go.Value.nilFunc := by kernel_rfl
theorem sz79 : Tryd.prog.cellsOf 79 = 256 := by kernel_rfl
theorem by79 : Tryd.prog.bytesOf 79 = 256 := by kernel_rfl
theorem io79 : (Tryd.prog.info? 79).isSome = true := by kernel_rfl
theorem eok79 : elemOk Tryd.prog 79 = true := by kernel_rfl
theorem sty79 : srcTy Tryd.prog 79 = true := by kernel_rfl
theorem ify79 : ifaceTy Tryd.prog 79 = false := by kernel_rfl
theorem sh79 : Tryd.prog.stoodInHeld 79 = false := by kernel_rfl
theorem eg79 : Tryd.prog.eqGuardType Tryd.prog.depth 79 = false := by kernel_rfl
theorem sz80 : Tryd.prog.cellsOf 80 = 2 := by kernel_rfl
theorem by80 : Tryd.prog.bytesOf 80 = 2 := by kernel_rfl
theorem io80 : (Tryd.prog.info? 80).isSome = true := by kernel_rfl
theorem eok80 : elemOk Tryd.prog 80 = true := by kernel_rfl
theorem sty80 : srcTy Tryd.prog 80 = true := by kernel_rfl
theorem ify80 : ifaceTy Tryd.prog 80 = false := by kernel_rfl
theorem sh80 : Tryd.prog.stoodInHeld 80 = false := by kernel_rfl
theorem eg80 : Tryd.prog.eqGuardType Tryd.prog.depth 80 = false := by kernel_rfl
theorem hz80 : hasZero Tryd.prog 80 := by unfold hasZero; kernel_rfl
theorem za80 : zeroA Tryd.prog 80 = Go.Eng.AV.agg [Go.Eng.AV.int Go.IntKind.u8 0, Go.Eng.AV.int Go.IntKind.u8 0] := by kernel_rfl
theorem sz81 : Tryd.prog.cellsOf 81 = 2 := by kernel_rfl
theorem by81 : Tryd.prog.bytesOf 81 = 2 := by kernel_rfl
theorem io81 : (Tryd.prog.info? 81).isSome = true := by kernel_rfl
theorem eok81 : elemOk Tryd.prog 81 = true := by kernel_rfl
theorem sty81 : srcTy Tryd.prog 81 = true := by kernel_rfl
theorem ify81 : ifaceTy Tryd.prog 81 = false := by kernel_rfl
theorem sh81 : Tryd.prog.stoodInHeld 81 = false := by kernel_rfl
theorem eg81 : Tryd.prog.eqGuardType Tryd.prog.depth 81 = false := by kernel_rfl
theorem hz81 : hasZero Tryd.prog 81 := by unfold hasZero; kernel_rfl
theorem za81 : zeroA Tryd.prog 81 = Go.Eng.AV.agg [Go.Eng.AV.int Go.IntKind.u8 0, Go.Eng.AV.int Go.IntKind.u8 0] := by kernel_rfl
theorem sz82 : Tryd.prog.cellsOf 82 = 32 := by kernel_rfl
theorem by82 : Tryd.prog.bytesOf 82 = 32 := by kernel_rfl
theorem io82 : (Tryd.prog.info? 82).isSome = true := by kernel_rfl
theorem eok82 : elemOk Tryd.prog 82 = true := by kernel_rfl
theorem sty82 : srcTy Tryd.prog 82 = true := by kernel_rfl
theorem ify82 : ifaceTy Tryd.prog 82 = false := by kernel_rfl
theorem sh82 : Tryd.prog.stoodInHeld 82 = false := by kernel_rfl
theorem eg82 : Tryd.prog.eqGuardType Tryd.prog.depth 82 = false := by kernel_rfl
theorem hz82 : hasZero Tryd.prog 82 := by unfold hasZero; kernel_rfl
theorem za82 : zeroA Tryd.prog 82 = Go.Eng.AV.agg [Go.Eng.AV.int Go.IntKind.u8 0, Go.Eng.AV.int Go.IntKind.u8 0, Go.Eng.AV.int Go.IntKind.u8 0, Go.Eng.AV.int Go.IntKind.u8 0, Go.Eng.AV.int Go.IntKind.u8 0, Go.Eng.AV.int Go.IntKind.u8 0, Go.Eng.AV.int Go.IntKind.u8 0, Go.Eng.AV.int Go.IntKind.u8 0, Go.Eng.AV.int Go.IntKind.u8 0, Go.Eng.AV.int Go.IntKind.u8 0, Go.Eng.AV.int Go.IntKind.u8 0, Go.Eng.AV.int Go.IntKind.u8 0, Go.Eng.AV.int Go.IntKind.u8 0, Go.Eng.AV.int Go.IntKind.u8 0, Go.Eng.AV.int Go.IntKind.u8 0, Go.Eng.AV.int Go.IntKind.u8 0, Go.Eng.AV.int Go.IntKind.u8 0, Go.Eng.AV.int Go.IntKind.u8 0, Go.Eng.AV.int Go.IntKind.u8 0, Go.Eng.AV.int Go.IntKind.u8 0, Go.Eng.AV.int Go.IntKind.u8 0, Go.Eng.AV.int Go.IntKind.u8 0, Go.Eng.AV.int Go.IntKind.u8 0, Go.Eng.AV.int Go.IntKind.u8 0, Go.Eng.AV.int Go.IntKind.u8 0, Go.Eng.AV.int Go.IntKind.u8 0, Go.Eng.AV.int Go.IntKind.u8 0, Go.Eng.AV.int Go.IntKind.u8 0, Go.Eng.AV.int Go.IntKind.u8 0, Go.Eng.AV.int Go.IntKind.u8 0, Go.Eng.AV.int Go.IntKind.u8 0, Go.Eng.AV.int Go.IntKind.u8 0] := by kernel_rfl
theorem sz83 : Tryd.prog.cellsOf 83 = 1 := by kernel_rfl
theorem by83 : Tryd.prog.bytesOf 83 = 0 := by kernel_rfl
theorem io83 : (Tryd.prog.info? 83).isSome = true := by kernel_rfl
theorem eok83 : elemOk Tryd.prog 83 = false := by kernel_rfl
theorem sty83 : srcTy Tryd.prog 83 = true := by kernel_rfl
theorem ify83 : ifaceTy Tryd.prog 83 = false := by kernel_rfl
theorem hz83 : hasZero Tryd.prog 83 := by unfold hasZero; kernel_rfl
theorem sz84 : Tryd.prog.cellsOf 84 = 1 := by kernel_rfl
theorem by84 : Tryd.prog.bytesOf 84 = 8 := by kernel_rfl
theorem io84 : (Tryd.prog.info? 84).isSome = true := by kernel_rfl
theorem eok84 : elemOk Tryd.prog 84 = true := by kernel_rfl
theorem sty84 : srcTy Tryd.prog 84 = true := by kernel_rfl
theorem ify84 : ifaceTy Tryd.prog 84 = false := by kernel_rfl
theorem hz84 : hasZero Tryd.prog 84 := by unfold hasZero; kernel_rfl
theorem za84 : zeroA Tryd.prog 84 = Go.Eng.AV.lit Go.Value.nilFunc := by kernel_rfl
theorem sz85 : Tryd.prog.cellsOf 85 = 1 := by kernel_rfl
theorem by85 : Tryd.prog.bytesOf 85 = 8 := by kernel_rfl
theorem io85 : (Tryd.prog.info? 85).isSome = true := by kernel_rfl
theorem eok85 : elemOk Tryd.prog 85 = true := by kernel_rfl
theorem sty85 : srcTy Tryd.prog 85 = true := by kernel_rfl
theorem ify85 : ifaceTy Tryd.prog 85 = false := by kernel_rfl
theorem hz85 : hasZero Tryd.prog 85 := by unfold hasZero; kernel_rfl
theorem za85 : zeroA Tryd.prog 85 = Go.Eng.AV.lit (Go.Value.pointer none) := by kernel_rfl
theorem sz86 : Tryd.prog.cellsOf 86 = 1 := by kernel_rfl
theorem by86 : Tryd.prog.bytesOf 86 = 8 := by kernel_rfl
theorem io86 : (Tryd.prog.info? 86).isSome = true := by kernel_rfl
theorem eok86 : elemOk Tryd.prog 86 = true := by kernel_rfl
theorem sty86 : srcTy Tryd.prog 86 = true := by kernel_rfl
theorem ify86 : ifaceTy Tryd.prog 86 = false := by kernel_rfl
theorem hz86 : hasZero Tryd.prog 86 := by unfold hasZero; kernel_rfl
theorem za86 : zeroA Tryd.prog 86 = Go.Eng.AV.lit Go.Value.nilFunc := by kernel_rfl
theorem sz87 : Tryd.prog.cellsOf 87 = 1 := by kernel_rfl
theorem by87 : Tryd.prog.bytesOf 87 = 8 := by kernel_rfl
theorem io87 : (Tryd.prog.info? 87).isSome = true := by kernel_rfl
theorem eok87 : elemOk Tryd.prog 87 = true := by kernel_rfl
theorem sty87 : srcTy Tryd.prog 87 = true := by kernel_rfl
theorem ify87 : ifaceTy Tryd.prog 87 = false := by kernel_rfl
theorem hz87 : hasZero Tryd.prog 87 := by unfold hasZero; kernel_rfl
theorem za87 : zeroA Tryd.prog 87 = Go.Eng.AV.lit Go.Value.nilFunc := by kernel_rfl
theorem sz88 : Tryd.prog.cellsOf 88 = 4 := by kernel_rfl
theorem by88 : Tryd.prog.bytesOf 88 = 40 := by kernel_rfl
theorem io88 : (Tryd.prog.info? 88).isSome = true := by kernel_rfl
theorem eok88 : elemOk Tryd.prog 88 = true := by kernel_rfl
theorem sty88 : srcTy Tryd.prog 88 = true := by kernel_rfl
theorem ify88 : ifaceTy Tryd.prog 88 = false := by kernel_rfl
theorem sh88 : Tryd.prog.stoodInHeld 88 = true := by kernel_rfl
theorem eg88 : Tryd.prog.eqGuardType Tryd.prog.depth 88 = false := by kernel_rfl
theorem hz88 : hasZero Tryd.prog 88 := by unfold hasZero; kernel_rfl
theorem za88 : zeroA Tryd.prog 88 = Go.Eng.AV.agg [Go.Eng.AV.lit (Go.Value.pointer none), Go.Eng.AV.lit (Go.Value.pointer none), Go.Eng.AV.lit (Go.Value.pointer none), Go.Eng.AV.str []] := by kernel_rfl
theorem sz89 : Tryd.prog.cellsOf 89 = 4 := by kernel_rfl
theorem by89 : Tryd.prog.bytesOf 89 = 40 := by kernel_rfl
theorem io89 : (Tryd.prog.info? 89).isSome = true := by kernel_rfl
theorem eok89 : elemOk Tryd.prog 89 = true := by kernel_rfl
theorem sty89 : srcTy Tryd.prog 89 = true := by kernel_rfl
theorem ify89 : ifaceTy Tryd.prog 89 = false := by kernel_rfl
theorem sh89 : Tryd.prog.stoodInHeld 89 = true := by kernel_rfl
theorem eg89 : Tryd.prog.eqGuardType Tryd.prog.depth 89 = false := by kernel_rfl
theorem hz89 : hasZero Tryd.prog 89 := by unfold hasZero; kernel_rfl
theorem za89 : zeroA Tryd.prog 89 = Go.Eng.AV.agg [Go.Eng.AV.lit (Go.Value.pointer none), Go.Eng.AV.lit (Go.Value.pointer none), Go.Eng.AV.lit (Go.Value.pointer none), Go.Eng.AV.str []] := by kernel_rfl
theorem sz90 : Tryd.prog.cellsOf 90 = 0 := by kernel_rfl
theorem by90 : Tryd.prog.bytesOf 90 = 0 := by kernel_rfl
theorem io90 : (Tryd.prog.info? 90).isSome = true := by kernel_rfl
theorem eok90 : elemOk Tryd.prog 90 = false := by kernel_rfl
theorem sty90 : srcTy Tryd.prog 90 = true := by kernel_rfl
theorem ify90 : ifaceTy Tryd.prog 90 = false := by kernel_rfl
theorem hz90 : hasZero Tryd.prog 90 := by unfold hasZero; kernel_rfl
theorem za90 : zeroA Tryd.prog 90 = Go.Eng.AV.agg [] := by kernel_rfl
theorem sz91 : Tryd.prog.cellsOf 91 = 0 := by kernel_rfl
theorem by91 : Tryd.prog.bytesOf 91 = 0 := by kernel_rfl
theorem io91 : (Tryd.prog.info? 91).isSome = true := by kernel_rfl
theorem eok91 : elemOk Tryd.prog 91 = false := by kernel_rfl
theorem sty91 : srcTy Tryd.prog 91 = true := by kernel_rfl
theorem ify91 : ifaceTy Tryd.prog 91 = false := by kernel_rfl
theorem hz91 : hasZero Tryd.prog 91 := by unfold hasZero; kernel_rfl
theorem za91 : zeroA Tryd.prog 91 = Go.Eng.AV.agg [] := by kernel_rfl
theorem sz92 : Tryd.prog.cellsOf 92 = 0 := by kernel_rfl
theorem by92 : Tryd.prog.bytesOf 92 = 0 := by kernel_rfl
theorem io92 : (Tryd.prog.info? 92).isSome = true := by kernel_rfl
theorem eok92 : elemOk Tryd.prog 92 = false := by kernel_rfl
theorem sty92 : srcTy Tryd.prog 92 = true := by kernel_rfl
theorem ify92 : ifaceTy Tryd.prog 92 = false := by kernel_rfl
theorem hz92 : hasZero Tryd.prog 92 := by unfold hasZero; kernel_rfl
theorem za92 : zeroA Tryd.prog 92 = Go.Eng.AV.agg [] := by kernel_rfl
theorem sz93 : Tryd.prog.cellsOf 93 = 1 := by kernel_rfl
theorem by93 : Tryd.prog.bytesOf 93 = 8 := by kernel_rfl
theorem io93 : (Tryd.prog.info? 93).isSome = true := by kernel_rfl
theorem eok93 : elemOk Tryd.prog 93 = true := by kernel_rfl
theorem sty93 : srcTy Tryd.prog 93 = true := by kernel_rfl
theorem ify93 : ifaceTy Tryd.prog 93 = false := by kernel_rfl
theorem hz93 : hasZero Tryd.prog 93 := by unfold hasZero; kernel_rfl
theorem za93 : zeroA Tryd.prog 93 = Go.Eng.AV.lit Go.Value.nilFunc := by kernel_rfl
theorem sz94 : Tryd.prog.cellsOf 94 = 1 := by kernel_rfl
theorem by94 : Tryd.prog.bytesOf 94 = 1 := by kernel_rfl
theorem io94 : (Tryd.prog.info? 94).isSome = true := by kernel_rfl
theorem eok94 : elemOk Tryd.prog 94 = true := by kernel_rfl
theorem sty94 : srcTy Tryd.prog 94 = false := by kernel_rfl
theorem ify94 : ifaceTy Tryd.prog 94 = false := by kernel_rfl
theorem kf94 : kindOf Tryd.prog 94 = some (some Go.IntKind.u8) := by kernel_rfl
theorem sh94 : Tryd.prog.stoodInHeld 94 = false := by kernel_rfl
theorem eg94 : Tryd.prog.eqGuardType Tryd.prog.depth 94 = false := by kernel_rfl
theorem hz94 : hasZero Tryd.prog 94 := by unfold hasZero; kernel_rfl
theorem za94 : zeroA Tryd.prog 94 = Go.Eng.AV.int Go.IntKind.u8 0 := by kernel_rfl
theorem sz95 : Tryd.prog.cellsOf 95 = 1 := by kernel_rfl
theorem by95 : Tryd.prog.bytesOf 95 = 1 := by kernel_rfl
theorem io95 : (Tryd.prog.info? 95).isSome = true := by kernel_rfl
theorem eok95 : elemOk Tryd.prog 95 = true := by kernel_rfl
theorem sty95 : srcTy Tryd.prog 95 = false := by kernel_rfl
theorem ify95 : ifaceTy Tryd.prog 95 = false := by kernel_rfl
theorem kf95 : kindOf Tryd.prog 95 = some (some Go.IntKind.u8) := by kernel_rfl
theorem sh95 : Tryd.prog.stoodInHeld 95 = false := by kernel_rfl
theorem eg95 : Tryd.prog.eqGuardType Tryd.prog.depth 95 = false := by kernel_rfl
theorem hz95 : hasZero Tryd.prog 95 := by unfold hasZero; kernel_rfl
theorem za95 : zeroA Tryd.prog 95 = Go.Eng.AV.int Go.IntKind.u8 0 := by kernel_rfl
theorem sz96 : Tryd.prog.cellsOf 96 = 1 := by kernel_rfl
theorem by96 : Tryd.prog.bytesOf 96 = 8 := by kernel_rfl
theorem io96 : (Tryd.prog.info? 96).isSome = true := by kernel_rfl
theorem eok96 : elemOk Tryd.prog 96 = true := by kernel_rfl
theorem sty96 : srcTy Tryd.prog 96 = true := by kernel_rfl
theorem ify96 : ifaceTy Tryd.prog 96 = false := by kernel_rfl
theorem hz96 : hasZero Tryd.prog 96 := by unfold hasZero; kernel_rfl
theorem za96 : zeroA Tryd.prog 96 = Go.Eng.AV.lit Go.Value.nilFunc := by kernel_rfl
theorem sz97 : Tryd.prog.cellsOf 97 = 1 := by kernel_rfl
theorem by97 : Tryd.prog.bytesOf 97 = 8 := by kernel_rfl
theorem io97 : (Tryd.prog.info? 97).isSome = true := by kernel_rfl
theorem eok97 : elemOk Tryd.prog 97 = true := by kernel_rfl
theorem sty97 : srcTy Tryd.prog 97 = true := by kernel_rfl
theorem ify97 : ifaceTy Tryd.prog 97 = false := by kernel_rfl
theorem hz97 : hasZero Tryd.prog 97 := by unfold hasZero; kernel_rfl
theorem za97 : zeroA Tryd.prog 97 = Go.Eng.AV.lit (Go.Value.pointer none) := by kernel_rfl
theorem sz98 : Tryd.prog.cellsOf 98 = 1 := by kernel_rfl
theorem by98 : Tryd.prog.bytesOf 98 = 4 := by kernel_rfl
theorem io98 : (Tryd.prog.info? 98).isSome = true := by kernel_rfl
theorem eok98 : elemOk Tryd.prog 98 = true := by kernel_rfl
theorem sty98 : srcTy Tryd.prog 98 = false := by kernel_rfl
theorem ify98 : ifaceTy Tryd.prog 98 = false := by kernel_rfl
theorem kf98 : kindOf Tryd.prog 98 = some (some Go.IntKind.i32) := by kernel_rfl
theorem sh98 : Tryd.prog.stoodInHeld 98 = false := by kernel_rfl
theorem eg98 : Tryd.prog.eqGuardType Tryd.prog.depth 98 = false := by kernel_rfl
theorem hz98 : hasZero Tryd.prog 98 := by unfold hasZero; kernel_rfl
theorem za98 : zeroA Tryd.prog 98 = Go.Eng.AV.int Go.IntKind.i32 0 := by kernel_rfl
theorem sz99 : Tryd.prog.cellsOf 99 = 1 := by kernel_rfl
theorem by99 : Tryd.prog.bytesOf 99 = 4 := by kernel_rfl
theorem io99 : (Tryd.prog.info? 99).isSome = true := by kernel_rfl
theorem eok99 : elemOk Tryd.prog 99 = true := by kernel_rfl
theorem sty99 : srcTy Tryd.prog 99 = false := by kernel_rfl
theorem ify99 : ifaceTy Tryd.prog 99 = false := by kernel_rfl
theorem kf99 : kindOf Tryd.prog 99 = some (some Go.IntKind.i32) := by kernel_rfl
theorem sh99 : Tryd.prog.stoodInHeld 99 = false := by kernel_rfl
theorem eg99 : Tryd.prog.eqGuardType Tryd.prog.depth 99 = false := by kernel_rfl
theorem hz99 : hasZero Tryd.prog 99 := by unfold hasZero; kernel_rfl
theorem za99 : zeroA Tryd.prog 99 = Go.Eng.AV.int Go.IntKind.i32 0 := by kernel_rfl
theorem sz100 : Tryd.prog.cellsOf 100 = 11 := by kernel_rfl
theorem by100 : Tryd.prog.bytesOf 100 = 48 := by kernel_rfl
theorem io100 : (Tryd.prog.info? 100).isSome = true := by kernel_rfl
theorem eok100 : elemOk Tryd.prog 100 = true := by kernel_rfl
theorem sty100 : srcTy Tryd.prog 100 = true := by kernel_rfl
theorem ify100 : ifaceTy Tryd.prog 100 = false := by kernel_rfl
theorem sh100 : Tryd.prog.stoodInHeld 100 = true := by kernel_rfl
theorem eg100 : Tryd.prog.eqGuardType Tryd.prog.depth 100 = false := by kernel_rfl
theorem hz100 : hasZero Tryd.prog 100 := by unfold hasZero; kernel_rfl
theorem za100 : zeroA Tryd.prog 100 = Go.Eng.AV.agg [Go.Eng.AV.int Go.IntKind.u64 0, Go.Eng.AV.int Go.IntKind.u64 0, Go.Eng.AV.int Go.IntKind.u32 0, Go.Eng.AV.int Go.IntKind.u8 0, Go.Eng.AV.int Go.IntKind.u8 0, Go.Eng.AV.int Go.IntKind.u8 0, Go.Eng.AV.int Go.IntKind.u8 0, Go.Eng.AV.lit Go.Value.nilFunc, Go.Eng.AV.lit (Go.Value.pointer none), Go.Eng.AV.int Go.IntKind.i32 0, Go.Eng.AV.int Go.IntKind.i32 0] := by kernel_rfl
theorem sz101 : Tryd.prog.cellsOf 101 = 11 := by kernel_rfl
theorem by101 : Tryd.prog.bytesOf 101 = 48 := by kernel_rfl
theorem io101 : (Tryd.prog.info? 101).isSome = true := by kernel_rfl
theorem eok101 : elemOk Tryd.prog 101 = true := by kernel_rfl
theorem sty101 : srcTy Tryd.prog 101 = true := by kernel_rfl
theorem ify101 : ifaceTy Tryd.prog 101 = false := by kernel_rfl
theorem sh101 : Tryd.prog.stoodInHeld 101 = true := by kernel_rfl
theorem eg101 : Tryd.prog.eqGuardType Tryd.prog.depth 101 = false := by kernel_rfl
theorem hz101 : hasZero Tryd.prog 101 := by unfold hasZero; kernel_rfl
theorem za101 : zeroA Tryd.prog 101 = Go.Eng.AV.agg [Go.Eng.AV.int Go.IntKind.u64 0, Go.Eng.AV.int Go.IntKind.u64 0, Go.Eng.AV.int Go.IntKind.u32 0, Go.Eng.AV.int Go.IntKind.u8 0, Go.Eng.AV.int Go.IntKind.u8 0, Go.Eng.AV.int Go.IntKind.u8 0, Go.Eng.AV.int Go.IntKind.u8 0, Go.Eng.AV.lit Go.Value.nilFunc, Go.Eng.AV.lit (Go.Value.pointer none), Go.Eng.AV.int Go.IntKind.i32 0, Go.Eng.AV.int Go.IntKind.i32 0] := by kernel_rfl
theorem sz102 : Tryd.prog.cellsOf 102 = 1 := by kernel_rfl
theorem by102 : Tryd.prog.bytesOf 102 = 8 := by kernel_rfl
theorem io102 : (Tryd.prog.info? 102).isSome = true := by kernel_rfl
theorem eok102 : elemOk Tryd.prog 102 = true := by kernel_rfl
theorem sty102 : srcTy Tryd.prog 102 = true := by kernel_rfl
theorem ify102 : ifaceTy Tryd.prog 102 = false := by kernel_rfl
theorem hz102 : hasZero Tryd.prog 102 := by unfold hasZero; kernel_rfl
theorem za102 : zeroA Tryd.prog 102 = Go.Eng.AV.lit (Go.Value.pointer none) := by kernel_rfl
attribute [push_cast] sz0 by0 io0 eok0 sty0 ify0 hz0 sz1 by1 io1 eok1 sty1 ify1 hz1 za1 sz2 by2 io2 eok2 sty2 ify2 kf2 sh2 eg2 hz2 za2 sz3 by3 io3 eok3 sty3 ify3 kf3 sh3 eg3 hz3 za3 sz4 by4 io4 eok4 sty4 ify4 hz4 za4 sz5 by5 io5 eok5 sty5 ify5 kf5 sh5 eg5 hz5 za5 sz6 by6 io6 eok6 sty6 ify6 kf6 sh6 eg6 hz6 za6 sz7 by7 io7 eok7 sty7 ify7 sh7 eg7 hz7 za7 sz8 by8 io8 eok8 sty8 ify8 sh8 eg8 hz8 za8 sz9 by9 io9 eok9 sty9 ify9 kf9 sh9 eg9 hz9 za9 sz10 by10 io10 eok10 sty10 ify10 kf10 sh10 eg10 hz10 za10 sz11 by11 io11 eok11 sty11 ify11 kf11 sh11 eg11 hz11 za11 sz12 by12 io12 eok12 sty12 ify12 kf12 sh12 eg12 hz12 za12 sz13 by13 io13 eok13 sty13 ify13 sh13 eg13 hz13 za13 sz14 by14 io14 eok14 sty14 ify14 sh14 eg14 hz14 za14 sz15 by15 io15 eok15 sty15 ify15 hz15 za15 sz16 by16 io16 eok16 sty16 ify16 hz16 za16 sz17 by17 io17 eok17 sty17 ify17 hz17 za17 sz18 by18 io18 eok18 sty18 ify18 hz18 za18 sz19 by19 io19 eok19 sty19 ify19 hz19 za19 sz20 by20 io20 eok20 sty20 ify20 hz20 za20 sz21 by21 io21 eok21 sty21 ify21 kf21 sh21 eg21 hz21 za21 sz22 by22 io22 eok22 sty22 ify22 hz22 za22 sz23 by23 io23 eok23 sty23 ify23 hz23 za23 sz24 by24 io24 eok24 sty24 ify24 hz24 sz25 by25 io25 eok25 sty25 ify25 hz25 za25 sz26 by26 io26 eok26 sty26 ify26 hz26 za26 sz27 by27 io27 eok27 sty27 ify27 hz27 za27 sz28 by28 io28 eok28 sty28 ify28 hz28 za28 sz29 by29 io29 eok29 sty29 ify29 hz29 za29 sz30 by30 io30 eok30 sty30 ify30 hz30 za30 sz31 by31 io31 eok31 sty31 ify31 hz31 za31 sz32 by32 io32 eok32 sty32 ify32 kf32 sh32 eg32 hz32 za32 sz33 by33 io33 eok33 sty33 ify33 hz33 sz34 by34 io34 eok34 sty34 ify34 hz34 za34 sz35 by35 io35 eok35 sty35 ify35 hz35 za35 sz36 by36 io36 eok36 sty36 ify36 hz36 sz37 by37 io37 eok37 sty37 ify37 hz37 za37 sz38 by38 io38 eok38 sty38 ify38 hz38 za38 sz39 by39 io39 eok39 sty39 ify39 hz39 za39 sz40 by40 io40 eok40 sty40 ify40 hz40 za40 sz41 by41 io41 eok41 sty41 ify41 hz41 za41 sz42 by42 io42 eok42 sty42 ify42 hz42 za42 sz43 by43 io43 eok43 sty43 ify43 sh43 eg43 hz43 za43 sz44 by44 io44 eok44 sty44 ify44 sh44 eg44 hz44 za44 sz45 by45 io45 eok45 sty45 ify45 hz45 za45 sz46 by46 io46 eok46 sty46 ify46 hz46 sz47 by47 io47 eok47 sty47 ify47 hz47 za47 sz48 by48 io48 eok48 sty48 ify48 hz48 za48 sz49 by49 io49 eok49 sty49 ify49 hz49 za49 sz50 by50 io50 eok50 sty50 ify50 hz50 za50 sz51 by51 io51 eok51 sty51 ify51 hz51 za51 sz52 by52 io52 eok52 sty52 ify52 hz52 za52 sz53 by53 io53 eok53 sty53 ify53 hz53 za53 sz54 by54 io54 eok54 sty54 ify54 kf54 sh54 eg54 hz54 za54 sz55 by55 io55 eok55 sty55 ify55 hz55 za55 sz56 by56 io56 eok56 sty56 ify56 hz56 sz57 by57 io57 eok57 sty57 ify57 hz57 za57 sz58 by58 io58 eok58 sty58 ify58 hz58 za58 sz59 by59 io59 eok59 sty59 ify59 hz59 za59 sz60 by60 io60 eok60 sty60 ify60 kf60 sh60 eg60 hz60 za60 sz61 by61 io61 eok61 sty61 ify61 hz61 sz62 by62 io62 eok62 sty62 ify62 hz62 za62 sz63 by63 io63 eok63 sty63 ify63 hz63 za63 sz64 by64 io64 eok64 sty64 ify64 hz64 za64 sz65 by65 io65 eok65 sty65 ify65 hz65 za65 sz66 by66 io66 eok66 sty66 ify66 hz66 sz67 by67 io67 eok67 sty67 ify67 hz67 za67 sz68 by68 io68 eok68 sty68 ify68 hz68 za68 sz69 by69 io69 eok69 sty69 ify69 kf69 sh69 eg69 hz69 za69 sz70 by70 io70 eok70 sty70 ify70 hz70 za70 sz71 by71 io71 eok71 sty71 ify71 kf71 sh71 eg71 hz71 za71 sz72 by72 io72 eok72 sty72 ify72 hz72 za72 sz73 by73 io73 eok73 sty73 ify73 kf73 sh73 eg73 hz73 za73 sz74 by74 io74 eok74 sty74 ify74 hz74 za74 sz75 by75 io75 eok75 sty75 ify75 hz75 za75 sz76 by76 io76 eok76 sty76 ify76 hz76 za76 sz77 by77 io77 eok77 sty77 ify77 hz77 za77 sz78 by78 io78 eok78 sty78 ify78 hz78 za78 sz79 by79 io79 eok79 sty79 ify79 sh79 eg79 sz80 by80 io80 eok80 sty80 ify80 sh80 eg80 hz80 za80 sz81 by81 io81 eok81 sty81 ify81 sh81 eg81 hz81 za81 sz82 by82 io82 eok82 sty82 ify82 sh82 eg82 hz82 za82 sz83 by83 io83 eok83 sty83 ify83 hz83 sz84 by84 io84 eok84 sty84 ify84 hz84 za84 sz85 by85 io85 eok85 sty85 ify85 hz85 za85 sz86 by86 io86 eok86 sty86 ify86 hz86 za86 sz87 by87 io87 eok87 sty87 ify87 hz87 za87 sz88 by88 io88 eok88 sty88 ify88 sh88 eg88 hz88 za88 sz89 by89 io89 eok89 sty89 ify89 sh89 eg89 hz89 za89 sz90 by90 io90 eok90 sty90 ify90 hz90 za90 sz91 by91 io91 eok91 sty91 ify91 hz91 za91 sz92 by92 io92 eok92 sty92 ify92 hz92 za92 sz93 by93 io93 eok93 sty93 ify93 hz93 za93 sz94 by94 io94 eok94 sty94 ify94 kf94 sh94 eg94 hz94 za94 sz95 by95 io95 eok95 sty95 ify95 kf95 sh95 eg95 hz95 za95 sz96 by96 io96 eok96 sty96 ify96 hz96 za96 sz97 by97 io97 eok97 sty97 ify97 hz97 za97 sz98 by98 io98 eok98 sty98 ify98 kf98 sh98 eg98 hz98 za98 sz99 by99 io99 eok99 sty99 ify99 kf99 sh99 eg99 hz99 za99 sz100 by100 io100 eok100 sty100 ify100 sh100 eg100 hz100 za100 sz101 by101 io101 eok101 sty101 ify101 sh101 eg101 hz101 za101 sz102 by102 io102 eok102 sty102 ify102 hz102 za102 Go.Proofs.Tryd.underlying0 Go.Proofs.Tryd.underlying1 Go.Proofs.Tryd.underlying2 Go.Proofs.Tryd.underlying3 Go.Proofs.Tryd.underlying4 Go.Proofs.Tryd.underlying5 Go.Proofs.Tryd.underlying6 Go.Proofs.Tryd.underlying7 Go.Proofs.Tryd.underlying8 Go.Proofs.Tryd.underlying9 Go.Proofs.Tryd.underlying10 Go.Proofs.Tryd.underlying11 Go.Proofs.Tryd.underlying12 Go.Proofs.Tryd.underlying13 Go.Proofs.Tryd.underlying14 Go.Proofs.Tryd.underlying15 Go.Proofs.Tryd.underlying16 Go.Proofs.Tryd.underlying17 Go.Proofs.Tryd.underlying18 Go.Proofs.Tryd.underlying19 Go.Proofs.Tryd.underlying20 Go.Proofs.Tryd.underlying21 Go.Proofs.Tryd.underlying22 Go.Proofs.Tryd.underlying23 Go.Proofs.Tryd.underlying24 Go.Proofs.Tryd.underlying25 Go.Proofs.Tryd.underlying26 Go.Proofs.Tryd.underlying27 Go.Proofs.Tryd.underlying28 Go.Proofs.Tryd.underlying29 Go.Proofs.Tryd.underlying30 Go.Proofs.Tryd.underlying31 Go.Proofs.Tryd.underlying32 Go.Proofs.Tryd.underlying33 Go.Proofs.Tryd.underlying34 Go.Proofs.Tryd.underlying35 Go.Proofs.Tryd.underlying36 Go.Proofs.Tryd.underlying37 Go.Proofs.Tryd.underlying38 Go.Proofs.Tryd.underlying39 Go.Proofs.Tryd.underlying40 Go.Proofs.Tryd.underlying41 Go.Proofs.Tryd.underlying42 Go.Proofs.Tryd.underlying43 Go.Proofs.Tryd.underlying44 Go.Proofs.Tryd.underlying45 Go.Proofs.Tryd.underlying46 Go.Proofs.Tryd.underlying47 Go.Proofs.Tryd.underlying48 Go.Proofs.Tryd.underlying49 Go.Proofs.Tryd.underlying50 Go.Proofs.Tryd.underlying51 Go.Proofs.Tryd.underlying52 Go.Proofs.Tryd.underlying53 Go.Proofs.Tryd.underlying54 Go.Proofs.Tryd.underlying55 Go.Proofs.Tryd.underlying56 Go.Proofs.Tryd.underlying57 Go.Proofs.Tryd.underlying58 Go.Proofs.Tryd.underlying59 Go.Proofs.Tryd.underlying60 Go.Proofs.Tryd.underlying61 Go.Proofs.Tryd.underlying62 Go.Proofs.Tryd.underlying63 Go.Proofs.Tryd.underlying64 Go.Proofs.Tryd.underlying65 Go.Proofs.Tryd.underlying66 Go.Proofs.Tryd.underlying67 Go.Proofs.Tryd.underlying68 Go.Proofs.Tryd.underlying69 Go.Proofs.Tryd.underlying70 Go.Proofs.Tryd.underlying71 Go.Proofs.Tryd.underlying72 Go.Proofs.Tryd.underlying73 Go.Proofs.Tryd.underlying74 Go.Proofs.Tryd.underlying75 Go.Proofs.Tryd.underlying76 Go.Proofs.Tryd.underlying77 Go.Proofs.Tryd.underlying78 Go.Proofs.Tryd.underlying79 Go.Proofs.Tryd.underlying80 Go.Proofs.Tryd.underlying81 Go.Proofs.Tryd.underlying82 Go.Proofs.Tryd.underlying83 Go.Proofs.Tryd.underlying84 Go.Proofs.Tryd.underlying85 Go.Proofs.Tryd.underlying86 Go.Proofs.Tryd.underlying87 Go.Proofs.Tryd.underlying88 Go.Proofs.Tryd.underlying89 Go.Proofs.Tryd.underlying90 Go.Proofs.Tryd.underlying91 Go.Proofs.Tryd.underlying92 Go.Proofs.Tryd.underlying93 Go.Proofs.Tryd.underlying94 Go.Proofs.Tryd.underlying95 Go.Proofs.Tryd.underlying96 Go.Proofs.Tryd.underlying97 Go.Proofs.Tryd.underlying98 Go.Proofs.Tryd.underlying99 Go.Proofs.Tryd.underlying100 Go.Proofs.Tryd.underlying101 Go.Proofs.Tryd.underlying102
end Go.Proofs.YtkglmlfkcmpbbaaDoor.Ty
