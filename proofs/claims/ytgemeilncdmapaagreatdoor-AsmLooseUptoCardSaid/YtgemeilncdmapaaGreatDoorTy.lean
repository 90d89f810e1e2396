/- Facts on the types of this seat's program, printed by a program of ours. -/
import Derived.Test.YtgemeilncdmapaaGreatDoorED
import Derived.Test.YtgemeilncdmapaaGreatDoorRows
namespace Go.Proofs.YtgemeilncdmapaaGreatDoor.Ty
open Go Go.Eng Go.Proofs

noncomputable abbrev za (t : Nat) : AV := zeroA Tryz.prog t
abbrev K (t s b : Nat) (e r i : Bool) : Prop := Tryz.prog.cellsOf t = s ∧ Tryz.prog.bytesOf t = b ∧ (Tryz.prog.info? t).isSome = true ∧ elemOk Tryz.prog t = e ∧ srcTy Tryz.prog t = r ∧ ifaceTy Tryz.prog t = i
abbrev H (t : Nat) : Prop := hasZero Tryz.prog t
theorem mk {t s b : Nat} {e r i : Bool} (h1 : Tryz.prog.cellsOf t = s := by kernel_rfl) (h2 : Tryz.prog.bytesOf t = b := by kernel_rfl) (h3 : (Tryz.prog.info? t).isSome = true := by kernel_rfl) (h4 : elemOk Tryz.prog t = e := by kernel_rfl) (h5 : srcTy Tryz.prog t = r := by kernel_rfl) (h6 : ifaceTy Tryz.prog t = i := by kernel_rfl) : K t s b e r i := ⟨h1, h2, h3, h4, h5, h6⟩
theorem hz {t : Nat} (h : ((Tryz.prog.info? t).bind (·.zero)).isSome = true := by kernel_rfl) : H t := h
theorem za1 : za 1 = AV.lit Value.nilFunc := by kernel_rfl
theorem kf2 : kindOf Tryz.prog 2 = some (some IntKind.i64) := by kernel_rfl
theorem sh2 : Tryz.prog.stoodInHeld 2 = false := by kernel_rfl
theorem eg2 : Tryz.prog.eqGuardType Tryz.prog.depth 2 = false := by kernel_rfl
theorem za2 : za 2 = AV.int IntKind.i64 0 := by kernel_rfl
theorem kf3 : kindOf Tryz.prog 3 = some (some IntKind.i64) := by kernel_rfl
theorem sh3 : Tryz.prog.stoodInHeld 3 = false := by kernel_rfl
theorem eg3 : Tryz.prog.eqGuardType Tryz.prog.depth 3 = false := by kernel_rfl
theorem za3 : za 3 = AV.int IntKind.i64 0 := by kernel_rfl
theorem za4 : za 4 = AV.bool false := by kernel_rfl
theorem kf5 : kindOf Tryz.prog 5 = some (some IntKind.u8) := by kernel_rfl
theorem sh5 : Tryz.prog.stoodInHeld 5 = false := by kernel_rfl
theorem eg5 : Tryz.prog.eqGuardType Tryz.prog.depth 5 = false := by kernel_rfl
theorem za5 : za 5 = AV.int IntKind.u8 0 := by kernel_rfl
theorem kf6 : kindOf Tryz.prog 6 = some (some IntKind.u8) := by kernel_rfl
theorem sh6 : Tryz.prog.stoodInHeld 6 = false := by kernel_rfl
theorem eg6 : Tryz.prog.eqGuardType Tryz.prog.depth 6 = false := by kernel_rfl
theorem za6 : za 6 = AV.int IntKind.u8 0 := by kernel_rfl
theorem sh7 : Tryz.prog.stoodInHeld 7 = false := by kernel_rfl
theorem eg7 : Tryz.prog.eqGuardType Tryz.prog.depth 7 = false := by kernel_rfl
theorem za7 : za 7 = AV.agg [AV.int IntKind.i64 0, AV.int IntKind.i64 0, AV.bool false, AV.int IntKind.u8 0] := by kernel_rfl
theorem sh8 : Tryz.prog.stoodInHeld 8 = false := by kernel_rfl
theorem eg8 : Tryz.prog.eqGuardType Tryz.prog.depth 8 = false := by kernel_rfl
theorem za8 : za 8 = AV.agg [AV.int IntKind.i64 0, AV.int IntKind.i64 0, AV.bool false, AV.int IntKind.u8 0] := by kernel_rfl
theorem kf9 : kindOf Tryz.prog 9 = some none := by kernel_rfl
theorem sh9 : Tryz.prog.stoodInHeld 9 = false := by kernel_rfl
theorem eg9 : Tryz.prog.eqGuardType Tryz.prog.depth 9 = false := by kernel_rfl
theorem za9 : za 9 = AV.str [] := by kernel_rfl
theorem kf10 : kindOf Tryz.prog 10 = some none := by kernel_rfl
theorem sh10 : Tryz.prog.stoodInHeld 10 = false := by kernel_rfl
theorem eg10 : Tryz.prog.eqGuardType Tryz.prog.depth 10 = false := by kernel_rfl
theorem za10 : za 10 = AV.str [] := by kernel_rfl
theorem kf11 : kindOf Tryz.prog 11 = some none := by kernel_rfl
theorem sh11 : Tryz.prog.stoodInHeld 11 = false := by kernel_rfl
theorem eg11 : Tryz.prog.eqGuardType Tryz.prog.depth 11 = false := by kernel_rfl
theorem za11 : za 11 = AV.str [] := by kernel_rfl
theorem kf12 : kindOf Tryz.prog 12 = some (some IntKind.u64) := by kernel_rfl
theorem sh12 : Tryz.prog.stoodInHeld 12 = false := by kernel_rfl
theorem eg12 : Tryz.prog.eqGuardType Tryz.prog.depth 12 = false := by kernel_rfl
theorem za12 : za 12 = AV.int IntKind.u64 0 := by kernel_rfl
theorem sh13 : Tryz.prog.stoodInHeld 13 = true := by kernel_rfl
theorem eg13 : Tryz.prog.eqGuardType Tryz.prog.depth 13 = false := by kernel_rfl
theorem za13 : za 13 = AV.agg [AV.str [], AV.int IntKind.u64 0] := by kernel_rfl
theorem sh14 : Tryz.prog.stoodInHeld 14 = true := by kernel_rfl
theorem eg14 : Tryz.prog.eqGuardType Tryz.prog.depth 14 = false := by kernel_rfl
theorem za14 : za 14 = AV.agg [AV.str [], AV.int IntKind.u64 0] := by kernel_rfl
theorem za15 : za 15 = AV.lit (Value.pointer none) := by kernel_rfl
theorem za16 : za 16 = AV.lit (Value.pointer none) := by kernel_rfl
theorem za17 : za 17 = AV.lit (Value.pointer none) := by kernel_rfl
theorem za18 : za 18 = AV.agg [AV.lit (Value.pointer none)] := by kernel_rfl
theorem za19 : za 19 = AV.agg [AV.lit (Value.pointer none)] := by kernel_rfl
theorem za20 : za 20 = AV.lit Value.nilIface := by kernel_rfl
theorem kf21 : kindOf Tryz.prog 21 = some (some IntKind.i32) := by kernel_rfl
theorem sh21 : Tryz.prog.stoodInHeld 21 = false := by kernel_rfl
theorem eg21 : Tryz.prog.eqGuardType Tryz.prog.depth 21 = false := by kernel_rfl
theorem za21 : za 21 = AV.int IntKind.i32 0 := by kernel_rfl
theorem za22 : za 22 = .lit (.slice none 0 0) := by kernel_rfl
theorem kf23 : kindOf Tryz.prog 23 = some (some IntKind.u32) := by kernel_rfl
theorem sh23 : Tryz.prog.stoodInHeld 23 = false := by kernel_rfl
theorem eg23 : Tryz.prog.eqGuardType Tryz.prog.depth 23 = false := by kernel_rfl
theorem za23 : za 23 = AV.int IntKind.u32 0 := by kernel_rfl
theorem za24 : za 24 = AV.lit Value.nilFunc := by kernel_rfl
theorem za25 : za 25 = AV.lit Value.nilFunc := by kernel_rfl
theorem za26 : za 26 = AV.lit Value.nilFunc := by kernel_rfl
theorem za27 : za 27 = .lit (.slice none 0 0) := by kernel_rfl
theorem kf28 : kindOf Tryz.prog 28 = some (some IntKind.i64) := by kernel_rfl
theorem sh28 : Tryz.prog.stoodInHeld 28 = false := by kernel_rfl
theorem eg28 : Tryz.prog.eqGuardType Tryz.prog.depth 28 = false := by kernel_rfl
theorem za28 : za 28 = AV.int IntKind.i64 0 := by kernel_rfl
theorem za30 : za 30 = AV.lit Value.nilFunc := by kernel_rfl
theorem za31 : za 31 = AV.lit Value.nilFunc := by kernel_rfl
theorem za32 : za 32 = AV.lit Value.nilFunc := by kernel_rfl
theorem za33 : za 33 = .lit (.slice none 0 0) := by kernel_rfl
theorem za34 : za 34 = .lit (.slice none 0 0) := by kernel_rfl
theorem sh35 : Tryz.prog.stoodInHeld 35 = false := by kernel_rfl
theorem eg35 : Tryz.prog.eqGuardType Tryz.prog.depth 35 = false := by kernel_rfl
theorem za35 : za 35 = AV.agg [AV.str [], AV.str [], AV.str []] := by kernel_rfl
theorem za36 : za 36 = AV.lit Value.nilFunc := by kernel_rfl
theorem za38 : za 38 = AV.lit Value.nilFunc := by kernel_rfl
theorem za39 : za 39 = AV.lit Value.nilFunc := by kernel_rfl
theorem za40 : za 40 = AV.lit Value.nilFunc := by kernel_rfl
theorem sh41 : Tryz.prog.stoodInHeld 41 = false := by kernel_rfl
theorem eg41 : Tryz.prog.eqGuardType Tryz.prog.depth 41 = false := by kernel_rfl
theorem za41 : za 41 = AV.agg [AV.int IntKind.i64 0, AV.bool false, AV.bool false, AV.int IntKind.i64 0, AV.int IntKind.i64 0, AV.int IntKind.i64 0, AV.int IntKind.i64 0, AV.int IntKind.i64 0] := by kernel_rfl
theorem sh42 : Tryz.prog.stoodInHeld 42 = false := by kernel_rfl
theorem eg42 : Tryz.prog.eqGuardType Tryz.prog.depth 42 = false := by kernel_rfl
theorem za42 : za 42 = AV.agg [AV.int IntKind.i64 0, AV.bool false, AV.bool false, AV.int IntKind.i64 0, AV.int IntKind.i64 0, AV.int IntKind.i64 0, AV.int IntKind.i64 0, AV.int IntKind.i64 0] := by kernel_rfl
theorem za44 : za 44 = AV.lit Value.nilFunc := by kernel_rfl
theorem za45 : za 45 = AV.lit Value.nilFunc := by kernel_rfl
theorem za46 : za 46 = AV.lit Value.nilFunc := by kernel_rfl
theorem za47 : za 47 = AV.lit Value.nilFunc := by kernel_rfl
theorem kf48 : kindOf Tryz.prog 48 = some (some IntKind.u64) := by kernel_rfl
theorem sh48 : Tryz.prog.stoodInHeld 48 = false := by kernel_rfl
theorem eg48 : Tryz.prog.eqGuardType Tryz.prog.depth 48 = false := by kernel_rfl
theorem za48 : za 48 = AV.int IntKind.u64 0 := by kernel_rfl
theorem sh49 : Tryz.prog.stoodInHeld 49 = false := by kernel_rfl
theorem eg49 : Tryz.prog.eqGuardType Tryz.prog.depth 49 = false := by kernel_rfl
theorem za49 : za 49 = AV.agg [AV.str [], AV.str []] := by kernel_rfl
theorem za50 : za 50 = AV.lit Value.nilFunc := by kernel_rfl
theorem za51 : za 51 = AV.lit Value.nilFunc := by kernel_rfl
theorem za52 : za 52 = AV.lit Value.nilFunc := by kernel_rfl
theorem za53 : za 53 = AV.lit Value.nilFunc := by kernel_rfl
theorem za54 : za 54 = AV.lit Value.nilFunc := by kernel_rfl
theorem za55 : za 55 = AV.lit Value.nilFunc := by kernel_rfl
theorem za56 : za 56 = AV.lit Value.nilFunc := by kernel_rfl
theorem za58 : za 58 = AV.lit Value.nilFunc := by kernel_rfl
theorem za59 : za 59 = AV.lit Value.nilFunc := by kernel_rfl
theorem za61 : za 61 = AV.lit Value.nilFunc := by kernel_rfl
theorem za62 : za 62 = AV.lit Value.nilFunc := by kernel_rfl
theorem za63 : za 63 = AV.lit (Value.pointer none) := by kernel_rfl
theorem sh64 : Tryz.prog.stoodInHeld 64 = false := by kernel_rfl
theorem eg64 : Tryz.prog.eqGuardType Tryz.prog.depth 64 = false := by kernel_rfl
theorem za64 : za 64 = AV.agg [AV.lit (Value.pointer none), .lit (.slice none 0 0)] := by kernel_rfl
theorem sh65 : Tryz.prog.stoodInHeld 65 = false := by kernel_rfl
theorem eg65 : Tryz.prog.eqGuardType Tryz.prog.depth 65 = false := by kernel_rfl
theorem za65 : za 65 = AV.agg [AV.lit (Value.pointer none), .lit (.slice none 0 0)] := by kernel_rfl
theorem za66 : za 66 = AV.lit Value.nilIface := by kernel_rfl
theorem za67 : za 67 = AV.lit Value.nilIface := by kernel_rfl
theorem za69 : za 69 = AV.lit Value.nilFunc := by kernel_rfl
theorem za70 : za 70 = AV.lit Value.nilFunc := by kernel_rfl
theorem za71 : za 71 = AV.lit Value.nilFunc := by kernel_rfl
theorem kf72 : kindOf Tryz.prog 72 = some (some IntKind.u64) := by kernel_rfl
theorem sh72 : Tryz.prog.stoodInHeld 72 = false := by kernel_rfl
theorem eg72 : Tryz.prog.eqGuardType Tryz.prog.depth 72 = false := by kernel_rfl
theorem za72 : za 72 = AV.int IntKind.u64 0 := by kernel_rfl
theorem za73 : za 73 = AV.lit Value.nilFunc := by kernel_rfl
theorem za75 : za 75 = AV.lit Value.nilFunc := by kernel_rfl
theorem sh76 : Tryz.prog.stoodInHeld 76 = false := by kernel_rfl
theorem eg76 : Tryz.prog.eqGuardType Tryz.prog.depth 76 = false := by kernel_rfl
theorem za76 : za 76 = AV.agg [AV.int IntKind.u8 0, AV.int IntKind.u8 0, AV.int IntKind.u8 0, AV.int IntKind.u8 0, AV.int IntKind.u8 0, AV.int IntKind.u8 0, AV.int IntKind.u8 0, AV.int IntKind.u8 0] := by kernel_rfl
theorem sh77 : Tryz.prog.stoodInHeld 77 = false := by kernel_rfl
theorem eg77 : Tryz.prog.eqGuardType Tryz.prog.depth 77 = false := by kernel_rfl
theorem za77 : za 77 = AV.agg [AV.str [], AV.str [], AV.str [], AV.str [], AV.str [], AV.str [], AV.str [], AV.str [], AV.str [], AV.str [], AV.str [], AV.str [], AV.str [], AV.str [], AV.str [], AV.str []] := by kernel_rfl
theorem za78 : za 78 = AV.lit Value.nilFunc := by kernel_rfl
theorem za79 : za 79 = AV.lit Value.nilFunc := by kernel_rfl
theorem za80 : za 80 = AV.lit Value.nilFunc := by kernel_rfl
theorem za81 : za 81 = AV.lit Value.nilFunc := by kernel_rfl
theorem za82 : za 82 = AV.lit Value.nilFunc := by kernel_rfl
theorem za83 : za 83 = AV.lit Value.nilFunc := by kernel_rfl
theorem za84 : za 84 = AV.lit Value.nilFunc := by kernel_rfl
theorem sh85 : Tryz.prog.stoodInHeld 85 = false := by kernel_rfl
theorem eg85 : Tryz.prog.eqGuardType Tryz.prog.depth 85 = false := by kernel_rfl
theorem sh86 : Tryz.prog.stoodInHeld 86 = false := by kernel_rfl
theorem eg86 : Tryz.prog.eqGuardType Tryz.prog.depth 86 = false := by kernel_rfl
theorem za88 : za 88 = AV.lit Value.nilFunc := by kernel_rfl
theorem za89 : za 89 = AV.lit Value.nilFunc := by kernel_rfl
theorem za90 : za 90 = AV.lit (Value.pointer none) := by kernel_rfl
theorem za92 : za 92 = AV.lit Value.nilFunc := by kernel_rfl
theorem za93 : za 93 = AV.lit (Value.map none) := by kernel_rfl
theorem za94 : za 94 = AV.lit Value.nilFunc := by kernel_rfl
theorem za95 : za 95 = AV.lit Value.nilFunc := by kernel_rfl
theorem za96 : za 96 = AV.lit Value.nilFunc := by kernel_rfl
theorem za98 : za 98 = AV.lit Value.nilFunc := by kernel_rfl
theorem za99 : za 99 = AV.lit Value.nilFunc := by kernel_rfl
theorem za100 : za 100 = AV.lit Value.nilFunc := by kernel_rfl
theorem za101 : za 101 = .lit (.slice none 0 0) := by kernel_rfl
theorem za102 : za 102 = AV.lit Value.nilFunc := by kernel_rfl
theorem sh103 : Tryz.prog.stoodInHeld 103 = false := by kernel_rfl
theorem eg103 : Tryz.prog.eqGuardType Tryz.prog.depth 103 = false := by kernel_rfl
theorem za103 : za 103 = AV.agg [AV.str [], AV.int IntKind.i64 0, AV.bool false, AV.bool false, AV.int IntKind.i64 0, AV.int IntKind.i64 0, AV.int IntKind.i64 0, AV.int IntKind.i64 0, AV.int IntKind.i64 0, AV.int IntKind.i64 0, AV.bool false] := by kernel_rfl
theorem sh104 : Tryz.prog.stoodInHeld 104 = false := by kernel_rfl
theorem eg104 : Tryz.prog.eqGuardType Tryz.prog.depth 104 = false := by kernel_rfl
theorem za104 : za 104 = AV.agg [AV.str [], AV.int IntKind.i64 0, AV.bool false, AV.bool false, AV.int IntKind.i64 0, AV.int IntKind.i64 0, AV.int IntKind.i64 0, AV.int IntKind.i64 0, AV.int IntKind.i64 0, AV.int IntKind.i64 0, AV.bool false] := by kernel_rfl
theorem za105 : za 105 = AV.lit Value.nilFunc := by kernel_rfl
theorem za106 : za 106 = AV.lit (Value.pointer none) := by kernel_rfl
theorem za107 : za 107 = AV.lit Value.nilFunc := by kernel_rfl
theorem sh108 : Tryz.prog.stoodInHeld 108 = false := by kernel_rfl
theorem eg108 : Tryz.prog.eqGuardType Tryz.prog.depth 108 = false := by kernel_rfl
theorem za108 : za 108 = AV.agg [AV.int IntKind.u8 0, AV.int IntKind.u8 0, AV.int IntKind.u8 0, AV.int IntKind.u8 0, AV.int IntKind.u8 0, AV.int IntKind.u8 0, AV.int IntKind.u8 0, AV.int IntKind.u8 0, AV.int IntKind.u8 0, AV.int IntKind.u8 0, AV.int IntKind.u8 0, AV.int IntKind.u8 0, AV.int IntKind.u8 0, AV.int IntKind.u8 0, AV.int IntKind.u8 0, AV.int IntKind.u8 0, AV.int IntKind.u8 0, AV.int IntKind.u8 0, AV.int IntKind.u8 0, AV.int IntKind.u8 0, AV.int IntKind.u8 0, AV.int IntKind.u8 0, AV.int IntKind.u8 0, AV.int IntKind.u8 0] := by kernel_rfl
theorem za109 : za 109 = AV.lit Value.nilFunc := by kernel_rfl
theorem za110 : za 110 = AV.lit Value.nilFunc := by kernel_rfl
theorem za112 : za 112 = AV.lit Value.nilFunc := by kernel_rfl
theorem za113 : za 113 = AV.lit Value.nilFunc := by kernel_rfl
theorem za114 : za 114 = AV.lit Value.nilFunc := by kernel_rfl
theorem za115 : za 115 = AV.lit Value.nilFunc := by kernel_rfl
theorem za116 : za 116 = AV.lit Value.nilFunc := by kernel_rfl
theorem za117 : za 117 = AV.lit Value.nilFunc := by kernel_rfl
theorem za119 : za 119 = AV.lit Value.nilFunc := by kernel_rfl
theorem za120 : za 120 = AV.lit Value.nilFunc := by kernel_rfl
theorem za122 : za 122 = AV.lit Value.nilFunc := by kernel_rfl
theorem za124 : za 124 = AV.lit Value.nilFunc := by kernel_rfl
theorem za125 : za 125 = .lit (.slice none 0 0) := by kernel_rfl
theorem za126 : za 126 = AV.lit (Value.pointer none) := by kernel_rfl
theorem za127 : za 127 = AV.lit Value.nilFunc := by kernel_rfl
theorem za128 : za 128 = AV.lit (Value.pointer none) := by kernel_rfl
theorem za129 : za 129 = AV.lit Value.nilFunc := by kernel_rfl
theorem za130 : za 130 = AV.lit Value.nilFunc := by kernel_rfl
theorem za131 : za 131 = AV.lit Value.nilFunc := by kernel_rfl
theorem sh132 : Tryz.prog.stoodInHeld 132 = false := by kernel_rfl
theorem eg132 : Tryz.prog.eqGuardType Tryz.prog.depth 132 = false := by kernel_rfl
theorem za132 : za 132 = AV.agg [AV.int IntKind.u64 0, AV.int IntKind.u64 0, AV.int IntKind.u64 0, AV.int IntKind.u64 0, AV.int IntKind.u64 0, AV.int IntKind.u64 0, AV.int IntKind.u64 0, AV.int IntKind.u64 0, AV.int IntKind.u64 0, AV.int IntKind.u64 0, AV.int IntKind.u64 0, AV.int IntKind.u64 0, AV.int IntKind.u64 0, AV.int IntKind.u64 0, AV.int IntKind.u64 0, AV.int IntKind.u64 0, AV.int IntKind.u64 0, AV.int IntKind.u64 0, AV.int IntKind.u64 0, AV.int IntKind.u64 0] := by kernel_rfl
theorem sh133 : Tryz.prog.stoodInHeld 133 = false := by kernel_rfl
theorem eg133 : Tryz.prog.eqGuardType Tryz.prog.depth 133 = false := by kernel_rfl
theorem za134 : za 134 = AV.lit Value.nilFunc := by kernel_rfl
theorem za135 : za 135 = AV.lit Value.nilFunc := by kernel_rfl
theorem za136 : za 136 = AV.lit Value.nilFunc := by kernel_rfl
theorem za137 : za 137 = AV.lit Value.nilFunc := by kernel_rfl
theorem za138 : za 138 = AV.lit Value.nilFunc := by kernel_rfl
theorem za139 : za 139 = AV.lit Value.nilFunc := by kernel_rfl
theorem za141 : za 141 = AV.lit Value.nilFunc := by kernel_rfl
theorem sh142 : Tryz.prog.stoodInHeld 142 = false := by kernel_rfl
theorem eg142 : Tryz.prog.eqGuardType Tryz.prog.depth 142 = false := by kernel_rfl
theorem za142 : za 142 = AV.agg [AV.int IntKind.i64 0, AV.int IntKind.i64 0, AV.int IntKind.i64 0, AV.int IntKind.i64 0, AV.int IntKind.i64 0, AV.int IntKind.i64 0, AV.int IntKind.i64 0, AV.int IntKind.i64 0, AV.int IntKind.i64 0, AV.int IntKind.i64 0, AV.int IntKind.i64 0, AV.int IntKind.i64 0, AV.int IntKind.i64 0, AV.int IntKind.i64 0, AV.int IntKind.i64 0, AV.int IntKind.i64 0] := by kernel_rfl
theorem za143 : za 143 = AV.lit Value.nilFunc := by kernel_rfl
theorem za145 : za 145 = AV.lit Value.nilFunc := by kernel_rfl
theorem sh146 : Tryz.prog.stoodInHeld 146 = false := by kernel_rfl
theorem eg146 : Tryz.prog.eqGuardType Tryz.prog.depth 146 = false := by kernel_rfl
theorem sh147 : Tryz.prog.stoodInHeld 147 = false := by kernel_rfl
theorem eg147 : Tryz.prog.eqGuardType Tryz.prog.depth 147 = false := by kernel_rfl
theorem za147 : za 147 = AV.agg [AV.int IntKind.u8 0, AV.int IntKind.u8 0] := by kernel_rfl
theorem sh148 : Tryz.prog.stoodInHeld 148 = false := by kernel_rfl
theorem eg148 : Tryz.prog.eqGuardType Tryz.prog.depth 148 = false := by kernel_rfl
theorem za148 : za 148 = AV.agg [AV.int IntKind.u8 0, AV.int IntKind.u8 0] := by kernel_rfl
theorem sh149 : Tryz.prog.stoodInHeld 149 = false := by kernel_rfl
theorem eg149 : Tryz.prog.eqGuardType Tryz.prog.depth 149 = false := by kernel_rfl
theorem za149 : za 149 = AV.agg [AV.int IntKind.u8 0, AV.int IntKind.u8 0, AV.int IntKind.u8 0, AV.int IntKind.u8 0, AV.int IntKind.u8 0, AV.int IntKind.u8 0, AV.int IntKind.u8 0, AV.int IntKind.u8 0, AV.int IntKind.u8 0, AV.int IntKind.u8 0, AV.int IntKind.u8 0, AV.int IntKind.u8 0, AV.int IntKind.u8 0, AV.int IntKind.u8 0, AV.int IntKind.u8 0, AV.int IntKind.u8 0, AV.int IntKind.u8 0, AV.int IntKind.u8 0, AV.int IntKind.u8 0, AV.int IntKind.u8 0, AV.int IntKind.u8 0, AV.int IntKind.u8 0, AV.int IntKind.u8 0, AV.int IntKind.u8 0, AV.int IntKind.u8 0, AV.int IntKind.u8 0, AV.int IntKind.u8 0, AV.int IntKind.u8 0, AV.int IntKind.u8 0, AV.int IntKind.u8 0, AV.int IntKind.u8 0, AV.int IntKind.u8 0] := by kernel_rfl
theorem za150 : za 150 = AV.lit Value.nilFunc := by kernel_rfl
theorem za151 : za 151 = AV.lit Value.nilFunc := by kernel_rfl
theorem za152 : za 152 = AV.lit Value.nilFunc := by kernel_rfl
theorem sh153 : Tryz.prog.stoodInHeld 153 = false := by kernel_rfl
theorem eg153 : Tryz.prog.eqGuardType Tryz.prog.depth 153 = false := by kernel_rfl
theorem za153 : za 153 = AV.agg [AV.int IntKind.u8 0, AV.int IntKind.u8 0, AV.int IntKind.u8 0, AV.int IntKind.u8 0, AV.int IntKind.u8 0, AV.int IntKind.u8 0, AV.int IntKind.u8 0, AV.int IntKind.u8 0, AV.int IntKind.u8 0, AV.int IntKind.u8 0, AV.int IntKind.u8 0, AV.int IntKind.u8 0, AV.int IntKind.u8 0, AV.int IntKind.u8 0, AV.int IntKind.u8 0, AV.int IntKind.u8 0, AV.int IntKind.u8 0, AV.int IntKind.u8 0, AV.int IntKind.u8 0, AV.int IntKind.u8 0, AV.int IntKind.u8 0, AV.int IntKind.u8 0, AV.int IntKind.u8 0, AV.int IntKind.u8 0, AV.int IntKind.u8 0, AV.int IntKind.u8 0, AV.int IntKind.u8 0, AV.int IntKind.u8 0, AV.int IntKind.u8 0, AV.int IntKind.u8 0, AV.int IntKind.u8 0, AV.int IntKind.u8 0] := by kernel_rfl
theorem sh154 : Tryz.prog.stoodInHeld 154 = false := by kernel_rfl
theorem eg154 : Tryz.prog.eqGuardType Tryz.prog.depth 154 = false := by kernel_rfl
theorem kf155 : kindOf Tryz.prog 155 = some (some IntKind.i64) := by kernel_rfl
theorem sh155 : Tryz.prog.stoodInHeld 155 = false := by kernel_rfl
theorem eg155 : Tryz.prog.eqGuardType Tryz.prog.depth 155 = false := by kernel_rfl
theorem za155 : za 155 = AV.int IntKind.i64 0 := by kernel_rfl
theorem za157 : za 157 = AV.lit Value.nilFunc := by kernel_rfl
theorem za158 : za 158 = AV.lit (Value.pointer none) := by kernel_rfl
theorem za159 : za 159 = AV.lit Value.nilFunc := by kernel_rfl
theorem za160 : za 160 = AV.lit Value.nilFunc := by kernel_rfl
theorem za161 : za 161 = AV.lit Value.nilFunc := by kernel_rfl
theorem sh162 : Tryz.prog.stoodInHeld 162 = false := by kernel_rfl
theorem eg162 : Tryz.prog.eqGuardType Tryz.prog.depth 162 = true := by kernel_rfl
theorem za162 : za 162 = AV.agg [AV.str [], AV.str [], AV.lit Value.nilIface] := by kernel_rfl
theorem sh163 : Tryz.prog.stoodInHeld 163 = false := by kernel_rfl
theorem eg163 : Tryz.prog.eqGuardType Tryz.prog.depth 163 = true := by kernel_rfl
theorem za163 : za 163 = AV.agg [AV.str [], AV.str [], AV.lit Value.nilIface] := by kernel_rfl
theorem za164 : za 164 = AV.lit Value.nilFunc := by kernel_rfl
theorem za165 : za 165 = AV.lit (Value.pointer none) := by kernel_rfl
theorem za166 : za 166 = AV.agg [AV.str []] := by kernel_rfl
theorem za167 : za 167 = AV.agg [AV.str []] := by kernel_rfl
theorem sh168 : Tryz.prog.stoodInHeld 168 = true := by kernel_rfl
theorem eg168 : Tryz.prog.eqGuardType Tryz.prog.depth 168 = false := by kernel_rfl
theorem za168 : za 168 = AV.agg [AV.lit (Value.pointer none), AV.lit (Value.pointer none), AV.lit (Value.pointer none), AV.str []] := by kernel_rfl
theorem sh169 : Tryz.prog.stoodInHeld 169 = true := by kernel_rfl
theorem eg169 : Tryz.prog.eqGuardType Tryz.prog.depth 169 = false := by kernel_rfl
theorem za169 : za 169 = AV.agg [AV.lit (Value.pointer none), AV.lit (Value.pointer none), AV.lit (Value.pointer none), AV.str []] := by kernel_rfl
theorem za170 : za 170 = AV.agg [] := by kernel_rfl
theorem za171 : za 171 = AV.agg [] := by kernel_rfl
theorem za172 : za 172 = AV.agg [] := by kernel_rfl
theorem kf173 : kindOf Tryz.prog 173 = some (some IntKind.u8) := by kernel_rfl
theorem sh173 : Tryz.prog.stoodInHeld 173 = false := by kernel_rfl
theorem eg173 : Tryz.prog.eqGuardType Tryz.prog.depth 173 = false := by kernel_rfl
theorem za173 : za 173 = AV.int IntKind.u8 0 := by kernel_rfl
theorem kf174 : kindOf Tryz.prog 174 = some (some IntKind.u8) := by kernel_rfl
theorem sh174 : Tryz.prog.stoodInHeld 174 = false := by kernel_rfl
theorem eg174 : Tryz.prog.eqGuardType Tryz.prog.depth 174 = false := by kernel_rfl
theorem za174 : za 174 = AV.int IntKind.u8 0 := by kernel_rfl
theorem za175 : za 175 = AV.lit Value.nilFunc := by kernel_rfl
theorem kf176 : kindOf Tryz.prog 176 = some (some IntKind.i32) := by kernel_rfl
theorem sh176 : Tryz.prog.stoodInHeld 176 = false := by kernel_rfl
theorem eg176 : Tryz.prog.eqGuardType Tryz.prog.depth 176 = false := by kernel_rfl
theorem za176 : za 176 = AV.int IntKind.i32 0 := by kernel_rfl
theorem kf177 : kindOf Tryz.prog 177 = some (some IntKind.i32) := by kernel_rfl
theorem sh177 : Tryz.prog.stoodInHeld 177 = false := by kernel_rfl
theorem eg177 : Tryz.prog.eqGuardType Tryz.prog.depth 177 = false := by kernel_rfl
theorem za177 : za 177 = AV.int IntKind.i32 0 := by kernel_rfl
theorem sh178 : Tryz.prog.stoodInHeld 178 = true := by kernel_rfl
theorem eg178 : Tryz.prog.eqGuardType Tryz.prog.depth 178 = false := by kernel_rfl
theorem za178 : za 178 = AV.agg [AV.int IntKind.u64 0, AV.int IntKind.u64 0, AV.int IntKind.u32 0, AV.int IntKind.u8 0, AV.int IntKind.u8 0, AV.int IntKind.u8 0, AV.int IntKind.u8 0, AV.lit Value.nilFunc, AV.lit (Value.pointer none), AV.int IntKind.i32 0, AV.int IntKind.i32 0] := by kernel_rfl
theorem sh179 : Tryz.prog.stoodInHeld 179 = true := by kernel_rfl
theorem eg179 : Tryz.prog.eqGuardType Tryz.prog.depth 179 = false := by kernel_rfl
theorem za179 : za 179 = AV.agg [AV.int IntKind.u64 0, AV.int IntKind.u64 0, AV.int IntKind.u32 0, AV.int IntKind.u8 0, AV.int IntKind.u8 0, AV.int IntKind.u8 0, AV.int IntKind.u8 0, AV.lit Value.nilFunc, AV.lit (Value.pointer none), AV.int IntKind.i32 0, AV.int IntKind.i32 0] := by kernel_rfl
theorem k0 : K 0 1 0 false true false := mk
theorem h0 : H 0 := hz
theorem k1 : K 1 1 8 true true false := mk
theorem h1 : H 1 := hz
theorem k2 : K 2 1 8 true false false := mk
theorem h2 : H 2 := hz
theorem k3 : K 3 1 8 true false false := mk
theorem h3 : H 3 := hz
theorem k4 : K 4 1 1 true true false := mk
theorem h4 : H 4 := hz
theorem k5 : K 5 1 1 true false false := mk
theorem h5 : H 5 := hz
theorem k6 : K 6 1 1 true false false := mk
theorem h6 : H 6 := hz
theorem k7 : K 7 4 24 true true false := mk
theorem h7 : H 7 := hz
theorem k8 : K 8 4 24 true true false := mk
theorem h8 : H 8 := hz
theorem k9 : K 9 1 16 true true false := mk
theorem h9 : H 9 := hz
theorem k10 : K 10 1 16 true true false := mk
theorem h10 : H 10 := hz
theorem k11 : K 11 1 16 true true false := mk
theorem h11 : H 11 := hz
theorem k12 : K 12 1 8 true false false := mk
theorem h12 : H 12 := hz
theorem k13 : K 13 2 24 true true false := mk
theorem h13 : H 13 := hz
theorem k14 : K 14 2 24 true true false := mk
theorem h14 : H 14 := hz
theorem k15 : K 15 1 8 true true false := mk
theorem h15 : H 15 := hz
theorem k16 : K 16 1 8 true true false := mk
theorem h16 : H 16 := hz
theorem k17 : K 17 1 8 true true false := mk
theorem h17 : H 17 := hz
theorem k18 : K 18 1 8 true true false := mk
theorem h18 : H 18 := hz
theorem k19 : K 19 1 8 true true false := mk
theorem h19 : H 19 := hz
theorem k20 : K 20 1 16 true true true := mk
theorem h20 : H 20 := hz
theorem k21 : K 21 1 4 true false false := mk
theorem h21 : H 21 := hz
theorem k22 : K 22 1 24 true true false := mk
theorem h22 : H 22 := hz
theorem k23 : K 23 1 4 true false false := mk
theorem h23 : H 23 := hz
theorem k24 : K 24 1 8 true true false := mk
theorem h24 : H 24 := hz
theorem k25 : K 25 1 8 true true false := mk
theorem h25 : H 25 := hz
theorem k26 : K 26 1 8 true true false := mk
theorem h26 : H 26 := hz
theorem k27 : K 27 1 24 true true false := mk
theorem h27 : H 27 := hz
theorem k28 : K 28 1 8 true false false := mk
theorem h28 : H 28 := hz
theorem k29 : K 29 1 0 false true false := mk
theorem h29 : H 29 := hz
theorem k30 : K 30 1 8 true true false := mk
theorem h30 : H 30 := hz
theorem k31 : K 31 1 8 true true false := mk
theorem h31 : H 31 := hz
theorem k32 : K 32 1 8 true true false := mk
theorem h32 : H 32 := hz
theorem k33 : K 33 1 24 true true false := mk
theorem h33 : H 33 := hz
theorem k34 : K 34 1 24 true true false := mk
theorem h34 : H 34 := hz
theorem k35 : K 35 3 48 true true false := mk
theorem h35 : H 35 := hz
theorem k36 : K 36 1 8 true true false := mk
theorem h36 : H 36 := hz
theorem k37 : K 37 1 0 false true false := mk
theorem h37 : H 37 := hz
theorem k38 : K 38 1 8 true true false := mk
theorem h38 : H 38 := hz
theorem k39 : K 39 1 8 true true false := mk
theorem h39 : H 39 := hz
theorem k40 : K 40 1 8 true true false := mk
theorem h40 : H 40 := hz
theorem k41 : K 41 8 56 true true false := mk
theorem h41 : H 41 := hz
theorem k42 : K 42 8 56 true true false := mk
theorem h42 : H 42 := hz
theorem k43 : K 43 1 0 false true false := mk
theorem h43 : H 43 := hz
theorem k44 : K 44 1 8 true true false := mk
theorem h44 : H 44 := hz
theorem k45 : K 45 1 8 true true false := mk
theorem h45 : H 45 := hz
theorem k46 : K 46 1 8 true true false := mk
theorem h46 : H 46 := hz
theorem k47 : K 47 1 8 true true false := mk
theorem h47 : H 47 := hz
theorem k48 : K 48 1 8 true false false := mk
theorem h48 : H 48 := hz
theorem k49 : K 49 2 32 true true false := mk
theorem h49 : H 49 := hz
theorem k50 : K 50 1 8 true true false := mk
theorem h50 : H 50 := hz
theorem k51 : K 51 1 8 true true false := mk
theorem h51 : H 51 := hz
theorem k52 : K 52 1 8 true true false := mk
theorem h52 : H 52 := hz
theorem k53 : K 53 1 8 true true false := mk
theorem h53 : H 53 := hz
theorem k54 : K 54 1 8 true true false := mk
theorem h54 : H 54 := hz
theorem k55 : K 55 1 8 true true false := mk
theorem h55 : H 55 := hz
theorem k56 : K 56 1 8 true true false := mk
theorem h56 : H 56 := hz
theorem k57 : K 57 1 0 false true false := mk
theorem h57 : H 57 := hz
theorem k58 : K 58 1 8 true true false := mk
theorem h58 : H 58 := hz
theorem k59 : K 59 1 8 true true false := mk
theorem h59 : H 59 := hz
theorem k60 : K 60 1 0 false true false := mk
theorem h60 : H 60 := hz
theorem k61 : K 61 1 8 true true false := mk
theorem h61 : H 61 := hz
theorem k62 : K 62 1 8 true true false := mk
theorem h62 : H 62 := hz
theorem k63 : K 63 1 8 true true false := mk
theorem h63 : H 63 := hz
theorem k64 : K 64 2 32 true true false := mk
theorem h64 : H 64 := hz
theorem k65 : K 65 2 32 true true false := mk
theorem h65 : H 65 := hz
theorem k66 : K 66 1 16 true true true := mk
theorem h66 : H 66 := hz
theorem k67 : K 67 1 16 true true true := mk
theorem h67 : H 67 := hz
theorem k68 : K 68 1 0 false true false := mk
theorem h68 : H 68 := hz
theorem k69 : K 69 1 8 true true false := mk
theorem h69 : H 69 := hz
theorem k70 : K 70 1 8 true true false := mk
theorem h70 : H 70 := hz
theorem k71 : K 71 1 8 true true false := mk
theorem h71 : H 71 := hz
theorem k72 : K 72 1 8 true false false := mk
theorem h72 : H 72 := hz
theorem k73 : K 73 1 8 true true false := mk
theorem h73 : H 73 := hz
theorem k74 : K 74 1 0 false true false := mk
theorem h74 : H 74 := hz
theorem k75 : K 75 1 8 true true false := mk
theorem h75 : H 75 := hz
theorem k76 : K 76 8 8 true true false := mk
theorem h76 : H 76 := hz
theorem k77 : K 77 16 256 true true false := mk
theorem h77 : H 77 := hz
theorem k78 : K 78 1 8 true true false := mk
theorem h78 : H 78 := hz
theorem k79 : K 79 1 8 true true false := mk
theorem h79 : H 79 := hz
theorem k80 : K 80 1 8 true true false := mk
theorem h80 : H 80 := hz
theorem k81 : K 81 1 8 true true false := mk
theorem h81 : H 81 := hz
theorem k82 : K 82 1 8 true true false := mk
theorem h82 : H 82 := hz
theorem k83 : K 83 1 8 true true false := mk
theorem h83 : H 83 := hz
theorem k84 : K 84 1 8 true true false := mk
theorem h84 : H 84 := hz
theorem k85 : K 85 256 256 true true false := mk
theorem k86 : K 86 256 256 true true false := mk
theorem k87 : K 87 1 0 false true false := mk
theorem h87 : H 87 := hz
theorem k88 : K 88 1 8 true true false := mk
theorem h88 : H 88 := hz
theorem k89 : K 89 1 8 true true false := mk
theorem h89 : H 89 := hz
theorem k90 : K 90 1 8 true true false := mk
theorem h90 : H 90 := hz
theorem k91 : K 91 1 0 false true false := mk
theorem h91 : H 91 := hz
theorem k92 : K 92 1 8 true true false := mk
theorem h92 : H 92 := hz
theorem k93 : K 93 1 8 true true false := mk
theorem h93 : H 93 := hz
theorem k94 : K 94 1 8 true true false := mk
theorem h94 : H 94 := hz
theorem k95 : K 95 1 8 true true false := mk
theorem h95 : H 95 := hz
theorem k96 : K 96 1 8 true true false := mk
theorem h96 : H 96 := hz
theorem k97 : K 97 1 0 false true false := mk
theorem h97 : H 97 := hz
theorem k98 : K 98 1 8 true true false := mk
theorem h98 : H 98 := hz
theorem k99 : K 99 1 8 true true false := mk
theorem h99 : H 99 := hz
theorem k100 : K 100 1 8 true true false := mk
theorem h100 : H 100 := hz
theorem k101 : K 101 1 24 true true false := mk
theorem h101 : H 101 := hz
theorem k102 : K 102 1 8 true true false := mk
theorem h102 : H 102 := hz
theorem k103 : K 103 11 88 true true false := mk
theorem h103 : H 103 := hz
theorem k104 : K 104 11 88 true true false := mk
theorem h104 : H 104 := hz
theorem k105 : K 105 1 8 true true false := mk
theorem h105 : H 105 := hz
theorem k106 : K 106 1 8 true true false := mk
theorem h106 : H 106 := hz
theorem k107 : K 107 1 8 true true false := mk
theorem h107 : H 107 := hz
theorem k108 : K 108 24 24 true true false := mk
theorem h108 : H 108 := hz
theorem k109 : K 109 1 8 true true false := mk
theorem h109 : H 109 := hz
theorem k110 : K 110 1 8 true true false := mk
theorem h110 : H 110 := hz
theorem k111 : K 111 1 0 false true false := mk
theorem h111 : H 111 := hz
theorem k112 : K 112 1 8 true true false := mk
theorem h112 : H 112 := hz
theorem k113 : K 113 1 8 true true false := mk
theorem h113 : H 113 := hz
theorem k114 : K 114 1 8 true true false := mk
theorem h114 : H 114 := hz
theorem k115 : K 115 1 8 true true false := mk
theorem h115 : H 115 := hz
theorem k116 : K 116 1 8 true true false := mk
theorem h116 : H 116 := hz
theorem k117 : K 117 1 8 true true false := mk
theorem h117 : H 117 := hz
theorem k118 : K 118 1 0 false true false := mk
theorem h118 : H 118 := hz
theorem k119 : K 119 1 8 true true false := mk
theorem h119 : H 119 := hz
theorem k120 : K 120 1 8 true true false := mk
theorem h120 : H 120 := hz
theorem k121 : K 121 1 0 false true false := mk
theorem h121 : H 121 := hz
theorem k122 : K 122 1 8 true true false := mk
theorem h122 : H 122 := hz
theorem k123 : K 123 1 0 false true false := mk
theorem h123 : H 123 := hz
theorem k124 : K 124 1 8 true true false := mk
theorem h124 : H 124 := hz
theorem k125 : K 125 1 24 true true false := mk
theorem h125 : H 125 := hz
theorem k126 : K 126 1 8 true true false := mk
theorem h126 : H 126 := hz
theorem k127 : K 127 1 8 true true false := mk
theorem h127 : H 127 := hz
theorem k128 : K 128 1 8 true true false := mk
theorem h128 : H 128 := hz
theorem k129 : K 129 1 8 true true false := mk
theorem h129 : H 129 := hz
theorem k130 : K 130 1 8 true true false := mk
theorem h130 : H 130 := hz
theorem k131 : K 131 1 8 true true false := mk
theorem h131 : H 131 := hz
theorem k132 : K 132 20 160 true true false := mk
theorem h132 : H 132 := hz
theorem k133 : K 133 65 65 true true false := mk
theorem k134 : K 134 1 8 true true false := mk
theorem h134 : H 134 := hz
theorem k135 : K 135 1 8 true true false := mk
theorem h135 : H 135 := hz
theorem k136 : K 136 1 8 true true false := mk
theorem h136 : H 136 := hz
theorem k137 : K 137 1 8 true true false := mk
theorem h137 : H 137 := hz
theorem k138 : K 138 1 8 true true false := mk
theorem h138 : H 138 := hz
theorem k139 : K 139 1 8 true true false := mk
theorem h139 : H 139 := hz
theorem k140 : K 140 1 0 false true false := mk
theorem h140 : H 140 := hz
theorem k141 : K 141 1 8 true true false := mk
theorem h141 : H 141 := hz
theorem k142 : K 142 16 128 true true false := mk
theorem h142 : H 142 := hz
theorem k143 : K 143 1 8 true true false := mk
theorem h143 : H 143 := hz
theorem k144 : K 144 1 0 false true false := mk
theorem h144 : H 144 := hz
theorem k145 : K 145 1 8 true true false := mk
theorem h145 : H 145 := hz
theorem k146 : K 146 256 256 true true false := mk
theorem k147 : K 147 2 2 true true false := mk
theorem h147 : H 147 := hz
theorem k148 : K 148 2 2 true true false := mk
theorem h148 : H 148 := hz
theorem k149 : K 149 32 32 true true false := mk
theorem h149 : H 149 := hz
theorem k150 : K 150 1 8 true true false := mk
theorem h150 : H 150 := hz
theorem k151 : K 151 1 8 true true false := mk
theorem h151 : H 151 := hz
theorem k152 : K 152 1 8 true true false := mk
theorem h152 : H 152 := hz
theorem k153 : K 153 32 32 true true false := mk
theorem h153 : H 153 := hz
theorem k154 : K 154 64 64 true true false := mk
theorem k155 : K 155 1 8 true false false := mk
theorem h155 : H 155 := hz
theorem k156 : K 156 1 0 false true false := mk
theorem h156 : H 156 := hz
theorem k157 : K 157 1 8 true true false := mk
theorem h157 : H 157 := hz
theorem k158 : K 158 1 8 true true false := mk
theorem h158 : H 158 := hz
theorem k159 : K 159 1 8 true true false := mk
theorem h159 : H 159 := hz
theorem k160 : K 160 1 8 true true false := mk
theorem h160 : H 160 := hz
theorem k161 : K 161 1 8 true true false := mk
theorem h161 : H 161 := hz
theorem k162 : K 162 3 48 true true false := mk
theorem h162 : H 162 := hz
theorem k163 : K 163 3 48 true true false := mk
theorem h163 : H 163 := hz
theorem k164 : K 164 1 8 true true false := mk
theorem h164 : H 164 := hz
theorem k165 : K 165 1 8 true true false := mk
theorem h165 : H 165 := hz
theorem k166 : K 166 1 16 true true false := mk
theorem h166 : H 166 := hz
theorem k167 : K 167 1 16 true true false := mk
theorem h167 : H 167 := hz
theorem k168 : K 168 4 40 true true false := mk
theorem h168 : H 168 := hz
theorem k169 : K 169 4 40 true true false := mk
theorem h169 : H 169 := hz
theorem k170 : K 170 0 0 false true false := mk
theorem h170 : H 170 := hz
theorem k171 : K 171 0 0 false true false := mk
theorem h171 : H 171 := hz
theorem k172 : K 172 0 0 false true false := mk
theorem h172 : H 172 := hz
theorem k173 : K 173 1 1 true false false := mk
theorem h173 : H 173 := hz
theorem k174 : K 174 1 1 true false false := mk
theorem h174 : H 174 := hz
theorem k175 : K 175 1 8 true true false := mk
theorem h175 : H 175 := hz
theorem k176 : K 176 1 4 true false false := mk
theorem h176 : H 176 := hz
theorem k177 : K 177 1 4 true false false := mk
theorem h177 : H 177 := hz
theorem k178 : K 178 11 48 true true false := mk
theorem h178 : H 178 := hz
theorem k179 : K 179 11 48 true true false := mk
theorem h179 : H 179 := hz
attribute [push_cast] za1 kf2 sh2 eg2 za2 kf3 sh3 eg3 za3 za4 kf5 sh5 eg5 za5 kf6 sh6 eg6 za6 sh7 eg7 za7 sh8 eg8 za8 kf9 sh9 eg9 za9 kf10 sh10 eg10 za10 kf11 sh11 eg11 za11 kf12 sh12 eg12 za12 sh13 eg13 za13 sh14 eg14 za14 za15 za16 za17 za18 za19 za20 kf21 sh21 eg21 za21 za22 kf23 sh23 eg23 za23 za24 za25 za26 za27 kf28 sh28 eg28 za28 za30 za31 za32 za33 za34 sh35 eg35 za35 za36 za38 za39 za40 sh41 eg41 za41 sh42 eg42 za42 za44 za45 za46 za47 kf48 sh48 eg48 za48 sh49 eg49 za49 za50 za51 za52 za53 za54 za55 za56 za58 za59 za61 za62 za63 sh64 eg64 za64 sh65 eg65 za65 za66 za67 za69 za70 za71 kf72 sh72 eg72 za72 za73 za75 sh76 eg76 za76 sh77 eg77 za77 za78 za79 za80 za81 za82 za83 za84 sh85 eg85 sh86 eg86 za88 za89 za90 za92 za93 za94 za95 za96 za98 za99 za100 za101 za102 sh103 eg103 za103 sh104 eg104 za104 za105 za106 za107 sh108 eg108 za108 za109 za110 za112 za113 za114 za115 za116 za117 za119 za120 za122 za124 za125 za126 za127 za128 za129 za130 za131 sh132 eg132 za132 sh133 eg133 za134 za135 za136 za137 za138 za139 za141 sh142 eg142 za142 za143 za145 sh146 eg146 sh147 eg147 za147 sh148 eg148 za148 sh149 eg149 za149 za150 za151 za152 sh153 eg153 za153 sh154 eg154 kf155 sh155 eg155 za155 za157 za158 za159 za160 za161 sh162 eg162 za162 sh163 eg163 za163 za164 za165 za166 za167 sh168 eg168 za168 sh169 eg169 za169 za170 za171 za172 kf173 sh173 eg173 za173 kf174 sh174 eg174 za174 za175 kf176 sh176 eg176 za176 kf177 sh177 eg177 za177 sh178 eg178 za178 sh179 eg179 za179 k0 h0 k1 h1 k2 h2 k3 h3 k4 h4 k5 h5 k6 h6 k7 h7 k8 h8 k9 h9 k10 h10 k11 h11 k12 h12 k13 h13 k14 h14 k15 h15 k16 h16 k17 h17 k18 h18 k19 h19 k20 h20 k21 h21 k22 h22 k23 h23 k24 h24 k25 h25 k26 h26 k27 h27 k28 h28 k29 h29 k30 h30 k31 h31 k32 h32 k33 h33 k34 h34 k35 h35 k36 h36 k37 h37 k38 h38 k39 h39 k40 h40 k41 h41 k42 h42 k43 h43 k44 h44 k45 h45 k46 h46 k47 h47 k48 h48 k49 h49 k50 h50 k51 h51 k52 h52 k53 h53 k54 h54 k55 h55 k56 h56 k57 h57 k58 h58 k59 h59 k60 h60 k61 h61 k62 h62 k63 h63 k64 h64 k65 h65 k66 h66 k67 h67 k68 h68 k69 h69 k70 h70 k71 h71 k72 h72 k73 h73 k74 h74 k75 h75 k76 h76 k77 h77 k78 h78 k79 h79 k80 h80 k81 h81 k82 h82 k83 h83 k84 h84 k85 k86 k87 h87 k88 h88 k89 h89 k90 h90 k91 h91 k92 h92 k93 h93 k94 h94 k95 h95 k96 h96 k97 h97 k98 h98 k99 h99 k100 h100 k101 h101 k102 h102 k103 h103 k104 h104 k105 h105 k106 h106 k107 h107 k108 h108 k109 h109 k110 h110 k111 h111 k112 h112 k113 h113 k114 h114 k115 h115 k116 h116 k117 h117 k118 h118 k119 h119 k120 h120 k121 h121 k122 h122 k123 h123 k124 h124 k125 h125 k126 h126 k127 h127 k128 h128 k129 h129 k130 h130 k131 h131 k132 h132 k133 k134 h134 k135 h135 k136 h136 k137 h137 k138 h138 k139 h139 k140 h140 k141 h141 k142 h142 k143 h143 k144 h144 k145 h145 k146 k147 h147 k148 h148 k149 h149 k150 h150 k151 h151 k152 h152 k153 h153 k154 k155 h155 k156 h156 k157 h157 k158 h158 k159 h159 k160 h160 k161 h161 k162 h162 k163 h163 k164 h164 k165 h165 k166 h166 k167 h167 k168 h168 k169 h169 k170 h170 k171 h171 k172 h172 k173 h173 k174 h174 k175 h175 k176 h176 k177 h177 k178 h178 k179 h179 Tryz.underlying0 Tryz.underlying1 Tryz.underlying2 Tryz.underlying3 Tryz.underlying4 Tryz.underlying5 Tryz.underlying6 Tryz.underlying7 Tryz.underlying8 Tryz.underlying9 Tryz.underlying10 Tryz.underlying11 Tryz.underlying12 Tryz.underlying13 Tryz.underlying14 Tryz.underlying15 Tryz.underlying16 Tryz.underlying17 Tryz.underlying18 Tryz.underlying19 Tryz.underlying20 Tryz.underlying21 Tryz.underlying22 Tryz.underlying23 Tryz.underlying24 Tryz.underlying25 Tryz.underlying26 Tryz.underlying27 Tryz.underlying28 Tryz.underlying29 Tryz.underlying30 Tryz.underlying31 Tryz.underlying32 Tryz.underlying33 Tryz.underlying34 Tryz.underlying35 Tryz.underlying36 Tryz.underlying37 Tryz.underlying38 Tryz.underlying39 Tryz.underlying40 Tryz.underlying41 Tryz.underlying42 Tryz.underlying43 Tryz.underlying44 Tryz.underlying45 Tryz.underlying46 Tryz.underlying47 Tryz.underlying48 Tryz.underlying49 Tryz.underlying50 Tryz.underlying51 Tryz.underlying52 Tryz.underlying53 Tryz.underlying54 Tryz.underlying55 Tryz.underlying56 Tryz.underlying57 Tryz.underlying58 Tryz.underlying59 Tryz.underlying60 Tryz.underlying61 Tryz.underlying62 Tryz.underlying63 Tryz.underlying64 Tryz.underlying65 Tryz.underlying66 Tryz.underlying67 Tryz.underlying68 Tryz.underlying69 Tryz.underlying70 Tryz.underlying71 Tryz.underlying72 Tryz.underlying73 Tryz.underlying74 Tryz.underlying75 Tryz.underlying76 Tryz.underlying77 Tryz.underlying78 Tryz.underlying79 Tryz.underlying80 Tryz.underlying81 Tryz.underlying82 Tryz.underlying83 Tryz.underlying84 Tryz.underlying85 Tryz.underlying86 Tryz.underlying87 Tryz.underlying88 Tryz.underlying89 Tryz.underlying90 Tryz.underlying91 Tryz.underlying92 Tryz.underlying93 Tryz.underlying94 Tryz.underlying95 Tryz.underlying96 Tryz.underlying97 Tryz.underlying98 Tryz.underlying99 Tryz.underlying100 Tryz.underlying101 Tryz.underlying102 Tryz.underlying103 Tryz.underlying104 Tryz.underlying105 Tryz.underlying106 Tryz.underlying107 Tryz.underlying108 Tryz.underlying109 Tryz.underlying110 Tryz.underlying111 Tryz.underlying112 Tryz.underlying113 Tryz.underlying114 Tryz.underlying115 Tryz.underlying116 Tryz.underlying117 Tryz.underlying118 Tryz.underlying119 Tryz.underlying120 Tryz.underlying121 Tryz.underlying122 Tryz.underlying123 Tryz.underlying124 Tryz.underlying125 Tryz.underlying126 Tryz.underlying127 Tryz.underlying128 Tryz.underlying129 Tryz.underlying130 Tryz.underlying131 Tryz.underlying132 Tryz.underlying133 Tryz.underlying134 Tryz.underlying135 Tryz.underlying136 Tryz.underlying137 Tryz.underlying138 Tryz.underlying139 Tryz.underlying140 Tryz.underlying141 Tryz.underlying142 Tryz.underlying143 Tryz.underlying144 Tryz.underlying145 Tryz.underlying146 Tryz.underlying147 Tryz.underlying148 Tryz.underlying149 Tryz.underlying150 Tryz.underlying151 Tryz.underlying152 Tryz.underlying153 Tryz.underlying154 Tryz.underlying155 Tryz.underlying156 Tryz.underlying157 Tryz.underlying158 Tryz.underlying159 Tryz.underlying160 Tryz.underlying161 Tryz.underlying162 Tryz.underlying163 Tryz.underlying164 Tryz.underlying165 Tryz.underlying166 Tryz.underlying167 Tryz.underlying168 Tryz.underlying169 Tryz.underlying170 Tryz.underlying171 Tryz.underlying172 Tryz.underlying173 Tryz.underlying174 Tryz.underlying175 Tryz.underlying176 Tryz.underlying177 Tryz.underlying178 Tryz.underlying179
end Go.Proofs.YtgemeilncdmapaaGreatDoor.Ty
