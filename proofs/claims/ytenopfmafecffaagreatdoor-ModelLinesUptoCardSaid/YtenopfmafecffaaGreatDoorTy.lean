/- Facts on the types of this seat's program, printed by a program of ours. -/
import Derived.Test.YtenopfmafecffaaGreatDoorED
import Derived.Test.YtenopfmafecffaaGreatDoorRows
namespace Go.Proofs.YtenopfmafecffaaGreatDoor.Ty
open Go Go.Eng Go.Proofs

noncomputable abbrev za (t : Nat) : AV := zeroA Tryz.prog t
abbrev K (t s b : Nat) (e r i : Bool) : Prop := Tryz.prog.cellsOf t = s ∧ Tryz.prog.bytesOf t = b ∧ (Tryz.prog.info? t).isSome = true ∧ elemOk Tryz.prog t = e ∧ srcTy Tryz.prog t = r ∧ ifaceTy Tryz.prog t = i
abbrev H (t : Nat) : Prop := hasZero Tryz.prog t
theorem mk {t s b : Nat} {e r i : Bool} (h1 : Tryz.prog.cellsOf t = s := by kernel_rfl) (h2 : Tryz.prog.bytesOf t = b := by kernel_rfl) (h3 : (Tryz.prog.info? t).isSome = true := by kernel_rfl) (h4 : elemOk Tryz.prog t = e := by kernel_rfl) (h5 : srcTy Tryz.prog t = r := by kernel_rfl) (h6 : ifaceTy Tryz.prog t = i := by kernel_rfl) : K t s b e r i := ⟨h1, h2, h3, h4, h5, h6⟩
theorem hz {t : Nat} (h : ((Tryz.prog.info? t).bind (·.zero)).isSome = true := by kernel_rfl) : H t := h
theorem za1 : za 1 = AV.lit Value.nilFunc := by kernel_rfl
theorem kf2 : kindOf Tryz.prog 2 = some (some IntKind.i64) := by kernel_rfl
theorem sh2 : Tryz.prog.stoodInHeld 2 = false := by kernel_rfl
theorem eg2 : Tryz.prog.eqGuardType Tryz.prog.depth 2 = false := by kernel_rfl
theorem za2 : za 2 = AV.int IntKind.i64 0 := by kernel_rfl
theorem kf3 : kindOf Tryz.prog 3 = some (some IntKind.i64) := by kernel_rfl
theorem sh3 : Tryz.prog.stoodInHeld 3 = false := by kernel_rfl
theorem eg3 : Tryz.prog.eqGuardType Tryz.prog.depth 3 = false := by kernel_rfl
theorem za3 : za 3 = AV.int IntKind.i64 0 := by kernel_rfl
theorem za4 : za 4 = AV.bool false := by kernel_rfl
theorem kf5 : kindOf Tryz.prog 5 = some (some IntKind.u8) := by kernel_rfl
theorem sh5 : Tryz.prog.stoodInHeld 5 = false := by kernel_rfl
theorem eg5 : Tryz.prog.eqGuardType Tryz.prog.depth 5 = false := by kernel_rfl
theorem za5 : za 5 = AV.int IntKind.u8 0 := by kernel_rfl
theorem kf6 : kindOf Tryz.prog 6 = some (some IntKind.u8) := by kernel_rfl
theorem sh6 : Tryz.prog.stoodInHeld 6 = false := by kernel_rfl
theorem eg6 : Tryz.prog.eqGuardType Tryz.prog.depth 6 = false := by kernel_rfl
theorem za6 : za 6 = AV.int IntKind.u8 0 := by kernel_rfl
theorem sh7 : Tryz.prog.stoodInHeld 7 = false := by kernel_rfl
theorem eg7 : Tryz.prog.eqGuardType Tryz.prog.depth 7 = false := by kernel_rfl
theorem za7 : za 7 = AV.agg [AV.int IntKind.i64 0, AV.int IntKind.i64 0, AV.bool false, AV.int IntKind.u8 0] := by kernel_rfl
theorem sh8 : Tryz.prog.stoodInHeld 8 = false := by kernel_rfl
theorem eg8 : Tryz.prog.eqGuardType Tryz.prog.depth 8 = false := by kernel_rfl
theorem za8 : za 8 = AV.agg [AV.int IntKind.i64 0, AV.int IntKind.i64 0, AV.bool false, AV.int IntKind.u8 0] := by kernel_rfl
theorem kf9 : kindOf Tryz.prog 9 = some none := by kernel_rfl
theorem sh9 : Tryz.prog.stoodInHeld 9 = false := by kernel_rfl
theorem eg9 : Tryz.prog.eqGuardType Tryz.prog.depth 9 = false := by kernel_rfl
theorem za9 : za 9 = AV.str [] := by kernel_rfl
theorem kf10 : kindOf Tryz.prog 10 = some none := by kernel_rfl
theorem sh10 : Tryz.prog.stoodInHeld 10 = false := by kernel_rfl
theorem eg10 : Tryz.prog.eqGuardType Tryz.prog.depth 10 = false := by kernel_rfl
theorem za10 : za 10 = AV.str [] := by kernel_rfl
theorem kf11 : kindOf Tryz.prog 11 = some none := by kernel_rfl
theorem sh11 : Tryz.prog.stoodInHeld 11 = false := by kernel_rfl
theorem eg11 : Tryz.prog.eqGuardType Tryz.prog.depth 11 = false := by kernel_rfl
theorem za11 : za 11 = AV.str [] := by kernel_rfl
theorem kf12 : kindOf Tryz.prog 12 = some (some IntKind.u64) := by kernel_rfl
theorem sh12 : Tryz.prog.stoodInHeld 12 = false := by kernel_rfl
theorem eg12 : Tryz.prog.eqGuardType Tryz.prog.depth 12 = false := by kernel_rfl
theorem za12 : za 12 = AV.int IntKind.u64 0 := by kernel_rfl
theorem sh13 : Tryz.prog.stoodInHeld 13 = true := by kernel_rfl
theorem eg13 : Tryz.prog.eqGuardType Tryz.prog.depth 13 = false := by kernel_rfl
theorem za13 : za 13 = AV.agg [AV.str [], AV.int IntKind.u64 0] := by kernel_rfl
theorem sh14 : Tryz.prog.stoodInHeld 14 = true := by kernel_rfl
theorem eg14 : Tryz.prog.eqGuardType Tryz.prog.depth 14 = false := by kernel_rfl
theorem za14 : za 14 = AV.agg [AV.str [], AV.int IntKind.u64 0] := by kernel_rfl
theorem za15 : za 15 = AV.lit (Value.pointer none) := by kernel_rfl
theorem za16 : za 16 = AV.lit (Value.pointer none) := by kernel_rfl
theorem za17 : za 17 = AV.lit (Value.pointer none) := by kernel_rfl
theorem za18 : za 18 = AV.agg [AV.lit (Value.pointer none)] := by kernel_rfl
theorem za19 : za 19 = AV.agg [AV.lit (Value.pointer none)] := by kernel_rfl
theorem za20 : za 20 = AV.lit Value.nilIface := by kernel_rfl
theorem kf21 : kindOf Tryz.prog 21 = some (some IntKind.i32) := by kernel_rfl
theorem sh21 : Tryz.prog.stoodInHeld 21 = false := by kernel_rfl
theorem eg21 : Tryz.prog.eqGuardType Tryz.prog.depth 21 = false := by kernel_rfl
theorem za21 : za 21 = AV.int IntKind.i32 0 := by kernel_rfl
theorem za22 : za 22 = .lit (.slice none 0 0) := by kernel_rfl
theorem za23 : za 23 = .lit (.slice none 0 0) := by kernel_rfl
theorem za24 : za 24 = AV.lit Value.nilFunc := by kernel_rfl
theorem za25 : za 25 = AV.lit (Value.pointer none) := by kernel_rfl
theorem kf26 : kindOf Tryz.prog 26 = some (some IntKind.i64) := by kernel_rfl
theorem sh26 : Tryz.prog.stoodInHeld 26 = false := by kernel_rfl
theorem eg26 : Tryz.prog.eqGuardType Tryz.prog.depth 26 = false := by kernel_rfl
theorem za26 : za 26 = AV.int IntKind.i64 0 := by kernel_rfl
theorem za28 : za 28 = AV.lit Value.nilFunc := by kernel_rfl
theorem za29 : za 29 = AV.lit (Value.pointer none) := by kernel_rfl
theorem za31 : za 31 = AV.lit Value.nilFunc := by kernel_rfl
theorem za32 : za 32 = AV.lit Value.nilFunc := by kernel_rfl
theorem za33 : za 33 = AV.lit Value.nilFunc := by kernel_rfl
theorem za34 : za 34 = AV.lit Value.nilFunc := by kernel_rfl
theorem sh35 : Tryz.prog.stoodInHeld 35 = false := by kernel_rfl
theorem eg35 : Tryz.prog.eqGuardType Tryz.prog.depth 35 = false := by kernel_rfl
theorem za35 : za 35 = AV.agg [.lit (.slice none 0 0), AV.int IntKind.i64 0] := by kernel_rfl
theorem sh36 : Tryz.prog.stoodInHeld 36 = false := by kernel_rfl
theorem eg36 : Tryz.prog.eqGuardType Tryz.prog.depth 36 = false := by kernel_rfl
theorem za36 : za 36 = AV.agg [.lit (.slice none 0 0), AV.int IntKind.i64 0] := by kernel_rfl
theorem za37 : za 37 = AV.lit Value.nilFunc := by kernel_rfl
theorem sh38 : Tryz.prog.stoodInHeld 38 = false := by kernel_rfl
theorem eg38 : Tryz.prog.eqGuardType Tryz.prog.depth 38 = false := by kernel_rfl
theorem za38 : za 38 = AV.agg [AV.str [], AV.str []] := by kernel_rfl
theorem sh39 : Tryz.prog.stoodInHeld 39 = false := by kernel_rfl
theorem eg39 : Tryz.prog.eqGuardType Tryz.prog.depth 39 = false := by kernel_rfl
theorem za39 : za 39 = AV.agg [AV.str [], AV.str []] := by kernel_rfl
theorem za40 : za 40 = AV.lit Value.nilFunc := by kernel_rfl
theorem za42 : za 42 = AV.lit Value.nilFunc := by kernel_rfl
theorem za43 : za 43 = AV.lit Value.nilFunc := by kernel_rfl
theorem za44 : za 44 = .lit (.slice none 0 0) := by kernel_rfl
theorem za45 : za 45 = AV.lit Value.nilFunc := by kernel_rfl
theorem za46 : za 46 = AV.lit Value.nilFunc := by kernel_rfl
theorem za47 : za 47 = AV.lit Value.nilFunc := by kernel_rfl
theorem za48 : za 48 = AV.lit (Value.map none) := by kernel_rfl
theorem sh49 : Tryz.prog.stoodInHeld 49 = false := by kernel_rfl
theorem eg49 : Tryz.prog.eqGuardType Tryz.prog.depth 49 = false := by kernel_rfl
theorem za49 : za 49 = AV.agg [AV.lit (Value.map none), AV.int IntKind.i64 0] := by kernel_rfl
theorem sh50 : Tryz.prog.stoodInHeld 50 = false := by kernel_rfl
theorem eg50 : Tryz.prog.eqGuardType Tryz.prog.depth 50 = false := by kernel_rfl
theorem za50 : za 50 = AV.agg [AV.lit (Value.map none), AV.int IntKind.i64 0] := by kernel_rfl
theorem za52 : za 52 = AV.lit Value.nilFunc := by kernel_rfl
theorem za54 : za 54 = AV.lit Value.nilFunc := by kernel_rfl
theorem za55 : za 55 = AV.lit Value.nilFunc := by kernel_rfl
theorem za57 : za 57 = AV.lit Value.nilFunc := by kernel_rfl
theorem za58 : za 58 = AV.lit Value.nilFunc := by kernel_rfl
theorem za59 : za 59 = AV.lit Value.nilFunc := by kernel_rfl
theorem za61 : za 61 = AV.lit (Value.map none) := by kernel_rfl
theorem za62 : za 62 = AV.lit Value.nilFunc := by kernel_rfl
theorem za63 : za 63 = AV.lit Value.nilFunc := by kernel_rfl
theorem za64 : za 64 = AV.lit Value.nilFunc := by kernel_rfl
theorem za65 : za 65 = AV.lit Value.nilFunc := by kernel_rfl
theorem za66 : za 66 = AV.lit Value.nilFunc := by kernel_rfl
theorem za67 : za 67 = AV.lit Value.nilFunc := by kernel_rfl
theorem za68 : za 68 = AV.lit Value.nilFunc := by kernel_rfl
theorem za69 : za 69 = AV.lit Value.nilFunc := by kernel_rfl
theorem za70 : za 70 = AV.lit Value.nilFunc := by kernel_rfl
theorem za71 : za 71 = AV.lit Value.nilFunc := by kernel_rfl
theorem za72 : za 72 = AV.lit (Value.pointer none) := by kernel_rfl
theorem sh73 : Tryz.prog.stoodInHeld 73 = false := by kernel_rfl
theorem eg73 : Tryz.prog.eqGuardType Tryz.prog.depth 73 = false := by kernel_rfl
theorem za73 : za 73 = AV.agg [AV.lit (Value.pointer none), .lit (.slice none 0 0)] := by kernel_rfl
theorem sh74 : Tryz.prog.stoodInHeld 74 = false := by kernel_rfl
theorem eg74 : Tryz.prog.eqGuardType Tryz.prog.depth 74 = false := by kernel_rfl
theorem za74 : za 74 = AV.agg [AV.lit (Value.pointer none), .lit (.slice none 0 0)] := by kernel_rfl
theorem za75 : za 75 = AV.lit Value.nilIface := by kernel_rfl
theorem za76 : za 76 = AV.lit Value.nilIface := by kernel_rfl
theorem za78 : za 78 = AV.lit Value.nilFunc := by kernel_rfl
theorem za79 : za 79 = AV.lit Value.nilFunc := by kernel_rfl
theorem za80 : za 80 = AV.lit Value.nilFunc := by kernel_rfl
theorem za81 : za 81 = AV.lit Value.nilFunc := by kernel_rfl
theorem za82 : za 82 = AV.lit Value.nilFunc := by kernel_rfl
theorem sh83 : Tryz.prog.stoodInHeld 83 = false := by kernel_rfl
theorem eg83 : Tryz.prog.eqGuardType Tryz.prog.depth 83 = false := by kernel_rfl
theorem za83 : za 83 = AV.agg [AV.int IntKind.i64 0, AV.int IntKind.i64 0] := by kernel_rfl
theorem sh84 : Tryz.prog.stoodInHeld 84 = false := by kernel_rfl
theorem eg84 : Tryz.prog.eqGuardType Tryz.prog.depth 84 = false := by kernel_rfl
theorem za84 : za 84 = AV.agg [AV.int IntKind.i64 0, AV.int IntKind.i64 0] := by kernel_rfl
theorem za86 : za 86 = AV.lit (Value.map none) := by kernel_rfl
theorem za87 : za 87 = AV.lit Value.nilFunc := by kernel_rfl
theorem za89 : za 89 = AV.lit Value.nilFunc := by kernel_rfl
theorem za90 : za 90 = AV.lit Value.nilFunc := by kernel_rfl
theorem za91 : za 91 = AV.lit Value.nilFunc := by kernel_rfl
theorem za92 : za 92 = AV.lit Value.nilFunc := by kernel_rfl
theorem kf93 : kindOf Tryz.prog 93 = some (some IntKind.u32) := by kernel_rfl
theorem sh93 : Tryz.prog.stoodInHeld 93 = false := by kernel_rfl
theorem eg93 : Tryz.prog.eqGuardType Tryz.prog.depth 93 = false := by kernel_rfl
theorem za93 : za 93 = AV.int IntKind.u32 0 := by kernel_rfl
theorem za94 : za 94 = AV.lit Value.nilFunc := by kernel_rfl
theorem za95 : za 95 = AV.lit Value.nilFunc := by kernel_rfl
theorem za96 : za 96 = AV.lit Value.nilFunc := by kernel_rfl
theorem za97 : za 97 = AV.lit (Value.pointer none) := by kernel_rfl
theorem za98 : za 98 = AV.lit Value.nilFunc := by kernel_rfl
theorem za99 : za 99 = AV.lit Value.nilFunc := by kernel_rfl
theorem za100 : za 100 = AV.lit Value.nilFunc := by kernel_rfl
theorem kf101 : kindOf Tryz.prog 101 = some (some IntKind.u64) := by kernel_rfl
theorem sh101 : Tryz.prog.stoodInHeld 101 = false := by kernel_rfl
theorem eg101 : Tryz.prog.eqGuardType Tryz.prog.depth 101 = false := by kernel_rfl
theorem za101 : za 101 = AV.int IntKind.u64 0 := by kernel_rfl
theorem za102 : za 102 = AV.lit Value.nilFunc := by kernel_rfl
theorem za103 : za 103 = AV.lit Value.nilFunc := by kernel_rfl
theorem za104 : za 104 = AV.lit Value.nilFunc := by kernel_rfl
theorem za105 : za 105 = AV.lit Value.nilFunc := by kernel_rfl
theorem za106 : za 106 = AV.lit (Value.pointer none) := by kernel_rfl
theorem za107 : za 107 = AV.lit Value.nilFunc := by kernel_rfl
theorem za108 : za 108 = AV.lit Value.nilFunc := by kernel_rfl
theorem za109 : za 109 = AV.lit Value.nilFunc := by kernel_rfl
theorem za110 : za 110 = AV.lit Value.nilFunc := by kernel_rfl
theorem za111 : za 111 = AV.lit Value.nilFunc := by kernel_rfl
theorem za112 : za 112 = AV.lit Value.nilFunc := by kernel_rfl
theorem za113 : za 113 = AV.lit Value.nilFunc := by kernel_rfl
theorem kf114 : kindOf Tryz.prog 114 = some (some IntKind.i64) := by kernel_rfl
theorem sh114 : Tryz.prog.stoodInHeld 114 = false := by kernel_rfl
theorem eg114 : Tryz.prog.eqGuardType Tryz.prog.depth 114 = false := by kernel_rfl
theorem za114 : za 114 = AV.int IntKind.i64 0 := by kernel_rfl
theorem za116 : za 116 = AV.lit Value.nilFunc := by kernel_rfl
theorem za117 : za 117 = AV.lit Value.nilFunc := by kernel_rfl
theorem za118 : za 118 = AV.lit Value.nilFunc := by kernel_rfl
theorem za119 : za 119 = AV.lit Value.nilFunc := by kernel_rfl
theorem za120 : za 120 = AV.lit Value.nilFunc := by kernel_rfl
theorem za121 : za 121 = AV.lit Value.nilFunc := by kernel_rfl
theorem kf122 : kindOf Tryz.prog 122 = some (some IntKind.u64) := by kernel_rfl
theorem sh122 : Tryz.prog.stoodInHeld 122 = false := by kernel_rfl
theorem eg122 : Tryz.prog.eqGuardType Tryz.prog.depth 122 = false := by kernel_rfl
theorem za122 : za 122 = AV.int IntKind.u64 0 := by kernel_rfl
theorem za123 : za 123 = AV.lit Value.nilFunc := by kernel_rfl
theorem sh124 : Tryz.prog.stoodInHeld 124 = false := by kernel_rfl
theorem eg124 : Tryz.prog.eqGuardType Tryz.prog.depth 124 = false := by kernel_rfl
theorem za124 : za 124 = AV.agg [AV.int IntKind.u8 0, AV.int IntKind.u8 0, AV.int IntKind.u8 0, AV.int IntKind.u8 0, AV.int IntKind.u8 0, AV.int IntKind.u8 0, AV.int IntKind.u8 0, AV.int IntKind.u8 0, AV.int IntKind.u8 0, AV.int IntKind.u8 0, AV.int IntKind.u8 0, AV.int IntKind.u8 0, AV.int IntKind.u8 0, AV.int IntKind.u8 0, AV.int IntKind.u8 0, AV.int IntKind.u8 0, AV.int IntKind.u8 0, AV.int IntKind.u8 0, AV.int IntKind.u8 0, AV.int IntKind.u8 0, AV.int IntKind.u8 0, AV.int IntKind.u8 0, AV.int IntKind.u8 0, AV.int IntKind.u8 0] := by kernel_rfl
theorem za125 : za 125 = AV.lit Value.nilFunc := by kernel_rfl
theorem za127 : za 127 = AV.lit Value.nilFunc := by kernel_rfl
theorem kf128 : kindOf Tryz.prog 128 = some (some IntKind.u64) := by kernel_rfl
theorem sh128 : Tryz.prog.stoodInHeld 128 = false := by kernel_rfl
theorem eg128 : Tryz.prog.eqGuardType Tryz.prog.depth 128 = false := by kernel_rfl
theorem za128 : za 128 = AV.int IntKind.u64 0 := by kernel_rfl
theorem za129 : za 129 = AV.lit Value.nilFunc := by kernel_rfl
theorem za130 : za 130 = AV.lit Value.nilFunc := by kernel_rfl
theorem za131 : za 131 = AV.lit Value.nilFunc := by kernel_rfl
theorem za132 : za 132 = AV.lit (Value.pointer none) := by kernel_rfl
theorem za133 : za 133 = AV.lit Value.nilFunc := by kernel_rfl
theorem za135 : za 135 = AV.lit Value.nilFunc := by kernel_rfl
theorem za136 : za 136 = AV.lit Value.nilFunc := by kernel_rfl
theorem sh137 : Tryz.prog.stoodInHeld 137 = false := by kernel_rfl
theorem eg137 : Tryz.prog.eqGuardType Tryz.prog.depth 137 = false := by kernel_rfl
theorem za137 : za 137 = AV.agg [AV.int IntKind.u64 0, AV.int IntKind.u64 0, AV.int IntKind.u64 0, AV.int IntKind.u64 0, AV.int IntKind.u64 0, AV.int IntKind.u64 0, AV.int IntKind.u64 0, AV.int IntKind.u64 0, AV.int IntKind.u64 0, AV.int IntKind.u64 0, AV.int IntKind.u64 0, AV.int IntKind.u64 0, AV.int IntKind.u64 0, AV.int IntKind.u64 0, AV.int IntKind.u64 0, AV.int IntKind.u64 0, AV.int IntKind.u64 0, AV.int IntKind.u64 0, AV.int IntKind.u64 0, AV.int IntKind.u64 0] := by kernel_rfl
theorem sh138 : Tryz.prog.stoodInHeld 138 = false := by kernel_rfl
theorem eg138 : Tryz.prog.eqGuardType Tryz.prog.depth 138 = false := by kernel_rfl
theorem za139 : za 139 = AV.lit Value.nilFunc := by kernel_rfl
theorem za140 : za 140 = AV.lit (Value.pointer none) := by kernel_rfl
theorem za141 : za 141 = AV.lit Value.nilFunc := by kernel_rfl
theorem sh142 : Tryz.prog.stoodInHeld 142 = false := by kernel_rfl
theorem eg142 : Tryz.prog.eqGuardType Tryz.prog.depth 142 = false := by kernel_rfl
theorem sh143 : Tryz.prog.stoodInHeld 143 = false := by kernel_rfl
theorem eg143 : Tryz.prog.eqGuardType Tryz.prog.depth 143 = false := by kernel_rfl
theorem za143 : za 143 = AV.agg [AV.int IntKind.u8 0, AV.int IntKind.u8 0] := by kernel_rfl
theorem sh144 : Tryz.prog.stoodInHeld 144 = false := by kernel_rfl
theorem eg144 : Tryz.prog.eqGuardType Tryz.prog.depth 144 = false := by kernel_rfl
theorem za144 : za 144 = AV.agg [AV.int IntKind.u8 0, AV.int IntKind.u8 0] := by kernel_rfl
theorem sh145 : Tryz.prog.stoodInHeld 145 = false := by kernel_rfl
theorem eg145 : Tryz.prog.eqGuardType Tryz.prog.depth 145 = false := by kernel_rfl
theorem za145 : za 145 = AV.agg [AV.int IntKind.u8 0, AV.int IntKind.u8 0, AV.int IntKind.u8 0, AV.int IntKind.u8 0, AV.int IntKind.u8 0, AV.int IntKind.u8 0, AV.int IntKind.u8 0, AV.int IntKind.u8 0, AV.int IntKind.u8 0, AV.int IntKind.u8 0, AV.int IntKind.u8 0, AV.int IntKind.u8 0, AV.int IntKind.u8 0, AV.int IntKind.u8 0, AV.int IntKind.u8 0, AV.int IntKind.u8 0, AV.int IntKind.u8 0, AV.int IntKind.u8 0, AV.int IntKind.u8 0, AV.int IntKind.u8 0, AV.int IntKind.u8 0, AV.int IntKind.u8 0, AV.int IntKind.u8 0, AV.int IntKind.u8 0, AV.int IntKind.u8 0, AV.int IntKind.u8 0, AV.int IntKind.u8 0, AV.int IntKind.u8 0, AV.int IntKind.u8 0, AV.int IntKind.u8 0, AV.int IntKind.u8 0, AV.int IntKind.u8 0] := by kernel_rfl
theorem za147 : za 147 = AV.lit Value.nilFunc := by kernel_rfl
theorem sh148 : Tryz.prog.stoodInHeld 148 = false := by kernel_rfl
theorem eg148 : Tryz.prog.eqGuardType Tryz.prog.depth 148 = false := by kernel_rfl
theorem za148 : za 148 = AV.agg [AV.int IntKind.u8 0, AV.int IntKind.u8 0, AV.int IntKind.u8 0, AV.int IntKind.u8 0, AV.int IntKind.u8 0, AV.int IntKind.u8 0, AV.int IntKind.u8 0, AV.int IntKind.u8 0, AV.int IntKind.u8 0, AV.int IntKind.u8 0, AV.int IntKind.u8 0, AV.int IntKind.u8 0, AV.int IntKind.u8 0, AV.int IntKind.u8 0, AV.int IntKind.u8 0, AV.int IntKind.u8 0, AV.int IntKind.u8 0, AV.int IntKind.u8 0, AV.int IntKind.u8 0, AV.int IntKind.u8 0, AV.int IntKind.u8 0, AV.int IntKind.u8 0, AV.int IntKind.u8 0, AV.int IntKind.u8 0, AV.int IntKind.u8 0, AV.int IntKind.u8 0, AV.int IntKind.u8 0, AV.int IntKind.u8 0, AV.int IntKind.u8 0, AV.int IntKind.u8 0, AV.int IntKind.u8 0, AV.int IntKind.u8 0] := by kernel_rfl
theorem sh149 : Tryz.prog.stoodInHeld 149 = false := by kernel_rfl
theorem eg149 : Tryz.prog.eqGuardType Tryz.prog.depth 149 = false := by kernel_rfl
theorem sh150 : Tryz.prog.stoodInHeld 150 = true := by kernel_rfl
theorem eg150 : Tryz.prog.eqGuardType Tryz.prog.depth 150 = false := by kernel_rfl
theorem za150 : za 150 = AV.agg [AV.lit (Value.pointer none), AV.lit (Value.pointer none), AV.lit (Value.pointer none), AV.str []] := by kernel_rfl
theorem sh151 : Tryz.prog.stoodInHeld 151 = true := by kernel_rfl
theorem eg151 : Tryz.prog.eqGuardType Tryz.prog.depth 151 = false := by kernel_rfl
theorem za151 : za 151 = AV.agg [AV.lit (Value.pointer none), AV.lit (Value.pointer none), AV.lit (Value.pointer none), AV.str []] := by kernel_rfl
theorem za152 : za 152 = AV.agg [] := by kernel_rfl
theorem za153 : za 153 = AV.agg [] := by kernel_rfl
theorem za154 : za 154 = AV.agg [] := by kernel_rfl
theorem kf155 : kindOf Tryz.prog 155 = some (some IntKind.u8) := by kernel_rfl
theorem sh155 : Tryz.prog.stoodInHeld 155 = false := by kernel_rfl
theorem eg155 : Tryz.prog.eqGuardType Tryz.prog.depth 155 = false := by kernel_rfl
theorem za155 : za 155 = AV.int IntKind.u8 0 := by kernel_rfl
theorem kf156 : kindOf Tryz.prog 156 = some (some IntKind.u8) := by kernel_rfl
theorem sh156 : Tryz.prog.stoodInHeld 156 = false := by kernel_rfl
theorem eg156 : Tryz.prog.eqGuardType Tryz.prog.depth 156 = false := by kernel_rfl
theorem za156 : za 156 = AV.int IntKind.u8 0 := by kernel_rfl
theorem za157 : za 157 = AV.lit Value.nilFunc := by kernel_rfl
theorem kf158 : kindOf Tryz.prog 158 = some (some IntKind.i32) := by kernel_rfl
theorem sh158 : Tryz.prog.stoodInHeld 158 = false := by kernel_rfl
theorem eg158 : Tryz.prog.eqGuardType Tryz.prog.depth 158 = false := by kernel_rfl
theorem za158 : za 158 = AV.int IntKind.i32 0 := by kernel_rfl
theorem kf159 : kindOf Tryz.prog 159 = some (some IntKind.i32) := by kernel_rfl
theorem sh159 : Tryz.prog.stoodInHeld 159 = false := by kernel_rfl
theorem eg159 : Tryz.prog.eqGuardType Tryz.prog.depth 159 = false := by kernel_rfl
theorem za159 : za 159 = AV.int IntKind.i32 0 := by kernel_rfl
theorem sh160 : Tryz.prog.stoodInHeld 160 = true := by kernel_rfl
theorem eg160 : Tryz.prog.eqGuardType Tryz.prog.depth 160 = false := by kernel_rfl
theorem za160 : za 160 = AV.agg [AV.int IntKind.u64 0, AV.int IntKind.u64 0, AV.int IntKind.u32 0, AV.int IntKind.u8 0, AV.int IntKind.u8 0, AV.int IntKind.u8 0, AV.int IntKind.u8 0, AV.lit Value.nilFunc, AV.lit (Value.pointer none), AV.int IntKind.i32 0, AV.int IntKind.i32 0] := by kernel_rfl
theorem sh161 : Tryz.prog.stoodInHeld 161 = true := by kernel_rfl
theorem eg161 : Tryz.prog.eqGuardType Tryz.prog.depth 161 = false := by kernel_rfl
theorem za161 : za 161 = AV.agg [AV.int IntKind.u64 0, AV.int IntKind.u64 0, AV.int IntKind.u32 0, AV.int IntKind.u8 0, AV.int IntKind.u8 0, AV.int IntKind.u8 0, AV.int IntKind.u8 0, AV.lit Value.nilFunc, AV.lit (Value.pointer none), AV.int IntKind.i32 0, AV.int IntKind.i32 0] := by kernel_rfl
theorem k0 : K 0 1 0 false true false := mk
theorem h0 : H 0 := hz
theorem k1 : K 1 1 8 true true false := mk
theorem h1 : H 1 := hz
theorem k2 : K 2 1 8 true false false := mk
theorem h2 : H 2 := hz
theorem k3 : K 3 1 8 true false false := mk
theorem h3 : H 3 := hz
theorem k4 : K 4 1 1 true true false := mk
theorem h4 : H 4 := hz
theorem k5 : K 5 1 1 true false false := mk
theorem h5 : H 5 := hz
theorem k6 : K 6 1 1 true false false := mk
theorem h6 : H 6 := hz
theorem k7 : K 7 4 24 true true false := mk
theorem h7 : H 7 := hz
theorem k8 : K 8 4 24 true true false := mk
theorem h8 : H 8 := hz
theorem k9 : K 9 1 16 true true false := mk
theorem h9 : H 9 := hz
theorem k10 : K 10 1 16 true true false := mk
theorem h10 : H 10 := hz
theorem k11 : K 11 1 16 true true false := mk
theorem h11 : H 11 := hz
theorem k12 : K 12 1 8 true false false := mk
theorem h12 : H 12 := hz
theorem k13 : K 13 2 24 true true false := mk
theorem h13 : H 13 := hz
theorem k14 : K 14 2 24 true true false := mk
theorem h14 : H 14 := hz
theorem k15 : K 15 1 8 true true false := mk
theorem h15 : H 15 := hz
theorem k16 : K 16 1 8 true true false := mk
theorem h16 : H 16 := hz
theorem k17 : K 17 1 8 true true false := mk
theorem h17 : H 17 := hz
theorem k18 : K 18 1 8 true true false := mk
theorem h18 : H 18 := hz
theorem k19 : K 19 1 8 true true false := mk
theorem h19 : H 19 := hz
theorem k20 : K 20 1 16 true true true := mk
theorem h20 : H 20 := hz
theorem k21 : K 21 1 4 true false false := mk
theorem h21 : H 21 := hz
theorem k22 : K 22 1 24 true true false := mk
theorem h22 : H 22 := hz
theorem k23 : K 23 1 24 true true false := mk
theorem h23 : H 23 := hz
theorem k24 : K 24 1 8 true true false := mk
theorem h24 : H 24 := hz
theorem k25 : K 25 1 8 true true false := mk
theorem h25 : H 25 := hz
theorem k26 : K 26 1 8 true false false := mk
theorem h26 : H 26 := hz
theorem k27 : K 27 1 0 false true false := mk
theorem h27 : H 27 := hz
theorem k28 : K 28 1 8 true true false := mk
theorem h28 : H 28 := hz
theorem k29 : K 29 1 8 true true false := mk
theorem h29 : H 29 := hz
theorem k30 : K 30 1 0 false true false := mk
theorem h30 : H 30 := hz
theorem k31 : K 31 1 8 true true false := mk
theorem h31 : H 31 := hz
theorem k32 : K 32 1 8 true true false := mk
theorem h32 : H 32 := hz
theorem k33 : K 33 1 8 true true false := mk
theorem h33 : H 33 := hz
theorem k34 : K 34 1 8 true true false := mk
theorem h34 : H 34 := hz
theorem k35 : K 35 2 32 true true false := mk
theorem h35 : H 35 := hz
theorem k36 : K 36 2 32 true true false := mk
theorem h36 : H 36 := hz
theorem k37 : K 37 1 8 true true false := mk
theorem h37 : H 37 := hz
theorem k38 : K 38 2 32 true true false := mk
theorem h38 : H 38 := hz
theorem k39 : K 39 2 32 true true false := mk
theorem h39 : H 39 := hz
theorem k40 : K 40 1 8 true true false := mk
theorem h40 : H 40 := hz
theorem k41 : K 41 1 0 false true false := mk
theorem h41 : H 41 := hz
theorem k42 : K 42 1 8 true true false := mk
theorem h42 : H 42 := hz
theorem k43 : K 43 1 8 true true false := mk
theorem h43 : H 43 := hz
theorem k44 : K 44 1 24 true true false := mk
theorem h44 : H 44 := hz
theorem k45 : K 45 1 8 true true false := mk
theorem h45 : H 45 := hz
theorem k46 : K 46 1 8 true true false := mk
theorem h46 : H 46 := hz
theorem k47 : K 47 1 8 true true false := mk
theorem h47 : H 47 := hz
theorem k48 : K 48 1 8 true true false := mk
theorem h48 : H 48 := hz
theorem k49 : K 49 2 16 true true false := mk
theorem h49 : H 49 := hz
theorem k50 : K 50 2 16 true true false := mk
theorem h50 : H 50 := hz
theorem k51 : K 51 1 0 false true false := mk
theorem h51 : H 51 := hz
theorem k52 : K 52 1 8 true true false := mk
theorem h52 : H 52 := hz
theorem k53 : K 53 1 0 false true false := mk
theorem h53 : H 53 := hz
theorem k54 : K 54 1 8 true true false := mk
theorem h54 : H 54 := hz
theorem k55 : K 55 1 8 true true false := mk
theorem h55 : H 55 := hz
theorem k56 : K 56 1 0 false true false := mk
theorem h56 : H 56 := hz
theorem k57 : K 57 1 8 true true false := mk
theorem h57 : H 57 := hz
theorem k58 : K 58 1 8 true true false := mk
theorem h58 : H 58 := hz
theorem k59 : K 59 1 8 true true false := mk
theorem h59 : H 59 := hz
theorem k60 : K 60 1 0 false true false := mk
theorem h60 : H 60 := hz
theorem k61 : K 61 1 8 true true false := mk
theorem h61 : H 61 := hz
theorem k62 : K 62 1 8 true true false := mk
theorem h62 : H 62 := hz
theorem k63 : K 63 1 8 true true false := mk
theorem h63 : H 63 := hz
theorem k64 : K 64 1 8 true true false := mk
theorem h64 : H 64 := hz
theorem k65 : K 65 1 8 true true false := mk
theorem h65 : H 65 := hz
theorem k66 : K 66 1 8 true true false := mk
theorem h66 : H 66 := hz
theorem k67 : K 67 1 8 true true false := mk
theorem h67 : H 67 := hz
theorem k68 : K 68 1 8 true true false := mk
theorem h68 : H 68 := hz
theorem k69 : K 69 1 8 true true false := mk
theorem h69 : H 69 := hz
theorem k70 : K 70 1 8 true true false := mk
theorem h70 : H 70 := hz
theorem k71 : K 71 1 8 true true false := mk
theorem h71 : H 71 := hz
theorem k72 : K 72 1 8 true true false := mk
theorem h72 : H 72 := hz
theorem k73 : K 73 2 32 true true false := mk
theorem h73 : H 73 := hz
theorem k74 : K 74 2 32 true true false := mk
theorem h74 : H 74 := hz
theorem k75 : K 75 1 16 true true true := mk
theorem h75 : H 75 := hz
theorem k76 : K 76 1 16 true true true := mk
theorem h76 : H 76 := hz
theorem k77 : K 77 1 0 false true false := mk
theorem h77 : H 77 := hz
theorem k78 : K 78 1 8 true true false := mk
theorem h78 : H 78 := hz
theorem k79 : K 79 1 8 true true false := mk
theorem h79 : H 79 := hz
theorem k80 : K 80 1 8 true true false := mk
theorem h80 : H 80 := hz
theorem k81 : K 81 1 8 true true false := mk
theorem h81 : H 81 := hz
theorem k82 : K 82 1 8 true true false := mk
theorem h82 : H 82 := hz
theorem k83 : K 83 2 16 true true false := mk
theorem h83 : H 83 := hz
theorem k84 : K 84 2 16 true true false := mk
theorem h84 : H 84 := hz
theorem k85 : K 85 1 0 false true false := mk
theorem h85 : H 85 := hz
theorem k86 : K 86 1 8 true true false := mk
theorem h86 : H 86 := hz
theorem k87 : K 87 1 8 true true false := mk
theorem h87 : H 87 := hz
theorem k88 : K 88 1 0 false true false := mk
theorem h88 : H 88 := hz
theorem k89 : K 89 1 8 true true false := mk
theorem h89 : H 89 := hz
theorem k90 : K 90 1 8 true true false := mk
theorem h90 : H 90 := hz
theorem k91 : K 91 1 8 true true false := mk
theorem h91 : H 91 := hz
theorem k92 : K 92 1 8 true true false := mk
theorem h92 : H 92 := hz
theorem k93 : K 93 1 4 true false false := mk
theorem h93 : H 93 := hz
theorem k94 : K 94 1 8 true true false := mk
theorem h94 : H 94 := hz
theorem k95 : K 95 1 8 true true false := mk
theorem h95 : H 95 := hz
theorem k96 : K 96 1 8 true true false := mk
theorem h96 : H 96 := hz
theorem k97 : K 97 1 8 true true false := mk
theorem h97 : H 97 := hz
theorem k98 : K 98 1 8 true true false := mk
theorem h98 : H 98 := hz
theorem k99 : K 99 1 8 true true false := mk
theorem h99 : H 99 := hz
theorem k100 : K 100 1 8 true true false := mk
theorem h100 : H 100 := hz
theorem k101 : K 101 1 8 true false false := mk
theorem h101 : H 101 := hz
theorem k102 : K 102 1 8 true true false := mk
theorem h102 : H 102 := hz
theorem k103 : K 103 1 8 true true false := mk
theorem h103 : H 103 := hz
theorem k104 : K 104 1 8 true true false := mk
theorem h104 : H 104 := hz
theorem k105 : K 105 1 8 true true false := mk
theorem h105 : H 105 := hz
theorem k106 : K 106 1 8 true true false := mk
theorem h106 : H 106 := hz
theorem k107 : K 107 1 8 true true false := mk
theorem h107 : H 107 := hz
theorem k108 : K 108 1 8 true true false := mk
theorem h108 : H 108 := hz
theorem k109 : K 109 1 8 true true false := mk
theorem h109 : H 109 := hz
theorem k110 : K 110 1 8 true true false := mk
theorem h110 : H 110 := hz
theorem k111 : K 111 1 8 true true false := mk
theorem h111 : H 111 := hz
theorem k112 : K 112 1 8 true true false := mk
theorem h112 : H 112 := hz
theorem k113 : K 113 1 8 true true false := mk
theorem h113 : H 113 := hz
theorem k114 : K 114 1 8 true false false := mk
theorem h114 : H 114 := hz
theorem k115 : K 115 1 0 false true false := mk
theorem h115 : H 115 := hz
theorem k116 : K 116 1 8 true true false := mk
theorem h116 : H 116 := hz
theorem k117 : K 117 1 8 true true false := mk
theorem h117 : H 117 := hz
theorem k118 : K 118 1 8 true true false := mk
theorem h118 : H 118 := hz
theorem k119 : K 119 1 8 true true false := mk
theorem h119 : H 119 := hz
theorem k120 : K 120 1 8 true true false := mk
theorem h120 : H 120 := hz
theorem k121 : K 121 1 8 true true false := mk
theorem h121 : H 121 := hz
theorem k122 : K 122 1 8 true false false := mk
theorem h122 : H 122 := hz
theorem k123 : K 123 1 8 true true false := mk
theorem h123 : H 123 := hz
theorem k124 : K 124 24 24 true true false := mk
theorem h124 : H 124 := hz
theorem k125 : K 125 1 8 true true false := mk
theorem h125 : H 125 := hz
theorem k126 : K 126 1 0 false true false := mk
theorem h126 : H 126 := hz
theorem k127 : K 127 1 8 true true false := mk
theorem h127 : H 127 := hz
theorem k128 : K 128 1 8 true false false := mk
theorem h128 : H 128 := hz
theorem k129 : K 129 1 8 true true false := mk
theorem h129 : H 129 := hz
theorem k130 : K 130 1 8 true true false := mk
theorem h130 : H 130 := hz
theorem k131 : K 131 1 8 true true false := mk
theorem h131 : H 131 := hz
theorem k132 : K 132 1 8 true true false := mk
theorem h132 : H 132 := hz
theorem k133 : K 133 1 8 true true false := mk
theorem h133 : H 133 := hz
theorem k134 : K 134 1 0 false true false := mk
theorem h134 : H 134 := hz
theorem k135 : K 135 1 8 true true false := mk
theorem h135 : H 135 := hz
theorem k136 : K 136 1 8 true true false := mk
theorem h136 : H 136 := hz
theorem k137 : K 137 20 160 true true false := mk
theorem h137 : H 137 := hz
theorem k138 : K 138 65 65 true true false := mk
theorem k139 : K 139 1 8 true true false := mk
theorem h139 : H 139 := hz
theorem k140 : K 140 1 8 true true false := mk
theorem h140 : H 140 := hz
theorem k141 : K 141 1 8 true true false := mk
theorem h141 : H 141 := hz
theorem k142 : K 142 256 256 true true false := mk
theorem k143 : K 143 2 2 true true false := mk
theorem h143 : H 143 := hz
theorem k144 : K 144 2 2 true true false := mk
theorem h144 : H 144 := hz
theorem k145 : K 145 32 32 true true false := mk
theorem h145 : H 145 := hz
theorem k146 : K 146 1 0 false true false := mk
theorem h146 : H 146 := hz
theorem k147 : K 147 1 8 true true false := mk
theorem h147 : H 147 := hz
theorem k148 : K 148 32 32 true true false := mk
theorem h148 : H 148 := hz
theorem k149 : K 149 64 64 true true false := mk
theorem k150 : K 150 4 40 true true false := mk
theorem h150 : H 150 := hz
theorem k151 : K 151 4 40 true true false := mk
theorem h151 : H 151 := hz
theorem k152 : K 152 0 0 false true false := mk
theorem h152 : H 152 := hz
theorem k153 : K 153 0 0 false true false := mk
theorem h153 : H 153 := hz
theorem k154 : K 154 0 0 false true false := mk
theorem h154 : H 154 := hz
theorem k155 : K 155 1 1 true false false := mk
theorem h155 : H 155 := hz
theorem k156 : K 156 1 1 true false false := mk
theorem h156 : H 156 := hz
theorem k157 : K 157 1 8 true true false := mk
theorem h157 : H 157 := hz
theorem k158 : K 158 1 4 true false false := mk
theorem h158 : H 158 := hz
theorem k159 : K 159 1 4 true false false := mk
theorem h159 : H 159 := hz
theorem k160 : K 160 11 48 true true false := mk
theorem h160 : H 160 := hz
theorem k161 : K 161 11 48 true true false := mk
theorem h161 : H 161 := hz
attribute [push_cast] za1 kf2 sh2 eg2 za2 kf3 sh3 eg3 za3 za4 kf5 sh5 eg5 za5 kf6 sh6 eg6 za6 sh7 eg7 za7 sh8 eg8 za8 kf9 sh9 eg9 za9 kf10 sh10 eg10 za10 kf11 sh11 eg11 za11 kf12 sh12 eg12 za12 sh13 eg13 za13 sh14 eg14 za14 za15 za16 za17 za18 za19 za20 kf21 sh21 eg21 za21 za22 za23 za24 za25 kf26 sh26 eg26 za26 za28 za29 za31 za32 za33 za34 sh35 eg35 za35 sh36 eg36 za36 za37 sh38 eg38 za38 sh39 eg39 za39 za40 za42 za43 za44 za45 za46 za47 za48 sh49 eg49 za49 sh50 eg50 za50 za52 za54 za55 za57 za58 za59 za61 za62 za63 za64 za65 za66 za67 za68 za69 za70 za71 za72 sh73 eg73 za73 sh74 eg74 za74 za75 za76 za78 za79 za80 za81 za82 sh83 eg83 za83 sh84 eg84 za84 za86 za87 za89 za90 za91 za92 kf93 sh93 eg93 za93 za94 za95 za96 za97 za98 za99 za100 kf101 sh101 eg101 za101 za102 za103 za104 za105 za106 za107 za108 za109 za110 za111 za112 za113 kf114 sh114 eg114 za114 za116 za117 za118 za119 za120 za121 kf122 sh122 eg122 za122 za123 sh124 eg124 za124 za125 za127 kf128 sh128 eg128 za128 za129 za130 za131 za132 za133 za135 za136 sh137 eg137 za137 sh138 eg138 za139 za140 za141 sh142 eg142 sh143 eg143 za143 sh144 eg144 za144 sh145 eg145 za145 za147 sh148 eg148 za148 sh149 eg149 sh150 eg150 za150 sh151 eg151 za151 za152 za153 za154 kf155 sh155 eg155 za155 kf156 sh156 eg156 za156 za157 kf158 sh158 eg158 za158 kf159 sh159 eg159 za159 sh160 eg160 za160 sh161 eg161 za161 k0 h0 k1 h1 k2 h2 k3 h3 k4 h4 k5 h5 k6 h6 k7 h7 k8 h8 k9 h9 k10 h10 k11 h11 k12 h12 k13 h13 k14 h14 k15 h15 k16 h16 k17 h17 k18 h18 k19 h19 k20 h20 k21 h21 k22 h22 k23 h23 k24 h24 k25 h25 k26 h26 k27 h27 k28 h28 k29 h29 k30 h30 k31 h31 k32 h32 k33 h33 k34 h34 k35 h35 k36 h36 k37 h37 k38 h38 k39 h39 k40 h40 k41 h41 k42 h42 k43 h43 k44 h44 k45 h45 k46 h46 k47 h47 k48 h48 k49 h49 k50 h50 k51 h51 k52 h52 k53 h53 k54 h54 k55 h55 k56 h56 k57 h57 k58 h58 k59 h59 k60 h60 k61 h61 k62 h62 k63 h63 k64 h64 k65 h65 k66 h66 k67 h67 k68 h68 k69 h69 k70 h70 k71 h71 k72 h72 k73 h73 k74 h74 k75 h75 k76 h76 k77 h77 k78 h78 k79 h79 k80 h80 k81 h81 k82 h82 k83 h83 k84 h84 k85 h85 k86 h86 k87 h87 k88 h88 k89 h89 k90 h90 k91 h91 k92 h92 k93 h93 k94 h94 k95 h95 k96 h96 k97 h97 k98 h98 k99 h99 k100 h100 k101 h101 k102 h102 k103 h103 k104 h104 k105 h105 k106 h106 k107 h107 k108 h108 k109 h109 k110 h110 k111 h111 k112 h112 k113 h113 k114 h114 k115 h115 k116 h116 k117 h117 k118 h118 k119 h119 k120 h120 k121 h121 k122 h122 k123 h123 k124 h124 k125 h125 k126 h126 k127 h127 k128 h128 k129 h129 k130 h130 k131 h131 k132 h132 k133 h133 k134 h134 k135 h135 k136 h136 k137 h137 k138 k139 h139 k140 h140 k141 h141 k142 k143 h143 k144 h144 k145 h145 k146 h146 k147 h147 k148 h148 k149 k150 h150 k151 h151 k152 h152 k153 h153 k154 h154 k155 h155 k156 h156 k157 h157 k158 h158 k159 h159 k160 h160 k161 h161 Tryz.underlying0 Tryz.underlying1 Tryz.underlying2 Tryz.underlying3 Tryz.underlying4 Tryz.underlying5 Tryz.underlying6 Tryz.underlying7 Tryz.underlying8 Tryz.underlying9 Tryz.underlying10 Tryz.underlying11 Tryz.underlying12 Tryz.underlying13 Tryz.underlying14 Tryz.underlying15 Tryz.underlying16 Tryz.underlying17 Tryz.underlying18 Tryz.underlying19 Tryz.underlying20 Tryz.underlying21 Tryz.underlying22 Tryz.underlying23 Tryz.underlying24 Tryz.underlying25 Tryz.underlying26 Tryz.underlying27 Tryz.underlying28 Tryz.underlying29 Tryz.underlying30 Tryz.underlying31 Tryz.underlying32 Tryz.underlying33 Tryz.underlying34 Tryz.underlying35 Tryz.underlying36 Tryz.underlying37 Tryz.underlying38 Tryz.underlying39 Tryz.underlying40 Tryz.underlying41 Tryz.underlying42 Tryz.underlying43 Tryz.underlying44 Tryz.underlying45 Tryz.underlying46 Tryz.underlying47 Tryz.underlying48 Tryz.underlying49 Tryz.underlying50 Tryz.underlying51 Tryz.underlying52 Tryz.underlying53 Tryz.underlying54 Tryz.underlying55 Tryz.underlying56 Tryz.underlying57 Tryz.underlying58 Tryz.underlying59 Tryz.underlying60 Tryz.underlying61 Tryz.underlying62 Tryz.underlying63 Tryz.underlying64 Tryz.underlying65 Tryz.underlying66 Tryz.underlying67 Tryz.underlying68 Tryz.underlying69 Tryz.underlying70 Tryz.underlying71 Tryz.underlying72 Tryz.underlying73 Tryz.underlying74 Tryz.underlying75 Tryz.underlying76 Tryz.underlying77 Tryz.underlying78 Tryz.underlying79 Tryz.underlying80 Tryz.underlying81 Tryz.underlying82 Tryz.underlying83 Tryz.underlying84 Tryz.underlying85 Tryz.underlying86 Tryz.underlying87 Tryz.underlying88 Tryz.underlying89 Tryz.underlying90 Tryz.underlying91 Tryz.underlying92 Tryz.underlying93 Tryz.underlying94 Tryz.underlying95 Tryz.underlying96 Tryz.underlying97 Tryz.underlying98 Tryz.underlying99 Tryz.underlying100 Tryz.underlying101 Tryz.underlying102 Tryz.underlying103 Tryz.underlying104 Tryz.underlying105 Tryz.underlying106 Tryz.underlying107 Tryz.underlying108 Tryz.underlying109 Tryz.underlying110 Tryz.underlying111 Tryz.underlying112 Tryz.underlying113 Tryz.underlying114 Tryz.underlying115 Tryz.underlying116 Tryz.underlying117 Tryz.underlying118 Tryz.underlying119 Tryz.underlying120 Tryz.underlying121 Tryz.underlying122 Tryz.underlying123 Tryz.underlying124 Tryz.underlying125 Tryz.underlying126 Tryz.underlying127 Tryz.underlying128 Tryz.underlying129 Tryz.underlying130 Tryz.underlying131 Tryz.underlying132 Tryz.underlying133 Tryz.underlying134 Tryz.underlying135 Tryz.underlying136 Tryz.underlying137 Tryz.underlying138 Tryz.underlying139 Tryz.underlying140 Tryz.underlying141 Tryz.underlying142 Tryz.underlying143 Tryz.underlying144 Tryz.underlying145 Tryz.underlying146 Tryz.underlying147 Tryz.underlying148 Tryz.underlying149 Tryz.underlying150 Tryz.underlying151 Tryz.underlying152 Tryz.underlying153 Tryz.underlying154 Tryz.underlying155 Tryz.underlying156 Tryz.underlying157 Tryz.underlying158 Tryz.underlying159 Tryz.underlying160 Tryz.underlying161
end Go.Proofs.YtenopfmafecffaaGreatDoor.Ty
