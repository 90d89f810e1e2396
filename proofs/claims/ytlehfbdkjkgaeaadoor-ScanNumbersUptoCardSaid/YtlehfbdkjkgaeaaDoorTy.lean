/- Facts on the types of this seat's program, printed by a program of ours. -/
import Derived.Test.YtlehfbdkjkgaeaaDoorEng12
import Derived.Test.YtlehfbdkjkgaeaaDoorRows
namespace Go.Proofs.YtlehfbdkjkgaeaaDoor.Ty
open Go Go.Eng Go.Proofs

noncomputable abbrev za (t : Nat) : AV := zeroA Tryd.prog t
abbrev K (t s b : Nat) (e r i : Bool) : Prop := Tryd.prog.cellsOf t = s ∧ Tryd.prog.bytesOf t = b ∧ (Tryd.prog.info? t).isSome = true ∧ elemOk Tryd.prog t = e ∧ srcTy Tryd.prog t = r ∧ ifaceTy Tryd.prog t = i
abbrev H (t : Nat) : Prop := hasZero Tryd.prog t
theorem mk {t s b : Nat} {e r i : Bool} (h1 : Tryd.prog.cellsOf t = s := by kernel_rfl) (h2 : Tryd.prog.bytesOf t = b := by kernel_rfl) (h3 : (Tryd.prog.info? t).isSome = true := by kernel_rfl) (h4 : elemOk Tryd.prog t = e := by kernel_rfl) (h5 : srcTy Tryd.prog t = r := by kernel_rfl) (h6 : ifaceTy Tryd.prog t = i := by kernel_rfl) : K t s b e r i := ⟨h1, h2, h3, h4, h5, h6⟩
theorem hz {t : Nat} (h : ((Tryd.prog.info? t).bind (·.zero)).isSome = true := by kernel_rfl) : H t := h
theorem za1 : za 1 = AV.lit Value.nilFunc := by kernel_rfl
theorem kf2 : kindOf Tryd.prog 2 = some (some IntKind.i64) := by kernel_rfl
theorem sh2 : Tryd.prog.stoodInHeld 2 = false := by kernel_rfl
theorem eg2 : Tryd.prog.eqGuardType Tryd.prog.depth 2 = false := by kernel_rfl
theorem za2 : za 2 = AV.int IntKind.i64 0 := by kernel_rfl
theorem kf3 : kindOf Tryd.prog 3 = some (some IntKind.i64) := by kernel_rfl
theorem sh3 : Tryd.prog.stoodInHeld 3 = false := by kernel_rfl
theorem eg3 : Tryd.prog.eqGuardType Tryd.prog.depth 3 = false := by kernel_rfl
theorem za3 : za 3 = AV.int IntKind.i64 0 := by kernel_rfl
theorem za4 : za 4 = AV.bool false := by kernel_rfl
theorem kf5 : kindOf Tryd.prog 5 = some (some IntKind.u8) := by kernel_rfl
theorem sh5 : Tryd.prog.stoodInHeld 5 = false := by kernel_rfl
theorem eg5 : Tryd.prog.eqGuardType Tryd.prog.depth 5 = false := by kernel_rfl
theorem za5 : za 5 = AV.int IntKind.u8 0 := by kernel_rfl
theorem kf6 : kindOf Tryd.prog 6 = some (some IntKind.u8) := by kernel_rfl
theorem sh6 : Tryd.prog.stoodInHeld 6 = false := by kernel_rfl
theorem eg6 : Tryd.prog.eqGuardType Tryd.prog.depth 6 = false := by kernel_rfl
theorem za6 : za 6 = AV.int IntKind.u8 0 := by kernel_rfl
theorem sh7 : Tryd.prog.stoodInHeld 7 = false := by kernel_rfl
theorem eg7 : Tryd.prog.eqGuardType Tryd.prog.depth 7 = false := by kernel_rfl
theorem za7 : za 7 = AV.agg [AV.int IntKind.i64 0, AV.int IntKind.i64 0, AV.bool false, AV.int IntKind.u8 0] := by kernel_rfl
theorem sh8 : Tryd.prog.stoodInHeld 8 = false := by kernel_rfl
theorem eg8 : Tryd.prog.eqGuardType Tryd.prog.depth 8 = false := by kernel_rfl
theorem za8 : za 8 = AV.agg [AV.int IntKind.i64 0, AV.int IntKind.i64 0, AV.bool false, AV.int IntKind.u8 0] := by kernel_rfl
theorem kf9 : kindOf Tryd.prog 9 = some none := by kernel_rfl
theorem sh9 : Tryd.prog.stoodInHeld 9 = false := by kernel_rfl
theorem eg9 : Tryd.prog.eqGuardType Tryd.prog.depth 9 = false := by kernel_rfl
theorem za9 : za 9 = AV.str [] := by kernel_rfl
theorem kf10 : kindOf Tryd.prog 10 = some none := by kernel_rfl
theorem sh10 : Tryd.prog.stoodInHeld 10 = false := by kernel_rfl
theorem eg10 : Tryd.prog.eqGuardType Tryd.prog.depth 10 = false := by kernel_rfl
theorem za10 : za 10 = AV.str [] := by kernel_rfl
theorem kf11 : kindOf Tryd.prog 11 = some none := by kernel_rfl
theorem sh11 : Tryd.prog.stoodInHeld 11 = false := by kernel_rfl
theorem eg11 : Tryd.prog.eqGuardType Tryd.prog.depth 11 = false := by kernel_rfl
theorem za11 : za 11 = AV.str [] := by kernel_rfl
theorem kf12 : kindOf Tryd.prog 12 = some (some IntKind.u64) := by kernel_rfl
theorem sh12 : Tryd.prog.stoodInHeld 12 = false := by kernel_rfl
theorem eg12 : Tryd.prog.eqGuardType Tryd.prog.depth 12 = false := by kernel_rfl
theorem za12 : za 12 = AV.int IntKind.u64 0 := by kernel_rfl
theorem sh13 : Tryd.prog.stoodInHeld 13 = true := by kernel_rfl
theorem eg13 : Tryd.prog.eqGuardType Tryd.prog.depth 13 = false := by kernel_rfl
theorem za13 : za 13 = AV.agg [AV.str [], AV.int IntKind.u64 0] := by kernel_rfl
theorem sh14 : Tryd.prog.stoodInHeld 14 = true := by kernel_rfl
theorem eg14 : Tryd.prog.eqGuardType Tryd.prog.depth 14 = false := by kernel_rfl
theorem za14 : za 14 = AV.agg [AV.str [], AV.int IntKind.u64 0] := by kernel_rfl
theorem za15 : za 15 = AV.lit (Value.pointer none) := by kernel_rfl
theorem za16 : za 16 = AV.lit (Value.pointer none) := by kernel_rfl
theorem za17 : za 17 = AV.lit (Value.pointer none) := by kernel_rfl
theorem za18 : za 18 = AV.agg [AV.lit (Value.pointer none)] := by kernel_rfl
theorem za19 : za 19 = AV.agg [AV.lit (Value.pointer none)] := by kernel_rfl
theorem za20 : za 20 = AV.lit Value.nilIface := by kernel_rfl
theorem kf21 : kindOf Tryd.prog 21 = some (some IntKind.i32) := by kernel_rfl
theorem sh21 : Tryd.prog.stoodInHeld 21 = false := by kernel_rfl
theorem eg21 : Tryd.prog.eqGuardType Tryd.prog.depth 21 = false := by kernel_rfl
theorem za21 : za 21 = AV.int IntKind.i32 0 := by kernel_rfl
theorem kf22 : kindOf Tryd.prog 22 = some (some IntKind.u32) := by kernel_rfl
theorem sh22 : Tryd.prog.stoodInHeld 22 = false := by kernel_rfl
theorem eg22 : Tryd.prog.eqGuardType Tryd.prog.depth 22 = false := by kernel_rfl
theorem za22 : za 22 = AV.int IntKind.u32 0 := by kernel_rfl
theorem kf23 : kindOf Tryd.prog 23 = some (some IntKind.u64) := by kernel_rfl
theorem sh23 : Tryd.prog.stoodInHeld 23 = false := by kernel_rfl
theorem eg23 : Tryd.prog.eqGuardType Tryd.prog.depth 23 = false := by kernel_rfl
theorem za23 : za 23 = AV.int IntKind.u64 0 := by kernel_rfl
theorem za24 : za 24 = AV.lit Value.nilFunc := by kernel_rfl
theorem za25 : za 25 = .lit (.slice none 0 0) := by kernel_rfl
theorem kf26 : kindOf Tryd.prog 26 = some (some IntKind.i64) := by kernel_rfl
theorem sh26 : Tryd.prog.stoodInHeld 26 = false := by kernel_rfl
theorem eg26 : Tryd.prog.eqGuardType Tryd.prog.depth 26 = false := by kernel_rfl
theorem za26 : za 26 = AV.int IntKind.i64 0 := by kernel_rfl
theorem za28 : za 28 = AV.lit Value.nilFunc := by kernel_rfl
theorem za29 : za 29 = AV.lit Value.nilFunc := by kernel_rfl
theorem za30 : za 30 = AV.lit Value.nilFunc := by kernel_rfl
theorem sh31 : Tryd.prog.stoodInHeld 31 = false := by kernel_rfl
theorem eg31 : Tryd.prog.eqGuardType Tryd.prog.depth 31 = false := by kernel_rfl
theorem za31 : za 31 = AV.agg [AV.int IntKind.i64 0, AV.str [], AV.int IntKind.i64 0, AV.int IntKind.i64 0] := by kernel_rfl
theorem sh32 : Tryd.prog.stoodInHeld 32 = false := by kernel_rfl
theorem eg32 : Tryd.prog.eqGuardType Tryd.prog.depth 32 = false := by kernel_rfl
theorem za32 : za 32 = AV.agg [AV.int IntKind.i64 0, AV.str [], AV.int IntKind.i64 0, AV.int IntKind.i64 0] := by kernel_rfl
theorem za33 : za 33 = AV.lit Value.nilFunc := by kernel_rfl
theorem za34 : za 34 = .lit (.slice none 0 0) := by kernel_rfl
theorem za35 : za 35 = .lit (.slice none 0 0) := by kernel_rfl
theorem za36 : za 36 = .lit (.slice none 0 0) := by kernel_rfl
theorem za37 : za 37 = AV.lit Value.nilFunc := by kernel_rfl
theorem za38 : za 38 = AV.lit Value.nilFunc := by kernel_rfl
theorem za39 : za 39 = AV.lit Value.nilFunc := by kernel_rfl
theorem za40 : za 40 = AV.lit Value.nilFunc := by kernel_rfl
theorem za41 : za 41 = AV.lit Value.nilFunc := by kernel_rfl
theorem za42 : za 42 = AV.lit Value.nilFunc := by kernel_rfl
theorem za43 : za 43 = AV.lit Value.nilFunc := by kernel_rfl
theorem za44 : za 44 = AV.lit Value.nilFunc := by kernel_rfl
theorem za46 : za 46 = AV.lit Value.nilFunc := by kernel_rfl
theorem za47 : za 47 = AV.lit Value.nilFunc := by kernel_rfl
theorem sh48 : Tryd.prog.stoodInHeld 48 = false := by kernel_rfl
theorem eg48 : Tryd.prog.eqGuardType Tryd.prog.depth 48 = false := by kernel_rfl
theorem sh49 : Tryd.prog.stoodInHeld 49 = false := by kernel_rfl
theorem eg49 : Tryd.prog.eqGuardType Tryd.prog.depth 49 = false := by kernel_rfl
theorem za51 : za 51 = AV.lit Value.nilFunc := by kernel_rfl
theorem za52 : za 52 = AV.lit Value.nilFunc := by kernel_rfl
theorem za53 : za 53 = AV.lit (Value.pointer none) := by kernel_rfl
theorem za54 : za 54 = AV.lit Value.nilFunc := by kernel_rfl
theorem za55 : za 55 = AV.lit Value.nilFunc := by kernel_rfl
theorem za57 : za 57 = AV.lit Value.nilFunc := by kernel_rfl
theorem za59 : za 59 = AV.lit Value.nilFunc := by kernel_rfl
theorem za60 : za 60 = AV.lit Value.nilFunc := by kernel_rfl
theorem za62 : za 62 = AV.lit Value.nilFunc := by kernel_rfl
theorem za63 : za 63 = AV.lit Value.nilFunc := by kernel_rfl
theorem za64 : za 64 = AV.lit Value.nilFunc := by kernel_rfl
theorem za65 : za 65 = AV.lit Value.nilIface := by kernel_rfl
theorem za66 : za 66 = AV.lit Value.nilIface := by kernel_rfl
theorem za68 : za 68 = AV.lit Value.nilFunc := by kernel_rfl
theorem za70 : za 70 = AV.lit Value.nilFunc := by kernel_rfl
theorem za71 : za 71 = AV.lit Value.nilFunc := by kernel_rfl
theorem za72 : za 72 = AV.lit Value.nilFunc := by kernel_rfl
theorem za73 : za 73 = AV.lit Value.nilFunc := by kernel_rfl
theorem za74 : za 74 = AV.lit Value.nilFunc := by kernel_rfl
theorem za75 : za 75 = AV.lit (Value.pointer none) := by kernel_rfl
theorem sh76 : Tryd.prog.stoodInHeld 76 = false := by kernel_rfl
theorem eg76 : Tryd.prog.eqGuardType Tryd.prog.depth 76 = false := by kernel_rfl
theorem za76 : za 76 = AV.agg [AV.lit (Value.pointer none), .lit (.slice none 0 0)] := by kernel_rfl
theorem sh77 : Tryd.prog.stoodInHeld 77 = false := by kernel_rfl
theorem eg77 : Tryd.prog.eqGuardType Tryd.prog.depth 77 = false := by kernel_rfl
theorem za77 : za 77 = AV.agg [AV.lit (Value.pointer none), .lit (.slice none 0 0)] := by kernel_rfl
theorem za78 : za 78 = AV.lit Value.nilFunc := by kernel_rfl
theorem za80 : za 80 = AV.lit Value.nilFunc := by kernel_rfl
theorem za81 : za 81 = AV.lit Value.nilFunc := by kernel_rfl
theorem za82 : za 82 = AV.lit Value.nilFunc := by kernel_rfl
theorem za83 : za 83 = AV.lit Value.nilFunc := by kernel_rfl
theorem za84 : za 84 = AV.lit Value.nilFunc := by kernel_rfl
theorem za85 : za 85 = AV.lit Value.nilFunc := by kernel_rfl
theorem sh86 : Tryd.prog.stoodInHeld 86 = false := by kernel_rfl
theorem eg86 : Tryd.prog.eqGuardType Tryd.prog.depth 86 = false := by kernel_rfl
theorem kf87 : kindOf Tryd.prog 87 = some (some IntKind.u64) := by kernel_rfl
theorem sh87 : Tryd.prog.stoodInHeld 87 = false := by kernel_rfl
theorem eg87 : Tryd.prog.eqGuardType Tryd.prog.depth 87 = false := by kernel_rfl
theorem za87 : za 87 = AV.int IntKind.u64 0 := by kernel_rfl
theorem sh88 : Tryd.prog.stoodInHeld 88 = false := by kernel_rfl
theorem eg88 : Tryd.prog.eqGuardType Tryd.prog.depth 88 = false := by kernel_rfl
theorem za88 : za 88 = AV.agg [AV.int IntKind.u8 0, AV.int IntKind.u8 0] := by kernel_rfl
theorem sh89 : Tryd.prog.stoodInHeld 89 = false := by kernel_rfl
theorem eg89 : Tryd.prog.eqGuardType Tryd.prog.depth 89 = false := by kernel_rfl
theorem za89 : za 89 = AV.agg [AV.int IntKind.u8 0, AV.int IntKind.u8 0] := by kernel_rfl
theorem sh90 : Tryd.prog.stoodInHeld 90 = false := by kernel_rfl
theorem eg90 : Tryd.prog.eqGuardType Tryd.prog.depth 90 = false := by kernel_rfl
theorem za90 : za 90 = AV.agg [AV.int IntKind.u8 0, AV.int IntKind.u8 0, AV.int IntKind.u8 0, AV.int IntKind.u8 0, AV.int IntKind.u8 0, AV.int IntKind.u8 0, AV.int IntKind.u8 0, AV.int IntKind.u8 0, AV.int IntKind.u8 0, AV.int IntKind.u8 0, AV.int IntKind.u8 0, AV.int IntKind.u8 0, AV.int IntKind.u8 0, AV.int IntKind.u8 0, AV.int IntKind.u8 0, AV.int IntKind.u8 0, AV.int IntKind.u8 0, AV.int IntKind.u8 0, AV.int IntKind.u8 0, AV.int IntKind.u8 0, AV.int IntKind.u8 0, AV.int IntKind.u8 0, AV.int IntKind.u8 0, AV.int IntKind.u8 0, AV.int IntKind.u8 0, AV.int IntKind.u8 0, AV.int IntKind.u8 0, AV.int IntKind.u8 0, AV.int IntKind.u8 0, AV.int IntKind.u8 0, AV.int IntKind.u8 0, AV.int IntKind.u8 0] := by kernel_rfl
theorem za91 : za 91 = AV.lit Value.nilFunc := by kernel_rfl
theorem za92 : za 92 = AV.lit Value.nilFunc := by kernel_rfl
theorem kf93 : kindOf Tryd.prog 93 = some (some IntKind.i64) := by kernel_rfl
theorem sh93 : Tryd.prog.stoodInHeld 93 = false := by kernel_rfl
theorem eg93 : Tryd.prog.eqGuardType Tryd.prog.depth 93 = false := by kernel_rfl
theorem za93 : za 93 = AV.int IntKind.i64 0 := by kernel_rfl
theorem za94 : za 94 = AV.lit Value.nilFunc := by kernel_rfl
theorem za95 : za 95 = AV.lit (Value.pointer none) := by kernel_rfl
theorem za96 : za 96 = AV.lit Value.nilFunc := by kernel_rfl
theorem za97 : za 97 = AV.lit Value.nilFunc := by kernel_rfl
theorem za98 : za 98 = AV.lit (Value.pointer none) := by kernel_rfl
theorem za99 : za 99 = AV.lit Value.nilFunc := by kernel_rfl
theorem za100 : za 100 = AV.lit Value.nilFunc := by kernel_rfl
theorem za101 : za 101 = AV.lit Value.nilFunc := by kernel_rfl
theorem za102 : za 102 = AV.lit Value.nilFunc := by kernel_rfl
theorem za103 : za 103 = AV.lit Value.nilFunc := by kernel_rfl
theorem sh104 : Tryd.prog.stoodInHeld 104 = false := by kernel_rfl
theorem eg104 : Tryd.prog.eqGuardType Tryd.prog.depth 104 = true := by kernel_rfl
theorem za104 : za 104 = AV.agg [AV.str [], AV.str [], AV.lit Value.nilIface] := by kernel_rfl
theorem sh105 : Tryd.prog.stoodInHeld 105 = false := by kernel_rfl
theorem eg105 : Tryd.prog.eqGuardType Tryd.prog.depth 105 = true := by kernel_rfl
theorem za105 : za 105 = AV.agg [AV.str [], AV.str [], AV.lit Value.nilIface] := by kernel_rfl
theorem za106 : za 106 = AV.lit Value.nilFunc := by kernel_rfl
theorem za107 : za 107 = AV.lit Value.nilFunc := by kernel_rfl
theorem za108 : za 108 = AV.lit (Value.pointer none) := by kernel_rfl
theorem za109 : za 109 = AV.lit Value.nilFunc := by kernel_rfl
theorem za110 : za 110 = AV.lit Value.nilFunc := by kernel_rfl
theorem za111 : za 111 = AV.lit Value.nilFunc := by kernel_rfl
theorem za113 : za 113 = AV.lit Value.nilFunc := by kernel_rfl
theorem za114 : za 114 = .lit (.slice none 0 0) := by kernel_rfl
theorem za115 : za 115 = AV.lit (Value.pointer none) := by kernel_rfl
theorem za116 : za 116 = AV.agg [AV.str []] := by kernel_rfl
theorem za117 : za 117 = AV.agg [AV.str []] := by kernel_rfl
theorem za118 : za 118 = AV.lit (Value.pointer none) := by kernel_rfl
theorem za119 : za 119 = AV.lit Value.nilFunc := by kernel_rfl
theorem za120 : za 120 = AV.lit Value.nilFunc := by kernel_rfl
theorem za122 : za 122 = AV.lit Value.nilFunc := by kernel_rfl
theorem za123 : za 123 = AV.lit Value.nilFunc := by kernel_rfl
theorem sh124 : Tryd.prog.stoodInHeld 124 = false := by kernel_rfl
theorem eg124 : Tryd.prog.eqGuardType Tryd.prog.depth 124 = false := by kernel_rfl
theorem za124 : za 124 = AV.agg [AV.int IntKind.i32 0, AV.int IntKind.i32 0, AV.int IntKind.i32 0] := by kernel_rfl
theorem sh125 : Tryd.prog.stoodInHeld 125 = false := by kernel_rfl
theorem eg125 : Tryd.prog.eqGuardType Tryd.prog.depth 125 = false := by kernel_rfl
theorem za125 : za 125 = AV.agg [AV.int IntKind.i32 0, AV.int IntKind.i32 0, AV.int IntKind.i32 0] := by kernel_rfl
theorem sh126 : Tryd.prog.stoodInHeld 126 = false := by kernel_rfl
theorem eg126 : Tryd.prog.eqGuardType Tryd.prog.depth 126 = false := by kernel_rfl
theorem za126 : za 126 = AV.agg [AV.int IntKind.u32 0, AV.int IntKind.u32 0, AV.int IntKind.i32 0, AV.int IntKind.i32 0, AV.int IntKind.i32 0] := by kernel_rfl
theorem sh127 : Tryd.prog.stoodInHeld 127 = false := by kernel_rfl
theorem eg127 : Tryd.prog.eqGuardType Tryd.prog.depth 127 = false := by kernel_rfl
theorem za127 : za 127 = AV.agg [AV.int IntKind.u32 0, AV.int IntKind.u32 0, AV.int IntKind.i32 0, AV.int IntKind.i32 0, AV.int IntKind.i32 0] := by kernel_rfl
theorem sh128 : Tryd.prog.stoodInHeld 128 = false := by kernel_rfl
theorem eg128 : Tryd.prog.eqGuardType Tryd.prog.depth 128 = false := by kernel_rfl
theorem za128 : za 128 = AV.agg [AV.int IntKind.u8 0, AV.int IntKind.u8 0, AV.int IntKind.u8 0, AV.int IntKind.u8 0, AV.int IntKind.u8 0, AV.int IntKind.u8 0, AV.int IntKind.u8 0, AV.int IntKind.u8 0, AV.int IntKind.u8 0, AV.int IntKind.u8 0, AV.int IntKind.u8 0, AV.int IntKind.u8 0, AV.int IntKind.u8 0, AV.int IntKind.u8 0, AV.int IntKind.u8 0, AV.int IntKind.u8 0, AV.int IntKind.u8 0, AV.int IntKind.u8 0, AV.int IntKind.u8 0, AV.int IntKind.u8 0, AV.int IntKind.u8 0, AV.int IntKind.u8 0, AV.int IntKind.u8 0, AV.int IntKind.u8 0] := by kernel_rfl
theorem za129 : za 129 = AV.lit Value.nilFunc := by kernel_rfl
theorem za130 : za 130 = AV.lit Value.nilFunc := by kernel_rfl
theorem za132 : za 132 = AV.lit Value.nilFunc := by kernel_rfl
theorem za133 : za 133 = AV.lit Value.nilFunc := by kernel_rfl
theorem sh134 : Tryd.prog.stoodInHeld 134 = false := by kernel_rfl
theorem eg134 : Tryd.prog.eqGuardType Tryd.prog.depth 134 = false := by kernel_rfl
theorem za134 : za 134 = AV.agg [AV.int IntKind.u64 0, AV.int IntKind.u64 0, AV.int IntKind.u64 0, AV.int IntKind.u64 0, AV.int IntKind.u64 0, AV.int IntKind.u64 0, AV.int IntKind.u64 0, AV.int IntKind.u64 0, AV.int IntKind.u64 0, AV.int IntKind.u64 0, AV.int IntKind.u64 0, AV.int IntKind.u64 0, AV.int IntKind.u64 0, AV.int IntKind.u64 0, AV.int IntKind.u64 0, AV.int IntKind.u64 0, AV.int IntKind.u64 0, AV.int IntKind.u64 0, AV.int IntKind.u64 0, AV.int IntKind.u64 0] := by kernel_rfl
theorem sh135 : Tryd.prog.stoodInHeld 135 = false := by kernel_rfl
theorem eg135 : Tryd.prog.eqGuardType Tryd.prog.depth 135 = false := by kernel_rfl
theorem za136 : za 136 = AV.lit Value.nilFunc := by kernel_rfl
theorem za137 : za 137 = AV.lit Value.nilFunc := by kernel_rfl
theorem za138 : za 138 = AV.lit Value.nilFunc := by kernel_rfl
theorem sh139 : Tryd.prog.stoodInHeld 139 = false := by kernel_rfl
theorem eg139 : Tryd.prog.eqGuardType Tryd.prog.depth 139 = false := by kernel_rfl
theorem za139 : za 139 = AV.agg [AV.int IntKind.u8 0, AV.int IntKind.u8 0, AV.int IntKind.u8 0, AV.int IntKind.u8 0, AV.int IntKind.u8 0, AV.int IntKind.u8 0, AV.int IntKind.u8 0, AV.int IntKind.u8 0, AV.int IntKind.u8 0, AV.int IntKind.u8 0, AV.int IntKind.u8 0, AV.int IntKind.u8 0, AV.int IntKind.u8 0, AV.int IntKind.u8 0, AV.int IntKind.u8 0, AV.int IntKind.u8 0, AV.int IntKind.u8 0, AV.int IntKind.u8 0, AV.int IntKind.u8 0, AV.int IntKind.u8 0, AV.int IntKind.u8 0, AV.int IntKind.u8 0, AV.int IntKind.u8 0, AV.int IntKind.u8 0, AV.int IntKind.u8 0, AV.int IntKind.u8 0, AV.int IntKind.u8 0, AV.int IntKind.u8 0, AV.int IntKind.u8 0, AV.int IntKind.u8 0, AV.int IntKind.u8 0, AV.int IntKind.u8 0] := by kernel_rfl
theorem sh140 : Tryd.prog.stoodInHeld 140 = false := by kernel_rfl
theorem eg140 : Tryd.prog.eqGuardType Tryd.prog.depth 140 = false := by kernel_rfl
theorem sh141 : Tryd.prog.stoodInHeld 141 = true := by kernel_rfl
theorem eg141 : Tryd.prog.eqGuardType Tryd.prog.depth 141 = false := by kernel_rfl
theorem za141 : za 141 = AV.agg [AV.lit (Value.pointer none), AV.lit (Value.pointer none), AV.lit (Value.pointer none), AV.str []] := by kernel_rfl
theorem sh142 : Tryd.prog.stoodInHeld 142 = true := by kernel_rfl
theorem eg142 : Tryd.prog.eqGuardType Tryd.prog.depth 142 = false := by kernel_rfl
theorem za142 : za 142 = AV.agg [AV.lit (Value.pointer none), AV.lit (Value.pointer none), AV.lit (Value.pointer none), AV.str []] := by kernel_rfl
theorem za143 : za 143 = AV.agg [] := by kernel_rfl
theorem za144 : za 144 = AV.agg [] := by kernel_rfl
theorem za145 : za 145 = AV.agg [] := by kernel_rfl
theorem kf146 : kindOf Tryd.prog 146 = some (some IntKind.u8) := by kernel_rfl
theorem sh146 : Tryd.prog.stoodInHeld 146 = false := by kernel_rfl
theorem eg146 : Tryd.prog.eqGuardType Tryd.prog.depth 146 = false := by kernel_rfl
theorem za146 : za 146 = AV.int IntKind.u8 0 := by kernel_rfl
theorem kf147 : kindOf Tryd.prog 147 = some (some IntKind.u8) := by kernel_rfl
theorem sh147 : Tryd.prog.stoodInHeld 147 = false := by kernel_rfl
theorem eg147 : Tryd.prog.eqGuardType Tryd.prog.depth 147 = false := by kernel_rfl
theorem za147 : za 147 = AV.int IntKind.u8 0 := by kernel_rfl
theorem za148 : za 148 = AV.lit Value.nilFunc := by kernel_rfl
theorem kf149 : kindOf Tryd.prog 149 = some (some IntKind.i32) := by kernel_rfl
theorem sh149 : Tryd.prog.stoodInHeld 149 = false := by kernel_rfl
theorem eg149 : Tryd.prog.eqGuardType Tryd.prog.depth 149 = false := by kernel_rfl
theorem za149 : za 149 = AV.int IntKind.i32 0 := by kernel_rfl
theorem kf150 : kindOf Tryd.prog 150 = some (some IntKind.i32) := by kernel_rfl
theorem sh150 : Tryd.prog.stoodInHeld 150 = false := by kernel_rfl
theorem eg150 : Tryd.prog.eqGuardType Tryd.prog.depth 150 = false := by kernel_rfl
theorem za150 : za 150 = AV.int IntKind.i32 0 := by kernel_rfl
theorem sh151 : Tryd.prog.stoodInHeld 151 = true := by kernel_rfl
theorem eg151 : Tryd.prog.eqGuardType Tryd.prog.depth 151 = false := by kernel_rfl
theorem za151 : za 151 = AV.agg [AV.int IntKind.u64 0, AV.int IntKind.u64 0, AV.int IntKind.u32 0, AV.int IntKind.u8 0, AV.int IntKind.u8 0, AV.int IntKind.u8 0, AV.int IntKind.u8 0, AV.lit Value.nilFunc, AV.lit (Value.pointer none), AV.int IntKind.i32 0, AV.int IntKind.i32 0] := by kernel_rfl
theorem sh152 : Tryd.prog.stoodInHeld 152 = true := by kernel_rfl
theorem eg152 : Tryd.prog.eqGuardType Tryd.prog.depth 152 = false := by kernel_rfl
theorem za152 : za 152 = AV.agg [AV.int IntKind.u64 0, AV.int IntKind.u64 0, AV.int IntKind.u32 0, AV.int IntKind.u8 0, AV.int IntKind.u8 0, AV.int IntKind.u8 0, AV.int IntKind.u8 0, AV.lit Value.nilFunc, AV.lit (Value.pointer none), AV.int IntKind.i32 0, AV.int IntKind.i32 0] := by kernel_rfl
theorem k0 : K 0 1 0 false true false := mk
theorem h0 : H 0 := hz
theorem k1 : K 1 1 8 true true false := mk
theorem h1 : H 1 := hz
theorem k2 : K 2 1 8 true false false := mk
theorem h2 : H 2 := hz
theorem k3 : K 3 1 8 true false false := mk
theorem h3 : H 3 := hz
theorem k4 : K 4 1 1 true true false := mk
theorem h4 : H 4 := hz
theorem k5 : K 5 1 1 true false false := mk
theorem h5 : H 5 := hz
theorem k6 : K 6 1 1 true false false := mk
theorem h6 : H 6 := hz
theorem k7 : K 7 4 24 true true false := mk
theorem h7 : H 7 := hz
theorem k8 : K 8 4 24 true true false := mk
theorem h8 : H 8 := hz
theorem k9 : K 9 1 16 true true false := mk
theorem h9 : H 9 := hz
theorem k10 : K 10 1 16 true true false := mk
theorem h10 : H 10 := hz
theorem k11 : K 11 1 16 true true false := mk
theorem h11 : H 11 := hz
theorem k12 : K 12 1 8 true false false := mk
theorem h12 : H 12 := hz
theorem k13 : K 13 2 24 true true false := mk
theorem h13 : H 13 := hz
theorem k14 : K 14 2 24 true true false := mk
theorem h14 : H 14 := hz
theorem k15 : K 15 1 8 true true false := mk
theorem h15 : H 15 := hz
theorem k16 : K 16 1 8 true true false := mk
theorem h16 : H 16 := hz
theorem k17 : K 17 1 8 true true false := mk
theorem h17 : H 17 := hz
theorem k18 : K 18 1 8 true true false := mk
theorem h18 : H 18 := hz
theorem k19 : K 19 1 8 true true false := mk
theorem h19 : H 19 := hz
theorem k20 : K 20 1 16 true true true := mk
theorem h20 : H 20 := hz
theorem k21 : K 21 1 4 true false false := mk
theorem h21 : H 21 := hz
theorem k22 : K 22 1 4 true false false := mk
theorem h22 : H 22 := hz
theorem k23 : K 23 1 8 true false false := mk
theorem h23 : H 23 := hz
theorem k24 : K 24 1 8 true true false := mk
theorem h24 : H 24 := hz
theorem k25 : K 25 1 24 true true false := mk
theorem h25 : H 25 := hz
theorem k26 : K 26 1 8 true false false := mk
theorem h26 : H 26 := hz
theorem k27 : K 27 1 0 false true false := mk
theorem h27 : H 27 := hz
theorem k28 : K 28 1 8 true true false := mk
theorem h28 : H 28 := hz
theorem k29 : K 29 1 8 true true false := mk
theorem h29 : H 29 := hz
theorem k30 : K 30 1 8 true true false := mk
theorem h30 : H 30 := hz
theorem k31 : K 31 4 40 true true false := mk
theorem h31 : H 31 := hz
theorem k32 : K 32 4 40 true true false := mk
theorem h32 : H 32 := hz
theorem k33 : K 33 1 8 true true false := mk
theorem h33 : H 33 := hz
theorem k34 : K 34 1 24 true true false := mk
theorem h34 : H 34 := hz
theorem k35 : K 35 1 24 true true false := mk
theorem h35 : H 35 := hz
theorem k36 : K 36 1 24 true true false := mk
theorem h36 : H 36 := hz
theorem k37 : K 37 1 8 true true false := mk
theorem h37 : H 37 := hz
theorem k38 : K 38 1 8 true true false := mk
theorem h38 : H 38 := hz
theorem k39 : K 39 1 8 true true false := mk
theorem h39 : H 39 := hz
theorem k40 : K 40 1 8 true true false := mk
theorem h40 : H 40 := hz
theorem k41 : K 41 1 8 true true false := mk
theorem h41 : H 41 := hz
theorem k42 : K 42 1 8 true true false := mk
theorem h42 : H 42 := hz
theorem k43 : K 43 1 8 true true false := mk
theorem h43 : H 43 := hz
theorem k44 : K 44 1 8 true true false := mk
theorem h44 : H 44 := hz
theorem k45 : K 45 1 0 false true false := mk
theorem h45 : H 45 := hz
theorem k46 : K 46 1 8 true true false := mk
theorem h46 : H 46 := hz
theorem k47 : K 47 1 8 true true false := mk
theorem h47 : H 47 := hz
theorem k48 : K 48 256 256 true true false := mk
theorem k49 : K 49 256 256 true true false := mk
theorem k50 : K 50 1 0 false true false := mk
theorem h50 : H 50 := hz
theorem k51 : K 51 1 8 true true false := mk
theorem h51 : H 51 := hz
theorem k52 : K 52 1 8 true true false := mk
theorem h52 : H 52 := hz
theorem k53 : K 53 1 8 true true false := mk
theorem h53 : H 53 := hz
theorem k54 : K 54 1 8 true true false := mk
theorem h54 : H 54 := hz
theorem k55 : K 55 1 8 true true false := mk
theorem h55 : H 55 := hz
theorem k56 : K 56 1 0 false true false := mk
theorem h56 : H 56 := hz
theorem k57 : K 57 1 8 true true false := mk
theorem h57 : H 57 := hz
theorem k58 : K 58 1 0 false true false := mk
theorem h58 : H 58 := hz
theorem k59 : K 59 1 8 true true false := mk
theorem h59 : H 59 := hz
theorem k60 : K 60 1 8 true true false := mk
theorem h60 : H 60 := hz
theorem k61 : K 61 1 0 false true false := mk
theorem h61 : H 61 := hz
theorem k62 : K 62 1 8 true true false := mk
theorem h62 : H 62 := hz
theorem k63 : K 63 1 8 true true false := mk
theorem h63 : H 63 := hz
theorem k64 : K 64 1 8 true true false := mk
theorem h64 : H 64 := hz
theorem k65 : K 65 1 16 true true true := mk
theorem h65 : H 65 := hz
theorem k66 : K 66 1 16 true true true := mk
theorem h66 : H 66 := hz
theorem k67 : K 67 1 0 false true false := mk
theorem h67 : H 67 := hz
theorem k68 : K 68 1 8 true true false := mk
theorem h68 : H 68 := hz
theorem k69 : K 69 1 0 false true false := mk
theorem h69 : H 69 := hz
theorem k70 : K 70 1 8 true true false := mk
theorem h70 : H 70 := hz
theorem k71 : K 71 1 8 true true false := mk
theorem h71 : H 71 := hz
theorem k72 : K 72 1 8 true true false := mk
theorem h72 : H 72 := hz
theorem k73 : K 73 1 8 true true false := mk
theorem h73 : H 73 := hz
theorem k74 : K 74 1 8 true true false := mk
theorem h74 : H 74 := hz
theorem k75 : K 75 1 8 true true false := mk
theorem h75 : H 75 := hz
theorem k76 : K 76 2 32 true true false := mk
theorem h76 : H 76 := hz
theorem k77 : K 77 2 32 true true false := mk
theorem h77 : H 77 := hz
theorem k78 : K 78 1 8 true true false := mk
theorem h78 : H 78 := hz
theorem k79 : K 79 1 0 false true false := mk
theorem h79 : H 79 := hz
theorem k80 : K 80 1 8 true true false := mk
theorem h80 : H 80 := hz
theorem k81 : K 81 1 8 true true false := mk
theorem h81 : H 81 := hz
theorem k82 : K 82 1 8 true true false := mk
theorem h82 : H 82 := hz
theorem k83 : K 83 1 8 true true false := mk
theorem h83 : H 83 := hz
theorem k84 : K 84 1 8 true true false := mk
theorem h84 : H 84 := hz
theorem k85 : K 85 1 8 true true false := mk
theorem h85 : H 85 := hz
theorem k86 : K 86 256 256 true true false := mk
theorem k87 : K 87 1 8 true false false := mk
theorem h87 : H 87 := hz
theorem k88 : K 88 2 2 true true false := mk
theorem h88 : H 88 := hz
theorem k89 : K 89 2 2 true true false := mk
theorem h89 : H 89 := hz
theorem k90 : K 90 32 32 true true false := mk
theorem h90 : H 90 := hz
theorem k91 : K 91 1 8 true true false := mk
theorem h91 : H 91 := hz
theorem k92 : K 92 1 8 true true false := mk
theorem h92 : H 92 := hz
theorem k93 : K 93 1 8 true false false := mk
theorem h93 : H 93 := hz
theorem k94 : K 94 1 8 true true false := mk
theorem h94 : H 94 := hz
theorem k95 : K 95 1 8 true true false := mk
theorem h95 : H 95 := hz
theorem k96 : K 96 1 8 true true false := mk
theorem h96 : H 96 := hz
theorem k97 : K 97 1 8 true true false := mk
theorem h97 : H 97 := hz
theorem k98 : K 98 1 8 true true false := mk
theorem h98 : H 98 := hz
theorem k99 : K 99 1 8 true true false := mk
theorem h99 : H 99 := hz
theorem k100 : K 100 1 8 true true false := mk
theorem h100 : H 100 := hz
theorem k101 : K 101 1 8 true true false := mk
theorem h101 : H 101 := hz
theorem k102 : K 102 1 8 true true false := mk
theorem h102 : H 102 := hz
theorem k103 : K 103 1 8 true true false := mk
theorem h103 : H 103 := hz
theorem k104 : K 104 3 48 true true false := mk
theorem h104 : H 104 := hz
theorem k105 : K 105 3 48 true true false := mk
theorem h105 : H 105 := hz
theorem k106 : K 106 1 8 true true false := mk
theorem h106 : H 106 := hz
theorem k107 : K 107 1 8 true true false := mk
theorem h107 : H 107 := hz
theorem k108 : K 108 1 8 true true false := mk
theorem h108 : H 108 := hz
theorem k109 : K 109 1 8 true true false := mk
theorem h109 : H 109 := hz
theorem k110 : K 110 1 8 true true false := mk
theorem h110 : H 110 := hz
theorem k111 : K 111 1 8 true true false := mk
theorem h111 : H 111 := hz
theorem k112 : K 112 1 0 false true false := mk
theorem h112 : H 112 := hz
theorem k113 : K 113 1 8 true true false := mk
theorem h113 : H 113 := hz
theorem k114 : K 114 1 24 true true false := mk
theorem h114 : H 114 := hz
theorem k115 : K 115 1 8 true true false := mk
theorem h115 : H 115 := hz
theorem k116 : K 116 1 16 true true false := mk
theorem h116 : H 116 := hz
theorem k117 : K 117 1 16 true true false := mk
theorem h117 : H 117 := hz
theorem k118 : K 118 1 8 true true false := mk
theorem h118 : H 118 := hz
theorem k119 : K 119 1 8 true true false := mk
theorem h119 : H 119 := hz
theorem k120 : K 120 1 8 true true false := mk
theorem h120 : H 120 := hz
theorem k121 : K 121 1 0 false true false := mk
theorem h121 : H 121 := hz
theorem k122 : K 122 1 8 true true false := mk
theorem h122 : H 122 := hz
theorem k123 : K 123 1 8 true true false := mk
theorem h123 : H 123 := hz
theorem k124 : K 124 3 12 true true false := mk
theorem h124 : H 124 := hz
theorem k125 : K 125 3 12 true true false := mk
theorem h125 : H 125 := hz
theorem k126 : K 126 5 20 true true false := mk
theorem h126 : H 126 := hz
theorem k127 : K 127 5 20 true true false := mk
theorem h127 : H 127 := hz
theorem k128 : K 128 24 24 true true false := mk
theorem h128 : H 128 := hz
theorem k129 : K 129 1 8 true true false := mk
theorem h129 : H 129 := hz
theorem k130 : K 130 1 8 true true false := mk
theorem h130 : H 130 := hz
theorem k131 : K 131 1 0 false true false := mk
theorem h131 : H 131 := hz
theorem k132 : K 132 1 8 true true false := mk
theorem h132 : H 132 := hz
theorem k133 : K 133 1 8 true true false := mk
theorem h133 : H 133 := hz
theorem k134 : K 134 20 160 true true false := mk
theorem h134 : H 134 := hz
theorem k135 : K 135 65 65 true true false := mk
theorem k136 : K 136 1 8 true true false := mk
theorem h136 : H 136 := hz
theorem k137 : K 137 1 8 true true false := mk
theorem h137 : H 137 := hz
theorem k138 : K 138 1 8 true true false := mk
theorem h138 : H 138 := hz
theorem k139 : K 139 32 32 true true false := mk
theorem h139 : H 139 := hz
theorem k140 : K 140 64 64 true true false := mk
theorem k141 : K 141 4 40 true true false := mk
theorem h141 : H 141 := hz
theorem k142 : K 142 4 40 true true false := mk
theorem h142 : H 142 := hz
theorem k143 : K 143 0 0 false true false := mk
theorem h143 : H 143 := hz
theorem k144 : K 144 0 0 false true false := mk
theorem h144 : H 144 := hz
theorem k145 : K 145 0 0 false true false := mk
theorem h145 : H 145 := hz
theorem k146 : K 146 1 1 true false false := mk
theorem h146 : H 146 := hz
theorem k147 : K 147 1 1 true false false := mk
theorem h147 : H 147 := hz
theorem k148 : K 148 1 8 true true false := mk
theorem h148 : H 148 := hz
theorem k149 : K 149 1 4 true false false := mk
theorem h149 : H 149 := hz
theorem k150 : K 150 1 4 true false false := mk
theorem h150 : H 150 := hz
theorem k151 : K 151 11 48 true true false := mk
theorem h151 : H 151 := hz
theorem k152 : K 152 11 48 true true false := mk
theorem h152 : H 152 := hz
attribute [push_cast] za1 kf2 sh2 eg2 za2 kf3 sh3 eg3 za3 za4 kf5 sh5 eg5 za5 kf6 sh6 eg6 za6 sh7 eg7 za7 sh8 eg8 za8 kf9 sh9 eg9 za9 kf10 sh10 eg10 za10 kf11 sh11 eg11 za11 kf12 sh12 eg12 za12 sh13 eg13 za13 sh14 eg14 za14 za15 za16 za17 za18 za19 za20 kf21 sh21 eg21 za21 kf22 sh22 eg22 za22 kf23 sh23 eg23 za23 za24 za25 kf26 sh26 eg26 za26 za28 za29 za30 sh31 eg31 za31 sh32 eg32 za32 za33 za34 za35 za36 za37 za38 za39 za40 za41 za42 za43 za44 za46 za47 sh48 eg48 sh49 eg49 za51 za52 za53 za54 za55 za57 za59 za60 za62 za63 za64 za65 za66 za68 za70 za71 za72 za73 za74 za75 sh76 eg76 za76 sh77 eg77 za77 za78 za80 za81 za82 za83 za84 za85 sh86 eg86 kf87 sh87 eg87 za87 sh88 eg88 za88 sh89 eg89 za89 sh90 eg90 za90 za91 za92 kf93 sh93 eg93 za93 za94 za95 za96 za97 za98 za99 za100 za101 za102 za103 sh104 eg104 za104 sh105 eg105 za105 za106 za107 za108 za109 za110 za111 za113 za114 za115 za116 za117 za118 za119 za120 za122 za123 sh124 eg124 za124 sh125 eg125 za125 sh126 eg126 za126 sh127 eg127 za127 sh128 eg128 za128 za129 za130 za132 za133 sh134 eg134 za134 sh135 eg135 za136 za137 za138 sh139 eg139 za139 sh140 eg140 sh141 eg141 za141 sh142 eg142 za142 za143 za144 za145 kf146 sh146 eg146 za146 kf147 sh147 eg147 za147 za148 kf149 sh149 eg149 za149 kf150 sh150 eg150 za150 sh151 eg151 za151 sh152 eg152 za152 k0 h0 k1 h1 k2 h2 k3 h3 k4 h4 k5 h5 k6 h6 k7 h7 k8 h8 k9 h9 k10 h10 k11 h11 k12 h12 k13 h13 k14 h14 k15 h15 k16 h16 k17 h17 k18 h18 k19 h19 k20 h20 k21 h21 k22 h22 k23 h23 k24 h24 k25 h25 k26 h26 k27 h27 k28 h28 k29 h29 k30 h30 k31 h31 k32 h32 k33 h33 k34 h34 k35 h35 k36 h36 k37 h37 k38 h38 k39 h39 k40 h40 k41 h41 k42 h42 k43 h43 k44 h44 k45 h45 k46 h46 k47 h47 k48 k49 k50 h50 k51 h51 k52 h52 k53 h53 k54 h54 k55 h55 k56 h56 k57 h57 k58 h58 k59 h59 k60 h60 k61 h61 k62 h62 k63 h63 k64 h64 k65 h65 k66 h66 k67 h67 k68 h68 k69 h69 k70 h70 k71 h71 k72 h72 k73 h73 k74 h74 k75 h75 k76 h76 k77 h77 k78 h78 k79 h79 k80 h80 k81 h81 k82 h82 k83 h83 k84 h84 k85 h85 k86 k87 h87 k88 h88 k89 h89 k90 h90 k91 h91 k92 h92 k93 h93 k94 h94 k95 h95 k96 h96 k97 h97 k98 h98 k99 h99 k100 h100 k101 h101 k102 h102 k103 h103 k104 h104 k105 h105 k106 h106 k107 h107 k108 h108 k109 h109 k110 h110 k111 h111 k112 h112 k113 h113 k114 h114 k115 h115 k116 h116 k117 h117 k118 h118 k119 h119 k120 h120 k121 h121 k122 h122 k123 h123 k124 h124 k125 h125 k126 h126 k127 h127 k128 h128 k129 h129 k130 h130 k131 h131 k132 h132 k133 h133 k134 h134 k135 k136 h136 k137 h137 k138 h138 k139 h139 k140 k141 h141 k142 h142 k143 h143 k144 h144 k145 h145 k146 h146 k147 h147 k148 h148 k149 h149 k150 h150 k151 h151 k152 h152 Tryd.underlying0 Tryd.underlying1 Tryd.underlying2 Tryd.underlying3 Tryd.underlying4 Tryd.underlying5 Tryd.underlying6 Tryd.underlying7 Tryd.underlying8 Tryd.underlying9 Tryd.underlying10 Tryd.underlying11 Tryd.underlying12 Tryd.underlying13 Tryd.underlying14 Tryd.underlying15 Tryd.underlying16 Tryd.underlying17 Tryd.underlying18 Tryd.underlying19 Tryd.underlying20 Tryd.underlying21 Tryd.underlying22 Tryd.underlying23 Tryd.underlying24 Tryd.underlying25 Tryd.underlying26 Tryd.underlying27 Tryd.underlying28 Tryd.underlying29 Tryd.underlying30 Tryd.underlying31 Tryd.underlying32 Tryd.underlying33 Tryd.underlying34 Tryd.underlying35 Tryd.underlying36 Tryd.underlying37 Tryd.underlying38 Tryd.underlying39 Tryd.underlying40 Tryd.underlying41 Tryd.underlying42 Tryd.underlying43 Tryd.underlying44 Tryd.underlying45 Tryd.underlying46 Tryd.underlying47 Tryd.underlying48 Tryd.underlying49 Tryd.underlying50 Tryd.underlying51 Tryd.underlying52 Tryd.underlying53 Tryd.underlying54 Tryd.underlying55 Tryd.underlying56 Tryd.underlying57 Tryd.underlying58 Tryd.underlying59 Tryd.underlying60 Tryd.underlying61 Tryd.underlying62 Tryd.underlying63 Tryd.underlying64 Tryd.underlying65 Tryd.underlying66 Tryd.underlying67 Tryd.underlying68 Tryd.underlying69 Tryd.underlying70 Tryd.underlying71 Tryd.underlying72 Tryd.underlying73 Tryd.underlying74 Tryd.underlying75 Tryd.underlying76 Tryd.underlying77 Tryd.underlying78 Tryd.underlying79 Tryd.underlying80 Tryd.underlying81 Tryd.underlying82 Tryd.underlying83 Tryd.underlying84 Tryd.underlying85 Tryd.underlying86 Tryd.underlying87 Tryd.underlying88 Tryd.underlying89 Tryd.underlying90 Tryd.underlying91 Tryd.underlying92 Tryd.underlying93 Tryd.underlying94 Tryd.underlying95 Tryd.underlying96 Tryd.underlying97 Tryd.underlying98 Tryd.underlying99 Tryd.underlying100 Tryd.underlying101 Tryd.underlying102 Tryd.underlying103 Tryd.underlying104 Tryd.underlying105 Tryd.underlying106 Tryd.underlying107 Tryd.underlying108 Tryd.underlying109 Tryd.underlying110 Tryd.underlying111 Tryd.underlying112 Tryd.underlying113 Tryd.underlying114 Tryd.underlying115 Tryd.underlying116 Tryd.underlying117 Tryd.underlying118 Tryd.underlying119 Tryd.underlying120 Tryd.underlying121 Tryd.underlying122 Tryd.underlying123 Tryd.underlying124 Tryd.underlying125 Tryd.underlying126 Tryd.underlying127 Tryd.underlying128 Tryd.underlying129 Tryd.underlying130 Tryd.underlying131 Tryd.underlying132 Tryd.underlying133 Tryd.underlying134 Tryd.underlying135 Tryd.underlying136 Tryd.underlying137 Tryd.underlying138 Tryd.underlying139 Tryd.underlying140 Tryd.underlying141 Tryd.underlying142 Tryd.underlying143 Tryd.underlying144 Tryd.underlying145 Tryd.underlying146 Tryd.underlying147 Tryd.underlying148 Tryd.underlying149 Tryd.underlying150 Tryd.underlying151 Tryd.underlying152
end Go.Proofs.YtlehfbdkjkgaeaaDoor.Ty
