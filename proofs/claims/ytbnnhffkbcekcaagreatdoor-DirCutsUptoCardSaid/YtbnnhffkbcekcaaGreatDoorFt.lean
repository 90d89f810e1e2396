/- Facts on the types of this seat's program, printed by a program of ours. -/
import Derived.Test.YtbnnhffkbcekcaaGreatDoorFd
import Derived.Test.YtbnnhffkbcekcaaGreatDoorRows
set_option linter.unusedVariables false
set_option linter.unusedSimpArgs false
namespace Go.Proofs.YtbnnhffkbcekcaaGreatDoor.Ty
open Go Go.Eng Go.Proofs
noncomputable abbrev za(t:Nat):AV:=zeroA Tryz.prog t
abbrev K(t s b:Nat)(e r i:Bool):Prop:=Tryz.prog.cellsOf t=s∧Tryz.prog.bytesOf t=b∧(Tryz.prog.info? t).isSome=true∧Z2j Tryz.prog t=e∧Z6G Tryz.prog t=r∧Z7U Tryz.prog t=i
abbrev H(t:Nat):Prop:=Z1b Tryz.prog t
theorem mk{t s b:Nat}{e r i:Bool}(h1:Tryz.prog.cellsOf t=s:=by kernel_rfl)(h2:Tryz.prog.bytesOf t=b:=by kernel_rfl)(h3:(Tryz.prog.info? t).isSome=true:=by kernel_rfl)(h4:Z2j Tryz.prog t=e:=by kernel_rfl)(h5:Z6G Tryz.prog t=r:=by kernel_rfl)(h6:Z7U Tryz.prog t=i:=by kernel_rfl):K t s b e r i:=⟨h1,h2,h3,h4,h5,h6⟩
theorem hz{t:Nat}(h:((Tryz.prog.info? t).bind (·.zero)).isSome=true:=by kernel_rfl):H t:=h
theorem za1:za 1=AV.lit Value.nilFunc:=by kernel_rfl
theorem kf2:Z1y Tryz.prog 2=some (some IntKind.i64):=by kernel_rfl
theorem sh2:Tryz.prog.stoodInHeld 2=false:=by kernel_rfl
theorem eg2:Tryz.prog.eqGuardType Tryz.prog.depth 2=false:=by kernel_rfl
theorem za2:za 2=AV.int IntKind.i64 0:=by kernel_rfl
theorem kf3:Z1y Tryz.prog 3=some (some IntKind.i64):=by kernel_rfl
theorem sh3:Tryz.prog.stoodInHeld 3=false:=by kernel_rfl
theorem eg3:Tryz.prog.eqGuardType Tryz.prog.depth 3=false:=by kernel_rfl
theorem za3:za 3=AV.int IntKind.i64 0:=by kernel_rfl
theorem za4:za 4=AV.bool false:=by kernel_rfl
theorem kf5:Z1y Tryz.prog 5=some (some IntKind.u8):=by kernel_rfl
theorem sh5:Tryz.prog.stoodInHeld 5=false:=by kernel_rfl
theorem eg5:Tryz.prog.eqGuardType Tryz.prog.depth 5=false:=by kernel_rfl
theorem za5:za 5=AV.int IntKind.u8 0:=by kernel_rfl
theorem kf6:Z1y Tryz.prog 6=some (some IntKind.u8):=by kernel_rfl
theorem sh6:Tryz.prog.stoodInHeld 6=false:=by kernel_rfl
theorem eg6:Tryz.prog.eqGuardType Tryz.prog.depth 6=false:=by kernel_rfl
theorem za6:za 6=AV.int IntKind.u8 0:=by kernel_rfl
theorem sh7:Tryz.prog.stoodInHeld 7=false:=by kernel_rfl
theorem eg7:Tryz.prog.eqGuardType Tryz.prog.depth 7=false:=by kernel_rfl
theorem za7:za 7=AV.agg [AV.int IntKind.i64 0,AV.int IntKind.i64 0,AV.bool false,AV.int IntKind.u8 0]:=by kernel_rfl
theorem sh8:Tryz.prog.stoodInHeld 8=false:=by kernel_rfl
theorem eg8:Tryz.prog.eqGuardType Tryz.prog.depth 8=false:=by kernel_rfl
theorem za8:za 8=AV.agg [AV.int IntKind.i64 0,AV.int IntKind.i64 0,AV.bool false,AV.int IntKind.u8 0]:=by kernel_rfl
theorem kf9:Z1y Tryz.prog 9=some none:=by kernel_rfl
theorem sh9:Tryz.prog.stoodInHeld 9=false:=by kernel_rfl
theorem eg9:Tryz.prog.eqGuardType Tryz.prog.depth 9=false:=by kernel_rfl
theorem za9:za 9=AV.str []:=by kernel_rfl
theorem kf10:Z1y Tryz.prog 10=some none:=by kernel_rfl
theorem sh10:Tryz.prog.stoodInHeld 10=false:=by kernel_rfl
theorem eg10:Tryz.prog.eqGuardType Tryz.prog.depth 10=false:=by kernel_rfl
theorem za10:za 10=AV.str []:=by kernel_rfl
theorem kf11:Z1y Tryz.prog 11=some none:=by kernel_rfl
theorem sh11:Tryz.prog.stoodInHeld 11=false:=by kernel_rfl
theorem eg11:Tryz.prog.eqGuardType Tryz.prog.depth 11=false:=by kernel_rfl
theorem za11:za 11=AV.str []:=by kernel_rfl
theorem kf12:Z1y Tryz.prog 12=some (some IntKind.u64):=by kernel_rfl
theorem sh12:Tryz.prog.stoodInHeld 12=false:=by kernel_rfl
theorem eg12:Tryz.prog.eqGuardType Tryz.prog.depth 12=false:=by kernel_rfl
theorem za12:za 12=AV.int IntKind.u64 0:=by kernel_rfl
theorem za13:za 13=AV.agg [AV.str [],AV.int IntKind.u64 0]:=by kernel_rfl
theorem za14:za 14=AV.agg [AV.str [],AV.int IntKind.u64 0]:=by kernel_rfl
theorem za15:za 15=AV.lit (Value.pointer none):=by kernel_rfl
theorem za16:za 16=AV.lit (Value.pointer none):=by kernel_rfl
theorem za17:za 17=AV.lit (Value.pointer none):=by kernel_rfl
theorem za18:za 18=AV.agg [AV.lit (Value.pointer none)]:=by kernel_rfl
theorem za19:za 19=AV.agg [AV.lit (Value.pointer none)]:=by kernel_rfl
theorem za20:za 20=AV.lit Value.nilIface:=by kernel_rfl
theorem kf21:Z1y Tryz.prog 21=some (some IntKind.i32):=by kernel_rfl
theorem za21:za 21=AV.int IntKind.i32 0:=by kernel_rfl
theorem za22:za 22=.lit (.slice none 0 0):=by kernel_rfl
theorem za23:za 23=AV.lit Value.nilFunc:=by kernel_rfl
theorem za24:za 24=AV.lit (Value.pointer none):=by kernel_rfl
theorem kf25:Z1y Tryz.prog 25=some (some IntKind.i64):=by kernel_rfl
theorem sh25:Tryz.prog.stoodInHeld 25=false:=by kernel_rfl
theorem eg25:Tryz.prog.eqGuardType Tryz.prog.depth 25=false:=by kernel_rfl
theorem za25:za 25=AV.int IntKind.i64 0:=by kernel_rfl
theorem za27:za 27=AV.lit Value.nilFunc:=by kernel_rfl
theorem za28:za 28=AV.lit (Value.pointer none):=by kernel_rfl
theorem za30:za 30=AV.lit Value.nilFunc:=by kernel_rfl
theorem za32:za 32=AV.lit Value.nilFunc:=by kernel_rfl
theorem za33:za 33=AV.agg [AV.str [],AV.str []]:=by kernel_rfl
theorem za34:za 34=AV.agg [AV.str [],AV.str []]:=by kernel_rfl
theorem za35:za 35=AV.lit Value.nilFunc:=by kernel_rfl
theorem za36:za 36=AV.lit (Value.pointer none):=by kernel_rfl
theorem za38:za 38=AV.lit Value.nilFunc:=by kernel_rfl
theorem za39:za 39=AV.lit Value.nilFunc:=by kernel_rfl
theorem za40:za 40=AV.lit Value.nilFunc:=by kernel_rfl
theorem za41:za 41=AV.lit Value.nilFunc:=by kernel_rfl
theorem za43:za 43=AV.lit Value.nilFunc:=by kernel_rfl
theorem za45:za 45=.lit (.slice none 0 0):=by kernel_rfl
theorem za46:za 46=AV.lit Value.nilFunc:=by kernel_rfl
theorem za48:za 48=.lit (.slice none 0 0):=by kernel_rfl
theorem za49:za 49=AV.agg [AV.int IntKind.i64 0,AV.str [],AV.str [],AV.int IntKind.i64 0,AV.int IntKind.i64 0,AV.str []]:=by kernel_rfl
theorem za50:za 50=AV.agg [AV.int IntKind.i64 0,AV.str [],AV.str [],AV.int IntKind.i64 0,AV.int IntKind.i64 0,AV.str []]:=by kernel_rfl
theorem za51:za 51=AV.lit (Value.pointer none):=by kernel_rfl
theorem za52:za 52=AV.lit Value.nilFunc:=by kernel_rfl
theorem za53:za 53=AV.lit (Value.pointer none):=by kernel_rfl
theorem za55:za 55=AV.agg [AV.lit (Value.pointer none),AV.lit (Value.pointer none),AV.lit (Value.pointer none),AV.lit (Value.pointer none)]:=by kernel_rfl
theorem za56:za 56=AV.lit Value.nilFunc:=by kernel_rfl
theorem za57:za 57=AV.lit Value.nilFunc:=by kernel_rfl
theorem za58:za 58=.lit (.slice none 0 0):=by kernel_rfl
theorem za60:za 60=AV.agg [AV.str [],AV.int IntKind.i64 0,AV.int IntKind.i64 0]:=by kernel_rfl
theorem sh61:Tryz.prog.stoodInHeld 61=false:=by kernel_rfl
theorem eg61:Tryz.prog.eqGuardType Tryz.prog.depth 61=false:=by kernel_rfl
theorem za61:za 61=AV.agg [AV.str [],AV.int IntKind.i64 0,AV.int IntKind.i64 0]:=by kernel_rfl
theorem za63:za 63=AV.lit Value.nilFunc:=by kernel_rfl
theorem za64:za 64=AV.lit Value.nilFunc:=by kernel_rfl
theorem za65:za 65=AV.lit Value.nilFunc:=by kernel_rfl
theorem za67:za 67=AV.lit Value.nilFunc:=by kernel_rfl
theorem za68:za 68=AV.lit Value.nilFunc:=by kernel_rfl
theorem za69:za 69=AV.lit Value.nilFunc:=by kernel_rfl
theorem za70:za 70=AV.lit Value.nilFunc:=by kernel_rfl
theorem za71:za 71=AV.lit Value.nilFunc:=by kernel_rfl
theorem za72:za 72=AV.lit Value.nilFunc:=by kernel_rfl
theorem za73:za 73=AV.lit Value.nilFunc:=by kernel_rfl
theorem za74:za 74=.lit (.slice none 0 0):=by kernel_rfl
theorem za75:za 75=AV.lit Value.nilFunc:=by kernel_rfl
theorem za76:za 76=AV.lit Value.nilFunc:=by kernel_rfl
theorem za77:za 77=.lit (.slice none 0 0):=by kernel_rfl
theorem za79:za 79=AV.lit Value.nilFunc:=by kernel_rfl
theorem za80:za 80=AV.lit Value.nilFunc:=by kernel_rfl
theorem za81:za 81=AV.agg [AV.int IntKind.i64 0,AV.str [],AV.str [],AV.int IntKind.i64 0]:=by kernel_rfl
theorem za82:za 82=AV.agg [AV.int IntKind.i64 0,AV.str [],AV.str [],AV.int IntKind.i64 0]:=by kernel_rfl
theorem za83:za 83=AV.lit Value.nilFunc:=by kernel_rfl
theorem za84:za 84=AV.lit Value.nilFunc:=by kernel_rfl
theorem za85:za 85=AV.lit (Value.pointer none):=by kernel_rfl
theorem za87:za 87=AV.lit Value.nilFunc:=by kernel_rfl
theorem za89:za 89=AV.lit Value.nilFunc:=by kernel_rfl
theorem za90:za 90=AV.lit Value.nilFunc:=by kernel_rfl
theorem za91:za 91=AV.lit Value.nilFunc:=by kernel_rfl
theorem za92:za 92=AV.lit Value.nilFunc:=by kernel_rfl
theorem za93:za 93=AV.lit Value.nilFunc:=by kernel_rfl
theorem za94:za 94=AV.lit Value.nilFunc:=by kernel_rfl
theorem za95:za 95=.lit (.slice none 0 0):=by kernel_rfl
theorem za96:za 96=.lit (.slice none 0 0):=by kernel_rfl
theorem za97:za 97=AV.agg [AV.lit (Value.pointer none),.lit (.slice none 0 0),.lit (.slice none 0 0),.lit (.slice none 0 0)]:=by kernel_rfl
theorem za98:za 98=AV.agg [AV.lit (Value.pointer none),.lit (.slice none 0 0),.lit (.slice none 0 0),.lit (.slice none 0 0)]:=by kernel_rfl
theorem za99:za 99=AV.lit Value.nilFunc:=by kernel_rfl
theorem za100:za 100=AV.lit Value.nilFunc:=by kernel_rfl
theorem za101:za 101=AV.lit Value.nilFunc:=by kernel_rfl
theorem kf102:Z1y Tryz.prog 102=some (some IntKind.u32):=by kernel_rfl
theorem sh102:Tryz.prog.stoodInHeld 102=false:=by kernel_rfl
theorem eg102:Tryz.prog.eqGuardType Tryz.prog.depth 102=false:=by kernel_rfl
theorem za102:za 102=AV.int IntKind.u32 0:=by kernel_rfl
theorem za103:za 103=AV.lit Value.nilFunc:=by kernel_rfl
theorem za105:za 105=AV.lit Value.nilFunc:=by kernel_rfl
theorem za107:za 107=AV.lit Value.nilFunc:=by kernel_rfl
theorem za108:za 108=AV.lit (Value.pointer none):=by kernel_rfl
theorem za109:za 109=AV.agg [AV.lit (Value.pointer none),.lit (.slice none 0 0)]:=by kernel_rfl
theorem za110:za 110=AV.agg [AV.lit (Value.pointer none),.lit (.slice none 0 0)]:=by kernel_rfl
theorem za111:za 111=AV.lit Value.nilIface:=by kernel_rfl
theorem za114:za 114=AV.lit Value.nilFunc:=by kernel_rfl
theorem za115:za 115=AV.lit Value.nilFunc:=by kernel_rfl
theorem za116:za 116=.lit (.slice none 0 0):=by kernel_rfl
theorem za117:za 117=.lit (.slice none 0 0):=by kernel_rfl
theorem za118:za 118=AV.agg [.lit (.slice none 0 0),.lit (.slice none 0 0)]:=by kernel_rfl
theorem za119:za 119=AV.agg [.lit (.slice none 0 0),.lit (.slice none 0 0)]:=by kernel_rfl
theorem sh121:Tryz.prog.stoodInHeld 121=false:=by kernel_rfl
theorem eg121:Tryz.prog.eqGuardType Tryz.prog.depth 121=false:=by kernel_rfl
theorem za124:za 124=.lit (.slice none 0 0):=by kernel_rfl
theorem za125:za 125=AV.agg [AV.lit (Value.pointer none),.lit (.slice none 0 0),.lit (.slice none 0 0),.lit (.slice none 0 0)]:=by kernel_rfl
theorem za126:za 126=AV.agg [AV.lit (Value.pointer none),.lit (.slice none 0 0),.lit (.slice none 0 0),.lit (.slice none 0 0)]:=by kernel_rfl
theorem za127:za 127=.lit (.slice none 0 0):=by kernel_rfl
theorem za128:za 128=.lit (.slice none 0 0):=by kernel_rfl
theorem za129:za 129=AV.agg [.lit (.slice none 0 0),.lit (.slice none 0 0)]:=by kernel_rfl
theorem za130:za 130=AV.agg [.lit (.slice none 0 0),.lit (.slice none 0 0)]:=by kernel_rfl
theorem za131:za 131=AV.agg [AV.str [],AV.int IntKind.i64 0,AV.int IntKind.i64 0,.lit (.slice none 0 0)]:=by kernel_rfl
theorem za132:za 132=AV.agg [AV.str [],AV.int IntKind.i64 0,AV.int IntKind.i64 0,.lit (.slice none 0 0)]:=by kernel_rfl
theorem za133:za 133=AV.agg [AV.str [],AV.int IntKind.i64 0,AV.int IntKind.i64 0,.lit (.slice none 0 0)]:=by kernel_rfl
theorem za134:za 134=AV.agg [AV.str [],AV.int IntKind.i64 0,AV.int IntKind.i64 0,.lit (.slice none 0 0)]:=by kernel_rfl
theorem za136:za 136=AV.lit Value.nilFunc:=by kernel_rfl
theorem za137:za 137=AV.lit Value.nilFunc:=by kernel_rfl
theorem za141:za 141=AV.lit Value.nilFunc:=by kernel_rfl
theorem za143:za 143=AV.lit Value.nilFunc:=by kernel_rfl
theorem za149:za 149=AV.lit Value.nilFunc:=by kernel_rfl
theorem za151:za 151=.lit (.slice none 0 0):=by kernel_rfl
theorem za154:za 154=AV.lit Value.nilFunc:=by kernel_rfl
theorem za155:za 155=AV.lit Value.nilFunc:=by kernel_rfl
theorem za157:za 157=AV.lit Value.nilFunc:=by kernel_rfl
theorem za164:za 164=AV.agg [AV.lit Value.nilIface,AV.int IntKind.i64 0]:=by kernel_rfl
theorem za165:za 165=AV.agg [AV.lit Value.nilIface,AV.int IntKind.i64 0]:=by kernel_rfl
theorem za167:za 167=AV.lit Value.nilFunc:=by kernel_rfl
theorem za168:za 168=AV.lit Value.nilFunc:=by kernel_rfl
theorem za169:za 169=AV.lit Value.nilFunc:=by kernel_rfl
theorem za170:za 170=AV.lit Value.nilFunc:=by kernel_rfl
theorem za171:za 171=AV.lit Value.nilFunc:=by kernel_rfl
theorem za172:za 172=AV.lit (Value.pointer none):=by kernel_rfl
theorem za173:za 173=AV.lit Value.nilFunc:=by kernel_rfl
theorem za174:za 174=AV.lit (Value.pointer none):=by kernel_rfl
theorem za175:za 175=AV.lit Value.nilFunc:=by kernel_rfl
theorem za178:za 178=AV.lit Value.nilFunc:=by kernel_rfl
theorem za179:za 179=AV.lit Value.nilFunc:=by kernel_rfl
theorem za180:za 180=AV.lit Value.nilFunc:=by kernel_rfl
theorem za181:za 181=AV.lit Value.nilFunc:=by kernel_rfl
theorem za185:za 185=AV.lit Value.nilFunc:=by kernel_rfl
theorem za186:za 186=AV.lit Value.nilFunc:=by kernel_rfl
theorem za188:za 188=.lit (.slice none 0 0):=by kernel_rfl
theorem kf192:Z1y Tryz.prog 192=some (some IntKind.u64):=by kernel_rfl
theorem za192:za 192=AV.int IntKind.u64 0:=by kernel_rfl
theorem za198:za 198=AV.agg [AV.int IntKind.i64 0,AV.str []]:=by kernel_rfl
theorem sh200:Tryz.prog.stoodInHeld 200=false:=by kernel_rfl
theorem eg200:Tryz.prog.eqGuardType Tryz.prog.depth 200=false:=by kernel_rfl
theorem za200:za 200=AV.agg [AV.str [],AV.int IntKind.i64 0,AV.int IntKind.i64 0]:=by kernel_rfl
theorem za202:za 202=AV.lit Value.nilFunc:=by kernel_rfl
theorem za204:za 204=AV.lit (Value.pointer none):=by kernel_rfl
theorem za236:za 236=AV.lit (Value.pointer none):=by kernel_rfl
theorem za256:za 256=AV.agg []:=by kernel_rfl
theorem k0:K 0 1 0 false true false:=mk
theorem h0:H 0:=hz
theorem k1:K 1 1 8 true true false:=mk
theorem h1:H 1:=hz
theorem k2:K 2 1 8 true false false:=mk
theorem h2:H 2:=hz
theorem k3:K 3 1 8 true false false:=mk
theorem h3:H 3:=hz
theorem k4:K 4 1 1 true true false:=mk
theorem h4:H 4:=hz
theorem k5:K 5 1 1 true false false:=mk
theorem h5:H 5:=hz
theorem k6:K 6 1 1 true false false:=mk
theorem h6:H 6:=hz
theorem h7:H 7:=hz
theorem h8:H 8:=hz
theorem k9:K 9 1 16 true true false:=mk
theorem h9:H 9:=hz
theorem h18:H 18:=hz
theorem h19:H 19:=hz
theorem h23:H 23:=hz
theorem k24:K 24 1 8 true true false:=mk
theorem h24:H 24:=hz
theorem h25:H 25:=hz
theorem h26:H 26:=hz
theorem h27:H 27:=hz
theorem k28:K 28 1 8 true true false:=mk
theorem h29:H 29:=hz
theorem h30:H 30:=hz
theorem k31:K 31 1 0 false true false:=mk
theorem h31:H 31:=hz
theorem h32:H 32:=hz
theorem h33:H 33:=hz
theorem k34:K 34 2 32 true true false:=mk
theorem h34:H 34:=hz
theorem h35:H 35:=hz
theorem k36:K 36 1 8 true true false:=mk
theorem h36:H 36:=hz
theorem h37:H 37:=hz
theorem h41:H 41:=hz
theorem h43:H 43:=hz
theorem k45:K 45 1 24 true true false:=mk
theorem h45:H 45:=hz
theorem h49:H 49:=hz
theorem k50:K 50 6 72 true true false:=mk
theorem h51:H 51:=hz
theorem h52:H 52:=hz
theorem k53:K 53 1 8 true true false:=mk
theorem h55:H 55:=hz
theorem h56:H 56:=hz
theorem k58:K 58 1 24 true true false:=mk
theorem k61:K 61 3 32 true true false:=mk
theorem h61:H 61:=hz
theorem h62:H 62:=hz
theorem h64:H 64:=hz
theorem h67:H 67:=hz
theorem h68:H 68:=hz
theorem h69:H 69:=hz
theorem h70:H 70:=hz
theorem h71:H 71:=hz
theorem h72:H 72:=hz
theorem h73:H 73:=hz
theorem k74:K 74 1 24 true true false:=mk
theorem h74:H 74:=hz
theorem h75:H 75:=hz
theorem h76:H 76:=hz
theorem h77:H 77:=hz
theorem h78:H 78:=hz
theorem h79:H 79:=hz
theorem h80:H 80:=hz
theorem h81:H 81:=hz
theorem h82:H 82:=hz
theorem h83:H 83:=hz
theorem h84:H 84:=hz
theorem h85:H 85:=hz
theorem h86:H 86:=hz
theorem h87:H 87:=hz
theorem h89:H 89:=hz
theorem h90:H 90:=hz
theorem h91:H 91:=hz
theorem h92:H 92:=hz
theorem h94:H 94:=hz
theorem k95:K 95 1 24 true true false:=mk
theorem h95:H 95:=hz
theorem k96:K 96 1 24 true true false:=mk
theorem h96:H 96:=hz
theorem h97:H 97:=hz
theorem h98:H 98:=hz
theorem h99:H 99:=hz
theorem h103:H 103:=hz
theorem h105:H 105:=hz
theorem h106:H 106:=hz
theorem h107:H 107:=hz
theorem h108:H 108:=hz
theorem h109:H 109:=hz
theorem h110:H 110:=hz
theorem h111:H 111:=hz
theorem h113:H 113:=hz
theorem h114:H 114:=hz
theorem h115:H 115:=hz
theorem k116:K 116 1 24 true true false:=mk
theorem h116:H 116:=hz
theorem k117:K 117 1 24 true true false:=mk
theorem h118:H 118:=hz
theorem h119:H 119:=hz
theorem k121:K 121 1024 1024 true true false:=mk
theorem k123:K 123 1025 1032 true true false:=mk
theorem k124:K 124 1 24 true true false:=mk
theorem h124:H 124:=hz
theorem h125:H 125:=hz
theorem h126:H 126:=hz
theorem k127:K 127 1 24 true true false:=mk
theorem k128:K 128 1 24 true true false:=mk
theorem h129:H 129:=hz
theorem h130:H 130:=hz
theorem h131:H 131:=hz
theorem k132:K 132 4 56 true true false:=mk
theorem h132:H 132:=hz
theorem k134:K 134 4 56 true true false:=mk
theorem h134:H 134:=hz
theorem h135:H 135:=hz
theorem h136:H 136:=hz
theorem h137:H 137:=hz
theorem h139:H 139:=hz
theorem h141:H 141:=hz
theorem k151:K 151 1 24 true true false:=mk
theorem h151:H 151:=hz
theorem h156:H 156:=hz
theorem h157:H 157:=hz
theorem h164:H 164:=hz
theorem h165:H 165:=hz
theorem h166:H 166:=hz
theorem h173:H 173:=hz
theorem h178:H 178:=hz
theorem h185:H 185:=hz
theorem k198:K 198 2 24 true true false:=mk
theorem h198:H 198:=hz
theorem h200:H 200:=hz
attribute [push_cast] za1 kf2 sh2 eg2 za2 kf3 sh3 eg3 za3 za4 kf5 sh5 eg5 za5 kf6 sh6 eg6 za6 sh7 eg7 za7 sh8 eg8 za8 kf9 sh9 eg9 za9 kf10 sh10 eg10 za10 kf11 sh11 eg11 za11 kf12 sh12 eg12 za12 za13 za14 za15 za16 za17 za18 za19 za20 kf21 za21 za22 za23 za24 kf25 sh25 eg25 za25 za27 za28 za30 za32 za33 za34 za35 za36 za38 za39 za40 za41 za43 za45 za46 za48 za49 za50 za51 za52 za53 za55 za56 za57 za58 za60 sh61 eg61 za61 za63 za64 za65 za67 za68 za69 za70 za71 za72 za73 za74 za75 za76 za77 za79 za80 za81 za82 za83 za84 za85 za87 za89 za90 za91 za92 za93 za94 za95 za96 za97 za98 za99 za100 za101 kf102 sh102 eg102 za102 za103 za105 za107 za108 za109 za110 za111 za114 za115 za116 za117 za118 za119 sh121 eg121 za124 za125 za126 za127 za128 za129 za130 za131 za132 za133 za134 za136 za137 za141 za143 za149 za151 za154 za155 za157 za164 za165 za167 za168 za169 za170 za171 za172 za173 za174 za175 za178 za179 za180 za181 za185 za186 za188 kf192 za192 za198 sh200 eg200 za200 za202 za204 za236 za256 k0 h0 k1 h1 k2 h2 k3 h3 k4 h4 k5 h5 k6 h6 h7 h8 k9 h9 h18 h19 h23 k24 h24 h25 h26 h27 k28 h29 h30 k31 h31 h32 h33 k34 h34 h35 k36 h36 h37 h41 h43 k45 h45 h49 k50 h51 h52 k53 h55 h56 k58 k61 h61 h62 h64 h67 h68 h69 h70 h71 h72 h73 k74 h74 h75 h76 h77 h78 h79 h80 h81 h82 h83 h84 h85 h86 h87 h89 h90 h91 h92 h94 k95 h95 k96 h96 h97 h98 h99 h103 h105 h106 h107 h108 h109 h110 h111 h113 h114 h115 k116 h116 k117 h118 h119 k121 k123 k124 h124 h125 h126 k127 k128 h129 h130 h131 k132 h132 k134 h134 h135 h136 h137 h139 h141 k151 h151 h156 h157 h164 h165 h166 h173 h178 h185 k198 h198 h200 Tryz.underlying0 Tryz.underlying1 Tryz.underlying2 Tryz.underlying3 Tryz.underlying4 Tryz.underlying5 Tryz.underlying6 Tryz.underlying7 Tryz.underlying8 Tryz.underlying9 Tryz.underlying10 Tryz.underlying11 Tryz.underlying12 Tryz.underlying13 Tryz.underlying14 Tryz.underlying15 Tryz.underlying16 Tryz.underlying17 Tryz.underlying18 Tryz.underlying19 Tryz.underlying20 Tryz.underlying21 Tryz.underlying22 Tryz.underlying23 Tryz.underlying24 Tryz.underlying25 Tryz.underlying26 Tryz.underlying27 Tryz.underlying28 Tryz.underlying29 Tryz.underlying30 Tryz.underlying31 Tryz.underlying32 Tryz.underlying33 Tryz.underlying34 Tryz.underlying35 Tryz.underlying36 Tryz.underlying37 Tryz.underlying38 Tryz.underlying39 Tryz.underlying40 Tryz.underlying41 Tryz.underlying42 Tryz.underlying43 Tryz.underlying44 Tryz.underlying45 Tryz.underlying46 Tryz.underlying47 Tryz.underlying48 Tryz.underlying49 Tryz.underlying50 Tryz.underlying51 Tryz.underlying52 Tryz.underlying53 Tryz.underlying54 Tryz.underlying55 Tryz.underlying56 Tryz.underlying57 Tryz.underlying58 Tryz.underlying59 Tryz.underlying60 Tryz.underlying61 Tryz.underlying62 Tryz.underlying63 Tryz.underlying64 Tryz.underlying65 Tryz.underlying66 Tryz.underlying67 Tryz.underlying68 Tryz.underlying69 Tryz.underlying70 Tryz.underlying71 Tryz.underlying72 Tryz.underlying73 Tryz.underlying74 Tryz.underlying75 Tryz.underlying76 Tryz.underlying77 Tryz.underlying78 Tryz.underlying79 Tryz.underlying80 Tryz.underlying81 Tryz.underlying82 Tryz.underlying83 Tryz.underlying84 Tryz.underlying85 Tryz.underlying86 Tryz.underlying87 Tryz.underlying88 Tryz.underlying89 Tryz.underlying90 Tryz.underlying91 Tryz.underlying92 Tryz.underlying93 Tryz.underlying94 Tryz.underlying95 Tryz.underlying96 Tryz.underlying97 Tryz.underlying98 Tryz.underlying99 Tryz.underlying100 Tryz.underlying101 Tryz.underlying102 Tryz.underlying103 Tryz.underlying104 Tryz.underlying105 Tryz.underlying106 Tryz.underlying107 Tryz.underlying108 Tryz.underlying109 Tryz.underlying110 Tryz.underlying111 Tryz.underlying112 Tryz.underlying113 Tryz.underlying114 Tryz.underlying115 Tryz.underlying116 Tryz.underlying117 Tryz.underlying118 Tryz.underlying119 Tryz.underlying120 Tryz.underlying121 Tryz.underlying122 Tryz.underlying123 Tryz.underlying124 Tryz.underlying125 Tryz.underlying126 Tryz.underlying127 Tryz.underlying128 Tryz.underlying129 Tryz.underlying130 Tryz.underlying131 Tryz.underlying132 Tryz.underlying133 Tryz.underlying134 Tryz.underlying135 Tryz.underlying136 Tryz.underlying137 Tryz.underlying138 Tryz.underlying139 Tryz.underlying140 Tryz.underlying141 Tryz.underlying142 Tryz.underlying143 Tryz.underlying144 Tryz.underlying145 Tryz.underlying146 Tryz.underlying147 Tryz.underlying148 Tryz.underlying149 Tryz.underlying150 Tryz.underlying151 Tryz.underlying152 Tryz.underlying153 Tryz.underlying154 Tryz.underlying155 Tryz.underlying156 Tryz.underlying157 Tryz.underlying158 Tryz.underlying159 Tryz.underlying160 Tryz.underlying161 Tryz.underlying162 Tryz.underlying163 Tryz.underlying164 Tryz.underlying165 Tryz.underlying166 Tryz.underlying167 Tryz.underlying168 Tryz.underlying169 Tryz.underlying170 Tryz.underlying171 Tryz.underlying172 Tryz.underlying173 Tryz.underlying174 Tryz.underlying175 Tryz.underlying176 Tryz.underlying177 Tryz.underlying178 Tryz.underlying179 Tryz.underlying180 Tryz.underlying181 Tryz.underlying182 Tryz.underlying183 Tryz.underlying184 Tryz.underlying185 Tryz.underlying186 Tryz.underlying187 Tryz.underlying188 Tryz.underlying189 Tryz.underlying190 Tryz.underlying191 Tryz.underlying192 Tryz.underlying193 Tryz.underlying194 Tryz.underlying195 Tryz.underlying196 Tryz.underlying197 Tryz.underlying198 Tryz.underlying199 Tryz.underlying200 Tryz.underlying201 Tryz.underlying202 Tryz.underlying203 Tryz.underlying204 Tryz.underlying205 Tryz.underlying206 Tryz.underlying207 Tryz.underlying208 Tryz.underlying209 Tryz.underlying210 Tryz.underlying211 Tryz.underlying212 Tryz.underlying213 Tryz.underlying214 Tryz.underlying215 Tryz.underlying216 Tryz.underlying217 Tryz.underlying218 Tryz.underlying219 Tryz.underlying220 Tryz.underlying221 Tryz.underlying222 Tryz.underlying223 Tryz.underlying224 Tryz.underlying225 Tryz.underlying226 Tryz.underlying227 Tryz.underlying228 Tryz.underlying229 Tryz.underlying230 Tryz.underlying231 Tryz.underlying232 Tryz.underlying233 Tryz.underlying234 Tryz.underlying235 Tryz.underlying236 Tryz.underlying237 Tryz.underlying238 Tryz.underlying239 Tryz.underlying240 Tryz.underlying241 Tryz.underlying242 Tryz.underlying243 Tryz.underlying244 Tryz.underlying245 Tryz.underlying246 Tryz.underlying247 Tryz.underlying248 Tryz.underlying249 Tryz.underlying250 Tryz.underlying251 Tryz.underlying252 Tryz.underlying253 Tryz.underlying254 Tryz.underlying255 Tryz.underlying256 Tryz.underlying257 Tryz.underlying258 Tryz.underlying259 Tryz.underlying260 Tryz.underlying261 Tryz.underlying262 Tryz.underlying263 Tryz.underlying264 Tryz.underlying265 Tryz.underlying266 Tryz.underlying267 Tryz.underlying268
end Go.Proofs.YtbnnhffkbcekcaaGreatDoor.Ty