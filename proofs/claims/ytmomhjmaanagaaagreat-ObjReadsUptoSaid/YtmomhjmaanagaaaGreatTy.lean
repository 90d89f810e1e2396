/- Facts on the types of this seat's program, printed by a program of ours. -/
import Derived.Test.YtmomhjmaanagaaaGreatEng12
import Derived.Test.YtmomhjmaanagaaaGreatRows
set_option linter.unusedVariables false
set_option linter.unusedSimpArgs false
namespace Go.Proofs.YtmomhjmaanagaaaGreat.Ty
open Go Go.Eng Go.Proofs
noncomputable abbrev za(t:Nat):AV:=Z1u Tryz.prog t
abbrev K(t s b:Nat)(e r i:Bool):Prop:=Tryz.prog.cellsOf t=s∧Tryz.prog.bytesOf t=b∧(Tryz.prog.info? t).isSome=true∧Z3w Tryz.prog t=e∧Z6r Tryz.prog t=r∧Z7w Tryz.prog t=i
abbrev H(t:Nat):Prop:=Z1U Tryz.prog t
theorem mk{t s b:Nat}{e r i:Bool}(h1:Tryz.prog.cellsOf t=s:=by kernel_rfl)(h2:Tryz.prog.bytesOf t=b:=by kernel_rfl)(h3:(Tryz.prog.info? t).isSome=true:=by kernel_rfl)(h4:Z3w Tryz.prog t=e:=by kernel_rfl)(h5:Z6r Tryz.prog t=r:=by kernel_rfl)(h6:Z7w Tryz.prog t=i:=by kernel_rfl):K t s b e r i:=⟨h1,h2,h3,h4,h5,h6⟩
theorem hz{t:Nat}(h:((Tryz.prog.info? t).bind (·.zero)).isSome=true:=by kernel_rfl):H t:=h
theorem za1:za 1=AV.lit Value.nilFunc:=by kernel_rfl
theorem kf2:Z1l Tryz.prog 2=some (some IntKind.i64):=by kernel_rfl
theorem sh2:Tryz.prog.stoodInHeld 2=false:=by kernel_rfl
theorem eg2:Tryz.prog.eqGuardType Tryz.prog.depth 2=false:=by kernel_rfl
theorem za2:za 2=AV.int IntKind.i64 0:=by kernel_rfl
theorem kf3:Z1l Tryz.prog 3=some (some IntKind.i64):=by kernel_rfl
theorem sh3:Tryz.prog.stoodInHeld 3=false:=by kernel_rfl
theorem eg3:Tryz.prog.eqGuardType Tryz.prog.depth 3=false:=by kernel_rfl
theorem za3:za 3=AV.int IntKind.i64 0:=by kernel_rfl
theorem za4:za 4=AV.bool false:=by kernel_rfl
theorem kf5:Z1l Tryz.prog 5=some (some IntKind.u8):=by kernel_rfl
theorem sh5:Tryz.prog.stoodInHeld 5=false:=by kernel_rfl
theorem eg5:Tryz.prog.eqGuardType Tryz.prog.depth 5=false:=by kernel_rfl
theorem za5:za 5=AV.int IntKind.u8 0:=by kernel_rfl
theorem kf6:Z1l Tryz.prog 6=some (some IntKind.u8):=by kernel_rfl
theorem sh6:Tryz.prog.stoodInHeld 6=false:=by kernel_rfl
theorem eg6:Tryz.prog.eqGuardType Tryz.prog.depth 6=false:=by kernel_rfl
theorem za6:za 6=AV.int IntKind.u8 0:=by kernel_rfl
theorem sh7:Tryz.prog.stoodInHeld 7=false:=by kernel_rfl
theorem eg7:Tryz.prog.eqGuardType Tryz.prog.depth 7=false:=by kernel_rfl
theorem za7:za 7=AV.agg [AV.int IntKind.i64 0,AV.int IntKind.i64 0,AV.bool false,AV.int IntKind.u8 0]:=by kernel_rfl
theorem sh8:Tryz.prog.stoodInHeld 8=false:=by kernel_rfl
theorem eg8:Tryz.prog.eqGuardType Tryz.prog.depth 8=false:=by kernel_rfl
theorem za8:za 8=AV.agg [AV.int IntKind.i64 0,AV.int IntKind.i64 0,AV.bool false,AV.int IntKind.u8 0]:=by kernel_rfl
theorem kf9:Z1l Tryz.prog 9=some none:=by kernel_rfl
theorem sh9:Tryz.prog.stoodInHeld 9=false:=by kernel_rfl
theorem eg9:Tryz.prog.eqGuardType Tryz.prog.depth 9=false:=by kernel_rfl
theorem za9:za 9=AV.str []:=by kernel_rfl
theorem kf10:Z1l Tryz.prog 10=some none:=by kernel_rfl
theorem sh10:Tryz.prog.stoodInHeld 10=false:=by kernel_rfl
theorem eg10:Tryz.prog.eqGuardType Tryz.prog.depth 10=false:=by kernel_rfl
theorem za10:za 10=AV.str []:=by kernel_rfl
theorem kf11:Z1l Tryz.prog 11=some none:=by kernel_rfl
theorem sh11:Tryz.prog.stoodInHeld 11=false:=by kernel_rfl
theorem eg11:Tryz.prog.eqGuardType Tryz.prog.depth 11=false:=by kernel_rfl
theorem za11:za 11=AV.str []:=by kernel_rfl
theorem kf12:Z1l Tryz.prog 12=some (some IntKind.u64):=by kernel_rfl
theorem sh12:Tryz.prog.stoodInHeld 12=false:=by kernel_rfl
theorem eg12:Tryz.prog.eqGuardType Tryz.prog.depth 12=false:=by kernel_rfl
theorem za12:za 12=AV.int IntKind.u64 0:=by kernel_rfl
theorem sh13:Tryz.prog.stoodInHeld 13=true:=by kernel_rfl
theorem eg13:Tryz.prog.eqGuardType Tryz.prog.depth 13=false:=by kernel_rfl
theorem za13:za 13=AV.agg [AV.str [],AV.int IntKind.u64 0]:=by kernel_rfl
theorem sh14:Tryz.prog.stoodInHeld 14=true:=by kernel_rfl
theorem eg14:Tryz.prog.eqGuardType Tryz.prog.depth 14=false:=by kernel_rfl
theorem za14:za 14=AV.agg [AV.str [],AV.int IntKind.u64 0]:=by kernel_rfl
theorem za15:za 15=AV.lit (Value.pointer none):=by kernel_rfl
theorem za16:za 16=AV.lit (Value.pointer none):=by kernel_rfl
theorem za17:za 17=AV.lit (Value.pointer none):=by kernel_rfl
theorem za18:za 18=AV.agg [AV.lit (Value.pointer none)]:=by kernel_rfl
theorem za19:za 19=AV.agg [AV.lit (Value.pointer none)]:=by kernel_rfl
theorem za20:za 20=AV.lit Value.nilIface:=by kernel_rfl
theorem kf21:Z1l Tryz.prog 21=some (some IntKind.i32):=by kernel_rfl
theorem sh21:Tryz.prog.stoodInHeld 21=false:=by kernel_rfl
theorem eg21:Tryz.prog.eqGuardType Tryz.prog.depth 21=false:=by kernel_rfl
theorem za21:za 21=AV.int IntKind.i32 0:=by kernel_rfl
theorem za22:za 22=.lit (.slice none 0 0):=by kernel_rfl
theorem za23:za 23=AV.lit Value.nilFunc:=by kernel_rfl
theorem kf24:Z1l Tryz.prog 24=some (some IntKind.u32):=by kernel_rfl
theorem sh24:Tryz.prog.stoodInHeld 24=false:=by kernel_rfl
theorem eg24:Tryz.prog.eqGuardType Tryz.prog.depth 24=false:=by kernel_rfl
theorem za24:za 24=AV.int IntKind.u32 0:=by kernel_rfl
theorem za25:za 25=.lit (.slice none 0 0):=by kernel_rfl
theorem za26:za 26=.lit (.slice none 0 0):=by kernel_rfl
theorem za27:za 27=.lit (.slice none 0 0):=by kernel_rfl
theorem za28:za 28=.lit (.slice none 0 0):=by kernel_rfl
theorem za29:za 29=.lit (.slice none 0 0):=by kernel_rfl
theorem za30:za 30=.lit (.slice none 0 0):=by kernel_rfl
theorem za31:za 31=.lit (.slice none 0 0):=by kernel_rfl
theorem sh32:Tryz.prog.stoodInHeld 32=false:=by kernel_rfl
theorem eg32:Tryz.prog.eqGuardType Tryz.prog.depth 32=false:=by kernel_rfl
theorem za32:za 32=AV.agg [AV.str [],AV.int IntKind.u32 0,.lit (.slice none 0 0),.lit (.slice none 0 0),.lit (.slice none 0 0),.lit (.slice none 0 0),.lit (.slice none 0 0),AV.int IntKind.i64 0,.lit (.slice none 0 0),.lit (.slice none 0 0),.lit (.slice none 0 0),.lit (.slice none 0 0),.lit (.slice none 0 0)]:=by kernel_rfl
theorem sh33:Tryz.prog.stoodInHeld 33=false:=by kernel_rfl
theorem eg33:Tryz.prog.eqGuardType Tryz.prog.depth 33=false:=by kernel_rfl
theorem za33:za 33=AV.agg [AV.str [],AV.int IntKind.u32 0,.lit (.slice none 0 0),.lit (.slice none 0 0),.lit (.slice none 0 0),.lit (.slice none 0 0),.lit (.slice none 0 0),AV.int IntKind.i64 0,.lit (.slice none 0 0),.lit (.slice none 0 0),.lit (.slice none 0 0),.lit (.slice none 0 0),.lit (.slice none 0 0)]:=by kernel_rfl
theorem kf34:Z1l Tryz.prog 34=some (some IntKind.i64):=by kernel_rfl
theorem sh34:Tryz.prog.stoodInHeld 34=false:=by kernel_rfl
theorem eg34:Tryz.prog.eqGuardType Tryz.prog.depth 34=false:=by kernel_rfl
theorem za34:za 34=AV.int IntKind.i64 0:=by kernel_rfl
theorem za36:za 36=AV.lit Value.nilFunc:=by kernel_rfl
theorem za37:za 37=AV.lit Value.nilFunc:=by kernel_rfl
theorem za38:za 38=AV.lit Value.nilFunc:=by kernel_rfl
theorem za39:za 39=AV.lit Value.nilFunc:=by kernel_rfl
theorem za40:za 40=AV.lit Value.nilFunc:=by kernel_rfl
theorem za41:za 41=AV.lit Value.nilFunc:=by kernel_rfl
theorem za43:za 43=AV.lit Value.nilFunc:=by kernel_rfl
theorem za44:za 44=AV.lit Value.nilFunc:=by kernel_rfl
theorem za45:za 45=AV.lit (Value.pointer none):=by kernel_rfl
theorem sh46:Tryz.prog.stoodInHeld 46=false:=by kernel_rfl
theorem eg46:Tryz.prog.eqGuardType Tryz.prog.depth 46=false:=by kernel_rfl
theorem za46:za 46=AV.agg [.lit (.slice none 0 0),AV.int IntKind.i64 0,AV.int IntKind.i64 0]:=by kernel_rfl
theorem sh47:Tryz.prog.stoodInHeld 47=false:=by kernel_rfl
theorem eg47:Tryz.prog.eqGuardType Tryz.prog.depth 47=false:=by kernel_rfl
theorem za47:za 47=AV.agg [.lit (.slice none 0 0),AV.int IntKind.i64 0,AV.int IntKind.i64 0]:=by kernel_rfl
theorem za48:za 48=AV.lit Value.nilFunc:=by kernel_rfl
theorem za49:za 49=AV.lit Value.nilFunc:=by kernel_rfl
theorem za50:za 50=AV.lit Value.nilFunc:=by kernel_rfl
theorem za51:za 51=AV.lit (Value.pointer none):=by kernel_rfl
theorem sh52:Tryz.prog.stoodInHeld 52=false:=by kernel_rfl
theorem eg52:Tryz.prog.eqGuardType Tryz.prog.depth 52=false:=by kernel_rfl
theorem za52:za 52=AV.agg [.lit (.slice none 0 0),AV.int IntKind.i64 0,AV.int IntKind.i64 0]:=by kernel_rfl
theorem sh53:Tryz.prog.stoodInHeld 53=false:=by kernel_rfl
theorem eg53:Tryz.prog.eqGuardType Tryz.prog.depth 53=false:=by kernel_rfl
theorem za53:za 53=AV.agg [.lit (.slice none 0 0),AV.int IntKind.i64 0,AV.int IntKind.i64 0]:=by kernel_rfl
theorem za54:za 54=AV.lit Value.nilFunc:=by kernel_rfl
theorem sh55:Tryz.prog.stoodInHeld 55=false:=by kernel_rfl
theorem eg55:Tryz.prog.eqGuardType Tryz.prog.depth 55=false:=by kernel_rfl
theorem za55:za 55=AV.agg [AV.int IntKind.i64 0,AV.int IntKind.i64 0,.lit (.slice none 0 0)]:=by kernel_rfl
theorem sh56:Tryz.prog.stoodInHeld 56=false:=by kernel_rfl
theorem eg56:Tryz.prog.eqGuardType Tryz.prog.depth 56=false:=by kernel_rfl
theorem za56:za 56=AV.agg [AV.int IntKind.i64 0,AV.int IntKind.i64 0,.lit (.slice none 0 0)]:=by kernel_rfl
theorem sh57:Tryz.prog.stoodInHeld 57=false:=by kernel_rfl
theorem eg57:Tryz.prog.eqGuardType Tryz.prog.depth 57=false:=by kernel_rfl
theorem za57:za 57=AV.agg [AV.int IntKind.i64 0,AV.int IntKind.i64 0,AV.int IntKind.i64 0,AV.int IntKind.i64 0]:=by kernel_rfl
theorem sh58:Tryz.prog.stoodInHeld 58=false:=by kernel_rfl
theorem eg58:Tryz.prog.eqGuardType Tryz.prog.depth 58=false:=by kernel_rfl
theorem za58:za 58=AV.agg [AV.int IntKind.i64 0,AV.int IntKind.i64 0,AV.int IntKind.i64 0,AV.int IntKind.i64 0]:=by kernel_rfl
theorem za59:za 59=AV.lit Value.nilFunc:=by kernel_rfl
theorem sh60:Tryz.prog.stoodInHeld 60=false:=by kernel_rfl
theorem eg60:Tryz.prog.eqGuardType Tryz.prog.depth 60=false:=by kernel_rfl
theorem za60:za 60=AV.agg [AV.str [],AV.int IntKind.u32 0]:=by kernel_rfl
theorem sh61:Tryz.prog.stoodInHeld 61=false:=by kernel_rfl
theorem eg61:Tryz.prog.eqGuardType Tryz.prog.depth 61=false:=by kernel_rfl
theorem za61:za 61=AV.agg [AV.str [],AV.int IntKind.u32 0]:=by kernel_rfl
theorem za62:za 62=AV.lit Value.nilFunc:=by kernel_rfl
theorem za63:za 63=AV.lit Value.nilFunc:=by kernel_rfl
theorem za64:za 64=AV.lit Value.nilFunc:=by kernel_rfl
theorem za65:za 65=AV.lit Value.nilFunc:=by kernel_rfl
theorem za66:za 66=AV.lit Value.nilFunc:=by kernel_rfl
theorem za67:za 67=AV.lit Value.nilFunc:=by kernel_rfl
theorem za68:za 68=AV.lit Value.nilFunc:=by kernel_rfl
theorem za69:za 69=AV.lit Value.nilFunc:=by kernel_rfl
theorem za70:za 70=AV.lit Value.nilFunc:=by kernel_rfl
theorem za71:za 71=AV.lit Value.nilFunc:=by kernel_rfl
theorem za72:za 72=AV.lit Value.nilFunc:=by kernel_rfl
theorem za73:za 73=AV.lit Value.nilFunc:=by kernel_rfl
theorem za74:za 74=AV.lit Value.nilFunc:=by kernel_rfl
theorem za75:za 75=AV.lit Value.nilFunc:=by kernel_rfl
theorem za76:za 76=AV.lit Value.nilFunc:=by kernel_rfl
theorem za77:za 77=AV.lit Value.nilFunc:=by kernel_rfl
theorem za78:za 78=AV.lit Value.nilFunc:=by kernel_rfl
theorem za80:za 80=AV.lit Value.nilFunc:=by kernel_rfl
theorem kf81:Z1l Tryz.prog 81=some (some IntKind.u64):=by kernel_rfl
theorem sh81:Tryz.prog.stoodInHeld 81=false:=by kernel_rfl
theorem eg81:Tryz.prog.eqGuardType Tryz.prog.depth 81=false:=by kernel_rfl
theorem za81:za 81=AV.int IntKind.u64 0:=by kernel_rfl
theorem za83:za 83=AV.lit Value.nilFunc:=by kernel_rfl
theorem kf84:Z1l Tryz.prog 84=some (some IntKind.u64):=by kernel_rfl
theorem sh84:Tryz.prog.stoodInHeld 84=false:=by kernel_rfl
theorem eg84:Tryz.prog.eqGuardType Tryz.prog.depth 84=false:=by kernel_rfl
theorem za84:za 84=AV.int IntKind.u64 0:=by kernel_rfl
theorem za86:za 86=AV.lit Value.nilFunc:=by kernel_rfl
theorem za87:za 87=AV.lit Value.nilFunc:=by kernel_rfl
theorem za88:za 88=AV.lit Value.nilFunc:=by kernel_rfl
theorem za89:za 89=AV.lit Value.nilFunc:=by kernel_rfl
theorem za90:za 90=AV.lit Value.nilFunc:=by kernel_rfl
theorem za91:za 91=AV.lit Value.nilFunc:=by kernel_rfl
theorem za92:za 92=AV.lit Value.nilFunc:=by kernel_rfl
theorem za93:za 93=AV.lit Value.nilFunc:=by kernel_rfl
theorem za94:za 94=AV.lit Value.nilFunc:=by kernel_rfl
theorem za95:za 95=AV.lit Value.nilFunc:=by kernel_rfl
theorem za96:za 96=AV.lit Value.nilFunc:=by kernel_rfl
theorem za97:za 97=AV.lit Value.nilFunc:=by kernel_rfl
theorem za98:za 98=AV.lit Value.nilFunc:=by kernel_rfl
theorem za99:za 99=AV.lit Value.nilFunc:=by kernel_rfl
theorem za100:za 100=AV.lit Value.nilFunc:=by kernel_rfl
theorem za101:za 101=AV.lit Value.nilFunc:=by kernel_rfl
theorem za102:za 102=AV.lit (Value.map none):=by kernel_rfl
theorem za103:za 103=AV.lit Value.nilFunc:=by kernel_rfl
theorem za104:za 104=AV.lit Value.nilFunc:=by kernel_rfl
theorem za105:za 105=AV.lit Value.nilFunc:=by kernel_rfl
theorem za106:za 106=AV.lit Value.nilFunc:=by kernel_rfl
theorem za107:za 107=AV.lit Value.nilFunc:=by kernel_rfl
theorem za108:za 108=AV.lit Value.nilFunc:=by kernel_rfl
theorem za109:za 109=AV.lit Value.nilFunc:=by kernel_rfl
theorem za110:za 110=AV.lit Value.nilFunc:=by kernel_rfl
theorem za111:za 111=AV.lit Value.nilFunc:=by kernel_rfl
theorem za112:za 112=AV.lit Value.nilFunc:=by kernel_rfl
theorem za113:za 113=AV.lit Value.nilFunc:=by kernel_rfl
theorem za114:za 114=AV.lit Value.nilFunc:=by kernel_rfl
theorem za115:za 115=AV.lit Value.nilFunc:=by kernel_rfl
theorem za116:za 116=AV.lit Value.nilFunc:=by kernel_rfl
theorem za117:za 117=AV.lit Value.nilFunc:=by kernel_rfl
theorem za118:za 118=AV.lit Value.nilFunc:=by kernel_rfl
theorem za119:za 119=AV.lit Value.nilFunc:=by kernel_rfl
theorem za120:za 120=AV.lit Value.nilFunc:=by kernel_rfl
theorem za121:za 121=AV.lit Value.nilFunc:=by kernel_rfl
theorem za122:za 122=AV.lit Value.nilFunc:=by kernel_rfl
theorem za123:za 123=AV.lit Value.nilFunc:=by kernel_rfl
theorem za124:za 124=AV.lit Value.nilFunc:=by kernel_rfl
theorem za125:za 125=AV.lit Value.nilFunc:=by kernel_rfl
theorem kf126:Z1l Tryz.prog 126=some (some IntKind.i64):=by kernel_rfl
theorem sh126:Tryz.prog.stoodInHeld 126=false:=by kernel_rfl
theorem eg126:Tryz.prog.eqGuardType Tryz.prog.depth 126=false:=by kernel_rfl
theorem za126:za 126=AV.int IntKind.i64 0:=by kernel_rfl
theorem za128:za 128=AV.lit Value.nilFunc:=by kernel_rfl
theorem za129:za 129=AV.lit Value.nilFunc:=by kernel_rfl
theorem za130:za 130=AV.lit Value.nilFunc:=by kernel_rfl
theorem za131:za 131=AV.lit Value.nilFunc:=by kernel_rfl
theorem za133:za 133=AV.lit Value.nilFunc:=by kernel_rfl
theorem za134:za 134=AV.lit Value.nilFunc:=by kernel_rfl
theorem kf135:Z1l Tryz.prog 135=some (some IntKind.u64):=by kernel_rfl
theorem sh135:Tryz.prog.stoodInHeld 135=false:=by kernel_rfl
theorem eg135:Tryz.prog.eqGuardType Tryz.prog.depth 135=false:=by kernel_rfl
theorem za135:za 135=AV.int IntKind.u64 0:=by kernel_rfl
theorem za136:za 136=AV.lit Value.nilFunc:=by kernel_rfl
theorem za137:za 137=AV.lit Value.nilFunc:=by kernel_rfl
theorem za138:za 138=AV.lit Value.nilFunc:=by kernel_rfl
theorem za139:za 139=AV.lit (Value.pointer none):=by kernel_rfl
theorem za140:za 140=AV.lit Value.nilFunc:=by kernel_rfl
theorem za141:za 141=AV.lit (Value.pointer none):=by kernel_rfl
theorem za143:za 143=AV.lit Value.nilFunc:=by kernel_rfl
theorem sh144:Tryz.prog.stoodInHeld 144=true:=by kernel_rfl
theorem eg144:Tryz.prog.eqGuardType Tryz.prog.depth 144=false:=by kernel_rfl
theorem za144:za 144=AV.agg [AV.lit (Value.pointer none),AV.lit (Value.pointer none),AV.lit (Value.pointer none),AV.str []]:=by kernel_rfl
theorem sh145:Tryz.prog.stoodInHeld 145=true:=by kernel_rfl
theorem eg145:Tryz.prog.eqGuardType Tryz.prog.depth 145=false:=by kernel_rfl
theorem za145:za 145=AV.agg [AV.lit (Value.pointer none),AV.lit (Value.pointer none),AV.lit (Value.pointer none),AV.str []]:=by kernel_rfl
theorem za146:za 146=AV.agg []:=by kernel_rfl
theorem za147:za 147=AV.agg []:=by kernel_rfl
theorem za148:za 148=AV.agg []:=by kernel_rfl
theorem kf149:Z1l Tryz.prog 149=some (some IntKind.u8):=by kernel_rfl
theorem sh149:Tryz.prog.stoodInHeld 149=false:=by kernel_rfl
theorem eg149:Tryz.prog.eqGuardType Tryz.prog.depth 149=false:=by kernel_rfl
theorem za149:za 149=AV.int IntKind.u8 0:=by kernel_rfl
theorem kf150:Z1l Tryz.prog 150=some (some IntKind.u8):=by kernel_rfl
theorem sh150:Tryz.prog.stoodInHeld 150=false:=by kernel_rfl
theorem eg150:Tryz.prog.eqGuardType Tryz.prog.depth 150=false:=by kernel_rfl
theorem za150:za 150=AV.int IntKind.u8 0:=by kernel_rfl
theorem za151:za 151=AV.lit Value.nilFunc:=by kernel_rfl
theorem za152:za 152=AV.lit (Value.pointer none):=by kernel_rfl
theorem kf153:Z1l Tryz.prog 153=some (some IntKind.i32):=by kernel_rfl
theorem sh153:Tryz.prog.stoodInHeld 153=false:=by kernel_rfl
theorem eg153:Tryz.prog.eqGuardType Tryz.prog.depth 153=false:=by kernel_rfl
theorem za153:za 153=AV.int IntKind.i32 0:=by kernel_rfl
theorem kf154:Z1l Tryz.prog 154=some (some IntKind.i32):=by kernel_rfl
theorem sh154:Tryz.prog.stoodInHeld 154=false:=by kernel_rfl
theorem eg154:Tryz.prog.eqGuardType Tryz.prog.depth 154=false:=by kernel_rfl
theorem za154:za 154=AV.int IntKind.i32 0:=by kernel_rfl
theorem sh155:Tryz.prog.stoodInHeld 155=true:=by kernel_rfl
theorem eg155:Tryz.prog.eqGuardType Tryz.prog.depth 155=false:=by kernel_rfl
theorem za155:za 155=AV.agg [AV.int IntKind.u64 0,AV.int IntKind.u64 0,AV.int IntKind.u32 0,AV.int IntKind.u8 0,AV.int IntKind.u8 0,AV.int IntKind.u8 0,AV.int IntKind.u8 0,AV.lit Value.nilFunc,AV.lit (Value.pointer none),AV.int IntKind.i32 0,AV.int IntKind.i32 0]:=by kernel_rfl
theorem sh156:Tryz.prog.stoodInHeld 156=true:=by kernel_rfl
theorem eg156:Tryz.prog.eqGuardType Tryz.prog.depth 156=false:=by kernel_rfl
theorem za156:za 156=AV.agg [AV.int IntKind.u64 0,AV.int IntKind.u64 0,AV.int IntKind.u32 0,AV.int IntKind.u8 0,AV.int IntKind.u8 0,AV.int IntKind.u8 0,AV.int IntKind.u8 0,AV.lit Value.nilFunc,AV.lit (Value.pointer none),AV.int IntKind.i32 0,AV.int IntKind.i32 0]:=by kernel_rfl
theorem za157:za 157=AV.lit (Value.pointer none):=by kernel_rfl
theorem k0:K 0 1 0 false true false:=mk
theorem h0:H 0:=hz
theorem k1:K 1 1 8 true true false:=mk
theorem h1:H 1:=hz
theorem k2:K 2 1 8 true false false:=mk
theorem h2:H 2:=hz
theorem k3:K 3 1 8 true false false:=mk
theorem h3:H 3:=hz
theorem k4:K 4 1 1 true true false:=mk
theorem h4:H 4:=hz
theorem k5:K 5 1 1 true false false:=mk
theorem h5:H 5:=hz
theorem k6:K 6 1 1 true false false:=mk
theorem h6:H 6:=hz
theorem h7:H 7:=hz
theorem h8:H 8:=hz
theorem k9:K 9 1 16 true true false:=mk
theorem h9:H 9:=hz
theorem h10:H 10:=hz
theorem h11:H 11:=hz
theorem h12:H 12:=hz
theorem h17:H 17:=hz
theorem h18:H 18:=hz
theorem h19:H 19:=hz
theorem h20:H 20:=hz
theorem h21:H 21:=hz
theorem k22:K 22 1 24 true true false:=mk
theorem h22:H 22:=hz
theorem k23:K 23 1 8 true true false:=mk
theorem h23:H 23:=hz
theorem k24:K 24 1 4 true false false:=mk
theorem h24:H 24:=hz
theorem k25:K 25 1 24 true true false:=mk
theorem h25:H 25:=hz
theorem k26:K 26 1 24 true true false:=mk
theorem h26:H 26:=hz
theorem k27:K 27 1 24 true true false:=mk
theorem h27:H 27:=hz
theorem k28:K 28 1 24 true true false:=mk
theorem h28:H 28:=hz
theorem k29:K 29 1 24 true true false:=mk
theorem h29:H 29:=hz
theorem k30:K 30 1 24 true true false:=mk
theorem h30:H 30:=hz
theorem k31:K 31 1 24 true true false:=mk
theorem h31:H 31:=hz
theorem k32:K 32 13 272 true true false:=mk
theorem h32:H 32:=hz
theorem k33:K 33 13 272 true true false:=mk
theorem h33:H 33:=hz
theorem k34:K 34 1 8 true false false:=mk
theorem h34:H 34:=hz
theorem k35:K 35 1 0 false true false:=mk
theorem h35:H 35:=hz
theorem k36:K 36 1 8 true true false:=mk
theorem h36:H 36:=hz
theorem k37:K 37 1 8 true true false:=mk
theorem h37:H 37:=hz
theorem k38:K 38 1 8 true true false:=mk
theorem h38:H 38:=hz
theorem k39:K 39 1 8 true true false:=mk
theorem h39:H 39:=hz
theorem k40:K 40 1 8 true true false:=mk
theorem h40:H 40:=hz
theorem k41:K 41 1 8 true true false:=mk
theorem h41:H 41:=hz
theorem h42:H 42:=hz
theorem h43:H 43:=hz
theorem h44:H 44:=hz
theorem h45:H 45:=hz
theorem h46:H 46:=hz
theorem h47:H 47:=hz
theorem h48:H 48:=hz
theorem h49:H 49:=hz
theorem h50:H 50:=hz
theorem h51:H 51:=hz
theorem h52:H 52:=hz
theorem h53:H 53:=hz
theorem h54:H 54:=hz
theorem h55:H 55:=hz
theorem k56:K 56 3 40 true true false:=mk
theorem h56:H 56:=hz
theorem h57:H 57:=hz
theorem k58:K 58 4 32 true true false:=mk
theorem h58:H 58:=hz
theorem h59:H 59:=hz
theorem h60:H 60:=hz
theorem k61:K 61 2 24 true true false:=mk
theorem h61:H 61:=hz
theorem h62:H 62:=hz
theorem h63:H 63:=hz
theorem h64:H 64:=hz
theorem h65:H 65:=hz
theorem h66:H 66:=hz
theorem h67:H 67:=hz
theorem h68:H 68:=hz
theorem h69:H 69:=hz
theorem k70:K 70 1 8 true true false:=mk
theorem h70:H 70:=hz
theorem k71:K 71 1 8 true true false:=mk
theorem h71:H 71:=hz
theorem k72:K 72 1 8 true true false:=mk
theorem h72:H 72:=hz
theorem h73:H 73:=hz
theorem h74:H 74:=hz
theorem h75:H 75:=hz
theorem h76:H 76:=hz
theorem h77:H 77:=hz
theorem h78:H 78:=hz
theorem h79:H 79:=hz
theorem h80:H 80:=hz
theorem h81:H 81:=hz
theorem h82:H 82:=hz
theorem h83:H 83:=hz
theorem h84:H 84:=hz
theorem h85:H 85:=hz
theorem h86:H 86:=hz
theorem h87:H 87:=hz
theorem h88:H 88:=hz
theorem h89:H 89:=hz
theorem h90:H 90:=hz
theorem h91:H 91:=hz
theorem h92:H 92:=hz
theorem h93:H 93:=hz
theorem h94:H 94:=hz
theorem h95:H 95:=hz
theorem h96:H 96:=hz
theorem h97:H 97:=hz
theorem h98:H 98:=hz
theorem h99:H 99:=hz
theorem k102:K 102 1 8 true true false:=mk
theorem h102:H 102:=hz
theorem h103:H 103:=hz
attribute [push_cast] za1 kf2 sh2 eg2 za2 kf3 sh3 eg3 za3 za4 kf5 sh5 eg5 za5 kf6 sh6 eg6 za6 sh7 eg7 za7 sh8 eg8 za8 kf9 sh9 eg9 za9 kf10 sh10 eg10 za10 kf11 sh11 eg11 za11 kf12 sh12 eg12 za12 sh13 eg13 za13 sh14 eg14 za14 za15 za16 za17 za18 za19 za20 kf21 sh21 eg21 za21 za22 za23 kf24 sh24 eg24 za24 za25 za26 za27 za28 za29 za30 za31 sh32 eg32 za32 sh33 eg33 za33 kf34 sh34 eg34 za34 za36 za37 za38 za39 za40 za41 za43 za44 za45 sh46 eg46 za46 sh47 eg47 za47 za48 za49 za50 za51 sh52 eg52 za52 sh53 eg53 za53 za54 sh55 eg55 za55 sh56 eg56 za56 sh57 eg57 za57 sh58 eg58 za58 za59 sh60 eg60 za60 sh61 eg61 za61 za62 za63 za64 za65 za66 za67 za68 za69 za70 za71 za72 za73 za74 za75 za76 za77 za78 za80 kf81 sh81 eg81 za81 za83 kf84 sh84 eg84 za84 za86 za87 za88 za89 za90 za91 za92 za93 za94 za95 za96 za97 za98 za99 za100 za101 za102 za103 za104 za105 za106 za107 za108 za109 za110 za111 za112 za113 za114 za115 za116 za117 za118 za119 za120 za121 za122 za123 za124 za125 kf126 sh126 eg126 za126 za128 za129 za130 za131 za133 za134 kf135 sh135 eg135 za135 za136 za137 za138 za139 za140 za141 za143 sh144 eg144 za144 sh145 eg145 za145 za146 za147 za148 kf149 sh149 eg149 za149 kf150 sh150 eg150 za150 za151 za152 kf153 sh153 eg153 za153 kf154 sh154 eg154 za154 sh155 eg155 za155 sh156 eg156 za156 za157 k0 h0 k1 h1 k2 h2 k3 h3 k4 h4 k5 h5 k6 h6 h7 h8 k9 h9 h10 h11 h12 h17 h18 h19 h20 h21 k22 h22 k23 h23 k24 h24 k25 h25 k26 h26 k27 h27 k28 h28 k29 h29 k30 h30 k31 h31 k32 h32 k33 h33 k34 h34 k35 h35 k36 h36 k37 h37 k38 h38 k39 h39 k40 h40 k41 h41 h42 h43 h44 h45 h46 h47 h48 h49 h50 h51 h52 h53 h54 h55 k56 h56 h57 k58 h58 h59 h60 k61 h61 h62 h63 h64 h65 h66 h67 h68 h69 k70 h70 k71 h71 k72 h72 h73 h74 h75 h76 h77 h78 h79 h80 h81 h82 h83 h84 h85 h86 h87 h88 h89 h90 h91 h92 h93 h94 h95 h96 h97 h98 h99 k102 h102 h103 Tryz.underlying0 Tryz.underlying1 Tryz.underlying2 Tryz.underlying3 Tryz.underlying4 Tryz.underlying5 Tryz.underlying6 Tryz.underlying7 Tryz.underlying8 Tryz.underlying9 Tryz.underlying10 Tryz.underlying11 Tryz.underlying12 Tryz.underlying13 Tryz.underlying14 Tryz.underlying15 Tryz.underlying16 Tryz.underlying17 Tryz.underlying18 Tryz.underlying19 Tryz.underlying20 Tryz.underlying21 Tryz.underlying22 Tryz.underlying23 Tryz.underlying24 Tryz.underlying25 Tryz.underlying26 Tryz.underlying27 Tryz.underlying28 Tryz.underlying29 Tryz.underlying30 Tryz.underlying31 Tryz.underlying32 Tryz.underlying33 Tryz.underlying34 Tryz.underlying35 Tryz.underlying36 Tryz.underlying37 Tryz.underlying38 Tryz.underlying39 Tryz.underlying40 Tryz.underlying41 Tryz.underlying42 Tryz.underlying43 Tryz.underlying44 Tryz.underlying45 Tryz.underlying46 Tryz.underlying47 Tryz.underlying48 Tryz.underlying49 Tryz.underlying50 Tryz.underlying51 Tryz.underlying52 Tryz.underlying53 Tryz.underlying54 Tryz.underlying55 Tryz.underlying56 Tryz.underlying57 Tryz.underlying58 Tryz.underlying59 Tryz.underlying60 Tryz.underlying61 Tryz.underlying62 Tryz.underlying63 Tryz.underlying64 Tryz.underlying65 Tryz.underlying66 Tryz.underlying67 Tryz.underlying68 Tryz.underlying69 Tryz.underlying70 Tryz.underlying71 Tryz.underlying72 Tryz.underlying73 Tryz.underlying74 Tryz.underlying75 Tryz.underlying76 Tryz.underlying77 Tryz.underlying78 Tryz.underlying79 Tryz.underlying80 Tryz.underlying81 Tryz.underlying82 Tryz.underlying83 Tryz.underlying84 Tryz.underlying85 Tryz.underlying86 Tryz.underlying87 Tryz.underlying88 Tryz.underlying89 Tryz.underlying90 Tryz.underlying91 Tryz.underlying92 Tryz.underlying93 Tryz.underlying94 Tryz.underlying95 Tryz.underlying96 Tryz.underlying97 Tryz.underlying98 Tryz.underlying99 Tryz.underlying100 Tryz.underlying101 Tryz.underlying102 Tryz.underlying103 Tryz.underlying104 Tryz.underlying105 Tryz.underlying106 Tryz.underlying107 Tryz.underlying108 Tryz.underlying109 Tryz.underlying110 Tryz.underlying111 Tryz.underlying112 Tryz.underlying113 Tryz.underlying114 Tryz.underlying115 Tryz.underlying116 Tryz.underlying117 Tryz.underlying118 Tryz.underlying119 Tryz.underlying120 Tryz.underlying121 Tryz.underlying122 Tryz.underlying123 Tryz.underlying124 Tryz.underlying125 Tryz.underlying126 Tryz.underlying127 Tryz.underlying128 Tryz.underlying129 Tryz.underlying130 Tryz.underlying131 Tryz.underlying132 Tryz.underlying133 Tryz.underlying134 Tryz.underlying135 Tryz.underlying136 Tryz.underlying137 Tryz.underlying138 Tryz.underlying139 Tryz.underlying140 Tryz.underlying141 Tryz.underlying142 Tryz.underlying143 Tryz.underlying144 Tryz.underlying145 Tryz.underlying146 Tryz.underlying147 Tryz.underlying148 Tryz.underlying149 Tryz.underlying150 Tryz.underlying151 Tryz.underlying152 Tryz.underlying153 Tryz.underlying154 Tryz.underlying155 Tryz.underlying156 Tryz.underlying157
end Go.Proofs.YtmomhjmaanagaaaGreat.Ty