/- Plain facts on numbers, bits and bytes. -/
import Derived.Test.YtmomhjmaanagaaaGreatEng12
import Derived.KernelRfl
import Derived.Laws.RangeAny
set_option linter.unusedVariables false
set_option linter.unusedSimpArgs false
namespace Go.Eng
open Go Go.Eng
theorem Z31(n:Nat)(h:n<2 ^ 64):IntKind.u64.wrap (n:Int)=(n:Int):=by simp [IntKind.wrap,IntKind.bits,IntKind.signed]; omega
theorem ZkG(x y:Nat)(hx:x<2 ^ 64)(hy:y<2 ^ 64):Z2x .or .u64 ↑x ↑y=((x ||| y:Nat):Int):=by
 show IntKind.u64.wrap (((BitVec.ofInt 64 (x:Int) ||| BitVec.ofInt 64 (y:Int)).toNat:Nat):Int)=_
 rw [BitVec.toNat_or,BitVec.ofInt_natCast,BitVec.ofInt_natCast,BitVec.toNat_ofNat,BitVec.toNat_ofNat,Nat.mod_eq_of_lt hx,Nat.mod_eq_of_lt hy]
 exact Z31 _ (Nat.or_lt_two_pow hx hy)
theorem Zjc(p:Nat→Bool)(m:Nat)(h:(List.range m).all p=true)(r:Nat)(hr:r<m):p r=true:=by
 rw [List.all_eq_true] at h; exact h r (List.mem_range.2 hr)
def low7(c:UInt8):Nat:=c.toNat % 128
theorem ZkH(c:UInt8):Z2x .and .u8 (c.toNat:Int) 127=(low7 c:Int):=by
 have h:=Zjc (fun r=>Z2x .and .u8 ↑r 127 == (r % 128:Nat)) 256 (by kernel_rfl) c.toNat c.toNat_lt
 exact eq_of_beq h
theorem Z71{l:List UInt8}{k:Nat}(h:k<l.length){d:AV}:((l.map Z03).drop k).getD 0 d=.int .u8 (l.getD k 0).toNat:=by
 simp [List.getD,h,Z03]
def accU(acc:Nat)(c:UInt8)(i:Nat):Nat:=acc+c.toNat % 128*128 ^ i
theorem Zh1(acc:Nat)(c:UInt8)(i:Nat)(ha:acc<128 ^ i)(hi:i≤4):Z2x .or .u64 ↑acc (IntKind.u64.wrap (IntKind.u64.wrap (low7 c:Int)*2 ^ (min (IntKind.i64.wrap (7*(i:Int))).toNat IntKind.u64.bits)))=(accU acc c i:Int):=by
 simp only [low7,accU]
 generalize c.toNat=c
 have hp:(128:Nat) ^ i=2 ^ (7*i):=by rw [Nat.pow_mul]
 have hle:2 ^ (7*i)≤2 ^ 28:=Nat.pow_le_pow_right (by omega) (by omega)
 have hm:c % 128<128:=Nat.mod_lt _ (by omega)
 have hw:IntKind.i64.wrap (7*(i:Int))=((7*i:Nat):Int):=by rw [Z11 _ (by omega)]; simp
 have hmul:c % 128*2 ^ (7*i)≤127*2 ^ 28:=Nat.mul_le_mul (by omega) hle
 rw [Z31 _ (by omega),hw,Int.toNat_natCast,show min (7*i) IntKind.u64.bits=7*i by simp [IntKind.bits]; omega]
 rw [show ((c % 128:Nat):Int)*2 ^ (7*i)=((c % 128*2 ^ (7*i):Nat):Int) by simp]
 rw [Z31 _ (by omega),ZkG _ _ (by omega) (by omega),hp,Nat.or_comm,←Nat.shiftLeft_eq,←Nat.shiftLeft_add_eq_or_of_lt (by omega),Nat.add_comm]
end Go.Eng