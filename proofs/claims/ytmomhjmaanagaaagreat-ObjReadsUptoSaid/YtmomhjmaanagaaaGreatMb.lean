/- Parts of the walk through objects. Conditions stand in each. -/
import Derived.Test.YtmomhjmaanagaaaGreatOBB
import Derived.Test.YtmomhjmaanagaaaGreatOY
import Derived.Test.YtmomhjmaanagaaaGreatEng20
set_option linter.unusedVariables false
set_option linter.unusedSimpArgs false
set_option maxRecDepth 100000
set_option maxHeartbeats 4000000
section
namespace Go.Proofs.YtmomhjmaanagaaaGreat.objDone
open Go Go.Eng Go.Proofs
open Go.Proofs.YtmomhjmaanagaaaGreat.objNumbersDone (Z1r okR valR Z3d Z7b Z7Q okT Z8z Z4B Z1R Z3X Z3Y)
structure Rd where
 b:Z04
 at_:Int
 bad:Int
 deriving Inhabited
def Rd.c(r:Rd):List AV:=[.sl (r.b.map Z03) r.b.length,.int .i64 r.at_,.int .i64 r.bad]
instance:Z1t Rd.c:=⟨fun x=>by simp only [Rd.c,Z1D,Z0H,Z1d,Bool.and_self],fun x=>rfl⟩
instance:Z2C Rd.c 3:=⟨fun _=>rfl⟩
theorem Rd.g0(r:Rd)(d:AV):r.c.getD 0 d=.sl (r.b.map Z03) r.b.length:=rfl
theorem Rd.g1(r:Rd)(d:AV):r.c.getD 1 d=.int .i64 r.at_:=rfl
theorem Rd.g2(r:Rd)(d:AV):r.c.getD 2 d=.int .i64 r.bad:=rfl
attribute [push_cast] Rd.g0 Rd.g1 Rd.g2
theorem Rd.inj(a b:Rd)(h:a.c=b.c):a=b:=by
 cases a; cases b
 simp only [Rd.c,List.cons.injEq,AV.int.injEq,AV.sl.injEq,true_and,and_true,Z0g] at h
 obtain⟨⟨rfl,_⟩,rfl,rfl⟩:=h
 rfl
theorem Z0V{a b:Rd}:a.c=b.c↔a=b:=⟨Rd.inj a b,fun h=>by rw [h]⟩
structure Rd.ok(r:Rd):Prop where
 len:r.b.length≤4194304
 lo:0≤r.at_
 hi:r.at_≤r.b.length
def Rd.to(r:Rd)(n:Int):Rd:={ r with at_:=n }
def Rd.ill(r:Rd):Rd:={ r with bad:=r.at_ }
theorem Rd.sto(r:Rd)(n:Int):List.take 1 r.c++[AV.int .i64 n]++List.drop 2 r.c=(r.to n).c:=rfl
theorem Rd.sill(r:Rd):List.take 2 r.c++[AV.int .i64 r.at_]=r.ill.c:=rfl
def tookM(r:Rd)(n:Int)(k:Bool):Bool×Rd:=if 0≤r.bad then (false,r) else if k then (true,r.to n) else (false,r.ill)
theorem Rd.to_b(r:Rd)(n:Int):(r.to n).b=r.b:=rfl
theorem Rd.to_at(r:Rd)(n:Int):(r.to n).at_=n:=rfl
theorem Z8I{r:Rd}{n:Int}{k:Bool}(h:(tookM r n k).1=true):r.bad<0∧k=true∧(tookM r n k).2=r.to n:=by
 unfold tookM at h ⊢
 split at h
 ·cases h
 ·rename_i h0
  cases k with
  | false=>cases h
  | true=>rw [if_neg h0]; exact⟨by omega,rfl,rfl⟩
theorem Z5D{r:Rd}(hr:r.ok){n:Int}{k:Bool}(h:k=true→0≤n∧n≤r.b.length):(tookM r n k).2.ok∧(tookM r n k).2.b=r.b:=by
 unfold tookM
 split
 ·exact⟨hr,rfl⟩
 ·split
  ·rename_i hk; exact⟨⟨hr.len,(h hk).1,(h hk).2⟩,rfl⟩
  ·exact⟨⟨hr.len,hr.lo,hr.hi⟩,rfl⟩
def e49:(Rd)×(Int)×(Bool)→List AV×Heap:=fun (r,n,k)=>([.ref 0 0 0,.int .i64 n,.bool k],[.row r.c 3 0])
def p49:(Rd)×(Int)×(Bool)→Prop:=fun (r,n,k)=>True
def r49:(Rd)×(Int)×(Bool)→AV:=fun (r,n,k)=>.bool (tookM r n k).1
def g49:(Rd)×(Int)×(Bool)→Heap:=fun (r,n,k)=>[.row (tookM r n k).2.c 3 0]
theorem inj49:∀a b,e49 a=e49 b→a=b:=by
 rintro⟨r,n,k⟩ ⟨r',n',k'⟩ h
 simp only [e49,Z0f,Z0h,Z0i,Z0g,Z0V,Prod.mk.injEq,List.cons.injEq,Z0L.row.injEq,AV.int.injEq,AV.str.injEq,AV.bool.injEq,AV.sl.injEq,AV.agg.injEq,AV.ip.injEq,AV.fn.injEq,AV.ifc.injEq,AV.mpr.injEq,AV.msl.injEq,AV.ref.injEq,Int.natCast_inj,and_true,true_and] at h
 simp_all only
noncomputable def S49:Z0n:=Z1I false e49 p49 r49 g49
theorem ps49(r:(Rd))(n:(Int))(k:(Bool)):Z1p e49 p49 ([.ref 0 0 0,.int .i64 n,.bool k],[.row r.c 3 0])=(True):=Z0x inj49 p49 (r,n,k)
theorem rs49(r:(Rd))(n:(Int))(k:(Bool)):Z0A e49 r49 .any ([.ref 0 0 0,.int .i64 n,.bool k],[.row r.c 3 0])=(.bool (tookM r n k).1):=Z09 inj49 r49 .any (r,n,k)
theorem hs49(r:(Rd))(n:(Int))(k:(Bool)):Z0A e49 g49 [] ([.ref 0 0 0,.int .i64 n,.bool k],[.row r.c 3 0])=([.row (tookM r n k).2.c 3 0]):=Z09 inj49 g49 [] (r,n,k)
attribute [push_cast] S49 ps49 rs49 hs49
theorem body49(Γ:Env)(r:Rd)(n:Int)(k:Bool):Z0a Tryz.prog Γ Tryz.f15 [.ref 0 0 0,.int .i64 n,.bool k] [.row r.c 3 0] (.bool (tookM r n k).1) [.row (tookM r n k).2.c 3 0]:=by
 (intro X hP hΓ hL hfin; refine⟨_,rfl,?_⟩; rw [show Tryz.f15.ntmps=25 from rfl]; rw [show Tryz.f15.results.toList=[.tmp 6] from rfl] at hfin; apply holds_of_ex X 400; simp (maxSteps:=1000000) only [push_cast,reduceCtorEq,Nat.reduceAdd,Nat.reduceMul,Nat.reduceSub,Nat.reduceBEq,Nat.reduceGT,Nat.reduceLT,Int.toNat_zero,Nat.reduceLeDiff,Int.reduceEq,Int.reduceLT,Int.reduceLE,hP,hΓ,hL,hfin,↓Z00,String.reduceEq,not_false_eq_true,if_true,Rd.sto,Rd.sill,Rd.to_b,Rd.to_at])
 ((with_reducible refine Z02 (fun h=>?_) (fun h=>?_)) <;> (try simp only [decide_eq_true_eq,decide_eq_false_iff_not,Bool.and_eq_true,Bool.or_eq_true,Bool.and_eq_false_iff,Bool.or_eq_false_iff,Bool.not_eq_true',Bool.not_eq_false',Bool.not_eq_true,Bool.not_eq_false,Int.not_lt,Int.not_le,beq_iff_eq,beq_eq_false_iff_ne,ne_eq,win_t,win_f] at h))
 ·((first | with_reducible refine holds_of_ex X 400 _ _ _ ?_ | skip); simp (maxSteps:=1000000) only [push_cast,reduceCtorEq,Nat.reduceAdd,Nat.reduceMul,Nat.reduceSub,Nat.reduceBEq,Nat.reduceGT,Nat.reduceLT,Int.toNat_zero,Nat.reduceLeDiff,Int.reduceEq,Int.reduceLT,Int.reduceLE,hP,hΓ,hL,hfin,↓Z00,String.reduceEq,not_false_eq_true,if_true,Rd.sto,Rd.sill,Rd.to_b,Rd.to_at])
  rw [show tookM r n k=(false,r) by rw [tookM,if_pos h]]
  exact Z06.sameA
 ((first | with_reducible refine holds_of_ex X 400 _ _ _ ?_ | skip); simp (maxSteps:=1000000) only [push_cast,reduceCtorEq,Nat.reduceAdd,Nat.reduceMul,Nat.reduceSub,Nat.reduceBEq,Nat.reduceGT,Nat.reduceLT,Int.toNat_zero,Nat.reduceLeDiff,Int.reduceEq,Int.reduceLT,Int.reduceLE,hP,hΓ,hL,hfin,↓Z00,String.reduceEq,not_false_eq_true,if_true,Rd.sto,Rd.sill,Rd.to_b,Rd.to_at])
 cases k with
 | false=>
  ((first | with_reducible refine holds_of_ex X 400 _ _ _ ?_ | skip); simp (maxSteps:=1000000) only [push_cast,reduceCtorEq,Nat.reduceAdd,Nat.reduceMul,Nat.reduceSub,Nat.reduceBEq,Nat.reduceGT,Nat.reduceLT,Int.toNat_zero,Nat.reduceLeDiff,Int.reduceEq,Int.reduceLT,Int.reduceLE,hP,hΓ,hL,hfin,↓Z00,String.reduceEq,not_false_eq_true,if_true,Rd.sto,Rd.sill,Rd.to_b,Rd.to_at])
  rw [show tookM r n false=(false,r.ill) by rw [tookM,if_neg (by omega)]; rfl]
  exact Z06.sameA
 | true=>
  ((first | with_reducible refine holds_of_ex X 400 _ _ _ ?_ | skip); simp (maxSteps:=1000000) only [push_cast,reduceCtorEq,Nat.reduceAdd,Nat.reduceMul,Nat.reduceSub,Nat.reduceBEq,Nat.reduceGT,Nat.reduceLT,Int.toNat_zero,Nat.reduceLeDiff,Int.reduceEq,Int.reduceLT,Int.reduceLE,hP,hΓ,hL,hfin,↓Z00,String.reduceEq,not_false_eq_true,if_true,Rd.sto,Rd.sill,Rd.to_b,Rd.to_at])
  rw [show tookM r n true=(true,r.to n) by rw [tookM,if_neg (by omega)]; rfl]
  exact Z06.sameA
theorem con49{Γ:Env}(h:Z07 Tryz.prog Γ):Con Tryz.prog 15 S49:=
 Z0v h (fn:=Tryz.f15) (by kernel_rfl) rfl (by kernel_rfl) inj49 fun ⟨r,n,k⟩ h=>body49 Γ r n k
theorem Z7P(x:Option (Nat×Nat)):0≤valR x∧valR x<4294967296:=by
 unfold valR
 split
 ·split <;> omega
 ·omega
def ZeI(r:Rd)(most:Int):Bool×Rd:=tookM r (objNumbersDone.nextR r.at_ (Z1r r.b r.at_)) (okR (Z1r r.b r.at_) && decide (valR (Z1r r.b r.at_)≤most))
def Z1m(r:Rd)(most:Int):Int×Rd:=(if (ZeI r most).1 then valR (Z1r r.b r.at_) else 0,(ZeI r most).2)
def e90:(Rd)×(Int)→List AV×Heap:=fun (r,m)=>([.ref 0 0 0,.int .u32 m],[.row r.c 3 0])
def p90:(Rd)×(Int)→Prop:=fun (r,m)=>r.ok
def r90:(Rd)×(Int)→AV:=fun (r,m)=>.int .i64 (Z1m r m).1
def g90:(Rd)×(Int)→Heap:=fun (r,m)=>[.row (Z1m r m).2.c 3 0]
theorem inj90:∀a b,e90 a=e90 b→a=b:=by
 rintro⟨r,m⟩ ⟨r',m'⟩ h
 simp only [e90,Z0f,Z0h,Z0i,Z0g,Z0V,Prod.mk.injEq,List.cons.injEq,Z0L.row.injEq,AV.int.injEq,AV.str.injEq,AV.bool.injEq,AV.sl.injEq,AV.agg.injEq,AV.ip.injEq,AV.fn.injEq,AV.ifc.injEq,AV.mpr.injEq,AV.msl.injEq,AV.ref.injEq,Int.natCast_inj,and_true,true_and] at h
 simp_all only
noncomputable def S90:Z0n:=Z1I false e90 p90 r90 g90
theorem ps90(r:(Rd))(m:(Int)):Z1p e90 p90 ([.ref 0 0 0,.int .u32 m],[.row r.c 3 0])=(r.ok):=Z0x inj90 p90 (r,m)
theorem rs90(r:(Rd))(m:(Int)):Z0A e90 r90 .any ([.ref 0 0 0,.int .u32 m],[.row r.c 3 0])=(.int .i64 (Z1m r m).1):=Z09 inj90 r90 .any (r,m)
theorem hs90(r:(Rd))(m:(Int)):Z0A e90 g90 [] ([.ref 0 0 0,.int .u32 m],[.row r.c 3 0])=([.row (Z1m r m).2.c 3 0]):=Z09 inj90 g90 [] (r,m)
attribute [push_cast] S90 ps90 rs90 hs90
theorem body90(Γ:Env)(h10:Γ 52=some Z3d)(h49:Γ 15=some S49)(r:Rd)(m:Int)(hr:r.ok):Z0a Tryz.prog Γ Tryz.f45 [.ref 0 0 0,.int .u32 m] [.row r.c 3 0] (.int .i64 (Z1m r m).1) [.row (Z1m r m).2.c 3 0]:=by
 have hl:=hr.len
 have hB:(objNumbersDone.BIG:Nat)=140737488355328:=rfl
 (intro X hP hΓ hL hfin; refine⟨_,rfl,?_⟩; rw [show Tryz.f45.ntmps=33 from rfl]; rw [show Tryz.f45.results.toList=[.tmp 4] from rfl] at hfin; apply holds_of_ex X 400; simp (maxSteps:=1000000) only [push_cast,reduceCtorEq,Nat.reduceAdd,Nat.reduceMul,Nat.reduceSub,Nat.reduceBEq,Nat.reduceGT,Nat.reduceLT,Int.toNat_zero,Nat.reduceLeDiff,Int.reduceEq,Int.reduceLT,Int.reduceLE,hP,hΓ,hL,hfin,↓Z00,String.reduceEq,not_false_eq_true,if_true,Rd.sto,Rd.sill,Rd.to_b,Rd.to_at,h10,h49])
 (refine Holds.drawnQ (by rw [hP]; kernel_rfl) (by kernel_rfl) ?_; simp (maxSteps:=1000000) only [push_cast,reduceCtorEq,Nat.reduceAdd,Nat.reduceMul,Nat.reduceSub,Nat.reduceBEq,Nat.reduceGT,Nat.reduceLT,Int.toNat_zero,Nat.reduceLeDiff,Int.reduceEq,Int.reduceLT,Int.reduceLE,hP,hΓ,hL,hfin,↓Z00,String.reduceEq,not_false_eq_true,if_true,Rd.sto,Rd.sill,Rd.to_b,Rd.to_at,h10,h49])
 refine⟨⟨own_row _,by rw [hB]; omega⟩,?_⟩
 ((with_reducible refine Z02 (fun h=>?_) (fun h=>?_)) <;> (try simp only [decide_eq_true_eq,decide_eq_false_iff_not,Bool.and_eq_true,Bool.or_eq_true,Bool.and_eq_false_iff,Bool.or_eq_false_iff,Bool.not_eq_true',Bool.not_eq_false',Bool.not_eq_true,Bool.not_eq_false,Int.not_lt,Int.not_le,beq_iff_eq,beq_eq_false_iff_ne,ne_eq,win_t,win_f] at h))
 ·((first | with_reducible refine holds_of_ex X 400 _ _ _ ?_ | skip); simp (maxSteps:=1000000) only [push_cast,reduceCtorEq,Nat.reduceAdd,Nat.reduceMul,Nat.reduceSub,Nat.reduceBEq,Nat.reduceGT,Nat.reduceLT,Int.toNat_zero,Nat.reduceLeDiff,Int.reduceEq,Int.reduceLT,Int.reduceLE,hP,hΓ,hL,hfin,↓Z00,String.reduceEq,not_false_eq_true,if_true,Rd.sto,Rd.sill,Rd.to_b,Rd.to_at])
  rw [show Z1m r m=(0,(ZeI r m).2) by rw [Z1m,ZeI,if_neg (by simp [h])]]
  exact Z06.sameA
 ·have hv:=Z7P (Z1r r.b r.at_)
  ((first | with_reducible refine holds_of_ex X 400 _ _ _ ?_ | skip); simp (maxSteps:=1000000) only [push_cast,reduceCtorEq,Nat.reduceAdd,Nat.reduceMul,Nat.reduceSub,Nat.reduceBEq,Nat.reduceGT,Nat.reduceLT,Int.toNat_zero,Nat.reduceLeDiff,Int.reduceEq,Int.reduceLT,Int.reduceLE,hP,hΓ,hL,hfin,↓Z00,String.reduceEq,not_false_eq_true,if_true,Rd.sto,Rd.sill,Rd.to_b,Rd.to_at,Z0c (valR (Z1r r.b r.at_)) (by constructor <;> omega)])
  rw [show Z1m r m=(valR (Z1r r.b r.at_),(ZeI r m).2) by rw [Z1m,ZeI,if_pos h]]
  exact Z06.sameA
theorem con90{Γ:Env}(h:Z07 Tryz.prog Γ)(h10:Γ 52=some Z3d)(h49:Γ 15=some S49):Con Tryz.prog 45 S90:=
 Z0v h (fn:=Tryz.f45) (by kernel_rfl) rfl (by kernel_rfl) inj90 fun ⟨r,m⟩ h=>body90 Γ h10 h49 r m h
def leN:Z04→Nat
 | []=>0
 | c::r=>c.toNat+256*leN r
theorem Z8g:∀l:Z04,leN l<256 ^ l.length
 | []=>by simp [leN]
 | c::r=>by have:=Z8g r; have:=c.toNat_lt; simp only [leN,List.length_cons,Nat.pow_succ]; omega
theorem Zf0(l:Z04)(k:Nat)(h:k<l.length):leN (l.take (k+1))=leN (l.take k)+(l.getD k 0).toNat*256 ^ k:=by
 induction l generalizing k with
 | nil=>simp at h
 | cons c r ih=>
  cases k with
  | zero=>simp [leN]
  | succ k=>
   have:=ih k (by simpa using h)
   simp only [List.take_succ_cons,leN,this,List.getD_cons_succ,Nat.pow_succ]
   rw [Nat.mul_add,Nat.add_assoc,Nat.mul_comm (256 ^ k) 256,←Nat.mul_assoc,←Nat.mul_assoc,Nat.mul_comm 256 (r.getD k 0).toNat]
theorem Zf1(l:Z04)(k:Nat)(h:k<l.length)(hk:k<4) :
  Z2x .or .u32 ↑(leN (l.take k)) (IntKind.u32.wrap (IntKind.u32.wrap ((l.getD k 0).toNat:Int)*2 ^ (min (IntKind.i64.wrap (8*(k:Int))).toNat IntKind.u32.bits)))=(leN (l.take (k+1)):Int):=by
 rw [Zf0 l k h]
 have ha:leN (l.take k)<256 ^ k:=by have:=Z8g (l.take k); rwa [List.length_take,Nat.min_eq_left (by omega)] at this
 have hc:=(l.getD k 0).toNat_lt
 generalize (l.getD k 0).toNat=c at hc
 generalize leN (l.take k)=acc at ha
 have hp:(256:Nat) ^ k=2 ^ (8*k):=by rw [Nat.pow_mul]
 have hle:2 ^ (8*k)≤2 ^ 24:=Nat.pow_le_pow_right (by omega) (by omega)
 have hw:IntKind.i64.wrap (8*(k:Int))=((8*k:Nat):Int):=by rw [Z0c _ (by constructor <;> omega)]; simp
 have hmul:c*2 ^ (8*k)≤255*2 ^ 24:=Nat.mul_le_mul (by omega) hle
 have w32:∀n:Nat,n<2 ^ 32→IntKind.u32.wrap (n:Int)=(n:Int):=fun n hn=>by simp [IntKind.wrap,IntKind.bits,IntKind.signed]; omega
 rw [w32 _ (by omega),hw,Int.toNat_natCast,show min (8*k) IntKind.u32.bits=8*k by simp [IntKind.bits]; omega]
 rw [show (c:Int)*2 ^ (8*k)=((c*2 ^ (8*k):Nat):Int) by simp]
 rw [w32 _ (by omega)]
 have e:Z2x .or .u32 (acc:Int) ((c*2 ^ (8*k):Nat):Int)=((acc ||| c*2 ^ (8*k):Nat):Int):=by
  show IntKind.u32.wrap (((BitVec.ofInt 32 (acc:Int) ||| BitVec.ofInt 32 ((c*2 ^ (8*k):Nat):Int)).toNat:Nat):Int)=_
  rw [BitVec.toNat_or,BitVec.ofInt_natCast,BitVec.ofInt_natCast,BitVec.toNat_ofNat,BitVec.toNat_ofNat,Nat.mod_eq_of_lt (by omega),Nat.mod_eq_of_lt (by omega)]
  exact w32 _ (Nat.or_lt_two_pow (by omega) (by omega))
 rw [e,hp,Nat.or_comm,←Nat.shiftLeft_eq,←Nat.shiftLeft_add_eq_or_of_lt (by omega),Nat.add_comm]
def e74:(Z04)×(Nat)→List AV:=fun (l,n)=>[.sl (l.map Z03) n]
def p74:(Z04)×(Nat)→Prop:=fun (l,n)=>n=l.length∧l.length=4
def r74:(Z04)×(Nat)→AV:=fun (l,n)=>.int .u32 (leN l)
def g74:(Z04)×(Nat)→Heap:=fun (l,n)=>[]
theorem inj74:∀a b,e74 a=e74 b→a=b:=by
 rintro⟨l,n⟩ ⟨l',n'⟩ h
 simp only [e74,Z0f,Z0h,Z0i,Z0g,Z0V,List.cons.injEq,AV.int.injEq,AV.str.injEq,AV.bool.injEq,AV.sl.injEq,AV.agg.injEq,AV.ip.injEq,AV.fn.injEq,AV.ifc.injEq,AV.mpr.injEq,Int.natCast_inj,and_true,true_and] at h
 simp_all only
noncomputable def S74:Z0n:=Z2V e74 p74 r74 g74 true
theorem ps74(l:(Z04))(n:(Nat)):Z1J e74 p74 [.sl (l.map Z03) n]=(n=l.length∧l.length=4):=Z0j inj74 p74 (l,n)
theorem rs74(l:(Z04))(n:(Nat)):Z10 e74 r74 .any [.sl (l.map Z03) n]=(.int .u32 (leN l)):=Z08 inj74 r74 .any (l,n)
theorem hs74(l:(Z04))(n:(Nat)):Z10 e74 g74 [] [.sl (l.map Z03) n]=([]):=Z08 inj74 g74 [] (l,n)
attribute [push_cast] S74 ps74 rs74 hs74
theorem body74(Γ:Env)(l:Z04)(hl:l.length=4):Z0a Tryz.prog Γ Tryz.f29 (e74 (l,l.length)) [] (.int .u32 (leN l)) []:=by
 (intro X hP hΓ hL hfin; refine⟨_,rfl,?_⟩; rw [show Tryz.f29.ntmps=22 from rfl]; rw [show Tryz.f29.results.toList=[.tmp 2] from rfl] at hfin; apply holds_of_ex X 400; simp (maxSteps:=1000000) only [push_cast,reduceCtorEq,Nat.reduceAdd,Nat.reduceMul,Nat.reduceSub,Nat.reduceBEq,Nat.reduceGT,Nat.reduceLT,Int.toNat_zero,Nat.reduceLeDiff,Int.reduceEq,Int.reduceLT,Int.reduceLE,hP,hΓ,hL,hfin,↓Z00,String.reduceEq,not_false_eq_true,if_true,Rd.sto,Rd.sill,Rd.to_b,Rd.to_at,e74])
 refine Holds.loopM (ι:={k:Nat // k≤l.length}) [true,false,true,false,false,false,true,false,false,false,false,false,false,false,false,false,false,false,false,false,false,false] (fun i=>[(3,.int .u32 (leN (l.take i.1))),(7,.int .i64 i.1)]) (fun i=>[]) (fun i=>l.length - i.1) ⟨0,Nat.zero_le _⟩ ?_ ?_
 ·(rw [hL]; simp only [push_cast,Int.natCast_zero,List.take_zero,leN]; exact Z06.sameA)
 rintro⟨k,hk⟩
 ((first | with_reducible refine holds_of_ex X 400 _ _ _ ?_ | skip); simp (maxSteps:=1000000) only [push_cast,reduceCtorEq,Nat.reduceAdd,Nat.reduceMul,Nat.reduceSub,Nat.reduceBEq,Nat.reduceGT,Nat.reduceLT,Int.toNat_zero,Nat.reduceLeDiff,Int.reduceEq,Int.reduceLT,Int.reduceLE,hP,hΓ,hL,hfin,↓Z00,String.reduceEq,not_false_eq_true,if_true,Rd.sto,Rd.sill,Rd.to_b,Rd.to_at])
 ((with_reducible refine Z02 (fun h=>?_) (fun h=>?_)) <;> (try simp only [decide_eq_true_eq,decide_eq_false_iff_not,Bool.and_eq_true,Bool.or_eq_true,Bool.and_eq_false_iff,Bool.or_eq_false_iff,Bool.not_eq_true',Bool.not_eq_false',Bool.not_eq_true,Bool.not_eq_false,Int.not_lt,Int.not_le,beq_iff_eq,beq_eq_false_iff_ne,ne_eq,win_t,win_f] at h))
 ·have hk':k<l.length:=by omega
  ((first | with_reducible refine holds_of_ex X 400 _ _ _ ?_ | skip); simp (maxSteps:=1000000) only [push_cast,reduceCtorEq,Nat.reduceAdd,Nat.reduceMul,Nat.reduceSub,Nat.reduceBEq,Nat.reduceGT,Nat.reduceLT,Int.toNat_zero,Nat.reduceLeDiff,Int.reduceEq,Int.reduceLT,Int.reduceLE,hP,hΓ,hL,hfin,↓Z00,String.reduceEq,not_false_eq_true,if_true,Rd.sto,Rd.sill,Rd.to_b,Rd.to_at,hk',Zf1 l k hk' (by omega),Z0c ((k:Int)+1) (by constructor <;> omega)])
  refine⟨h,by omega,by rw [Z0c _ (by constructor <;> omega)]; omega,?_⟩
  (refine⟨⟨k+1,hk'⟩,by (try simp only [List.length_cons,List.length_append,List.length_nil]); omega,?_⟩; (try rw [hL]); (try simp only [push_cast,Int.natCast_zero]); first | (exact Z06.sameA) | (exact Z06.keep0A) | (exact Z06.keep1A) | (exact Z06.keep2A) | (exact Z06.keep3A))
 ((first | with_reducible refine holds_of_ex X 400 _ _ _ ?_ | skip); simp (maxSteps:=1000000) only [push_cast,reduceCtorEq,Nat.reduceAdd,Nat.reduceMul,Nat.reduceSub,Nat.reduceBEq,Nat.reduceGT,Nat.reduceLT,Int.toNat_zero,Nat.reduceLeDiff,Int.reduceEq,Int.reduceLT,Int.reduceLE,hP,hΓ,hL,hfin,↓Z00,String.reduceEq,not_false_eq_true,if_true,Rd.sto,Rd.sill,Rd.to_b,Rd.to_at])
 obtain rfl:k=l.length:=by omega
 rw [List.take_length]
 exact Z06.sameA
theorem con74{Γ:Env}(h:Z07 Tryz.prog Γ):Con Tryz.prog 29 S74:=
 Z0t h (fn:=Tryz.f29) (by kernel_rfl) rfl (by kernel_rfl) inj74 (by first | (intro h; cases h; done) | exact fun _ _=>rfl) fun ⟨l,n⟩ h=>by obtain⟨rfl,h⟩:=h; exact body74 Γ l h
def Z7x(l:Z04)(a:Int):Bool:=decide (0≤a∧a+4≤l.length)
def Z6q(l:Z04)(a:Int):Int:=if Z7x l a then leN ((l.take (a+4).toNat).drop a.toNat) else 0
def e47:(Z04)×(Nat)×(Int)→List AV:=fun (l,n,a)=>[.sl (l.map Z03) n,.int .i64 a]
def p47:(Z04)×(Nat)×(Int)→Prop:=fun (l,n,a)=>n=l.length∧l.length≤4194304
def r47:(Z04)×(Nat)×(Int)→AV:=fun (l,n,a)=>.tup [.int .u32 (Z6q l a),.bool (Z7x l a)]
def g47:(Z04)×(Nat)×(Int)→Heap:=fun (l,n,a)=>[]
theorem inj47:∀a b,e47 a=e47 b→a=b:=by
 rintro⟨l,n,a⟩ ⟨l',n',a'⟩ h
 simp only [e47,Z0f,Z0h,Z0i,Z0g,Z0V,List.cons.injEq,AV.int.injEq,AV.str.injEq,AV.bool.injEq,AV.sl.injEq,AV.agg.injEq,AV.ip.injEq,AV.fn.injEq,AV.ifc.injEq,AV.mpr.injEq,Int.natCast_inj,and_true,true_and] at h
 simp_all only
noncomputable def S47:Z0n:=Z2V e47 p47 r47 g47 true
theorem Zkg(l:(Z04))(n:(Nat))(a:(Int)):Z1J e47 p47 [.sl (l.map Z03) n,.int .i64 a]=(n=l.length∧l.length≤4194304):=Z0j inj47 p47 (l,n,a)
theorem ZjV(l:(Z04))(n:(Nat))(a:(Int)):Z10 e47 r47 .any [.sl (l.map Z03) n,.int .i64 a]=(.tup [.int .u32 (Z6q l a),.bool (Z7x l a)]):=Z08 inj47 r47 .any (l,n,a)
theorem ZkP(l:(Z04))(n:(Nat))(a:(Int)):Z10 e47 g47 [] [.sl (l.map Z03) n,.int .i64 a]=([]):=Z08 inj47 g47 [] (l,n,a)
attribute [push_cast] S47 Zkg ZjV ZkP
theorem body47(Γ:Env)(h74:Γ 29=some S74)(l:Z04)(a:Int)(hl:l.length≤4194304):Z0a Tryz.prog Γ Tryz.f12 (e47 (l,l.length,a)) [] (.tup [.int .u32 (Z6q l a),.bool (Z7x l a)]) []:=by
 (intro X hP hΓ hL hfin; refine⟨_,rfl,?_⟩; rw [show Tryz.f12.ntmps=21 from rfl]; rw [show Tryz.f12.results.toList=[.tmp 4,.tmp 5] from rfl] at hfin; apply holds_of_ex X 400; simp (maxSteps:=1000000) only [push_cast,reduceCtorEq,Nat.reduceAdd,Nat.reduceMul,Nat.reduceSub,Nat.reduceBEq,Nat.reduceGT,Nat.reduceLT,Int.toNat_zero,Nat.reduceLeDiff,Int.reduceEq,Int.reduceLT,Int.reduceLE,hP,hΓ,hL,hfin,↓Z00,String.reduceEq,not_false_eq_true,if_true,Rd.sto,Rd.sill,Rd.to_b,Rd.to_at,e47,h74,Z0c ((l.length:Int) - 4) (by constructor <;> omega)])
 ((with_reducible refine Z02 (fun h=>?_) (fun h=>?_)) <;> (try simp only [decide_eq_true_eq,decide_eq_false_iff_not,Bool.and_eq_true,Bool.or_eq_true,Bool.and_eq_false_iff,Bool.or_eq_false_iff,Bool.not_eq_true',Bool.not_eq_false',Bool.not_eq_true,Bool.not_eq_false,Int.not_lt,Int.not_le,beq_iff_eq,beq_eq_false_iff_ne,ne_eq,win_t,win_f] at h))
 ·have hk:Z7x l a=false:=by simp only [Z7x,decide_eq_false_iff_not]; omega
  ((first | with_reducible refine holds_of_ex X 400 _ _ _ ?_ | skip); simp (maxSteps:=1000000) only [push_cast,reduceCtorEq,Nat.reduceAdd,Nat.reduceMul,Nat.reduceSub,Nat.reduceBEq,Nat.reduceGT,Nat.reduceLT,Int.toNat_zero,Nat.reduceLeDiff,Int.reduceEq,Int.reduceLT,Int.reduceLE,hP,hΓ,hL,hfin,↓Z00,String.reduceEq,not_false_eq_true,if_true,Rd.sto,Rd.sill,Rd.to_b,Rd.to_at])
  rw [show Z6q l a=0 by rw [Z6q,hk]; rfl,hk]
  exact Z06.sameA
 have hk:Z7x l a=true:=by simp only [Z7x,decide_eq_true_eq]; omega
 ((first | with_reducible refine holds_of_ex X 400 _ _ _ ?_ | skip); simp (maxSteps:=1000000) only [push_cast,reduceCtorEq,Nat.reduceAdd,Nat.reduceMul,Nat.reduceSub,Nat.reduceBEq,Nat.reduceGT,Nat.reduceLT,Int.toNat_zero,Nat.reduceLeDiff,Int.reduceEq,Int.reduceLT,Int.reduceLE,hP,hΓ,hL,hfin,↓Z00,String.reduceEq,not_false_eq_true,if_true,Rd.sto,Rd.sill,Rd.to_b,Rd.to_at,h74,Z0c (a+4) (by constructor <;> omega),←List.map_take,←List.map_drop])
 refine⟨⟨by omega,by omega,by omega,by omega⟩,⟨by omega,by omega⟩,?_⟩
 rw [show Z6q l a=leN ((l.take (a+4).toNat).drop a.toNat) by rw [Z6q,hk]; rfl,hk]
 exact Z06.sameA
theorem con47{Γ:Env}(h:Z07 Tryz.prog Γ)(h74:Γ 29=some S74):Con Tryz.prog 12 S47:=
 Z0t h (fn:=Tryz.f12) (by kernel_rfl) rfl (by kernel_rfl) inj47 (by first | (intro h; cases h; done) | exact fun _ _=>rfl) fun ⟨l,n,a⟩ h=>by obtain⟨rfl,h⟩:=h; exact body47 Γ h74 l a h
def Z7f(r:Rd)(most:Int):Bool×Rd:=tookM r (Z4B r.b r.at_ most) (okT r.b r.at_ most)
def Z0R(r:Rd)(most:Int):Z04×Rd:=(if (Z7f r most).1 then Z8z r.b r.at_ most else [],(Z7f r most).2)
def Z78(r:Rd):Bool×Rd:=tookM r (r.at_+4) (Z7x r.b r.at_)
def Z0T(r:Rd):Int×Rd:=(if (Z78 r).1 then Z6q r.b r.at_ else 0,(Z78 r).2)
def Z6A(r:Rd)(most:Int):Bool×Rd:=tookM r (r.at_+1) (decide (r.at_<r.b.length) && decide (((r.b.getD r.at_.toNat 0).toNat:Int)≤most))
def Z1Y(r:Rd)(most:Int):Int×Rd:=(if (Z6A r most).1 then ((r.b.getD r.at_.toNat 0).toNat:Int) else 0,(Z6A r most).2)
def e82:(Rd)→List AV×Heap:=fun r=>([.ref 0 0 0],[.row r.c 3 0])
def p82:(Rd)→Prop:=fun r=>r.ok
def r82:(Rd)→AV:=fun r=>.int .i64 (Z1m r 4294967295).1
def g82:(Rd)→Heap:=fun r=>[.row (Z1m r 4294967295).2.c 3 0]
theorem inj82:∀a b,e82 a=e82 b→a=b:=by
 rintro r r' h
 simp only [e82,Z0f,Z0h,Z0i,Z0g,Z0V,Prod.mk.injEq,List.cons.injEq,Z0L.row.injEq,AV.int.injEq,AV.str.injEq,AV.bool.injEq,AV.sl.injEq,AV.agg.injEq,AV.ip.injEq,AV.fn.injEq,AV.ifc.injEq,AV.mpr.injEq,AV.msl.injEq,AV.ref.injEq,Int.natCast_inj,and_true,true_and] at h
 simp_all only
noncomputable def S82:Z0n:=Z1I false e82 p82 r82 g82
theorem ps82(r:(Rd)):Z1p e82 p82 ([.ref 0 0 0],[.row r.c 3 0])=(r.ok):=Z0x inj82 p82 r
theorem rs82(r:(Rd)):Z0A e82 r82 .any ([.ref 0 0 0],[.row r.c 3 0])=(.int .i64 (Z1m r 4294967295).1):=Z09 inj82 r82 .any r
theorem hs82(r:(Rd)):Z0A e82 g82 [] ([.ref 0 0 0],[.row r.c 3 0])=([.row (Z1m r 4294967295).2.c 3 0]):=Z09 inj82 g82 [] r
attribute [push_cast] S82 ps82 rs82 hs82
theorem body82(Γ:Env)(h90:Γ 45=some S90)(r:Rd)(hr:r.ok):Z0a Tryz.prog Γ Tryz.f37 [.ref 0 0 0] [.row r.c 3 0] (.int .i64 (Z1m r 4294967295).1) [.row (Z1m r 4294967295).2.c 3 0]:=by
 (intro X hP hΓ hL hfin; refine⟨_,rfl,?_⟩; rw [show Tryz.f37.ntmps=5 from rfl]; rw [show Tryz.f37.results.toList=[.tmp 2] from rfl] at hfin; apply holds_of_ex X 400; simp (maxSteps:=1000000) only [push_cast,reduceCtorEq,Nat.reduceAdd,Nat.reduceMul,Nat.reduceSub,Nat.reduceBEq,Nat.reduceGT,Nat.reduceLT,Int.toNat_zero,Nat.reduceLeDiff,Int.reduceEq,Int.reduceLT,Int.reduceLE,hP,hΓ,hL,hfin,↓Z00,String.reduceEq,not_false_eq_true,if_true,Rd.sto,Rd.sill,Rd.to_b,Rd.to_at,h90])
 refine⟨hr,?_⟩
 exact Z06.sameA
theorem con82{Γ:Env}(h:Z07 Tryz.prog Γ)(h90:Γ 45=some S90):Con Tryz.prog 37 S82:=
 Z0v h (fn:=Tryz.f37) (by kernel_rfl) rfl (by kernel_rfl) inj82 fun r h=>body82 Γ h90 r h
def e75:(Rd)×(Int)→List AV×Heap:=fun (r,m)=>([.ref 0 0 0,.int .i64 m],[.row r.c 3 0])
def p75:(Rd)×(Int)→Prop:=fun (r,m)=>r.ok∧0≤m∧m≤100000
def r75:(Rd)×(Int)→AV:=fun (r,m)=>.str (Z0R r m).1
def g75:(Rd)×(Int)→Heap:=fun (r,m)=>[.row (Z0R r m).2.c 3 0]
theorem inj75:∀a b,e75 a=e75 b→a=b:=by
 rintro⟨r,m⟩ ⟨r',m'⟩ h
 simp only [e75,Z0f,Z0h,Z0i,Z0g,Z0V,Prod.mk.injEq,List.cons.injEq,Z0L.row.injEq,AV.int.injEq,AV.str.injEq,AV.bool.injEq,AV.sl.injEq,AV.agg.injEq,AV.ip.injEq,AV.fn.injEq,AV.ifc.injEq,AV.mpr.injEq,AV.msl.injEq,AV.ref.injEq,Int.natCast_inj,and_true,true_and] at h
 simp_all only
noncomputable def S75:Z0n:=Z1I false e75 p75 r75 g75
theorem ps75(r:(Rd))(m:(Int)):Z1p e75 p75 ([.ref 0 0 0,.int .i64 m],[.row r.c 3 0])=(r.ok∧0≤m∧m≤100000):=Z0x inj75 p75 (r,m)
theorem rs75(r:(Rd))(m:(Int)):Z0A e75 r75 .any ([.ref 0 0 0,.int .i64 m],[.row r.c 3 0])=(.str (Z0R r m).1):=Z09 inj75 r75 .any (r,m)
theorem hs75(r:(Rd))(m:(Int)):Z0A e75 g75 [] ([.ref 0 0 0,.int .i64 m],[.row r.c 3 0])=([.row (Z0R r m).2.c 3 0]):=Z09 inj75 g75 [] (r,m)
attribute [push_cast] S75 ps75 rs75 hs75
theorem body75(Γ:Env)(h12:Γ 51=some Z1R)(h49:Γ 15=some S49)(r:Rd)(m:Int)(hr:r.ok)(hm:0≤m∧m≤100000):Z0a Tryz.prog Γ Tryz.f30 [.ref 0 0 0,.int .i64 m] [.row r.c 3 0] (.str (Z0R r m).1) [.row (Z0R r m).2.c 3 0]:=by
 have hl:=hr.len
 have hB:(objNumbersDone.BIG:Nat)=140737488355328:=rfl
 (intro X hP hΓ hL hfin; refine⟨_,rfl,?_⟩; rw [show Tryz.f30.ntmps=28 from rfl]; rw [show Tryz.f30.results.toList=[.tmp 4] from rfl] at hfin; apply holds_of_ex X 400; simp (maxSteps:=1000000) only [push_cast,reduceCtorEq,Nat.reduceAdd,Nat.reduceMul,Nat.reduceSub,Nat.reduceBEq,Nat.reduceGT,Nat.reduceLT,Int.toNat_zero,Nat.reduceLeDiff,Int.reduceEq,Int.reduceLT,Int.reduceLE,hP,hΓ,hL,hfin,↓Z00,String.reduceEq,not_false_eq_true,if_true,Rd.sto,Rd.sill,Rd.to_b,Rd.to_at,h12,h49])
 (refine Holds.drawnQ (by rw [hP]; kernel_rfl) (by kernel_rfl) ?_; simp (maxSteps:=1000000) only [push_cast,reduceCtorEq,Nat.reduceAdd,Nat.reduceMul,Nat.reduceSub,Nat.reduceBEq,Nat.reduceGT,Nat.reduceLT,Int.toNat_zero,Nat.reduceLeDiff,Int.reduceEq,Int.reduceLT,Int.reduceLE,hP,hΓ,hL,hfin,↓Z00,String.reduceEq,not_false_eq_true,if_true,Rd.sto,Rd.sill,Rd.to_b,Rd.to_at,h12,h49])
 refine⟨⟨own_row _,by rw [hB]; omega,by omega,by omega⟩,?_⟩
 ((with_reducible refine Z02 (fun h=>?_) (fun h=>?_)) <;> (try simp only [decide_eq_true_eq,decide_eq_false_iff_not,Bool.and_eq_true,Bool.or_eq_true,Bool.and_eq_false_iff,Bool.or_eq_false_iff,Bool.not_eq_true',Bool.not_eq_false',Bool.not_eq_true,Bool.not_eq_false,Int.not_lt,Int.not_le,beq_iff_eq,beq_eq_false_iff_ne,ne_eq,win_t,win_f] at h))
 ·((first | with_reducible refine holds_of_ex X 400 _ _ _ ?_ | skip); simp (maxSteps:=1000000) only [push_cast,reduceCtorEq,Nat.reduceAdd,Nat.reduceMul,Nat.reduceSub,Nat.reduceBEq,Nat.reduceGT,Nat.reduceLT,Int.toNat_zero,Nat.reduceLeDiff,Int.reduceEq,Int.reduceLT,Int.reduceLE,hP,hΓ,hL,hfin,↓Z00,String.reduceEq,not_false_eq_true,if_true,Rd.sto,Rd.sill,Rd.to_b,Rd.to_at])
  rw [show Z0R r m=([],(Z7f r m).2) by rw [Z0R,Z7f,if_neg (by simp [h])]]
  exact Z06.sameA
 ·((first | with_reducible refine holds_of_ex X 400 _ _ _ ?_ | skip); simp (maxSteps:=1000000) only [push_cast,reduceCtorEq,Nat.reduceAdd,Nat.reduceMul,Nat.reduceSub,Nat.reduceBEq,Nat.reduceGT,Nat.reduceLT,Int.toNat_zero,Nat.reduceLeDiff,Int.reduceEq,Int.reduceLT,Int.reduceLE,hP,hΓ,hL,hfin,↓Z00,String.reduceEq,not_false_eq_true,if_true,Rd.sto,Rd.sill,Rd.to_b,Rd.to_at])
  rw [show Z0R r m=(Z8z r.b r.at_ m,(Z7f r m).2) by rw [Z0R,Z7f,if_pos h]]
  exact Z06.sameA
theorem con75{Γ:Env}(h:Z07 Tryz.prog Γ)(h12:Γ 51=some Z1R)(h49:Γ 15=some S49):Con Tryz.prog 30 S75:=
 Z0v h (fn:=Tryz.f30) (by kernel_rfl) rfl (by kernel_rfl) inj75 fun ⟨r,m⟩ h=>body75 Γ h12 h49 r m h.1 h.2
def e76:(Rd)→List AV×Heap:=fun r=>([.ref 0 0 0],[.row r.c 3 0])
def p76:(Rd)→Prop:=fun r=>r.ok
def r76:(Rd)→AV:=fun r=>.int .u32 (Z0T r).1
def g76:(Rd)→Heap:=fun r=>[.row (Z0T r).2.c 3 0]
theorem inj76:∀a b,e76 a=e76 b→a=b:=by
 rintro r r' h
 simp only [e76,Z0f,Z0h,Z0i,Z0g,Z0V,Prod.mk.injEq,List.cons.injEq,Z0L.row.injEq,AV.int.injEq,AV.str.injEq,AV.bool.injEq,AV.sl.injEq,AV.agg.injEq,AV.ip.injEq,AV.fn.injEq,AV.ifc.injEq,AV.mpr.injEq,AV.msl.injEq,AV.ref.injEq,Int.natCast_inj,and_true,true_and] at h
 simp_all only
noncomputable def S76:Z0n:=Z1I false e76 p76 r76 g76
theorem ps76(r:(Rd)):Z1p e76 p76 ([.ref 0 0 0],[.row r.c 3 0])=(r.ok):=Z0x inj76 p76 r
theorem rs76(r:(Rd)):Z0A e76 r76 .any ([.ref 0 0 0],[.row r.c 3 0])=(.int .u32 (Z0T r).1):=Z09 inj76 r76 .any r
theorem hs76(r:(Rd)):Z0A e76 g76 [] ([.ref 0 0 0],[.row r.c 3 0])=([.row (Z0T r).2.c 3 0]):=Z09 inj76 g76 [] r
attribute [push_cast] S76 ps76 rs76 hs76
theorem body76(Γ:Env)(h47:Γ 12=some S47)(h49:Γ 15=some S49)(r:Rd)(hr:r.ok):Z0a Tryz.prog Γ Tryz.f31 [.ref 0 0 0] [.row r.c 3 0] (.int .u32 (Z0T r).1) [.row (Z0T r).2.c 3 0]:=by
 have hl:=hr.len; have h1:=hr.lo; have h2:=hr.hi
 (intro X hP hΓ hL hfin; refine⟨_,rfl,?_⟩; rw [show Tryz.f31.ntmps=27 from rfl]; rw [show Tryz.f31.results.toList=[.tmp 2] from rfl] at hfin; apply holds_of_ex X 400; simp (maxSteps:=1000000) only [push_cast,reduceCtorEq,Nat.reduceAdd,Nat.reduceMul,Nat.reduceSub,Nat.reduceBEq,Nat.reduceGT,Nat.reduceLT,Int.toNat_zero,Nat.reduceLeDiff,Int.reduceEq,Int.reduceLT,Int.reduceLE,hP,hΓ,hL,hfin,↓Z00,String.reduceEq,not_false_eq_true,if_true,Rd.sto,Rd.sill,Rd.to_b,Rd.to_at,h47,h49])
 (refine Holds.drawnQ (by rw [hP]; kernel_rfl) (by kernel_rfl) ?_; simp (maxSteps:=1000000) only [push_cast,reduceCtorEq,Nat.reduceAdd,Nat.reduceMul,Nat.reduceSub,Nat.reduceBEq,Nat.reduceGT,Nat.reduceLT,Int.toNat_zero,Nat.reduceLeDiff,Int.reduceEq,Int.reduceLT,Int.reduceLE,hP,hΓ,hL,hfin,↓Z00,String.reduceEq,not_false_eq_true,if_true,Rd.sto,Rd.sill,Rd.to_b,Rd.to_at,h47,h49,Z0c (r.at_+4) (by constructor <;> omega)])
 refine⟨by omega,?_⟩
 ((with_reducible refine Z02 (fun h=>?_) (fun h=>?_)) <;> (try simp only [decide_eq_true_eq,decide_eq_false_iff_not,Bool.and_eq_true,Bool.or_eq_true,Bool.and_eq_false_iff,Bool.or_eq_false_iff,Bool.not_eq_true',Bool.not_eq_false',Bool.not_eq_true,Bool.not_eq_false,Int.not_lt,Int.not_le,beq_iff_eq,beq_eq_false_iff_ne,ne_eq,win_t,win_f] at h))
 ·((first | with_reducible refine holds_of_ex X 400 _ _ _ ?_ | skip); simp (maxSteps:=1000000) only [push_cast,reduceCtorEq,Nat.reduceAdd,Nat.reduceMul,Nat.reduceSub,Nat.reduceBEq,Nat.reduceGT,Nat.reduceLT,Int.toNat_zero,Nat.reduceLeDiff,Int.reduceEq,Int.reduceLT,Int.reduceLE,hP,hΓ,hL,hfin,↓Z00,String.reduceEq,not_false_eq_true,if_true,Rd.sto,Rd.sill,Rd.to_b,Rd.to_at])
  rw [show Z0T r=(0,(Z78 r).2) by rw [Z0T,Z78,if_neg (by simp [h])]]
  exact Z06.sameA
 ·((first | with_reducible refine holds_of_ex X 400 _ _ _ ?_ | skip); simp (maxSteps:=1000000) only [push_cast,reduceCtorEq,Nat.reduceAdd,Nat.reduceMul,Nat.reduceSub,Nat.reduceBEq,Nat.reduceGT,Nat.reduceLT,Int.toNat_zero,Nat.reduceLeDiff,Int.reduceEq,Int.reduceLT,Int.reduceLE,hP,hΓ,hL,hfin,↓Z00,String.reduceEq,not_false_eq_true,if_true,Rd.sto,Rd.sill,Rd.to_b,Rd.to_at])
  rw [show Z0T r=(Z6q r.b r.at_,(Z78 r).2) by rw [Z0T,Z78,if_pos h]]
  exact Z06.sameA
theorem con76{Γ:Env}(h:Z07 Tryz.prog Γ)(h47:Γ 12=some S47)(h49:Γ 15=some S49):Con Tryz.prog 31 S76:=
 Z0v h (fn:=Tryz.f31) (by kernel_rfl) rfl (by kernel_rfl) inj76 fun r h=>body76 Γ h47 h49 r h
def e83:(Rd)×(Int)→List AV×Heap:=fun (r,m)=>([.ref 0 0 0,.int .u8 m],[.row r.c 3 0])
def p83:(Rd)×(Int)→Prop:=fun (r,m)=>r.ok
def r83:(Rd)×(Int)→AV:=fun (r,m)=>.int .u8 (Z1Y r m).1
def g83:(Rd)×(Int)→Heap:=fun (r,m)=>[.row (Z1Y r m).2.c 3 0]
theorem inj83:∀a b,e83 a=e83 b→a=b:=by
 rintro⟨r,m⟩ ⟨r',m'⟩ h
 simp only [e83,Z0f,Z0h,Z0i,Z0g,Z0V,Prod.mk.injEq,List.cons.injEq,Z0L.row.injEq,AV.int.injEq,AV.str.injEq,AV.bool.injEq,AV.sl.injEq,AV.agg.injEq,AV.ip.injEq,AV.fn.injEq,AV.ifc.injEq,AV.mpr.injEq,AV.msl.injEq,AV.ref.injEq,Int.natCast_inj,and_true,true_and] at h
 simp_all only
noncomputable def S83:Z0n:=Z1I false e83 p83 r83 g83
theorem ps83(r:(Rd))(m:(Int)):Z1p e83 p83 ([.ref 0 0 0,.int .u8 m],[.row r.c 3 0])=(r.ok):=Z0x inj83 p83 (r,m)
theorem rs83(r:(Rd))(m:(Int)):Z0A e83 r83 .any ([.ref 0 0 0,.int .u8 m],[.row r.c 3 0])=(.int .u8 (Z1Y r m).1):=Z09 inj83 r83 .any (r,m)
theorem hs83(r:(Rd))(m:(Int)):Z0A e83 g83 [] ([.ref 0 0 0,.int .u8 m],[.row r.c 3 0])=([.row (Z1Y r m).2.c 3 0]):=Z09 inj83 g83 [] (r,m)
attribute [push_cast] S83 ps83 rs83 hs83
theorem body83(Γ:Env)(h49:Γ 15=some S49)(r:Rd)(m:Int)(hr:r.ok):Z0a Tryz.prog Γ Tryz.f38 [.ref 0 0 0,.int .u8 m] [.row r.c 3 0] (.int .u8 (Z1Y r m).1) [.row (Z1Y r m).2.c 3 0]:=by
 have hl:=hr.len; have h1:=hr.lo; have h2:=hr.hi
 (intro X hP hΓ hL hfin; refine⟨_,rfl,?_⟩; rw [show Tryz.f38.ntmps=48 from rfl]; rw [show Tryz.f38.results.toList=[.tmp 4] from rfl] at hfin; apply holds_of_ex X 400; simp (maxSteps:=1000000) only [push_cast,reduceCtorEq,Nat.reduceAdd,Nat.reduceMul,Nat.reduceSub,Nat.reduceBEq,Nat.reduceGT,Nat.reduceLT,Int.toNat_zero,Nat.reduceLeDiff,Int.reduceEq,Int.reduceLT,Int.reduceLE,hP,hΓ,hL,hfin,↓Z00,String.reduceEq,not_false_eq_true,if_true,Rd.sto,Rd.sill,Rd.to_b,Rd.to_at,h49])
 (refine Holds.drawnE (Z3c [.row 3 0]) [0,1,2,3,4,5,6,7,8,9,10,11,12,13,14,15,16,17,18,19,20,21,22,23,24,25,26,27,28,29,30,31] [] [] false (by rw [hP]; kernel_rfl) (by kernel_rfl) (by kernel_rfl) (by kernel_rfl) (by first | exact .inl rfl | exact .inr fun _ _ h=>Z0M _ _ h) (by first | (simp only [push_cast]; done) | (simp only [push_cast,and_true]; omega)) ?_; simp (maxSteps:=1000000) only [↓reduceIte,Option.getD_some,push_cast,reduceCtorEq,Nat.reduceAdd,Nat.reduceMul,Nat.reduceSub,Nat.reduceBEq,Nat.reduceGT,Nat.reduceLT,Int.toNat_zero,Nat.reduceLeDiff,Int.reduceEq,Int.reduceLT,Int.reduceLE,hP,hΓ,hL,hfin,↓Z00,String.reduceEq,not_false_eq_true,if_true,Rd.sto,Rd.sill,Rd.to_b,Rd.to_at,h49,Z0c (r.at_+1) (by constructor <;> omega)])
 refine⟨fun h=>?_,fun h=>?_,?_⟩
 ·have:=of_decide_eq_true h; omega
 ·have:=of_decide_eq_true h; omega
 ((first | with_reducible refine holds_of_ex X 400 _ _ _ ?_ | skip); simp (maxSteps:=1000000) only [push_cast,reduceCtorEq,Nat.reduceAdd,Nat.reduceMul,Nat.reduceSub,Nat.reduceBEq,Nat.reduceGT,Nat.reduceLT,Int.toNat_zero,Nat.reduceLeDiff,Int.reduceEq,Int.reduceLT,Int.reduceLE,hP,hΓ,hL,hfin,↓Z00,String.reduceEq,not_false_eq_true,if_true,Rd.sto,Rd.sill,Rd.to_b,Rd.to_at])
 ((with_reducible refine Z02 (fun h=>?_) (fun h=>?_)) <;> (try simp only [decide_eq_true_eq,decide_eq_false_iff_not,Bool.and_eq_true,Bool.or_eq_true,Bool.and_eq_false_iff,Bool.or_eq_false_iff,Bool.not_eq_true',Bool.not_eq_false',Bool.not_eq_true,Bool.not_eq_false,Int.not_lt,Int.not_le,beq_iff_eq,beq_eq_false_iff_ne,ne_eq,win_t,win_f] at h))
 ·((first | with_reducible refine holds_of_ex X 400 _ _ _ ?_ | skip); simp (maxSteps:=1000000) only [push_cast,reduceCtorEq,Nat.reduceAdd,Nat.reduceMul,Nat.reduceSub,Nat.reduceBEq,Nat.reduceGT,Nat.reduceLT,Int.toNat_zero,Nat.reduceLeDiff,Int.reduceEq,Int.reduceLT,Int.reduceLE,hP,hΓ,hL,hfin,↓Z00,String.reduceEq,not_false_eq_true,if_true,Rd.sto,Rd.sill,Rd.to_b,Rd.to_at])
  rw [show Z1Y r m=(0,(Z6A r m).2) by rw [Z1Y,Z6A,if_neg (by rw [h]; exact Bool.false_ne_true)]]
  exact Z06.sameA
 ·have hb:Z1Y r m=(((r.b.getD r.at_.toNat 0).toNat:Int),(Z6A r m).2):=by rw [Z1Y,Z6A,if_pos h]
  obtain⟨hk0,hk,ht⟩:=Z8I h
  simp only [Bool.and_eq_true,decide_eq_true_eq] at hk
  rw [ht]
  (refine Holds.drawnQ (by rw [hP]; kernel_rfl) (by kernel_rfl) ?_; simp (maxSteps:=1000000) only [push_cast,reduceCtorEq,Nat.reduceAdd,Nat.reduceMul,Nat.reduceSub,Nat.reduceBEq,Nat.reduceGT,Nat.reduceLT,Int.toNat_zero,Nat.reduceLeDiff,Int.reduceEq,Int.reduceLT,Int.reduceLE,hP,hΓ,hL,hfin,↓Z00,String.reduceEq,not_false_eq_true,if_true,Rd.sto,Rd.sill,Rd.to_b,Rd.to_at,Z0c (r.at_+1 - 1) (by constructor <;> omega)])
  refine⟨⟨by omega,by omega⟩,by omega,?_⟩
  rw [show r.at_+1 - 1=r.at_ by omega,hb,show (Z6A r m).2=r.to (r.at_+1) from ht]
  exact Z06.sameA
theorem Z0S{r:Rd}(hr:r.ok)(m:Int):(Z1m r m).2.ok∧(Z1m r m).2.b=r.b:=by
 refine Z5D hr fun hk=>?_
 simp only [Bool.and_eq_true] at hk
 have h1:=hr.lo; have h2:=hr.hi
 have hk:=hk.1
 unfold Z1r at hk ⊢
 rw [if_pos ⟨h1,h2⟩] at hk ⊢
 cases hd:objNumbersDone.duR 0 0 (List.drop r.at_.toNat r.b) with
 | none=>rw [hd] at hk; cases hk
 | some x=>
  obtain⟨n,k⟩:=x
  rw [hd] at hk
  have:=objNumbersDone.duR_len _ _ _ _ _ hd
  simp only [okR,decide_eq_true_eq] at hk
  simp only [objNumbersDone.nextR,if_pos hk]
  rw [List.length_drop] at this
  omega
theorem Z1i{r:Rd}(hr:r.ok)(m:Int):(Z0R r m).2.ok∧(Z0R r m).2.b=r.b:=by
 refine Z5D hr fun hk=>?_
 have h1:=hr.lo; have h2:=hr.hi
 rw [Z4B,if_pos hk]
 simp only [okT,Bool.and_eq_true,decide_eq_true_eq] at hk
 have:=Z7P (Z1r r.b r.at_)
 obtain⟨hk,_,_,h3⟩:=hk
 refine⟨?_,h3⟩
 have:0≤objNumbersDone.nextR r.at_ (Z1r r.b r.at_):=by
  unfold objNumbersDone.nextR
  split
  ·split <;> omega
  ·omega
 omega
theorem Z1Q{r:Rd}(hr:r.ok):(Z0T r).2.ok∧(Z0T r).2.b=r.b:=by
 refine Z5D hr fun hk=>?_
 have h1:=hr.lo; have h2:=hr.hi
 simp only [Z7x,decide_eq_true_eq] at hk
 omega
theorem Z4E{r:Rd}(hr:r.ok)(m:Int):(Z1Y r m).2.ok∧(Z1Y r m).2.b=r.b:=by
 refine Z5D hr fun hk=>?_
 have h1:=hr.lo; have h2:=hr.hi
 simp only [Bool.and_eq_true,decide_eq_true_eq] at hk
 omega
theorem con83{Γ:Env}(h:Z07 Tryz.prog Γ)(h49:Γ 15=some S49):Con Tryz.prog 38 S83:=
 Z0v h (fn:=Tryz.f38) (by kernel_rfl) rfl (by kernel_rfl) inj83 fun ⟨r,m⟩ h=>body83 Γ h49 r m h
theorem Ziq:(Value.slice none 0 0).oneCell'=true:=rfl
attribute [push_cast] Ziq
theorem Z2b{α β:Type}(f:α→β)(l:List α):List.take l.length (l.map f)=l.map f:=List.take_of_length_le (by simp)
theorem Z3W{α:Type}{g:α→List AV}{w:Nat}[Z2C g w](l:List α):List.take (l.length*w) (l.flatMap g)=l.flatMap g:=List.take_of_length_le (by rw [Z46 (g:=g)]; omega)
def Z0y(r:Rd):Im×Rd:=(⟨(Z0R r 20).1,(Z0T (Z0R r 20).2).1⟩,(Z0T (Z0R r 20).2).2)
theorem Z1X{r:Rd}(hr:r.ok):(Z0y r).2.ok∧(Z0y r).2.b=r.b:=by
 have h1:=Z1i hr 20
 have h2:=Z1Q h1.1
 exact⟨h2.1,h2.2.trans h1.2⟩
def e78:(Rd)→List AV×Heap:=fun r=>([.ref 0 0 0],[.row [.ref 1 0 0] 1 0,.row r.c 3 0])
def p78:(Rd)→Prop:=fun r=>r.ok
def r78:(Rd)→AV:=fun r=>.agg (Z0y r).1.c
def g78:(Rd)→Heap:=fun r=>[.row [.ref 1 0 0] 1 0,.row (Z0y r).2.c 3 0]
theorem inj78:∀a b,e78 a=e78 b→a=b:=by
 rintro r r' h
 simp only [e78,Z0f,Z0h,Z0i,Z0g,Z0V,Prod.mk.injEq,List.cons.injEq,Z0L.row.injEq,AV.int.injEq,AV.str.injEq,AV.bool.injEq,AV.sl.injEq,AV.agg.injEq,AV.ip.injEq,AV.fn.injEq,AV.ifc.injEq,AV.mpr.injEq,AV.msl.injEq,AV.ref.injEq,Int.natCast_inj,and_true,true_and] at h
 simp_all only
noncomputable def S78:Z0n:=Z1I false e78 p78 r78 g78
theorem ps78(r:(Rd)):Z1p e78 p78 ([.ref 0 0 0],[.row [.ref 1 0 0] 1 0,.row r.c 3 0])=(r.ok):=Z0x inj78 p78 r
theorem rs78(r:(Rd)):Z0A e78 r78 .any ([.ref 0 0 0],[.row [.ref 1 0 0] 1 0,.row r.c 3 0])=(.agg (Z0y r).1.c):=Z09 inj78 r78 .any r
theorem hs78(r:(Rd)):Z0A e78 g78 [] ([.ref 0 0 0],[.row [.ref 1 0 0] 1 0,.row r.c 3 0])=([.row [.ref 1 0 0] 1 0,.row (Z0y r).2.c 3 0]):=Z09 inj78 g78 [] r
attribute [push_cast] S78 ps78 rs78 hs78
theorem body78(Γ:Env)(h75:Γ 30=some S75)(h76:Γ 31=some S76)(r:Rd)(hr:r.ok):Z0a Tryz.prog Γ Tryz.f33 [.ref 0 0 0] [.row [.ref 1 0 0] 1 0,.row r.c 3 0] (.agg (Z0y r).1.c) [.row [.ref 1 0 0] 1 0,.row (Z0y r).2.c 3 0]:=by
 have h1:=Z1i hr 20
 (intro X hP hΓ hL hfin; refine⟨_,rfl,?_⟩; rw [show Tryz.f33.ntmps=7 from rfl]; rw [show Tryz.f33.results.toList=[.cell 1 61] from rfl] at hfin; apply holds_of_ex X 400; simp (maxSteps:=1000000) only [push_cast,reduceCtorEq,Nat.reduceAdd,Nat.reduceMul,Nat.reduceSub,Nat.reduceBEq,Nat.reduceGT,Nat.reduceLT,Int.toNat_zero,Nat.reduceLeDiff,Int.reduceEq,Int.reduceLT,Int.reduceLE,hP,hΓ,hL,hfin,↓Z00,String.reduceEq,not_false_eq_true,if_true,h75,h76])
 (refine Holds.drawnE (Z3c [.fix (.row [.ref 1 0 0] 1 0),.row 3 0]) [1,3,5] [] [] true (by rw [hP]; kernel_rfl) (by kernel_rfl) (by kernel_rfl) (by kernel_rfl) (by first | exact .inl rfl | exact .inr fun _ _ h=>Z0M _ _ h) (by first | (simp only [push_cast]; done) | (simp only [push_cast,and_true]; omega)) ?_; simp (maxSteps:=1000000) only [↓reduceIte,Option.getD_some,push_cast,reduceCtorEq,Nat.reduceAdd,Nat.reduceMul,Nat.reduceSub,Nat.reduceBEq,Nat.reduceGT,Nat.reduceLT,Int.toNat_zero,Nat.reduceLeDiff,Int.reduceEq,Int.reduceLT,Int.reduceLE,hP,hΓ,hL,hfin,↓Z00,String.reduceEq,not_false_eq_true,if_true,h75,h76])
 refine⟨hr,h1.1,?_⟩
 ((first | with_reducible refine holds_of_ex X 400 _ _ _ ?_ | skip); simp (maxSteps:=1000000) only [push_cast,reduceCtorEq,Nat.reduceAdd,Nat.reduceMul,Nat.reduceSub,Nat.reduceBEq,Nat.reduceGT,Nat.reduceLT,Int.toNat_zero,Nat.reduceLeDiff,Int.reduceEq,Int.reduceLT,Int.reduceLE,hP,hΓ,hL,hfin,↓Z00,String.reduceEq,not_false_eq_true,if_true])
 simp only [Z0y,Im.c]
 exact Z06.keep2A
theorem con78{Γ:Env}(h:Z07 Tryz.prog Γ)(h75:Γ 30=some S75)(h76:Γ 31=some S76):Con Tryz.prog 33 S78:=
 Z0v h (fn:=Tryz.f33) (by kernel_rfl) rfl (by kernel_rfl) inj78 fun r h=>body78 Γ h75 h76 r h
def e85:(Rd)→List AV×Heap:=fun r=>([.ref 0 0 0],[.row [.ref 1 0 0] 1 0,.row r.c 3 0])
def p85:(Rd)→Prop:=fun r=>r.ok
def r85:(Rd)→AV:=fun r=>.str (Z0R r 200).1
def g85:(Rd)→Heap:=fun r=>[.row [.ref 1 0 0] 1 0,.row (Z0R r 200).2.c 3 0]
theorem inj85:∀a b,e85 a=e85 b→a=b:=by
 rintro r r' h
 simp only [e85,Z0f,Z0h,Z0i,Z0g,Z0V,Prod.mk.injEq,List.cons.injEq,Z0L.row.injEq,AV.int.injEq,AV.str.injEq,AV.bool.injEq,AV.sl.injEq,AV.agg.injEq,AV.ip.injEq,AV.fn.injEq,AV.ifc.injEq,AV.mpr.injEq,AV.msl.injEq,AV.ref.injEq,Int.natCast_inj,and_true,true_and] at h
 simp_all only
noncomputable def S85:Z0n:=Z1I false e85 p85 r85 g85
theorem ps85(r:(Rd)):Z1p e85 p85 ([.ref 0 0 0],[.row [.ref 1 0 0] 1 0,.row r.c 3 0])=(r.ok):=Z0x inj85 p85 r
theorem rs85(r:(Rd)):Z0A e85 r85 .any ([.ref 0 0 0],[.row [.ref 1 0 0] 1 0,.row r.c 3 0])=(.str (Z0R r 200).1):=Z09 inj85 r85 .any r
theorem hs85(r:(Rd)):Z0A e85 g85 [] ([.ref 0 0 0],[.row [.ref 1 0 0] 1 0,.row r.c 3 0])=([.row [.ref 1 0 0] 1 0,.row (Z0R r 200).2.c 3 0]):=Z09 inj85 g85 [] r
attribute [push_cast] S85 ps85 rs85 hs85
theorem body85(Γ:Env)(h75:Γ 30=some S75)(r:Rd)(hr:r.ok):Z0a Tryz.prog Γ Tryz.f40 [.ref 0 0 0] [.row [.ref 1 0 0] 1 0,.row r.c 3 0] (.str (Z0R r 200).1) [.row [.ref 1 0 0] 1 0,.row (Z0R r 200).2.c 3 0]:=by
 (intro X hP hΓ hL hfin; refine⟨_,rfl,?_⟩; rw [show Tryz.f40.ntmps=4 from rfl]; rw [show Tryz.f40.results.toList=[.tmp 1] from rfl] at hfin; apply holds_of_ex X 400; simp (maxSteps:=1000000) only [push_cast,reduceCtorEq,Nat.reduceAdd,Nat.reduceMul,Nat.reduceSub,Nat.reduceBEq,Nat.reduceGT,Nat.reduceLT,Int.toNat_zero,Nat.reduceLeDiff,Int.reduceEq,Int.reduceLT,Int.reduceLE,hP,hΓ,hL,hfin,↓Z00,String.reduceEq,not_false_eq_true,if_true,h75])
 refine⟨hr,?_⟩
 exact Z06.sameA
theorem con85{Γ:Env}(h:Z07 Tryz.prog Γ)(h75:Γ 30=some S75):Con Tryz.prog 40 S85:=
 Z0v h (fn:=Tryz.f40) (by kernel_rfl) rfl (by kernel_rfl) inj85 fun r h=>body85 Γ h75 r h
abbrev Z20(r:Rd):Int×Rd:=Z1m r 4294967295
def Z3P(r:Rd):Fx×Rd:=
 let a:=Z20 r
 let k:=Z1Y a.2 255
 let m:=Z1m k.2 16
 let n:=Z20 m.2
 (⟨a.1,k.1,m.1 - 1,n.1⟩,n.2)
theorem Z8n{r:Rd}(hr:r.ok):(Z3P r).2.ok∧(Z3P r).2.b=r.b:=by
 have h1:=Z0S hr 4294967295
 have h2:=Z4E h1.1 255
 have h3:=Z0S h2.1 16
 have h4:=Z0S h3.1 4294967295
 exact⟨h4.1,h4.2.trans (h3.2.trans (h2.2.trans h1.2))⟩
theorem Z2r(r:Rd)(m:Int):0≤(Z1m r m).1∧(Z1m r m).1<4294967296:=by
 unfold Z1m
 simp only
 split
 ·exact Z7P _
 ·omega
theorem Zgu(r:Rd)(m:Int):0≤(Z1Y r m).1∧(Z1Y r m).1<256:=by
 unfold Z1Y
 simp only
 split
 ·have:=(r.b.getD r.at_.toNat 0).toNat_lt; omega
 ·omega
def e89:(Rd)→List AV×Heap:=fun r=>([.ref 0 0 0],[.row [.ref 1 0 0] 1 0,.row r.c 3 0])
def p89:(Rd)→Prop:=fun r=>r.ok
def r89:(Rd)→AV:=fun r=>.agg (Z3P r).1.c
def g89:(Rd)→Heap:=fun r=>[.row [.ref 1 0 0] 1 0,.row (Z3P r).2.c 3 0]
theorem inj89:∀a b,e89 a=e89 b→a=b:=by
 rintro r r' h
 simp only [e89,Z0f,Z0h,Z0i,Z0g,Z0V,Prod.mk.injEq,List.cons.injEq,Z0L.row.injEq,AV.int.injEq,AV.str.injEq,AV.bool.injEq,AV.sl.injEq,AV.agg.injEq,AV.ip.injEq,AV.fn.injEq,AV.ifc.injEq,AV.mpr.injEq,AV.msl.injEq,AV.ref.injEq,Int.natCast_inj,and_true,true_and] at h
 simp_all only
noncomputable def S89:Z0n:=Z1I false e89 p89 r89 g89
theorem ps89(r:(Rd)):Z1p e89 p89 ([.ref 0 0 0],[.row [.ref 1 0 0] 1 0,.row r.c 3 0])=(r.ok):=Z0x inj89 p89 r
theorem rs89(r:(Rd)):Z0A e89 r89 .any ([.ref 0 0 0],[.row [.ref 1 0 0] 1 0,.row r.c 3 0])=(.agg (Z3P r).1.c):=Z09 inj89 r89 .any r
theorem hs89(r:(Rd)):Z0A e89 g89 [] ([.ref 0 0 0],[.row [.ref 1 0 0] 1 0,.row r.c 3 0])=([.row [.ref 1 0 0] 1 0,.row (Z3P r).2.c 3 0]):=Z09 inj89 g89 [] r
attribute [push_cast] S89 ps89 rs89 hs89
theorem body89(Γ:Env)(h82:Γ 37=some S82)(h83:Γ 38=some S83)(h90:Γ 45=some S90)(r:Rd)(hr:r.ok):Z0a Tryz.prog Γ Tryz.f44 [.ref 0 0 0] [.row [.ref 1 0 0] 1 0,.row r.c 3 0] (.agg (Z3P r).1.c) [.row [.ref 1 0 0] 1 0,.row (Z3P r).2.c 3 0]:=by
 have h1:=Z0S hr 4294967295
 have h2:=Z4E h1.1 255
 have h3:=Z0S h2.1 16
 have b2:=Zgu (Z1m r 4294967295).2 255
 have b3:=Z2r (Z1Y (Z1m r 4294967295).2 255).2 16
 (intro X hP hΓ hL hfin; refine⟨_,rfl,?_⟩; rw [show Tryz.f44.ntmps=17 from rfl]; rw [show Tryz.f44.results.toList=[.cell 1 58] from rfl] at hfin; apply holds_of_ex X 400; simp (maxSteps:=1000000) only [push_cast,reduceCtorEq,Nat.reduceAdd,Nat.reduceMul,Nat.reduceSub,Nat.reduceBEq,Nat.reduceGT,Nat.reduceLT,Int.toNat_zero,Nat.reduceLeDiff,Int.reduceEq,Int.reduceLT,Int.reduceLE,hP,hΓ,hL,hfin,↓Z00,String.reduceEq,not_false_eq_true,if_true,h82,h83,h90])
 (refine Holds.drawnE (Z3c [.fix (.row [.ref 1 0 0] 1 0),.row 3 0]) [1,3,7] [6] [1,3] true (by rw [hP]; kernel_rfl) (by kernel_rfl) (by kernel_rfl) (by kernel_rfl) (by first | exact .inl rfl | exact .inr fun _ _ h=>Z0M _ _ h) (by first | (simp only [push_cast]; done) | (simp only [push_cast,and_true]; omega)) ?_; simp (maxSteps:=1000000) only [↓reduceIte,Option.getD_some,push_cast,reduceCtorEq,Nat.reduceAdd,Nat.reduceMul,Nat.reduceSub,Nat.reduceBEq,Nat.reduceGT,Nat.reduceLT,Int.toNat_zero,Nat.reduceLeDiff,Int.reduceEq,Int.reduceLT,Int.reduceLE,hP,hΓ,hL,hfin,↓Z00,String.reduceEq,not_false_eq_true,if_true,h82,h83,h90,Z0c ((Z1Y (Z1m r 4294967295).2 255).1) (by constructor <;> omega)])
 refine⟨hr,hr,h1.1,h1.1,?_⟩
 ((first | with_reducible refine holds_of_ex X 400 _ _ _ ?_ | skip); simp (maxSteps:=1000000) only [push_cast,reduceCtorEq,Nat.reduceAdd,Nat.reduceMul,Nat.reduceSub,Nat.reduceBEq,Nat.reduceGT,Nat.reduceLT,Int.toNat_zero,Nat.reduceLeDiff,Int.reduceEq,Int.reduceLT,Int.reduceLE,hP,hΓ,hL,hfin,↓Z00,String.reduceEq,not_false_eq_true,if_true,h82,h83,h90,Z0c ((Z1m (Z1Y (Z1m r 4294967295).2 255).2 16).1 - 1) (by constructor <;> omega)])
 refine⟨h2.1,h3.1,?_⟩
 simp only [Z3P,Z20,Fx.c]
 exact Z06.keep2A
theorem con89{Γ:Env}(h:Z07 Tryz.prog Γ)(h82:Γ 37=some S82)(h83:Γ 38=some S83)(h90:Γ 45=some S90):Con Tryz.prog 44 S89:=
 Z0v h (fn:=Tryz.f44) (by kernel_rfl) rfl (by kernel_rfl) inj89 fun r h=>body89 Γ h82 h83 h90 r h
def Z3j{α:Type}(one:Rd→α×Rd):Nat→Rd→List α×Rd
 | 0,r=>([],r)
 | n+1,r=>if r.bad<0 then ((one r).1::(Z3j one n (one r).2).1,(Z3j one n (one r).2).2) else ([],r)
def Z0b{α:Type}(one:Rd→α×Rd)(most:Int)(r:Rd):List α×Rd:=Z3j one (Z1m r most).1.toNat (Z1m r most).2
structure Z0r{α:Type}(one:Rd→α×Rd)(N:Nat)(r0:Rd) where
 l:List α
 r:Rd
 c:Nat
 ok:r.ok
 len:l.length+c=N
 eq:Z3j one N r0=(l++(Z3j one c r).1,(Z3j one c r).2)
def Z0r.init{α:Type}(one:Rd→α×Rd)(N:Nat)(r0:Rd)(h:r0.ok):Z0r one N r0:=⟨[],r0,N,h,by simp,by simp⟩
def Z0r.next{α:Type}{one:Rd→α×Rd}{N:Nat}{r0:Rd}(s:Z0r one N r0)(hok:∀r:Rd,r.ok→(one r).2.ok)(hc:0<s.c)(hb:s.r.bad<0):Z0r one N r0:=
 ⟨s.l++[(one s.r).1],(one s.r).2,s.c - 1,hok _ s.ok,by have:=s.len; simp; omega,by
  rw [s.eq]
  obtain⟨c,hc'⟩:∃c,s.c=c+1:=⟨s.c - 1,by omega⟩
  rw [hc',Z3j,if_pos hb]
  simp⟩
theorem Z0r.done{α:Type}{one:Rd→α×Rd}{N:Nat}{r0:Rd}(s:Z0r one N r0)(h:s.c=0∨¬s.r.bad<0):Z3j one N r0=(s.l,s.r):=by
 rw [s.eq]
 rcases h with h | h
 ·rw [h]; simp [Z3j]
 ·cases hc:s.c with
  | zero=>simp [Z3j]
  | succ c=>rw [Z3j,if_neg h]; simp
def e77:(Rd)→List AV×Heap:=fun r=>([.ref 0 0 0,.int .u32 16,.fn (.func 33) [] [.ref 1 0 0]],[.row r.c 3 0,.row [.ref 0 0 0] 1 0])
def p77:(Rd)→Prop:=fun r=>r.ok
def r77:(Rd)→AV:=fun r=>.sl ((Z0b Z0y 16 r).1.flatMap Im.c) (Z0b Z0y 16 r).1.length
def g77:(Rd)→Heap:=fun r=>[.row (Z0b Z0y 16 r).2.c 3 0,.row [.ref 0 0 0] 1 0]
theorem inj77:∀a b,e77 a=e77 b→a=b:=by
 rintro r r' h
 simp only [e77,Z0f,Z0h,Z0i,Z0g,Z0V,Prod.mk.injEq,List.cons.injEq,Z0L.row.injEq,AV.int.injEq,AV.str.injEq,AV.bool.injEq,AV.sl.injEq,AV.agg.injEq,AV.ip.injEq,AV.fn.injEq,AV.ifc.injEq,AV.mpr.injEq,AV.msl.injEq,AV.ref.injEq,Int.natCast_inj,and_true,true_and] at h
 simp_all only
noncomputable def S77:Z0n:=Z1I false e77 p77 r77 g77
theorem Zkb(r:(Rd)):Z1p e77 p77 ([.ref 0 0 0,.int .u32 16,.fn (.func 33) [] [.ref 1 0 0]],[.row r.c 3 0,.row [.ref 0 0 0] 1 0])=(r.ok):=Z0x inj77 p77 r
theorem ZjQ(r:(Rd)):Z0A e77 r77 .any ([.ref 0 0 0,.int .u32 16,.fn (.func 33) [] [.ref 1 0 0]],[.row r.c 3 0,.row [.ref 0 0 0] 1 0])=(.sl ((Z0b Z0y 16 r).1.flatMap Im.c) (Z0b Z0y 16 r).1.length):=Z09 inj77 r77 .any r
theorem ZkO(r:(Rd)):Z0A e77 g77 [] ([.ref 0 0 0,.int .u32 16,.fn (.func 33) [] [.ref 1 0 0]],[.row r.c 3 0,.row [.ref 0 0 0] 1 0])=([.row (Z0b Z0y 16 r).2.c 3 0,.row [.ref 0 0 0] 1 0]):=Z09 inj77 g77 [] r
attribute [push_cast] S77 Zkb ZjQ ZkO
theorem body77(Γ:Env)(h78:Γ 33=some S78)(h90:Γ 45=some S90)(r:Rd)(hr:r.ok):Z0a Tryz.prog Γ Tryz.f32 [.ref 0 0 0,.int .u32 16,.fn (.func 33) [] [.ref 1 0 0]] [.row r.c 3 0,.row [.ref 0 0 0] 1 0] (.sl ((Z0b Z0y 16 r).1.flatMap Im.c) (Z0b Z0y 16 r).1.length) [.row (Z0b Z0y 16 r).2.c 3 0,.row [.ref 0 0 0] 1 0]:=by
 have h1:=Z0S hr 16
 have b1:=Z2r r 16
 (intro X hP hΓ hL hfin; refine⟨_,rfl,?_⟩; rw [show Tryz.f32.ntmps=29 from rfl]; rw [show Tryz.f32.results.toList=[.tmp 6] from rfl] at hfin; apply holds_of_ex X 400; simp (maxSteps:=1000000) only [push_cast,reduceCtorEq,Nat.reduceAdd,Nat.reduceMul,Nat.reduceSub,Nat.reduceBEq,Nat.reduceGT,Nat.reduceLT,Int.toNat_zero,Nat.reduceLeDiff,Int.reduceEq,Int.reduceLT,Int.reduceLE,hP,hΓ,hL,hfin,↓Z00,String.reduceEq,not_false_eq_true,if_true,h90])
 refine⟨hr,?_⟩
 refine Holds.loopM (ι:=Z0r Z0y (Z1m r 16).1.toNat (Z1m r 16).2) [true,false,true,false,false,false,true,false,false,false,false,false,false,false,false,false,false,false,false,false,false,false,false,false,false,false,false,false,false] (fun i=>[(7,.msl 2 i.l.length 0 i.l.length),(8,.int .i64 i.c)]) (fun i=>[.row i.r.c 3 0,.row [.ref 0 0 0] 1 0,.row (i.l.flatMap Im.c) 2 i.l.length]) (fun i=>i.c) (Z0r.init _ _ _ h1.1) ?_ ?_
 ·rw [hL]; simp only [push_cast,Int.natCast_zero]
  (refine Z0k.nil 7  2 rfl ?_; simp only [push_cast,reduceCtorEq,Nat.reduceAdd,Nat.reduceMul,Nat.reduceSub,Nat.reduceBEq,Nat.reduceGT,Nat.reduceLT,Int.toNat_zero,Nat.reduceLeDiff,Int.reduceEq,Int.reduceLT,Int.reduceLE])
  simp only [Z0r.init,List.map_nil,List.flatMap_nil,List.length_nil,Int.toNat_of_nonneg b1.1]
  exact Z06.sameA
 intro s
 have hl:=s.len
 ((first | with_reducible refine holds_of_ex X 400 _ _ _ ?_ | skip); simp (maxSteps:=1000000) only [push_cast,reduceCtorEq,Nat.reduceAdd,Nat.reduceMul,Nat.reduceSub,Nat.reduceBEq,Nat.reduceGT,Nat.reduceLT,Int.toNat_zero,Nat.reduceLeDiff,Int.reduceEq,Int.reduceLT,Int.reduceLE,hP,hΓ,hL,hfin,↓Z00,String.reduceEq,not_false_eq_true,if_true])
 ((with_reducible refine Z02 (fun h=>?_) (fun h=>?_)) <;> (try simp only [decide_eq_true_eq,decide_eq_false_iff_not,Bool.and_eq_true,Bool.or_eq_true,Bool.and_eq_false_iff,Bool.or_eq_false_iff,Bool.not_eq_true',Bool.not_eq_false',Bool.not_eq_true,Bool.not_eq_false,Int.not_lt,Int.not_le,beq_iff_eq,beq_eq_false_iff_ne,ne_eq,win_t,win_f] at h))
 ·((first | with_reducible refine holds_of_ex X 400 _ _ _ ?_ | skip); simp (maxSteps:=1000000) only [push_cast,reduceCtorEq,Nat.reduceAdd,Nat.reduceMul,Nat.reduceSub,Nat.reduceBEq,Nat.reduceGT,Nat.reduceLT,Int.toNat_zero,Nat.reduceLeDiff,Int.reduceEq,Int.reduceLT,Int.reduceLE,hP,hΓ,hL,hfin,↓Z00,String.reduceEq,not_false_eq_true,if_true,h78,Z0c ((s.c:Int) - 1) (by constructor <;> omega)])
  refine⟨s.ok,by omega,s.next (fun r hr=>(Z1X hr).1) (by omega) h.2,by simp only [Z0r.next]; omega,?_⟩
  simp only [Z0r.next,List.map_append,List.map_cons,List.map_nil,List.flatMap_append,List.flatMap_cons,List.flatMap_nil,List.append_nil,List.length_append,List.length_cons,List.length_nil,Nat.zero_add,show ((s.c - 1:Nat):Int)=(s.c:Int) - 1 by omega]
  exact Z06.sameA
 ·((first | with_reducible refine holds_of_ex X 400 _ _ _ ?_ | skip); simp (maxSteps:=1000000) only [push_cast,reduceCtorEq,Nat.reduceAdd,Nat.reduceMul,Nat.reduceSub,Nat.reduceBEq,Nat.reduceGT,Nat.reduceLT,Int.toNat_zero,Nat.reduceLeDiff,Int.reduceEq,Int.reduceLT,Int.reduceLE,hP,hΓ,hL,hfin,↓Z00,String.reduceEq,not_false_eq_true,if_true])
  (refine Z0k.frz 2 (by simp only [push_cast,reduceCtorEq,Nat.reduceAdd,Nat.reduceMul,Nat.reduceSub,Nat.reduceBEq,Nat.reduceGT,Nat.reduceLT,Int.toNat_zero,Nat.reduceLeDiff,Int.reduceEq,Int.reduceLT,Int.reduceLE]; first | done | decide | omega) (by simp only [Z15,Z28,Z27,or_true,true_or,push_cast,reduceCtorEq,Nat.reduceAdd,Nat.reduceMul,Nat.reduceSub,Nat.reduceBEq,Nat.reduceGT,Nat.reduceLT,Int.toNat_zero,Nat.reduceLeDiff,Int.reduceEq,Int.reduceLT,Int.reduceLE]) ?_; simp only [push_cast,reduceCtorEq,Nat.reduceAdd,Nat.reduceMul,Nat.reduceSub,Nat.reduceBEq,Nat.reduceGT,Nat.reduceLT,Int.toNat_zero,Nat.reduceLeDiff,Int.reduceEq,Int.reduceLT,Int.reduceLE])
  simp only [Z2b,Z3W]
  rw [show Z0b Z0y 16 r=(s.l,s.r) from s.done (by omega)]
  exact Z06.keep2A
theorem con77{Γ:Env}(h:Z07 Tryz.prog Γ)(h78:Γ 33=some S78)(h90:Γ 45=some S90):Con Tryz.prog 32 S77:=
 Z0v h (fn:=Tryz.f32) (by kernel_rfl) rfl (by kernel_rfl) inj77 fun r h=>body77 Γ h78 h90 r h
def e79:(Rd)→List AV×Heap:=fun r=>([.ref 0 0 0,.int .u32 65536,.fn (.func 31) [.ref 0 0 0] []],[.row r.c 3 0])
def p79:(Rd)→Prop:=fun r=>r.ok
def r79:(Rd)→AV:=fun r=>.sl ((Z0b Z0T 65536 r).1.map (.int .u32)) (Z0b Z0T 65536 r).1.length
def g79:(Rd)→Heap:=fun r=>[.row (Z0b Z0T 65536 r).2.c 3 0]
theorem inj79:∀a b,e79 a=e79 b→a=b:=by
 rintro r r' h
 simp only [e79,Z0f,Z0h,Z0i,Z0g,Z0V,Prod.mk.injEq,List.cons.injEq,Z0L.row.injEq,AV.int.injEq,AV.str.injEq,AV.bool.injEq,AV.sl.injEq,AV.agg.injEq,AV.ip.injEq,AV.fn.injEq,AV.ifc.injEq,AV.mpr.injEq,AV.msl.injEq,AV.ref.injEq,Int.natCast_inj,and_true,true_and] at h
 simp_all only
noncomputable def S79:Z0n:=Z1I false e79 p79 r79 g79
theorem Zka(r:(Rd)):Z1p e79 p79 ([.ref 0 0 0,.int .u32 65536,.fn (.func 31) [.ref 0 0 0] []],[.row r.c 3 0])=(r.ok):=Z0x inj79 p79 r
theorem ZjP(r:(Rd)):Z0A e79 r79 .any ([.ref 0 0 0,.int .u32 65536,.fn (.func 31) [.ref 0 0 0] []],[.row r.c 3 0])=(.sl ((Z0b Z0T 65536 r).1.map (.int .u32)) (Z0b Z0T 65536 r).1.length):=Z09 inj79 r79 .any r
theorem ZkN(r:(Rd)):Z0A e79 g79 [] ([.ref 0 0 0,.int .u32 65536,.fn (.func 31) [.ref 0 0 0] []],[.row r.c 3 0])=([.row (Z0b Z0T 65536 r).2.c 3 0]):=Z09 inj79 g79 [] r
attribute [push_cast] S79 Zka ZjP ZkN
theorem body79(Γ:Env)(h76:Γ 31=some S76)(h90:Γ 45=some S90)(r:Rd)(hr:r.ok):Z0a Tryz.prog Γ Tryz.f34 [.ref 0 0 0,.int .u32 65536,.fn (.func 31) [.ref 0 0 0] []] [.row r.c 3 0] (.sl ((Z0b Z0T 65536 r).1.map (.int .u32)) (Z0b Z0T 65536 r).1.length) [.row (Z0b Z0T 65536 r).2.c 3 0]:=by
 have h1:=Z0S hr 65536
 have b1:=Z2r r 65536
 (intro X hP hΓ hL hfin; refine⟨_,rfl,?_⟩; rw [show Tryz.f34.ntmps=29 from rfl]; rw [show Tryz.f34.results.toList=[.tmp 6] from rfl] at hfin; apply holds_of_ex X 400; simp (maxSteps:=1000000) only [push_cast,reduceCtorEq,Nat.reduceAdd,Nat.reduceMul,Nat.reduceSub,Nat.reduceBEq,Nat.reduceGT,Nat.reduceLT,Int.toNat_zero,Nat.reduceLeDiff,Int.reduceEq,Int.reduceLT,Int.reduceLE,hP,hΓ,hL,hfin,↓Z00,String.reduceEq,not_false_eq_true,if_true,h90])
 refine⟨hr,?_⟩
 refine Holds.loopM (ι:=Z0r Z0T (Z1m r 65536).1.toNat (Z1m r 65536).2) [true,false,true,false,false,false,true,false,false,false,false,false,false,false,false,false,false,false,false,false,false,false,false,false,false,false,false,false,false] (fun i=>[(7,.msl 1 i.l.length 0 i.l.length),(8,.int .i64 i.c)]) (fun i=>[.row i.r.c 3 0,.row (i.l.map (.int .u32)) 1 i.l.length]) (fun i=>i.c) (Z0r.init _ _ _ h1.1) ?_ ?_
 ·rw [hL]; simp only [push_cast,Int.natCast_zero]
  (refine Z0k.nil 7  1 rfl ?_; simp only [push_cast,reduceCtorEq,Nat.reduceAdd,Nat.reduceMul,Nat.reduceSub,Nat.reduceBEq,Nat.reduceGT,Nat.reduceLT,Int.toNat_zero,Nat.reduceLeDiff,Int.reduceEq,Int.reduceLT,Int.reduceLE])
  simp only [Z0r.init,List.map_nil,List.flatMap_nil,List.length_nil,Int.toNat_of_nonneg b1.1]
  exact Z06.sameA
 intro s
 have hl:=s.len
 ((first | with_reducible refine holds_of_ex X 400 _ _ _ ?_ | skip); simp (maxSteps:=1000000) only [push_cast,reduceCtorEq,Nat.reduceAdd,Nat.reduceMul,Nat.reduceSub,Nat.reduceBEq,Nat.reduceGT,Nat.reduceLT,Int.toNat_zero,Nat.reduceLeDiff,Int.reduceEq,Int.reduceLT,Int.reduceLE,hP,hΓ,hL,hfin,↓Z00,String.reduceEq,not_false_eq_true,if_true])
 ((with_reducible refine Z02 (fun h=>?_) (fun h=>?_)) <;> (try simp only [decide_eq_true_eq,decide_eq_false_iff_not,Bool.and_eq_true,Bool.or_eq_true,Bool.and_eq_false_iff,Bool.or_eq_false_iff,Bool.not_eq_true',Bool.not_eq_false',Bool.not_eq_true,Bool.not_eq_false,Int.not_lt,Int.not_le,beq_iff_eq,beq_eq_false_iff_ne,ne_eq,win_t,win_f] at h))
 ·((first | with_reducible refine holds_of_ex X 400 _ _ _ ?_ | skip); simp (maxSteps:=1000000) only [push_cast,reduceCtorEq,Nat.reduceAdd,Nat.reduceMul,Nat.reduceSub,Nat.reduceBEq,Nat.reduceGT,Nat.reduceLT,Int.toNat_zero,Nat.reduceLeDiff,Int.reduceEq,Int.reduceLT,Int.reduceLE,hP,hΓ,hL,hfin,↓Z00,String.reduceEq,not_false_eq_true,if_true,h76,Z0c ((s.c:Int) - 1) (by constructor <;> omega)])
  refine⟨s.ok,by omega,s.next (fun r hr=>(Z1Q hr).1) (by omega) h.2,by simp only [Z0r.next]; omega,?_⟩
  simp only [Z0r.next,List.map_append,List.map_cons,List.map_nil,List.flatMap_append,List.flatMap_cons,List.flatMap_nil,List.append_nil,List.length_append,List.length_cons,List.length_nil,Nat.zero_add,show ((s.c - 1:Nat):Int)=(s.c:Int) - 1 by omega]
  exact Z06.sameA
 ·((first | with_reducible refine holds_of_ex X 400 _ _ _ ?_ | skip); simp (maxSteps:=1000000) only [push_cast,reduceCtorEq,Nat.reduceAdd,Nat.reduceMul,Nat.reduceSub,Nat.reduceBEq,Nat.reduceGT,Nat.reduceLT,Int.toNat_zero,Nat.reduceLeDiff,Int.reduceEq,Int.reduceLT,Int.reduceLE,hP,hΓ,hL,hfin,↓Z00,String.reduceEq,not_false_eq_true,if_true])
  (refine Z0k.frz 1 (by simp only [push_cast,reduceCtorEq,Nat.reduceAdd,Nat.reduceMul,Nat.reduceSub,Nat.reduceBEq,Nat.reduceGT,Nat.reduceLT,Int.toNat_zero,Nat.reduceLeDiff,Int.reduceEq,Int.reduceLT,Int.reduceLE]; first | done | decide | omega) (by simp only [Z15,Z28,Z27,or_true,true_or,push_cast,reduceCtorEq,Nat.reduceAdd,Nat.reduceMul,Nat.reduceSub,Nat.reduceBEq,Nat.reduceGT,Nat.reduceLT,Int.toNat_zero,Nat.reduceLeDiff,Int.reduceEq,Int.reduceLT,Int.reduceLE]) ?_; simp only [push_cast,reduceCtorEq,Nat.reduceAdd,Nat.reduceMul,Nat.reduceSub,Nat.reduceBEq,Nat.reduceGT,Nat.reduceLT,Int.toNat_zero,Nat.reduceLeDiff,Int.reduceEq,Int.reduceLT,Int.reduceLE])
  simp only [Z2b,Z3W]
  rw [show Z0b Z0T 65536 r=(s.l,s.r) from s.done (by omega)]
  exact Z06.keep1A
theorem con79{Γ:Env}(h:Z07 Tryz.prog Γ)(h76:Γ 31=some S76)(h90:Γ 45=some S90):Con Tryz.prog 34 S79:=
 Z0v h (fn:=Tryz.f34) (by kernel_rfl) rfl (by kernel_rfl) inj79 fun r h=>body79 Γ h76 h90 r h
def e84:(Rd)→List AV×Heap:=fun r=>([.ref 0 0 0,.int .u32 200,.fn (.func 40) [] [.ref 1 0 0]],[.row r.c 3 0,.row [.ref 0 0 0] 1 0])
def p84:(Rd)→Prop:=fun r=>r.ok
def r84:(Rd)→AV:=fun r=>.sl ((Z0b (fun r=>Z0R r 200) 200 r).1.map .str) (Z0b (fun r=>Z0R r 200) 200 r).1.length
def g84:(Rd)→Heap:=fun r=>[.row (Z0b (fun r=>Z0R r 200) 200 r).2.c 3 0,.row [.ref 0 0 0] 1 0]
theorem inj84:∀a b,e84 a=e84 b→a=b:=by
 rintro r r' h
 simp only [e84,Z0f,Z0h,Z0i,Z0g,Z0V,Prod.mk.injEq,List.cons.injEq,Z0L.row.injEq,AV.int.injEq,AV.str.injEq,AV.bool.injEq,AV.sl.injEq,AV.agg.injEq,AV.ip.injEq,AV.fn.injEq,AV.ifc.injEq,AV.mpr.injEq,AV.msl.injEq,AV.ref.injEq,Int.natCast_inj,and_true,true_and] at h
 simp_all only
noncomputable def S84:Z0n:=Z1I false e84 p84 r84 g84
theorem Zk8(r:(Rd)):Z1p e84 p84 ([.ref 0 0 0,.int .u32 200,.fn (.func 40) [] [.ref 1 0 0]],[.row r.c 3 0,.row [.ref 0 0 0] 1 0])=(r.ok):=Z0x inj84 p84 r
theorem ZjN(r:(Rd)):Z0A e84 r84 .any ([.ref 0 0 0,.int .u32 200,.fn (.func 40) [] [.ref 1 0 0]],[.row r.c 3 0,.row [.ref 0 0 0] 1 0])=(.sl ((Z0b (fun r=>Z0R r 200) 200 r).1.map .str) (Z0b (fun r=>Z0R r 200) 200 r).1.length):=Z09 inj84 r84 .any r
theorem ZkL(r:(Rd)):Z0A e84 g84 [] ([.ref 0 0 0,.int .u32 200,.fn (.func 40) [] [.ref 1 0 0]],[.row r.c 3 0,.row [.ref 0 0 0] 1 0])=([.row (Z0b (fun r=>Z0R r 200) 200 r).2.c 3 0,.row [.ref 0 0 0] 1 0]):=Z09 inj84 g84 [] r
attribute [push_cast] S84 Zk8 ZjN ZkL
theorem body84(Γ:Env)(h85:Γ 40=some S85)(h90:Γ 45=some S90)(r:Rd)(hr:r.ok):Z0a Tryz.prog Γ Tryz.f39 [.ref 0 0 0,.int .u32 200,.fn (.func 40) [] [.ref 1 0 0]] [.row r.c 3 0,.row [.ref 0 0 0] 1 0] (.sl ((Z0b (fun r=>Z0R r 200) 200 r).1.map .str) (Z0b (fun r=>Z0R r 200) 200 r).1.length) [.row (Z0b (fun r=>Z0R r 200) 200 r).2.c 3 0,.row [.ref 0 0 0] 1 0]:=by
 have h1:=Z0S hr 200
 have b1:=Z2r r 200
 (intro X hP hΓ hL hfin; refine⟨_,rfl,?_⟩; rw [show Tryz.f39.ntmps=29 from rfl]; rw [show Tryz.f39.results.toList=[.tmp 6] from rfl] at hfin; apply holds_of_ex X 400; simp (maxSteps:=1000000) only [push_cast,reduceCtorEq,Nat.reduceAdd,Nat.reduceMul,Nat.reduceSub,Nat.reduceBEq,Nat.reduceGT,Nat.reduceLT,Int.toNat_zero,Nat.reduceLeDiff,Int.reduceEq,Int.reduceLT,Int.reduceLE,hP,hΓ,hL,hfin,↓Z00,String.reduceEq,not_false_eq_true,if_true,h90])
 refine⟨hr,?_⟩
 refine Holds.loopM (ι:=Z0r (fun r=>Z0R r 200) (Z1m r 200).1.toNat (Z1m r 200).2) [true,false,true,false,false,false,true,false,false,false,false,false,false,false,false,false,false,false,false,false,false,false,false,false,false,false,false,false,false] (fun i=>[(7,.msl 2 i.l.length 0 i.l.length),(8,.int .i64 i.c)]) (fun i=>[.row i.r.c 3 0,.row [.ref 0 0 0] 1 0,.row (i.l.map .str) 1 i.l.length]) (fun i=>i.c) (Z0r.init _ _ _ h1.1) ?_ ?_
 ·rw [hL]; simp only [push_cast,Int.natCast_zero]
  (refine Z0k.nil 7  1 rfl ?_; simp only [push_cast,reduceCtorEq,Nat.reduceAdd,Nat.reduceMul,Nat.reduceSub,Nat.reduceBEq,Nat.reduceGT,Nat.reduceLT,Int.toNat_zero,Nat.reduceLeDiff,Int.reduceEq,Int.reduceLT,Int.reduceLE])
  simp only [Z0r.init,List.map_nil,List.flatMap_nil,List.length_nil,Int.toNat_of_nonneg b1.1]
  exact Z06.sameA
 intro s
 have hl:=s.len
 ((first | with_reducible refine holds_of_ex X 400 _ _ _ ?_ | skip); simp (maxSteps:=1000000) only [push_cast,reduceCtorEq,Nat.reduceAdd,Nat.reduceMul,Nat.reduceSub,Nat.reduceBEq,Nat.reduceGT,Nat.reduceLT,Int.toNat_zero,Nat.reduceLeDiff,Int.reduceEq,Int.reduceLT,Int.reduceLE,hP,hΓ,hL,hfin,↓Z00,String.reduceEq,not_false_eq_true,if_true])
 ((with_reducible refine Z02 (fun h=>?_) (fun h=>?_)) <;> (try simp only [decide_eq_true_eq,decide_eq_false_iff_not,Bool.and_eq_true,Bool.or_eq_true,Bool.and_eq_false_iff,Bool.or_eq_false_iff,Bool.not_eq_true',Bool.not_eq_false',Bool.not_eq_true,Bool.not_eq_false,Int.not_lt,Int.not_le,beq_iff_eq,beq_eq_false_iff_ne,ne_eq,win_t,win_f] at h))
 ·((first | with_reducible refine holds_of_ex X 400 _ _ _ ?_ | skip); simp (maxSteps:=1000000) only [push_cast,reduceCtorEq,Nat.reduceAdd,Nat.reduceMul,Nat.reduceSub,Nat.reduceBEq,Nat.reduceGT,Nat.reduceLT,Int.toNat_zero,Nat.reduceLeDiff,Int.reduceEq,Int.reduceLT,Int.reduceLE,hP,hΓ,hL,hfin,↓Z00,String.reduceEq,not_false_eq_true,if_true,h85,Z0c ((s.c:Int) - 1) (by constructor <;> omega)])
  refine⟨s.ok,by omega,s.next (fun r hr=>(Z1i hr 200).1) (by omega) h.2,by simp only [Z0r.next]; omega,?_⟩
  simp only [Z0r.next,List.map_append,List.map_cons,List.map_nil,List.flatMap_append,List.flatMap_cons,List.flatMap_nil,List.append_nil,List.length_append,List.length_cons,List.length_nil,Nat.zero_add,show ((s.c - 1:Nat):Int)=(s.c:Int) - 1 by omega]
  exact Z06.sameA
 ·((first | with_reducible refine holds_of_ex X 400 _ _ _ ?_ | skip); simp (maxSteps:=1000000) only [push_cast,reduceCtorEq,Nat.reduceAdd,Nat.reduceMul,Nat.reduceSub,Nat.reduceBEq,Nat.reduceGT,Nat.reduceLT,Int.toNat_zero,Nat.reduceLeDiff,Int.reduceEq,Int.reduceLT,Int.reduceLE,hP,hΓ,hL,hfin,↓Z00,String.reduceEq,not_false_eq_true,if_true])
  (refine Z0k.frz 2 (by simp only [push_cast,reduceCtorEq,Nat.reduceAdd,Nat.reduceMul,Nat.reduceSub,Nat.reduceBEq,Nat.reduceGT,Nat.reduceLT,Int.toNat_zero,Nat.reduceLeDiff,Int.reduceEq,Int.reduceLT,Int.reduceLE]; first | done | decide | omega) (by simp only [Z15,Z28,Z27,or_true,true_or,push_cast,reduceCtorEq,Nat.reduceAdd,Nat.reduceMul,Nat.reduceSub,Nat.reduceBEq,Nat.reduceGT,Nat.reduceLT,Int.toNat_zero,Nat.reduceLeDiff,Int.reduceEq,Int.reduceLT,Int.reduceLE]) ?_; simp only [push_cast,reduceCtorEq,Nat.reduceAdd,Nat.reduceMul,Nat.reduceSub,Nat.reduceBEq,Nat.reduceGT,Nat.reduceLT,Int.toNat_zero,Nat.reduceLeDiff,Int.reduceEq,Int.reduceLT,Int.reduceLE])
  simp only [Z2b,Z3W]
  rw [show Z0b (fun r=>Z0R r 200) 200 r=(s.l,s.r) from s.done (by omega)]
  exact Z06.keep2A
theorem con84{Γ:Env}(h:Z07 Tryz.prog Γ)(h85:Γ 40=some S85)(h90:Γ 45=some S90):Con Tryz.prog 39 S84:=
 Z0v h (fn:=Tryz.f39) (by kernel_rfl) rfl (by kernel_rfl) inj84 fun r h=>body84 Γ h85 h90 r h
def e88:(Rd)→List AV×Heap:=fun r=>([.ref 0 0 0,.int .u32 65536,.fn (.func 44) [] [.ref 1 0 0]],[.row r.c 3 0,.row [.ref 0 0 0] 1 0])
def p88:(Rd)→Prop:=fun r=>r.ok
def r88:(Rd)→AV:=fun r=>.sl ((Z0b Z3P 65536 r).1.flatMap Fx.c) (Z0b Z3P 65536 r).1.length
def g88:(Rd)→Heap:=fun r=>[.row (Z0b Z3P 65536 r).2.c 3 0,.row [.ref 0 0 0] 1 0]
theorem inj88:∀a b,e88 a=e88 b→a=b:=by
 rintro r r' h
 simp only [e88,Z0f,Z0h,Z0i,Z0g,Z0V,Prod.mk.injEq,List.cons.injEq,Z0L.row.injEq,AV.int.injEq,AV.str.injEq,AV.bool.injEq,AV.sl.injEq,AV.agg.injEq,AV.ip.injEq,AV.fn.injEq,AV.ifc.injEq,AV.mpr.injEq,AV.msl.injEq,AV.ref.injEq,Int.natCast_inj,and_true,true_and] at h
 simp_all only
noncomputable def S88:Z0n:=Z1I false e88 p88 r88 g88
theorem Zk5(r:(Rd)):Z1p e88 p88 ([.ref 0 0 0,.int .u32 65536,.fn (.func 44) [] [.ref 1 0 0]],[.row r.c 3 0,.row [.ref 0 0 0] 1 0])=(r.ok):=Z0x inj88 p88 r
theorem ZjK(r:(Rd)):Z0A e88 r88 .any ([.ref 0 0 0,.int .u32 65536,.fn (.func 44) [] [.ref 1 0 0]],[.row r.c 3 0,.row [.ref 0 0 0] 1 0])=(.sl ((Z0b Z3P 65536 r).1.flatMap Fx.c) (Z0b Z3P 65536 r).1.length):=Z09 inj88 r88 .any r
theorem ZkI(r:(Rd)):Z0A e88 g88 [] ([.ref 0 0 0,.int .u32 65536,.fn (.func 44) [] [.ref 1 0 0]],[.row r.c 3 0,.row [.ref 0 0 0] 1 0])=([.row (Z0b Z3P 65536 r).2.c 3 0,.row [.ref 0 0 0] 1 0]):=Z09 inj88 g88 [] r
attribute [push_cast] S88 Zk5 ZjK ZkI
theorem body88(Γ:Env)(h89:Γ 44=some S89)(h90:Γ 45=some S90)(r:Rd)(hr:r.ok):Z0a Tryz.prog Γ Tryz.f43 [.ref 0 0 0,.int .u32 65536,.fn (.func 44) [] [.ref 1 0 0]] [.row r.c 3 0,.row [.ref 0 0 0] 1 0] (.sl ((Z0b Z3P 65536 r).1.flatMap Fx.c) (Z0b Z3P 65536 r).1.length) [.row (Z0b Z3P 65536 r).2.c 3 0,.row [.ref 0 0 0] 1 0]:=by
 have h1:=Z0S hr 65536
 have b1:=Z2r r 65536
 (intro X hP hΓ hL hfin; refine⟨_,rfl,?_⟩; rw [show Tryz.f43.ntmps=29 from rfl]; rw [show Tryz.f43.results.toList=[.tmp 6] from rfl] at hfin; apply holds_of_ex X 400; simp (maxSteps:=1000000) only [push_cast,reduceCtorEq,Nat.reduceAdd,Nat.reduceMul,Nat.reduceSub,Nat.reduceBEq,Nat.reduceGT,Nat.reduceLT,Int.toNat_zero,Nat.reduceLeDiff,Int.reduceEq,Int.reduceLT,Int.reduceLE,hP,hΓ,hL,hfin,↓Z00,String.reduceEq,not_false_eq_true,if_true,h90])
 refine⟨hr,?_⟩
 refine Holds.loopM (ι:=Z0r Z3P (Z1m r 65536).1.toNat (Z1m r 65536).2) [true,false,true,false,false,false,true,false,false,false,false,false,false,false,false,false,false,false,false,false,false,false,false,false,false,false,false,false,false] (fun i=>[(7,.msl 2 i.l.length 0 i.l.length),(8,.int .i64 i.c)]) (fun i=>[.row i.r.c 3 0,.row [.ref 0 0 0] 1 0,.row (i.l.flatMap Fx.c) 4 i.l.length]) (fun i=>i.c) (Z0r.init _ _ _ h1.1) ?_ ?_
 ·rw [hL]; simp only [push_cast,Int.natCast_zero]
  (refine Z0k.nil 7  4 rfl ?_; simp only [push_cast,reduceCtorEq,Nat.reduceAdd,Nat.reduceMul,Nat.reduceSub,Nat.reduceBEq,Nat.reduceGT,Nat.reduceLT,Int.toNat_zero,Nat.reduceLeDiff,Int.reduceEq,Int.reduceLT,Int.reduceLE])
  simp only [Z0r.init,List.map_nil,List.flatMap_nil,List.length_nil,Int.toNat_of_nonneg b1.1]
  exact Z06.sameA
 intro s
 have hl:=s.len
 ((first | with_reducible refine holds_of_ex X 400 _ _ _ ?_ | skip); simp (maxSteps:=1000000) only [push_cast,reduceCtorEq,Nat.reduceAdd,Nat.reduceMul,Nat.reduceSub,Nat.reduceBEq,Nat.reduceGT,Nat.reduceLT,Int.toNat_zero,Nat.reduceLeDiff,Int.reduceEq,Int.reduceLT,Int.reduceLE,hP,hΓ,hL,hfin,↓Z00,String.reduceEq,not_false_eq_true,if_true])
 ((with_reducible refine Z02 (fun h=>?_) (fun h=>?_)) <;> (try simp only [decide_eq_true_eq,decide_eq_false_iff_not,Bool.and_eq_true,Bool.or_eq_true,Bool.and_eq_false_iff,Bool.or_eq_false_iff,Bool.not_eq_true',Bool.not_eq_false',Bool.not_eq_true,Bool.not_eq_false,Int.not_lt,Int.not_le,beq_iff_eq,beq_eq_false_iff_ne,ne_eq,win_t,win_f] at h))
 ·((first | with_reducible refine holds_of_ex X 400 _ _ _ ?_ | skip); simp (maxSteps:=1000000) only [push_cast,reduceCtorEq,Nat.reduceAdd,Nat.reduceMul,Nat.reduceSub,Nat.reduceBEq,Nat.reduceGT,Nat.reduceLT,Int.toNat_zero,Nat.reduceLeDiff,Int.reduceEq,Int.reduceLT,Int.reduceLE,hP,hΓ,hL,hfin,↓Z00,String.reduceEq,not_false_eq_true,if_true,h89,Z0c ((s.c:Int) - 1) (by constructor <;> omega)])
  refine⟨s.ok,by omega,s.next (fun r hr=>(Z8n hr).1) (by omega) h.2,by simp only [Z0r.next]; omega,?_⟩
  simp only [Z0r.next,List.map_append,List.map_cons,List.map_nil,List.flatMap_append,List.flatMap_cons,List.flatMap_nil,List.append_nil,List.length_append,List.length_cons,List.length_nil,Nat.zero_add,show ((s.c - 1:Nat):Int)=(s.c:Int) - 1 by omega]
  exact Z06.sameA
 ·((first | with_reducible refine holds_of_ex X 400 _ _ _ ?_ | skip); simp (maxSteps:=1000000) only [push_cast,reduceCtorEq,Nat.reduceAdd,Nat.reduceMul,Nat.reduceSub,Nat.reduceBEq,Nat.reduceGT,Nat.reduceLT,Int.toNat_zero,Nat.reduceLeDiff,Int.reduceEq,Int.reduceLT,Int.reduceLE,hP,hΓ,hL,hfin,↓Z00,String.reduceEq,not_false_eq_true,if_true])
  (refine Z0k.frz 2 (by simp only [push_cast,reduceCtorEq,Nat.reduceAdd,Nat.reduceMul,Nat.reduceSub,Nat.reduceBEq,Nat.reduceGT,Nat.reduceLT,Int.toNat_zero,Nat.reduceLeDiff,Int.reduceEq,Int.reduceLT,Int.reduceLE]; first | done | decide | omega) (by simp only [Z15,Z28,Z27,or_true,true_or,push_cast,reduceCtorEq,Nat.reduceAdd,Nat.reduceMul,Nat.reduceSub,Nat.reduceBEq,Nat.reduceGT,Nat.reduceLT,Int.toNat_zero,Nat.reduceLeDiff,Int.reduceEq,Int.reduceLT,Int.reduceLE]) ?_; simp only [push_cast,reduceCtorEq,Nat.reduceAdd,Nat.reduceMul,Nat.reduceSub,Nat.reduceBEq,Nat.reduceGT,Nat.reduceLT,Int.toNat_zero,Nat.reduceLeDiff,Int.reduceEq,Int.reduceLT,Int.reduceLE])
  simp only [Z2b,Z3W]
  rw [show Z0b Z3P 65536 r=(s.l,s.r) from s.done (by omega)]
  exact Z06.keep2A
theorem con88{Γ:Env}(h:Z07 Tryz.prog Γ)(h89:Γ 44=some S89)(h90:Γ 45=some S90):Con Tryz.prog 43 S88:=
 Z0v h (fn:=Tryz.f43) (by kernel_rfl) rfl (by kernel_rfl) inj88 fun r h=>body88 Γ h89 h90 r h
theorem body80a(Γ:Env)(h82:Γ 37=some S82)(h90:Γ 45=some S90)(r:Rd)(m:Int)(hr:r.ok):Z0a Tryz.prog Γ Tryz.f35 [.ref 0 0 0,.int .u32 m,.fn (.func 37) [.ref 0 0 0] []] [.row r.c 3 0] (.sl ((Z0b Z20 m r).1.map (.int .i64)) (Z0b Z20 m r).1.length) [.row (Z0b Z20 m r).2.c 3 0]:=by
 have h1:=Z0S hr m
 have b1:=Z2r r m
 (intro X hP hΓ hL hfin; refine⟨_,rfl,?_⟩; rw [show Tryz.f35.ntmps=29 from rfl]; rw [show Tryz.f35.results.toList=[.tmp 6] from rfl] at hfin; apply holds_of_ex X 400; simp (maxSteps:=1000000) only [push_cast,reduceCtorEq,Nat.reduceAdd,Nat.reduceMul,Nat.reduceSub,Nat.reduceBEq,Nat.reduceGT,Nat.reduceLT,Int.toNat_zero,Nat.reduceLeDiff,Int.reduceEq,Int.reduceLT,Int.reduceLE,hP,hΓ,hL,hfin,↓Z00,String.reduceEq,not_false_eq_true,if_true,h90])
 refine⟨hr,?_⟩
 refine Holds.loopM (ι:=Z0r Z20 (Z1m r m).1.toNat (Z1m r m).2) [true,false,true,false,false,false,true,false,false,false,false,false,false,false,false,false,false,false,false,false,false,false,false,false,false,false,false,false,false] (fun i=>[(7,.msl 1 i.l.length 0 i.l.length),(8,.int .i64 i.c)]) (fun i=>[.row i.r.c 3 0,.row (i.l.map (.int .i64)) 1 i.l.length]) (fun i=>i.c) (Z0r.init _ _ _ h1.1) ?_ ?_
 ·rw [hL]; simp only [push_cast,Int.natCast_zero]
  (refine Z0k.nil 7  1 rfl ?_; simp only [push_cast,reduceCtorEq,Nat.reduceAdd,Nat.reduceMul,Nat.reduceSub,Nat.reduceBEq,Nat.reduceGT,Nat.reduceLT,Int.toNat_zero,Nat.reduceLeDiff,Int.reduceEq,Int.reduceLT,Int.reduceLE])
  simp only [Z0r.init,List.map_nil,List.flatMap_nil,List.length_nil,Int.toNat_of_nonneg b1.1]
  exact Z06.sameA
 intro s
 have hl:=s.len
 ((first | with_reducible refine holds_of_ex X 400 _ _ _ ?_ | skip); simp (maxSteps:=1000000) only [push_cast,reduceCtorEq,Nat.reduceAdd,Nat.reduceMul,Nat.reduceSub,Nat.reduceBEq,Nat.reduceGT,Nat.reduceLT,Int.toNat_zero,Nat.reduceLeDiff,Int.reduceEq,Int.reduceLT,Int.reduceLE,hP,hΓ,hL,hfin,↓Z00,String.reduceEq,not_false_eq_true,if_true])
 ((with_reducible refine Z02 (fun h=>?_) (fun h=>?_)) <;> (try simp only [decide_eq_true_eq,decide_eq_false_iff_not,Bool.and_eq_true,Bool.or_eq_true,Bool.and_eq_false_iff,Bool.or_eq_false_iff,Bool.not_eq_true',Bool.not_eq_false',Bool.not_eq_true,Bool.not_eq_false,Int.not_lt,Int.not_le,beq_iff_eq,beq_eq_false_iff_ne,ne_eq,win_t,win_f] at h))
 ·((first | with_reducible refine holds_of_ex X 400 _ _ _ ?_ | skip); simp (maxSteps:=1000000) only [push_cast,reduceCtorEq,Nat.reduceAdd,Nat.reduceMul,Nat.reduceSub,Nat.reduceBEq,Nat.reduceGT,Nat.reduceLT,Int.toNat_zero,Nat.reduceLeDiff,Int.reduceEq,Int.reduceLT,Int.reduceLE,hP,hΓ,hL,hfin,↓Z00,String.reduceEq,not_false_eq_true,if_true,h82,Z0c ((s.c:Int) - 1) (by constructor <;> omega)])
  refine⟨s.ok,by omega,s.next (fun r hr=>(Z0S hr _).1) (by omega) h.2,by simp only [Z0r.next]; omega,?_⟩
  simp only [Z0r.next,List.map_append,List.map_cons,List.map_nil,List.flatMap_append,List.flatMap_cons,List.flatMap_nil,List.append_nil,List.length_append,List.length_cons,List.length_nil,Nat.zero_add,show ((s.c - 1:Nat):Int)=(s.c:Int) - 1 by omega]
  exact Z06.sameA
 ·((first | with_reducible refine holds_of_ex X 400 _ _ _ ?_ | skip); simp (maxSteps:=1000000) only [push_cast,reduceCtorEq,Nat.reduceAdd,Nat.reduceMul,Nat.reduceSub,Nat.reduceBEq,Nat.reduceGT,Nat.reduceLT,Int.toNat_zero,Nat.reduceLeDiff,Int.reduceEq,Int.reduceLT,Int.reduceLE,hP,hΓ,hL,hfin,↓Z00,String.reduceEq,not_false_eq_true,if_true])
  (refine Z0k.frz 1 (by simp only [push_cast,reduceCtorEq,Nat.reduceAdd,Nat.reduceMul,Nat.reduceSub,Nat.reduceBEq,Nat.reduceGT,Nat.reduceLT,Int.toNat_zero,Nat.reduceLeDiff,Int.reduceEq,Int.reduceLT,Int.reduceLE]; first | done | decide | omega) (by simp only [Z15,Z28,Z27,or_true,true_or,push_cast,reduceCtorEq,Nat.reduceAdd,Nat.reduceMul,Nat.reduceSub,Nat.reduceBEq,Nat.reduceGT,Nat.reduceLT,Int.toNat_zero,Nat.reduceLeDiff,Int.reduceEq,Int.reduceLT,Int.reduceLE]) ?_; simp only [push_cast,reduceCtorEq,Nat.reduceAdd,Nat.reduceMul,Nat.reduceSub,Nat.reduceBEq,Nat.reduceGT,Nat.reduceLT,Int.toNat_zero,Nat.reduceLeDiff,Int.reduceEq,Int.reduceLT,Int.reduceLE])
  simp only [Z2b,Z3W]
  rw [show Z0b Z20 m r=(s.l,s.r) from s.done (by omega)]
  exact Z06.keep1A
def Z0I(r:Rd):(Int×Z04×Bool)×Rd:=
 let a:=Z20 r
 let s:=Z0R a.2 20
 let b:=Z1Y s.2 1
 ((a.1,s.1,decide (b.1=1)),b.2)
theorem Z3H{r:Rd}(hr:r.ok):(Z0I r).2.ok∧(Z0I r).2.b=r.b:=by
 have h1:=Z0S hr 4294967295
 have h2:=Z1i h1.1 20
 have h3:=Z4E h2.1 1
 exact⟨h3.1,h3.2.trans (h2.2.trans h1.2)⟩
theorem Z4J{α β γ:Type}(f:α→β)(g:β→γ)(l:List α):List.take l.length ((l.map f).map g)=(l.map f).map g:=List.take_of_length_le (by simp)
theorem Z3q(r:Rd)(m:Int)(hm:0≤m):(Z1m r m).1≤m:=by
 unfold Z1m
 simp only
 split
 ·rename_i h
  obtain⟨_,h,_⟩:=Z8I h
  simp only [Bool.and_eq_true,decide_eq_true_eq] at h
  exact h.2
 ·omega
def e81:(Rd)×(Z04)×(Int)×(List Im)×(Nat)×(List Int)×(Nat)×(List Z04)×(List Bool)×(Nat)→List AV×Heap:=fun (r,name,key,imps,ni,code,nc,ns,es,n)=>([.ref 0 0 0,.ref 1 0 0],[.row [.ref 2 0 0] 1 0,.row [.str name,.int .u32 key,.sl (imps.flatMap Im.c) ni,.sl (code.map (.int .u32)) nc,.lit (.slice none 0 0),.msl 3 n 0 n,.msl 4 n 0 n,.int .i64 0,.lit (.slice none 0 0),.lit (.slice none 0 0),.lit (.slice none 0 0),.lit (.slice none 0 0),.lit (.slice none 0 0)] 13 0,.row r.c 3 0,.row (ns.map .str) 1 n,.row (es.map .bool) 1 n])
def p81:(Rd)×(Z04)×(Int)×(List Im)×(Nat)×(List Int)×(Nat)×(List Z04)×(List Bool)×(Nat)→Prop:=fun (r,name,key,imps,ni,code,nc,ns,es,n)=>r.ok∧n≤100000∧n=ns.length∧n=es.length∧ni=imps.length∧nc=code.length
def r81:(Rd)×(Z04)×(Int)×(List Im)×(Nat)×(List Int)×(Nat)×(List Z04)×(List Bool)×(Nat)→AV:=fun (r,name,key,imps,ni,code,nc,ns,es,n)=>.int .i64 (Z0I r).1.1
def g81:(Rd)×(Z04)×(Int)×(List Im)×(Nat)×(List Int)×(Nat)×(List Z04)×(List Bool)×(Nat)→Heap:=fun (r,name,key,imps,ni,code,nc,ns,es,n)=>[.row [.ref 2 0 0] 1 0,.row [.str name,.int .u32 key,.sl (imps.flatMap Im.c) ni,.sl (code.map (.int .u32)) nc,.lit (.slice none 0 0),.msl 3 (n+1) 0 (n+1),.msl 4 (n+1) 0 (n+1),.int .i64 0,.lit (.slice none 0 0),.lit (.slice none 0 0),.lit (.slice none 0 0),.lit (.slice none 0 0),.lit (.slice none 0 0)] 13 0,.row (Z0I r).2.c 3 0,.row ((ns++[(Z0I r).1.2.1]).map .str) 1 (n+1),.row ((es++[(Z0I r).1.2.2]).map .bool) 1 (n+1)]
theorem inj81:∀a b,e81 a=e81 b→a=b:=by
 rintro⟨r,name,key,imps,ni,code,nc,ns,es,n⟩ ⟨r',name',key',imps',ni',code',nc',ns',es',n'⟩ h
 simp only [e81,Z0f,Z0h,Z0i,Z0g,Z0V,Z0u,Prod.mk.injEq,List.cons.injEq,Z0L.row.injEq,AV.int.injEq,AV.str.injEq,AV.bool.injEq,AV.sl.injEq,AV.agg.injEq,AV.ip.injEq,AV.fn.injEq,AV.ifc.injEq,AV.mpr.injEq,AV.msl.injEq,AV.ref.injEq,Int.natCast_inj,and_true,true_and] at h
 simp_all only
noncomputable def S81:Z0n:=Z1I true e81 p81 r81 g81
theorem Zk9(r:(Rd))(name:(Z04))(key:(Int))(imps:(List Im))(ni:(Nat))(code:(List Int))(nc:(Nat))(ns:(List Z04))(es:(List Bool))(n:(Nat)):Z1p e81 p81 ([.ref 0 0 0,.ref 1 0 0],[.row [.ref 2 0 0] 1 0,.row [.str name,.int .u32 key,.sl (imps.flatMap Im.c) ni,.sl (code.map (.int .u32)) nc,.lit (.slice none 0 0),.msl 3 n 0 n,.msl 4 n 0 n,.int .i64 0,.lit (.slice none 0 0),.lit (.slice none 0 0),.lit (.slice none 0 0),.lit (.slice none 0 0),.lit (.slice none 0 0)] 13 0,.row r.c 3 0,.row (ns.map .str) 1 n,.row (es.map .bool) 1 n])=(r.ok∧n≤100000∧n=ns.length∧n=es.length∧ni=imps.length∧nc=code.length):=Z0x inj81 p81 (r,name,key,imps,ni,code,nc,ns,es,n)
theorem ZjO(r:(Rd))(name:(Z04))(key:(Int))(imps:(List Im))(ni:(Nat))(code:(List Int))(nc:(Nat))(ns:(List Z04))(es:(List Bool))(n:(Nat)):Z0A e81 r81 .any ([.ref 0 0 0,.ref 1 0 0],[.row [.ref 2 0 0] 1 0,.row [.str name,.int .u32 key,.sl (imps.flatMap Im.c) ni,.sl (code.map (.int .u32)) nc,.lit (.slice none 0 0),.msl 3 n 0 n,.msl 4 n 0 n,.int .i64 0,.lit (.slice none 0 0),.lit (.slice none 0 0),.lit (.slice none 0 0),.lit (.slice none 0 0),.lit (.slice none 0 0)] 13 0,.row r.c 3 0,.row (ns.map .str) 1 n,.row (es.map .bool) 1 n])=(.int .i64 (Z0I r).1.1):=Z09 inj81 r81 .any (r,name,key,imps,ni,code,nc,ns,es,n)
theorem ZkM(r:(Rd))(name:(Z04))(key:(Int))(imps:(List Im))(ni:(Nat))(code:(List Int))(nc:(Nat))(ns:(List Z04))(es:(List Bool))(n:(Nat)):Z0A e81 g81 [] ([.ref 0 0 0,.ref 1 0 0],[.row [.ref 2 0 0] 1 0,.row [.str name,.int .u32 key,.sl (imps.flatMap Im.c) ni,.sl (code.map (.int .u32)) nc,.lit (.slice none 0 0),.msl 3 n 0 n,.msl 4 n 0 n,.int .i64 0,.lit (.slice none 0 0),.lit (.slice none 0 0),.lit (.slice none 0 0),.lit (.slice none 0 0),.lit (.slice none 0 0)] 13 0,.row r.c 3 0,.row (ns.map .str) 1 n,.row (es.map .bool) 1 n])=([.row [.ref 2 0 0] 1 0,.row [.str name,.int .u32 key,.sl (imps.flatMap Im.c) ni,.sl (code.map (.int .u32)) nc,.lit (.slice none 0 0),.msl 3 (n+1) 0 (n+1),.msl 4 (n+1) 0 (n+1),.int .i64 0,.lit (.slice none 0 0),.lit (.slice none 0 0),.lit (.slice none 0 0),.lit (.slice none 0 0),.lit (.slice none 0 0)] 13 0,.row (Z0I r).2.c 3 0,.row ((ns++[(Z0I r).1.2.1]).map .str) 1 (n+1),.row ((es++[(Z0I r).1.2.2]).map .bool) 1 (n+1)]):=Z09 inj81 g81 [] (r,name,key,imps,ni,code,nc,ns,es,n)
attribute [push_cast] S81 Zk9 ZjO ZkM
theorem body81(Γ:Env)(h82:Γ 37=some S82)(h75:Γ 30=some S75)(h83:Γ 38=some S83)(r:Rd)(name:Z04)(key:Int)(imps:List Im)(ni:Nat)(code:List Int)(nc:Nat)(ns:List Z04)(es:List Bool)(n:Nat)(hr:r.ok)(hn:n≤100000)(e1:n=ns.length)(e2:n=es.length)(e3:ni=imps.length)(e4:nc=code.length) :
  Z0a Tryz.prog Γ Tryz.f36 [.ref 0 0 0,.ref 1 0 0] [.row [.ref 2 0 0] 1 0,.row [.str name,.int .u32 key,.sl (imps.flatMap Im.c) ni,.sl (code.map (.int .u32)) nc,.lit (.slice none 0 0),.msl 3 n 0 n,.msl 4 n 0 n,.int .i64 0,.lit (.slice none 0 0),.lit (.slice none 0 0),.lit (.slice none 0 0),.lit (.slice none 0 0),.lit (.slice none 0 0)] 13 0,.row r.c 3 0,.row (ns.map .str) 1 n,.row (es.map .bool) 1 n] (.int .i64 (Z0I r).1.1) [.row [.ref 2 0 0] 1 0,.row [.str name,.int .u32 key,.sl (imps.flatMap Im.c) ni,.sl (code.map (.int .u32)) nc,.lit (.slice none 0 0),.msl 3 (n+1) 0 (n+1),.msl 4 (n+1) 0 (n+1),.int .i64 0,.lit (.slice none 0 0),.lit (.slice none 0 0),.lit (.slice none 0 0),.lit (.slice none 0 0),.lit (.slice none 0 0)] 13 0,.row (Z0I r).2.c 3 0,.row ((ns++[(Z0I r).1.2.1]).map .str) 1 (n+1),.row ((es++[(Z0I r).1.2.2]).map .bool) 1 (n+1)]:=by
 have h1:=Z0S hr 4294967295
 have h2:=Z1i h1.1 20
 have h3:=Z4E h2.1 1
 have l1:(ns.map AV.str).length=n:=by rw [List.length_map,e1]
 have l2:(es.map AV.bool).length=n:=by rw [List.length_map,e2]
 (intro X hP hΓ hL hfin; refine⟨_,rfl,?_⟩; rw [show Tryz.f36.ntmps=22 from rfl]; rw [show Tryz.f36.results.toList=[.tmp 2] from rfl] at hfin; apply holds_of_ex X 400; simp (maxSteps:=1000000) only [push_cast,reduceCtorEq,Nat.reduceAdd,Nat.reduceMul,Nat.reduceSub,Nat.reduceBEq,Nat.reduceGT,Nat.reduceLT,Int.toNat_zero,Nat.reduceLeDiff,Int.reduceEq,Int.reduceLT,Int.reduceLE,hP,hΓ,hL,hfin,↓Z00,String.reduceEq,not_false_eq_true,if_true,h82,h75,h83])
 refine⟨hr,?_⟩
 (refine Holds.drawnE (Z3c [.fix (.row [.ref 2 0 0] 1 0),.fix (.row [.str name,.int .u32 key,.sl (imps.flatMap Im.c) ni,.sl (code.map (.int .u32)) nc,.lit (.slice none 0 0),.msl 3 n 0 n,.msl 4 n 0 n,.int .i64 0,.lit (.slice none 0 0),.lit (.slice none 0 0),.lit (.slice none 0 0),.lit (.slice none 0 0),.lit (.slice none 0 0)] 13 0),.row 3 0]) [2,3,5,7] [] [] true (by rw [hP]; kernel_rfl) (by kernel_rfl) (by kernel_rfl) (by kernel_rfl) (by first | exact .inl rfl | exact .inr fun _ _ h=>Z0M _ _ h) (by first | (simp only [push_cast]; done) | (simp only [push_cast,and_true]; omega)) ?_; simp (maxSteps:=1000000) only [↓reduceIte,Option.getD_some,push_cast,reduceCtorEq,Nat.reduceAdd,Nat.reduceMul,Nat.reduceSub,Nat.reduceBEq,Nat.reduceGT,Nat.reduceLT,Int.toNat_zero,Nat.reduceLeDiff,Int.reduceEq,Int.reduceLT,Int.reduceLE,hP,hΓ,hL,hfin,↓Z00,String.reduceEq,not_false_eq_true,if_true,h82,h75,h83])
 refine⟨h1.1,⟨by omega,by omega⟩,?_⟩
 ((first | with_reducible refine holds_of_ex X 400 _ _ _ ?_ | skip); simp (maxSteps:=1000000) only [push_cast,reduceCtorEq,Nat.reduceAdd,Nat.reduceMul,Nat.reduceSub,Nat.reduceBEq,Nat.reduceGT,Nat.reduceLT,Int.toNat_zero,Nat.reduceLeDiff,Int.reduceEq,Int.reduceLT,Int.reduceLE,hP,hΓ,hL,hfin,↓Z00,String.reduceEq,not_false_eq_true,if_true])
 (refine Holds.drawnE (Z3c [.fix (.row [.ref 2 0 0] 1 0),.fix (.row [.str name,.int .u32 key,.sl (imps.flatMap Im.c) ni,.sl (code.map (.int .u32)) nc,.lit (.slice none 0 0),.msl 3 (n+1) 0 (n+1),.msl 4 n 0 n,.int .i64 0,.lit (.slice none 0 0),.lit (.slice none 0 0),.lit (.slice none 0 0),.lit (.slice none 0 0),.lit (.slice none 0 0)] 13 0),.row 3 0]) [2,3,4,6,8] [] [] true (by rw [hP]; kernel_rfl) (by kernel_rfl) (by kernel_rfl) (by kernel_rfl) (by first | exact .inl rfl | exact .inr fun _ _ h=>Z0M _ _ h) (by first | (simp only [push_cast]; done) | (simp only [push_cast,and_true]; omega)) ?_; simp (maxSteps:=1000000) only [↓reduceIte,Option.getD_some,push_cast,reduceCtorEq,Nat.reduceAdd,Nat.reduceMul,Nat.reduceSub,Nat.reduceBEq,Nat.reduceGT,Nat.reduceLT,Int.toNat_zero,Nat.reduceLeDiff,Int.reduceEq,Int.reduceLT,Int.reduceLE,hP,hΓ,hL,hfin,↓Z00,String.reduceEq,not_false_eq_true,if_true,h82,h75,h83])
 refine⟨h2.1,⟨by omega,by omega⟩,?_⟩
 ((first | with_reducible refine holds_of_ex X 400 _ _ _ ?_ | skip); simp (maxSteps:=1000000) only [push_cast,reduceCtorEq,Nat.reduceAdd,Nat.reduceMul,Nat.reduceSub,Nat.reduceBEq,Nat.reduceGT,Nat.reduceLT,Int.toNat_zero,Nat.reduceLeDiff,Int.reduceEq,Int.reduceLT,Int.reduceLE,hP,hΓ,hL,hfin,↓Z00,String.reduceEq,not_false_eq_true,if_true])
 simp only [Z0I,Z20,List.map_append,List.map_cons,List.map_nil,List.length_append,List.length_cons,List.length_nil,Nat.zero_add]
 exact Z06.sameA
theorem con81{Γ:Env}(h:Z07 Tryz.prog Γ)(h82:Γ 37=some S82)(h75:Γ 30=some S75)(h83:Γ 38=some S83):Con Tryz.prog 36 S81:=
 Z0v h (fn:=Tryz.f36) (by kernel_rfl) rfl (by kernel_rfl) inj81 fun ⟨r,name,key,imps,ni,code,nc,ns,es,n⟩ h=>body81 Γ h82 h75 h83 r name key imps ni code nc ns es n h.1 h.2.1 h.2.2.1 h.2.2.2.1 h.2.2.2.2.1 h.2.2.2.2.2
theorem body80b(Γ:Env)(h81:Γ 36=some S81)(h90:Γ 45=some S90)(r:Rd)(name:Z04)(key:Int)(imps:List Im)(ni:Nat)(code:List Int)(nc:Nat)(hr:r.ok)(e3:ni=imps.length)(e4:nc=code.length) :
  Z0a Tryz.prog Γ Tryz.f35 [.ref 0 0 0,.int .u32 100,.fn (.func 36) [] [.ref 1 0 0,.ref 2 0 0]] [.row r.c 3 0,.row [.ref 0 0 0] 1 0,.row [.str name,.int .u32 key,.sl (imps.flatMap Im.c) ni,.sl (code.map (.int .u32)) nc,.lit (.slice none 0 0),.lit (.slice none 0 0),.lit (.slice none 0 0),.int .i64 0,.lit (.slice none 0 0),.lit (.slice none 0 0),.lit (.slice none 0 0),.lit (.slice none 0 0),.lit (.slice none 0 0)] 13 0]
   (.sl (((Z0b Z0I 100 r).1.map fun x=>x.1).map (.int .i64)) (Z0b Z0I 100 r).1.length) [.row (Z0b Z0I 100 r).2.c 3 0,.row [.ref 0 0 0] 1 0,.row [.str name,.int .u32 key,.sl (imps.flatMap Im.c) ni,.sl (code.map (.int .u32)) nc,.lit (.slice none 0 0),.sl (((Z0b Z0I 100 r).1.map fun x=>x.2.1).map .str) (Z0b Z0I 100 r).1.length,.sl (((Z0b Z0I 100 r).1.map fun x=>x.2.2).map .bool) (Z0b Z0I 100 r).1.length,.int .i64 0,.lit (.slice none 0 0),.lit (.slice none 0 0),.lit (.slice none 0 0),.lit (.slice none 0 0),.lit (.slice none 0 0)] 13 0]:=by
 have h1:=Z0S hr 100
 have b1:=Z2r r 100
 have b2:=Z3q r 100 (by omega)
 (intro X hP hΓ hL hfin; refine⟨_,rfl,?_⟩; rw [show Tryz.f35.ntmps=29 from rfl]; rw [show Tryz.f35.results.toList=[.tmp 6] from rfl] at hfin; apply holds_of_ex X 400; simp (maxSteps:=1000000) only [push_cast,reduceCtorEq,Nat.reduceAdd,Nat.reduceMul,Nat.reduceSub,Nat.reduceBEq,Nat.reduceGT,Nat.reduceLT,Int.toNat_zero,Nat.reduceLeDiff,Int.reduceEq,Int.reduceLT,Int.reduceLE,hP,hΓ,hL,hfin,↓Z00,String.reduceEq,not_false_eq_true,if_true,h90])
 refine⟨hr,?_⟩
 refine Holds.nilH 2 5 1 rfl rfl ?_
 refine Holds.nilH 2 6 1 rfl rfl ?_
 simp only [List.set_cons_succ,List.set_cons_zero,List.cons_append,List.nil_append,List.length_cons,List.length_nil,Nat.zero_add,Nat.reduceAdd]
 refine Holds.loopM (ι:=Z0r Z0I (Z1m r 100).1.toNat (Z1m r 100).2) [true,false,true,false,false,false,true,false,false,false,false,false,false,false,false,false,false,false,false,false,false,false,false,false,false,false,false,false,false] (fun i=>[(7,.msl 5 i.l.length 0 i.l.length),(8,.int .i64 i.c)]) (fun i=>[.row i.r.c 3 0,.row [.ref 0 0 0] 1 0,.row [.str name,.int .u32 key,.sl (imps.flatMap Im.c) ni,.sl (code.map (.int .u32)) nc,.lit (.slice none 0 0),.msl 3 i.l.length 0 i.l.length,.msl 4 i.l.length 0 i.l.length,.int .i64 0,.lit (.slice none 0 0),.lit (.slice none 0 0),.lit (.slice none 0 0),.lit (.slice none 0 0),.lit (.slice none 0 0)] 13 0,.row ((i.l.map fun x=>x.2.1).map .str) 1 i.l.length,.row ((i.l.map fun x=>x.2.2).map .bool) 1 i.l.length,.row ((i.l.map fun x=>x.1).map (.int .i64)) 1 i.l.length]) (fun i=>i.c) (Z0r.init _ _ _ h1.1) ?_ ?_
 ·rw [hL]; simp only [push_cast,Int.natCast_zero]
  (refine Z0k.nil 7  1 rfl ?_; simp only [push_cast,reduceCtorEq,Nat.reduceAdd,Nat.reduceMul,Nat.reduceSub,Nat.reduceBEq,Nat.reduceGT,Nat.reduceLT,Int.toNat_zero,Nat.reduceLeDiff,Int.reduceEq,Int.reduceLT,Int.reduceLE])
  simp only [Z0r.init,List.map_nil,List.flatMap_nil,List.length_nil,Int.toNat_of_nonneg b1.1]
  exact Z06.sameA
 intro s
 have hl:=s.len
 ((first | with_reducible refine holds_of_ex X 400 _ _ _ ?_ | skip); simp (maxSteps:=1000000) only [push_cast,reduceCtorEq,Nat.reduceAdd,Nat.reduceMul,Nat.reduceSub,Nat.reduceBEq,Nat.reduceGT,Nat.reduceLT,Int.toNat_zero,Nat.reduceLeDiff,Int.reduceEq,Int.reduceLT,Int.reduceLE,hP,hΓ,hL,hfin,↓Z00,String.reduceEq,not_false_eq_true,if_true])
 ((with_reducible refine Z02 (fun h=>?_) (fun h=>?_)) <;> (try simp only [decide_eq_true_eq,decide_eq_false_iff_not,Bool.and_eq_true,Bool.or_eq_true,Bool.and_eq_false_iff,Bool.or_eq_false_iff,Bool.not_eq_true',Bool.not_eq_false',Bool.not_eq_true,Bool.not_eq_false,Int.not_lt,Int.not_le,beq_iff_eq,beq_eq_false_iff_ne,ne_eq,win_t,win_f] at h))
 ·((first | with_reducible refine holds_of_ex X 400 _ _ _ ?_ | skip); simp (maxSteps:=1000000) only [push_cast,reduceCtorEq,Nat.reduceAdd,Nat.reduceMul,Nat.reduceSub,Nat.reduceBEq,Nat.reduceGT,Nat.reduceLT,Int.toNat_zero,Nat.reduceLeDiff,Int.reduceEq,Int.reduceLT,Int.reduceLE,hP,hΓ,hL,hfin,↓Z00,String.reduceEq,not_false_eq_true,if_true,h81,Z0c ((s.c:Int) - 1) (by constructor <;> omega)])
  refine⟨⟨by omega,s.ok,by omega,e3,e4⟩,by omega,s.next (fun r hr=>(Z3H hr).1) (by omega) h.2,by simp only [Z0r.next]; omega,?_⟩
  simp only [Z0r.next,List.map_append,List.map_cons,List.map_nil,List.flatMap_append,List.flatMap_cons,List.flatMap_nil,List.append_nil,List.length_append,List.length_cons,List.length_nil,Nat.zero_add,show ((s.c - 1:Nat):Int)=(s.c:Int) - 1 by omega]
  exact Z06.sameA
 ·((first | with_reducible refine holds_of_ex X 400 _ _ _ ?_ | skip); simp (maxSteps:=1000000) only [push_cast,reduceCtorEq,Nat.reduceAdd,Nat.reduceMul,Nat.reduceSub,Nat.reduceBEq,Nat.reduceGT,Nat.reduceLT,Int.toNat_zero,Nat.reduceLeDiff,Int.reduceEq,Int.reduceLT,Int.reduceLE,hP,hΓ,hL,hfin,↓Z00,String.reduceEq,not_false_eq_true,if_true])
  (refine Z0k.frz 3 (by simp only [push_cast,reduceCtorEq,Nat.reduceAdd,Nat.reduceMul,Nat.reduceSub,Nat.reduceBEq,Nat.reduceGT,Nat.reduceLT,Int.toNat_zero,Nat.reduceLeDiff,Int.reduceEq,Int.reduceLT,Int.reduceLE]; first | done | decide | omega) (by simp only [Z15,Z28,Z27,or_true,true_or,push_cast,reduceCtorEq,Nat.reduceAdd,Nat.reduceMul,Nat.reduceSub,Nat.reduceBEq,Nat.reduceGT,Nat.reduceLT,Int.toNat_zero,Nat.reduceLeDiff,Int.reduceEq,Int.reduceLT,Int.reduceLE]) ?_; simp only [push_cast,reduceCtorEq,Nat.reduceAdd,Nat.reduceMul,Nat.reduceSub,Nat.reduceBEq,Nat.reduceGT,Nat.reduceLT,Int.toNat_zero,Nat.reduceLeDiff,Int.reduceEq,Int.reduceLT,Int.reduceLE])
  simp only [Z4J,push_cast]
  (refine Z0k.frz 4 (by simp only [push_cast,reduceCtorEq,Nat.reduceAdd,Nat.reduceMul,Nat.reduceSub,Nat.reduceBEq,Nat.reduceGT,Nat.reduceLT,Int.toNat_zero,Nat.reduceLeDiff,Int.reduceEq,Int.reduceLT,Int.reduceLE]; first | done | decide | omega) (by simp only [Z15,Z28,Z27,or_true,true_or,push_cast,reduceCtorEq,Nat.reduceAdd,Nat.reduceMul,Nat.reduceSub,Nat.reduceBEq,Nat.reduceGT,Nat.reduceLT,Int.toNat_zero,Nat.reduceLeDiff,Int.reduceEq,Int.reduceLT,Int.reduceLE]) ?_; simp only [push_cast,reduceCtorEq,Nat.reduceAdd,Nat.reduceMul,Nat.reduceSub,Nat.reduceBEq,Nat.reduceGT,Nat.reduceLT,Int.toNat_zero,Nat.reduceLeDiff,Int.reduceEq,Int.reduceLT,Int.reduceLE])
  simp only [Z4J,push_cast]
  (refine Z0k.frz 5 (by simp only [push_cast,reduceCtorEq,Nat.reduceAdd,Nat.reduceMul,Nat.reduceSub,Nat.reduceBEq,Nat.reduceGT,Nat.reduceLT,Int.toNat_zero,Nat.reduceLeDiff,Int.reduceEq,Int.reduceLT,Int.reduceLE]; first | done | decide | omega) (by simp only [Z15,Z28,Z27,or_true,true_or,push_cast,reduceCtorEq,Nat.reduceAdd,Nat.reduceMul,Nat.reduceSub,Nat.reduceBEq,Nat.reduceGT,Nat.reduceLT,Int.toNat_zero,Nat.reduceLeDiff,Int.reduceEq,Int.reduceLT,Int.reduceLE]) ?_; simp only [push_cast,reduceCtorEq,Nat.reduceAdd,Nat.reduceMul,Nat.reduceSub,Nat.reduceBEq,Nat.reduceGT,Nat.reduceLT,Int.toNat_zero,Nat.reduceLeDiff,Int.reduceEq,Int.reduceLT,Int.reduceLE])
  simp only [Z4J,push_cast]
  rw [show Z0b Z0I 100 r=(s.l,s.r) from s.done (by omega)]
  exact Z06.keep3A
abbrev T80:=(Rd×Int) ⊕ (Rd×Z04×Int×List Im×Nat×List Int×Nat)
def e80:T80→List AV×Heap
 | .inl (r,m)=>([.ref 0 0 0,.int .u32 m,.fn (.func 37) [.ref 0 0 0] []],[.row r.c 3 0])
 | .inr (r,name,key,imps,ni,code,nc)=>([.ref 0 0 0,.int .u32 100,.fn (.func 36) [] [.ref 1 0 0,.ref 2 0 0]],[.row r.c 3 0,.row [.ref 0 0 0] 1 0,.row [.str name,.int .u32 key,.sl (imps.flatMap Im.c) ni,.sl (code.map (.int .u32)) nc,.lit (.slice none 0 0),.lit (.slice none 0 0),.lit (.slice none 0 0),.int .i64 0,.lit (.slice none 0 0),.lit (.slice none 0 0),.lit (.slice none 0 0),.lit (.slice none 0 0),.lit (.slice none 0 0)] 13 0])
def p80:T80→Prop
 | .inl (r,m)=>r.ok
 | .inr (r,name,key,imps,ni,code,nc)=>r.ok∧ni=imps.length∧nc=code.length
def r80:T80→AV
 | .inl (r,m)=>.sl ((Z0b Z20 m r).1.map (.int .i64)) (Z0b Z20 m r).1.length
 | .inr (r,name,key,imps,ni,code,nc)=>.sl (((Z0b Z0I 100 r).1.map fun x=>x.1).map (.int .i64)) (Z0b Z0I 100 r).1.length
def g80:T80→Heap
 | .inl (r,m)=>[.row (Z0b Z20 m r).2.c 3 0]
 | .inr (r,name,key,imps,ni,code,nc)=>[.row (Z0b Z0I 100 r).2.c 3 0,.row [.ref 0 0 0] 1 0,.row [.str name,.int .u32 key,.sl (imps.flatMap Im.c) ni,.sl (code.map (.int .u32)) nc,.lit (.slice none 0 0),.sl (((Z0b Z0I 100 r).1.map fun x=>x.2.1).map .str) (Z0b Z0I 100 r).1.length,.sl (((Z0b Z0I 100 r).1.map fun x=>x.2.2).map .bool) (Z0b Z0I 100 r).1.length,.int .i64 0,.lit (.slice none 0 0),.lit (.slice none 0 0),.lit (.slice none 0 0),.lit (.slice none 0 0),.lit (.slice none 0 0)] 13 0]
theorem inj80:∀a b,e80 a=e80 b→a=b:=by
 rintro (⟨r,m⟩ | ⟨r,name,key,imps,ni,code,nc⟩) (⟨r',m'⟩ | ⟨r',name',key',imps',ni',code',nc'⟩) h <;>
  simp only [e80,Z0f,Z0h,Z0i,Z0g,Z0V,Z0u,Prod.mk.injEq,List.cons.injEq,Z0L.row.injEq,AV.int.injEq,AV.str.injEq,AV.bool.injEq,AV.sl.injEq,AV.agg.injEq,AV.ip.injEq,AV.fn.injEq,AV.mpr.injEq,AV.msl.injEq,AV.ref.injEq,Int.natCast_inj,and_true,true_and,reduceCtorEq,and_false,false_and] at h
 ·simp_all only
 ·simp_all only
noncomputable def S80:Z0n:=Z1I false e80 p80 r80 g80
theorem ZgZ(r:Rd)(m:Int):Z1p e80 p80 ([.ref 0 0 0,.int .u32 m,.fn (.func 37) [.ref 0 0 0] []],[.row r.c 3 0])=r.ok:=Z0x inj80 p80 (.inl (r,m))
theorem ZgN(r:Rd)(m:Int):Z0A e80 r80 .any ([.ref 0 0 0,.int .u32 m,.fn (.func 37) [.ref 0 0 0] []],[.row r.c 3 0])=.sl ((Z0b Z20 m r).1.map (.int .i64)) (Z0b Z20 m r).1.length:=Z09 inj80 r80 .any (.inl (r,m))
theorem Zhr(r:Rd)(m:Int):Z0A e80 g80 [] ([.ref 0 0 0,.int .u32 m,.fn (.func 37) [.ref 0 0 0] []],[.row r.c 3 0])=[.row (Z0b Z20 m r).2.c 3 0]:=Z09 inj80 g80 [] (.inl (r,m))
theorem ZgY(r:Rd)(name:Z04)(key:Int)(imps:List Im)(ni:Nat)(code:List Int)(nc:Nat):Z1p e80 p80 ([.ref 0 0 0,.int .u32 100,.fn (.func 36) [] [.ref 1 0 0,.ref 2 0 0]],[.row r.c 3 0,.row [.ref 0 0 0] 1 0,.row [.str name,.int .u32 key,.sl (imps.flatMap Im.c) ni,.sl (code.map (.int .u32)) nc,.lit (.slice none 0 0),.lit (.slice none 0 0),.lit (.slice none 0 0),.int .i64 0,.lit (.slice none 0 0),.lit (.slice none 0 0),.lit (.slice none 0 0),.lit (.slice none 0 0),.lit (.slice none 0 0)] 13 0])=(r.ok∧ni=imps.length∧nc=code.length):=Z0x inj80 p80 (.inr (r,name,key,imps,ni,code,nc))
theorem ZgM(r:Rd)(name:Z04)(key:Int)(imps:List Im)(ni:Nat)(code:List Int)(nc:Nat):Z0A e80 r80 .any ([.ref 0 0 0,.int .u32 100,.fn (.func 36) [] [.ref 1 0 0,.ref 2 0 0]],[.row r.c 3 0,.row [.ref 0 0 0] 1 0,.row [.str name,.int .u32 key,.sl (imps.flatMap Im.c) ni,.sl (code.map (.int .u32)) nc,.lit (.slice none 0 0),.lit (.slice none 0 0),.lit (.slice none 0 0),.int .i64 0,.lit (.slice none 0 0),.lit (.slice none 0 0),.lit (.slice none 0 0),.lit (.slice none 0 0),.lit (.slice none 0 0)] 13 0])=.sl (((Z0b Z0I 100 r).1.map fun x=>x.1).map (.int .i64)) (Z0b Z0I 100 r).1.length:=Z09 inj80 r80 .any (.inr (r,name,key,imps,ni,code,nc))
theorem Zhq(r:Rd)(name:Z04)(key:Int)(imps:List Im)(ni:Nat)(code:List Int)(nc:Nat):Z0A e80 g80 [] ([.ref 0 0 0,.int .u32 100,.fn (.func 36) [] [.ref 1 0 0,.ref 2 0 0]],[.row r.c 3 0,.row [.ref 0 0 0] 1 0,.row [.str name,.int .u32 key,.sl (imps.flatMap Im.c) ni,.sl (code.map (.int .u32)) nc,.lit (.slice none 0 0),.lit (.slice none 0 0),.lit (.slice none 0 0),.int .i64 0,.lit (.slice none 0 0),.lit (.slice none 0 0),.lit (.slice none 0 0),.lit (.slice none 0 0),.lit (.slice none 0 0)] 13 0])=[.row (Z0b Z0I 100 r).2.c 3 0,.row [.ref 0 0 0] 1 0,.row [.str name,.int .u32 key,.sl (imps.flatMap Im.c) ni,.sl (code.map (.int .u32)) nc,.lit (.slice none 0 0),.sl (((Z0b Z0I 100 r).1.map fun x=>x.2.1).map .str) (Z0b Z0I 100 r).1.length,.sl (((Z0b Z0I 100 r).1.map fun x=>x.2.2).map .bool) (Z0b Z0I 100 r).1.length,.int .i64 0,.lit (.slice none 0 0),.lit (.slice none 0 0),.lit (.slice none 0 0),.lit (.slice none 0 0),.lit (.slice none 0 0)] 13 0]:=Z09 inj80 g80 [] (.inr (r,name,key,imps,ni,code,nc))
attribute [push_cast] S80 ZgZ ZgN Zhr ZgY ZgM Zhq
theorem con80{Γ:Env}(h:Z07 Tryz.prog Γ)(h81:Γ 36=some S81)(h82:Γ 37=some S82)(h90:Γ 45=some S90):Con Tryz.prog 35 S80:=
 Z0v h (fn:=Tryz.f35) (by kernel_rfl) rfl (by kernel_rfl) inj80 fun a h=>match a,h with
  | .inl (r,m),h=>body80a Γ h82 h90 r m h
  | .inr (r,name,key,imps,ni,code,nc),h=>body80b Γ h81 h90 r name key imps ni code nc h.1 h.2.1 h.2.2
def Z0W(r:Rd):Ds×Rd:=
 let a:=Z20 r
 let b:=Z20 a.2
 let t:=Z0b Z20 4 b.2
 (⟨a.1,b.1,t.1⟩,t.2)
theorem Z0K{α:Type}{one:Rd→α×Rd}(h1:∀r:Rd,r.ok→(one r).2.ok∧(one r).2.b=r.b)(m:Int){r:Rd}(hr:r.ok):(Z0b one m r).2.ok∧(Z0b one m r).2.b=r.b:=by
 have key:∀(n:Nat) (r:Rd),r.ok→(Z3j one n r).2.ok∧(Z3j one n r).2.b=r.b:=by
  intro n
  induction n with
  | zero=>intro r hr; exact⟨hr,rfl⟩
  | succ n ih=>
   intro r hr
   rw [Z3j]
   split
   ·have k1:=h1 r hr
    have k2:=ih _ k1.1
    exact⟨k2.1,k2.2.trans k1.2⟩
   ·exact⟨hr,rfl⟩
 have k:=Z0S hr m
 have k2:=key (Z1m r m).1.toNat _ k.1
 exact⟨k2.1,k2.2.trans k.2⟩
theorem Z1M{r:Rd}(hr:r.ok):(Z20 r).2.ok∧(Z20 r).2.b=r.b:=Z0S hr _
theorem Z3Q{r:Rd}(hr:r.ok):(Z0W r).2.ok∧(Z0W r).2.b=r.b:=by
 have h1:=Z1M hr
 have h2:=Z1M h1.1
 have h3:=Z0K (one:=Z20) (fun r hr=>Z1M hr) 4 h2.1
 exact⟨h3.1,h3.2.trans (h2.2.trans h1.2)⟩
def e87:(Rd)→List AV×Heap:=fun r=>([.ref 0 0 0],[.row [.ref 1 0 0] 1 0,.row r.c 3 0])
def p87:(Rd)→Prop:=fun r=>r.ok
def r87:(Rd)→AV:=fun r=>.agg (Z0W r).1.c
def g87:(Rd)→Heap:=fun r=>[.row [.ref 1 0 0] 1 0,.row (Z0W r).2.c 3 0]
theorem inj87:∀a b,e87 a=e87 b→a=b:=by
 rintro r r' h
 simp only [e87,Z0f,Z0h,Z0i,Z0g,Z0V,Z0u,Prod.mk.injEq,List.cons.injEq,Z0L.row.injEq,AV.int.injEq,AV.str.injEq,AV.bool.injEq,AV.sl.injEq,AV.agg.injEq,AV.ip.injEq,AV.fn.injEq,AV.ifc.injEq,AV.mpr.injEq,AV.msl.injEq,AV.ref.injEq,Int.natCast_inj,and_true,true_and] at h
 simp_all only
noncomputable def S87:Z0n:=Z1I false e87 p87 r87 g87
theorem Zk6(r:(Rd)):Z1p e87 p87 ([.ref 0 0 0],[.row [.ref 1 0 0] 1 0,.row r.c 3 0])=(r.ok):=Z0x inj87 p87 r
theorem ZjL(r:(Rd)):Z0A e87 r87 .any ([.ref 0 0 0],[.row [.ref 1 0 0] 1 0,.row r.c 3 0])=(.agg (Z0W r).1.c):=Z09 inj87 r87 .any r
theorem ZkJ(r:(Rd)):Z0A e87 g87 [] ([.ref 0 0 0],[.row [.ref 1 0 0] 1 0,.row r.c 3 0])=([.row [.ref 1 0 0] 1 0,.row (Z0W r).2.c 3 0]):=Z09 inj87 g87 [] r
attribute [push_cast] S87 Zk6 ZjL ZkJ
theorem body87(Γ:Env)(h82:Γ 37=some S82)(h80:Γ 35=some S80)(r:Rd)(hr:r.ok):Z0a Tryz.prog Γ Tryz.f42 [.ref 0 0 0] [.row [.ref 1 0 0] 1 0,.row r.c 3 0] (.agg (Z0W r).1.c) [.row [.ref 1 0 0] 1 0,.row (Z0W r).2.c 3 0]:=by
 have h1:=Z1M hr
 have h2:=Z1M h1.1
 (intro X hP hΓ hL hfin; refine⟨_,rfl,?_⟩; rw [show Tryz.f42.ntmps=14 from rfl]; rw [show Tryz.f42.results.toList=[.cell 1 56] from rfl] at hfin; apply holds_of_ex X 400; simp (maxSteps:=1000000) only [push_cast,reduceCtorEq,Nat.reduceAdd,Nat.reduceMul,Nat.reduceSub,Nat.reduceBEq,Nat.reduceGT,Nat.reduceLT,Int.toNat_zero,Nat.reduceLeDiff,Int.reduceEq,Int.reduceLT,Int.reduceLE,hP,hΓ,hL,hfin,↓Z00,String.reduceEq,not_false_eq_true,if_true,h82,h80])
 (refine Holds.drawnE (Z3c [.fix (.row [.ref 1 0 0] 1 0),.row 3 0]) [1,3,6] [5] [1,3] true (by rw [hP]; kernel_rfl) (by kernel_rfl) (by kernel_rfl) (by kernel_rfl) (by first | exact .inl rfl | exact .inr fun _ _ h=>Z0M _ _ h) (by first | (simp only [push_cast]; done) | (simp only [push_cast,and_true]; omega)) ?_; simp (maxSteps:=1000000) only [↓reduceIte,Option.getD_some,push_cast,reduceCtorEq,Nat.reduceAdd,Nat.reduceMul,Nat.reduceSub,Nat.reduceBEq,Nat.reduceGT,Nat.reduceLT,Int.toNat_zero,Nat.reduceLeDiff,Int.reduceEq,Int.reduceLT,Int.reduceLE,hP,hΓ,hL,hfin,↓Z00,String.reduceEq,not_false_eq_true,if_true,h82,h80])
 refine⟨hr,hr,h1.1,h1.1,?_⟩
 ((first | with_reducible refine holds_of_ex X 400 _ _ _ ?_ | skip); simp (maxSteps:=1000000) only [push_cast,reduceCtorEq,Nat.reduceAdd,Nat.reduceMul,Nat.reduceSub,Nat.reduceBEq,Nat.reduceGT,Nat.reduceLT,Int.toNat_zero,Nat.reduceLeDiff,Int.reduceEq,Int.reduceLT,Int.reduceLE,hP,hΓ,hL,hfin,↓Z00,String.reduceEq,not_false_eq_true,if_true,h82,h80])
 refine⟨h2.1,?_⟩
 simp only [Z0W,Ds.c]
 exact Z06.keep2A
theorem con87{Γ:Env}(h:Z07 Tryz.prog Γ)(h82:Γ 37=some S82)(h80:Γ 35=some S80):Con Tryz.prog 42 S87:=
 Z0v h (fn:=Tryz.f42) (by kernel_rfl) rfl (by kernel_rfl) inj87 fun r h=>body87 Γ h82 h80 r h
def e86:(Rd)→List AV×Heap:=fun r=>([.ref 0 0 0,.int .u32 200,.fn (.func 42) [] [.ref 1 0 0]],[.row r.c 3 0,.row [.ref 0 0 0] 1 0])
def p86:(Rd)→Prop:=fun r=>r.ok
def r86:(Rd)→AV:=fun r=>.sl ((Z0b Z0W 200 r).1.flatMap Ds.c) (Z0b Z0W 200 r).1.length
def g86:(Rd)→Heap:=fun r=>[.row (Z0b Z0W 200 r).2.c 3 0,.row [.ref 0 0 0] 1 0]
theorem inj86:∀a b,e86 a=e86 b→a=b:=by
 rintro r r' h
 simp only [e86,Z0f,Z0h,Z0i,Z0g,Z0V,Z0u,Prod.mk.injEq,List.cons.injEq,Z0L.row.injEq,AV.int.injEq,AV.str.injEq,AV.bool.injEq,AV.sl.injEq,AV.agg.injEq,AV.ip.injEq,AV.fn.injEq,AV.ifc.injEq,AV.mpr.injEq,AV.msl.injEq,AV.ref.injEq,Int.natCast_inj,and_true,true_and] at h
 simp_all only
noncomputable def S86:Z0n:=Z1I false e86 p86 r86 g86
theorem Zk7(r:(Rd)):Z1p e86 p86 ([.ref 0 0 0,.int .u32 200,.fn (.func 42) [] [.ref 1 0 0]],[.row r.c 3 0,.row [.ref 0 0 0] 1 0])=(r.ok):=Z0x inj86 p86 r
theorem ZjM(r:(Rd)):Z0A e86 r86 .any ([.ref 0 0 0,.int .u32 200,.fn (.func 42) [] [.ref 1 0 0]],[.row r.c 3 0,.row [.ref 0 0 0] 1 0])=(.sl ((Z0b Z0W 200 r).1.flatMap Ds.c) (Z0b Z0W 200 r).1.length):=Z09 inj86 r86 .any r
theorem ZkK(r:(Rd)):Z0A e86 g86 [] ([.ref 0 0 0,.int .u32 200,.fn (.func 42) [] [.ref 1 0 0]],[.row r.c 3 0,.row [.ref 0 0 0] 1 0])=([.row (Z0b Z0W 200 r).2.c 3 0,.row [.ref 0 0 0] 1 0]):=Z09 inj86 g86 [] r
attribute [push_cast] S86 Zk7 ZjM ZkK
theorem body86(Γ:Env)(h87:Γ 42=some S87)(h90:Γ 45=some S90)(r:Rd)(hr:r.ok):Z0a Tryz.prog Γ Tryz.f41 [.ref 0 0 0,.int .u32 200,.fn (.func 42) [] [.ref 1 0 0]] [.row r.c 3 0,.row [.ref 0 0 0] 1 0] (.sl ((Z0b Z0W 200 r).1.flatMap Ds.c) (Z0b Z0W 200 r).1.length) [.row (Z0b Z0W 200 r).2.c 3 0,.row [.ref 0 0 0] 1 0]:=by
 have h1:=Z0S hr 200
 have b1:=Z2r r 200
 (intro X hP hΓ hL hfin; refine⟨_,rfl,?_⟩; rw [show Tryz.f41.ntmps=29 from rfl]; rw [show Tryz.f41.results.toList=[.tmp 6] from rfl] at hfin; apply holds_of_ex X 400; simp (maxSteps:=1000000) only [push_cast,reduceCtorEq,Nat.reduceAdd,Nat.reduceMul,Nat.reduceSub,Nat.reduceBEq,Nat.reduceGT,Nat.reduceLT,Int.toNat_zero,Nat.reduceLeDiff,Int.reduceEq,Int.reduceLT,Int.reduceLE,hP,hΓ,hL,hfin,↓Z00,String.reduceEq,not_false_eq_true,if_true,h90])
 refine⟨hr,?_⟩
 refine Holds.loopM (ι:=Z0r Z0W (Z1m r 200).1.toNat (Z1m r 200).2) [true,false,true,false,false,false,true,false,false,false,false,false,false,false,false,false,false,false,false,false,false,false,false,false,false,false,false,false,false] (fun i=>[(7,.msl 2 i.l.length 0 i.l.length),(8,.int .i64 i.c)]) (fun i=>[.row i.r.c 3 0,.row [.ref 0 0 0] 1 0,.row (i.l.flatMap Ds.c) 3 i.l.length]) (fun i=>i.c) (Z0r.init _ _ _ h1.1) ?_ ?_
 ·rw [hL]; simp only [push_cast,Int.natCast_zero]
  (refine Z0k.nil 7  3 rfl ?_; simp only [push_cast,reduceCtorEq,Nat.reduceAdd,Nat.reduceMul,Nat.reduceSub,Nat.reduceBEq,Nat.reduceGT,Nat.reduceLT,Int.toNat_zero,Nat.reduceLeDiff,Int.reduceEq,Int.reduceLT,Int.reduceLE])
  simp only [Z0r.init,List.map_nil,List.flatMap_nil,List.length_nil,Int.toNat_of_nonneg b1.1]
  exact Z06.sameA
 intro s
 have hl:=s.len
 ((first | with_reducible refine holds_of_ex X 400 _ _ _ ?_ | skip); simp (maxSteps:=1000000) only [push_cast,reduceCtorEq,Nat.reduceAdd,Nat.reduceMul,Nat.reduceSub,Nat.reduceBEq,Nat.reduceGT,Nat.reduceLT,Int.toNat_zero,Nat.reduceLeDiff,Int.reduceEq,Int.reduceLT,Int.reduceLE,hP,hΓ,hL,hfin,↓Z00,String.reduceEq,not_false_eq_true,if_true])
 ((with_reducible refine Z02 (fun h=>?_) (fun h=>?_)) <;> (try simp only [decide_eq_true_eq,decide_eq_false_iff_not,Bool.and_eq_true,Bool.or_eq_true,Bool.and_eq_false_iff,Bool.or_eq_false_iff,Bool.not_eq_true',Bool.not_eq_false',Bool.not_eq_true,Bool.not_eq_false,Int.not_lt,Int.not_le,beq_iff_eq,beq_eq_false_iff_ne,ne_eq,win_t,win_f] at h))
 ·((first | with_reducible refine holds_of_ex X 400 _ _ _ ?_ | skip); simp (maxSteps:=1000000) only [push_cast,reduceCtorEq,Nat.reduceAdd,Nat.reduceMul,Nat.reduceSub,Nat.reduceBEq,Nat.reduceGT,Nat.reduceLT,Int.toNat_zero,Nat.reduceLeDiff,Int.reduceEq,Int.reduceLT,Int.reduceLE,hP,hΓ,hL,hfin,↓Z00,String.reduceEq,not_false_eq_true,if_true,h87,Z0c ((s.c:Int) - 1) (by constructor <;> omega)])
  refine⟨s.ok,by omega,s.next (fun r hr=>(Z3Q hr).1) (by omega) h.2,by simp only [Z0r.next]; omega,?_⟩
  simp only [Z0r.next,List.map_append,List.map_cons,List.map_nil,List.flatMap_append,List.flatMap_cons,List.flatMap_nil,List.append_nil,List.length_append,List.length_cons,List.length_nil,Nat.zero_add,show ((s.c - 1:Nat):Int)=(s.c:Int) - 1 by omega]
  exact Z06.sameA
 ·((first | with_reducible refine holds_of_ex X 400 _ _ _ ?_ | skip); simp (maxSteps:=1000000) only [push_cast,reduceCtorEq,Nat.reduceAdd,Nat.reduceMul,Nat.reduceSub,Nat.reduceBEq,Nat.reduceGT,Nat.reduceLT,Int.toNat_zero,Nat.reduceLeDiff,Int.reduceEq,Int.reduceLT,Int.reduceLE,hP,hΓ,hL,hfin,↓Z00,String.reduceEq,not_false_eq_true,if_true])
  (refine Z0k.frz 2 (by simp only [push_cast,reduceCtorEq,Nat.reduceAdd,Nat.reduceMul,Nat.reduceSub,Nat.reduceBEq,Nat.reduceGT,Nat.reduceLT,Int.toNat_zero,Nat.reduceLeDiff,Int.reduceEq,Int.reduceLT,Int.reduceLE]; first | done | decide | omega) (by simp only [Z15,Z28,Z27,or_true,true_or,push_cast,reduceCtorEq,Nat.reduceAdd,Nat.reduceMul,Nat.reduceSub,Nat.reduceBEq,Nat.reduceGT,Nat.reduceLT,Int.toNat_zero,Nat.reduceLeDiff,Int.reduceEq,Int.reduceLT,Int.reduceLE]) ?_; simp only [push_cast,reduceCtorEq,Nat.reduceAdd,Nat.reduceMul,Nat.reduceSub,Nat.reduceBEq,Nat.reduceGT,Nat.reduceLT,Int.toNat_zero,Nat.reduceLeDiff,Int.reduceEq,Int.reduceLT,Int.reduceLE])
  simp only [Z2b,Z3W]
  rw [show Z0b Z0W 200 r=(s.l,s.r) from s.done (by omega)]
  exact Z06.keep2A
theorem con86{Γ:Env}(h:Z07 Tryz.prog Γ)(h87:Γ 42=some S87)(h90:Γ 45=some S90):Con Tryz.prog 41 S86:=
 Z0v h (fn:=Tryz.f41) (by kernel_rfl) rfl (by kernel_rfl) inj86 fun r h=>body86 Γ h87 h90 r h
def objM(r:Rd):Ob×Rd:=
 let a:=Z0R r 20
 let k:=Z0T a.2
 let i:=Z0b Z0y 16 k.2
 let c:=Z0b Z0T 65536 i.2
 let p:=Z0b Z0I 100 c.2
 let n:=Z20 p.2
 let v:=Z0b Z20 200 n.2
 let s:=Z0b Z20 200 v.2
 let t:=Z0b (fun r=>Z0R r 200) 200 s.2
 let d:=Z0b Z0W 200 t.2
 let f:=Z0b Z3P 65536 d.2
 (⟨a.1,k.1,i.1,c.1,p.1.map fun x=>x.1,p.1.map fun x=>x.2.1,p.1.map fun x=>x.2.2,n.1,v.1,s.1,t.1,d.1,f.1⟩,f.2)
def e48:(Rd)→List AV×Heap:=fun r=>([.ref 0 0 0],[.row r.c 3 0])
def p48:(Rd)→Prop:=fun r=>r.ok
def r48:(Rd)→AV:=fun r=>.agg (objM r).1.c
def g48:(Rd)→Heap:=fun r=>[.row (objM r).2.c 3 0]
theorem inj48:∀a b,e48 a=e48 b→a=b:=by
 rintro r r' h
 simp only [e48,Z0f,Z0h,Z0i,Z0g,Z0V,Z0u,Prod.mk.injEq,List.cons.injEq,Z0L.row.injEq,AV.int.injEq,AV.str.injEq,AV.bool.injEq,AV.sl.injEq,AV.agg.injEq,AV.ip.injEq,AV.fn.injEq,AV.ifc.injEq,AV.mpr.injEq,AV.msl.injEq,AV.ref.injEq,Int.natCast_inj,and_true,true_and] at h
 simp_all only
noncomputable def S48:Z0n:=Z1I false e48 p48 r48 g48
theorem Zij(r:(Rd)):Z1p e48 p48 ([.ref 0 0 0],[.row r.c 3 0])=(r.ok):=Z0x inj48 p48 r
theorem Zi9(r:(Rd)):Z0A e48 r48 .any ([.ref 0 0 0],[.row r.c 3 0])=(.agg (objM r).1.c):=Z09 inj48 r48 .any r
theorem ZiI(r:(Rd)):Z0A e48 g48 [] ([.ref 0 0 0],[.row r.c 3 0])=([.row (objM r).2.c 3 0]):=Z09 inj48 g48 [] r
attribute [push_cast] S48 Zij Zi9 ZiI
theorem body48(Γ:Env)(h75:Γ 30=some S75)(h76:Γ 31=some S76)(h77:Γ 32=some S77)(h79:Γ 34=some S79)(h80:Γ 35=some S80)(h82:Γ 37=some S82)(h84:Γ 39=some S84)(h86:Γ 41=some S86)(h88:Γ 43=some S88)(r:Rd)(hr:r.ok) :
  Z0a Tryz.prog Γ Tryz.f14 [.ref 0 0 0] [.row r.c 3 0] (.agg (objM r).1.c) [.row (objM r).2.c 3 0]:=by
 have ⟨h1,_⟩:=Z1i hr 20
 have ⟨h2,_⟩:=Z1Q h1
 have ⟨h3,_⟩:=Z0K (one:=Z0y) (fun r hr=>Z1X hr) 16 h2
 have ⟨h4,_⟩:=Z0K (one:=Z0T) (fun r hr=>Z1Q hr) 65536 h3
 have ⟨h5,_⟩:=Z0K (one:=Z0I) (fun r hr=>Z3H hr) 100 h4
 have ⟨h6,_⟩:=Z1M h5
 have ⟨h7,_⟩:=Z0K (one:=Z20) (fun r hr=>Z1M hr) 200 h6
 have ⟨h8,_⟩:=Z0K (one:=Z20) (fun r hr=>Z1M hr) 200 h7
 have ⟨h9,_⟩:=Z0K (fun r hr=>Z1i hr 200) 200 h8
 have ⟨h10,_⟩:=Z0K (one:=Z0W) (fun r hr=>Z3Q hr) 200 h9
 (intro X hP hΓ hL hfin; refine⟨_,rfl,?_⟩; rw [show Tryz.f14.ntmps=48 from rfl]; rw [show Tryz.f14.results.toList=[.cell 2 33] from rfl] at hfin; apply holds_of_ex X 400; simp (maxSteps:=1000000) only [push_cast,reduceCtorEq,Nat.reduceAdd,Nat.reduceMul,Nat.reduceSub,Nat.reduceBEq,Nat.reduceGT,Nat.reduceLT,Int.toNat_zero,Nat.reduceLeDiff,Int.reduceEq,Int.reduceLT,Int.reduceLE,hP,hΓ,hL,hfin,↓Z00,String.reduceEq,not_false_eq_true,if_true,h75,h76])
 (refine Holds.drawnE (Z3c [.row 3 0,.fix (.row [.ref 0 0 0] 1 0)]) [1,3,6] [5] [1,3] true (by rw [hP]; kernel_rfl) (by kernel_rfl) (by kernel_rfl) (by kernel_rfl) (by first | exact .inl rfl | exact .inr fun _ _ h=>Z0M _ _ h) (by first | (simp only [push_cast]; done) | (simp only [push_cast,and_true]; omega)) ?_; simp (maxSteps:=1000000) only [↓reduceIte,Option.getD_some,push_cast,reduceCtorEq,Nat.reduceAdd,Nat.reduceMul,Nat.reduceSub,Nat.reduceBEq,Nat.reduceGT,Nat.reduceLT,Int.toNat_zero,Nat.reduceLeDiff,Int.reduceEq,Int.reduceLT,Int.reduceLE,hP,hΓ,hL,hfin,↓Z00,String.reduceEq,not_false_eq_true,if_true,h75,h76])
 (repeat (refine And.intro (by first | exact True.intro | omega | assumption | exact own_row _ | (simp only [List.length_append]; omega) | (intro hg; (try simp only [decide_eq_true_eq,decide_eq_false_iff_not,Bool.and_eq_true,Bool.or_eq_true,Bool.and_eq_false_iff,Bool.or_eq_false_iff,Bool.not_eq_true',Bool.not_eq_false',Bool.not_eq_true,Bool.not_eq_false,Int.not_lt,Int.not_le,beq_iff_eq,beq_eq_false_iff_ne,ne_eq,win_t,win_f] at hg); omega)) ?_))
 simp only [Z20] at *
 ((first | with_reducible refine holds_of_ex X 400 _ _ _ ?_ | skip); simp (maxSteps:=1000000) only [push_cast,reduceCtorEq,Nat.reduceAdd,Nat.reduceMul,Nat.reduceSub,Nat.reduceBEq,Nat.reduceGT,Nat.reduceLT,Int.toNat_zero,Nat.reduceLeDiff,Int.reduceEq,Int.reduceLT,Int.reduceLE,hP,hΓ,hL,hfin,↓Z00,String.reduceEq,not_false_eq_true,if_true,h75,h76,h77,h79,h80,h82,h84,h86,h88])
 (repeat' (first | assumption | omega | with_reducible apply And.intro))
 simp only [objM,Z20,Ob.c,List.length_map]
 exact Z06.keep1A
theorem con48{Γ:Env}(h:Z07 Tryz.prog Γ)(h75:Γ 30=some S75)(h76:Γ 31=some S76)(h77:Γ 32=some S77)(h79:Γ 34=some S79)(h80:Γ 35=some S80)(h82:Γ 37=some S82)(h84:Γ 39=some S84)(h86:Γ 41=some S86)(h88:Γ 43=some S88):Con Tryz.prog 14 S48:=
 Z0v h (fn:=Tryz.f14) (by kernel_rfl) rfl (by kernel_rfl) inj48 fun r h=>body48 Γ h75 h76 h77 h79 h80 h82 h84 h86 h88 r h
end Go.Proofs.YtmomhjmaanagaaaGreat.objDone
end
