/- Of objects: the reference's reader. Conditions stand in each. -/
import Derived.Test.YtmomhjmaanagaaaGreatMb
set_option linter.unusedVariables false
set_option linter.unusedSimpArgs false
set_option maxRecDepth 100000
set_option maxHeartbeats 4000000
namespace Go.Proofs.YtmomhjmaanagaaaGreat.objRef
open Go Go.Eng Go.Proofs
open Go.Proofs.YtmomhjmaanagaaaGreat.objNumbersDone (Z1r okR valR Z3d Z7b Z7Q okT Z8z Z4B Z1R Z3X Z3Y)
open Go.Proofs.YtmomhjmaanagaaaGreat.objDone
theorem Zcn(l:Z04)(a:Nat)(k:Nat)(h:a+4≤l.length)(hk:k<4):leN ((((l.take (a+4)).drop a)).drop (3 - k))=(l.getD (a+(3 - k)) 0).toNat+256*leN (((l.take (a+4)).drop a).drop (4 - k)):=by
 have e:((l.take (a+4)).drop a).drop (3 - k)=l.getD (a+(3 - k)) 0::((l.take (a+4)).drop a).drop (4 - k):=by
  have hl:3 - k<((l.take (a+4)).drop a).length:=by simp; omega
  rw [List.drop_eq_getElem_cons hl,show 3 - k+1=4 - k by omega]
  congr 1
  simp only [List.getElem_drop,List.getElem_take]
  simp [List.getD,show a+(3 - k)<l.length by omega]
 rw [e,leN]
theorem ZjE(n:Int)(h:0≤n∧n<4294967296):IntKind.u32.wrap n=n:=by simp [IntKind.wrap,IntKind.bits,IntKind.signed]; omega
def e17:(Z04)×(Nat)×(Int)→List AV:=fun (l,n,a)=>[.sl (l.map Z03) n,.int .i64 a]
def p17:(Z04)×(Nat)×(Int)→Prop:=fun (l,n,a)=>n=l.length∧l.length≤4194304
def r17:(Z04)×(Nat)×(Int)→AV:=fun (l,n,a)=>.tup [.int .u32 (Z6q l a),.bool (Z7x l a)]
def g17:(Z04)×(Nat)×(Int)→Heap:=fun (l,n,a)=>[]
theorem inj17:∀a b,e17 a=e17 b→a=b:=by
 rintro⟨l,n,a⟩ ⟨l',n',a'⟩ h
 simp only [e17,Z0f,Z0h,Z0i,Z0g,Z0V,List.cons.injEq,AV.int.injEq,AV.str.injEq,AV.bool.injEq,AV.sl.injEq,AV.agg.injEq,AV.ip.injEq,AV.fn.injEq,AV.ifc.injEq,AV.mpr.injEq,Int.natCast_inj,and_true,true_and] at h
 simp_all only
noncomputable def S17:Z0n:=Z2V e17 p17 r17 g17 true
theorem Zkn(l:(Z04))(n:(Nat))(a:(Int)):Z1J e17 p17 [.sl (l.map Z03) n,.int .i64 a]=(n=l.length∧l.length≤4194304):=Z0j inj17 p17 (l,n,a)
theorem ZjZ(l:(Z04))(n:(Nat))(a:(Int)):Z10 e17 r17 .any [.sl (l.map Z03) n,.int .i64 a]=(.tup [.int .u32 (Z6q l a),.bool (Z7x l a)]):=Z08 inj17 r17 .any (l,n,a)
theorem ZkT(l:(Z04))(n:(Nat))(a:(Int)):Z10 e17 g17 [] [.sl (l.map Z03) n,.int .i64 a]=([]):=Z08 inj17 g17 [] (l,n,a)
attribute [push_cast] S17 Zkn ZjZ ZkT
theorem body17(Γ:Env)(l:Z04)(a:Int)(hl:l.length≤4194304):Z0a Tryz.prog Γ Tryz.f17 (e17 (l,l.length,a)) [] (.tup [.int .u32 (Z6q l a),.bool (Z7x l a)]) []:=by
 (intro X hP hΓ hL hfin; refine⟨_,rfl,?_⟩; rw [show Tryz.f17.ntmps=37 from rfl]; rw [show Tryz.f17.results.toList=[.tmp 4,.tmp 5] from rfl] at hfin; apply holds_of_ex X 400; simp (maxSteps:=1000000) only [push_cast,reduceCtorEq,Nat.reduceAdd,Nat.reduceMul,Nat.reduceSub,Nat.reduceBEq,Nat.reduceGT,Nat.reduceLT,Int.toNat_zero,Nat.reduceLeDiff,Int.reduceEq,Int.reduceLT,Int.reduceLE,hP,hΓ,hL,hfin,↓Z00,String.reduceEq,not_false_eq_true,if_true,Rd.sto,Rd.sill,Rd.to_b,Rd.to_at,e17,Z0c ((l.length:Int) - 4) (by constructor <;> omega)])
 ((with_reducible refine Z02 (fun h=>?_) (fun h=>?_)) <;> (try simp only [decide_eq_true_eq,decide_eq_false_iff_not,Bool.and_eq_true,Bool.or_eq_true,Bool.and_eq_false_iff,Bool.or_eq_false_iff,Bool.not_eq_true',Bool.not_eq_false',Bool.not_eq_true,Bool.not_eq_false,Int.not_lt,Int.not_le,beq_iff_eq,beq_eq_false_iff_ne,ne_eq,win_t,win_f] at h))
 ·have hk:Z7x l a=false:=by simp only [Z7x,decide_eq_false_iff_not]; omega
  ((first | with_reducible refine holds_of_ex X 400 _ _ _ ?_ | skip); simp (maxSteps:=1000000) only [push_cast,reduceCtorEq,Nat.reduceAdd,Nat.reduceMul,Nat.reduceSub,Nat.reduceBEq,Nat.reduceGT,Nat.reduceLT,Int.toNat_zero,Nat.reduceLeDiff,Int.reduceEq,Int.reduceLT,Int.reduceLE,hP,hΓ,hL,hfin,↓Z00,String.reduceEq,not_false_eq_true,if_true,Rd.sto,Rd.sill,Rd.to_b,Rd.to_at])
  rw [show Z6q l a=0 by rw [Z6q,hk]; rfl,hk]
  exact Z06.sameA
 have hk:Z7x l a=true:=by simp only [Z7x,decide_eq_true_eq]; omega
 obtain⟨a,rfl⟩:=Int.eq_ofNat_of_zero_le (show 0≤a by omega)
 have ha:a+4≤l.length:=by omega
 have hv:Z6q l a=leN ((l.take (a+4)).drop a):=by rw [Z6q,hk,show ((a:Int)+4).toNat=a+4 by omega]; simp
 have hlen:∀k,k≤4→(((l.take (a+4)).drop a).drop (4 - k)).length=k:=fun k hk=>by simp; omega
 ((first | with_reducible refine holds_of_ex X 400 _ _ _ ?_ | skip); simp (maxSteps:=1000000) only [push_cast,reduceCtorEq,Nat.reduceAdd,Nat.reduceMul,Nat.reduceSub,Nat.reduceBEq,Nat.reduceGT,Nat.reduceLT,Int.toNat_zero,Nat.reduceLeDiff,Int.reduceEq,Int.reduceLT,Int.reduceLE,hP,hΓ,hL,hfin,↓Z00,String.reduceEq,not_false_eq_true,if_true,Rd.sto,Rd.sill,Rd.to_b,Rd.to_at])
 refine Holds.loopM (ι:={k:Nat // k≤4}) [true,true,false,false,true,true,false,false,false,false,false,false,false,false,false,false,false,false,false,false,false,false,false,false,false,false,false,false,false,false,false,false,false,false,false,false,false] (fun i=>[(6,.int .u32 (leN (((l.take (a+4)).drop a).drop (4 - i.1)):Nat)),(7,.int .i64 (3 - (i.1:Int)))]) (fun i=>[]) (fun i=>4 - i.1) ⟨0,Nat.zero_le _⟩ ?_ ?_
 ·have e0:leN (((l.take (a+4)).drop a).drop (4 - 0))=0:=by
   rw [List.eq_nil_of_length_eq_zero (hlen 0 (by omega))]; rfl
  rw [e0]
  (rw [hL]; simp only [push_cast,Int.natCast_zero]; exact Z06.sameA)
 rintro⟨k,hk4⟩
 ((first | with_reducible refine holds_of_ex X 400 _ _ _ ?_ | skip); simp (maxSteps:=1000000) only [push_cast,reduceCtorEq,Nat.reduceAdd,Nat.reduceMul,Nat.reduceSub,Nat.reduceBEq,Nat.reduceGT,Nat.reduceLT,Int.toNat_zero,Nat.reduceLeDiff,Int.reduceEq,Int.reduceLT,Int.reduceLE,hP,hΓ,hL,hfin,↓Z00,String.reduceEq,not_false_eq_true,if_true,Rd.sto,Rd.sill,Rd.to_b,Rd.to_at])
 ((with_reducible refine Z02 (fun h=>?_) (fun h=>?_)) <;> (try simp only [decide_eq_true_eq,decide_eq_false_iff_not,Bool.and_eq_true,Bool.or_eq_true,Bool.and_eq_false_iff,Bool.or_eq_false_iff,Bool.not_eq_true',Bool.not_eq_false',Bool.not_eq_true,Bool.not_eq_false,Int.not_lt,Int.not_le,beq_iff_eq,beq_eq_false_iff_ne,ne_eq,win_t,win_f] at h))
 ·have hk':k<4:=by omega
  have hst:=Zcn l a k ha hk'
  have hb:=Z8g (((l.take (a+4)).drop a).drop (4 - k))
  have hb2:=Z8g (((l.take (a+4)).drop a).drop (3 - k))
  rw [hlen k hk4] at hb
  rw [show 3 - k=4 - (k+1) by omega,hlen (k+1) (by omega)] at hb2
  have hp:256 ^ (k+1)≤256 ^ 4:=Nat.pow_le_pow_right (by omega) (by omega)
  obtain⟨q,hq⟩:∃q,q=a+(3 - k):=⟨_,rfl⟩
  have hix:IntKind.i64.wrap ((a:Int)+(3 - (k:Int)))=(q:Int):=by rw [Z0c _ (by constructor <;> omega)]; omega
  have hal:q<l.length:=by omega
  rw [←hq] at hst
  have hcc:=(l.getD q 0).toNat_lt
  generalize hL0:leN (((l.take (a+4)).drop a).drop (4 - k))=A at *
  have hA:A*256<4294967296:=by rw [show 3 - k=4 - (k+1) by omega] at hst; omega
  have hB:A*256+(l.getD q 0).toNat<4294967296:=by rw [show 3 - k=4 - (k+1) by omega] at hst; omega
  ((first | with_reducible refine holds_of_ex X 400 _ _ _ ?_ | skip); simp (maxSteps:=1000000) only [push_cast,reduceCtorEq,Nat.reduceAdd,Nat.reduceMul,Nat.reduceSub,Nat.reduceBEq,Nat.reduceGT,Nat.reduceLT,Int.toNat_zero,Nat.reduceLeDiff,Int.reduceEq,Int.reduceLT,Int.reduceLE,hP,hΓ,hL,hfin,↓Z00,String.reduceEq,not_false_eq_true,if_true,Rd.sto,Rd.sill,Rd.to_b,Rd.to_at,hix,hal,Z0c (3 - (k:Int) - 1) (by constructor <;> omega)])
  rw [ZjE ((A:Int)*256) (by omega),ZjE (((l.getD q 0).toNat:Int)) (by omega),ZjE _ (by omega)]
  refine⟨by omega,by omega,⟨k+1,by omega⟩,by simp only; omega,?_⟩
  have e1:((leN (((l.take (a+4)).drop a).drop (4 - (k+1))):Nat):Int)=(A:Int)*256+((l.getD q 0).toNat:Int):=by
   rw [show 4 - (k+1)=3 - k by omega,hst]; omega
  have e2:(3:Int) - ((k+1:Nat):Int)=3 - k - 1:=by omega
  simp only [e1,e2]
  exact Z06.sameA
 obtain rfl:k=4:=by omega
 ((first | with_reducible refine holds_of_ex X 400 _ _ _ ?_ | skip); simp (maxSteps:=1000000) only [push_cast,reduceCtorEq,Nat.reduceAdd,Nat.reduceMul,Nat.reduceSub,Nat.reduceBEq,Nat.reduceGT,Nat.reduceLT,Int.toNat_zero,Nat.reduceLeDiff,Int.reduceEq,Int.reduceLT,Int.reduceLE,hP,hΓ,hL,hfin,↓Z00,String.reduceEq,not_false_eq_true,if_true,Rd.sto,Rd.sill,Rd.to_b,Rd.to_at])
 rw [hv,hk]
 exact Z06.sameA
theorem con17{Γ:Env}(h:Z07 Tryz.prog Γ):Con Tryz.prog 17 S17:=
 Z0t h (fn:=Tryz.f17) (by kernel_rfl) rfl (by kernel_rfl) inj17 (by first | (intro h; cases h; done) | exact fun _ _=>rfl) fun ⟨l,n,a⟩ h=>by obtain⟨rfl,h⟩:=h; exact body17 Γ l a h
def wrong(r:Rd):Rd:=if r.bad<0 then r.ill else r
def e22:(Rd)→List AV×Heap:=fun r=>([.ref 0 0 0],[.row r.c 3 0])
def p22:(Rd)→Prop:=fun r=>True
def r22:(Rd)→AV:=fun r=>.tup []
def g22:(Rd)→Heap:=fun r=>[.row (wrong r).c 3 0]
theorem inj22:∀a b,e22 a=e22 b→a=b:=by
 rintro r r' h
 simp only [e22,Z0f,Z0h,Z0i,Z0g,Z0V,Prod.mk.injEq,List.cons.injEq,Z0L.row.injEq,AV.int.injEq,AV.str.injEq,AV.bool.injEq,AV.sl.injEq,AV.agg.injEq,AV.ip.injEq,AV.fn.injEq,AV.ifc.injEq,AV.mpr.injEq,AV.msl.injEq,AV.ref.injEq,Int.natCast_inj,and_true,true_and] at h
 simp_all only
noncomputable def S22:Z0n:=Z1I false e22 p22 r22 g22
theorem Zkk(r:(Rd)):Z1p e22 p22 ([.ref 0 0 0],[.row r.c 3 0])=(True):=Z0x inj22 p22 r
theorem ZjW(r:(Rd)):Z0A e22 r22 .any ([.ref 0 0 0],[.row r.c 3 0])=(.tup []):=Z09 inj22 r22 .any r
theorem ZkQ(r:(Rd)):Z0A e22 g22 [] ([.ref 0 0 0],[.row r.c 3 0])=([.row (wrong r).c 3 0]):=Z09 inj22 g22 [] r
attribute [push_cast] S22 Zkk ZjW ZkQ
theorem body22(Γ:Env)(r:Rd):Z0a Tryz.prog Γ Tryz.f22 [.ref 0 0 0] [.row r.c 3 0] (.tup []) [.row (wrong r).c 3 0]:=by
 (intro X hP hΓ hL hfin; refine⟨_,rfl,?_⟩; rw [show Tryz.f22.ntmps=14 from rfl]; rw [show Tryz.f22.results.toList=[] from rfl] at hfin; apply holds_of_ex X 400; simp (maxSteps:=1000000) only [push_cast,reduceCtorEq,Nat.reduceAdd,Nat.reduceMul,Nat.reduceSub,Nat.reduceBEq,Nat.reduceGT,Nat.reduceLT,Int.toNat_zero,Nat.reduceLeDiff,Int.reduceEq,Int.reduceLT,Int.reduceLE,hP,hΓ,hL,hfin,↓Z00,String.reduceEq,not_false_eq_true,if_true,Rd.sto,Rd.sill,Rd.to_b,Rd.to_at])
 ((with_reducible refine Z02 (fun h=>?_) (fun h=>?_)) <;> (try simp only [decide_eq_true_eq,decide_eq_false_iff_not,Bool.and_eq_true,Bool.or_eq_true,Bool.and_eq_false_iff,Bool.or_eq_false_iff,Bool.not_eq_true',Bool.not_eq_false',Bool.not_eq_true,Bool.not_eq_false,Int.not_lt,Int.not_le,beq_iff_eq,beq_eq_false_iff_ne,ne_eq,win_t,win_f] at h))
 ·((first | with_reducible refine holds_of_ex X 400 _ _ _ ?_ | skip); simp (maxSteps:=1000000) only [push_cast,reduceCtorEq,Nat.reduceAdd,Nat.reduceMul,Nat.reduceSub,Nat.reduceBEq,Nat.reduceGT,Nat.reduceLT,Int.toNat_zero,Nat.reduceLeDiff,Int.reduceEq,Int.reduceLT,Int.reduceLE,hP,hΓ,hL,hfin,↓Z00,String.reduceEq,not_false_eq_true,if_true,Rd.sto,Rd.sill,Rd.to_b,Rd.to_at])
  rw [wrong,if_pos (by omega)]
  exact Z06.sameA
 ·((first | with_reducible refine holds_of_ex X 400 _ _ _ ?_ | skip); simp (maxSteps:=1000000) only [push_cast,reduceCtorEq,Nat.reduceAdd,Nat.reduceMul,Nat.reduceSub,Nat.reduceBEq,Nat.reduceGT,Nat.reduceLT,Int.toNat_zero,Nat.reduceLeDiff,Int.reduceEq,Int.reduceLT,Int.reduceLE,hP,hΓ,hL,hfin,↓Z00,String.reduceEq,not_false_eq_true,if_true,Rd.sto,Rd.sill,Rd.to_b,Rd.to_at])
  rw [wrong,if_neg (by omega)]
  exact Z06.sameA
theorem con22{Γ:Env}(h:Z07 Tryz.prog Γ):Con Tryz.prog 22 S22:=
 Z0v h (fn:=Tryz.f22) (by kernel_rfl) rfl (by kernel_rfl) inj22 fun r _=>body22 Γ r
theorem u64n(n:Int)(h:0≤n∧n<18446744073709551616):IntKind.u64.wrap n=n:=by simp [IntKind.wrap,IntKind.bits,IntKind.signed]; omega
def e20:(Rd)×(Int)→List AV×Heap:=fun (r,m)=>([.ref 0 0 0,.int .i64 m],[.row r.c 3 0])
def p20:(Rd)×(Int)→Prop:=fun (r,m)=>r.ok∧0≤m∧m<4294967296
def r20:(Rd)×(Int)→AV:=fun (r,m)=>.int .i64 (Z1m r m).1
def g20:(Rd)×(Int)→Heap:=fun (r,m)=>[.row (Z1m r m).2.c 3 0]
theorem inj20:∀a b,e20 a=e20 b→a=b:=by
 rintro⟨r,m⟩ ⟨r',m'⟩ h
 simp only [e20,Z0f,Z0h,Z0i,Z0g,Z0V,Prod.mk.injEq,List.cons.injEq,Z0L.row.injEq,AV.int.injEq,AV.str.injEq,AV.bool.injEq,AV.sl.injEq,AV.agg.injEq,AV.ip.injEq,AV.fn.injEq,AV.ifc.injEq,AV.mpr.injEq,AV.msl.injEq,AV.ref.injEq,Int.natCast_inj,and_true,true_and] at h
 simp_all only
noncomputable def S20:Z0n:=Z1I false e20 p20 r20 g20
theorem Zkl(r:(Rd))(m:(Int)):Z1p e20 p20 ([.ref 0 0 0,.int .i64 m],[.row r.c 3 0])=(r.ok∧0≤m∧m<4294967296):=Z0x inj20 p20 (r,m)
theorem ZjX(r:(Rd))(m:(Int)):Z0A e20 r20 .any ([.ref 0 0 0,.int .i64 m],[.row r.c 3 0])=(.int .i64 (Z1m r m).1):=Z09 inj20 r20 .any (r,m)
theorem ZkR(r:(Rd))(m:(Int)):Z0A e20 g20 [] ([.ref 0 0 0,.int .i64 m],[.row r.c 3 0])=([.row (Z1m r m).2.c 3 0]):=Z09 inj20 g20 [] (r,m)
attribute [push_cast] S20 Zkl ZjX ZkR
theorem body20(Γ:Env)(h22:Γ 22=some S22)(h49:Γ 49=some Z3d)(r:Rd)(m:Int)(hr:r.ok)(hm:0≤m∧m<4294967296):Z0a Tryz.prog Γ Tryz.f20 [.ref 0 0 0,.int .i64 m] [.row r.c 3 0] (.int .i64 (Z1m r m).1) [.row (Z1m r m).2.c 3 0]:=by
 have hl:=hr.len
 have hB:(objNumbersDone.BIG:Nat)=140737488355328:=rfl
 (intro X hP hΓ hL hfin; refine⟨_,rfl,?_⟩; rw [show Tryz.f20.ntmps=43 from rfl]; rw [show Tryz.f20.results.toList=[.tmp 4] from rfl] at hfin; apply holds_of_ex X 400; simp (maxSteps:=1000000) only [push_cast,reduceCtorEq,Nat.reduceAdd,Nat.reduceMul,Nat.reduceSub,Nat.reduceBEq,Nat.reduceGT,Nat.reduceLT,Int.toNat_zero,Nat.reduceLeDiff,Int.reduceEq,Int.reduceLT,Int.reduceLE,hP,hΓ,hL,hfin,↓Z00,String.reduceEq,not_false_eq_true,if_true,Rd.sto,Rd.sill,Rd.to_b,Rd.to_at,h22,h49])
 ((with_reducible refine Z02 (fun h=>?_) (fun h=>?_)) <;> (try simp only [decide_eq_true_eq,decide_eq_false_iff_not,Bool.and_eq_true,Bool.or_eq_true,Bool.and_eq_false_iff,Bool.or_eq_false_iff,Bool.not_eq_true',Bool.not_eq_false',Bool.not_eq_true,Bool.not_eq_false,Int.not_lt,Int.not_le,beq_iff_eq,beq_eq_false_iff_ne,ne_eq,win_t,win_f] at h))
 ·((first | with_reducible refine holds_of_ex X 400 _ _ _ ?_ | skip); simp (maxSteps:=1000000) only [push_cast,reduceCtorEq,Nat.reduceAdd,Nat.reduceMul,Nat.reduceSub,Nat.reduceBEq,Nat.reduceGT,Nat.reduceLT,Int.toNat_zero,Nat.reduceLeDiff,Int.reduceEq,Int.reduceLT,Int.reduceLE,hP,hΓ,hL,hfin,↓Z00,String.reduceEq,not_false_eq_true,if_true,Rd.sto,Rd.sill,Rd.to_b,Rd.to_at])
  rw [show Z1m r m=(0,r) by rw [Z1m,ZeI,tookM,if_pos h]; rfl]
  exact Z06.sameA
 have hbad:¬0≤r.bad:=by omega
 have hv:=Z7P (Z1r r.b r.at_)
 have hw:wrong r=r.ill:=by rw [wrong,if_pos (by omega)]
 ((first | with_reducible refine holds_of_ex X 400 _ _ _ ?_ | skip); simp (maxSteps:=1000000) only [push_cast,reduceCtorEq,Nat.reduceAdd,Nat.reduceMul,Nat.reduceSub,Nat.reduceBEq,Nat.reduceGT,Nat.reduceLT,Int.toNat_zero,Nat.reduceLeDiff,Int.reduceEq,Int.reduceLT,Int.reduceLE,hP,hΓ,hL,hfin,↓Z00,String.reduceEq,not_false_eq_true,if_true,Rd.sto,Rd.sill,Rd.to_b,Rd.to_at])
 (refine Holds.drawnQ (by rw [hP]; kernel_rfl) (by kernel_rfl) ?_; simp (maxSteps:=1000000) only [push_cast,reduceCtorEq,Nat.reduceAdd,Nat.reduceMul,Nat.reduceSub,Nat.reduceBEq,Nat.reduceGT,Nat.reduceLT,Int.toNat_zero,Nat.reduceLeDiff,Int.reduceEq,Int.reduceLT,Int.reduceLE,hP,hΓ,hL,hfin,↓Z00,String.reduceEq,not_false_eq_true,if_true,Rd.sto,Rd.sill,Rd.to_b,Rd.to_at,h22,h49,u64n m (by omega),u64n (valR (Z1r r.b r.at_)) (by omega)])
 refine⟨⟨own_row _,by rw [hB]; omega⟩,?_⟩
 refine Z02 (fun h=>?_) (fun h=>?_)
 ·((first | with_reducible refine holds_of_ex X 400 _ _ _ ?_ | skip); simp (maxSteps:=1000000) only [push_cast,reduceCtorEq,Nat.reduceAdd,Nat.reduceMul,Nat.reduceSub,Nat.reduceBEq,Nat.reduceGT,Nat.reduceLT,Int.toNat_zero,Nat.reduceLeDiff,Int.reduceEq,Int.reduceLT,Int.reduceLE,hP,hΓ,hL,hfin,↓Z00,String.reduceEq,not_false_eq_true,if_true,Rd.sto,Rd.sill,Rd.to_b,Rd.to_at,h22])
  have e:(okR (Z1r r.b r.at_) && decide (valR (Z1r r.b r.at_)≤m))=false:=by
   cases hk:okR (Z1r r.b r.at_) with
   | false=>rfl
   | true=>rw [hk] at h; simp only [Bool.not_true,Bool.false_or,decide_eq_true_eq] at h; simp; omega
  rw [show Z1m r m=(0,r.ill) by rw [Z1m,ZeI,tookM,if_neg hbad,e]; rfl,hw]
  exact Z06.sameA
 ·have e:(okR (Z1r r.b r.at_) && decide (valR (Z1r r.b r.at_)≤m))=true:=by
   simp only [Bool.or_eq_false_iff,Bool.not_eq_false',decide_eq_false_iff_not] at h
   rw [h.1]; simp; omega
  ((first | with_reducible refine holds_of_ex X 400 _ _ _ ?_ | skip); simp (maxSteps:=1000000) only [push_cast,reduceCtorEq,Nat.reduceAdd,Nat.reduceMul,Nat.reduceSub,Nat.reduceBEq,Nat.reduceGT,Nat.reduceLT,Int.toNat_zero,Nat.reduceLeDiff,Int.reduceEq,Int.reduceLT,Int.reduceLE,hP,hΓ,hL,hfin,↓Z00,String.reduceEq,not_false_eq_true,if_true,Rd.sto,Rd.sill,Rd.to_b,Rd.to_at,Z0c (valR (Z1r r.b r.at_)) (by constructor <;> omega)])
  rw [show Z1m r m=(valR (Z1r r.b r.at_),r.to (objNumbersDone.nextR r.at_ (Z1r r.b r.at_))) by rw [Z1m,ZeI,tookM,if_neg hbad,e]; rfl]
  exact Z06.sameA
theorem con20{Γ:Env}(h:Z07 Tryz.prog Γ)(h22:Γ 22=some S22)(h49:Γ 49=some Z3d):Con Tryz.prog 20 S20:=
 Z0v h (fn:=Tryz.f20) (by kernel_rfl) rfl (by kernel_rfl) inj20 fun ⟨r,m⟩ h=>body20 Γ h22 h49 r m h.1 h.2
def e47:(Rd)×(Int)→List AV×Heap:=fun (r,m)=>([.ref 0 0 0,.int .i64 m],[.row r.c 3 0])
def p47:(Rd)×(Int)→Prop:=fun (r,m)=>r.ok∧0≤m∧m≤100000
def r47:(Rd)×(Int)→AV:=fun (r,m)=>.str (Z0R r m).1
def g47:(Rd)×(Int)→Heap:=fun (r,m)=>[.row (Z0R r m).2.c 3 0]
theorem inj47:∀a b,e47 a=e47 b→a=b:=by
 rintro⟨r,m⟩ ⟨r',m'⟩ h
 simp only [e47,Z0f,Z0h,Z0i,Z0g,Z0V,Prod.mk.injEq,List.cons.injEq,Z0L.row.injEq,AV.int.injEq,AV.str.injEq,AV.bool.injEq,AV.sl.injEq,AV.agg.injEq,AV.ip.injEq,AV.fn.injEq,AV.ifc.injEq,AV.mpr.injEq,AV.msl.injEq,AV.ref.injEq,Int.natCast_inj,and_true,true_and] at h
 simp_all only
noncomputable def S47:Z0n:=Z1I false e47 p47 r47 g47
theorem Zkg(r:(Rd))(m:(Int)):Z1p e47 p47 ([.ref 0 0 0,.int .i64 m],[.row r.c 3 0])=(r.ok∧0≤m∧m≤100000):=Z0x inj47 p47 (r,m)
theorem ZjV(r:(Rd))(m:(Int)):Z0A e47 r47 .any ([.ref 0 0 0,.int .i64 m],[.row r.c 3 0])=(.str (Z0R r m).1):=Z09 inj47 r47 .any (r,m)
theorem ZkP(r:(Rd))(m:(Int)):Z0A e47 g47 [] ([.ref 0 0 0,.int .i64 m],[.row r.c 3 0])=([.row (Z0R r m).2.c 3 0]):=Z09 inj47 g47 [] (r,m)
attribute [push_cast] S47 Zkg ZjV ZkP
theorem body47(Γ:Env)(h22:Γ 22=some S22)(h69:Γ 69=some Z1R)(r:Rd)(m:Int)(hr:r.ok)(hm:0≤m∧m≤100000):Z0a Tryz.prog Γ Tryz.f47 [.ref 0 0 0,.int .i64 m] [.row r.c 3 0] (.str (Z0R r m).1) [.row (Z0R r m).2.c 3 0]:=by
 have hl:=hr.len
 have hB:(objNumbersDone.BIG:Nat)=140737488355328:=rfl
 (intro X hP hΓ hL hfin; refine⟨_,rfl,?_⟩; rw [show Tryz.f47.ntmps=36 from rfl]; rw [show Tryz.f47.results.toList=[.tmp 4] from rfl] at hfin; apply holds_of_ex X 400; simp (maxSteps:=1000000) only [push_cast,reduceCtorEq,Nat.reduceAdd,Nat.reduceMul,Nat.reduceSub,Nat.reduceBEq,Nat.reduceGT,Nat.reduceLT,Int.toNat_zero,Nat.reduceLeDiff,Int.reduceEq,Int.reduceLT,Int.reduceLE,hP,hΓ,hL,hfin,↓Z00,String.reduceEq,not_false_eq_true,if_true,Rd.sto,Rd.sill,Rd.to_b,Rd.to_at,h22,h69])
 ((with_reducible refine Z02 (fun h=>?_) (fun h=>?_)) <;> (try simp only [decide_eq_true_eq,decide_eq_false_iff_not,Bool.and_eq_true,Bool.or_eq_true,Bool.and_eq_false_iff,Bool.or_eq_false_iff,Bool.not_eq_true',Bool.not_eq_false',Bool.not_eq_true,Bool.not_eq_false,Int.not_lt,Int.not_le,beq_iff_eq,beq_eq_false_iff_ne,ne_eq,win_t,win_f] at h))
 ·((first | with_reducible refine holds_of_ex X 400 _ _ _ ?_ | skip); simp (maxSteps:=1000000) only [push_cast,reduceCtorEq,Nat.reduceAdd,Nat.reduceMul,Nat.reduceSub,Nat.reduceBEq,Nat.reduceGT,Nat.reduceLT,Int.toNat_zero,Nat.reduceLeDiff,Int.reduceEq,Int.reduceLT,Int.reduceLE,hP,hΓ,hL,hfin,↓Z00,String.reduceEq,not_false_eq_true,if_true,Rd.sto,Rd.sill,Rd.to_b,Rd.to_at])
  rw [show Z0R r m=([],r) by rw [Z0R,Z7f,tookM,if_pos h]; rfl]
  exact Z06.sameA
 have hbad:¬0≤r.bad:=by omega
 have hw:wrong r=r.ill:=by rw [wrong,if_pos (by omega)]
 ((first | with_reducible refine holds_of_ex X 400 _ _ _ ?_ | skip); simp (maxSteps:=1000000) only [push_cast,reduceCtorEq,Nat.reduceAdd,Nat.reduceMul,Nat.reduceSub,Nat.reduceBEq,Nat.reduceGT,Nat.reduceLT,Int.toNat_zero,Nat.reduceLeDiff,Int.reduceEq,Int.reduceLT,Int.reduceLE,hP,hΓ,hL,hfin,↓Z00,String.reduceEq,not_false_eq_true,if_true,Rd.sto,Rd.sill,Rd.to_b,Rd.to_at])
 (refine Holds.drawnQ (by rw [hP]; kernel_rfl) (by kernel_rfl) ?_; simp (maxSteps:=1000000) only [push_cast,reduceCtorEq,Nat.reduceAdd,Nat.reduceMul,Nat.reduceSub,Nat.reduceBEq,Nat.reduceGT,Nat.reduceLT,Int.toNat_zero,Nat.reduceLeDiff,Int.reduceEq,Int.reduceLT,Int.reduceLE,hP,hΓ,hL,hfin,↓Z00,String.reduceEq,not_false_eq_true,if_true,Rd.sto,Rd.sill,Rd.to_b,Rd.to_at,h22,h69])
 refine⟨⟨own_row _,by rw [hB]; omega,by omega,by omega⟩,?_⟩
 refine Z02 (fun h=>?_) (fun h=>?_)
 ·((first | with_reducible refine holds_of_ex X 400 _ _ _ ?_ | skip); simp (maxSteps:=1000000) only [push_cast,reduceCtorEq,Nat.reduceAdd,Nat.reduceMul,Nat.reduceSub,Nat.reduceBEq,Nat.reduceGT,Nat.reduceLT,Int.toNat_zero,Nat.reduceLeDiff,Int.reduceEq,Int.reduceLT,Int.reduceLE,hP,hΓ,hL,hfin,↓Z00,String.reduceEq,not_false_eq_true,if_true,Rd.sto,Rd.sill,Rd.to_b,Rd.to_at,h22])
  have e:okT r.b r.at_ m=false:=by simpa using h
  rw [show Z0R r m=([],r.ill) by rw [Z0R,Z7f,tookM,if_neg hbad,e]; rfl,hw]
  exact Z06.sameA
 ·((first | with_reducible refine holds_of_ex X 400 _ _ _ ?_ | skip); simp (maxSteps:=1000000) only [push_cast,reduceCtorEq,Nat.reduceAdd,Nat.reduceMul,Nat.reduceSub,Nat.reduceBEq,Nat.reduceGT,Nat.reduceLT,Int.toNat_zero,Nat.reduceLeDiff,Int.reduceEq,Int.reduceLT,Int.reduceLE,hP,hΓ,hL,hfin,↓Z00,String.reduceEq,not_false_eq_true,if_true,Rd.sto,Rd.sill,Rd.to_b,Rd.to_at])
  have e:okT r.b r.at_ m=true:=by simpa using h
  rw [show Z0R r m=(Z8z r.b r.at_ m,r.to (Z4B r.b r.at_ m)) by rw [Z0R,Z7f,tookM,if_neg hbad,e]; rfl]
  exact Z06.sameA
theorem con47{Γ:Env}(h:Z07 Tryz.prog Γ)(h22:Γ 22=some S22)(h69:Γ 69=some Z1R):Con Tryz.prog 47 S47:=
 Z0v h (fn:=Tryz.f47) (by kernel_rfl) rfl (by kernel_rfl) inj47 fun ⟨r,m⟩ h=>body47 Γ h22 h69 r m h.1 h.2
def e48:(Rd)→List AV×Heap:=fun r=>([.ref 0 0 0],[.row r.c 3 0])
def p48:(Rd)→Prop:=fun r=>r.ok
def r48:(Rd)→AV:=fun r=>.int .u32 (Z0T r).1
def g48:(Rd)→Heap:=fun r=>[.row (Z0T r).2.c 3 0]
theorem inj48:∀a b,e48 a=e48 b→a=b:=by
 rintro r r' h
 simp only [e48,Z0f,Z0h,Z0i,Z0g,Z0V,Prod.mk.injEq,List.cons.injEq,Z0L.row.injEq,AV.int.injEq,AV.str.injEq,AV.bool.injEq,AV.sl.injEq,AV.agg.injEq,AV.ip.injEq,AV.fn.injEq,AV.ifc.injEq,AV.mpr.injEq,AV.msl.injEq,AV.ref.injEq,Int.natCast_inj,and_true,true_and] at h
 simp_all only
noncomputable def S48:Z0n:=Z1I false e48 p48 r48 g48
theorem Zij(r:(Rd)):Z1p e48 p48 ([.ref 0 0 0],[.row r.c 3 0])=(r.ok):=Z0x inj48 p48 r
theorem Zi9(r:(Rd)):Z0A e48 r48 .any ([.ref 0 0 0],[.row r.c 3 0])=(.int .u32 (Z0T r).1):=Z09 inj48 r48 .any r
theorem ZiI(r:(Rd)):Z0A e48 g48 [] ([.ref 0 0 0],[.row r.c 3 0])=([.row (Z0T r).2.c 3 0]):=Z09 inj48 g48 [] r
attribute [push_cast] S48 Zij Zi9 ZiI
theorem body48(Γ:Env)(h22:Γ 22=some S22)(h17:Γ 17=some S17)(r:Rd)(hr:r.ok):Z0a Tryz.prog Γ Tryz.f48 [.ref 0 0 0] [.row r.c 3 0] (.int .u32 (Z0T r).1) [.row (Z0T r).2.c 3 0]:=by
 have hl:=hr.len; have h1:=hr.lo; have h2:=hr.hi
 (intro X hP hΓ hL hfin; refine⟨_,rfl,?_⟩; rw [show Tryz.f48.ntmps=37 from rfl]; rw [show Tryz.f48.results.toList=[.tmp 2] from rfl] at hfin; apply holds_of_ex X 400; simp (maxSteps:=1000000) only [push_cast,reduceCtorEq,Nat.reduceAdd,Nat.reduceMul,Nat.reduceSub,Nat.reduceBEq,Nat.reduceGT,Nat.reduceLT,Int.toNat_zero,Nat.reduceLeDiff,Int.reduceEq,Int.reduceLT,Int.reduceLE,hP,hΓ,hL,hfin,↓Z00,String.reduceEq,not_false_eq_true,if_true,Rd.sto,Rd.sill,Rd.to_b,Rd.to_at,h22,h17])
 (refine Holds.drawnQ (by rw [hP]; kernel_rfl) (by kernel_rfl) ?_; simp (maxSteps:=1000000) only [push_cast,reduceCtorEq,Nat.reduceAdd,Nat.reduceMul,Nat.reduceSub,Nat.reduceBEq,Nat.reduceGT,Nat.reduceLT,Int.toNat_zero,Nat.reduceLeDiff,Int.reduceEq,Int.reduceLT,Int.reduceLE,hP,hΓ,hL,hfin,↓Z00,String.reduceEq,not_false_eq_true,if_true,Rd.sto,Rd.sill,Rd.to_b,Rd.to_at,h22,h17])
 refine⟨hl,?_⟩
 refine Z02 (fun h=>?_) (fun h=>?_)
 ·((first | with_reducible refine holds_of_ex X 400 _ _ _ ?_ | skip); simp (maxSteps:=1000000) only [push_cast,reduceCtorEq,Nat.reduceAdd,Nat.reduceMul,Nat.reduceSub,Nat.reduceBEq,Nat.reduceGT,Nat.reduceLT,Int.toNat_zero,Nat.reduceLeDiff,Int.reduceEq,Int.reduceLT,Int.reduceLE,hP,hΓ,hL,hfin,↓Z00,String.reduceEq,not_false_eq_true,if_true,Rd.sto,Rd.sill,Rd.to_b,Rd.to_at,h22])
  have e:Z0T r=(0,wrong r):=by
   by_cases hb:0≤r.bad
   ·simp [Z0T,Z78,tookM,wrong,hb,show ¬r.bad<0 by omega]
   ·have e:Z7x r.b r.at_=false:=by
     simp only [Bool.or_eq_true,Bool.not_eq_true',decide_eq_true_eq] at h
     rcases h with h | h
     ·exact h
     ·exact absurd h hb
    simp [Z0T,Z78,tookM,wrong,hb,e,show r.bad<0 by omega]
  rw [e]
  exact Z06.sameA
 ·simp only [Bool.or_eq_false_iff,Bool.not_eq_false',decide_eq_false_iff_not] at h
  ((first | with_reducible refine holds_of_ex X 400 _ _ _ ?_ | skip); simp (maxSteps:=1000000) only [push_cast,reduceCtorEq,Nat.reduceAdd,Nat.reduceMul,Nat.reduceSub,Nat.reduceBEq,Nat.reduceGT,Nat.reduceLT,Int.toNat_zero,Nat.reduceLeDiff,Int.reduceEq,Int.reduceLT,Int.reduceLE,hP,hΓ,hL,hfin,↓Z00,String.reduceEq,not_false_eq_true,if_true,Rd.sto,Rd.sill,Rd.to_b,Rd.to_at,Z0c (r.at_+4) (by constructor <;> omega)])
  rw [show Z0T r=(Z6q r.b r.at_,r.to (r.at_+4)) by rw [Z0T,Z78,tookM,if_neg h.2,h.1]; rfl]
  exact Z06.sameA
theorem con48{Γ:Env}(h:Z07 Tryz.prog Γ)(h22:Γ 22=some S22)(h17:Γ 17=some S17):Con Tryz.prog 48 S48:=
 Z0v h (fn:=Tryz.f48) (by kernel_rfl) rfl (by kernel_rfl) inj48 fun r h=>body48 Γ h22 h17 r h
def e21:(Rd)×(Int)→List AV×Heap:=fun (r,m)=>([.ref 0 0 0,.int .u8 m],[.row r.c 3 0])
def p21:(Rd)×(Int)→Prop:=fun (r,m)=>r.ok
def r21:(Rd)×(Int)→AV:=fun (r,m)=>.int .u8 (Z1Y r m).1
def g21:(Rd)×(Int)→Heap:=fun (r,m)=>[.row (Z1Y r m).2.c 3 0]
theorem inj21:∀a b,e21 a=e21 b→a=b:=by
 rintro⟨r,m⟩ ⟨r',m'⟩ h
 simp only [e21,Z0f,Z0h,Z0i,Z0g,Z0V,Prod.mk.injEq,List.cons.injEq,Z0L.row.injEq,AV.int.injEq,AV.str.injEq,AV.bool.injEq,AV.sl.injEq,AV.agg.injEq,AV.ip.injEq,AV.fn.injEq,AV.ifc.injEq,AV.mpr.injEq,AV.msl.injEq,AV.ref.injEq,Int.natCast_inj,and_true,true_and] at h
 simp_all only
noncomputable def S21:Z0n:=Z1I false e21 p21 r21 g21
theorem Zik(r:(Rd))(m:(Int)):Z1p e21 p21 ([.ref 0 0 0,.int .u8 m],[.row r.c 3 0])=(r.ok):=Z0x inj21 p21 (r,m)
theorem Zia(r:(Rd))(m:(Int)):Z0A e21 r21 .any ([.ref 0 0 0,.int .u8 m],[.row r.c 3 0])=(.int .u8 (Z1Y r m).1):=Z09 inj21 r21 .any (r,m)
theorem ZiJ(r:(Rd))(m:(Int)):Z0A e21 g21 [] ([.ref 0 0 0,.int .u8 m],[.row r.c 3 0])=([.row (Z1Y r m).2.c 3 0]):=Z09 inj21 g21 [] (r,m)
attribute [push_cast] S21 Zik Zia ZiJ
theorem body21(Γ:Env)(h22:Γ 22=some S22)(r:Rd)(m:Int)(hr:r.ok):Z0a Tryz.prog Γ Tryz.f21 [.ref 0 0 0,.int .u8 m] [.row r.c 3 0] (.int .u8 (Z1Y r m).1) [.row (Z1Y r m).2.c 3 0]:=by
 have hl:=hr.len; have h1:=hr.lo; have h2:=hr.hi
 (intro X hP hΓ hL hfin; refine⟨_,rfl,?_⟩; rw [show Tryz.f21.ntmps=56 from rfl]; rw [show Tryz.f21.results.toList=[.tmp 4] from rfl] at hfin; apply holds_of_ex X 400; simp (maxSteps:=1000000) only [push_cast,reduceCtorEq,Nat.reduceAdd,Nat.reduceMul,Nat.reduceSub,Nat.reduceBEq,Nat.reduceGT,Nat.reduceLT,Int.toNat_zero,Nat.reduceLeDiff,Int.reduceEq,Int.reduceLT,Int.reduceLE,hP,hΓ,hL,hfin,↓Z00,String.reduceEq,not_false_eq_true,if_true,Rd.sto,Rd.sill,Rd.to_b,Rd.to_at,h22])
 (refine Holds.drawnQ (by rw [hP]; kernel_rfl) (by kernel_rfl) ?_; simp (maxSteps:=1000000) only [push_cast,reduceCtorEq,Nat.reduceAdd,Nat.reduceMul,Nat.reduceSub,Nat.reduceBEq,Nat.reduceGT,Nat.reduceLT,Int.toNat_zero,Nat.reduceLeDiff,Int.reduceEq,Int.reduceLT,Int.reduceLE,hP,hΓ,hL,hfin,↓Z00,String.reduceEq,not_false_eq_true,if_true,Rd.sto,Rd.sill,Rd.to_b,Rd.to_at,h22])
 refine⟨fun h=>?_,fun h=>?_,?_⟩
 ·simp only [Bool.not_eq_true',Bool.or_eq_false_iff,decide_eq_false_iff_not] at h; omega
 ·simp only [Bool.not_eq_true',Bool.or_eq_false_iff,decide_eq_false_iff_not] at h; omega
 refine Z02 (fun h=>?_) (fun h=>?_)
 ·((first | with_reducible refine holds_of_ex X 400 _ _ _ ?_ | skip); simp (maxSteps:=1000000) only [push_cast,reduceCtorEq,Nat.reduceAdd,Nat.reduceMul,Nat.reduceSub,Nat.reduceBEq,Nat.reduceGT,Nat.reduceLT,Int.toNat_zero,Nat.reduceLeDiff,Int.reduceEq,Int.reduceLT,Int.reduceLE,hP,hΓ,hL,hfin,↓Z00,String.reduceEq,not_false_eq_true,if_true,Rd.sto,Rd.sill,Rd.to_b,Rd.to_at,h22])
  have e:Z1Y r m=(0,wrong r):=by
   by_cases hb:0≤r.bad
   ·simp [Z1Y,Z6A,tookM,wrong,hb,show ¬r.bad<0 by omega]
   ·have e:(decide (r.at_<r.b.length) && decide (((r.b.getD r.at_.toNat 0).toNat:Int)≤m))=false:=by
     simp only [Bool.or_eq_true,decide_eq_true_eq] at h
     simp only [Bool.and_eq_false_iff,decide_eq_false_iff_not]
     omega
    simp only [Z1Y,Z6A,tookM,wrong,if_neg hb,e,if_pos (show r.bad<0 by omega),Bool.false_eq_true,if_false]
  rw [e]
  exact Z06.sameA
 ·simp only [Bool.or_eq_false_iff,decide_eq_false_iff_not] at h
  have e:(decide (r.at_<r.b.length) && decide (((r.b.getD r.at_.toNat 0).toNat:Int)≤m))=true:=by
   simp only [Bool.and_eq_true,decide_eq_true_eq]; omega
  have hb:Z1Y r m=(((r.b.getD r.at_.toNat 0).toNat:Int),r.to (r.at_+1)):=by simp only [Z1Y,Z6A,tookM,if_neg h.1.1,e,if_true]
  ((first | with_reducible refine holds_of_ex X 400 _ _ _ ?_ | skip); simp (maxSteps:=1000000) only [push_cast,reduceCtorEq,Nat.reduceAdd,Nat.reduceMul,Nat.reduceSub,Nat.reduceBEq,Nat.reduceGT,Nat.reduceLT,Int.toNat_zero,Nat.reduceLeDiff,Int.reduceEq,Int.reduceLT,Int.reduceLE,hP,hΓ,hL,hfin,↓Z00,String.reduceEq,not_false_eq_true,if_true,Rd.sto,Rd.sill,Rd.to_b,Rd.to_at,Z0c (r.at_+1) (by constructor <;> omega)])
  (refine Holds.drawnQ (by rw [hP]; kernel_rfl) (by kernel_rfl) ?_; simp (maxSteps:=1000000) only [push_cast,reduceCtorEq,Nat.reduceAdd,Nat.reduceMul,Nat.reduceSub,Nat.reduceBEq,Nat.reduceGT,Nat.reduceLT,Int.toNat_zero,Nat.reduceLeDiff,Int.reduceEq,Int.reduceLT,Int.reduceLE,hP,hΓ,hL,hfin,↓Z00,String.reduceEq,not_false_eq_true,if_true,Rd.sto,Rd.sill,Rd.to_b,Rd.to_at,Z0c (r.at_+1 - 1) (by constructor <;> omega)])
  refine⟨⟨by omega,by omega⟩,by omega,?_⟩
  rw [show r.at_+1 - 1=r.at_ by omega,hb]
  exact Z06.sameA
theorem con21{Γ:Env}(h:Z07 Tryz.prog Γ)(h22:Γ 22=some S22):Con Tryz.prog 21 S21:=
 Z0v h (fn:=Tryz.f21) (by kernel_rfl) rfl (by kernel_rfl) inj21 fun ⟨r,m⟩ h=>body21 Γ h22 r m h
end Go.Proofs.YtmomhjmaanagaaaGreat.objRef