/- Of objects: a word laid in place; bytes with their sum behind them. Conditions stand in each. -/
import Derived.Test.YtmomhjmaanagaaaGreatQF
import Derived.Test.YtmomhjmaanagaaaGreatEng21
set_option linter.unusedVariables false
set_option linter.unusedSimpArgs false
set_option maxRecDepth 100000
set_option maxHeartbeats 4000000
namespace Go.Proofs.YtmomhjmaanagaaaGreat.objDone
open Go Go.Eng Go.Proofs
def ZhW(w:Int)(k:Nat):List AV:=[.int .u8 (if 0<k then ((by8 w).toNat:Int) else 0),.int .u8 (if 1<k then ((by8 (w.fdiv 256)).toNat:Int) else 0),.int .u8 (if 2<k then ((by8 (w.fdiv 65536)).toNat:Int) else 0),.int .u8 (if 3<k then ((by8 (w.fdiv 16777216)).toNat:Int) else 0)]
theorem c4:((4:Nat):Int)=4:=rfl
theorem w40:IntKind.i64.wrap (4 - 4)=0:=rfl
def e50:(Int)×(Nat)→List AV×Heap:=fun (w,v)=>([.msl 0 v 0 4,.int .i64 0,.int .u32 w],[.row [.int .u8 0,.int .u8 0,.int .u8 0,.int .u8 0] 1 v])
def p50:(Int)×(Nat)→Prop:=fun (w,v)=>True
def r50:(Int)×(Nat)→AV:=fun (w,v)=>.bool true
def g50:(Int)×(Nat)→Heap:=fun (w,v)=>[.row ((le4 w).map Z03) 1 v]
theorem inj50:∀a b,e50 a=e50 b→a=b:=by
 rintro⟨w,v⟩ ⟨w',v'⟩ h
 simp only [e50,Z0f,Z0h,Z0i,Z0g,Z0V,Z0u,Prod.mk.injEq,List.cons.injEq,Z0L.row.injEq,AV.int.injEq,AV.str.injEq,AV.bool.injEq,AV.sl.injEq,AV.agg.injEq,AV.ip.injEq,AV.fn.injEq,AV.ifc.injEq,AV.mpr.injEq,AV.msl.injEq,AV.ref.injEq,Int.natCast_inj,and_true,true_and] at h
 simp_all only
noncomputable def S50:Z0n:=Zhs e50 p50 r50 g50
theorem ps50(w:(Int))(v:(Nat)):Z1p e50 p50 ([.msl 0 v 0 4,.int .i64 0,.int .u32 w],[.row [.int .u8 0,.int .u8 0,.int .u8 0,.int .u8 0] 1 v])=(True):=Z0x inj50 p50 (w,v)
theorem rs50(w:(Int))(v:(Nat)):Z0A e50 r50 .any ([.msl 0 v 0 4,.int .i64 0,.int .u32 w],[.row [.int .u8 0,.int .u8 0,.int .u8 0,.int .u8 0] 1 v])=(.bool true):=Z09 inj50 r50 .any (w,v)
theorem hs50(w:(Int))(v:(Nat)):Z0A e50 g50 [] ([.msl 0 v 0 4,.int .i64 0,.int .u32 w],[.row [.int .u8 0,.int .u8 0,.int .u8 0,.int .u8 0] 1 v])=([.row ((le4 w).map Z03) 1 v]):=Z09 inj50 g50 [] (w,v)
attribute [push_cast] S50 ps50 rs50 hs50
theorem body50(Γ:Env)(w:Int)(v:Nat):Z0a Tryz.prog Γ Tryz.f26 [.msl 0 v 0 4,.int .i64 0,.int .u32 w] [.row [.int .u8 0,.int .u8 0,.int .u8 0,.int .u8 0] 1 v] (.bool true) [.row ((le4 w).map Z03) 1 v]:=by
 (intro X hP hΓ hL hfin; refine⟨_,rfl,?_⟩; rw [show Tryz.f26.ntmps=31 from rfl]; rw [show Tryz.f26.results.toList=[.tmp 6] from rfl] at hfin; apply holds_of_ex X 400; simp (maxSteps:=1000000) only [push_cast,reduceCtorEq,Nat.reduceAdd,Nat.reduceMul,Nat.reduceSub,Nat.reduceBEq,Nat.reduceGT,Nat.reduceLT,Int.toNat_zero,Nat.reduceLeDiff,Int.reduceEq,Int.reduceLT,Int.reduceLE,hP,hΓ,hL,hfin,↓Z00,String.reduceEq,not_false_eq_true,if_true,↓c4,w40])
 refine Holds.loopM (ι:={k:Nat // k≤4}) [true,true,true,false,false,false,true,false,false,false,false,false,false,false,false,false,false,false,false,false,false,false,false,false,false,false,false,false,false,false,false] (fun i=>[(17,.int .i64 i.1)]) (fun i=>[.row (ZhW w i.1) 1 v]) (fun i=>4 - i.1) ⟨0,Nat.zero_le _⟩ ?_ ?_
 ·(rw [hL]; simp only [push_cast,Int.natCast_zero]; exact Z06.sameA)
 rintro⟨k,hk⟩
 have hc:k=0∨k=1∨k=2∨k=3∨k=4:=by omega
 rcases hc with rfl | rfl | rfl | rfl | rfl
 ·simp only [ZhW,Nat.lt_irrefl,Nat.not_lt_zero,Nat.reduceLT,if_true,if_false]
  ((first | with_reducible refine holds_of_ex X 400 _ _ _ ?_ | skip); simp (maxSteps:=1000000) only [push_cast,reduceCtorEq,Nat.reduceAdd,Nat.reduceMul,Nat.reduceSub,Nat.reduceBEq,Nat.reduceGT,Nat.reduceLT,Int.toNat_zero,Nat.reduceLeDiff,Int.reduceEq,Int.reduceLT,Int.reduceLE,hP,hΓ,hL,hfin,↓Z00,String.reduceEq,not_false_eq_true,if_true,↓c4,show ((0:Nat):Int)=0 from rfl,show IntKind.i64.wrap (8*0)=0 from rfl,show IntKind.i64.wrap (0+0)=0 from rfl,show IntKind.i64.wrap (0+1)=1 from rfl,show Int.toNat 0=0 from rfl,show (2:Int) ^ min (Int.toNat 0) IntKind.u32.bits=1 from rfl,show (2:Int) ^ min 0 IntKind.u32.bits=1 from rfl,Int.fdiv_one,Z7N])
  refine⟨⟨1,by omega⟩,by simp only; omega,?_⟩
  simp only [Nat.lt_irrefl,Nat.not_lt_zero,Nat.reduceLT,if_true,if_false,push_cast]
  exact Z06.sameA
 ·simp only [ZhW,Nat.lt_irrefl,Nat.not_lt_zero,Nat.reduceLT,if_true,if_false]
  ((first | with_reducible refine holds_of_ex X 400 _ _ _ ?_ | skip); simp (maxSteps:=1000000) only [push_cast,reduceCtorEq,Nat.reduceAdd,Nat.reduceMul,Nat.reduceSub,Nat.reduceBEq,Nat.reduceGT,Nat.reduceLT,Int.toNat_zero,Nat.reduceLeDiff,Int.reduceEq,Int.reduceLT,Int.reduceLE,hP,hΓ,hL,hfin,↓Z00,String.reduceEq,not_false_eq_true,if_true,↓c4,show ((1:Nat):Int)=1 from rfl,show IntKind.i64.wrap (8*1)=8 from rfl,show IntKind.i64.wrap (0+1)=1 from rfl,show IntKind.i64.wrap (1+1)=2 from rfl,show Int.toNat 1=1 from rfl,show (2:Int) ^ min (Int.toNat 8) IntKind.u32.bits=256 from rfl,show (2:Int) ^ min 0 IntKind.u32.bits=1 from rfl,Int.fdiv_one,Z7N])
  refine⟨⟨2,by omega⟩,by simp only; omega,?_⟩
  simp only [Nat.lt_irrefl,Nat.not_lt_zero,Nat.reduceLT,if_true,if_false,push_cast]
  exact Z06.sameA
 ·simp only [ZhW,Nat.lt_irrefl,Nat.not_lt_zero,Nat.reduceLT,if_true,if_false]
  ((first | with_reducible refine holds_of_ex X 400 _ _ _ ?_ | skip); simp (maxSteps:=1000000) only [push_cast,reduceCtorEq,Nat.reduceAdd,Nat.reduceMul,Nat.reduceSub,Nat.reduceBEq,Nat.reduceGT,Nat.reduceLT,Int.toNat_zero,Nat.reduceLeDiff,Int.reduceEq,Int.reduceLT,Int.reduceLE,hP,hΓ,hL,hfin,↓Z00,String.reduceEq,not_false_eq_true,if_true,↓c4,show ((2:Nat):Int)=2 from rfl,show IntKind.i64.wrap (8*2)=16 from rfl,show IntKind.i64.wrap (0+2)=2 from rfl,show IntKind.i64.wrap (2+1)=3 from rfl,show Int.toNat 2=2 from rfl,show (2:Int) ^ min (Int.toNat 16) IntKind.u32.bits=65536 from rfl,show (2:Int) ^ min 0 IntKind.u32.bits=1 from rfl,Int.fdiv_one,Z7N])
  refine⟨⟨3,by omega⟩,by simp only; omega,?_⟩
  simp only [Nat.lt_irrefl,Nat.not_lt_zero,Nat.reduceLT,if_true,if_false,push_cast]
  exact Z06.sameA
 ·simp only [ZhW,Nat.lt_irrefl,Nat.not_lt_zero,Nat.reduceLT,if_true,if_false]
  ((first | with_reducible refine holds_of_ex X 400 _ _ _ ?_ | skip); simp (maxSteps:=1000000) only [push_cast,reduceCtorEq,Nat.reduceAdd,Nat.reduceMul,Nat.reduceSub,Nat.reduceBEq,Nat.reduceGT,Nat.reduceLT,Int.toNat_zero,Nat.reduceLeDiff,Int.reduceEq,Int.reduceLT,Int.reduceLE,hP,hΓ,hL,hfin,↓Z00,String.reduceEq,not_false_eq_true,if_true,↓c4,show ((3:Nat):Int)=3 from rfl,show IntKind.i64.wrap (8*3)=24 from rfl,show IntKind.i64.wrap (0+3)=3 from rfl,show IntKind.i64.wrap (3+1)=4 from rfl,show Int.toNat 3=3 from rfl,show (2:Int) ^ min (Int.toNat 24) IntKind.u32.bits=16777216 from rfl,show (2:Int) ^ min 0 IntKind.u32.bits=1 from rfl,Int.fdiv_one,Z7N])
  refine⟨⟨4,by omega⟩,by simp only; omega,?_⟩
  simp only [Nat.lt_irrefl,Nat.not_lt_zero,Nat.reduceLT,if_true,if_false,push_cast]
  exact Z06.sameA
 ·simp only [ZhW,Nat.reduceLT,if_true]
  ((first | with_reducible refine holds_of_ex X 400 _ _ _ ?_ | skip); simp (maxSteps:=1000000) only [push_cast,reduceCtorEq,Nat.reduceAdd,Nat.reduceMul,Nat.reduceSub,Nat.reduceBEq,Nat.reduceGT,Nat.reduceLT,Int.toNat_zero,Nat.reduceLeDiff,Int.reduceEq,Int.reduceLT,Int.reduceLE,hP,hΓ,hL,hfin,↓Z00,String.reduceEq,not_false_eq_true,if_true,↓c4])
  rw [show (le4 w).map Z03=[.int .u8 ((by8 w).toNat:Int),.int .u8 ((by8 (w.fdiv 256)).toNat:Int),.int .u8 ((by8 (w.fdiv 65536)).toNat:Int),.int .u8 ((by8 (w.fdiv 16777216)).toNat:Int)] from rfl]
  exact Z06.sameA
theorem con50{Γ:Env}(h:Z07 Tryz.prog Γ):Con Tryz.prog 26 S50:=
 Zck h (fn:=Tryz.f26) (by kernel_rfl) rfl (by kernel_rfl) inj50 fun ⟨w,v⟩ h=>body50 Γ w v
theorem ti4:Int.toNat 4=4:=rfl
theorem rep4:(List.replicate 4 [AV.int IntKind.u8 0]).flatten=[.int .u8 0,.int .u8 0,.int .u8 0,.int .u8 0]:=rfl
def Zi5(b:Z04):Z04:=b++le4 (Z4Y b)
def e22:(Z04)×(Nat)→List AV:=fun (b,n)=>[.sl (b.map Z03) n]
def p22:(Z04)×(Nat)→Prop:=fun (b,n)=>n=b.length∧b.length≤100000000
def r22:(Z04)×(Nat)→AV:=fun (b,n)=>.sl ((Zi5 b).map Z03) (n+4)
def g22:(Z04)×(Nat)→Heap:=fun (b,n)=>[]
theorem inj22:∀a b,e22 a=e22 b→a=b:=by
 rintro⟨b,n⟩ ⟨b',n'⟩ h
 simp only [e22,Z0f,Z0h,Z0i,Z0g,Z0V,Z0u,List.cons.injEq,AV.int.injEq,AV.str.injEq,AV.bool.injEq,AV.sl.injEq,AV.agg.injEq,AV.ip.injEq,AV.fn.injEq,AV.ifc.injEq,AV.mpr.injEq,Int.natCast_inj,and_true,true_and] at h
 simp_all only
noncomputable def S22:Z0n:=Z2V e22 p22 r22 g22 false
theorem Zkk(b:(Z04))(n:(Nat)):Z1J e22 p22 [.sl (b.map Z03) n]=(n=b.length∧b.length≤100000000):=Z0j inj22 p22 (b,n)
theorem ZjW(b:(Z04))(n:(Nat)):Z10 e22 r22 .any [.sl (b.map Z03) n]=(.sl ((Zi5 b).map Z03) (n+4)):=Z08 inj22 r22 .any (b,n)
theorem ZkQ(b:(Z04))(n:(Nat)):Z10 e22 g22 [] [.sl (b.map Z03) n]=([]):=Z08 inj22 g22 [] (b,n)
attribute [push_cast] S22 Zkk ZjW ZkQ
theorem body22(Γ:Env)(h42:Γ 13=some S42)(h50:Γ 26=some S50)(b:Z04)(hb:b.length≤100000000):Z0a Tryz.prog Γ Tryz.f10 (e22 (b,b.length)) [] (.sl ((Zi5 b).map Z03) (b.length+4)) []:=by
 have hB:(objNumbersDone.BIG:Nat)=140737488355328:=rfl
 (intro X hP hΓ hL hfin; refine⟨_,rfl,?_⟩; rw [show Tryz.f10.ntmps=19 from rfl]; rw [show Tryz.f10.results.toList=[.tmp 2] from rfl] at hfin; apply holds_of_ex X 400; simp (maxSteps:=1000000) only [push_cast,reduceCtorEq,Nat.reduceAdd,Nat.reduceMul,Nat.reduceSub,Nat.reduceBEq,Nat.reduceGT,Nat.reduceLT,Int.toNat_zero,Nat.reduceLeDiff,Int.reduceEq,Int.reduceLT,Int.reduceLE,hP,hΓ,hL,hfin,↓Z00,String.reduceEq,not_false_eq_true,if_true,e22,h42,h50,↓c4,Z0c ((b.length:Int)+4) (by constructor <;> omega),↓ti4,↓rep4])
 have e4:List.take 4 ((le4 (Z4Y b)).map Z03)=(le4 (Z4Y b)).map Z03:=List.take_of_length_le (by rw [List.length_map]; exact Nat.le_refl 4)
 have el:(le4 (Z4Y b)).length=4:=rfl
 rw [e4]
 refine⟨by omega,by omega,by omega,by omega,⟨by simp only [push_cast],by omega⟩,?_⟩
 (refine Z0k.frz 1 (by simp only [push_cast,reduceCtorEq,Nat.reduceAdd,Nat.reduceMul,Nat.reduceSub,Nat.reduceBEq,Nat.reduceGT,Nat.reduceLT,Int.toNat_zero,Nat.reduceLeDiff,Int.reduceEq,Int.reduceLT,Int.reduceLE]; first | done | decide | omega) (by simp only [Z15,Z28,Z27,or_true,true_or,push_cast,reduceCtorEq,Nat.reduceAdd,Nat.reduceMul,Nat.reduceSub,Nat.reduceBEq,Nat.reduceGT,Nat.reduceLT,Int.toNat_zero,Nat.reduceLeDiff,Int.reduceEq,Int.reduceLT,Int.reduceLE]) ?_; simp only [push_cast,reduceCtorEq,Nat.reduceAdd,Nat.reduceMul,Nat.reduceSub,Nat.reduceBEq,Nat.reduceGT,Nat.reduceLT,Int.toNat_zero,Nat.reduceLeDiff,Int.reduceEq,Int.reduceLT,Int.reduceLE])
 rw [←List.map_append,show b++le4 (Z4Y b)=Zi5 b from rfl,List.take_of_length_le (by rw [List.length_map,Zi5,List.length_append,el]; omega)]
 exact Z06.keep0A
theorem con22{Γ:Env}(h:Z07 Tryz.prog Γ)(h42:Γ 13=some S42)(h50:Γ 26=some S50):Con Tryz.prog 10 S22:=
 Z0t h (fn:=Tryz.f10) (by kernel_rfl) rfl (by kernel_rfl) inj22 (by first | (intro h; cases h; done) | exact fun _ _=>rfl) fun ⟨b,n⟩ h=>by obtain⟨rfl,h⟩:=h; exact body22 Γ h42 h50 b h
end Go.Proofs.YtmomhjmaanagaaaGreat.objDone