/- Of objects: the bytes that the program lays. Conditions stand in each. -/
import Derived.Test.YtmomhjmaanagaaaGreatOV
set_option linter.unusedVariables false
set_option linter.unusedSimpArgs false
set_option maxRecDepth 100000
set_option maxHeartbeats 4000000
namespace Go.Proofs.YtmomhjmaanagaaaGreat.objDone
open Go Go.Eng Go.Proofs
open Go.Proofs.YtmomhjmaanagaaaGreat.objNumbersDone (enc hi7 lo7 q7 Z2X m32 BIG Z7L)
inductive A33 where
 | p (xs:List Int) (o:Ob)
 | i (xs:List Int)
def e33:A33→List AV
 | .p xs o=>[.sl (xs.map (.int .i64)) xs.length,.fn (.func 61) [] [.ip o.c]]
 | .i xs=>[.sl (xs.map (.int .i64)) xs.length,.fn (.func 62) [] []]
def p33(n:Nat):A33→Prop
 | .p xs o=>n+5+(xs.length+1)*1048600≤BIG∧xs.length≤o.names.length∧xs.length≤o.exps.length∧o.ok
 | .i xs=>n+5+(xs.length+1)*5≤BIG∧xs.length≤SM
def Z5a(xs:List Int):Z04:=num xs.length++Z1H (fun _ t=>num t) xs xs.length
def Z8p(o:Ob)(xs:List Int):Z04:=num xs.length++Z1H (Z6e o) xs xs.length
def k33:A33→Z04
 | .p xs o=>Z8p o xs
 | .i xs=>Z5a xs
theorem inj33:∀a b,e33 a=e33 b→a=b:=by
 intro a b h
 cases a <;> cases b <;> simp only [e33,Z0f,Z0z,List.cons.injEq,AV.sl.injEq,AV.fn.injEq,Fn.func.injEq,AV.ip.injEq,and_true,true_and,reduceCtorEq,false_and,and_false,Nat.reduceEqDiff] at h <;> simp_all only
noncomputable def S33:Z0n:=Z6B e33 p33 k33
theorem Zkh(n:Nat)(xs:List Int)(o:Ob):Z1J e33 (p33 n) [.sl (xs.map (.int .i64)) xs.length,.fn (.func 61) [] [.ip o.c]]=p33 n (.p xs o):=Z0j inj33 (p33 n) (.p xs o)
theorem Zki(n:Nat)(xs:List Int):Z1J e33 (p33 n) [.sl (xs.map (.int .i64)) xs.length,.fn (.func 62) [] []]=p33 n (.i xs):=Z0j inj33 (p33 n) (.i xs)
theorem ks33p(xs:List Int)(o:Ob):Z10 e33 k33 [] [.sl (xs.map (.int .i64)) xs.length,.fn (.func 61) [] [.ip o.c]]=Z8p o xs:=Z08 inj33 k33 [] (.p xs o)
theorem ks33i(xs:List Int):Z10 e33 k33 [] [.sl (xs.map (.int .i64)) xs.length,.fn (.func 62) [] []]=Z5a xs:=Z08 inj33 k33 [] (.i xs)
attribute [push_cast] S33 Zkh Zki ks33p ks33i p33
theorem Z7F{o:Ob}(ho:o.ok)(i:Nat)(x:Int)(h:i<o.names.length):(Z6e o i x).length≤1048600:=by
 have h1:=Z0q x
 have h2:=Z2a (o.names.getD i default)
 have h3:=ho.nam (o.names.getD i default) (by simp [List.getD,h])
 have hSM:SM=1048576:=rfl
 simp only [Z6e,List.length_append,List.length_cons,List.length_nil]; omega
theorem con33{Γ:Env}(h:Z07 Tryz.prog Γ)(h23:Γ 27=some S23)(h34:Γ 61=some S34)(h35:Γ 62=some S35):Con Tryz.prog 60 S33:=
 Z1f h (fn:=Tryz.f60) (by kernel_rfl) rfl (by kernel_rfl) inj33 fun a l v ha=>by
  have hSM:SM=1048576:=rfl
  cases a with
  | p xs o=>
   obtain⟨h1,h2,h3,ho⟩:=ha
   have hn:=ho.names
   refine Za3 Γ h23 o _ _ _ h34 xs (Z6e o) 1048600 (fun i n hi hb=>?_) (fun i hi=>?_) (fun i hi=>Z7F ho i _ (by omega)) (by omega) l v h1
   ·rw [ps34]; exact⟨by omega,by omega,by omega,ho⟩
   ·exact ks34 _ _ _
  | i xs=>
   refine Zba Γ h23 _ _ _ h35 xs (fun _ t=>num t) 5 (fun i n hi hb=>?_) (fun i hi=>?_) (fun i hi=>Z0q _) ha.2 l v ha.1
   ·rw [ps35]; exact hb
   ·exact ks35 _ _
def Z8q(x:Im):Z04:=txt x.name++le4 x.key
def Z99(d:Ds):Z04:=num d.ty++(num d.size++Z5a d.tags)
def Z5s(x:Fx):Z04:=num x.at_++([by8 x.kind]++(num (x.m+1)++num x.n))
theorem Z47(xs:List Int):(Z5a xs).length≤5+xs.length*5:=by
 have h1:=Z0q xs.length
 have h2:=Z0Y (fun _ t=>num t) xs 5 xs.length fun i hi=>Z0q _
 simp only [Z5a,List.length_append]; omega
def e39:(Int)×(Ds)→List AV:=fun (i,d)=>[.int .i64 i,.agg d.c]
def p39:Nat→(Int)×(Ds)→Prop:=fun n (i,d)=>n+5242900≤BIG∧d.tags.length≤SM
def k39:(Int)×(Ds)→List UInt8:=fun (i,d)=>Z99 d
theorem inj39:∀a b,e39 a=e39 b→a=b:=by
 rintro⟨i,d⟩ ⟨i',d'⟩ h
 simp only [e39,Z0f,Z0h,Z0i,Z0g,Z0u,Z0F,Z0E,Z0z,Z0G,Z0D,Z0C,Z0J,List.cons.injEq,AV.int.injEq,AV.str.injEq,AV.bool.injEq,AV.sl.injEq,AV.agg.injEq,AV.ip.injEq,AV.fn.injEq,AV.ifc.injEq,AV.mpr.injEq,Int.natCast_inj,and_true,true_and] at h
 simp_all only
noncomputable def S39:Z0n:=Z6B e39 p39 k39
theorem ps39(n:Nat)(i:(Int))(d:(Ds)):Z1J e39 (p39 n) [.int .i64 i,.agg d.c]=(n+5242900≤BIG∧d.tags.length≤SM):=Z0j inj39 (p39 n) (i,d)
theorem ks39(i:(Int))(d:(Ds)):Z10 e39 k39 [] [.int .i64 i,.agg d.c]=(Z99 d):=Z08 inj39 k39 [] (i,d)
attribute [push_cast] S39 ps39 ks39
theorem body39(Γ:Env)(h33:Γ 60=some S33)(h35:Γ 62=some S35)(l:List UInt8)(v:Nat)(i:Int)(d:Ds)(hl:l.length+5242900≤BIG)(ht:d.tags.length≤SM):Z0a Tryz.prog Γ Tryz.f66 (.msl 0 v 0 l.length::e39 (i,d)) [.row (l.map Z03) 1 v] (.msl 0 (v+1) 0 (l++k39 (i,d)).length) [.row ((l++k39 (i,d)).map Z03) 1 (v+1)]:=by
 have hB:(BIG:Nat)=140737488355328:=rfl
 have hSM:SM=1048576:=rfl
 have h1:=Z0q d.ty; have h2:=Z0q d.size
 (intro X hP hΓ hL hfin; refine⟨_,rfl,?_⟩; rw [show Tryz.f66.ntmps=17 from rfl]; rw [show Tryz.f66.results.toList=[.tmp 6] from rfl] at hfin; apply holds_of_ex X 400; simp (maxSteps:=1000000) only [push_cast,reduceCtorEq,Nat.reduceAdd,Nat.reduceMul,Nat.reduceSub,Nat.reduceBEq,Nat.reduceGT,Nat.reduceLT,Int.toNat_zero,Nat.reduceLeDiff,Int.reduceEq,Int.reduceLT,Int.reduceLE,hP,hΓ,hL,hfin,↓Z00,e39])
 (refine Holds.drawn (Zhb [.row d.c 3 0]) [3,6,9] (by rw [hP]; kernel_rfl) (by kernel_rfl) (by kernel_rfl) (by first | exact⟨_,[],rfl⟩ | exact⟨_,_,rfl⟩ | (simp only [push_cast]; done) | exact⟨[],by simp⟩) ?_; simp (maxSteps:=1000000) only [↓reduceIte,Option.getD_some,push_cast,reduceCtorEq,Nat.reduceAdd,Nat.reduceMul,Nat.reduceSub,Nat.reduceBEq,Nat.reduceGT,Nat.reduceLT,Int.toNat_zero,Nat.reduceLeDiff,Int.reduceEq,Int.reduceLT,Int.reduceLE,hP,hΓ,hL,hfin,↓Z00,h33,h35])
 refine⟨⟨own_row l,by omega⟩,⟨Z17 (l++num d.ty) (by simp) (by simp),by omega⟩,⟨Z17 (l++(num d.ty++num d.size)) (by simp) (by simp; omega),by omega,ht⟩,?_⟩
 ((first | with_reducible refine holds_of_ex X 400 _ _ _ ?_ | skip); simp (maxSteps:=1000000) only [push_cast,reduceCtorEq,Nat.reduceAdd,Nat.reduceMul,Nat.reduceSub,Nat.reduceBEq,Nat.reduceGT,Nat.reduceLT,Int.toNat_zero,Nat.reduceLeDiff,Int.reduceEq,Int.reduceLT,Int.reduceLE,hP,hΓ,hL,hfin,↓Z00])
 exact Z06.app (by simp [k39,Z99]) (by simp [k39,Z99,Nat.add_assoc]) (by omega)
theorem con39{Γ:Env}(h:Z07 Tryz.prog Γ)(h33:Γ 60=some S33)(h35:Γ 62=some S35):Con Tryz.prog 66 S39:=
 Z1f h (fn:=Tryz.f66) (by kernel_rfl) rfl (by kernel_rfl) inj39 fun ⟨i,d⟩ l v h=>body39 Γ h33 h35 l v i d h.1 h.2
def e41:(Int)×(Fx)→List AV:=fun (i,x)=>[.int .i64 i,.agg x.c]
def p41:Nat→(Int)×(Fx)→Prop:=fun n (i,x)=>n+16≤BIG∧x.m≤1000000000∧-1000000000≤x.m
def k41:(Int)×(Fx)→List UInt8:=fun (i,x)=>Z5s x
theorem inj41:∀a b,e41 a=e41 b→a=b:=by
 rintro⟨i,x⟩ ⟨i',x'⟩ h
 simp only [e41,Z0f,Z0h,Z0i,Z0g,Z0u,Z0F,Z0E,Z0z,Z0G,Z0D,Z0C,Z0J,List.cons.injEq,AV.int.injEq,AV.str.injEq,AV.bool.injEq,AV.sl.injEq,AV.agg.injEq,AV.ip.injEq,AV.fn.injEq,AV.ifc.injEq,AV.mpr.injEq,Int.natCast_inj,and_true,true_and] at h
 simp_all only
noncomputable def S41:Z0n:=Z6B e41 p41 k41
theorem ps41(n:Nat)(i:(Int))(x:(Fx)):Z1J e41 (p41 n) [.int .i64 i,.agg x.c]=(n+16≤BIG∧x.m≤1000000000∧-1000000000≤x.m):=Z0j inj41 (p41 n) (i,x)
theorem ks41(i:(Int))(x:(Fx)):Z10 e41 k41 [] [.int .i64 i,.agg x.c]=(Z5s x):=Z08 inj41 k41 [] (i,x)
attribute [push_cast] S41 ps41 ks41
theorem body41(Γ:Env)(h35:Γ 62=some S35)(l:List UInt8)(v:Nat)(i:Int)(x:Fx)(hl:l.length+16≤BIG)(hm:x.m≤1000000000∧-1000000000≤x.m):Z0a Tryz.prog Γ Tryz.f68 (.msl 0 v 0 l.length::e41 (i,x)) [.row (l.map Z03) 1 v] (.msl 0 (v+1) 0 (l++k41 (i,x)).length) [.row ((l++k41 (i,x)).map Z03) 1 (v+1)]:=by
 have hB:(BIG:Nat)=140737488355328:=rfl
 have h1:=Z0q x.at_; have h2:=Z0q (x.m+1)
 (intro X hP hΓ hL hfin; refine⟨_,rfl,?_⟩; rw [show Tryz.f68.ntmps=24 from rfl]; rw [show Tryz.f68.results.toList=[.tmp 6] from rfl] at hfin; apply holds_of_ex X 400; simp (maxSteps:=1000000) only [push_cast,reduceCtorEq,Nat.reduceAdd,Nat.reduceMul,Nat.reduceSub,Nat.reduceBEq,Nat.reduceGT,Nat.reduceLT,Int.toNat_zero,Nat.reduceLeDiff,Int.reduceEq,Int.reduceLT,Int.reduceLE,hP,hΓ,hL,hfin,↓Z00,e41])
 (refine Holds.drawn (Zhb [.row x.c 4 0]) [3,8] (by rw [hP]; kernel_rfl) (by kernel_rfl) (by kernel_rfl) (by first | exact⟨_,[],rfl⟩ | exact⟨_,_,rfl⟩ | (simp only [push_cast]; done) | exact⟨[],by simp⟩) ?_; simp (maxSteps:=1000000) only [↓reduceIte,Option.getD_some,push_cast,reduceCtorEq,Nat.reduceAdd,Nat.reduceMul,Nat.reduceSub,Nat.reduceBEq,Nat.reduceGT,Nat.reduceLT,Int.toNat_zero,Nat.reduceLeDiff,Int.reduceEq,Int.reduceLT,Int.reduceLE,hP,hΓ,hL,hfin,↓Z00,h35,Z7N])
 refine⟨⟨own_row l,by omega⟩,by omega,?_⟩
 have eb:List.map Z03 l++List.map Z03 (num x.at_)++[AV.int .u8 ((by8 x.kind).toNat:Int)]=(l++(num x.at_++[by8 x.kind])).map Z03:=by simp [Z03]
 have en:l.length+(num x.at_).length+1=(l++(num x.at_++[by8 x.kind])).length:=by simp; omega
 rw [eb,en]
 generalize hq:l++(num x.at_++[by8 x.kind])=q
 have hql:q.length≤l.length+6:=by rw [←hq]; simp; omega
 have hk:l++k41 (i,x)=q++(num (x.m+1)++num x.n):=by rw [←hq]; simp [k41,Z5s]
 rw [hk] at hfin
 ((first | with_reducible refine holds_of_ex X 400 _ _ _ ?_ | skip); simp (maxSteps:=1000000) only [push_cast,reduceCtorEq,Nat.reduceAdd,Nat.reduceMul,Nat.reduceSub,Nat.reduceBEq,Nat.reduceGT,Nat.reduceLT,Int.toNat_zero,Nat.reduceLeDiff,Int.reduceEq,Int.reduceLT,Int.reduceLE,hP,hΓ,hL,hfin,↓Z00])
 (refine Holds.drawn (Zhb [.row x.c 4 0]) [4,7] (by rw [hP]; kernel_rfl) (by kernel_rfl) (by kernel_rfl) (by first | exact⟨_,[],rfl⟩ | exact⟨_,_,rfl⟩ | (simp only [push_cast]; done) | exact⟨[],by simp⟩) ?_; simp (maxSteps:=1000000) only [↓reduceIte,Option.getD_some,push_cast,reduceCtorEq,Nat.reduceAdd,Nat.reduceMul,Nat.reduceSub,Nat.reduceBEq,Nat.reduceGT,Nat.reduceLT,Int.toNat_zero,Nat.reduceLeDiff,Int.reduceEq,Int.reduceLT,Int.reduceLE,hP,hΓ,hL,hfin,↓Z00,h35,Z0c (x.m+1) (by constructor <;> omega)])
 refine⟨⟨own_row q,by omega⟩,⟨Z17 (q++num (x.m+1)) (by simp) (by simp),by omega⟩,?_⟩
 ((first | with_reducible refine holds_of_ex X 400 _ _ _ ?_ | skip); simp (maxSteps:=1000000) only [push_cast,reduceCtorEq,Nat.reduceAdd,Nat.reduceMul,Nat.reduceSub,Nat.reduceBEq,Nat.reduceGT,Nat.reduceLT,Int.toNat_zero,Nat.reduceLeDiff,Int.reduceEq,Int.reduceLT,Int.reduceLE,hP,hΓ,hL,hfin,↓Z00])
 have e2:List.map Z03 q++List.map Z03 (num (x.m+1))++List.map Z03 (num x.n)=(q++(num (x.m+1)++num x.n)).map Z03:=by simp
 have e3:q.length+(num (x.m+1)).length+(num x.n).length=(q++(num (x.m+1)++num x.n)).length:=by simp; omega
 rw [e2,e3]
 (refine Z0k.ver 0  (v+1) (by simp only [push_cast,reduceCtorEq,Nat.reduceAdd,Nat.reduceMul,Nat.reduceSub,Nat.reduceBEq,Nat.reduceGT,Nat.reduceLT,Int.toNat_zero,Nat.reduceLeDiff,Int.reduceEq,Int.reduceLT,Int.reduceLE]) (by first | exact .inr (Nat.zero_le _) | (left; simp only [push_cast,reduceCtorEq,Nat.reduceAdd,Nat.reduceMul,Nat.reduceSub,Nat.reduceBEq,Nat.reduceGT,Nat.reduceLT,Int.toNat_zero,Nat.reduceLeDiff,Int.reduceEq,Int.reduceLT,Int.reduceLE]; first | done | omega) | (right; simp only [push_cast,reduceCtorEq,Nat.reduceAdd,Nat.reduceMul,Nat.reduceSub,Nat.reduceBEq,Nat.reduceGT,Nat.reduceLT,Int.toNat_zero,Nat.reduceLeDiff,Int.reduceEq,Int.reduceLT,Int.reduceLE]; first | done | omega)) ?_; simp only [push_cast,reduceCtorEq,Nat.reduceAdd,Nat.reduceMul,Nat.reduceSub,Nat.reduceBEq,Nat.reduceGT,Nat.reduceLT,Int.toNat_zero,Nat.reduceLeDiff,Int.reduceEq,Int.reduceLT,Int.reduceLE])
 exact Z06.keep1A
theorem con41{Γ:Env}(h:Z07 Tryz.prog Γ)(h35:Γ 62=some S35):Con Tryz.prog 68 S41:=
 Z1f h (fn:=Tryz.f68) (by kernel_rfl) rfl (by kernel_rfl) inj41 fun ⟨i,x⟩ l v h=>body41 Γ h35 l v i x h.1 h.2
def rI(xs:List Im):Z04:=num xs.length++Z1H (fun _ x=>Z8q x) xs xs.length
def rW(xs:List Int):Z04:=num xs.length++Z1H (fun _ x=>le4 x) xs xs.length
def rS(xs:List Z04):Z04:=num xs.length++Z1H (fun _ x=>txt x) xs xs.length
def rD(xs:List Ds):Z04:=num xs.length++Z1H (fun _ x=>Z99 x) xs xs.length
def rF(xs:List Fx):Z04:=num xs.length++Z1H (fun _ x=>Z5s x) xs xs.length
def e29:(List Im)→List AV:=fun xs=>[.sl (xs.flatMap Im.c) xs.length,.fn (.func 57) [] []]
def p29:Nat→(List Im)→Prop:=fun n xs=>n+5+(xs.length+1)*1048600≤BIG∧xs.length≤SM∧(∀x∈xs,x.name.length≤SM)
def k29:(List Im)→List UInt8:=fun xs=>rI xs
theorem inj29:∀a b,e29 a=e29 b→a=b:=by
 rintro xs xs' h
 simp only [e29,Z0f,Z0h,Z0i,Z0g,Z0u,Z0F,Z0E,Z0z,Z0G,Z0D,Z0C,Z0J,List.cons.injEq,AV.int.injEq,AV.str.injEq,AV.bool.injEq,AV.sl.injEq,AV.agg.injEq,AV.ip.injEq,AV.fn.injEq,AV.ifc.injEq,AV.mpr.injEq,Int.natCast_inj,and_true,true_and] at h
 simp_all only
noncomputable def S29:Z0n:=Z6B e29 p29 k29
theorem ps29(n:Nat)(xs:(List Im)):Z1J e29 (p29 n) [.sl (xs.flatMap Im.c) xs.length,.fn (.func 57) [] []]=(n+5+(xs.length+1)*1048600≤BIG∧xs.length≤SM∧(∀x∈xs,x.name.length≤SM)):=Z0j inj29 (p29 n) xs
theorem ks29(xs:(List Im)):Z10 e29 k29 [] [.sl (xs.flatMap Im.c) xs.length,.fn (.func 57) [] []]=(rI xs):=Z08 inj29 k29 [] xs
attribute [push_cast] S29 ps29 ks29
theorem con29{Γ:Env}(h:Z07 Tryz.prog Γ)(h23:Γ 27=some S23)(h30:Γ 57=some S30):Con Tryz.prog 56 S29:=
 Z1f h (fn:=Tryz.f56) (by kernel_rfl) rfl (by kernel_rfl) inj29 fun xs l v ha=>by
  have hSM:SM=1048576:=rfl
  obtain⟨h1,h2,hx⟩:=ha
  refine Zb9 Γ h23 _ _ _ h30 xs (fun _ x=>Z8q x) 1048600 (fun i n hi hb=>?_) (fun i hi=>?_) (fun i hi=>?_) h2 l v h1
  ·rw [ps30]; exact by have:=hx _ (at_mem hi); omega
  ·exact ks30 _ _
  ·exact by have:=hx _ (at_mem hi); have:=Z2a (xs.getD i default).name; simp only [Z8q,le4,List.length_append,List.length_cons,List.length_nil]; omega
def e31:(List Int)→List AV:=fun xs=>[.sl (xs.map (.int .u32)) xs.length,.fn (.func 59) [] []]
def p31:Nat→(List Int)→Prop:=fun n xs=>n+5+(xs.length+1)*4≤BIG∧xs.length≤SM∧(True)
def k31:(List Int)→List UInt8:=fun xs=>rW xs
theorem inj31:∀a b,e31 a=e31 b→a=b:=by
 rintro xs xs' h
 simp only [e31,Z0f,Z0h,Z0i,Z0g,Z0u,Z0F,Z0E,Z0z,Z0G,Z0D,Z0C,Z0J,List.cons.injEq,AV.int.injEq,AV.str.injEq,AV.bool.injEq,AV.sl.injEq,AV.agg.injEq,AV.ip.injEq,AV.fn.injEq,AV.ifc.injEq,AV.mpr.injEq,Int.natCast_inj,and_true,true_and] at h
 simp_all only
noncomputable def S31:Z0n:=Z6B e31 p31 k31
theorem ps31(n:Nat)(xs:(List Int)):Z1J e31 (p31 n) [.sl (xs.map (.int .u32)) xs.length,.fn (.func 59) [] []]=(n+5+(xs.length+1)*4≤BIG∧xs.length≤SM∧(True)):=Z0j inj31 (p31 n) xs
theorem ks31(xs:(List Int)):Z10 e31 k31 [] [.sl (xs.map (.int .u32)) xs.length,.fn (.func 59) [] []]=(rW xs):=Z08 inj31 k31 [] xs
attribute [push_cast] S31 ps31 ks31
theorem con31{Γ:Env}(h:Z07 Tryz.prog Γ)(h23:Γ 27=some S23)(h32:Γ 59=some S32):Con Tryz.prog 58 S31:=
 Z1f h (fn:=Tryz.f58) (by kernel_rfl) rfl (by kernel_rfl) inj31 fun xs l v ha=>by
  have hSM:SM=1048576:=rfl
  obtain⟨h1,h2,hx⟩:=ha
  refine Zb7 Γ h23 _ _ _ h32 xs (fun _ x=>le4 x) 4 (fun i n hi hb=>?_) (fun i hi=>?_) (fun i hi=>?_) h2 l v h1
  ·rw [ps32]; exact hb
  ·exact ks32 _ _
  ·exact by simp [le4]
def e36:(List Z04)→List AV:=fun xs=>[.sl (xs.map .str) xs.length,.fn (.func 64) [] []]
def p36:Nat→(List Z04)→Prop:=fun n xs=>n+5+(xs.length+1)*1048600≤BIG∧xs.length≤SM∧(∀x∈xs,x.length≤SM)
def k36:(List Z04)→List UInt8:=fun xs=>rS xs
theorem inj36:∀a b,e36 a=e36 b→a=b:=by
 rintro xs xs' h
 simp only [e36,Z0f,Z0h,Z0i,Z0g,Z0u,Z0F,Z0E,Z0z,Z0G,Z0D,Z0C,Z0J,List.cons.injEq,AV.int.injEq,AV.str.injEq,AV.bool.injEq,AV.sl.injEq,AV.agg.injEq,AV.ip.injEq,AV.fn.injEq,AV.ifc.injEq,AV.mpr.injEq,Int.natCast_inj,and_true,true_and] at h
 simp_all only
noncomputable def S36:Z0n:=Z6B e36 p36 k36
theorem ps36(n:Nat)(xs:(List Z04)):Z1J e36 (p36 n) [.sl (xs.map .str) xs.length,.fn (.func 64) [] []]=(n+5+(xs.length+1)*1048600≤BIG∧xs.length≤SM∧(∀x∈xs,x.length≤SM)):=Z0j inj36 (p36 n) xs
theorem ks36(xs:(List Z04)):Z10 e36 k36 [] [.sl (xs.map .str) xs.length,.fn (.func 64) [] []]=(rS xs):=Z08 inj36 k36 [] xs
attribute [push_cast] S36 ps36 ks36
theorem con36{Γ:Env}(h:Z07 Tryz.prog Γ)(h23:Γ 27=some S23)(h37:Γ 64=some S37):Con Tryz.prog 63 S36:=
 Z1f h (fn:=Tryz.f63) (by kernel_rfl) rfl (by kernel_rfl) inj36 fun xs l v ha=>by
  have hSM:SM=1048576:=rfl
  obtain⟨h1,h2,hx⟩:=ha
  refine Zb8 Γ h23 _ _ _ h37 xs (fun _ x=>txt x) 1048600 (fun i n hi hb=>?_) (fun i hi=>?_) (fun i hi=>?_) h2 l v h1
  ·rw [ps37]; exact by have:=hx _ (at_mem hi); omega
  ·exact ks37 _ _
  ·exact by have:=hx _ (at_mem hi); have:=Z2a (xs.getD i default); omega
def e38:(List Ds)→List AV:=fun xs=>[.sl (xs.flatMap Ds.c) xs.length,.fn (.func 66) [] []]
def p38:Nat→(List Ds)→Prop:=fun n xs=>n+5+(xs.length+1)*5242900≤BIG∧xs.length≤SM∧(∀x∈xs,x.tags.length≤SM)
def k38:(List Ds)→List UInt8:=fun xs=>rD xs
theorem inj38:∀a b,e38 a=e38 b→a=b:=by
 rintro xs xs' h
 simp only [e38,Z0f,Z0h,Z0i,Z0g,Z0u,Z0F,Z0E,Z0z,Z0G,Z0D,Z0C,Z0J,List.cons.injEq,AV.int.injEq,AV.str.injEq,AV.bool.injEq,AV.sl.injEq,AV.agg.injEq,AV.ip.injEq,AV.fn.injEq,AV.ifc.injEq,AV.mpr.injEq,Int.natCast_inj,and_true,true_and] at h
 simp_all only
noncomputable def S38:Z0n:=Z6B e38 p38 k38
theorem ps38(n:Nat)(xs:(List Ds)):Z1J e38 (p38 n) [.sl (xs.flatMap Ds.c) xs.length,.fn (.func 66) [] []]=(n+5+(xs.length+1)*5242900≤BIG∧xs.length≤SM∧(∀x∈xs,x.tags.length≤SM)):=Z0j inj38 (p38 n) xs
theorem ks38(xs:(List Ds)):Z10 e38 k38 [] [.sl (xs.flatMap Ds.c) xs.length,.fn (.func 66) [] []]=(rD xs):=Z08 inj38 k38 [] xs
attribute [push_cast] S38 ps38 ks38
theorem con38{Γ:Env}(h:Z07 Tryz.prog Γ)(h23:Γ 27=some S23)(h39:Γ 66=some S39):Con Tryz.prog 65 S38:=
 Z1f h (fn:=Tryz.f65) (by kernel_rfl) rfl (by kernel_rfl) inj38 fun xs l v ha=>by
  have hSM:SM=1048576:=rfl
  obtain⟨h1,h2,hx⟩:=ha
  refine Zbc Γ h23 _ _ _ h39 xs (fun _ x=>Z99 x) 5242900 (fun i n hi hb=>?_) (fun i hi=>?_) (fun i hi=>?_) h2 l v h1
  ·rw [ps39]; exact⟨hb,hx _ (at_mem hi)⟩
  ·exact ks39 _ _
  ·exact by have:=hx _ (at_mem hi); have:=Z47 (xs.getD i default).tags; have:=Z0q (xs.getD i default).ty; have:=Z0q (xs.getD i default).size; simp only [Z99,List.length_append]; omega
def e40:(List Fx)→List AV:=fun xs=>[.sl (xs.flatMap Fx.c) xs.length,.fn (.func 68) [] []]
def p40:Nat→(List Fx)→Prop:=fun n xs=>n+5+(xs.length+1)*16≤BIG∧xs.length≤SM∧(∀x∈xs,x.m≤1000000000∧-1000000000≤x.m)
def k40:(List Fx)→List UInt8:=fun xs=>rF xs
theorem inj40:∀a b,e40 a=e40 b→a=b:=by
 rintro xs xs' h
 simp only [e40,Z0f,Z0h,Z0i,Z0g,Z0u,Z0F,Z0E,Z0z,Z0G,Z0D,Z0C,Z0J,List.cons.injEq,AV.int.injEq,AV.str.injEq,AV.bool.injEq,AV.sl.injEq,AV.agg.injEq,AV.ip.injEq,AV.fn.injEq,AV.ifc.injEq,AV.mpr.injEq,Int.natCast_inj,and_true,true_and] at h
 simp_all only
noncomputable def S40:Z0n:=Z6B e40 p40 k40
theorem ps40(n:Nat)(xs:(List Fx)):Z1J e40 (p40 n) [.sl (xs.flatMap Fx.c) xs.length,.fn (.func 68) [] []]=(n+5+(xs.length+1)*16≤BIG∧xs.length≤SM∧(∀x∈xs,x.m≤1000000000∧-1000000000≤x.m)):=Z0j inj40 (p40 n) xs
theorem ks40(xs:(List Fx)):Z10 e40 k40 [] [.sl (xs.flatMap Fx.c) xs.length,.fn (.func 68) [] []]=(rF xs):=Z08 inj40 k40 [] xs
attribute [push_cast] S40 ps40 ks40
theorem con40{Γ:Env}(h:Z07 Tryz.prog Γ)(h23:Γ 27=some S23)(h41:Γ 68=some S41):Con Tryz.prog 67 S40:=
 Z1f h (fn:=Tryz.f67) (by kernel_rfl) rfl (by kernel_rfl) inj40 fun xs l v ha=>by
  have hSM:SM=1048576:=rfl
  obtain⟨h1,h2,hx⟩:=ha
  refine Zbb Γ h23 _ _ _ h41 xs (fun _ x=>Z5s x) 16 (fun i n hi hb=>?_) (fun i hi=>?_) (fun i hi=>?_) h2 l v h1
  ·rw [ps41]; exact⟨hb,hx _ (at_mem hi)⟩
  ·exact ks41 _ _
  ·exact by have:=Z0q (xs.getD i default).at_; have:=Z0q ((xs.getD i default).m+1); have:=Z0q (xs.getD i default).n; simp only [Z5s,List.length_append,List.length_cons,List.length_nil]; omega
end Go.Proofs.YtmomhjmaanagaaaGreat.objDone