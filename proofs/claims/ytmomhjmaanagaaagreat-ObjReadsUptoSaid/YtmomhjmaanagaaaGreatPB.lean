/- Of objects: which the document takes for right, but for their bytes. Conditions stand in each. -/
import Derived.Test.YtmomhjmaanagaaaGreatPA
set_option linter.unusedVariables false
set_option linter.unusedSimpArgs false
set_option maxRecDepth 100000
set_option maxHeartbeats 4000000
namespace Go.Proofs.YtmomhjmaanagaaaGreat.objDone
open Go Go.Eng Go.Proofs
def fH(ds:List Ds)(t:Int):Option Int:=if ZaI ds t then some 1 else none
theorem Zcq(ds:List Ds)(t:Int):decide (0<(fH ds t).getD 0)=ZaI ds t:=by unfold fH; cases ZaI ds t <;> rfl
def e69:(Ob)×(Fx)→List AV:=fun (o,x)=>[.agg o.c,.agg x.c]
def p69:(Ob)×(Fx)→Prop:=fun (o,x)=>o.ok
def r69:(Ob)×(Fx)→AV:=fun (o,x)=>.bool (Z7B o (fH o.descs) x)
def g69:(Ob)×(Fx)→Heap:=fun (o,x)=>[]
theorem inj69:∀a b,e69 a=e69 b→a=b:=by
 rintro⟨o,x⟩ ⟨o',x'⟩ h
 simp only [e69,Z0f,Z0h,Z0i,Z0g,Z0u,Z0F,Z0E,Z0z,Z0G,Z0D,Z0C,Z0J,List.cons.injEq,AV.int.injEq,AV.str.injEq,AV.bool.injEq,AV.sl.injEq,AV.agg.injEq,AV.ip.injEq,AV.fn.injEq,AV.ifc.injEq,AV.mpr.injEq,Int.natCast_inj,and_true,true_and] at h
 simp_all only
noncomputable def S69:Z0n:=Z2V e69 p69 r69 g69 true
theorem ps69(o:(Ob))(x:(Fx)):Z1J e69 p69 [.agg o.c,.agg x.c]=(o.ok):=Z0j inj69 p69 (o,x)
theorem rs69(o:(Ob))(x:(Fx)):Z10 e69 r69 .any [.agg o.c,.agg x.c]=(.bool (Z7B o (fH o.descs) x)):=Z08 inj69 r69 .any (o,x)
theorem hs69(o:(Ob))(x:(Fx)):Z10 e69 g69 [] [.agg o.c,.agg x.c]=([]):=Z08 inj69 g69 [] (o,x)
attribute [push_cast] S69 ps69 rs69 hs69
theorem body69(Γ:Env)(h98:Γ 101=some S98)(o:Ob)(x:Fx)(ho:o.ok):Z0a Tryz.prog Γ Tryz.f90 (e69 (o,x)) [] (.bool (Z7B o (fH o.descs) x)) []:=by
 have hSM:SM=1048576:=rfl
 have h1:=ho.code; have h2:=ho.imps; have h3:=ho.procs; have h4:=ho.vars; have h5:=ho.strs; have h6:=ho.descs
 have hz:=Zcq o.descs x.n
 have w1:IntKind.i64.wrap ((o.code.length:Int) - 1)=(o.code.length:Int) - 1:=Z0c ((o.code.length:Int) - 1) (by constructor <;> omega)
 have w2:IntKind.i64.wrap ((o.code.length:Int) - 1 - 1)=(o.code.length:Int) - 1 - 1:=Z0c ((o.code.length:Int) - 1 - 1) (by constructor <;> omega)
 (intro X hP hΓ hL hfin; refine⟨_,rfl,?_⟩; rw [show Tryz.f90.ntmps=99 from rfl]; rw [show Tryz.f90.results.toList=[.tmp 4] from rfl] at hfin; apply holds_of_ex X 400; simp (maxSteps:=1000000) only [push_cast,reduceCtorEq,Nat.reduceAdd,Nat.reduceMul,Nat.reduceSub,Nat.reduceBEq,Nat.reduceGT,Nat.reduceLT,Int.toNat_zero,Nat.reduceLeDiff,Int.reduceEq,Int.reduceLT,Int.reduceLE,hP,hΓ,hL,hfin,↓Z00,e69,w1,w2])
 (iterate 18 (all_goals (first | ((with_reducible refine Z06.one ?_ rfl); (congr 1; rw [Bool.eq_iff_iff]; simp only [Z7B,hz]; (repeat' split) <;> (try simp only [decide_eq_true_eq,decide_eq_false_iff_not,Bool.and_eq_true,Bool.or_eq_true,Bool.and_eq_false_iff,Bool.or_eq_false_iff,Bool.not_eq_true',Bool.not_eq_false',Bool.not_eq_true,Bool.not_eq_false,Int.not_lt,Int.not_le,beq_iff_eq,beq_eq_false_iff_ne,ne_eq,win_t,win_f,Bool.false_eq_true,and_false,false_and,and_true,true_and,not_false_eq_true,iff_self,false_iff,iff_false,true_iff,iff_true]) <;> (first | done | omega))) | ((with_reducible refine Z02 (fun h=>?_) (fun h=>?_)) <;> (try simp only [decide_eq_true_eq,decide_eq_false_iff_not,Bool.and_eq_true,Bool.or_eq_true,Bool.and_eq_false_iff,Bool.or_eq_false_iff,Bool.not_eq_true',Bool.not_eq_false',Bool.not_eq_true,Bool.not_eq_false,Int.not_lt,Int.not_le,beq_iff_eq,beq_eq_false_iff_ne,ne_eq,win_t,win_f] at h)) | ((first | with_reducible refine holds_of_ex X 400 _ _ _ ?_ | skip); simp (maxSteps:=1000000) only [push_cast,reduceCtorEq,Nat.reduceAdd,Nat.reduceMul,Nat.reduceSub,Nat.reduceBEq,Nat.reduceGT,Nat.reduceLT,Int.toNat_zero,Nat.reduceLeDiff,Int.reduceEq,Int.reduceLT,Int.reduceLE,hP,hΓ,hL,hfin,↓Z00,h98,w1,w2]) | skip)))
 all_goals refine⟨h6,Z06.one ?_ rfl⟩
 all_goals rw [←hz]
 all_goals (congr 1; rw [Bool.eq_iff_iff]; simp only [Z7B]; (repeat' split) <;> (try simp only [decide_eq_true_eq,decide_eq_false_iff_not,Bool.and_eq_true,Bool.or_eq_true,Bool.and_eq_false_iff,Bool.or_eq_false_iff,Bool.not_eq_true',Bool.not_eq_false',Bool.not_eq_true,Bool.not_eq_false,Int.not_lt,Int.not_le,beq_iff_eq,beq_eq_false_iff_ne,ne_eq,win_t,win_f,Bool.false_eq_true,and_false,false_and,and_true,true_and,not_false_eq_true,iff_self,false_iff,iff_false,true_iff,iff_true]) <;> (first | done | omega))
theorem con69{Γ:Env}(h:Z07 Tryz.prog Γ)(h98:Γ 101=some S98):Con Tryz.prog 90 S69:=
 Z0t h (fn:=Tryz.f90) (by kernel_rfl) rfl (by kernel_rfl) inj69 (by first | (intro h; cases h; done) | exact fun _ _=>rfl) fun ⟨o,x⟩ ho=>body69 Γ h98 o x ho
def e66:(Ob)→List AV:=fun o=>[.agg o.c]
def p66:(Ob)→Prop:=fun o=>o.ok
def r66:(Ob)→AV:=fun o=>.bool (decide ((o.imps.length:Int)≤16) && decide (1≤(o.code.length:Int)) && decide ((o.code.length:Int)≤65536) && decide ((o.procs.length:Int)≤100) && decide ((o.names.length:Int)=o.procs.length) && decide ((o.exps.length:Int)=o.procs.length) && decide ((o.vars.length:Int)≤200) && decide ((o.shown.length:Int)≤o.vars.length) && decide ((o.strs.length:Int)≤200) && decide ((o.descs.length:Int)≤200) && decide ((o.fixes.length:Int)≤65536))
def g66:(Ob)→Heap:=fun o=>[]
theorem inj66:∀a b,e66 a=e66 b→a=b:=by
 rintro o o' h
 simp only [e66,Z0f,Z0h,Z0i,Z0g,Z0u,Z0F,Z0E,Z0z,Z0G,Z0D,Z0C,Z0J,List.cons.injEq,AV.int.injEq,AV.str.injEq,AV.bool.injEq,AV.sl.injEq,AV.agg.injEq,AV.ip.injEq,AV.fn.injEq,AV.ifc.injEq,AV.mpr.injEq,Int.natCast_inj,and_true,true_and] at h
 simp_all only
noncomputable def S66:Z0n:=Z2V e66 p66 r66 g66 true
theorem ps66(o:(Ob)):Z1J e66 p66 [.agg o.c]=(o.ok):=Z0j inj66 p66 o
theorem rs66(o:(Ob)):Z10 e66 r66 .any [.agg o.c]=(.bool (decide ((o.imps.length:Int)≤16) && decide (1≤(o.code.length:Int)) && decide ((o.code.length:Int)≤65536) && decide ((o.procs.length:Int)≤100) && decide ((o.names.length:Int)=o.procs.length) && decide ((o.exps.length:Int)=o.procs.length) && decide ((o.vars.length:Int)≤200) && decide ((o.shown.length:Int)≤o.vars.length) && decide ((o.strs.length:Int)≤200) && decide ((o.descs.length:Int)≤200) && decide ((o.fixes.length:Int)≤65536))):=Z08 inj66 r66 .any o
theorem hs66(o:(Ob)):Z10 e66 g66 [] [.agg o.c]=([]):=Z08 inj66 g66 [] o
attribute [push_cast] S66 ps66 rs66 hs66
theorem body66(Γ:Env)(o:Ob):Z0a Tryz.prog Γ Tryz.f87 (e66 o) [] (r66 o) []:=by
 (intro X hP hΓ hL hfin; refine⟨_,rfl,?_⟩; rw [show Tryz.f87.ntmps=76 from rfl]; rw [show Tryz.f87.results.toList=[.tmp 2] from rfl] at hfin; apply holds_of_ex X 400; simp (maxSteps:=1000000) only [push_cast,reduceCtorEq,Nat.reduceAdd,Nat.reduceMul,Nat.reduceSub,Nat.reduceBEq,Nat.reduceGT,Nat.reduceLT,Int.toNat_zero,Nat.reduceLeDiff,Int.reduceEq,Int.reduceLT,Int.reduceLE,hP,hΓ,hL,hfin,↓Z00,e66,r66])
 exact Z06.one rfl rfl
theorem con66{Γ:Env}(h:Z07 Tryz.prog Γ):Con Tryz.prog 87 S66:=
 Z0t h (fn:=Tryz.f87) (by kernel_rfl) rfl (by kernel_rfl) inj66 (by first | (intro h; cases h; done) | exact fun _ _=>rfl) fun o ho=>body66 Γ o
def Z3o(o:Ob):Bool:=Z2g (Z18 o o.imps.length) && Z2g o.names && (decide (0≤o.init) && decide (o.init<o.code.length)) && Z24 (q55 o) o.procs o.procs.length && Z24 q56 o.vars o.vars.length && Z24 (q57 o) o.shown o.shown.length && Z24 q59 o.strs o.strs.length
def e67:(Ob)→List AV:=fun o=>[.agg o.c]
def p67:(Ob)→Prop:=fun o=>o.ok∧o.imps.length≤16
def r67:(Ob)→AV:=fun o=>.bool (Z3o o)
def g67:(Ob)→Heap:=fun o=>[]
theorem inj67:∀a b,e67 a=e67 b→a=b:=by
 rintro o o' h
 simp only [e67,Z0f,Z0h,Z0i,Z0g,Z0u,Z0F,Z0E,Z0z,Z0G,Z0D,Z0C,Z0J,List.cons.injEq,AV.int.injEq,AV.str.injEq,AV.bool.injEq,AV.sl.injEq,AV.agg.injEq,AV.ip.injEq,AV.fn.injEq,AV.ifc.injEq,AV.mpr.injEq,Int.natCast_inj,and_true,true_and] at h
 simp_all only
noncomputable def S67:Z0n:=Z2V e67 p67 r67 g67 true
theorem ps67(o:(Ob)):Z1J e67 p67 [.agg o.c]=(o.ok∧o.imps.length≤16):=Z0j inj67 p67 o
theorem rs67(o:(Ob)):Z10 e67 r67 .any [.agg o.c]=(.bool (Z3o o)):=Z08 inj67 r67 .any o
theorem hs67(o:(Ob)):Z10 e67 g67 [] [.agg o.c]=([]):=Z08 inj67 g67 [] o
attribute [push_cast] S67 ps67 rs67 hs67
theorem body67(Γ:Env)(h97:Γ 100=some S97)(o:Ob)(ho:o.ok)(hi16:o.imps.length≤16):Z0a Tryz.prog Γ Tryz.f88 (e67 o) [] (.bool (Z3o o)) []:=by
 have hSM:SM=1048576:=rfl
 have h1:=ho.code; have h2:=ho.imps; have h3:=ho.procs; have h4:=ho.vars; have h5:=ho.strs; have h6:=ho.shown
 (intro X hP hΓ hL hfin; refine⟨_,rfl,?_⟩; rw [show Tryz.f88.ntmps=157 from rfl]; rw [show Tryz.f88.results.toList=[.tmp 2] from rfl] at hfin; apply holds_of_ex X 400; simp (maxSteps:=1000000) only [push_cast,reduceCtorEq,Nat.reduceAdd,Nat.reduceMul,Nat.reduceSub,Nat.reduceBEq,Nat.reduceGT,Nat.reduceLT,Int.toNat_zero,Nat.reduceLeDiff,Int.reduceEq,Int.reduceLT,Int.reduceLE,hP,hΓ,hL,hfin,↓Z00,e67])
 (repeat (refine And.intro (by first | exact True.intro | omega | assumption | exact own_row _ | (simp only [List.length_append]; omega) | (intro hg; (try simp only [decide_eq_true_eq,decide_eq_false_iff_not,Bool.and_eq_true,Bool.or_eq_true,Bool.and_eq_false_iff,Bool.or_eq_false_iff,Bool.not_eq_true',Bool.not_eq_false',Bool.not_eq_true,Bool.not_eq_false,Int.not_lt,Int.not_le,beq_iff_eq,beq_eq_false_iff_ne,ne_eq,win_t,win_f] at hg); omega)) ?_))
 refine Holds.loopM (ι:={k:Nat // k≤o.imps.length}) [false,true,true,false,false,true,true,true,true,true,true,false,false,false,false,false,false,false,false,false,false,false,false,false,false,false,false,false,false,false,false,false,false,false,false,false,false,false,false,false,false,false,false,false,false,false,false,false,false,false,false,false,false,false,false,false,false,false,false,false,false,false,false,false,false,false,false,false,false,false,false,false,false,false,false,false,false,false,false,false,false,false,false,false,false,false,false,false,false,false,false,false,false,false,false,false,false,false,false,false,false,false,false,false,false,false,false,false,false,false,false,false,false,false,false,false,false,false,false,false,false,false,false,false,false,false,false,false,false,false,false,false,false,false,false,false,false,false,false,false,false,false,false,false,false,false,false,false,false,false,false,false,false,false,false,false,false] (fun i=>[(4,.int .i64 i.1),(3,.msl 1 0 0 (i.1+1))]) (fun i=>[.row o.c 13 0,.row ((Z18 o i.1).map .str) 1 0]) (fun i=>o.imps.length - i.1) ⟨0,Nat.zero_le _⟩ ?_ ?_
 ·rw [hL]; simp only [push_cast,Int.natCast_zero,Z18,List.take_zero]
  exact Z06.sameA
 rintro⟨k,hk⟩
 have hin:=Z5p o k hk
 ((first | with_reducible refine holds_of_ex X 400 _ _ _ ?_ | skip); simp (maxSteps:=1000000) only [push_cast,reduceCtorEq,Nat.reduceAdd,Nat.reduceMul,Nat.reduceSub,Nat.reduceBEq,Nat.reduceGT,Nat.reduceLT,Int.toNat_zero,Nat.reduceLeDiff,Int.reduceEq,Int.reduceLT,Int.reduceLE,hP,hΓ,hL,hfin,↓Z00])
 ((with_reducible refine Z02 (fun h=>?_) (fun h=>?_)) <;> (try simp only [decide_eq_true_eq,decide_eq_false_iff_not,Bool.and_eq_true,Bool.or_eq_true,Bool.and_eq_false_iff,Bool.or_eq_false_iff,Bool.not_eq_true',Bool.not_eq_false',Bool.not_eq_true,Bool.not_eq_false,Int.not_lt,Int.not_le,beq_iff_eq,beq_eq_false_iff_ne,ne_eq,win_t,win_f] at h))
 ·have hk':k<o.imps.length:=by omega
  ((first | with_reducible refine holds_of_ex X 400 _ _ _ ?_ | skip); simp (maxSteps:=1000000) only [push_cast,reduceCtorEq,Nat.reduceAdd,Nat.reduceMul,Nat.reduceSub,Nat.reduceBEq,Nat.reduceGT,Nat.reduceLT,Int.toNat_zero,Nat.reduceLeDiff,Int.reduceEq,Int.reduceLT,Int.reduceLE,hP,hΓ,hL,hfin,↓Z00,Z0c ((k:Int)+1) (by constructor <;> omega),hk',hin])
  refine⟨by omega,by omega,by omega,⟨k+1,hk'⟩,by simp only; omega,?_⟩
  rw [show [AV.str (o.imps.getD k default).name]=[(o.imps.getD k default).name].map AV.str from rfl,←List.map_append,Z4N o k hk']
  (refine Z0k.ver 1  0 (by simp only [push_cast,reduceCtorEq,Nat.reduceAdd,Nat.reduceMul,Nat.reduceSub,Nat.reduceBEq,Nat.reduceGT,Nat.reduceLT,Int.toNat_zero,Nat.reduceLeDiff,Int.reduceEq,Int.reduceLT,Int.reduceLE]) (by first | exact .inr (Nat.zero_le _) | (left; simp only [push_cast,reduceCtorEq,Nat.reduceAdd,Nat.reduceMul,Nat.reduceSub,Nat.reduceBEq,Nat.reduceGT,Nat.reduceLT,Int.toNat_zero,Nat.reduceLeDiff,Int.reduceEq,Int.reduceLT,Int.reduceLE]; first | done | omega) | (right; simp only [push_cast,reduceCtorEq,Nat.reduceAdd,Nat.reduceMul,Nat.reduceSub,Nat.reduceBEq,Nat.reduceGT,Nat.reduceLT,Int.toNat_zero,Nat.reduceLeDiff,Int.reduceEq,Int.reduceLT,Int.reduceLE]; first | done | omega)) ?_; simp only [push_cast,reduceCtorEq,Nat.reduceAdd,Nat.reduceMul,Nat.reduceSub,Nat.reduceBEq,Nat.reduceGT,Nat.reduceLT,Int.toNat_zero,Nat.reduceLeDiff,Int.reduceEq,Int.reduceLT,Int.reduceLE])
  exact Z06.keep2A
 obtain rfl:k=o.imps.length:=by omega
 have ht:List.take (o.imps.length+1) ((Z18 o o.imps.length).map AV.str)=(Z18 o o.imps.length).map AV.str:=List.take_of_length_le (by simp [hin])
 ((first | with_reducible refine holds_of_ex X 400 _ _ _ ?_ | skip); simp (maxSteps:=1000000) only [push_cast,reduceCtorEq,Nat.reduceAdd,Nat.reduceMul,Nat.reduceSub,Nat.reduceBEq,Nat.reduceGT,Nat.reduceLT,Int.toNat_zero,Nat.reduceLeDiff,Int.reduceEq,Int.reduceLT,Int.reduceLE,hP,hΓ,hL,hfin,↓Z00,h97,hin,ht])
 refine⟨⟨by omega,Zci ho⟩,⟨ho.names,ho.nam⟩,?_⟩
 refine Z02 (fun h=>?_) (fun h=>?_)
 ·((first | with_reducible refine holds_of_ex X 400 _ _ _ ?_ | skip); simp (maxSteps:=1000000) only [push_cast,reduceCtorEq,Nat.reduceAdd,Nat.reduceMul,Nat.reduceSub,Nat.reduceBEq,Nat.reduceGT,Nat.reduceLT,Int.toNat_zero,Nat.reduceLeDiff,Int.reduceEq,Int.reduceLT,Int.reduceLE,hP,hΓ,hL,hfin,↓Z00])
  refine Z06.one ?_ rfl
  have:(Z2g (Z18 o o.imps.length) && Z2g o.names && (decide (0≤o.init) && decide (o.init<o.code.length)))=false:=by
   rw [Bool.eq_false_iff]
   intro hc
   simp only [Bool.and_eq_true,decide_eq_true_eq] at hc
   obtain⟨⟨n1,n2⟩,n3,n4⟩:=hc
   rw [n1,n2] at h
   simp only [Bool.not_true,Bool.false_or,Bool.or_eq_true,decide_eq_true_eq] at h
   omega
  rw [Z3o,this]; rfl
 have hini:Z3o o=(Z24 (q55 o) o.procs o.procs.length && Z24 q56 o.vars o.vars.length && Z24 (q57 o) o.shown o.shown.length && Z24 q59 o.strs o.strs.length):=by
  have:(Z2g (Z18 o o.imps.length) && Z2g o.names && (decide (0≤o.init) && decide (o.init<o.code.length)))=true:=by
   simp only [Bool.or_eq_false_iff,Bool.not_eq_false',decide_eq_false_iff_not] at h
   obtain⟨⟨⟨n1,n2⟩,n3⟩,n4⟩:=h
   rw [n1,n2]
   simp only [Bool.true_and,Bool.and_eq_true,decide_eq_true_eq]; omega
  rw [Z3o,this,Bool.true_and]
 ((first | with_reducible refine holds_of_ex X 400 _ _ _ ?_ | skip); simp (maxSteps:=1000000) only [push_cast,reduceCtorEq,Nat.reduceAdd,Nat.reduceMul,Nat.reduceSub,Nat.reduceBEq,Nat.reduceGT,Nat.reduceLT,Int.toNat_zero,Nat.reduceLeDiff,Int.reduceEq,Int.reduceLT,Int.reduceLE,hP,hΓ,hL,hfin,↓Z00])
 refine Holds.loopM (ι:={k:Nat // k≤o.procs.length∧Z24 (q55 o) o.procs k=true}) [false,true,false,false,false,false,false,false,true,true,true,false,false,false,false,false,false,false,false,false,false,false,false,false,false,false,false,false,false,false,false,false,false,false,false,false,false,false,false,false,false,false,false,false,false,false,false,false,false,false,false,false,false,false,false,false,false,false,false,false,false,false,false,false,false,false,false,false,false,false,false,false,false,false,false,false,false,false,false,false,false,false,false,false,false,false,false,false,false,false,false,false,false,false,false,false,false,false,false,false,false,false,false,false,false,false,false,false,false,false,false,false,false,false,false,false,false,false,false,false,false,false,false,false,false,false,false,false,false,false,false,false,false,false,false,false,false,false,false,false,false,false,false,false,false,false,false,false,false,false,false,false,false,false,false,false,false] (fun i=>[(7,.int .i64 i.1)]) (fun i=>[.row o.c 13 0]) (fun i=>o.procs.length - i.1) ⟨0,Nat.zero_le _,rfl⟩ ?_ ?_
 ·rw [hL]; simp only [push_cast,Int.natCast_zero]
  exact Z06.keep1A
 rintro⟨k,hk,ha⟩
 ((first | with_reducible refine holds_of_ex X 400 _ _ _ ?_ | skip); simp (maxSteps:=1000000) only [push_cast,reduceCtorEq,Nat.reduceAdd,Nat.reduceMul,Nat.reduceSub,Nat.reduceBEq,Nat.reduceGT,Nat.reduceLT,Int.toNat_zero,Nat.reduceLeDiff,Int.reduceEq,Int.reduceLT,Int.reduceLE,hP,hΓ,hL,hfin,↓Z00])
 ((with_reducible refine Z02 (fun h=>?_) (fun h=>?_)) <;> (try simp only [decide_eq_true_eq,decide_eq_false_iff_not,Bool.and_eq_true,Bool.or_eq_true,Bool.and_eq_false_iff,Bool.or_eq_false_iff,Bool.not_eq_true',Bool.not_eq_false',Bool.not_eq_true,Bool.not_eq_false,Int.not_lt,Int.not_le,beq_iff_eq,beq_eq_false_iff_ne,ne_eq,win_t,win_f] at h))
 ·have hk':k<o.procs.length:=by omega
  ((first | with_reducible refine holds_of_ex X 400 _ _ _ ?_ | skip); simp (maxSteps:=1000000) only [push_cast,reduceCtorEq,Nat.reduceAdd,Nat.reduceMul,Nat.reduceSub,Nat.reduceBEq,Nat.reduceGT,Nat.reduceLT,Int.toNat_zero,Nat.reduceLeDiff,Int.reduceEq,Int.reduceLT,Int.reduceLE,hP,hΓ,hL,hfin,↓Z00])
  (refine Holds.drawnQ (by rw [hP]; kernel_rfl) (by kernel_rfl) ?_; simp (maxSteps:=1000000) only [push_cast,reduceCtorEq,Nat.reduceAdd,Nat.reduceMul,Nat.reduceSub,Nat.reduceBEq,Nat.reduceGT,Nat.reduceLT,Int.toNat_zero,Nat.reduceLeDiff,Int.reduceEq,Int.reduceLT,Int.reduceLE,hP,hΓ,hL,hfin,↓Z00])
  (repeat (refine And.intro (by first | exact True.intro | omega | assumption | exact own_row _ | (simp only [List.length_append]; omega) | (intro hg; (try simp only [decide_eq_true_eq,decide_eq_false_iff_not,Bool.and_eq_true,Bool.or_eq_true,Bool.and_eq_false_iff,Bool.or_eq_false_iff,Bool.not_eq_true',Bool.not_eq_false',Bool.not_eq_true,Bool.not_eq_false,Int.not_lt,Int.not_le,beq_iff_eq,beq_eq_false_iff_ne,ne_eq,win_t,win_f] at hg); omega)) ?_))
  have e:(decide (o.procs.getD k default<0) || decide ((o.code.length:Int)≤o.procs.getD k default))=!q55 o k (o.procs.getD k default):=by
   rw [Bool.eq_iff_iff]; simp only [q55,Bool.or_eq_true,decide_eq_true_eq,Bool.not_eq_true',win_f]; omega
  rw [e]
  ((with_reducible refine Z02 (fun h=>?_) (fun h=>?_)) <;> (try simp only [decide_eq_true_eq,decide_eq_false_iff_not,Bool.and_eq_true,Bool.or_eq_true,Bool.and_eq_false_iff,Bool.or_eq_false_iff,Bool.not_eq_true',Bool.not_eq_false',Bool.not_eq_true,Bool.not_eq_false,Int.not_lt,Int.not_le,beq_iff_eq,beq_eq_false_iff_ne,ne_eq,win_t,win_f] at h))
  ·((first | with_reducible refine holds_of_ex X 400 _ _ _ ?_ | skip); simp (maxSteps:=1000000) only [push_cast,reduceCtorEq,Nat.reduceAdd,Nat.reduceMul,Nat.reduceSub,Nat.reduceBEq,Nat.reduceGT,Nat.reduceLT,Int.toNat_zero,Nat.reduceLeDiff,Int.reduceEq,Int.reduceLT,Int.reduceLE,hP,hΓ,hL,hfin,↓Z00])
   exact Z06.one (by rw [hini,Z1h (k:=k) hk' h]; rfl) rfl
  ·((first | with_reducible refine holds_of_ex X 400 _ _ _ ?_ | skip); simp (maxSteps:=1000000) only [push_cast,reduceCtorEq,Nat.reduceAdd,Nat.reduceMul,Nat.reduceSub,Nat.reduceBEq,Nat.reduceGT,Nat.reduceLT,Int.toNat_zero,Nat.reduceLeDiff,Int.reduceEq,Int.reduceLT,Int.reduceLE,hP,hΓ,hL,hfin,↓Z00,Z0c ((k:Int)+1) (by constructor <;> omega)])
   (refine⟨⟨k+1,by omega,by rw [Z1w,ha,h]; rfl⟩,by (try simp only [List.length_cons,List.length_append,List.length_nil]); omega,?_⟩; (try rw [hL]); (try simp only [push_cast,Int.natCast_zero]); first | (exact Z06.sameA) | (exact Z06.keep0A) | (exact Z06.keep1A) | (exact Z06.keep2A) | (exact Z06.keep3A))
 obtain rfl:k=o.procs.length:=by omega
 rw [ha,Bool.true_and] at hini
 ((first | with_reducible refine holds_of_ex X 400 _ _ _ ?_ | skip); simp (maxSteps:=1000000) only [push_cast,reduceCtorEq,Nat.reduceAdd,Nat.reduceMul,Nat.reduceSub,Nat.reduceBEq,Nat.reduceGT,Nat.reduceLT,Int.toNat_zero,Nat.reduceLeDiff,Int.reduceEq,Int.reduceLT,Int.reduceLE,hP,hΓ,hL,hfin,↓Z00])
 refine Holds.loopM (ι:={k:Nat // k≤o.vars.length∧Z24 q56 o.vars k=true}) [false,true,false,false,false,false,false,false,false,true,true,false,false,false,false,false,false,false,false,false,false,false,false,false,false,false,false,false,false,false,false,false,false,false,false,false,false,false,false,false,false,false,false,false,false,false,false,false,false,false,false,false,false,false,false,false,false,false,false,false,false,false,false,false,false,false,false,false,false,false,false,false,false,false,false,false,false,false,false,false,false,false,false,false,false,false,false,false,false,false,false,false,false,false,false,false,false,false,false,false,false,false,false,false,false,false,false,false,false,false,false,false,false,false,false,false,false,false,false,false,false,false,false,false,false,false,false,false,false,false,false,false,false,false,false,false,false,false,false,false,false,false,false,false,false,false,false,false,false,false,false,false,false,false,false,false,false] (fun i=>[(8,.int .i64 i.1)]) (fun i=>[.row o.c 13 0]) (fun i=>o.vars.length - i.1) ⟨0,Nat.zero_le _,rfl⟩ ?_ ?_
 ·(rw [hL]; simp only [push_cast,Int.natCast_zero]; exact Z06.sameA)
 rintro⟨k,hk,ha⟩
 ((first | with_reducible refine holds_of_ex X 400 _ _ _ ?_ | skip); simp (maxSteps:=1000000) only [push_cast,reduceCtorEq,Nat.reduceAdd,Nat.reduceMul,Nat.reduceSub,Nat.reduceBEq,Nat.reduceGT,Nat.reduceLT,Int.toNat_zero,Nat.reduceLeDiff,Int.reduceEq,Int.reduceLT,Int.reduceLE,hP,hΓ,hL,hfin,↓Z00])
 ((with_reducible refine Z02 (fun h=>?_) (fun h=>?_)) <;> (try simp only [decide_eq_true_eq,decide_eq_false_iff_not,Bool.and_eq_true,Bool.or_eq_true,Bool.and_eq_false_iff,Bool.or_eq_false_iff,Bool.not_eq_true',Bool.not_eq_false',Bool.not_eq_true,Bool.not_eq_false,Int.not_lt,Int.not_le,beq_iff_eq,beq_eq_false_iff_ne,ne_eq,win_t,win_f] at h))
 ·have hk':k<o.vars.length:=by omega
  ((first | with_reducible refine holds_of_ex X 400 _ _ _ ?_ | skip); simp (maxSteps:=1000000) only [push_cast,reduceCtorEq,Nat.reduceAdd,Nat.reduceMul,Nat.reduceSub,Nat.reduceBEq,Nat.reduceGT,Nat.reduceLT,Int.toNat_zero,Nat.reduceLeDiff,Int.reduceEq,Int.reduceLT,Int.reduceLE,hP,hΓ,hL,hfin,↓Z00])
  (repeat (refine And.intro (by first | exact True.intro | omega | assumption | exact own_row _ | (simp only [List.length_append]; omega) | (intro hg; (try simp only [decide_eq_true_eq,decide_eq_false_iff_not,Bool.and_eq_true,Bool.or_eq_true,Bool.and_eq_false_iff,Bool.or_eq_false_iff,Bool.not_eq_true',Bool.not_eq_false',Bool.not_eq_true,Bool.not_eq_false,Int.not_lt,Int.not_le,beq_iff_eq,beq_eq_false_iff_ne,ne_eq,win_t,win_f] at hg); omega)) ?_))
  have e:(decide (o.vars.getD k default<1) || decide (16384<o.vars.getD k default))=!q56 k (o.vars.getD k default):=by
   rw [Bool.eq_iff_iff]; simp only [q56,Bool.or_eq_true,decide_eq_true_eq,Bool.not_eq_true',win_f]
  rw [e]
  ((with_reducible refine Z02 (fun h=>?_) (fun h=>?_)) <;> (try simp only [decide_eq_true_eq,decide_eq_false_iff_not,Bool.and_eq_true,Bool.or_eq_true,Bool.and_eq_false_iff,Bool.or_eq_false_iff,Bool.not_eq_true',Bool.not_eq_false',Bool.not_eq_true,Bool.not_eq_false,Int.not_lt,Int.not_le,beq_iff_eq,beq_eq_false_iff_ne,ne_eq,win_t,win_f] at h))
  ·((first | with_reducible refine holds_of_ex X 400 _ _ _ ?_ | skip); simp (maxSteps:=1000000) only [push_cast,reduceCtorEq,Nat.reduceAdd,Nat.reduceMul,Nat.reduceSub,Nat.reduceBEq,Nat.reduceGT,Nat.reduceLT,Int.toNat_zero,Nat.reduceLeDiff,Int.reduceEq,Int.reduceLT,Int.reduceLE,hP,hΓ,hL,hfin,↓Z00])
   exact Z06.one (by rw [hini,Z1h (k:=k) hk' h]; rfl) rfl
  ·((first | with_reducible refine holds_of_ex X 400 _ _ _ ?_ | skip); simp (maxSteps:=1000000) only [push_cast,reduceCtorEq,Nat.reduceAdd,Nat.reduceMul,Nat.reduceSub,Nat.reduceBEq,Nat.reduceGT,Nat.reduceLT,Int.toNat_zero,Nat.reduceLeDiff,Int.reduceEq,Int.reduceLT,Int.reduceLE,hP,hΓ,hL,hfin,↓Z00,Z0c ((k:Int)+1) (by constructor <;> omega)])
   (refine⟨⟨k+1,by omega,by rw [Z1w,ha,h]; rfl⟩,by (try simp only [List.length_cons,List.length_append,List.length_nil]); omega,?_⟩; (try rw [hL]); (try simp only [push_cast,Int.natCast_zero]); first | (exact Z06.sameA) | (exact Z06.keep0A) | (exact Z06.keep1A) | (exact Z06.keep2A) | (exact Z06.keep3A))
 obtain rfl:k=o.vars.length:=by omega
 rw [ha,Bool.true_and] at hini
 ((first | with_reducible refine holds_of_ex X 400 _ _ _ ?_ | skip); simp (maxSteps:=1000000) only [push_cast,reduceCtorEq,Nat.reduceAdd,Nat.reduceMul,Nat.reduceSub,Nat.reduceBEq,Nat.reduceGT,Nat.reduceLT,Int.toNat_zero,Nat.reduceLeDiff,Int.reduceEq,Int.reduceLT,Int.reduceLE,hP,hΓ,hL,hfin,↓Z00])
 refine Holds.loopM (ι:={k:Nat // k≤o.shown.length∧Z24 (q57 o) o.shown k=true}) [false,true,false,false,false,false,false,false,false,false,true,false,false,false,false,false,false,false,false,false,false,false,false,false,false,false,false,false,false,false,false,false,false,false,false,false,false,false,false,false,false,false,false,false,false,false,false,false,false,false,false,false,false,false,false,false,false,false,false,false,false,false,false,false,false,false,false,false,false,false,false,false,false,false,false,false,false,false,false,false,false,false,false,false,false,false,false,false,false,false,false,false,false,false,false,false,false,false,false,false,false,false,false,false,false,false,false,false,false,false,false,false,false,false,false,false,false,false,false,false,false,false,false,false,false,false,false,false,false,false,false,false,false,false,false,false,false,false,false,false,false,false,false,false,false,false,false,false,false,false,false,false,false,false,false,false,false] (fun i=>[(9,.int .i64 i.1)]) (fun i=>[.row o.c 13 0]) (fun i=>o.shown.length - i.1) ⟨0,Nat.zero_le _,rfl⟩ ?_ ?_
 ·(rw [hL]; simp only [push_cast,Int.natCast_zero]; exact Z06.sameA)
 rintro⟨k,hk,ha⟩
 ((first | with_reducible refine holds_of_ex X 400 _ _ _ ?_ | skip); simp (maxSteps:=1000000) only [push_cast,reduceCtorEq,Nat.reduceAdd,Nat.reduceMul,Nat.reduceSub,Nat.reduceBEq,Nat.reduceGT,Nat.reduceLT,Int.toNat_zero,Nat.reduceLeDiff,Int.reduceEq,Int.reduceLT,Int.reduceLE,hP,hΓ,hL,hfin,↓Z00])
 ((with_reducible refine Z02 (fun h=>?_) (fun h=>?_)) <;> (try simp only [decide_eq_true_eq,decide_eq_false_iff_not,Bool.and_eq_true,Bool.or_eq_true,Bool.and_eq_false_iff,Bool.or_eq_false_iff,Bool.not_eq_true',Bool.not_eq_false',Bool.not_eq_true,Bool.not_eq_false,Int.not_lt,Int.not_le,beq_iff_eq,beq_eq_false_iff_ne,ne_eq,win_t,win_f] at h))
 ·have hk':k<o.shown.length:=by omega
  ((first | with_reducible refine holds_of_ex X 400 _ _ _ ?_ | skip); simp (maxSteps:=1000000) only [push_cast,reduceCtorEq,Nat.reduceAdd,Nat.reduceMul,Nat.reduceSub,Nat.reduceBEq,Nat.reduceGT,Nat.reduceLT,Int.toNat_zero,Nat.reduceLeDiff,Int.reduceEq,Int.reduceLT,Int.reduceLE,hP,hΓ,hL,hfin,↓Z00])
  (refine Holds.drawnQ (by rw [hP]; kernel_rfl) (by kernel_rfl) ?_; simp (maxSteps:=1000000) only [push_cast,reduceCtorEq,Nat.reduceAdd,Nat.reduceMul,Nat.reduceSub,Nat.reduceBEq,Nat.reduceGT,Nat.reduceLT,Int.toNat_zero,Nat.reduceLeDiff,Int.reduceEq,Int.reduceLT,Int.reduceLE,hP,hΓ,hL,hfin,↓Z00,Z0c ((k:Int) - 1) (by constructor <;> omega)])
  (repeat (refine And.intro (by first | exact True.intro | omega | assumption | exact own_row _ | (simp only [List.length_append]; omega) | (intro hg; (try simp only [decide_eq_true_eq,decide_eq_false_iff_not,Bool.and_eq_true,Bool.or_eq_true,Bool.and_eq_false_iff,Bool.or_eq_false_iff,Bool.not_eq_true',Bool.not_eq_false',Bool.not_eq_true,Bool.not_eq_false,Int.not_lt,Int.not_le,beq_iff_eq,beq_eq_false_iff_ne,ne_eq,win_t,win_f] at hg); omega)) ?_))
  have e:(decide (o.shown.getD k default<0) || decide ((o.vars.length:Int)≤o.shown.getD k default) || decide (0<(k:Int)) && decide (o.shown.getD k default≤o.shown.getD (k - 1) default))=!q57 o k (o.shown.getD k default):=by
   rw [Bool.eq_iff_iff]; simp only [q57,Bool.or_eq_true,Bool.and_eq_true,decide_eq_true_eq,Bool.not_eq_true',Bool.and_eq_false_iff,Bool.or_eq_false_iff,decide_eq_false_iff_not,win_f]; omega
  rw [e]
  ((with_reducible refine Z02 (fun h=>?_) (fun h=>?_)) <;> (try simp only [decide_eq_true_eq,decide_eq_false_iff_not,Bool.and_eq_true,Bool.or_eq_true,Bool.and_eq_false_iff,Bool.or_eq_false_iff,Bool.not_eq_true',Bool.not_eq_false',Bool.not_eq_true,Bool.not_eq_false,Int.not_lt,Int.not_le,beq_iff_eq,beq_eq_false_iff_ne,ne_eq,win_t,win_f] at h))
  ·((first | with_reducible refine holds_of_ex X 400 _ _ _ ?_ | skip); simp (maxSteps:=1000000) only [push_cast,reduceCtorEq,Nat.reduceAdd,Nat.reduceMul,Nat.reduceSub,Nat.reduceBEq,Nat.reduceGT,Nat.reduceLT,Int.toNat_zero,Nat.reduceLeDiff,Int.reduceEq,Int.reduceLT,Int.reduceLE,hP,hΓ,hL,hfin,↓Z00])
   exact Z06.one (by rw [hini,Z1h (k:=k) hk' h]; rfl) rfl
  ·((first | with_reducible refine holds_of_ex X 400 _ _ _ ?_ | skip); simp (maxSteps:=1000000) only [push_cast,reduceCtorEq,Nat.reduceAdd,Nat.reduceMul,Nat.reduceSub,Nat.reduceBEq,Nat.reduceGT,Nat.reduceLT,Int.toNat_zero,Nat.reduceLeDiff,Int.reduceEq,Int.reduceLT,Int.reduceLE,hP,hΓ,hL,hfin,↓Z00,Z0c ((k:Int)+1) (by constructor <;> omega)])
   (refine⟨⟨k+1,by omega,by rw [Z1w,ha,h]; rfl⟩,by (try simp only [List.length_cons,List.length_append,List.length_nil]); omega,?_⟩; (try rw [hL]); (try simp only [push_cast,Int.natCast_zero]); first | (exact Z06.sameA) | (exact Z06.keep0A) | (exact Z06.keep1A) | (exact Z06.keep2A) | (exact Z06.keep3A))
 obtain rfl:k=o.shown.length:=by omega
 rw [ha,Bool.true_and] at hini
 ((first | with_reducible refine holds_of_ex X 400 _ _ _ ?_ | skip); simp (maxSteps:=1000000) only [push_cast,reduceCtorEq,Nat.reduceAdd,Nat.reduceMul,Nat.reduceSub,Nat.reduceBEq,Nat.reduceGT,Nat.reduceLT,Int.toNat_zero,Nat.reduceLeDiff,Int.reduceEq,Int.reduceLT,Int.reduceLE,hP,hΓ,hL,hfin,↓Z00])
 refine Holds.loopM (ι:={k:Nat // k≤o.strs.length∧Z24 q59 o.strs k=true}) [false,true,false,false,false,false,false,false,false,false,false,false,false,false,false,false,false,false,false,false,false,false,false,false,false,false,false,false,false,false,false,false,false,false,false,false,false,false,false,false,false,false,false,false,false,false,false,false,false,false,false,false,false,false,false,false,false,false,false,false,false,false,false,false,false,false,false,false,false,false,false,false,false,false,false,false,false,false,false,false,false,false,false,false,false,false,false,false,false,false,false,false,false,false,false,false,false,false,false,false,false,false,false,false,false,false,false,false,false,false,false,false,false,false,false,false,false,false,false,false,false,false,false,false,false,false,false,false,false,false,false,false,false,false,false,false,false,false,false,false,false,false,false,false,false,false,false,false,false,false,false,false,false,false,false,false,false] (fun i=>[(10,.int .i64 i.1)]) (fun i=>[.row o.c 13 0]) (fun i=>o.strs.length - i.1) ⟨0,Nat.zero_le _,rfl⟩ ?_ ?_
 ·(rw [hL]; simp only [push_cast,Int.natCast_zero]; exact Z06.sameA)
 rintro⟨k,hk,ha⟩
 ((first | with_reducible refine holds_of_ex X 400 _ _ _ ?_ | skip); simp (maxSteps:=1000000) only [push_cast,reduceCtorEq,Nat.reduceAdd,Nat.reduceMul,Nat.reduceSub,Nat.reduceBEq,Nat.reduceGT,Nat.reduceLT,Int.toNat_zero,Nat.reduceLeDiff,Int.reduceEq,Int.reduceLT,Int.reduceLE,hP,hΓ,hL,hfin,↓Z00])
 ((with_reducible refine Z02 (fun h=>?_) (fun h=>?_)) <;> (try simp only [decide_eq_true_eq,decide_eq_false_iff_not,Bool.and_eq_true,Bool.or_eq_true,Bool.and_eq_false_iff,Bool.or_eq_false_iff,Bool.not_eq_true',Bool.not_eq_false',Bool.not_eq_true,Bool.not_eq_false,Int.not_lt,Int.not_le,beq_iff_eq,beq_eq_false_iff_ne,ne_eq,win_t,win_f] at h))
 ·have hk':k<o.strs.length:=by omega
  ((first | with_reducible refine holds_of_ex X 400 _ _ _ ?_ | skip); simp (maxSteps:=1000000) only [push_cast,reduceCtorEq,Nat.reduceAdd,Nat.reduceMul,Nat.reduceSub,Nat.reduceBEq,Nat.reduceGT,Nat.reduceLT,Int.toNat_zero,Nat.reduceLeDiff,Int.reduceEq,Int.reduceLT,Int.reduceLE,hP,hΓ,hL,hfin,↓Z00])
  (repeat (refine And.intro (by first | exact True.intro | omega | assumption | exact own_row _ | (simp only [List.length_append]; omega) | (intro hg; (try simp only [decide_eq_true_eq,decide_eq_false_iff_not,Bool.and_eq_true,Bool.or_eq_true,Bool.and_eq_false_iff,Bool.or_eq_false_iff,Bool.not_eq_true',Bool.not_eq_false',Bool.not_eq_true,Bool.not_eq_false,Int.not_lt,Int.not_le,beq_iff_eq,beq_eq_false_iff_ne,ne_eq,win_t,win_f] at hg); omega)) ?_))
  have e:decide (200<((o.strs.getD k default).length:Int))=!q59 k (o.strs.getD k default):=by
   rw [Bool.eq_iff_iff]; simp only [q59,decide_eq_true_eq,Bool.not_eq_true',decide_eq_false_iff_not]; omega
  rw [e]
  ((with_reducible refine Z02 (fun h=>?_) (fun h=>?_)) <;> (try simp only [decide_eq_true_eq,decide_eq_false_iff_not,Bool.and_eq_true,Bool.or_eq_true,Bool.and_eq_false_iff,Bool.or_eq_false_iff,Bool.not_eq_true',Bool.not_eq_false',Bool.not_eq_true,Bool.not_eq_false,Int.not_lt,Int.not_le,beq_iff_eq,beq_eq_false_iff_ne,ne_eq,win_t,win_f] at h))
  ·((first | with_reducible refine holds_of_ex X 400 _ _ _ ?_ | skip); simp (maxSteps:=1000000) only [push_cast,reduceCtorEq,Nat.reduceAdd,Nat.reduceMul,Nat.reduceSub,Nat.reduceBEq,Nat.reduceGT,Nat.reduceLT,Int.toNat_zero,Nat.reduceLeDiff,Int.reduceEq,Int.reduceLT,Int.reduceLE,hP,hΓ,hL,hfin,↓Z00])
   exact Z06.one (by rw [hini,Z1h (k:=k) hk' h]) rfl
  ·((first | with_reducible refine holds_of_ex X 400 _ _ _ ?_ | skip); simp (maxSteps:=1000000) only [push_cast,reduceCtorEq,Nat.reduceAdd,Nat.reduceMul,Nat.reduceSub,Nat.reduceBEq,Nat.reduceGT,Nat.reduceLT,Int.toNat_zero,Nat.reduceLeDiff,Int.reduceEq,Int.reduceLT,Int.reduceLE,hP,hΓ,hL,hfin,↓Z00,Z0c ((k:Int)+1) (by constructor <;> omega)])
   (refine⟨⟨k+1,by omega,by rw [Z1w,ha,h]; rfl⟩,by (try simp only [List.length_cons,List.length_append,List.length_nil]); omega,?_⟩; (try rw [hL]); (try simp only [push_cast,Int.natCast_zero]); first | (exact Z06.sameA) | (exact Z06.keep0A) | (exact Z06.keep1A) | (exact Z06.keep2A) | (exact Z06.keep3A))
 obtain rfl:k=o.strs.length:=by omega
 ((first | with_reducible refine holds_of_ex X 400 _ _ _ ?_ | skip); simp (maxSteps:=1000000) only [push_cast,reduceCtorEq,Nat.reduceAdd,Nat.reduceMul,Nat.reduceSub,Nat.reduceBEq,Nat.reduceGT,Nat.reduceLT,Int.toNat_zero,Nat.reduceLeDiff,Int.reduceEq,Int.reduceLT,Int.reduceLE,hP,hΓ,hL,hfin,↓Z00])
 exact Z06.one (by rw [hini,ha]) rfl
theorem con67{Γ:Env}(h:Z07 Tryz.prog Γ)(h97:Γ 100=some S97):Con Tryz.prog 88 S67:=
 Z0t h (fn:=Tryz.f88) (by kernel_rfl) rfl (by kernel_rfl) inj67 (by first | (intro h; cases h; done) | exact fun _ _=>rfl) fun o ho=>body67 Γ h97 o ho.1 ho.2
end Go.Proofs.YtmomhjmaanagaaaGreat.objDone