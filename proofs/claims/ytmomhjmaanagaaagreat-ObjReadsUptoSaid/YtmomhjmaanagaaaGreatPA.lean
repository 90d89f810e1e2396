/- Of objects: what the document asks of their parts. Conditions stand in each. -/
import Derived.Test.YtmomhjmaanagaaaGreatOU
set_option linter.unusedVariables false
set_option linter.unusedSimpArgs false
set_option maxRecDepth 100000
set_option maxHeartbeats 4000000
namespace Go.Proofs.YtmomhjmaanagaaaGreat.objDone
open Go Go.Eng Go.Proofs
theorem Zhc(i:Nat)(c:UInt8):(!((decide (97≤(c.toNat:Int)) && decide ((c.toNat:Int)≤122)) || (decide (65≤(c.toNat:Int)) && decide ((c.toNat:Int)≤90))) && (decide ((i:Int)=0) || decide ((c.toNat:Int)<48) || decide (57<(c.toNat:Int))))=!may i c:=by
 rw [Bool.eq_iff_iff]
 simp only [may,Z8e,ZhH,Bool.and_eq_true,Bool.or_eq_true,Bool.not_eq_true',Bool.or_eq_false_iff,Bool.and_eq_false_iff,decide_eq_true_eq,decide_eq_false_iff_not]
 omega
def Zfl:(Z04)→List AV:=fun s=>[.str s]
def Zkr:(Z04)→Prop:=fun s=>s.length≤SM
def Zk2:(Z04)→AV:=fun s=>.bool (Z1g s)
def ZkW:(Z04)→Heap:=fun s=>[]
theorem inj103:∀a b,Zfl a=Zfl b→a=b:=by
 rintro s s' h
 simp only [Zfl,Z0f,Z0h,Z0i,Z0g,Z0u,Z0F,Z0E,Z0z,Z0G,Z0D,Z0C,Z0J,List.cons.injEq,AV.int.injEq,AV.str.injEq,AV.bool.injEq,AV.sl.injEq,AV.agg.injEq,AV.ip.injEq,AV.fn.injEq,AV.ifc.injEq,AV.mpr.injEq,Int.natCast_inj,and_true,true_and] at h
 simp_all only
noncomputable def S103:Z0n:=Z2V Zfl Zkr Zk2 ZkW true
theorem Zko(s:(Z04)):Z1J Zfl Zkr [.str s]=(s.length≤SM):=Z0j inj103 Zkr s
theorem Zk0(s:(Z04)):Z10 Zfl Zk2 .any [.str s]=(.bool (Z1g s)):=Z08 inj103 Zk2 .any s
theorem ZkU(s:(Z04)):Z10 Zfl ZkW [] [.str s]=([]):=Z08 inj103 ZkW [] s
attribute [push_cast] S103 Zko Zk0 ZkU
theorem body103(Γ:Env)(s:Z04)(hs:s.length≤SM):Z0a Tryz.prog Γ Tryz.f106 (Zfl s) [] (.bool (Z1g s)) []:=by
 have hSM:SM=1048576:=rfl
 (intro X hP hΓ hL hfin; refine⟨_,rfl,?_⟩; rw [show Tryz.f106.ntmps=50 from rfl]; rw [show Tryz.f106.results.toList=[.tmp 2] from rfl] at hfin; apply holds_of_ex X 400; simp (maxSteps:=1000000) only [push_cast,reduceCtorEq,Nat.reduceAdd,Nat.reduceMul,Nat.reduceSub,Nat.reduceBEq,Nat.reduceGT,Nat.reduceLT,Int.toNat_zero,Nat.reduceLeDiff,Int.reduceEq,Int.reduceLT,Int.reduceLE,hP,hΓ,hL,hfin,↓Z00,Zfl])
 refine Z02 (fun h=>?_) (fun h=>?_)
 ·((first | with_reducible refine holds_of_ex X 400 _ _ _ ?_ | skip); simp (maxSteps:=1000000) only [push_cast,reduceCtorEq,Nat.reduceAdd,Nat.reduceMul,Nat.reduceSub,Nat.reduceBEq,Nat.reduceGT,Nat.reduceLT,Int.toNat_zero,Nat.reduceLeDiff,Int.reduceEq,Int.reduceLT,Int.reduceLE,hP,hΓ,hL,hfin,↓Z00])
  refine Z06.one ?_ rfl
  simp only [Bool.or_eq_true,beq_iff_eq,decide_eq_true_eq] at h
  rw [Z1g]
  rcases h with rfl | h
  ·rfl
  ·rw [show decide (s.length≤20)=false by rw [decide_eq_false_iff_not]; omega]; simp
 simp only [Bool.or_eq_false_iff,beq_eq_false_iff_ne,ne_eq,decide_eq_false_iff_not] at h
 have hn:Z1g s=Z24 may s s.length:=by
  rw [Z1g,show decide (s≠[])=true from decide_eq_true h.1,show decide (s.length≤20)=true from decide_eq_true (by omega)]; simp
 ((first | with_reducible refine holds_of_ex X 400 _ _ _ ?_ | skip); simp (maxSteps:=1000000) only [push_cast,reduceCtorEq,Nat.reduceAdd,Nat.reduceMul,Nat.reduceSub,Nat.reduceBEq,Nat.reduceGT,Nat.reduceLT,Int.toNat_zero,Nat.reduceLeDiff,Int.reduceEq,Int.reduceLT,Int.reduceLE,hP,hΓ,hL,hfin,↓Z00])
 refine Holds.loopM (ι:={k:Nat // k≤s.length∧Z24 may s k=true}) [true,false,false,false,false,false,false,false,false,false,false,false,false,false,false,false,false,false,false,false,false,false,false,false,false,false,false,false,false,false,false,false,false,false,false,false,false,false,false,false,false,false,false,false,false,false,false,false,false,false] (fun i=>[(3,.int .i64 i.1)]) (fun i=>[]) (fun i=>s.length - i.1) ⟨0,Nat.zero_le _,rfl⟩ ?_ ?_
 ·(rw [hL]; simp only [push_cast,Int.natCast_zero]; exact Z06.sameA)
 rintro⟨k,hk,ha⟩
 ((first | with_reducible refine holds_of_ex X 400 _ _ _ ?_ | skip); simp (maxSteps:=1000000) only [push_cast,reduceCtorEq,Nat.reduceAdd,Nat.reduceMul,Nat.reduceSub,Nat.reduceBEq,Nat.reduceGT,Nat.reduceLT,Int.toNat_zero,Nat.reduceLeDiff,Int.reduceEq,Int.reduceLT,Int.reduceLE,hP,hΓ,hL,hfin,↓Z00])
 ((with_reducible refine Z02 (fun h=>?_) (fun h=>?_)) <;> (try simp only [decide_eq_true_eq,decide_eq_false_iff_not,Bool.and_eq_true,Bool.or_eq_true,Bool.and_eq_false_iff,Bool.or_eq_false_iff,Bool.not_eq_true',Bool.not_eq_false',Bool.not_eq_true,Bool.not_eq_false,Int.not_lt,Int.not_le,beq_iff_eq,beq_eq_false_iff_ne,ne_eq,win_t,win_f] at h))
 ·((first | with_reducible refine holds_of_ex X 400 _ _ _ ?_ | skip); simp (maxSteps:=1000000) only [push_cast,reduceCtorEq,Nat.reduceAdd,Nat.reduceMul,Nat.reduceSub,Nat.reduceBEq,Nat.reduceGT,Nat.reduceLT,Int.toNat_zero,Nat.reduceLeDiff,Int.reduceEq,Int.reduceLT,Int.reduceLE,hP,hΓ,hL,hfin,↓Z00])
  (repeat (refine And.intro (by first | exact True.intro | omega | assumption | exact own_row _ | (simp only [List.length_append]; omega) | (intro hg; (try simp only [decide_eq_true_eq,decide_eq_false_iff_not,Bool.and_eq_true,Bool.or_eq_true,Bool.and_eq_false_iff,Bool.or_eq_false_iff,Bool.not_eq_true',Bool.not_eq_false',Bool.not_eq_true,Bool.not_eq_false,Int.not_lt,Int.not_le,beq_iff_eq,beq_eq_false_iff_ne,ne_eq,win_t,win_f] at hg); omega)) ?_))
  rw [Zhc]
  ((with_reducible refine Z02 (fun h=>?_) (fun h=>?_)) <;> (try simp only [decide_eq_true_eq,decide_eq_false_iff_not,Bool.and_eq_true,Bool.or_eq_true,Bool.and_eq_false_iff,Bool.or_eq_false_iff,Bool.not_eq_true',Bool.not_eq_false',Bool.not_eq_true,Bool.not_eq_false,Int.not_lt,Int.not_le,beq_iff_eq,beq_eq_false_iff_ne,ne_eq,win_t,win_f] at h))
  ·((first | with_reducible refine holds_of_ex X 400 _ _ _ ?_ | skip); simp (maxSteps:=1000000) only [push_cast,reduceCtorEq,Nat.reduceAdd,Nat.reduceMul,Nat.reduceSub,Nat.reduceBEq,Nat.reduceGT,Nat.reduceLT,Int.toNat_zero,Nat.reduceLeDiff,Int.reduceEq,Int.reduceLT,Int.reduceLE,hP,hΓ,hL,hfin,↓Z00])
   exact Z06.one (by rw [hn,Z1h (k:=k) (by omega) h]) rfl
  ·((first | with_reducible refine holds_of_ex X 400 _ _ _ ?_ | skip); simp (maxSteps:=1000000) only [push_cast,reduceCtorEq,Nat.reduceAdd,Nat.reduceMul,Nat.reduceSub,Nat.reduceBEq,Nat.reduceGT,Nat.reduceLT,Int.toNat_zero,Nat.reduceLeDiff,Int.reduceEq,Int.reduceLT,Int.reduceLE,hP,hΓ,hL,hfin,↓Z00,Z0c ((k:Int)+1) (by constructor <;> omega)])
   (refine⟨⟨k+1,by omega,by rw [Z1w,ha,Bool.true_and]; exact h⟩,by (try simp only [List.length_cons,List.length_append,List.length_nil]); omega,?_⟩; (try rw [hL]); (try simp only [push_cast,Int.natCast_zero]); first | (exact Z06.sameA) | (exact Z06.keep0A) | (exact Z06.keep1A) | (exact Z06.keep2A) | (exact Z06.keep3A))
 ·((first | with_reducible refine holds_of_ex X 400 _ _ _ ?_ | skip); simp (maxSteps:=1000000) only [push_cast,reduceCtorEq,Nat.reduceAdd,Nat.reduceMul,Nat.reduceSub,Nat.reduceBEq,Nat.reduceGT,Nat.reduceLT,Int.toNat_zero,Nat.reduceLeDiff,Int.reduceEq,Int.reduceLT,Int.reduceLE,hP,hΓ,hL,hfin,↓Z00])
  obtain rfl:k=s.length:=by omega
  exact Z06.one (by rw [hn,ha]) rfl
theorem con103{Γ:Env}(h:Z07 Tryz.prog Γ):Con Tryz.prog 106 S103:=
 Z0t h (fn:=Tryz.f106) (by kernel_rfl) rfl (by kernel_rfl) inj103 (by first | (intro h; cases h; done) | exact fun _ _=>rfl) fun s hs=>body103 Γ s hs
def ZaI(ds:List Ds)(t:Int):Bool:=ds.any fun d=>decide (d.ty=t)
def e98:(List Ds)×(Nat)×(Int)→List AV:=fun (ds,n,t)=>[.sl (ds.flatMap Ds.c) n,.int .i64 t]
def p98:(List Ds)×(Nat)×(Int)→Prop:=fun (ds,n,t)=>n=ds.length∧ds.length≤SM
def r98:(List Ds)×(Nat)×(Int)→AV:=fun (ds,n,t)=>.bool (ZaI ds t)
def g98:(List Ds)×(Nat)×(Int)→Heap:=fun (ds,n,t)=>[]
theorem inj98:∀a b,e98 a=e98 b→a=b:=by
 rintro⟨ds,n,t⟩ ⟨ds',n',t'⟩ h
 simp only [e98,Z0f,Z0h,Z0i,Z0g,Z0u,Z0F,Z0E,Z0z,Z0G,Z0D,Z0C,Z0J,List.cons.injEq,AV.int.injEq,AV.str.injEq,AV.bool.injEq,AV.sl.injEq,AV.agg.injEq,AV.ip.injEq,AV.fn.injEq,AV.ifc.injEq,AV.mpr.injEq,Int.natCast_inj,and_true,true_and] at h
 simp_all only
noncomputable def S98:Z0n:=Z2V e98 p98 r98 g98 true
theorem ps98(ds:(List Ds))(n:(Nat))(t:(Int)):Z1J e98 p98 [.sl (ds.flatMap Ds.c) n,.int .i64 t]=(n=ds.length∧ds.length≤SM):=Z0j inj98 p98 (ds,n,t)
theorem rs98(ds:(List Ds))(n:(Nat))(t:(Int)):Z10 e98 r98 .any [.sl (ds.flatMap Ds.c) n,.int .i64 t]=(.bool (ZaI ds t)):=Z08 inj98 r98 .any (ds,n,t)
theorem hs98(ds:(List Ds))(n:(Nat))(t:(Int)):Z10 e98 g98 [] [.sl (ds.flatMap Ds.c) n,.int .i64 t]=([]):=Z08 inj98 g98 [] (ds,n,t)
attribute [push_cast] S98 ps98 rs98 hs98
theorem body98(Γ:Env)(ds:List Ds)(t:Int)(hs:ds.length≤SM):Z0a Tryz.prog Γ Tryz.f101 (e98 (ds,ds.length,t)) [] (.bool (ZaI ds t)) []:=by
 have hSM:SM=1048576:=rfl
 (intro X hP hΓ hL hfin; refine⟨_,rfl,?_⟩; rw [show Tryz.f101.ntmps=19 from rfl]; rw [show Tryz.f101.results.toList=[.tmp 4] from rfl] at hfin; apply holds_of_ex X 400; simp (maxSteps:=1000000) only [push_cast,reduceCtorEq,Nat.reduceAdd,Nat.reduceMul,Nat.reduceSub,Nat.reduceBEq,Nat.reduceGT,Nat.reduceLT,Int.toNat_zero,Nat.reduceLeDiff,Int.reduceEq,Int.reduceLT,Int.reduceLE,hP,hΓ,hL,hfin,↓Z00,e98])
 refine Holds.loopM (ι:={k:Nat // k≤ds.length∧∀j<k,(ds.getD j default).ty≠t}) [true,true,false,false,false,false,false,false,false,false,false,false,false,false,false,false,false,false,false] (fun i=>[(5,.int .i64 i.1)]) (fun i=>[]) (fun i=>ds.length - i.1) ⟨0,Nat.zero_le _,fun j hj=>absurd hj (Nat.not_lt_zero _)⟩ ?_ ?_
 ·(rw [hL]; simp only [push_cast,Int.natCast_zero]; exact Z06.sameA)
 rintro⟨k,hk,ha⟩
 ((first | with_reducible refine holds_of_ex X 400 _ _ _ ?_ | skip); simp (maxSteps:=1000000) only [push_cast,reduceCtorEq,Nat.reduceAdd,Nat.reduceMul,Nat.reduceSub,Nat.reduceBEq,Nat.reduceGT,Nat.reduceLT,Int.toNat_zero,Nat.reduceLeDiff,Int.reduceEq,Int.reduceLT,Int.reduceLE,hP,hΓ,hL,hfin,↓Z00])
 ((with_reducible refine Z02 (fun h=>?_) (fun h=>?_)) <;> (try simp only [decide_eq_true_eq,decide_eq_false_iff_not,Bool.and_eq_true,Bool.or_eq_true,Bool.and_eq_false_iff,Bool.or_eq_false_iff,Bool.not_eq_true',Bool.not_eq_false',Bool.not_eq_true,Bool.not_eq_false,Int.not_lt,Int.not_le,beq_iff_eq,beq_eq_false_iff_ne,ne_eq,win_t,win_f] at h))
 ·have hk':k<ds.length:=by omega
  ((first | with_reducible refine holds_of_ex X 400 _ _ _ ?_ | skip); simp (maxSteps:=1000000) only [push_cast,reduceCtorEq,Nat.reduceAdd,Nat.reduceMul,Nat.reduceSub,Nat.reduceBEq,Nat.reduceGT,Nat.reduceLT,Int.toNat_zero,Nat.reduceLeDiff,Int.reduceEq,Int.reduceLT,Int.reduceLE,hP,hΓ,hL,hfin,↓Z00,hk'])
  (repeat (refine And.intro (by first | exact True.intro | omega | assumption | exact own_row _ | (simp only [List.length_append]; omega) | (intro hg; (try simp only [decide_eq_true_eq,decide_eq_false_iff_not,Bool.and_eq_true,Bool.or_eq_true,Bool.and_eq_false_iff,Bool.or_eq_false_iff,Bool.not_eq_true',Bool.not_eq_false',Bool.not_eq_true,Bool.not_eq_false,Int.not_lt,Int.not_le,beq_iff_eq,beq_eq_false_iff_ne,ne_eq,win_t,win_f] at hg); omega)) ?_))
  ((with_reducible refine Z02 (fun h=>?_) (fun h=>?_)) <;> (try simp only [decide_eq_true_eq,decide_eq_false_iff_not,Bool.and_eq_true,Bool.or_eq_true,Bool.and_eq_false_iff,Bool.or_eq_false_iff,Bool.not_eq_true',Bool.not_eq_false',Bool.not_eq_true,Bool.not_eq_false,Int.not_lt,Int.not_le,beq_iff_eq,beq_eq_false_iff_ne,ne_eq,win_t,win_f] at h))
  ·((first | with_reducible refine holds_of_ex X 400 _ _ _ ?_ | skip); simp (maxSteps:=1000000) only [push_cast,reduceCtorEq,Nat.reduceAdd,Nat.reduceMul,Nat.reduceSub,Nat.reduceBEq,Nat.reduceGT,Nat.reduceLT,Int.toNat_zero,Nat.reduceLeDiff,Int.reduceEq,Int.reduceLT,Int.reduceLE,hP,hΓ,hL,hfin,↓Z00])
   refine Z06.one ?_ rfl
   have:ZaI ds t=true:=List.any_eq_true.2 ⟨_,at_mem hk',by simpa using h⟩
   rw [this]
  ·((first | with_reducible refine holds_of_ex X 400 _ _ _ ?_ | skip); simp (maxSteps:=1000000) only [push_cast,reduceCtorEq,Nat.reduceAdd,Nat.reduceMul,Nat.reduceSub,Nat.reduceBEq,Nat.reduceGT,Nat.reduceLT,Int.toNat_zero,Nat.reduceLeDiff,Int.reduceEq,Int.reduceLT,Int.reduceLE,hP,hΓ,hL,hfin,↓Z00,Z0c ((k:Int)+1) (by constructor <;> omega)])
   (refine⟨⟨k+1,by omega,fun j hj=>(Nat.lt_succ_iff_lt_or_eq.1 hj).elim (ha j) (fun e=>e▸h)⟩,by (try simp only [List.length_cons,List.length_append,List.length_nil]); omega,?_⟩; (try rw [hL]); (try simp only [push_cast,Int.natCast_zero]); first | (exact Z06.sameA) | (exact Z06.keep0A) | (exact Z06.keep1A) | (exact Z06.keep2A) | (exact Z06.keep3A))
 ·((first | with_reducible refine holds_of_ex X 400 _ _ _ ?_ | skip); simp (maxSteps:=1000000) only [push_cast,reduceCtorEq,Nat.reduceAdd,Nat.reduceMul,Nat.reduceSub,Nat.reduceBEq,Nat.reduceGT,Nat.reduceLT,Int.toNat_zero,Nat.reduceLeDiff,Int.reduceEq,Int.reduceLT,Int.reduceLE,hP,hΓ,hL,hfin,↓Z00])
  obtain rfl:k=ds.length:=by omega
  refine Z06.one ?_ rfl
  have:ZaI ds t=false:=by
   rw [ZaI,List.any_eq_false]
   intro d hd
   obtain⟨i,hi,rfl⟩:=List.mem_iff_getElem.1 hd
   have:=ha i hi
   simpa [List.getD,hi] using this
  rw [this]
theorem con98{Γ:Env}(h:Z07 Tryz.prog Γ):Con Tryz.prog 101 S98:=
 Z0t h (fn:=Tryz.f101) (by kernel_rfl) rfl (by kernel_rfl) inj98 (by first | (intro h; cases h; done) | exact fun _ _=>rfl) fun ⟨ds,n,t⟩ h=>by obtain⟨rfl,h⟩:=h; exact body98 Γ ds t h
def e97:(List Z04)×(Nat)→List AV:=fun (xs,n)=>[.sl (xs.map .str) n]
def p97:(List Z04)×(Nat)→Prop:=fun (xs,n)=>n=xs.length∧xs.length≤SM∧∀s∈xs,s.length≤SM
def r97:(List Z04)×(Nat)→AV:=fun (xs,n)=>.bool (Z2g xs)
def g97:(List Z04)×(Nat)→Heap:=fun (xs,n)=>[]
theorem inj97:∀a b,e97 a=e97 b→a=b:=by
 rintro⟨xs,n⟩ ⟨xs',n'⟩ h
 simp only [e97,Z0f,Z0h,Z0i,Z0g,Z0u,Z0F,Z0E,Z0z,Z0G,Z0D,Z0C,Z0J,List.cons.injEq,AV.int.injEq,AV.str.injEq,AV.bool.injEq,AV.sl.injEq,AV.agg.injEq,AV.ip.injEq,AV.fn.injEq,AV.ifc.injEq,AV.mpr.injEq,Int.natCast_inj,and_true,true_and] at h
 simp_all only
noncomputable def S97:Z0n:=Z2V e97 p97 r97 g97 true
theorem ps97(xs:(List Z04))(n:(Nat)):Z1J e97 p97 [.sl (xs.map .str) n]=(n=xs.length∧xs.length≤SM∧∀s∈xs,s.length≤SM):=Z0j inj97 p97 (xs,n)
theorem rs97(xs:(List Z04))(n:(Nat)):Z10 e97 r97 .any [.sl (xs.map .str) n]=(.bool (Z2g xs)):=Z08 inj97 r97 .any (xs,n)
theorem hs97(xs:(List Z04))(n:(Nat)):Z10 e97 g97 [] [.sl (xs.map .str) n]=([]):=Z08 inj97 g97 [] (xs,n)
attribute [push_cast] S97 ps97 rs97 hs97
theorem body97(Γ:Env)(h103:Γ 106=some S103)(xs:List Z04)(hl:xs.length≤SM)(hs:∀s∈xs,s.length≤SM):Z0a Tryz.prog Γ Tryz.f100 (e97 (xs,xs.length)) [] (.bool (Z2g xs)) []:=by
 have hSM:SM=1048576:=rfl
 (intro X hP hΓ hL hfin; refine⟨_,rfl,?_⟩; rw [show Tryz.f100.ntmps=33 from rfl]; rw [show Tryz.f100.results.toList=[.tmp 2] from rfl] at hfin; apply holds_of_ex X 400; simp (maxSteps:=1000000) only [push_cast,reduceCtorEq,Nat.reduceAdd,Nat.reduceMul,Nat.reduceSub,Nat.reduceBEq,Nat.reduceGT,Nat.reduceLT,Int.toNat_zero,Nat.reduceLeDiff,Int.reduceEq,Int.reduceLT,Int.reduceLE,hP,hΓ,hL,hfin,↓Z00,e97])
 refine Holds.loopM (ι:={k:Nat // k≤xs.length∧(∀j<k,Z1g (xs.getD j default)=true)∧∀j<k,∀i<j,xs.getD i default≠xs.getD j default}) [true,false,false,false,false,false,false,false,false,false,false,false,false,false,false,false,false,false,false,false,false,false,false,false,false,false,false,false,false,false,false,false,false] (fun i=>[(3,.int .i64 i.1)]) (fun i=>[]) (fun i=>xs.length - i.1) ⟨0,Nat.zero_le _,fun j hj=>absurd hj (Nat.not_lt_zero _),fun j hj=>absurd hj (Nat.not_lt_zero _)⟩ ?_ ?_
 ·(rw [hL]; simp only [push_cast,Int.natCast_zero]; exact Z06.sameA)
 rintro⟨k,hk,ha,hd⟩
 ((first | with_reducible refine holds_of_ex X 400 _ _ _ ?_ | skip); simp (maxSteps:=1000000) only [push_cast,reduceCtorEq,Nat.reduceAdd,Nat.reduceMul,Nat.reduceSub,Nat.reduceBEq,Nat.reduceGT,Nat.reduceLT,Int.toNat_zero,Nat.reduceLeDiff,Int.reduceEq,Int.reduceLT,Int.reduceLE,hP,hΓ,hL,hfin,↓Z00])
 ((with_reducible refine Z02 (fun h=>?_) (fun h=>?_)) <;> (try simp only [decide_eq_true_eq,decide_eq_false_iff_not,Bool.and_eq_true,Bool.or_eq_true,Bool.and_eq_false_iff,Bool.or_eq_false_iff,Bool.not_eq_true',Bool.not_eq_false',Bool.not_eq_true,Bool.not_eq_false,Int.not_lt,Int.not_le,beq_iff_eq,beq_eq_false_iff_ne,ne_eq,win_t,win_f] at h))
 ·have hk':k<xs.length:=by omega
  ((first | with_reducible refine holds_of_ex X 400 _ _ _ ?_ | skip); simp (maxSteps:=1000000) only [push_cast,reduceCtorEq,Nat.reduceAdd,Nat.reduceMul,Nat.reduceSub,Nat.reduceBEq,Nat.reduceGT,Nat.reduceLT,Int.toNat_zero,Nat.reduceLeDiff,Int.reduceEq,Int.reduceLT,Int.reduceLE,hP,hΓ,hL,hfin,↓Z00,h103])
  refine⟨by omega,by omega,hs _ (at_mem hk'),?_⟩
  ((with_reducible refine Z02 (fun h=>?_) (fun h=>?_)) <;> (try simp only [decide_eq_true_eq,decide_eq_false_iff_not,Bool.and_eq_true,Bool.or_eq_true,Bool.and_eq_false_iff,Bool.or_eq_false_iff,Bool.not_eq_true',Bool.not_eq_false',Bool.not_eq_true,Bool.not_eq_false,Int.not_lt,Int.not_le,beq_iff_eq,beq_eq_false_iff_ne,ne_eq,win_t,win_f] at h))
  ·((first | with_reducible refine holds_of_ex X 400 _ _ _ ?_ | skip); simp (maxSteps:=1000000) only [push_cast,reduceCtorEq,Nat.reduceAdd,Nat.reduceMul,Nat.reduceSub,Nat.reduceBEq,Nat.reduceGT,Nat.reduceLT,Int.toNat_zero,Nat.reduceLeDiff,Int.reduceEq,Int.reduceLT,Int.reduceLE,hP,hΓ,hL,hfin,↓Z00])
   refine Z06.one ?_ rfl
   have:xs.all Z1g=false:=List.all_eq_false.2 ⟨_,at_mem hk',by rw [h]; simp⟩
   rw [Z2g,this]; rfl
  have hnm:=h
  ((first | with_reducible refine holds_of_ex X 400 _ _ _ ?_ | skip); simp (maxSteps:=1000000) only [push_cast,reduceCtorEq,Nat.reduceAdd,Nat.reduceMul,Nat.reduceSub,Nat.reduceBEq,Nat.reduceGT,Nat.reduceLT,Int.toNat_zero,Nat.reduceLeDiff,Int.reduceEq,Int.reduceLT,Int.reduceLE,hP,hΓ,hL,hfin,↓Z00])
  refine Holds.loopM (ι:={j:Nat // j≤k∧∀i<j,xs.getD i default≠xs.getD k default}) [true,false,false,true,false,false,false,false,false,false,false,false,false,false,false,false,false,false,false,false,false,false,false,false,false,false,false,false,false,false,false,false,false] (fun i=>[(5,.int .i64 i.1),(3,.int .i64 k)]) (fun i=>[]) (fun i=>k - i.1) ⟨0,Nat.zero_le _,fun j hj=>absurd hj (Nat.not_lt_zero _)⟩ ?_ ?_
  ·(rw [hL]; simp only [push_cast,Int.natCast_zero]; exact Z06.sameA)
  rintro⟨j,hj,hdj⟩
  ((first | with_reducible refine holds_of_ex X 400 _ _ _ ?_ | skip); simp (maxSteps:=1000000) only [push_cast,reduceCtorEq,Nat.reduceAdd,Nat.reduceMul,Nat.reduceSub,Nat.reduceBEq,Nat.reduceGT,Nat.reduceLT,Int.toNat_zero,Nat.reduceLeDiff,Int.reduceEq,Int.reduceLT,Int.reduceLE,hP,hΓ,hL,hfin,↓Z00])
  ((with_reducible refine Z02 (fun h=>?_) (fun h=>?_)) <;> (try simp only [decide_eq_true_eq,decide_eq_false_iff_not,Bool.and_eq_true,Bool.or_eq_true,Bool.and_eq_false_iff,Bool.or_eq_false_iff,Bool.not_eq_true',Bool.not_eq_false',Bool.not_eq_true,Bool.not_eq_false,Int.not_lt,Int.not_le,beq_iff_eq,beq_eq_false_iff_ne,ne_eq,win_t,win_f] at h))
  ·((first | with_reducible refine holds_of_ex X 400 _ _ _ ?_ | skip); simp (maxSteps:=1000000) only [push_cast,reduceCtorEq,Nat.reduceAdd,Nat.reduceMul,Nat.reduceSub,Nat.reduceBEq,Nat.reduceGT,Nat.reduceLT,Int.toNat_zero,Nat.reduceLeDiff,Int.reduceEq,Int.reduceLT,Int.reduceLE,hP,hΓ,hL,hfin,↓Z00])
   (refine Holds.drawnQ (by rw [hP]; kernel_rfl) (by kernel_rfl) ?_; simp (maxSteps:=1000000) only [push_cast,reduceCtorEq,Nat.reduceAdd,Nat.reduceMul,Nat.reduceSub,Nat.reduceBEq,Nat.reduceGT,Nat.reduceLT,Int.toNat_zero,Nat.reduceLeDiff,Int.reduceEq,Int.reduceLT,Int.reduceLE,hP,hΓ,hL,hfin,↓Z00])
   (repeat (refine And.intro (by first | exact True.intro | omega | assumption | exact own_row _ | (simp only [List.length_append]; omega) | (intro hg; (try simp only [decide_eq_true_eq,decide_eq_false_iff_not,Bool.and_eq_true,Bool.or_eq_true,Bool.and_eq_false_iff,Bool.or_eq_false_iff,Bool.not_eq_true',Bool.not_eq_false',Bool.not_eq_true,Bool.not_eq_false,Int.not_lt,Int.not_le,beq_iff_eq,beq_eq_false_iff_ne,ne_eq,win_t,win_f] at hg); omega)) ?_))
   ((with_reducible refine Z02 (fun h=>?_) (fun h=>?_)) <;> (try simp only [decide_eq_true_eq,decide_eq_false_iff_not,Bool.and_eq_true,Bool.or_eq_true,Bool.and_eq_false_iff,Bool.or_eq_false_iff,Bool.not_eq_true',Bool.not_eq_false',Bool.not_eq_true,Bool.not_eq_false,Int.not_lt,Int.not_le,beq_iff_eq,beq_eq_false_iff_ne,ne_eq,win_t,win_f] at h))
   ·((first | with_reducible refine holds_of_ex X 400 _ _ _ ?_ | skip); simp (maxSteps:=1000000) only [push_cast,reduceCtorEq,Nat.reduceAdd,Nat.reduceMul,Nat.reduceSub,Nat.reduceBEq,Nat.reduceGT,Nat.reduceLT,Int.toNat_zero,Nat.reduceLeDiff,Int.reduceEq,Int.reduceLT,Int.reduceLE,hP,hΓ,hL,hfin,↓Z00])
    refine Z06.one ?_ rfl
    have:¬xs.Nodup:=by
     intro hn
     have h1:xs.getD j default=xs[j]'(by omega):=by simp [List.getD,show j<xs.length by omega]
     have h2:xs.getD k default=xs[k]:=by simp [List.getD,hk']
     rw [h1,h2] at h
     exact List.pairwise_iff_getElem.1 (List.nodup_iff_pairwise_ne.1 hn) j k (by omega) hk' (by omega) h
    rw [Z2g,decide_eq_false this]; simp
   ·((first | with_reducible refine holds_of_ex X 400 _ _ _ ?_ | skip); simp (maxSteps:=1000000) only [push_cast,reduceCtorEq,Nat.reduceAdd,Nat.reduceMul,Nat.reduceSub,Nat.reduceBEq,Nat.reduceGT,Nat.reduceLT,Int.toNat_zero,Nat.reduceLeDiff,Int.reduceEq,Int.reduceLT,Int.reduceLE,hP,hΓ,hL,hfin,↓Z00,Z0c ((j:Int)+1) (by constructor <;> omega)])
    (refine⟨⟨j+1,by omega,fun i hi=>(Nat.lt_succ_iff_lt_or_eq.1 hi).elim (hdj i) (fun e=>e▸h)⟩,by (try simp only [List.length_cons,List.length_append,List.length_nil]); omega,?_⟩; (try rw [hL]); (try simp only [push_cast,Int.natCast_zero]); first | (exact Z06.sameA) | (exact Z06.keep0A) | (exact Z06.keep1A) | (exact Z06.keep2A) | (exact Z06.keep3A))
  ·obtain rfl:j=k:=by omega
   ((first | with_reducible refine holds_of_ex X 400 _ _ _ ?_ | skip); simp (maxSteps:=1000000) only [push_cast,reduceCtorEq,Nat.reduceAdd,Nat.reduceMul,Nat.reduceSub,Nat.reduceBEq,Nat.reduceGT,Nat.reduceLT,Int.toNat_zero,Nat.reduceLeDiff,Int.reduceEq,Int.reduceLT,Int.reduceLE,hP,hΓ,hL,hfin,↓Z00,Z0c ((j:Int)+1) (by constructor <;> omega)])
   (refine⟨⟨j+1,by omega,fun i hi=>(Nat.lt_succ_iff_lt_or_eq.1 hi).elim (ha i) (fun e=>e▸hnm),fun i hi=>(Nat.lt_succ_iff_lt_or_eq.1 hi).elim (hd i) (fun e=>e▸hdj)⟩,by (try simp only [List.length_cons,List.length_append,List.length_nil]); omega,?_⟩; (try rw [hL]); (try simp only [push_cast,Int.natCast_zero]); first | (exact Z06.sameA) | (exact Z06.keep0A) | (exact Z06.keep1A) | (exact Z06.keep2A) | (exact Z06.keep3A))
 ·((first | with_reducible refine holds_of_ex X 400 _ _ _ ?_ | skip); simp (maxSteps:=1000000) only [push_cast,reduceCtorEq,Nat.reduceAdd,Nat.reduceMul,Nat.reduceSub,Nat.reduceBEq,Nat.reduceGT,Nat.reduceLT,Int.toNat_zero,Nat.reduceLeDiff,Int.reduceEq,Int.reduceLT,Int.reduceLE,hP,hΓ,hL,hfin,↓Z00])
  obtain rfl:k=xs.length:=by omega
  refine Z06.one ?_ rfl
  have h1:xs.all Z1g=true:=by
   rw [List.all_eq_true]
   intro x hx
   obtain⟨i,hi,rfl⟩:=List.mem_iff_getElem.1 hx
   have:=ha i hi
   simpa [List.getD,hi] using this
  have h2:xs.Nodup:=by
   rw [List.nodup_iff_pairwise_ne,List.pairwise_iff_getElem]
   intro i j hi hj hij
   have:=hd j hj i hij
   simpa [List.getD,hi,hj] using this
  rw [Z2g,h1,decide_eq_true h2]; rfl
theorem con97{Γ:Env}(h:Z07 Tryz.prog Γ)(h103:Γ 106=some S103):Con Tryz.prog 100 S97:=
 Z0t h (fn:=Tryz.f100) (by kernel_rfl) rfl (by kernel_rfl) inj97 (by first | (intro h; cases h; done) | exact fun _ _=>rfl) fun ⟨xs,n⟩ h=>by obtain⟨rfl,h1,h2⟩:=h; exact body97 Γ h103 xs h1 h2
end Go.Proofs.YtmomhjmaanagaaaGreat.objDone