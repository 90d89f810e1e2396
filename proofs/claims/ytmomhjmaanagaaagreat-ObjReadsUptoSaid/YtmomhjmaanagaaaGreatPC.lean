/- Of objects: the document's judgement, and that it is the program's. Conditions stand in each. -/
import Derived.Test.YtmomhjmaanagaaaGreatPB
set_option linter.unusedVariables false
set_option linter.unusedSimpArgs false
set_option maxRecDepth 100000
set_option maxHeartbeats 4000000
namespace Go.Proofs.YtmomhjmaanagaaaGreat.objDone
open Go Go.Eng Go.Proofs
abbrev obD(ds:List Ds):Ob:={ (default:Ob) with descs:=ds }
theorem Zh4(ds:List Ds):(obD ds).descs=ds:=rfl
theorem ZbL(ds:List Ds)(i:Nat)(t:Int):q62 (fH ds) i t=ZaI ds t:=Zcq ds t
def qR(ds:List Ds):Nat→Ds→Bool:=q61 (obD ds) (fH ds)
def e68:(List Ds)×(Nat)→List AV:=fun (ds,n)=>[.sl (ds.flatMap Ds.c) n]
def p68:(List Ds)×(Nat)→Prop:=fun (ds,n)=>n=ds.length∧ds.length≤SM∧∀d∈ds,d.tags.length≤SM
def r68:(List Ds)×(Nat)→AV:=fun (ds,n)=>.bool (Z24 (qR ds) ds ds.length)
def g68:(List Ds)×(Nat)→Heap:=fun (ds,n)=>[]
theorem inj68:∀a b,e68 a=e68 b→a=b:=by
 rintro⟨ds,n⟩ ⟨ds',n'⟩ h
 simp only [e68,Z0f,Z0h,Z0i,Z0g,Z0u,Z0F,Z0E,Z0z,Z0G,Z0D,Z0C,Z0J,List.cons.injEq,AV.int.injEq,AV.str.injEq,AV.bool.injEq,AV.sl.injEq,AV.agg.injEq,AV.ip.injEq,AV.fn.injEq,AV.ifc.injEq,AV.mpr.injEq,Int.natCast_inj,and_true,true_and] at h
 simp_all only
noncomputable def S68:Z0n:=Z2V e68 p68 r68 g68 true
theorem ps68(ds:(List Ds))(n:(Nat)):Z1J e68 p68 [.sl (ds.flatMap Ds.c) n]=(n=ds.length∧ds.length≤SM∧∀d∈ds,d.tags.length≤SM):=Z0j inj68 p68 (ds,n)
theorem rs68(ds:(List Ds))(n:(Nat)):Z10 e68 r68 .any [.sl (ds.flatMap Ds.c) n]=(.bool (Z24 (qR ds) ds ds.length)):=Z08 inj68 r68 .any (ds,n)
theorem hs68(ds:(List Ds))(n:(Nat)):Z10 e68 g68 [] [.sl (ds.flatMap Ds.c) n]=([]):=Z08 inj68 g68 [] (ds,n)
attribute [push_cast] S68 ps68 rs68 hs68
theorem body68(Γ:Env)(h98:Γ 101=some S98)(ds:List Ds)(hl:ds.length≤SM)(hs:∀d∈ds,d.tags.length≤SM):Z0a Tryz.prog Γ Tryz.f89 (e68 (ds,ds.length)) [] (.bool (Z24 (qR ds) ds ds.length)) []:=by
 have hSM:SM=1048576:=rfl
 (intro X hP hΓ hL hfin; refine⟨_,rfl,?_⟩; rw [show Tryz.f89.ntmps=91 from rfl]; rw [show Tryz.f89.results.toList=[.tmp 2] from rfl] at hfin; apply holds_of_ex X 400; simp (maxSteps:=1000000) only [push_cast,reduceCtorEq,Nat.reduceAdd,Nat.reduceMul,Nat.reduceSub,Nat.reduceBEq,Nat.reduceGT,Nat.reduceLT,Int.toNat_zero,Nat.reduceLeDiff,Int.reduceEq,Int.reduceLT,Int.reduceLE,hP,hΓ,hL,hfin,↓Z00,e68])
 refine Holds.loopM (ι:={k:Nat // k≤ds.length∧Z24 (qR ds) ds k=true}) [true,false,false,false,false,false,false,false,false,false,false,false,false,false,false,false,false,false,false,false,false,false,false,false,false,false,false,false,false,false,false,false,false,false,false,false,false,false,false,false,false,false,false,false,false,false,false,false,false,false,false,false,false,false,false,false,false,false,false,false,false,false,false,false,false,false,false,false,false,false,false,false,false,false,false,false,false,false,false,false,false,false,false,false,false,false,false,false,false,false,false] (fun i=>[(3,.int .i64 i.1)]) (fun i=>[]) (fun i=>ds.length - i.1) ⟨0,Nat.zero_le _,rfl⟩ ?_ ?_
 ·(rw [hL]; simp only [push_cast,Int.natCast_zero]; exact Z06.sameA)
 rintro⟨k,hk,ha⟩
 ((first | with_reducible refine holds_of_ex X 400 _ _ _ ?_ | skip); simp (maxSteps:=1000000) only [push_cast,reduceCtorEq,Nat.reduceAdd,Nat.reduceMul,Nat.reduceSub,Nat.reduceBEq,Nat.reduceGT,Nat.reduceLT,Int.toNat_zero,Nat.reduceLeDiff,Int.reduceEq,Int.reduceLT,Int.reduceLE,hP,hΓ,hL,hfin,↓Z00])
 ((with_reducible refine Z02 (fun h=>?_) (fun h=>?_)) <;> (try simp only [decide_eq_true_eq,decide_eq_false_iff_not,Bool.and_eq_true,Bool.or_eq_true,Bool.and_eq_false_iff,Bool.or_eq_false_iff,Bool.not_eq_true',Bool.not_eq_false',Bool.not_eq_true,Bool.not_eq_false,Int.not_lt,Int.not_le,beq_iff_eq,beq_eq_false_iff_ne,ne_eq,win_t,win_f] at h))
 ·have hk':k<ds.length:=by omega
  have htl:=hs _ (at_mem hk')
  generalize hd:ds.getD k default=d at htl
  have hf:∀b:Bool,b=false→qR ds k d=b→Z24 (qR ds) ds ds.length=false:=fun b hb hq=>Z1h (k:=k) hk' (by rw [hd,hq,hb])
  ((first | with_reducible refine holds_of_ex X 400 _ _ _ ?_ | skip); simp (maxSteps:=1000000) only [push_cast,reduceCtorEq,Nat.reduceAdd,Nat.reduceMul,Nat.reduceSub,Nat.reduceBEq,Nat.reduceGT,Nat.reduceLT,Int.toNat_zero,Nat.reduceLeDiff,Int.reduceEq,Int.reduceLT,Int.reduceLE,hP,hΓ,hL,hfin,↓Z00,hk',hd])
  (repeat (refine And.intro (by first | exact True.intro | omega | assumption | exact own_row _ | (simp only [List.length_append]; omega) | (intro hg; (try simp only [decide_eq_true_eq,decide_eq_false_iff_not,Bool.and_eq_true,Bool.or_eq_true,Bool.and_eq_false_iff,Bool.or_eq_false_iff,Bool.not_eq_true',Bool.not_eq_false',Bool.not_eq_true,Bool.not_eq_false,Int.not_lt,Int.not_le,beq_iff_eq,beq_eq_false_iff_ne,ne_eq,win_t,win_f] at hg); omega)) ?_))
  (refine Holds.drawnQ (by rw [hP]; kernel_rfl) (by kernel_rfl) ?_; simp (maxSteps:=1000000) only [push_cast,reduceCtorEq,Nat.reduceAdd,Nat.reduceMul,Nat.reduceSub,Nat.reduceBEq,Nat.reduceGT,Nat.reduceLT,Int.toNat_zero,Nat.reduceLeDiff,Int.reduceEq,Int.reduceLT,Int.reduceLE,hP,hΓ,hL,hfin,↓Z00,Z0c ((k:Int) - 1) (by constructor <;> omega),show k - 1<ds.length from by omega])
  (repeat (refine And.intro (by first | exact True.intro | omega | assumption | exact own_row _ | (simp only [List.length_append]; omega) | (intro hg; (try simp only [decide_eq_true_eq,decide_eq_false_iff_not,Bool.and_eq_true,Bool.or_eq_true,Bool.and_eq_false_iff,Bool.or_eq_false_iff,Bool.not_eq_true',Bool.not_eq_false',Bool.not_eq_true,Bool.not_eq_false,Int.not_lt,Int.not_le,beq_iff_eq,beq_eq_false_iff_ne,ne_eq,win_t,win_f] at hg); omega)) ?_))
  refine Z02 (fun h=>?_) (fun h=>?_)
  ·((first | with_reducible refine holds_of_ex X 400 _ _ _ ?_ | skip); simp (maxSteps:=1000000) only [push_cast,reduceCtorEq,Nat.reduceAdd,Nat.reduceMul,Nat.reduceSub,Nat.reduceBEq,Nat.reduceGT,Nat.reduceLT,Int.toNat_zero,Nat.reduceLeDiff,Int.reduceEq,Int.reduceLT,Int.reduceLE,hP,hΓ,hL,hfin,↓Z00])
   refine Z06.one ?_ rfl
   rw [hf false rfl]
   rw [Bool.eq_false_iff]
   intro hc
   simp only [qR,q61,Zh4,Bool.and_eq_true,Bool.or_eq_true,decide_eq_true_eq,win_t] at hc
   simp only [Bool.or_eq_true,Bool.and_eq_true,Bool.not_eq_true',decide_eq_true_eq,decide_eq_false_iff_not] at h
   try simp only [decide_eq_true_eq] at hc
   generalize Int.tmod d.size 4=tmv at h hc
   omega
  have hg:=h
  simp only [Bool.or_eq_false_iff,Bool.and_eq_false_iff,Bool.not_eq_false',decide_eq_true_eq,decide_eq_false_iff_not] at hg
  ((first | with_reducible refine holds_of_ex X 400 _ _ _ ?_ | skip); simp (maxSteps:=1000000) only [push_cast,reduceCtorEq,Nat.reduceAdd,Nat.reduceMul,Nat.reduceSub,Nat.reduceBEq,Nat.reduceGT,Nat.reduceLT,Int.toNat_zero,Nat.reduceLeDiff,Int.reduceEq,Int.reduceLT,Int.reduceLE,hP,hΓ,hL,hfin,↓Z00])
  refine Holds.loopM (ι:={j:Nat // j≤d.tags.length∧Z24 (q62 (fH ds)) d.tags j=true}) [true,false,false,true,true,true,false,false,false,false,false,false,false,false,false,false,false,false,false,false,false,false,false,false,false,false,false,false,false,false,false,false,false,false,false,false,false,false,false,false,false,false,false,false,false,false,false,false,false,false,false,false,false,false,false,false,false,false,false,false,false,false,false,false,false,false,false,false,false,false,false,false,false,false,false,false,false,false,false,false,false,false,false,false,false,false,false,false,false,false,false] (fun i=>[(6,.int .i64 i.1)]) (fun i=>[.row d.c 3 0]) (fun i=>d.tags.length - i.1) ⟨0,Nat.zero_le _,rfl⟩ ?_ ?_
  ·(rw [hL]; simp only [push_cast,Int.natCast_zero]; exact Z06.sameA)
  rintro⟨j,hj,hja⟩
  ((first | with_reducible refine holds_of_ex X 400 _ _ _ ?_ | skip); simp (maxSteps:=1000000) only [push_cast,reduceCtorEq,Nat.reduceAdd,Nat.reduceMul,Nat.reduceSub,Nat.reduceBEq,Nat.reduceGT,Nat.reduceLT,Int.toNat_zero,Nat.reduceLeDiff,Int.reduceEq,Int.reduceLT,Int.reduceLE,hP,hΓ,hL,hfin,↓Z00])
  ((with_reducible refine Z02 (fun h=>?_) (fun h=>?_)) <;> (try simp only [decide_eq_true_eq,decide_eq_false_iff_not,Bool.and_eq_true,Bool.or_eq_true,Bool.and_eq_false_iff,Bool.or_eq_false_iff,Bool.not_eq_true',Bool.not_eq_false',Bool.not_eq_true,Bool.not_eq_false,Int.not_lt,Int.not_le,beq_iff_eq,beq_eq_false_iff_ne,ne_eq,win_t,win_f] at h))
  ·have hj':j<d.tags.length:=by omega
   ((first | with_reducible refine holds_of_ex X 400 _ _ _ ?_ | skip); simp (maxSteps:=1000000) only [push_cast,reduceCtorEq,Nat.reduceAdd,Nat.reduceMul,Nat.reduceSub,Nat.reduceBEq,Nat.reduceGT,Nat.reduceLT,Int.toNat_zero,Nat.reduceLeDiff,Int.reduceEq,Int.reduceLT,Int.reduceLE,hP,hΓ,hL,hfin,↓Z00,h98,Z0c ((j:Int)+1) (by constructor <;> omega)])
   (repeat (refine And.intro (by first | exact True.intro | omega | assumption | exact own_row _ | (simp only [List.length_append]; omega) | (intro hg; (try simp only [decide_eq_true_eq,decide_eq_false_iff_not,Bool.and_eq_true,Bool.or_eq_true,Bool.and_eq_false_iff,Bool.or_eq_false_iff,Bool.not_eq_true',Bool.not_eq_false',Bool.not_eq_true,Bool.not_eq_false,Int.not_lt,Int.not_le,beq_iff_eq,beq_eq_false_iff_ne,ne_eq,win_t,win_f] at hg); omega)) ?_))
   ((with_reducible refine Z02 (fun h=>?_) (fun h=>?_)) <;> (try simp only [decide_eq_true_eq,decide_eq_false_iff_not,Bool.and_eq_true,Bool.or_eq_true,Bool.and_eq_false_iff,Bool.or_eq_false_iff,Bool.not_eq_true',Bool.not_eq_false',Bool.not_eq_true,Bool.not_eq_false,Int.not_lt,Int.not_le,beq_iff_eq,beq_eq_false_iff_ne,ne_eq,win_t,win_f] at h))
   ·((first | with_reducible refine holds_of_ex X 400 _ _ _ ?_ | skip); simp (maxSteps:=1000000) only [push_cast,reduceCtorEq,Nat.reduceAdd,Nat.reduceMul,Nat.reduceSub,Nat.reduceBEq,Nat.reduceGT,Nat.reduceLT,Int.toNat_zero,Nat.reduceLeDiff,Int.reduceEq,Int.reduceLT,Int.reduceLE,hP,hΓ,hL,hfin,↓Z00])
    refine Z06.one ?_ rfl
    rw [hf false rfl]
    rw [qR,q61,Z1h (k:=j) hj' (by rw [ZbL]; exact h)]; simp
   ·((first | with_reducible refine holds_of_ex X 400 _ _ _ ?_ | skip); simp (maxSteps:=1000000) only [push_cast,reduceCtorEq,Nat.reduceAdd,Nat.reduceMul,Nat.reduceSub,Nat.reduceBEq,Nat.reduceGT,Nat.reduceLT,Int.toNat_zero,Nat.reduceLeDiff,Int.reduceEq,Int.reduceLT,Int.reduceLE,hP,hΓ,hL,hfin,↓Z00,Z0c ((j:Int)+1) (by constructor <;> omega)])
    (refine⟨⟨j+1,by omega,by rw [Z1w,hja,ZbL,h]; rfl⟩,by (try simp only [List.length_cons,List.length_append,List.length_nil]); omega,?_⟩; (try rw [hL]); (try simp only [push_cast,Int.natCast_zero]); first | (exact Z06.sameA) | (exact Z06.keep0A) | (exact Z06.keep1A) | (exact Z06.keep2A) | (exact Z06.keep3A))
  obtain rfl:j=d.tags.length:=by omega
  ((first | with_reducible refine holds_of_ex X 400 _ _ _ ?_ | skip); simp (maxSteps:=1000000) only [push_cast,reduceCtorEq,Nat.reduceAdd,Nat.reduceMul,Nat.reduceSub,Nat.reduceBEq,Nat.reduceGT,Nat.reduceLT,Int.toNat_zero,Nat.reduceLeDiff,Int.reduceEq,Int.reduceLT,Int.reduceLE,hP,hΓ,hL,hfin,↓Z00])
  (refine Holds.drawnQ (by rw [hP]; kernel_rfl) (by kernel_rfl) ?_; simp (maxSteps:=1000000) only [push_cast,reduceCtorEq,Nat.reduceAdd,Nat.reduceMul,Nat.reduceSub,Nat.reduceBEq,Nat.reduceGT,Nat.reduceLT,Int.toNat_zero,Nat.reduceLeDiff,Int.reduceEq,Int.reduceLT,Int.reduceLE,hP,hΓ,hL,hfin,↓Z00,Z0c ((d.tags.length:Int) - 1) (by constructor <;> omega)])
  (repeat (refine And.intro (by first | exact True.intro | omega | assumption | exact own_row _ | (simp only [List.length_append]; omega) | (intro hg; (try simp only [decide_eq_true_eq,decide_eq_false_iff_not,Bool.and_eq_true,Bool.or_eq_true,Bool.and_eq_false_iff,Bool.or_eq_false_iff,Bool.not_eq_true',Bool.not_eq_false',Bool.not_eq_true,Bool.not_eq_false,Int.not_lt,Int.not_le,beq_iff_eq,beq_eq_false_iff_ne,ne_eq,win_t,win_f] at hg); omega)) ?_))
  ((with_reducible refine Z02 (fun h=>?_) (fun h=>?_)) <;> (try simp only [decide_eq_true_eq,decide_eq_false_iff_not,Bool.and_eq_true,Bool.or_eq_true,Bool.and_eq_false_iff,Bool.or_eq_false_iff,Bool.not_eq_true',Bool.not_eq_false',Bool.not_eq_true,Bool.not_eq_false,Int.not_lt,Int.not_le,beq_iff_eq,beq_eq_false_iff_ne,ne_eq,win_t,win_f] at h))
  ·((first | with_reducible refine holds_of_ex X 400 _ _ _ ?_ | skip); simp (maxSteps:=1000000) only [push_cast,reduceCtorEq,Nat.reduceAdd,Nat.reduceMul,Nat.reduceSub,Nat.reduceBEq,Nat.reduceGT,Nat.reduceLT,Int.toNat_zero,Nat.reduceLeDiff,Int.reduceEq,Int.reduceLT,Int.reduceLE,hP,hΓ,hL,hfin,↓Z00])
   refine Z06.one ?_ rfl
   rw [hf false rfl]
   rw [Bool.eq_false_iff]
   intro hc
   simp only [qR,q61,Zh4,Bool.and_eq_true,decide_eq_true_eq] at hc
   exact h hc.1.2
  ·((first | with_reducible refine holds_of_ex X 400 _ _ _ ?_ | skip); simp (maxSteps:=1000000) only [push_cast,reduceCtorEq,Nat.reduceAdd,Nat.reduceMul,Nat.reduceSub,Nat.reduceBEq,Nat.reduceGT,Nat.reduceLT,Int.toNat_zero,Nat.reduceLeDiff,Int.reduceEq,Int.reduceLT,Int.reduceLE,hP,hΓ,hL,hfin,↓Z00,Z0c ((k:Int)+1) (by constructor <;> omega)])
   (refine⟨⟨k+1,by omega,by rw [Z1w,ha,hd,Bool.true_and]; simp only [qR,q61,Zh4,Bool.and_eq_true,Bool.or_eq_true,decide_eq_true_eq,win_t]; refine⟨?_,hja⟩; clear hf; generalize Int.tmod d.size 4=tmv at hg ⊢; omega⟩,by (try simp only [List.length_cons,List.length_append,List.length_nil]); omega,?_⟩; (try rw [hL]); (try simp only [push_cast,Int.natCast_zero]); first | (exact Z06.sameA) | (exact Z06.keep0A) | (exact Z06.keep1A) | (exact Z06.keep2A) | (exact Z06.keep3A))
 obtain rfl:k=ds.length:=by omega
 ((first | with_reducible refine holds_of_ex X 400 _ _ _ ?_ | skip); simp (maxSteps:=1000000) only [push_cast,reduceCtorEq,Nat.reduceAdd,Nat.reduceMul,Nat.reduceSub,Nat.reduceBEq,Nat.reduceGT,Nat.reduceLT,Int.toNat_zero,Nat.reduceLeDiff,Int.reduceEq,Int.reduceLT,Int.reduceLE,hP,hΓ,hL,hfin,↓Z00])
 exact Z06.one (by rw [ha]) rfl
theorem con68{Γ:Env}(h:Z07 Tryz.prog Γ)(h98:Γ 101=some S98):Con Tryz.prog 89 S68:=
 Z0t h (fn:=Tryz.f89) (by kernel_rfl) rfl (by kernel_rfl) inj68 (by first | (intro h; cases h; done) | exact fun _ _=>rfl) fun ⟨ds,n⟩ h=>by obtain⟨rfl,h1,h2⟩:=h; exact body68 Γ h98 ds h1 h2
def qF(o:Ob):Nat→Fx→Bool:=q64 o (fH o.descs)
def Z4t(o:Ob):Bool:=(decide ((o.imps.length:Int)≤16) && decide (1≤(o.code.length:Int)) && decide ((o.code.length:Int)≤65536) && decide ((o.procs.length:Int)≤100) && decide ((o.names.length:Int)=o.procs.length) && decide ((o.exps.length:Int)=o.procs.length) && decide ((o.vars.length:Int)≤200) && decide ((o.shown.length:Int)≤o.vars.length) && decide ((o.strs.length:Int)≤200) && decide ((o.descs.length:Int)≤200) && decide ((o.fixes.length:Int)≤65536)) &&
 Z3o o && Z24 (qR o.descs) o.descs o.descs.length && Z24 (qF o) o.fixes o.fixes.length
def e43:(Ob)→List AV:=fun o=>[.agg o.c]
def p43:(Ob)→Prop:=fun o=>o.ok
def r43:(Ob)→AV:=fun o=>.bool (Z4t o)
def g43:(Ob)→Heap:=fun o=>[]
theorem inj43:∀a b,e43 a=e43 b→a=b:=by
 rintro o o' h
 simp only [e43,Z0f,Z0h,Z0i,Z0g,Z0u,Z0F,Z0E,Z0z,Z0G,Z0D,Z0C,Z0J,List.cons.injEq,AV.int.injEq,AV.str.injEq,AV.bool.injEq,AV.sl.injEq,AV.agg.injEq,AV.ip.injEq,AV.fn.injEq,AV.ifc.injEq,AV.mpr.injEq,Int.natCast_inj,and_true,true_and] at h
 simp_all only
noncomputable def S43:Z0n:=Z2V e43 p43 r43 g43 true
theorem ps43(o:(Ob)):Z1J e43 p43 [.agg o.c]=(o.ok):=Z0j inj43 p43 o
theorem rs43(o:(Ob)):Z10 e43 r43 .any [.agg o.c]=(.bool (Z4t o)):=Z08 inj43 r43 .any o
theorem hs43(o:(Ob)):Z10 e43 g43 [] [.agg o.c]=([]):=Z08 inj43 g43 [] o
attribute [push_cast] S43 ps43 rs43 hs43
theorem body43(Γ:Env)(h66:Γ 87=some S66)(h67:Γ 88=some S67)(h68:Γ 89=some S68)(h69:Γ 90=some S69)(o:Ob)(ho:o.ok):Z0a Tryz.prog Γ Tryz.f71 (e43 o) [] (.bool (Z4t o)) []:=by
 have hSM:SM=1048576:=rfl
 have hfx:=ho.fixes
 have hdl:=ho.descs
 (intro X hP hΓ hL hfin; refine⟨_,rfl,?_⟩; rw [show Tryz.f71.ntmps=59 from rfl]; rw [show Tryz.f71.results.toList=[.tmp 2] from rfl] at hfin; apply holds_of_ex X 400; simp (maxSteps:=1000000) only [push_cast,reduceCtorEq,Nat.reduceAdd,Nat.reduceMul,Nat.reduceSub,Nat.reduceBEq,Nat.reduceGT,Nat.reduceLT,Int.toNat_zero,Nat.reduceLeDiff,Int.reduceEq,Int.reduceLT,Int.reduceLE,hP,hΓ,hL,hfin,↓Z00,e43,h66,h67,h68])
 refine⟨ho,fun h=>⟨ho,by simp only [Bool.and_eq_true,decide_eq_true_eq] at h; omega⟩,fun _=>⟨ho.descs,ho.des⟩,?_⟩
 generalize hw:(decide ((o.imps.length:Int)≤16) && decide (1≤(o.code.length:Int)) && decide ((o.code.length:Int)≤65536) && decide ((o.procs.length:Int)≤100) && decide ((o.names.length:Int)=o.procs.length) && decide ((o.exps.length:Int)=o.procs.length) && decide ((o.vars.length:Int)≤200) && decide ((o.shown.length:Int)≤o.vars.length) && decide ((o.strs.length:Int)≤200) && decide ((o.descs.length:Int)≤200) && decide ((o.fixes.length:Int)≤65536))=cB
 have hwb:Z4t o=(cB && Z3o o && Z24 (qR o.descs) o.descs o.descs.length && Z24 (qF o) o.fixes o.fixes.length):=by rw [Z4t,hw]
 refine Z02 (fun h=>?_) (fun h=>?_)
 ·((first | with_reducible refine holds_of_ex X 400 _ _ _ ?_ | skip); simp (maxSteps:=1000000) only [push_cast,reduceCtorEq,Nat.reduceAdd,Nat.reduceMul,Nat.reduceSub,Nat.reduceBEq,Nat.reduceGT,Nat.reduceLT,Int.toNat_zero,Nat.reduceLeDiff,Int.reduceEq,Int.reduceLT,Int.reduceLE,hP,hΓ,hL,hfin,↓Z00])
  refine Z06.one ?_ rfl
  have hok:(cB && Z3o o && Z24 (qR o.descs) o.descs o.descs.length)=false:=by
   cases hq:(cB && Z3o o && Z24 (qR o.descs) o.descs o.descs.length)
   ·rfl
   ·rw [hq] at h; cases h
  rw [hwb,hok]; rfl
 have hok:(cB && Z3o o && Z24 (qR o.descs) o.descs o.descs.length)=true:=by
  cases hq:(cB && Z3o o && Z24 (qR o.descs) o.descs o.descs.length)
  ·rw [hq] at h; cases h
  ·rfl
 rw [hok,Bool.true_and] at hwb
 ((first | with_reducible refine holds_of_ex X 400 _ _ _ ?_ | skip); simp (maxSteps:=1000000) only [push_cast,reduceCtorEq,Nat.reduceAdd,Nat.reduceMul,Nat.reduceSub,Nat.reduceBEq,Nat.reduceGT,Nat.reduceLT,Int.toNat_zero,Nat.reduceLeDiff,Int.reduceEq,Int.reduceLT,Int.reduceLE,hP,hΓ,hL,hfin,↓Z00])
 refine Holds.loopM (ι:={k:Nat // k≤o.fixes.length∧Z24 (qF o) o.fixes k=true}) [false,true,false,false,false,false,false,false,false,false,false,false,false,false,false,false,false,false,false,false,false,false,false,false,false,false,false,false,false,false,false,false,false,false,false,false,false,false,false,false,false,false,false,false,false,false,false,false,false,false,false,false,false,false,false,false,false,false,false] (fun i=>[(6,.int .i64 i.1)]) (fun i=>[.row o.c 13 0]) (fun i=>o.fixes.length - i.1) ⟨0,Nat.zero_le _,rfl⟩ ?_ ?_
 ·(rw [hL]; simp only [push_cast,Int.natCast_zero]; exact Z06.sameA)
 rintro⟨k,hk,ha⟩
 ((first | with_reducible refine holds_of_ex X 400 _ _ _ ?_ | skip); simp (maxSteps:=1000000) only [push_cast,reduceCtorEq,Nat.reduceAdd,Nat.reduceMul,Nat.reduceSub,Nat.reduceBEq,Nat.reduceGT,Nat.reduceLT,Int.toNat_zero,Nat.reduceLeDiff,Int.reduceEq,Int.reduceLT,Int.reduceLE,hP,hΓ,hL,hfin,↓Z00])
 ((with_reducible refine Z02 (fun h=>?_) (fun h=>?_)) <;> (try simp only [decide_eq_true_eq,decide_eq_false_iff_not,Bool.and_eq_true,Bool.or_eq_true,Bool.and_eq_false_iff,Bool.or_eq_false_iff,Bool.not_eq_true',Bool.not_eq_false',Bool.not_eq_true,Bool.not_eq_false,Int.not_lt,Int.not_le,beq_iff_eq,beq_eq_false_iff_ne,ne_eq,win_t,win_f] at h))
 ·have hk':k<o.fixes.length:=by omega
  ((first | with_reducible refine holds_of_ex X 400 _ _ _ ?_ | skip); simp (maxSteps:=1000000) only [push_cast,reduceCtorEq,Nat.reduceAdd,Nat.reduceMul,Nat.reduceSub,Nat.reduceBEq,Nat.reduceGT,Nat.reduceLT,Int.toNat_zero,Nat.reduceLeDiff,Int.reduceEq,Int.reduceLT,Int.reduceLE,hP,hΓ,hL,hfin,↓Z00])
  (refine Holds.drawnQ (by rw [hP]; kernel_rfl) (by kernel_rfl) ?_; simp (maxSteps:=1000000) only [push_cast,reduceCtorEq,Nat.reduceAdd,Nat.reduceMul,Nat.reduceSub,Nat.reduceBEq,Nat.reduceGT,Nat.reduceLT,Int.toNat_zero,Nat.reduceLeDiff,Int.reduceEq,Int.reduceLT,Int.reduceLE,hP,hΓ,hL,hfin,↓Z00,hk',h69])
  refine⟨by omega,by omega,ho,?_⟩
  ((first | with_reducible refine holds_of_ex X 400 _ _ _ ?_ | skip); simp (maxSteps:=1000000) only [push_cast,reduceCtorEq,Nat.reduceAdd,Nat.reduceMul,Nat.reduceSub,Nat.reduceBEq,Nat.reduceGT,Nat.reduceLT,Int.toNat_zero,Nat.reduceLeDiff,Int.reduceEq,Int.reduceLT,Int.reduceLE,hP,hΓ,hL,hfin,↓Z00])
  (refine Holds.drawnQ (by rw [hP]; kernel_rfl) (by kernel_rfl) ?_; simp (maxSteps:=1000000) only [push_cast,reduceCtorEq,Nat.reduceAdd,Nat.reduceMul,Nat.reduceSub,Nat.reduceBEq,Nat.reduceGT,Nat.reduceLT,Int.toNat_zero,Nat.reduceLeDiff,Int.reduceEq,Int.reduceLT,Int.reduceLE,hP,hΓ,hL,hfin,↓Z00,hk',Z0c ((k:Int) - 1) (by constructor <;> omega),show k - 1<o.fixes.length from by omega])
  (repeat (refine And.intro (by first | exact True.intro | omega | assumption | exact own_row _ | (simp only [List.length_append]; omega) | (intro hg; (try simp only [decide_eq_true_eq,decide_eq_false_iff_not,Bool.and_eq_true,Bool.or_eq_true,Bool.and_eq_false_iff,Bool.or_eq_false_iff,Bool.not_eq_true',Bool.not_eq_false',Bool.not_eq_true,Bool.not_eq_false,Int.not_lt,Int.not_le,beq_iff_eq,beq_eq_false_iff_ne,ne_eq,win_t,win_f] at hg); omega)) ?_))
  have e:(!Z7B o (fH o.descs) (o.fixes.getD k default) || decide (0<(k:Int)) && decide ((o.fixes.getD k default).at_≤(o.fixes.getD (k - 1) default).at_))=!qF o k (o.fixes.getD k default):=by
   cases hb:Z7B o (fH o.descs) (o.fixes.getD k default)
   ·rw [qF,q64,hb]; simp
   ·rw [Bool.eq_iff_iff]; simp only [qF,q64,hb,Bool.not_true,Bool.false_or,Bool.and_true,Bool.and_eq_true,decide_eq_true_eq,Bool.not_eq_true',Bool.or_eq_false_iff,decide_eq_false_iff_not]; omega
  rw [e]
  ((with_reducible refine Z02 (fun h=>?_) (fun h=>?_)) <;> (try simp only [decide_eq_true_eq,decide_eq_false_iff_not,Bool.and_eq_true,Bool.or_eq_true,Bool.and_eq_false_iff,Bool.or_eq_false_iff,Bool.not_eq_true',Bool.not_eq_false',Bool.not_eq_true,Bool.not_eq_false,Int.not_lt,Int.not_le,beq_iff_eq,beq_eq_false_iff_ne,ne_eq,win_t,win_f] at h))
  ·((first | with_reducible refine holds_of_ex X 400 _ _ _ ?_ | skip); simp (maxSteps:=1000000) only [push_cast,reduceCtorEq,Nat.reduceAdd,Nat.reduceMul,Nat.reduceSub,Nat.reduceBEq,Nat.reduceGT,Nat.reduceLT,Int.toNat_zero,Nat.reduceLeDiff,Int.reduceEq,Int.reduceLT,Int.reduceLE,hP,hΓ,hL,hfin,↓Z00])
   exact Z06.one (by rw [hwb,Z1h (k:=k) hk' h]) rfl
  ·((first | with_reducible refine holds_of_ex X 400 _ _ _ ?_ | skip); simp (maxSteps:=1000000) only [push_cast,reduceCtorEq,Nat.reduceAdd,Nat.reduceMul,Nat.reduceSub,Nat.reduceBEq,Nat.reduceGT,Nat.reduceLT,Int.toNat_zero,Nat.reduceLeDiff,Int.reduceEq,Int.reduceLT,Int.reduceLE,hP,hΓ,hL,hfin,↓Z00,Z0c ((k:Int)+1) (by constructor <;> omega)])
   (refine⟨⟨k+1,by omega,by rw [Z1w,ha,h]; rfl⟩,by (try simp only [List.length_cons,List.length_append,List.length_nil]); omega,?_⟩; (try rw [hL]); (try simp only [push_cast,Int.natCast_zero]); first | (exact Z06.sameA) | (exact Z06.keep0A) | (exact Z06.keep1A) | (exact Z06.keep2A) | (exact Z06.keep3A))
 obtain rfl:k=o.fixes.length:=by omega
 ((first | with_reducible refine holds_of_ex X 400 _ _ _ ?_ | skip); simp (maxSteps:=1000000) only [push_cast,reduceCtorEq,Nat.reduceAdd,Nat.reduceMul,Nat.reduceSub,Nat.reduceBEq,Nat.reduceGT,Nat.reduceLT,Int.toNat_zero,Nat.reduceLeDiff,Int.reduceEq,Int.reduceLT,Int.reduceLE,hP,hΓ,hL,hfin,↓Z00])
 exact Z06.one (by rw [hwb,ha]) rfl
theorem con43{Γ:Env}(h:Z07 Tryz.prog Γ)(h66:Γ 87=some S66)(h67:Γ 88=some S67)(h68:Γ 89=some S68)(h69:Γ 90=some S69):Con Tryz.prog 71 S43:=
 Z0t h (fn:=Tryz.f71) (by kernel_rfl) rfl (by kernel_rfl) inj43 (by first | (intro h; cases h; done) | exact fun _ _=>rfl) fun o ho=>body43 Γ h66 h67 h68 h69 o ho
theorem Z9M(ds:List Ds):∀(k:Nat) (t:Int),k≤ds.length→(0<(Z6h ds k t).getD 0↔∃i,i<k∧(ds.getD i default).ty=t)
 | 0,t,_=>by simp [Z6h]
 | k+1,t,h=>by
  have ih:=Z9M ds k t (by omega)
  have h2:=Z7I ds k (ds.getD k default).ty
  simp only [Z6h]
  split
  ·rename_i he
   simp only [Option.getD_some]
   exact⟨fun _=>⟨k,by omega,he.symm⟩,fun _=>by omega⟩
  ·rename_i he
   rw [ih]
   constructor
   ·rintro⟨i,hi,e⟩; exact⟨i,by omega,e⟩
   ·rintro⟨i,hi,e⟩
    by_cases hik:i=k
    ·subst hik; exact absurd e.symm he
    ·exact⟨i,by omega,e⟩
theorem ZdF(ds:List Ds)(t:Int):decide (0<(Z6h ds ds.length t).getD 0)=ZaI ds t:=by
 rw [Bool.eq_iff_iff,decide_eq_true_eq,Z9M ds ds.length t (Nat.le_refl _),ZaI,List.any_eq_true]
 constructor
 ·rintro⟨i,hi,e⟩; exact⟨_,at_mem hi,by simpa using e⟩
 ·rintro⟨d,hd,e⟩
  obtain⟨i,hi,rfl⟩:=List.mem_iff_getElem.1 hd
  exact⟨i,hi,by simpa [List.getD,hi] using e⟩
theorem ZgX(ds:List Ds):q62 (Z6h ds ds.length)=q62 (fH ds):=by
 funext i t; rw [ZbL]; exact ZdF ds t
theorem Zfc(o:Ob):Z7B o (Z6h o.descs o.descs.length)=Z7B o (fH o.descs):=by
 funext x
 have h:(x.m<0∧0<(Z6h o.descs o.descs.length x.n).getD 0)=(x.m<0∧0<(fH o.descs x.n).getD 0):=by
  have h1:=ZdF o.descs x.n
  have h2:=Zcq o.descs x.n
  rw [←h2] at h1
  have:=decide_eq_decide.1 h1
  rw [this]
 simp only [Z7B,h]
theorem ZiF(o:Ob):Z1A o=Z4t o:=by
 have e1:q61 o (Z6h o.descs o.descs.length)=qR o.descs:=by
  funext i d
  simp only [q61,qR,ZgX]
 have e2:q64 o (Z6h o.descs o.descs.length)=qF o:=by
  funext i x
  simp only [q64,qF,Zfc]
 rw [Bool.eq_iff_iff]
 simp only [Z1A,Z4t,Z3o,e1,e2,Bool.and_eq_true,Bool.not_eq_true',Bool.or_eq_false_iff,decide_eq_false_iff_not,decide_eq_true_eq,Bool.not_eq_false',win_t]
 constructor
 ·rintro⟨h1,h2⟩
  obtain⟨⟨⟨⟨⟨⟨⟨⟨⟨n1,n2⟩,n3⟩,n4⟩,n5⟩,n6⟩,n7⟩,n8⟩,n9⟩,n10⟩:=h2
  refine⟨⟨⟨?_,⟨⟨⟨⟨⟨⟨n1,n2⟩,by omega⟩,n4⟩,n5⟩,n7⟩,n8⟩⟩,n9⟩,n10⟩
  omega
 ·rintro⟨⟨⟨h1,⟨⟨⟨⟨⟨⟨n1,n2⟩,n3⟩,n4⟩,n5⟩,n7⟩,n8⟩⟩,n9⟩,n10⟩
  refine⟨?_,⟨⟨⟨⟨⟨⟨⟨⟨⟨n1,n2⟩,by omega⟩,n4⟩,n5⟩,by omega⟩,n7⟩,n8⟩,n9⟩,n10⟩⟩
  omega
end Go.Proofs.YtmomhjmaanagaaaGreat.objDone