/- Of objects: which the program takes for right, but for their bytes. Conditions stand in each. -/
import Derived.Test.YtmomhjmaanagaaaGreatOT
set_option linter.unusedVariables false
set_option linter.unusedSimpArgs false
set_option maxRecDepth 100000
set_option maxHeartbeats 4000000
namespace Go.Proofs.YtmomhjmaanagaaaGreat.objDone
open Go Go.Eng Go.Proofs
theorem at_mem{α:Type}[Inhabited α]{xs:List α}{i:Nat}(h:i<xs.length):xs.getD i default∈xs:=by simp [List.getD,h]
def Z6h(ds:List Ds)(k:Nat):Int→Option Int:=match k with
 | 0=>fun _=>none
 | k+1=>fun n=>if n=(ds.getD k default).ty then some ((Z6h ds k (ds.getD k default).ty).getD 0+1) else Z6h ds k n
theorem Z7I(ds:List Ds):∀(k:Nat) (n:Int),0≤(Z6h ds k n).getD 0∧(Z6h ds k n).getD 0≤k
 | 0,n=>by simp [Z6h]
 | k+1,n=>by
  have h1:=Z7I ds k n
  have h2:=Z7I ds k (ds.getD k default).ty
  simp only [Z6h]
  split
  ·simp only [Option.getD_some]; omega
  ·omega
theorem ZdG(ds:List Ds)(k:Nat):(fun n=>if n=(ds.getD k default).ty then some ((Z6h ds k (ds.getD k default).ty).getD 0+1) else Z6h ds k n)=Z6h ds (k+1):=rfl
def Z18(o:Ob)(k:Nat):List Z04:=o.name::(o.imps.take k).map Im.name
theorem Z4N(o:Ob)(k:Nat)(h:k<o.imps.length):Z18 o k++[(o.imps.getD k default).name]=Z18 o (k+1):=by
 have e:o.imps.take (k+1)=o.imps.take k++[o.imps.getD k default]:=by rw [List.take_add_one]; simp [List.getD,h]
 rw [Z18,Z18,e,List.map_append]; rfl
theorem Z5p(o:Ob)(k:Nat)(h:k≤o.imps.length):(Z18 o k).length=k+1:=by simp [Z18]; omega
theorem Zci{o:Ob}(ho:o.ok):∀s∈Z18 o o.imps.length,s.length≤SM:=by
 intro s hs
 simp only [Z18,List.take_length,List.mem_cons,List.mem_map] at hs
 rcases hs with rfl | ⟨x,hx,rfl⟩
 ·exact ho.name
 ·exact ho.imp x hx
def Z1A(o:Ob):Bool:=
 !(decide (16<(o.imps.length:Int)) || !win o.code.length 1 65536 || decide (100<(o.procs.length:Int)) || !decide ((o.names.length:Int)=o.procs.length) || !decide ((o.exps.length:Int)=o.procs.length) || decide (200<(o.vars.length:Int)) ||
  decide (200<(o.strs.length:Int)) || decide (200<(o.descs.length:Int)) || decide (65536<(o.fixes.length:Int))) &&
 (Z2g (Z18 o o.imps.length) && Z2g o.names && win o.init 0 ((o.code.length:Int) - 1) && Z24 (q55 o) o.procs o.procs.length && Z24 q56 o.vars o.vars.length && decide ((o.shown.length:Int)≤o.vars.length) &&
  Z24 (q57 o) o.shown o.shown.length && Z24 q59 o.strs o.strs.length && Z24 (q61 o (Z6h o.descs o.descs.length)) o.descs o.descs.length && Z24 (q64 o (Z6h o.descs o.descs.length)) o.fixes o.fixes.length)
def e27:(Ob)→List AV:=fun o=>[.agg o.c]
def p27:(Ob)→Prop:=fun o=>o.ok
def r27:(Ob)→AV:=fun o=>.bool (Z1A o)
def g27:(Ob)→Heap:=fun o=>[]
theorem inj27:∀a b,e27 a=e27 b→a=b:=by
 rintro o o' h
 simp only [e27,Z0f,Z0h,Z0i,Z0g,Z0u,Z0F,Z0E,Z0z,Z0G,Z0D,Z0C,Z0J,List.cons.injEq,AV.int.injEq,AV.str.injEq,AV.bool.injEq,AV.sl.injEq,AV.agg.injEq,AV.ip.injEq,AV.fn.injEq,AV.ifc.injEq,AV.mpr.injEq,Int.natCast_inj,and_true,true_and] at h
 simp_all only
noncomputable def S27:Z0n:=Z2V e27 p27 r27 g27 true
theorem ps27(o:(Ob)):Z1J e27 p27 [.agg o.c]=(o.ok):=Z0j inj27 p27 o
theorem rs27(o:(Ob)):Z10 e27 r27 .any [.agg o.c]=(.bool (Z1A o)):=Z08 inj27 r27 .any o
theorem hs27(o:(Ob)):Z10 e27 g27 [] [.agg o.c]=([]):=Z08 inj27 g27 [] o
attribute [push_cast] S27 ps27 rs27 hs27
theorem body27(Γ:Env)(h52:Γ 73=some S52)(h53:Γ 74=some S53)(h54:Γ 75=some S54)(h58:Γ 79=some S58)(h60:Γ 81=some S60)(h63:Γ 84=some S63)(o:Ob)(ho:o.ok):Z0a Tryz.prog Γ Tryz.f53 (e27 o) [] (.bool (Z1A o)) []:=by
 have hSM:SM=1048576:=rfl
 have hi:=ho.imps
 (intro X hP hΓ hL hfin; refine⟨_,rfl,?_⟩; rw [show Tryz.f53.ntmps=155 from rfl]; rw [show Tryz.f53.results.toList=[.tmp 2] from rfl] at hfin; apply holds_of_ex X 400; simp (maxSteps:=1000000) only [push_cast,reduceCtorEq,Nat.reduceAdd,Nat.reduceMul,Nat.reduceSub,Nat.reduceBEq,Nat.reduceGT,Nat.reduceLT,Int.toNat_zero,Nat.reduceLeDiff,Int.reduceEq,Int.reduceLT,Int.reduceLE,hP,hΓ,hL,hfin,↓Z00,e27,h52])
 refine Z02 (fun h=>?_) (fun h=>?_)
 ·((first | with_reducible refine holds_of_ex X 400 _ _ _ ?_ | skip); simp (maxSteps:=1000000) only [push_cast,reduceCtorEq,Nat.reduceAdd,Nat.reduceMul,Nat.reduceSub,Nat.reduceBEq,Nat.reduceGT,Nat.reduceLT,Int.toNat_zero,Nat.reduceLeDiff,Int.reduceEq,Int.reduceLT,Int.reduceLE,hP,hΓ,hL,hfin,↓Z00])
  exact Z06.one (by rw [Z1A,h]; rfl) rfl
 have hfb:=h
 have hd:=ho.descs
 simp only [decide_eq_true_eq,decide_eq_false_iff_not,Bool.and_eq_true,Bool.or_eq_true,Bool.and_eq_false_iff,Bool.or_eq_false_iff,Bool.not_eq_true',Bool.not_eq_false',Int.not_lt,win_t] at h
 ((first | with_reducible refine holds_of_ex X 400 _ _ _ ?_ | skip); simp (maxSteps:=1000000) only [push_cast,reduceCtorEq,Nat.reduceAdd,Nat.reduceMul,Nat.reduceSub,Nat.reduceBEq,Nat.reduceGT,Nat.reduceLT,Int.toNat_zero,Nat.reduceLeDiff,Int.reduceEq,Int.reduceLT,Int.reduceLE,hP,hΓ,hL,hfin,↓Z00])
 refine Holds.loopM (ι:={k:Nat // k≤o.imps.length}) [false,true,true,false,false,false,false,true,false,true,false,false,false,false,false,false,false,false,false,false,false,false,false,false,false,false,false,false,false,false,false,false,false,false,false,false,false,false,false,false,false,false,false,false,false,false,false,false,false,false,false,false,false,false,false,false,false,false,false,false,false,false,false,false,false,false,false,false,false,false,true,true,false,false,false,false,false,false,false,false,false,false,false,false,true,true,true,false,false,false,false,false,false,false,false,false,false,false,false,false,false,false,false,false,false,false,false,false,false,false,false,false,false,false,false,false,false,false,false,false,false,false,false,false,false,false,false,false,false,false,false,false,false,false,false,false,false,false,false,false,false,false,false,false,false,false,false,false,false,false,false,false,false,false,false] (fun i=>[(72,.int .i64 i.1),(4,.msl 1 0 0 (i.1+1))]) (fun i=>[.row o.c 13 0,.row ((Z18 o i.1).map .str) 1 0]) (fun i=>o.imps.length - i.1) ⟨0,Nat.zero_le _⟩ ?_ ?_
 ·(rw [hL]; simp only [push_cast,Int.natCast_zero,Z18,List.take_zero]; exact Z06.sameA)
 ·rintro⟨k,hk⟩
  have hin:=Z5p o k hk
  ((first | with_reducible refine holds_of_ex X 400 _ _ _ ?_ | skip); simp (maxSteps:=1000000) only [push_cast,reduceCtorEq,Nat.reduceAdd,Nat.reduceMul,Nat.reduceSub,Nat.reduceBEq,Nat.reduceGT,Nat.reduceLT,Int.toNat_zero,Nat.reduceLeDiff,Int.reduceEq,Int.reduceLT,Int.reduceLE,hP,hΓ,hL,hfin,↓Z00])
  ((with_reducible refine Z02 (fun h=>?_) (fun h=>?_)) <;> (try simp only [decide_eq_true_eq,decide_eq_false_iff_not,Bool.and_eq_true,Bool.or_eq_true,Bool.and_eq_false_iff,Bool.or_eq_false_iff,Bool.not_eq_true',Bool.not_eq_false',Bool.not_eq_true,Bool.not_eq_false,Int.not_lt,Int.not_le,beq_iff_eq,beq_eq_false_iff_ne,ne_eq,win_t,win_f] at h))
  ·have hk':k<o.imps.length:=by omega
   ((first | with_reducible refine holds_of_ex X 400 _ _ _ ?_ | skip); simp (maxSteps:=1000000) only [push_cast,reduceCtorEq,Nat.reduceAdd,Nat.reduceMul,Nat.reduceSub,Nat.reduceBEq,Nat.reduceGT,Nat.reduceLT,Int.toNat_zero,Nat.reduceLeDiff,Int.reduceEq,Int.reduceLT,Int.reduceLE,hP,hΓ,hL,hfin,↓Z00,Z0c ((k:Int)+1) (by constructor <;> omega),hk',hin])
   refine⟨by omega,by omega,by omega,⟨k+1,hk'⟩,by simp only; omega,?_⟩
   rw [show [AV.str (o.imps.getD k default).name]=[(o.imps.getD k default).name].map AV.str from rfl,←List.map_append,Z4N o k hk']
   (refine Z0k.ver 1  0 (by simp only [push_cast,reduceCtorEq,Nat.reduceAdd,Nat.reduceMul,Nat.reduceSub,Nat.reduceBEq,Nat.reduceGT,Nat.reduceLT,Int.toNat_zero,Nat.reduceLeDiff,Int.reduceEq,Int.reduceLT,Int.reduceLE]) (by first | exact .inr (Nat.zero_le _) | (left; simp only [push_cast,reduceCtorEq,Nat.reduceAdd,Nat.reduceMul,Nat.reduceSub,Nat.reduceBEq,Nat.reduceGT,Nat.reduceLT,Int.toNat_zero,Nat.reduceLeDiff,Int.reduceEq,Int.reduceLT,Int.reduceLE]; first | done | omega) | (right; simp only [push_cast,reduceCtorEq,Nat.reduceAdd,Nat.reduceMul,Nat.reduceSub,Nat.reduceBEq,Nat.reduceGT,Nat.reduceLT,Int.toNat_zero,Nat.reduceLeDiff,Int.reduceEq,Int.reduceLT,Int.reduceLE]; first | done | omega)) ?_; simp only [push_cast,reduceCtorEq,Nat.reduceAdd,Nat.reduceMul,Nat.reduceSub,Nat.reduceBEq,Nat.reduceGT,Nat.reduceLT,Int.toNat_zero,Nat.reduceLeDiff,Int.reduceEq,Int.reduceLT,Int.reduceLE])
   exact Z06.keep2A
  ·obtain rfl:k=o.imps.length:=by omega
   ((first | with_reducible refine holds_of_ex X 400 _ _ _ ?_ | skip); simp (maxSteps:=1000000) only [push_cast,reduceCtorEq,Nat.reduceAdd,Nat.reduceMul,Nat.reduceSub,Nat.reduceBEq,Nat.reduceGT,Nat.reduceLT,Int.toNat_zero,Nat.reduceLeDiff,Int.reduceEq,Int.reduceLT,Int.reduceLE,hP,hΓ,hL,hfin,↓Z00,hin])
   refine Holds.loopM (ι:={k:Nat // k≤o.descs.length}) [false,true,true,false,true,false,false,true,false,false,false,false,false,false,false,false,false,false,false,false,false,false,false,false,false,false,false,false,false,false,false,false,false,false,false,false,false,false,false,false,false,false,false,false,false,false,false,false,false,false,false,false,false,false,false,false,false,false,false,false,false,false,false,false,false,false,false,false,false,false,false,false,false,false,false,false,false,false,false,false,false,false,false,false,true,true,false,false,false,false,false,false,false,false,false,false,false,false,false,false,false,false,false,false,false,false,false,false,false,false,false,false,false,false,false,false,false,false,false,false,false,false,false,false,false,false,false,false,false,false,false,false,false,false,false,false,false,false,false,false,false,false,false,false,false,false,false,false,false,false,false,false,false,false,false] (fun i=>[(86,.int .i64 i.1)]) (fun i=>[.row o.c 13 0,.row ((Z18 o o.imps.length).map .str) 1 0,.raw (.map (some .i64) (tm (Z6h o.descs i.1))),.row [.mp 2] 1 0]) (fun i=>o.descs.length - i.1) ⟨0,Nat.zero_le _⟩ ?_ ?_
   ·rw [show noK=tm (Z6h o.descs 0) from ZjF]
    (rw [hL]; simp only [push_cast,Int.natCast_zero]; exact Z06.sameA)
   ·rintro⟨k,hk⟩
    ((first | with_reducible refine holds_of_ex X 400 _ _ _ ?_ | skip); simp (maxSteps:=1000000) only [push_cast,reduceCtorEq,Nat.reduceAdd,Nat.reduceMul,Nat.reduceSub,Nat.reduceBEq,Nat.reduceGT,Nat.reduceLT,Int.toNat_zero,Nat.reduceLeDiff,Int.reduceEq,Int.reduceLT,Int.reduceLE,hP,hΓ,hL,hfin,↓Z00])
    ((with_reducible refine Z02 (fun h=>?_) (fun h=>?_)) <;> (try simp only [decide_eq_true_eq,decide_eq_false_iff_not,Bool.and_eq_true,Bool.or_eq_true,Bool.and_eq_false_iff,Bool.or_eq_false_iff,Bool.not_eq_true',Bool.not_eq_false',Bool.not_eq_true,Bool.not_eq_false,Int.not_lt,Int.not_le,beq_iff_eq,beq_eq_false_iff_ne,ne_eq,win_t,win_f] at h))
    ·have hk':k<o.descs.length:=by omega
     have hc:=Z7I o.descs k (o.descs.getD k default).ty
     ((first | with_reducible refine holds_of_ex X 400 _ _ _ ?_ | skip); simp (maxSteps:=1000000) only [push_cast,reduceCtorEq,Nat.reduceAdd,Nat.reduceMul,Nat.reduceSub,Nat.reduceBEq,Nat.reduceGT,Nat.reduceLT,Int.toNat_zero,Nat.reduceLeDiff,Int.reduceEq,Int.reduceLT,Int.reduceLE,hP,hΓ,hL,hfin,↓Z00,Z0c ((k:Int)+1) (by constructor <;> omega),hk',Z0c ((Z6h o.descs k (o.descs.getD k default).ty).getD 0+1) (by constructor <;> omega)])
     refine⟨by omega,by omega,⟨k+1,hk'⟩,by simp only; omega,?_⟩
     rw [ZdG]
     exact Z06.keep4A
    ·obtain rfl:k=o.descs.length:=by omega
     have ht:List.take (o.imps.length+1) ((Z18 o o.imps.length).map AV.str)=(Z18 o o.imps.length).map AV.str:=List.take_of_length_le (by simp [hin])
     ((first | with_reducible refine holds_of_ex X 400 _ _ _ ?_ | skip); simp (maxSteps:=1000000) only [push_cast,reduceCtorEq,Nat.reduceAdd,Nat.reduceMul,Nat.reduceSub,Nat.reduceBEq,Nat.reduceGT,Nat.reduceLT,Int.toNat_zero,Nat.reduceLeDiff,Int.reduceEq,Int.reduceLT,Int.reduceLE,hP,hΓ,hL,hfin,↓Z00,h52,h53,h54,h58,h60,h63,Z0c ((o.code.length:Int) - 1) (by constructor <;> omega),hin,ht])
     refine⟨⟨by omega,Zci ho⟩,fun _=>⟨ho.names,ho.nam⟩,fun _=>⟨ho.procs,ho⟩,fun _=>ho.vars,fun _=>⟨Nat.le_refl _,ho⟩,fun _=>ho.strs,fun _=>ho,fun _=>ho,Z06.one ?_ rfl⟩
     rw [Z1A,hfb]; rfl
theorem con27{Γ:Env}(h:Z07 Tryz.prog Γ)(h52:Γ 73=some S52)(h53:Γ 74=some S53)(h54:Γ 75=some S54)(h58:Γ 79=some S58)(h60:Γ 81=some S60)(h63:Γ 84=some S63):Con Tryz.prog 53 S27:=
 Z0t h (fn:=Tryz.f53) (by kernel_rfl) rfl (by kernel_rfl) inj27 (by first | (intro h; cases h; done) | exact fun _ _=>rfl) fun o ho=>body27 Γ h52 h53 h54 h58 h60 h63 o ho
end Go.Proofs.YtmomhjmaanagaaaGreat.objDone