/- Of objects: the bytes that the document lays. Conditions stand in each. -/
import Derived.Test.YtmomhjmaanagaaaGreatPD
set_option linter.unusedVariables false
set_option linter.unusedSimpArgs false
set_option maxRecDepth 100000
set_option maxHeartbeats 4000000
namespace Go.Proofs.YtmomhjmaanagaaaGreat.objDone
open Go Go.Eng Go.Proofs
open Go.Proofs.YtmomhjmaanagaaaGreat.objNumbersDone (enc hi7 lo7 q7 Z2X m32 BIG Z7L)
structure Ob.u32s(o:Ob):Prop where
 key:0≤o.key∧o.key<4294967296
 code:∀w∈o.code,0≤w∧w<4294967296
 imp:∀x∈o.imps,0≤x.key∧x.key<4294967296
def e44:(Ob)→List AV:=fun o=>[.agg o.c]
def p44:(Ob)→Prop:=fun o=>o.ok∧o.u32s∧Z1A o=true
def r44:(Ob)→AV:=fun o=>.msl 0 0 0 (Z35 o).length
def g44:(Ob)→Heap:=fun o=>[.row ((Z35 o).map Z03) 1 0]
theorem inj44:∀a b,e44 a=e44 b→a=b:=by
 rintro o o' h
 simp only [e44,Z0f,Z0h,Z0i,Z0g,Z0u,Z0F,Z0E,Z0z,Z0G,Z0D,Z0C,Z0J,List.cons.injEq,AV.int.injEq,AV.str.injEq,AV.bool.injEq,AV.sl.injEq,AV.agg.injEq,AV.ip.injEq,AV.fn.injEq,AV.ifc.injEq,AV.mpr.injEq,Int.natCast_inj,and_true,true_and] at h
 simp_all only
noncomputable def S44:Z0n:=Z2V e44 p44 r44 g44 false
theorem ps44(o:(Ob)):Z1J e44 p44 [.agg o.c]=(o.ok∧o.u32s∧Z1A o=true):=Z0j inj44 p44 o
theorem rs44(o:(Ob)):Z10 e44 r44 .any [.agg o.c]=(.msl 0 0 0 (Z35 o).length):=Z08 inj44 r44 .any o
theorem hs44(o:(Ob)):Z10 e44 g44 [] [.agg o.c]=([.row ((Z35 o).map Z03) 1 0]):=Z08 inj44 g44 [] o
attribute [push_cast] S44 ps44 rs44 hs44
theorem body44(Γ:Env)(h70:Γ 91=some S70)(h71:Γ 92=some S71)(h72:Γ 93=some S72)(h73:Γ 18=some S73)(o:Ob)(ho:o.ok)(hu:o.u32s)(hf:Z1A o=true):Z0a Tryz.prog Γ Tryz.f72 (e44 o) [] (.msl 0 0 0 (Z35 o).length) [.row ((Z35 o).map Z03) 1 0]:=by
 have hB:(BIG:Nat)=140737488355328:=rfl
 have hSM:SM=1048576:=rfl
 have hb:=Z7A hf
 have hx:=Z6Y hf
 have ht:=Z2a o.name
 have hn:=ho.name
 have hkey:=hu.key
 have hnI:=Z0q o.imps.length
 (intro X hP hΓ hL hfin; refine⟨_,rfl,?_⟩; rw [show Tryz.f72.ntmps=253 from rfl]; rw [show Tryz.f72.results.toList=[.tmp 2] from rfl] at hfin; apply holds_of_ex X 400; simp (maxSteps:=1000000) only [push_cast,reduceCtorEq,Nat.reduceAdd,Nat.reduceMul,Nat.reduceSub,Nat.reduceBEq,Nat.reduceGT,Nat.reduceLT,Int.toNat_zero,Nat.reduceLeDiff,Int.reduceEq,Int.reduceLT,Int.reduceLE,hP,hΓ,hL,hfin,↓Z00,e44,h70,h71,h72])
 refine⟨⟨Z17 Z3t rfl rfl,by omega,hn⟩,⟨Z17 (Z3t++txt o.name) (by simp [Z3t,Z03]) (by simp [Z3t]; omega),by omega,hkey⟩,⟨Z17 (Z3t++txt o.name++le4 o.key) (by simp [Z3t,Z03]) (by simp [Z3t,le4]; omega),by simp only [le4,List.length_cons,List.length_nil]; omega⟩,?_⟩
 obtain⟨A0,hA0⟩:∃q,q=Z3t++txt o.name++le4 o.key:=⟨_,rfl⟩
 have eb:AV.int .u8 67::AV.int .u8 82::AV.int .u8 79::AV.int .u8 49::(List.map Z03 (txt o.name)++List.map Z03 (le4 o.key)++List.map Z03 (num o.imps.length))=(A0++num o.imps.length).map Z03:=by rw [hA0]; simp [Z3t,Z03]
 have en:4+(txt o.name).length+(le4 o.key).length+(num o.imps.length).length=(A0++num o.imps.length).length:=by rw [hA0]; simp [Z3t]; omega
 have hAl0:A0.length≤1048600:=by rw [hA0]; simp [Z3t,le4]; omega
 rw [eb,en]
 clear eb en
 have hM1:∀k,k≤o.imps.length→(Z1H (fun _ x=>Z8q x) o.imps k).length≤o.imps.length*1048600:=fun k hk=>Nat.le_trans (Z0Y (fun _ x=>Z8q x) o.imps 1048600 k fun i hi=>by
  have hi:i<o.imps.length:=by omega
  have m1:=ho.imp _ (at_mem hi); have m3:=Z2a (o.imps.getD i default).name; simp only [Z8q,le4,List.length_append,List.length_cons,List.length_nil]; omega) (Nat.mul_le_mul_right _ hk)
 obtain⟨Q1,hQ1⟩:∃Q:Nat→Z04,Q=fun k=>A0++num o.imps.length++Z1H (fun _ x=>Z8q x) o.imps k:=⟨_,rfl⟩
 have hQa1:A0++num o.imps.length=Q1 0:=by rw [hQ1]; simp [Z1H]
 have hQb1:∀k,Q1 k++(txt (o.imps.getD k default).name++le4 (o.imps.getD k default).key)=Q1 (k+1):=fun k=>by simp only [hQ1]; rw [Z1a]; simp [Z8q,Z5s]
 have hQc1:∀k,k≤o.imps.length→(Q1 k).length≤(A0++num o.imps.length).length+o.imps.length*1048600:=fun k hk=>by have:=hM1 k hk; rw [hQ1]; simp only [List.length_append] at *; omega
 simp only [List.length_append] at hQc1
 rw [hQa1]
 refine Holds.loopM (ι:={k:Nat // k≤o.imps.length}) [false,true,true,false,false,true,true,true,true,true,true,true,true,true,true,true,false,false,false,false,false,false,false,false,false,false,false,false,false,false,false,false,false,false,false,false,false,false,false,false,false,false,false,false,false,false,false,false,false,false,false,false,false,false,false,false,false,false,false,false,false,false,false,false,false,false,false,false,false,false,false,false,false,false,false,false,false,false,false,false,false,false,false,false,false,false,false,false,false,false,false,false,false,false,false,false,false,false,false,false,false,false,false,false,false,false,false,false,false,false,false,false,false,false,false,false,false,false,false,false,false,false,false,false,false,false,false,false,false,false,false,false,false,false,false,false,false,false,false,false,false,false,false,false,false,false,false,false,false,false,false,false,false,false,false,false,false,false,false,false,false,false,false,false,false,false,false,false,false,false,false,false,false,false,false,false,false,false,false,false,false,false,false,false,false,false,false,false,false,false,false,false,false,false,false,false,false,false,false,false,false,false,false,false,false,false,false,false,false,false,false,false,false,false,false,false,false,false,false,false,false,false,false,false,false,false,false,false,false,false,false,false,false,false,false,false,false,false,false,false,false,false,false,false,false,false,false,false,false,false,false,false,false] (fun i=>[(3,.msl 1 0 0 (Q1 i.1).length),(4,.int .i64 i.1)]) (fun i=>[.row o.c 13 0,.row ((Q1 i.1).map Z03) 1 0]) (fun i=>o.imps.length - i.1) ⟨0,Nat.zero_le _⟩ ?_ ?_
 ·rw [hL]; simp only [push_cast,Int.natCast_zero]
  (refine Z0k.ver 1  0 (by simp only [push_cast,reduceCtorEq,Nat.reduceAdd,Nat.reduceMul,Nat.reduceSub,Nat.reduceBEq,Nat.reduceGT,Nat.reduceLT,Int.toNat_zero,Nat.reduceLeDiff,Int.reduceEq,Int.reduceLT,Int.reduceLE]) (by first | exact .inr (Nat.zero_le _) | (left; simp only [push_cast,reduceCtorEq,Nat.reduceAdd,Nat.reduceMul,Nat.reduceSub,Nat.reduceBEq,Nat.reduceGT,Nat.reduceLT,Int.toNat_zero,Nat.reduceLeDiff,Int.reduceEq,Int.reduceLT,Int.reduceLE]; first | done | omega) | (right; simp only [push_cast,reduceCtorEq,Nat.reduceAdd,Nat.reduceMul,Nat.reduceSub,Nat.reduceBEq,Nat.reduceGT,Nat.reduceLT,Int.toNat_zero,Nat.reduceLeDiff,Int.reduceEq,Int.reduceLT,Int.reduceLE]; first | done | omega)) ?_; simp only [push_cast,reduceCtorEq,Nat.reduceAdd,Nat.reduceMul,Nat.reduceSub,Nat.reduceBEq,Nat.reduceGT,Nat.reduceLT,Int.toNat_zero,Nat.reduceLeDiff,Int.reduceEq,Int.reduceLT,Int.reduceLE])
  exact Z06.sameA
 rintro⟨k,hk⟩
 have hq:=hQc1 k hk
 ((first | with_reducible refine holds_of_ex X 400 _ _ _ ?_ | skip); simp (maxSteps:=1000000) only [push_cast,reduceCtorEq,Nat.reduceAdd,Nat.reduceMul,Nat.reduceSub,Nat.reduceBEq,Nat.reduceGT,Nat.reduceLT,Int.toNat_zero,Nat.reduceLeDiff,Int.reduceEq,Int.reduceLT,Int.reduceLE,hP,hΓ,hL,hfin,↓Z00])
 ((with_reducible refine Z02 (fun h=>?_) (fun h=>?_)) <;> (try simp only [decide_eq_true_eq,decide_eq_false_iff_not,Bool.and_eq_true,Bool.or_eq_true,Bool.and_eq_false_iff,Bool.or_eq_false_iff,Bool.not_eq_true',Bool.not_eq_false',Bool.not_eq_true,Bool.not_eq_false,Int.not_lt,Int.not_le,beq_iff_eq,beq_eq_false_iff_ne,ne_eq,win_t,win_f] at h))
 ·have hk':k<o.imps.length:=by omega
  have m1:=ho.imp _ (at_mem hk'); have m2:=hu.imp _ (at_mem hk'); have m3:=Z2a (o.imps.getD k default).name; have m4:(le4 (o.imps.getD k default).key).length=4:=rfl
  ((first | with_reducible refine holds_of_ex X 400 _ _ _ ?_ | skip); simp (maxSteps:=1000000) only [push_cast,reduceCtorEq,Nat.reduceAdd,Nat.reduceMul,Nat.reduceSub,Nat.reduceBEq,Nat.reduceGT,Nat.reduceLT,Int.toNat_zero,Nat.reduceLeDiff,Int.reduceEq,Int.reduceLT,Int.reduceLE,hP,hΓ,hL,hfin,↓Z00,hk',h70,h71,h72,Z0c ((k:Int)+1) (by constructor <;> omega)])
  simp only [and_assoc,←List.map_append,←List.length_append]
  (repeat (refine And.intro (by first | exact True.intro | omega | assumption | exact own_row _ | (simp only [List.length_append]; omega) | (intro hg; (try simp only [decide_eq_true_eq,decide_eq_false_iff_not,Bool.and_eq_true,Bool.or_eq_true,Bool.and_eq_false_iff,Bool.or_eq_false_iff,Bool.not_eq_true',Bool.not_eq_false',Bool.not_eq_true,Bool.not_eq_false,Int.not_lt,Int.not_le,beq_iff_eq,beq_eq_false_iff_ne,ne_eq,win_t,win_f] at hg); omega)) ?_))
  rw [List.append_assoc,hQb1 k]
  refine⟨⟨k+1,hk'⟩,by simp only; omega,?_⟩
  (refine Z0k.ver 1  0 (by simp only [push_cast,reduceCtorEq,Nat.reduceAdd,Nat.reduceMul,Nat.reduceSub,Nat.reduceBEq,Nat.reduceGT,Nat.reduceLT,Int.toNat_zero,Nat.reduceLeDiff,Int.reduceEq,Int.reduceLT,Int.reduceLE]) (by first | exact .inr (Nat.zero_le _) | (left; simp only [push_cast,reduceCtorEq,Nat.reduceAdd,Nat.reduceMul,Nat.reduceSub,Nat.reduceBEq,Nat.reduceGT,Nat.reduceLT,Int.toNat_zero,Nat.reduceLeDiff,Int.reduceEq,Int.reduceLT,Int.reduceLE]; first | done | omega) | (right; simp only [push_cast,reduceCtorEq,Nat.reduceAdd,Nat.reduceMul,Nat.reduceSub,Nat.reduceBEq,Nat.reduceGT,Nat.reduceLT,Int.toNat_zero,Nat.reduceLeDiff,Int.reduceEq,Int.reduceLT,Int.reduceLE]; first | done | omega)) ?_; simp only [push_cast,reduceCtorEq,Nat.reduceAdd,Nat.reduceMul,Nat.reduceSub,Nat.reduceBEq,Nat.reduceGT,Nat.reduceLT,Int.toNat_zero,Nat.reduceLeDiff,Int.reduceEq,Int.reduceLT,Int.reduceLE])
  exact Z06.keep2A
 obtain rfl:k=o.imps.length:=by omega
 generalize hA1:Q1 o.imps.length=A1 at hq
 have hn2:=Z0q (o.code.length:Int)
 ((first | with_reducible refine holds_of_ex X 400 _ _ _ ?_ | skip); simp (maxSteps:=1000000) only [push_cast,reduceCtorEq,Nat.reduceAdd,Nat.reduceMul,Nat.reduceSub,Nat.reduceBEq,Nat.reduceGT,Nat.reduceLT,Int.toNat_zero,Nat.reduceLeDiff,Int.reduceEq,Int.reduceLT,Int.reduceLE,hP,hΓ,hL,hfin,↓Z00,h70,h71,h72,h73])
 simp only [and_assoc,←List.map_append,←List.length_append]
 (repeat (refine And.intro (by first | exact True.intro | omega | assumption | exact own_row _ | (simp only [List.length_append]; omega) | (intro hg; (try simp only [decide_eq_true_eq,decide_eq_false_iff_not,Bool.and_eq_true,Bool.or_eq_true,Bool.and_eq_false_iff,Bool.or_eq_false_iff,Bool.not_eq_true',Bool.not_eq_false',Bool.not_eq_true,Bool.not_eq_false,Int.not_lt,Int.not_le,beq_iff_eq,beq_eq_false_iff_ne,ne_eq,win_t,win_f] at hg); omega)) ?_))
 have hM2:∀k,k≤o.code.length→(Z1H (fun _ x=>le4 x) o.code k).length≤o.code.length*4:=fun k hk=>Nat.le_trans (Z0Y (fun _ x=>le4 x) o.code 4 k fun i hi=>by
  have hi:i<o.code.length:=by omega
  simp [le4]) (Nat.mul_le_mul_right _ hk)
 obtain⟨Q2,hQ2⟩:∃Q:Nat→Z04,Q=fun k=>A1++num o.code.length++Z1H (fun _ x=>le4 x) o.code k:=⟨_,rfl⟩
 have hQa2:A1++num o.code.length=Q2 0:=by rw [hQ2]; simp [Z1H]
 have hQb2:∀k,Q2 k++(le4 (o.code.getD k default))=Q2 (k+1):=fun k=>by simp only [hQ2]; rw [Z1a]; simp [Z8q,Z5s]
 have hQc2:∀k,k≤o.code.length→(Q2 k).length≤(A1++num o.code.length).length+o.code.length*4:=fun k hk=>by have:=hM2 k hk; rw [hQ2]; simp only [List.length_append] at *; omega
 simp only [List.length_append] at hQc2
 rw [hQa2]
 refine Holds.loopM (ι:={k:Nat // k≤o.code.length}) [false,true,true,false,false,false,true,true,true,true,true,true,true,true,true,true,false,false,false,false,false,false,false,false,false,false,false,false,false,false,false,false,false,false,false,false,false,false,false,false,false,false,false,false,false,false,false,false,false,false,false,false,false,false,false,false,false,false,false,false,false,false,false,false,false,false,false,false,false,false,false,false,false,false,false,false,false,false,false,false,false,false,false,false,false,false,false,false,false,false,false,false,false,false,false,false,false,false,false,false,false,false,false,false,false,false,false,false,false,false,false,false,false,false,false,false,false,false,false,false,false,false,false,false,false,false,false,false,false,false,false,false,false,false,false,false,false,false,false,false,false,false,false,false,false,false,false,false,false,false,false,false,false,false,false,false,false,false,false,false,false,false,false,false,false,false,false,false,false,false,false,false,false,false,false,false,false,false,false,false,false,false,false,false,false,false,false,false,false,false,false,false,false,false,false,false,false,false,false,false,false,false,false,false,false,false,false,false,false,false,false,false,false,false,false,false,false,false,false,false,false,false,false,false,false,false,false,false,false,false,false,false,false,false,false,false,false,false,false,false,false,false,false,false,false,false,false,false,false,false,false,false,false] (fun i=>[(3,.msl 1 0 0 (Q2 i.1).length),(5,.int .i64 i.1)]) (fun i=>[.row o.c 13 0,.row ((Q2 i.1).map Z03) 1 0]) (fun i=>o.code.length - i.1) ⟨0,Nat.zero_le _⟩ ?_ ?_
 ·rw [hL]; simp only [push_cast,Int.natCast_zero]
  (refine Z0k.ver 1  0 (by simp only [push_cast,reduceCtorEq,Nat.reduceAdd,Nat.reduceMul,Nat.reduceSub,Nat.reduceBEq,Nat.reduceGT,Nat.reduceLT,Int.toNat_zero,Nat.reduceLeDiff,Int.reduceEq,Int.reduceLT,Int.reduceLE]) (by first | exact .inr (Nat.zero_le _) | (left; simp only [push_cast,reduceCtorEq,Nat.reduceAdd,Nat.reduceMul,Nat.reduceSub,Nat.reduceBEq,Nat.reduceGT,Nat.reduceLT,Int.toNat_zero,Nat.reduceLeDiff,Int.reduceEq,Int.reduceLT,Int.reduceLE]; first | done | omega) | (right; simp only [push_cast,reduceCtorEq,Nat.reduceAdd,Nat.reduceMul,Nat.reduceSub,Nat.reduceBEq,Nat.reduceGT,Nat.reduceLT,Int.toNat_zero,Nat.reduceLeDiff,Int.reduceEq,Int.reduceLT,Int.reduceLE]; first | done | omega)) ?_; simp only [push_cast,reduceCtorEq,Nat.reduceAdd,Nat.reduceMul,Nat.reduceSub,Nat.reduceBEq,Nat.reduceGT,Nat.reduceLT,Int.toNat_zero,Nat.reduceLeDiff,Int.reduceEq,Int.reduceLT,Int.reduceLE])
  exact Z06.sameA
 rintro⟨k,hk⟩
 have hq:=hQc2 k hk
 ((first | with_reducible refine holds_of_ex X 400 _ _ _ ?_ | skip); simp (maxSteps:=1000000) only [push_cast,reduceCtorEq,Nat.reduceAdd,Nat.reduceMul,Nat.reduceSub,Nat.reduceBEq,Nat.reduceGT,Nat.reduceLT,Int.toNat_zero,Nat.reduceLeDiff,Int.reduceEq,Int.reduceLT,Int.reduceLE,hP,hΓ,hL,hfin,↓Z00])
 ((with_reducible refine Z02 (fun h=>?_) (fun h=>?_)) <;> (try simp only [decide_eq_true_eq,decide_eq_false_iff_not,Bool.and_eq_true,Bool.or_eq_true,Bool.and_eq_false_iff,Bool.or_eq_false_iff,Bool.not_eq_true',Bool.not_eq_false',Bool.not_eq_true,Bool.not_eq_false,Int.not_lt,Int.not_le,beq_iff_eq,beq_eq_false_iff_ne,ne_eq,win_t,win_f] at h))
 ·have hk':k<o.code.length:=by omega
  have m2:=hu.code _ (at_mem hk'); have m4:(le4 (o.code.getD k default)).length=4:=rfl
  ((first | with_reducible refine holds_of_ex X 400 _ _ _ ?_ | skip); simp (maxSteps:=1000000) only [push_cast,reduceCtorEq,Nat.reduceAdd,Nat.reduceMul,Nat.reduceSub,Nat.reduceBEq,Nat.reduceGT,Nat.reduceLT,Int.toNat_zero,Nat.reduceLeDiff,Int.reduceEq,Int.reduceLT,Int.reduceLE,hP,hΓ,hL,hfin,↓Z00,hk',h70,h71,h72,Z0c ((k:Int)+1) (by constructor <;> omega)])
  simp only [and_assoc,←List.map_append,←List.length_append]
  (repeat (refine And.intro (by first | exact True.intro | omega | assumption | exact own_row _ | (simp only [List.length_append]; omega) | (intro hg; (try simp only [decide_eq_true_eq,decide_eq_false_iff_not,Bool.and_eq_true,Bool.or_eq_true,Bool.and_eq_false_iff,Bool.or_eq_false_iff,Bool.not_eq_true',Bool.not_eq_false',Bool.not_eq_true,Bool.not_eq_false,Int.not_lt,Int.not_le,beq_iff_eq,beq_eq_false_iff_ne,ne_eq,win_t,win_f] at hg); omega)) ?_))
  rw [hQb2 k]
  refine⟨⟨k+1,hk'⟩,by simp only; omega,?_⟩
  (refine Z0k.ver 1  0 (by simp only [push_cast,reduceCtorEq,Nat.reduceAdd,Nat.reduceMul,Nat.reduceSub,Nat.reduceBEq,Nat.reduceGT,Nat.reduceLT,Int.toNat_zero,Nat.reduceLeDiff,Int.reduceEq,Int.reduceLT,Int.reduceLE]) (by first | exact .inr (Nat.zero_le _) | (left; simp only [push_cast,reduceCtorEq,Nat.reduceAdd,Nat.reduceMul,Nat.reduceSub,Nat.reduceBEq,Nat.reduceGT,Nat.reduceLT,Int.toNat_zero,Nat.reduceLeDiff,Int.reduceEq,Int.reduceLT,Int.reduceLE]; first | done | omega) | (right; simp only [push_cast,reduceCtorEq,Nat.reduceAdd,Nat.reduceMul,Nat.reduceSub,Nat.reduceBEq,Nat.reduceGT,Nat.reduceLT,Int.toNat_zero,Nat.reduceLeDiff,Int.reduceEq,Int.reduceLT,Int.reduceLE]; first | done | omega)) ?_; simp only [push_cast,reduceCtorEq,Nat.reduceAdd,Nat.reduceMul,Nat.reduceSub,Nat.reduceBEq,Nat.reduceGT,Nat.reduceLT,Int.toNat_zero,Nat.reduceLeDiff,Int.reduceEq,Int.reduceLT,Int.reduceLE])
  exact Z06.keep2A
 obtain rfl:k=o.code.length:=by omega
 generalize hA2:Q2 o.code.length=A2 at hq
 have hn3:=Z0q (o.procs.length:Int)
 ((first | with_reducible refine holds_of_ex X 400 _ _ _ ?_ | skip); simp (maxSteps:=1000000) only [push_cast,reduceCtorEq,Nat.reduceAdd,Nat.reduceMul,Nat.reduceSub,Nat.reduceBEq,Nat.reduceGT,Nat.reduceLT,Int.toNat_zero,Nat.reduceLeDiff,Int.reduceEq,Int.reduceLT,Int.reduceLE,hP,hΓ,hL,hfin,↓Z00,h70,h71,h72,h73])
 simp only [and_assoc,←List.map_append,←List.length_append]
 (repeat (refine And.intro (by first | exact True.intro | omega | assumption | exact own_row _ | (simp only [List.length_append]; omega) | (intro hg; (try simp only [decide_eq_true_eq,decide_eq_false_iff_not,Bool.and_eq_true,Bool.or_eq_true,Bool.and_eq_false_iff,Bool.or_eq_false_iff,Bool.not_eq_true',Bool.not_eq_false',Bool.not_eq_true,Bool.not_eq_false,Int.not_lt,Int.not_le,beq_iff_eq,beq_eq_false_iff_ne,ne_eq,win_t,win_f] at hg); omega)) ?_))
 have hM3:∀k,k≤o.procs.length→(Z1H (Z6e o) o.procs k).length≤o.procs.length*1048600:=fun k hk=>Nat.le_trans (Z0Y (Z6e o) o.procs 1048600 k fun i hi=>by
  have hi:i<o.procs.length:=by omega
  exact Z7F ho i _ (by omega)) (Nat.mul_le_mul_right _ hk)
 obtain⟨Q3,hQ3⟩:∃Q:Nat→Z04,Q=fun k=>A2++num o.procs.length++Z1H (Z6e o) o.procs k:=⟨_,rfl⟩
 have hQa3:A2++num o.procs.length=Q3 0:=by rw [hQ3]; simp [Z1H]
 have hQb3:∀k,Q3 k++(Z6e o k (o.procs.getD k default))=Q3 (k+1):=fun k=>by simp only [hQ3]; rw [Z1a]; simp [Z8q,Z5s]
 have hQc3:∀k,k≤o.procs.length→(Q3 k).length≤(A2++num o.procs.length).length+o.procs.length*1048600:=fun k hk=>by have:=hM3 k hk; rw [hQ3]; simp only [List.length_append] at *; omega
 simp only [List.length_append] at hQc3
 rw [hQa3]
 refine Holds.loopM (ι:={k:Nat // k≤o.procs.length}) [false,true,true,false,false,false,false,false,true,true,true,true,true,true,true,true,false,false,false,false,false,false,false,false,false,false,false,false,false,false,false,false,false,false,false,false,false,false,false,false,false,false,false,false,false,false,false,false,false,false,false,false,false,false,false,false,false,false,false,false,false,false,false,false,false,false,false,false,false,false,false,false,false,false,false,false,false,false,false,false,false,false,false,false,false,false,false,false,false,false,false,false,false,false,false,false,false,false,false,false,false,false,false,false,false,false,false,false,false,false,false,false,false,false,false,false,false,false,false,false,false,false,false,false,false,false,false,false,false,false,false,false,false,false,false,false,false,false,false,false,false,false,false,false,false,false,false,false,false,false,false,false,false,false,false,false,false,false,false,false,false,false,false,false,false,false,false,false,false,false,false,false,false,false,false,false,false,false,false,false,false,false,false,false,false,false,false,false,false,false,false,false,false,false,false,false,false,false,false,false,false,false,false,false,false,false,false,false,false,false,false,false,false,false,false,false,false,false,false,false,false,false,false,false,false,false,false,false,false,false,false,false,false,false,false,false,false,false,false,false,false,false,false,false,false,false,false,false,false,false,false,false,false] (fun i=>[(3,.msl 1 0 0 (Q3 i.1).length),(6,.int .i64 i.1)]) (fun i=>[.row o.c 13 0,.row ((Q3 i.1).map Z03) 1 0]) (fun i=>o.procs.length - i.1) ⟨0,Nat.zero_le _⟩ ?_ ?_
 ·rw [hL]; simp only [push_cast,Int.natCast_zero]
  (refine Z0k.ver 1  0 (by simp only [push_cast,reduceCtorEq,Nat.reduceAdd,Nat.reduceMul,Nat.reduceSub,Nat.reduceBEq,Nat.reduceGT,Nat.reduceLT,Int.toNat_zero,Nat.reduceLeDiff,Int.reduceEq,Int.reduceLT,Int.reduceLE]) (by first | exact .inr (Nat.zero_le _) | (left; simp only [push_cast,reduceCtorEq,Nat.reduceAdd,Nat.reduceMul,Nat.reduceSub,Nat.reduceBEq,Nat.reduceGT,Nat.reduceLT,Int.toNat_zero,Nat.reduceLeDiff,Int.reduceEq,Int.reduceLT,Int.reduceLE]; first | done | omega) | (right; simp only [push_cast,reduceCtorEq,Nat.reduceAdd,Nat.reduceMul,Nat.reduceSub,Nat.reduceBEq,Nat.reduceGT,Nat.reduceLT,Int.toNat_zero,Nat.reduceLeDiff,Int.reduceEq,Int.reduceLT,Int.reduceLE]; first | done | omega)) ?_; simp only [push_cast,reduceCtorEq,Nat.reduceAdd,Nat.reduceMul,Nat.reduceSub,Nat.reduceBEq,Nat.reduceGT,Nat.reduceLT,Int.toNat_zero,Nat.reduceLeDiff,Int.reduceEq,Int.reduceLT,Int.reduceLE])
  exact Z06.sameA
 rintro⟨k,hk⟩
 have hq:=hQc3 k hk
 ((first | with_reducible refine holds_of_ex X 400 _ _ _ ?_ | skip); simp (maxSteps:=1000000) only [push_cast,reduceCtorEq,Nat.reduceAdd,Nat.reduceMul,Nat.reduceSub,Nat.reduceBEq,Nat.reduceGT,Nat.reduceLT,Int.toNat_zero,Nat.reduceLeDiff,Int.reduceEq,Int.reduceLT,Int.reduceLE,hP,hΓ,hL,hfin,↓Z00])
 ((with_reducible refine Z02 (fun h=>?_) (fun h=>?_)) <;> (try simp only [decide_eq_true_eq,decide_eq_false_iff_not,Bool.and_eq_true,Bool.or_eq_true,Bool.and_eq_false_iff,Bool.or_eq_false_iff,Bool.not_eq_true',Bool.not_eq_false',Bool.not_eq_true,Bool.not_eq_false,Int.not_lt,Int.not_le,beq_iff_eq,beq_eq_false_iff_ne,ne_eq,win_t,win_f] at h))
 ·have hk':k<o.procs.length:=by omega
  have m1:=ho.nam (o.names.getD k default) (at_mem (by omega)); have m3:=Z2a (o.names.getD k default); have m4:=Z0q (o.procs.getD k default)
  ((first | with_reducible refine holds_of_ex X 400 _ _ _ ?_ | skip); simp (maxSteps:=1000000) only [push_cast,reduceCtorEq,Nat.reduceAdd,Nat.reduceMul,Nat.reduceSub,Nat.reduceBEq,Nat.reduceGT,Nat.reduceLT,Int.toNat_zero,Nat.reduceLeDiff,Int.reduceEq,Int.reduceLT,Int.reduceLE,hP,hΓ,hL,hfin,↓Z00,hk',h70,h71,h72,Z0c ((k:Int)+1) (by constructor <;> omega)])
  simp only [and_assoc,←List.map_append,←List.length_append]
  (repeat (refine And.intro (by first | exact True.intro | omega | assumption | exact own_row _ | (simp only [List.length_append]; omega) | (intro hg; (try simp only [decide_eq_true_eq,decide_eq_false_iff_not,Bool.and_eq_true,Bool.or_eq_true,Bool.and_eq_false_iff,Bool.or_eq_false_iff,Bool.not_eq_true',Bool.not_eq_false',Bool.not_eq_true,Bool.not_eq_false,Int.not_lt,Int.not_le,beq_iff_eq,beq_eq_false_iff_ne,ne_eq,win_t,win_f] at hg); omega)) ?_))
  refine Z02 (fun h=>?_) (fun h=>?_)
  ·((first | with_reducible refine holds_of_ex X 400 _ _ _ ?_ | skip); simp (maxSteps:=1000000) only [push_cast,reduceCtorEq,Nat.reduceAdd,Nat.reduceMul,Nat.reduceSub,Nat.reduceBEq,Nat.reduceGT,Nat.reduceLT,Int.toNat_zero,Nat.reduceLeDiff,Int.reduceEq,Int.reduceLT,Int.reduceLE,hP,hΓ,hL,hfin,↓Z00,Z0c ((k:Int)+1) (by constructor <;> omega)])
   have e1:List.map Z03 (Q3 k++num (o.procs.getD k default)++txt (o.names.getD k default))++[AV.int .u8 1]=(Q3 k++Z6e o k (o.procs.getD k default)).map Z03:=by simp only [Z6e,h,if_true,Bool.false_eq_true,if_false]; simp [Z03]
   have e2:(Q3 k).length+(num (o.procs.getD k default)).length+(txt (o.names.getD k default)).length+1=(Q3 k++Z6e o k (o.procs.getD k default)).length:=by simp [Z6e]; omega
   rw [e1,e2,hQb3 k]
   refine⟨by omega,⟨k+1,hk'⟩,by simp only; omega,?_⟩
   (refine Z0k.ver 1  0 (by simp only [push_cast,reduceCtorEq,Nat.reduceAdd,Nat.reduceMul,Nat.reduceSub,Nat.reduceBEq,Nat.reduceGT,Nat.reduceLT,Int.toNat_zero,Nat.reduceLeDiff,Int.reduceEq,Int.reduceLT,Int.reduceLE]) (by first | exact .inr (Nat.zero_le _) | (left; simp only [push_cast,reduceCtorEq,Nat.reduceAdd,Nat.reduceMul,Nat.reduceSub,Nat.reduceBEq,Nat.reduceGT,Nat.reduceLT,Int.toNat_zero,Nat.reduceLeDiff,Int.reduceEq,Int.reduceLT,Int.reduceLE]; first | done | omega) | (right; simp only [push_cast,reduceCtorEq,Nat.reduceAdd,Nat.reduceMul,Nat.reduceSub,Nat.reduceBEq,Nat.reduceGT,Nat.reduceLT,Int.toNat_zero,Nat.reduceLeDiff,Int.reduceEq,Int.reduceLT,Int.reduceLE]; first | done | omega)) ?_; simp only [push_cast,reduceCtorEq,Nat.reduceAdd,Nat.reduceMul,Nat.reduceSub,Nat.reduceBEq,Nat.reduceGT,Nat.reduceLT,Int.toNat_zero,Nat.reduceLeDiff,Int.reduceEq,Int.reduceLT,Int.reduceLE])
   exact Z06.keep2A
  ·((first | with_reducible refine holds_of_ex X 400 _ _ _ ?_ | skip); simp (maxSteps:=1000000) only [push_cast,reduceCtorEq,Nat.reduceAdd,Nat.reduceMul,Nat.reduceSub,Nat.reduceBEq,Nat.reduceGT,Nat.reduceLT,Int.toNat_zero,Nat.reduceLeDiff,Int.reduceEq,Int.reduceLT,Int.reduceLE,hP,hΓ,hL,hfin,↓Z00,Z0c ((k:Int)+1) (by constructor <;> omega)])
   have e1:List.map Z03 (Q3 k++num (o.procs.getD k default)++txt (o.names.getD k default))++[AV.int .u8 0]=(Q3 k++Z6e o k (o.procs.getD k default)).map Z03:=by simp only [Z6e,h,if_true,Bool.false_eq_true,if_false]; simp [Z03]
   have e2:(Q3 k).length+(num (o.procs.getD k default)).length+(txt (o.names.getD k default)).length+1=(Q3 k++Z6e o k (o.procs.getD k default)).length:=by simp [Z6e]; omega
   rw [e1,e2,hQb3 k]
   refine⟨by omega,⟨k+1,hk'⟩,by simp only; omega,?_⟩
   (refine Z0k.ver 1  0 (by simp only [push_cast,reduceCtorEq,Nat.reduceAdd,Nat.reduceMul,Nat.reduceSub,Nat.reduceBEq,Nat.reduceGT,Nat.reduceLT,Int.toNat_zero,Nat.reduceLeDiff,Int.reduceEq,Int.reduceLT,Int.reduceLE]) (by first | exact .inr (Nat.zero_le _) | (left; simp only [push_cast,reduceCtorEq,Nat.reduceAdd,Nat.reduceMul,Nat.reduceSub,Nat.reduceBEq,Nat.reduceGT,Nat.reduceLT,Int.toNat_zero,Nat.reduceLeDiff,Int.reduceEq,Int.reduceLT,Int.reduceLE]; first | done | omega) | (right; simp only [push_cast,reduceCtorEq,Nat.reduceAdd,Nat.reduceMul,Nat.reduceSub,Nat.reduceBEq,Nat.reduceGT,Nat.reduceLT,Int.toNat_zero,Nat.reduceLeDiff,Int.reduceEq,Int.reduceLT,Int.reduceLE]; first | done | omega)) ?_; simp only [push_cast,reduceCtorEq,Nat.reduceAdd,Nat.reduceMul,Nat.reduceSub,Nat.reduceBEq,Nat.reduceGT,Nat.reduceLT,Int.toNat_zero,Nat.reduceLeDiff,Int.reduceEq,Int.reduceLT,Int.reduceLE])
   exact Z06.keep2A
 obtain rfl:k=o.procs.length:=by omega
 generalize hA3:Q3 o.procs.length=A3 at hq
 have hn4:=Z0q (o.vars.length:Int)
 have hni:=Z0q o.init
 ((first | with_reducible refine holds_of_ex X 400 _ _ _ ?_ | skip); simp (maxSteps:=1000000) only [push_cast,reduceCtorEq,Nat.reduceAdd,Nat.reduceMul,Nat.reduceSub,Nat.reduceBEq,Nat.reduceGT,Nat.reduceLT,Int.toNat_zero,Nat.reduceLeDiff,Int.reduceEq,Int.reduceLT,Int.reduceLE,hP,hΓ,hL,hfin,↓Z00,h70,h71,h72,h73])
 simp only [and_assoc,←List.map_append,←List.length_append]
 (repeat (refine And.intro (by first | exact True.intro | omega | assumption | exact own_row _ | (simp only [List.length_append]; omega) | (intro hg; (try simp only [decide_eq_true_eq,decide_eq_false_iff_not,Bool.and_eq_true,Bool.or_eq_true,Bool.and_eq_false_iff,Bool.or_eq_false_iff,Bool.not_eq_true',Bool.not_eq_false',Bool.not_eq_true,Bool.not_eq_false,Int.not_lt,Int.not_le,beq_iff_eq,beq_eq_false_iff_ne,ne_eq,win_t,win_f] at hg); omega)) ?_))
 have hM4:∀k,k≤o.vars.length→(Z1H (fun _ t=>num t) o.vars k).length≤o.vars.length*5:=fun k hk=>Nat.le_trans (Z0Y (fun _ t=>num t) o.vars 5 k fun i hi=>by
  have hi:i<o.vars.length:=by omega
  exact Z0q _) (Nat.mul_le_mul_right _ hk)
 obtain⟨Q4,hQ4⟩:∃Q:Nat→Z04,Q=fun k=>A3++num o.init++num o.vars.length++Z1H (fun _ t=>num t) o.vars k:=⟨_,rfl⟩
 have hQa4:A3++num o.init++num o.vars.length=Q4 0:=by rw [hQ4]; simp [Z1H]
 have hQb4:∀k,Q4 k++(num (o.vars.getD k default))=Q4 (k+1):=fun k=>by simp only [hQ4]; rw [Z1a]; simp [Z8q,Z5s]
 have hQc4:∀k,k≤o.vars.length→(Q4 k).length≤(A3++num o.init++num o.vars.length).length+o.vars.length*5:=fun k hk=>by have:=hM4 k hk; rw [hQ4]; simp only [List.length_append] at *; omega
 simp only [List.length_append] at hQc4
 rw [hQa4]
 refine Holds.loopM (ι:={k:Nat // k≤o.vars.length}) [false,true,true,false,false,false,false,false,false,true,true,true,true,true,true,true,false,false,false,false,false,false,false,false,false,false,false,false,false,false,false,false,false,false,false,false,false,false,false,false,false,false,false,false,false,false,false,false,false,false,false,false,false,false,false,false,false,false,false,false,false,false,false,false,false,false,false,false,false,false,false,false,false,false,false,false,false,false,false,false,false,false,false,false,false,false,false,false,false,false,false,false,false,false,false,false,false,false,false,false,false,false,false,false,false,false,false,false,false,false,false,false,false,false,false,false,false,false,false,false,false,false,false,false,false,false,false,false,false,false,false,false,false,false,false,false,false,false,false,false,false,false,false,false,false,false,false,false,false,false,false,false,false,false,false,false,false,false,false,false,false,false,false,false,false,false,false,false,false,false,false,false,false,false,false,false,false,false,false,false,false,false,false,false,false,false,false,false,false,false,false,false,false,false,false,false,false,false,false,false,false,false,false,false,false,false,false,false,false,false,false,false,false,false,false,false,false,false,false,false,false,false,false,false,false,false,false,false,false,false,false,false,false,false,false,false,false,false,false,false,false,false,false,false,false,false,false,false,false,false,false,false,false] (fun i=>[(3,.msl 1 0 0 (Q4 i.1).length),(8,.int .i64 i.1)]) (fun i=>[.row o.c 13 0,.row ((Q4 i.1).map Z03) 1 0]) (fun i=>o.vars.length - i.1) ⟨0,Nat.zero_le _⟩ ?_ ?_
 ·rw [hL]; simp only [push_cast,Int.natCast_zero]
  (refine Z0k.ver 1  0 (by simp only [push_cast,reduceCtorEq,Nat.reduceAdd,Nat.reduceMul,Nat.reduceSub,Nat.reduceBEq,Nat.reduceGT,Nat.reduceLT,Int.toNat_zero,Nat.reduceLeDiff,Int.reduceEq,Int.reduceLT,Int.reduceLE]) (by first | exact .inr (Nat.zero_le _) | (left; simp only [push_cast,reduceCtorEq,Nat.reduceAdd,Nat.reduceMul,Nat.reduceSub,Nat.reduceBEq,Nat.reduceGT,Nat.reduceLT,Int.toNat_zero,Nat.reduceLeDiff,Int.reduceEq,Int.reduceLT,Int.reduceLE]; first | done | omega) | (right; simp only [push_cast,reduceCtorEq,Nat.reduceAdd,Nat.reduceMul,Nat.reduceSub,Nat.reduceBEq,Nat.reduceGT,Nat.reduceLT,Int.toNat_zero,Nat.reduceLeDiff,Int.reduceEq,Int.reduceLT,Int.reduceLE]; first | done | omega)) ?_; simp only [push_cast,reduceCtorEq,Nat.reduceAdd,Nat.reduceMul,Nat.reduceSub,Nat.reduceBEq,Nat.reduceGT,Nat.reduceLT,Int.toNat_zero,Nat.reduceLeDiff,Int.reduceEq,Int.reduceLT,Int.reduceLE])
  exact Z06.sameA
 rintro⟨k,hk⟩
 have hq:=hQc4 k hk
 ((first | with_reducible refine holds_of_ex X 400 _ _ _ ?_ | skip); simp (maxSteps:=1000000) only [push_cast,reduceCtorEq,Nat.reduceAdd,Nat.reduceMul,Nat.reduceSub,Nat.reduceBEq,Nat.reduceGT,Nat.reduceLT,Int.toNat_zero,Nat.reduceLeDiff,Int.reduceEq,Int.reduceLT,Int.reduceLE,hP,hΓ,hL,hfin,↓Z00])
 ((with_reducible refine Z02 (fun h=>?_) (fun h=>?_)) <;> (try simp only [decide_eq_true_eq,decide_eq_false_iff_not,Bool.and_eq_true,Bool.or_eq_true,Bool.and_eq_false_iff,Bool.or_eq_false_iff,Bool.not_eq_true',Bool.not_eq_false',Bool.not_eq_true,Bool.not_eq_false,Int.not_lt,Int.not_le,beq_iff_eq,beq_eq_false_iff_ne,ne_eq,win_t,win_f] at h))
 ·have hk':k<o.vars.length:=by omega
  have m1:=Z0q (o.vars.getD k default)
  ((first | with_reducible refine holds_of_ex X 400 _ _ _ ?_ | skip); simp (maxSteps:=1000000) only [push_cast,reduceCtorEq,Nat.reduceAdd,Nat.reduceMul,Nat.reduceSub,Nat.reduceBEq,Nat.reduceGT,Nat.reduceLT,Int.toNat_zero,Nat.reduceLeDiff,Int.reduceEq,Int.reduceLT,Int.reduceLE,hP,hΓ,hL,hfin,↓Z00,hk',h70,h71,h72,Z0c ((k:Int)+1) (by constructor <;> omega)])
  simp only [and_assoc,←List.map_append,←List.length_append]
  (repeat (refine And.intro (by first | exact True.intro | omega | assumption | exact own_row _ | (simp only [List.length_append]; omega) | (intro hg; (try simp only [decide_eq_true_eq,decide_eq_false_iff_not,Bool.and_eq_true,Bool.or_eq_true,Bool.and_eq_false_iff,Bool.or_eq_false_iff,Bool.not_eq_true',Bool.not_eq_false',Bool.not_eq_true,Bool.not_eq_false,Int.not_lt,Int.not_le,beq_iff_eq,beq_eq_false_iff_ne,ne_eq,win_t,win_f] at hg); omega)) ?_))
  rw [hQb4 k]
  refine⟨⟨k+1,hk'⟩,by simp only; omega,?_⟩
  (refine Z0k.ver 1  0 (by simp only [push_cast,reduceCtorEq,Nat.reduceAdd,Nat.reduceMul,Nat.reduceSub,Nat.reduceBEq,Nat.reduceGT,Nat.reduceLT,Int.toNat_zero,Nat.reduceLeDiff,Int.reduceEq,Int.reduceLT,Int.reduceLE]) (by first | exact .inr (Nat.zero_le _) | (left; simp only [push_cast,reduceCtorEq,Nat.reduceAdd,Nat.reduceMul,Nat.reduceSub,Nat.reduceBEq,Nat.reduceGT,Nat.reduceLT,Int.toNat_zero,Nat.reduceLeDiff,Int.reduceEq,Int.reduceLT,Int.reduceLE]; first | done | omega) | (right; simp only [push_cast,reduceCtorEq,Nat.reduceAdd,Nat.reduceMul,Nat.reduceSub,Nat.reduceBEq,Nat.reduceGT,Nat.reduceLT,Int.toNat_zero,Nat.reduceLeDiff,Int.reduceEq,Int.reduceLT,Int.reduceLE]; first | done | omega)) ?_; simp only [push_cast,reduceCtorEq,Nat.reduceAdd,Nat.reduceMul,Nat.reduceSub,Nat.reduceBEq,Nat.reduceGT,Nat.reduceLT,Int.toNat_zero,Nat.reduceLeDiff,Int.reduceEq,Int.reduceLT,Int.reduceLE])
  exact Z06.keep2A
 obtain rfl:k=o.vars.length:=by omega
 generalize hA4:Q4 o.vars.length=A4 at hq
 have hn5:=Z0q (o.shown.length:Int)
 ((first | with_reducible refine holds_of_ex X 400 _ _ _ ?_ | skip); simp (maxSteps:=1000000) only [push_cast,reduceCtorEq,Nat.reduceAdd,Nat.reduceMul,Nat.reduceSub,Nat.reduceBEq,Nat.reduceGT,Nat.reduceLT,Int.toNat_zero,Nat.reduceLeDiff,Int.reduceEq,Int.reduceLT,Int.reduceLE,hP,hΓ,hL,hfin,↓Z00,h70,h71,h72,h73])
 simp only [and_assoc,←List.map_append,←List.length_append]
 (repeat (refine And.intro (by first | exact True.intro | omega | assumption | exact own_row _ | (simp only [List.length_append]; omega) | (intro hg; (try simp only [decide_eq_true_eq,decide_eq_false_iff_not,Bool.and_eq_true,Bool.or_eq_true,Bool.and_eq_false_iff,Bool.or_eq_false_iff,Bool.not_eq_true',Bool.not_eq_false',Bool.not_eq_true,Bool.not_eq_false,Int.not_lt,Int.not_le,beq_iff_eq,beq_eq_false_iff_ne,ne_eq,win_t,win_f] at hg); omega)) ?_))
 have hM5:∀k,k≤o.shown.length→(Z1H (fun _ t=>num t) o.shown k).length≤o.shown.length*5:=fun k hk=>Nat.le_trans (Z0Y (fun _ t=>num t) o.shown 5 k fun i hi=>by
  have hi:i<o.shown.length:=by omega
  exact Z0q _) (Nat.mul_le_mul_right _ hk)
 obtain⟨Q5,hQ5⟩:∃Q:Nat→Z04,Q=fun k=>A4++num o.shown.length++Z1H (fun _ t=>num t) o.shown k:=⟨_,rfl⟩
 have hQa5:A4++num o.shown.length=Q5 0:=by rw [hQ5]; simp [Z1H]
 have hQb5:∀k,Q5 k++(num (o.shown.getD k default))=Q5 (k+1):=fun k=>by simp only [hQ5]; rw [Z1a]; simp [Z8q,Z5s]
 have hQc5:∀k,k≤o.shown.length→(Q5 k).length≤(A4++num o.shown.length).length+o.shown.length*5:=fun k hk=>by have:=hM5 k hk; rw [hQ5]; simp only [List.length_append] at *; omega
 simp only [List.length_append] at hQc5
 rw [hQa5]
 refine Holds.loopM (ι:={k:Nat // k≤o.shown.length}) [false,true,true,false,false,false,false,false,false,false,true,true,true,true,true,true,false,false,false,false,false,false,false,false,false,false,false,false,false,false,false,false,false,false,false,false,false,false,false,false,false,false,false,false,false,false,false,false,false,false,false,false,false,false,false,false,false,false,false,false,false,false,false,false,false,false,false,false,false,false,false,false,false,false,false,false,false,false,false,false,false,false,false,false,false,false,false,false,false,false,false,false,false,false,false,false,false,false,false,false,false,false,false,false,false,false,false,false,false,false,false,false,false,false,false,false,false,false,false,false,false,false,false,false,false,false,false,false,false,false,false,false,false,false,false,false,false,false,false,false,false,false,false,false,false,false,false,false,false,false,false,false,false,false,false,false,false,false,false,false,false,false,false,false,false,false,false,false,false,false,false,false,false,false,false,false,false,false,false,false,false,false,false,false,false,false,false,false,false,false,false,false,false,false,false,false,false,false,false,false,false,false,false,false,false,false,false,false,false,false,false,false,false,false,false,false,false,false,false,false,false,false,false,false,false,false,false,false,false,false,false,false,false,false,false,false,false,false,false,false,false,false,false,false,false,false,false,false,false,false,false,false,false] (fun i=>[(3,.msl 1 0 0 (Q5 i.1).length),(9,.int .i64 i.1)]) (fun i=>[.row o.c 13 0,.row ((Q5 i.1).map Z03) 1 0]) (fun i=>o.shown.length - i.1) ⟨0,Nat.zero_le _⟩ ?_ ?_
 ·rw [hL]; simp only [push_cast,Int.natCast_zero]
  (refine Z0k.ver 1  0 (by simp only [push_cast,reduceCtorEq,Nat.reduceAdd,Nat.reduceMul,Nat.reduceSub,Nat.reduceBEq,Nat.reduceGT,Nat.reduceLT,Int.toNat_zero,Nat.reduceLeDiff,Int.reduceEq,Int.reduceLT,Int.reduceLE]) (by first | exact .inr (Nat.zero_le _) | (left; simp only [push_cast,reduceCtorEq,Nat.reduceAdd,Nat.reduceMul,Nat.reduceSub,Nat.reduceBEq,Nat.reduceGT,Nat.reduceLT,Int.toNat_zero,Nat.reduceLeDiff,Int.reduceEq,Int.reduceLT,Int.reduceLE]; first | done | omega) | (right; simp only [push_cast,reduceCtorEq,Nat.reduceAdd,Nat.reduceMul,Nat.reduceSub,Nat.reduceBEq,Nat.reduceGT,Nat.reduceLT,Int.toNat_zero,Nat.reduceLeDiff,Int.reduceEq,Int.reduceLT,Int.reduceLE]; first | done | omega)) ?_; simp only [push_cast,reduceCtorEq,Nat.reduceAdd,Nat.reduceMul,Nat.reduceSub,Nat.reduceBEq,Nat.reduceGT,Nat.reduceLT,Int.toNat_zero,Nat.reduceLeDiff,Int.reduceEq,Int.reduceLT,Int.reduceLE])
  exact Z06.sameA
 rintro⟨k,hk⟩
 have hq:=hQc5 k hk
 ((first | with_reducible refine holds_of_ex X 400 _ _ _ ?_ | skip); simp (maxSteps:=1000000) only [push_cast,reduceCtorEq,Nat.reduceAdd,Nat.reduceMul,Nat.reduceSub,Nat.reduceBEq,Nat.reduceGT,Nat.reduceLT,Int.toNat_zero,Nat.reduceLeDiff,Int.reduceEq,Int.reduceLT,Int.reduceLE,hP,hΓ,hL,hfin,↓Z00])
 ((with_reducible refine Z02 (fun h=>?_) (fun h=>?_)) <;> (try simp only [decide_eq_true_eq,decide_eq_false_iff_not,Bool.and_eq_true,Bool.or_eq_true,Bool.and_eq_false_iff,Bool.or_eq_false_iff,Bool.not_eq_true',Bool.not_eq_false',Bool.not_eq_true,Bool.not_eq_false,Int.not_lt,Int.not_le,beq_iff_eq,beq_eq_false_iff_ne,ne_eq,win_t,win_f] at h))
 ·have hk':k<o.shown.length:=by omega
  have m1:=Z0q (o.shown.getD k default)
  ((first | with_reducible refine holds_of_ex X 400 _ _ _ ?_ | skip); simp (maxSteps:=1000000) only [push_cast,reduceCtorEq,Nat.reduceAdd,Nat.reduceMul,Nat.reduceSub,Nat.reduceBEq,Nat.reduceGT,Nat.reduceLT,Int.toNat_zero,Nat.reduceLeDiff,Int.reduceEq,Int.reduceLT,Int.reduceLE,hP,hΓ,hL,hfin,↓Z00,hk',h70,h71,h72,Z0c ((k:Int)+1) (by constructor <;> omega)])
  simp only [and_assoc,←List.map_append,←List.length_append]
  (repeat (refine And.intro (by first | exact True.intro | omega | assumption | exact own_row _ | (simp only [List.length_append]; omega) | (intro hg; (try simp only [decide_eq_true_eq,decide_eq_false_iff_not,Bool.and_eq_true,Bool.or_eq_true,Bool.and_eq_false_iff,Bool.or_eq_false_iff,Bool.not_eq_true',Bool.not_eq_false',Bool.not_eq_true,Bool.not_eq_false,Int.not_lt,Int.not_le,beq_iff_eq,beq_eq_false_iff_ne,ne_eq,win_t,win_f] at hg); omega)) ?_))
  rw [hQb5 k]
  refine⟨⟨k+1,hk'⟩,by simp only; omega,?_⟩
  (refine Z0k.ver 1  0 (by simp only [push_cast,reduceCtorEq,Nat.reduceAdd,Nat.reduceMul,Nat.reduceSub,Nat.reduceBEq,Nat.reduceGT,Nat.reduceLT,Int.toNat_zero,Nat.reduceLeDiff,Int.reduceEq,Int.reduceLT,Int.reduceLE]) (by first | exact .inr (Nat.zero_le _) | (left; simp only [push_cast,reduceCtorEq,Nat.reduceAdd,Nat.reduceMul,Nat.reduceSub,Nat.reduceBEq,Nat.reduceGT,Nat.reduceLT,Int.toNat_zero,Nat.reduceLeDiff,Int.reduceEq,Int.reduceLT,Int.reduceLE]; first | done | omega) | (right; simp only [push_cast,reduceCtorEq,Nat.reduceAdd,Nat.reduceMul,Nat.reduceSub,Nat.reduceBEq,Nat.reduceGT,Nat.reduceLT,Int.toNat_zero,Nat.reduceLeDiff,Int.reduceEq,Int.reduceLT,Int.reduceLE]; first | done | omega)) ?_; simp only [push_cast,reduceCtorEq,Nat.reduceAdd,Nat.reduceMul,Nat.reduceSub,Nat.reduceBEq,Nat.reduceGT,Nat.reduceLT,Int.toNat_zero,Nat.reduceLeDiff,Int.reduceEq,Int.reduceLT,Int.reduceLE])
  exact Z06.keep2A
 obtain rfl:k=o.shown.length:=by omega
 generalize hA5:Q5 o.shown.length=A5 at hq
 have hn6:=Z0q (o.strs.length:Int)
 ((first | with_reducible refine holds_of_ex X 400 _ _ _ ?_ | skip); simp (maxSteps:=1000000) only [push_cast,reduceCtorEq,Nat.reduceAdd,Nat.reduceMul,Nat.reduceSub,Nat.reduceBEq,Nat.reduceGT,Nat.reduceLT,Int.toNat_zero,Nat.reduceLeDiff,Int.reduceEq,Int.reduceLT,Int.reduceLE,hP,hΓ,hL,hfin,↓Z00,h70,h71,h72,h73])
 simp only [and_assoc,←List.map_append,←List.length_append]
 (repeat (refine And.intro (by first | exact True.intro | omega | assumption | exact own_row _ | (simp only [List.length_append]; omega) | (intro hg; (try simp only [decide_eq_true_eq,decide_eq_false_iff_not,Bool.and_eq_true,Bool.or_eq_true,Bool.and_eq_false_iff,Bool.or_eq_false_iff,Bool.not_eq_true',Bool.not_eq_false',Bool.not_eq_true,Bool.not_eq_false,Int.not_lt,Int.not_le,beq_iff_eq,beq_eq_false_iff_ne,ne_eq,win_t,win_f] at hg); omega)) ?_))
 have hM6:∀k,k≤o.strs.length→(Z1H (fun _ x=>txt x) o.strs k).length≤o.strs.length*1048600:=fun k hk=>Nat.le_trans (Z0Y (fun _ x=>txt x) o.strs 1048600 k fun i hi=>by
  have hi:i<o.strs.length:=by omega
  have m1:=ho.str _ (at_mem hi); have m3:=Z2a (o.strs.getD i default); omega) (Nat.mul_le_mul_right _ hk)
 obtain⟨Q6,hQ6⟩:∃Q:Nat→Z04,Q=fun k=>A5++num o.strs.length++Z1H (fun _ x=>txt x) o.strs k:=⟨_,rfl⟩
 have hQa6:A5++num o.strs.length=Q6 0:=by rw [hQ6]; simp [Z1H]
 have hQb6:∀k,Q6 k++(txt (o.strs.getD k default))=Q6 (k+1):=fun k=>by simp only [hQ6]; rw [Z1a]; simp [Z8q,Z5s]
 have hQc6:∀k,k≤o.strs.length→(Q6 k).length≤(A5++num o.strs.length).length+o.strs.length*1048600:=fun k hk=>by have:=hM6 k hk; rw [hQ6]; simp only [List.length_append] at *; omega
 simp only [List.length_append] at hQc6
 rw [hQa6]
 refine Holds.loopM (ι:={k:Nat // k≤o.strs.length}) [false,true,true,false,false,false,false,false,false,false,false,true,true,true,true,true,false,false,false,false,false,false,false,false,false,false,false,false,false,false,false,false,false,false,false,false,false,false,false,false,false,false,false,false,false,false,false,false,false,false,false,false,false,false,false,false,false,false,false,false,false,false,false,false,false,false,false,false,false,false,false,false,false,false,false,false,false,false,false,false,false,false,false,false,false,false,false,false,false,false,false,false,false,false,false,false,false,false,false,false,false,false,false,false,false,false,false,false,false,false,false,false,false,false,false,false,false,false,false,false,false,false,false,false,false,false,false,false,false,false,false,false,false,false,false,false,false,false,false,false,false,false,false,false,false,false,false,false,false,false,false,false,false,false,false,false,false,false,false,false,false,false,false,false,false,false,false,false,false,false,false,false,false,false,false,false,false,false,false,false,false,false,false,false,false,false,false,false,false,false,false,false,false,false,false,false,false,false,false,false,false,false,false,false,false,false,false,false,false,false,false,false,false,false,false,false,false,false,false,false,false,false,false,false,false,false,false,false,false,false,false,false,false,false,false,false,false,false,false,false,false,false,false,false,false,false,false,false,false,false,false,false,false] (fun i=>[(3,.msl 1 0 0 (Q6 i.1).length),(10,.int .i64 i.1)]) (fun i=>[.row o.c 13 0,.row ((Q6 i.1).map Z03) 1 0]) (fun i=>o.strs.length - i.1) ⟨0,Nat.zero_le _⟩ ?_ ?_
 ·rw [hL]; simp only [push_cast,Int.natCast_zero]
  (refine Z0k.ver 1  0 (by simp only [push_cast,reduceCtorEq,Nat.reduceAdd,Nat.reduceMul,Nat.reduceSub,Nat.reduceBEq,Nat.reduceGT,Nat.reduceLT,Int.toNat_zero,Nat.reduceLeDiff,Int.reduceEq,Int.reduceLT,Int.reduceLE]) (by first | exact .inr (Nat.zero_le _) | (left; simp only [push_cast,reduceCtorEq,Nat.reduceAdd,Nat.reduceMul,Nat.reduceSub,Nat.reduceBEq,Nat.reduceGT,Nat.reduceLT,Int.toNat_zero,Nat.reduceLeDiff,Int.reduceEq,Int.reduceLT,Int.reduceLE]; first | done | omega) | (right; simp only [push_cast,reduceCtorEq,Nat.reduceAdd,Nat.reduceMul,Nat.reduceSub,Nat.reduceBEq,Nat.reduceGT,Nat.reduceLT,Int.toNat_zero,Nat.reduceLeDiff,Int.reduceEq,Int.reduceLT,Int.reduceLE]; first | done | omega)) ?_; simp only [push_cast,reduceCtorEq,Nat.reduceAdd,Nat.reduceMul,Nat.reduceSub,Nat.reduceBEq,Nat.reduceGT,Nat.reduceLT,Int.toNat_zero,Nat.reduceLeDiff,Int.reduceEq,Int.reduceLT,Int.reduceLE])
  exact Z06.sameA
 rintro⟨k,hk⟩
 have hq:=hQc6 k hk
 ((first | with_reducible refine holds_of_ex X 400 _ _ _ ?_ | skip); simp (maxSteps:=1000000) only [push_cast,reduceCtorEq,Nat.reduceAdd,Nat.reduceMul,Nat.reduceSub,Nat.reduceBEq,Nat.reduceGT,Nat.reduceLT,Int.toNat_zero,Nat.reduceLeDiff,Int.reduceEq,Int.reduceLT,Int.reduceLE,hP,hΓ,hL,hfin,↓Z00])
 ((with_reducible refine Z02 (fun h=>?_) (fun h=>?_)) <;> (try simp only [decide_eq_true_eq,decide_eq_false_iff_not,Bool.and_eq_true,Bool.or_eq_true,Bool.and_eq_false_iff,Bool.or_eq_false_iff,Bool.not_eq_true',Bool.not_eq_false',Bool.not_eq_true,Bool.not_eq_false,Int.not_lt,Int.not_le,beq_iff_eq,beq_eq_false_iff_ne,ne_eq,win_t,win_f] at h))
 ·have hk':k<o.strs.length:=by omega
  have m1:=ho.str _ (at_mem hk'); have m3:=Z2a (o.strs.getD k default)
  ((first | with_reducible refine holds_of_ex X 400 _ _ _ ?_ | skip); simp (maxSteps:=1000000) only [push_cast,reduceCtorEq,Nat.reduceAdd,Nat.reduceMul,Nat.reduceSub,Nat.reduceBEq,Nat.reduceGT,Nat.reduceLT,Int.toNat_zero,Nat.reduceLeDiff,Int.reduceEq,Int.reduceLT,Int.reduceLE,hP,hΓ,hL,hfin,↓Z00,hk',h70,h71,h72,Z0c ((k:Int)+1) (by constructor <;> omega)])
  simp only [and_assoc,←List.map_append,←List.length_append]
  (repeat (refine And.intro (by first | exact True.intro | omega | assumption | exact own_row _ | (simp only [List.length_append]; omega) | (intro hg; (try simp only [decide_eq_true_eq,decide_eq_false_iff_not,Bool.and_eq_true,Bool.or_eq_true,Bool.and_eq_false_iff,Bool.or_eq_false_iff,Bool.not_eq_true',Bool.not_eq_false',Bool.not_eq_true,Bool.not_eq_false,Int.not_lt,Int.not_le,beq_iff_eq,beq_eq_false_iff_ne,ne_eq,win_t,win_f] at hg); omega)) ?_))
  rw [hQb6 k]
  refine⟨⟨k+1,hk'⟩,by simp only; omega,?_⟩
  (refine Z0k.ver 1  0 (by simp only [push_cast,reduceCtorEq,Nat.reduceAdd,Nat.reduceMul,Nat.reduceSub,Nat.reduceBEq,Nat.reduceGT,Nat.reduceLT,Int.toNat_zero,Nat.reduceLeDiff,Int.reduceEq,Int.reduceLT,Int.reduceLE]) (by first | exact .inr (Nat.zero_le _) | (left; simp only [push_cast,reduceCtorEq,Nat.reduceAdd,Nat.reduceMul,Nat.reduceSub,Nat.reduceBEq,Nat.reduceGT,Nat.reduceLT,Int.toNat_zero,Nat.reduceLeDiff,Int.reduceEq,Int.reduceLT,Int.reduceLE]; first | done | omega) | (right; simp only [push_cast,reduceCtorEq,Nat.reduceAdd,Nat.reduceMul,Nat.reduceSub,Nat.reduceBEq,Nat.reduceGT,Nat.reduceLT,Int.toNat_zero,Nat.reduceLeDiff,Int.reduceEq,Int.reduceLT,Int.reduceLE]; first | done | omega)) ?_; simp only [push_cast,reduceCtorEq,Nat.reduceAdd,Nat.reduceMul,Nat.reduceSub,Nat.reduceBEq,Nat.reduceGT,Nat.reduceLT,Int.toNat_zero,Nat.reduceLeDiff,Int.reduceEq,Int.reduceLT,Int.reduceLE])
  exact Z06.keep2A
 obtain rfl:k=o.strs.length:=by omega
 generalize hA6:Q6 o.strs.length=A6 at hq
 have hn7:=Z0q (o.descs.length:Int)
 ((first | with_reducible refine holds_of_ex X 400 _ _ _ ?_ | skip); simp (maxSteps:=1000000) only [push_cast,reduceCtorEq,Nat.reduceAdd,Nat.reduceMul,Nat.reduceSub,Nat.reduceBEq,Nat.reduceGT,Nat.reduceLT,Int.toNat_zero,Nat.reduceLeDiff,Int.reduceEq,Int.reduceLT,Int.reduceLE,hP,hΓ,hL,hfin,↓Z00,h70,h71,h72,h73])
 simp only [and_assoc,←List.map_append,←List.length_append]
 (repeat (refine And.intro (by first | exact True.intro | omega | assumption | exact own_row _ | (simp only [List.length_append]; omega) | (intro hg; (try simp only [decide_eq_true_eq,decide_eq_false_iff_not,Bool.and_eq_true,Bool.or_eq_true,Bool.and_eq_false_iff,Bool.or_eq_false_iff,Bool.not_eq_true',Bool.not_eq_false',Bool.not_eq_true,Bool.not_eq_false,Int.not_lt,Int.not_le,beq_iff_eq,beq_eq_false_iff_ne,ne_eq,win_t,win_f] at hg); omega)) ?_))
 have hM7:∀k,k≤o.descs.length→(Z1H (fun _ x=>Z99 x) o.descs k).length≤o.descs.length*5242900:=fun k hk=>Nat.le_trans (Z0Y (fun _ x=>Z99 x) o.descs 5242900 k fun i hi=>by
  have hi:i<o.descs.length:=by omega
  have:=ho.des _ (at_mem hi); have:=Z47 (o.descs.getD i default).tags; have:=Z0q (o.descs.getD i default).ty; have:=Z0q (o.descs.getD i default).size; simp only [Z99,List.length_append]; omega) (Nat.mul_le_mul_right _ hk)
 obtain⟨Q7,hQ7⟩:∃Q:Nat→Z04,Q=fun k=>A6++num o.descs.length++Z1H (fun _ x=>Z99 x) o.descs k:=⟨_,rfl⟩
 have hQa7:A6++num o.descs.length=Q7 0:=by rw [hQ7]; simp [Z1H]
 have hQb7:∀k,Q7 k++(Z99 (o.descs.getD k default))=Q7 (k+1):=fun k=>by simp only [hQ7]; rw [Z1a]; simp [Z8q,Z5s]
 have hQc7:∀k,k≤o.descs.length→(Q7 k).length≤(A6++num o.descs.length).length+o.descs.length*5242900:=fun k hk=>by have:=hM7 k hk; rw [hQ7]; simp only [List.length_append] at *; omega
 simp only [List.length_append] at hQc7
 rw [hQa7]
 refine Holds.loopM (ι:={k:Nat // k≤o.descs.length}) [false,true,true,false,false,false,false,false,false,false,false,false,false,false,true,true,false,false,false,false,false,false,false,false,false,false,false,false,false,false,false,false,false,false,false,false,false,false,false,false,false,false,false,false,false,false,false,false,false,false,false,false,false,false,false,false,false,false,false,false,false,false,false,false,false,false,false,false,false,false,false,false,false,false,false,false,false,false,false,false,false,false,false,false,false,false,false,false,false,false,false,false,false,false,false,false,false,false,false,false,false,false,false,false,false,false,false,false,false,false,false,false,false,false,false,false,false,false,false,false,false,false,false,false,false,false,false,false,false,false,false,false,false,false,false,false,false,false,false,false,false,false,false,false,false,false,false,false,false,false,false,false,false,false,false,false,false,false,false,false,false,false,false,false,false,false,false,false,false,false,false,false,false,false,false,false,false,false,false,false,false,false,false,false,false,false,false,false,false,false,false,false,false,false,false,false,false,false,false,false,false,false,false,false,false,false,false,false,false,false,false,false,false,false,false,false,false,false,false,false,false,false,false,false,false,false,false,false,false,false,false,false,false,false,false,false,false,false,false,false,false,false,false,false,false,false,false,false,false,false,false,false,false] (fun i=>[(3,.msl 1 0 0 (Q7 i.1).length),(11,.int .i64 i.1)]) (fun i=>[.row o.c 13 0,.row ((Q7 i.1).map Z03) 1 0]) (fun i=>o.descs.length - i.1) ⟨0,Nat.zero_le _⟩ ?_ ?_
 ·rw [hL]; simp only [push_cast,Int.natCast_zero]
  (refine Z0k.ver 1  0 (by simp only [push_cast,reduceCtorEq,Nat.reduceAdd,Nat.reduceMul,Nat.reduceSub,Nat.reduceBEq,Nat.reduceGT,Nat.reduceLT,Int.toNat_zero,Nat.reduceLeDiff,Int.reduceEq,Int.reduceLT,Int.reduceLE]) (by first | exact .inr (Nat.zero_le _) | (left; simp only [push_cast,reduceCtorEq,Nat.reduceAdd,Nat.reduceMul,Nat.reduceSub,Nat.reduceBEq,Nat.reduceGT,Nat.reduceLT,Int.toNat_zero,Nat.reduceLeDiff,Int.reduceEq,Int.reduceLT,Int.reduceLE]; first | done | omega) | (right; simp only [push_cast,reduceCtorEq,Nat.reduceAdd,Nat.reduceMul,Nat.reduceSub,Nat.reduceBEq,Nat.reduceGT,Nat.reduceLT,Int.toNat_zero,Nat.reduceLeDiff,Int.reduceEq,Int.reduceLT,Int.reduceLE]; first | done | omega)) ?_; simp only [push_cast,reduceCtorEq,Nat.reduceAdd,Nat.reduceMul,Nat.reduceSub,Nat.reduceBEq,Nat.reduceGT,Nat.reduceLT,Int.toNat_zero,Nat.reduceLeDiff,Int.reduceEq,Int.reduceLT,Int.reduceLE])
  exact Z06.sameA
 rintro⟨k,hk⟩
 have hq:=hQc7 k hk
 ((first | with_reducible refine holds_of_ex X 400 _ _ _ ?_ | skip); simp (maxSteps:=1000000) only [push_cast,reduceCtorEq,Nat.reduceAdd,Nat.reduceMul,Nat.reduceSub,Nat.reduceBEq,Nat.reduceGT,Nat.reduceLT,Int.toNat_zero,Nat.reduceLeDiff,Int.reduceEq,Int.reduceLT,Int.reduceLE,hP,hΓ,hL,hfin,↓Z00])
 ((with_reducible refine Z02 (fun h=>?_) (fun h=>?_)) <;> (try simp only [decide_eq_true_eq,decide_eq_false_iff_not,Bool.and_eq_true,Bool.or_eq_true,Bool.and_eq_false_iff,Bool.or_eq_false_iff,Bool.not_eq_true',Bool.not_eq_false',Bool.not_eq_true,Bool.not_eq_false,Int.not_lt,Int.not_le,beq_iff_eq,beq_eq_false_iff_ne,ne_eq,win_t,win_f] at h))
 ·have hk':k<o.descs.length:=by omega
  obtain⟨d,hd⟩:∃d,o.descs.getD k default=d:=⟨_,rfl⟩
  have htl:=ho.des _ (at_mem hk')
  rw [hd] at htl
  have m1:=Z0q d.ty; have m2:=Z0q d.size; have m3:=Z0q (d.tags.length:Int)
  ((first | with_reducible refine holds_of_ex X 400 _ _ _ ?_ | skip); simp (maxSteps:=1000000) only [push_cast,reduceCtorEq,Nat.reduceAdd,Nat.reduceMul,Nat.reduceSub,Nat.reduceBEq,Nat.reduceGT,Nat.reduceLT,Int.toNat_zero,Nat.reduceLeDiff,Int.reduceEq,Int.reduceLT,Int.reduceLE,hP,hΓ,hL,hfin,↓Z00,hk',h70,h71,h72,Z0c ((k:Int)+1) (by constructor <;> omega),hd])
  simp only [and_assoc,←List.map_append,←List.length_append]
  (repeat (refine And.intro (by first | exact True.intro | omega | assumption | exact own_row _ | (simp only [List.length_append]; omega) | (intro hg; (try simp only [decide_eq_true_eq,decide_eq_false_iff_not,Bool.and_eq_true,Bool.or_eq_true,Bool.and_eq_false_iff,Bool.or_eq_false_iff,Bool.not_eq_true',Bool.not_eq_false',Bool.not_eq_true,Bool.not_eq_false,Int.not_lt,Int.not_le,beq_iff_eq,beq_eq_false_iff_ne,ne_eq,win_t,win_f] at hg); omega)) ?_))
  obtain⟨R,hR⟩:∃R:Nat→Z04,R=fun j=>Q7 k++num d.ty++num d.size++num d.tags.length++Z1H (fun _ t=>num t) d.tags j:=⟨_,rfl⟩
  have hRa:Q7 k++num d.ty++num d.size++num d.tags.length=R 0:=by rw [hR]; simp [Z1H]
  have hRb:∀j,R j++num (d.tags.getD j default)=R (j+1):=fun j=>by simp only [hR]; rw [Z1a]; simp
  have hRc:∀j,j≤d.tags.length→(R j).length≤(Q7 k).length+15+j*5:=fun j hj=>by
   have:=Z0Y (fun _ t=>num t) d.tags 5 j fun i hi=>Z0q _
   rw [hR]; simp only [List.length_append]; omega
  have hRd:R d.tags.length=Q7 (k+1):=by rw [hR,←hQb7 k,hd]; simp [Z99,Z5a]
  rw [hRa]
  refine Holds.loopM (ι:={j:Nat // j≤d.tags.length}) [false,true,true,false,false,false,false,false,false,false,false,true,true,false,true,true,false,false,false,false,false,false,false,false,false,false,false,false,false,false,false,false,false,false,false,false,false,false,false,false,false,false,false,false,false,false,false,false,false,false,false,false,false,false,false,false,false,false,false,false,false,false,false,false,false,false,false,false,false,false,false,false,false,false,false,false,false,false,false,false,false,false,false,false,false,false,false,false,false,false,false,false,false,false,false,false,false,false,false,false,false,false,false,false,false,false,false,false,false,false,false,false,false,false,false,false,false,false,false,false,false,false,false,false,false,false,false,false,false,false,false,false,false,false,false,false,false,false,false,false,false,false,false,false,false,false,false,false,false,false,false,false,false,false,false,false,false,false,false,false,false,false,false,false,false,false,false,false,false,false,false,false,false,false,false,false,false,false,false,false,false,false,false,false,false,false,false,false,false,false,false,false,false,false,false,false,false,false,false,false,false,false,false,false,false,false,false,false,false,false,false,false,false,false,false,false,false,false,false,false,false,false,false,false,false,false,false,false,false,false,false,false,false,false,false,false,false,false,false,false,false,false,false,false,false,false,false,false,false,false,false,false,false] (fun i=>[(3,.msl 1 0 0 (R i.1).length),(13,.int .i64 i.1)]) (fun i=>[.row o.c 13 0,.row ((R i.1).map Z03) 1 0,.row d.c 3 0]) (fun i=>d.tags.length - i.1) ⟨0,Nat.zero_le _⟩ ?_ ?_
  ·rw [hL]; simp only [push_cast,Int.natCast_zero]
   (refine Z0k.ver 1  0 (by simp only [push_cast,reduceCtorEq,Nat.reduceAdd,Nat.reduceMul,Nat.reduceSub,Nat.reduceBEq,Nat.reduceGT,Nat.reduceLT,Int.toNat_zero,Nat.reduceLeDiff,Int.reduceEq,Int.reduceLT,Int.reduceLE]) (by first | exact .inr (Nat.zero_le _) | (left; simp only [push_cast,reduceCtorEq,Nat.reduceAdd,Nat.reduceMul,Nat.reduceSub,Nat.reduceBEq,Nat.reduceGT,Nat.reduceLT,Int.toNat_zero,Nat.reduceLeDiff,Int.reduceEq,Int.reduceLT,Int.reduceLE]; first | done | omega) | (right; simp only [push_cast,reduceCtorEq,Nat.reduceAdd,Nat.reduceMul,Nat.reduceSub,Nat.reduceBEq,Nat.reduceGT,Nat.reduceLT,Int.toNat_zero,Nat.reduceLeDiff,Int.reduceEq,Int.reduceLT,Int.reduceLE]; first | done | omega)) ?_; simp only [push_cast,reduceCtorEq,Nat.reduceAdd,Nat.reduceMul,Nat.reduceSub,Nat.reduceBEq,Nat.reduceGT,Nat.reduceLT,Int.toNat_zero,Nat.reduceLeDiff,Int.reduceEq,Int.reduceLT,Int.reduceLE])
   exact Z06.sameA
  rintro⟨j,hj⟩
  have hr:=hRc j hj
  ((first | with_reducible refine holds_of_ex X 400 _ _ _ ?_ | skip); simp (maxSteps:=1000000) only [push_cast,reduceCtorEq,Nat.reduceAdd,Nat.reduceMul,Nat.reduceSub,Nat.reduceBEq,Nat.reduceGT,Nat.reduceLT,Int.toNat_zero,Nat.reduceLeDiff,Int.reduceEq,Int.reduceLT,Int.reduceLE,hP,hΓ,hL,hfin,↓Z00])
  ((with_reducible refine Z02 (fun h=>?_) (fun h=>?_)) <;> (try simp only [decide_eq_true_eq,decide_eq_false_iff_not,Bool.and_eq_true,Bool.or_eq_true,Bool.and_eq_false_iff,Bool.or_eq_false_iff,Bool.not_eq_true',Bool.not_eq_false',Bool.not_eq_true,Bool.not_eq_false,Int.not_lt,Int.not_le,beq_iff_eq,beq_eq_false_iff_ne,ne_eq,win_t,win_f] at h))
  ·have hj':j<d.tags.length:=by omega
   have m5:=Z0q (d.tags.getD j default)
   ((first | with_reducible refine holds_of_ex X 400 _ _ _ ?_ | skip); simp (maxSteps:=1000000) only [push_cast,reduceCtorEq,Nat.reduceAdd,Nat.reduceMul,Nat.reduceSub,Nat.reduceBEq,Nat.reduceGT,Nat.reduceLT,Int.toNat_zero,Nat.reduceLeDiff,Int.reduceEq,Int.reduceLT,Int.reduceLE,hP,hΓ,hL,hfin,↓Z00,h72,Z0c ((j:Int)+1) (by constructor <;> omega)])
   simp only [and_assoc,←List.map_append,←List.length_append]
   (repeat (refine And.intro (by first | exact True.intro | omega | assumption | exact own_row _ | (simp only [List.length_append]; omega) | (intro hg; (try simp only [decide_eq_true_eq,decide_eq_false_iff_not,Bool.and_eq_true,Bool.or_eq_true,Bool.and_eq_false_iff,Bool.or_eq_false_iff,Bool.not_eq_true',Bool.not_eq_false',Bool.not_eq_true,Bool.not_eq_false,Int.not_lt,Int.not_le,beq_iff_eq,beq_eq_false_iff_ne,ne_eq,win_t,win_f] at hg); omega)) ?_))
   rw [hRb j]
   refine⟨⟨j+1,hj'⟩,by simp only; omega,?_⟩
   (refine Z0k.ver 1  0 (by simp only [push_cast,reduceCtorEq,Nat.reduceAdd,Nat.reduceMul,Nat.reduceSub,Nat.reduceBEq,Nat.reduceGT,Nat.reduceLT,Int.toNat_zero,Nat.reduceLeDiff,Int.reduceEq,Int.reduceLT,Int.reduceLE]) (by first | exact .inr (Nat.zero_le _) | (left; simp only [push_cast,reduceCtorEq,Nat.reduceAdd,Nat.reduceMul,Nat.reduceSub,Nat.reduceBEq,Nat.reduceGT,Nat.reduceLT,Int.toNat_zero,Nat.reduceLeDiff,Int.reduceEq,Int.reduceLT,Int.reduceLE]; first | done | omega) | (right; simp only [push_cast,reduceCtorEq,Nat.reduceAdd,Nat.reduceMul,Nat.reduceSub,Nat.reduceBEq,Nat.reduceGT,Nat.reduceLT,Int.toNat_zero,Nat.reduceLeDiff,Int.reduceEq,Int.reduceLT,Int.reduceLE]; first | done | omega)) ?_; simp only [push_cast,reduceCtorEq,Nat.reduceAdd,Nat.reduceMul,Nat.reduceSub,Nat.reduceBEq,Nat.reduceGT,Nat.reduceLT,Int.toNat_zero,Nat.reduceLeDiff,Int.reduceEq,Int.reduceLT,Int.reduceLE])
   exact Z06.keep3A
  obtain rfl:j=d.tags.length:=by omega
  ((first | with_reducible refine holds_of_ex X 400 _ _ _ ?_ | skip); simp (maxSteps:=1000000) only [push_cast,reduceCtorEq,Nat.reduceAdd,Nat.reduceMul,Nat.reduceSub,Nat.reduceBEq,Nat.reduceGT,Nat.reduceLT,Int.toNat_zero,Nat.reduceLeDiff,Int.reduceEq,Int.reduceLT,Int.reduceLE,hP,hΓ,hL,hfin,↓Z00,Z0c ((k:Int)+1) (by constructor <;> omega)])
  rw [hRd]
  refine⟨⟨k+1,hk'⟩,by simp only; omega,?_⟩
  exact Z06.keep2A
 obtain rfl:k=o.descs.length:=by omega
 generalize hA7:Q7 o.descs.length=A7 at hq
 have hn9:=Z0q (o.fixes.length:Int)
 ((first | with_reducible refine holds_of_ex X 400 _ _ _ ?_ | skip); simp (maxSteps:=1000000) only [push_cast,reduceCtorEq,Nat.reduceAdd,Nat.reduceMul,Nat.reduceSub,Nat.reduceBEq,Nat.reduceGT,Nat.reduceLT,Int.toNat_zero,Nat.reduceLeDiff,Int.reduceEq,Int.reduceLT,Int.reduceLE,hP,hΓ,hL,hfin,↓Z00,h70,h71,h72,h73])
 simp only [and_assoc,←List.map_append,←List.length_append]
 (repeat (refine And.intro (by first | exact True.intro | omega | assumption | exact own_row _ | (simp only [List.length_append]; omega) | (intro hg; (try simp only [decide_eq_true_eq,decide_eq_false_iff_not,Bool.and_eq_true,Bool.or_eq_true,Bool.and_eq_false_iff,Bool.or_eq_false_iff,Bool.not_eq_true',Bool.not_eq_false',Bool.not_eq_true,Bool.not_eq_false,Int.not_lt,Int.not_le,beq_iff_eq,beq_eq_false_iff_ne,ne_eq,win_t,win_f] at hg); omega)) ?_))
 have hM9:∀k,k≤o.fixes.length→(Z1H (fun _ x=>Z5s x) o.fixes k).length≤o.fixes.length*16:=fun k hk=>Nat.le_trans (Z0Y (fun _ x=>Z5s x) o.fixes 16 k fun i hi=>by
  have hi:i<o.fixes.length:=by omega
  have:=Z0q (o.fixes.getD i default).at_; have:=Z0q ((o.fixes.getD i default).m+1); have:=Z0q (o.fixes.getD i default).n; simp only [Z5s,List.length_append,List.length_cons,List.length_nil]; omega) (Nat.mul_le_mul_right _ hk)
 obtain⟨Q9,hQ9⟩:∃Q:Nat→Z04,Q=fun k=>A7++num o.fixes.length++Z1H (fun _ x=>Z5s x) o.fixes k:=⟨_,rfl⟩
 have hQa9:A7++num o.fixes.length=Q9 0:=by rw [hQ9]; simp [Z1H]
 have hQb9:∀k,Q9 k++(Z5s (o.fixes.getD k default))=Q9 (k+1):=fun k=>by simp only [hQ9]; rw [Z1a]; simp [Z8q,Z5s]
 have hQc9:∀k,k≤o.fixes.length→(Q9 k).length≤(A7++num o.fixes.length).length+o.fixes.length*16:=fun k hk=>by have:=hM9 k hk; rw [hQ9]; simp only [List.length_append] at *; omega
 simp only [List.length_append] at hQc9
 rw [hQa9]
 refine Holds.loopM (ι:={k:Nat // k≤o.fixes.length}) [false,true,true,false,false,false,false,false,false,false,false,false,false,false,false,false,false,false,false,false,false,false,false,false,false,false,false,false,false,false,false,false,false,false,false,false,false,false,false,false,false,false,false,false,false,false,false,false,false,false,false,false,false,false,false,false,false,false,false,false,false,false,false,false,false,false,false,false,false,false,false,false,false,false,false,false,false,false,false,false,false,false,false,false,false,false,false,false,false,false,false,false,false,false,false,false,false,false,false,false,false,false,false,false,false,false,false,false,false,false,false,false,false,false,false,false,false,false,false,false,false,false,false,false,false,false,false,false,false,false,false,false,false,false,false,false,false,false,false,false,false,false,false,false,false,false,false,false,false,false,false,false,false,false,false,false,false,false,false,false,false,false,false,false,false,false,false,false,false,false,false,false,false,false,false,false,false,false,false,false,false,false,false,false,false,false,false,false,false,false,false,false,false,false,false,false,false,false,false,false,false,false,false,false,false,false,false,false,false,false,false,false,false,false,false,false,false,false,false,false,false,false,false,false,false,false,false,false,false,false,false,false,false,false,false,false,false,false,false,false,false,false,false,false,false,false,false,false,false,false,false,false,false] (fun i=>[(3,.msl 1 0 0 (Q9 i.1).length),(14,.int .i64 i.1)]) (fun i=>[.row o.c 13 0,.row ((Q9 i.1).map Z03) 1 0]) (fun i=>o.fixes.length - i.1) ⟨0,Nat.zero_le _⟩ ?_ ?_
 ·rw [hL]; simp only [push_cast,Int.natCast_zero]
  (refine Z0k.ver 1  0 (by simp only [push_cast,reduceCtorEq,Nat.reduceAdd,Nat.reduceMul,Nat.reduceSub,Nat.reduceBEq,Nat.reduceGT,Nat.reduceLT,Int.toNat_zero,Nat.reduceLeDiff,Int.reduceEq,Int.reduceLT,Int.reduceLE]) (by first | exact .inr (Nat.zero_le _) | (left; simp only [push_cast,reduceCtorEq,Nat.reduceAdd,Nat.reduceMul,Nat.reduceSub,Nat.reduceBEq,Nat.reduceGT,Nat.reduceLT,Int.toNat_zero,Nat.reduceLeDiff,Int.reduceEq,Int.reduceLT,Int.reduceLE]; first | done | omega) | (right; simp only [push_cast,reduceCtorEq,Nat.reduceAdd,Nat.reduceMul,Nat.reduceSub,Nat.reduceBEq,Nat.reduceGT,Nat.reduceLT,Int.toNat_zero,Nat.reduceLeDiff,Int.reduceEq,Int.reduceLT,Int.reduceLE]; first | done | omega)) ?_; simp only [push_cast,reduceCtorEq,Nat.reduceAdd,Nat.reduceMul,Nat.reduceSub,Nat.reduceBEq,Nat.reduceGT,Nat.reduceLT,Int.toNat_zero,Nat.reduceLeDiff,Int.reduceEq,Int.reduceLT,Int.reduceLE])
  exact Z06.sameA
 rintro⟨k,hk⟩
 have hq:=hQc9 k hk
 ((first | with_reducible refine holds_of_ex X 400 _ _ _ ?_ | skip); simp (maxSteps:=1000000) only [push_cast,reduceCtorEq,Nat.reduceAdd,Nat.reduceMul,Nat.reduceSub,Nat.reduceBEq,Nat.reduceGT,Nat.reduceLT,Int.toNat_zero,Nat.reduceLeDiff,Int.reduceEq,Int.reduceLT,Int.reduceLE,hP,hΓ,hL,hfin,↓Z00])
 ((with_reducible refine Z02 (fun h=>?_) (fun h=>?_)) <;> (try simp only [decide_eq_true_eq,decide_eq_false_iff_not,Bool.and_eq_true,Bool.or_eq_true,Bool.and_eq_false_iff,Bool.or_eq_false_iff,Bool.not_eq_true',Bool.not_eq_false',Bool.not_eq_true,Bool.not_eq_false,Int.not_lt,Int.not_le,beq_iff_eq,beq_eq_false_iff_ne,ne_eq,win_t,win_f] at h))
 ·have hk':k<o.fixes.length:=by omega
  obtain⟨x,hd⟩:∃x,o.fixes.getD k default=x:=⟨_,rfl⟩
  have hxm:=hx _ (at_mem hk')
  rw [hd] at hxm
  have m1:=Z0q x.at_; have m2:=Z0q (x.m+1); have m3:=Z0q x.n
  ((first | with_reducible refine holds_of_ex X 400 _ _ _ ?_ | skip); simp (maxSteps:=1000000) only [push_cast,reduceCtorEq,Nat.reduceAdd,Nat.reduceMul,Nat.reduceSub,Nat.reduceBEq,Nat.reduceGT,Nat.reduceLT,Int.toNat_zero,Nat.reduceLeDiff,Int.reduceEq,Int.reduceLT,Int.reduceLE,hP,hΓ,hL,hfin,↓Z00,hk',h70,h71,h72,Z0c ((k:Int)+1) (by constructor <;> omega),hd,Z7N,Z0c (x.m+1) (by constructor <;> omega)])
  have e1:List.map Z03 (Q9 k)++List.map Z03 (num x.at_)++[AV.int .u8 ((by8 x.kind).toNat:Int)]++List.map Z03 (num (x.m+1))++List.map Z03 (num x.n)=(Q9 k++Z5s x).map Z03:=by simp [Z5s,Z03]
  have e2:(Q9 k).length+(num x.at_).length+1+(num (x.m+1)).length+(num x.n).length=(Q9 k++Z5s x).length:=by simp [Z5s]; omega
  have e3:Q9 k++Z5s x=Q9 (k+1):=by rw [←hd]; exact hQb9 k
  rw [e1,e2,e3]
  simp only [and_assoc]
  (repeat (refine And.intro (by first | exact True.intro | omega | assumption | exact own_row _ | (simp only [List.length_append]; omega) | (intro hg; (try simp only [decide_eq_true_eq,decide_eq_false_iff_not,Bool.and_eq_true,Bool.or_eq_true,Bool.and_eq_false_iff,Bool.or_eq_false_iff,Bool.not_eq_true',Bool.not_eq_false',Bool.not_eq_true,Bool.not_eq_false,Int.not_lt,Int.not_le,beq_iff_eq,beq_eq_false_iff_ne,ne_eq,win_t,win_f] at hg); omega)) ?_))
  refine⟨Z17 (Q9 k++num x.at_++[by8 x.kind]) (by simp [Z03]) (by simp; omega),by omega,Z17 (Q9 k++num x.at_++[by8 x.kind]++num (x.m+1)) (by simp [Z03]) (by simp; omega),by omega,⟨k+1,hk'⟩,by simp only; omega,?_⟩
  (refine Z0k.ver 1  0 (by simp only [push_cast,reduceCtorEq,Nat.reduceAdd,Nat.reduceMul,Nat.reduceSub,Nat.reduceBEq,Nat.reduceGT,Nat.reduceLT,Int.toNat_zero,Nat.reduceLeDiff,Int.reduceEq,Int.reduceLT,Int.reduceLE]) (by first | exact .inr (Nat.zero_le _) | (left; simp only [push_cast,reduceCtorEq,Nat.reduceAdd,Nat.reduceMul,Nat.reduceSub,Nat.reduceBEq,Nat.reduceGT,Nat.reduceLT,Int.toNat_zero,Nat.reduceLeDiff,Int.reduceEq,Int.reduceLT,Int.reduceLE]; first | done | omega) | (right; simp only [push_cast,reduceCtorEq,Nat.reduceAdd,Nat.reduceMul,Nat.reduceSub,Nat.reduceBEq,Nat.reduceGT,Nat.reduceLT,Int.toNat_zero,Nat.reduceLeDiff,Int.reduceEq,Int.reduceLT,Int.reduceLE]; first | done | omega)) ?_; simp only [push_cast,reduceCtorEq,Nat.reduceAdd,Nat.reduceMul,Nat.reduceSub,Nat.reduceBEq,Nat.reduceGT,Nat.reduceLT,Int.toNat_zero,Nat.reduceLeDiff,Int.reduceEq,Int.reduceLT,Int.reduceLE])
  exact Z06.keep2A
 obtain rfl:k=o.fixes.length:=by omega
 generalize hA9:Q9 o.fixes.length=A9 at hq
 have hbo:A9=Z6k o:=by
  rw [←hA9,hQ9,←hA7,hQ7,←hA6,hQ6,←hA5,hQ5,←hA4,hQ4,←hA3,hQ3,←hA2,hQ2,←hA1,hQ1,hA0]
  simp only [Z6k,rI,rW,Z8p,Z5a,rS,rD,rF,List.append_assoc]
 have hs0:0≤Z4Y A9∧Z4Y A9<4294967296:=by
  have:=Z8J A9
  rw [Z9n]; omega
 ((first | with_reducible refine holds_of_ex X 400 _ _ _ ?_ | skip); simp (maxSteps:=1000000) only [push_cast,reduceCtorEq,Nat.reduceAdd,Nat.reduceMul,Nat.reduceSub,Nat.reduceBEq,Nat.reduceGT,Nat.reduceLT,Int.toNat_zero,Nat.reduceLeDiff,Int.reduceEq,Int.reduceLT,Int.reduceLE,hP,hΓ,hL,hfin,↓Z00,h71,h73,List.take_of_length_le,Nat.le_refl])
 refine⟨by omega,⟨own_row _,by omega,hs0⟩,?_⟩
 rw [←List.map_append,←List.length_append,hbo,show Z6k o++le4 (Z4Y (Z6k o))=Z35 o from rfl]
 (refine Z0k.ver 1  0 (by simp only [push_cast,reduceCtorEq,Nat.reduceAdd,Nat.reduceMul,Nat.reduceSub,Nat.reduceBEq,Nat.reduceGT,Nat.reduceLT,Int.toNat_zero,Nat.reduceLeDiff,Int.reduceEq,Int.reduceLT,Int.reduceLE]) (by first | exact .inr (Nat.zero_le _) | (left; simp only [push_cast,reduceCtorEq,Nat.reduceAdd,Nat.reduceMul,Nat.reduceSub,Nat.reduceBEq,Nat.reduceGT,Nat.reduceLT,Int.toNat_zero,Nat.reduceLeDiff,Int.reduceEq,Int.reduceLT,Int.reduceLE]; first | done | omega) | (right; simp only [push_cast,reduceCtorEq,Nat.reduceAdd,Nat.reduceMul,Nat.reduceSub,Nat.reduceBEq,Nat.reduceGT,Nat.reduceLT,Int.toNat_zero,Nat.reduceLeDiff,Int.reduceEq,Int.reduceLT,Int.reduceLE]; first | done | omega)) ?_; simp only [push_cast,reduceCtorEq,Nat.reduceAdd,Nat.reduceMul,Nat.reduceSub,Nat.reduceBEq,Nat.reduceGT,Nat.reduceLT,Int.toNat_zero,Nat.reduceLeDiff,Int.reduceEq,Int.reduceLT,Int.reduceLE])
 exact Z06.pick1 (by simp [leF,Z2l,ren]) (by simp only [push_cast]) (by simp [scp,Z0Z]) (by simp only [push_cast])
theorem con44{Γ:Env}(h:Z07 Tryz.prog Γ)(h70:Γ 91=some S70)(h71:Γ 92=some S71)(h72:Γ 93=some S72)(h73:Γ 18=some S73):Con Tryz.prog 72 S44:=
 Z0t h (fn:=Tryz.f72) (by kernel_rfl) rfl (by kernel_rfl) inj44 (by first | (intro h; cases h; done) | exact fun _ _=>rfl) fun o h=>body44 Γ h70 h71 h72 h73 o h.1 h.2.1 h.2.2
def e19:(Ob)→List AV:=fun o=>[.agg o.c]
def p19:(Ob)→Prop:=fun o=>o.ok∧o.u32s
def r19:(Ob)→AV:=fun o=>.tup [.msl 0 0 0 (Z5I o).length,.int .i64 (Z6z o)]
def g19:(Ob)→Heap:=fun o=>[.row ((Z5I o).map Z03) 1 0]
theorem inj19:∀a b,e19 a=e19 b→a=b:=by
 rintro o o' h
 simp only [e19,Z0f,Z0h,Z0i,Z0g,Z0u,Z0F,Z0E,Z0z,Z0G,Z0D,Z0C,Z0J,List.cons.injEq,AV.int.injEq,AV.str.injEq,AV.bool.injEq,AV.sl.injEq,AV.agg.injEq,AV.ip.injEq,AV.fn.injEq,AV.ifc.injEq,AV.mpr.injEq,Int.natCast_inj,and_true,true_and] at h
 simp_all only
noncomputable def S19:Z0n:=Z2V e19 p19 r19 g19 false
theorem Zkm(o:(Ob)):Z1J e19 p19 [.agg o.c]=(o.ok∧o.u32s):=Z0j inj19 p19 o
theorem ZjY(o:(Ob)):Z10 e19 r19 .any [.agg o.c]=(.tup [.msl 0 0 0 (Z5I o).length,.int .i64 (Z6z o)]):=Z08 inj19 r19 .any o
theorem ZkS(o:(Ob)):Z10 e19 g19 [] [.agg o.c]=([.row ((Z5I o).map Z03) 1 0]):=Z08 inj19 g19 [] o
attribute [push_cast] S19 Zkm ZjY ZkS
theorem body19(Γ:Env)(h43:Γ 71=some S43)(h44:Γ 72=some S44)(o:Ob)(ho:o.ok)(hu:o.u32s):Z0a Tryz.prog Γ Tryz.f50 (e19 o) [] (.tup [.msl 0 0 0 (Z5I o).length,.int .i64 (Z6z o)]) [.row ((Z5I o).map Z03) 1 0]:=by
 (intro X hP hΓ hL hfin; refine⟨_,rfl,?_⟩; rw [show Tryz.f50.ntmps=16 from rfl]; rw [show Tryz.f50.results.toList=[.tmp 2,.tmp 3] from rfl] at hfin; apply holds_of_ex X 400; simp (maxSteps:=1000000) only [push_cast,reduceCtorEq,Nat.reduceAdd,Nat.reduceMul,Nat.reduceSub,Nat.reduceBEq,Nat.reduceGT,Nat.reduceLT,Int.toNat_zero,Nat.reduceLeDiff,Int.reduceEq,Int.reduceLT,Int.reduceLE,hP,hΓ,hL,hfin,↓Z00,e19,h43])
 refine⟨ho,?_⟩
 rw [←ZiF]
 refine Z02 (fun h=>?_) (fun h=>?_)
 ·have hf:Z1A o=false:=by simpa using h
  have hk:okB o=false:=by rw [okB,hf]; rfl
  ((first | with_reducible refine holds_of_ex X 400 _ _ _ ?_ | skip); simp (maxSteps:=1000000) only [push_cast,reduceCtorEq,Nat.reduceAdd,Nat.reduceMul,Nat.reduceSub,Nat.reduceBEq,Nat.reduceGT,Nat.reduceLT,Int.toNat_zero,Nat.reduceLeDiff,Int.reduceEq,Int.reduceLT,Int.reduceLE,hP,hΓ,hL,hfin,↓Z00])
  rw [show Z5I o=[] by rw [Z5I,hk]; rfl,show Z6z o=70 by rw [Z6z,hk]; rfl]
  simp only [List.length_nil,List.map_nil]
  refine Z0k.nilT 0 0 1 _ rfl rfl ?_
  exact Z06.pick1 (by simp [leF,Z2l,ren]) (by simp only [push_cast]) (by simp [scp,Z0Z]) (by simp only [push_cast])
 have hf:Z1A o=true:=by simpa using h
 ((first | with_reducible refine holds_of_ex X 400 _ _ _ ?_ | skip); simp (maxSteps:=1000000) only [push_cast,reduceCtorEq,Nat.reduceAdd,Nat.reduceMul,Nat.reduceSub,Nat.reduceBEq,Nat.reduceGT,Nat.reduceLT,Int.toNat_zero,Nat.reduceLeDiff,Int.reduceEq,Int.reduceLT,Int.reduceLE,hP,hΓ,hL,hfin,↓Z00,h44])
 refine⟨⟨ho,hu,hf⟩,?_⟩
 refine Z02 (fun h=>?_) (fun h=>?_)
 ·have hk:okB o=false:=by
   have:=of_decide_eq_true h
   rw [okB,hf,Bool.true_and,decide_eq_false_iff_not]; omega
  ((first | with_reducible refine holds_of_ex X 400 _ _ _ ?_ | skip); simp (maxSteps:=1000000) only [push_cast,reduceCtorEq,Nat.reduceAdd,Nat.reduceMul,Nat.reduceSub,Nat.reduceBEq,Nat.reduceGT,Nat.reduceLT,Int.toNat_zero,Nat.reduceLeDiff,Int.reduceEq,Int.reduceLT,Int.reduceLE,hP,hΓ,hL,hfin,↓Z00])
  rw [show Z5I o=[] by rw [Z5I,hk]; rfl,show Z6z o=70 by rw [Z6z,hk]; rfl]
  simp only [List.length_nil,List.map_nil]
  refine Z0k.nilT 0 0 1 _ rfl rfl ?_
  exact Z06.pick2 (by simp [leF,Z2l,ren]) (by simp only [push_cast]) (by simp [scp,Z0Z]) (by simp only [push_cast])
 ·have hk:okB o=true:=by
   have:=of_decide_eq_false h
   rw [okB,hf,Bool.true_and,decide_eq_true_eq]; omega
  ((first | with_reducible refine holds_of_ex X 400 _ _ _ ?_ | skip); simp (maxSteps:=1000000) only [push_cast,reduceCtorEq,Nat.reduceAdd,Nat.reduceMul,Nat.reduceSub,Nat.reduceBEq,Nat.reduceGT,Nat.reduceLT,Int.toNat_zero,Nat.reduceLeDiff,Int.reduceEq,Int.reduceLT,Int.reduceLE,hP,hΓ,hL,hfin,↓Z00])
  rw [show Z5I o=Z35 o by rw [Z5I,hk]; rfl,show Z6z o=0 by rw [Z6z,hk]; rfl]
  exact Z06.pick1 (by simp [leF,Z2l,ren]) (by simp only [push_cast]) (by simp [scp,Z0Z]) (by simp only [push_cast])
theorem con19{Γ:Env}(h:Z07 Tryz.prog Γ)(h43:Γ 71=some S43)(h44:Γ 72=some S44):Con Tryz.prog 50 S19:=
 Z0t h (fn:=Tryz.f50) (by kernel_rfl) rfl (by kernel_rfl) inj19 (by first | (intro h; cases h; done) | exact fun _ _=>rfl) fun o h=>body19 Γ h43 h44 o h.1 h.2
end Go.Proofs.YtmomhjmaanagaaaGreat.objDone