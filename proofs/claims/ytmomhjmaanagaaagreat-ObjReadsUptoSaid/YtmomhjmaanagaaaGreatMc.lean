/- Parts of the walk through objects. Conditions stand in each. -/
import Derived.Test.YtmomhjmaanagaaaGreatRDa
import Derived.Test.YtmomhjmaanagaaaGreatQF
import Derived.Test.YtmomhjmaanagaaaGreatEng21
import Derived.Test.YtmomhjmaanagaaaGreatQG
set_option linter.unusedVariables false
set_option linter.unusedSimpArgs false
set_option maxRecDepth 100000
set_option maxHeartbeats 8000000
section
namespace Go.Proofs.YtmomhjmaanagaaaGreat.objRef
open Go Go.Eng Go.Proofs
open Go.Proofs.YtmomhjmaanagaaaGreat.objNumbersDone (Z1r okR valR Z3d Z7b Z7Q okT Z8z Z4B Z1R Z3X Z3Y)
open Go.Proofs.YtmomhjmaanagaaaGreat.objDone
def Z2E(r:Rd):Ob×Rd:=
 let a:=Z0R r 20
 let k:=Z0T a.2
 let i:=Z0b Z0y 16 k.2
 let c:=Z0b Z0T 65536 i.2
 let p:=Z0b Z0I 100 c.2
 let n:=Z20 p.2
 let v:=Z0b Z20 200 n.2
 let s:=Z0b Z20 200 v.2
 let t:=Z0b (fun r=>Z0R r 200) 200 s.2
 (⟨a.1,k.1,i.1,c.1,p.1.map fun x=>x.1,p.1.map fun x=>x.2.1,p.1.map fun x=>x.2.2,n.1,v.1,s.1,t.1,[],[]⟩,t.2)
def oF(o:Ob):List AV:=[.str o.name,.int .u32 o.key,.sl (o.imps.flatMap Im.c) o.imps.length,.sl (o.code.map (.int .u32)) o.code.length,.sl (o.procs.map (.int .i64)) o.procs.length,.sl (o.names.map .str) o.names.length,.sl (o.exps.map .bool) o.exps.length,.int .i64 o.init,.sl (o.vars.map (.int .i64)) o.vars.length,.sl (o.shown.map (.int .i64)) o.shown.length,.sl (o.strs.map .str) o.strs.length,.lit (.slice none 0 0),.lit (.slice none 0 0)]
theorem Z1O{α:Type}{one:Rd→α×Rd}{m:Int}{r r':Rd}{n:Int}(h:Z1m r m=(n,r'))(s:Z0r one n.toNat r')(hd:s.c=0∨¬s.r.bad<0):Z0b one m r=(s.l,s.r):=by rw [Z0b,h]; exact s.done hd
theorem body19(Γ:Env)(h20:Γ 20=some S20)(h21:Γ 21=some S21)(h47:Γ 47=some S47)(h48:Γ 48=some S48)(r:Rd)(hr:r.ok) :
  Z0a Tryz.prog Γ Tryz.f19 [.ref 0 0 0] [.row r.c 3 0] (.agg (oF (Z2E r).1)) [.row (Z2E r).2.c 3 0]:=by
 obtain⟨a,ra,ea⟩:∃a b,Z0R r 20=(a,b):=⟨_,_,rfl⟩
 obtain⟨k,r0,ek⟩:∃a b,Z0T ra=(a,b):=⟨_,_,rfl⟩
 have oka:ra.ok:=by have:=(Z1i hr 20).1; rwa [ea] at this
 have ok0:r0.ok:=by have:=(Z1Q oka).1; rwa [ek] at this
 (intro X hP hΓ hL hfin; refine⟨_,rfl,?_⟩; rw [show Tryz.f19.ntmps=168 from rfl]; rw [show Tryz.f19.results.toList=[.cell 2 33] from rfl] at hfin; apply holds_of_ex X 400; simp (maxSteps:=1000000) only [push_cast,reduceCtorEq,Nat.reduceAdd,Nat.reduceMul,Nat.reduceSub,Nat.reduceBEq,Nat.reduceGT,Nat.reduceLT,Int.toNat_zero,Nat.reduceLeDiff,Int.reduceEq,Int.reduceLT,Int.reduceLE,hP,hΓ,hL,hfin,↓Z00,String.reduceEq,not_false_eq_true,if_true,Rd.sto,Rd.sill,Rd.to_b,Rd.to_at,h47,h48,ea,ek])
 refine⟨hr,oka,?_⟩
 obtain⟨n1,q1,en1⟩:∃a b,Z1m r0 16=(a,b):=⟨_,_,rfl⟩
 have okq1:q1.ok:=by have:=(Z0S ok0 16).1; rwa [en1] at this
 have bn1:0≤n1∧n1<4294967296:=by have:=Z2r r0 16; rwa [en1] at this
 have ln1:n1≤16:=by have:=Z3q r0 16 (by omega); rwa [en1] at this
 ((first | with_reducible refine holds_of_ex X 400 _ _ _ ?_ | skip); simp (maxSteps:=1000000) only [push_cast,reduceCtorEq,Nat.reduceAdd,Nat.reduceMul,Nat.reduceSub,Nat.reduceBEq,Nat.reduceGT,Nat.reduceLT,Int.toNat_zero,Nat.reduceLeDiff,Int.reduceEq,Int.reduceLT,Int.reduceLE,hP,hΓ,hL,hfin,↓Z00,String.reduceEq,not_false_eq_true,if_true,Rd.sto,Rd.sill,Rd.to_b,Rd.to_at,h20,en1])
 refine⟨ok0,?_⟩
 refine Holds.nilH 2 2 2 rfl rfl ?_
 simp only [List.set_cons_succ,List.set_cons_zero,List.cons_append,List.nil_append,List.length_cons,List.length_nil,Nat.zero_add,Nat.reduceAdd]
 refine Holds.loopM (ι:=Z0r Z0y n1.toNat q1) [true,false,true,true,true,false,false,true,true,true,true,true,false,false,false,false,false,false,false,false,false,false,false,false,false,false,false,false,false,false,false,false,false,false,false,false,false,false,false,false,false,false,false,false,false,false,false,false,false,false,false,false,false,false,false,false,false,false,false,false,false,false,false,false,false,false,false,false,false,false,false,false,false,false,false,false,false,false,false,false,false,false,false,false,false,false,false,false,false,false,false,false,false,false,false,false,false,false,false,false,false,false,false,false,false,false,false,false,false,false,false,false,false,false,false,false,false,false,false,false,false,false,false,false,false,false,false,false,false,false,false,false,false,false,false,false,false,false,false,false,false,false,false,false,false,false,false,false,false,false,false,false,false,false,false,false,false,false,false,false,false,false,false,false,false,false,false,false] (fun i=>[(5,.int .i64 i.l.length)]) (fun i=>[.row i.r.c 3 0,.row [.str [],.int .u32 0,.lit (.slice none 0 0),.lit (.slice none 0 0),.lit (.slice none 0 0),.lit (.slice none 0 0),.lit (.slice none 0 0),.int .i64 0,.lit (.slice none 0 0),.lit (.slice none 0 0),.lit (.slice none 0 0),.lit (.slice none 0 0),.lit (.slice none 0 0)] 13 0,.row [.str a,.int .u32 k,.msl 3 i.l.length 0 i.l.length,.lit (.slice none 0 0),.lit (.slice none 0 0),.lit (.slice none 0 0),.lit (.slice none 0 0),.int .i64 0,.lit (.slice none 0 0),.lit (.slice none 0 0),.lit (.slice none 0 0),.lit (.slice none 0 0),.lit (.slice none 0 0)] 13 0,.row (i.l.flatMap Im.c) 2 i.l.length]) (fun i=>i.c) (Z0r.init _ _ _ okq1) ?_ ?_
 ·rw [hL]; simp only [push_cast,Int.natCast_zero,Z0r.init,List.map_nil,List.flatMap_nil,List.length_nil]
  exact Z06.sameA
 intro s1
 have hl1:=s1.len
 ((first | with_reducible refine holds_of_ex X 4 _ _ _ ?_ | skip); simp (maxSteps:=1000000) only [push_cast,reduceCtorEq,Nat.reduceAdd,Nat.reduceMul,Nat.reduceSub,Nat.reduceBEq,Nat.reduceGT,Nat.reduceLT,Int.toNat_zero,Nat.reduceLeDiff,Int.reduceEq,Int.reduceLT,Int.reduceLE,hP,hΓ,hL,hfin,↓Z00,String.reduceEq,not_false_eq_true,if_true,Rd.sto,Rd.sill,Rd.to_b,Rd.to_at])
 ((with_reducible refine Z02 (fun h=>?_) (fun h=>?_)) <;> (try simp only [decide_eq_true_eq,decide_eq_false_iff_not,Bool.and_eq_true,Bool.or_eq_true,Bool.and_eq_false_iff,Bool.or_eq_false_iff,Bool.not_eq_true',Bool.not_eq_false',Bool.not_eq_true,Bool.not_eq_false,Int.not_lt,Int.not_le,beq_iff_eq,beq_eq_false_iff_ne,ne_eq,win_t,win_f] at h))
 ·((first | with_reducible refine holds_of_ex X 400 _ _ _ ?_ | skip); simp (maxSteps:=1000000) only [push_cast,reduceCtorEq,Nat.reduceAdd,Nat.reduceMul,Nat.reduceSub,Nat.reduceBEq,Nat.reduceGT,Nat.reduceLT,Int.toNat_zero,Nat.reduceLeDiff,Int.reduceEq,Int.reduceLT,Int.reduceLE,hP,hΓ,hL,hfin,↓Z00,String.reduceEq,not_false_eq_true,if_true,Rd.sto,Rd.sill,Rd.to_b,Rd.to_at,h47,h48,Z0c ((s1.l.length:Int)+1) (by constructor <;> omega)])
  refine⟨s1.ok,(Z1i s1.ok 20).1,by omega,s1.next (fun r hr=>(Z1X hr).1) (by omega) h.2,by simp only [Z0r.next]; omega,?_⟩
  simp only [Z0r.next,List.map_append,List.map_cons,List.map_nil,List.flatMap_append,List.flatMap_cons,List.flatMap_nil,List.append_nil,List.length_append,List.length_cons,List.length_nil,Nat.zero_add,Int.natCast_add,Int.natCast_one,Z0y,Im.c]
  exact Z06.keep4A
 (refine Holds.frz 3 (by rw [hL]; simp) (by simp only [Z15,Z28,Z27,or_true,true_or,push_cast,reduceCtorEq,Nat.reduceAdd,Nat.reduceMul,Nat.reduceSub,Nat.reduceBEq,Nat.reduceGT,Nat.reduceLT,Int.toNat_zero,Nat.reduceLeDiff,Int.reduceEq,Int.reduceLT,Int.reduceLE]) ?_; simp only [push_cast,reduceCtorEq,Nat.reduceAdd,Nat.reduceMul,Nat.reduceSub,Nat.reduceBEq,Nat.reduceGT,Nat.reduceLT,Int.toNat_zero,Nat.reduceLeDiff,Int.reduceEq,Int.reduceLT,Int.reduceLE])
 simp only [Z2b,Z3W,Z4J]
 have eR1:=Z1O en1 s1 (by omega)
 obtain⟨l1,r1,hs1⟩:∃a b,(s1.l=a∧s1.r=b):=⟨_,_,rfl,rfl⟩
 have ok1:r1.ok:=by have:=s1.ok; rwa [hs1.2] at this
 rw [hs1.1,hs1.2] at eR1
 simp only [hs1.1,hs1.2]
 obtain⟨n2,q2,en2⟩:∃a b,Z1m r1 65536=(a,b):=⟨_,_,rfl⟩
 have okq2:q2.ok:=by have:=(Z0S ok1 65536).1; rwa [en2] at this
 have bn2:0≤n2∧n2<4294967296:=by have:=Z2r r1 65536; rwa [en2] at this
 have ln2:n2≤65536:=by have:=Z3q r1 65536 (by omega); rwa [en2] at this
 ((first | with_reducible refine holds_of_ex X 400 _ _ _ ?_ | skip); simp (maxSteps:=1000000) only [push_cast,reduceCtorEq,Nat.reduceAdd,Nat.reduceMul,Nat.reduceSub,Nat.reduceBEq,Nat.reduceGT,Nat.reduceLT,Int.toNat_zero,Nat.reduceLeDiff,Int.reduceEq,Int.reduceLT,Int.reduceLE,hP,hΓ,hL,hfin,↓Z00,String.reduceEq,not_false_eq_true,if_true,Rd.sto,Rd.sill,Rd.to_b,Rd.to_at,h20,en2])
 refine⟨ok1,?_⟩
 refine Holds.nilH 2 3 1 rfl rfl ?_
 simp only [List.set_cons_succ,List.set_cons_zero,List.cons_append,List.nil_append,List.length_cons,List.length_nil,Nat.zero_add,Nat.reduceAdd]
 refine Holds.loopM (ι:=Z0r Z0T n2.toNat q2) [true,false,true,true,true,false,false,false,true,true,true,true,false,false,false,false,false,false,false,false,false,false,false,false,false,false,false,false,false,false,false,false,false,false,false,false,false,false,false,false,false,false,false,false,false,false,false,false,false,false,false,false,false,false,false,false,false,false,false,false,false,false,false,false,false,false,false,false,false,false,false,false,false,false,false,false,false,false,false,false,false,false,false,false,false,false,false,false,false,false,false,false,false,false,false,false,false,false,false,false,false,false,false,false,false,false,false,false,false,false,false,false,false,false,false,false,false,false,false,false,false,false,false,false,false,false,false,false,false,false,false,false,false,false,false,false,false,false,false,false,false,false,false,false,false,false,false,false,false,false,false,false,false,false,false,false,false,false,false,false,false,false,false,false,false,false,false,false] (fun i=>[(7,.int .i64 i.l.length)]) (fun i=>[.row i.r.c 3 0,.row [.str [],.int .u32 0,.lit (.slice none 0 0),.lit (.slice none 0 0),.lit (.slice none 0 0),.lit (.slice none 0 0),.lit (.slice none 0 0),.int .i64 0,.lit (.slice none 0 0),.lit (.slice none 0 0),.lit (.slice none 0 0),.lit (.slice none 0 0),.lit (.slice none 0 0)] 13 0,.row [.str a,.int .u32 k,.sl (l1.flatMap Im.c) l1.length,.msl 4 i.l.length 0 i.l.length,.lit (.slice none 0 0),.lit (.slice none 0 0),.lit (.slice none 0 0),.int .i64 0,.lit (.slice none 0 0),.lit (.slice none 0 0),.lit (.slice none 0 0),.lit (.slice none 0 0),.lit (.slice none 0 0)] 13 0,.dead,.row (i.l.map (.int .u32)) 1 i.l.length]) (fun i=>i.c) (Z0r.init _ _ _ okq2) ?_ ?_
 ·rw [hL]; simp only [push_cast,Int.natCast_zero,Z0r.init,List.map_nil,List.flatMap_nil,List.length_nil]
  exact Z06.sameA
 intro s2
 have hl2:=s2.len
 ((first | with_reducible refine holds_of_ex X 4 _ _ _ ?_ | skip); simp (maxSteps:=1000000) only [push_cast,reduceCtorEq,Nat.reduceAdd,Nat.reduceMul,Nat.reduceSub,Nat.reduceBEq,Nat.reduceGT,Nat.reduceLT,Int.toNat_zero,Nat.reduceLeDiff,Int.reduceEq,Int.reduceLT,Int.reduceLE,hP,hΓ,hL,hfin,↓Z00,String.reduceEq,not_false_eq_true,if_true,Rd.sto,Rd.sill,Rd.to_b,Rd.to_at])
 ((with_reducible refine Z02 (fun h=>?_) (fun h=>?_)) <;> (try simp only [decide_eq_true_eq,decide_eq_false_iff_not,Bool.and_eq_true,Bool.or_eq_true,Bool.and_eq_false_iff,Bool.or_eq_false_iff,Bool.not_eq_true',Bool.not_eq_false',Bool.not_eq_true,Bool.not_eq_false,Int.not_lt,Int.not_le,beq_iff_eq,beq_eq_false_iff_ne,ne_eq,win_t,win_f] at h))
 ·((first | with_reducible refine holds_of_ex X 400 _ _ _ ?_ | skip); simp (maxSteps:=1000000) only [push_cast,reduceCtorEq,Nat.reduceAdd,Nat.reduceMul,Nat.reduceSub,Nat.reduceBEq,Nat.reduceGT,Nat.reduceLT,Int.toNat_zero,Nat.reduceLeDiff,Int.reduceEq,Int.reduceLT,Int.reduceLE,hP,hΓ,hL,hfin,↓Z00,String.reduceEq,not_false_eq_true,if_true,Rd.sto,Rd.sill,Rd.to_b,Rd.to_at])
  (refine Holds.drawnE (Z3c [.row 3 0,.fix (.row [.str [],.int .u32 0,.lit (.slice none 0 0),.lit (.slice none 0 0),.lit (.slice none 0 0),.lit (.slice none 0 0),.lit (.slice none 0 0),.int .i64 0,.lit (.slice none 0 0),.lit (.slice none 0 0),.lit (.slice none 0 0),.lit (.slice none 0 0),.lit (.slice none 0 0)] 13 0),.fix (.row [.str a,.int .u32 k,.sl (l1.flatMap Im.c) l1.length,.msl 4 s2.l.length 0 s2.l.length,.lit (.slice none 0 0),.lit (.slice none 0 0),.lit (.slice none 0 0),.int .i64 0,.lit (.slice none 0 0),.lit (.slice none 0 0),.lit (.slice none 0 0),.lit (.slice none 0 0),.lit (.slice none 0 0)] 13 0)]) [2,3,5,7] [] [] true (by rw [hP]; kernel_rfl) (by kernel_rfl) (by kernel_rfl) (by kernel_rfl) (by first | exact .inl rfl | exact .inr fun _ _ h=>Z0M _ _ h) (by first | (simp only [push_cast]; done) | (simp only [push_cast,and_true]; omega)) ?_; simp (maxSteps:=1000000) only [↓reduceIte,Option.getD_some,push_cast,reduceCtorEq,Nat.reduceAdd,Nat.reduceMul,Nat.reduceSub,Nat.reduceBEq,Nat.reduceGT,Nat.reduceLT,Int.toNat_zero,Nat.reduceLeDiff,Int.reduceEq,Int.reduceLT,Int.reduceLE,hP,hΓ,hL,hfin,↓Z00,String.reduceEq,not_false_eq_true,if_true,Rd.sto,Rd.sill,Rd.to_b,Rd.to_at,h48])
  refine⟨s2.ok,by omega,?_⟩
  ((first | with_reducible refine holds_of_ex X 400 _ _ _ ?_ | skip); simp (maxSteps:=1000000) only [push_cast,reduceCtorEq,Nat.reduceAdd,Nat.reduceMul,Nat.reduceSub,Nat.reduceBEq,Nat.reduceGT,Nat.reduceLT,Int.toNat_zero,Nat.reduceLeDiff,Int.reduceEq,Int.reduceLT,Int.reduceLE,hP,hΓ,hL,hfin,↓Z00,String.reduceEq,not_false_eq_true,if_true,Rd.sto,Rd.sill,Rd.to_b,Rd.to_at,Z0c ((s2.l.length:Int)+1) (by constructor <;> omega)])
  refine⟨s2.next (fun r hr=>(Z1Q hr).1) (by omega) h.2,by simp only [Z0r.next]; omega,?_⟩
  simp only [Z0r.next,List.map_append,List.map_cons,List.map_nil,List.flatMap_append,List.flatMap_cons,List.flatMap_nil,List.append_nil,List.length_append,List.length_cons,List.length_nil,Nat.zero_add,Int.natCast_add,Int.natCast_one]
  exact Z06.sameA
 (refine Holds.frz 4 (by rw [hL]; simp) (by simp only [Z15,Z28,Z27,or_true,true_or,push_cast,reduceCtorEq,Nat.reduceAdd,Nat.reduceMul,Nat.reduceSub,Nat.reduceBEq,Nat.reduceGT,Nat.reduceLT,Int.toNat_zero,Nat.reduceLeDiff,Int.reduceEq,Int.reduceLT,Int.reduceLE]) ?_; simp only [push_cast,reduceCtorEq,Nat.reduceAdd,Nat.reduceMul,Nat.reduceSub,Nat.reduceBEq,Nat.reduceGT,Nat.reduceLT,Int.toNat_zero,Nat.reduceLeDiff,Int.reduceEq,Int.reduceLT,Int.reduceLE])
 simp only [Z2b,Z3W,Z4J]
 have eR2:=Z1O en2 s2 (by omega)
 obtain⟨l2,r2,hs2⟩:∃a b,(s2.l=a∧s2.r=b):=⟨_,_,rfl,rfl⟩
 have ok2:r2.ok:=by have:=s2.ok; rwa [hs2.2] at this
 rw [hs2.1,hs2.2] at eR2
 simp only [hs2.1,hs2.2]
 obtain⟨n3,q3,en3⟩:∃a b,Z1m r2 100=(a,b):=⟨_,_,rfl⟩
 have okq3:q3.ok:=by have:=(Z0S ok2 100).1; rwa [en3] at this
 have bn3:0≤n3∧n3<4294967296:=by have:=Z2r r2 100; rwa [en3] at this
 have ln3:n3≤100:=by have:=Z3q r2 100 (by omega); rwa [en3] at this
 ((first | with_reducible refine holds_of_ex X 400 _ _ _ ?_ | skip); simp (maxSteps:=1000000) only [push_cast,reduceCtorEq,Nat.reduceAdd,Nat.reduceMul,Nat.reduceSub,Nat.reduceBEq,Nat.reduceGT,Nat.reduceLT,Int.toNat_zero,Nat.reduceLeDiff,Int.reduceEq,Int.reduceLT,Int.reduceLE,hP,hΓ,hL,hfin,↓Z00,String.reduceEq,not_false_eq_true,if_true,Rd.sto,Rd.sill,Rd.to_b,Rd.to_at,h20,en3])
 refine⟨ok2,?_⟩
 refine Holds.nilH 2 4 1 rfl rfl ?_
 refine Holds.nilH 2 5 1 rfl rfl ?_
 refine Holds.nilH 2 6 1 rfl rfl ?_
 simp only [List.set_cons_succ,List.set_cons_zero,List.cons_append,List.nil_append,List.length_cons,List.length_nil,Nat.zero_add,Nat.reduceAdd]
 refine Holds.loopM (ι:=Z0r Z0I n3.toNat q3) [true,false,true,true,true,false,false,false,false,true,true,true,false,false,false,false,false,false,false,false,false,false,false,false,false,false,false,false,false,false,false,false,false,false,false,false,false,false,false,false,false,false,false,false,false,false,false,false,false,false,false,false,false,false,false,false,false,false,false,false,false,false,false,false,false,false,false,false,false,false,false,false,false,false,false,false,false,false,false,false,false,false,false,false,false,false,false,false,false,false,false,false,false,false,false,false,false,false,false,false,false,false,false,false,false,false,false,false,false,false,false,false,false,false,false,false,false,false,false,false,false,false,false,false,false,false,false,false,false,false,false,false,false,false,false,false,false,false,false,false,false,false,false,false,false,false,false,false,false,false,false,false,false,false,false,false,false,false,false,false,false,false,false,false,false,false,false,false] (fun i=>[(8,.int .i64 i.l.length)]) (fun i=>[.row i.r.c 3 0,.row [.str [],.int .u32 0,.lit (.slice none 0 0),.lit (.slice none 0 0),.lit (.slice none 0 0),.lit (.slice none 0 0),.lit (.slice none 0 0),.int .i64 0,.lit (.slice none 0 0),.lit (.slice none 0 0),.lit (.slice none 0 0),.lit (.slice none 0 0),.lit (.slice none 0 0)] 13 0,.row [.str a,.int .u32 k,.sl (l1.flatMap Im.c) l1.length,.sl (l2.map (.int .u32)) l2.length,.msl 5 i.l.length 0 i.l.length,.msl 6 i.l.length 0 i.l.length,.msl 7 i.l.length 0 i.l.length,.int .i64 0,.lit (.slice none 0 0),.lit (.slice none 0 0),.lit (.slice none 0 0),.lit (.slice none 0 0),.lit (.slice none 0 0)] 13 0,.dead,.dead,.row ((i.l.map fun x=>x.1).map (.int .i64)) 1 i.l.length,.row ((i.l.map fun x=>x.2.1).map .str) 1 i.l.length,.row ((i.l.map fun x=>x.2.2).map .bool) 1 i.l.length]) (fun i=>i.c) (Z0r.init _ _ _ okq3) ?_ ?_
 ·rw [hL]; simp only [push_cast,Int.natCast_zero,Z0r.init,List.map_nil,List.flatMap_nil,List.length_nil]
  exact Z06.sameA
 intro s3
 have hl3:=s3.len
 ((first | with_reducible refine holds_of_ex X 4 _ _ _ ?_ | skip); simp (maxSteps:=1000000) only [push_cast,reduceCtorEq,Nat.reduceAdd,Nat.reduceMul,Nat.reduceSub,Nat.reduceBEq,Nat.reduceGT,Nat.reduceLT,Int.toNat_zero,Nat.reduceLeDiff,Int.reduceEq,Int.reduceLT,Int.reduceLE,hP,hΓ,hL,hfin,↓Z00,String.reduceEq,not_false_eq_true,if_true,Rd.sto,Rd.sill,Rd.to_b,Rd.to_at])
 ((with_reducible refine Z02 (fun h=>?_) (fun h=>?_)) <;> (try simp only [decide_eq_true_eq,decide_eq_false_iff_not,Bool.and_eq_true,Bool.or_eq_true,Bool.and_eq_false_iff,Bool.or_eq_false_iff,Bool.not_eq_true',Bool.not_eq_false',Bool.not_eq_true,Bool.not_eq_false,Int.not_lt,Int.not_le,beq_iff_eq,beq_eq_false_iff_ne,ne_eq,win_t,win_f] at h))
 ·have k1:=Z0S s3.ok 4294967295
  have k2:=Z1i k1.1 20
  have k3:=Z4E k2.1 1
  ((first | with_reducible refine holds_of_ex X 400 _ _ _ ?_ | skip); simp (maxSteps:=1000000) only [push_cast,reduceCtorEq,Nat.reduceAdd,Nat.reduceMul,Nat.reduceSub,Nat.reduceBEq,Nat.reduceGT,Nat.reduceLT,Int.toNat_zero,Nat.reduceLeDiff,Int.reduceEq,Int.reduceLT,Int.reduceLE,hP,hΓ,hL,hfin,↓Z00,String.reduceEq,not_false_eq_true,if_true,Rd.sto,Rd.sill,Rd.to_b,Rd.to_at])
  (refine Holds.drawnE (Z3c [.row 3 0,.fix (.row [.str [],.int .u32 0,.lit (.slice none 0 0),.lit (.slice none 0 0),.lit (.slice none 0 0),.lit (.slice none 0 0),.lit (.slice none 0 0),.int .i64 0,.lit (.slice none 0 0),.lit (.slice none 0 0),.lit (.slice none 0 0),.lit (.slice none 0 0),.lit (.slice none 0 0)] 13 0),.fix (.row [.str a,.int .u32 k,.sl (l1.flatMap Im.c) l1.length,.sl (l2.map (.int .u32)) l2.length,.msl 5 s3.l.length 0 s3.l.length,.msl 6 s3.l.length 0 s3.l.length,.msl 7 s3.l.length 0 s3.l.length,.int .i64 0,.lit (.slice none 0 0),.lit (.slice none 0 0),.lit (.slice none 0 0),.lit (.slice none 0 0),.lit (.slice none 0 0)] 13 0)]) [2,3,5,7] [] [] true (by rw [hP]; kernel_rfl) (by kernel_rfl) (by kernel_rfl) (by kernel_rfl) (by first | exact .inl rfl | exact .inr fun _ _ h=>Z0M _ _ h) (by first | (simp only [push_cast]; done) | (simp only [push_cast,and_true]; omega)) ?_; simp (maxSteps:=1000000) only [↓reduceIte,Option.getD_some,push_cast,reduceCtorEq,Nat.reduceAdd,Nat.reduceMul,Nat.reduceSub,Nat.reduceBEq,Nat.reduceGT,Nat.reduceLT,Int.toNat_zero,Nat.reduceLeDiff,Int.reduceEq,Int.reduceLT,Int.reduceLE,hP,hΓ,hL,hfin,↓Z00,String.reduceEq,not_false_eq_true,if_true,Rd.sto,Rd.sill,Rd.to_b,Rd.to_at,h20])
  refine⟨s3.ok,by omega,?_⟩
  ((first | with_reducible refine holds_of_ex X 400 _ _ _ ?_ | skip); simp (maxSteps:=1000000) only [push_cast,reduceCtorEq,Nat.reduceAdd,Nat.reduceMul,Nat.reduceSub,Nat.reduceBEq,Nat.reduceGT,Nat.reduceLT,Int.toNat_zero,Nat.reduceLeDiff,Int.reduceEq,Int.reduceLT,Int.reduceLE,hP,hΓ,hL,hfin,↓Z00,String.reduceEq,not_false_eq_true,if_true,Rd.sto,Rd.sill,Rd.to_b,Rd.to_at])
  (refine Holds.drawnE (Z3c [.row 3 0,.fix (.row [.str [],.int .u32 0,.lit (.slice none 0 0),.lit (.slice none 0 0),.lit (.slice none 0 0),.lit (.slice none 0 0),.lit (.slice none 0 0),.int .i64 0,.lit (.slice none 0 0),.lit (.slice none 0 0),.lit (.slice none 0 0),.lit (.slice none 0 0),.lit (.slice none 0 0)] 13 0),.fix (.row [.str a,.int .u32 k,.sl (l1.flatMap Im.c) l1.length,.sl (l2.map (.int .u32)) l2.length,.msl 5 (s3.l.length+1) 0 (s3.l.length+1),.msl 6 s3.l.length 0 s3.l.length,.msl 7 s3.l.length 0 s3.l.length,.int .i64 0,.lit (.slice none 0 0),.lit (.slice none 0 0),.lit (.slice none 0 0),.lit (.slice none 0 0),.lit (.slice none 0 0)] 13 0)]) [2,3,5,7] [] [] true (by rw [hP]; kernel_rfl) (by kernel_rfl) (by kernel_rfl) (by kernel_rfl) (by first | exact .inl rfl | exact .inr fun _ _ h=>Z0M _ _ h) (by first | (simp only [push_cast]; done) | (simp only [push_cast,and_true]; omega)) ?_; simp (maxSteps:=1000000) only [↓reduceIte,Option.getD_some,push_cast,reduceCtorEq,Nat.reduceAdd,Nat.reduceMul,Nat.reduceSub,Nat.reduceBEq,Nat.reduceGT,Nat.reduceLT,Int.toNat_zero,Nat.reduceLeDiff,Int.reduceEq,Int.reduceLT,Int.reduceLE,hP,hΓ,hL,hfin,↓Z00,String.reduceEq,not_false_eq_true,if_true,Rd.sto,Rd.sill,Rd.to_b,Rd.to_at,h47])
  refine⟨k1.1,by omega,?_⟩
  ((first | with_reducible refine holds_of_ex X 400 _ _ _ ?_ | skip); simp (maxSteps:=1000000) only [push_cast,reduceCtorEq,Nat.reduceAdd,Nat.reduceMul,Nat.reduceSub,Nat.reduceBEq,Nat.reduceGT,Nat.reduceLT,Int.toNat_zero,Nat.reduceLeDiff,Int.reduceEq,Int.reduceLT,Int.reduceLE,hP,hΓ,hL,hfin,↓Z00,String.reduceEq,not_false_eq_true,if_true,Rd.sto,Rd.sill,Rd.to_b,Rd.to_at])
  (refine Holds.drawnE (Z3c [.row 3 0,.fix (.row [.str [],.int .u32 0,.lit (.slice none 0 0),.lit (.slice none 0 0),.lit (.slice none 0 0),.lit (.slice none 0 0),.lit (.slice none 0 0),.int .i64 0,.lit (.slice none 0 0),.lit (.slice none 0 0),.lit (.slice none 0 0),.lit (.slice none 0 0),.lit (.slice none 0 0)] 13 0),.fix (.row [.str a,.int .u32 k,.sl (l1.flatMap Im.c) l1.length,.sl (l2.map (.int .u32)) l2.length,.msl 5 (s3.l.length+1) 0 (s3.l.length+1),.msl 6 (s3.l.length+1) 0 (s3.l.length+1),.msl 7 s3.l.length 0 s3.l.length,.int .i64 0,.lit (.slice none 0 0),.lit (.slice none 0 0),.lit (.slice none 0 0),.lit (.slice none 0 0),.lit (.slice none 0 0)] 13 0)]) [2,3,4,6,8] [] [] true (by rw [hP]; kernel_rfl) (by kernel_rfl) (by kernel_rfl) (by kernel_rfl) (by first | exact .inl rfl | exact .inr fun _ _ h=>Z0M _ _ h) (by first | (simp only [push_cast]; done) | (simp only [push_cast,and_true]; omega)) ?_; simp (maxSteps:=1000000) only [↓reduceIte,Option.getD_some,push_cast,reduceCtorEq,Nat.reduceAdd,Nat.reduceMul,Nat.reduceSub,Nat.reduceBEq,Nat.reduceGT,Nat.reduceLT,Int.toNat_zero,Nat.reduceLeDiff,Int.reduceEq,Int.reduceLT,Int.reduceLE,hP,hΓ,hL,hfin,↓Z00,String.reduceEq,not_false_eq_true,if_true,Rd.sto,Rd.sill,Rd.to_b,Rd.to_at,h21])
  refine⟨k2.1,by omega,?_⟩
  ((first | with_reducible refine holds_of_ex X 400 _ _ _ ?_ | skip); simp (maxSteps:=1000000) only [push_cast,reduceCtorEq,Nat.reduceAdd,Nat.reduceMul,Nat.reduceSub,Nat.reduceBEq,Nat.reduceGT,Nat.reduceLT,Int.toNat_zero,Nat.reduceLeDiff,Int.reduceEq,Int.reduceLT,Int.reduceLE,hP,hΓ,hL,hfin,↓Z00,String.reduceEq,not_false_eq_true,if_true,Rd.sto,Rd.sill,Rd.to_b,Rd.to_at,Z0c ((s3.l.length:Int)+1) (by constructor <;> omega)])
  refine⟨s3.next (fun r hr=>(Z3H hr).1) (by omega) h.2,by simp only [Z0r.next]; omega,?_⟩
  simp only [Z0r.next,List.map_append,List.map_cons,List.map_nil,List.flatMap_append,List.flatMap_cons,List.flatMap_nil,List.append_nil,List.length_append,List.length_cons,List.length_nil,Nat.zero_add,Int.natCast_add,Int.natCast_one,Z0I,Z20]
  exact Z06.sameA
 (refine Holds.frz 5 (by rw [hL]; simp) (by simp only [Z15,Z28,Z27,or_true,true_or,push_cast,reduceCtorEq,Nat.reduceAdd,Nat.reduceMul,Nat.reduceSub,Nat.reduceBEq,Nat.reduceGT,Nat.reduceLT,Int.toNat_zero,Nat.reduceLeDiff,Int.reduceEq,Int.reduceLT,Int.reduceLE]) ?_; simp only [push_cast,reduceCtorEq,Nat.reduceAdd,Nat.reduceMul,Nat.reduceSub,Nat.reduceBEq,Nat.reduceGT,Nat.reduceLT,Int.toNat_zero,Nat.reduceLeDiff,Int.reduceEq,Int.reduceLT,Int.reduceLE])
 simp only [Z2b,Z3W,Z4J,push_cast]
 (refine Holds.frz 6 (by rw [hL]; simp) (by simp only [Z15,Z28,Z27,or_true,true_or,push_cast,reduceCtorEq,Nat.reduceAdd,Nat.reduceMul,Nat.reduceSub,Nat.reduceBEq,Nat.reduceGT,Nat.reduceLT,Int.toNat_zero,Nat.reduceLeDiff,Int.reduceEq,Int.reduceLT,Int.reduceLE]) ?_; simp only [push_cast,reduceCtorEq,Nat.reduceAdd,Nat.reduceMul,Nat.reduceSub,Nat.reduceBEq,Nat.reduceGT,Nat.reduceLT,Int.toNat_zero,Nat.reduceLeDiff,Int.reduceEq,Int.reduceLT,Int.reduceLE])
 simp only [Z2b,Z3W,Z4J,push_cast]
 (refine Holds.frz 7 (by rw [hL]; simp) (by simp only [Z15,Z28,Z27,or_true,true_or,push_cast,reduceCtorEq,Nat.reduceAdd,Nat.reduceMul,Nat.reduceSub,Nat.reduceBEq,Nat.reduceGT,Nat.reduceLT,Int.toNat_zero,Nat.reduceLeDiff,Int.reduceEq,Int.reduceLT,Int.reduceLE]) ?_; simp only [push_cast,reduceCtorEq,Nat.reduceAdd,Nat.reduceMul,Nat.reduceSub,Nat.reduceBEq,Nat.reduceGT,Nat.reduceLT,Int.toNat_zero,Nat.reduceLeDiff,Int.reduceEq,Int.reduceLT,Int.reduceLE])
 simp only [Z2b,Z3W,Z4J,push_cast]
 have eR3:=Z1O en3 s3 (by omega)
 obtain⟨l3,r3,hs3⟩:∃a b,(s3.l=a∧s3.r=b):=⟨_,_,rfl,rfl⟩
 have ok3:r3.ok:=by have:=s3.ok; rwa [hs3.2] at this
 rw [hs3.1,hs3.2] at eR3
 simp only [hs3.1,hs3.2]
 obtain⟨n4,q4,en4⟩:∃a b,Z1m r3 4294967295=(a,b):=⟨_,_,rfl⟩
 have okq4:q4.ok:=by have:=(Z0S ok3 4294967295).1; rwa [en4] at this
 have bn4:0≤n4∧n4<4294967296:=by have:=Z2r r3 4294967295; rwa [en4] at this
 have ln4:n4≤4294967295:=by have:=Z3q r3 4294967295 (by omega); rwa [en4] at this
 obtain⟨n5,q5,en5⟩:∃a b,Z1m q4 200=(a,b):=⟨_,_,rfl⟩
 have okq5:q5.ok:=by have:=(Z0S okq4 200).1; rwa [en5] at this
 have bn5:0≤n5∧n5<4294967296:=by have:=Z2r q4 200; rwa [en5] at this
 have ln5:n5≤200:=by have:=Z3q q4 200 (by omega); rwa [en5] at this
 ((first | with_reducible refine holds_of_ex X 400 _ _ _ ?_ | skip); simp (maxSteps:=1000000) only [push_cast,reduceCtorEq,Nat.reduceAdd,Nat.reduceMul,Nat.reduceSub,Nat.reduceBEq,Nat.reduceGT,Nat.reduceLT,Int.toNat_zero,Nat.reduceLeDiff,Int.reduceEq,Int.reduceLT,Int.reduceLE,hP,hΓ,hL,hfin,↓Z00,String.reduceEq,not_false_eq_true,if_true,Rd.sto,Rd.sill,Rd.to_b,Rd.to_at,h20,en4,en5])
 refine⟨ok3,okq4,?_⟩
 refine Holds.nilH 2 8 1 rfl rfl ?_
 simp only [List.set_cons_succ,List.set_cons_zero,List.cons_append,List.nil_append,List.length_cons,List.length_nil,Nat.zero_add,Nat.reduceAdd]
 refine Holds.loopM (ι:=Z0r Z20 n5.toNat q5) [true,false,true,true,true,false,false,false,false,false,true,true,false,false,false,false,false,false,false,false,false,false,false,false,false,false,false,false,false,false,false,false,false,false,false,false,false,false,false,false,false,false,false,false,false,false,false,false,false,false,false,false,false,false,false,false,false,false,false,false,false,false,false,false,false,false,false,false,false,false,false,false,false,false,false,false,false,false,false,false,false,false,false,false,false,false,false,false,false,false,false,false,false,false,false,false,false,false,false,false,false,false,false,false,false,false,false,false,false,false,false,false,false,false,false,false,false,false,false,false,false,false,false,false,false,false,false,false,false,false,false,false,false,false,false,false,false,false,false,false,false,false,false,false,false,false,false,false,false,false,false,false,false,false,false,false,false,false,false,false,false,false,false,false,false,false,false,false] (fun i=>[(9,.int .i64 i.l.length)]) (fun i=>[.row i.r.c 3 0,.row [.str [],.int .u32 0,.lit (.slice none 0 0),.lit (.slice none 0 0),.lit (.slice none 0 0),.lit (.slice none 0 0),.lit (.slice none 0 0),.int .i64 0,.lit (.slice none 0 0),.lit (.slice none 0 0),.lit (.slice none 0 0),.lit (.slice none 0 0),.lit (.slice none 0 0)] 13 0,.row [.str a,.int .u32 k,.sl (l1.flatMap Im.c) l1.length,.sl (l2.map (.int .u32)) l2.length,.sl ((l3.map fun x=>x.1).map (.int .i64)) l3.length,.sl ((l3.map fun x=>x.2.1).map .str) l3.length,.sl ((l3.map fun x=>x.2.2).map .bool) l3.length,.int .i64 n4,.msl 8 i.l.length 0 i.l.length,.lit (.slice none 0 0),.lit (.slice none 0 0),.lit (.slice none 0 0),.lit (.slice none 0 0)] 13 0,.dead,.dead,.dead,.dead,.dead,.row (i.l.map (.int .i64)) 1 i.l.length]) (fun i=>i.c) (Z0r.init _ _ _ okq5) ?_ ?_
 ·rw [hL]; simp only [push_cast,Int.natCast_zero,Z0r.init,List.map_nil,List.flatMap_nil,List.length_nil]
  exact Z06.sameA
 intro s5
 have hl5:=s5.len
 ((first | with_reducible refine holds_of_ex X 4 _ _ _ ?_ | skip); simp (maxSteps:=1000000) only [push_cast,reduceCtorEq,Nat.reduceAdd,Nat.reduceMul,Nat.reduceSub,Nat.reduceBEq,Nat.reduceGT,Nat.reduceLT,Int.toNat_zero,Nat.reduceLeDiff,Int.reduceEq,Int.reduceLT,Int.reduceLE,hP,hΓ,hL,hfin,↓Z00,String.reduceEq,not_false_eq_true,if_true,Rd.sto,Rd.sill,Rd.to_b,Rd.to_at])
 ((with_reducible refine Z02 (fun h=>?_) (fun h=>?_)) <;> (try simp only [decide_eq_true_eq,decide_eq_false_iff_not,Bool.and_eq_true,Bool.or_eq_true,Bool.and_eq_false_iff,Bool.or_eq_false_iff,Bool.not_eq_true',Bool.not_eq_false',Bool.not_eq_true,Bool.not_eq_false,Int.not_lt,Int.not_le,beq_iff_eq,beq_eq_false_iff_ne,ne_eq,win_t,win_f] at h))
 ·((first | with_reducible refine holds_of_ex X 400 _ _ _ ?_ | skip); simp (maxSteps:=1000000) only [push_cast,reduceCtorEq,Nat.reduceAdd,Nat.reduceMul,Nat.reduceSub,Nat.reduceBEq,Nat.reduceGT,Nat.reduceLT,Int.toNat_zero,Nat.reduceLeDiff,Int.reduceEq,Int.reduceLT,Int.reduceLE,hP,hΓ,hL,hfin,↓Z00,String.reduceEq,not_false_eq_true,if_true,Rd.sto,Rd.sill,Rd.to_b,Rd.to_at])
  (refine Holds.drawnE (Z3c [.row 3 0,.fix (.row [.str [],.int .u32 0,.lit (.slice none 0 0),.lit (.slice none 0 0),.lit (.slice none 0 0),.lit (.slice none 0 0),.lit (.slice none 0 0),.int .i64 0,.lit (.slice none 0 0),.lit (.slice none 0 0),.lit (.slice none 0 0),.lit (.slice none 0 0),.lit (.slice none 0 0)] 13 0),.fix (.row [.str a,.int .u32 k,.sl (l1.flatMap Im.c) l1.length,.sl (l2.map (.int .u32)) l2.length,.sl ((l3.map fun x=>x.1).map (.int .i64)) l3.length,.sl ((l3.map fun x=>x.2.1).map .str) l3.length,.sl ((l3.map fun x=>x.2.2).map .bool) l3.length,.int .i64 n4,.msl 8 s5.l.length 0 s5.l.length,.lit (.slice none 0 0),.lit (.slice none 0 0),.lit (.slice none 0 0),.lit (.slice none 0 0)] 13 0)]) [2,3,5,7] [] [] true (by rw [hP]; kernel_rfl) (by kernel_rfl) (by kernel_rfl) (by kernel_rfl) (by first | exact .inl rfl | exact .inr fun _ _ h=>Z0M _ _ h) (by first | (simp only [push_cast]; done) | (simp only [push_cast,and_true]; omega)) ?_; simp (maxSteps:=1000000) only [↓reduceIte,Option.getD_some,push_cast,reduceCtorEq,Nat.reduceAdd,Nat.reduceMul,Nat.reduceSub,Nat.reduceBEq,Nat.reduceGT,Nat.reduceLT,Int.toNat_zero,Nat.reduceLeDiff,Int.reduceEq,Int.reduceLT,Int.reduceLE,hP,hΓ,hL,hfin,↓Z00,String.reduceEq,not_false_eq_true,if_true,Rd.sto,Rd.sill,Rd.to_b,Rd.to_at,h20])
  refine⟨s5.ok,by omega,?_⟩
  ((first | with_reducible refine holds_of_ex X 400 _ _ _ ?_ | skip); simp (maxSteps:=1000000) only [push_cast,reduceCtorEq,Nat.reduceAdd,Nat.reduceMul,Nat.reduceSub,Nat.reduceBEq,Nat.reduceGT,Nat.reduceLT,Int.toNat_zero,Nat.reduceLeDiff,Int.reduceEq,Int.reduceLT,Int.reduceLE,hP,hΓ,hL,hfin,↓Z00,String.reduceEq,not_false_eq_true,if_true,Rd.sto,Rd.sill,Rd.to_b,Rd.to_at,Z0c ((s5.l.length:Int)+1) (by constructor <;> omega)])
  refine⟨s5.next (fun r hr=>(Z0S hr _).1) (by omega) h.2,by simp only [Z0r.next]; omega,?_⟩
  simp only [Z0r.next,List.map_append,List.map_cons,List.map_nil,List.flatMap_append,List.flatMap_cons,List.flatMap_nil,List.append_nil,List.length_append,List.length_cons,List.length_nil,Nat.zero_add,Int.natCast_add,Int.natCast_one]
  exact Z06.sameA
 (refine Holds.frz 8 (by rw [hL]; simp) (by simp only [Z15,Z28,Z27,or_true,true_or,push_cast,reduceCtorEq,Nat.reduceAdd,Nat.reduceMul,Nat.reduceSub,Nat.reduceBEq,Nat.reduceGT,Nat.reduceLT,Int.toNat_zero,Nat.reduceLeDiff,Int.reduceEq,Int.reduceLT,Int.reduceLE]) ?_; simp only [push_cast,reduceCtorEq,Nat.reduceAdd,Nat.reduceMul,Nat.reduceSub,Nat.reduceBEq,Nat.reduceGT,Nat.reduceLT,Int.toNat_zero,Nat.reduceLeDiff,Int.reduceEq,Int.reduceLT,Int.reduceLE])
 simp only [Z2b,Z3W,Z4J]
 have eR5:=Z1O en5 s5 (by omega)
 obtain⟨l5,r5,hs5⟩:∃a b,(s5.l=a∧s5.r=b):=⟨_,_,rfl,rfl⟩
 have ok5:r5.ok:=by have:=s5.ok; rwa [hs5.2] at this
 rw [hs5.1,hs5.2] at eR5
 simp only [hs5.1,hs5.2]
 obtain⟨n6,q6,en6⟩:∃a b,Z1m r5 200=(a,b):=⟨_,_,rfl⟩
 have okq6:q6.ok:=by have:=(Z0S ok5 200).1; rwa [en6] at this
 have bn6:0≤n6∧n6<4294967296:=by have:=Z2r r5 200; rwa [en6] at this
 have ln6:n6≤200:=by have:=Z3q r5 200 (by omega); rwa [en6] at this
 ((first | with_reducible refine holds_of_ex X 400 _ _ _ ?_ | skip); simp (maxSteps:=1000000) only [push_cast,reduceCtorEq,Nat.reduceAdd,Nat.reduceMul,Nat.reduceSub,Nat.reduceBEq,Nat.reduceGT,Nat.reduceLT,Int.toNat_zero,Nat.reduceLeDiff,Int.reduceEq,Int.reduceLT,Int.reduceLE,hP,hΓ,hL,hfin,↓Z00,String.reduceEq,not_false_eq_true,if_true,Rd.sto,Rd.sill,Rd.to_b,Rd.to_at,h20,en6])
 refine⟨ok5,?_⟩
 refine Holds.nilH 2 9 1 rfl rfl ?_
 simp only [List.set_cons_succ,List.set_cons_zero,List.cons_append,List.nil_append,List.length_cons,List.length_nil,Nat.zero_add,Nat.reduceAdd]
 refine Holds.loopM (ι:=Z0r Z20 n6.toNat q6) [true,false,true,true,true,false,false,false,false,false,false,true,false,false,false,false,false,false,false,false,false,false,false,false,false,false,false,false,false,false,false,false,false,false,false,false,false,false,false,false,false,false,false,false,false,false,false,false,false,false,false,false,false,false,false,false,false,false,false,false,false,false,false,false,false,false,false,false,false,false,false,false,false,false,false,false,false,false,false,false,false,false,false,false,false,false,false,false,false,false,false,false,false,false,false,false,false,false,false,false,false,false,false,false,false,false,false,false,false,false,false,false,false,false,false,false,false,false,false,false,false,false,false,false,false,false,false,false,false,false,false,false,false,false,false,false,false,false,false,false,false,false,false,false,false,false,false,false,false,false,false,false,false,false,false,false,false,false,false,false,false,false,false,false,false,false,false,false] (fun i=>[(10,.int .i64 i.l.length)]) (fun i=>[.row i.r.c 3 0,.row [.str [],.int .u32 0,.lit (.slice none 0 0),.lit (.slice none 0 0),.lit (.slice none 0 0),.lit (.slice none 0 0),.lit (.slice none 0 0),.int .i64 0,.lit (.slice none 0 0),.lit (.slice none 0 0),.lit (.slice none 0 0),.lit (.slice none 0 0),.lit (.slice none 0 0)] 13 0,.row [.str a,.int .u32 k,.sl (l1.flatMap Im.c) l1.length,.sl (l2.map (.int .u32)) l2.length,.sl ((l3.map fun x=>x.1).map (.int .i64)) l3.length,.sl ((l3.map fun x=>x.2.1).map .str) l3.length,.sl ((l3.map fun x=>x.2.2).map .bool) l3.length,.int .i64 n4,.sl (l5.map (.int .i64)) l5.length,.msl 9 i.l.length 0 i.l.length,.lit (.slice none 0 0),.lit (.slice none 0 0),.lit (.slice none 0 0)] 13 0,.dead,.dead,.dead,.dead,.dead,.dead,.row (i.l.map (.int .i64)) 1 i.l.length]) (fun i=>i.c) (Z0r.init _ _ _ okq6) ?_ ?_
 ·rw [hL]; simp only [push_cast,Int.natCast_zero,Z0r.init,List.map_nil,List.flatMap_nil,List.length_nil]
  exact Z06.sameA
 intro s6
 have hl6:=s6.len
 ((first | with_reducible refine holds_of_ex X 4 _ _ _ ?_ | skip); simp (maxSteps:=1000000) only [push_cast,reduceCtorEq,Nat.reduceAdd,Nat.reduceMul,Nat.reduceSub,Nat.reduceBEq,Nat.reduceGT,Nat.reduceLT,Int.toNat_zero,Nat.reduceLeDiff,Int.reduceEq,Int.reduceLT,Int.reduceLE,hP,hΓ,hL,hfin,↓Z00,String.reduceEq,not_false_eq_true,if_true,Rd.sto,Rd.sill,Rd.to_b,Rd.to_at])
 ((with_reducible refine Z02 (fun h=>?_) (fun h=>?_)) <;> (try simp only [decide_eq_true_eq,decide_eq_false_iff_not,Bool.and_eq_true,Bool.or_eq_true,Bool.and_eq_false_iff,Bool.or_eq_false_iff,Bool.not_eq_true',Bool.not_eq_false',Bool.not_eq_true,Bool.not_eq_false,Int.not_lt,Int.not_le,beq_iff_eq,beq_eq_false_iff_ne,ne_eq,win_t,win_f] at h))
 ·((first | with_reducible refine holds_of_ex X 400 _ _ _ ?_ | skip); simp (maxSteps:=1000000) only [push_cast,reduceCtorEq,Nat.reduceAdd,Nat.reduceMul,Nat.reduceSub,Nat.reduceBEq,Nat.reduceGT,Nat.reduceLT,Int.toNat_zero,Nat.reduceLeDiff,Int.reduceEq,Int.reduceLT,Int.reduceLE,hP,hΓ,hL,hfin,↓Z00,String.reduceEq,not_false_eq_true,if_true,Rd.sto,Rd.sill,Rd.to_b,Rd.to_at])
  (refine Holds.drawnE (Z3c [.row 3 0,.fix (.row [.str [],.int .u32 0,.lit (.slice none 0 0),.lit (.slice none 0 0),.lit (.slice none 0 0),.lit (.slice none 0 0),.lit (.slice none 0 0),.int .i64 0,.lit (.slice none 0 0),.lit (.slice none 0 0),.lit (.slice none 0 0),.lit (.slice none 0 0),.lit (.slice none 0 0)] 13 0),.fix (.row [.str a,.int .u32 k,.sl (l1.flatMap Im.c) l1.length,.sl (l2.map (.int .u32)) l2.length,.sl ((l3.map fun x=>x.1).map (.int .i64)) l3.length,.sl ((l3.map fun x=>x.2.1).map .str) l3.length,.sl ((l3.map fun x=>x.2.2).map .bool) l3.length,.int .i64 n4,.sl (l5.map (.int .i64)) l5.length,.msl 9 s6.l.length 0 s6.l.length,.lit (.slice none 0 0),.lit (.slice none 0 0),.lit (.slice none 0 0)] 13 0)]) [2,3,5,7] [] [] true (by rw [hP]; kernel_rfl) (by kernel_rfl) (by kernel_rfl) (by kernel_rfl) (by first | exact .inl rfl | exact .inr fun _ _ h=>Z0M _ _ h) (by first | (simp only [push_cast]; done) | (simp only [push_cast,and_true]; omega)) ?_; simp (maxSteps:=1000000) only [↓reduceIte,Option.getD_some,push_cast,reduceCtorEq,Nat.reduceAdd,Nat.reduceMul,Nat.reduceSub,Nat.reduceBEq,Nat.reduceGT,Nat.reduceLT,Int.toNat_zero,Nat.reduceLeDiff,Int.reduceEq,Int.reduceLT,Int.reduceLE,hP,hΓ,hL,hfin,↓Z00,String.reduceEq,not_false_eq_true,if_true,Rd.sto,Rd.sill,Rd.to_b,Rd.to_at,h20])
  refine⟨s6.ok,by omega,?_⟩
  ((first | with_reducible refine holds_of_ex X 400 _ _ _ ?_ | skip); simp (maxSteps:=1000000) only [push_cast,reduceCtorEq,Nat.reduceAdd,Nat.reduceMul,Nat.reduceSub,Nat.reduceBEq,Nat.reduceGT,Nat.reduceLT,Int.toNat_zero,Nat.reduceLeDiff,Int.reduceEq,Int.reduceLT,Int.reduceLE,hP,hΓ,hL,hfin,↓Z00,String.reduceEq,not_false_eq_true,if_true,Rd.sto,Rd.sill,Rd.to_b,Rd.to_at,Z0c ((s6.l.length:Int)+1) (by constructor <;> omega)])
  refine⟨s6.next (fun r hr=>(Z0S hr _).1) (by omega) h.2,by simp only [Z0r.next]; omega,?_⟩
  simp only [Z0r.next,List.map_append,List.map_cons,List.map_nil,List.flatMap_append,List.flatMap_cons,List.flatMap_nil,List.append_nil,List.length_append,List.length_cons,List.length_nil,Nat.zero_add,Int.natCast_add,Int.natCast_one]
  exact Z06.sameA
 (refine Holds.frz 9 (by rw [hL]; simp) (by simp only [Z15,Z28,Z27,or_true,true_or,push_cast,reduceCtorEq,Nat.reduceAdd,Nat.reduceMul,Nat.reduceSub,Nat.reduceBEq,Nat.reduceGT,Nat.reduceLT,Int.toNat_zero,Nat.reduceLeDiff,Int.reduceEq,Int.reduceLT,Int.reduceLE]) ?_; simp only [push_cast,reduceCtorEq,Nat.reduceAdd,Nat.reduceMul,Nat.reduceSub,Nat.reduceBEq,Nat.reduceGT,Nat.reduceLT,Int.toNat_zero,Nat.reduceLeDiff,Int.reduceEq,Int.reduceLT,Int.reduceLE])
 simp only [Z2b,Z3W,Z4J]
 have eR6:=Z1O en6 s6 (by omega)
 obtain⟨l6,r6,hs6⟩:∃a b,(s6.l=a∧s6.r=b):=⟨_,_,rfl,rfl⟩
 have ok6:r6.ok:=by have:=s6.ok; rwa [hs6.2] at this
 rw [hs6.1,hs6.2] at eR6
 simp only [hs6.1,hs6.2]
 obtain⟨n7,q7,en7⟩:∃a b,Z1m r6 200=(a,b):=⟨_,_,rfl⟩
 have okq7:q7.ok:=by have:=(Z0S ok6 200).1; rwa [en7] at this
 have bn7:0≤n7∧n7<4294967296:=by have:=Z2r r6 200; rwa [en7] at this
 have ln7:n7≤200:=by have:=Z3q r6 200 (by omega); rwa [en7] at this
 ((first | with_reducible refine holds_of_ex X 400 _ _ _ ?_ | skip); simp (maxSteps:=1000000) only [push_cast,reduceCtorEq,Nat.reduceAdd,Nat.reduceMul,Nat.reduceSub,Nat.reduceBEq,Nat.reduceGT,Nat.reduceLT,Int.toNat_zero,Nat.reduceLeDiff,Int.reduceEq,Int.reduceLT,Int.reduceLE,hP,hΓ,hL,hfin,↓Z00,String.reduceEq,not_false_eq_true,if_true,Rd.sto,Rd.sill,Rd.to_b,Rd.to_at,h20,en7])
 refine⟨ok6,?_⟩
 refine Holds.nilH 2 10 1 rfl rfl ?_
 simp only [List.set_cons_succ,List.set_cons_zero,List.cons_append,List.nil_append,List.length_cons,List.length_nil,Nat.zero_add,Nat.reduceAdd]
 refine Holds.loopM (ι:=Z0r (fun r=>Z0R r 200) n7.toNat q7) [true,false,true,true,true,false,false,false,false,false,false,false,false,false,false,false,false,false,false,false,false,false,false,false,false,false,false,false,false,false,false,false,false,false,false,false,false,false,false,false,false,false,false,false,false,false,false,false,false,false,false,false,false,false,false,false,false,false,false,false,false,false,false,false,false,false,false,false,false,false,false,false,false,false,false,false,false,false,false,false,false,false,false,false,false,false,false,false,false,false,false,false,false,false,false,false,false,false,false,false,false,false,false,false,false,false,false,false,false,false,false,false,false,false,false,false,false,false,false,false,false,false,false,false,false,false,false,false,false,false,false,false,false,false,false,false,false,false,false,false,false,false,false,false,false,false,false,false,false,false,false,false,false,false,false,false,false,false,false,false,false,false,false,false,false,false,false,false] (fun i=>[(11,.int .i64 i.l.length)]) (fun i=>[.row i.r.c 3 0,.row [.str [],.int .u32 0,.lit (.slice none 0 0),.lit (.slice none 0 0),.lit (.slice none 0 0),.lit (.slice none 0 0),.lit (.slice none 0 0),.int .i64 0,.lit (.slice none 0 0),.lit (.slice none 0 0),.lit (.slice none 0 0),.lit (.slice none 0 0),.lit (.slice none 0 0)] 13 0,.row [.str a,.int .u32 k,.sl (l1.flatMap Im.c) l1.length,.sl (l2.map (.int .u32)) l2.length,.sl ((l3.map fun x=>x.1).map (.int .i64)) l3.length,.sl ((l3.map fun x=>x.2.1).map .str) l3.length,.sl ((l3.map fun x=>x.2.2).map .bool) l3.length,.int .i64 n4,.sl (l5.map (.int .i64)) l5.length,.sl (l6.map (.int .i64)) l6.length,.msl 10 i.l.length 0 i.l.length,.lit (.slice none 0 0),.lit (.slice none 0 0)] 13 0,.dead,.dead,.dead,.dead,.dead,.dead,.dead,.row (i.l.map .str) 1 i.l.length]) (fun i=>i.c) (Z0r.init _ _ _ okq7) ?_ ?_
 ·rw [hL]; simp only [push_cast,Int.natCast_zero,Z0r.init,List.map_nil,List.flatMap_nil,List.length_nil]
  exact Z06.sameA
 intro s7
 have hl7:=s7.len
 ((first | with_reducible refine holds_of_ex X 4 _ _ _ ?_ | skip); simp (maxSteps:=1000000) only [push_cast,reduceCtorEq,Nat.reduceAdd,Nat.reduceMul,Nat.reduceSub,Nat.reduceBEq,Nat.reduceGT,Nat.reduceLT,Int.toNat_zero,Nat.reduceLeDiff,Int.reduceEq,Int.reduceLT,Int.reduceLE,hP,hΓ,hL,hfin,↓Z00,String.reduceEq,not_false_eq_true,if_true,Rd.sto,Rd.sill,Rd.to_b,Rd.to_at])
 ((with_reducible refine Z02 (fun h=>?_) (fun h=>?_)) <;> (try simp only [decide_eq_true_eq,decide_eq_false_iff_not,Bool.and_eq_true,Bool.or_eq_true,Bool.and_eq_false_iff,Bool.or_eq_false_iff,Bool.not_eq_true',Bool.not_eq_false',Bool.not_eq_true,Bool.not_eq_false,Int.not_lt,Int.not_le,beq_iff_eq,beq_eq_false_iff_ne,ne_eq,win_t,win_f] at h))
 ·((first | with_reducible refine holds_of_ex X 400 _ _ _ ?_ | skip); simp (maxSteps:=1000000) only [push_cast,reduceCtorEq,Nat.reduceAdd,Nat.reduceMul,Nat.reduceSub,Nat.reduceBEq,Nat.reduceGT,Nat.reduceLT,Int.toNat_zero,Nat.reduceLeDiff,Int.reduceEq,Int.reduceLT,Int.reduceLE,hP,hΓ,hL,hfin,↓Z00,String.reduceEq,not_false_eq_true,if_true,Rd.sto,Rd.sill,Rd.to_b,Rd.to_at])
  (refine Holds.drawnE (Z3c [.row 3 0,.fix (.row [.str [],.int .u32 0,.lit (.slice none 0 0),.lit (.slice none 0 0),.lit (.slice none 0 0),.lit (.slice none 0 0),.lit (.slice none 0 0),.int .i64 0,.lit (.slice none 0 0),.lit (.slice none 0 0),.lit (.slice none 0 0),.lit (.slice none 0 0),.lit (.slice none 0 0)] 13 0),.fix (.row [.str a,.int .u32 k,.sl (l1.flatMap Im.c) l1.length,.sl (l2.map (.int .u32)) l2.length,.sl ((l3.map fun x=>x.1).map (.int .i64)) l3.length,.sl ((l3.map fun x=>x.2.1).map .str) l3.length,.sl ((l3.map fun x=>x.2.2).map .bool) l3.length,.int .i64 n4,.sl (l5.map (.int .i64)) l5.length,.sl (l6.map (.int .i64)) l6.length,.msl 10 s7.l.length 0 s7.l.length,.lit (.slice none 0 0),.lit (.slice none 0 0)] 13 0)]) [2,3,5,7] [] [] true (by rw [hP]; kernel_rfl) (by kernel_rfl) (by kernel_rfl) (by kernel_rfl) (by first | exact .inl rfl | exact .inr fun _ _ h=>Z0M _ _ h) (by first | (simp only [push_cast]; done) | (simp only [push_cast,and_true]; omega)) ?_; simp (maxSteps:=1000000) only [↓reduceIte,Option.getD_some,push_cast,reduceCtorEq,Nat.reduceAdd,Nat.reduceMul,Nat.reduceSub,Nat.reduceBEq,Nat.reduceGT,Nat.reduceLT,Int.toNat_zero,Nat.reduceLeDiff,Int.reduceEq,Int.reduceLT,Int.reduceLE,hP,hΓ,hL,hfin,↓Z00,String.reduceEq,not_false_eq_true,if_true,Rd.sto,Rd.sill,Rd.to_b,Rd.to_at,h47])
  refine⟨s7.ok,by omega,?_⟩
  ((first | with_reducible refine holds_of_ex X 400 _ _ _ ?_ | skip); simp (maxSteps:=1000000) only [push_cast,reduceCtorEq,Nat.reduceAdd,Nat.reduceMul,Nat.reduceSub,Nat.reduceBEq,Nat.reduceGT,Nat.reduceLT,Int.toNat_zero,Nat.reduceLeDiff,Int.reduceEq,Int.reduceLT,Int.reduceLE,hP,hΓ,hL,hfin,↓Z00,String.reduceEq,not_false_eq_true,if_true,Rd.sto,Rd.sill,Rd.to_b,Rd.to_at,Z0c ((s7.l.length:Int)+1) (by constructor <;> omega)])
  refine⟨s7.next (fun r hr=>(Z1i hr 200).1) (by omega) h.2,by simp only [Z0r.next]; omega,?_⟩
  simp only [Z0r.next,List.map_append,List.map_cons,List.map_nil,List.flatMap_append,List.flatMap_cons,List.flatMap_nil,List.append_nil,List.length_append,List.length_cons,List.length_nil,Nat.zero_add,Int.natCast_add,Int.natCast_one]
  exact Z06.sameA
 (refine Holds.frz 10 (by rw [hL]; simp) (by simp only [Z15,Z28,Z27,or_true,true_or,push_cast,reduceCtorEq,Nat.reduceAdd,Nat.reduceMul,Nat.reduceSub,Nat.reduceBEq,Nat.reduceGT,Nat.reduceLT,Int.toNat_zero,Nat.reduceLeDiff,Int.reduceEq,Int.reduceLT,Int.reduceLE]) ?_; simp only [push_cast,reduceCtorEq,Nat.reduceAdd,Nat.reduceMul,Nat.reduceSub,Nat.reduceBEq,Nat.reduceGT,Nat.reduceLT,Int.toNat_zero,Nat.reduceLeDiff,Int.reduceEq,Int.reduceLT,Int.reduceLE])
 simp only [Z2b,Z3W,Z4J]
 have eR7:=Z1O en7 s7 (by omega)
 obtain⟨l7,r7,hs7⟩:∃a b,(s7.l=a∧s7.r=b):=⟨_,_,rfl,rfl⟩
 have ok7:r7.ok:=by have:=s7.ok; rwa [hs7.2] at this
 rw [hs7.1,hs7.2] at eR7
 simp only [hs7.1,hs7.2]
 ((first | with_reducible refine holds_of_ex X 400 _ _ _ ?_ | skip); simp (maxSteps:=1000000) only [push_cast,reduceCtorEq,Nat.reduceAdd,Nat.reduceMul,Nat.reduceSub,Nat.reduceBEq,Nat.reduceGT,Nat.reduceLT,Int.toNat_zero,Nat.reduceLeDiff,Int.reduceEq,Int.reduceLT,Int.reduceLE,hP,hΓ,hL,hfin,↓Z00,String.reduceEq,not_false_eq_true,if_true,Rd.sto,Rd.sill,Rd.to_b,Rd.to_at])
 rw [show Z2E r=(⟨a,k,l1,l2,l3.map fun x=>x.1,l3.map fun x=>x.2.1,l3.map fun x=>x.2.2,n4,l5,l6,l7,[],[]⟩,r7) by simp only [Z2E,ea,ek,Z20,en4,eR1,eR2,eR3,eR5,eR6,eR7]]
 simp only [oF,List.length_map]
 exact Z06.keep1A
def e19:(Rd)→List AV×Heap:=fun r=>([.ref 0 0 0],[.row r.c 3 0])
def p19:(Rd)→Prop:=fun r=>r.ok
def r19:(Rd)→AV:=fun r=>.agg (oF (Z2E r).1)
def g19:(Rd)→Heap:=fun r=>[.row (Z2E r).2.c 3 0]
theorem inj19:∀a b,e19 a=e19 b→a=b:=by
 rintro r r' h
 simp only [e19,Z0f,Z0h,Z0i,Z0g,Z0V,Prod.mk.injEq,List.cons.injEq,Z0L.row.injEq,AV.int.injEq,AV.str.injEq,AV.bool.injEq,AV.sl.injEq,AV.agg.injEq,AV.ip.injEq,AV.fn.injEq,AV.ifc.injEq,AV.mpr.injEq,AV.msl.injEq,AV.ref.injEq,Int.natCast_inj,and_true,true_and] at h
 simp_all only
noncomputable def S19:Z0n:=Z1I false e19 p19 r19 g19
theorem Zkm(r:(Rd)):Z1p e19 p19 ([.ref 0 0 0],[.row r.c 3 0])=(r.ok):=Z0x inj19 p19 r
theorem ZjY(r:(Rd)):Z0A e19 r19 .any ([.ref 0 0 0],[.row r.c 3 0])=(.agg (oF (Z2E r).1)):=Z09 inj19 r19 .any r
theorem ZkS(r:(Rd)):Z0A e19 g19 [] ([.ref 0 0 0],[.row r.c 3 0])=([.row (Z2E r).2.c 3 0]):=Z09 inj19 g19 [] r
attribute [push_cast] S19 Zkm ZjY ZkS
theorem con19{Γ:Env}(h:Z07 Tryz.prog Γ)(h20:Γ 20=some S20)(h21:Γ 21=some S21)(h47:Γ 47=some S47)(h48:Γ 48=some S48):Con Tryz.prog 19 S19:=
 Z0v h (fn:=Tryz.f19) (by kernel_rfl) rfl (by kernel_rfl) inj19 fun r h=>body19 Γ h20 h21 h47 h48 r h
open Go.Proofs.YtmomhjmaanagaaaGreat.objNumbersDone (Z1r okR valR Z3d Z7b Z7Q okT Z8z Z4B Z1R Z3X Z3Y)
open Go.Proofs.YtmomhjmaanagaaaGreat.objDone
def e23:(Ob)→List AV:=fun o=>[.agg o.c]
def p23:(Ob)→Prop:=fun o=>o.ok∧o.u32s
def r23:(Ob)→AV:=fun o=>.bool (okB o)
def g23:(Ob)→Heap:=fun o=>[]
theorem inj23:∀a b,e23 a=e23 b→a=b:=by
 rintro o o' h
 simp only [e23,Z0f,Z0h,Z0i,Z0g,Z0V,Z0u,Z0F,Z0E,Z0z,Z0G,Z0D,Z0C,List.cons.injEq,AV.int.injEq,AV.str.injEq,AV.bool.injEq,AV.sl.injEq,AV.agg.injEq,AV.ip.injEq,AV.fn.injEq,AV.ifc.injEq,AV.mpr.injEq,Int.natCast_inj,and_true,true_and] at h
 simp_all only
noncomputable def S23:Z0n:=Z2V e23 p23 r23 g23 true
theorem Zkj(o:(Ob)):Z1J e23 p23 [.agg o.c]=(o.ok∧o.u32s):=Z0j inj23 p23 o
theorem rs23(o:(Ob)):Z10 e23 r23 .any [.agg o.c]=(.bool (okB o)):=Z08 inj23 r23 .any o
theorem hs23(o:(Ob)):Z10 e23 g23 [] [.agg o.c]=([]):=Z08 inj23 g23 [] o
attribute [push_cast] S23 Zkj rs23 hs23
theorem body23(Γ:Env)(h50:Γ 50=some objDone.S19)(o:Ob)(ho:o.ok)(hu:o.u32s):Z0a Tryz.prog Γ Tryz.f23 (e23 o) [] (.bool (okB o)) []:=by
 (intro X hP hΓ hL hfin; refine⟨_,rfl,?_⟩; rw [show Tryz.f23.ntmps=12 from rfl]; rw [show Tryz.f23.results.toList=[.tmp 2] from rfl] at hfin; apply holds_of_ex X 400; simp (maxSteps:=1000000) only [push_cast,reduceCtorEq,Nat.reduceAdd,Nat.reduceMul,Nat.reduceSub,Nat.reduceBEq,Nat.reduceGT,Nat.reduceLT,Int.toNat_zero,Nat.reduceLeDiff,Int.reduceEq,Int.reduceLT,Int.reduceLE,hP,hΓ,hL,hfin,↓Z00,String.reduceEq,not_false_eq_true,if_true,Rd.sto,Rd.sill,Rd.to_b,Rd.to_at,e23,h50])
 refine⟨⟨ho,hu⟩,?_⟩
 rw [show decide (Z6z o=0)=okB o by unfold Z6z; cases okB o <;> rfl]
 exact Z06.keep0A
theorem con23{Γ:Env}(h:Z07 Tryz.prog Γ)(h50:Γ 50=some objDone.S19):Con Tryz.prog 23 S23:=
 Z0t h (fn:=Tryz.f23) (by kernel_rfl) rfl (by kernel_rfl) inj23 (by first | (intro h; cases h; done) | exact fun _ _=>rfl) fun o h=>body23 Γ h50 o h.1 h.2
theorem Zal(r:Rd):objM r=({ (Z2E r).1 with descs:=(Z0b Z0W 200 (Z2E r).2).1,fixes:=(Z0b Z3P 65536 (Z0b Z0W 200 (Z2E r).2).2).1 },(Z0b Z3P 65536 (Z0b Z0W 200 (Z2E r).2).2).2):=by
 simp only [objM,Z2E]
theorem Zfd{r:Rd}(hr:r.ok):(Z2E r).2.ok∧(Z2E r).2.b=r.b:=by
 have h1:=Z1i hr 20
 have h2:=Z1Q h1.1
 have h3:=Z0K (one:=Z0y) (fun r hr=>Z1X hr) 16 h2.1
 have h4:=Z0K (one:=Z0T) (fun r hr=>Z1Q hr) 65536 h3.1
 have h5:=Z0K (one:=Z0I) (fun r hr=>Z3H hr) 100 h4.1
 have h6:=Z1M h5.1
 have h7:=Z0K (one:=Z20) (fun r hr=>Z1M hr) 200 h6.1
 have h8:=Z0K (one:=Z20) (fun r hr=>Z1M hr) 200 h7.1
 have h9:=Z0K (one:=fun r=>Z0R r 200) (fun r hr=>Z1i hr 200) 200 h8.1
 exact⟨h9.1,h9.2.trans (h8.2.trans (h7.2.trans (h6.2.trans (h5.2.trans (h4.2.trans (h3.2.trans (h2.2.trans h1.2)))))))⟩
def e7:(Z04)×(Nat)→List AV:=fun (b,n)=>[.sl (b.map Z03) n]
def p7:(Z04)×(Nat)→Prop:=fun (b,n)=>n=b.length∧b.length≤4194304
def r7:(Z04)×(Nat)→AV:=fun (b,n)=>.tup [.agg (Z1L b).1.c,.int .i64 (Z1L b).2.1,.int .i64 (Z1L b).2.2]
def g7:(Z04)×(Nat)→Heap:=fun (b,n)=>[]
theorem inj7:∀a b,e7 a=e7 b→a=b:=by
 rintro⟨b,n⟩ ⟨b',n'⟩ h
 simp only [e7,Z0f,Z0h,Z0i,Z0g,Z0V,Z0u,Z0F,Z0E,Z0z,Z0G,Z0D,Z0C,List.cons.injEq,AV.int.injEq,AV.str.injEq,AV.bool.injEq,AV.sl.injEq,AV.agg.injEq,AV.ip.injEq,AV.fn.injEq,AV.ifc.injEq,AV.mpr.injEq,Int.natCast_inj,and_true,true_and] at h
 simp_all only
noncomputable def S7:Z0n:=Z2V e7 p7 r7 g7 false
theorem ps7(b:(Z04))(n:(Nat)):Z1J e7 p7 [.sl (b.map Z03) n]=(n=b.length∧b.length≤4194304):=Z0j inj7 p7 (b,n)
theorem rs7(b:(Z04))(n:(Nat)):Z10 e7 r7 .any [.sl (b.map Z03) n]=(.tup [.agg (Z1L b).1.c,.int .i64 (Z1L b).2.1,.int .i64 (Z1L b).2.2]):=Z08 inj7 r7 .any (b,n)
theorem hs7(b:(Z04))(n:(Nat)):Z10 e7 g7 [] [.sl (b.map Z03) n]=([]):=Z08 inj7 g7 [] (b,n)
attribute [push_cast] S7 ps7 rs7 hs7
theorem body7(Γ:Env)(h17:Γ 17=some S17)(h18:Γ 18=some objDone.S73)(h19:Γ 19=some S19)(h20:Γ 20=some S20)(h21:Γ 21=some S21)(h22:Γ 22=some S22)(h23:Γ 23=some S23)(b:Z04)(hb:b.length≤4194304) :
  Z0a Tryz.prog Γ Tryz.f7 (e7 (b,b.length)) [] (.tup [.agg (Z1L b).1.c,.int .i64 (Z1L b).2.1,.int .i64 (Z1L b).2.2]) []:=by
 have hE:∀h:8≤b.length,(⟨b.take (b.length - 4),4,-1⟩:Rd).ok:=fun h=>⟨by simp; omega,by simp,by simp; omega⟩
 (intro X hP hΓ hL hfin; refine⟨_,rfl,?_⟩; rw [show Tryz.f7.ntmps=162 from rfl]; rw [show Tryz.f7.results.toList=[.cell 2 33,.tmp 3,.tmp 4] from rfl] at hfin; apply holds_of_ex X 400; simp (maxSteps:=1000000) only [push_cast,reduceCtorEq,Nat.reduceAdd,Nat.reduceMul,Nat.reduceSub,Nat.reduceBEq,Nat.reduceGT,Nat.reduceLT,Int.toNat_zero,Nat.reduceLeDiff,Int.reduceEq,Int.reduceLT,Int.reduceLE,hP,hΓ,hL,hfin,↓Z00,String.reduceEq,not_false_eq_true,if_true,Rd.sto,Rd.sill,Rd.to_b,Rd.to_at,e7])
 refine⟨fun h=>?_,fun h=>?_,?_⟩
 ·simp only [Bool.not_eq_true',Bool.or_eq_false_iff,decide_eq_false_iff_not] at h; omega
 ·simp only [Bool.not_eq_true',Bool.or_eq_false_iff,decide_eq_false_iff_not] at h
  refine⟨by rw [←List.map_take]; exact Z1N _,by simp; omega⟩
 rw [←List.map_take,Z12]
 refine Z02 (fun h=>?_) (fun h=>?_)
 ·have hh:Z8j b=false:=by
   rw [←Bool.not_eq_true]
   intro hc
   simp only [Z8j,Bool.and_eq_true,decide_eq_true_eq,beq_iff_eq] at hc
   simp only [Bool.or_eq_true,decide_eq_true_eq,Bool.not_eq_true',beq_eq_false_iff_ne] at h
   rcases h with h | h
   ·omega
   ·exact h (by simpa using hc.2)
  ((first | with_reducible refine holds_of_ex X 400 _ _ _ ?_ | skip); simp (maxSteps:=1000000) only [push_cast,reduceCtorEq,Nat.reduceAdd,Nat.reduceMul,Nat.reduceSub,Nat.reduceBEq,Nat.reduceGT,Nat.reduceLT,Int.toNat_zero,Nat.reduceLeDiff,Int.reduceEq,Int.reduceLT,Int.reduceLE,hP,hΓ,hL,hfin,↓Z00,String.reduceEq,not_false_eq_true,if_true,Rd.sto,Rd.sill,Rd.to_b,Rd.to_at])
  rw [show Z1L b=(.zero,0,71) by rw [Z1L,if_pos hh]]
  refine Z0k.soft ?_
  simp only [push_cast,Ob.zero,Ob.c,List.map_nil,List.flatMap_nil,List.length_nil]
  exact Z06.keep0A
 have hh:Z8j b=true:=by
  simp only [Bool.or_eq_false_iff,decide_eq_false_iff_not,Bool.not_eq_false',beq_iff_eq] at h
  simp only [Z8j,Bool.and_eq_true,decide_eq_true_eq,beq_iff_eq]
  exact⟨by omega,by simpa using h.2⟩
 have h8:8≤b.length:=by
  simp only [Z8j,Bool.and_eq_true,decide_eq_true_eq] at hh; omega
 ((first | with_reducible refine holds_of_ex X 400 _ _ _ ?_ | skip); simp (maxSteps:=1000000) only [push_cast,reduceCtorEq,Nat.reduceAdd,Nat.reduceMul,Nat.reduceSub,Nat.reduceBEq,Nat.reduceGT,Nat.reduceLT,Int.toNat_zero,Nat.reduceLeDiff,Int.reduceEq,Int.reduceLT,Int.reduceLE,hP,hΓ,hL,hfin,↓Z00,String.reduceEq,not_false_eq_true,if_true,Rd.sto,Rd.sill,Rd.to_b,Rd.to_at,h17,h18,Z0c ((b.length:Int) - 4) (by constructor <;> omega),←List.map_take])
 have hB:(objNumbersDone.BIG:Nat)=140737488355328:=rfl
 have hn:((b.length:Int) - 4).toNat=b.length - 4:=by omega
 rw [hn]
 refine⟨hb,⟨by omega,by omega,by omega⟩,⟨by omega,by omega⟩,?_⟩
 refine Z02 (fun h2=>?_) (fun h2=>?_)
 ·((first | with_reducible refine holds_of_ex X 400 _ _ _ ?_ | skip); simp (maxSteps:=1000000) only [push_cast,reduceCtorEq,Nat.reduceAdd,Nat.reduceMul,Nat.reduceSub,Nat.reduceBEq,Nat.reduceGT,Nat.reduceLT,Int.toNat_zero,Nat.reduceLeDiff,Int.reduceEq,Int.reduceLT,Int.reduceLE,hP,hΓ,hL,hfin,↓Z00,String.reduceEq,not_false_eq_true,if_true,Rd.sto,Rd.sill,Rd.to_b,Rd.to_at])
  rw [show Z1L b=(.zero,(b.length:Int) - 4,72) by rw [Z1L,if_neg (by rw [hh]; decide),if_pos (by simpa using h2)]]
  refine Z0k.soft ?_
  simp only [push_cast,Ob.zero,Ob.c,List.map_nil,List.flatMap_nil,List.length_nil]
  exact Z06.keep0A
 have h2':¬Z6q b ((b.length:Int) - 4)≠Z4Y (b.take (b.length - 4)):=by simpa using h2
 have hlt:(b.take (b.length - 4)).length=b.length - 4:=by simp
 obtain⟨r0,hr0⟩:∃r0:Rd,r0=⟨b.take (b.length - 4),4,-1⟩:=⟨_,rfl⟩
 have hc:[AV.sl ((b.take (b.length - 4)).map Z03) (b.length - 4 - 0),AV.int .i64 4,AV.int .i64 (-1)]=r0.c:=by
  rw [hr0,Rd.c,hlt]; rfl
 have hro:r0.ok:=by rw [hr0]; exact hE h8
 have hbl:r0.b.length=b.length - 4:=by rw [hr0]; exact hlt
 obtain⟨o,rf,eF⟩:∃a b,Z2E r0=(a,b):=⟨_,_,rfl⟩
 have okf:rf.ok∧rf.b=r0.b:=by have:=Zfd hro; rwa [eF] at this
 obtain⟨n1,q1,en1⟩:∃a b,Z1m rf 200=(a,b):=⟨_,_,rfl⟩
 have okq1:q1.ok∧q1.b=rf.b:=by have:=Z0S okf.1 200; rwa [en1] at this
 have bn1:0≤n1∧n1<4294967296:=by have:=Z2r rf 200; rwa [en1] at this
 have ln1:n1≤200:=by have:=Z3q rf 200 (by omega); rwa [en1] at this
 ((first | with_reducible refine holds_of_ex X 400 _ _ _ ?_ | skip); simp (maxSteps:=1000000) only [push_cast,reduceCtorEq,Nat.reduceAdd,Nat.reduceMul,Nat.reduceSub,Nat.reduceBEq,Nat.reduceGT,Nat.reduceLT,Int.toNat_zero,Nat.reduceLeDiff,Int.reduceEq,Int.reduceLT,Int.reduceLE,hP,hΓ,hL,hfin,↓Z00,String.reduceEq,not_false_eq_true,if_true,Rd.sto,Rd.sill,Rd.to_b,Rd.to_at,h19,h20,hn,←List.map_take,hc,eF,oF,en1])
 refine⟨⟨by omega,by omega,by omega⟩,fun x hx _=>?_,hro,okf.1,?_⟩
 ·simp only [Rd.c,List.mem_cons,List.not_mem_nil,or_false] at hx
  rcases hx with rfl | rfl | rfl <;> rfl
 refine Holds.nilH 2 11 3 rfl rfl ?_
 simp only [List.set_cons_succ,List.set_cons_zero,List.cons_append,List.nil_append,List.length_cons,List.length_nil,Nat.zero_add,Nat.reduceAdd]
 refine Holds.loopM (ι:=Z0r Z0W n1.toNat q1) [false,false,true,true,true,true,false,false,true,true,true,false,false,false,false,true,true,true,false,false,false,false,false,false,false,false,false,false,false,false,false,false,false,false,false,false,false,false,false,false,false,false,false,false,false,false,false,false,false,false,false,false,false,false,false,false,false,false,false,false,false,false,false,false,false,false,false,false,false,false,false,false,false,false,false,false,false,false,false,false,false,false,false,false,false,false,false,false,false,false,false,false,false,false,false,false,false,false,false,false,false,false,false,false,false,false,false,false,false,false,false,false,false,false,false,false,false,false,false,false,false,false,false,false,false,false,false,false,false,false,false,false,false,false,false,false,false,false,false,false,false,false,false,false,false,false,false,false,false,false,false,false,false,false,false,false,false,false,false,false,false,false] (fun i=>[(11,.int .i64 i.l.length)]) (fun i=>[.row [.str [],.int .u32 0,.lit (.slice none 0 0),.lit (.slice none 0 0),.lit (.slice none 0 0),.lit (.slice none 0 0),.lit (.slice none 0 0),.int .i64 0,.lit (.slice none 0 0),.lit (.slice none 0 0),.lit (.slice none 0 0),.lit (.slice none 0 0),.lit (.slice none 0 0)] 13 0,.row i.r.c 3 0,.row [.str o.name,.int .u32 o.key,.sl (o.imps.flatMap Im.c) o.imps.length,.sl (o.code.map (.int .u32)) o.code.length,.sl (o.procs.map (.int .i64)) o.procs.length,.sl (o.names.map .str) o.names.length,.sl (o.exps.map .bool) o.exps.length,.int .i64 o.init,.sl (o.vars.map (.int .i64)) o.vars.length,.sl (o.shown.map (.int .i64)) o.shown.length,.sl (o.strs.map .str) o.strs.length,.msl 3 i.l.length 0 i.l.length,.lit (.slice none 0 0)] 13 0,.row (i.l.flatMap Ds.c) 3 i.l.length]) (fun i=>i.c) (Z0r.init _ _ _ okq1.1) ?_ ?_
 ·rw [hL]; simp only [push_cast,Int.natCast_zero,Z0r.init,List.map_nil,List.flatMap_nil,List.length_nil]
  exact Z06.sameA
 intro s1
 have hl1:=s1.len
 ((first | with_reducible refine holds_of_ex X 4 _ _ _ ?_ | skip); simp (maxSteps:=1000000) only [push_cast,reduceCtorEq,Nat.reduceAdd,Nat.reduceMul,Nat.reduceSub,Nat.reduceBEq,Nat.reduceGT,Nat.reduceLT,Int.toNat_zero,Nat.reduceLeDiff,Int.reduceEq,Int.reduceLT,Int.reduceLE,hP,hΓ,hL,hfin,↓Z00,String.reduceEq,not_false_eq_true,if_true,Rd.sto,Rd.sill,Rd.to_b,Rd.to_at])
 ((with_reducible refine Z02 (fun h=>?_) (fun h=>?_)) <;> (try simp only [decide_eq_true_eq,decide_eq_false_iff_not,Bool.and_eq_true,Bool.or_eq_true,Bool.and_eq_false_iff,Bool.or_eq_false_iff,Bool.not_eq_true',Bool.not_eq_false',Bool.not_eq_true,Bool.not_eq_false,Int.not_lt,Int.not_le,beq_iff_eq,beq_eq_false_iff_ne,ne_eq,win_t,win_f] at h))
 ·obtain⟨ta,ra,ea⟩:∃a b,Z1m s1.r 4294967295=(a,b):=⟨_,_,rfl⟩
  have oka:ra.ok:=by have:=(Z0S s1.ok 4294967295).1; rwa [ea] at this
  obtain⟨tb,rb,eb⟩:∃a b,Z1m ra 4294967295=(a,b):=⟨_,_,rfl⟩
  have okb:rb.ok:=by have:=(Z0S oka 4294967295).1; rwa [eb] at this
  obtain⟨m1,p1,em⟩:∃a b,Z1m rb 4=(a,b):=⟨_,_,rfl⟩
  have okp:p1.ok:=by have:=(Z0S okb 4).1; rwa [em] at this
  have bm:0≤m1∧m1<4294967296:=by have:=Z2r rb 4; rwa [em] at this
  have lm:m1≤4:=by have:=Z3q rb 4 (by omega); rwa [em] at this
  ((first | with_reducible refine holds_of_ex X 400 _ _ _ ?_ | skip); simp (maxSteps:=1000000) only [push_cast,reduceCtorEq,Nat.reduceAdd,Nat.reduceMul,Nat.reduceSub,Nat.reduceBEq,Nat.reduceGT,Nat.reduceLT,Int.toNat_zero,Nat.reduceLeDiff,Int.reduceEq,Int.reduceLT,Int.reduceLE,hP,hΓ,hL,hfin,↓Z00,String.reduceEq,not_false_eq_true,if_true,Rd.sto,Rd.sill,Rd.to_b,Rd.to_at,h20,ea,eb,em])
  refine⟨s1.ok,oka,okb,?_⟩
  refine Holds.nilH 4 2 1 rfl rfl ?_
  simp only [List.set_cons_succ,List.set_cons_zero,List.cons_append,List.nil_append,List.length_cons,List.length_nil,Nat.zero_add,Nat.reduceAdd]
  refine Holds.loopM (ι:=Z0r Z20 m1.toNat p1) [false,false,true,true,true,true,false,false,true,true,true,true,true,true,false,true,true,true,false,false,false,false,false,false,false,false,false,false,false,false,false,false,false,false,false,false,false,false,false,false,false,false,false,false,false,false,false,false,false,false,false,false,false,false,false,false,false,false,false,false,false,false,false,false,false,false,false,false,false,false,false,false,false,false,false,false,false,false,false,false,false,false,false,false,false,false,false,false,false,false,false,false,false,false,false,false,false,false,false,false,false,false,false,false,false,false,false,false,false,false,false,false,false,false,false,false,false,false,false,false,false,false,false,false,false,false,false,false,false,false,false,false,false,false,false,false,false,false,false,false,false,false,false,false,false,false,false,false,false,false,false,false,false,false,false,false,false,false,false,false,false,false] (fun i=>[(14,.int .i64 i.l.length),(11,.int .i64 s1.l.length),(12,.ref 4 0 0)]) (fun i=>[.row [.str [],.int .u32 0,.lit (.slice none 0 0),.lit (.slice none 0 0),.lit (.slice none 0 0),.lit (.slice none 0 0),.lit (.slice none 0 0),.int .i64 0,.lit (.slice none 0 0),.lit (.slice none 0 0),.lit (.slice none 0 0),.lit (.slice none 0 0),.lit (.slice none 0 0)] 13 0,.row i.r.c 3 0,.row [.str o.name,.int .u32 o.key,.sl (o.imps.flatMap Im.c) o.imps.length,.sl (o.code.map (.int .u32)) o.code.length,.sl (o.procs.map (.int .i64)) o.procs.length,.sl (o.names.map .str) o.names.length,.sl (o.exps.map .bool) o.exps.length,.int .i64 o.init,.sl (o.vars.map (.int .i64)) o.vars.length,.sl (o.shown.map (.int .i64)) o.shown.length,.sl (o.strs.map .str) o.strs.length,.msl 3 s1.l.length 0 s1.l.length,.lit (.slice none 0 0)] 13 0,.row (s1.l.flatMap Ds.c) 3 s1.l.length,.row [.int .i64 ta,.int .i64 tb,.msl 5 i.l.length 0 i.l.length] 3 0,.row (i.l.map (.int .i64)) 1 i.l.length]) (fun i=>i.c) (Z0r.init _ _ _ okp) ?_ ?_
  ·rw [hL]; simp only [push_cast,Int.natCast_zero,Z0r.init,List.map_nil,List.flatMap_nil,List.length_nil]
   exact Z06.sameA
  intro t1
  have hlt1:=t1.len
  ((first | with_reducible refine holds_of_ex X 4 _ _ _ ?_ | skip); simp (maxSteps:=1000000) only [push_cast,reduceCtorEq,Nat.reduceAdd,Nat.reduceMul,Nat.reduceSub,Nat.reduceBEq,Nat.reduceGT,Nat.reduceLT,Int.toNat_zero,Nat.reduceLeDiff,Int.reduceEq,Int.reduceLT,Int.reduceLE,hP,hΓ,hL,hfin,↓Z00,String.reduceEq,not_false_eq_true,if_true,Rd.sto,Rd.sill,Rd.to_b,Rd.to_at])
  ((with_reducible refine Z02 (fun h=>?_) (fun h=>?_)) <;> (try simp only [decide_eq_true_eq,decide_eq_false_iff_not,Bool.and_eq_true,Bool.or_eq_true,Bool.and_eq_false_iff,Bool.or_eq_false_iff,Bool.not_eq_true',Bool.not_eq_false',Bool.not_eq_true,Bool.not_eq_false,Int.not_lt,Int.not_le,beq_iff_eq,beq_eq_false_iff_ne,ne_eq,win_t,win_f] at h))
  ·((first | with_reducible refine holds_of_ex X 400 _ _ _ ?_ | skip); simp (maxSteps:=1000000) only [push_cast,reduceCtorEq,Nat.reduceAdd,Nat.reduceMul,Nat.reduceSub,Nat.reduceBEq,Nat.reduceGT,Nat.reduceLT,Int.toNat_zero,Nat.reduceLeDiff,Int.reduceEq,Int.reduceLT,Int.reduceLE,hP,hΓ,hL,hfin,↓Z00,String.reduceEq,not_false_eq_true,if_true,Rd.sto,Rd.sill,Rd.to_b,Rd.to_at])
   (refine Holds.drawnE (Z3c [.fix (.row [.str [],.int .u32 0,.lit (.slice none 0 0),.lit (.slice none 0 0),.lit (.slice none 0 0),.lit (.slice none 0 0),.lit (.slice none 0 0),.int .i64 0,.lit (.slice none 0 0),.lit (.slice none 0 0),.lit (.slice none 0 0),.lit (.slice none 0 0),.lit (.slice none 0 0)] 13 0),.row 3 0,.fix (.row [.str o.name,.int .u32 o.key,.sl (o.imps.flatMap Im.c) o.imps.length,.sl (o.code.map (.int .u32)) o.code.length,.sl (o.procs.map (.int .i64)) o.procs.length,.sl (o.names.map .str) o.names.length,.sl (o.exps.map .bool) o.exps.length,.int .i64 o.init,.sl (o.vars.map (.int .i64)) o.vars.length,.sl (o.shown.map (.int .i64)) o.shown.length,.sl (o.strs.map .str) o.strs.length,.msl 3 s1.l.length 0 s1.l.length,.lit (.slice none 0 0)] 13 0),.fix (.row (s1.l.flatMap Ds.c) 3 s1.l.length),.fix (.row [.int .i64 ta,.int .i64 tb,.msl 5 t1.l.length 0 t1.l.length] 3 0)]) [2,3,5,7] [] [] true (by rw [hP]; kernel_rfl) (by kernel_rfl) (by kernel_rfl) (by kernel_rfl) (by first | exact .inl rfl | exact .inr fun _ _ h=>Z0M _ _ h) (by first | (simp only [push_cast]; done) | (simp only [push_cast,and_true]; omega)) ?_; simp (maxSteps:=1000000) only [↓reduceIte,Option.getD_some,push_cast,reduceCtorEq,Nat.reduceAdd,Nat.reduceMul,Nat.reduceSub,Nat.reduceBEq,Nat.reduceGT,Nat.reduceLT,Int.toNat_zero,Nat.reduceLeDiff,Int.reduceEq,Int.reduceLT,Int.reduceLE,hP,hΓ,hL,hfin,↓Z00,String.reduceEq,not_false_eq_true,if_true,Rd.sto,Rd.sill,Rd.to_b,Rd.to_at,h20])
   refine⟨t1.ok,by omega,?_⟩
   ((first | with_reducible refine holds_of_ex X 400 _ _ _ ?_ | skip); simp (maxSteps:=1000000) only [push_cast,reduceCtorEq,Nat.reduceAdd,Nat.reduceMul,Nat.reduceSub,Nat.reduceBEq,Nat.reduceGT,Nat.reduceLT,Int.toNat_zero,Nat.reduceLeDiff,Int.reduceEq,Int.reduceLT,Int.reduceLE,hP,hΓ,hL,hfin,↓Z00,String.reduceEq,not_false_eq_true,if_true,Rd.sto,Rd.sill,Rd.to_b,Rd.to_at,Z0c ((t1.l.length:Int)+1) (by constructor <;> omega)])
   refine⟨t1.next (fun r hr=>(Z0S hr _).1) (by omega) h.2,by simp only [Z0r.next]; omega,?_⟩
   simp only [Z0r.next,List.map_append,List.map_cons,List.map_nil,List.flatMap_append,List.flatMap_cons,List.flatMap_nil,List.append_nil,List.length_append,List.length_cons,List.length_nil,Nat.zero_add,Int.natCast_add,Int.natCast_one]
   exact Z06.sameA
  (refine Holds.frz 5 (by rw [hL]; simp) (by simp only [Z15,Z28,Z27,or_true,true_or,push_cast,reduceCtorEq,Nat.reduceAdd,Nat.reduceMul,Nat.reduceSub,Nat.reduceBEq,Nat.reduceGT,Nat.reduceLT,Int.toNat_zero,Nat.reduceLeDiff,Int.reduceEq,Int.reduceLT,Int.reduceLE]) ?_; simp only [push_cast,reduceCtorEq,Nat.reduceAdd,Nat.reduceMul,Nat.reduceSub,Nat.reduceBEq,Nat.reduceGT,Nat.reduceLT,Int.toNat_zero,Nat.reduceLeDiff,Int.reduceEq,Int.reduceLT,Int.reduceLE])
  simp only [Z2b,Z3W,Z4J]
  have eT:=Z1O em t1 (by omega)
  obtain⟨tl,rt,ht⟩:∃a b,(t1.l=a∧t1.r=b):=⟨_,_,rfl,rfl⟩
  have okt:rt.ok:=by have:=t1.ok; rwa [ht.2] at this
  rw [ht.1,ht.2] at eT
  simp only [ht.1,ht.2]
  have eD:Z0W s1.r=(⟨ta,tb,tl⟩,rt):=by simp only [Z0W,Z20,ea,eb,eT]
  have hcell:∀l:List Ds,l.flatMap Ds.c++[AV.int .i64 ta,AV.int .i64 tb,AV.sl (tl.map (.int .i64)) tl.length]=(l++[(⟨ta,tb,tl⟩:Ds)]).flatMap Ds.c:=fun l=>by simp [Ds.c]
  ((first | with_reducible refine holds_of_ex X 400 _ _ _ ?_ | skip); simp (maxSteps:=1000000) only [push_cast,reduceCtorEq,Nat.reduceAdd,Nat.reduceMul,Nat.reduceSub,Nat.reduceBEq,Nat.reduceGT,Nat.reduceLT,Int.toNat_zero,Nat.reduceLeDiff,Int.reduceEq,Int.reduceLT,Int.reduceLE,hP,hΓ,hL,hfin,↓Z00,String.reduceEq,not_false_eq_true,if_true,Rd.sto,Rd.sill,Rd.to_b,Rd.to_at,hcell,Z0c ((s1.l.length:Int)+1) (by constructor <;> omega)])
  refine⟨by omega,s1.next (fun r hr=>(Z3Q hr).1) (by omega) (by omega),by simp only [Z0r.next]; omega,?_⟩
  simp only [Z0r.next,eD,List.length_append,List.length_cons,List.length_nil,Nat.zero_add,Int.natCast_add,Int.natCast_one]
  exact Z06.keep4A
 (refine Holds.frz 3 (by rw [hL]; simp) (by simp only [Z15,Z28,Z27,or_true,true_or,push_cast,reduceCtorEq,Nat.reduceAdd,Nat.reduceMul,Nat.reduceSub,Nat.reduceBEq,Nat.reduceGT,Nat.reduceLT,Int.toNat_zero,Nat.reduceLeDiff,Int.reduceEq,Int.reduceLT,Int.reduceLE]) ?_; simp only [push_cast,reduceCtorEq,Nat.reduceAdd,Nat.reduceMul,Nat.reduceSub,Nat.reduceBEq,Nat.reduceGT,Nat.reduceLT,Int.toNat_zero,Nat.reduceLeDiff,Int.reduceEq,Int.reduceLT,Int.reduceLE])
 simp only [Z2b,Z3W,Z4J]
 have eR1:=Z1O en1 s1 (by omega)
 obtain⟨l1,r1,hs1⟩:∃a b,(s1.l=a∧s1.r=b):=⟨_,_,rfl,rfl⟩
 have ok1:r1.ok:=by have:=s1.ok; rwa [hs1.2] at this
 have k1:r1.b=rf.b:=by have:=(Z0K (one:=Z0W) (fun r hr=>Z3Q hr) 200 okf.1).2; rw [eR1,hs1.2] at this; exact this
 rw [hs1.1,hs1.2] at eR1
 simp only [hs1.1,hs1.2]
 obtain⟨n2,q2,en2⟩:∃a b,Z1m r1 65536=(a,b):=⟨_,_,rfl⟩
 have okq2:q2.ok:=by have:=(Z0S ok1 65536).1; rwa [en2] at this
 have bn2:0≤n2∧n2<4294967296:=by have:=Z2r r1 65536; rwa [en2] at this
 have ln2:n2≤65536:=by have:=Z3q r1 65536 (by omega); rwa [en2] at this
 ((first | with_reducible refine holds_of_ex X 400 _ _ _ ?_ | skip); simp (maxSteps:=1000000) only [push_cast,reduceCtorEq,Nat.reduceAdd,Nat.reduceMul,Nat.reduceSub,Nat.reduceBEq,Nat.reduceGT,Nat.reduceLT,Int.toNat_zero,Nat.reduceLeDiff,Int.reduceEq,Int.reduceLT,Int.reduceLE,hP,hΓ,hL,hfin,↓Z00,String.reduceEq,not_false_eq_true,if_true,Rd.sto,Rd.sill,Rd.to_b,Rd.to_at,h20,en2])
 refine⟨ok1,?_⟩
 refine Holds.nilH 2 12 4 rfl rfl ?_
 simp only [List.set_cons_succ,List.set_cons_zero,List.cons_append,List.nil_append,List.length_cons,List.length_nil,Nat.zero_add,Nat.reduceAdd]
 refine Holds.loopM (ι:=Z0r Z3P n2.toNat q2) [false,false,true,true,true,true,false,false,true,true,true,false,false,false,false,false,false,true,false,false,false,false,false,false,false,false,false,false,false,false,false,false,false,false,false,false,false,false,false,false,false,false,false,false,false,false,false,false,false,false,false,false,false,false,false,false,false,false,false,false,false,false,false,false,false,false,false,false,false,false,false,false,false,false,false,false,false,false,false,false,false,false,false,false,false,false,false,false,false,false,false,false,false,false,false,false,false,false,false,false,false,false,false,false,false,false,false,false,false,false,false,false,false,false,false,false,false,false,false,false,false,false,false,false,false,false,false,false,false,false,false,false,false,false,false,false,false,false,false,false,false,false,false,false,false,false,false,false,false,false,false,false,false,false,false,false,false,false,false,false,false,false] (fun i=>[(15,.int .i64 i.l.length)]) (fun i=>[.row [.str [],.int .u32 0,.lit (.slice none 0 0),.lit (.slice none 0 0),.lit (.slice none 0 0),.lit (.slice none 0 0),.lit (.slice none 0 0),.int .i64 0,.lit (.slice none 0 0),.lit (.slice none 0 0),.lit (.slice none 0 0),.lit (.slice none 0 0),.lit (.slice none 0 0)] 13 0,.row i.r.c 3 0,.row [.str o.name,.int .u32 o.key,.sl (o.imps.flatMap Im.c) o.imps.length,.sl (o.code.map (.int .u32)) o.code.length,.sl (o.procs.map (.int .i64)) o.procs.length,.sl (o.names.map .str) o.names.length,.sl (o.exps.map .bool) o.exps.length,.int .i64 o.init,.sl (o.vars.map (.int .i64)) o.vars.length,.sl (o.shown.map (.int .i64)) o.shown.length,.sl (o.strs.map .str) o.strs.length,.sl (l1.flatMap Ds.c) l1.length,.msl 4 i.l.length 0 i.l.length] 13 0,.dead,.row (i.l.flatMap Fx.c) 4 i.l.length]) (fun i=>i.c) (Z0r.init _ _ _ okq2) ?_ ?_
 ·rw [hL]; simp only [push_cast,Int.natCast_zero,Z0r.init,List.map_nil,List.flatMap_nil,List.length_nil]
  exact Z06.sameA
 intro s2
 have hl2:=s2.len
 ((first | with_reducible refine holds_of_ex X 4 _ _ _ ?_ | skip); simp (maxSteps:=1000000) only [push_cast,reduceCtorEq,Nat.reduceAdd,Nat.reduceMul,Nat.reduceSub,Nat.reduceBEq,Nat.reduceGT,Nat.reduceLT,Int.toNat_zero,Nat.reduceLeDiff,Int.reduceEq,Int.reduceLT,Int.reduceLE,hP,hΓ,hL,hfin,↓Z00,String.reduceEq,not_false_eq_true,if_true,Rd.sto,Rd.sill,Rd.to_b,Rd.to_at])
 ((with_reducible refine Z02 (fun h=>?_) (fun h=>?_)) <;> (try simp only [decide_eq_true_eq,decide_eq_false_iff_not,Bool.and_eq_true,Bool.or_eq_true,Bool.and_eq_false_iff,Bool.or_eq_false_iff,Bool.not_eq_true',Bool.not_eq_false',Bool.not_eq_true,Bool.not_eq_false,Int.not_lt,Int.not_le,beq_iff_eq,beq_eq_false_iff_ne,ne_eq,win_t,win_f] at h))
 ·obtain⟨ta,ra,ea⟩:∃a b,Z1m s2.r 4294967295=(a,b):=⟨_,_,rfl⟩
  have oka:ra.ok:=by have:=(Z0S s2.ok 4294967295).1; rwa [ea] at this
  obtain⟨tb,rb,eb⟩:∃a b,Z1Y ra 255=(a,b):=⟨_,_,rfl⟩
  have okb:rb.ok:=by have:=(Z4E oka 255).1; rwa [eb] at this
  have bb:0≤tb∧tb<256:=by have:=Zgu ra 255; rwa [eb] at this
  obtain⟨tc,rc,ec⟩:∃a b,Z1m rb 16=(a,b):=⟨_,_,rfl⟩
  have okc:rc.ok:=by have:=(Z0S okb 16).1; rwa [ec] at this
  have bc:0≤tc∧tc<4294967296:=by have:=Z2r rb 16; rwa [ec] at this
  obtain⟨td,rd,ed⟩:∃a b,Z1m rc 4294967295=(a,b):=⟨_,_,rfl⟩
  have okd:rd.ok:=by have:=(Z0S okc 4294967295).1; rwa [ed] at this
  have eX:Z3P s2.r=(⟨ta,tb,tc - 1,td⟩,rd):=by simp only [Z3P,Z20,ea,eb,ec,ed]
  have hcell:∀l:List Fx,l.flatMap Fx.c++[AV.int .i64 ta,AV.int .i64 tb,AV.int .i64 (tc - 1),AV.int .i64 td]=(l++[(⟨ta,tb,tc - 1,td⟩:Fx)]).flatMap Fx.c:=fun l=>by simp [Fx.c]
  ((first | with_reducible refine holds_of_ex X 400 _ _ _ ?_ | skip); simp (maxSteps:=1000000) only [push_cast,reduceCtorEq,Nat.reduceAdd,Nat.reduceMul,Nat.reduceSub,Nat.reduceBEq,Nat.reduceGT,Nat.reduceLT,Int.toNat_zero,Nat.reduceLeDiff,Int.reduceEq,Int.reduceLT,Int.reduceLE,hP,hΓ,hL,hfin,↓Z00,String.reduceEq,not_false_eq_true,if_true,Rd.sto,Rd.sill,Rd.to_b,Rd.to_at,h20,h21,ea,eb,ec,ed,hcell,Z0c (tb) (by constructor <;> omega),Z0c (tc - 1) (by constructor <;> omega),Z0c ((s2.l.length:Int)+1) (by constructor <;> omega)])
  refine⟨s2.ok,oka,okb,okc,by omega,s2.next (fun r hr=>(Z8n hr).1) (by omega) h.2,by simp only [Z0r.next]; omega,?_⟩
  simp only [Z0r.next,eX,List.length_append,List.length_cons,List.length_nil,Nat.zero_add,Int.natCast_add,Int.natCast_one]
  exact Z06.keep5A
 (refine Holds.frz 4 (by rw [hL]; simp) (by simp only [Z15,Z28,Z27,or_true,true_or,push_cast,reduceCtorEq,Nat.reduceAdd,Nat.reduceMul,Nat.reduceSub,Nat.reduceBEq,Nat.reduceGT,Nat.reduceLT,Int.toNat_zero,Nat.reduceLeDiff,Int.reduceEq,Int.reduceLT,Int.reduceLE]) ?_; simp only [push_cast,reduceCtorEq,Nat.reduceAdd,Nat.reduceMul,Nat.reduceSub,Nat.reduceBEq,Nat.reduceGT,Nat.reduceLT,Int.toNat_zero,Nat.reduceLeDiff,Int.reduceEq,Int.reduceLT,Int.reduceLE])
 simp only [Z2b,Z3W,Z4J]
 have eR2:=Z1O en2 s2 (by omega)
 obtain⟨l2,r2,hs2⟩:∃a b,(s2.l=a∧s2.r=b):=⟨_,_,rfl,rfl⟩
 have k2:r2.ok∧r2.b=r1.b:=by have:=Z0K (one:=Z3P) (fun r hr=>Z8n hr) 65536 ok1; rw [eR2,hs2.2] at this; exact this
 rw [hs2.1,hs2.2] at eR2
 simp only [hs2.1,hs2.2]
 obtain⟨x,hx⟩:∃x:Ob,x={ o with descs:=l1,fixes:=l2 }:=⟨_,rfl⟩
 have hO:[.str o.name,.int .u32 o.key,.sl (o.imps.flatMap Im.c) o.imps.length,.sl (o.code.map (.int .u32)) o.code.length,.sl (o.procs.map (.int .i64)) o.procs.length,.sl (o.names.map .str) o.names.length,.sl (o.exps.map .bool) o.exps.length,.int .i64 o.init,.sl (o.vars.map (.int .i64)) o.vars.length,.sl (o.shown.map (.int .i64)) o.shown.length,.sl (o.strs.map .str) o.strs.length,.sl (l1.flatMap Ds.c) l1.length,.sl (l2.flatMap Fx.c) l2.length]=x.c:=by rw [hx]; rfl
 have eO:objM r0=(x,r2):=by rw [Zal,eF,eR1,hx]; simp only [eR2]
 have hex:Z9F b=(x,(tookM r2 r2.at_ (decide (r2.at_=(b.length:Int) - 4))).2):=by rw [Z9F,←hr0,eO]
 have hxo:x.ok∧x.u32s:=by have:=Z9A hro; rwa [eO] at this
 have hat:=k2.1.hi
 have hat0:=k2.1.lo
 rw [k2.2,k1,okf.2,hbl] at hat
 have fin:∀r3:Rd,Z9F b=(x,r3)→0≤r3.bad→Z1L b=(.zero,r3.bad,71):=fun r3 hex h3=>by rw [Z1L,if_neg (by rw [hh]; decide),if_neg h2',hex,if_pos h3]
 simp only [hO]
 ((first | with_reducible refine holds_of_ex X 400 _ _ _ ?_ | skip); simp (maxSteps:=1000000) only [push_cast,reduceCtorEq,Nat.reduceAdd,Nat.reduceMul,Nat.reduceSub,Nat.reduceBEq,Nat.reduceGT,Nat.reduceLT,Int.toNat_zero,Nat.reduceLeDiff,Int.reduceEq,Int.reduceLT,Int.reduceLE,hP,hΓ,hL,hfin,↓Z00,String.reduceEq,not_false_eq_true,if_true,Rd.sto,Rd.sill,Rd.to_b,Rd.to_at])
 refine Z02 (fun h3=>?_) (fun h3=>?_)
 ·have h3:r2.at_<(b.length:Int) - 4:=by simpa using h3
  have hw:(tookM r2 r2.at_ (decide (r2.at_=(b.length:Int) - 4))).2=wrong r2:=by
   rw [decide_eq_false (by omega)]
   by_cases hb0:0≤r2.bad
   ·simp [tookM,wrong,hb0,show ¬r2.bad<0 by omega]
   ·simp [tookM,wrong,hb0,show r2.bad<0 by omega]
  rw [hw] at hex
  have hbd:0≤(wrong r2).bad:=by
   unfold wrong
   split
   ·exact hat0
   ·omega
  have hd:=fin _ hex hbd
  ((first | with_reducible refine holds_of_ex X 400 _ _ _ ?_ | skip); simp (maxSteps:=1000000) only [push_cast,reduceCtorEq,Nat.reduceAdd,Nat.reduceMul,Nat.reduceSub,Nat.reduceBEq,Nat.reduceGT,Nat.reduceLT,Int.toNat_zero,Nat.reduceLeDiff,Int.reduceEq,Int.reduceLT,Int.reduceLE,hP,hΓ,hL,hfin,↓Z00,String.reduceEq,not_false_eq_true,if_true,Rd.sto,Rd.sill,Rd.to_b,Rd.to_at,h22])
  generalize wrong r2=r3 at *
  refine Z02 (fun h4=>?_) (fun h4=>?_)
  rotate_left
  ·exact absurd hbd (by simpa using h4)
  (refine Holds.drawnE (Z3c [.row 13 0,.fix (.row r3.c 3 0)]) [5] [] [] false (by rw [hP]; kernel_rfl) (by kernel_rfl) (by kernel_rfl) (by kernel_rfl) (by first | exact .inl rfl | exact .inr fun _ _ h=>Z0M _ _ h) (by first | (simp only [push_cast]; done) | (simp only [push_cast,and_true]; omega)) ?_; simp (maxSteps:=1000000) only [↓reduceIte,Option.getD_some,push_cast,reduceCtorEq,Nat.reduceAdd,Nat.reduceMul,Nat.reduceSub,Nat.reduceBEq,Nat.reduceGT,Nat.reduceLT,Int.toNat_zero,Nat.reduceLeDiff,Int.reduceEq,Int.reduceLT,Int.reduceLE,hP,hΓ,hL,hfin,↓Z00,String.reduceEq,not_false_eq_true,if_true,Rd.sto,Rd.sill,Rd.to_b,Rd.to_at,h22])
  ((first | with_reducible refine holds_of_ex X 400 _ _ _ ?_ | skip); simp (maxSteps:=1000000) only [push_cast,reduceCtorEq,Nat.reduceAdd,Nat.reduceMul,Nat.reduceSub,Nat.reduceBEq,Nat.reduceGT,Nat.reduceLT,Int.toNat_zero,Nat.reduceLeDiff,Int.reduceEq,Int.reduceLT,Int.reduceLE,hP,hΓ,hL,hfin,↓Z00,String.reduceEq,not_false_eq_true,if_true,Rd.sto,Rd.sill,Rd.to_b,Rd.to_at])
  rw [hd]
  refine Z0k.soft ?_
  simp only [push_cast,Ob.zero,Ob.c,List.map_nil,List.flatMap_nil,List.length_nil]
  exact Z06.keep0A
 ·have h3:¬r2.at_<(b.length:Int) - 4:=by simpa using h3
  have hw:(tookM r2 r2.at_ (decide (r2.at_=(b.length:Int) - 4))).2=r2:=by
   rw [decide_eq_true (by omega),tookM]
   by_cases hb0:0≤r2.bad
   ·rw [if_pos hb0]
   ·rw [if_neg hb0]; rfl
  rw [hw] at hex
  ((first | with_reducible refine holds_of_ex X 400 _ _ _ ?_ | skip); simp (maxSteps:=1000000) only [push_cast,reduceCtorEq,Nat.reduceAdd,Nat.reduceMul,Nat.reduceSub,Nat.reduceBEq,Nat.reduceGT,Nat.reduceLT,Int.toNat_zero,Nat.reduceLeDiff,Int.reduceEq,Int.reduceLT,Int.reduceLE,hP,hΓ,hL,hfin,↓Z00,String.reduceEq,not_false_eq_true,if_true,Rd.sto,Rd.sill,Rd.to_b,Rd.to_at])
  refine Z02 (fun h4=>?_) (fun h4=>?_)
  ·have hd:=fin _ hex (by simpa using h4)
   (refine Holds.drawnE (Z3c [.row 13 0,.fix (.row r2.c 3 0)]) [5] [] [] false (by rw [hP]; kernel_rfl) (by kernel_rfl) (by kernel_rfl) (by kernel_rfl) (by first | exact .inl rfl | exact .inr fun _ _ h=>Z0M _ _ h) (by first | (simp only [push_cast]; done) | (simp only [push_cast,and_true]; omega)) ?_; simp (maxSteps:=1000000) only [↓reduceIte,Option.getD_some,push_cast,reduceCtorEq,Nat.reduceAdd,Nat.reduceMul,Nat.reduceSub,Nat.reduceBEq,Nat.reduceGT,Nat.reduceLT,Int.toNat_zero,Nat.reduceLeDiff,Int.reduceEq,Int.reduceLT,Int.reduceLE,hP,hΓ,hL,hfin,↓Z00,String.reduceEq,not_false_eq_true,if_true,Rd.sto,Rd.sill,Rd.to_b,Rd.to_at,h22])
   ((first | with_reducible refine holds_of_ex X 400 _ _ _ ?_ | skip); simp (maxSteps:=1000000) only [push_cast,reduceCtorEq,Nat.reduceAdd,Nat.reduceMul,Nat.reduceSub,Nat.reduceBEq,Nat.reduceGT,Nat.reduceLT,Int.toNat_zero,Nat.reduceLeDiff,Int.reduceEq,Int.reduceLT,Int.reduceLE,hP,hΓ,hL,hfin,↓Z00,String.reduceEq,not_false_eq_true,if_true,Rd.sto,Rd.sill,Rd.to_b,Rd.to_at])
   rw [hd]
   refine Z0k.soft ?_
   simp only [push_cast,Ob.zero,Ob.c,List.map_nil,List.flatMap_nil,List.length_nil]
   exact Z06.keep0A
  have h4':¬0≤r2.bad:=by simpa using h4
  ((first | with_reducible refine holds_of_ex X 400 _ _ _ ?_ | skip); simp (maxSteps:=1000000) only [push_cast,reduceCtorEq,Nat.reduceAdd,Nat.reduceMul,Nat.reduceSub,Nat.reduceBEq,Nat.reduceGT,Nat.reduceLT,Int.toNat_zero,Nat.reduceLeDiff,Int.reduceEq,Int.reduceLT,Int.reduceLE,hP,hΓ,hL,hfin,↓Z00,String.reduceEq,not_false_eq_true,if_true,Rd.sto,Rd.sill,Rd.to_b,Rd.to_at,h23])
  refine⟨hxo,?_⟩
  refine Z02 (fun h5=>?_) (fun h5=>?_)
  ·have hd:Z1L b=(.zero,0,70):=by rw [Z1L,if_neg (by rw [hh]; decide),if_neg h2',hex,if_neg h4',if_pos (by simpa using h5)]
   ((first | with_reducible refine holds_of_ex X 400 _ _ _ ?_ | skip); simp (maxSteps:=1000000) only [push_cast,reduceCtorEq,Nat.reduceAdd,Nat.reduceMul,Nat.reduceSub,Nat.reduceBEq,Nat.reduceGT,Nat.reduceLT,Int.toNat_zero,Nat.reduceLeDiff,Int.reduceEq,Int.reduceLT,Int.reduceLE,hP,hΓ,hL,hfin,↓Z00,String.reduceEq,not_false_eq_true,if_true,Rd.sto,Rd.sill,Rd.to_b,Rd.to_at])
   rw [hd]
   refine Z0k.soft ?_
   simp only [push_cast,Ob.zero,Ob.c,List.map_nil,List.flatMap_nil,List.length_nil]
   exact Z06.keep0A
  have hd:Z1L b=(x,0,0):=by rw [Z1L,if_neg (by rw [hh]; decide),if_neg h2',hex,if_neg h4',if_neg (by simpa using h5)]
  ((first | with_reducible refine holds_of_ex X 400 _ _ _ ?_ | skip); simp (maxSteps:=1000000) only [push_cast,reduceCtorEq,Nat.reduceAdd,Nat.reduceMul,Nat.reduceSub,Nat.reduceBEq,Nat.reduceGT,Nat.reduceLT,Int.toNat_zero,Nat.reduceLeDiff,Int.reduceEq,Int.reduceLT,Int.reduceLE,hP,hΓ,hL,hfin,↓Z00,String.reduceEq,not_false_eq_true,if_true,Rd.sto,Rd.sill,Rd.to_b,Rd.to_at])
  rw [hd]
  exact Z06.keep0A
theorem con7{Γ:Env}(h:Z07 Tryz.prog Γ)(h17:Γ 17=some S17)(h18:Γ 18=some objDone.S73)(h19:Γ 19=some S19)(h20:Γ 20=some S20)(h21:Γ 21=some S21)(h22:Γ 22=some S22)(h23:Γ 23=some S23):Con Tryz.prog 7 S7:=
 Z0t h (fn:=Tryz.f7) (by kernel_rfl) rfl (by kernel_rfl) inj7 (by first | (intro h; cases h; done) | exact fun _ _=>rfl) fun ⟨b,n⟩ h=>by obtain⟨rfl,h⟩:=h; exact body7 Γ h17 h18 h19 h20 h21 h22 h23 b h
end Go.Proofs.YtmomhjmaanagaaaGreat.objRef
end
