/- Parts of the walk through objects. Conditions stand in each. -/
import Derived.Test.YtmomhjmaanagaaaGreatMb
set_option linter.unusedVariables false
set_option linter.unusedSimpArgs false
set_option maxRecDepth 100000
set_option maxHeartbeats 4000000
set_option maxHeartbeats 8000000
section
namespace Go.Proofs.YtmomhjmaanagaaaGreat.objOwn
open Go Go.Eng Go.Proofs
open Go.Proofs.YtmomhjmaanagaaaGreat.objDone
def e77:(Rd)→List AV×Heap:=fun r=>([.ref 0 0 0,.int .u32 16,.fn (.func 33) [] [.ref 1 0 0]],[.row r.c 3 0,.row [.ref 0 0 0] 1 0])
def p77:(Rd)→Prop:=fun r=>r.ok
def r77:(Rd)→AV:=fun r=>.msl 2 0 0 (Z0b Z0y 16 r).1.length
def g77:(Rd)→Heap:=fun r=>[.row (Z0b Z0y 16 r).2.c 3 0,.row [.ref 0 0 0] 1 0,.row ((Z0b Z0y 16 r).1.flatMap Im.c) 2 0]
theorem inj77:∀a b,e77 a=e77 b→a=b:=by
 rintro r r' h
 simp only [e77,Z0f,Z0h,Z0i,Z0g,Z0V,Z0u,Prod.mk.injEq,List.cons.injEq,Z0L.row.injEq,AV.int.injEq,AV.str.injEq,AV.bool.injEq,AV.sl.injEq,AV.agg.injEq,AV.ip.injEq,AV.fn.injEq,AV.ifc.injEq,AV.mpr.injEq,AV.msl.injEq,AV.ref.injEq,Int.natCast_inj,and_true,true_and] at h
 simp_all only
noncomputable def S77:Z0n:=Z1I false e77 p77 r77 g77
theorem Zkb(r:(Rd)):Z1p e77 p77 ([.ref 0 0 0,.int .u32 16,.fn (.func 33) [] [.ref 1 0 0]],[.row r.c 3 0,.row [.ref 0 0 0] 1 0])=(r.ok):=Z0x inj77 p77 r
theorem ZjQ(r:(Rd)):Z0A e77 r77 .any ([.ref 0 0 0,.int .u32 16,.fn (.func 33) [] [.ref 1 0 0]],[.row r.c 3 0,.row [.ref 0 0 0] 1 0])=(.msl 2 0 0 (Z0b Z0y 16 r).1.length):=Z09 inj77 r77 .any r
theorem ZkO(r:(Rd)):Z0A e77 g77 [] ([.ref 0 0 0,.int .u32 16,.fn (.func 33) [] [.ref 1 0 0]],[.row r.c 3 0,.row [.ref 0 0 0] 1 0])=([.row (Z0b Z0y 16 r).2.c 3 0,.row [.ref 0 0 0] 1 0,.row ((Z0b Z0y 16 r).1.flatMap Im.c) 2 0]):=Z09 inj77 g77 [] r
attribute [push_cast] S77 Zkb ZjQ ZkO
theorem body77(Γ:Env)(h78:Γ 33=some S78)(h90:Γ 45=some S90)(r:Rd)(hr:r.ok):Z0a Tryz.prog Γ Tryz.f32 [.ref 0 0 0,.int .u32 16,.fn (.func 33) [] [.ref 1 0 0]] [.row r.c 3 0,.row [.ref 0 0 0] 1 0] (.msl 2 0 0 (Z0b Z0y 16 r).1.length) [.row (Z0b Z0y 16 r).2.c 3 0,.row [.ref 0 0 0] 1 0,.row ((Z0b Z0y 16 r).1.flatMap Im.c) 2 0]:=by
 have h1:=Z0S hr 16
 have b1:=Z2r r 16
 (intro X hP hΓ hL hfin; refine⟨_,rfl,?_⟩; rw [show Tryz.f32.ntmps=29 from rfl]; rw [show Tryz.f32.results.toList=[.tmp 6] from rfl] at hfin; apply holds_of_ex X 400; simp (maxSteps:=1000000) only [push_cast,reduceCtorEq,Nat.reduceAdd,Nat.reduceMul,Nat.reduceSub,Nat.reduceBEq,Nat.reduceGT,Nat.reduceLT,Int.toNat_zero,Nat.reduceLeDiff,Int.reduceEq,Int.reduceLT,Int.reduceLE,hP,hΓ,hL,hfin,↓Z00,String.reduceEq,not_false_eq_true,if_true,h90])
 refine⟨hr,?_⟩
 refine Holds.loopM (ι:=Z0r Z0y (Z1m r 16).1.toNat (Z1m r 16).2) [true,false,true,false,false,false,true,false,false,false,false,false,false,false,false,false,false,false,false,false,false,false,false,false,false,false,false,false,false] (fun i=>[(7,.msl 2 i.l.length 0 i.l.length),(8,.int .i64 i.c)]) (fun i=>[.row i.r.c 3 0,.row [.ref 0 0 0] 1 0,.row (i.l.flatMap Im.c) 2 i.l.length]) (fun i=>i.c) (Z0r.init _ _ _ h1.1) ?_ ?_
 ·rw [hL]; simp only [push_cast,Int.natCast_zero]
  (refine Z0k.nil 7  2 rfl ?_; simp only [push_cast,reduceCtorEq,Nat.reduceAdd,Nat.reduceMul,Nat.reduceSub,Nat.reduceBEq,Nat.reduceGT,Nat.reduceLT,Int.toNat_zero,Nat.reduceLeDiff,Int.reduceEq,Int.reduceLT,Int.reduceLE])
  simp only [Z0r.init,List.map_nil,List.flatMap_nil,List.length_nil,Int.toNat_of_nonneg b1.1]
  exact Z06.sameA
 intro s
 have hl:=s.len
 ((first | with_reducible refine holds_of_ex X 400 _ _ _ ?_ | skip); simp (maxSteps:=1000000) only [push_cast,reduceCtorEq,Nat.reduceAdd,Nat.reduceMul,Nat.reduceSub,Nat.reduceBEq,Nat.reduceGT,Nat.reduceLT,Int.toNat_zero,Nat.reduceLeDiff,Int.reduceEq,Int.reduceLT,Int.reduceLE,hP,hΓ,hL,hfin,↓Z00,String.reduceEq,not_false_eq_true,if_true])
 ((with_reducible refine Z02 (fun h=>?_) (fun h=>?_)) <;> (try simp only [decide_eq_true_eq,decide_eq_false_iff_not,Bool.and_eq_true,Bool.or_eq_true,Bool.and_eq_false_iff,Bool.or_eq_false_iff,Bool.not_eq_true',Bool.not_eq_false',Bool.not_eq_true,Bool.not_eq_false,Int.not_lt,Int.not_le,beq_iff_eq,beq_eq_false_iff_ne,ne_eq,win_t,win_f] at h))
 ·((first | with_reducible refine holds_of_ex X 400 _ _ _ ?_ | skip); simp (maxSteps:=1000000) only [push_cast,reduceCtorEq,Nat.reduceAdd,Nat.reduceMul,Nat.reduceSub,Nat.reduceBEq,Nat.reduceGT,Nat.reduceLT,Int.toNat_zero,Nat.reduceLeDiff,Int.reduceEq,Int.reduceLT,Int.reduceLE,hP,hΓ,hL,hfin,↓Z00,String.reduceEq,not_false_eq_true,if_true,h78,Z0c ((s.c:Int) - 1) (by constructor <;> omega)])
  refine⟨s.ok,by omega,s.next (fun r hr=>(Z1X hr).1) (by omega) h.2,by simp only [Z0r.next]; omega,?_⟩
  simp only [Z0r.next,List.map_append,List.map_cons,List.map_nil,List.flatMap_append,List.flatMap_cons,List.flatMap_nil,List.append_nil,List.length_append,List.length_cons,List.length_nil,Nat.zero_add,show ((s.c - 1:Nat):Int)=(s.c:Int) - 1 by omega]
  exact Z06.sameA
 ·((first | with_reducible refine holds_of_ex X 400 _ _ _ ?_ | skip); simp (maxSteps:=1000000) only [push_cast,reduceCtorEq,Nat.reduceAdd,Nat.reduceMul,Nat.reduceSub,Nat.reduceBEq,Nat.reduceGT,Nat.reduceLT,Int.toNat_zero,Nat.reduceLeDiff,Int.reduceEq,Int.reduceLT,Int.reduceLE,hP,hΓ,hL,hfin,↓Z00,String.reduceEq,not_false_eq_true,if_true])
  rw [show (Z0b Z0y 16 r)=(s.l,s.r) from s.done (by omega)]
  (refine Z0k.ver 2  0 (by simp only [push_cast,reduceCtorEq,Nat.reduceAdd,Nat.reduceMul,Nat.reduceSub,Nat.reduceBEq,Nat.reduceGT,Nat.reduceLT,Int.toNat_zero,Nat.reduceLeDiff,Int.reduceEq,Int.reduceLT,Int.reduceLE]) (by first | exact .inr (Nat.zero_le _) | (left; simp only [push_cast,reduceCtorEq,Nat.reduceAdd,Nat.reduceMul,Nat.reduceSub,Nat.reduceBEq,Nat.reduceGT,Nat.reduceLT,Int.toNat_zero,Nat.reduceLeDiff,Int.reduceEq,Int.reduceLT,Int.reduceLE]; first | done | omega) | (right; simp only [push_cast,reduceCtorEq,Nat.reduceAdd,Nat.reduceMul,Nat.reduceSub,Nat.reduceBEq,Nat.reduceGT,Nat.reduceLT,Int.toNat_zero,Nat.reduceLeDiff,Int.reduceEq,Int.reduceLT,Int.reduceLE]; first | done | omega)) ?_; simp only [push_cast,reduceCtorEq,Nat.reduceAdd,Nat.reduceMul,Nat.reduceSub,Nat.reduceBEq,Nat.reduceGT,Nat.reduceLT,Int.toNat_zero,Nat.reduceLeDiff,Int.reduceEq,Int.reduceLT,Int.reduceLE])
  exact Z06.sameA
theorem con77{Γ:Env}(h:Z07 Tryz.prog Γ)(h78:Γ 33=some S78)(h90:Γ 45=some S90):Con Tryz.prog 32 S77:=
 Z0v h (fn:=Tryz.f32) (by kernel_rfl) rfl (by kernel_rfl) inj77 fun r h=>body77 Γ h78 h90 r h
def e79:(Rd)→List AV×Heap:=fun r=>([.ref 0 0 0,.int .u32 65536,.fn (.func 31) [.ref 0 0 0] []],[.row r.c 3 0])
def p79:(Rd)→Prop:=fun r=>r.ok
def r79:(Rd)→AV:=fun r=>.msl 1 0 0 (Z0b Z0T 65536 r).1.length
def g79:(Rd)→Heap:=fun r=>[.row (Z0b Z0T 65536 r).2.c 3 0,.row ((Z0b Z0T 65536 r).1.map (.int .u32)) 1 0]
theorem inj79:∀a b,e79 a=e79 b→a=b:=by
 rintro r r' h
 simp only [e79,Z0f,Z0h,Z0i,Z0g,Z0V,Z0u,Prod.mk.injEq,List.cons.injEq,Z0L.row.injEq,AV.int.injEq,AV.str.injEq,AV.bool.injEq,AV.sl.injEq,AV.agg.injEq,AV.ip.injEq,AV.fn.injEq,AV.ifc.injEq,AV.mpr.injEq,AV.msl.injEq,AV.ref.injEq,Int.natCast_inj,and_true,true_and] at h
 simp_all only
noncomputable def S79:Z0n:=Z1I false e79 p79 r79 g79
theorem Zka(r:(Rd)):Z1p e79 p79 ([.ref 0 0 0,.int .u32 65536,.fn (.func 31) [.ref 0 0 0] []],[.row r.c 3 0])=(r.ok):=Z0x inj79 p79 r
theorem ZjP(r:(Rd)):Z0A e79 r79 .any ([.ref 0 0 0,.int .u32 65536,.fn (.func 31) [.ref 0 0 0] []],[.row r.c 3 0])=(.msl 1 0 0 (Z0b Z0T 65536 r).1.length):=Z09 inj79 r79 .any r
theorem ZkN(r:(Rd)):Z0A e79 g79 [] ([.ref 0 0 0,.int .u32 65536,.fn (.func 31) [.ref 0 0 0] []],[.row r.c 3 0])=([.row (Z0b Z0T 65536 r).2.c 3 0,.row ((Z0b Z0T 65536 r).1.map (.int .u32)) 1 0]):=Z09 inj79 g79 [] r
attribute [push_cast] S79 Zka ZjP ZkN
theorem body79(Γ:Env)(h76:Γ 31=some S76)(h90:Γ 45=some S90)(r:Rd)(hr:r.ok):Z0a Tryz.prog Γ Tryz.f34 [.ref 0 0 0,.int .u32 65536,.fn (.func 31) [.ref 0 0 0] []] [.row r.c 3 0] (.msl 1 0 0 (Z0b Z0T 65536 r).1.length) [.row (Z0b Z0T 65536 r).2.c 3 0,.row ((Z0b Z0T 65536 r).1.map (.int .u32)) 1 0]:=by
 have h1:=Z0S hr 65536
 have b1:=Z2r r 65536
 (intro X hP hΓ hL hfin; refine⟨_,rfl,?_⟩; rw [show Tryz.f34.ntmps=29 from rfl]; rw [show Tryz.f34.results.toList=[.tmp 6] from rfl] at hfin; apply holds_of_ex X 400; simp (maxSteps:=1000000) only [push_cast,reduceCtorEq,Nat.reduceAdd,Nat.reduceMul,Nat.reduceSub,Nat.reduceBEq,Nat.reduceGT,Nat.reduceLT,Int.toNat_zero,Nat.reduceLeDiff,Int.reduceEq,Int.reduceLT,Int.reduceLE,hP,hΓ,hL,hfin,↓Z00,String.reduceEq,not_false_eq_true,if_true,h90])
 refine⟨hr,?_⟩
 refine Holds.loopM (ι:=Z0r Z0T (Z1m r 65536).1.toNat (Z1m r 65536).2) [true,false,true,false,false,false,true,false,false,false,false,false,false,false,false,false,false,false,false,false,false,false,false,false,false,false,false,false,false] (fun i=>[(7,.msl 1 i.l.length 0 i.l.length),(8,.int .i64 i.c)]) (fun i=>[.row i.r.c 3 0,.row (i.l.map (.int .u32)) 1 i.l.length]) (fun i=>i.c) (Z0r.init _ _ _ h1.1) ?_ ?_
 ·rw [hL]; simp only [push_cast,Int.natCast_zero]
  (refine Z0k.nil 7  1 rfl ?_; simp only [push_cast,reduceCtorEq,Nat.reduceAdd,Nat.reduceMul,Nat.reduceSub,Nat.reduceBEq,Nat.reduceGT,Nat.reduceLT,Int.toNat_zero,Nat.reduceLeDiff,Int.reduceEq,Int.reduceLT,Int.reduceLE])
  simp only [Z0r.init,List.map_nil,List.flatMap_nil,List.length_nil,Int.toNat_of_nonneg b1.1]
  exact Z06.sameA
 intro s
 have hl:=s.len
 ((first | with_reducible refine holds_of_ex X 400 _ _ _ ?_ | skip); simp (maxSteps:=1000000) only [push_cast,reduceCtorEq,Nat.reduceAdd,Nat.reduceMul,Nat.reduceSub,Nat.reduceBEq,Nat.reduceGT,Nat.reduceLT,Int.toNat_zero,Nat.reduceLeDiff,Int.reduceEq,Int.reduceLT,Int.reduceLE,hP,hΓ,hL,hfin,↓Z00,String.reduceEq,not_false_eq_true,if_true])
 ((with_reducible refine Z02 (fun h=>?_) (fun h=>?_)) <;> (try simp only [decide_eq_true_eq,decide_eq_false_iff_not,Bool.and_eq_true,Bool.or_eq_true,Bool.and_eq_false_iff,Bool.or_eq_false_iff,Bool.not_eq_true',Bool.not_eq_false',Bool.not_eq_true,Bool.not_eq_false,Int.not_lt,Int.not_le,beq_iff_eq,beq_eq_false_iff_ne,ne_eq,win_t,win_f] at h))
 ·((first | with_reducible refine holds_of_ex X 400 _ _ _ ?_ | skip); simp (maxSteps:=1000000) only [push_cast,reduceCtorEq,Nat.reduceAdd,Nat.reduceMul,Nat.reduceSub,Nat.reduceBEq,Nat.reduceGT,Nat.reduceLT,Int.toNat_zero,Nat.reduceLeDiff,Int.reduceEq,Int.reduceLT,Int.reduceLE,hP,hΓ,hL,hfin,↓Z00,String.reduceEq,not_false_eq_true,if_true,h76,Z0c ((s.c:Int) - 1) (by constructor <;> omega)])
  refine⟨s.ok,by omega,s.next (fun r hr=>(Z1Q hr).1) (by omega) h.2,by simp only [Z0r.next]; omega,?_⟩
  simp only [Z0r.next,List.map_append,List.map_cons,List.map_nil,List.flatMap_append,List.flatMap_cons,List.flatMap_nil,List.append_nil,List.length_append,List.length_cons,List.length_nil,Nat.zero_add,show ((s.c - 1:Nat):Int)=(s.c:Int) - 1 by omega]
  exact Z06.sameA
 ·((first | with_reducible refine holds_of_ex X 400 _ _ _ ?_ | skip); simp (maxSteps:=1000000) only [push_cast,reduceCtorEq,Nat.reduceAdd,Nat.reduceMul,Nat.reduceSub,Nat.reduceBEq,Nat.reduceGT,Nat.reduceLT,Int.toNat_zero,Nat.reduceLeDiff,Int.reduceEq,Int.reduceLT,Int.reduceLE,hP,hΓ,hL,hfin,↓Z00,String.reduceEq,not_false_eq_true,if_true])
  rw [show (Z0b Z0T 65536 r)=(s.l,s.r) from s.done (by omega)]
  (refine Z0k.ver 1  0 (by simp only [push_cast,reduceCtorEq,Nat.reduceAdd,Nat.reduceMul,Nat.reduceSub,Nat.reduceBEq,Nat.reduceGT,Nat.reduceLT,Int.toNat_zero,Nat.reduceLeDiff,Int.reduceEq,Int.reduceLT,Int.reduceLE]) (by first | exact .inr (Nat.zero_le _) | (left; simp only [push_cast,reduceCtorEq,Nat.reduceAdd,Nat.reduceMul,Nat.reduceSub,Nat.reduceBEq,Nat.reduceGT,Nat.reduceLT,Int.toNat_zero,Nat.reduceLeDiff,Int.reduceEq,Int.reduceLT,Int.reduceLE]; first | done | omega) | (right; simp only [push_cast,reduceCtorEq,Nat.reduceAdd,Nat.reduceMul,Nat.reduceSub,Nat.reduceBEq,Nat.reduceGT,Nat.reduceLT,Int.toNat_zero,Nat.reduceLeDiff,Int.reduceEq,Int.reduceLT,Int.reduceLE]; first | done | omega)) ?_; simp only [push_cast,reduceCtorEq,Nat.reduceAdd,Nat.reduceMul,Nat.reduceSub,Nat.reduceBEq,Nat.reduceGT,Nat.reduceLT,Int.toNat_zero,Nat.reduceLeDiff,Int.reduceEq,Int.reduceLT,Int.reduceLE])
  exact Z06.sameA
theorem con79{Γ:Env}(h:Z07 Tryz.prog Γ)(h76:Γ 31=some S76)(h90:Γ 45=some S90):Con Tryz.prog 34 S79:=
 Z0v h (fn:=Tryz.f34) (by kernel_rfl) rfl (by kernel_rfl) inj79 fun r h=>body79 Γ h76 h90 r h
def e84:(Rd)→List AV×Heap:=fun r=>([.ref 0 0 0,.int .u32 200,.fn (.func 40) [] [.ref 1 0 0]],[.row r.c 3 0,.row [.ref 0 0 0] 1 0])
def p84:(Rd)→Prop:=fun r=>r.ok
def r84:(Rd)→AV:=fun r=>.msl 2 0 0 (Z0b (fun r=>Z0R r 200) 200 r).1.length
def g84:(Rd)→Heap:=fun r=>[.row (Z0b (fun r=>Z0R r 200) 200 r).2.c 3 0,.row [.ref 0 0 0] 1 0,.row ((Z0b (fun r=>Z0R r 200) 200 r).1.map .str) 1 0]
theorem inj84:∀a b,e84 a=e84 b→a=b:=by
 rintro r r' h
 simp only [e84,Z0f,Z0h,Z0i,Z0g,Z0V,Z0u,Prod.mk.injEq,List.cons.injEq,Z0L.row.injEq,AV.int.injEq,AV.str.injEq,AV.bool.injEq,AV.sl.injEq,AV.agg.injEq,AV.ip.injEq,AV.fn.injEq,AV.ifc.injEq,AV.mpr.injEq,AV.msl.injEq,AV.ref.injEq,Int.natCast_inj,and_true,true_and] at h
 simp_all only
noncomputable def S84:Z0n:=Z1I false e84 p84 r84 g84
theorem Zk8(r:(Rd)):Z1p e84 p84 ([.ref 0 0 0,.int .u32 200,.fn (.func 40) [] [.ref 1 0 0]],[.row r.c 3 0,.row [.ref 0 0 0] 1 0])=(r.ok):=Z0x inj84 p84 r
theorem ZjN(r:(Rd)):Z0A e84 r84 .any ([.ref 0 0 0,.int .u32 200,.fn (.func 40) [] [.ref 1 0 0]],[.row r.c 3 0,.row [.ref 0 0 0] 1 0])=(.msl 2 0 0 (Z0b (fun r=>Z0R r 200) 200 r).1.length):=Z09 inj84 r84 .any r
theorem ZkL(r:(Rd)):Z0A e84 g84 [] ([.ref 0 0 0,.int .u32 200,.fn (.func 40) [] [.ref 1 0 0]],[.row r.c 3 0,.row [.ref 0 0 0] 1 0])=([.row (Z0b (fun r=>Z0R r 200) 200 r).2.c 3 0,.row [.ref 0 0 0] 1 0,.row ((Z0b (fun r=>Z0R r 200) 200 r).1.map .str) 1 0]):=Z09 inj84 g84 [] r
attribute [push_cast] S84 Zk8 ZjN ZkL
theorem body84(Γ:Env)(h85:Γ 40=some S85)(h90:Γ 45=some S90)(r:Rd)(hr:r.ok):Z0a Tryz.prog Γ Tryz.f39 [.ref 0 0 0,.int .u32 200,.fn (.func 40) [] [.ref 1 0 0]] [.row r.c 3 0,.row [.ref 0 0 0] 1 0] (.msl 2 0 0 (Z0b (fun r=>Z0R r 200) 200 r).1.length) [.row (Z0b (fun r=>Z0R r 200) 200 r).2.c 3 0,.row [.ref 0 0 0] 1 0,.row ((Z0b (fun r=>Z0R r 200) 200 r).1.map .str) 1 0]:=by
 have h1:=Z0S hr 200
 have b1:=Z2r r 200
 (intro X hP hΓ hL hfin; refine⟨_,rfl,?_⟩; rw [show Tryz.f39.ntmps=29 from rfl]; rw [show Tryz.f39.results.toList=[.tmp 6] from rfl] at hfin; apply holds_of_ex X 400; simp (maxSteps:=1000000) only [push_cast,reduceCtorEq,Nat.reduceAdd,Nat.reduceMul,Nat.reduceSub,Nat.reduceBEq,Nat.reduceGT,Nat.reduceLT,Int.toNat_zero,Nat.reduceLeDiff,Int.reduceEq,Int.reduceLT,Int.reduceLE,hP,hΓ,hL,hfin,↓Z00,String.reduceEq,not_false_eq_true,if_true,h90])
 refine⟨hr,?_⟩
 refine Holds.loopM (ι:=Z0r (fun r=>Z0R r 200) (Z1m r 200).1.toNat (Z1m r 200).2) [true,false,true,false,false,false,true,false,false,false,false,false,false,false,false,false,false,false,false,false,false,false,false,false,false,false,false,false,false] (fun i=>[(7,.msl 2 i.l.length 0 i.l.length),(8,.int .i64 i.c)]) (fun i=>[.row i.r.c 3 0,.row [.ref 0 0 0] 1 0,.row (i.l.map .str) 1 i.l.length]) (fun i=>i.c) (Z0r.init _ _ _ h1.1) ?_ ?_
 ·rw [hL]; simp only [push_cast,Int.natCast_zero]
  (refine Z0k.nil 7  1 rfl ?_; simp only [push_cast,reduceCtorEq,Nat.reduceAdd,Nat.reduceMul,Nat.reduceSub,Nat.reduceBEq,Nat.reduceGT,Nat.reduceLT,Int.toNat_zero,Nat.reduceLeDiff,Int.reduceEq,Int.reduceLT,Int.reduceLE])
  simp only [Z0r.init,List.map_nil,List.flatMap_nil,List.length_nil,Int.toNat_of_nonneg b1.1]
  exact Z06.sameA
 intro s
 have hl:=s.len
 ((first | with_reducible refine holds_of_ex X 400 _ _ _ ?_ | skip); simp (maxSteps:=1000000) only [push_cast,reduceCtorEq,Nat.reduceAdd,Nat.reduceMul,Nat.reduceSub,Nat.reduceBEq,Nat.reduceGT,Nat.reduceLT,Int.toNat_zero,Nat.reduceLeDiff,Int.reduceEq,Int.reduceLT,Int.reduceLE,hP,hΓ,hL,hfin,↓Z00,String.reduceEq,not_false_eq_true,if_true])
 ((with_reducible refine Z02 (fun h=>?_) (fun h=>?_)) <;> (try simp only [decide_eq_true_eq,decide_eq_false_iff_not,Bool.and_eq_true,Bool.or_eq_true,Bool.and_eq_false_iff,Bool.or_eq_false_iff,Bool.not_eq_true',Bool.not_eq_false',Bool.not_eq_true,Bool.not_eq_false,Int.not_lt,Int.not_le,beq_iff_eq,beq_eq_false_iff_ne,ne_eq,win_t,win_f] at h))
 ·((first | with_reducible refine holds_of_ex X 400 _ _ _ ?_ | skip); simp (maxSteps:=1000000) only [push_cast,reduceCtorEq,Nat.reduceAdd,Nat.reduceMul,Nat.reduceSub,Nat.reduceBEq,Nat.reduceGT,Nat.reduceLT,Int.toNat_zero,Nat.reduceLeDiff,Int.reduceEq,Int.reduceLT,Int.reduceLE,hP,hΓ,hL,hfin,↓Z00,String.reduceEq,not_false_eq_true,if_true,h85,Z0c ((s.c:Int) - 1) (by constructor <;> omega)])
  refine⟨s.ok,by omega,s.next (fun r hr=>(Z1i hr 200).1) (by omega) h.2,by simp only [Z0r.next]; omega,?_⟩
  simp only [Z0r.next,List.map_append,List.map_cons,List.map_nil,List.flatMap_append,List.flatMap_cons,List.flatMap_nil,List.append_nil,List.length_append,List.length_cons,List.length_nil,Nat.zero_add,show ((s.c - 1:Nat):Int)=(s.c:Int) - 1 by omega]
  exact Z06.sameA
 ·((first | with_reducible refine holds_of_ex X 400 _ _ _ ?_ | skip); simp (maxSteps:=1000000) only [push_cast,reduceCtorEq,Nat.reduceAdd,Nat.reduceMul,Nat.reduceSub,Nat.reduceBEq,Nat.reduceGT,Nat.reduceLT,Int.toNat_zero,Nat.reduceLeDiff,Int.reduceEq,Int.reduceLT,Int.reduceLE,hP,hΓ,hL,hfin,↓Z00,String.reduceEq,not_false_eq_true,if_true])
  rw [show (Z0b (fun r=>Z0R r 200) 200 r)=(s.l,s.r) from s.done (by omega)]
  (refine Z0k.ver 2  0 (by simp only [push_cast,reduceCtorEq,Nat.reduceAdd,Nat.reduceMul,Nat.reduceSub,Nat.reduceBEq,Nat.reduceGT,Nat.reduceLT,Int.toNat_zero,Nat.reduceLeDiff,Int.reduceEq,Int.reduceLT,Int.reduceLE]) (by first | exact .inr (Nat.zero_le _) | (left; simp only [push_cast,reduceCtorEq,Nat.reduceAdd,Nat.reduceMul,Nat.reduceSub,Nat.reduceBEq,Nat.reduceGT,Nat.reduceLT,Int.toNat_zero,Nat.reduceLeDiff,Int.reduceEq,Int.reduceLT,Int.reduceLE]; first | done | omega) | (right; simp only [push_cast,reduceCtorEq,Nat.reduceAdd,Nat.reduceMul,Nat.reduceSub,Nat.reduceBEq,Nat.reduceGT,Nat.reduceLT,Int.toNat_zero,Nat.reduceLeDiff,Int.reduceEq,Int.reduceLT,Int.reduceLE]; first | done | omega)) ?_; simp only [push_cast,reduceCtorEq,Nat.reduceAdd,Nat.reduceMul,Nat.reduceSub,Nat.reduceBEq,Nat.reduceGT,Nat.reduceLT,Int.toNat_zero,Nat.reduceLeDiff,Int.reduceEq,Int.reduceLT,Int.reduceLE])
  exact Z06.sameA
theorem con84{Γ:Env}(h:Z07 Tryz.prog Γ)(h85:Γ 40=some S85)(h90:Γ 45=some S90):Con Tryz.prog 39 S84:=
 Z0v h (fn:=Tryz.f39) (by kernel_rfl) rfl (by kernel_rfl) inj84 fun r h=>body84 Γ h85 h90 r h
def e88:(Rd)→List AV×Heap:=fun r=>([.ref 0 0 0,.int .u32 65536,.fn (.func 44) [] [.ref 1 0 0]],[.row r.c 3 0,.row [.ref 0 0 0] 1 0])
def p88:(Rd)→Prop:=fun r=>r.ok
def r88:(Rd)→AV:=fun r=>.msl 2 0 0 (Z0b Z3P 65536 r).1.length
def g88:(Rd)→Heap:=fun r=>[.row (Z0b Z3P 65536 r).2.c 3 0,.row [.ref 0 0 0] 1 0,.row ((Z0b Z3P 65536 r).1.flatMap Fx.c) 4 0]
theorem inj88:∀a b,e88 a=e88 b→a=b:=by
 rintro r r' h
 simp only [e88,Z0f,Z0h,Z0i,Z0g,Z0V,Z0u,Prod.mk.injEq,List.cons.injEq,Z0L.row.injEq,AV.int.injEq,AV.str.injEq,AV.bool.injEq,AV.sl.injEq,AV.agg.injEq,AV.ip.injEq,AV.fn.injEq,AV.ifc.injEq,AV.mpr.injEq,AV.msl.injEq,AV.ref.injEq,Int.natCast_inj,and_true,true_and] at h
 simp_all only
noncomputable def S88:Z0n:=Z1I false e88 p88 r88 g88
theorem Zk5(r:(Rd)):Z1p e88 p88 ([.ref 0 0 0,.int .u32 65536,.fn (.func 44) [] [.ref 1 0 0]],[.row r.c 3 0,.row [.ref 0 0 0] 1 0])=(r.ok):=Z0x inj88 p88 r
theorem ZjK(r:(Rd)):Z0A e88 r88 .any ([.ref 0 0 0,.int .u32 65536,.fn (.func 44) [] [.ref 1 0 0]],[.row r.c 3 0,.row [.ref 0 0 0] 1 0])=(.msl 2 0 0 (Z0b Z3P 65536 r).1.length):=Z09 inj88 r88 .any r
theorem ZkI(r:(Rd)):Z0A e88 g88 [] ([.ref 0 0 0,.int .u32 65536,.fn (.func 44) [] [.ref 1 0 0]],[.row r.c 3 0,.row [.ref 0 0 0] 1 0])=([.row (Z0b Z3P 65536 r).2.c 3 0,.row [.ref 0 0 0] 1 0,.row ((Z0b Z3P 65536 r).1.flatMap Fx.c) 4 0]):=Z09 inj88 g88 [] r
attribute [push_cast] S88 Zk5 ZjK ZkI
theorem body88(Γ:Env)(h89:Γ 44=some S89)(h90:Γ 45=some S90)(r:Rd)(hr:r.ok):Z0a Tryz.prog Γ Tryz.f43 [.ref 0 0 0,.int .u32 65536,.fn (.func 44) [] [.ref 1 0 0]] [.row r.c 3 0,.row [.ref 0 0 0] 1 0] (.msl 2 0 0 (Z0b Z3P 65536 r).1.length) [.row (Z0b Z3P 65536 r).2.c 3 0,.row [.ref 0 0 0] 1 0,.row ((Z0b Z3P 65536 r).1.flatMap Fx.c) 4 0]:=by
 have h1:=Z0S hr 65536
 have b1:=Z2r r 65536
 (intro X hP hΓ hL hfin; refine⟨_,rfl,?_⟩; rw [show Tryz.f43.ntmps=29 from rfl]; rw [show Tryz.f43.results.toList=[.tmp 6] from rfl] at hfin; apply holds_of_ex X 400; simp (maxSteps:=1000000) only [push_cast,reduceCtorEq,Nat.reduceAdd,Nat.reduceMul,Nat.reduceSub,Nat.reduceBEq,Nat.reduceGT,Nat.reduceLT,Int.toNat_zero,Nat.reduceLeDiff,Int.reduceEq,Int.reduceLT,Int.reduceLE,hP,hΓ,hL,hfin,↓Z00,String.reduceEq,not_false_eq_true,if_true,h90])
 refine⟨hr,?_⟩
 refine Holds.loopM (ι:=Z0r Z3P (Z1m r 65536).1.toNat (Z1m r 65536).2) [true,false,true,false,false,false,true,false,false,false,false,false,false,false,false,false,false,false,false,false,false,false,false,false,false,false,false,false,false] (fun i=>[(7,.msl 2 i.l.length 0 i.l.length),(8,.int .i64 i.c)]) (fun i=>[.row i.r.c 3 0,.row [.ref 0 0 0] 1 0,.row (i.l.flatMap Fx.c) 4 i.l.length]) (fun i=>i.c) (Z0r.init _ _ _ h1.1) ?_ ?_
 ·rw [hL]; simp only [push_cast,Int.natCast_zero]
  (refine Z0k.nil 7  4 rfl ?_; simp only [push_cast,reduceCtorEq,Nat.reduceAdd,Nat.reduceMul,Nat.reduceSub,Nat.reduceBEq,Nat.reduceGT,Nat.reduceLT,Int.toNat_zero,Nat.reduceLeDiff,Int.reduceEq,Int.reduceLT,Int.reduceLE])
  simp only [Z0r.init,List.map_nil,List.flatMap_nil,List.length_nil,Int.toNat_of_nonneg b1.1]
  exact Z06.sameA
 intro s
 have hl:=s.len
 ((first | with_reducible refine holds_of_ex X 400 _ _ _ ?_ | skip); simp (maxSteps:=1000000) only [push_cast,reduceCtorEq,Nat.reduceAdd,Nat.reduceMul,Nat.reduceSub,Nat.reduceBEq,Nat.reduceGT,Nat.reduceLT,Int.toNat_zero,Nat.reduceLeDiff,Int.reduceEq,Int.reduceLT,Int.reduceLE,hP,hΓ,hL,hfin,↓Z00,String.reduceEq,not_false_eq_true,if_true])
 ((with_reducible refine Z02 (fun h=>?_) (fun h=>?_)) <;> (try simp only [decide_eq_true_eq,decide_eq_false_iff_not,Bool.and_eq_true,Bool.or_eq_true,Bool.and_eq_false_iff,Bool.or_eq_false_iff,Bool.not_eq_true',Bool.not_eq_false',Bool.not_eq_true,Bool.not_eq_false,Int.not_lt,Int.not_le,beq_iff_eq,beq_eq_false_iff_ne,ne_eq,win_t,win_f] at h))
 ·((first | with_reducible refine holds_of_ex X 400 _ _ _ ?_ | skip); simp (maxSteps:=1000000) only [push_cast,reduceCtorEq,Nat.reduceAdd,Nat.reduceMul,Nat.reduceSub,Nat.reduceBEq,Nat.reduceGT,Nat.reduceLT,Int.toNat_zero,Nat.reduceLeDiff,Int.reduceEq,Int.reduceLT,Int.reduceLE,hP,hΓ,hL,hfin,↓Z00,String.reduceEq,not_false_eq_true,if_true,h89,Z0c ((s.c:Int) - 1) (by constructor <;> omega)])
  refine⟨s.ok,by omega,s.next (fun r hr=>(Z8n hr).1) (by omega) h.2,by simp only [Z0r.next]; omega,?_⟩
  simp only [Z0r.next,List.map_append,List.map_cons,List.map_nil,List.flatMap_append,List.flatMap_cons,List.flatMap_nil,List.append_nil,List.length_append,List.length_cons,List.length_nil,Nat.zero_add,show ((s.c - 1:Nat):Int)=(s.c:Int) - 1 by omega]
  exact Z06.sameA
 ·((first | with_reducible refine holds_of_ex X 400 _ _ _ ?_ | skip); simp (maxSteps:=1000000) only [push_cast,reduceCtorEq,Nat.reduceAdd,Nat.reduceMul,Nat.reduceSub,Nat.reduceBEq,Nat.reduceGT,Nat.reduceLT,Int.toNat_zero,Nat.reduceLeDiff,Int.reduceEq,Int.reduceLT,Int.reduceLE,hP,hΓ,hL,hfin,↓Z00,String.reduceEq,not_false_eq_true,if_true])
  rw [show (Z0b Z3P 65536 r)=(s.l,s.r) from s.done (by omega)]
  (refine Z0k.ver 2  0 (by simp only [push_cast,reduceCtorEq,Nat.reduceAdd,Nat.reduceMul,Nat.reduceSub,Nat.reduceBEq,Nat.reduceGT,Nat.reduceLT,Int.toNat_zero,Nat.reduceLeDiff,Int.reduceEq,Int.reduceLT,Int.reduceLE]) (by first | exact .inr (Nat.zero_le _) | (left; simp only [push_cast,reduceCtorEq,Nat.reduceAdd,Nat.reduceMul,Nat.reduceSub,Nat.reduceBEq,Nat.reduceGT,Nat.reduceLT,Int.toNat_zero,Nat.reduceLeDiff,Int.reduceEq,Int.reduceLT,Int.reduceLE]; first | done | omega) | (right; simp only [push_cast,reduceCtorEq,Nat.reduceAdd,Nat.reduceMul,Nat.reduceSub,Nat.reduceBEq,Nat.reduceGT,Nat.reduceLT,Int.toNat_zero,Nat.reduceLeDiff,Int.reduceEq,Int.reduceLT,Int.reduceLE]; first | done | omega)) ?_; simp only [push_cast,reduceCtorEq,Nat.reduceAdd,Nat.reduceMul,Nat.reduceSub,Nat.reduceBEq,Nat.reduceGT,Nat.reduceLT,Int.toNat_zero,Nat.reduceLeDiff,Int.reduceEq,Int.reduceLT,Int.reduceLE])
  exact Z06.sameA
theorem con88{Γ:Env}(h:Z07 Tryz.prog Γ)(h89:Γ 44=some S89)(h90:Γ 45=some S90):Con Tryz.prog 43 S88:=
 Z0v h (fn:=Tryz.f43) (by kernel_rfl) rfl (by kernel_rfl) inj88 fun r h=>body88 Γ h89 h90 r h
def e81:(Rd)×(Z04)×(Int)×(List Im)×(List Int)×(List Z04)×(List Bool)×(Nat)→List AV×Heap:=fun (r,name,key,imps,code,ns,es,n)=>([.ref 0 0 0,.ref 1 0 0],[.row [.ref 2 0 0] 1 0,.row [.str name,.int .u32 key,.msl 3 0 0 imps.length,.msl 4 0 0 code.length,.lit (.slice none 0 0),.msl 5 n 0 n,.msl 6 n 0 n,.int .i64 0,.lit (.slice none 0 0),.lit (.slice none 0 0),.lit (.slice none 0 0),.lit (.slice none 0 0),.lit (.slice none 0 0)] 13 0,.row r.c 3 0,.row (imps.flatMap Im.c) 2 0,.row (code.map (.int .u32)) 1 0,.row (ns.map .str) 1 n,.row (es.map .bool) 1 n])
def p81:(Rd)×(Z04)×(Int)×(List Im)×(List Int)×(List Z04)×(List Bool)×(Nat)→Prop:=fun (r,name,key,imps,code,ns,es,n)=>r.ok∧n≤100000∧n=ns.length∧n=es.length
def r81:(Rd)×(Z04)×(Int)×(List Im)×(List Int)×(List Z04)×(List Bool)×(Nat)→AV:=fun (r,name,key,imps,code,ns,es,n)=>.int .i64 (Z0I r).1.1
def g81:(Rd)×(Z04)×(Int)×(List Im)×(List Int)×(List Z04)×(List Bool)×(Nat)→Heap:=fun (r,name,key,imps,code,ns,es,n)=>[.row [.ref 2 0 0] 1 0,.row [.str name,.int .u32 key,.msl 3 0 0 imps.length,.msl 4 0 0 code.length,.lit (.slice none 0 0),.msl 5 (n+1) 0 (n+1),.msl 6 (n+1) 0 (n+1),.int .i64 0,.lit (.slice none 0 0),.lit (.slice none 0 0),.lit (.slice none 0 0),.lit (.slice none 0 0),.lit (.slice none 0 0)] 13 0,.row (Z0I r).2.c 3 0,.row (imps.flatMap Im.c) 2 0,.row (code.map (.int .u32)) 1 0,.row ((ns++[(Z0I r).1.2.1]).map .str) 1 (n+1),.row ((es++[(Z0I r).1.2.2]).map .bool) 1 (n+1)]
theorem inj81:∀a b,e81 a=e81 b→a=b:=by
 rintro⟨r,name,key,imps,code,ns,es,n⟩ ⟨r',name',key',imps',code',ns',es',n'⟩ h
 simp only [e81,Z0f,Z0h,Z0i,Z0g,Z0V,Z0u,Prod.mk.injEq,List.cons.injEq,Z0L.row.injEq,AV.int.injEq,AV.str.injEq,AV.bool.injEq,AV.sl.injEq,AV.agg.injEq,AV.ip.injEq,AV.fn.injEq,AV.ifc.injEq,AV.mpr.injEq,AV.msl.injEq,AV.ref.injEq,Int.natCast_inj,and_true,true_and] at h
 simp_all only
noncomputable def S81:Z0n:=Z1I true e81 p81 r81 g81
theorem Zk9(r:(Rd))(name:(Z04))(key:(Int))(imps:(List Im))(code:(List Int))(ns:(List Z04))(es:(List Bool))(n:(Nat)):Z1p e81 p81 ([.ref 0 0 0,.ref 1 0 0],[.row [.ref 2 0 0] 1 0,.row [.str name,.int .u32 key,.msl 3 0 0 imps.length,.msl 4 0 0 code.length,.lit (.slice none 0 0),.msl 5 n 0 n,.msl 6 n 0 n,.int .i64 0,.lit (.slice none 0 0),.lit (.slice none 0 0),.lit (.slice none 0 0),.lit (.slice none 0 0),.lit (.slice none 0 0)] 13 0,.row r.c 3 0,.row (imps.flatMap Im.c) 2 0,.row (code.map (.int .u32)) 1 0,.row (ns.map .str) 1 n,.row (es.map .bool) 1 n])=(r.ok∧n≤100000∧n=ns.length∧n=es.length):=Z0x inj81 p81 (r,name,key,imps,code,ns,es,n)
theorem ZjO(r:(Rd))(name:(Z04))(key:(Int))(imps:(List Im))(code:(List Int))(ns:(List Z04))(es:(List Bool))(n:(Nat)):Z0A e81 r81 .any ([.ref 0 0 0,.ref 1 0 0],[.row [.ref 2 0 0] 1 0,.row [.str name,.int .u32 key,.msl 3 0 0 imps.length,.msl 4 0 0 code.length,.lit (.slice none 0 0),.msl 5 n 0 n,.msl 6 n 0 n,.int .i64 0,.lit (.slice none 0 0),.lit (.slice none 0 0),.lit (.slice none 0 0),.lit (.slice none 0 0),.lit (.slice none 0 0)] 13 0,.row r.c 3 0,.row (imps.flatMap Im.c) 2 0,.row (code.map (.int .u32)) 1 0,.row (ns.map .str) 1 n,.row (es.map .bool) 1 n])=(.int .i64 (Z0I r).1.1):=Z09 inj81 r81 .any (r,name,key,imps,code,ns,es,n)
theorem ZkM(r:(Rd))(name:(Z04))(key:(Int))(imps:(List Im))(code:(List Int))(ns:(List Z04))(es:(List Bool))(n:(Nat)):Z0A e81 g81 [] ([.ref 0 0 0,.ref 1 0 0],[.row [.ref 2 0 0] 1 0,.row [.str name,.int .u32 key,.msl 3 0 0 imps.length,.msl 4 0 0 code.length,.lit (.slice none 0 0),.msl 5 n 0 n,.msl 6 n 0 n,.int .i64 0,.lit (.slice none 0 0),.lit (.slice none 0 0),.lit (.slice none 0 0),.lit (.slice none 0 0),.lit (.slice none 0 0)] 13 0,.row r.c 3 0,.row (imps.flatMap Im.c) 2 0,.row (code.map (.int .u32)) 1 0,.row (ns.map .str) 1 n,.row (es.map .bool) 1 n])=([.row [.ref 2 0 0] 1 0,.row [.str name,.int .u32 key,.msl 3 0 0 imps.length,.msl 4 0 0 code.length,.lit (.slice none 0 0),.msl 5 (n+1) 0 (n+1),.msl 6 (n+1) 0 (n+1),.int .i64 0,.lit (.slice none 0 0),.lit (.slice none 0 0),.lit (.slice none 0 0),.lit (.slice none 0 0),.lit (.slice none 0 0)] 13 0,.row (Z0I r).2.c 3 0,.row (imps.flatMap Im.c) 2 0,.row (code.map (.int .u32)) 1 0,.row ((ns++[(Z0I r).1.2.1]).map .str) 1 (n+1),.row ((es++[(Z0I r).1.2.2]).map .bool) 1 (n+1)]):=Z09 inj81 g81 [] (r,name,key,imps,code,ns,es,n)
attribute [push_cast] S81 Zk9 ZjO ZkM
theorem body81(Γ:Env)(h82:Γ 37=some S82)(h75:Γ 30=some S75)(h83:Γ 38=some S83)(r:Rd)(name:Z04)(key:Int)(imps:List Im)(code:List Int)(ns:List Z04)(es:List Bool)(n:Nat)(hr:r.ok)(hn:n≤100000)(e1:n=ns.length)(e2:n=es.length) :
  Z0a Tryz.prog Γ Tryz.f36 [.ref 0 0 0,.ref 1 0 0] [.row [.ref 2 0 0] 1 0,.row [.str name,.int .u32 key,.msl 3 0 0 imps.length,.msl 4 0 0 code.length,.lit (.slice none 0 0),.msl 5 n 0 n,.msl 6 n 0 n,.int .i64 0,.lit (.slice none 0 0),.lit (.slice none 0 0),.lit (.slice none 0 0),.lit (.slice none 0 0),.lit (.slice none 0 0)] 13 0,.row r.c 3 0,.row (imps.flatMap Im.c) 2 0,.row (code.map (.int .u32)) 1 0,.row (ns.map .str) 1 n,.row (es.map .bool) 1 n] (.int .i64 (Z0I r).1.1) [.row [.ref 2 0 0] 1 0,.row [.str name,.int .u32 key,.msl 3 0 0 imps.length,.msl 4 0 0 code.length,.lit (.slice none 0 0),.msl 5 (n+1) 0 (n+1),.msl 6 (n+1) 0 (n+1),.int .i64 0,.lit (.slice none 0 0),.lit (.slice none 0 0),.lit (.slice none 0 0),.lit (.slice none 0 0),.lit (.slice none 0 0)] 13 0,.row (Z0I r).2.c 3 0,.row (imps.flatMap Im.c) 2 0,.row (code.map (.int .u32)) 1 0,.row ((ns++[(Z0I r).1.2.1]).map .str) 1 (n+1),.row ((es++[(Z0I r).1.2.2]).map .bool) 1 (n+1)]:=by
 have h1:=Z0S hr 4294967295
 have h2:=Z1i h1.1 20
 have h3:=Z4E h2.1 1
 have l1:(ns.map AV.str).length=n:=by rw [List.length_map,e1]
 have l2:(es.map AV.bool).length=n:=by rw [List.length_map,e2]
 (intro X hP hΓ hL hfin; refine⟨_,rfl,?_⟩; rw [show Tryz.f36.ntmps=22 from rfl]; rw [show Tryz.f36.results.toList=[.tmp 2] from rfl] at hfin; apply holds_of_ex X 400; simp (maxSteps:=1000000) only [push_cast,reduceCtorEq,Nat.reduceAdd,Nat.reduceMul,Nat.reduceSub,Nat.reduceBEq,Nat.reduceGT,Nat.reduceLT,Int.toNat_zero,Nat.reduceLeDiff,Int.reduceEq,Int.reduceLT,Int.reduceLE,hP,hΓ,hL,hfin,↓Z00,String.reduceEq,not_false_eq_true,if_true,h82,h75,h83])
 refine⟨hr,?_⟩
 (refine Holds.drawnE (Z3c [.fix (.row [.ref 2 0 0] 1 0),.fix (.row [.str name,.int .u32 key,.msl 3 0 0 imps.length,.msl 4 0 0 code.length,.lit (.slice none 0 0),.msl 5 n 0 n,.msl 6 n 0 n,.int .i64 0,.lit (.slice none 0 0),.lit (.slice none 0 0),.lit (.slice none 0 0),.lit (.slice none 0 0),.lit (.slice none 0 0)] 13 0),.row 3 0]) [2,3,5,7] [] [] true (by rw [hP]; kernel_rfl) (by kernel_rfl) (by kernel_rfl) (by kernel_rfl) (by first | exact .inl rfl | exact .inr fun _ _ h=>Z0M _ _ h) (by first | (simp only [push_cast]; done) | (simp only [push_cast,and_true]; omega)) ?_; simp (maxSteps:=1000000) only [↓reduceIte,Option.getD_some,push_cast,reduceCtorEq,Nat.reduceAdd,Nat.reduceMul,Nat.reduceSub,Nat.reduceBEq,Nat.reduceGT,Nat.reduceLT,Int.toNat_zero,Nat.reduceLeDiff,Int.reduceEq,Int.reduceLT,Int.reduceLE,hP,hΓ,hL,hfin,↓Z00,String.reduceEq,not_false_eq_true,if_true,h82,h75,h83])
 refine⟨h1.1,⟨by omega,by omega⟩,?_⟩
 ((first | with_reducible refine holds_of_ex X 400 _ _ _ ?_ | skip); simp (maxSteps:=1000000) only [push_cast,reduceCtorEq,Nat.reduceAdd,Nat.reduceMul,Nat.reduceSub,Nat.reduceBEq,Nat.reduceGT,Nat.reduceLT,Int.toNat_zero,Nat.reduceLeDiff,Int.reduceEq,Int.reduceLT,Int.reduceLE,hP,hΓ,hL,hfin,↓Z00,String.reduceEq,not_false_eq_true,if_true])
 (refine Holds.drawnE (Z3c [.fix (.row [.ref 2 0 0] 1 0),.fix (.row [.str name,.int .u32 key,.msl 3 0 0 imps.length,.msl 4 0 0 code.length,.lit (.slice none 0 0),.msl 5 (n+1) 0 (n+1),.msl 6 n 0 n,.int .i64 0,.lit (.slice none 0 0),.lit (.slice none 0 0),.lit (.slice none 0 0),.lit (.slice none 0 0),.lit (.slice none 0 0)] 13 0),.row 3 0]) [2,3,4,6,8] [] [] true (by rw [hP]; kernel_rfl) (by kernel_rfl) (by kernel_rfl) (by kernel_rfl) (by first | exact .inl rfl | exact .inr fun _ _ h=>Z0M _ _ h) (by first | (simp only [push_cast]; done) | (simp only [push_cast,and_true]; omega)) ?_; simp (maxSteps:=1000000) only [↓reduceIte,Option.getD_some,push_cast,reduceCtorEq,Nat.reduceAdd,Nat.reduceMul,Nat.reduceSub,Nat.reduceBEq,Nat.reduceGT,Nat.reduceLT,Int.toNat_zero,Nat.reduceLeDiff,Int.reduceEq,Int.reduceLT,Int.reduceLE,hP,hΓ,hL,hfin,↓Z00,String.reduceEq,not_false_eq_true,if_true,h82,h75,h83])
 refine⟨h2.1,⟨by omega,by omega⟩,?_⟩
 ((first | with_reducible refine holds_of_ex X 400 _ _ _ ?_ | skip); simp (maxSteps:=1000000) only [push_cast,reduceCtorEq,Nat.reduceAdd,Nat.reduceMul,Nat.reduceSub,Nat.reduceBEq,Nat.reduceGT,Nat.reduceLT,Int.toNat_zero,Nat.reduceLeDiff,Int.reduceEq,Int.reduceLT,Int.reduceLE,hP,hΓ,hL,hfin,↓Z00,String.reduceEq,not_false_eq_true,if_true])
 simp only [Z0I,Z20,List.map_append,List.map_cons,List.map_nil,List.length_append,List.length_cons,List.length_nil,Nat.zero_add]
 exact Z06.sameA
theorem con81{Γ:Env}(h:Z07 Tryz.prog Γ)(h82:Γ 37=some S82)(h75:Γ 30=some S75)(h83:Γ 38=some S83):Con Tryz.prog 36 S81:=
 Z0v h (fn:=Tryz.f36) (by kernel_rfl) rfl (by kernel_rfl) inj81 fun ⟨r,name,key,imps,code,ns,es,n⟩ h=>body81 Γ h82 h75 h83 r name key imps code ns es n h.1 h.2.1 h.2.2.1 h.2.2.2
theorem body80a(Γ:Env)(h82:Γ 37=some S82)(h90:Γ 45=some S90)(r:Rd)(m:Int)(hr:r.ok):Z0a Tryz.prog Γ Tryz.f35 [.ref 0 0 0,.int .u32 m,.fn (.func 37) [.ref 0 0 0] []] [.row r.c 3 0] (.msl 1 0 0 (Z0b Z20 m r).1.length) [.row (Z0b Z20 m r).2.c 3 0,.row ((Z0b Z20 m r).1.map (.int .i64)) 1 0]:=by
 have h1:=Z0S hr m
 have b1:=Z2r r m
 (intro X hP hΓ hL hfin; refine⟨_,rfl,?_⟩; rw [show Tryz.f35.ntmps=29 from rfl]; rw [show Tryz.f35.results.toList=[.tmp 6] from rfl] at hfin; apply holds_of_ex X 400; simp (maxSteps:=1000000) only [push_cast,reduceCtorEq,Nat.reduceAdd,Nat.reduceMul,Nat.reduceSub,Nat.reduceBEq,Nat.reduceGT,Nat.reduceLT,Int.toNat_zero,Nat.reduceLeDiff,Int.reduceEq,Int.reduceLT,Int.reduceLE,hP,hΓ,hL,hfin,↓Z00,String.reduceEq,not_false_eq_true,if_true,h90])
 refine⟨hr,?_⟩
 refine Holds.loopM (ι:=Z0r Z20 (Z1m r m).1.toNat (Z1m r m).2) [true,false,true,false,false,false,true,false,false,false,false,false,false,false,false,false,false,false,false,false,false,false,false,false,false,false,false,false,false] (fun i=>[(7,.msl 1 i.l.length 0 i.l.length),(8,.int .i64 i.c)]) (fun i=>[.row i.r.c 3 0,.row (i.l.map (.int .i64)) 1 i.l.length]) (fun i=>i.c) (Z0r.init _ _ _ h1.1) ?_ ?_
 ·rw [hL]; simp only [push_cast,Int.natCast_zero]
  (refine Z0k.nil 7  1 rfl ?_; simp only [push_cast,reduceCtorEq,Nat.reduceAdd,Nat.reduceMul,Nat.reduceSub,Nat.reduceBEq,Nat.reduceGT,Nat.reduceLT,Int.toNat_zero,Nat.reduceLeDiff,Int.reduceEq,Int.reduceLT,Int.reduceLE])
  simp only [Z0r.init,List.map_nil,List.flatMap_nil,List.length_nil,Int.toNat_of_nonneg b1.1]
  exact Z06.sameA
 intro s
 have hl:=s.len
 ((first | with_reducible refine holds_of_ex X 400 _ _ _ ?_ | skip); simp (maxSteps:=1000000) only [push_cast,reduceCtorEq,Nat.reduceAdd,Nat.reduceMul,Nat.reduceSub,Nat.reduceBEq,Nat.reduceGT,Nat.reduceLT,Int.toNat_zero,Nat.reduceLeDiff,Int.reduceEq,Int.reduceLT,Int.reduceLE,hP,hΓ,hL,hfin,↓Z00,String.reduceEq,not_false_eq_true,if_true])
 ((with_reducible refine Z02 (fun h=>?_) (fun h=>?_)) <;> (try simp only [decide_eq_true_eq,decide_eq_false_iff_not,Bool.and_eq_true,Bool.or_eq_true,Bool.and_eq_false_iff,Bool.or_eq_false_iff,Bool.not_eq_true',Bool.not_eq_false',Bool.not_eq_true,Bool.not_eq_false,Int.not_lt,Int.not_le,beq_iff_eq,beq_eq_false_iff_ne,ne_eq,win_t,win_f] at h))
 ·((first | with_reducible refine holds_of_ex X 400 _ _ _ ?_ | skip); simp (maxSteps:=1000000) only [push_cast,reduceCtorEq,Nat.reduceAdd,Nat.reduceMul,Nat.reduceSub,Nat.reduceBEq,Nat.reduceGT,Nat.reduceLT,Int.toNat_zero,Nat.reduceLeDiff,Int.reduceEq,Int.reduceLT,Int.reduceLE,hP,hΓ,hL,hfin,↓Z00,String.reduceEq,not_false_eq_true,if_true,h82,Z0c ((s.c:Int) - 1) (by constructor <;> omega)])
  refine⟨s.ok,by omega,s.next (fun r hr=>(Z1M hr).1) (by omega) h.2,by simp only [Z0r.next]; omega,?_⟩
  simp only [Z0r.next,Z20,List.map_append,List.map_cons,List.map_nil,List.flatMap_append,List.flatMap_cons,List.flatMap_nil,List.append_nil,List.length_append,List.length_cons,List.length_nil,Nat.zero_add,show ((s.c - 1:Nat):Int)=(s.c:Int) - 1 by omega]
  exact Z06.sameA
 ·((first | with_reducible refine holds_of_ex X 400 _ _ _ ?_ | skip); simp (maxSteps:=1000000) only [push_cast,reduceCtorEq,Nat.reduceAdd,Nat.reduceMul,Nat.reduceSub,Nat.reduceBEq,Nat.reduceGT,Nat.reduceLT,Int.toNat_zero,Nat.reduceLeDiff,Int.reduceEq,Int.reduceLT,Int.reduceLE,hP,hΓ,hL,hfin,↓Z00,String.reduceEq,not_false_eq_true,if_true])
  rw [show Z0b Z20 m r=(s.l,s.r) from s.done (by omega)]
  (refine Z0k.ver 1  0 (by simp only [push_cast,reduceCtorEq,Nat.reduceAdd,Nat.reduceMul,Nat.reduceSub,Nat.reduceBEq,Nat.reduceGT,Nat.reduceLT,Int.toNat_zero,Nat.reduceLeDiff,Int.reduceEq,Int.reduceLT,Int.reduceLE]) (by first | exact .inr (Nat.zero_le _) | (left; simp only [push_cast,reduceCtorEq,Nat.reduceAdd,Nat.reduceMul,Nat.reduceSub,Nat.reduceBEq,Nat.reduceGT,Nat.reduceLT,Int.toNat_zero,Nat.reduceLeDiff,Int.reduceEq,Int.reduceLT,Int.reduceLE]; first | done | omega) | (right; simp only [push_cast,reduceCtorEq,Nat.reduceAdd,Nat.reduceMul,Nat.reduceSub,Nat.reduceBEq,Nat.reduceGT,Nat.reduceLT,Int.toNat_zero,Nat.reduceLeDiff,Int.reduceEq,Int.reduceLT,Int.reduceLE]; first | done | omega)) ?_; simp only [push_cast,reduceCtorEq,Nat.reduceAdd,Nat.reduceMul,Nat.reduceSub,Nat.reduceBEq,Nat.reduceGT,Nat.reduceLT,Int.toNat_zero,Nat.reduceLeDiff,Int.reduceEq,Int.reduceLT,Int.reduceLE])
  exact Z06.sameA
theorem body80b(Γ:Env)(h81:Γ 36=some S81)(h90:Γ 45=some S90)(r:Rd)(name:Z04)(key:Int)(imps:List Im)(code:List Int)(hr:r.ok) :
  Z0a Tryz.prog Γ Tryz.f35 [.ref 0 0 0,.int .u32 100,.fn (.func 36) [] [.ref 1 0 0,.ref 2 0 0]] [.row r.c 3 0,.row [.ref 0 0 0] 1 0,.row [.str name,.int .u32 key,.msl 3 0 0 imps.length,.msl 4 0 0 code.length,.lit (.slice none 0 0),.lit (.slice none 0 0),.lit (.slice none 0 0),.int .i64 0,.lit (.slice none 0 0),.lit (.slice none 0 0),.lit (.slice none 0 0),.lit (.slice none 0 0),.lit (.slice none 0 0)] 13 0,.row (imps.flatMap Im.c) 2 0,.row (code.map (.int .u32)) 1 0] (.msl 7 0 0 (Z0b Z0I 100 r).1.length) [.row (Z0b Z0I 100 r).2.c 3 0,.row [.ref 0 0 0] 1 0,.row [.str name,.int .u32 key,.msl 3 0 0 imps.length,.msl 4 0 0 code.length,.lit (.slice none 0 0),.msl 5 0 0 (Z0b Z0I 100 r).1.length,.msl 6 0 0 (Z0b Z0I 100 r).1.length,.int .i64 0,.lit (.slice none 0 0),.lit (.slice none 0 0),.lit (.slice none 0 0),.lit (.slice none 0 0),.lit (.slice none 0 0)] 13 0,.row (imps.flatMap Im.c) 2 0,.row (code.map (.int .u32)) 1 0,.row (((Z0b Z0I 100 r).1.map fun x=>x.2.1).map .str) 1 0,.row (((Z0b Z0I 100 r).1.map fun x=>x.2.2).map .bool) 1 0,.row (((Z0b Z0I 100 r).1.map fun x=>x.1).map (.int .i64)) 1 0]:=by
 have h1:=Z0S hr 100
 have b1:=Z2r r 100
 have b2:=Z3q r 100 (by omega)
 (intro X hP hΓ hL hfin; refine⟨_,rfl,?_⟩; rw [show Tryz.f35.ntmps=29 from rfl]; rw [show Tryz.f35.results.toList=[.tmp 6] from rfl] at hfin; apply holds_of_ex X 400; simp (maxSteps:=1000000) only [push_cast,reduceCtorEq,Nat.reduceAdd,Nat.reduceMul,Nat.reduceSub,Nat.reduceBEq,Nat.reduceGT,Nat.reduceLT,Int.toNat_zero,Nat.reduceLeDiff,Int.reduceEq,Int.reduceLT,Int.reduceLE,hP,hΓ,hL,hfin,↓Z00,String.reduceEq,not_false_eq_true,if_true,h90])
 refine⟨hr,?_⟩
 refine Holds.nilH 2 5 1 rfl rfl ?_
 refine Holds.nilH 2 6 1 rfl rfl ?_
 simp only [List.set_cons_succ,List.set_cons_zero,List.cons_append,List.nil_append,List.length_cons,List.length_nil,Nat.zero_add,Nat.reduceAdd]
 refine Holds.loopM (ι:=Z0r Z0I (Z1m r 100).1.toNat (Z1m r 100).2) [true,false,true,false,false,false,true,false,false,false,false,false,false,false,false,false,false,false,false,false,false,false,false,false,false,false,false,false,false] (fun i=>[(7,.msl 7 i.l.length 0 i.l.length),(8,.int .i64 i.c)]) (fun i=>[.row i.r.c 3 0,.row [.ref 0 0 0] 1 0,.row [.str name,.int .u32 key,.msl 3 0 0 imps.length,.msl 4 0 0 code.length,.lit (.slice none 0 0),.msl 5 i.l.length 0 i.l.length,.msl 6 i.l.length 0 i.l.length,.int .i64 0,.lit (.slice none 0 0),.lit (.slice none 0 0),.lit (.slice none 0 0),.lit (.slice none 0 0),.lit (.slice none 0 0)] 13 0,.row (imps.flatMap Im.c) 2 0,.row (code.map (.int .u32)) 1 0,.row ((i.l.map fun x=>x.2.1).map .str) 1 i.l.length,.row ((i.l.map fun x=>x.2.2).map .bool) 1 i.l.length,.row ((i.l.map fun x=>x.1).map (.int .i64)) 1 i.l.length]) (fun i=>i.c) (Z0r.init _ _ _ h1.1) ?_ ?_
 ·rw [hL]; simp only [push_cast,Int.natCast_zero]
  (refine Z0k.nil 7  1 rfl ?_; simp only [push_cast,reduceCtorEq,Nat.reduceAdd,Nat.reduceMul,Nat.reduceSub,Nat.reduceBEq,Nat.reduceGT,Nat.reduceLT,Int.toNat_zero,Nat.reduceLeDiff,Int.reduceEq,Int.reduceLT,Int.reduceLE])
  simp only [Z0r.init,List.map_nil,List.flatMap_nil,List.length_nil,Int.toNat_of_nonneg b1.1]
  exact Z06.sameA
 intro s
 have hl:=s.len
 ((first | with_reducible refine holds_of_ex X 400 _ _ _ ?_ | skip); simp (maxSteps:=1000000) only [push_cast,reduceCtorEq,Nat.reduceAdd,Nat.reduceMul,Nat.reduceSub,Nat.reduceBEq,Nat.reduceGT,Nat.reduceLT,Int.toNat_zero,Nat.reduceLeDiff,Int.reduceEq,Int.reduceLT,Int.reduceLE,hP,hΓ,hL,hfin,↓Z00,String.reduceEq,not_false_eq_true,if_true])
 ((with_reducible refine Z02 (fun h=>?_) (fun h=>?_)) <;> (try simp only [decide_eq_true_eq,decide_eq_false_iff_not,Bool.and_eq_true,Bool.or_eq_true,Bool.and_eq_false_iff,Bool.or_eq_false_iff,Bool.not_eq_true',Bool.not_eq_false',Bool.not_eq_true,Bool.not_eq_false,Int.not_lt,Int.not_le,beq_iff_eq,beq_eq_false_iff_ne,ne_eq,win_t,win_f] at h))
 ·((first | with_reducible refine holds_of_ex X 400 _ _ _ ?_ | skip); simp (maxSteps:=1000000) only [push_cast,reduceCtorEq,Nat.reduceAdd,Nat.reduceMul,Nat.reduceSub,Nat.reduceBEq,Nat.reduceGT,Nat.reduceLT,Int.toNat_zero,Nat.reduceLeDiff,Int.reduceEq,Int.reduceLT,Int.reduceLE,hP,hΓ,hL,hfin,↓Z00,String.reduceEq,not_false_eq_true,if_true,h81,Z0c ((s.c:Int) - 1) (by constructor <;> omega)])
  refine⟨⟨by decide,s.ok,by omega⟩,by omega,s.next (fun r hr=>(Z3H hr).1) (by omega) h.2,by simp only [Z0r.next]; omega,?_⟩
  simp only [Z0r.next,List.map_append,List.map_cons,List.map_nil,List.flatMap_append,List.flatMap_cons,List.flatMap_nil,List.append_nil,List.length_append,List.length_cons,List.length_nil,Nat.zero_add,show ((s.c - 1:Nat):Int)=(s.c:Int) - 1 by omega]
  exact Z06.sameA
 ·((first | with_reducible refine holds_of_ex X 400 _ _ _ ?_ | skip); simp (maxSteps:=1000000) only [push_cast,reduceCtorEq,Nat.reduceAdd,Nat.reduceMul,Nat.reduceSub,Nat.reduceBEq,Nat.reduceGT,Nat.reduceLT,Int.toNat_zero,Nat.reduceLeDiff,Int.reduceEq,Int.reduceLT,Int.reduceLE,hP,hΓ,hL,hfin,↓Z00,String.reduceEq,not_false_eq_true,if_true])
  rw [show Z0b Z0I 100 r=(s.l,s.r) from s.done (by omega)]
  (refine Z0k.ver 5  0 (by simp only [push_cast,reduceCtorEq,Nat.reduceAdd,Nat.reduceMul,Nat.reduceSub,Nat.reduceBEq,Nat.reduceGT,Nat.reduceLT,Int.toNat_zero,Nat.reduceLeDiff,Int.reduceEq,Int.reduceLT,Int.reduceLE]) (by first | exact .inr (Nat.zero_le _) | (left; simp only [push_cast,reduceCtorEq,Nat.reduceAdd,Nat.reduceMul,Nat.reduceSub,Nat.reduceBEq,Nat.reduceGT,Nat.reduceLT,Int.toNat_zero,Nat.reduceLeDiff,Int.reduceEq,Int.reduceLT,Int.reduceLE]; first | done | omega) | (right; simp only [push_cast,reduceCtorEq,Nat.reduceAdd,Nat.reduceMul,Nat.reduceSub,Nat.reduceBEq,Nat.reduceGT,Nat.reduceLT,Int.toNat_zero,Nat.reduceLeDiff,Int.reduceEq,Int.reduceLT,Int.reduceLE]; first | done | omega)) ?_; simp only [push_cast,reduceCtorEq,Nat.reduceAdd,Nat.reduceMul,Nat.reduceSub,Nat.reduceBEq,Nat.reduceGT,Nat.reduceLT,Int.toNat_zero,Nat.reduceLeDiff,Int.reduceEq,Int.reduceLT,Int.reduceLE])
  (refine Z0k.ver 6  0 (by simp only [push_cast,reduceCtorEq,Nat.reduceAdd,Nat.reduceMul,Nat.reduceSub,Nat.reduceBEq,Nat.reduceGT,Nat.reduceLT,Int.toNat_zero,Nat.reduceLeDiff,Int.reduceEq,Int.reduceLT,Int.reduceLE]) (by first | exact .inr (Nat.zero_le _) | (left; simp only [push_cast,reduceCtorEq,Nat.reduceAdd,Nat.reduceMul,Nat.reduceSub,Nat.reduceBEq,Nat.reduceGT,Nat.reduceLT,Int.toNat_zero,Nat.reduceLeDiff,Int.reduceEq,Int.reduceLT,Int.reduceLE]; first | done | omega) | (right; simp only [push_cast,reduceCtorEq,Nat.reduceAdd,Nat.reduceMul,Nat.reduceSub,Nat.reduceBEq,Nat.reduceGT,Nat.reduceLT,Int.toNat_zero,Nat.reduceLeDiff,Int.reduceEq,Int.reduceLT,Int.reduceLE]; first | done | omega)) ?_; simp only [push_cast,reduceCtorEq,Nat.reduceAdd,Nat.reduceMul,Nat.reduceSub,Nat.reduceBEq,Nat.reduceGT,Nat.reduceLT,Int.toNat_zero,Nat.reduceLeDiff,Int.reduceEq,Int.reduceLT,Int.reduceLE])
  (refine Z0k.ver 7  0 (by simp only [push_cast,reduceCtorEq,Nat.reduceAdd,Nat.reduceMul,Nat.reduceSub,Nat.reduceBEq,Nat.reduceGT,Nat.reduceLT,Int.toNat_zero,Nat.reduceLeDiff,Int.reduceEq,Int.reduceLT,Int.reduceLE]) (by first | exact .inr (Nat.zero_le _) | (left; simp only [push_cast,reduceCtorEq,Nat.reduceAdd,Nat.reduceMul,Nat.reduceSub,Nat.reduceBEq,Nat.reduceGT,Nat.reduceLT,Int.toNat_zero,Nat.reduceLeDiff,Int.reduceEq,Int.reduceLT,Int.reduceLE]; first | done | omega) | (right; simp only [push_cast,reduceCtorEq,Nat.reduceAdd,Nat.reduceMul,Nat.reduceSub,Nat.reduceBEq,Nat.reduceGT,Nat.reduceLT,Int.toNat_zero,Nat.reduceLeDiff,Int.reduceEq,Int.reduceLT,Int.reduceLE]; first | done | omega)) ?_; simp only [push_cast,reduceCtorEq,Nat.reduceAdd,Nat.reduceMul,Nat.reduceSub,Nat.reduceBEq,Nat.reduceGT,Nat.reduceLT,Int.toNat_zero,Nat.reduceLeDiff,Int.reduceEq,Int.reduceLT,Int.reduceLE])
  exact Z06.sameA
abbrev T80:=(Rd×Int) ⊕ (Rd×Z04×Int×List Im×List Int)
def e80:T80→List AV×Heap
 | .inl (r,m)=>([.ref 0 0 0,.int .u32 m,.fn (.func 37) [.ref 0 0 0] []],[.row r.c 3 0])
 | .inr (r,name,key,imps,code)=>([.ref 0 0 0,.int .u32 100,.fn (.func 36) [] [.ref 1 0 0,.ref 2 0 0]],[.row r.c 3 0,.row [.ref 0 0 0] 1 0,.row [.str name,.int .u32 key,.msl 3 0 0 imps.length,.msl 4 0 0 code.length,.lit (.slice none 0 0),.lit (.slice none 0 0),.lit (.slice none 0 0),.int .i64 0,.lit (.slice none 0 0),.lit (.slice none 0 0),.lit (.slice none 0 0),.lit (.slice none 0 0),.lit (.slice none 0 0)] 13 0,.row (imps.flatMap Im.c) 2 0,.row (code.map (.int .u32)) 1 0])
def p80:T80→Prop
 | .inl (r,m)=>r.ok
 | .inr (r,name,key,imps,code)=>r.ok
def r80:T80→AV
 | .inl (r,m)=>.msl 1 0 0 (Z0b Z20 m r).1.length
 | .inr (r,name,key,imps,code)=>.msl 7 0 0 (Z0b Z0I 100 r).1.length
def g80:T80→Heap
 | .inl (r,m)=>[.row (Z0b Z20 m r).2.c 3 0,.row ((Z0b Z20 m r).1.map (.int .i64)) 1 0]
 | .inr (r,name,key,imps,code)=>[.row (Z0b Z0I 100 r).2.c 3 0,.row [.ref 0 0 0] 1 0,.row [.str name,.int .u32 key,.msl 3 0 0 imps.length,.msl 4 0 0 code.length,.lit (.slice none 0 0),.msl 5 0 0 (Z0b Z0I 100 r).1.length,.msl 6 0 0 (Z0b Z0I 100 r).1.length,.int .i64 0,.lit (.slice none 0 0),.lit (.slice none 0 0),.lit (.slice none 0 0),.lit (.slice none 0 0),.lit (.slice none 0 0)] 13 0,.row (imps.flatMap Im.c) 2 0,.row (code.map (.int .u32)) 1 0,.row (((Z0b Z0I 100 r).1.map fun x=>x.2.1).map .str) 1 0,.row (((Z0b Z0I 100 r).1.map fun x=>x.2.2).map .bool) 1 0,.row (((Z0b Z0I 100 r).1.map fun x=>x.1).map (.int .i64)) 1 0]
theorem inj80:∀a b,e80 a=e80 b→a=b:=by
 rintro (⟨r,m⟩ | ⟨r,name,key,imps,code⟩) (⟨r',m'⟩ | ⟨r',name',key',imps',code'⟩) h <;>
  simp only [e80,Z0f,Z0h,Z0i,Z0g,Z0V,Z0u,Prod.mk.injEq,List.cons.injEq,Z0L.row.injEq,AV.int.injEq,AV.str.injEq,AV.bool.injEq,AV.sl.injEq,AV.agg.injEq,AV.ip.injEq,AV.fn.injEq,AV.mpr.injEq,AV.msl.injEq,AV.ref.injEq,Int.natCast_inj,and_true,true_and,reduceCtorEq,and_false,false_and] at h
 ·simp_all only
 ·simp_all only
noncomputable def S80:Z0n:=Z1I true e80 p80 r80 g80
theorem ZgZ(r:Rd)(m:Int):Z1p e80 p80 ([.ref 0 0 0,.int .u32 m,.fn (.func 37) [.ref 0 0 0] []],[.row r.c 3 0])=r.ok:=Z0x inj80 p80 (.inl (r,m))
theorem ZgN(r:Rd)(m:Int):Z0A e80 r80 .any ([.ref 0 0 0,.int .u32 m,.fn (.func 37) [.ref 0 0 0] []],[.row r.c 3 0])=.msl 1 0 0 (Z0b Z20 m r).1.length:=Z09 inj80 r80 .any (.inl (r,m))
theorem Zhr(r:Rd)(m:Int):Z0A e80 g80 [] ([.ref 0 0 0,.int .u32 m,.fn (.func 37) [.ref 0 0 0] []],[.row r.c 3 0])=[.row (Z0b Z20 m r).2.c 3 0,.row ((Z0b Z20 m r).1.map (.int .i64)) 1 0]:=Z09 inj80 g80 [] (.inl (r,m))
theorem ZgY(r:Rd)(name:Z04)(key:Int)(imps:List Im)(code:List Int):Z1p e80 p80 ([.ref 0 0 0,.int .u32 100,.fn (.func 36) [] [.ref 1 0 0,.ref 2 0 0]],[.row r.c 3 0,.row [.ref 0 0 0] 1 0,.row [.str name,.int .u32 key,.msl 3 0 0 imps.length,.msl 4 0 0 code.length,.lit (.slice none 0 0),.lit (.slice none 0 0),.lit (.slice none 0 0),.int .i64 0,.lit (.slice none 0 0),.lit (.slice none 0 0),.lit (.slice none 0 0),.lit (.slice none 0 0),.lit (.slice none 0 0)] 13 0,.row (imps.flatMap Im.c) 2 0,.row (code.map (.int .u32)) 1 0])=r.ok:=Z0x inj80 p80 (.inr (r,name,key,imps,code))
theorem ZgM(r:Rd)(name:Z04)(key:Int)(imps:List Im)(code:List Int):Z0A e80 r80 .any ([.ref 0 0 0,.int .u32 100,.fn (.func 36) [] [.ref 1 0 0,.ref 2 0 0]],[.row r.c 3 0,.row [.ref 0 0 0] 1 0,.row [.str name,.int .u32 key,.msl 3 0 0 imps.length,.msl 4 0 0 code.length,.lit (.slice none 0 0),.lit (.slice none 0 0),.lit (.slice none 0 0),.int .i64 0,.lit (.slice none 0 0),.lit (.slice none 0 0),.lit (.slice none 0 0),.lit (.slice none 0 0),.lit (.slice none 0 0)] 13 0,.row (imps.flatMap Im.c) 2 0,.row (code.map (.int .u32)) 1 0])=.msl 7 0 0 (Z0b Z0I 100 r).1.length:=Z09 inj80 r80 .any (.inr (r,name,key,imps,code))
theorem Zhq(r:Rd)(name:Z04)(key:Int)(imps:List Im)(code:List Int):Z0A e80 g80 [] ([.ref 0 0 0,.int .u32 100,.fn (.func 36) [] [.ref 1 0 0,.ref 2 0 0]],[.row r.c 3 0,.row [.ref 0 0 0] 1 0,.row [.str name,.int .u32 key,.msl 3 0 0 imps.length,.msl 4 0 0 code.length,.lit (.slice none 0 0),.lit (.slice none 0 0),.lit (.slice none 0 0),.int .i64 0,.lit (.slice none 0 0),.lit (.slice none 0 0),.lit (.slice none 0 0),.lit (.slice none 0 0),.lit (.slice none 0 0)] 13 0,.row (imps.flatMap Im.c) 2 0,.row (code.map (.int .u32)) 1 0])=[.row (Z0b Z0I 100 r).2.c 3 0,.row [.ref 0 0 0] 1 0,.row [.str name,.int .u32 key,.msl 3 0 0 imps.length,.msl 4 0 0 code.length,.lit (.slice none 0 0),.msl 5 0 0 (Z0b Z0I 100 r).1.length,.msl 6 0 0 (Z0b Z0I 100 r).1.length,.int .i64 0,.lit (.slice none 0 0),.lit (.slice none 0 0),.lit (.slice none 0 0),.lit (.slice none 0 0),.lit (.slice none 0 0)] 13 0,.row (imps.flatMap Im.c) 2 0,.row (code.map (.int .u32)) 1 0,.row (((Z0b Z0I 100 r).1.map fun x=>x.2.1).map .str) 1 0,.row (((Z0b Z0I 100 r).1.map fun x=>x.2.2).map .bool) 1 0,.row (((Z0b Z0I 100 r).1.map fun x=>x.1).map (.int .i64)) 1 0]:=Z09 inj80 g80 [] (.inr (r,name,key,imps,code))
attribute [push_cast] S80 ZgZ ZgN Zhr ZgY ZgM Zhq
theorem con80{Γ:Env}(h:Z07 Tryz.prog Γ)(h81:Γ 36=some S81)(h82:Γ 37=some S82)(h90:Γ 45=some S90):Con Tryz.prog 35 S80:=
 Z0v h (fn:=Tryz.f35) (by kernel_rfl) rfl (by kernel_rfl) inj80 fun a h=>match a,h with
  | .inl (r,m),h=>body80a Γ h82 h90 r m h
  | .inr (r,name,key,imps,code),h=>body80b Γ h81 h90 r name key imps code h
open Go.Proofs.YtmomhjmaanagaaaGreat.objDone
def dsM:Nat→List Ds→List AV
 | _,[]=>[]
 | k,d::D=>.int .i64 d.ty::.int .i64 d.size::.msl k 0 0 d.tags.length::dsM (k+1) D
def tgO(d:Ds):Z0L:=.row (d.tags.map (.int .i64)) 1 0
def tgH:List Ds→Heap
 | []=>[]
 | d::D=>tgO d::tgH D
theorem Zdx(k:Nat):dsM k []=[]:=rfl
theorem ZaU:tgH []=[]:=rfl
theorem Z2z:∀D,(tgH D).length=D.length
 | []=>rfl
 | d::D=>by rw [tgH,List.length_cons,Z2z D,List.length_cons]
theorem Z48:∀(D:List Ds) (k:Nat),(dsM k D).length=D.length*3
 | [],_=>rfl
 | d::D,k=>by rw [dsM,List.length_cons,List.length_cons,List.length_cons,Z48 D,List.length_cons]; omega
theorem Z9m(d:Ds):∀D,tgH (D++[d])=tgH D++[.row (d.tags.map (.int .i64)) 1 0]
 | []=>rfl
 | x::D=>by rw [List.cons_append,tgH,Z9m d D]; rfl
theorem Z9H(d:Ds):∀(D:List Ds) (k:Nat),dsM k (D++[d])=dsM k D++[.int .i64 d.ty,.int .i64 d.size,.msl (D.length+k) 0 0 d.tags.length]
 | [],k=>by rw [List.length_nil,Nat.zero_add]; rfl
 | x::D,k=>by
  rw [List.cons_append,dsM,Z9H d D,List.length_cons,show D.length+(k+1)=D.length+1+k by omega]; rfl
theorem Z5P(ρ:Nat→Nat):∀D,(tgH D).map (Z1C ρ)=tgH D
 | []=>rfl
 | d::D=>by rw [tgH,List.map_cons,Z5P ρ D,tgO,Z1C,Z7l]
theorem Z4u(n:Nat):∀D,(tgH D).all (Z2H n)=true
 | []=>rfl
 | d::D=>by rw [tgH,List.all_cons,Z4u n D,tgO,Z2H,Z1o]; rfl
theorem Z7G{ρ:Nat→Nat}{k k':Nat}:∀{D:List Ds},(∀i,i<D.length→ρ (k+i)=k'+i)→Z2l ρ (dsM k D)=dsM k' D:=by
 intro D
 induction D generalizing k k' with
 | nil=>intro _; rfl
 | cons d D ih=>
  intro h
  have h0:=h 0 (by rw [List.length_cons]; omega)
  rw [dsM,dsM,Z2l,Z2l,Z2l,ih (k:=k+1) (k':=k'+1) fun i hi=>by
   have:=h (i+1) (by rw [List.length_cons]; omega)
   rw [show k+1+i=k+(i+1) by omega,this]; omega]
  simp only [ren]
  rw [show ρ k=k' from h0]
theorem Z4C{n:Nat}:∀{D:List Ds} {k:Nat},k+D.length≤n→Z0Z n (dsM k D)=true
 | [],_,_=>rfl
 | d::D,k,h=>by
  rw [List.length_cons] at h
  rw [dsM,Z0Z,Z0Z,Z0Z,Z4C (D:=D) (by omega)]
  simp only [scp,Bool.true_and,Bool.and_true,decide_eq_true_eq]
  omega
theorem Zdw(L:Heap)(v:Nat){id:Nat}:∀{D:List Ds} {k:Nat},id<k→Z3V L id v (dsM k D)=dsM k D
 | [],_,_=>rfl
 | d::D,k,h=>by
  rw [dsM,Z3V,Z3V,Z3V,Zdw L v (D:=D) (by omega)]
  have e:(k == id)=false:=by rw [beq_eq_false_iff_ne]; omega
  simp only [Z4p,e,cond_false]
theorem Zfn(L:Heap)(v:Nat)(D:List Ds):Z3V L 2 v (dsM 3 D)=dsM 3 D:=Zdw L v (by decide)
theorem ZaS(L:Heap)(id v:Nat):∀D,(tgH D).map (ZdZ L id v)=tgH D
 | []=>rfl
 | d::D=>by rw [tgH,List.map_cons,ZaS L id v D,tgO,ZdZ,Z9l]
theorem Z9I(k n:Nat):decide (k+1<n+1)=decide (k<n):=decide_eq_decide.2 (Nat.add_lt_add_iff_right)
theorem Zfp(n:Nat):decide (n<n+1)=true:=decide_eq_true (by omega)
theorem Zfo(n:Nat):decide (0<n+1)=true:=decide_eq_true (by omega)
theorem Z9r:∀(D:List Ds) (n k:Nat),Z0Z (n+1) (dsM (k+1) D)=Z0Z n (dsM k D)
 | [],_,_=>rfl
 | d::D,n,k=>by rw [dsM,dsM,Z0Z,Z0Z,Z0Z,Z0Z,Z0Z,Z0Z,Z9r D n (k+1)]; simp only [scp,Z9I]
theorem Zee(D:List Ds)(j:Nat):Z0Z (D.length+j) (dsM 0 D)=true:=Z4C (by omega)
theorem Zb5(D:List Ds):Z0Z D.length (dsM 0 D)=true:=Z4C (by omega)
theorem ZgB(D:List Ds)(M:Heap)(n:Nat):(tgH D++M).all (Z2H n)=M.all (Z2H n):=by rw [List.all_append,Z4u]; rfl
attribute [push_cast] ZgB Zfp Z9I Zfo Z9r Zee Zb5 Zfn ZaS Zdx ZaU Z2z Z48 Z5P Z4u
def e87:(Rd)→List AV×Heap:=fun r=>([.ref 0 0 0],[.row [.ref 1 0 0] 1 0,.row r.c 3 0])
def p87:(Rd)→Prop:=fun r=>r.ok
def r87:(Rd)→AV:=fun r=>.agg [.int .i64 (Z0W r).1.ty,.int .i64 (Z0W r).1.size,.msl 2 0 0 (Z0W r).1.tags.length]
def g87:(Rd)→Heap:=fun r=>[.row [.ref 1 0 0] 1 0,.row (Z0W r).2.c 3 0,.row ((Z0W r).1.tags.map (.int .i64)) 1 0]
theorem inj87:∀a b,e87 a=e87 b→a=b:=by
 rintro r r' h
 simp only [e87,Z0f,Z0h,Z0i,Z0g,Z0V,Z0u,Prod.mk.injEq,List.cons.injEq,Z0L.row.injEq,AV.int.injEq,AV.str.injEq,AV.bool.injEq,AV.sl.injEq,AV.agg.injEq,AV.ip.injEq,AV.fn.injEq,AV.ifc.injEq,AV.mpr.injEq,AV.msl.injEq,AV.ref.injEq,Int.natCast_inj,and_true,true_and] at h
 simp_all only
noncomputable def S87:Z0n:=Z1I false e87 p87 r87 g87
theorem Zk6(r:(Rd)):Z1p e87 p87 ([.ref 0 0 0],[.row [.ref 1 0 0] 1 0,.row r.c 3 0])=(r.ok):=Z0x inj87 p87 r
theorem ZjL(r:(Rd)):Z0A e87 r87 .any ([.ref 0 0 0],[.row [.ref 1 0 0] 1 0,.row r.c 3 0])=(.agg [.int .i64 (Z0W r).1.ty,.int .i64 (Z0W r).1.size,.msl 2 0 0 (Z0W r).1.tags.length]):=Z09 inj87 r87 .any r
theorem ZkJ(r:(Rd)):Z0A e87 g87 [] ([.ref 0 0 0],[.row [.ref 1 0 0] 1 0,.row r.c 3 0])=([.row [.ref 1 0 0] 1 0,.row (Z0W r).2.c 3 0,.row ((Z0W r).1.tags.map (.int .i64)) 1 0]):=Z09 inj87 g87 [] r
attribute [push_cast] S87 Zk6 ZjL ZkJ
theorem body87(Γ:Env)(h82:Γ 37=some S82)(h80:Γ 35=some S80)(r:Rd)(hr:r.ok):Z0a Tryz.prog Γ Tryz.f42 [.ref 0 0 0] [.row [.ref 1 0 0] 1 0,.row r.c 3 0] (.agg [.int .i64 (Z0W r).1.ty,.int .i64 (Z0W r).1.size,.msl 2 0 0 (Z0W r).1.tags.length]) [.row [.ref 1 0 0] 1 0,.row (Z0W r).2.c 3 0,.row ((Z0W r).1.tags.map (.int .i64)) 1 0]:=by
 have h1:=Z1M hr
 have h2:=Z1M h1.1
 (intro X hP hΓ hL hfin; refine⟨_,rfl,?_⟩; rw [show Tryz.f42.ntmps=14 from rfl]; rw [show Tryz.f42.results.toList=[.cell 1 56] from rfl] at hfin; apply holds_of_ex X 400; simp (maxSteps:=1000000) only [push_cast,reduceCtorEq,Nat.reduceAdd,Nat.reduceMul,Nat.reduceSub,Nat.reduceBEq,Nat.reduceGT,Nat.reduceLT,Int.toNat_zero,Nat.reduceLeDiff,Int.reduceEq,Int.reduceLT,Int.reduceLE,hP,hΓ,hL,hfin,↓Z00,String.reduceEq,not_false_eq_true,if_true,h82,h80])
 (refine Holds.drawnE (Z3c [.fix (.row [.ref 1 0 0] 1 0),.row 3 0]) [1,3,6] [5] [1,3] true (by rw [hP]; kernel_rfl) (by kernel_rfl) (by kernel_rfl) (by kernel_rfl) (by first | exact .inl rfl | exact .inr fun _ _ h=>Z0M _ _ h) (by first | (simp only [push_cast]; done) | (simp only [push_cast,and_true]; omega)) ?_; simp (maxSteps:=1000000) only [↓reduceIte,Option.getD_some,push_cast,reduceCtorEq,Nat.reduceAdd,Nat.reduceMul,Nat.reduceSub,Nat.reduceBEq,Nat.reduceGT,Nat.reduceLT,Int.toNat_zero,Nat.reduceLeDiff,Int.reduceEq,Int.reduceLT,Int.reduceLE,hP,hΓ,hL,hfin,↓Z00,String.reduceEq,not_false_eq_true,if_true,h82,h80])
 refine⟨hr,hr,h1.1,h1.1,?_⟩
 ((first | with_reducible refine holds_of_ex X 400 _ _ _ ?_ | skip); simp (maxSteps:=1000000) only [push_cast,reduceCtorEq,Nat.reduceAdd,Nat.reduceMul,Nat.reduceSub,Nat.reduceBEq,Nat.reduceGT,Nat.reduceLT,Int.toNat_zero,Nat.reduceLeDiff,Int.reduceEq,Int.reduceLT,Int.reduceLE,hP,hΓ,hL,hfin,↓Z00,String.reduceEq,not_false_eq_true,if_true,h82,h80])
 refine⟨h2.1,?_⟩
 simp only [Z0W,Z20]
 exact Z0k.base [0,1,4] ⟨(by simp only [push_cast,reduceCtorEq,Nat.reduceAdd,Nat.reduceMul,Nat.reduceSub,Nat.reduceBEq,Nat.reduceGT,Nat.reduceLT,Int.toNat_zero,Nat.reduceLeDiff,Int.reduceEq,Int.reduceLT,Int.reduceLE,leF]),(by first | rfl | (simp only [push_cast,reduceCtorEq,Nat.reduceAdd,Nat.reduceMul,Nat.reduceSub,Nat.reduceBEq,Nat.reduceGT,Nat.reduceLT,Int.toNat_zero,Nat.reduceLeDiff,Int.reduceEq,Int.reduceLT,Int.reduceLE,leF,Z1C]; done)),(by decide),(by first | rfl | decide),(by simp only [push_cast,reduceCtorEq,Nat.reduceAdd,Nat.reduceMul,Nat.reduceSub,Nat.reduceBEq,Nat.reduceGT,Nat.reduceLT,Int.toNat_zero,Nat.reduceLeDiff,Int.reduceEq,Int.reduceLT,Int.reduceLE]),(by simp only [push_cast,reduceCtorEq,Nat.reduceAdd,Nat.reduceMul,Nat.reduceSub,Nat.reduceBEq,Nat.reduceGT,Nat.reduceLT,Int.toNat_zero,Nat.reduceLeDiff,Int.reduceEq,Int.reduceLT,Int.reduceLE])⟩ (by first | decide | (simp only [push_cast,reduceCtorEq,Nat.reduceAdd,Nat.reduceMul,Nat.reduceSub,Nat.reduceBEq,Nat.reduceGT,Nat.reduceLT,Int.toNat_zero,Nat.reduceLeDiff,Int.reduceEq,Int.reduceLT,Int.reduceLE]; done) | simp)
theorem con87{Γ:Env}(h:Z07 Tryz.prog Γ)(h82:Γ 37=some S82)(h80:Γ 35=some S80):Con Tryz.prog 42 S87:=
 Z0v h (fn:=Tryz.f42) (by kernel_rfl) rfl (by kernel_rfl) inj87 fun r h=>body87 Γ h82 h80 r h
def e86:(Rd)→List AV×Heap:=fun r=>([.ref 0 0 0,.int .u32 200,.fn (.func 42) [] [.ref 1 0 0]],[.row r.c 3 0,.row [.ref 0 0 0] 1 0])
def p86:(Rd)→Prop:=fun r=>r.ok
def r86:(Rd)→AV:=fun r=>.msl 2 0 0 (Z0b Z0W 200 r).1.length
def g86:(Rd)→Heap:=fun r=>.row (Z0b Z0W 200 r).2.c 3 0::.row [.ref 0 0 0] 1 0::.row (dsM 3 (Z0b Z0W 200 r).1) 3 0::tgH (Z0b Z0W 200 r).1
theorem inj86:∀a b,e86 a=e86 b→a=b:=by
 rintro r r' h
 simp only [e86,Z0f,Z0h,Z0i,Z0g,Z0V,Z0u,Prod.mk.injEq,List.cons.injEq,Z0L.row.injEq,AV.int.injEq,AV.str.injEq,AV.bool.injEq,AV.sl.injEq,AV.agg.injEq,AV.ip.injEq,AV.fn.injEq,AV.ifc.injEq,AV.mpr.injEq,AV.msl.injEq,AV.ref.injEq,Int.natCast_inj,and_true,true_and] at h
 simp_all only
noncomputable def S86:Z0n:=Z1I false e86 p86 r86 g86
theorem Zk7(r:(Rd)):Z1p e86 p86 ([.ref 0 0 0,.int .u32 200,.fn (.func 42) [] [.ref 1 0 0]],[.row r.c 3 0,.row [.ref 0 0 0] 1 0])=(r.ok):=Z0x inj86 p86 r
theorem ZjM(r:(Rd)):Z0A e86 r86 .any ([.ref 0 0 0,.int .u32 200,.fn (.func 42) [] [.ref 1 0 0]],[.row r.c 3 0,.row [.ref 0 0 0] 1 0])=(.msl 2 0 0 (Z0b Z0W 200 r).1.length):=Z09 inj86 r86 .any r
theorem ZkK(r:(Rd)):Z0A e86 g86 [] ([.ref 0 0 0,.int .u32 200,.fn (.func 42) [] [.ref 1 0 0]],[.row r.c 3 0,.row [.ref 0 0 0] 1 0])=(.row (Z0b Z0W 200 r).2.c 3 0::.row [.ref 0 0 0] 1 0::.row (dsM 3 (Z0b Z0W 200 r).1) 3 0::tgH (Z0b Z0W 200 r).1):=Z09 inj86 g86 [] r
attribute [push_cast] S86 Zk7 ZjM ZkK
theorem body86(Γ:Env)(h87:Γ 42=some S87)(h90:Γ 45=some S90)(r:Rd)(hr:r.ok):Z0a Tryz.prog Γ Tryz.f41 [.ref 0 0 0,.int .u32 200,.fn (.func 42) [] [.ref 1 0 0]] [.row r.c 3 0,.row [.ref 0 0 0] 1 0] (.msl 2 0 0 (Z0b Z0W 200 r).1.length) (.row (Z0b Z0W 200 r).2.c 3 0::.row [.ref 0 0 0] 1 0::.row (dsM 3 (Z0b Z0W 200 r).1) 3 0::tgH (Z0b Z0W 200 r).1):=by
 have h1:=Z0S hr 200
 have b1:=Z2r r 200
 (intro X hP hΓ hL hfin; refine⟨_,rfl,?_⟩; rw [show Tryz.f41.ntmps=29 from rfl]; rw [show Tryz.f41.results.toList=[.tmp 6] from rfl] at hfin; apply holds_of_ex X 400; simp (maxSteps:=1000000) only [push_cast,reduceCtorEq,Nat.reduceAdd,Nat.reduceMul,Nat.reduceSub,Nat.reduceBEq,Nat.reduceGT,Nat.reduceLT,Int.toNat_zero,Nat.reduceLeDiff,Int.reduceEq,Int.reduceLT,Int.reduceLE,hP,hΓ,hL,hfin,↓Z00,String.reduceEq,not_false_eq_true,if_true,h90])
 refine⟨hr,?_⟩
 refine Holds.loopM (ι:=Z0r Z0W (Z1m r 200).1.toNat (Z1m r 200).2) [true,false,true,false,false,false,true,false,false,false,false,false,false,false,false,false,false,false,false,false,false,false,false,false,false,false,false,false,false] (fun i=>[(7,.msl 2 i.l.length 0 i.l.length),(8,.int .i64 i.c)]) (fun i=>.row i.r.c 3 0::.row [.ref 0 0 0] 1 0::.row (dsM 3 i.l) 3 i.l.length::tgH i.l) (fun i=>i.c) (Z0r.init _ _ _ h1.1) ?_ ?_
 ·rw [hL]; simp only [push_cast,Int.natCast_zero]
  (refine Z0k.nil 7  3 rfl ?_; simp only [push_cast,reduceCtorEq,Nat.reduceAdd,Nat.reduceMul,Nat.reduceSub,Nat.reduceBEq,Nat.reduceGT,Nat.reduceLT,Int.toNat_zero,Nat.reduceLeDiff,Int.reduceEq,Int.reduceLT,Int.reduceLE])
  simp only [Z0r.init,List.map_nil,List.flatMap_nil,List.length_nil,Int.toNat_of_nonneg b1.1,Zdx,ZaU]
  exact Z06.sameA
 intro s
 have hl:=s.len
 ((first | with_reducible refine holds_of_ex X 400 _ _ _ ?_ | skip); simp (maxSteps:=1000000) only [push_cast,reduceCtorEq,Nat.reduceAdd,Nat.reduceMul,Nat.reduceSub,Nat.reduceBEq,Nat.reduceGT,Nat.reduceLT,Int.toNat_zero,Nat.reduceLeDiff,Int.reduceEq,Int.reduceLT,Int.reduceLE,hP,hΓ,hL,hfin,↓Z00,String.reduceEq,not_false_eq_true,if_true])
 ((with_reducible refine Z02 (fun h=>?_) (fun h=>?_)) <;> (try simp only [decide_eq_true_eq,decide_eq_false_iff_not,Bool.and_eq_true,Bool.or_eq_true,Bool.and_eq_false_iff,Bool.or_eq_false_iff,Bool.not_eq_true',Bool.not_eq_false',Bool.not_eq_true,Bool.not_eq_false,Int.not_lt,Int.not_le,beq_iff_eq,beq_eq_false_iff_ne,ne_eq,win_t,win_f] at h))
 ·((first | with_reducible refine holds_of_ex X 400 _ _ _ ?_ | skip); simp (maxSteps:=1000000) only [push_cast,reduceCtorEq,Nat.reduceAdd,Nat.reduceMul,Nat.reduceSub,Nat.reduceBEq,Nat.reduceGT,Nat.reduceLT,Int.toNat_zero,Nat.reduceLeDiff,Int.reduceEq,Int.reduceLT,Int.reduceLE,hP,hΓ,hL,hfin,↓Z00,String.reduceEq,not_false_eq_true,if_true,h87,Z0c ((s.c:Int) - 1) (by constructor <;> omega)])
  refine⟨s.ok,by omega,s.next (fun r hr=>(Z3Q hr).1) (by omega) h.2,by simp only [Z0r.next]; omega,?_⟩
  simp only [Z0r.next,Z9H,Z9m,List.length_append,List.length_cons,List.length_nil,Nat.zero_add,show ((s.c - 1:Nat):Int)=(s.c:Int) - 1 by omega]
  exact Z06.sameA
 ·((first | with_reducible refine holds_of_ex X 400 _ _ _ ?_ | skip); simp (maxSteps:=1000000) only [push_cast,reduceCtorEq,Nat.reduceAdd,Nat.reduceMul,Nat.reduceSub,Nat.reduceBEq,Nat.reduceGT,Nat.reduceLT,Int.toNat_zero,Nat.reduceLeDiff,Int.reduceEq,Int.reduceLT,Int.reduceLE,hP,hΓ,hL,hfin,↓Z00,String.reduceEq,not_false_eq_true,if_true])
  rw [show Z0b Z0W 200 r=(s.l,s.r) from s.done (by omega)]
  (refine Z0k.ver 2  0 (by simp only [push_cast,reduceCtorEq,Nat.reduceAdd,Nat.reduceMul,Nat.reduceSub,Nat.reduceBEq,Nat.reduceGT,Nat.reduceLT,Int.toNat_zero,Nat.reduceLeDiff,Int.reduceEq,Int.reduceLT,Int.reduceLE]) (by first | exact .inr (Nat.zero_le _) | (left; simp only [push_cast,reduceCtorEq,Nat.reduceAdd,Nat.reduceMul,Nat.reduceSub,Nat.reduceBEq,Nat.reduceGT,Nat.reduceLT,Int.toNat_zero,Nat.reduceLeDiff,Int.reduceEq,Int.reduceLT,Int.reduceLE]; first | done | omega) | (right; simp only [push_cast,reduceCtorEq,Nat.reduceAdd,Nat.reduceMul,Nat.reduceSub,Nat.reduceBEq,Nat.reduceGT,Nat.reduceLT,Int.toNat_zero,Nat.reduceLeDiff,Int.reduceEq,Int.reduceLT,Int.reduceLE]; first | done | omega)) ?_; simp only [push_cast,reduceCtorEq,Nat.reduceAdd,Nat.reduceMul,Nat.reduceSub,Nat.reduceBEq,Nat.reduceGT,Nat.reduceLT,Int.toNat_zero,Nat.reduceLeDiff,Int.reduceEq,Int.reduceLT,Int.reduceLE])
  exact Z06.sameA
theorem con86{Γ:Env}(h:Z07 Tryz.prog Γ)(h87:Γ 42=some S87)(h90:Γ 45=some S90):Con Tryz.prog 41 S86:=
 Z0v h (fn:=Tryz.f41) (by kernel_rfl) rfl (by kernel_rfl) inj86 fun r h=>body86 Γ h87 h90 r h
open Go.Proofs.YtmomhjmaanagaaaGreat.objDone
def Ob.ow(o:Ob)(k:Nat):List AV:=[.str o.name,.int .u32 o.key,.msl k 0 0 o.imps.length,.msl (k+1) 0 0 o.code.length,.msl (k+4) 0 0 o.procs.length,.msl (k+2) 0 0 o.names.length,.msl (k+3) 0 0 o.exps.length,.int .i64 o.init,.msl (k+5) 0 0 o.vars.length,.msl (k+6) 0 0 o.shown.length,.msl (k+7) 0 0 o.strs.length,.msl (k+8) 0 0 o.descs.length,.msl (o.descs.length+(k+9)) 0 0 o.fixes.length]
def Ob.rw(o:Ob)(k:Nat):Heap:=.row (o.imps.flatMap Im.c) 2 0::.row (o.code.map (.int .u32)) 1 0::.row (o.names.map .str) 1 0::.row (o.exps.map .bool) 1 0::.row (o.procs.map (.int .i64)) 1 0::.row (o.vars.map (.int .i64)) 1 0::.row (o.shown.map (.int .i64)) 1 0::.row (o.strs.map .str) 1 0::.row (dsM (k+9) o.descs) 3 0::(tgH o.descs++[.row (o.fixes.flatMap Fx.c) 4 0])
theorem ZgP(a b N:Nat)(D:List Ds):Z2l (Z6p [a,b] N) (dsM 3 D)=dsM (N+1) D:=Z7G fun i _=>by
 unfold Z6p
 rw [if_neg (by simp only [List.length_cons,List.length_nil]; omega)]
 simp only [List.length_cons,List.length_nil]
 omega
def e48:(Rd)→List AV×Heap:=fun r=>([.ref 0 0 0],[.row r.c 3 0])
def p48:(Rd)→Prop:=fun r=>r.ok
def r48:(Rd)→AV:=fun r=>.agg (Ob.ow (objM r).1 4)
def g48:(Rd)→Heap:=fun r=>.row (objM r).2.c 3 0::.row [.ref 0 0 0] 1 0::.row (Ob.ow (objM r).1 4) 13 0::.row (Ob.ow (objM r).1 4) 13 0::Ob.rw (objM r).1 4
theorem inj48:∀a b,e48 a=e48 b→a=b:=by
 rintro r r' h
 simp only [e48,Z0f,Z0h,Z0i,Z0g,Z0V,Z0u,Prod.mk.injEq,List.cons.injEq,Z0L.row.injEq,AV.int.injEq,AV.str.injEq,AV.bool.injEq,AV.sl.injEq,AV.agg.injEq,AV.ip.injEq,AV.fn.injEq,AV.ifc.injEq,AV.mpr.injEq,AV.msl.injEq,AV.ref.injEq,Int.natCast_inj,and_true,true_and] at h
 simp_all only
noncomputable def S48:Z0n:=Z1I false e48 p48 r48 g48
theorem Zij(r:(Rd)):Z1p e48 p48 ([.ref 0 0 0],[.row r.c 3 0])=(r.ok):=Z0x inj48 p48 r
theorem Zi9(r:(Rd)):Z0A e48 r48 .any ([.ref 0 0 0],[.row r.c 3 0])=(.agg (Ob.ow (objM r).1 4)):=Z09 inj48 r48 .any r
theorem ZiI(r:(Rd)):Z0A e48 g48 [] ([.ref 0 0 0],[.row r.c 3 0])=(.row (objM r).2.c 3 0::.row [.ref 0 0 0] 1 0::.row (Ob.ow (objM r).1 4) 13 0::.row (Ob.ow (objM r).1 4) 13 0::Ob.rw (objM r).1 4):=Z09 inj48 g48 [] r
attribute [push_cast] S48 Zij Zi9 ZiI
theorem body48(Γ:Env)(h75:Γ 30=some S75)(h76:Γ 31=some S76)(h77:Γ 32=some S77)(h79:Γ 34=some S79)(h80:Γ 35=some S80)(h82:Γ 37=some S82)(h84:Γ 39=some S84)(h86:Γ 41=some S86)(h88:Γ 43=some S88)(r:Rd)(hr:r.ok) :
  Z0a Tryz.prog Γ Tryz.f14 [.ref 0 0 0] [.row r.c 3 0] (.agg (Ob.ow (objM r).1 4)) (.row (objM r).2.c 3 0::.row [.ref 0 0 0] 1 0::.row (Ob.ow (objM r).1 4) 13 0::.row (Ob.ow (objM r).1 4) 13 0::Ob.rw (objM r).1 4):=by
 have ⟨h1,_⟩:=Z1i hr 20
 have ⟨h2,_⟩:=Z1Q h1
 have ⟨h3,_⟩:=Z0K (one:=Z0y) (fun r hr=>Z1X hr) 16 h2
 have ⟨h4,_⟩:=Z0K (one:=Z0T) (fun r hr=>Z1Q hr) 65536 h3
 have ⟨h5,_⟩:=Z0K (one:=Z0I) (fun r hr=>Z3H hr) 100 h4
 have ⟨h6,_⟩:=Z1M h5
 have ⟨h7,_⟩:=Z0K (one:=Z20) (fun r hr=>Z1M hr) 200 h6
 have ⟨h8,_⟩:=Z0K (one:=Z20) (fun r hr=>Z1M hr) 200 h7
 have ⟨h9,_⟩:=Z0K (fun r hr=>Z1i hr 200) 200 h8
 have ⟨h10,_⟩:=Z0K (one:=Z0W) (fun r hr=>Z3Q hr) 200 h9
 (intro X hP hΓ hL hfin; refine⟨_,rfl,?_⟩; rw [show Tryz.f14.ntmps=48 from rfl]; rw [show Tryz.f14.results.toList=[.cell 2 33] from rfl] at hfin; apply holds_of_ex X 400; simp (maxSteps:=1000000) only [push_cast,reduceCtorEq,Nat.reduceAdd,Nat.reduceMul,Nat.reduceSub,Nat.reduceBEq,Nat.reduceGT,Nat.reduceLT,Int.toNat_zero,Nat.reduceLeDiff,Int.reduceEq,Int.reduceLT,Int.reduceLE,hP,hΓ,hL,hfin,↓Z00,String.reduceEq,not_false_eq_true,if_true,h75,h76])
 (refine Holds.drawnE (Z3c [.row 3 0,.fix (.row [.ref 0 0 0] 1 0)]) [1,3,6] [5] [1,3] true (by rw [hP]; kernel_rfl) (by kernel_rfl) (by kernel_rfl) (by kernel_rfl) (by first | exact .inl rfl | exact .inr fun _ _ h=>Z0M _ _ h) (by first | (simp only [push_cast]; done) | (simp only [push_cast,and_true]; omega)) ?_; simp (maxSteps:=1000000) only [↓reduceIte,Option.getD_some,push_cast,reduceCtorEq,Nat.reduceAdd,Nat.reduceMul,Nat.reduceSub,Nat.reduceBEq,Nat.reduceGT,Nat.reduceLT,Int.toNat_zero,Nat.reduceLeDiff,Int.reduceEq,Int.reduceLT,Int.reduceLE,hP,hΓ,hL,hfin,↓Z00,String.reduceEq,not_false_eq_true,if_true,h75,h76])
 (repeat (refine And.intro (by first | exact True.intro | omega | assumption | exact own_row _ | (simp only [List.length_append]; omega) | (intro hg; (try simp only [decide_eq_true_eq,decide_eq_false_iff_not,Bool.and_eq_true,Bool.or_eq_true,Bool.and_eq_false_iff,Bool.or_eq_false_iff,Bool.not_eq_true',Bool.not_eq_false',Bool.not_eq_true,Bool.not_eq_false,Int.not_lt,Int.not_le,beq_iff_eq,beq_eq_false_iff_ne,ne_eq,win_t,win_f] at hg); omega)) ?_))
 simp only [Z20] at *
 ((first | with_reducible refine holds_of_ex X 400 _ _ _ ?_ | skip); simp (maxSteps:=1000000) only [push_cast,reduceCtorEq,Nat.reduceAdd,Nat.reduceMul,Nat.reduceSub,Nat.reduceBEq,Nat.reduceGT,Nat.reduceLT,Int.toNat_zero,Nat.reduceLeDiff,Int.reduceEq,Int.reduceLT,Int.reduceLE,hP,hΓ,hL,hfin,↓Z00,String.reduceEq,not_false_eq_true,if_true,h75,h76,h77,h79,h80,h82,h84,h86,h88])
 (repeat' (first | assumption | decide | omega | with_reducible apply And.intro))
 rw [ZgP]
 simp only [objM,Z20,Ob.ow,Ob.rw,List.length_map]
 exact Z06.sameA
theorem con48{Γ:Env}(h:Z07 Tryz.prog Γ)(h75:Γ 30=some S75)(h76:Γ 31=some S76)(h77:Γ 32=some S77)(h79:Γ 34=some S79)(h80:Γ 35=some S80)(h82:Γ 37=some S82)(h84:Γ 39=some S84)(h86:Γ 41=some S86)(h88:Γ 43=some S88):Con Tryz.prog 14 S48:=
 Z0v h (fn:=Tryz.f14) (by kernel_rfl) rfl (by kernel_rfl) inj48 fun r h=>body48 Γ h75 h76 h77 h79 h80 h82 h84 h86 h88 r h
open Go.Proofs.YtmomhjmaanagaaaGreat.objDone
theorem Z3C(D:List Ds)(M:Heap)(j:Nat):(tgH D++M)[D.length+j]?=M[j]?:=by
 rw [List.getElem?_append_right (by rw [Z2z]; omega),Z2z,Nat.add_sub_cancel_left]
theorem Z3B(D:List Ds)(M:Heap):(tgH D++M)[D.length]?=M[0]?:=Z3C D M 0
theorem ZaT(D:List Ds)(M:Heap)(j:Nat)(x:Z0L):(tgH D++M).set (D.length+j) x=tgH D++M.set j x:=by
 rw [List.set_append_right _ _ (by rw [Z2z]; omega),Z2z,Nat.add_sub_cancel_left]
theorem tgH_set0(D:List Ds)(M:Heap)(x:Z0L):(tgH D++M).set D.length x=tgH D++M.set 0 x:=ZaT D M 0 x
theorem ZgQ(i N n k:Nat):Z6p [i] N (n+(k+1))=n+(N+k):=by
 unfold Z6p
 rw [if_neg (by simp only [List.length_cons,List.length_nil]; omega)]
 simp only [List.length_cons,List.length_nil]
 omega
theorem Zic(i N k:Nat)(D:List Ds):Z2l (Z6p [i] N) (dsM (k+1) D)=dsM (N+k) D:=Z7G fun j _=>by
 unfold Z6p
 rw [if_neg (by simp only [List.length_cons,List.length_nil]; omega)]
 simp only [List.length_cons,List.length_nil]
 omega
theorem Ze5(D:List Ds)(M:Heap)(ρ:Nat→Nat):(tgH D++M).map (Z1C ρ)=tgH D++M.map (Z1C ρ):=by rw [List.map_append,Z5P]
theorem Ze6(D:List Ds)(M N:Heap):tgH D++M++N=tgH D++(M++N):=List.append_assoc ..
theorem Z5Q(M:Heap):∀(D:List Ds) (i:Nat) (h:i<D.length),(tgH D++M)[i]?=some (.row (D[i].tags.map (.int .i64)) 1 0)
 | d::D,0,_=>rfl
 | d::D,i+1,h=>Z5Q M D i (by rw [List.length_cons] at h; omega)
attribute [push_cast] Z3C Z3B ZaT tgH_set0 Zic Ze5 Ze6
structure Zfz(L:Heap)(k:Nat)(o:Ob):Prop where
 i0:L[k]?=some (.row (o.imps.flatMap Im.c) 2 0)
 i1:L[k+1]?=some (.row (o.code.map (.int .u32)) 1 0)
 i2:L[k+2]?=some (.row (o.names.map .str) 1 0)
 i3:L[k+3]?=some (.row (o.exps.map .bool) 1 0)
 i4:L[k+4]?=some (.row (o.procs.map (.int .i64)) 1 0)
 i5:L[k+5]?=some (.row (o.vars.map (.int .i64)) 1 0)
 i6:L[k+6]?=some (.row (o.shown.map (.int .i64)) 1 0)
 i7:L[k+7]?=some (.row (o.strs.map .str) 1 0)
 i8:L[k+8]?=some (.row (dsM (k+9) o.descs) 3 0)
 it:∀i (h:i<o.descs.length),L[k+9+i]?=some (.row (o.descs[i].tags.map (.int .i64)) 1 0)
 i9:L[o.descs.length+(k+9)]?=some (.row (o.fixes.flatMap Fx.c) 4 0)
theorem Z2i{L:Heap}{sub:AV→AV}{id n sz:Nat}{cs cs':List AV}(h:L[id]?=some (.row cs sz 0))(hn:cs.length=n*sz)(hc:cs.map sub=cs'):Z1b L keep0 sub (.msl id 0 0 n)=.sl cs' n:=by
 have h1:Z0Q L id=cs:=by simp only [Z0Q,h]
 have h2:Z1S L id=sz:=by simp only [Z1S,h]
 show AV.sl ((((Z0Q L id).drop (0*Z1S L id)).take (n*Z1S L id)).map sub) n=_
 rw [h1,h2,Nat.zero_mul,List.drop_zero,List.take_of_length_le (by omega),hc]
theorem Z2h{L:Heap}{sub:AV→Prop}{id n sz:Nat}{cs:List AV}(h:L[id]?=some (.row cs sz 0))(hn:cs.length=n*sz)(hc:∀x∈cs,sub x):Z1z L keep0 sub (.msl id 0 0 n):=by
 have h1:Z0Q L id=cs:=by simp only [Z0Q,h]
 have h2:Z1S L id=sz:=by simp only [Z1S,h]
 show Z1q L id 0∧∀x∈((Z0Q L id).drop (0*Z1S L id)).take (n*Z1S L id),sub x
 rw [h1,h2,Nat.zero_mul,List.drop_zero,List.take_of_length_le (by omega)]
 exact⟨⟨by simp only [isRow,h],by simp only [Z1G,h]⟩,hc⟩
theorem Z9C{L:Heap}:∀(D:List Ds) (k:Nat),(∀i (h:i<D.length),L[k+i]?=some (.row (D[i].tags.map (.int .i64)) 1 0))→(dsM k D).map (d2 L keep0)=D.flatMap Ds.c
 | [],_,_=>rfl
 | d::D,k,h=>by
  have ih:=Z9C (L:=L) D (k+1) fun i hi=>by
   have:=h (i+1) (by rw [List.length_cons]; omega)
   rw [show k+1+i=k+(i+1) by omega,this]; rfl
  have h0:=h 0 (by rw [List.length_cons]; omega)
  rw [dsM,List.map_cons,List.map_cons,List.map_cons,ih,List.flatMap_cons]
  rw [show d2 L keep0 (.msl k 0 0 d.tags.length)=.sl (d.tags.map (.int .i64)) d.tags.length from Z2i (sz:=1) h0 (by rw [List.getElem_cons_zero,List.length_map,Nat.mul_one]) (Zgt ..)]
  rfl
theorem Z9B{L:Heap}:∀(D:List Ds) (k:Nat),(∀i (h:i<D.length),L[k+i]?=some (.row (D[i].tags.map (.int .i64)) 1 0))→∀x∈dsM k D,l2 L keep0 x
 | [],_,_,x,hx=>by cases hx
 | d::D,k,h,x,hx=>by
  have ih:=Z9B (L:=L) D (k+1) fun i hi=>by
   have:=h (i+1) (by rw [List.length_cons]; omega)
   rw [show k+1+i=k+(i+1) by omega,this]; rfl
  have h0:=h 0 (by rw [List.length_cons]; omega)
  rw [dsM,List.mem_cons,List.mem_cons,List.mem_cons] at hx
  rcases hx with rfl | rfl | rfl | hx
  ·exact trivial
  ·exact trivial
  ·exact Z2h (sz:=1) h0 (by rw [List.getElem_cons_zero,List.length_map,Nat.mul_one]) (of_eq_true (ZfZ ..))
  ·exact ih x hx
theorem lM{α:Type}(f:α→AV)(l:List α):(l.map f).length=l.length*1:=by rw [List.length_map,Nat.mul_one]
theorem Zfz.lend{L:Heap}{k:Nat}{o:Ob}(h:Zfz L k o):Z4T L (.agg (Ob.ow o k))=.agg o.c:=by
 show AV.agg ((Ob.ow o k).map (d3 L keep0))=_
 have e0:d3 L keep0 (.msl k 0 0 o.imps.length)=.sl (o.imps.flatMap Im.c) o.imps.length:=Z2i h.i0 (Z46 (n:=2) ..) (ZhL ..)
 have e1:d3 L keep0 (.msl (k+1) 0 0 o.code.length)=.sl (o.code.map (.int .u32)) o.code.length:=Z2i h.i1 (lM ..) (Z5u ..)
 have e2:d3 L keep0 (.msl (k+2) 0 0 o.names.length)=.sl (o.names.map .str) o.names.length:=Z2i h.i2 (lM ..) (Z5u ..)
 have e3:d3 L keep0 (.msl (k+3) 0 0 o.exps.length)=.sl (o.exps.map .bool) o.exps.length:=Z2i h.i3 (lM ..) (Z5u ..)
 have e4:d3 L keep0 (.msl (k+4) 0 0 o.procs.length)=.sl (o.procs.map (.int .i64)) o.procs.length:=Z2i h.i4 (lM ..) (Z5u ..)
 have e5:d3 L keep0 (.msl (k+5) 0 0 o.vars.length)=.sl (o.vars.map (.int .i64)) o.vars.length:=Z2i h.i5 (lM ..) (Z5u ..)
 have e6:d3 L keep0 (.msl (k+6) 0 0 o.shown.length)=.sl (o.shown.map (.int .i64)) o.shown.length:=Z2i h.i6 (lM ..) (Z5u ..)
 have e7:d3 L keep0 (.msl (k+7) 0 0 o.strs.length)=.sl (o.strs.map .str) o.strs.length:=Z2i h.i7 (lM ..) (Z5u ..)
 have e8:d3 L keep0 (.msl (k+8) 0 0 o.descs.length)=.sl (o.descs.flatMap Ds.c) o.descs.length:=Z2i h.i8 (Z48 ..) (Z9C _ _ h.it)
 have e9:d3 L keep0 (.msl (o.descs.length+(k+9)) 0 0 o.fixes.length)=.sl (o.fixes.flatMap Fx.c) o.fixes.length:=Z2i h.i9 (Z46 (n:=4) ..) (ZhL ..)
 simp only [Ob.ow,List.map_cons,List.map_nil,e0,e1,e2,e3,e4,e5,e6,e7,e8,e9]
 rfl
theorem Zfz.lent{L:Heap}{k:Nat}{o:Ob}(h:Zfz L k o):lent L (.agg (Ob.ow o k)):=by
 show ∀x∈Ob.ow o k,l3 L keep0 x
 intro x hx
 simp only [Ob.ow,List.mem_cons,List.not_mem_nil,or_false] at hx
 rcases hx with rfl | rfl | rfl | rfl | rfl | rfl | rfl | rfl | rfl | rfl | rfl | rfl | rfl
 ·exact trivial
 ·exact trivial
 ·exact Z2h h.i0 (Z46 (n:=2) ..) (of_eq_true (Zhm ..))
 ·exact Z2h h.i1 (lM ..) (of_eq_true (Z5n ..))
 ·exact Z2h h.i4 (lM ..) (of_eq_true (Z5n ..))
 ·exact Z2h h.i2 (lM ..) (of_eq_true (Z5n ..))
 ·exact Z2h h.i3 (lM ..) (of_eq_true (Z5n ..))
 ·exact trivial
 ·exact Z2h h.i5 (lM ..) (of_eq_true (Z5n ..))
 ·exact Z2h h.i6 (lM ..) (of_eq_true (Z5n ..))
 ·exact Z2h h.i7 (lM ..) (of_eq_true (Z5n ..))
 ·exact Z2h h.i8 (Z48 ..) (Z9B _ _ h.it)
 ·exact Z2h h.i9 (Z46 (n:=4) ..) (of_eq_true (Zhm ..))
open Go.Proofs.YtmomhjmaanagaaaGreat.objDone
def upd{α:Type}(f:α→α)(l:List α)(i:Nat):List α:=(l.take i).map f++l.drop i
theorem Z5O{α:Type}(f:α→α)(l:List α):upd f l 0=l:=rfl
theorem Z22{α:Type}(f:α→α)(l:List α)(i:Nat):(upd f l i).length=l.length:=by
 unfold upd; rw [List.length_append,List.length_map,List.length_take,List.length_drop]; omega
theorem Z2N{α:Type}(f:α→α)(l:List α):upd f l l.length=l.map f:=by
 unfold upd; rw [List.take_length,List.drop_length,List.append_nil]
theorem Z7a{α:Type}(f:α→α){l:List α}{i:Nat}(h:i<l.length):(upd f l i)[i]'(by rw [Z22]; exact h)=l[i]:=by
 have e:((l.take i).map f).length=i:=by rw [List.length_map,List.length_take]; omega
 simp only [upd]
 rw [List.getElem_append_right (by omega),List.getElem_drop]
 simp only [e,Nat.sub_self,Nat.add_zero]
theorem Z2M{α:Type}(f:α→α){l:List α}{i:Nat}(h:i<l.length):(upd f l i).set i (f l[i])=upd f l (i+1):=by
 have e:((l.take i).map f).length=i:=by rw [List.length_map,List.length_take]; omega
 unfold upd
 rw [List.set_append_right _ _ (by omega),e,Nat.sub_self,List.drop_eq_getElem_cons h,List.set_cons_zero,List.take_succ_eq_append_getElem h,List.map_append,List.append_assoc]
 rfl
theorem Z5h{α:Type}(g:α→AV){l:List α}{i:Nat}(y:α)(h:i<l.length):List.take i (l.map g)++[g y]++List.drop (i+1) (l.map g)=(l.set i y).map g:=by
 rw [List.set_eq_take_append_cons_drop,if_pos h,List.map_append,List.map_cons,List.map_take,List.map_drop,List.append_assoc]
 rfl
theorem ZgE{α:Type}{g:α→List AV}{n:Nat}[Z2C g n]{l:List α}{i a:Nat}{v:AV}{y:α}(h:i<l.length)(ha:a<n)(e:List.take a (g l[i])++[v]++List.drop (a+1) (g l[i])=g y) :
  List.take (i*n+a) (l.flatMap g)++[v]++List.drop (i*n+a+1) (l.flatMap g)=(l.set i y).flatMap g:=by
 have hs:l=l.take i++l[i]::l.drop (i+1):=by rw [←List.drop_eq_getElem_cons h,List.take_append_drop]
 have hl:((l.take i).flatMap g).length=i*n:=by rw [Z46 (n:=n),List.length_take]; congr 1; omega
 have hw:(g l[i]).length=n:=Z2C.len _
 have hd:List.drop (i*n+a+1) ((l.take i).flatMap g)=[]:=List.drop_eq_nil_of_le (by omega)
 rw [List.set_eq_take_append_cons_drop,if_pos h,List.flatMap_append,List.flatMap_cons,←e]
 conv=>lhs; rw [hs]
 rw [List.flatMap_append,List.flatMap_cons,List.take_append,List.drop_append,hl,List.take_of_length_le (by omega),hd,show i*n+a - i*n=a by omega,show i*n+a+1 - i*n=a+1 by omega,
  List.take_append_of_le_length (by omega),List.drop_append_of_le_length (by omega)]
 simp only [List.append_assoc,List.nil_append]
theorem Z9a:∀{D:List Ds} {i:Nat} (k:Nat) (h:i<D.length),List.drop (i*3) (dsM k D)=.int .i64 D[i].ty::.int .i64 D[i].size::.msl (k+i) 0 0 D[i].tags.length::dsM (k+i+1) (D.drop (i+1))
 | d::D,0,k,_=>by rw [Nat.zero_mul,List.drop_zero,dsM]; rfl
 | d::D,i+1,k,h=>by
  rw [dsM,show (i+1)*3=i*3+1+1+1 by omega,List.drop_succ_cons,List.drop_succ_cons,List.drop_succ_cons,Z9a (D:=D) (k+1) (by rw [List.length_cons] at h; omega),show k+1+i=k+(i+1) by omega]
  rfl
theorem Z6f:∀(A B:List Ds) (k:Nat),dsM k (A++B)=dsM k A++dsM (k+A.length) B
 | [],_,_=>rfl
 | a::A,B,k=>by rw [List.cons_append,dsM,dsM,Z6f A B (k+1),List.length_cons,show k+1+A.length=k+(A.length+1) by omega]; rfl
theorem Zi6{D:List Ds}{i:Nat}(k:Nat)(s:Int)(h:i<D.length):List.take (i*3+1) (dsM k D)++[.int .i64 s]++List.drop (i*3+1+1) (dsM k D)=dsM k (D.set i ⟨D[i].ty,s,D[i].tags⟩):=by
 have hs:D=D.take i++D[i]::D.drop (i+1):=by rw [←List.drop_eq_getElem_cons h,List.take_append_drop]
 have hl:(dsM k (D.take i)).length=i*3:=by rw [Z48,List.length_take]; congr 1; omega
 have hd:List.drop (i*3+1+1) (dsM k (D.take i))=[]:=List.drop_eq_nil_of_le (by omega)
 rw [List.set_eq_take_append_cons_drop,if_pos h,Z6f]
 conv=>lhs; rw [hs,Z6f]
 rw [List.take_append,List.drop_append,hl,List.take_of_length_le (by omega),hd,show i*3+1 - i*3=1 by omega,show i*3+1+1 - i*3=2 by omega]
 simp only [dsM,List.take_succ_cons,List.take_zero,List.drop_succ_cons,List.drop_zero,List.append_assoc,List.nil_append,List.cons_append]
theorem Z9G{D:List Ds}{i:Nat}(k:Nat)(t:List Int)(h:i<D.length)(ht:t.length=D[i].tags.length):dsM k (D.set i ⟨D[i].ty,D[i].size,t⟩)=dsM k D:=by
 have hs:D=D.take i++D[i]::D.drop (i+1):=by rw [←List.drop_eq_getElem_cons h,List.take_append_drop]
 rw [List.set_eq_take_append_cons_drop,if_pos h,Z6f]
 conv=>rhs; rw [hs,Z6f]
 rw [dsM,dsM]
 simp only [ht]
theorem Z7d(M:Heap)(t:List Int)(a b:Int):∀(D:List Ds) (i:Nat),i<D.length→(tgH D++M).set i (.row (t.map (.int .i64)) 1 0)=tgH (D.set i ⟨a,b,t⟩)++M
 | d::D,0,_=>rfl
 | d::D,i+1,h=>by
  rw [tgH,List.cons_append,List.set_cons_succ,Z7d M t a b D i (by rw [List.length_cons] at h; omega)]; rfl
theorem Z7e(s:Int):∀(D:List Ds) (i:Nat) (h:i<D.length),tgH (D.set i ⟨D[i].ty,s,D[i].tags⟩)=tgH D
 | d::D,0,_=>rfl
 | d::D,i+1,h=>by
  have:=Z7e s D i (by rw [List.length_cons] at h; omega)
  rw [List.set_cons_succ,tgH,tgH]
  exact congrArg _ this
end Go.Proofs.YtmomhjmaanagaaaGreat.objOwn
end
