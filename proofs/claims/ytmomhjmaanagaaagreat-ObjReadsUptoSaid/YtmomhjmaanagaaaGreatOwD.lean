/- Of objects: Decode, its object's rows its caller's own. Conditions stand in each. -/
import Derived.Test.YtmomhjmaanagaaaGreatMa
import Derived.Test.YtmomhjmaanagaaaGreatQF
set_option linter.unusedVariables false
set_option linter.unusedSimpArgs false
set_option maxRecDepth 100000
set_option maxHeartbeats 8000000
namespace Go.Proofs.YtmomhjmaanagaaaGreat.objOwn
open Go Go.Eng Go.Proofs
open Go.Proofs.YtmomhjmaanagaaaGreat.objDone
def zC:List AV:=[.str [],.int .u32 0,.lit (.slice none 0 0),.lit (.slice none 0 0),.lit (.slice none 0 0),.lit (.slice none 0 0),.lit (.slice none 0 0),.int .i64 0,.lit (.slice none 0 0),.lit (.slice none 0 0),.lit (.slice none 0 0),.lit (.slice none 0 0),.lit (.slice none 0 0)]
def dH(z:List AV)(r:Rd)(o:Ob):Heap:=.row z 13 0::.row r.c 3 0::.row [.ref 1 0 0] 1 0::.row (Ob.ow o 5) 13 0::.row (Ob.ow o 5) 13 0::.row (o.imps.flatMap Im.c) 2 0::.row (o.code.map (.int .u32)) 1 0::.row (o.names.map .str) 1 0::.row (o.exps.map .bool) 1 0::.row (o.procs.map (.int .i64)) 1 0::.row (o.vars.map (.int .i64)) 1 0::.row (o.shown.map (.int .i64)) 1 0::.row (o.strs.map .str) 1 0::.row (dsM 14 o.descs) 3 0::(tgH o.descs++[.row (o.fixes.flatMap Fx.c) 4 0,.row (Ob.ow o 5) 13 0])
theorem ZiX(z:List AV)(r:Rd)(o:Ob):Zfz (dH z r o) 5 o:=by
 refine⟨rfl,rfl,rfl,rfl,rfl,rfl,rfl,rfl,rfl,fun i h=>?_,?_⟩
 ·rw [show 5+9+i=i+14 by omega]
  exact Z5Q _ _ i h
 ·show (dH z r o)[o.descs.length+14]?=_
  exact Z3B o.descs _
theorem ZdA(z:List AV)(r:Rd)(o:Ob):(dH z r o)[o.descs.length+15]?=some (.row (Ob.ow o 5) 13 0):=Z3C o.descs _ 1
theorem Zgs(z:List AV)(r:Rd)(o:Ob):(dH z r o)[0]?=some (.row z 13 0):=rfl
theorem Zgq(z y:List AV)(r:Rd)(o:Ob):(dH z r o).set 0 (.row y 13 0)=dH y r o:=rfl
theorem Z9K(z:List AV)(r:Rd)(o:Ob):(dH z r o).length=o.descs.length+16:=by
 unfold dH
 simp only [List.length_cons,List.length_append,List.length_nil,Z2z]
theorem Z6Q{o:Ob}{k n:Nat}(h:o.descs.length+(k+9)<n):Z0Z n (Ob.ow o k)=true:=by
 simp only [Ob.ow,Z0Z,scp,Bool.and_true,Bool.true_and,Bool.and_eq_true,decide_eq_true_eq]
 omega
theorem ZiW(r:Rd)(o:Ob):(dH (Ob.ow o 5) r o).all (Z2H (dH (Ob.ow o 5) r o).length)=true:=by
 rw [Z9K]
 have e1:Z0Z (o.descs.length+16) (Ob.ow o 5)=true:=Z6Q (by omega)
 have e2:Z0Z (o.descs.length+16) (dsM 14 o.descs)=true:=Z4C (by omega)
 unfold dH
 simp only [List.all_cons,List.all_nil,List.all_append,Z2H,Z52,Z1o,Z4u,e1,e2,Rd.c,Z0Z,scp,Bool.and_true,Bool.true_and,decide_eq_true_eq]
 omega
theorem ZfB:zC.length=13:=rfl
theorem ZaK:List.drop 13 zC=[]:=rfl
theorem ZbT(o:Ob)(k:Nat):(Ob.ow o k).length=13:=rfl
theorem Z8Z(o:Ob)(k:Nat):List.take 13 (Ob.ow o k)=Ob.ow o k:=rfl
theorem ZbS(o:Ob)(k:Nat):Z0m (Ob.ow o k)=true:=rfl
def ZdW(b:Z04):AV:=.tup [.agg (if (Z1L b).2.2=0 then Ob.ow (Z1L b).1 5 else (Z1L b).1.c),.int .i64 (Z1L b).2.1,.int .i64 (Z1L b).2.2]
def ZdX(b:Z04):Heap:=if (Z1L b).2.2=0 then dH (Ob.ow (Z1L b).1 5) (Z9F b).2 (Z1L b).1 else []
theorem Z5b{b:Z04}{m:Ob×Int×Int}(h:Z1L b=m)(h2:m.2.2≠0):ZdW b=.tup [.agg m.1.c,.int .i64 m.2.1,.int .i64 m.2.2]:=by
 unfold ZdW; rw [h,if_neg h2]
theorem Z5c{b:Z04}{m:Ob×Int×Int}(h:Z1L b=m)(h2:m.2.2≠0):ZdX b=[]:=by
 unfold ZdX; rw [h,if_neg h2]
def e21:(Z04)→List AV×Heap:=fun b=>([.sl (b.map Z03) b.length],[])
def p21:(Z04)→Prop:=fun b=>b.length≤4194304
def r21:(Z04)→AV:=fun b=>ZdW b
def g21:(Z04)→Heap:=fun b=>ZdX b
theorem inj21:∀a b,e21 a=e21 b→a=b:=by
 rintro b b' h
 simp only [e21,Z0f,Z0h,Z0i,Z0g,Z0V,Z0u,Prod.mk.injEq,List.cons.injEq,Z0L.row.injEq,AV.int.injEq,AV.str.injEq,AV.bool.injEq,AV.sl.injEq,AV.agg.injEq,AV.ip.injEq,AV.fn.injEq,AV.ifc.injEq,AV.mpr.injEq,AV.msl.injEq,AV.ref.injEq,Int.natCast_inj,and_true,true_and] at h
 simp_all only
noncomputable def S21:Z0n:=Z1I false e21 p21 r21 g21
theorem Zik(b:(Z04)):Z1p e21 p21 ([.sl (b.map Z03) b.length],[])=(b.length≤4194304):=Z0x inj21 p21 b
theorem Zia(b:(Z04)):Z0A e21 r21 .any ([.sl (b.map Z03) b.length],[])=(ZdW b):=Z09 inj21 r21 .any b
theorem ZiJ(b:(Z04)):Z0A e21 g21 [] ([.sl (b.map Z03) b.length],[])=(ZdX b):=Z09 inj21 g21 [] b
attribute [push_cast] S21 Zik Zia ZiJ
theorem body21(Γ:Env)(h47:Γ 12=some S47)(h42:Γ 13=some S42)(h48:Γ 14=some S48)(h49:Γ 15=some S49)(h17:Γ 16=some S17)(b:Z04)(hb:b.length≤4194304) :
  Z0a Tryz.prog Γ Tryz.f6 [.sl (b.map Z03) b.length] [] (ZdW b) (ZdX b):=by
 have hE:∀h:8≤b.length,(⟨b.take (b.length - 4),4,-1⟩:Rd).ok:=fun h=>⟨by simp; omega,by simp,by simp; omega⟩
 (intro X hP hΓ hL hfin; refine⟨_,rfl,?_⟩; rw [show Tryz.f6.ntmps=78 from rfl]; rw [show Tryz.f6.results.toList=[.cell 2 33,.tmp 3,.tmp 4] from rfl] at hfin; apply holds_of_ex X 400; simp (maxSteps:=1000000) only [push_cast,reduceCtorEq,Nat.reduceAdd,Nat.reduceMul,Nat.reduceSub,Nat.reduceBEq,Nat.reduceGT,Nat.reduceLT,Int.toNat_zero,Nat.reduceLeDiff,Int.reduceEq,Int.reduceLT,Int.reduceLE,hP,hΓ,hL,hfin,↓Z00,String.reduceEq,not_false_eq_true,if_true])
 refine⟨fun h=>?_,fun h=>?_,?_⟩
 ·simp only [Bool.not_eq_true',Bool.or_eq_false_iff,decide_eq_false_iff_not] at h; omega
 ·simp only [Bool.not_eq_true',Bool.or_eq_false_iff,decide_eq_false_iff_not] at h
  refine⟨by rw [←List.map_take]; exact Z1N _,by simp; omega⟩
 rw [←List.map_take,Z12]
 refine Z02 (fun h=>?_) (fun h=>?_)
 ·have hh:Z8j b=false:=by
   rw [←Bool.not_eq_true]
   intro hc
   simp only [Z8j,Bool.and_eq_true,decide_eq_true_eq,beq_iff_eq] at hc
   simp only [Bool.or_eq_true,decide_eq_true_eq,Bool.not_eq_true',beq_eq_false_iff_ne] at h
   rcases h with h | h
   ·omega
   ·exact h (by simpa using hc.2)
  ((first | with_reducible refine holds_of_ex X 400 _ _ _ ?_ | skip); simp (maxSteps:=1000000) only [push_cast,reduceCtorEq,Nat.reduceAdd,Nat.reduceMul,Nat.reduceSub,Nat.reduceBEq,Nat.reduceGT,Nat.reduceLT,Int.toNat_zero,Nat.reduceLeDiff,Int.reduceEq,Int.reduceLT,Int.reduceLE,hP,hΓ,hL,hfin,↓Z00,String.reduceEq,not_false_eq_true,if_true])
  rw [Z5b (m:=(.zero,0,71)) (by rw [Z1L,if_pos hh]) (show (71:Int)≠0 by decide),Z5c (m:=(.zero,0,71)) (by rw [Z1L,if_pos hh]) (show (71:Int)≠0 by decide)]
  refine Z0k.soft ?_
  simp only [push_cast,Ob.zero,Ob.c,List.map_nil,List.flatMap_nil,List.length_nil]
  exact Z06.keep0A
 have hh:Z8j b=true:=by
  simp only [Bool.or_eq_false_iff,decide_eq_false_iff_not,Bool.not_eq_false',beq_iff_eq] at h
  simp only [Z8j,Bool.and_eq_true,decide_eq_true_eq,beq_iff_eq]
  exact⟨by omega,by simpa using h.2⟩
 have h8:8≤b.length:=by
  simp only [Z8j,Bool.and_eq_true,decide_eq_true_eq] at hh; omega
 ((first | with_reducible refine holds_of_ex X 400 _ _ _ ?_ | skip); simp (maxSteps:=1000000) only [push_cast,reduceCtorEq,Nat.reduceAdd,Nat.reduceMul,Nat.reduceSub,Nat.reduceBEq,Nat.reduceGT,Nat.reduceLT,Int.toNat_zero,Nat.reduceLeDiff,Int.reduceEq,Int.reduceLT,Int.reduceLE,hP,hΓ,hL,hfin,↓Z00,String.reduceEq,not_false_eq_true,if_true,h47,h42,Z0c ((b.length:Int) - 4) (by constructor <;> omega),←List.map_take])
 have hB:(objNumbersDone.BIG:Nat)=140737488355328:=rfl
 have hn:((b.length:Int) - 4).toNat=b.length - 4:=by omega
 rw [hn]
 refine⟨hb,⟨by omega,by omega,by omega⟩,⟨by omega,by omega⟩,?_⟩
 refine Z02 (fun h2=>?_) (fun h2=>?_)
 ·((first | with_reducible refine holds_of_ex X 400 _ _ _ ?_ | skip); simp (maxSteps:=1000000) only [push_cast,reduceCtorEq,Nat.reduceAdd,Nat.reduceMul,Nat.reduceSub,Nat.reduceBEq,Nat.reduceGT,Nat.reduceLT,Int.toNat_zero,Nat.reduceLeDiff,Int.reduceEq,Int.reduceLT,Int.reduceLE,hP,hΓ,hL,hfin,↓Z00,String.reduceEq,not_false_eq_true,if_true])
  have hd:Z1L b=(.zero,(b.length:Int) - 4,72):=by rw [Z1L,if_neg (by rw [hh]; decide),if_pos (by simpa using h2)]
  rw [Z5b hd (show (72:Int)≠0 by decide),Z5c hd (show (72:Int)≠0 by decide)]
  refine Z0k.soft ?_
  simp only [push_cast,Ob.zero,Ob.c,List.map_nil,List.flatMap_nil,List.length_nil]
  exact Z06.keep0A
 have h2':¬Z6q b ((b.length:Int) - 4)≠Z4Y (b.take (b.length - 4)):=by simpa using h2
 have hlt:(b.take (b.length - 4)).length=b.length - 4:=by simp
 obtain⟨r0,hr0⟩:∃r0:Rd,r0=⟨b.take (b.length - 4),4,-1⟩:=⟨_,rfl⟩
 have hc:[AV.sl ((b.take (b.length - 4)).map Z03) (b.length - 4 - 0),AV.int .i64 4,AV.int .i64 (-1)]=r0.c:=by
  rw [hr0,Rd.c,hlt]; rfl
 have hro:r0.ok:=by rw [hr0]; exact hE h8
 have hex:Z9F b=((objM r0).1,(tookM (objM r0).2 (objM r0).2.at_ (decide ((objM r0).2.at_=(b.length:Int) - 4))).2):=by rw [Z9F,hr0]
 ((first | with_reducible refine holds_of_ex X 400 _ _ _ ?_ | skip); simp (maxSteps:=1000000) only [push_cast,reduceCtorEq,Nat.reduceAdd,Nat.reduceMul,Nat.reduceSub,Nat.reduceBEq,Nat.reduceGT,Nat.reduceLT,Int.toNat_zero,Nat.reduceLeDiff,Int.reduceEq,Int.reduceLT,Int.reduceLE,hP,hΓ,hL,hfin,↓Z00,String.reduceEq,not_false_eq_true,if_true,h48,hn,←List.map_take,hc,Ob.ow,Ob.rw,↓ZgQ])
 refine⟨by omega,fun x hx _=>?_,hro,?_⟩
 ·simp only [Rd.c,List.mem_cons,List.not_mem_nil,or_false] at hx
  rcases hx with rfl | rfl | rfl <;> rfl
 have hk:=Z9A hro
 have hbb:=(ZbZ hro).1
 generalize objM r0=x at hex hk hbb ⊢
 obtain⟨o,r⟩:=x
 simp only at hex hk hbb ⊢
 (refine Holds.drawnE (Z3c [.row 13 0,.fix (.row r.c 3 0)]) [0,1,2,3,4,5,6,7,8,9,10,11] [] [] true (by rw [hP]; kernel_rfl) (by kernel_rfl) (by kernel_rfl) (by kernel_rfl) (by first | exact .inl rfl | exact .inr fun _ _ h=>Z0M _ _ h) (by first | (simp only [push_cast]; done) | (simp only [push_cast,and_true]; omega)) ?_; simp (maxSteps:=1000000) only [↓reduceIte,Option.getD_some,push_cast,reduceCtorEq,Nat.reduceAdd,Nat.reduceMul,Nat.reduceSub,Nat.reduceBEq,Nat.reduceGT,Nat.reduceLT,Int.toNat_zero,Nat.reduceLeDiff,Int.reduceEq,Int.reduceLT,Int.reduceLE,hP,hΓ,hL,hfin,↓Z00,String.reduceEq,not_false_eq_true,if_true,h49])
 generalize (tookM r r.at_ (decide (r.at_=(b.length:Int) - 4))).2=r2 at hex ⊢
 ((first | with_reducible refine holds_of_ex X 400 _ _ _ ?_ | skip); simp (maxSteps:=1000000) only [push_cast,reduceCtorEq,Nat.reduceAdd,Nat.reduceMul,Nat.reduceSub,Nat.reduceBEq,Nat.reduceGT,Nat.reduceLT,Int.toNat_zero,Nat.reduceLeDiff,Int.reduceEq,Int.reduceLT,Int.reduceLE,hP,hΓ,hL,hfin,↓Z00,String.reduceEq,not_false_eq_true,if_true])
 refine Z02 (fun h3=>?_) (fun h3=>?_)
 ·have hd:Z1L b=(.zero,r2.bad,71):=by rw [Z1L,if_neg (by rw [hh]; decide),if_neg h2',hex,if_pos (by simpa using h3)]
  (refine Holds.drawnE (Z3c [.row 13 0,.fix (.row r2.c 3 0)]) [5] [] [] false (by rw [hP]; kernel_rfl) (by kernel_rfl) (by kernel_rfl) (by kernel_rfl) (by first | exact .inl rfl | exact .inr fun _ _ h=>Z0M _ _ h) (by first | (simp only [push_cast]; done) | (simp only [push_cast,and_true]; omega)) ?_; simp (maxSteps:=1000000) only [↓reduceIte,Option.getD_some,push_cast,reduceCtorEq,Nat.reduceAdd,Nat.reduceMul,Nat.reduceSub,Nat.reduceBEq,Nat.reduceGT,Nat.reduceLT,Int.toNat_zero,Nat.reduceLeDiff,Int.reduceEq,Int.reduceLT,Int.reduceLE,hP,hΓ,hL,hfin,↓Z00,String.reduceEq,not_false_eq_true,if_true,h49])
  ((first | with_reducible refine holds_of_ex X 400 _ _ _ ?_ | skip); simp (maxSteps:=1000000) only [push_cast,reduceCtorEq,Nat.reduceAdd,Nat.reduceMul,Nat.reduceSub,Nat.reduceBEq,Nat.reduceGT,Nat.reduceLT,Int.toNat_zero,Nat.reduceLeDiff,Int.reduceEq,Int.reduceLT,Int.reduceLE,hP,hΓ,hL,hfin,↓Z00,String.reduceEq,not_false_eq_true,if_true])
  rw [Z5b hd (show (71:Int)≠0 by decide),Z5c hd (show (71:Int)≠0 by decide)]
  refine Z0k.soft ?_
  simp only [push_cast,Ob.zero,Ob.c,List.map_nil,List.flatMap_nil,List.length_nil]
  exact Z06.keep0A
 have h3':¬0≤r2.bad:=by simpa using h3
 simp only [Nat.add_assoc,Nat.reduceAdd]
 have hl2:=(ZiX zC r2 o).lend
 have hbx:=ZdA zC r2 o
 show ex X _ _ _ (dH zC r2 o)
 ((first | with_reducible refine holds_of_ex X 400 _ _ _ ?_ | skip); simp (maxSteps:=1000000) only [push_cast,reduceCtorEq,Nat.reduceAdd,Nat.reduceMul,Nat.reduceSub,Nat.reduceBEq,Nat.reduceGT,Nat.reduceLT,Int.toNat_zero,Nat.reduceLeDiff,Int.reduceEq,Int.reduceLT,Int.reduceLE,hP,hΓ,hL,hfin,↓Z00,String.reduceEq,not_false_eq_true,if_true,h17,↓hl2,hbx,ZbT,Z8Z,ZbS])
 refine⟨⟨(ZiX zC r2 o).lent,hk.1⟩,?_⟩
 refine Z02 (fun h4=>?_) (fun h4=>?_)
 ·have hd:Z1L b=(.zero,0,70):=by rw [Z1L,if_neg (by rw [hh]; decide),if_neg h2',hex,if_neg h3',if_pos (by simpa using h4)]
  ((first | with_reducible refine holds_of_ex X 400 _ _ _ ?_ | skip); simp (maxSteps:=1000000) only [push_cast,reduceCtorEq,Nat.reduceAdd,Nat.reduceMul,Nat.reduceSub,Nat.reduceBEq,Nat.reduceGT,Nat.reduceLT,Int.toNat_zero,Nat.reduceLeDiff,Int.reduceEq,Int.reduceLT,Int.reduceLE,hP,hΓ,hL,hfin,↓Z00,String.reduceEq,not_false_eq_true,if_true,ZdA,ZbT,Z8Z,ZbS,Zgs,Zgq,ZfB,ZaK,List.append_nil])
  rw [Z5b hd (show (70:Int)≠0 by decide),Z5c hd (show (70:Int)≠0 by decide)]
  refine Z0k.soft ?_
  simp only [push_cast,Ob.zero,Ob.c,List.map_nil,List.flatMap_nil,List.length_nil]
  exact Z06.keep0A
 have hd:Z1L b=(o,0,0):=by rw [Z1L,if_neg (by rw [hh]; decide),if_neg h2',hex,if_neg h3',if_neg (by simpa using h4)]
 ((first | with_reducible refine holds_of_ex X 400 _ _ _ ?_ | skip); simp (maxSteps:=1000000) only [push_cast,reduceCtorEq,Nat.reduceAdd,Nat.reduceMul,Nat.reduceSub,Nat.reduceBEq,Nat.reduceGT,Nat.reduceLT,Int.toNat_zero,Nat.reduceLeDiff,Int.reduceEq,Int.reduceLT,Int.reduceLE,hP,hΓ,hL,hfin,↓Z00,String.reduceEq,not_false_eq_true,if_true,ZdA,ZbT,Z8Z,ZbS,Zgs,Zgq,ZfB,ZaK,List.append_nil])
 rw [show ZdW b=.tup [.agg (Ob.ow o 5),.int .i64 0,.int .i64 0] by unfold ZdW; rw [hd,if_pos rfl],show ZdX b=dH (Ob.ow o 5) r2 o by unfold ZdX; rw [hd,if_pos rfl,hex]]
 exact Z06.same (Z0d _) (by rw [Z9K]; simp only [Z0Z,scp,Bool.and_true]; exact Z6Q (by omega)) (ZiW r2 o) (Nat.zero_le _)
theorem con21{Γ:Env}(h:Z07 Tryz.prog Γ)(h47:Γ 12=some S47)(h42:Γ 13=some S42)(h48:Γ 14=some S48)(h49:Γ 15=some S49)(h17:Γ 16=some S17):Con Tryz.prog 6 S21:=
 Z0v h (fn:=Tryz.f6) (by kernel_rfl) rfl (by kernel_rfl) inj21 fun b h=>body21 Γ h47 h42 h48 h49 h17 b h
end Go.Proofs.YtmomhjmaanagaaaGreat.objOwn