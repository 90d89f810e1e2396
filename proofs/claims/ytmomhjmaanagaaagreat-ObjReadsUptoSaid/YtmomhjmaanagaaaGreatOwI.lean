/- ObjReads: every Decode of any bytes is the document's, and what is done to the object that it hands back changes no other. The condition: what comes in holds at most 1048576 values and letters. -/
import Derived.Test.YtmomhjmaanagaaaGreatMc
import Derived.Test.YtmomhjmaanagaaaGreatOwG
import Derived.Test.YtmomhjmaanagaaaGreatUp
import Derived.ProofKit
import Derived.JoinedCond
set_option linter.unusedVariables false
set_option linter.unusedSimpArgs false
set_option maxRecDepth 100000
set_option maxHeartbeats 4000000
namespace Go.Proofs.YtmomhjmaanagaaaGreat.objRef
open Go Go.Eng Go.Proofs
open Go.Proofs.YtmomhjmaanagaaaGreat.objNumbersDone (ZeL Z1Z Z1E Z5v ZaH hi7 lo7 q7 enc Z3d Z5g Z1R)
open Go.Proofs.YtmomhjmaanagaaaGreat.objDone
open Go.Proofs.YtmomhjmaanagaaaGreat.objOwn (dsM tgH Ob.ow Z2z Z48 Z3C Z3B Z6Q Zfz ZdW ZdX dH Z9K Z5b Z5c Z7G Z5P Z5Q)
abbrev T9:=(Rd×Ob) ⊕ Unit
def e9:T9→List AV×Heap
 | .inl (r,o)=>(Z9Z o,Z36 r o)
 | .inr _=>([.agg zC],[.dead,.row zC 13 0,.row zC 13 0])
def p9:T9→Prop
 | .inl (r,o)=>o.ok
 | .inr _=>True
def r9:T9→AV:=fun _=>.tup []
def h9:T9→Heap
 | .inl (r,o)=>Z3Z r o
 | .inr _=>[.dead,.row zC 13 0,.row zC 13 0]
theorem Z6G(r:Rd)(o:Ob):(Z36 r o).getLast?=some (.row o.c 13 0):=by
 unfold Z36 spH
 simp [List.getLast?_cons,List.getLast?_append]
theorem Z7S(r:Rd)(o:Ob):(Z36 r o).length=o.descs.length+19:=by
 unfold Z36; rw [Z19]; rfl
theorem inj9:∀a b,e9 a=e9 b→a=b:=by
 rintro (⟨r,o⟩ | b) (⟨r',o'⟩ | b') h
 ·have h2:Z36 r o=Z36 r' o':=congrArg Prod.snd h
  have h3:=congrArg List.getLast? h2
  rw [Z6G,Z6G] at h3
  simp only [Option.some.injEq,Z0L.row.injEq,Z0z,and_true] at h3
  subst h3
  have h5:=congrArg (fun L=>L[2]?) h2
  have h5:some (Z0L.row r.c 3 0)=some (Z0L.row r'.c 3 0):=h5
  simp only [Option.some.injEq,Z0L.row.injEq,and_true,Z0V] at h5
  rw [h5]
 ·have h2:=congrArg (fun x:List AV×Heap=>x.2.length) h
  have h2:(Z36 r o).length=3:=h2
  rw [Z7S] at h2; omega
 ·have h2:=congrArg (fun x:List AV×Heap=>x.2.length) h
  have h2:3=(Z36 r' o').length:=h2
  rw [Z7S] at h2; omega
 ·rfl
noncomputable def S9:Z0n:=Z6c e9 p9 r9 h9
theorem ps9a(r:Rd)(o:Ob):Z1p e9 p9 (Z9Z o,Z36 r o)=o.ok:=Z0x inj9 p9 (.inl (r,o))
theorem rs9a(r:Rd)(o:Ob):Z0A e9 r9 .any (Z9Z o,Z36 r o)=.tup []:=Z09 inj9 r9 .any (.inl (r,o))
theorem hs9a(r:Rd)(o:Ob):Z0A e9 h9 [] (Z9Z o,Z36 r o)=Z3Z r o:=Z09 inj9 h9 [] (.inl (r,o))
theorem ps9b:Z1p e9 p9 ([.agg zC],[.dead,.row zC 13 0,.row zC 13 0])=True:=Z0x inj9 p9 (.inr ())
theorem rs9b:Z0A e9 r9 .any ([.agg zC],[.dead,.row zC 13 0,.row zC 13 0])=.tup []:=Z09 inj9 r9 .any (.inr ())
theorem hs9b:Z0A e9 h9 [] ([.agg zC],[.dead,.row zC 13 0,.row zC 13 0])=[.dead,.row zC 13 0,.row zC 13 0]:=Z09 inj9 h9 [] (.inr ())
attribute [push_cast] S9 ps9b rs9b hs9b
theorem con9{Γ:Env}(h:Z07 Tryz.prog Γ):Con Tryz.prog 9 S9:=
 Zaw h (fn:=Tryz.f9) (by kernel_rfl) rfl (by kernel_rfl) inj9 fun a h=>match a,h with
  | .inl (r,o),h=>Z9W Γ r o h
  | .inr _,_=>ZaJ Γ
noncomputable def rq0:Env:=objOwn.owE
theorem ZfM:Z07 Tryz.prog rq0:=objOwn.owE_ok
noncomputable def rq1:Env:=Z14 rq0 17 S17
theorem ZfL:Z07 Tryz.prog rq1:=ZfM.add (con17 ZfM)
noncomputable def rq2:Env:=Z14 rq1 22 S22
theorem ZfK:Z07 Tryz.prog rq2:=ZfL.add (con22 ZfL)
noncomputable def rq3:Env:=Z14 rq2 20 S20
theorem ZfJ:Z07 Tryz.prog rq3:=ZfK.add (con20 ZfK rfl rfl)
noncomputable def rq4:Env:=Z14 rq3 47 S47
theorem ZfI:Z07 Tryz.prog rq4:=ZfJ.add (con47 ZfJ rfl rfl)
noncomputable def rq5:Env:=Z14 rq4 48 S48
theorem ZfH:Z07 Tryz.prog rq5:=ZfI.add (con48 ZfI rfl rfl)
noncomputable def rq6:Env:=Z14 rq5 21 S21
theorem ZfG:Z07 Tryz.prog rq6:=ZfH.add (con21 ZfH rfl)
noncomputable def rq7:Env:=Z14 rq6 19 S19
theorem ZfF:Z07 Tryz.prog rq7:=ZfG.add (con19 ZfG rfl rfl rfl rfl)
noncomputable def rq8:Env:=Z14 rq7 23 S23
theorem ZfE:Z07 Tryz.prog rq8:=ZfF.add (con23 ZfF rfl)
noncomputable def rq9:Env:=Z14 rq8 7 S7
theorem ZfD:Z07 Tryz.prog rq9:=ZfE.add (con7 ZfE rfl rfl rfl rfl rfl rfl rfl)
noncomputable def rq10:Env:=Z14 rq9 5 shS
theorem Zb6:Z07 Tryz.prog rq10:=ZfD.add (con5 ZfD rfl)
noncomputable def rq11:Env:=Z14 rq10 9 S9
theorem ZgO:Z07 Tryz.prog rq11:=Zb6.add (con9 Zb6)
noncomputable abbrev rqE:Env:=rq11
theorem Zib:Z07 Tryz.prog rqE:=ZgO
theorem ZhI(b:Z04)(hb:b.length≤4194304):(Z1L b).1.ok:=by
 have hz:Ob.zero.ok:=by constructor <;> simp [Ob.zero]
 unfold Z1L
 split
 ·exact hz
 rename_i h1
 split
 ·exact hz
 split
 ·exact hz
 split
 ·exact hz
 simp only [Bool.not_eq_false,Z8j,Bool.and_eq_true,decide_eq_true_eq] at h1
 exact (Z9A (r:=⟨b.take (b.length - 4),4,-1⟩) ⟨by simp; omega,by simp,by simp; omega⟩).1
theorem ZbR(N k:Nat)(o:Ob):Z2l (Z6p [] N) (Ob.ow o k)=Ob.ow o (N+k):=by
 have hr:∀j,Z6p [] N j=N+j:=fun j=>by unfold Z6p; rw [if_neg (by simp)]; simp
 simp only [Ob.ow,Z2l,ren,hr]
 rw [show N+(o.descs.length+(k+9))=o.descs.length+(N+k+9) by omega]
 rfl
def dG(N:Nat)(c:List AV)(r:Rd)(o:Ob):Heap:=.row c 13 0::.row r.c 3 0::.row [.ref (N+1) 0 0] 1 0::.row c 13 0::.row c 13 0::.row (o.imps.flatMap Im.c) 2 0::.row (o.code.map (.int .u32)) 1 0::.row (o.names.map .str) 1 0::.row (o.exps.map .bool) 1 0::.row (o.procs.map (.int .i64)) 1 0::.row (o.vars.map (.int .i64)) 1 0::.row (o.shown.map (.int .i64)) 1 0::.row (o.strs.map .str) 1 0::.row (dsM (N+14) o.descs) 3 0::(tgH o.descs++[.row (o.fixes.flatMap Fx.c) 4 0,.row c 13 0])
theorem Zgr(N:Nat)(r:Rd)(o:Ob):(dH (Ob.ow o 5) r o).map (Z1C (Z6p [] N))=dG N (Ob.ow o (N+5)) r o:=by
 have hr:∀j,Z6p [] N j=N+j:=fun j=>by unfold Z6p; rw [if_neg (by simp)]; simp
 have hd:Z2l (Z6p [] N) (dsM 14 o.descs)=dsM (N+14) o.descs:=Z7G fun i _=>by rw [hr]; omega
 unfold dH dG
 simp only [List.map_cons,List.map_append,List.map_nil,Z1C,ZbR,Zbd,Z7l,Z5P,hd,Rd.c,Z2l,ren,hr]
theorem ZgG(r:Rd)(o:Ob):(Z36 r o)[o.descs.length+17]?=some (.row (Ob.ow o 6) 13 0):=Z3C o.descs _ 2
theorem ZgF(r:Rd)(o:Ob):(Z36 r o)[o.descs.length+18]?=some (.row o.c 13 0):=Z3C o.descs _ 3
theorem Z9q(r:Rd)(o:Ob):Zfz (Z36 r o) 6 o:=by
 refine⟨rfl,rfl,rfl,rfl,rfl,rfl,rfl,rfl,rfl,fun i h=>?_,?_⟩
 ·rw [show 6+9+i=i+15 by omega]
  exact Z5Q _ _ i h
 ·exact Z3B o.descs _
theorem Z3f(r:Rd)(o:Ob):(Z3Z r o).length=o.descs.length+19:=by
 unfold Z3Z; rw [Z19,List.length_map]; rfl
theorem Zea(r:Rd)(o:Ob):(Z3Z r o)[o.descs.length+18]?=some (.row o.c 13 0):=by
 have e:(o.descs.map sD).length=o.descs.length:=List.length_map ..
 rw [←e]
 exact Z3C (o.descs.map sD) _ 3
def Z5x(r:Rd)(o:Ob):Heap:=Z3Z r o++dG (o.descs.length+19) (Ob.ow o (o.descs.length+19+5)) r o
theorem Z3u(r:Rd)(o:Ob):(Z5x r o).length=o.descs.length+19+(o.descs.length+16):=by
 unfold Z5x
 rw [List.length_append,Z3f]
 unfold dG
 simp only [List.length_cons,List.length_append,List.length_nil,Z2z]
theorem Zce(r:Rd)(o:Ob)(x y:Z0L):(Z3Z r o++dG (o.descs.length+19) (Ob.ow o (o.descs.length+19+5)) r o++[x]).set (o.descs.length+19+(o.descs.length+16)) y=Z5x r o++[y]:=by
 show (Z5x r o++[x]).set _ y=_
 rw [List.set_append_right _ _ (by rw [Z3u]; exact Nat.le_refl _),Z3u,Nat.sub_self]
 rfl
theorem Z8i(r:Rd)(o:Ob)(x:Z0L):(Z3Z r o++dG (o.descs.length+19) (Ob.ow o (o.descs.length+19+5)) r o++[x])[o.descs.length+19+(o.descs.length+16)]?=some x:=by
 show (Z5x r o++[x])[_]?=_
 rw [List.getElem?_append_right (by rw [Z3u]; exact Nat.le_refl _),Z3u,Nat.sub_self]
 rfl
theorem Zhi(r:Rd)(o:Ob)(x:Z0L):(Z5x r o++[x])[o.descs.length+18]?=some (.row o.c 13 0):=by
 rw [List.getElem?_append_left (by rw [Z3u]; omega)]
 unfold Z5x
 rw [List.getElem?_append_left (by rw [Z3f]; omega),Zea]
theorem Zf3(r:Rd)(o:Ob)(x:Z0L)(j:Nat)(h:j<o.descs.length+16):(Z5x r o++[x])[o.descs.length+19+j]?=(dG (o.descs.length+19) (Ob.ow o (o.descs.length+19+5)) r o)[j]?:=by
 rw [List.getElem?_append_left (by rw [Z3u]; omega)]
 unfold Z5x
 rw [List.getElem?_append_right (by rw [Z3f]; omega),Z3f,Nat.add_sub_cancel_left]
theorem Zf4(r:Rd)(o:Ob)(x:Z0L):Zfz (Z5x r o++[x]) (o.descs.length+19+5) o:=by
 have g:∀j k,k<o.descs.length+16→j=o.descs.length+19+k→(Z5x r o++[x])[j]?=(dG (o.descs.length+19) (Ob.ow o (o.descs.length+19+5)) r o)[k]?:=fun j k h e=>by rw [e]; exact Zf3 r o x k h
 refine⟨g _ 5 (by omega) (by omega),g _ 6 (by omega) (by omega),g _ 7 (by omega) (by omega),g _ 8 (by omega) (by omega),g _ 9 (by omega) (by omega),g _ 10 (by omega) (by omega),g _ 11 (by omega) (by omega),g _ 12 (by omega) (by omega),?_,fun i h=>?_,?_⟩
 ·rw [g _ 13 (by omega) (by omega)]
  show some (Z0L.row (dsM (o.descs.length+19+14) o.descs) 3 0)=_
  rw [show o.descs.length+19+14=o.descs.length+19+5+9 by omega]
 ·rw [g _ (i+14) (by omega) (by omega)]
  exact Z5Q _ _ i h
 ·rw [g _ (o.descs.length+14) (by omega) (by omega)]
  exact Z3B o.descs _
theorem Zcf(r:Rd)(o:Ob)(x:Z0L):(Z5x r o++[x])[o.descs.length+19+(o.descs.length+16)]?=some x:=Z8i r o x
theorem Zfq(b:Z04)(h:(Z1L b).2.2≠0):(Z1L b).1=Ob.zero:=by
 revert h
 unfold Z1L
 split
 ·intro _; rfl
 split
 ·intro _; rfl
 split
 ·intro _; rfl
 split
 ·intro _; rfl
 ·intro h; exact absurd rfl h
theorem Zcd(Γ:Env)(h5:Γ 5=some shS)(h6:Γ 6=some objOwn.S21)(h7:Γ 7=some S7)(h8:Γ 8=some objDone.S20)(g9:Γ 9=some S9)(b:Z04)(hb:b.length≤1048576) :
  Z0a Tryz.prog Γ Tryz.f3 [.sl (b.map Z03) b.length] [] (.bool true) []:=by
 have hdo:=ZhI b (by omega)
 by_cases hk:(Z1L b).2.2=0
 case neg=>
  have e1:=Z5b rfl hk
  have e2:=Z5c rfl hk
  (intro X hP hΓ hL hfin; refine⟨_,rfl,?_⟩; rw [show Tryz.f3.ntmps=71 from rfl]; rw [show Tryz.f3.results.toList=[.tmp 2] from rfl] at hfin; apply holds_of_ex X 7; simp (maxSteps:=1000000) only [push_cast,reduceCtorEq,Nat.reduceAdd,Nat.reduceMul,Nat.reduceSub,Nat.reduceBEq,Nat.reduceGT,Nat.reduceLT,Int.toNat_zero,Nat.reduceLeDiff,Int.reduceEq,Int.reduceLT,Int.reduceLE,hP,hΓ,hL,hfin,↓Z00,String.reduceEq,not_false_eq_true,if_true,h5])
  refine⟨?_,by omega,?_⟩
  ·rw [Z0c _ (by constructor <;> omega)]; constructor <;> omega
  (refine Holds.frz 0 (by rw [hL]; simp) (by simp only [Z15,Z28,Z27,or_true,true_or,push_cast,reduceCtorEq,Nat.reduceAdd,Nat.reduceMul,Nat.reduceSub,Nat.reduceBEq,Nat.reduceGT,Nat.reduceLT,Int.toNat_zero,Nat.reduceLeDiff,Int.reduceEq,Int.reduceLT,Int.reduceLE]) ?_; simp only [push_cast,reduceCtorEq,Nat.reduceAdd,Nat.reduceMul,Nat.reduceSub,Nat.reduceBEq,Nat.reduceGT,Nat.reduceLT,Int.toNat_zero,Nat.reduceLeDiff,Int.reduceEq,Int.reduceLT,Int.reduceLE])
  simp only [Z2b]
  ((first | refine holds_of_ex X 4 _ _ _ ?_ | skip); simp only [push_cast,reduceCtorEq,Nat.reduceAdd,Nat.reduceMul,Nat.reduceSub,Nat.reduceBEq,Nat.reduceGT,Nat.reduceLT,Int.toNat_zero,Nat.reduceLeDiff,Int.reduceEq,Int.reduceLT,Int.reduceLE,hP,hΓ,hL,hfin,h6,h7,e1,e2])
  refine⟨by omega,by omega,?_⟩
  have hzr:(Z1L b).1=Ob.zero:=Zfq b hk
  have hz:Ob.zero.c=zC:=rfl
  have hz1:zC.length=13:=rfl
  have hz2:Z0m zC=true:=rfl
  rw [hzr] at e1 hdo
  simp only [hzr]
  have hl:Ob.zero.c.length=13:=rfl
  have ht:List.take 13 Ob.zero.c=Ob.zero.c:=rfl
  ((first | refine holds_of_ex X 2 _ _ _ ?_ | skip); simp only [push_cast,reduceCtorEq,Nat.reduceAdd,Nat.reduceMul,Nat.reduceSub,Nat.reduceBEq,Nat.reduceGT,Nat.reduceLT,Int.toNat_zero,Nat.reduceLeDiff,Int.reduceEq,Int.reduceLT,Int.reduceLE,hP,hΓ,hL,hfin,h8,hl,ht])
  refine⟨hdo,?_⟩
  rw [hz]
  have ht2:List.take 13 zC=zC:=rfl
  ((first | refine holds_of_ex X 2 _ _ _ ?_ | skip); simp only [push_cast,reduceCtorEq,Nat.reduceAdd,Nat.reduceMul,Nat.reduceSub,Nat.reduceBEq,Nat.reduceGT,Nat.reduceLT,Int.toNat_zero,Nat.reduceLeDiff,Int.reduceEq,Int.reduceLT,Int.reduceLE,hP,hΓ,hL,hfin,g9,hz1,ht2])
  rw [←hz]
  ((first | with_reducible refine holds_of_ex X 400 _ _ _ ?_ | skip); simp (maxSteps:=1000000) only [push_cast,reduceCtorEq,Nat.reduceAdd,Nat.reduceMul,Nat.reduceSub,Nat.reduceBEq,Nat.reduceGT,Nat.reduceLT,Int.toNat_zero,Nat.reduceLeDiff,Int.reduceEq,Int.reduceLT,Int.reduceLE,hP,hΓ,hL,hfin,↓Z00,String.reduceEq,not_false_eq_true,if_true,h6,h8,e1,e2,hl,ht])
  refine⟨by omega,hdo,?_⟩
  exact Z06.keep0A
 have e1:ZdW b=.tup [.agg (Ob.ow (Z1L b).1 5),.int .i64 (Z1L b).2.1,.int .i64 (Z1L b).2.2]:=by unfold ZdW; rw [if_pos hk]
 have e2:ZdX b=dH (Ob.ow (Z1L b).1 5) (Z9F b).2 (Z1L b).1:=by unfold ZdX; rw [if_pos hk]
 obtain⟨o,hoe⟩:∃o,(Z1L b).1=o:=⟨_,rfl⟩
 obtain⟨r,hre⟩:∃r,(Z9F b).2=r:=⟨_,rfl⟩
 rw [hoe] at e1 e2 hdo
 rw [hre] at e2
 (intro X hP hΓ hL hfin; refine⟨_,rfl,?_⟩; rw [show Tryz.f3.ntmps=71 from rfl]; rw [show Tryz.f3.results.toList=[.tmp 2] from rfl] at hfin; apply holds_of_ex X 7; simp (maxSteps:=1000000) only [push_cast,reduceCtorEq,Nat.reduceAdd,Nat.reduceMul,Nat.reduceSub,Nat.reduceBEq,Nat.reduceGT,Nat.reduceLT,Int.toNat_zero,Nat.reduceLeDiff,Int.reduceEq,Int.reduceLT,Int.reduceLE,hP,hΓ,hL,hfin,↓Z00,String.reduceEq,not_false_eq_true,if_true,h5])
 refine⟨?_,by omega,?_⟩
 ·rw [Z0c _ (by constructor <;> omega)]; constructor <;> omega
 (refine Holds.frz 0 (by rw [hL]; simp) (by simp only [Z15,Z28,Z27,or_true,true_or,push_cast,reduceCtorEq,Nat.reduceAdd,Nat.reduceMul,Nat.reduceSub,Nat.reduceBEq,Nat.reduceGT,Nat.reduceLT,Int.toNat_zero,Nat.reduceLeDiff,Int.reduceEq,Int.reduceLT,Int.reduceLE]) ?_; simp only [push_cast,reduceCtorEq,Nat.reduceAdd,Nat.reduceMul,Nat.reduceSub,Nat.reduceBEq,Nat.reduceGT,Nat.reduceLT,Int.toNat_zero,Nat.reduceLeDiff,Int.reduceEq,Int.reduceLT,Int.reduceLE])
 simp only [Z2b]
 have w1:=ZbR 1 5 o
 have w2:=Zgr 1 r o
 simp only [Nat.reduceAdd] at w1 w2
 have hl:∀k,(Ob.ow o k).length=13:=fun _=>rfl
 have hl1:∀k,Z0m (Ob.ow o k)=true:=fun _=>rfl
 have hl2:o.c.length=13:=rfl
 have hl3:Z0m o.c=true:=rfl
 ((first | refine holds_of_ex X 4 _ _ _ ?_ | skip); simp only [push_cast,reduceCtorEq,Nat.reduceAdd,Nat.reduceMul,Nat.reduceSub,Nat.reduceBEq,Nat.reduceGT,Nat.reduceLT,Int.toNat_zero,Nat.reduceLeDiff,Int.reduceEq,Int.reduceLT,Int.reduceLE,hP,hΓ,hL,hfin,h6,h7,e1,e2,hoe,w1,w2,dG,hl,hl1,hl2,hl3])
 refine⟨by omega,by omega,?_⟩
 simp only [Nat.add_assoc,Nat.reduceAdd]
 show Holds X _ _ (Z36 r o)
 have ht1:∀k,List.take 13 (Ob.ow o k)=Ob.ow o k:=fun _=>rfl
 have ht2:List.take 13 o.c=o.c:=rfl
 have a1:=ZgG r o
 have a2:=ZgF r o
 have a3:=(Z9q r o).lend
 ((first | refine holds_of_ex X 2 _ _ _ ?_ | skip); simp only [push_cast,reduceCtorEq,Nat.reduceAdd,Nat.reduceMul,Nat.reduceSub,Nat.reduceBEq,Nat.reduceGT,Nat.reduceLT,Int.toNat_zero,Nat.reduceLeDiff,Int.reduceEq,Int.reduceLT,Int.reduceLE,hP,hΓ,hL,hfin,h8,↓a3,a1,a2,hl,hl2,ht1,ht2])
 refine⟨⟨(Z9q r o).lent,hdo⟩,?_⟩
 have q1:Z1p e9 p9 ([.agg (Ob.ow o 6)],Z36 r o)=o.ok:=ps9a r o
 have q2:Z0A e9 r9 .any ([.agg (Ob.ow o 6)],Z36 r o)=.tup []:=rs9a r o
 have q3:Z0A e9 h9 [] ([.agg (Ob.ow o 6)],Z36 r o)=Z3Z r o:=hs9a r o
 ((first | refine holds_of_ex X 2 _ _ _ ?_ | skip); simp only [push_cast,reduceCtorEq,Nat.reduceAdd,Nat.reduceMul,Nat.reduceSub,Nat.reduceBEq,Nat.reduceGT,Nat.reduceLT,Int.toNat_zero,Nat.reduceLeDiff,Int.reduceEq,Int.reduceLT,Int.reduceLE,hP,hΓ,hL,hfin,g9,a1,a2,hl,hl2,ht1,ht2,q1,q2,q3])
 refine⟨hdo,?_⟩
 have b0:=Z3f r o
 have w1:=ZbR (o.descs.length+19) 5 o
 have w2:=Zgr (o.descs.length+19) r o
 have b1:∀z,(dH z r o).length=o.descs.length+16:=fun z=>Z9K z r o
 have b2:∀N c,(dG N c r o).length=o.descs.length+16:=fun N c=>by unfold dG; simp only [List.length_cons,List.length_append,List.length_nil,Z2z]
 have c1:=Zce r o
 have c2:=Z8i r o
 have c3:=Zhi r o
 have c4:=Zf4 r o
 ((first | refine holds_of_ex X 2 _ _ _ ?_ | skip); simp only [push_cast,reduceCtorEq,Nat.reduceAdd,Nat.reduceMul,Nat.reduceSub,Nat.reduceBEq,Nat.reduceGT,Nat.reduceLT,Int.toNat_zero,Nat.reduceLeDiff,Int.reduceEq,Int.reduceLT,Int.reduceLE,hP,hΓ,hL,hfin,h6,e1,e2,b0,b1,b2,w1,w2,hl,hl1,ht1,c1,c2])
 refine⟨by omega,?_⟩
 have d1:=Zcf r o
 have d3:=(c4 (.row (Ob.ow o (o.descs.length+19+5)) 13 0)).lend
 ((first | with_reducible refine holds_of_ex X 400 _ _ _ ?_ | skip); simp (maxSteps:=1000000) only [push_cast,reduceCtorEq,Nat.reduceAdd,Nat.reduceMul,Nat.reduceSub,Nat.reduceBEq,Nat.reduceGT,Nat.reduceLT,Int.toNat_zero,Nat.reduceLeDiff,Int.reduceEq,Int.reduceLT,Int.reduceLE,hP,hΓ,hL,hfin,↓Z00,String.reduceEq,not_false_eq_true,if_true,h8,↓d3,d1,c3,hl,hl2,ht1,ht2])
 refine⟨⟨(c4 _).lent,hdo⟩,?_⟩
 exact Z06.drop (L':=[]) (Z0d _) rfl rfl (Nat.zero_le _)
theorem own:ownKnob Tryz.prog.godebug=none:=by kernel_rfl
theorem Zhj:laidOutB Tryz.prog=true:=by kernel_rfl
theorem body3(xs:List Dv)(h:Dv.hasL [.sl (.int .u8)] xs)(hb:Dv.vbL xs≤1048576):∃L',Z0a Tryz.prog rqE Tryz.f3 (xs.map Dv.av) [] (.bool true) L':=by
 obtain⟨x0,xs,rfl,h0,h⟩:=Zcm h
 obtain rfl:=Zf9 h
 simp only [Dv.vbL] at hb
 obtain⟨l,e0,_,hl⟩:=Zcl h0
 refine⟨[],?_⟩
 simp only [List.map_cons,List.map_nil,e0]
 exact Zcd rqE rfl rfl rfl rfl rfl l (by omega)
theorem lifted3(os:Os)(started:os.Started)(H:Type)(enc:TypeId×Value→H)(F:Stop.Interp) :
  ReturnsInHanded {} Tryz.checked os 3 .any ((Rows.OpenSpec.upto Rows.objReadsSpec).pre6 enc Tryz.prog Tryz.f3 Rows.objReadsUptoRow.domain false) (((Rows.OpenSpec.upto Rows.objReadsSpec).at F).post enc Tryz.prog Tryz.f3 false true false false):=by
 refine returnsInHanded_of_cond (C:=Tryz.checked) (s:=Rows.OpenSpec.upto Rows.objReadsSpec) (k:=Rows.uptoSmall) rfl own started (by kernel_rfl) Tryz.func3
  (OpenSpec.witness (enc:=enc) (C:=Tryz.checked) (s:=Rows.OpenSpec.upto Rows.objReadsSpec) (k:=Rows.uptoSmall) rfl false ⟨#[],#[.slice none 0 0],[]⟩ 8 (by kernel_rfl) (by kernel_rfl) (by kernel_rfl)
   (x:=([.nil],[],[])) (by kernel_rfl) rfl (by kernel_rfl)) ?_
 intro W base args ds gs before hval hW _ hk _
 have hds:gs=[]∧∃d1,ds=[d1]:=by
  obtain⟨p,q,hA,hV,_⟩:=hW
  obtain⟨rfl,_⟩:=ChangeShapes.trodVars_none hV
  rw [Tryz.params3] at hA
  obtain⟨_,_,d1,_,_,_,_,rfl,_,_,hA⟩:=ChangeShapes.trodAll_cons hA
  obtain⟨_,rfl,_⟩:=ChangeShapes.trodAll_nil hA
  exact⟨rfl,d1,rfl⟩
 obtain⟨rfl,d1,rfl⟩:=hds
 exact Z8h Zib (f:=3) (fn:=Tryz.f3) (by kernel_rfl) Zhj (s:=Rows.objReadsSpec) rfl (ss:=[.sl (.int .u8)]) (by kernel_rfl) (tb:=4) rfl Tryz.underlying4 (·≤1048576) (fun a b h1 h2=>Nat.le_trans h1 h2) body3 rfl hval hW (Up.small (by simpa using hk))
theorem provedObjReads:Rows.ObjReadsUptoSaid:=
 OpenClaim.holds_of_cond 3 Tryz.f3 rfl rfl rfl rfl rfl rfl rfl ⟨rfl,rfl,rfl,rfl,rfl⟩ rfl rfl rfl rfl rfl (by kernel_rfl) Tryz.func3 (by kernel_rfl)
  (of_decide_eq_true (by kernel_rfl)) (by unfold Func.isWrapper; first | (rw [if_pos (by decide +kernel)]; kernel_rfl) | (rw [if_neg (by decide +kernel)]; exact⟨rfl,rfl⟩))
  (fun os started H enc _ F=>lifted3 os started H enc F)
end Go.Proofs.YtmomhjmaanagaaaGreat.objRef