/- Of objects: what the law's own function does that overwrites an object. Conditions stand in each. -/
import Derived.Test.YtmomhjmaanagaaaGreatMc
import Derived.Test.YtmomhjmaanagaaaGreatOwF
import Derived.Test.YtmomhjmaanagaaaGreatMa
import Derived.Test.YtmomhjmaanagaaaGreatUp
import Derived.ProofKit
import Derived.JoinedCond
set_option linter.unusedVariables false
set_option linter.unusedSimpArgs false
set_option maxRecDepth 100000
set_option maxHeartbeats 4000000
namespace Go.Proofs.YtmomhjmaanagaaaGreat.objRef
open Go Go.Eng Go.Proofs
open Go.Proofs.YtmomhjmaanagaaaGreat.objNumbersDone (ZeL Z1Z Z1E Z5v ZaH hi7 lo7 q7 enc Z3d Z5g Z1R)
open Go.Proofs.YtmomhjmaanagaaaGreat.objDone
theorem Za1(Γ:Env)(h11:Γ 11=some (ZeL Z1Z Z1E)):Z0a Tryz.prog Γ Tryz.f5 [] [] (.bool true) []:=by
 (intro X hP hΓ hL hfin; refine⟨_,rfl,?_⟩; rw [show Tryz.f5.ntmps=7 from rfl]; rw [show Tryz.f5.results.toList=[.tmp 0] from rfl] at hfin; apply holds_of_ex X 400; simp only [push_cast,reduceCtorEq,Nat.reduceAdd,Nat.reduceMul,Nat.reduceSub,Nat.reduceBEq,Nat.reduceGT,Nat.reduceLT,Int.toNat_zero,Nat.reduceLeDiff,Int.reduceEq,Int.reduceLT,Int.reduceLE,hP,hΓ,hL,hfin,h11])
 refine⟨⟨⟨[7],rfl,rfl⟩,by decide,300,rfl,by decide⟩,?_,?_⟩
 ·rw [←List.map_take]; exact Z1N _
 ·rw [←List.map_take,Z12]
  have e:(List.take ((Z0w [AV.int IntKind.u8 7]).length+(enc (Int.toNat 300)).length) (Z0w [AV.int IntKind.u8 7]++enc (Int.toNat 300)) == [7,172,2])=true:=by
   simp [enc,hi7,lo7,q7,Z0w,Z6E]
  rw [e]
  exact Z06.keep0 (Z0d _) rfl rfl (Nat.le_refl _)
def shS:Z0n:=Z57 (fun xs=>xs=[]) (fun _=>.bool true) (fun _=>[]) true
attribute [push_cast] shS
theorem con5{Γ:Env}(h:Z07 Tryz.prog Γ)(h11:Γ 11=some (ZeL Z1Z Z1E)):Con Tryz.prog 5 shS:=by
 refine Con.of_body h (fn:=Tryz.f5) (by kernel_rfl) rfl (by kernel_rfl) (fun _ _=>rfl) fun xs hx=>?_
 obtain rfl:=hx
 exact Za1 Γ h11
open Go.Proofs.YtmomhjmaanagaaaGreat.objOwn (dsM tgH upd Z5O Z22 Z2N Z7a Z2M Z5h ZgE Zi6 Z9a Z9G Z7d Z7e Z5Q Z4u Z4C Ob.ow Z2z Z48 Z3C Z3B Z6Q Zfz)
noncomputable def Z6c{α:Type}(e:α→List AV×Heap)(p:α→Prop)(r:α→AV)(h:α→Heap):Z0n where
 pre:=fun xs L=>Z1p e p (xs,L)
 res:=fun xs L=>Z0A e r .any (xs,L)
 post:=fun xs L=>Z0A e h [] (xs,L)
 quiet:=false
attribute [push_cast] Z6c
theorem Zaw{P:Program}{Γ:Env}(hΓ:Z07 P Γ){f:FuncId}{fn:Func}(hf:P.funcs[f]?=some fn)(hb:fn.body.isNone=false) (hn:(fn.name == "runtime.NumGoroutine")=false) {α:Type} {e:α→List AV×Heap} {p:α→Prop} {r:α→AV} {h:α→Heap}
  (hi:∀a b,e a=e b→a=b) (hh:∀a,p a→Z0a P Γ fn (e a).1 (e a).2 (r a) (h a)):Con P f (Z6c e p r h) where
 quiet hq:=by cases hq
 runs:=.inl ⟨⟨fn,hf,hb,hn⟩,fun m L w xs vs hW hx hp=>by
  obtain⟨a,ha,hp⟩:=hp
  have h1:xs=(e a).1:=by rw [←ha]
  have h2:L=(e a).2:=by rw [←ha]
  have hr:(Z6c e p r h).res xs L=r a:=by simp only [Z6c]; rw [ha,Z09 hi]
  have hl:(Z6c e p r h).post xs L=h a:=by simp only [Z6c]; rw [ha,Z09 hi]
  rw [hr,hl]
  subst h1 h2
  exact Z2k hΓ hf (hh a hp) hW hx⟩
def spH(r:Rd)(c q:List AV)(I:List Im)(C:List Int)(N:List Z04)(E:List Bool)(P V S:List Int)(T:List Z04)(D:List Ds)(F:List Fx)(M:Heap):Heap:=
 .dead::.row c 13 0::.row r.c 3 0::.row [.ref 2 0 0] 1 0::.row c 13 0::.row c 13 0::.row (I.flatMap Im.c) 2 0::.row (C.map (.int .u32)) 1 0::.row (N.map .str) 1 0::.row (E.map .bool) 1 0::.row (P.map (.int .i64)) 1 0::.row (V.map (.int .i64)) 1 0::.row (S.map (.int .i64)) 1 0::.row (T.map .str) 1 0::.row (dsM 15 D) 3 0::(tgH D++(.row (F.flatMap Fx.c) 4 0::.row c 13 0::.row c 13 0::.row q 13 0::M))
def Z0P:Z04:=[109,105,110,101]
def sI(x:Im):Im:=⟨Z0P,x.key⟩
def sF(x:Fx):Fx:=⟨-7,x.kind,x.m,x.n⟩
def sD(x:Ds):Ds:=⟨x.ty,-7,x.tags.map fun _=>-7⟩
def Z9Z(o:Ob):List AV:=[.agg (Ob.ow o 6)]
def Z36(r:Rd)(o:Ob):Heap:=spH r (Ob.ow o 6) o.c (o.imps) (o.code) (o.names) (o.exps) (o.procs) (o.vars) (o.shown) (o.strs) (o.descs) (o.fixes) []
def Z3Z(r:Rd)(o:Ob):Heap:=spH r (Ob.ow o 6) o.c (o.imps.map sI) (o.code.map (fun _=>77)) (o.names.map (fun _=>Z0P)) (o.exps) (o.procs.map (fun _=>-7)) (o.vars.map (fun _=>-7)) (o.shown.map (fun _=>-7)) (o.strs.map (fun _=>Z0P)) (o.descs.map sD) (o.fixes.map sF) []
theorem fl2(o:Ob)(x:AV):(Ob.ow o 6).getD 2 x=.msl 6 0 0 o.imps.length:=rfl
theorem fl3(o:Ob)(x:AV):(Ob.ow o 6).getD 3 x=.msl 7 0 0 o.code.length:=rfl
theorem fl4(o:Ob)(x:AV):(Ob.ow o 6).getD 4 x=.msl 10 0 0 o.procs.length:=rfl
theorem fl5(o:Ob)(x:AV):(Ob.ow o 6).getD 5 x=.msl 8 0 0 o.names.length:=rfl
theorem fl8(o:Ob)(x:AV):(Ob.ow o 6).getD 8 x=.msl 11 0 0 o.vars.length:=rfl
theorem fl9(o:Ob)(x:AV):(Ob.ow o 6).getD 9 x=.msl 12 0 0 o.shown.length:=rfl
theorem fl10(o:Ob)(x:AV):(Ob.ow o 6).getD 10 x=.msl 13 0 0 o.strs.length:=rfl
theorem ZjA(o:Ob)(x:AV):(Ob.ow o 6).getD 11 x=.msl 14 0 0 o.descs.length:=rfl
theorem fl12(o:Ob)(x:AV):(Ob.ow o 6).getD 12 x=.msl (o.descs.length+15) 0 0 o.fixes.length:=rfl
theorem Z6v(o:Ob):(Ob.ow o 6).length=13:=rfl
theorem ow1(o:Ob):Z0m (Ob.ow o 6)=true:=rfl
theorem ZgI{r:Rd}{o:Ob}{I:List Im}{C:List Int}{N:List Z04}{E:List Bool}{P V S:List Int}{T:List Z04}{D:List Ds}{F:List Fx}(hD:D.length=o.descs.length) :
  (spH r (Ob.ow o 6) o.c I C N E P V S T D F [.row (Ob.ow o 6) 13 0]).all (Z2H (o.descs.length+20))=true:=by
 have e1:Z0Z (o.descs.length+20) (Ob.ow o 6)=true:=Z6Q (by omega)
 have e2:Z0Z (o.descs.length+20) (dsM 15 D)=true:=Z4C (by omega)
 have e3:Z0Z (o.descs.length+20) o.c=true:=by simp only [Ob.c,Z0Z,scp,Z52,Z1o,Bool.and_true]
 unfold spH
 simp only [List.all_cons,List.all_nil,List.all_append,Z2H,Z52,Z1o,Z4u,e1,e2,e3,Rd.c,Z0Z,scp,Bool.and_true,Bool.true_and,decide_eq_true_eq]
 omega
theorem Z19(r:Rd)(c q:List AV)(I:List Im)(C:List Int)(N:List Z04)(E:List Bool)(P V S:List Int)(T:List Z04)(D:List Ds)(F:List Fx)(M:Heap):(spH r c q I C N E P V S T D F M).length=D.length+M.length+19:=by
 unfold spH
 simp only [List.length_cons,List.length_append,Z2z]
 omega
theorem Z1v{L0:Heap}{fr fr':List AV}{r:Rd}{o:Ob}{I:List Im}{C:List Int}{N:List Z04}{E:List Bool}{P V S:List Int}{T:List Z04}{D:List Ds}{F:List Fx}(hD:D.length=o.descs.length)(hn:L0.length≤o.descs.length+20)(h:leF fr fr')(hs:Z0Z (o.descs.length+20) fr'=true) :
  Z06 L0 fr (spH r (Ob.ow o 6) o.c I C N E P V S T D F [.row (Ob.ow o 6) 13 0]) (fr',spH r (Ob.ow o 6) o.c I C N E P V S T D F [.row (Ob.ow o 6) 13 0]):=by
 have e:(spH r (Ob.ow o 6) o.c I C N E P V S T D F [.row (Ob.ow o 6) 13 0]).length=o.descs.length+20:=by rw [Z19,hD]; rfl
 exact Z06.same h (by rw [e]; exact hs) (by rw [e]; exact ZgI hD) (by rw [e]; exact hn)
theorem Z37{r:Rd}{o:Ob}{I:List Im}{C:List Int}{N:List Z04}{E:List Bool}{P V S:List Int}{T:List Z04}{D:List Ds}{F:List Fx}(hD:D.length=o.descs.length) :
  (spH r (Ob.ow o 6) o.c I C N E P V S T D F [.row (Ob.ow o 6) 13 0])[o.descs.length+19]?=some (.row (Ob.ow o 6) 13 0):=by
 rw [←hD]
 exact Z3C D _ 4
theorem ZiU{D:List Ds}{i:Nat}(h:i<D.length)(x:AV):(dsM 15 D).getD (i*3+2) x=.msl (i+15) 0 0 D[i].tags.length:=by
 have e:=Z9a 15 h
 have:(List.drop (i*3) (dsM 15 D)).getD 2 x=(dsM 15 D).getD (i*3+2) x:=by
  rw [List.getD_eq_getElem?_getD,List.getD_eq_getElem?_getD,List.getElem?_drop]
 rw [←this,e,Nat.add_comm i 15]; rfl
theorem ZgH{r:Rd}{c q:List AV}{I:List Im}{C:List Int}{N:List Z04}{E:List Bool}{P V S:List Int}{T:List Z04}{D:List Ds}{F:List Fx}{M:Heap}{i:Nat}(h:i<D.length):(spH r c q I C N E P V S T D F M)[i+15]?=some (.row (D[i].tags.map (AV.int .i64)) 1 0):=Z5Q _ D i h
theorem Z9X{r:Rd}{c q:List AV}{I:List Im}{C:List Int}{N:List Z04}{E:List Bool}{P V S:List Int}{T:List Z04}{D:List Ds}{F:List Fx}{M:Heap}{i:Nat}{t:List Int}(h:i<D.length)(ht:t.length=D[i].tags.length):(spH r c q I C N E P V S T D F M).set (i+15) (.row (t.map (AV.int .i64)) 1 0)=spH r c q I C N E P V S T (D.set i ⟨D[i].ty,D[i].size,t⟩) F M:=by
 unfold spH
 rw [Z9G 15 t h ht]
 simp only [List.set_cons_succ]
 rw [Z7d _ t D[i].ty D[i].size D i h]
theorem Z8P{r:Rd}{c q:List AV}{I:List Im}{C:List Int}{N:List Z04}{E:List Bool}{P V S:List Int}{T:List Z04}{D:List Ds}{F:List Fx}{M:Heap}{i:Nat}(s:Int)(h:i<D.length):(spH r c q I C N E P V S T D F M).set 14 (.row (List.take (i*3+1) (dsM 15 D)++[AV.int .i64 s]++List.drop (i*3+1+1) (dsM 15 D)) 3 0)=spH r c q I C N E P V S T (D.set i ⟨D[i].ty,s,D[i].tags⟩) F M:=by
 rw [Zi6 15 s h]
 unfold spH
 rw [Z7e s D i h]
 rfl
theorem ZgJ{r:Rd}{c q:List AV}{I:List Im}{C:List Int}{N:List Z04}{E:List Bool}{P V S:List Int}{T:List Z04}{D:List Ds}{F:List Fx}{M:Heap}:(spH r c q I C N E P V S T D F M)[D.length+15]?=some (.row (F.flatMap Fx.c) 4 0):=Z3B D _
theorem Z9Y{r:Rd}{c q:List AV}{I:List Im}{C:List Int}{N:List Z04}{E:List Bool}{P V S:List Int}{T:List Z04}{D:List Ds}{F:List Fx}{M:Heap}(F':List Fx):(spH r c q I C N E P V S T D F M).set (D.length+15) (.row (F'.flatMap Fx.c) 4 0)=spH r c q I C N E P V S T D F' M:=by
 unfold spH
 simp only [List.set_cons_succ]
 rw [Go.Proofs.YtmomhjmaanagaaaGreat.objOwn.tgH_set0]; rfl
theorem ZgK(r:Rd)(c q:List AV)(I:List Im)(C:List Int)(N:List Z04)(E:List Bool)(P V S:List Int)(T:List Z04)(D:List Ds)(F:List Fx)(x:Z0L):spH r c q I C N E P V S T D F [x]=spH r c q I C N E P V S T D F []++[x]:=by
 unfold spH
 simp only [List.cons_append,List.append_assoc,List.nil_append]
theorem Zeb{r:Rd}{o:Ob}{I:List Im}{C:List Int}{N:List Z04}{E:List Bool}{P V S:List Int}{T:List Z04}{D:List Ds}{F:List Fx}(hD:D.length=o.descs.length) :
  (spH r (Ob.ow o 6) o.c I C N E P V S T D F []).all (Z2H (D.length+0+19))=true:=by
 have e1:Z0Z (D.length+0+19) (Ob.ow o 6)=true:=Z6Q (by omega)
 have e2:Z0Z (D.length+0+19) (dsM 15 D)=true:=Z4C (by omega)
 have e3:Z0Z (D.length+0+19) o.c=true:=by simp only [Ob.c,Z0Z,scp,Z52,Z1o,Bool.and_true]
 unfold spH
 simp only [List.all_cons,List.all_nil,List.all_append,Z2H,Z52,Z1o,Z4u,e1,e2,e3,Rd.c,Z0Z,scp,Bool.and_true,Bool.true_and,decide_eq_true_eq]
 omega
theorem Z9W(Γ:Env)(r:Rd)(o:Ob)(ho:o.ok):Z0a Tryz.prog Γ Tryz.f9 (Z9Z o) (Z36 r o) (.tup []) (Z3Z r o):=by
 have z1:=ho.imps
 have z2:=ho.code
 have z3:=ho.procs
 have z4:=ho.names
 have z5:=ho.vars
 have z6:=ho.shown
 have z7:=ho.strs
 have z8:=ho.descs
 have z9:=ho.fixes
 have hSM:(SM:Nat)=1048576:=rfl
 rw [hSM] at z1 z2 z3 z4 z5 z6 z7 z8 z9
 unfold Z9Z Z36
 (intro X hP hΓ hL hfin; refine⟨_,rfl,?_⟩; rw [show Tryz.f9.ntmps=133 from rfl]; rw [show Tryz.f9.results.toList=[] from rfl] at hfin; apply holds_of_ex X 400; simp (maxSteps:=1000000) only [push_cast,reduceCtorEq,Nat.reduceAdd,Nat.reduceMul,Nat.reduceSub,Nat.reduceBEq,Nat.reduceGT,Nat.reduceLT,Int.toNat_zero,Nat.reduceLeDiff,Int.reduceEq,Int.reduceLT,Int.reduceLE,hP,hΓ,hL,hfin,↓Z00,String.reduceEq,not_false_eq_true,if_true,spH,Z6v,ow1])
 simp only [Nat.add_assoc,Nat.reduceAdd]
 show Holds X _ _ (spH r (Ob.ow o 6) o.c (o.imps) (o.code) (o.names) (o.exps) (o.procs) (o.vars) (o.shown) (o.strs) (o.descs) (o.fixes) [.row (Ob.ow o 6) 13 0])
 refine Holds.loopM (ι:={i:Nat // i≤o.imps.length}) [false,true,false,true,true,true,true,true,true,true,true,true,false,false,false,false,false,false,false,false,false,false,false,false,false,false,false,false,false,false,false,false,false,false,false,false,false,false,false,false,false,false,false,false,false,false,false,false,false,false,false,false,false,false,false,false,false,false,false,false,false,false,false,false,false,false,false,false,false,false,false,false,false,false,false,false,false,false,false,false,false,false,false,false,false,false,false,false,false,false,false,false,false,false,false,false,false,false,false,false,false,false,false,false,false,false,false,false,false,false,false,false,false,false,false,false,false,false,false,false,false,false,false,false,false,false,false,false,false,false,false,false,false] (fun i=>[(2,.int .i64 i.1)]) (fun i=>spH r (Ob.ow o 6) o.c (upd sI o.imps i.1) (o.code) (o.names) (o.exps) (o.procs) (o.vars) (o.shown) (o.strs) (o.descs) (o.fixes) [.row (Ob.ow o 6) 13 0]) (fun i=>o.imps.length - i.1) ⟨0,Nat.zero_le _⟩ ?_ ?_
 ·rw [hL]
  simp only [push_cast,reduceCtorEq,Nat.reduceAdd,Nat.reduceMul,Nat.reduceSub,Nat.reduceBEq,Nat.reduceGT,Nat.reduceLT,Int.toNat_zero,Nat.reduceLeDiff,Int.reduceEq,Int.reduceLT,Int.reduceLE,Int.natCast_zero,Z5O]
  exact Z1v rfl (by rw [Z19]; simp) (by first | exact Z0d _ | (simp only [leF,true_and,and_true,and_self]; done) | (simp [leF]; done)) (by simp [Z0Z,scp])
 rintro⟨i,hi⟩
 dsimp only
 have hb1:=Z37 (r:=r) (o:=o) (I:=upd sI o.imps i) (C:=o.code) (N:=o.names) (E:=o.exps) (P:=o.procs) (V:=o.vars) (S:=o.shown) (T:=o.strs) (D:=o.descs) (F:=o.fixes) rfl
 have hg1:(spH r (Ob.ow o 6) o.c (upd sI o.imps i) (o.code) (o.names) (o.exps) (o.procs) (o.vars) (o.shown) (o.strs) (o.descs) (o.fixes) [.row (Ob.ow o 6) 13 0])[6]?=some (.row ((upd sI o.imps i).flatMap Im.c) 2 0):=rfl
 have hL1:=Z22 sI o.imps i
 have hs1:(spH r (Ob.ow o 6) o.c (upd sI o.imps i) (o.code) (o.names) (o.exps) (o.procs) (o.vars) (o.shown) (o.strs) (o.descs) (o.fixes) [.row (Ob.ow o 6) 13 0]).set 6 (.row ((upd sI o.imps (i+1)).flatMap Im.c) 2 0)=spH r (Ob.ow o 6) o.c (upd sI o.imps (i+1)) (o.code) (o.names) (o.exps) (o.procs) (o.vars) (o.shown) (o.strs) (o.descs) (o.fixes) [.row (Ob.ow o 6) 13 0]:=rfl
 by_cases hc:i<o.imps.length
 case pos=>
  have dc:decide ((i:Int)<(o.imps.length:Int))=true:=decide_eq_true (by omega)
  have hp:List.take (i*2) ((upd sI o.imps i).flatMap Im.c)++[AV.str [109,105,110,101]]++List.drop (i*2+1) ((upd sI o.imps i).flatMap Im.c)=(upd sI o.imps (i+1)).flatMap Im.c:=(ZgE (g:=Im.c) (n:=2) (a:=0) (y:=sI o.imps[i]) (by rw [hL1]; exact hc) (by decide) (by rw [Z7a sI hc]; rfl)).trans (congrArg (List.flatMap Im.c) (Z2M sI hc))
  ((first | with_reducible refine holds_of_ex X 400 _ _ _ ?_ | skip); simp (maxSteps:=1000000) only [push_cast,reduceCtorEq,Nat.reduceAdd,Nat.reduceMul,Nat.reduceSub,Nat.reduceBEq,Nat.reduceGT,Nat.reduceLT,Int.toNat_zero,Nat.reduceLeDiff,Int.reduceEq,Int.reduceLT,Int.reduceLE,hP,hΓ,hL,hfin,↓Z00,String.reduceEq,not_false_eq_true,if_true,hb1,fl2,Z6v,ow1,dc,hg1,hL1])
  (repeat (refine And.intro (by first | exact True.intro | omega | assumption | exact own_row _ | (simp only [List.length_append]; omega) | (intro hg; (try simp only [decide_eq_true_eq,decide_eq_false_iff_not,Bool.and_eq_true,Bool.or_eq_true,Bool.and_eq_false_iff,Bool.or_eq_false_iff,Bool.not_eq_true',Bool.not_eq_false',Bool.not_eq_true,Bool.not_eq_false,Int.not_lt,Int.not_le,beq_iff_eq,beq_eq_false_iff_ne,ne_eq,win_t,win_f] at hg); omega)) ?_))
  refine⟨⟨i+1,by omega⟩,by simp only; omega,?_⟩
  dsimp only
  rw [hp,hs1,Z0c ((i:Int)+1) (by constructor <;> omega)]
  exact Z1v rfl (by rw [Z19]; simp) (by first | exact Z0d _ | (simp only [leF,true_and,and_true,and_self]; done) | (simp [leF]; done)) (by simp [Z0Z,scp])
 obtain rfl:i=o.imps.length:=by omega
 have dc:decide ((o.imps.length:Int)<(o.imps.length:Int))=false:=decide_eq_false (by omega)
 rw [Z2N] at hb1 hg1 ⊢
 ((first | with_reducible refine holds_of_ex X 400 _ _ _ ?_ | skip); simp (maxSteps:=1000000) only [push_cast,reduceCtorEq,Nat.reduceAdd,Nat.reduceMul,Nat.reduceSub,Nat.reduceBEq,Nat.reduceGT,Nat.reduceLT,Int.toNat_zero,Nat.reduceLeDiff,Int.reduceEq,Int.reduceLT,Int.reduceLE,hP,hΓ,hL,hfin,↓Z00,String.reduceEq,not_false_eq_true,if_true,hb1,fl2,Z6v,ow1,dc,hg1])
 clear hb1 hg1 hs1 hL1 dc hi hc
 refine Holds.loopM (ι:={i:Nat // i≤o.code.length}) [false,true,false,false,true,true,true,true,true,true,true,true,false,false,false,false,false,false,false,false,false,false,false,false,false,false,false,false,false,false,false,false,false,false,false,false,false,false,false,false,false,false,false,false,false,false,false,false,false,false,false,false,false,false,false,false,false,false,false,false,false,false,false,false,false,false,false,false,false,false,false,false,false,false,false,false,false,false,false,false,false,false,false,false,false,false,false,false,false,false,false,false,false,false,false,false,false,false,false,false,false,false,false,false,false,false,false,false,false,false,false,false,false,false,false,false,false,false,false,false,false,false,false,false,false,false,false,false,false,false,false,false,false] (fun i=>[(3,.int .i64 i.1)]) (fun i=>spH r (Ob.ow o 6) o.c (o.imps.map sI) (upd (fun _=>77) o.code i.1) (o.names) (o.exps) (o.procs) (o.vars) (o.shown) (o.strs) (o.descs) (o.fixes) [.row (Ob.ow o 6) 13 0]) (fun i=>o.code.length - i.1) ⟨0,Nat.zero_le _⟩ ?_ ?_
 ·rw [hL]
  simp only [push_cast,reduceCtorEq,Nat.reduceAdd,Nat.reduceMul,Nat.reduceSub,Nat.reduceBEq,Nat.reduceGT,Nat.reduceLT,Int.toNat_zero,Nat.reduceLeDiff,Int.reduceEq,Int.reduceLT,Int.reduceLE,Int.natCast_zero,Z5O]
  exact Z1v rfl (by rw [Z19]; simp) (by first | exact Z0d _ | (simp only [leF,true_and,and_true,and_self]; done) | (simp [leF]; done)) (by simp [Z0Z,scp])
 rintro⟨i,hi⟩
 dsimp only
 have hb2:=Z37 (r:=r) (o:=o) (I:=o.imps.map sI) (C:=upd (fun _=>77) o.code i) (N:=o.names) (E:=o.exps) (P:=o.procs) (V:=o.vars) (S:=o.shown) (T:=o.strs) (D:=o.descs) (F:=o.fixes) rfl
 have hg2:(spH r (Ob.ow o 6) o.c (o.imps.map sI) (upd (fun _=>77) o.code i) (o.names) (o.exps) (o.procs) (o.vars) (o.shown) (o.strs) (o.descs) (o.fixes) [.row (Ob.ow o 6) 13 0])[7]?=some (.row ((upd (fun _=>77) o.code i).map (AV.int .u32)) 1 0):=rfl
 have hL2:=Z22 (fun _=>77) o.code i
 have hs2:(spH r (Ob.ow o 6) o.c (o.imps.map sI) (upd (fun _=>77) o.code i) (o.names) (o.exps) (o.procs) (o.vars) (o.shown) (o.strs) (o.descs) (o.fixes) [.row (Ob.ow o 6) 13 0]).set 7 (.row ((upd (fun _=>77) o.code (i+1)).map (AV.int .u32)) 1 0)=spH r (Ob.ow o 6) o.c (o.imps.map sI) (upd (fun _=>77) o.code (i+1)) (o.names) (o.exps) (o.procs) (o.vars) (o.shown) (o.strs) (o.descs) (o.fixes) [.row (Ob.ow o 6) 13 0]:=rfl
 by_cases hc:i<o.code.length
 case pos=>
  have dc:decide ((i:Int)<(o.code.length:Int))=true:=decide_eq_true (by omega)
  have hp:List.take i ((upd (fun _=>77) o.code i).map (AV.int .u32))++[AV.int .u32 77]++List.drop (i+1) ((upd (fun _=>77) o.code i).map (AV.int .u32))=(upd (fun _=>77) o.code (i+1)).map (AV.int .u32):=(Z5h (AV.int .u32) ((fun _=>77) o.code[i]) (by rw [hL2]; exact hc)).trans (congrArg (List.map (AV.int .u32)) (Z2M (fun _=>77) hc))
  ((first | with_reducible refine holds_of_ex X 400 _ _ _ ?_ | skip); simp (maxSteps:=1000000) only [push_cast,reduceCtorEq,Nat.reduceAdd,Nat.reduceMul,Nat.reduceSub,Nat.reduceBEq,Nat.reduceGT,Nat.reduceLT,Int.toNat_zero,Nat.reduceLeDiff,Int.reduceEq,Int.reduceLT,Int.reduceLE,hP,hΓ,hL,hfin,↓Z00,String.reduceEq,not_false_eq_true,if_true,hb2,fl3,Z6v,ow1,dc,hg2,hL2])
  (repeat (refine And.intro (by first | exact True.intro | omega | assumption | exact own_row _ | (simp only [List.length_append]; omega) | (intro hg; (try simp only [decide_eq_true_eq,decide_eq_false_iff_not,Bool.and_eq_true,Bool.or_eq_true,Bool.and_eq_false_iff,Bool.or_eq_false_iff,Bool.not_eq_true',Bool.not_eq_false',Bool.not_eq_true,Bool.not_eq_false,Int.not_lt,Int.not_le,beq_iff_eq,beq_eq_false_iff_ne,ne_eq,win_t,win_f] at hg); omega)) ?_))
  refine⟨⟨i+1,by omega⟩,by simp only; omega,?_⟩
  dsimp only
  rw [hp,hs2,Z0c ((i:Int)+1) (by constructor <;> omega)]
  exact Z1v rfl (by rw [Z19]; simp) (by first | exact Z0d _ | (simp only [leF,true_and,and_true,and_self]; done) | (simp [leF]; done)) (by simp [Z0Z,scp])
 obtain rfl:i=o.code.length:=by omega
 have dc:decide ((o.code.length:Int)<(o.code.length:Int))=false:=decide_eq_false (by omega)
 rw [Z2N] at hb2 hg2 ⊢
 ((first | with_reducible refine holds_of_ex X 400 _ _ _ ?_ | skip); simp (maxSteps:=1000000) only [push_cast,reduceCtorEq,Nat.reduceAdd,Nat.reduceMul,Nat.reduceSub,Nat.reduceBEq,Nat.reduceGT,Nat.reduceLT,Int.toNat_zero,Nat.reduceLeDiff,Int.reduceEq,Int.reduceLT,Int.reduceLE,hP,hΓ,hL,hfin,↓Z00,String.reduceEq,not_false_eq_true,if_true,hb2,fl3,Z6v,ow1,dc,hg2])
 clear hb2 hg2 hs2 hL2 dc hi hc
 refine Holds.loopM (ι:={i:Nat // i≤o.procs.length}) [false,true,false,false,false,true,true,true,true,true,true,true,false,false,false,false,false,false,false,false,false,false,false,false,false,false,false,false,false,false,false,false,false,false,false,false,false,false,false,false,false,false,false,false,false,false,false,false,false,false,false,false,false,false,false,false,false,false,false,false,false,false,false,false,false,false,false,false,false,false,false,false,false,false,false,false,false,false,false,false,false,false,false,false,false,false,false,false,false,false,false,false,false,false,false,false,false,false,false,false,false,false,false,false,false,false,false,false,false,false,false,false,false,false,false,false,false,false,false,false,false,false,false,false,false,false,false,false,false,false,false,false,false] (fun i=>[(4,.int .i64 i.1)]) (fun i=>spH r (Ob.ow o 6) o.c (o.imps.map sI) (o.code.map (fun _=>77)) (o.names) (o.exps) (upd (fun _=>-7) o.procs i.1) (o.vars) (o.shown) (o.strs) (o.descs) (o.fixes) [.row (Ob.ow o 6) 13 0]) (fun i=>o.procs.length - i.1) ⟨0,Nat.zero_le _⟩ ?_ ?_
 ·rw [hL]
  simp only [push_cast,reduceCtorEq,Nat.reduceAdd,Nat.reduceMul,Nat.reduceSub,Nat.reduceBEq,Nat.reduceGT,Nat.reduceLT,Int.toNat_zero,Nat.reduceLeDiff,Int.reduceEq,Int.reduceLT,Int.reduceLE,Int.natCast_zero,Z5O]
  exact Z1v rfl (by rw [Z19]; simp) (by first | exact Z0d _ | (simp only [leF,true_and,and_true,and_self]; done) | (simp [leF]; done)) (by simp [Z0Z,scp])
 rintro⟨i,hi⟩
 dsimp only
 have hb3:=Z37 (r:=r) (o:=o) (I:=o.imps.map sI) (C:=o.code.map (fun _=>77)) (N:=o.names) (E:=o.exps) (P:=upd (fun _=>-7) o.procs i) (V:=o.vars) (S:=o.shown) (T:=o.strs) (D:=o.descs) (F:=o.fixes) rfl
 have hg3:(spH r (Ob.ow o 6) o.c (o.imps.map sI) (o.code.map (fun _=>77)) (o.names) (o.exps) (upd (fun _=>-7) o.procs i) (o.vars) (o.shown) (o.strs) (o.descs) (o.fixes) [.row (Ob.ow o 6) 13 0])[10]?=some (.row ((upd (fun _=>-7) o.procs i).map (AV.int .i64)) 1 0):=rfl
 have hL3:=Z22 (fun _=>-7) o.procs i
 have hs3:(spH r (Ob.ow o 6) o.c (o.imps.map sI) (o.code.map (fun _=>77)) (o.names) (o.exps) (upd (fun _=>-7) o.procs i) (o.vars) (o.shown) (o.strs) (o.descs) (o.fixes) [.row (Ob.ow o 6) 13 0]).set 10 (.row ((upd (fun _=>-7) o.procs (i+1)).map (AV.int .i64)) 1 0)=spH r (Ob.ow o 6) o.c (o.imps.map sI) (o.code.map (fun _=>77)) (o.names) (o.exps) (upd (fun _=>-7) o.procs (i+1)) (o.vars) (o.shown) (o.strs) (o.descs) (o.fixes) [.row (Ob.ow o 6) 13 0]:=rfl
 by_cases hc:i<o.procs.length
 case pos=>
  have dc:decide ((i:Int)<(o.procs.length:Int))=true:=decide_eq_true (by omega)
  have hp:List.take i ((upd (fun _=>-7) o.procs i).map (AV.int .i64))++[AV.int .i64 (-7)]++List.drop (i+1) ((upd (fun _=>-7) o.procs i).map (AV.int .i64))=(upd (fun _=>-7) o.procs (i+1)).map (AV.int .i64):=(Z5h (AV.int .i64) ((fun _=>-7) o.procs[i]) (by rw [hL3]; exact hc)).trans (congrArg (List.map (AV.int .i64)) (Z2M (fun _=>-7) hc))
  ((first | with_reducible refine holds_of_ex X 400 _ _ _ ?_ | skip); simp (maxSteps:=1000000) only [push_cast,reduceCtorEq,Nat.reduceAdd,Nat.reduceMul,Nat.reduceSub,Nat.reduceBEq,Nat.reduceGT,Nat.reduceLT,Int.toNat_zero,Nat.reduceLeDiff,Int.reduceEq,Int.reduceLT,Int.reduceLE,hP,hΓ,hL,hfin,↓Z00,String.reduceEq,not_false_eq_true,if_true,hb3,fl4,Z6v,ow1,dc,hg3,hL3])
  (repeat (refine And.intro (by first | exact True.intro | omega | assumption | exact own_row _ | (simp only [List.length_append]; omega) | (intro hg; (try simp only [decide_eq_true_eq,decide_eq_false_iff_not,Bool.and_eq_true,Bool.or_eq_true,Bool.and_eq_false_iff,Bool.or_eq_false_iff,Bool.not_eq_true',Bool.not_eq_false',Bool.not_eq_true,Bool.not_eq_false,Int.not_lt,Int.not_le,beq_iff_eq,beq_eq_false_iff_ne,ne_eq,win_t,win_f] at hg); omega)) ?_))
  refine⟨⟨i+1,by omega⟩,by simp only; omega,?_⟩
  dsimp only
  rw [hp,hs3,Z0c ((i:Int)+1) (by constructor <;> omega)]
  exact Z1v rfl (by rw [Z19]; simp) (by first | exact Z0d _ | (simp only [leF,true_and,and_true,and_self]; done) | (simp [leF]; done)) (by simp [Z0Z,scp])
 obtain rfl:i=o.procs.length:=by omega
 have dc:decide ((o.procs.length:Int)<(o.procs.length:Int))=false:=decide_eq_false (by omega)
 rw [Z2N] at hb3 hg3 ⊢
 ((first | with_reducible refine holds_of_ex X 400 _ _ _ ?_ | skip); simp (maxSteps:=1000000) only [push_cast,reduceCtorEq,Nat.reduceAdd,Nat.reduceMul,Nat.reduceSub,Nat.reduceBEq,Nat.reduceGT,Nat.reduceLT,Int.toNat_zero,Nat.reduceLeDiff,Int.reduceEq,Int.reduceLT,Int.reduceLE,hP,hΓ,hL,hfin,↓Z00,String.reduceEq,not_false_eq_true,if_true,hb3,fl4,Z6v,ow1,dc,hg3])
 clear hb3 hg3 hs3 hL3 dc hi hc
 refine Holds.loopM (ι:={i:Nat // i≤o.names.length}) [false,true,false,false,false,false,true,true,true,true,true,true,false,false,false,false,false,false,false,false,false,false,false,false,false,false,false,false,false,false,false,false,false,false,false,false,false,false,false,false,false,false,false,false,false,false,false,false,false,false,false,false,false,false,false,false,false,false,false,false,false,false,false,false,false,false,false,false,false,false,false,false,false,false,false,false,false,false,false,false,false,false,false,false,false,false,false,false,false,false,false,false,false,false,false,false,false,false,false,false,false,false,false,false,false,false,false,false,false,false,false,false,false,false,false,false,false,false,false,false,false,false,false,false,false,false,false,false,false,false,false,false,false] (fun i=>[(5,.int .i64 i.1)]) (fun i=>spH r (Ob.ow o 6) o.c (o.imps.map sI) (o.code.map (fun _=>77)) (upd (fun _=>Z0P) o.names i.1) (o.exps) (o.procs.map (fun _=>-7)) (o.vars) (o.shown) (o.strs) (o.descs) (o.fixes) [.row (Ob.ow o 6) 13 0]) (fun i=>o.names.length - i.1) ⟨0,Nat.zero_le _⟩ ?_ ?_
 ·rw [hL]
  simp only [push_cast,reduceCtorEq,Nat.reduceAdd,Nat.reduceMul,Nat.reduceSub,Nat.reduceBEq,Nat.reduceGT,Nat.reduceLT,Int.toNat_zero,Nat.reduceLeDiff,Int.reduceEq,Int.reduceLT,Int.reduceLE,Int.natCast_zero,Z5O]
  exact Z1v rfl (by rw [Z19]; simp) (by first | exact Z0d _ | (simp only [leF,true_and,and_true,and_self]; done) | (simp [leF]; done)) (by simp [Z0Z,scp])
 rintro⟨i,hi⟩
 dsimp only
 have hb4:=Z37 (r:=r) (o:=o) (I:=o.imps.map sI) (C:=o.code.map (fun _=>77)) (N:=upd (fun _=>Z0P) o.names i) (E:=o.exps) (P:=o.procs.map (fun _=>-7)) (V:=o.vars) (S:=o.shown) (T:=o.strs) (D:=o.descs) (F:=o.fixes) rfl
 have hg4:(spH r (Ob.ow o 6) o.c (o.imps.map sI) (o.code.map (fun _=>77)) (upd (fun _=>Z0P) o.names i) (o.exps) (o.procs.map (fun _=>-7)) (o.vars) (o.shown) (o.strs) (o.descs) (o.fixes) [.row (Ob.ow o 6) 13 0])[8]?=some (.row ((upd (fun _=>Z0P) o.names i).map AV.str) 1 0):=rfl
 have hL4:=Z22 (fun _=>Z0P) o.names i
 have hs4:(spH r (Ob.ow o 6) o.c (o.imps.map sI) (o.code.map (fun _=>77)) (upd (fun _=>Z0P) o.names i) (o.exps) (o.procs.map (fun _=>-7)) (o.vars) (o.shown) (o.strs) (o.descs) (o.fixes) [.row (Ob.ow o 6) 13 0]).set 8 (.row ((upd (fun _=>Z0P) o.names (i+1)).map AV.str) 1 0)=spH r (Ob.ow o 6) o.c (o.imps.map sI) (o.code.map (fun _=>77)) (upd (fun _=>Z0P) o.names (i+1)) (o.exps) (o.procs.map (fun _=>-7)) (o.vars) (o.shown) (o.strs) (o.descs) (o.fixes) [.row (Ob.ow o 6) 13 0]:=rfl
 by_cases hc:i<o.names.length
 case pos=>
  have dc:decide ((i:Int)<(o.names.length:Int))=true:=decide_eq_true (by omega)
  have hp:List.take i ((upd (fun _=>Z0P) o.names i).map AV.str)++[AV.str [109,105,110,101]]++List.drop (i+1) ((upd (fun _=>Z0P) o.names i).map AV.str)=(upd (fun _=>Z0P) o.names (i+1)).map AV.str:=(Z5h AV.str ((fun _=>Z0P) o.names[i]) (by rw [hL4]; exact hc)).trans (congrArg (List.map AV.str) (Z2M (fun _=>Z0P) hc))
  ((first | with_reducible refine holds_of_ex X 400 _ _ _ ?_ | skip); simp (maxSteps:=1000000) only [push_cast,reduceCtorEq,Nat.reduceAdd,Nat.reduceMul,Nat.reduceSub,Nat.reduceBEq,Nat.reduceGT,Nat.reduceLT,Int.toNat_zero,Nat.reduceLeDiff,Int.reduceEq,Int.reduceLT,Int.reduceLE,hP,hΓ,hL,hfin,↓Z00,String.reduceEq,not_false_eq_true,if_true,hb4,fl5,Z6v,ow1,dc,hg4,hL4])
  (repeat (refine And.intro (by first | exact True.intro | omega | assumption | exact own_row _ | (simp only [List.length_append]; omega) | (intro hg; (try simp only [decide_eq_true_eq,decide_eq_false_iff_not,Bool.and_eq_true,Bool.or_eq_true,Bool.and_eq_false_iff,Bool.or_eq_false_iff,Bool.not_eq_true',Bool.not_eq_false',Bool.not_eq_true,Bool.not_eq_false,Int.not_lt,Int.not_le,beq_iff_eq,beq_eq_false_iff_ne,ne_eq,win_t,win_f] at hg); omega)) ?_))
  refine⟨⟨i+1,by omega⟩,by simp only; omega,?_⟩
  dsimp only
  rw [hp,hs4,Z0c ((i:Int)+1) (by constructor <;> omega)]
  exact Z1v rfl (by rw [Z19]; simp) (by first | exact Z0d _ | (simp only [leF,true_and,and_true,and_self]; done) | (simp [leF]; done)) (by simp [Z0Z,scp])
 obtain rfl:i=o.names.length:=by omega
 have dc:decide ((o.names.length:Int)<(o.names.length:Int))=false:=decide_eq_false (by omega)
 rw [Z2N] at hb4 hg4 ⊢
 ((first | with_reducible refine holds_of_ex X 400 _ _ _ ?_ | skip); simp (maxSteps:=1000000) only [push_cast,reduceCtorEq,Nat.reduceAdd,Nat.reduceMul,Nat.reduceSub,Nat.reduceBEq,Nat.reduceGT,Nat.reduceLT,Int.toNat_zero,Nat.reduceLeDiff,Int.reduceEq,Int.reduceLT,Int.reduceLE,hP,hΓ,hL,hfin,↓Z00,String.reduceEq,not_false_eq_true,if_true,hb4,fl5,Z6v,ow1,dc,hg4])
 clear hb4 hg4 hs4 hL4 dc hi hc
 refine Holds.loopM (ι:={i:Nat // i≤o.vars.length}) [false,true,false,false,false,false,false,true,true,true,true,true,false,false,false,false,false,false,false,false,false,false,false,false,false,false,false,false,false,false,false,false,false,false,false,false,false,false,false,false,false,false,false,false,false,false,false,false,false,false,false,false,false,false,false,false,false,false,false,false,false,false,false,false,false,false,false,false,false,false,false,false,false,false,false,false,false,false,false,false,false,false,false,false,false,false,false,false,false,false,false,false,false,false,false,false,false,false,false,false,false,false,false,false,false,false,false,false,false,false,false,false,false,false,false,false,false,false,false,false,false,false,false,false,false,false,false,false,false,false,false,false,false] (fun i=>[(6,.int .i64 i.1)]) (fun i=>spH r (Ob.ow o 6) o.c (o.imps.map sI) (o.code.map (fun _=>77)) (o.names.map (fun _=>Z0P)) (o.exps) (o.procs.map (fun _=>-7)) (upd (fun _=>-7) o.vars i.1) (o.shown) (o.strs) (o.descs) (o.fixes) [.row (Ob.ow o 6) 13 0]) (fun i=>o.vars.length - i.1) ⟨0,Nat.zero_le _⟩ ?_ ?_
 ·rw [hL]
  simp only [push_cast,reduceCtorEq,Nat.reduceAdd,Nat.reduceMul,Nat.reduceSub,Nat.reduceBEq,Nat.reduceGT,Nat.reduceLT,Int.toNat_zero,Nat.reduceLeDiff,Int.reduceEq,Int.reduceLT,Int.reduceLE,Int.natCast_zero,Z5O]
  exact Z1v rfl (by rw [Z19]; simp) (by first | exact Z0d _ | (simp only [leF,true_and,and_true,and_self]; done) | (simp [leF]; done)) (by simp [Z0Z,scp])
 rintro⟨i,hi⟩
 dsimp only
 have hb5:=Z37 (r:=r) (o:=o) (I:=o.imps.map sI) (C:=o.code.map (fun _=>77)) (N:=o.names.map (fun _=>Z0P)) (E:=o.exps) (P:=o.procs.map (fun _=>-7)) (V:=upd (fun _=>-7) o.vars i) (S:=o.shown) (T:=o.strs) (D:=o.descs) (F:=o.fixes) rfl
 have hg5:(spH r (Ob.ow o 6) o.c (o.imps.map sI) (o.code.map (fun _=>77)) (o.names.map (fun _=>Z0P)) (o.exps) (o.procs.map (fun _=>-7)) (upd (fun _=>-7) o.vars i) (o.shown) (o.strs) (o.descs) (o.fixes) [.row (Ob.ow o 6) 13 0])[11]?=some (.row ((upd (fun _=>-7) o.vars i).map (AV.int .i64)) 1 0):=rfl
 have hL5:=Z22 (fun _=>-7) o.vars i
 have hs5:(spH r (Ob.ow o 6) o.c (o.imps.map sI) (o.code.map (fun _=>77)) (o.names.map (fun _=>Z0P)) (o.exps) (o.procs.map (fun _=>-7)) (upd (fun _=>-7) o.vars i) (o.shown) (o.strs) (o.descs) (o.fixes) [.row (Ob.ow o 6) 13 0]).set 11 (.row ((upd (fun _=>-7) o.vars (i+1)).map (AV.int .i64)) 1 0)=spH r (Ob.ow o 6) o.c (o.imps.map sI) (o.code.map (fun _=>77)) (o.names.map (fun _=>Z0P)) (o.exps) (o.procs.map (fun _=>-7)) (upd (fun _=>-7) o.vars (i+1)) (o.shown) (o.strs) (o.descs) (o.fixes) [.row (Ob.ow o 6) 13 0]:=rfl
 by_cases hc:i<o.vars.length
 case pos=>
  have dc:decide ((i:Int)<(o.vars.length:Int))=true:=decide_eq_true (by omega)
  have hp:List.take i ((upd (fun _=>-7) o.vars i).map (AV.int .i64))++[AV.int .i64 (-7)]++List.drop (i+1) ((upd (fun _=>-7) o.vars i).map (AV.int .i64))=(upd (fun _=>-7) o.vars (i+1)).map (AV.int .i64):=(Z5h (AV.int .i64) ((fun _=>-7) o.vars[i]) (by rw [hL5]; exact hc)).trans (congrArg (List.map (AV.int .i64)) (Z2M (fun _=>-7) hc))
  ((first | with_reducible refine holds_of_ex X 400 _ _ _ ?_ | skip); simp (maxSteps:=1000000) only [push_cast,reduceCtorEq,Nat.reduceAdd,Nat.reduceMul,Nat.reduceSub,Nat.reduceBEq,Nat.reduceGT,Nat.reduceLT,Int.toNat_zero,Nat.reduceLeDiff,Int.reduceEq,Int.reduceLT,Int.reduceLE,hP,hΓ,hL,hfin,↓Z00,String.reduceEq,not_false_eq_true,if_true,hb5,fl8,Z6v,ow1,dc,hg5,hL5])
  (repeat (refine And.intro (by first | exact True.intro | omega | assumption | exact own_row _ | (simp only [List.length_append]; omega) | (intro hg; (try simp only [decide_eq_true_eq,decide_eq_false_iff_not,Bool.and_eq_true,Bool.or_eq_true,Bool.and_eq_false_iff,Bool.or_eq_false_iff,Bool.not_eq_true',Bool.not_eq_false',Bool.not_eq_true,Bool.not_eq_false,Int.not_lt,Int.not_le,beq_iff_eq,beq_eq_false_iff_ne,ne_eq,win_t,win_f] at hg); omega)) ?_))
  refine⟨⟨i+1,by omega⟩,by simp only; omega,?_⟩
  dsimp only
  rw [hp,hs5,Z0c ((i:Int)+1) (by constructor <;> omega)]
  exact Z1v rfl (by rw [Z19]; simp) (by first | exact Z0d _ | (simp only [leF,true_and,and_true,and_self]; done) | (simp [leF]; done)) (by simp [Z0Z,scp])
 obtain rfl:i=o.vars.length:=by omega
 have dc:decide ((o.vars.length:Int)<(o.vars.length:Int))=false:=decide_eq_false (by omega)
 rw [Z2N] at hb5 hg5 ⊢
 ((first | with_reducible refine holds_of_ex X 400 _ _ _ ?_ | skip); simp (maxSteps:=1000000) only [push_cast,reduceCtorEq,Nat.reduceAdd,Nat.reduceMul,Nat.reduceSub,Nat.reduceBEq,Nat.reduceGT,Nat.reduceLT,Int.toNat_zero,Nat.reduceLeDiff,Int.reduceEq,Int.reduceLT,Int.reduceLE,hP,hΓ,hL,hfin,↓Z00,String.reduceEq,not_false_eq_true,if_true,hb5,fl8,Z6v,ow1,dc,hg5])
 clear hb5 hg5 hs5 hL5 dc hi hc
 refine Holds.loopM (ι:={i:Nat // i≤o.shown.length}) [false,true,false,false,false,false,false,false,true,true,true,true,false,false,false,false,false,false,false,false,false,false,false,false,false,false,false,false,false,false,false,false,false,false,false,false,false,false,false,false,false,false,false,false,false,false,false,false,false,false,false,false,false,false,false,false,false,false,false,false,false,false,false,false,false,false,false,false,false,false,false,false,false,false,false,false,false,false,false,false,false,false,false,false,false,false,false,false,false,false,false,false,false,false,false,false,false,false,false,false,false,false,false,false,false,false,false,false,false,false,false,false,false,false,false,false,false,false,false,false,false,false,false,false,false,false,false,false,false,false,false,false,false] (fun i=>[(7,.int .i64 i.1)]) (fun i=>spH r (Ob.ow o 6) o.c (o.imps.map sI) (o.code.map (fun _=>77)) (o.names.map (fun _=>Z0P)) (o.exps) (o.procs.map (fun _=>-7)) (o.vars.map (fun _=>-7)) (upd (fun _=>-7) o.shown i.1) (o.strs) (o.descs) (o.fixes) [.row (Ob.ow o 6) 13 0]) (fun i=>o.shown.length - i.1) ⟨0,Nat.zero_le _⟩ ?_ ?_
 ·rw [hL]
  simp only [push_cast,reduceCtorEq,Nat.reduceAdd,Nat.reduceMul,Nat.reduceSub,Nat.reduceBEq,Nat.reduceGT,Nat.reduceLT,Int.toNat_zero,Nat.reduceLeDiff,Int.reduceEq,Int.reduceLT,Int.reduceLE,Int.natCast_zero,Z5O]
  exact Z1v rfl (by rw [Z19]; simp) (by first | exact Z0d _ | (simp only [leF,true_and,and_true,and_self]; done) | (simp [leF]; done)) (by simp [Z0Z,scp])
 rintro⟨i,hi⟩
 dsimp only
 have hb6:=Z37 (r:=r) (o:=o) (I:=o.imps.map sI) (C:=o.code.map (fun _=>77)) (N:=o.names.map (fun _=>Z0P)) (E:=o.exps) (P:=o.procs.map (fun _=>-7)) (V:=o.vars.map (fun _=>-7)) (S:=upd (fun _=>-7) o.shown i) (T:=o.strs) (D:=o.descs) (F:=o.fixes) rfl
 have hg6:(spH r (Ob.ow o 6) o.c (o.imps.map sI) (o.code.map (fun _=>77)) (o.names.map (fun _=>Z0P)) (o.exps) (o.procs.map (fun _=>-7)) (o.vars.map (fun _=>-7)) (upd (fun _=>-7) o.shown i) (o.strs) (o.descs) (o.fixes) [.row (Ob.ow o 6) 13 0])[12]?=some (.row ((upd (fun _=>-7) o.shown i).map (AV.int .i64)) 1 0):=rfl
 have hL6:=Z22 (fun _=>-7) o.shown i
 have hs6:(spH r (Ob.ow o 6) o.c (o.imps.map sI) (o.code.map (fun _=>77)) (o.names.map (fun _=>Z0P)) (o.exps) (o.procs.map (fun _=>-7)) (o.vars.map (fun _=>-7)) (upd (fun _=>-7) o.shown i) (o.strs) (o.descs) (o.fixes) [.row (Ob.ow o 6) 13 0]).set 12 (.row ((upd (fun _=>-7) o.shown (i+1)).map (AV.int .i64)) 1 0)=spH r (Ob.ow o 6) o.c (o.imps.map sI) (o.code.map (fun _=>77)) (o.names.map (fun _=>Z0P)) (o.exps) (o.procs.map (fun _=>-7)) (o.vars.map (fun _=>-7)) (upd (fun _=>-7) o.shown (i+1)) (o.strs) (o.descs) (o.fixes) [.row (Ob.ow o 6) 13 0]:=rfl
 by_cases hc:i<o.shown.length
 case pos=>
  have dc:decide ((i:Int)<(o.shown.length:Int))=true:=decide_eq_true (by omega)
  have hp:List.take i ((upd (fun _=>-7) o.shown i).map (AV.int .i64))++[AV.int .i64 (-7)]++List.drop (i+1) ((upd (fun _=>-7) o.shown i).map (AV.int .i64))=(upd (fun _=>-7) o.shown (i+1)).map (AV.int .i64):=(Z5h (AV.int .i64) ((fun _=>-7) o.shown[i]) (by rw [hL6]; exact hc)).trans (congrArg (List.map (AV.int .i64)) (Z2M (fun _=>-7) hc))
  ((first | with_reducible refine holds_of_ex X 400 _ _ _ ?_ | skip); simp (maxSteps:=1000000) only [push_cast,reduceCtorEq,Nat.reduceAdd,Nat.reduceMul,Nat.reduceSub,Nat.reduceBEq,Nat.reduceGT,Nat.reduceLT,Int.toNat_zero,Nat.reduceLeDiff,Int.reduceEq,Int.reduceLT,Int.reduceLE,hP,hΓ,hL,hfin,↓Z00,String.reduceEq,not_false_eq_true,if_true,hb6,fl9,Z6v,ow1,dc,hg6,hL6])
  (repeat (refine And.intro (by first | exact True.intro | omega | assumption | exact own_row _ | (simp only [List.length_append]; omega) | (intro hg; (try simp only [decide_eq_true_eq,decide_eq_false_iff_not,Bool.and_eq_true,Bool.or_eq_true,Bool.and_eq_false_iff,Bool.or_eq_false_iff,Bool.not_eq_true',Bool.not_eq_false',Bool.not_eq_true,Bool.not_eq_false,Int.not_lt,Int.not_le,beq_iff_eq,beq_eq_false_iff_ne,ne_eq,win_t,win_f] at hg); omega)) ?_))
  refine⟨⟨i+1,by omega⟩,by simp only; omega,?_⟩
  dsimp only
  rw [hp,hs6,Z0c ((i:Int)+1) (by constructor <;> omega)]
  exact Z1v rfl (by rw [Z19]; simp) (by first | exact Z0d _ | (simp only [leF,true_and,and_true,and_self]; done) | (simp [leF]; done)) (by simp [Z0Z,scp])
 obtain rfl:i=o.shown.length:=by omega
 have dc:decide ((o.shown.length:Int)<(o.shown.length:Int))=false:=decide_eq_false (by omega)
 rw [Z2N] at hb6 hg6 ⊢
 ((first | with_reducible refine holds_of_ex X 400 _ _ _ ?_ | skip); simp (maxSteps:=1000000) only [push_cast,reduceCtorEq,Nat.reduceAdd,Nat.reduceMul,Nat.reduceSub,Nat.reduceBEq,Nat.reduceGT,Nat.reduceLT,Int.toNat_zero,Nat.reduceLeDiff,Int.reduceEq,Int.reduceLT,Int.reduceLE,hP,hΓ,hL,hfin,↓Z00,String.reduceEq,not_false_eq_true,if_true,hb6,fl9,Z6v,ow1,dc,hg6])
 clear hb6 hg6 hs6 hL6 dc hi hc
 refine Holds.loopM (ι:={i:Nat // i≤o.strs.length}) [false,true,false,false,false,false,false,false,false,true,true,true,false,false,false,false,false,false,false,false,false,false,false,false,false,false,false,false,false,false,false,false,false,false,false,false,false,false,false,false,false,false,false,false,false,false,false,false,false,false,false,false,false,false,false,false,false,false,false,false,false,false,false,false,false,false,false,false,false,false,false,false,false,false,false,false,false,false,false,false,false,false,false,false,false,false,false,false,false,false,false,false,false,false,false,false,false,false,false,false,false,false,false,false,false,false,false,false,false,false,false,false,false,false,false,false,false,false,false,false,false,false,false,false,false,false,false,false,false,false,false,false,false] (fun i=>[(8,.int .i64 i.1)]) (fun i=>spH r (Ob.ow o 6) o.c (o.imps.map sI) (o.code.map (fun _=>77)) (o.names.map (fun _=>Z0P)) (o.exps) (o.procs.map (fun _=>-7)) (o.vars.map (fun _=>-7)) (o.shown.map (fun _=>-7)) (upd (fun _=>Z0P) o.strs i.1) (o.descs) (o.fixes) [.row (Ob.ow o 6) 13 0]) (fun i=>o.strs.length - i.1) ⟨0,Nat.zero_le _⟩ ?_ ?_
 ·rw [hL]
  simp only [push_cast,reduceCtorEq,Nat.reduceAdd,Nat.reduceMul,Nat.reduceSub,Nat.reduceBEq,Nat.reduceGT,Nat.reduceLT,Int.toNat_zero,Nat.reduceLeDiff,Int.reduceEq,Int.reduceLT,Int.reduceLE,Int.natCast_zero,Z5O]
  exact Z1v rfl (by rw [Z19]; simp) (by first | exact Z0d _ | (simp only [leF,true_and,and_true,and_self]; done) | (simp [leF]; done)) (by simp [Z0Z,scp])
 rintro⟨i,hi⟩
 dsimp only
 have hb7:=Z37 (r:=r) (o:=o) (I:=o.imps.map sI) (C:=o.code.map (fun _=>77)) (N:=o.names.map (fun _=>Z0P)) (E:=o.exps) (P:=o.procs.map (fun _=>-7)) (V:=o.vars.map (fun _=>-7)) (S:=o.shown.map (fun _=>-7)) (T:=upd (fun _=>Z0P) o.strs i) (D:=o.descs) (F:=o.fixes) rfl
 have hg7:(spH r (Ob.ow o 6) o.c (o.imps.map sI) (o.code.map (fun _=>77)) (o.names.map (fun _=>Z0P)) (o.exps) (o.procs.map (fun _=>-7)) (o.vars.map (fun _=>-7)) (o.shown.map (fun _=>-7)) (upd (fun _=>Z0P) o.strs i) (o.descs) (o.fixes) [.row (Ob.ow o 6) 13 0])[13]?=some (.row ((upd (fun _=>Z0P) o.strs i).map AV.str) 1 0):=rfl
 have hL7:=Z22 (fun _=>Z0P) o.strs i
 have hs7:(spH r (Ob.ow o 6) o.c (o.imps.map sI) (o.code.map (fun _=>77)) (o.names.map (fun _=>Z0P)) (o.exps) (o.procs.map (fun _=>-7)) (o.vars.map (fun _=>-7)) (o.shown.map (fun _=>-7)) (upd (fun _=>Z0P) o.strs i) (o.descs) (o.fixes) [.row (Ob.ow o 6) 13 0]).set 13 (.row ((upd (fun _=>Z0P) o.strs (i+1)).map AV.str) 1 0)=spH r (Ob.ow o 6) o.c (o.imps.map sI) (o.code.map (fun _=>77)) (o.names.map (fun _=>Z0P)) (o.exps) (o.procs.map (fun _=>-7)) (o.vars.map (fun _=>-7)) (o.shown.map (fun _=>-7)) (upd (fun _=>Z0P) o.strs (i+1)) (o.descs) (o.fixes) [.row (Ob.ow o 6) 13 0]:=rfl
 by_cases hc:i<o.strs.length
 case pos=>
  have dc:decide ((i:Int)<(o.strs.length:Int))=true:=decide_eq_true (by omega)
  have hp:List.take i ((upd (fun _=>Z0P) o.strs i).map AV.str)++[AV.str [109,105,110,101]]++List.drop (i+1) ((upd (fun _=>Z0P) o.strs i).map AV.str)=(upd (fun _=>Z0P) o.strs (i+1)).map AV.str:=(Z5h AV.str ((fun _=>Z0P) o.strs[i]) (by rw [hL7]; exact hc)).trans (congrArg (List.map AV.str) (Z2M (fun _=>Z0P) hc))
  ((first | with_reducible refine holds_of_ex X 400 _ _ _ ?_ | skip); simp (maxSteps:=1000000) only [push_cast,reduceCtorEq,Nat.reduceAdd,Nat.reduceMul,Nat.reduceSub,Nat.reduceBEq,Nat.reduceGT,Nat.reduceLT,Int.toNat_zero,Nat.reduceLeDiff,Int.reduceEq,Int.reduceLT,Int.reduceLE,hP,hΓ,hL,hfin,↓Z00,String.reduceEq,not_false_eq_true,if_true,hb7,fl10,Z6v,ow1,dc,hg7,hL7])
  (repeat (refine And.intro (by first | exact True.intro | omega | assumption | exact own_row _ | (simp only [List.length_append]; omega) | (intro hg; (try simp only [decide_eq_true_eq,decide_eq_false_iff_not,Bool.and_eq_true,Bool.or_eq_true,Bool.and_eq_false_iff,Bool.or_eq_false_iff,Bool.not_eq_true',Bool.not_eq_false',Bool.not_eq_true,Bool.not_eq_false,Int.not_lt,Int.not_le,beq_iff_eq,beq_eq_false_iff_ne,ne_eq,win_t,win_f] at hg); omega)) ?_))
  refine⟨⟨i+1,by omega⟩,by simp only; omega,?_⟩
  dsimp only
  rw [hp,hs7,Z0c ((i:Int)+1) (by constructor <;> omega)]
  exact Z1v rfl (by rw [Z19]; simp) (by first | exact Z0d _ | (simp only [leF,true_and,and_true,and_self]; done) | (simp [leF]; done)) (by simp [Z0Z,scp])
 obtain rfl:i=o.strs.length:=by omega
 have dc:decide ((o.strs.length:Int)<(o.strs.length:Int))=false:=decide_eq_false (by omega)
 rw [Z2N] at hb7 hg7 ⊢
 ((first | with_reducible refine holds_of_ex X 400 _ _ _ ?_ | skip); simp (maxSteps:=1000000) only [push_cast,reduceCtorEq,Nat.reduceAdd,Nat.reduceMul,Nat.reduceSub,Nat.reduceBEq,Nat.reduceGT,Nat.reduceLT,Int.toNat_zero,Nat.reduceLeDiff,Int.reduceEq,Int.reduceLT,Int.reduceLE,hP,hΓ,hL,hfin,↓Z00,String.reduceEq,not_false_eq_true,if_true,hb7,fl10,Z6v,ow1,dc,hg7])
 clear hb7 hg7 hs7 hL7 dc hi hc
 refine Holds.loopM (ι:={i:Nat // i≤o.descs.length}) [false,true,false,false,false,false,false,false,false,false,false,true,false,false,false,false,false,false,false,false,false,false,false,false,false,false,false,false,false,false,false,false,false,false,false,false,false,false,false,false,false,false,false,false,false,false,false,false,false,false,false,false,false,false,false,false,false,false,false,false,false,false,false,false,false,false,false,false,false,false,false,false,false,false,false,false,false,false,false,false,false,false,false,false,false,false,false,false,false,false,false,false,false,false,false,false,false,false,false,false,false,false,false,false,false,false,false,false,false,false,false,false,false,false,false,false,false,false,false,false,false,false,false,false,false,false,false,false,false,false,false,false,false] (fun i=>[(9,.int .i64 i.1)]) (fun i=>spH r (Ob.ow o 6) o.c (o.imps.map sI) (o.code.map (fun _=>77)) (o.names.map (fun _=>Z0P)) (o.exps) (o.procs.map (fun _=>-7)) (o.vars.map (fun _=>-7)) (o.shown.map (fun _=>-7)) (o.strs.map (fun _=>Z0P)) (upd sD o.descs i.1) (o.fixes) [.row (Ob.ow o 6) 13 0]) (fun i=>o.descs.length - i.1) ⟨0,Nat.zero_le _⟩ ?_ ?_
 ·rw [hL]
  simp only [push_cast,reduceCtorEq,Nat.reduceAdd,Nat.reduceMul,Nat.reduceSub,Nat.reduceBEq,Nat.reduceGT,Nat.reduceLT,Int.toNat_zero,Nat.reduceLeDiff,Int.reduceEq,Int.reduceLT,Int.reduceLE,Int.natCast_zero,Z5O]
  exact Z1v rfl (by rw [Z19]; simp) (by first | exact Z0d _ | (simp only [leF,true_and,and_true,and_self]; done) | (simp [leF]; done)) (by simp [Z0Z,scp])
 rintro⟨m,hm⟩
 dsimp only
 have hDl:(upd sD o.descs m).length=o.descs.length:=Z22 sD o.descs m
 have hb:=Z37 (r:=r) (o:=o) (I:=o.imps.map sI) (C:=o.code.map (fun _=>77)) (N:=o.names.map (fun _=>Z0P)) (E:=o.exps) (P:=o.procs.map (fun _=>-7)) (V:=o.vars.map (fun _=>-7)) (S:=o.shown.map (fun _=>-7)) (T:=o.strs.map (fun _=>Z0P)) (D:=upd sD o.descs m) (F:=o.fixes) hDl
 have hg8:(spH r (Ob.ow o 6) o.c (o.imps.map sI) (o.code.map (fun _=>77)) (o.names.map (fun _=>Z0P)) (o.exps) (o.procs.map (fun _=>-7)) (o.vars.map (fun _=>-7)) (o.shown.map (fun _=>-7)) (o.strs.map (fun _=>Z0P)) (upd sD o.descs m) (o.fixes) [.row (Ob.ow o 6) 13 0])[14]?=some (.row (dsM 15 (upd sD o.descs m)) 3 0):=rfl
 by_cases hc:m<o.descs.length
 case pos=>
  have dc:decide ((m:Int)<(o.descs.length:Int))=true:=decide_eq_true (by omega)
  obtain⟨d,hd⟩:∃d,d=o.descs[m]:=⟨_,rfl⟩
  have hdt:=ho.des d (by rw [hd]; exact List.getElem_mem hc)
  rw [hSM] at hdt
  have hDg:(upd sD o.descs m)[m]'(by rw [hDl]; exact hc)=d:=by rw [hd]; exact Z7a sD hc
  have hDn:upd sD o.descs (m+1)=(upd sD o.descs m).set m (sD d):=by rw [hd]; exact (Z2M sD hc).symm
  ((first | with_reducible refine holds_of_ex X 400 _ _ _ ?_ | skip); simp (maxSteps:=1000000) only [push_cast,reduceCtorEq,Nat.reduceAdd,Nat.reduceMul,Nat.reduceSub,Nat.reduceBEq,Nat.reduceGT,Nat.reduceLT,Int.toNat_zero,Nat.reduceLeDiff,Int.reduceEq,Int.reduceLT,Int.reduceLE,hP,hΓ,hL,hfin,↓Z00,String.reduceEq,not_false_eq_true,if_true,hb,ZjA,Z6v,ow1,dc,hg8])
  clear hg8
  generalize upd sD o.descs m=Di at hDl hDg hDn hb ⊢
  have hmD:m<Di.length:=by rw [hDl]; exact hc
  have hE0:Di.set m ⟨d.ty,d.size,upd (fun _=>-7) d.tags 0⟩=Di:=by rw [Z5O,←hDg]; exact List.set_getElem_self hmD
  refine Holds.loopM (ι:={i:Nat // i≤d.tags.length}) [false,true,false,false,false,false,false,false,false,true,false,true,false,false,false,false,false,false,false,false,false,false,false,false,false,false,false,false,false,false,false,false,false,false,false,false,false,false,false,false,false,false,false,false,false,false,false,false,false,false,false,false,false,false,false,false,false,false,false,false,false,false,false,false,false,false,false,false,false,false,false,false,false,false,false,false,false,false,false,false,false,false,false,false,false,false,false,false,false,false,false,false,false,false,false,false,false,false,false,false,false,false,false,false,false,false,false,false,false,false,false,false,false,false,false,false,false,false,false,false,false,false,false,false,false,false,false,false,false,false,false,false,false] (fun i=>[(10,.int .i64 i.1)]) (fun i=>spH r (Ob.ow o 6) o.c (o.imps.map sI) (o.code.map (fun _=>77)) (o.names.map (fun _=>Z0P)) (o.exps) (o.procs.map (fun _=>-7)) (o.vars.map (fun _=>-7)) (o.shown.map (fun _=>-7)) (o.strs.map (fun _=>Z0P)) (Di.set m ⟨d.ty,d.size,upd (fun _=>-7) d.tags i.1⟩) (o.fixes) [.row (Ob.ow o 6) 13 0]) (fun i=>d.tags.length - i.1) ⟨0,Nat.zero_le _⟩ ?_ ?_
  ·rw [hL]
   rw [hE0]
   simp only [push_cast,reduceCtorEq,Nat.reduceAdd,Nat.reduceMul,Nat.reduceSub,Nat.reduceBEq,Nat.reduceGT,Nat.reduceLT,Int.toNat_zero,Nat.reduceLeDiff,Int.reduceEq,Int.reduceLT,Int.reduceLE,Int.natCast_zero]
   exact Z1v hDl (by rw [Z19]; simp) (by first | exact Z0d _ | (simp only [leF,true_and,and_true,and_self]; done) | (simp [leF]; done)) (by simp [Z0Z,scp])
  rintro⟨j,hj⟩
  dsimp only
  obtain⟨Ej,hEj⟩:∃Ej,Ej=Di.set m ⟨d.ty,d.size,upd (fun _=>-7) d.tags j⟩:=⟨_,rfl⟩
  have hEl:Ej.length=o.descs.length:=by rw [hEj,List.length_set,hDl]
  have hmE:m<Ej.length:=by rw [hEl]; exact hc
  have hEg:Ej[m]=⟨d.ty,d.size,upd (fun _=>-7) d.tags j⟩:=by subst hEj; exact List.getElem_set_self _
  have hEb:=Z37 (r:=r) (o:=o) (I:=o.imps.map sI) (C:=o.code.map (fun _=>77)) (N:=o.names.map (fun _=>Z0P)) (E:=o.exps) (P:=o.procs.map (fun _=>-7)) (V:=o.vars.map (fun _=>-7)) (S:=o.shown.map (fun _=>-7)) (T:=o.strs.map (fun _=>Z0P)) (D:=Ej) (F:=o.fixes) hEl
  have hE14:(spH r (Ob.ow o 6) o.c (o.imps.map sI) (o.code.map (fun _=>77)) (o.names.map (fun _=>Z0P)) (o.exps) (o.procs.map (fun _=>-7)) (o.vars.map (fun _=>-7)) (o.shown.map (fun _=>-7)) (o.strs.map (fun _=>Z0P)) (Ej) (o.fixes) [.row (Ob.ow o 6) 13 0])[14]?=some (.row (dsM 15 Ej) 3 0):=rfl
  have hEt:(spH r (Ob.ow o 6) o.c (o.imps.map sI) (o.code.map (fun _=>77)) (o.names.map (fun _=>Z0P)) (o.exps) (o.procs.map (fun _=>-7)) (o.vars.map (fun _=>-7)) (o.shown.map (fun _=>-7)) (o.strs.map (fun _=>Z0P)) (Ej) (o.fixes) [.row (Ob.ow o 6) 13 0])[m+15]?=some (.row ((upd (fun _=>-7) d.tags j).map (AV.int .i64)) 1 0):=by rw [ZgH hmE,hEg]
  have hEd:∀x,(dsM 15 Ej).getD (m*3+2) x=.msl (m+15) 0 0 d.tags.length:=fun x=>by rw [ZiU hmE,hEg]; simp only [Z22]
  have hEn:=Z48 Ej 15
  have hUl:=Z22 (fun _:Int=>(-7:Int)) d.tags j
  have dm:decide ((m:Int)<(o.descs.length:Int))=true:=dc
  rw [←hEj]
  by_cases hcj:j<d.tags.length
  case pos=>
   have dj:decide ((j:Int)<(d.tags.length:Int))=true:=decide_eq_true (by omega)
   ((first | with_reducible refine holds_of_ex X 400 _ _ _ ?_ | skip); simp (maxSteps:=1000000) only [push_cast,reduceCtorEq,Nat.reduceAdd,Nat.reduceMul,Nat.reduceSub,Nat.reduceBEq,Nat.reduceGT,Nat.reduceLT,Int.toNat_zero,Nat.reduceLeDiff,Int.reduceEq,Int.reduceLT,Int.reduceLE,hP,hΓ,hL,hfin,↓Z00,String.reduceEq,not_false_eq_true,if_true,hEb,ZjA,Z6v,ow1,dj,hE14,hEt,hEd,hEn,hUl])
   refine⟨by omega,⟨by omega,by omega⟩,by omega,⟨by omega,by omega⟩,by omega,by omega,⟨j+1,by omega⟩,by simp only; omega,?_⟩
   dsimp only
   have hp:List.take j ((upd (fun _=>-7) d.tags j).map (AV.int .i64))++[AV.int .i64 (-7)]++List.drop (j+1) ((upd (fun _=>-7) d.tags j).map (AV.int .i64))=(upd (fun _=>-7) d.tags (j+1)).map (AV.int .i64):=(Z5h (AV.int .i64) ((fun _=>-7) d.tags[j]) (by rw [hUl]; exact hcj)).trans (congrArg (List.map (AV.int .i64)) (Z2M (fun _=>-7) hcj))
   have hE1:Ej.set m ⟨Ej[m].ty,Ej[m].size,upd (fun _=>-7) d.tags (j+1)⟩=Di.set m ⟨d.ty,d.size,upd (fun _=>-7) d.tags (j+1)⟩:=by simp only [hEg]; rw [hEj,List.set_set]
   rw [hp,Z9X hmE (by simp only [hEg,Z22]),hE1,Z0c ((j:Int)+1) (by constructor <;> omega)]
   exact Z1v (by rw [List.length_set,hDl]) (by rw [Z19]; simp) (by first | exact Z0d _ | (simp only [leF,true_and,and_true,and_self]; done) | (simp [leF]; done)) (by simp [Z0Z,scp])
  obtain rfl:j=d.tags.length:=by omega
  have dj:decide ((d.tags.length:Int)<(d.tags.length:Int))=false:=decide_eq_false (by omega)
  ((first | with_reducible refine holds_of_ex X 400 _ _ _ ?_ | skip); simp (maxSteps:=1000000) only [push_cast,reduceCtorEq,Nat.reduceAdd,Nat.reduceMul,Nat.reduceSub,Nat.reduceBEq,Nat.reduceGT,Nat.reduceLT,Int.toNat_zero,Nat.reduceLeDiff,Int.reduceEq,Int.reduceLT,Int.reduceLE,hP,hΓ,hL,hfin,↓Z00,String.reduceEq,not_false_eq_true,if_true,hEb,ZjA,Z6v,ow1,dj,hE14,hEt,hEd,hEn,hUl])
  refine⟨by omega,⟨by omega,by omega⟩,by omega,by omega,⟨m+1,by omega⟩,by simp only; omega,?_⟩
  dsimp only
  have hE2:Ej.set m ⟨Ej[m].ty,-7,Ej[m].tags⟩=upd sD o.descs (m+1):=by simp only [hEg]; rw [hEj,List.set_set,hDn,Z2N]; rfl
  rw [Z8P (-7) hmE,hE2,Z0c ((m:Int)+1) (by constructor <;> omega)]
  exact Z1v (Z22 ..) (by rw [Z19]; simp) (by first | exact Z0d _ | (simp only [leF,true_and,and_true,and_self]; done) | (simp [leF]; done)) (by simp [Z0Z,scp])
 obtain rfl:m=o.descs.length:=by omega
 have dc:decide ((o.descs.length:Int)<(o.descs.length:Int))=false:=decide_eq_false (by omega)
 rw [Z2N] at hb hg8 ⊢
 ((first | with_reducible refine holds_of_ex X 400 _ _ _ ?_ | skip); simp (maxSteps:=1000000) only [push_cast,reduceCtorEq,Nat.reduceAdd,Nat.reduceMul,Nat.reduceSub,Nat.reduceBEq,Nat.reduceGT,Nat.reduceLT,Int.toNat_zero,Nat.reduceLeDiff,Int.reduceEq,Int.reduceLT,Int.reduceLE,hP,hΓ,hL,hfin,↓Z00,String.reduceEq,not_false_eq_true,if_true,hb,ZjA,Z6v,ow1,dc,hg8])
 clear hb hg8 hDl dc hm hc
 refine Holds.loopM (ι:={i:Nat // i≤o.fixes.length}) [false,true,false,false,false,false,false,false,false,false,false,false,false,false,false,false,false,false,false,false,false,false,false,false,false,false,false,false,false,false,false,false,false,false,false,false,false,false,false,false,false,false,false,false,false,false,false,false,false,false,false,false,false,false,false,false,false,false,false,false,false,false,false,false,false,false,false,false,false,false,false,false,false,false,false,false,false,false,false,false,false,false,false,false,false,false,false,false,false,false,false,false,false,false,false,false,false,false,false,false,false,false,false,false,false,false,false,false,false,false,false,false,false,false,false,false,false,false,false,false,false,false,false,false,false,false,false,false,false,false,false,false,false] (fun i=>[(11,.int .i64 i.1)]) (fun i=>spH r (Ob.ow o 6) o.c (o.imps.map sI) (o.code.map (fun _=>77)) (o.names.map (fun _=>Z0P)) (o.exps) (o.procs.map (fun _=>-7)) (o.vars.map (fun _=>-7)) (o.shown.map (fun _=>-7)) (o.strs.map (fun _=>Z0P)) (o.descs.map sD) (upd sF o.fixes i.1) [.row (Ob.ow o 6) 13 0]) (fun i=>o.fixes.length - i.1) ⟨0,Nat.zero_le _⟩ ?_ ?_
 ·rw [hL]
  simp only [push_cast,reduceCtorEq,Nat.reduceAdd,Nat.reduceMul,Nat.reduceSub,Nat.reduceBEq,Nat.reduceGT,Nat.reduceLT,Int.toNat_zero,Nat.reduceLeDiff,Int.reduceEq,Int.reduceLT,Int.reduceLE,Int.natCast_zero,Z5O]
  exact Z1v (List.length_map ..) (by rw [Z19]; simp) (by first | exact Z0d _ | (simp only [leF,true_and,and_true,and_self]; done) | (simp [leF]; done)) (by simp [Z0Z,scp])
 rintro⟨i,hi⟩
 dsimp only
 have hb:=Z37 (r:=r) (o:=o) (I:=o.imps.map sI) (C:=o.code.map (fun _=>77)) (N:=o.names.map (fun _=>Z0P)) (E:=o.exps) (P:=o.procs.map (fun _=>-7)) (V:=o.vars.map (fun _=>-7)) (S:=o.shown.map (fun _=>-7)) (T:=o.strs.map (fun _=>Z0P)) (D:=o.descs.map sD) (F:=upd sF o.fixes i) (List.length_map ..)
 have hg:(spH r (Ob.ow o 6) o.c (o.imps.map sI) (o.code.map (fun _=>77)) (o.names.map (fun _=>Z0P)) (o.exps) (o.procs.map (fun _=>-7)) (o.vars.map (fun _=>-7)) (o.shown.map (fun _=>-7)) (o.strs.map (fun _=>Z0P)) (o.descs.map sD) (upd sF o.fixes i) [.row (Ob.ow o 6) 13 0])[o.descs.length+15]?=some (.row ((upd sF o.fixes i).flatMap Fx.c) 4 0):=by have:=ZgJ (r:=r) (c:=Ob.ow o 6) (q:=o.c) (I:=o.imps.map sI) (C:=o.code.map (fun _=>77)) (N:=o.names.map (fun _=>Z0P)) (E:=o.exps) (P:=o.procs.map (fun _=>-7)) (V:=o.vars.map (fun _=>-7)) (S:=o.shown.map (fun _=>-7)) (T:=o.strs.map (fun _=>Z0P)) (D:=o.descs.map sD) (F:=upd sF o.fixes i) (M:=[.row (Ob.ow o 6) 13 0]); rw [List.length_map] at this; exact this
 have hs:(spH r (Ob.ow o 6) o.c (o.imps.map sI) (o.code.map (fun _=>77)) (o.names.map (fun _=>Z0P)) (o.exps) (o.procs.map (fun _=>-7)) (o.vars.map (fun _=>-7)) (o.shown.map (fun _=>-7)) (o.strs.map (fun _=>Z0P)) (o.descs.map sD) (upd sF o.fixes i) [.row (Ob.ow o 6) 13 0]).set (o.descs.length+15) (.row ((upd sF o.fixes (i+1)).flatMap Fx.c) 4 0)=spH r (Ob.ow o 6) o.c (o.imps.map sI) (o.code.map (fun _=>77)) (o.names.map (fun _=>Z0P)) (o.exps) (o.procs.map (fun _=>-7)) (o.vars.map (fun _=>-7)) (o.shown.map (fun _=>-7)) (o.strs.map (fun _=>Z0P)) (o.descs.map sD) (upd sF o.fixes (i+1)) [.row (Ob.ow o 6) 13 0]:=by have:=Z9Y (r:=r) (c:=Ob.ow o 6) (q:=o.c) (I:=o.imps.map sI) (C:=o.code.map (fun _=>77)) (N:=o.names.map (fun _=>Z0P)) (E:=o.exps) (P:=o.procs.map (fun _=>-7)) (V:=o.vars.map (fun _=>-7)) (S:=o.shown.map (fun _=>-7)) (T:=o.strs.map (fun _=>Z0P)) (D:=o.descs.map sD) (F:=upd sF o.fixes i) (M:=[.row (Ob.ow o 6) 13 0]) (upd sF o.fixes (i+1)); rw [List.length_map] at this; exact this
 have hUl:=Z22 sF o.fixes i
 by_cases hc:i<o.fixes.length
 case pos=>
  have dc:decide ((i:Int)<(o.fixes.length:Int))=true:=decide_eq_true (by omega)
  have hp:List.take (i*4) ((upd sF o.fixes i).flatMap Fx.c)++[AV.int .i64 (-7)]++List.drop (i*4+1) ((upd sF o.fixes i).flatMap Fx.c)=(upd sF o.fixes (i+1)).flatMap Fx.c:=(ZgE (g:=Fx.c) (n:=4) (a:=0) (y:=sF o.fixes[i]) (by rw [hUl]; exact hc) (by decide) (by rw [Z7a sF hc]; rfl)).trans (congrArg (List.flatMap Fx.c) (Z2M sF hc))
  ((first | with_reducible refine holds_of_ex X 400 _ _ _ ?_ | skip); simp (maxSteps:=1000000) only [push_cast,reduceCtorEq,Nat.reduceAdd,Nat.reduceMul,Nat.reduceSub,Nat.reduceBEq,Nat.reduceGT,Nat.reduceLT,Int.toNat_zero,Nat.reduceLeDiff,Int.reduceEq,Int.reduceLT,Int.reduceLE,hP,hΓ,hL,hfin,↓Z00,String.reduceEq,not_false_eq_true,if_true,hb,fl12,Z6v,ow1,dc,hg,hUl])
  (repeat (refine And.intro (by first | exact True.intro | omega | assumption | exact own_row _ | (simp only [List.length_append]; omega) | (intro hg; (try simp only [decide_eq_true_eq,decide_eq_false_iff_not,Bool.and_eq_true,Bool.or_eq_true,Bool.and_eq_false_iff,Bool.or_eq_false_iff,Bool.not_eq_true',Bool.not_eq_false',Bool.not_eq_true,Bool.not_eq_false,Int.not_lt,Int.not_le,beq_iff_eq,beq_eq_false_iff_ne,ne_eq,win_t,win_f] at hg); omega)) ?_))
  refine⟨⟨i+1,by omega⟩,by simp only; omega,?_⟩
  dsimp only
  rw [hp,hs,Z0c ((i:Int)+1) (by constructor <;> omega)]
  exact Z1v (List.length_map ..) (by rw [Z19]; simp) (by first | exact Z0d _ | (simp only [leF,true_and,and_true,and_self]; done) | (simp [leF]; done)) (by simp [Z0Z,scp])
 obtain rfl:i=o.fixes.length:=by omega
 have dc:decide ((o.fixes.length:Int)<(o.fixes.length:Int))=false:=decide_eq_false (by omega)
 rw [Z2N] at hb hg ⊢
 ((first | with_reducible refine holds_of_ex X 400 _ _ _ ?_ | skip); simp (maxSteps:=1000000) only [push_cast,reduceCtorEq,Nat.reduceAdd,Nat.reduceMul,Nat.reduceSub,Nat.reduceBEq,Nat.reduceGT,Nat.reduceLT,Int.toNat_zero,Nat.reduceLeDiff,Int.reduceEq,Int.reduceLT,Int.reduceLE,hP,hΓ,hL,hfin,↓Z00,String.reduceEq,not_false_eq_true,if_true,hb,fl12,Z6v,ow1,dc,hg])
 unfold Z3Z
 rw [ZgK]
 exact Z06.drop (Z0d _) rfl (by rw [Z19]; exact Zeb (List.length_map ..)) (by rw [Z19,Z19,List.length_map]; exact Nat.le_refl _)
def zC:List AV:=[.str [],.int .u32 0,.sl [] 0,.sl [] 0,.sl [] 0,.sl [] 0,.sl [] 0,.int .i64 0,.sl [] 0,.sl [] 0,.sl [] 0,.sl [] 0,.sl [] 0]
theorem ZaJ(Γ:Env):Z0a Tryz.prog Γ Tryz.f9 [.agg zC] [.dead,.row zC 13 0,.row zC 13 0] (.tup []) [.dead,.row zC 13 0,.row zC 13 0]:=by
 have hz:∀n,Z0Z n zC=true:=fun n=>rfl
 have hz1:zC.length=13:=rfl
 have hz2:Z0m zC=true:=rfl
 have hz3:∀n x,zC.getD n x=[.str [],.int .u32 0,.sl [] 0,.sl [] 0,.sl [] 0,.sl [] 0,.sl [] 0,.int .i64 0,.sl [] 0,.sl [] 0,.sl [] 0,.sl [] 0,.sl [] 0].getD n x:=fun _ _=>rfl
 (intro X hP hΓ hL hfin; refine⟨_,rfl,?_⟩; rw [show Tryz.f9.ntmps=133 from rfl]; rw [show Tryz.f9.results.toList=[] from rfl] at hfin; apply holds_of_ex X 400; simp (maxSteps:=1000000) only [push_cast,reduceCtorEq,Nat.reduceAdd,Nat.reduceMul,Nat.reduceSub,Nat.reduceBEq,Nat.reduceGT,Nat.reduceLT,Int.toNat_zero,Nat.reduceLeDiff,Int.reduceEq,Int.reduceLT,Int.reduceLE,hP,hΓ,hL,hfin,↓Z00,String.reduceEq,not_false_eq_true,if_true,hz1,hz2])
 refine Holds.loopM (ι:=Unit) [false,true,false,true,true,true,true,true,true,true,true,true,false,false,false,false,false,false,false,false,false,false,false,false,false,false,false,false,false,false,false,false,false,false,false,false,false,false,false,false,false,false,false,false,false,false,false,false,false,false,false,false,false,false,false,false,false,false,false,false,false,false,false,false,false,false,false,false,false,false,false,false,false,false,false,false,false,false,false,false,false,false,false,false,false,false,false,false,false,false,false,false,false,false,false,false,false,false,false,false,false,false,false,false,false,false,false,false,false,false,false,false,false,false,false,false,false,false,false,false,false,false,false,false,false,false,false,false,false,false,false,false,false] (fun i=>[(2,.int .i64 0)]) (fun i=>[.dead,.row zC 13 0,.row zC 13 0,.row zC 13 0]) (fun i=>0) () ?_ ?_
 ·rw [hL]; simp only [push_cast,reduceCtorEq,Nat.reduceAdd,Nat.reduceMul,Nat.reduceSub,Nat.reduceBEq,Nat.reduceGT,Nat.reduceLT,Int.toNat_zero,Nat.reduceLeDiff,Int.reduceEq,Int.reduceLT,Int.reduceLE]
  exact Z06.same (by first | exact Z0d _ | (simp only [leF,true_and,and_true,and_self]; done) | (simp [leF]; done)) rfl (by simp only [List.all_cons,List.all_nil,Z2H,Z1o,hz,Bool.and_true,List.length_cons,List.length_nil]) (by simp)
 rintro⟨⟩
 ((first | with_reducible refine holds_of_ex X 400 _ _ _ ?_ | skip); simp (maxSteps:=1000000) only [push_cast,reduceCtorEq,Nat.reduceAdd,Nat.reduceMul,Nat.reduceSub,Nat.reduceBEq,Nat.reduceGT,Nat.reduceLT,Int.toNat_zero,Nat.reduceLeDiff,Int.reduceEq,Int.reduceLT,Int.reduceLE,hP,hΓ,hL,hfin,↓Z00,String.reduceEq,not_false_eq_true,if_true,hz1,hz2,hz3])
 refine Holds.loopM (ι:=Unit) [false,true,false,false,true,true,true,true,true,true,true,true,false,false,false,false,false,false,false,false,false,false,false,false,false,false,false,false,false,false,false,false,false,false,false,false,false,false,false,false,false,false,false,false,false,false,false,false,false,false,false,false,false,false,false,false,false,false,false,false,false,false,false,false,false,false,false,false,false,false,false,false,false,false,false,false,false,false,false,false,false,false,false,false,false,false,false,false,false,false,false,false,false,false,false,false,false,false,false,false,false,false,false,false,false,false,false,false,false,false,false,false,false,false,false,false,false,false,false,false,false,false,false,false,false,false,false,false,false,false,false,false,false] (fun i=>[(3,.int .i64 0)]) (fun i=>[.dead,.row zC 13 0,.row zC 13 0,.row zC 13 0]) (fun i=>0) () ?_ ?_
 ·rw [hL]; simp only [push_cast,reduceCtorEq,Nat.reduceAdd,Nat.reduceMul,Nat.reduceSub,Nat.reduceBEq,Nat.reduceGT,Nat.reduceLT,Int.toNat_zero,Nat.reduceLeDiff,Int.reduceEq,Int.reduceLT,Int.reduceLE]
  exact Z06.same (by first | exact Z0d _ | (simp only [leF,true_and,and_true,and_self]; done) | (simp [leF]; done)) rfl (by simp only [List.all_cons,List.all_nil,Z2H,Z1o,hz,Bool.and_true,List.length_cons,List.length_nil]) (by simp)
 rintro⟨⟩
 ((first | with_reducible refine holds_of_ex X 400 _ _ _ ?_ | skip); simp (maxSteps:=1000000) only [push_cast,reduceCtorEq,Nat.reduceAdd,Nat.reduceMul,Nat.reduceSub,Nat.reduceBEq,Nat.reduceGT,Nat.reduceLT,Int.toNat_zero,Nat.reduceLeDiff,Int.reduceEq,Int.reduceLT,Int.reduceLE,hP,hΓ,hL,hfin,↓Z00,String.reduceEq,not_false_eq_true,if_true,hz1,hz2,hz3])
 refine Holds.loopM (ι:=Unit) [false,true,false,false,false,true,true,true,true,true,true,true,false,false,false,false,false,false,false,false,false,false,false,false,false,false,false,false,false,false,false,false,false,false,false,false,false,false,false,false,false,false,false,false,false,false,false,false,false,false,false,false,false,false,false,false,false,false,false,false,false,false,false,false,false,false,false,false,false,false,false,false,false,false,false,false,false,false,false,false,false,false,false,false,false,false,false,false,false,false,false,false,false,false,false,false,false,false,false,false,false,false,false,false,false,false,false,false,false,false,false,false,false,false,false,false,false,false,false,false,false,false,false,false,false,false,false,false,false,false,false,false,false] (fun i=>[(4,.int .i64 0)]) (fun i=>[.dead,.row zC 13 0,.row zC 13 0,.row zC 13 0]) (fun i=>0) () ?_ ?_
 ·rw [hL]; simp only [push_cast,reduceCtorEq,Nat.reduceAdd,Nat.reduceMul,Nat.reduceSub,Nat.reduceBEq,Nat.reduceGT,Nat.reduceLT,Int.toNat_zero,Nat.reduceLeDiff,Int.reduceEq,Int.reduceLT,Int.reduceLE]
  exact Z06.same (by first | exact Z0d _ | (simp only [leF,true_and,and_true,and_self]; done) | (simp [leF]; done)) rfl (by simp only [List.all_cons,List.all_nil,Z2H,Z1o,hz,Bool.and_true,List.length_cons,List.length_nil]) (by simp)
 rintro⟨⟩
 ((first | with_reducible refine holds_of_ex X 400 _ _ _ ?_ | skip); simp (maxSteps:=1000000) only [push_cast,reduceCtorEq,Nat.reduceAdd,Nat.reduceMul,Nat.reduceSub,Nat.reduceBEq,Nat.reduceGT,Nat.reduceLT,Int.toNat_zero,Nat.reduceLeDiff,Int.reduceEq,Int.reduceLT,Int.reduceLE,hP,hΓ,hL,hfin,↓Z00,String.reduceEq,not_false_eq_true,if_true,hz1,hz2,hz3])
 refine Holds.loopM (ι:=Unit) [false,true,false,false,false,false,true,true,true,true,true,true,false,false,false,false,false,false,false,false,false,false,false,false,false,false,false,false,false,false,false,false,false,false,false,false,false,false,false,false,false,false,false,false,false,false,false,false,false,false,false,false,false,false,false,false,false,false,false,false,false,false,false,false,false,false,false,false,false,false,false,false,false,false,false,false,false,false,false,false,false,false,false,false,false,false,false,false,false,false,false,false,false,false,false,false,false,false,false,false,false,false,false,false,false,false,false,false,false,false,false,false,false,false,false,false,false,false,false,false,false,false,false,false,false,false,false,false,false,false,false,false,false] (fun i=>[(5,.int .i64 0)]) (fun i=>[.dead,.row zC 13 0,.row zC 13 0,.row zC 13 0]) (fun i=>0) () ?_ ?_
 ·rw [hL]; simp only [push_cast,reduceCtorEq,Nat.reduceAdd,Nat.reduceMul,Nat.reduceSub,Nat.reduceBEq,Nat.reduceGT,Nat.reduceLT,Int.toNat_zero,Nat.reduceLeDiff,Int.reduceEq,Int.reduceLT,Int.reduceLE]
  exact Z06.same (by first | exact Z0d _ | (simp only [leF,true_and,and_true,and_self]; done) | (simp [leF]; done)) rfl (by simp only [List.all_cons,List.all_nil,Z2H,Z1o,hz,Bool.and_true,List.length_cons,List.length_nil]) (by simp)
 rintro⟨⟩
 ((first | with_reducible refine holds_of_ex X 400 _ _ _ ?_ | skip); simp (maxSteps:=1000000) only [push_cast,reduceCtorEq,Nat.reduceAdd,Nat.reduceMul,Nat.reduceSub,Nat.reduceBEq,Nat.reduceGT,Nat.reduceLT,Int.toNat_zero,Nat.reduceLeDiff,Int.reduceEq,Int.reduceLT,Int.reduceLE,hP,hΓ,hL,hfin,↓Z00,String.reduceEq,not_false_eq_true,if_true,hz1,hz2,hz3])
 refine Holds.loopM (ι:=Unit) [false,true,false,false,false,false,false,true,true,true,true,true,false,false,false,false,false,false,false,false,false,false,false,false,false,false,false,false,false,false,false,false,false,false,false,false,false,false,false,false,false,false,false,false,false,false,false,false,false,false,false,false,false,false,false,false,false,false,false,false,false,false,false,false,false,false,false,false,false,false,false,false,false,false,false,false,false,false,false,false,false,false,false,false,false,false,false,false,false,false,false,false,false,false,false,false,false,false,false,false,false,false,false,false,false,false,false,false,false,false,false,false,false,false,false,false,false,false,false,false,false,false,false,false,false,false,false,false,false,false,false,false,false] (fun i=>[(6,.int .i64 0)]) (fun i=>[.dead,.row zC 13 0,.row zC 13 0,.row zC 13 0]) (fun i=>0) () ?_ ?_
 ·rw [hL]; simp only [push_cast,reduceCtorEq,Nat.reduceAdd,Nat.reduceMul,Nat.reduceSub,Nat.reduceBEq,Nat.reduceGT,Nat.reduceLT,Int.toNat_zero,Nat.reduceLeDiff,Int.reduceEq,Int.reduceLT,Int.reduceLE]
  exact Z06.same (by first | exact Z0d _ | (simp only [leF,true_and,and_true,and_self]; done) | (simp [leF]; done)) rfl (by simp only [List.all_cons,List.all_nil,Z2H,Z1o,hz,Bool.and_true,List.length_cons,List.length_nil]) (by simp)
 rintro⟨⟩
 ((first | with_reducible refine holds_of_ex X 400 _ _ _ ?_ | skip); simp (maxSteps:=1000000) only [push_cast,reduceCtorEq,Nat.reduceAdd,Nat.reduceMul,Nat.reduceSub,Nat.reduceBEq,Nat.reduceGT,Nat.reduceLT,Int.toNat_zero,Nat.reduceLeDiff,Int.reduceEq,Int.reduceLT,Int.reduceLE,hP,hΓ,hL,hfin,↓Z00,String.reduceEq,not_false_eq_true,if_true,hz1,hz2,hz3])
 refine Holds.loopM (ι:=Unit) [false,true,false,false,false,false,false,false,true,true,true,true,false,false,false,false,false,false,false,false,false,false,false,false,false,false,false,false,false,false,false,false,false,false,false,false,false,false,false,false,false,false,false,false,false,false,false,false,false,false,false,false,false,false,false,false,false,false,false,false,false,false,false,false,false,false,false,false,false,false,false,false,false,false,false,false,false,false,false,false,false,false,false,false,false,false,false,false,false,false,false,false,false,false,false,false,false,false,false,false,false,false,false,false,false,false,false,false,false,false,false,false,false,false,false,false,false,false,false,false,false,false,false,false,false,false,false,false,false,false,false,false,false] (fun i=>[(7,.int .i64 0)]) (fun i=>[.dead,.row zC 13 0,.row zC 13 0,.row zC 13 0]) (fun i=>0) () ?_ ?_
 ·rw [hL]; simp only [push_cast,reduceCtorEq,Nat.reduceAdd,Nat.reduceMul,Nat.reduceSub,Nat.reduceBEq,Nat.reduceGT,Nat.reduceLT,Int.toNat_zero,Nat.reduceLeDiff,Int.reduceEq,Int.reduceLT,Int.reduceLE]
  exact Z06.same (by first | exact Z0d _ | (simp only [leF,true_and,and_true,and_self]; done) | (simp [leF]; done)) rfl (by simp only [List.all_cons,List.all_nil,Z2H,Z1o,hz,Bool.and_true,List.length_cons,List.length_nil]) (by simp)
 rintro⟨⟩
 ((first | with_reducible refine holds_of_ex X 400 _ _ _ ?_ | skip); simp (maxSteps:=1000000) only [push_cast,reduceCtorEq,Nat.reduceAdd,Nat.reduceMul,Nat.reduceSub,Nat.reduceBEq,Nat.reduceGT,Nat.reduceLT,Int.toNat_zero,Nat.reduceLeDiff,Int.reduceEq,Int.reduceLT,Int.reduceLE,hP,hΓ,hL,hfin,↓Z00,String.reduceEq,not_false_eq_true,if_true,hz1,hz2,hz3])
 refine Holds.loopM (ι:=Unit) [false,true,false,false,false,false,false,false,false,true,true,true,false,false,false,false,false,false,false,false,false,false,false,false,false,false,false,false,false,false,false,false,false,false,false,false,false,false,false,false,false,false,false,false,false,false,false,false,false,false,false,false,false,false,false,false,false,false,false,false,false,false,false,false,false,false,false,false,false,false,false,false,false,false,false,false,false,false,false,false,false,false,false,false,false,false,false,false,false,false,false,false,false,false,false,false,false,false,false,false,false,false,false,false,false,false,false,false,false,false,false,false,false,false,false,false,false,false,false,false,false,false,false,false,false,false,false,false,false,false,false,false,false] (fun i=>[(8,.int .i64 0)]) (fun i=>[.dead,.row zC 13 0,.row zC 13 0,.row zC 13 0]) (fun i=>0) () ?_ ?_
 ·rw [hL]; simp only [push_cast,reduceCtorEq,Nat.reduceAdd,Nat.reduceMul,Nat.reduceSub,Nat.reduceBEq,Nat.reduceGT,Nat.reduceLT,Int.toNat_zero,Nat.reduceLeDiff,Int.reduceEq,Int.reduceLT,Int.reduceLE]
  exact Z06.same (by first | exact Z0d _ | (simp only [leF,true_and,and_true,and_self]; done) | (simp [leF]; done)) rfl (by simp only [List.all_cons,List.all_nil,Z2H,Z1o,hz,Bool.and_true,List.length_cons,List.length_nil]) (by simp)
 rintro⟨⟩
 ((first | with_reducible refine holds_of_ex X 400 _ _ _ ?_ | skip); simp (maxSteps:=1000000) only [push_cast,reduceCtorEq,Nat.reduceAdd,Nat.reduceMul,Nat.reduceSub,Nat.reduceBEq,Nat.reduceGT,Nat.reduceLT,Int.toNat_zero,Nat.reduceLeDiff,Int.reduceEq,Int.reduceLT,Int.reduceLE,hP,hΓ,hL,hfin,↓Z00,String.reduceEq,not_false_eq_true,if_true,hz1,hz2,hz3])
 refine Holds.loopM (ι:=Unit) [false,true,false,false,false,false,false,false,false,false,false,true,false,false,false,false,false,false,false,false,false,false,false,false,false,false,false,false,false,false,false,false,false,false,false,false,false,false,false,false,false,false,false,false,false,false,false,false,false,false,false,false,false,false,false,false,false,false,false,false,false,false,false,false,false,false,false,false,false,false,false,false,false,false,false,false,false,false,false,false,false,false,false,false,false,false,false,false,false,false,false,false,false,false,false,false,false,false,false,false,false,false,false,false,false,false,false,false,false,false,false,false,false,false,false,false,false,false,false,false,false,false,false,false,false,false,false,false,false,false,false,false,false] (fun i=>[(9,.int .i64 0)]) (fun i=>[.dead,.row zC 13 0,.row zC 13 0,.row zC 13 0]) (fun i=>0) () ?_ ?_
 ·rw [hL]; simp only [push_cast,reduceCtorEq,Nat.reduceAdd,Nat.reduceMul,Nat.reduceSub,Nat.reduceBEq,Nat.reduceGT,Nat.reduceLT,Int.toNat_zero,Nat.reduceLeDiff,Int.reduceEq,Int.reduceLT,Int.reduceLE]
  exact Z06.same (by first | exact Z0d _ | (simp only [leF,true_and,and_true,and_self]; done) | (simp [leF]; done)) rfl (by simp only [List.all_cons,List.all_nil,Z2H,Z1o,hz,Bool.and_true,List.length_cons,List.length_nil]) (by simp)
 rintro⟨⟩
 ((first | with_reducible refine holds_of_ex X 400 _ _ _ ?_ | skip); simp (maxSteps:=1000000) only [push_cast,reduceCtorEq,Nat.reduceAdd,Nat.reduceMul,Nat.reduceSub,Nat.reduceBEq,Nat.reduceGT,Nat.reduceLT,Int.toNat_zero,Nat.reduceLeDiff,Int.reduceEq,Int.reduceLT,Int.reduceLE,hP,hΓ,hL,hfin,↓Z00,String.reduceEq,not_false_eq_true,if_true,hz1,hz2,hz3])
 refine Holds.loopM (ι:=Unit) [false,true,false,false,false,false,false,false,false,false,false,false,false,false,false,false,false,false,false,false,false,false,false,false,false,false,false,false,false,false,false,false,false,false,false,false,false,false,false,false,false,false,false,false,false,false,false,false,false,false,false,false,false,false,false,false,false,false,false,false,false,false,false,false,false,false,false,false,false,false,false,false,false,false,false,false,false,false,false,false,false,false,false,false,false,false,false,false,false,false,false,false,false,false,false,false,false,false,false,false,false,false,false,false,false,false,false,false,false,false,false,false,false,false,false,false,false,false,false,false,false,false,false,false,false,false,false,false,false,false,false,false,false] (fun i=>[(11,.int .i64 0)]) (fun i=>[.dead,.row zC 13 0,.row zC 13 0,.row zC 13 0]) (fun i=>0) () ?_ ?_
 ·rw [hL]; simp only [push_cast,reduceCtorEq,Nat.reduceAdd,Nat.reduceMul,Nat.reduceSub,Nat.reduceBEq,Nat.reduceGT,Nat.reduceLT,Int.toNat_zero,Nat.reduceLeDiff,Int.reduceEq,Int.reduceLT,Int.reduceLE]
  exact Z06.same (by first | exact Z0d _ | (simp only [leF,true_and,and_true,and_self]; done) | (simp [leF]; done)) rfl (by simp only [List.all_cons,List.all_nil,Z2H,Z1o,hz,Bool.and_true,List.length_cons,List.length_nil]) (by simp)
 rintro⟨⟩
 ((first | with_reducible refine holds_of_ex X 400 _ _ _ ?_ | skip); simp (maxSteps:=1000000) only [push_cast,reduceCtorEq,Nat.reduceAdd,Nat.reduceMul,Nat.reduceSub,Nat.reduceBEq,Nat.reduceGT,Nat.reduceLT,Int.toNat_zero,Nat.reduceLeDiff,Int.reduceEq,Int.reduceLT,Int.reduceLE,hP,hΓ,hL,hfin,↓Z00,String.reduceEq,not_false_eq_true,if_true,hz1,hz2,hz3])
 exact Z06.drop (L':=[.dead,.row zC 13 0,.row zC 13 0]) (Z0d _) rfl (by simp only [List.all_cons,List.all_nil,Z2H,Z1o,hz,Bool.and_true,List.length_cons,List.length_nil]) (Nat.le_refl _)
end Go.Proofs.YtmomhjmaanagaaaGreat.objRef