/- Parts of the walk through directories. Conditions stand in each. -/
import Derived.Test.YtbnnhffkbcekcaaGreatDoorGg
import Derived.Test.YtbnnhffkbcekcaaGreatDoorFg
set_option linter.unusedVariables false
set_option linter.unusedSimpArgs false
set_option maxRecDepth 100000
set_option maxHeartbeats 4000000
section
namespace Go.Proofs.YtbnnhffkbcekcaaGreatDoor.dirDone
open Go Go.Eng Go.Proofs Go.Lib
def wrR(w:Wr):List AV:=[.int .i64 w.1,.str w.2.1]
instance:Z1U wrR:=⟨fun w=>rfl,fun w=>rfl⟩
instance:Z22 wrR 2:=⟨fun w=>rfl⟩
theorem ZiF(a b:Wr)(h:wrR a=wrR b):a=b:=by
 obtain⟨n,s⟩:=a
 obtain⟨k,t⟩:=b
 simp only [wrR,List.cons.injEq,AV.int.injEq,AV.str.injEq,true_and,and_true] at h
 rw [h.1,Subtype.ext h.2]
theorem Z0I{S T:List Wr}:S.flatMap wrR=T.flatMap wrR↔S=T:=⟨ZaT (n:=2) ZiF (fun s=>Z22.len s) (by decide),fun h=>by rw [h]⟩
def Z59:List UInt8:=List.replicate 1024 0
def noN(N:Nat):List (List UInt8):=List.replicate N Z59
theorem Z1P(N:Nat):(noN N).length=N:=List.length_replicate
def Z0P(N:Nat)(R:List Wr):Z01:=[.row [.sl ((noN N).map AV.str) N,.msl 1 R.length 0 R.length] 2 0,.row (R.flatMap wrR) 2 R.length]
def atK(R:List Wr)(n:Int):Nat→List UInt8
 | 0=>Z59
 | k+1=>if (R.getD k default).1=n then (R.getD k default).2.1 else atK R n k
def stW(S:List Sec)(w:Wr):List Sec:=if 0≤w.1 then S.set w.1.toNat w.2 else S
def sOf(N:Nat)(R:List Wr):List Sec:=R.foldl stW (List.replicate N default)
theorem stW_len(S:List Sec)(w:Wr):(stW S w).length=S.length:=by unfold stW; split <;> simp
theorem Z4N(N:Nat)(R:List Wr)(w:Wr):sOf N (R++[w])=stW (sOf N R) w:=by unfold sOf; rw [List.foldl_append]; rfl
theorem Z83(R:List Wr):∀S:List Sec,(R.foldl stW S).length=S.length:=by
 induction R with
 | nil=>intro S; rfl
 | cons w R ih=>intro S; rw [List.foldl_cons,ih,stW_len]
theorem Z0r(N:Nat)(R:List Wr):(sOf N R).length=N:=by unfold sOf; rw [Z83,List.length_replicate]
theorem Z1J{α:Type}(l:List α)(n:Nat)(x d:α)(h:n<l.length):(l.set n x).getD n d=x:=by simp [List.getD_eq_getElem?_getD,h]
theorem Z1c{α:Type}(l:List α)(n k:Nat)(x d:α)(h:k≠n):(l.set k x).getD n d=l.getD n d:=by simp [List.getD_eq_getElem?_getD,List.getElem?_set_ne h]
theorem ZfP(N:Nat)(R:List Wr)(n:Nat)(hn:n<N):∀k,k≤R.length→atK R n k=((sOf N (R.take k)).getD n default).1
 | 0,_=>by
  rw [List.take_zero]
  unfold sOf atK
  rw [List.foldl_nil,List.getD_eq_getElem?_getD,List.getElem?_replicate,if_pos hn]
  rfl
 | k+1,h=>by
  have hk:k<R.length:=by omega
  have e:R.take (k+1)=R.take k++[R.getD k default]:=by
   rw [List.take_add_one,List.getElem?_eq_getElem hk,List.getD_eq_getElem?_getD,List.getElem?_eq_getElem hk]; rfl
  rw [e,Z4N]
  unfold atK stW
  have ih:=ZfP N R n hn k (by omega)
  have hl:(sOf N (R.take k)).length=N:=Z0r _ _
  by_cases h1:(R.getD k default).1=n
  ·rw [if_pos h1,if_pos (by omega),h1,Int.toNat_natCast,Z1J _ _ _ _ (by omega)]
  ·rw [if_neg h1,ih]
   split
   ·rename_i h2
    have:(R.getD k default).1.toNat≠n:=by omega
    rw [Z1c _ _ _ _ _ this]
   ·rfl
theorem Zmq(N:Nat)(R:List Wr)(n:Int)(h:0≤n∧n<N):atK R n R.length=secB (sOf N R) n:=by
 obtain⟨k,rfl⟩:=Int.eq_ofNat_of_zero_le h.1
 rw [ZfP N R k (by omega) R.length (Nat.le_refl _),List.take_length]
 unfold secB
 rw [Int.toNat_natCast]
theorem ZkL(R:List Wr)(k:Nat)(d:AV)(h:k<R.length):(R.flatMap wrR).getD (k*2) d=.int .i64 (R.getD k default).1:=by rw [Z4e (n:=2) R k d h (by decide)]; rfl
theorem ZkK(R:List Wr)(k:Nat)(d:AV)(h:k<R.length):(R.flatMap wrR).getD (k*2+1) d=.str (R.getD k default).2.1:=by rw [Z3C (n:=2) R k 1 d h (by decide)]; rfl
def k95:Nat×List Wr→Ct:=fun (N,R)=>⟨([.ref 0 0 0],Z0P N R),True,.int .i64 N,Z0P N R⟩
theorem inj95:∀a b,(k95 a).a=(k95 b).a→a=b:=by
 rintro⟨N,R⟩ ⟨N',R'⟩ h
 simp only [k95,Z0g,Z0h,Z0k,Z0j,UInt8.toNat_inj,Z09,Z0c,Z0x,Z0o,Z1g,Z19,Z1L,Z0z,Z0E,Z0P,Z0I,Z0A,List.cons.injEq] at h
 simp_all only
noncomputable def S95:Z0n:=Z0W true k95
theorem ks95(N:Nat)(R:List Wr):KS k95 ([.ref 0 0 0],Z0P N R) (True) (.int .i64 N) (Z0P N R):=kat inj95 (N,R)
attribute [push_cast] S95 ks95
theorem body95(Γ:Env)(N:Nat)(R:List Wr):Z08 Tryz.prog Γ Tryz.f95 [.ref 0 0 0] (Z0P N R) (.int .i64 N) (Z0P N R):=by
 unfold Z0P
 refine stt 8 [.tmp 2] fun X hP hΓ hL hfin=>?_; refine Z0G ?_
 exact Z06.sameA
theorem con95{Γ:Env}(h:Z07 Tryz.prog Γ):Con Tryz.prog 95 S95:=
 kcn h (fn:=Tryz.f95) inj95 fun ⟨N,R⟩ _=>body95 Γ N R
def k135:Nat×List Wr×Int×Nat→Ct:=fun (N,R,n,k)=>⟨([.ref 0 0 0,.int .i64 n,.int .i64 k],Z0P N R),k≤R.length∧R.length≤4096∧0≤n∧n<N,.str (atK R n k),Z0P N R⟩
theorem inj135:∀a b,(k135 a).a=(k135 b).a→a=b:=by
 rintro⟨N,R,n,k⟩ ⟨N',R',n',k'⟩ h
 simp only [k135,Z0g,Z0h,Z0k,Z0j,UInt8.toNat_inj,Z09,Z0c,Z0x,Z0o,Z1g,Z19,Z1L,Z0z,Z0E,Z0P,Z0I,Z0A,List.cons.injEq] at h
 simp_all only
noncomputable def S135:Z0n:=Z0W true k135
theorem ks135(N:Nat)(R:List Wr)(n:Int)(k:Nat):KS k135 ([.ref 0 0 0,.int .i64 n,.int .i64 k],Z0P N R) (k≤R.length∧R.length≤4096∧0≤n∧n<N) (.str (atK R n k)) (Z0P N R):=kat inj135 (N,R,n,k)
attribute [push_cast] S135 ks135
theorem body135(Γ:Env)(N:Nat)(R:List Wr)(n:Int)(k:Nat)(hk:k≤R.length)(hR:R.length≤4096)(h0:0≤n)(hn:n<N):Z08 Tryz.prog Γ Tryz.f135 [.ref 0 0 0,.int .i64 n,.int .i64 k] (Z0P N R) (.str (atK R n k)) (Z0P N R):=by
 unfold Z0P
 have w0:IntKind.i64.wrap ((k:Int) - 1)=(k:Int) - 1:=wrq
 refine stt 39 [.tmp 6] fun X hP hΓ hL hfin=>?_; refine gxq w0 ?_
 refine Z02.loopM (ι:={i:Nat // i≤R.length∧atK R n k=atK R n i}) [tt,tt,ff,ff,ff,ff,ff,ff,ff,ff,ff,ff,ff,ff,ff,ff,ff,ff,ff,ff,ff,ff,ff,ff,ff,ff,ff,ff,ff,ff,ff,ff,ff,ff,ff,ff,ff,ff,ff] (fun i=>[(7,.int .i64 ((i.1:Int) - 1))]) (fun i=>[.row [.sl ((noN N).map AV.str) N,.msl 1 R.length 0 R.length] 2 0,.row (R.flatMap wrR) 2 R.length]) (fun i=>i.1) ⟨k,hk,rfl⟩ ?_ ?_
 ·(rw [hL]; simp only [push_cast,Int.natCast_zero,]; exact Z06.sameA)
 rintro⟨i,hi,he⟩
 dsimp only at *
 refine Z0G ?_
 ((with_reducible refine Z0v (fun h=>?_) fun h=>?_) <;> try simp only [fkl,beq_iff_eq,beq_eq_false_iff_ne,ne_eq] at h)
 ·obtain⟨j,rfl⟩:∃j,i=j+1:=⟨i - 1,by omega⟩
  have e:((j+1:Nat):Int) - 1=j:=by omega
  have hj:j<R.length:=by omega
  have r1:=ZkL R j (.int .i64 0) hj
  rw [e]
  refine gxq (cj2 hj r1) ?_
  refine⟨by omega,⟨by omega,by omega⟩,?_⟩
  by_cases c:(R.getD j default).1=n
  ·have d0:decide ((R.getD j default).1=n)=true:=decide_eq_true c
   have r2:=ZkK R j (.str []) hj
   have ea:atK R n k=(R.getD j default).2.1:=by rw [he]; unfold atK; rw [if_pos c]
   refine gxq (cj4 d0 r2 hj ea) ?_
   refine⟨by omega,⟨by omega,by omega⟩,?_⟩
   exact Z06.sameA
  ·have d0:decide ((R.getD j default).1=n)=false:=decide_eq_false c
   have wj:IntKind.i64.wrap ((j:Int) - 1)=(j:Int) - 1:=wrq
   have ea:atK R n k=atK R n j:=by rw [he]; show (if (R.getD j default).1=n then _ else _)=_; rw [if_neg c]
   refine gxq (cj2 d0 wj) ?_
   refine⟨⟨j,by omega,ea⟩,by simp only; omega,?_⟩
   exact Z06.sameA
 ·obtain rfl:i=0:=by omega
  have r3:((noN N).map AV.str).getD n.toNat (.str [])=.str Z59:=by
   rw [List.getD_eq_getElem?_getD,List.getElem?_map,List.getElem?_eq_getElem (by rw [Z1P]; omega)]
   simp [noN]
  have ea:atK R n k=Z59:=he
  refine gxq (cj2 r3 ea) ?_
  refine⟨⟨Z1P N,h0,hn⟩,by rw [Z1P]; omega,?_⟩
  exact Z06.sameA
theorem con135{Γ:Env}(h:Z07 Tryz.prog Γ):Con Tryz.prog 135 S135:=
 kcn h (fn:=Tryz.f135) inj135 fun ⟨N,R,n,k⟩ h=>body135 Γ N R n k h.1 h.2.1 h.2.2.1 h.2.2.2
def k94:Nat×List Wr×Int→Ct:=fun (N,R,n)=>⟨([.ref 0 0 0,.int .i64 n],Z0P N R),R.length≤4096∧N≤1048576,if 0≤n∧n<N then .tup [.str (secB (sOf N R) n),.int .i64 0] else .tup [.str [],.int .i64 31],Z0P N R⟩
theorem inj94:∀a b,(k94 a).a=(k94 b).a→a=b:=by
 rintro⟨N,R,n⟩ ⟨N',R',n'⟩ h
 simp only [k94,Z0g,Z0h,Z0k,Z0j,UInt8.toNat_inj,Z09,Z0c,Z0x,Z0o,Z1g,Z19,Z1L,Z0z,Z0E,Z0P,Z0I,Z0A,List.cons.injEq] at h
 simp_all only
noncomputable def S94:Z0n:=Z0W true k94
theorem ks94(N:Nat)(R:List Wr)(n:Int):KS k94 ([.ref 0 0 0,.int .i64 n],Z0P N R) (R.length≤4096∧N≤1048576) (if 0≤n∧n<N then .tup [.str (secB (sOf N R) n),.int .i64 0] else .tup [.str [],.int .i64 31]) (Z0P N R):=kat inj94 (N,R,n)
attribute [push_cast] S94 ks94
theorem body94(Γ:Env)(h135:Γ 135=some S135)(N:Nat)(R:List Wr)(n:Int)(hR:R.length≤4096)(hN:N≤1048576):Z08 Tryz.prog Γ Tryz.f94 [.ref 0 0 0,.int .i64 n] (Z0P N R) (if 0≤n∧n<N then .tup [.str (secB (sOf N R) n),.int .i64 0] else .tup [.str [],.int .i64 31]) (Z0P N R):=by
 have ⟨p,r,g⟩:=ks135 N R n R.length
 unfold Z0P at *
 by_cases c:0≤n∧n<N
 ·have d1:(decide (n<0) || decide ((N:Int)≤n))=false:=by
   rw [Bool.eq_false_iff]; intro h'; simp only [Bool.or_eq_true,decide_eq_true_eq] at h'; omega
  rw [if_pos c,←Zmq N R n c]
  refine stt 25 [.tmp 4,.tmp 5] fun X hP hΓ hL hfin=>?_; refine gxq (cj6 h135 d1 @Z1P p r g) ?_
  refine⟨⟨Nat.le_refl _,hR,c.1,c.2⟩,?_⟩
  exact Z06.sameA
 ·have d1:(decide (n<0) || decide ((N:Int)≤n))=true:=by
   simp only [Bool.or_eq_true,decide_eq_true_eq]; omega
  rw [if_neg c]
  refine stt 25 [.tmp 4,.tmp 5] fun X hP hΓ hL hfin=>?_; refine gxq (cj2 d1 @Z1P) ?_
  exact Z06.sameA
theorem con94{Γ:Env}(h:Z07 Tryz.prog Γ)(h135:Γ 135=some S135):Con Tryz.prog 94 S94:=
 kcn h (fn:=Tryz.f94) inj94 fun ⟨N,R,n⟩ h=>body94 Γ h135 N R n h.1 h.2
def Zkk:Unit→List AV×Z01:=fun _=>([],[])
def ZnW:Unit→Prop:=fun _=>True
def Zno:Unit→AV:=fun _=>.str Z59
def ZoL:Unit→Z01:=fun _=>[]
theorem inj105:∀a b,Zkk a=Zkk b→a=b:=fun _ _ _=>rfl
noncomputable def S105:Z0n:=Z7X true Zkk ZnW Zno ZoL
theorem ZnD:Z1Y Zkk ZnW ([],[])=(True):=Z0J inj105 ZnW ()
theorem Zn4:Z0U Zkk Zno .any ([],[])=(.str Z59):=Z0d inj105 Zno .any ()
theorem Zor:Z0U Zkk ZoL [] ([],[])=([]):=Z0d inj105 ZoL [] ()
attribute [push_cast] S105 ZnD Zn4 Zor
theorem body105(Γ:Env):Z08 Tryz.prog Γ Tryz.f105 [] [] (.str Z59) []:=by
 refine stt 3 [.tmp 0] fun X hP hΓ hL hfin=>?_; refine Z0G ?_
 have e:(List.take (Int.toNat 1024) (List.replicate (Int.toNat 1024) [AV.int IntKind.u8 0]).flatten)=Z59.map Z05:=by kernel_rfl
 rw [e]
 refine⟨by decide,Z2k _,?_⟩
 rw [Z2F]
 exact Z06.keep0A
theorem con105{Γ:Env}(h:Z07 Tryz.prog Γ):Con Tryz.prog 105 S105:=
 Z2g h (fn:=Tryz.f105) (by kernel_rfl) rfl (by kernel_rfl) inj105 fun _ _=>body105 Γ
def rwW(N:Nat)(R:List Wr)(n:Int)(b:List UInt8):List Wr:=if wrE (sOf N R) R n b=0 then R++[(n,Z2p b)] else R
theorem body103(Γ:Env)(N:Nat)(R:List Wr)(n:Int)(b:List UInt8)(hR:R.length≤4096)(hN:N≤1048576):Z08 Tryz.prog Γ Tryz.f103 [.ref 0 0 0,.int .i64 n,.sl (b.map Z05) b.length] (Z0P N R) (.int .i64 (wrE (sOf N R) R n b)) (Z0P N (rwW N R n b)):=by
 unfold rwW
 by_cases c1:0≤n∧n<N
 case neg=>
  have d1:(decide (n<0) || decide ((N:Int)≤n))=true:=by
   simp only [Bool.or_eq_true,decide_eq_true_eq]; omega
  have e:wrE (sOf N R) R n b=31:=by unfold wrE; rw [if_pos (by rw [Z0r]; exact c1)]
  rw [e,if_neg (by decide)]
  unfold Z0P
  refine stt 43 [.tmp 6] fun X hP hΓ hL hfin=>?_; refine gxq (cj2 d1 @Z1P) ?_
  exact Z06.sameA
 have d1:(decide (n<0) || decide ((N:Int)≤n))=false:=by
  rw [Bool.eq_false_iff]; intro h'; simp only [Bool.or_eq_true,decide_eq_true_eq] at h'; omega
 by_cases c2:b.length=1024
 case neg=>
  have e:wrE (sOf N R) R n b=32:=by unfold wrE; rw [if_neg (by rw [Z0r]; exact fun h=>h c1),if_pos c2]
  have d2:decide ((b.length:Int)=1024)=false:=decide_eq_false (by omega)
  rw [e,if_neg (by decide)]
  unfold Z0P
  refine stt 43 [.tmp 6] fun X hP hΓ hL hfin=>?_; refine gxq (cj3 d1 d2 @Z1P) ?_
  exact Z06.sameA
 have d2:decide ((b.length:Int)=1024)=true:=decide_eq_true (by omega)
 by_cases c3:R.length=4096
 ·have e:wrE (sOf N R) R n b=33:=by unfold wrE; rw [if_neg (by rw [Z0r]; exact fun h=>h c1),if_neg (fun h=>h c2),if_pos c3]
  have d3:decide ((4096:Int)≤(R.length:Int))=true:=decide_eq_true (by omega)
  rw [e,if_neg (by decide)]
  unfold Z0P
  refine stt 43 [.tmp 6] fun X hP hΓ hL hfin=>?_; refine gxq (cj4 d1 d2 d3 @Z1P) ?_
  exact Z06.sameA
 have e:wrE (sOf N R) R n b=0:=by unfold wrE; rw [if_neg (by rw [Z0r]; exact fun h=>h c1),if_neg (fun h=>h c2),if_neg c3]
 have d3:decide ((4096:Int)≤(R.length:Int))=false:=decide_eq_false (by omega)
 rw [e,if_pos rfl]
 have hfl:(R++[(n,Z2p b)]).flatMap wrR=R.flatMap wrR++[.int .i64 n,.str b]:=by
  rw [List.flatMap_append,List.flatMap_singleton]; unfold wrR Z2p; simp [c2]
 have hl:(R++[(n,Z2p b)]).length=R.length+1:=List.length_append
 unfold Z0P
 rw [hfl,hl]
 refine stt 43 [.tmp 6] fun X hP hΓ hL hfin=>?_; refine gxq (cj4 d1 d2 d3 @Z1P) ?_
 (refine Z02.dE (Z1s [.fix (.row [.sl ((noN N).map AV.str) N,.msl 1 R.length 0 R.length] 2 0),.any]) [1,2,3,4,5,6,10,13] [] [] true (Zhs ?_))
 refine⟨by omega,?_⟩
 refine Z0G ?_
 exact Z06.sameA
def k51:Int→Ct:=fun n=>⟨([.int .i64 n],[]),True,if 8≤n∧n≤1024 then .tup [.ref 0 0 0,.int .i64 0] else .tup [.lit (.pointer none),.int .i64 30],if 8≤n∧n≤1024 then Z0P n.toNat [] else []⟩
theorem inj51:∀a b,(k51 a).a=(k51 b).a→a=b:=by
 rintro n n' h
 simp only [k51,Z0g,Z0h,Z0k,Z0j,UInt8.toNat_inj,Z09,Z0c,Z0x,Z0o,Z1g,Z19,Z1L,Z0z,Z0E,Z0P,Z0I,Z0A,List.cons.injEq] at h
 simp_all only
noncomputable def S51:Z0n:=Z0W true k51
theorem ks51(n:Int):KS k51 ([.int .i64 n],[]) (True) (if 8≤n∧n≤1024 then .tup [.ref 0 0 0,.int .i64 0] else .tup [.lit (.pointer none),.int .i64 30]) (if 8≤n∧n≤1024 then Z0P n.toNat [] else []):=kat inj51 n
attribute [push_cast] S51 ks51
theorem body51(Γ:Env)(h105:Γ 105=some S105)(n:Int):Z08 Tryz.prog Γ Tryz.f51 [.int .i64 n] [] (if 8≤n∧n≤1024 then .tup [.ref 0 0 0,.int .i64 0] else .tup [.lit (.pointer none),.int .i64 30]) (if 8≤n∧n≤1024 then Z0P n.toNat [] else []):=by
 by_cases h:8≤n∧n≤1024
 ·have d1:(decide (n<8) || decide (1024<n))=false:=by
   rw [Bool.eq_false_iff]; intro h'; simp only [Bool.or_eq_true,decide_eq_true_eq] at h'; omega
  rw [if_pos h,if_pos h]
  obtain⟨N,rfl⟩:=Int.eq_ofNat_of_zero_le (show 0≤n by omega)
  rw [Int.toNat_natCast]
  refine stt 30 [.tmp 2,.tmp 3] fun X hP hΓ hL hfin=>?_; refine gxq d1 ?_
  refine Z02.nilH 0 0 1 rfl rfl ?_
  refine Z02.nilH 0 1 2 rfl rfl ?_
  simp only [push_cast,reduceCtorEq,Nat.reduceAdd,Nat.reduceMul,Nat.reduceSub,Nat.reduceBEq,Nat.reduceGT,Nat.reduceLT,Int.toNat_zero,Nat.reduceLeDiff,Int.reduceEq,Int.reduceLT,Int.reduceLE]
  refine Z02.loopM (ι:={i:Nat // i≤N}) [tt,ff,tt,tt,tt,ff,ff,ff,ff,ff,ff,ff,ff,ff,ff,ff,ff,ff,ff,ff,ff,ff,ff,ff,ff,ff,ff,ff,ff,ff] (fun i=>[(5,.int .i64 i.1)]) (fun i=>[.row [.msl 1 i.1 0 i.1,.msl 2 0 0 0] 2 0,.row ((noN i.1).map AV.str) 1 i.1,.row [] 2 0]) (fun i=>N - i.1) ⟨0,Nat.zero_le _⟩ ?_ ?_
  ·(rw [hL]; simp only [push_cast,Int.natCast_zero,]; exact Z06.sameA)
  rintro⟨i,hi⟩
  dsimp only at *
  refine Z0G ?_
  ((with_reducible refine Z0v (fun h=>?_) fun h=>?_) <;> try simp only [fkl,beq_iff_eq,beq_eq_false_iff_ne,ne_eq] at h)
  ·have hn:noN (i+1)=noN i++[Z59]:=by unfold noN; rw [List.replicate_succ']
   have wi:IntKind.i64.wrap ((i:Int)+1)=(i:Int)+1:=wrq
   refine Z02.dE (Z1s [.fix (.row [.msl 1 i 0 i,.msl 2 0 0 0] 2 0),.any,.any]) [5,7,10] [] [] true (gyq h105 ?_)
   refine⟨⟨Z1P i,by omega⟩,?_⟩
   refine gxq wi ?_
   refine⟨⟨i+1,by omega⟩,by simp only; omega,?_⟩
   dsimp only
   rw [hn,List.map_append]
   exact Z06.sameA
  ·obtain rfl:i=N:=by omega
   have hz:List.take i ((noN i).map AV.str)=(noN i).map AV.str:=List.take_of_length_le (by rw [List.length_map,Z1P]; exact Nat.le_refl _)
   ((first | with_reducible refine holds_of_ex X 400 _ _ _ ?_ | skip); simp (maxSteps:=1000000) only [push_cast,reduceCtorEq,Nat.reduceAdd,Nat.reduceMul,Nat.reduceSub,Nat.reduceBEq,Nat.reduceGT,Nat.reduceLT,Int.toNat_zero,Nat.reduceLeDiff,Int.reduceEq,Int.reduceLT,Int.reduceLE,hP,hΓ,hL,hfin,String.reduceEq,Int.toNat_one,Bool.not_not,Z0P,List.flatMap_nil,List.length_nil])
   refine Z0q.frz 1 smo smf (gsq ?_)
   rw [hz]
   exact Z0q.base [0,2] ⟨sml,smr,(by decide),(by first | rfl | decide),sm,sm⟩ smd
 ·have d1:(decide (n<8) || decide (1024<n))=true:=by
   simp only [Bool.or_eq_true,decide_eq_true_eq]; omega
  rw [if_neg h,if_neg h]
  refine stt 30 [.tmp 2,.tmp 3] fun X hP hΓ hL hfin=>?_; refine gxq d1 ?_
  exact Z06.sameA
theorem con51{Γ:Env}(h:Z07 Tryz.prog Γ)(h105:Γ 105=some S105):Con Tryz.prog 51 S51:=
 kcn h (fn:=Tryz.f51) inj51 fun n _=>body51 Γ h105 n
theorem Z2a(n:Nat):((n:Int)=-1)=False:=by simp only [eq_iff_iff,iff_false]; omega
theorem Z1H(n:Nat):(-1=(n:Int))=False:=by simp only [eq_iff_iff,iff_false]; omega
def k106:Nat×List Wr×Int→Ct:=fun (N,R,n)=>⟨([.ref 0 0 0,.int .i64 n],Z0P N R),R.length≤4096∧-1000000≤n∧n≤1000000,.bool (decide ((R.length:Int)+n≤4096)),Z0P N R⟩
theorem inj106:∀a b,(k106 a).a=(k106 b).a→a=b:=by
 rintro⟨N,R,n⟩ ⟨N',R',n'⟩ h
 simp only [k106,Z2a,Z1H,Z0g,Z0h,Z0k,Z0j,UInt8.toNat_inj,Z09,Z0c,Z0x,Z0o,Z1g,Z19,Z1L,Z0z,Z0E,Z0P,Z0I,Z0A,List.cons.injEq] at h
 simp_all only
noncomputable def S106:Z0n:=Z0W true k106
theorem ks106(N:Nat)(R:List Wr)(n:Int):KS k106 ([.ref 0 0 0,.int .i64 n],Z0P N R) (R.length≤4096∧-1000000≤n∧n≤1000000) (.bool (decide ((R.length:Int)+n≤4096))) (Z0P N R):=kat inj106 (N,R,n)
attribute [push_cast] S106 ks106
theorem body106(Γ:Env)(N:Nat)(R:List Wr)(n:Int)(hW:R.length≤4096)(hn:-1000000≤n∧n≤1000000):Z08 Tryz.prog Γ Tryz.f106 [.ref 0 0 0,.int .i64 n] (Z0P N R) (.bool (decide ((R.length:Int)+n≤4096))) (Z0P N R):=by
 unfold Z0P
 have w1:IntKind.i64.wrap ((R.length:Int)+n)=(R.length:Int)+n:=wrq
 refine stt 13 [.tmp 4] fun X hP hΓ hL hfin=>?_; refine gxq w1 ?_
 exact Z06.sameA
theorem con106{Γ:Env}(h:Z07 Tryz.prog Γ):Con Tryz.prog 106 S106:=
 kcn h (fn:=Tryz.f106) inj106 fun ⟨N,R,n⟩ h=>body106 Γ N R n h.1 h.2
def k107:List UInt8→Ct:=fun b=>⟨([.sl (b.map Z05) b.length],[]),b.length≤1024,.msl 0 0 0 1024,[.row ((padP b).map Z05) 1 0]⟩
theorem inj107:∀a b,(k107 a).a=(k107 b).a→a=b:=by
 rintro b b' h
 simp only [k107,Z2a,Z1H,Z0g,Z0h,Z0k,Z0j,UInt8.toNat_inj,Z09,Z0c,Z0x,Z0o,Z1g,Z19,Z1L,Z0z,Z0E,Z0P,Z0I,Z0A,List.cons.injEq] at h
 simp_all only
noncomputable def S107:Z0n:=Z0W true k107
theorem ks107(b:List UInt8):KS k107 ([.sl (b.map Z05) b.length],[]) (b.length≤1024) (.msl 0 0 0 1024) ([.row ((padP b).map Z05) 1 0]):=kat inj107 b
attribute [push_cast] S107 ks107
theorem body107(Γ:Env)(b:List UInt8)(hb:b.length≤1024):Z08 Tryz.prog Γ Tryz.f107 [.sl (b.map Z05) b.length] [] (.msl 0 0 0 1024) [.row ((padP b).map Z05) 1 0]:=by
 have ez:(List.replicate (Int.toNat 1024) [AV.int IntKind.u8 0]).flatten=Z59.map Z05:=by kernel_rfl
 refine stt 9 [.tmp 2] fun X hP hΓ hL hfin=>?_; refine gxq ez ?_
 have e1:Int.toNat 1024=1024:=rfl
 have e2:List.take (min b.length 1024) (List.map Z05 b)=List.map Z05 b:=List.take_of_length_le (by rw [List.length_map]; omega)
 have e3:min (min b.length 1024) b.length=b.length:=by omega
 have e4:List.map Z05 b++List.drop b.length (List.map Z05 Z59)=List.map Z05 (padP b):=by
  rw [←List.map_drop,←List.map_append]; unfold padP Z59; rw [List.drop_replicate]
 rw [e1,e2,e3,e4]
 refine⟨by decide,⟨Z4y _,by decide⟩,?_⟩
 exact Z06.sameA
theorem con107{Γ:Env}(h:Z07 Tryz.prog Γ):Con Tryz.prog 107 S107:=
 kcn h (fn:=Tryz.f107) inj107 fun b h=>body107 Γ b h
def ZjW:(Int)→List AV:=fun n=>[.int .i64 n]
def p110:(Int)→Prop:=fun n=>0≤n∧n≤1000000000
def r110:(Int)→AV:=fun n=>.int .i64 (hdN n:Nat)
def g110:(Int)→Z01:=fun n=>[]
theorem inj110:∀a b,ZjW a=ZjW b→a=b:=by
 rintro n n' h
 simp only [ZjW,Z2a,Z1H,Z0g,Z0h,Z0k,Z0j,UInt8.toNat_inj,Z09,Z0c,Z0x,Z0o,Z1g,Z19,Z1L,Z0z,Z0E,Z0P,Z0I,Z0A,List.cons.injEq] at h
 simp_all only
noncomputable def S110:Z0n:=Z5S ZjW p110 r110 g110 true
theorem ZgP(n:Int):Z5P ZjW p110 [.int .i64 n]=(0≤n∧n≤1000000000):=Z13 inj110 p110 n
theorem Zgl(n:Int):Z2s ZjW r110 .any [.int .i64 n]=(.int .i64 (hdN n:Nat)):=Z0u inj110 r110 .any n
theorem Zhq(n:Int):Z2s ZjW g110 [] [.int .i64 n]=([]):=Z0u inj110 g110 [] n
attribute [push_cast] S110 ZgP Zgl Zhq
theorem body110(Γ:Env)(n:Int)(h:0≤n∧n≤1000000000):Z08 Tryz.prog Γ Tryz.f110 [.int .i64 n] [] (.int .i64 (hdN n:Nat)) []:=by
 have w1:IntKind.i64.wrap (n+1024)=n+1024:=wrq
 have w2:IntKind.i64.wrap (n+1024 - 1)=n+1024 - 1:=wrq
 have e:(n+1024 - 1).tdiv 1024=((hdN n:Nat):Int):=by
  rw [Int.tdiv_eq_ediv_of_nonneg (by omega)]; unfold hdN; omega
 have w3:IntKind.i64.wrap ((hdN n:Nat):Int)=((hdN n:Nat):Int):=Z0t _ (by unfold hdN; constructor <;> omega)
 refine stt 7 [.tmp 2] fun X hP hΓ hL hfin=>?_; refine gxq (cj4 w1 w2 e w3) ?_
 exact Z06.sameA
theorem con110{Γ:Env}(h:Z07 Tryz.prog Γ):Con Tryz.prog 110 S110:=
 Z0V h (fn:=Tryz.f110) (by kernel_rfl) rfl (by kernel_rfl) inj110 (by first | (intro h; cases h; done) | exact fun _ _=>rfl) fun n h=>body110 Γ n h
inductive ZmI where
 | c0 (n:Nat)
 | c1
def Zg1:ZmI→List AV×Z01
 | .c0 n=>([.int .i64 n],[])
 | .c1=>([.int .i64 (-1)],[])
def Zl5:ZmI→Prop
 | .c0 n=>n≤1000000000
 | .c1=>True
def ZkM:ZmI→AV
 | .c0 n=>.int .i64 (lvN n:Nat)
 | .c1=>.int .i64 0
def ZlK:ZmI→Z01
 | .c0 n=>[]
 | .c1=>[]
theorem inj111:∀a b,Zg1 a=Zg1 b→a=b:=by
 intro a b h
 cases a <;> cases b <;> simp only [Zg1,Z2a,Z1H,Z0g,Z0h,Z0k,Z0j,UInt8.toNat_inj,Z09,Z0c,Z0x,Z0o,Z1g,Z19,Z1L,Z0z,Z0E,Z0P,Z0I,Z0A,List.cons.injEq,Fn.func.injEq,reduceCtorEq,Nat.reduceEqDiff,false_and,and_false,List.cons_ne_nil] at h <;> simp_all only
noncomputable def S111:Z0n:=Z7X true Zg1 Zl5 ZkM ZlK
theorem Zj1(n:Nat):Z1Y Zg1 Zl5 ([.int .i64 n],[])=(n≤1000000000):=Z0J inj111 Zl5 (.c0 n)
theorem ZiQ(n:Nat):Z0U Zg1 ZkM .any ([.int .i64 n],[])=(.int .i64 (lvN n:Nat)):=Z0d inj111 ZkM .any (.c0 n)
theorem Zjr(n:Nat):Z0U Zg1 ZlK [] ([.int .i64 n],[])=([]):=Z0d inj111 ZlK [] (.c0 n)
theorem Zdn:Z1Y Zg1 Zl5 ([.int .i64 (-1)],[])=(True):=Z0J inj111 Zl5 (.c1 )
theorem Zcx:Z0U Zg1 ZkM .any ([.int .i64 (-1)],[])=(.int .i64 0):=Z0d inj111 ZkM .any (.c1 )
theorem Ze1:Z0U Zg1 ZlK [] ([.int .i64 (-1)],[])=([]):=Z0d inj111 ZlK [] (.c1 )
attribute [push_cast] S111 Zj1 ZiQ Zjr Zdn Zcx Ze1
theorem body111(Γ:Env)(n:Nat)(h:n≤1000000000):Z08 Tryz.prog Γ Tryz.f111 [.int .i64 n] [] (.int .i64 (lvN n:Nat)) []:=by
 have w1:IntKind.i64.wrap ((n:Int)+31)=n+31:=wrq
 have w2:IntKind.i64.wrap ((n:Int)+31 - 1)=n+31 - 1:=wrq
 have e:((n:Int)+31 - 1).tdiv 31=((lvN n:Nat):Int):=by
  rw [Int.tdiv_eq_ediv_of_nonneg (by omega)]; unfold lvN; omega
 have w3:IntKind.i64.wrap ((lvN n:Nat):Int)=((lvN n:Nat):Int):=Z0t _ (by unfold lvN; constructor <;> omega)
 refine stt 7 [.tmp 2] fun X hP hΓ hL hfin=>?_; refine gxq (cj4 w1 w2 e w3) ?_
 exact Z06.sameA
theorem body111n(Γ:Env):Z08 Tryz.prog Γ Tryz.f111 [.int .i64 (-1)] [] (.int .i64 0) []:=by
 have w1:IntKind.i64.wrap ((-1:Int)+31)=30:=by decide
 have w2:IntKind.i64.wrap ((30:Int) - 1)=29:=by decide
 have e:((29:Int)).tdiv 31=0:=by decide
 have w3:IntKind.i64.wrap (0:Int)=0:=by decide
 refine stt 7 [.tmp 2] fun X hP hΓ hL hfin=>?_; refine gxq (cj4 w1 w2 e w3) ?_
 exact Z06.sameA
theorem con111{Γ:Env}(h:Z07 Tryz.prog Γ):Con Tryz.prog 111 S111:=
 Z2g h (fn:=Tryz.f111) (by kernel_rfl) rfl (by kernel_rfl) inj111 fun x h=>match x,h with | .c0 n,h=>body111 Γ n h | .c1,_=>body111n Γ
def dvW(w:Nat):Nat→Nat
 | 0=>w
 | 1=>q8 w
 | 2=>q16 w
 | 3=>q24 w
 | _=>0
theorem ZlS(w:Nat)(h:w<4294967296)(i:Nat):dvW w i<4294967296:=by
 rcases i with _ | _ | _ | _ | i <;> simp only [dvW] <;> (try unfold q8) <;> (try unfold q16) <;> (try unfold q24) <;> (try omega)
theorem ZjY(w:Nat)(h:w<4294967296)(i:Nat)(hi:i<4):dvW w i / 256=dvW w (i+1):=by
 rcases i with _ | _ | _ | _ | i <;> simp only [dvW] <;> (try unfold q8) <;> (try unfold q16) <;> (try unfold q24) <;> (try omega)
theorem ZlT(w:Nat)(i:Nat)(hi:i<4):(leW w).take (i+1)=(leW w).take i++[UInt8.ofNat (dvW w i)]:=by
 rcases i with _ | _ | _ | _ | i <;> first | rfl | omega
def k108:Nat→Ct:=fun w=>⟨([.int .u32 w],[]),w<4294967296,.msl 0 0 0 4,[.row ((leW w).map Z05) 1 0]⟩
theorem inj108:∀a b,(k108 a).a=(k108 b).a→a=b:=by
 rintro w w' h
 simp only [k108,Z2a,Z1H,Z0g,Z0h,Z0k,Z0j,UInt8.toNat_inj,Z09,Z0c,Z0x,Z0o,Z1g,Z19,Z1L,Z0z,Z0E,Z0P,Z0I,Z0A,List.cons.injEq] at h
 simp_all only
noncomputable def S108:Z0n:=Z0W true k108
theorem ks108(w:Nat):KS k108 ([.int .u32 w],[]) (w<4294967296) (.msl 0 0 0 4) ([.row ((leW w).map Z05) 1 0]):=kat inj108 w
attribute [push_cast] S108 ks108
theorem body108(Γ:Env)(w:Nat)(hw:w<4294967296):Z08 Tryz.prog Γ Tryz.f108 [.int .u32 w] [] (.msl 0 0 0 4) [.row ((leW w).map Z05) 1 0]:=by
 refine stt 18 [.tmp 2] fun X hP hΓ hL hfin=>?_; refine Z0G ?_
 refine Z02.loopM (ι:={i:Nat // i≤4}) [ff,ff,tt,ff,ff,ff,ff,ff,ff,ff,ff,ff,ff,ff,ff,ff,ff,ff] (fun i=>[(4,.int .i64 i.1),(0,.int .u32 (dvW w i.1:Nat)),(3,.msl 0 i.1 0 i.1)]) (fun i=>[.row (((leW w).take i.1).map Z05) 1 i.1]) (fun i=>4 - i.1) ⟨0,Nat.zero_le _⟩ ?_ ?_
 ·rw [hL]
  refine Z0q.nil 3  1 rfl (gsq ?_)
  exact Z06.sameA
 rintro⟨i,hi⟩
 dsimp only at *
 have hd:=ZlS w hw i
 generalize hq:dvW w i=x at *
 refine Z0G ?_
 ((with_reducible refine Z0v (fun h=>?_) fun h=>?_) <;> try simp only [fkl,beq_iff_eq,beq_eq_false_iff_ne,ne_eq] at h)
 ·have hi4:i<4:=by omega
  have wi:IntKind.i64.wrap ((i:Int)+1)=(i:Int)+1:=wrq
  have e1:IntKind.u32.wrap ((x:Int).tdiv 256)=((dvW w (i+1):Nat):Int):=by
   rw [←ZjY w hw i hi4,hq,Int.tdiv_eq_ediv_of_nonneg (by omega),Z5G _ (by omega)]; rfl
  have e2:IntKind.u8.wrap ((x:Int).tmod 256)=((UInt8.ofNat x).toNat:Int):=by
   rw [←Z7p,Int.tmod_eq_emod_of_nonneg (by omega)]
   simp [IntKind.wrap,IntKind.bits,IntKind.signed]
  have e3:List.map Z05 (List.take i (leW w))++[AV.int IntKind.u8 ((UInt8.ofNat x).toNat:Int)]=List.map Z05 (List.take (i+1) (leW w)):=by
   rw [ZlT w i hi4,List.map_append,hq]; rfl
  refine gxq (cj3 wi e1 e2) ?_
  refine⟨⟨by rw [Z0O]; omega,by omega⟩,?_⟩
  rw [e3]
  refine⟨⟨i+1,by omega⟩,by simp only; omega,?_⟩
  exact Z06.sameA
 ·obtain rfl:i=4:=by omega
  have e3:List.take 4 (leW w)=leW w:=rfl
  refine Z0G ?_
  rw [e3]
  refine Z0q.ver 0  0 sm smv (gsq ?_)
  exact Z06.sameA
theorem con108{Γ:Env}(h:Z07 Tryz.prog Γ):Con Tryz.prog 108 S108:=
 kcn h (fn:=Tryz.f108) inj108 fun w h=>body108 Γ w h
def ZjO:(List UInt8)→List AV:=fun l=>[.sl (l.map Z05) l.length,.int .i64 0]
def ZnO:(List UInt8)→Prop:=fun l=>l.length=4
def Znf:(List UInt8)→AV:=fun l=>.tup [.int .u32 (leV l),.bool true]
def ZoC:(List UInt8)→Z01:=fun l=>[]
theorem inj136:∀a b,ZjO a=ZjO b→a=b:=by
 rintro l l' h
 simp only [ZjO,Z2a,Z1H,Z0g,Z0h,Z0k,Z0j,UInt8.toNat_inj,Z09,Z0c,Z0x,Z0o,Z1g,Z19,Z1L,Z0z,Z0E,Z0P,Z0I,Z0A,List.cons.injEq] at h
 simp_all only
noncomputable def S136:Z0n:=Z5S ZjO ZnO Znf ZoC true
theorem ZkV(l:List UInt8):Z5P ZjO ZnO [.sl (l.map Z05) l.length,.int .i64 0]=(l.length=4):=Z13 inj136 ZnO l
theorem ZkA(l:List UInt8):Z2s ZjO Znf .any [.sl (l.map Z05) l.length,.int .i64 0]=(.tup [.int .u32 (leV l),.bool true]):=Z0u inj136 Znf .any l
theorem ZlF(l:List UInt8):Z2s ZjO ZoC [] [.sl (l.map Z05) l.length,.int .i64 0]=([]):=Z0u inj136 ZoC [] l
attribute [push_cast] S136 ZkV ZkA ZlF
theorem body136(Γ:Env)(l:List UInt8)(hl:l.length=4):Z08 Tryz.prog Γ Tryz.f136 [.sl (l.map Z05) l.length,.int .i64 0] [] (.tup [.int .u32 (leV l),.bool true]) []:=by
 have d1:decide ((l.length:Int)<4)=false:=decide_eq_false (by omega)
 have w1:IntKind.i64.wrap ((l.length:Int) - 4)=0:=by rw [hl]; rfl
 refine stt 37 [.tmp 4,.tmp 5] fun X hP hΓ hL hfin=>?_; refine gxq (cj2 d1 w1) ?_
 have dn:List.drop 4 l=[]:=List.drop_of_length_le (by omega)
 refine Z02.loopM (ι:={i:Nat // i≤4}) [tt,tt,ff,ff,tt,tt,ff,ff,ff,ff,ff,ff,ff,ff,ff,ff,ff,ff,ff,ff,ff,ff,ff,ff,ff,ff,ff,ff,ff,ff,ff,ff,ff,ff,ff,ff,ff] (fun i=>[(7,.int .i64 ((i.1:Int) - 1)),(6,.int .u32 (leV (l.drop i.1):Nat))]) (fun i=>[]) (fun i=>i.1) ⟨4,Nat.le_refl _⟩ ?_ ?_
 ·rw [hL]; simp only [push_cast,dn,leV]; exact Z06.sameA
 rintro⟨i,hi⟩
 dsimp only at *
 refine Z0G ?_
 ((with_reducible refine Z0v (fun h=>?_) fun h=>?_) <;> try simp only [fkl,beq_iff_eq,beq_eq_false_iff_ne,ne_eq] at h)
 ·obtain⟨j,rfl⟩:∃j,i=j+1:=⟨i - 1,by omega⟩
  have e:((j+1:Nat):Int) - 1=j:=by omega
  have hj:j<l.length:=by omega
  have wj:IntKind.i64.wrap ((j:Int) - 1)=(j:Int) - 1:=wrq
  have wj2:IntKind.i64.wrap (j:Int)=(j:Int):=wrq
  have hb:(l.map Z05).getD j (.int .u8 0)=Z05 (l.getD j 0):=by
   rw [List.getD_eq_getElem?_getD,List.getElem?_map,List.getElem?_eq_getElem hj,List.getD_eq_getElem?_getD,List.getElem?_eq_getElem hj]; rfl
  have hdr:l.drop j=l.getD j 0::l.drop (j+1):=by
   rw [List.drop_eq_getElem_cons hj,List.getD_eq_getElem?_getD,List.getElem?_eq_getElem hj]; rfl
  have hv:leV (l.drop j)=(l.getD j 0).toNat+256*leV (l.drop (j+1)):=by rw [hdr]; rfl
  have hlt:leV (l.drop (j+1))<16777216:=by
   have h1:=ZaQ (l.drop (j+1))
   have h2:(l.drop (j+1)).length≤3:=by rw [List.length_drop]; omega
   exact Nat.lt_of_lt_of_le h1 (Nat.pow_le_pow_right (by decide) h2)
  rw [e]
  generalize leV (l.drop (j+1))=v at *
  have wv:IntKind.u32.wrap ((v:Int)*256)=(v:Int)*256:=Z5G _ (by omega)
  refine gxq (cj5 hj wj wj2 @Int.zero_add wv) ?_
  have hb2:=(l.getD j 0).toNat_lt
  generalize (l.getD j 0).toNat=c at *
  have wc:IntKind.u32.wrap (c:Int)=(c:Int):=Z5G _ (by omega)
  have wx:IntKind.u32.wrap ((v:Int)*256+c)=((leV (l.drop j):Nat):Int):=by rw [Z5G _ (by omega),hv]; omega
  rw [wc,wx]
  refine⟨by omega,by omega,⟨j,by omega⟩,by simp only; omega,?_⟩
  exact Z06.sameA
 ·obtain rfl:i=0:=by omega
  ((first | with_reducible refine holds_of_ex X 400 _ _ _ ?_ | skip); simp (maxSteps:=1000000) only [push_cast,reduceCtorEq,Nat.reduceAdd,Nat.reduceMul,Nat.reduceSub,Nat.reduceBEq,Nat.reduceGT,Nat.reduceLT,Int.toNat_zero,Nat.reduceLeDiff,Int.reduceEq,Int.reduceLT,Int.reduceLE,hP,hΓ,hL,hfin,String.reduceEq,Int.toNat_one,Bool.not_not,List.drop_zero])
  exact Z06.sameA
theorem con136{Γ:Env}(h:Z07 Tryz.prog Γ):Con Tryz.prog 136 S136:=
 Z0V h (fn:=Tryz.f136) (by kernel_rfl) rfl (by kernel_rfl) inj136 (by first | (intro h; cases h; done) | exact fun _ _=>rfl) fun l h=>body136 Γ l h
def e96:List UInt8×Int→List AV:=fun (s,i)=>[.str s,.int .i64 i]
def p96:List UInt8×Int→Prop:=fun (s,i)=>0≤i∧4*i+4≤(s.length:Int)∧s.length≤4194304
def r96:List UInt8×Int→AV:=fun (s,i)=>.int .u32 (getW s (4*i).toNat)
def g96:List UInt8×Int→Z01:=fun (s,i)=>[]
theorem inj96:∀a b,e96 a=e96 b→a=b:=by
 rintro⟨s,i⟩ ⟨s',i'⟩ h
 simp only [e96,Z2a,Z1H,Z0g,Z0h,Z0k,Z0j,UInt8.toNat_inj,Z09,Z0c,Z0x,Z0o,Z1g,Z19,Z1L,Z0z,Z0E,Z0P,Z0I,Z0A,List.cons.injEq] at h
 simp_all only
noncomputable def S96:Z0n:=Z5S e96 p96 r96 g96 true
theorem Znp(s:List UInt8)(i:Int):Z5P e96 p96 [.str s,.int .i64 i]=(0≤i∧4*i+4≤(s.length:Int)∧s.length≤4194304):=Z13 inj96 p96 (s,i)
theorem ZmR(s:List UInt8)(i:Int):Z2s e96 r96 .any [.str s,.int .i64 i]=(.int .u32 (getW s (4*i).toNat)):=Z0u inj96 r96 .any (s,i)
theorem hs96(s:List UInt8)(i:Int):Z2s e96 g96 [] [.str s,.int .i64 i]=([]):=Z0u inj96 g96 [] (s,i)
attribute [push_cast] S96 Znp ZmR hs96
theorem body96(Γ:Env)(h136:Γ 136=some S136)(s:List UInt8)(i:Nat)(h:4*(i:Int)+4≤(s.length:Int))(hl:s.length≤4194304):Z08 Tryz.prog Γ Tryz.f96 [.str s,.int .i64 i] [] (.int .u32 (getW s (4*(i:Int)).toNat)) []:=by
 have w1:IntKind.i64.wrap (4*(i:Int))=4*(i:Int):=wrq
 have w2:IntKind.i64.wrap (4*(i:Int)+4)=4*(i:Int)+4:=wrq
 have mT:min (4*(i:Int)+4).toNat s.length - (4*(i:Int)).toNat=4:=by omega
 have hT:(List.drop (4*(i:Int)).toNat (List.take (4*(i:Int)+4).toNat s)).length=4:=by rw [List.length_drop,List.length_take]; exact mT
 have eT:getW s (4*(i:Int)).toNat=leV (List.drop (4*(i:Int)).toNat (List.take (4*(i:Int)+4).toNat s)):=by
  unfold getW; rw [show (4*(i:Int)+4).toNat=(4*(i:Int)).toNat+4 by omega]
 rw [eT]
 have p:=ZkV (List.drop (4*(i:Int)).toNat (List.take (4*(i:Int)+4).toNat s))
 have r:=ZkA (List.drop (4*(i:Int)).toNat (List.take (4*(i:Int)+4).toNat s))
 have g:=ZlF (List.drop (4*(i:Int)).toNat (List.take (4*(i:Int)+4).toNat s))
 have tk:List.take 4 ((List.drop (4*(i:Int)).toNat (List.take (4*(i:Int)+4).toNat s)).map Z05)=(List.drop (4*(i:Int)).toNat (List.take (4*(i:Int)+4).toNat s)).map Z05:=List.take_of_length_le (by rw [List.length_map,hT]; exact Nat.le_refl _)
 rw [hT] at p r g
 refine stt 20 [.tmp 4] fun X hP hΓ hL hfin=>?_; refine gxq (cj8 h136 w1 w2 mT tk p r g) ?_
 refine⟨⟨by omega,by omega,h⟩,?_⟩
 exact Z06.keep0A
theorem con96{Γ:Env}(h:Z07 Tryz.prog Γ)(h136:Γ 136=some S136):Con Tryz.prog 96 S96:=
 Z0V h (fn:=Tryz.f96) (by kernel_rfl) rfl (by kernel_rfl) inj96 (by first | (intro h; cases h; done) | exact fun _ _=>rfl) fun ⟨s,i⟩ h=>by
  obtain⟨k,rfl⟩:=Int.eq_ofNat_of_zero_le h.1
  exact body96 Γ h136 s k h.2.1 h.2.2
def Z0y(F:List Fl)(Lv U:List Int)(N:Nat)(R:List Wr):Z01:=[.row [.ref 1 0 0,.sl (F.flatMap flC) F.length,.sl (Lv.map (AV.int .i64)) Lv.length,.msl 2 0 0 U.length] 4 0,.row [.sl ((noN N).map AV.str) N,.msl 3 R.length 0 R.length] 2 0,.row (U.map (AV.int .i64)) 1 0,.row (R.flatMap wrR) 2 R.length]
def Z2R(F:List Fl)(Lv U:List Int)(N:Nat)(R:List Wr):Z01:=[.row [.ref 1 0 0,.msl 2 F.length 0 F.length,.msl 3 Lv.length 0 Lv.length,.msl 4 0 0 U.length] 4 0,.row [.sl ((noN N).map AV.str) N,.msl 5 R.length 0 R.length] 2 0,.row (F.flatMap flC) 4 F.length,.row (Lv.map (AV.int .i64)) 1 Lv.length,.row (U.map (AV.int .i64)) 1 0,.row (R.flatMap wrR) 2 R.length]
def uGo(was now:Int):List Int→List Int→List Int×Bool
 | [],U=>(U,true)
 | n::l,U=>if 0≤n∧n<U.length∧U.getD n.toNat default=was then uGo was now l (U.set n.toNat now) else (U,false)
theorem Z1V(was now:Int):∀(l U:List Int),(uGo was now l U).1.length=U.length
 | [],U=>rfl
 | n::l,U=>by
  unfold uGo
  split
  ·rw [Z1V was now l,List.length_set]
  ·rfl
theorem body99y(Γ:Env)(F:List Fl)(Lv U:List Int)(N:Nat)(R:List Wr)(l:List Int)(was now:Int)(hl:l.length≤4194304)(hU:U.length≤4194304):Z08 Tryz.prog Γ Tryz.f99 [.ref 0 0 0,.sl (l.map (AV.int .i64)) l.length,.int .i64 was,.int .i64 now] (Z0y F Lv U N R) (.bool (uGo was now l U).2) (Z0y F Lv (uGo was now l U).1 N R):=by
 have hlen:=Z1V was now l U
 unfold Z0y
 rw [hlen]
 refine stt 57 [.tmp 8] fun X hP hΓ hL hfin=>?_; refine Z0G ?_
 refine Z02.loopM (ι:={p:Nat×List Int // p.1≤l.length∧p.2.length=U.length∧uGo was now l U=uGo was now (l.drop p.1) p.2}) [tt,tt,tt,tt,ff,ff,ff,ff,ff,ff,ff,ff,ff,ff,ff,ff,ff,ff,ff,ff,ff,ff,ff,ff,ff,ff,ff,ff,ff,ff,ff,ff,ff,ff,ff,ff,ff,ff,ff,ff,ff,ff,ff,ff,ff,ff,ff,ff,ff,ff,ff,ff,ff,ff,ff,ff,ff] (fun i=>[(9,.int .i64 i.1.1)]) (fun i=>[.row [.ref 1 0 0,.sl (F.flatMap flC) F.length,.sl (Lv.map (AV.int .i64)) Lv.length,.msl 2 0 0 U.length] 4 0,.row [.sl ((noN N).map AV.str) N,.msl 3 R.length 0 R.length] 2 0,.row (i.1.2.map (AV.int .i64)) 1 0,.row (R.flatMap wrR) 2 R.length]) (fun i=>l.length - i.1.1) ⟨(0,U),Nat.zero_le _,rfl,rfl⟩ ?_ ?_
 ·(rw [hL]; simp only [push_cast,Int.natCast_zero,]; exact Z06.sameA)
 rintro⟨⟨k,V⟩,hk,hV,he⟩
 replace hk:k≤l.length:=hk
 replace hV:V.length=U.length:=hV
 replace he:uGo was now l U=uGo was now (l.drop k) V:=he
 dsimp only
 refine Z0G ?_
 ((with_reducible refine Z0v (fun h=>?_) fun h=>?_) <;> try simp only [fkl,beq_iff_eq,beq_eq_false_iff_ne,ne_eq] at h)
 ·have hk':k<l.length:=by omega
  have hdr:l.drop k=l.getD k default::l.drop (k+1):=by
   rw [List.drop_eq_getElem_cons hk',List.getD_eq_getElem?_getD,List.getElem?_eq_getElem hk']; rfl
  have wk:IntKind.i64.wrap ((k:Int)+1)=(k:Int)+1:=wrq
  by_cases c1:l.getD k default<0
  ·have e1:uGo was now l U=(V,false):=by rw [he,hdr,uGo,if_neg (by omega)]
   have d1:decide (l.getD k default<0)=true:=decide_eq_true c1
   rw [e1] at hfin
   refine Z50 1 ?_
   refine Z02.drawnK [6,7,8,9,10,11,12,13,14,15,18,19,20,21,22,23,24,25,26,27,28,29] smp (by kernel_rfl) (gyq (cj2 d1 hk') ?_)
   refine⟨by omega,by omega,?_⟩
   refine Z0G ?_
   exact Z06.sameA
  obtain⟨m,hm⟩:=Int.eq_ofNat_of_zero_le (show 0≤l.getD k default by omega)
  have d1:decide ((m:Int)<0)=false:=decide_eq_false (by omega)
  by_cases c2:m<V.length
  case neg=>
   have e1:uGo was now l U=(V,false):=by rw [he,hdr,uGo,if_neg (by omega)]
   have d2:decide ((U.length:Int)≤m)=true:=decide_eq_true (by omega)
   rw [e1] at hfin
   refine Z50 1 ?_
   refine Z02.drawnK [18,19,20,21,22,23,24,25,26,27,28,29] smp (by kernel_rfl) (gyq (cj4 d1 d2 hk' hm) ?_)
   refine⟨by omega,by omega,by omega,by omega,?_⟩
   refine Z0G ?_
   exact Z06.sameA
  have d2:decide ((U.length:Int)≤m)=false:=decide_eq_false (by omega)
  by_cases c3:V.getD m default=was
  case neg=>
   have e1:uGo was now l U=(V,false):=by rw [he,hdr,uGo,if_neg (by rw [hm,Int.toNat_natCast]; exact fun h=>c3 h.2.2)]
   have d3:decide (V.getD m default=was)=false:=decide_eq_false c3
   rw [e1] at hfin
   refine Z50 1 ?_
   refine Z02.drawnK [] smp (by kernel_rfl) (gyq (cj5 d1 d2 d3 hk' hm) ?_)
   refine⟨by omega,by omega,by omega,by omega,by omega,by omega,by omega,⟨by omega,by omega⟩,?_⟩
   refine Z0G ?_
   exact Z06.sameA
  have e2:uGo was now l U=uGo was now (l.drop (k+1)) (V.set m now):=by rw [he,hdr,uGo,if_pos (by rw [hm,Int.toNat_natCast]; exact⟨by omega,by omega,c3⟩),hm,Int.toNat_natCast]
  have d3:decide (V.getD m default=was)=true:=decide_eq_true c3
  refine Z50 1 ?_
  refine Z02.drawnK [] smp (by kernel_rfl) (gyq (cj5 d1 d2 d3 hk' hm) ?_)
  refine⟨by omega,by omega,by omega,by omega,by omega,by omega,by omega,⟨by omega,by omega⟩,?_⟩
  refine Z50 2 ?_
  (refine Z02.dE (Z1s [.fix (.row [.ref 1 0 0,.sl (F.flatMap flC) F.length,.sl (Lv.map (AV.int .i64)) Lv.length,.msl 2 0 0 U.length] 4 0),.any,.fix (.row (V.map (AV.int .i64)) 1 0)]) [0,1,2,3,4,5,6,7,8,9,10] [] [] true (gyq (cj2 hk' hm) ?_))
  refine⟨by omega,by omega,by omega,by omega,?_⟩
  rw [Z4u V m now c2]
  refine gxq wk ?_
  refine⟨⟨(k+1,V.set m now),(by omega:k+1≤l.length),(by rw [List.length_set]; exact hV),e2⟩,by simp only; omega,?_⟩
  exact Z06.sameA
 ·obtain rfl:k=l.length:=by omega
  have e1:uGo was now l U=(V,true):=by rw [he,List.drop_length,uGo]
  rw [e1] at hfin
  refine Z0G ?_
  exact Z06.sameA
theorem body99p(Γ:Env)(F:List Fl)(Lv U:List Int)(N:Nat)(R:List Wr)(l:List Int)(was now:Int)(hl:l.length≤4194304)(hU:U.length≤4194304):Z08 Tryz.prog Γ Tryz.f99 [.ref 0 0 0,.sl (l.map (AV.int .i64)) l.length,.int .i64 was,.int .i64 now] (Z2R F Lv U N R) (.bool (uGo was now l U).2) (Z2R F Lv (uGo was now l U).1 N R):=by
 have hlen:=Z1V was now l U
 unfold Z2R
 rw [hlen]
 refine stt 57 [.tmp 8] fun X hP hΓ hL hfin=>?_; refine Z0G ?_
 refine Z02.loopM (ι:={p:Nat×List Int // p.1≤l.length∧p.2.length=U.length∧uGo was now l U=uGo was now (l.drop p.1) p.2}) [tt,tt,tt,tt,ff,ff,ff,ff,ff,ff,ff,ff,ff,ff,ff,ff,ff,ff,ff,ff,ff,ff,ff,ff,ff,ff,ff,ff,ff,ff,ff,ff,ff,ff,ff,ff,ff,ff,ff,ff,ff,ff,ff,ff,ff,ff,ff,ff,ff,ff,ff,ff,ff,ff,ff,ff,ff] (fun i=>[(9,.int .i64 i.1.1)]) (fun i=>[.row [.ref 1 0 0,.msl 2 F.length 0 F.length,.msl 3 Lv.length 0 Lv.length,.msl 4 0 0 U.length] 4 0,.row [.sl ((noN N).map AV.str) N,.msl 5 R.length 0 R.length] 2 0,.row (F.flatMap flC) 4 F.length,.row (Lv.map (AV.int .i64)) 1 Lv.length,.row (i.1.2.map (AV.int .i64)) 1 0,.row (R.flatMap wrR) 2 R.length]) (fun i=>l.length - i.1.1) ⟨(0,U),Nat.zero_le _,rfl,rfl⟩ ?_ ?_
 ·(rw [hL]; simp only [push_cast,Int.natCast_zero,]; exact Z06.sameA)
 rintro⟨⟨k,V⟩,hk,hV,he⟩
 replace hk:k≤l.length:=hk
 replace hV:V.length=U.length:=hV
 replace he:uGo was now l U=uGo was now (l.drop k) V:=he
 dsimp only
 refine Z0G ?_
 ((with_reducible refine Z0v (fun h=>?_) fun h=>?_) <;> try simp only [fkl,beq_iff_eq,beq_eq_false_iff_ne,ne_eq] at h)
 ·have hk':k<l.length:=by omega
  have hdr:l.drop k=l.getD k default::l.drop (k+1):=by
   rw [List.drop_eq_getElem_cons hk',List.getD_eq_getElem?_getD,List.getElem?_eq_getElem hk']; rfl
  have wk:IntKind.i64.wrap ((k:Int)+1)=(k:Int)+1:=wrq
  by_cases c1:l.getD k default<0
  ·have e1:uGo was now l U=(V,false):=by rw [he,hdr,uGo,if_neg (by omega)]
   have d1:decide (l.getD k default<0)=true:=decide_eq_true c1
   rw [e1] at hfin
   refine Z50 1 ?_
   refine Z02.drawnK [6,7,8,9,10,11,12,13,14,15,18,19,20,21,22,23,24,25,26,27,28,29] smp (by kernel_rfl) (gyq (cj2 d1 hk') ?_)
   refine⟨by omega,by omega,?_⟩
   refine Z0G ?_
   exact Z06.sameA
  obtain⟨m,hm⟩:=Int.eq_ofNat_of_zero_le (show 0≤l.getD k default by omega)
  have d1:decide ((m:Int)<0)=false:=decide_eq_false (by omega)
  by_cases c2:m<V.length
  case neg=>
   have e1:uGo was now l U=(V,false):=by rw [he,hdr,uGo,if_neg (by omega)]
   have d2:decide ((U.length:Int)≤m)=true:=decide_eq_true (by omega)
   rw [e1] at hfin
   refine Z50 1 ?_
   refine Z02.drawnK [18,19,20,21,22,23,24,25,26,27,28,29] smp (by kernel_rfl) (gyq (cj4 d1 d2 hk' hm) ?_)
   refine⟨by omega,by omega,by omega,by omega,?_⟩
   refine Z0G ?_
   exact Z06.sameA
  have d2:decide ((U.length:Int)≤m)=false:=decide_eq_false (by omega)
  by_cases c3:V.getD m default=was
  case neg=>
   have e1:uGo was now l U=(V,false):=by rw [he,hdr,uGo,if_neg (by rw [hm,Int.toNat_natCast]; exact fun h=>c3 h.2.2)]
   have d3:decide (V.getD m default=was)=false:=decide_eq_false c3
   rw [e1] at hfin
   refine Z50 1 ?_
   refine Z02.drawnK [] smp (by kernel_rfl) (gyq (cj5 d1 d2 d3 hk' hm) ?_)
   refine⟨by omega,by omega,by omega,by omega,by omega,by omega,by omega,⟨by omega,by omega⟩,?_⟩
   refine Z0G ?_
   exact Z06.sameA
  have e2:uGo was now l U=uGo was now (l.drop (k+1)) (V.set m now):=by rw [he,hdr,uGo,if_pos (by rw [hm,Int.toNat_natCast]; exact⟨by omega,by omega,c3⟩),hm,Int.toNat_natCast]
  have d3:decide (V.getD m default=was)=true:=decide_eq_true c3
  refine Z50 1 ?_
  refine Z02.drawnK [] smp (by kernel_rfl) (gyq (cj5 d1 d2 d3 hk' hm) ?_)
  refine⟨by omega,by omega,by omega,by omega,by omega,by omega,by omega,⟨by omega,by omega⟩,?_⟩
  refine Z50 2 ?_
  (refine Z02.dE (Z1s [.fix (.row [.ref 1 0 0,.msl 2 F.length 0 F.length,.msl 3 Lv.length 0 Lv.length,.msl 4 0 0 U.length] 4 0),.any,.any,.any,.fix (.row (V.map (AV.int .i64)) 1 0)]) [0,1,2,3,4,5,6,7,8,9,10] [] [] true (gyq (cj2 hk' hm) ?_))
  refine⟨by omega,by omega,by omega,by omega,?_⟩
  rw [Z4u V m now c2]
  refine gxq wk ?_
  refine⟨⟨(k+1,V.set m now),(by omega:k+1≤l.length),(by rw [List.length_set]; exact hV),e2⟩,by simp only; omega,?_⟩
  exact Z06.sameA
 ·obtain rfl:k=l.length:=by omega
  have e1:uGo was now l U=(V,true):=by rw [he,List.drop_length,uGo]
  rw [e1] at hfin
  refine Z0G ?_
  exact Z06.sameA
theorem body99n(Γ:Env)(F:List Fl)(Lv U:List Int)(N:Nat)(R:List Wr)(was now:Int):Z08 Tryz.prog Γ Tryz.f99 [.ref 0 0 0,.lit (.slice none 0 0),.int .i64 was,.int .i64 now] (Z0y F Lv U N R) (.bool true) (Z0y F Lv U N R):=by
 unfold Z0y
 refine stt 57 [.tmp 8] fun X hP hΓ hL hfin=>?_; refine Z0G ?_
 refine Z02.loopM (ι:=Unit) [tt,tt,tt,tt,ff,ff,ff,ff,ff,ff,ff,ff,ff,ff,ff,ff,ff,ff,ff,ff,ff,ff,ff,ff,ff,ff,ff,ff,ff,ff,ff,ff,ff,ff,ff,ff,ff,ff,ff,ff,ff,ff,ff,ff,ff,ff,ff,ff,ff,ff,ff,ff,ff,ff,ff,ff,ff] (fun i=>[(9,.int .i64 0)]) (fun i=>[.row [.ref 1 0 0,.sl (F.flatMap flC) F.length,.sl (Lv.map (AV.int .i64)) Lv.length,.msl 2 0 0 U.length] 4 0,.row [.sl ((noN N).map AV.str) N,.msl 3 R.length 0 R.length] 2 0,.row (U.map (AV.int .i64)) 1 0,.row (R.flatMap wrR) 2 R.length]) (fun i=>0) () ?_ ?_
 ·(rw [hL]; simp only [push_cast,Int.natCast_zero,]; exact Z06.sameA)
 rintro⟨⟩
 refine Z0G ?_
 exact Z06.sameA
inductive A99 where
 | c0 (F:List Fl) (Lv:List Int) (U:List Int) (N:Nat) (R:List Wr) (l:List Int) (was:Int) (now:Int)
 | c1 (F:List Fl) (Lv:List Int) (U:List Int) (N:Nat) (R:List Wr) (l:List Int) (was:Int) (now:Int)
 | c2 (F:List Fl) (Lv:List Int) (U:List Int) (N:Nat) (R:List Wr) (was:Int) (now:Int)
def e99:A99→List AV×Z01
 | .c0 F Lv U N R l was now=>([.ref 0 0 0,.sl (l.map (AV.int .i64)) l.length,.int .i64 was,.int .i64 now],Z2R F Lv U N R)
 | .c1 F Lv U N R l was now=>([.ref 0 0 0,.sl (l.map (AV.int .i64)) l.length,.int .i64 was,.int .i64 now],Z0y F Lv U N R)
 | .c2 F Lv U N R was now=>([.ref 0 0 0,.lit (.slice none 0 0),.int .i64 was,.int .i64 now],Z0y F Lv U N R)
def p99:A99→Prop
 | .c0 F Lv U N R l was now=>l.length≤4194304∧U.length≤4194304
 | .c1 F Lv U N R l was now=>l.length≤4194304∧U.length≤4194304
 | .c2 F Lv U N R was now=>True
def r99:A99→AV
 | .c0 F Lv U N R l was now=>.bool (uGo was now l U).2
 | .c1 F Lv U N R l was now=>.bool (uGo was now l U).2
 | .c2 F Lv U N R was now=>.bool true
def g99:A99→Z01
 | .c0 F Lv U N R l was now=>Z2R F Lv (uGo was now l U).1 N R
 | .c1 F Lv U N R l was now=>Z0y F Lv (uGo was now l U).1 N R
 | .c2 F Lv U N R was now=>Z0y F Lv U N R
theorem inj99:∀a b,e99 a=e99 b→a=b:=by
 intro a b h
 cases a <;> cases b <;> simp only [e99,Z0g,Z0h,Z0k,Z0j,UInt8.toNat_inj,Z09,Z0c,Z0x,Z0o,Z1g,Z19,Z1L,Z0z,Z0E,Z0P,Z0I,Z0y,Z2R,Z0A,List.cons.injEq,Fn.func.injEq,reduceCtorEq,Nat.reduceEqDiff,false_and,and_false,List.cons_ne_nil] at h <;> simp_all only
noncomputable def S99:Z0n:=Z7X true e99 p99 r99 g99
theorem Zdj(F:List Fl)(Lv U:List Int)(N:Nat)(R:List Wr)(l:List Int)(was now:Int):Z1Y e99 p99 ([.ref 0 0 0,.sl (l.map (AV.int .i64)) l.length,.int .i64 was,.int .i64 now],Z2R F Lv U N R)=(l.length≤4194304∧U.length≤4194304):=Z0J inj99 p99 (.c0 F Lv U N R l was now)
theorem Zct(F:List Fl)(Lv U:List Int)(N:Nat)(R:List Wr)(l:List Int)(was now:Int):Z0U e99 r99 .any ([.ref 0 0 0,.sl (l.map (AV.int .i64)) l.length,.int .i64 was,.int .i64 now],Z2R F Lv U N R)=(.bool (uGo was now l U).2):=Z0d inj99 r99 .any (.c0 F Lv U N R l was now)
theorem ZdX(F:List Fl)(Lv U:List Int)(N:Nat)(R:List Wr)(l:List Int)(was now:Int):Z0U e99 g99 [] ([.ref 0 0 0,.sl (l.map (AV.int .i64)) l.length,.int .i64 was,.int .i64 now],Z2R F Lv U N R)=(Z2R F Lv (uGo was now l U).1 N R):=Z0d inj99 g99 [] (.c0 F Lv U N R l was now)
theorem Z6b(F:List Fl)(Lv U:List Int)(N:Nat)(R:List Wr)(l:List Int)(was now:Int):Z1Y e99 p99 ([.ref 0 0 0,.sl (l.map (AV.int .i64)) l.length,.int .i64 was,.int .i64 now],Z0y F Lv U N R)=(l.length≤4194304∧U.length≤4194304):=Z0J inj99 p99 (.c1 F Lv U N R l was now)
theorem Z65(F:List Fl)(Lv U:List Int)(N:Nat)(R:List Wr)(l:List Int)(was now:Int):Z0U e99 r99 .any ([.ref 0 0 0,.sl (l.map (AV.int .i64)) l.length,.int .i64 was,.int .i64 now],Z0y F Lv U N R)=(.bool (uGo was now l U).2):=Z0d inj99 r99 .any (.c1 F Lv U N R l was now)
theorem Z6r(F:List Fl)(Lv U:List Int)(N:Nat)(R:List Wr)(l:List Int)(was now:Int):Z0U e99 g99 [] ([.ref 0 0 0,.sl (l.map (AV.int .i64)) l.length,.int .i64 was,.int .i64 now],Z0y F Lv U N R)=(Z0y F Lv (uGo was now l U).1 N R):=Z0d inj99 g99 [] (.c1 F Lv U N R l was now)
theorem Zi4(F:List Fl)(Lv U:List Int)(N:Nat)(R:List Wr)(was now:Int):Z1Y e99 p99 ([.ref 0 0 0,.lit (.slice none 0 0),.int .i64 was,.int .i64 now],Z0y F Lv U N R)=(True):=Z0J inj99 p99 (.c2 F Lv U N R was now)
theorem ZhS(F:List Fl)(Lv U:List Int)(N:Nat)(R:List Wr)(was now:Int):Z0U e99 r99 .any ([.ref 0 0 0,.lit (.slice none 0 0),.int .i64 was,.int .i64 now],Z0y F Lv U N R)=(.bool true):=Z0d inj99 r99 .any (.c2 F Lv U N R was now)
theorem Zid(F:List Fl)(Lv U:List Int)(N:Nat)(R:List Wr)(was now:Int):Z0U e99 g99 [] ([.ref 0 0 0,.lit (.slice none 0 0),.int .i64 was,.int .i64 now],Z0y F Lv U N R)=(Z0y F Lv U N R):=Z0d inj99 g99 [] (.c2 F Lv U N R was now)
attribute [push_cast] S99 Zdj Zct ZdX Z6b Z65 Z6r Zi4 ZhS Zid
theorem con99{Γ:Env}(h:Z07 Tryz.prog Γ):Con Tryz.prog 99 S99:=
 Z2g h (fn:=Tryz.f99) (by kernel_rfl) rfl (by kernel_rfl) inj99 fun x=>match x with
  | .c0 F Lv U N R l was now=>fun h=>body99p Γ F Lv U N R l was now h.1 h.2
  | .c1 F Lv U N R l was now=>fun h=>body99y Γ F Lv U N R l was now h.1 h.2
  | .c2 F Lv U N R was now=>fun _=>body99n Γ F Lv U N R was now
end Go.Proofs.YtbnnhffkbcekcaaGreatDoor.dirDone
end
