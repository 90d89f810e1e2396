/- Parts of the walk through directories. Conditions stand in each. -/
import Derived.Test.YtbnnhffkbcekcaaGreatDoorGj
import Derived.Test.YtbnnhffkbcekcaaGreatDoorFg
set_option linter.unusedVariables false
set_option linter.unusedSimpArgs false
set_option maxRecDepth 100000
set_option maxHeartbeats 4000000
section
namespace Go.Proofs.YtbnnhffkbcekcaaGreatDoor.dirDone
open Go Go.Eng Go.Proofs Go.Lib
def Z4n(N:Nat)(R:List Wr)(b:List UInt8)(u:Nat):Z01:=[.row [.sl ((noN N).map AV.str) N,.msl 2 R.length 0 R.length] 2 0,.row (b.map Z05) 1 u,.row (R.flatMap wrR) 2 R.length]
theorem body103m(Γ:Env)(u:Nat)(N:Nat)(R:List Wr)(n:Int)(b:List UInt8)(hR:R.length≤4096)(hN:N≤1048576):Z08 Tryz.prog Γ Tryz.f103 [.ref 0 0 0,.int .i64 n,.msl 1 u 0 b.length] (Z4n N R b u) (.int .i64 (wrE (sOf N R) R n b)) (Z4n N (rwW N R n b) b u):=by
 unfold rwW
 by_cases c1:0≤n∧n<N
 case neg=>
  have d1:(decide (n<0) || decide ((N:Int)≤n))=true:=by
   simp only [Bool.or_eq_true,decide_eq_true_eq]; omega
  have e:wrE (sOf N R) R n b=31:=by unfold wrE; rw [if_pos (by rw [Z0r]; exact c1)]
  rw [e,if_neg (by decide)]
  unfold Z4n
  refine stt 43 [.tmp 6] fun X hP hΓ hL hfin=>?_; refine gxq (cj2 d1 @Z1P) ?_
  exact Z06.sameA
 have d1:(decide (n<0) || decide ((N:Int)≤n))=false:=by
  rw [Bool.eq_false_iff]; intro h'; simp only [Bool.or_eq_true,decide_eq_true_eq] at h'; omega
 by_cases c2:b.length=1024
 case neg=>
  have e:wrE (sOf N R) R n b=32:=by unfold wrE; rw [if_neg (by rw [Z0r]; exact fun h=>h c1),if_pos c2]
  have d2:decide ((b.length:Int)=1024)=false:=decide_eq_false (by omega)
  rw [e,if_neg (by decide)]
  unfold Z4n
  refine stt 43 [.tmp 6] fun X hP hΓ hL hfin=>?_; refine gxq (cj3 d1 d2 @Z1P) ?_
  exact Z06.sameA
 have d2:decide ((b.length:Int)=1024)=true:=decide_eq_true (by omega)
 by_cases c3:R.length=4096
 ·have e:wrE (sOf N R) R n b=33:=by unfold wrE; rw [if_neg (by rw [Z0r]; exact fun h=>h c1),if_neg (fun h=>h c2),if_pos c3]
  have d3:decide ((4096:Int)≤(R.length:Int))=true:=decide_eq_true (by omega)
  rw [e,if_neg (by decide)]
  unfold Z4n
  refine stt 43 [.tmp 6] fun X hP hΓ hL hfin=>?_; refine gxq (cj4 d1 d2 d3 @Z1P) ?_
  exact Z06.sameA
 have e:wrE (sOf N R) R n b=0:=by unfold wrE; rw [if_neg (by rw [Z0r]; exact fun h=>h c1),if_neg (fun h=>h c2),if_neg c3]
 have d3:decide ((4096:Int)≤(R.length:Int))=false:=decide_eq_false (by omega)
 rw [e,if_pos rfl]
 have hfl:(R++[(n,Z2p b)]).flatMap wrR=R.flatMap wrR++[.int .i64 n,.str b]:=by
  rw [List.flatMap_append,List.flatMap_singleton]; unfold wrR Z2p; simp [c2]
 have hl:(R++[(n,Z2p b)]).length=R.length+1:=List.length_append
 have tb:List.take b.length (List.map Z05 b)=List.map Z05 b:=List.take_of_length_le (by rw [List.length_map]; exact Nat.le_refl _)
 unfold Z4n
 rw [hfl,hl]
 refine stt 43 [.tmp 6] fun X hP hΓ hL hfin=>?_; refine gxq (cj4 d1 d2 d3 @Z1P) ?_
 (refine Z02.dE (Z1s [.fix (.row [.sl ((noN N).map AV.str) N,.msl 2 R.length 0 R.length] 2 0),.fix (.row (b.map Z05) 1 u),.any]) [1,2,3,4,5,6,10,13] [] [] true ?_; simp (maxSteps:=1000000) only [↓reduceIte,Option.getD_some,push_cast,reduceCtorEq,Nat.reduceAdd,Nat.reduceMul,Nat.reduceSub,Nat.reduceBEq,Nat.reduceGT,Nat.reduceLT,Int.toNat_zero,Nat.reduceLeDiff,Int.reduceEq,Int.reduceLT,Int.reduceLE,hP,hΓ,hL,hfin,String.reduceEq,Int.toNat_one,Bool.not_not,tb,Z2k,Z2F])
 refine⟨by omega,?_⟩
 refine Z0G ?_
 exact Z06.sameA
inductive ZmJ where
 | c0 (N:Nat) (R:List Wr) (n:Int) (b:List UInt8) (u:Nat)
 | c1 (N:Nat) (R:List Wr) (n:Int) (b:List UInt8)
def Zg2:ZmJ→List AV×Z01
 | .c0 N R n b u=>([.ref 0 0 0,.int .i64 n,.msl 1 u 0 b.length],Z4n N R b u)
 | .c1 N R n b=>([.ref 0 0 0,.int .i64 n,.sl (b.map Z05) b.length],Z0P N R)
def Zl6:ZmJ→Prop
 | .c0 N R n b u=>R.length≤4096∧N≤1048576
 | .c1 N R n b=>R.length≤4096∧N≤1048576
def ZkN:ZmJ→AV
 | .c0 N R n b u=>.int .i64 (wrE (sOf N R) R n b)
 | .c1 N R n b=>.int .i64 (wrE (sOf N R) R n b)
def ZlL:ZmJ→Z01
 | .c0 N R n b u=>Z4n N (rwW N R n b) b u
 | .c1 N R n b=>Z0P N (rwW N R n b)
theorem inj103:∀a b,Zg2 a=Zg2 b→a=b:=by
 intro a b h
 cases a <;> cases b <;> simp only [Zg2,Z2a,Z1H,Z0g,Z0h,Z0k,Z0j,UInt8.toNat_inj,Z09,Z0c,Z0x,Z0o,Z1g,Z19,Z1L,Z0z,Z0E,Z0P,Z0I,Z0y,Z2R,Z4n,Z0A,List.cons.injEq,Fn.func.injEq,reduceCtorEq,Nat.reduceEqDiff,false_and,and_false,List.cons_ne_nil] at h <;> simp_all only
noncomputable def S103:Z0n:=Z6L Zg2 Zl6 ZkN ZlL
theorem Z7I(N:Nat)(R:List Wr)(n:Int)(b:List UInt8)(u:Nat):Z1Y Zg2 Zl6 ([.ref 0 0 0,.int .i64 n,.msl 1 u 0 b.length],Z4n N R b u)=(R.length≤4096∧N≤1048576):=Z0J inj103 Zl6 (.c0 N R n b u)
theorem Z7D(N:Nat)(R:List Wr)(n:Int)(b:List UInt8)(u:Nat):Z0U Zg2 ZkN .any ([.ref 0 0 0,.int .i64 n,.msl 1 u 0 b.length],Z4n N R b u)=(.int .i64 (wrE (sOf N R) R n b)):=Z0d inj103 ZkN .any (.c0 N R n b u)
theorem Z7W(N:Nat)(R:List Wr)(n:Int)(b:List UInt8)(u:Nat):Z0U Zg2 ZlL [] ([.ref 0 0 0,.int .i64 n,.msl 1 u 0 b.length],Z4n N R b u)=(Z4n N (rwW N R n b) b u):=Z0d inj103 ZlL [] (.c0 N R n b u)
theorem Zdo(N:Nat)(R:List Wr)(n:Int)(b:List UInt8):Z1Y Zg2 Zl6 ([.ref 0 0 0,.int .i64 n,.sl (b.map Z05) b.length],Z0P N R)=(R.length≤4096∧N≤1048576):=Z0J inj103 Zl6 (.c1 N R n b)
theorem Zcy(N:Nat)(R:List Wr)(n:Int)(b:List UInt8):Z0U Zg2 ZkN .any ([.ref 0 0 0,.int .i64 n,.sl (b.map Z05) b.length],Z0P N R)=(.int .i64 (wrE (sOf N R) R n b)):=Z0d inj103 ZkN .any (.c1 N R n b)
theorem Ze2(N:Nat)(R:List Wr)(n:Int)(b:List UInt8):Z0U Zg2 ZlL [] ([.ref 0 0 0,.int .i64 n,.sl (b.map Z05) b.length],Z0P N R)=(Z0P N (rwW N R n b)):=Z0d inj103 ZlL [] (.c1 N R n b)
attribute [push_cast] S103 Z7I Z7D Z7W Zdo Zcy Ze2
theorem con103{Γ:Env}(h:Z07 Tryz.prog Γ):Con Tryz.prog 103 S103:=
 Z2f h (fn:=Tryz.f103) (by kernel_rfl) rfl (by kernel_rfl) inj103 fun a h=>match a,h with | .c0 N R n b u,h=>body103m Γ u N R n b h.1 h.2 | .c1 N R n b,h=>body103 Γ N R n b h.1 h.2
theorem Zg3{N:Nat}{R:List Wr}{n:Int}{b:List UInt8}(h:0≤n∧n<N)(hb:b.length=1024)(hR:R.length<4096):wrE (sOf N R) R n b=0:=by
 unfold wrE
 rw [if_neg (by rw [Z0r]; exact fun h'=>h' h),if_neg (fun h'=>h' hb),if_neg (by omega)]
def fmtR(N:Nat)(R:List Wr):List Wr:=rwW N R 0 (padP (leW markR))
def k52:Nat×List Wr→Ct:=fun (N,R)=>⟨([.ref 0 0 0],Z0P N R),R.length≤4096∧N≤1048576∧0<N,.int .i64 (if R.length<4096 then 0 else 174),Z0P N (if R.length<4096 then fmtR N R else R)⟩
theorem inj52:∀a b,(k52 a).a=(k52 b).a→a=b:=by
 rintro⟨N,R⟩ ⟨N',R'⟩ h
 simp only [k52,Z2a,Z1H,Z0g,Z0h,Z0k,Z0j,UInt8.toNat_inj,Z09,Z0c,Z0x,Z0o,Z1g,Z19,Z1L,Z0z,Z0E,Z0P,Z0I,Z0y,Z2R,Z4n,Z0A,List.cons.injEq] at h
 simp_all only
noncomputable def S52:Z0n:=Z0W true k52
theorem ks52(N:Nat)(R:List Wr):KS k52 ([.ref 0 0 0],Z0P N R) (R.length≤4096∧N≤1048576∧0<N) (.int .i64 (if R.length<4096 then 0 else 174)) (Z0P N (if R.length<4096 then fmtR N R else R)):=kat inj52 (N,R)
attribute [push_cast] S52 ks52
theorem body52(Γ:Env)(h106:Γ 106=some S106)(h108:Γ 108=some S108)(h107:Γ 107=some S107)(h103:Γ 103=some S103)(N:Nat)(R:List Wr)(hR:R.length≤4096)(hN:N≤1048576)(hN0:0<N) :
  Z08 Tryz.prog Γ Tryz.f52 [.ref 0 0 0] (Z0P N R) (.int .i64 (if R.length<4096 then 0 else 174)) (Z0P N (if R.length<4096 then fmtR N R else R)):=by
 have ⟨p1,r1,g1⟩:=ks106 N R 1
 by_cases c:R.length<4096
 ·have d1:decide ((R.length:Int)+1≤4096)=true:=decide_eq_true (by omega)
  have hpl:(padP (leW markR)).length=1024:=Z29 (by decide)
  have p2:=Z7I N R 0 (padP (leW markR)) 0
  have r2:=Z7D N R 0 (padP (leW markR)) 0
  have g2:=Z7W N R 0 (padP (leW markR)) 0
  rw [hpl] at p2 r2 g2
  rw [Zg3 ⟨Int.le_refl _,by omega⟩ hpl c] at r2
  have ⟨p3,r3,g3⟩:=ks107 (leW markR)
  have e4:(leW markR).length=4:=rfl
  have t4:List.take 4 ((leW markR).map Z05)=(leW markR).map Z05:=rfl
  have ⟨p4,r4,g4⟩:=ks108 markR
  have em:((markR:Nat):Int)=827475011:=rfl
  rw [em] at p4 r4 g4
  rw [e4] at p3 r3 g3
  rw [if_pos c,if_pos c]
  unfold fmtR
  generalize rwW N R 0 (padP (leW markR))=R' at *
  unfold Z0P Z4n at *
  refine stt 14 [.tmp 2] fun X hP hΓ hL hfin=>?_; refine gxq (Zp2 h106 p1 r1 g1 d1 h108 p4 r4 g4 h107 p3 r3 g3 t4 h103 p2 r2 g2) ?_
  refine⟨hR,by decide,⟨by decide,hR,hN⟩,?_⟩
  exact Z06.keep2A
 ·have d1:decide ((R.length:Int)+1≤4096)=false:=decide_eq_false (by omega)
  rw [if_neg c,if_neg c]
  unfold Z0P at *
  refine stt 14 [.tmp 2] fun X hP hΓ hL hfin=>?_; refine gxq (cj5 h106 p1 r1 g1 d1) ?_
  refine⟨hR,?_⟩
  exact Z06.sameA
theorem con52{Γ:Env}(h:Z07 Tryz.prog Γ)(h106:Γ 106=some S106)(h108:Γ 108=some S108)(h107:Γ 107=some S107)(h103:Γ 103=some S103):Con Tryz.prog 52 S52:=
 kcn h (fn:=Tryz.f52) inj52 fun ⟨N,R⟩ h=>body52 Γ h106 h108 h107 h103 N R h.1 h.2.1 h.2.2
inductive ZmH where
 | c0 (F:List Fl) (Lv:List Int) (U:List Int) (N:Nat) (R:List Wr) (n:Nat)
 | c1 (F:List Fl) (Lv:List Int) (U:List Int) (N:Nat) (R:List Wr)
def Zg0:ZmH→List AV×Z01
 | .c0 F Lv U N R n=>([.ref 0 0 0,.int .i64 n],Z0y F Lv U N R)
 | .c1 F Lv U N R=>([.ref 0 0 0,.int .i64 (-1)],Z0y F Lv U N R)
def p121:ZmH→Prop
 | .c0 F Lv U N R n=>R.length≤4096∧U.length≤1048576∧n≤1000000
 | .c1 F Lv U N R=>R.length≤4096∧U.length≤1048576
def r121:ZmH→AV
 | .c0 F Lv U N R n=>.bool (decide (R.length+lvN n+1≤4096∧lvN n≤U.count 0))
 | .c1 F Lv U N R=>.bool (decide (R.length+1≤4096))
def g121:ZmH→Z01
 | .c0 F Lv U N R n=>Z0y F Lv U N R
 | .c1 F Lv U N R=>Z0y F Lv U N R
theorem inj121:∀a b,Zg0 a=Zg0 b→a=b:=by
 intro a b h
 cases a <;> cases b <;> simp only [Zg0,Z2a,Z1H,Z0g,Z0h,Z0k,Z0j,UInt8.toNat_inj,Z09,Z0c,Z0x,Z0o,Z1g,Z19,Z1L,Z0z,Z0E,Z0P,Z0I,Z0y,Z2R,Z4n,Z0A,List.cons.injEq,Fn.func.injEq,reduceCtorEq,Nat.reduceEqDiff,false_and,and_false,List.cons_ne_nil] at h <;> simp_all only
noncomputable def S121:Z0n:=Z7X true Zg0 p121 r121 g121
theorem Z6c(F:List Fl)(Lv U:List Int)(N:Nat)(R:List Wr)(n:Nat):Z1Y Zg0 p121 ([.ref 0 0 0,.int .i64 n],Z0y F Lv U N R)=(R.length≤4096∧U.length≤1048576∧n≤1000000):=Z0J inj121 p121 (.c0 F Lv U N R n)
theorem Z66(F:List Fl)(Lv U:List Int)(N:Nat)(R:List Wr)(n:Nat):Z0U Zg0 r121 .any ([.ref 0 0 0,.int .i64 n],Z0y F Lv U N R)=(.bool (decide (R.length+lvN n+1≤4096∧lvN n≤U.count 0))):=Z0d inj121 r121 .any (.c0 F Lv U N R n)
theorem Z6s(F:List Fl)(Lv U:List Int)(N:Nat)(R:List Wr)(n:Nat):Z0U Zg0 g121 [] ([.ref 0 0 0,.int .i64 n],Z0y F Lv U N R)=(Z0y F Lv U N R):=Z0d inj121 g121 [] (.c0 F Lv U N R n)
theorem Zdm(F:List Fl)(Lv U:List Int)(N:Nat)(R:List Wr):Z1Y Zg0 p121 ([.ref 0 0 0,.int .i64 (-1)],Z0y F Lv U N R)=(R.length≤4096∧U.length≤1048576):=Z0J inj121 p121 (.c1 F Lv U N R)
theorem Zcw(F:List Fl)(Lv U:List Int)(N:Nat)(R:List Wr):Z0U Zg0 r121 .any ([.ref 0 0 0,.int .i64 (-1)],Z0y F Lv U N R)=(.bool (decide (R.length+1≤4096))):=Z0d inj121 r121 .any (.c1 F Lv U N R)
theorem Ze0(F:List Fl)(Lv U:List Int)(N:Nat)(R:List Wr):Z0U Zg0 g121 [] ([.ref 0 0 0,.int .i64 (-1)],Z0y F Lv U N R)=(Z0y F Lv U N R):=Z0d inj121 g121 [] (.c1 F Lv U N R)
attribute [push_cast] S121 Z6c Z66 Z6s Zdm Zcw Ze0
theorem body121(Γ:Env)(h106:Γ 106=some S106)(h111:Γ 111=some S111)(h76:Γ 76=some S76)(F:List Fl)(Lv U:List Int)(N:Nat)(R:List Wr)(n:Nat)(hR:R.length≤4096)(hU:U.length≤1048576)(hn:n≤1000000) :
  Z08 Tryz.prog Γ Tryz.f121 [.ref 0 0 0,.int .i64 n] (Z0y F Lv U N R) (.bool (decide (R.length+lvN n+1≤4096∧lvN n≤U.count 0))) (Z0y F Lv U N R):=by
 obtain⟨q,hq⟩:∃q,lvN n=q:=⟨_,rfl⟩
 have hq2:q≤100000:=by rw [←hq]; unfold lvN; omega
 have hcU:U.count 0≤U.length:=List.count_le_length
 have ⟨p1,r1,g1⟩:=ks106 N R ((q:Int)+1)
 have ⟨p2,r2,g2⟩:=ks76 F Lv U N R
 have wq:IntKind.i64.wrap ((q:Int)+1)=(q:Int)+1:=wrq
 rw [hq]
 unfold Z0y Z0P at *
 by_cases c:R.length+q+1≤4096
 ·have d1:decide ((R.length:Int)+((q:Int)+1)≤4096)=true:=decide_eq_true (by omega)
  have e:decide (R.length+q+1≤4096∧q≤U.count 0)=decide ((q:Int)≤((U.count 0:Nat):Int)):=decide_eq_decide.2 ⟨fun h=>by omega,fun h=>⟨c,by omega⟩⟩
  rw [e]
  refine stt 22 [.tmp 4] fun X hP hΓ hL hfin=>?_; refine Z0G ?_
  refine Z02.drawnQ smp (by kernel_rfl) (gwq (Z9a h111 hq wq h106 p1 r1 g1 d1 h76 p2 r2 g2) ?_)
  refine⟨by omega,⟨by decide,hR,by omega,by omega⟩,⟨by decide,hU⟩,by omega,?_⟩
  exact Z06.sameA
 ·have d1:decide ((R.length:Int)+((q:Int)+1)≤4096)=false:=decide_eq_false (by omega)
  have e:decide (R.length+q+1≤4096∧q≤U.count 0)=false:=decide_eq_false (fun h=>c h.1)
  rw [e]
  refine stt 22 [.tmp 4] fun X hP hΓ hL hfin=>?_; refine Z0G ?_
  refine Z02.drawnK [] smp (by kernel_rfl) (gyq (cj8 h111 hq wq h106 p1 r1 g1 d1) ?_)
  refine⟨by omega,⟨by decide,hR,by omega,by omega⟩,?_⟩
  refine Z50 1 ?_
  refine Z02.reg ?_
  refine Z04.ev 2 (Z1S ?_)
  refine Z04.skips 5 (Z1S ?_)
  refine Z04.ev 2 (Z1S ?_)
  refine Z04.nil ?_
  refine Z0G ?_
  exact Z06.sameA
theorem body121n(Γ:Env)(h106:Γ 106=some S106)(h111:Γ 111=some S111)(h76:Γ 76=some S76)(F:List Fl)(Lv U:List Int)(N:Nat)(R:List Wr)(hR:R.length≤4096)(hU:U.length≤1048576) :
  Z08 Tryz.prog Γ Tryz.f121 [.ref 0 0 0,.int .i64 (-1)] (Z0y F Lv U N R) (.bool (decide (R.length+1≤4096))) (Z0y F Lv U N R):=by
 have wq:IntKind.i64.wrap ((0:Int)+1)=1:=by decide
 have p0:=Zdn
 have r0:=Zcx
 have g0:=Ze1
 have ⟨p1,r1,g1⟩:=ks106 N R 1
 have ⟨p2,r2,g2⟩:=ks76 F Lv U N R
 unfold Z0y Z0P at *
 by_cases c:R.length+1≤4096
 ·have d1:decide ((R.length:Int)+1≤4096)=true:=decide_eq_true (by omega)
  have d2:decide ((0:Int)≤((U.count 0:Nat):Int))=true:=decide_eq_true (by omega)
  rw [decide_eq_true c]
  refine stt 22 [.tmp 4] fun X hP hΓ hL hfin=>?_; refine Z0G ?_
  refine Z02.drawnQ smp (by kernel_rfl) (gwq (Zk8 h111 p0 r0 g0 wq h106 p1 r1 g1 d1 h76 p2 r2 g2 d2) ?_)
  refine⟨⟨by decide,hR⟩,⟨by decide,hU⟩,?_⟩
  exact Z06.sameA
 ·have d1:decide ((R.length:Int)+1≤4096)=false:=decide_eq_false (by omega)
  rw [decide_eq_false c]
  refine stt 22 [.tmp 4] fun X hP hΓ hL hfin=>?_; refine Z0G ?_
  refine Z02.drawnK [] smp (by kernel_rfl) (gyq (Zkm h111 p0 r0 g0 wq h106 p1 r1 g1 d1) ?_)
  refine⟨⟨by decide,hR⟩,?_⟩
  refine Z50 1 ?_
  refine Z02.reg ?_
  refine Z04.ev 2 (Z1S ?_)
  refine Z04.skips 5 (Z1S ?_)
  refine Z04.ev 2 (Z1S ?_)
  refine Z04.nil ?_
  refine Z0G ?_
  exact Z06.sameA
theorem con121{Γ:Env}(h:Z07 Tryz.prog Γ)(h106:Γ 106=some S106)(h111:Γ 111=some S111)(h76:Γ 76=some S76):Con Tryz.prog 121 S121:=
 Z2g h (fn:=Tryz.f121) (by kernel_rfl) rfl (by kernel_rfl) inj121 fun x h=>match x,h with | .c0 F Lv U N R n,h=>body121 Γ h106 h111 h76 F Lv U N R n h.1 h.2.1 h.2.2 | .c1 F Lv U N R,h=>body121n Γ h106 h111 h76 F Lv U N R h.1 h.2
structure Ry where
 R:List Wr
 U:List Int
 now:List Int
 root:List UInt8
def ryK(L:List Fl)(N:Nat)(R:List Wr)(U:List Int):Nat→Ry
 | 0=>⟨R,U,[],leW markR++leW (lvN L.length)⟩
 | q+1=>⟨rwW N (ryK L N R U q).R (Z2e (ryK L N R U q).U 0) (padP (lfW (chk L q))),tkU (ryK L N R U q).U,(ryK L N R U q).now++[Z2e (ryK L N R U q).U 0],(ryK L N R U q).root++leW (Z2e (ryK L N R U q).U 0).toNat⟩
def ryE(L:List Fl)(N:Nat)(R:List Wr)(U:List Int):Ry:=ryK L N R U (lvN L.length)
def ryR(L:List Fl)(N:Nat)(R:List Wr)(U:List Int):List Wr:=rwW N (ryE L N R U).R 0 (padP (ryE L N R U).root)
def ryU(L:List Fl)(Lv:List Int)(N:Nat)(R:List Wr)(U:List Int):List Int:=(uGo 1 0 Lv (uGo 2 1 (ryE L N R U).now (ryE L N R U).U).1).1
theorem Z2J(N:Nat)(R:List Wr)(n:Int)(b:List UInt8)(h:R.length≤4096):(rwW N R n b).length≤4096:=by
 unfold rwW
 split
 ·rename_i h1
  unfold wrE at h1
  split at h1
  ·simp at h1
  ·split at h1
   ·simp at h1
   ·split at h1
    ·simp at h1
    ·rw [List.length_append]; simp only [List.length_singleton]; omega
 ·exact h
theorem Z2I(L:List Fl)(N:Nat)(R:List Wr)(U:List Int)(hR:R.length≤4096):∀q,q≤U.count 0→
  (ryK L N R U q).R.length≤4096∧(ryK L N R U q).U.length=U.length∧(ryK L N R U q).now.length=q∧(ryK L N R U q).root.length=8+4*q∧(ryK L N R U q).U.count 0+q=U.count 0
 | 0,_=>⟨hR,rfl,rfl,rfl,rfl⟩
 | q+1,h=>by
  obtain⟨h1,h2,h3,h4,h5⟩:=Z2I L N R U hR q (by omega)
  refine⟨Z2J _ _ _ _ h1,?_,?_,?_,?_⟩
  ·show (tkU _).length=_; rw [Z3N,h2]
  ·show (_++[_]).length=_; rw [List.length_append,h3]; rfl
  ·show (_++leW _).length=_; rw [List.length_append,h4,Z0O]; omega
  ·show (tkU _).count 0+_=_; have:=Z8i (ryK L N R U q).U (by omega); omega
def k122:List Fl×List Fl×List Int×List Int×Nat×List Wr→Ct:=fun (L,F,Lv,U,N,R)=>⟨([.ref 0 0 0,.sl (L.flatMap flC) L.length],Z0y F Lv U N R),(L.length≤200∧∀f∈L,Z1p f)∧lvN L.length≤U.count 0∧Lv.length≤1000∧U.length≤1048576∧R.length≤4096∧N≤1048576,.tup [],Z0y L (ryE L N R U).now (ryU L Lv N R U) N (ryR L N R U)⟩
theorem inj122:∀a b,(k122 a).a=(k122 b).a→a=b:=by
 rintro⟨L,F,Lv,U,N,R⟩ ⟨L',F',Lv',U',N',R'⟩ h
 simp only [k122,Z0g,Z0h,Z0k,Z0j,UInt8.toNat_inj,Z09,Z0c,Z0x,Z0o,Z1g,Z19,Z1L,Z0z,Z0E,Z0P,Z0I,Z0y,Z2R,Z4n,Z0A,List.cons.injEq] at h
 simp_all only
noncomputable def S122:Z0n:=Z0W true k122
theorem ks122(L F:List Fl)(Lv U:List Int)(N:Nat)(R:List Wr):KS k122 ([.ref 0 0 0,.sl (L.flatMap flC) L.length],Z0y F Lv U N R) ((L.length≤200∧∀f∈L,Z1p f)∧lvN L.length≤U.count 0∧Lv.length≤1000∧U.length≤1048576∧R.length≤4096∧N≤1048576) (.tup []) (Z0y L (ryE L N R U).now (ryU L Lv N R U) N (ryR L N R U)):=kat inj122 (L,F,Lv,U,N,R)
attribute [push_cast] S122 ks122
theorem body122(Γ:Env)(h71:Γ 71=some S71)(h99:Γ 99=some S99)(h103:Γ 103=some S103)(h107:Γ 107=some S107)(h108:Γ 108=some S108)(h111:Γ 111=some S111)(L F:List Fl)(Lv U:List Int)(N:Nat)(R:List Wr)
  (hL200:L.length≤200) (hfl:∀f∈L,Z1p f) (hfree:lvN L.length≤U.count 0) (hLv:Lv.length≤1000) (hU:U.length≤1048576) (hR:R.length≤4096) (hN:N≤1048576) :
  Z08 Tryz.prog Γ Tryz.f122 [.ref 0 0 0,.sl (L.flatMap flC) L.length] (Z0y F Lv U N R) (.tup []) (Z0y L (ryE L N R U).now (ryU L Lv N R U) N (ryR L N R U)):=by
 obtain⟨M,hM⟩:∃M,lvN L.length=M:=⟨_,rfl⟩
 have hM7:M≤7:=by rw [←hM]; unfold lvN; omega
 rw [hM] at hfree
 have hfin0:=Z2I L N R U hR M hfree
 have em:((markR:Nat):Int)=827475011:=rfl
 have ml:markR<4294967296:=by decide
 have ⟨p1,r1,g1⟩:=ks108 markR
 rw [em] at p1 r1 g1
 have wM:IntKind.u32.wrap (M:Int)=(M:Int):=Z5G _ (by omega)
 have l4:∀w,List.take 4 ((leW w).map Z05)=(leW w).map Z05:=fun w=>rfl
 unfold Z0y
 refine stt 120 [] fun X hP hΓ hL hfin=>?_; refine gxq (cj8 h108 p1 r1 g1 h111 hM wM l4) ?_
 refine⟨ml,by omega,by omega,rfl,?_⟩
 refine Z02.loopM (ι:={q:Nat // q≤M}) [tt,tt,ff,ff,ff,ff,ff,ff,ff,ff,ff,ff,ff,ff,ff,ff,ff,ff,ff,ff,ff,ff,ff,ff,ff,ff,ff,ff,ff,ff,ff,ff,ff,ff,ff,ff,ff,ff,ff,ff,ff,ff,ff,ff,ff,ff,ff,ff,ff,ff,ff,ff,ff,ff,ff,ff,ff,ff,ff,ff,ff,ff,ff,ff,ff,ff,ff,ff,ff,ff,ff,ff,ff,ff,ff,ff,ff,ff,ff,ff,ff,ff,ff,ff,ff,ff,ff,ff,ff,ff,ff,ff,ff,ff,ff,ff,ff,ff,ff,ff,ff,ff,ff,ff,ff,ff,ff,ff,ff,ff,ff,ff,ff,ff,ff,ff,ff,ff,ff,ff] (fun i=>[(4,.msl 5 i.1 0 i.1),(5,.msl 4 (1+i.1) 0 (8+4*i.1)),(6,.int .i64 i.1)]) (fun i=>[.row [.ref 1 0 0,.sl (F.flatMap flC) F.length,.sl (Lv.map (AV.int .i64)) Lv.length,.msl 2 0 0 U.length] 4 0,.row [.sl ((noN N).map AV.str) N,.msl 3 (ryK L N R U i.1).R.length 0 (ryK L N R U i.1).R.length] 2 0,.row ((ryK L N R U i.1).U.map (AV.int .i64)) 1 0,.row ((ryK L N R U i.1).R.flatMap wrR) 2 (ryK L N R U i.1).R.length,.row ((ryK L N R U i.1).root.map Z05) 1 (1+i.1),.row ((ryK L N R U i.1).now.map (AV.int .i64)) 1 i.1]) (fun i=>M - i.1) ⟨0,Nat.zero_le _⟩ ?_ ?_
 ·rw [hL]
  have k0:ryK L N R U 0=⟨R,U,[],leW markR++leW (lvN L.length)⟩:=rfl
  refine Z0q.nil 4  1 rfl (gsq ?_)
  simp only [push_cast,k0,hM,List.map_append,List.map_nil,Nat.mul_zero,Nat.add_zero]
  exact Z0q.base [0,1,2,3,4,6] ⟨sml,smr,(by decide),(by first | rfl | decide),sm,sm⟩ smd
 rintro⟨q,hqM⟩
 dsimp only
 obtain⟨f1,f2,f3,f4,f5⟩:=Z2I L N R U hR q (by omega)
 by_cases hq:q<M
 case neg=>
  obtain rfl:q=M:=by omega
  have dq:decide ((q:Int)<(q:Int))=false:=decide_eq_false (by omega)
  have hrt:(ryK L N R U q).root.length≤1024:=by omega
  have hpl:(padP (ryK L N R U q).root).length=1024:=Z29 hrt
  have eE:ryE L N R U=ryK L N R U q:=by unfold ryE; rw [hM]
  have eU:ryU L Lv N R U=(uGo 1 0 Lv (uGo 2 1 (ryK L N R U q).now (ryK L N R U q).U).1).1:=by unfold ryU; rw [eE]
  have eR:ryR L N R U=rwW N (ryK L N R U q).R 0 (padP (ryK L N R U q).root):=by unfold ryR; rw [eE]
  have lU1:=Z1V 2 1 (ryK L N R U q).now (ryK L N R U q).U
  have lU2:=Z1V 1 0 Lv (uGo 2 1 (ryK L N R U q).now (ryK L N R U q).U).1
  rw [eE,eU,eR] at hfin
  rw [lU2,lU1,f2,f3] at hfin
  generalize ryK L N R U q=K at *
  obtain⟨Rq,Uq,now,root⟩:=K
  dsimp only at *
  have p2:=Z7I N Rq 0 (padP root) 0
  have r2:=Z7D N Rq 0 (padP root) 0
  have g2:=Z7W N Rq 0 (padP root) 0
  have ⟨p3,r3,g3⟩:=ks107 root
  rw [hpl] at p2 r2 g2
  rw [f4] at p3 r3 g3
  have tb:List.take root.length (List.map Z05 root)=List.map Z05 root:=List.take_of_length_le (by rw [List.length_map]; exact Nat.le_refl _)
  rw [f4] at tb
  generalize rwW N Rq 0 (padP root)=R2 at *
  have p4:=Z6b F Lv Uq N R2 now 2 1
  have r4:=Z65 F Lv Uq N R2 now 2 1
  have g4:=Z6r F Lv Uq N R2 now 2 1
  generalize (uGo 2 1 now Uq).1=U2 at *
  have p5:=Z6b F Lv U2 N R2 Lv 1 0
  have r5:=Z65 F Lv U2 N R2 Lv 1 0
  have g5:=Z6r F Lv U2 N R2 Lv 1 0
  generalize (uGo 1 0 Lv U2).1=U3 at *
  unfold Z4n at p2 r2 g2
  unfold Z0y at p4 r4 g4 p5 r5 g5
  rw [f3] at p4 r4 g4
  rw [lU1] at g4 p5 r5
  rw [lU2,lU1] at g5
  rw [f2] at p4 r4 g4 p5 r5 g5
  refine gxq (cj3 dq h111 hM) ?_
  refine⟨by omega,?_⟩
  (refine Z02.dE (Z1s [.fix (.row [.ref 1 0 0,.sl (F.flatMap flC) F.length,.sl (Lv.map (AV.int .i64)) Lv.length,.msl 2 0 0 U.length] 4 0),.any,.any,.any,.any,.any]) [4,5,6] [] [] true (gyq (cj9 h107 p3 r3 g3 tb h103 p2 r2 g2) ?_))
  refine⟨by omega,⟨by decide,f1,hN⟩,?_⟩
  have tn:List.take q (List.map (AV.int .i64) now)=List.map (AV.int .i64) now:=List.take_of_length_le (by rw [List.length_map]; omega)
  refine Z02.frz 5 (by rw [hL]; simp) smf (gsq ?_)
  rw [tn]
  refine gxq (cj7 h99 p4 r4 g4 p5 r5 g5) ?_
  refine⟨⟨by decide,by omega,by omega⟩,⟨by decide,by omega,by omega⟩,?_⟩
  exact Z06.keep4A
 have dq:decide ((q:Int)<(M:Int))=true:=decide_eq_true (by omega)
 have wq:IntKind.i64.wrap ((q:Int)+1)=(q:Int)+1:=wrq
 have hstep:ryK L N R U (q+1)=⟨rwW N (ryK L N R U q).R (Z2e (ryK L N R U q).U 0) (padP (lfW (chk L q))),tkU (ryK L N R U q).U,(ryK L N R U q).now++[Z2e (ryK L N R U q).U 0],(ryK L N R U q).root++leW (Z2e (ryK L N R U q).U 0).toNat⟩:=rfl
 have hm0:(0:Int)∈(ryK L N R U q).U:=List.count_pos_iff.1 (by omega)
 obtain⟨a,ha,haU,_⟩:=Z2x hm0
 rw [ha] at hstep
 have htk:tkR (ryK L N R U q).U=.tup [.int .i64 (a:Nat),.int .i64 0]:=by unfold tkR; rw [ha,if_neg (by omega)]
 obtain⟨P,hP'⟩:∃P,chk L q=P:=⟨_,rfl⟩
 have hPl:P.length=min 31 (L.length - 31*q):=by rw [←hP']; exact Z5p L q
 have hPf:∀f∈P,Z1p f:=fun f hf=>hfl f (Z89 (hP'▸hf))
 rw [hP'] at hstep
 generalize ryK L N R U q=K at *
 obtain⟨Rq,Uq,now,root⟩:=K
 dsimp only at *
 have ⟨p7,r7,g7⟩:=ks71 F Lv Uq N Rq
 have tkl:=Z3N Uq
 rw [htk] at r7
 unfold Z0y at p7 r7 g7
 rw [tkl] at g7
 rw [f2] at p7 r7 g7
 have wa:IntKind.u32.wrap (a:Int)=(a:Int):=Z5G _ (by omega)
 have e4q:8+4*q=root.length:=f4.symm
 obtain⟨mk,hmk⟩:∃mk:Nat,mk=827081795:=⟨_,rfl⟩
 have emk:((mk:Nat):Int)=827081795:=by omega
 have ⟨p8,r8,g8⟩:=ks108 mk
 rw [emk] at p8 r8 g8
 obtain⟨o,ho⟩:∃o:Nat,o=31*q:=⟨_,rfl⟩
 have w31:IntKind.i64.wrap ((q:Int)*31)=(o:Int):=by rw [show (q:Int)*31=(o:Int) by omega]; exact Z0t _ (by constructor <;> omega)
 have wlo:min 31 (IntKind.i64.wrap ((L.length:Int) - (o:Int)))=((P.length:Nat):Int):=by
  rw [Z0t _ (by constructor <;> omega),hPl]
  have:31*q≤L.length:=by
   have:q<lvN L.length:=by omega
   unfold lvN at this
   omega
  omega
 have wP:IntKind.u32.wrap ((P.length:Nat):Int)=((P.length:Nat):Int):=Z5G _ (by omega)
 refine gxq (ZmF h111 hM dq h71 p7 r7 g7 f2 h108 wa l4 p8 r8 g8 w31 wlo wP) ?_
 refine⟨by omega,⟨by decide,hU⟩,⟨f3,by omega⟩,by omega,⟨f4,by omega⟩,by omega,by omega,rfl,?_⟩
 have pg0:(pgK P 0).map Z05=(leW mk).map Z05++(leW P.length).map Z05:=by rw [hmk]; unfold pgK; rw [List.take_zero,List.flatMap_nil,List.append_nil,List.map_append]
 have pgl:=fun k hk=>Z9F P hPf k hk
 clear p7 r7 g7 p8 r8 g8 p1 r1 g1
 refine Z02.loopM (ι:={k:Nat // k≤P.length}) [tt,tt,ff,ff,tt,tt,tt,tt,ff,tt,ff,ff,ff,ff,ff,ff,ff,ff,ff,ff,ff,ff,ff,ff,ff,ff,ff,ff,ff,ff,ff,ff,ff,ff,ff,ff,ff,ff,ff,ff,ff,ff,ff,ff,ff,ff,ff,ff,ff,ff,ff,ff,ff,ff,ff,ff,ff,ff,ff,ff,ff,ff,ff,ff,ff,ff,ff,ff,ff,ff,ff,ff,ff,ff,ff,ff,ff,ff,ff,ff,ff,ff,ff,ff,ff,ff,ff,ff,ff,ff,ff,ff,ff,ff,ff,ff,ff,ff,ff,ff,ff,ff,ff,ff,ff,ff,ff,ff,ff,ff,ff,ff,ff,ff,ff,ff,ff,ff,ff,ff] (fun i=>[(4,.msl 5 (q+1) 0 (q+1)),(5,.msl 4 (1+q+1) 0 (8+4*q+4)),(6,.int .i64 q),(7,.int .i64 a),(9,.int .i64 P.length),(10,.msl 6 (1+3*i.1) 0 (pgK P i.1).length),(11,.int .i64 i.1)]) (fun i=>[.row [.ref 1 0 0,.sl (F.flatMap flC) F.length,.sl (Lv.map (AV.int .i64)) Lv.length,.msl 2 0 0 U.length] 4 0,.row [.sl ((noN N).map AV.str) N,.msl 3 Rq.length 0 Rq.length] 2 0,.row ((tkU Uq).map (AV.int .i64)) 1 0,.row (Rq.flatMap wrR) 2 Rq.length,.row (root.map Z05++(leW a).map Z05) 1 (1+q+1),.row (now.map (AV.int .i64)++[.int .i64 a]) 1 (q+1),.row ((pgK P i.1).map Z05) 1 (1+3*i.1)]) (fun i=>P.length - i.1) ⟨0,Nat.zero_le _⟩ ?_ ?_
 ·rw [hL]
  have pz:(pgK P 0).length=8:=pgl 0 (Nat.zero_le _)
  simp only [push_cast,pz,pg0,Nat.mul_zero,Nat.add_zero]
  exact Z0q.base [0,1,2,3,4,5,7] ⟨sml,smr,(by decide),(by first | rfl | decide),sm,sm⟩ smd
 rintro⟨k,hkP⟩
 dsimp only
 by_cases hk:k<P.length
 case neg=>
  obtain rfl:k=P.length:=by omega
  have dk:decide ((P.length:Int)<(P.length:Int))=false:=decide_eq_false (by omega)
  have hlf:=Z9M P hPf
  have hlf2:(lfW P).length≤1024:=by omega
  rw [Zdr]
  have hpl:(padP (lfW P)).length=1024:=Z29 hlf2
  have p2:=Z7I N Rq (a:Int) (padP (lfW P)) 0
  have r2:=Z7D N Rq (a:Int) (padP (lfW P)) 0
  have g2:=Z7W N Rq (a:Int) (padP (lfW P)) 0
  have ⟨p3,r3,g3⟩:=ks107 (lfW P)
  rw [hpl] at p2 r2 g2
  have tb:List.take (lfW P).length (List.map Z05 (lfW P))=List.map Z05 (lfW P):=List.take_of_length_le (by rw [List.length_map]; exact Nat.le_refl _)
  rw [Int.toNat_natCast] at hstep
  have hle:=Z2J N Rq (a:Int) (padP (lfW P)) f1
  generalize rwW N Rq (a:Int) (padP (lfW P))=R2 at *
  unfold Z4n at p2 r2 g2
  refine gxq dk ?_
  (refine Z02.dE (Z1s [.fix (.row [.ref 1 0 0,.sl (F.flatMap flC) F.length,.sl (Lv.map (AV.int .i64)) Lv.length,.msl 2 0 0 U.length] 4 0),.any,.any,.any,.any,.any,.any]) [5,6,7] [] [] true (gyq (cj9 h107 p3 r3 g3 tb h103 p2 r2 g2) ?_))
  refine⟨hlf2,⟨by decide,f1,hN⟩,?_⟩
  refine gxq wq ?_
  refine⟨⟨q+1,by omega⟩,by simp only; omega,?_⟩
  dsimp only
  rw [hstep]
  dsimp only
  simp only [push_cast,List.map_append,List.map_cons,List.map_nil]
  rw [show 1+q+1=1+(q+1) by omega,show 8+4*q+4=8+4*(q+1) by omega]
  exact Z06.keep6A
 have dk:decide ((k:Int)<(P.length:Int))=true:=decide_eq_true (by omega)
 have wk:IntKind.i64.wrap ((k:Int)+1)=(k:Int)+1:=wrq
 obtain⟨j,hj⟩:∃j:Nat,j=o+k:=⟨_,rfl⟩
 have wj:IntKind.i64.wrap ((o:Int)+(k:Int))=(j:Int):=by rw [show (o:Int)+(k:Int)=(j:Int) by omega]; exact Z0t _ (by constructor <;> omega)
 have hjL:j<L.length:=by omega
 have hfe:L.getD j default=P.getD k default:=by
  rw [←hP']
  unfold chk
  rw [List.getD_eq_getElem?_getD,List.getD_eq_getElem?_getD,List.getElem?_take_of_lt (by omega),List.getElem?_drop]
  congr 2
  omega
 have hstep2:=ZaI P k hk
 have hf:=hPf _ (show P.getD k default∈P by rw [List.getD_eq_getElem?_getD,List.getElem?_eq_getElem hk]; exact List.getElem_mem hk)
 generalize hfd:P.getD k default=f at *
 refine gnq 8 (cj3 dk w31 wj) ?_
 have t3:List.take 3 (List.drop (j*4) (List.flatMap flC L))=[AV.str f.nm,AV.int .i64 f.hd,AV.int .i64 f.ln]:=by
  rw [Z1d (n:=4),List.drop_eq_getElem_cons hjL,List.flatMap_cons]
  have:L[j]=f:=by rw [←hfe,List.getD_eq_getElem?_getD,List.getElem?_eq_getElem hjL]; rfl
  rw [this]; rfl
 have m3:min 3 (L.length*4 - j*4)=3:=by omega
 obtain⟨z24,hz24⟩:∃z:List UInt8,z=List.replicate 24 0:=⟨_,rfl⟩
 have zl:z24.length=24:=by rw [hz24]; exact List.length_replicate
 have zr:(List.replicate (Int.toNat 24) [AV.int IntKind.u8 0]).flatten=z24.map Z05:=by rw [hz24]; exact Z4I 24
 have t24:Int.toNat 24=24:=rfl
 have n24:f.nm.length≤24:=by have:=hf.1; omega
 obtain⟨nmz,hnz⟩:∃z:List UInt8,z=f.nm++List.replicate (24 - f.nm.length) 0:=⟨_,rfl⟩
 have nzl:nmz.length=24:=by rw [hnz,List.length_append,List.length_replicate]; omega
 have c1:List.take (min f.nm.length (Int.toNat 24)) (List.map Z05 f.nm)=List.map Z05 f.nm:=List.take_of_length_le (by rw [t24,List.length_map]; omega)
 have c2:min (min f.nm.length (Int.toNat 24)) f.nm.length=f.nm.length:=by rw [t24]; omega
 have c3:List.map Z05 f.nm++List.drop f.nm.length (List.map Z05 z24)=List.map Z05 nmz:=by
  rw [hnz,hz24,List.map_append,←List.map_drop,List.drop_replicate]
 refine gnq 6 (cj5 w31 wj t3 m3 zr) ?_
 rw [c1,c2,c3,t24,zl]
 refine⟨by omega,by omega,by omega,⟨Z4y _,Nat.le_refl _⟩,?_⟩
 have hh:f.hd.toNat<4294967296:=by have:=hf.2.1; omega
 have hl':f.ln.toNat<4294967296:=by have:=hf.2.2; omega
 have wh:IntKind.u32.wrap f.hd=((f.hd.toNat:Nat):Int):=by rw [Z5G _ hf.2.1]; have:=hf.2.1; omega
 have wl:IntKind.u32.wrap f.ln=((f.ln.toNat:Nat):Int):=by rw [Z5G _ ⟨hf.2.2.1,hf.2.2.2⟩]; have:=hf.2.2; omega
 have t24b:List.take 24 (List.map Z05 nmz)=List.map Z05 nmz:=List.take_of_length_le (by rw [List.length_map,nzl]; exact Nat.le_refl _)
 refine gxq (cj6 h108 l4 wh wl t24b wk) ?_
 have pk1:=pgl k hkP
 have pk2:=pgl (k+1) hk
 have er:List.map Z05 (pgK P k)++List.map Z05 nmz++List.map Z05 (leW f.hd.toNat)++List.map Z05 (leW f.ln.toNat)=List.map Z05 (pgK P (k+1)):=by
  rw [hstep2,hnz]; simp only [List.map_append,List.append_assoc]
 have el:(pgK P k).length+24+4+4=(pgK P (k+1)).length:=by omega
 have ev:1+3*k+1+1+1=1+3*(k+1):=by omega
 rw [er,el,ev]
 refine⟨by omega,hh,⟨by omega,by omega⟩,hl',⟨by rw [Z0O]; omega,by omega⟩,⟨k+1,hk⟩,by simp only; omega,?_⟩
 exact Z06.keep7A
theorem con122{Γ:Env}(h:Z07 Tryz.prog Γ)(h71:Γ 71=some S71)(h99:Γ 99=some S99)(h103:Γ 103=some S103)(h107:Γ 107=some S107)(h108:Γ 108=some S108)(h111:Γ 111=some S111):Con Tryz.prog 122 S122:=
 kcn h (fn:=Tryz.f122) inj122 fun ⟨L,F,Lv,U,N,R⟩ ⟨⟨h1,h1'⟩,h2,h3,h4,h5,h6⟩=>body122 Γ h71 h99 h103 h107 h108 h111 L F Lv U N R h1 h1' h2 h3 h4 h5 h6
end Go.Proofs.YtbnnhffkbcekcaaGreatDoor.dirDone
end
