/- Parts of the walk through directories. Conditions stand in each. -/
import Derived.Test.YtbnnhffkbcekcaaGreatDoorGl
import Derived.Test.YtbnnhffkbcekcaaGreatDoorFg
import Derived.Test.YtbnnhffkbcekcaaGreatDoorGm
set_option linter.unusedVariables false
set_option linter.unusedSimpArgs false
set_option maxRecDepth 100000
set_option maxHeartbeats 4000000
section
namespace Go.Proofs.YtbnnhffkbcekcaaGreatDoor.dirDone
open Go Go.Eng Go.Proofs Go.Lib
def bK(F:List Fl)(Lv U:List Int)(S:List Sec)(W:List Wr)(N:Nat)(R:List Wr):Z01:=[.row [.ref 1 0 0,.ref 2 0 0,.ref 3 0 0,.ref 4 0 0] 4 0,
 .row [.msl 5 0 0 S.length,.msl 6 W.length 0 W.length] 2 0,
 .row [.ref 1 0 0,.sl (F.flatMap flC) F.length,.msl 7 Lv.length 0 Lv.length,.msl 8 0 0 U.length] 4 0,
 .row [.sl ((noN N).map AV.str) N,.msl 9 R.length 0 R.length] 2 0,
 .row [.ref 3 0 0,.sl (F.flatMap flC) F.length,.sl (Lv.map (AV.int .i64)) Lv.length,.msl 10 0 0 U.length] 4 0,
 .row (S.flatMap Z1T) 1024 0,.row (W.flatMap wrC) 1025 W.length,.row (Lv.map (AV.int .i64)) 1 Lv.length,.row (U.map (AV.int .i64)) 1 0,.row (R.flatMap wrR) 2 R.length,.row (U.map (AV.int .i64)) 1 0]
def bH(N:Nat)(s:St):Z01:=bK s.F s.Lv s.U (sOf N s.R) (wOf N s.R) N s.R
theorem Z4g(N:Nat)(R:List Wr):ZlP (sOf N R) (wOf N R)=sOf N (fmtR N R)∧ZlO (sOf N R) (wOf N R)=wOf N (fmtR N R):=(Z5d N R 0 _).2
def e25:Unit→List AV×Z01:=fun _=>([],[])
def p25:Unit→Prop:=fun _=>True
def r25:Unit→AV:=fun _=>.bool true
def g25:Unit→Z01:=fun _=>[]
theorem inj25:∀a b,e25 a=e25 b→a=b:=fun _ _ _=>rfl
noncomputable def S25:Z0n:=Z7X true e25 p25 r25 g25
theorem ps25:Z1Y e25 p25 ([],[])=(True):=Z0J inj25 p25 ()
theorem rs25:Z0U e25 r25 .any ([],[])=(.bool true):=Z0d inj25 r25 .any ()
theorem hs25:Z0U e25 g25 [] ([],[])=([]):=Z0d inj25 g25 [] ()
attribute [push_cast] S25 ps25 rs25 hs25
theorem body25(Γ:Env)(h49:Γ 49=some S49)(h37:Γ 37=some S37)(h18:Γ 18=some S18)(h19:Γ 19=some S19):Z08 Tryz.prog Γ Tryz.f25 [] [] (.bool true) []:=by
 have ⟨p1,r1,g1⟩:=ks49 16
 rw [if_pos (by decide)] at r1 g1
 obtain⟨R0,hR0⟩:∃R0:List Wr,R0=[]:=⟨_,rfl⟩
 have e0:Zi8 16=sOf 16 R0:=by rw [hR0]; rfl
 have e1:Z0o (Zi8 16) []=Z0o (sOf 16 R0) (wOf 16 R0):=by rw [hR0]; rfl
 rw [e1] at g1
 have hR0l:R0.length=0:=by rw [hR0]; rfl
 have hl0:(wOf 16 R0).length=0:=(Z0F 16 R0).trans hR0l
 have p2:=ZaH (sOf 16 R0) (wOf 16 R0)
 have r2:=Zar (sOf 16 R0) (wOf 16 R0)
 have g2:=ZaX (sOf 16 R0) (wOf 16 R0)
 rw [if_pos (by omega)] at r2 g2
 rw [(Z4g 16 R0).1,(Z4g 16 R0).2] at g2
 have hS0:=Z0r 16 R0
 have hS1:=Z0r 16 (fmtR 16 R0)
 have ho:=Z7L (N:=16) (R:=R0) (by decide) (by omega)
 have h2:(opn (sOf 16 (fmtR 16 R0))).2=true:=by rw [ho]
 have hc:(opn (sOf 16 (fmtR 16 R0))).1.U.count 0=15:=by rw [ho]; decide
 have hU:(opn (sOf 16 (fmtR 16 R0))).1.U.length=16:=by rw [ho]; rfl
 have p3:=Z72 (sOf 16 (fmtR 16 R0)) (wOf 16 (fmtR 16 R0))
 have r3:=Z6T (sOf 16 (fmtR 16 R0)) (wOf 16 (fmtR 16 R0))
 have g3:=Z7d (sOf 16 (fmtR 16 R0)) (wOf 16 (fmtR 16 R0))
 rw [if_pos h2] at r3 g3
 clear ho h2 e0 e1
 generalize sOf 16 (fmtR 16 R0)=S at *
 generalize wOf 16 (fmtR 16 R0)=W at *
 generalize sOf 16 R0=S0 at *
 generalize wOf 16 R0=W0 at *
 generalize (opn S).1=d at *
 obtain⟨F,Lv,U⟩:=d
 dsimp only at *
 have ⟨p4,r4,g4⟩:=ks19 F Lv U S W
 rw [hc,show ((15:Nat):Int)=15 from rfl] at r4
 unfold Z1L at *
 unfold Z0z at *
 unfold Z0o at *
 refine stt 32 [.tmp 0] fun X hP hΓ hL hfin=>?_; refine gxq (Zk7 h49 h37 h18 h19 p1 r1 g1 p2 r2 g2 p3 r3 g3 p4 r4 g4) ?_
 refine⟨⟨by decide,by omega,by omega⟩,⟨by decide,by omega,by omega⟩,⟨by decide,by omega⟩,?_⟩
 exact Z06.one rfl rfl
theorem con25{Γ:Env}(h:Z07 Tryz.prog Γ)(h49:Γ 49=some S49)(h37:Γ 37=some S37)(h18:Γ 18=some S18)(h19:Γ 19=some S19):Con Tryz.prog 25 S25:=
 Z2g h (fn:=Tryz.f25) (by kernel_rfl) rfl (by kernel_rfl) inj25 fun _ _=>body25 Γ h49 h37 h18 h19
def st0(N:Nat):St:=opS N (fmtR N [])
def madeN(n:Int):Nat:=if 8≤n∧n≤400 then n.toNat else 24
theorem Zhe(n:Int):8≤madeN n∧madeN n≤400:=by unfold madeN; split <;> omega
theorem Z9H{N:Nat}{R:List Wr}(hN:N≤1024)(h:(opn (sOf N R)).2=true):(opR (sOf N R)).2=true∧(opR (sOf N R)).1=(opn (sOf N R)).1:=by
 obtain⟨h1,h2⟩:=Zdu (sOf N R) (by rw [Z0r]; exact hN)
 exact⟨h1.trans h,h2 h⟩
def k26:Int→Ct:=fun n=>⟨([.int .i64 n],[]),True,.ref 0 0 0,bH (madeN n) (st0 (madeN n))⟩
theorem inj26:∀a b,(k26 a).a=(k26 b).a→a=b:=by
 rintro n n' h
 simp only [k26,Z0g,Z0h,Z0k,Z0j,UInt8.toNat_inj,Z09,Z0c,Z0x,Z0o,Z1g,Z19,Z1L,Z0z,Z0E,Z0P,Z0I,Z0y,Z2R,Z4n,bK,Z0A,List.cons.injEq] at h
 simp_all only
noncomputable def S26:Z0n:=Z0W true k26
theorem ks26(n:Int):KS k26 ([.int .i64 n],[]) (True) (.ref 0 0 0) (bH (madeN n) (st0 (madeN n))):=kat inj26 n
attribute [push_cast] S26 ks26
theorem body26(Γ:Env)(h49:Γ 49=some S49)(h37:Γ 37=some S37)(h18:Γ 18=some S18)(h51:Γ 51=some S51)(h52:Γ 52=some S52)(h43:Γ 43=some S43)(n:Int):Z08 Tryz.prog Γ Tryz.f26 [.int .i64 n] [] (.ref 0 0 0) (bH (madeN n) (st0 (madeN n))):=by
 obtain⟨hN1,hN2⟩:=Zhe n
 have hn:∃b:Bool,b=(decide (n<8) || decide ((400:Int)<n))∧(b=true→madeN n=24)∧(b=false→(madeN n:Int)=n):=by
  refine⟨_,rfl,fun h=>?_,fun h=>?_⟩
  ·simp only [Bool.or_eq_true,decide_eq_true_eq] at h
   unfold madeN; rw [if_neg (by omega)]
  ·simp only [Bool.or_eq_false_iff,decide_eq_false_iff_not] at h
   unfold madeN; rw [if_pos (by omega)]; omega
 obtain⟨b,hb,hb1,hb2⟩:=hn
 generalize madeN n=N at *
 obtain⟨m,hm⟩:∃m:Int,m=N:=⟨_,rfl⟩
 obtain⟨R0,hR0⟩:∃R0:List Wr,R0=[]:=⟨_,rfl⟩
 have hRl:R0.length=0:=by rw [hR0]; rfl
 have ⟨p1,r1,g1⟩:=ks49 m
 rw [if_pos (by omega)] at r1 g1
 have e1:Z0o (Zi8 m) []=Z0o (sOf N R0) (wOf N R0):=by rw [hR0,hm]; rfl
 rw [e1] at g1
 have ⟨p5,r5,g5⟩:=ks51 m
 rw [if_pos (by omega)] at r5 g5
 rw [show m.toNat=N by omega,←hR0] at g5
 have hl0:(wOf N R0).length=0:=(Z0F N R0).trans hRl
 have p2:=ZaH (sOf N R0) (wOf N R0)
 have r2:=Zar (sOf N R0) (wOf N R0)
 have g2:=ZaX (sOf N R0) (wOf N R0)
 rw [if_pos (by omega)] at r2 g2
 rw [(Z4g N R0).1,(Z4g N R0).2] at g2
 have ⟨p6,r6,g6⟩:=ks52 N R0
 rw [if_pos (by omega)] at r6 g6
 have hS0:=Z0r N R0
 have hS1:=Z0r N (fmtR N R0)
 have ho:=Z7L (N:=N) (R:=R0) (by omega) (by omega)
 have h2:(opn (sOf N (fmtR N R0))).2=true:=by rw [ho]
 obtain⟨k1,k2⟩:=Z9H (by omega) h2
 have hR1:(fmtR N R0).length≤4096:=Z2J _ _ _ _ (by omega)
 have p3:=Z72 (sOf N (fmtR N R0)) (wOf N (fmtR N R0))
 have r3:=Z6T (sOf N (fmtR N R0)) (wOf N (fmtR N R0))
 have g3:=Z7d (sOf N (fmtR N R0)) (wOf N (fmtR N R0))
 rw [if_pos h2] at r3 g3
 have ⟨p7,r7,g7⟩:=ks43 N (fmtR N R0)
 rw [if_pos k1] at r7 g7
 rw [k2] at g7
 unfold st0 bH opS
 dsimp only
 clear ho h2 k1 k2
 rw [←hR0]
 clear e1 hR0
 generalize wOf N (fmtR N R0)=W at *
 generalize (opn (sOf N (fmtR N R0))).1=d at *
 generalize sOf N (fmtR N R0)=S at *
 generalize fmtR N R0=R1 at *
 generalize sOf N R0=S0 at *
 generalize wOf N R0=W0 at *
 obtain⟨F,Lv,U⟩:=d
 dsimp only at *
 unfold bK
 unfold Z1L Zk3 at *
 unfold Z0o Z0P at *
 cases b with
 | true=>
  obtain rfl:=hb1 rfl
  obtain rfl:m=24:=hm
  refine stt 61 [.tmp 2] fun X hP hΓ hL hfin=>?_; refine gxq (cj25 hb.symm h49 h37 h18 h51 h52 h43 p1 r1 g1 p2 r2 g2 p3 r3 g3 p5 r5 g5 p6 r6 g6 p7 r7 g7) ?_
  refine⟨rfl,⟨by decide,by omega,by omega⟩,⟨by decide,by omega⟩,⟨by decide,by omega,by omega⟩,⟨by decide,by omega⟩,?_⟩
  exact Z0q.base [0,1,7,4,10,2,3,8,6,5,9] ⟨sml,smr,(by decide),(by first | rfl | decide),sm,sm⟩ smd
 | false=>
  obtain rfl:m=n:=hm.trans (hb2 rfl)
  refine stt 61 [.tmp 2] fun X hP hΓ hL hfin=>?_; refine gxq (cj25 hb.symm h49 h37 h18 h51 h52 h43 p1 r1 g1 p2 r2 g2 p3 r3 g3 p5 r5 g5 p6 r6 g6 p7 r7 g7) ?_
  refine⟨rfl,⟨by decide,by omega,by omega⟩,⟨by decide,by omega,by omega,by omega⟩,⟨by decide,by omega,by omega⟩,⟨by decide,by omega,by omega,by omega⟩,?_⟩
  exact Z0q.base [0,1,7,4,10,2,3,8,6,5,9] ⟨sml,smr,(by decide),(by first | rfl | decide),sm,sm⟩ smd
theorem con26{Γ:Env}(h:Z07 Tryz.prog Γ)(h49:Γ 49=some S49)(h37:Γ 37=some S37)(h18:Γ 18=some S18)(h51:Γ 51=some S51)(h52:Γ 52=some S52)(h43:Γ 43=some S43):Con Tryz.prog 26 S26:=
 kcn h (fn:=Tryz.f26) inj26 fun n _=>body26 Γ h49 h37 h18 h51 h52 h43 n
def k119:List Fl×List Int×List Int×Nat×List Wr×Int×List UInt8→Ct:=fun (F,Lv,U,N,R,n,b)=>⟨([.ref 0 0 0,.int .i64 n,.sl (b.map Z05) b.length],bK F Lv U (sOf N R) (wOf N R) N R),R.length≤4096∧N≤4096,.tup [],bK F Lv U (sOf N (rwW N R n b)) (wOf N (rwW N R n b)) N (rwW N R n b)⟩
theorem inj119:∀a b,(k119 a).a=(k119 b).a→a=b:=by
 rintro⟨F,Lv,U,N,R,n,b⟩ ⟨F',Lv',U',N',R',n',b'⟩ h
 simp only [k119,Z0g,Z0h,Z0k,Z0j,UInt8.toNat_inj,Z09,Z0c,Z0x,Z0o,Z1g,Z19,Z1L,Z0z,Z0E,Z0P,Z0I,Z0y,Z2R,Z4n,bK,Z0A,List.cons.injEq] at h
 simp_all only
noncomputable def S119:Z0n:=Z0W true k119
theorem ks119(F:List Fl)(Lv U:List Int)(N:Nat)(R:List Wr)(n:Int)(b:List UInt8):KS k119 ([.ref 0 0 0,.int .i64 n,.sl (b.map Z05) b.length],bK F Lv U (sOf N R) (wOf N R) N R) (R.length≤4096∧N≤4096) (.tup []) (bK F Lv U (sOf N (rwW N R n b)) (wOf N (rwW N R n b)) N (rwW N R n b)):=kat inj119 (F,Lv,U,N,R,n,b)
attribute [push_cast] S119 ks119
theorem body119(Γ:Env)(h61:Γ 61=some S61)(h103:Γ 103=some S103)(F:List Fl)(Lv U:List Int)(N:Nat)(R:List Wr)(n:Int)(b:List UInt8)(hR:R.length≤4096)(hN:N≤4096) :
  Z08 Tryz.prog Γ Tryz.f119 [.ref 0 0 0,.int .i64 n,.sl (b.map Z05) b.length] (bK F Lv U (sOf N R) (wOf N R) N R) (.tup []) (bK F Lv U (sOf N (rwW N R n b)) (wOf N (rwW N R n b)) N (rwW N R n b)):=by
 have ⟨p1,r1,g1⟩:=ks61 (sOf N R) (wOf N R) n b
 have p2:=Zdo N R n b
 have r2:=Zcy N R n b
 have g2:=Ze2 N R n b
 obtain⟨_,e1,e2⟩:=Z5d N R n b
 rw [e1,e2] at g1
 have hS:=Z0r N R
 have hW:=Z0F N R
 have hS':=Z0r N (rwW N R n b)
 generalize sOf N (rwW N R n b)=S' at *
 generalize wOf N (rwW N R n b)=W' at *
 generalize rwW N R n b=R' at *
 clear e1 e2
 generalize wrE (sOf N R) (wOf N R) n b=x1 at *
 generalize wrE (sOf N R) R n b=x2 at *
 generalize sOf N R=S at *
 generalize wOf N R=W at *
 unfold Z0o at *
 unfold Z0P at *
 unfold bK
 refine stt 20 [] fun X hP hΓ hL hfin=>?_; refine gxq (cj8 h61 p1 r1 g1 h103 p2 r2 g2) ?_
 refine⟨⟨by decide,by omega,by omega⟩,⟨by decide,hR,by omega⟩,?_⟩
 exact Z06.sameA
theorem con119{Γ:Env}(h:Z07 Tryz.prog Γ)(h61:Γ 61=some S61)(h103:Γ 103=some S103):Con Tryz.prog 119 S119:=
 kcn h (fn:=Tryz.f119) inj119 fun ⟨F,Lv,U,N,R,n,b⟩ h=>body119 Γ h61 h103 F Lv U N R n b h.1 h.2
def Z9C(b:List UInt8)(i w k:Nat):List UInt8:=b.take (4*i)++(leW w).take k++b.drop (4*i+k)
def Z8t(b:List UInt8)(i w:Nat):List UInt8:=Z9C b i w 4
theorem ZaA(b:List UInt8)(i w k:Nat)(h:4*i+4≤b.length)(hk:k≤4):(Z9C b i w k).length=b.length:=by
 unfold Z9C
 rw [List.length_append,List.length_append,List.length_take,List.length_take,List.length_drop,Z0O]
 omega
def quoK(w k:Nat):Nat:=w / 256 ^ k
theorem Zjj(w k:Nat)(hk:k<4):(leW w).getD k 0=UInt8.ofNat (quoK w k):=by
 rcases k with _ | _ | _ | _ | k
 ·show UInt8.ofNat w=UInt8.ofNat (w / 256 ^ 0); rw [Nat.pow_zero,Nat.div_one]
 ·rfl
 ·rfl
 ·rfl
 ·omega
theorem Zdh(b:List UInt8)(i w k:Nat)(h:4*i+4≤b.length)(hk:k<4):(Z9C b i w k).set (4*i+k) (UInt8.ofNat (quoK w k))=Z9C b i w (k+1):=by
 unfold Z9C
 have e1:(b.take (4*i)++(leW w).take k).length=4*i+k:=by rw [List.length_append,List.length_take,List.length_take,Z0O]; omega
 rw [List.set_append_right _ _ (by omega),e1,Nat.sub_self]
 have e2:b.drop (4*i+k)=b[4*i+k]::b.drop (4*i+k+1):=List.drop_eq_getElem_cons (by omega)
 rw [e2,List.set_cons_zero]
 have e3:(leW w).take (k+1)=(leW w).take k++[UInt8.ofNat (quoK w k)]:=by
  have hl:k<(leW w).length:=by rw [Z0O]; exact hk
  rw [←Zjj w k hk,List.take_succ_eq_append_getElem hl,List.getD_eq_getElem?_getD,List.getElem?_eq_getElem hl]; rfl
 rw [e3]
 simp only [List.append_assoc,List.cons_append,List.nil_append,Nat.add_assoc]
theorem Zdg(b:List UInt8)(i w:Nat):Z9C b i w 0=b:=by
 unfold Z9C
 rw [List.take_zero,List.append_nil,Nat.add_zero,List.take_append_drop]
theorem Z8m(b:List UInt8)(m:Nat)(x:UInt8)(h:m<b.length):(b.map Z05).take m++[Z05 x]++(b.map Z05).drop (m+1)=(b.set m x).map Z05:=by
 rw [List.set_eq_take_append_cons_drop,if_pos h,List.map_append,List.map_cons,List.map_take,List.map_drop]
 simp only [List.append_assoc,List.cons_append,List.nil_append]
def ZjT:List UInt8×Nat×Nat×Nat→List AV×Z01:=fun (b,v,j,w)=>([.msl 0 v 0 b.length,.int .i64 j,.int .u32 w],[.row (b.map Z05) 1 v])
def ZnT:List UInt8×Nat×Nat×Nat→Prop:=fun (b,v,j,w)=>4*j+4≤b.length∧b.length≤4194304∧w<4294967296
def Znk:List UInt8×Nat×Nat×Nat→AV:=fun (b,v,j,w)=>.tup []
def ZoH:List UInt8×Nat×Nat×Nat→Z01:=fun (b,v,j,w)=>[.row ((Z8t b j w).map Z05) 1 v]
theorem inj118:∀a b,ZjT a=ZjT b→a=b:=by
 rintro⟨b,v,j,w⟩ ⟨b',v',j',w'⟩ h
 simp only [ZjT,Z0g,Z0h,Z0k,Z0j,UInt8.toNat_inj,Z09,Z0c,Z0x,Z0o,Z1g,Z19,Z1L,Z0z,Z0E,Z0P,Z0I,Z0y,Z2R,Z4n,bK,Z0A,List.cons.injEq] at h
 simp_all only
noncomputable def S118:Z0n:=Z6L ZjT ZnT Znk ZoH
theorem Z9E(b:List UInt8)(v j w:Nat):Z1Y ZjT ZnT ([.msl 0 v 0 b.length,.int .i64 j,.int .u32 w],[.row (b.map Z05) 1 v])=(4*j+4≤b.length∧b.length≤4194304∧w<4294967296):=Z0J inj118 ZnT (b,v,j,w)
theorem Z9w(b:List UInt8)(v j w:Nat):Z0U ZjT Znk .any ([.msl 0 v 0 b.length,.int .i64 j,.int .u32 w],[.row (b.map Z05) 1 v])=(.tup []):=Z0d inj118 Znk .any (b,v,j,w)
theorem Z9W(b:List UInt8)(v j w:Nat):Z0U ZjT ZoH [] ([.msl 0 v 0 b.length,.int .i64 j,.int .u32 w],[.row (b.map Z05) 1 v])=([.row ((Z8t b j w).map Z05) 1 v]):=Z0d inj118 ZoH [] (b,v,j,w)
attribute [push_cast] S118 Z9E Z9w Z9W
theorem body118(Γ:Env)(b:List UInt8)(v j w:Nat)(hi:4*j+4≤b.length)(hb:b.length≤4194304)(hw:w<4294967296):Z08 Tryz.prog Γ Tryz.f118 [.msl 0 v 0 b.length,.int .i64 j,.int .u32 w] [.row (b.map Z05) 1 v] (.tup []) [.row ((Z8t b j w).map Z05) 1 v]:=by
 unfold Z8t
 refine stt 21 [] fun X hP hΓ hL hfin=>?_; refine Z0G ?_
 refine Z02.loopM (ι:={k:Nat // k≤4}) [tt,tt,ff,ff,ff,ff,ff,ff,ff,ff,ff,ff,ff,ff,ff,ff,ff,ff,ff,ff,ff] (fun i=>[(2,.int .u32 (quoK w i.1)),(6,.int .i64 i.1)]) (fun i=>[.row ((Z9C b j w i.1).map Z05) 1 v]) (fun i=>4 - i.1) ⟨0,Nat.zero_le _⟩ ?_ ?_
 ·rw [Zdg,show quoK w 0=w by unfold quoK; rw [Nat.pow_zero,Nat.div_one]]
  (rw [hL]; simp only [push_cast,Int.natCast_zero,]; exact Z06.sameA)
 rintro⟨k,hk⟩
 dsimp only
 by_cases hk':k<4
 ·have dk:decide ((k:Int)<4)=true:=decide_eq_true (by omega)
  have wk:IntKind.i64.wrap ((k:Int)+1)=(k:Int)+1:=wrq
  have w4:IntKind.i64.wrap (4*(j:Int))=4*(j:Int):=wrq
  obtain⟨m,hm⟩:∃m:Nat,m=4*j+k:=⟨_,rfl⟩
  have w5:IntKind.i64.wrap (4*(j:Int)+(k:Int))=(m:Int):=by rw [show 4*(j:Int)+(k:Int)=(m:Int) by omega]; exact Z0t _ (by constructor <;> omega)
  have hlen:=ZaA b j w k hi hk
  have hs:=Zdh b j w k hi hk'
  rw [←hm] at hs
  have hq:=Z7p (quoK w k)
  have hd:IntKind.u32.wrap (((quoK w k:Nat):Int).tdiv 256)=((quoK w (k+1):Nat):Int):=by
   have e:((quoK w k:Nat):Int).tdiv 256=((quoK w k / 256:Nat):Int):=rfl
   have e2:quoK w k / 256=quoK w (k+1):=by unfold quoK; rw [Nat.div_div_eq_div_mul,Nat.pow_succ]
   have e3:quoK w (k+1)≤w:=Nat.div_le_self _ _
   rw [e,e2]
   exact Z5G _ (by omega)
  have st:=Z8m (Z9C b j w k) m (UInt8.ofNat (quoK w k)) (by omega)
  rw [hs] at st
  have st':List.take m (List.map Z05 (Z9C b j w k))++[AV.int .u8 ((UInt8.ofNat (quoK w k)).toNat:Int)]++List.drop (m+1) (List.map Z05 (Z9C b j w k))=List.map Z05 (Z9C b j w (k+1)):=st
  refine gxq (cj7 dk wk w4 w5 hq hd st') ?_
  refine⟨by omega,by omega,⟨k+1,hk'⟩,by simp only; omega,?_⟩
  exact Z06.sameA
 ·have hk4:k=4:=by omega
  have dk:decide ((k:Int)<4)=false:=decide_eq_false (by omega)
  have e4:Z9C b j w 4=Z9C b j w k:=by rw [hk4]
  rw [e4] at hfin
  refine gxq dk ?_
  exact Z06.sameA
theorem con118{Γ:Env}(h:Z07 Tryz.prog Γ):Con Tryz.prog 118 S118:=
 Z2f h (fn:=Tryz.f118) (by kernel_rfl) rfl (by kernel_rfl) inj118 fun ⟨b,v,j,w⟩ h=>body118 Γ b v j w h.1 h.2.1 h.2.2
end Go.Proofs.YtbnnhffkbcekcaaGreatDoor.dirDone
end
section
namespace Go.Eng
open Go
theorem ZgJ(deep:Bool)(L:Z01)(is qs:List Nat)(q:Nat):Z1v deep L 2 is (q::qs)=Z1v deep L 1 (Z0T is (Z38 deep L q)) (qs++Z1Q is (Z38 deep L q)):=rfl
theorem ZgK(deep:Bool)(L:Z01)(is qs:List Nat)(q:Nat):Z1v deep L 1 is (q::qs)=Z1v deep L 0 (Z0T is (Z38 deep L q)) (qs++Z1Q is (Z38 deep L q)):=rfl
theorem ZgL(deep:Bool)(L:Z01)(is qs:List Nat):Z1v deep L 0 is qs=is:=by cases qs <;> rfl
attribute [push_cast] ZgJ ZgK ZgL
end Go.Eng
namespace Go.Proofs.YtbnnhffkbcekcaaGreatDoor.dirDone
open Go Go.Eng Go.Proofs Go.Lib
def bO(F:List Fl)(Lv U:List Int)(F':List Fl)(Lv' U':List Int)(S:List Sec)(W:List Wr)(N:Nat)(R:List Wr):Z01:=[.row [.ref 1 0 0,.ref 11 0 0,.ref 3 0 0,.ref 12 0 0] 4 0,
 .row [.msl 5 0 0 S.length,.msl 6 W.length 0 W.length] 2 0,
 .row [.ref 1 0 0,.sl (F.flatMap flC) F.length,.msl 7 Lv.length 0 Lv.length,.msl 8 0 0 U.length] 4 0,
 .row [.sl ((noN N).map AV.str) N,.msl 9 R.length 0 R.length] 2 0,
 .row [.ref 3 0 0,.sl (F.flatMap flC) F.length,.sl (Lv.map (AV.int .i64)) Lv.length,.msl 10 0 0 U.length] 4 0,
 .row (S.flatMap Z1T) 1024 0,.row (W.flatMap wrC) 1025 W.length,.row (Lv.map (AV.int .i64)) 1 Lv.length,.row (U.map (AV.int .i64)) 1 0,.row (R.flatMap wrR) 2 R.length,.row (U.map (AV.int .i64)) 1 0,
 .row [.ref 1 0 0,.sl (F'.flatMap flC) F'.length,.msl 13 Lv'.length 0 Lv'.length,.msl 14 0 0 U'.length] 4 0,
 .row [.ref 3 0 0,.sl (F'.flatMap flC) F'.length,.sl (Lv'.map (AV.int .i64)) Lv'.length,.msl 15 0 0 U'.length] 4 0,
 .row (Lv'.map (AV.int .i64)) 1 Lv'.length,.row (U'.map (AV.int .i64)) 1 0,.row (U'.map (AV.int .i64)) 1 0]
def bN(F:List Fl)(Lv U:List Int)(N:Nat)(R:List Wr):Z01:=bO F Lv U (opn (sOf N R)).1.F (opn (sOf N R)).1.Lv (opn (sOf N R)).1.U (sOf N R) (wOf N R) N R
def opC(N:Nat)(R:List Wr):Prop:=(opn (sOf N R)).2=true∨R.length<4096
instance (N:Nat) (R:List Wr):Decidable (opC N R):=by unfold opC; infer_instance
def opK(N:Nat)(R:List Wr):List Wr:=if (opn (sOf N R)).2=true then R else fmtR N R
def opZ(F:List Fl)(Lv U:List Int)(N:Nat)(R:List Wr):Z01:=if opC N R then bN F Lv U N (opK N R) else bK F Lv U (sOf N R) (wOf N R) N R
theorem Zl8{N:Nat}{R:List Wr}(hN:N≤1024)(h:¬(opn (sOf N R)).2=true):¬(opR (sOf N R)).2=true:=by
 obtain⟨h1,h2⟩:=Zdu (sOf N R) (by rw [Z0r]; exact hN)
 rw [h1]; exact h
theorem Z4T{N:Nat}{R:List Wr}(hN:0<N)(hR:R.length<4096):(opn (sOf N (fmtR N R))).2=true:=by rw [Z7L hN hR]
def k74:List Fl×List Int×List Int×Nat×List Wr→Ct:=fun (F,Lv,U,N,R)=>⟨([.ref 0 0 0],bK F Lv U (sOf N R) (wOf N R) N R),R.length≤4096∧N≤1024∧0<N,.bool true,opZ F Lv U N R⟩
theorem inj74:∀a b,(k74 a).a=(k74 b).a→a=b:=by
 rintro⟨F,Lv,U,N,R⟩ ⟨F',Lv',U',N',R'⟩ h
 simp only [k74,Z0g,Z0h,Z0k,Z0j,UInt8.toNat_inj,Z09,Z0c,Z0x,Z0o,Z1g,Z19,Z1L,Z0z,Z0E,Z0P,Z0I,Z0y,Z2R,Z4n,bK,Z0A,List.cons.injEq] at h
 simp_all only
noncomputable def S74:Z0n:=Z0W true k74
theorem ks74(F:List Fl)(Lv U:List Int)(N:Nat)(R:List Wr):KS k74 ([.ref 0 0 0],bK F Lv U (sOf N R) (wOf N R) N R) (R.length≤4096∧N≤1024∧0<N) (.bool true) (opZ F Lv U N R):=kat inj74 (F,Lv,U,N,R)
attribute [push_cast] S74 ks74
theorem body74(Γ:Env)(h37:Γ 37=some S37)(h18:Γ 18=some S18)(h52:Γ 52=some S52)(h43:Γ 43=some S43)(F:List Fl)(Lv U:List Int)(N:Nat)(R:List Wr)(hR:R.length≤4096)(hN:N≤1024)(hN0:0<N) :
  Z08 Tryz.prog Γ Tryz.f74 [.ref 0 0 0] (bK F Lv U (sOf N R) (wOf N R) N R) (.bool true) (opZ F Lv U N R):=by
 have p1:=Z72 (sOf N R) (wOf N R)
 have r1:=Z6T (sOf N R) (wOf N R)
 have g1:=Z7d (sOf N R) (wOf N R)
 have ⟨p2,r2,g2⟩:=ks43 N R
 have hS:=Z0r N R
 have hW:=Z0F N R
 unfold opZ
 by_cases c1:(opn (sOf N R)).2=true
 ·obtain⟨k1,k2⟩:=Z9H hN c1
  have eK:opK N R=R:=by unfold opK; rw [if_pos c1]
  rw [if_pos (show opC N R from .inl c1),eK]
  rw [if_pos c1] at r1 g1
  rw [if_pos k1] at r2 g2
  rw [k2] at g2
  unfold bN
  clear eK
  generalize (opn (sOf N R)).1=d at *
  obtain⟨F',Lv',U'⟩:=d
  dsimp only at *
  generalize sOf N R=S at *
  generalize wOf N R=W at *
  clear c1 k1 k2
  unfold Z1L Zk3 at *
  unfold Z0o Z0P at *
  unfold bO bK
  refine stt 99 [.tmp 2] fun X hP hΓ hL hfin=>?_; refine gxq (cj8 h18 p1 r1 g1 h43 p2 r2 g2) ?_
  refine⟨⟨by decide,by omega,by omega⟩,⟨by decide,by omega,by omega,by omega⟩,?_⟩
  exact Z0q.base [0,1,2,3,4,5,6,7,8,9,10,12,15,13,11,14] ⟨sml,smr,(by decide),(by first | rfl | decide),sm,sm⟩ smd
 have k1:=Zl8 hN c1
 have hC:opC N R↔R.length<4096:=⟨fun h=>h.resolve_left c1,.inr⟩
 have eK:opK N R=fmtR N R:=by unfold opK; rw [if_neg c1]
 rw [if_neg c1] at r1 g1
 rw [if_neg k1] at r2 g2
 rw [eK]
 have p3:=ZaH (sOf N R) (wOf N R)
 have r3:=Zar (sOf N R) (wOf N R)
 have g3:=ZaX (sOf N R) (wOf N R)
 rw [(Z4g N R).1,(Z4g N R).2] at g3
 have ⟨p4,r4,g4⟩:=ks52 N R
 clear c1 k1
 by_cases c2:R.length<4096
 case neg=>
  rw [if_neg (by omega)] at r3 g3 r4 g4
  rw [if_neg (fun h=>c2 (hC.1 h))]
  clear hC eK
  generalize sOf N R=S at *
  generalize wOf N R=W at *
  unfold Z0o Z0P at *
  unfold bK
  refine stt 99 [.tmp 2] fun X hP hΓ hL hfin=>?_; refine gxq (Zk7 h18 p1 r1 g1 h43 p2 r2 g2 h37 p3 r3 g3 h52 p4 r4 g4) ?_
  refine⟨⟨by decide,by omega,by omega⟩,⟨by decide,by omega,by omega,by omega⟩,⟨by decide,by omega,by omega⟩,⟨by decide,by omega,by omega,by omega⟩,⟨by decide,by omega,by omega⟩,⟨by decide,by omega,by omega,by omega⟩,?_⟩
  exact Z06.sameA
 have h2:=Z4T hN0 c2
 obtain⟨k1,k2⟩:=Z9H hN h2
 rw [if_pos (by omega)] at r3 g3 r4 g4
 rw [if_pos (hC.2 c2)]
 clear hC eK
 have hR':(fmtR N R).length≤4096:=Z2J _ _ _ _ hR
 have hS':=Z0r N (fmtR N R)
 have p5:=Z72 (sOf N (fmtR N R)) (wOf N (fmtR N R))
 have r5:=Z6T (sOf N (fmtR N R)) (wOf N (fmtR N R))
 have g5:=Z7d (sOf N (fmtR N R)) (wOf N (fmtR N R))
 rw [if_pos h2] at r5 g5
 have ⟨p6,r6,g6⟩:=ks43 N (fmtR N R)
 rw [if_pos k1] at r6 g6
 rw [k2] at g6
 unfold bN
 clear h2 k1 k2
 generalize (opn (sOf N (fmtR N R))).1=d at *
 obtain⟨F',Lv',U'⟩:=d
 dsimp only at *
 generalize sOf N (fmtR N R)=S' at *
 generalize wOf N (fmtR N R)=W' at *
 generalize fmtR N R=R' at *
 generalize sOf N R=S at *
 generalize wOf N R=W at *
 unfold Z1L Zk3 at *
 unfold Z0o Z0P at *
 unfold bO bK
 refine stt 99 [.tmp 2] fun X hP hΓ hL hfin=>?_; refine gxq (cj22 h18 p1 r1 g1 h43 p2 r2 g2 h37 p3 r3 g3 h52 p4 r4 g4 p5 r5 g5 p6 r6 g6) ?_
 refine⟨⟨by decide,by omega,by omega⟩,⟨by decide,by omega,by omega,by omega⟩,⟨by decide,by omega,by omega⟩,⟨by decide,by omega,by omega,by omega⟩,⟨by decide,by omega,by omega⟩,⟨by decide,by omega,by omega,by omega⟩,?_⟩
 exact Z0q.base [0,1,2,3,4,5,6,7,8,9,10,12,15,13,11,14] ⟨sml,smr,(by decide),(by first | rfl | decide),sm,sm⟩ smd
theorem con74{Γ:Env}(h:Z07 Tryz.prog Γ)(h37:Γ 37=some S37)(h18:Γ 18=some S18)(h52:Γ 52=some S52)(h43:Γ 43=some S43):Con Tryz.prog 74 S74:=
 kcn h (fn:=Tryz.f74) inj74 fun ⟨F,Lv,U,N,R⟩ h=>body74 Γ h37 h18 h52 h43 F Lv U N R h.1 h.2.1 h.2.2
def atR(len:Int)(k:Nat):Nat:=((len.tmod 1024+1024+k).tmod 1024).toNat
def Zaz(b:List UInt8)(len:Int)(r:List UInt8):Nat→List UInt8
 | 0=>b
 | k+1=>(Zaz b len r k).set (atR len k) (r.getD k 0)
theorem Z7G(b:List UInt8)(len:Int)(r:List UInt8):∀k,(Zaz b len r k).length=b.length
 | 0=>rfl
 | k+1=>by unfold Zaz; rw [List.length_set,Z7G b len r k]
def rawB(N:Nat)(R:List Wr)(n len:Int)(r:List UInt8):List UInt8:=Zaz (secB (sOf N R) n) len r r.length
def rawR(N:Nat)(R:List Wr)(n len:Int)(r:List UInt8):List Wr:=rwW N R n (rawB N R n len r)
def Zj0(F:List Fl)(Lv U:List Int)(N:Nat)(R:List Wr)(n len:Int)(r:List UInt8):Z01:=if 0≤n∧n<N then opZ F Lv U N (rawR N R n len r) else bK F Lv U (sOf N R) (wOf N R) N R
def k75:List Fl×List Int×List Int×Nat×List Wr×Int×List UInt8×List UInt8×Int×Int×List UInt8→Ct:=fun (F,Lv,U,N,R,kd,nm,to,n,len,r)=>⟨([.ref 0 0 0,.agg [.int .i64 kd,.str nm,.str to,.int .i64 n,.int .i64 len,.str r]],bK F Lv U (sOf N R) (wOf N R) N R),R.length≤4096∧N≤1024∧0<N∧r.length≤1048576,.bool true,Zj0 F Lv U N R n len r⟩
theorem inj75:∀a b,(k75 a).a=(k75 b).a→a=b:=by
 rintro⟨F,Lv,U,N,R,kd,nm,to,n,len,r⟩ ⟨F',Lv',U',N',R',kd',nm',to',n',len',r'⟩ h
 simp only [k75,Z0g,Z0h,Z0k,Z0j,UInt8.toNat_inj,Z09,Z0c,Z0x,Z0o,Z1g,Z19,Z1L,Z0z,Z0E,Z0P,Z0I,Z0y,Z2R,Z4n,bK,Z0A,List.cons.injEq] at h
 simp_all only
noncomputable def S75:Z0n:=Z0W true k75
theorem ks75(F:List Fl)(Lv U:List Int)(N:Nat)(R:List Wr)(kd:Int)(nm to:List UInt8)(n len:Int)(r:List UInt8):KS k75 ([.ref 0 0 0,.agg [.int .i64 kd,.str nm,.str to,.int .i64 n,.int .i64 len,.str r]],bK F Lv U (sOf N R) (wOf N R) N R) (R.length≤4096∧N≤1024∧0<N∧r.length≤1048576) (.bool true) (Zj0 F Lv U N R n len r):=kat inj75 (F,Lv,U,N,R,kd,nm,to,n,len,r)
attribute [push_cast] S75 ks75
theorem body75(Γ:Env)(h94:Γ 94=some S94)(h95:Γ 95=some S95)(h119:Γ 119=some S119)(h74:Γ 74=some S74)(F:List Fl)(Lv U:List Int)(N:Nat)(R:List Wr)(kd:Int)(nm to:List UInt8)(n len:Int)(r:List UInt8)(hR:R.length≤4096)(hN:N≤1024)(hN0:0<N)(hr:r.length≤1048576) :
  Z08 Tryz.prog Γ Tryz.f75 [.ref 0 0 0,.agg [.int .i64 kd,.str nm,.str to,.int .i64 n,.int .i64 len,.str r]] (bK F Lv U (sOf N R) (wOf N R) N R) (.bool true) (Zj0 F Lv U N R n len r):=by
 have ⟨p1,r1,g1⟩:=ks95 N R
 unfold Zj0
 by_cases c1:n<0
 ·rw [if_neg (by omega)]
  have d1:decide (n<0)=true:=decide_eq_true c1
  generalize sOf N R=S at *
  generalize wOf N R=W at *
  unfold Z0P at *
  unfold bK
  refine stt 63 [.tmp 4] fun X hP hΓ hL hfin=>?_; refine ZlH 5 ?_
  refine Z02.drawnK [4,5,6,7,8,9,10,11] smp (by kernel_rfl) (gyq d1 ?_)
  refine Z0G ?_
  exact Z06.keep11A
 have d1:decide (n<0)=false:=decide_eq_false c1
 by_cases c2:n<N
 case neg=>
  rw [if_neg (by omega)]
  have d2:decide ((N:Int)≤n)=true:=decide_eq_true (by omega)
  generalize sOf N R=S at *
  generalize wOf N R=W at *
  unfold Z0P at *
  unfold bK
  refine stt 63 [.tmp 4] fun X hP hΓ hL hfin=>?_; refine ZlH 5 ?_
  refine Z02.drawnK [] smp (by kernel_rfl) (gyq (cj6 d1 d2 h95 p1 r1 g1) ?_)
  refine⟨by decide,?_⟩
  refine Z0G ?_
  exact Z06.keep11A
 have d2:decide ((N:Int)≤n)=false:=decide_eq_false (by omega)
 rw [if_pos ⟨by omega,c2⟩]
 have ⟨p2,r2,g2⟩:=ks94 N R n
 rw [if_pos ⟨by omega,c2⟩] at r2
 have hb:=Z3r (sOf N R) n
 have ⟨p3,r3,g3⟩:=ks119 F Lv U N R n (rawB N R n len r)
 obtain⟨Q,hQ⟩:∃Q,Q=1024:=⟨_,rfl⟩
 have hb:(secB (sOf N R) n).length=Q:=hb.trans hQ.symm
 have hbl:(rawB N R n len r).length=Q:=by unfold rawB; rw [Z7G,hb]
 rw [hbl] at p3 r3 g3
 rw [show rwW N R n (rawB N R n len r)=rawR N R n len r from rfl] at g3
 have ⟨p4,r4,g4⟩:=ks74 F Lv U N (rawR N R n len r)
 have hR':(rawR N R n len r).length≤4096:=Z2J _ _ _ _ hR
 have hBe:rawB N R n len r=Zaz (secB (sOf N R) n) len r r.length:=rfl
 generalize rawB N R n len r=b' at *
 generalize rawR N R n len r=R' at *
 unfold opZ at g4 ⊢
 have fin:∀(H:Z01),(∀G:Z01,G=(if opC N R' then bN F Lv U N (opK N R') else bK F Lv U (sOf N R') (wOf N R') N R')→True):=fun _ _ _=>trivial
 clear fin
 generalize secB (sOf N R) n=b at *
 have hS:=Z0r N R
 have hW:=Z0F N R
 generalize hZ:(if opC N R' then bN F Lv U N (opK N R') else bK F Lv U (sOf N R') (wOf N R') N R')=Z at *
 unfold bK at p3 r3 g3 p4 r4 g4
 unfold Z0P at *
 unfold bK
 refine stt 63 [.tmp 4] fun X hP hΓ hL hfin=>?_; refine ZlH 5 ?_
 refine Z02.drawnK [] smp (by kernel_rfl) (gyq (cj6 d1 d2 h95 p1 r1 g1) ?_)
 refine⟨by decide,?_⟩
 refine Z50 5 ?_
 refine Z02.drawnK [] smp (by kernel_rfl) (gyq (cj4 h94 p2 r2 g2) ?_)
 refine⟨⟨by decide,hR,by omega⟩,?_⟩
 clear p2 r2 g2 p1 r1 g1
 generalize sOf N R'=S' at *
 generalize wOf N R'=W' at *
 generalize sOf N R=S at *
 generalize wOf N R=W at *
 refine gxq hb ?_
 refine⟨by omega,?_⟩
 refine Z02.loopM (ι:={k:Nat // k≤r.length}) [tt,ff,ff,tt,tt,ff,ff,tt,ff,ff,ff,ff,ff,ff,ff,ff,ff,ff,ff,ff,ff,ff,ff,ff,ff,ff,ff,ff,ff,ff,ff,ff,ff,ff,ff,ff,ff,ff,ff,ff,ff,ff,ff,ff,ff,ff,ff,ff,ff,ff,ff,ff,ff,ff,ff,ff,ff,ff,ff,ff,ff,ff,ff] (fun i=>[(7,.msl 12 0 0 Q),(8,.int .i64 i.1)]) (fun i=>[.row [.ref 1 0 0,.ref 2 0 0,.ref 3 0 0,.ref 4 0 0] 4 0,.row [.msl 5 0 0 S.length,.msl 6 W.length 0 W.length] 2 0,.row [.ref 1 0 0,.sl (F.flatMap flC) F.length,.msl 7 Lv.length 0 Lv.length,.msl 8 0 0 U.length] 4 0,.row [.sl ((noN N).map AV.str) N,.msl 9 R.length 0 R.length] 2 0,.row [.ref 3 0 0,.sl (F.flatMap flC) F.length,.sl (Lv.map (AV.int .i64)) Lv.length,.msl 10 0 0 U.length] 4 0,.row (S.flatMap Z1T) 1024 0,.row (W.flatMap wrC) 1025 W.length,.row (Lv.map (AV.int .i64)) 1 Lv.length,.row (U.map (AV.int .i64)) 1 0,.row (R.flatMap wrR) 2 R.length,.row (U.map (AV.int .i64)) 1 0,.row [.int .i64 kd,.str nm,.str to,.int .i64 n,.int .i64 len,.str r] 6 0,.row ((Zaz b len r i.1).map Z05) 1 0]) (fun i=>r.length - i.1) ⟨0,Nat.zero_le _⟩ ?_ ?_
 ·rw [show Zaz b len r 0=b from rfl]
  (rw [hL]; simp only [push_cast,Int.natCast_zero,]; exact Z06.sameA)
 rintro⟨k,hk⟩
 dsimp only
 have hkl:=Z7G b len r k
 by_cases hk':k<r.length
 ·have dk:decide ((k:Int)<(r.length:Int))=true:=decide_eq_true (by omega)
  have wk:IntKind.i64.wrap ((k:Int)+1)=(k:Int)+1:=wrq
  have tl:=Int.tmod_lt_of_pos len (show (0:Int)<1024 by decide)
  have tg:-1024<len.tmod 1024:=by
   have:=Int.tmod_lt_of_pos (-len) (show (0:Int)<1024 by decide)
   rw [Int.neg_tmod] at this
   omega
  have wA:IntKind.i64.wrap (len.tmod 1024+1024)=len.tmod 1024+1024:=wrq
  have wB:IntKind.i64.wrap (len.tmod 1024+1024+(k:Int))=len.tmod 1024+1024+(k:Int):=wrq
  have m0:0≤(len.tmod 1024+1024+(k:Int)).tmod 1024:=Int.tmod_nonneg _ (by omega)
  have m1:=Int.tmod_lt_of_pos (len.tmod 1024+1024+(k:Int)) (show (0:Int)<1024 by decide)
  obtain⟨m,hm⟩:∃m,m=atR len k:=⟨_,rfl⟩
  have wC:(len.tmod 1024+1024+(k:Int)).tmod 1024=(m:Int):=by rw [hm]; unfold atR; omega
  have hrk:Zaz b len r (k+1)=(Zaz b len r k).set m (r.getD k 0):=by rw [hm]; rfl
  have st:=Z8m (Zaz b len r k) m (r.getD k 0) (by omega)
  rw [←hrk] at st
  have st':List.take m (List.map Z05 (Zaz b len r k))++[AV.int .u8 ((r.getD k 0).toNat:Int)]++List.drop (m+1) (List.map Z05 (Zaz b len r k))=List.map Z05 (Zaz b len r (k+1)):=st
  refine gxq (cj7 dk wk wA wB wC hk' st') ?_
  refine⟨by omega,by omega,by omega,⟨k+1,hk'⟩,by simp only; omega,?_⟩
  exact Z06.sameA
 ·obtain rfl:k=r.length:=by omega
  have dk:decide ((r.length:Int)<(r.length:Int))=false:=decide_eq_false (by omega)
  refine gnq 2 dk ?_
  have tQ:List.take Q (List.map Z05 (Zaz b len r r.length))=List.map Z05 b':=by rw [←hBe,List.take_of_length_le]; rw [List.length_map,hbl]; exact Nat.le_refl _
  refine Z02.frz 12 (by rw [hL]; simp) smf (gsq ?_)
  by_cases cZ:opC N R'
  ·rw [if_pos cZ] at hZ
   subst hZ
   unfold bN at g4 hfin
   generalize (opn (sOf N (opK N R'))).1=d at *
   obtain⟨F',Lv',U'⟩:=d
   dsimp only at *
   generalize sOf N (opK N R')=S'' at *
   generalize wOf N (opK N R')=W'' at *
   unfold bO at g4 hfin
   refine gxq (Zkm dk tQ h119 p3 r3 g3 h74 p4 r4 g4) ?_
   refine⟨⟨by decide,hR,by omega⟩,⟨by decide,hR',hN,hN0⟩,?_⟩
   exact Z0q.base [0,1,2,3,4,5,6,7,8,9,10,13,14,15,16,17] ⟨sml,smr,(by decide),(by first | rfl | decide),sm,sm⟩ smd
  ·rw [if_neg cZ] at hZ
   subst hZ
   unfold bK at g4 hfin
   refine gxq (Zkm dk tQ h119 p3 r3 g3 h74 p4 r4 g4) ?_
   refine⟨⟨by decide,hR,by omega⟩,⟨by decide,hR',hN,hN0⟩,?_⟩
   exact Z06.keep11A
theorem con75{Γ:Env}(h:Z07 Tryz.prog Γ)(h94:Γ 94=some S94)(h95:Γ 95=some S95)(h119:Γ 119=some S119)(h74:Γ 74=some S74):Con Tryz.prog 75 S75:=
 kcn h (fn:=Tryz.f75) inj75 fun ⟨F,Lv,U,N,R,kd,nm,to,n,len,r⟩ h=>body75 Γ h94 h95 h119 h74 F Lv U N R kd nm to n len r h.1 h.2.1 h.2.2.1 h.2.2.2
end Go.Proofs.YtbnnhffkbcekcaaGreatDoor.dirDone
end
