/- Parts of the walk through directories. Conditions stand in each. -/
import Derived.Test.YtbnnhffkbcekcaaGreatDoorGi
import Derived.Test.YtbnnhffkbcekcaaGreatDoorFg
set_option linter.unusedVariables false
set_option linter.unusedSimpArgs false
set_option maxRecDepth 100000
set_option maxHeartbeats 4000000
section
namespace Go.Eng
open Go
theorem Z04.weak{X:Cx}{ops:Array Oper}{k:List It}{fr:List AV}{L:Z01}{l:List Oper}{S:List AV×Z01}(hi:Z0q X.B.L fr L S)(h:Z04 X ops l k S.1 S.2):Z04 X ops l k fr L:=fun m a w hR=>by
 obtain⟨m',hR'⟩:=hR.intoF hi
 exact h m' a w hR'
theorem Z04.frz{X:Cx}{ops:Array Oper}{k:List It}{fr:List AV}{L:Z01}{l:List Oper}(id:Nat)(hn:X.B.L.length≤id)(hok:Z2Q L id)(h:Z04 X ops l k (Z4H L id fr) (Z5c L id)):Z04 X ops l k fr L:=
 Z04.weak (Z0q.frz id hn hok (Z0q.refl (_,_))) h
end Go.Eng
namespace Go.Proofs.YtbnnhffkbcekcaaGreatDoor.dirDone
open Go Go.Eng Go.Proofs Go.Lib
def ZhV(b:List UInt8)(i:Nat)(F:List Fl):Prop:=Zbz b i=true∧F.length<200∧(F.length=0∨Op.bytesLess (F.getD (F.length - 1) default).nm (reN b i)=true)
instance (b:List UInt8) (i:Nat) (F:List Fl):Decidable (ZhV b i F):=by unfold ZhV; infer_instance
def rlE(b:List UInt8)(i:Nat):Fl:=⟨reN b i,enH b i,enL b i,[]⟩
def Z5w(b:List UInt8):Nat→Nat→List Fl→List Fl×Bool
 | 0,_,F=>(F,true)
 | k+1,i,F=>if ZhV b i F then Z5w b k (i+1) (F++[rlE b i]) else (F,false)
def rlP(S:List Sec)(U:List Int)(at_:Int)(last:Bool):Prop:=((uGo 0 1 [at_] U).2=true∧getW (secB S at_) 0=827081795)∧lf1 S at_ last
instance (S:List Sec) (U:List Int) (at_:Int) (last:Bool):Decidable (rlP S U at_ last):=by unfold rlP; infer_instance
def rlB(F:List Fl)(S:List Sec)(U:List Int)(at_:Int)(last:Bool):Bool:=if rlP S U at_ last then (Z5w (secB S at_) (lfN S at_) 0 F).2 else false
def rlF(F:List Fl)(S:List Sec)(U:List Int)(at_:Int)(last:Bool):List Fl:=if rlP S U at_ last then (Z5w (secB S at_) (lfN S at_) 0 F).1 else F
def rlL(Lv:List Int)(S:List Sec)(U:List Int)(at_:Int)(last:Bool):List Int:=if rlP S U at_ last then Lv++[at_] else Lv
def rlU(U:List Int)(at_:Int):List Int:=(uGo 0 1 [at_] U).1
def k97:List Fl×List Int×List Int×Nat×List Wr×Int×Bool→Ct:=fun (F,Lv,U,N,R,at_,last)=>⟨([.ref 0 0 0,.int .i64 at_,.bool last],Z2R F Lv U N R),F.length≤4194304∧Lv.length≤4194304∧U.length≤4194304∧R.length≤4096∧N≤1048576∧0≤at_∧at_<N,.bool (rlB F (sOf N R) U at_ last),Z2R (rlF F (sOf N R) U at_ last) (rlL Lv (sOf N R) U at_ last) (rlU U at_) N R⟩
theorem inj97:∀a b,(k97 a).a=(k97 b).a→a=b:=by
 rintro⟨F,Lv,U,N,R,at_,last⟩ ⟨F',Lv',U',N',R',at_',last'⟩ h
 simp only [k97,Z0g,Z0h,Z0k,Z0j,UInt8.toNat_inj,Z09,Z0c,Z0x,Z0o,Z1g,Z19,Z1L,Z0z,Z0E,Z0P,Z0I,Z0y,Z2R,Z0A,List.cons.injEq] at h
 simp_all only
noncomputable def S97:Z0n:=Z0W true k97
theorem ks97(F:List Fl)(Lv U:List Int)(N:Nat)(R:List Wr)(at_:Int)(last:Bool):KS k97 ([.ref 0 0 0,.int .i64 at_,.bool last],Z2R F Lv U N R) (F.length≤4194304∧Lv.length≤4194304∧U.length≤4194304∧R.length≤4096∧N≤1048576∧0≤at_∧at_<N) (.bool (rlB F (sOf N R) U at_ last)) (Z2R (rlF F (sOf N R) U at_ last) (rlL Lv (sOf N R) U at_ last) (rlU U at_) N R):=kat inj97 (F,Lv,U,N,R,at_,last)
attribute [push_cast] S97 ks97
theorem body97(Γ:Env)(h94:Γ 94=some S94)(h99:Γ 99=some S99)(h96:Γ 96=some S96)(h137:Γ 137=some S137)(F:List Fl)(Lv U:List Int)(N:Nat)(R:List Wr)(at_:Int)(last:Bool)
  (hF:F.length≤4194304) (hLv:Lv.length≤4194304) (hU:U.length≤4194304) (hR:R.length≤4096) (hN:N≤1048576) (h0:0≤at_) (h1:at_<N) :
  Z08 Tryz.prog Γ Tryz.f97 [.ref 0 0 0,.int .i64 at_,.bool last] (Z2R F Lv U N R) (.bool (rlB F (sOf N R) U at_ last)) (Z2R (rlF F (sOf N R) U at_ last) (rlL Lv (sOf N R) U at_ last) (rlU U at_) N R):=by
 have ⟨p,r,g⟩:=ks94 N R at_
 rw [if_pos ⟨h0,h1⟩] at r
 have pt:=Zdj F Lv U N R [at_] 0 1
 have rt:=Zct F Lv U N R [at_] 0 1
 have gt:=ZdX F Lv U N R [at_] 0 1
 simp only [List.map_cons,List.map_nil,List.length_singleton] at pt rt gt
 have hlen:=Z1V 0 1 [at_] U
 have hno:¬rlP (sOf N R) U at_ last→rlB F (sOf N R) U at_ last=false∧rlF F (sOf N R) U at_ last=F∧rlL Lv (sOf N R) U at_ last=Lv:=fun h=>by
  unfold rlB rlF rlL; rw [if_neg h,if_neg h,if_neg h]; exact⟨rfl,rfl,rfl⟩
 have hyes:rlP (sOf N R) U at_ last→rlB F (sOf N R) U at_ last=(Z5w (secB (sOf N R) at_) (lfN (sOf N R) at_) 0 F).2∧rlF F (sOf N R) U at_ last=(Z5w (secB (sOf N R) at_) (lfN (sOf N R) at_) 0 F).1∧rlL Lv (sOf N R) U at_ last=Lv++[at_]:=fun h=>by
  unfold rlB rlF rlL; rw [if_pos h,if_pos h,if_pos h]; exact⟨rfl,rfl,rfl⟩
 unfold rlU
 obtain⟨b,hb⟩:∃b,secB (sOf N R) at_=b:=⟨_,rfl⟩
 have hbl:b.length=1024:=by rw [←hb]; exact Z3r _ _
 have hP:rlP (sOf N R) U at_ last=(((uGo 0 1 [at_] U).2=true∧getW b 0=827081795)∧lf1 (sOf N R) at_ last):=by unfold rlP; rw [hb]
 have hlf:lfN (sOf N R) at_=getW b 4:=by unfold lfN; rw [hb]
 rw [hb] at r hyes
 rw [hlf] at hyes
 have h1':lf1 (sOf N R) at_ last=(1≤getW b 4∧getW b 4≤31∧(last=true∨getW b 4=31)):=by unfold lf1; rw [hlf]
 rw [h1'] at hP
 clear h1' hlf
 generalize rlP (sOf N R) U at_ last=P at *
 generalize rlB F (sOf N R) U at_ last=B at *
 generalize rlF F (sOf N R) U at_ last=F1 at *
 generalize rlL Lv (sOf N R) U at_ last=Lv1 at *
 clear hb
 generalize uGo 0 1 [at_] U=res at *
 obtain⟨V,ok⟩:=res
 dsimp only at *
 rw [hP] at hno hyes
 clear hP
 have e0:(4*(0:Int)).toNat=0:=rfl
 have e4:(4*(1:Int)).toNat=4:=rfl
 have pw:=fun i=>Znp b i
 have rw_:=fun i=>ZmR b i
 by_cases cok:ok=true
 case neg=>
  obtain rfl:ok=false:=by simpa using cok
  obtain⟨k1,k2,k3⟩:=hno (fun h=>by have:=h.1.1; simp at this)
  rw [k1,k2,k3]
  unfold Z2R Z0P at *
  refine stt 118 [.tmp 6] fun X hP hΓ hL hfin=>?_; refine gmq 5 (cj4 h94 p r g) ?_
  refine⟨⟨by decide,hR,hN⟩,?_⟩
  refine Z02.reg ?_
  refine Z04.ev 3 (Z1S ?_)
  refine Z04.frz 6 (by rw [hL]; simp) smf (gsq ?_)
  refine Z04.ev 2 (gzq (cj5 h99 pt rt gt hlen) ?_)
  refine⟨⟨by decide,by omega⟩,?_⟩
  refine Z04.nil ?_
  refine Z50 2 ?_
  refine Z02.reg ?_
  refine Z04.ev 7 (Z1S ?_)
  refine Z04.skips 3 (Z1S ?_)
  refine Z04.ev 1 (Z1S ?_)
  refine Z04.nil ?_
  refine gxq hlen ?_
  exact Z06.keep6A
 subst cok
 by_cases c3:getW b 0=827081795
 case neg=>
  obtain⟨k1,k2,k3⟩:=hno (fun h=>c3 h.1.2)
  have d3:decide (((getW b 0:Nat):Int)=827081795)=false:=decide_eq_false (by omega)
  rw [k1,k2,k3]
  unfold Z2R Z0P at *
  refine stt 118 [.tmp 6] fun X hP hΓ hL hfin=>?_; refine gmq 5 (cj4 h94 p r g) ?_
  refine⟨⟨by decide,hR,hN⟩,?_⟩
  refine Z02.reg ?_
  refine Z04.ev 3 (Z1S ?_)
  refine Z04.frz 6 (by rw [hL]; simp) smf (gsq ?_)
  refine Z04.ev 2 (gzq (cj5 h99 pt rt gt hlen) ?_)
  refine⟨⟨by decide,by omega⟩,?_⟩
  refine Z04.nil ?_
  refine gxq (cj4 h96 e0 d3 hlen) ?_
  refine⟨⟨by omega,by omega⟩,?_⟩
  exact Z06.keep6A
 have d3:decide (((getW b 0:Nat):Int)=827081795)=true:=decide_eq_true (by omega)
 have bn:=Z20 b 4
 generalize hn:getW b 4=n at *
 have wn:IntKind.i64.wrap (n:Int)=(n:Int):=wrq
 obtain⟨bad,hbad⟩:∃bad:Bool,bad=(decide ((n:Int)<1) || decide ((31:Int)<n) || (!last && !decide ((n:Int)=31))):=⟨_,rfl⟩
 have hbad2:(bad=true)↔¬(1≤n∧n≤31∧(last=true∨n=31)):=by
  rw [hbad]
  simp only [Bool.or_eq_true,Bool.and_eq_true,decide_eq_true_eq,Bool.not_eq_true',decide_eq_false_iff_not]
  cases last <;> simp <;> omega
 by_cases c4:1≤n∧n≤31∧(last=true∨n=31)
 case neg=>
  obtain⟨k1,k2,k3⟩:=hno (fun h=>c4 h.2)
  rw [hbad2.2 c4] at hbad
  rw [k1,k2,k3]
  unfold Z2R Z0P at *
  refine stt 118 [.tmp 6] fun X hP hΓ hL hfin=>?_; refine gmq 5 (cj4 h94 p r g) ?_
  refine⟨⟨by decide,hR,hN⟩,?_⟩
  refine Z02.reg ?_
  refine Z04.ev 3 (Z1S ?_)
  refine Z04.frz 6 (by rw [hL]; simp) smf (gsq ?_)
  refine Z04.ev 2 (gzq (cj5 h99 pt rt gt hlen) ?_)
  refine⟨⟨by decide,by omega⟩,?_⟩
  refine Z04.nil ?_
  refine gnq 8 (cj7 h96 e0 e4 hn wn d3 hlen) ?_
  refine⟨⟨by omega,by omega⟩,⟨by omega,by omega⟩,?_⟩
  refine Z50 2 ?_
  refine gxq (cj2 hbad.symm hlen) ?_
  exact Z06.keep6A
 have c4b:bad=false:=by rw [Bool.eq_false_iff]; exact fun h=>hbad2.1 h c4
 rw [c4b] at hbad
 obtain⟨k1,k2,k3⟩:=hyes ⟨⟨rfl,c3⟩,c4⟩
 have hLl:(Lv++[at_]).length=Lv.length+1:=List.length_append
 have hLm:(Lv++[at_]).map (AV.int .i64)=Lv.map (AV.int .i64)++[AV.int .i64 at_]:=List.map_append
 rw [k1,k2,k3]
 clear hno hyes k1 k2 k3 hbad2
 unfold Z2R Z0P at *
 rw [hLl,hLm]
 refine stt 118 [.tmp 6] fun X hP hΓ hL hfin=>?_; refine gmq 5 (cj4 h94 p r g) ?_
 refine⟨⟨by decide,hR,hN⟩,?_⟩
 refine Z02.reg ?_
 refine Z04.ev 3 (Z1S ?_)
 refine Z04.frz 6 (by rw [hL]; simp) smf (gsq ?_)
 refine Z04.ev 2 (gzq (cj5 h99 pt rt gt hlen) ?_)
 refine⟨⟨by decide,by omega⟩,?_⟩
 refine Z04.nil ?_
 refine gnq 8 (cj7 h96 e0 e4 hn wn d3 hlen) ?_
 refine⟨⟨by omega,by omega⟩,⟨by omega,by omega⟩,?_⟩
 refine Z50 2 ?_
 refine gxq (cj2 hbad.symm hlen) ?_
 refine⟨by omega,?_⟩
 clear bad hbad c4b pt rt gt p r g
 refine Z02.loopM (ι:={p:Nat×List Fl // (p.1≤n∧p.2.length=F.length+p.1)∧Z5w b n 0 F=Z5w b (n - p.1) p.1 p.2}) [tt,ff,ff,ff,ff,ff,ff,tt,ff,ff,tt,ff,ff,ff,ff,ff,ff,ff,ff,ff,ff,ff,ff,ff,ff,ff,ff,ff,ff,ff,ff,ff,ff,ff,ff,ff,ff,ff,ff,ff,ff,ff,ff,ff,ff,ff,ff,ff,ff,ff,ff,ff,ff,ff,ff,ff,ff,ff,ff,ff,ff,ff,ff,ff,ff,ff,ff,ff,ff,ff,ff,ff,ff,ff,ff,ff,ff,ff,ff,ff,ff,ff,ff,ff,ff,ff,ff,ff,ff,ff,ff,ff,ff,ff,ff,ff,ff,ff,ff,ff,ff,ff,ff,ff,ff,ff,ff,ff,ff,ff,ff,ff,ff,ff,ff,ff,ff,ff] (fun i=>[(7,.str b),(10,.int .i64 n),(11,.int .i64 i.1.1)]) (fun i=>[.row [.ref 1 0 0,.msl 2 i.1.2.length 0 i.1.2.length,.msl 3 (Lv.length+1) 0 (Lv.length+1),.msl 4 0 0 U.length] 4 0,.row [.sl ((noN N).map AV.str) N,.msl 5 R.length 0 R.length] 2 0,.row (i.1.2.flatMap flC) 4 i.1.2.length,.row (Lv.map (AV.int .i64)++[.int .i64 at_]) 1 (Lv.length+1),.row (V.map (AV.int .i64)) 1 0,.row (R.flatMap wrR) 2 R.length]) (fun i=>n - i.1.1) ⟨(0,F),⟨Nat.zero_le _,rfl⟩,rfl⟩ ?_ ?_
 ·rw [hL]
  simp only [push_cast,Int.natCast_zero]
  exact Z06.keep6A
 rintro⟨⟨k,G⟩,⟨hk,hG⟩,he⟩
 replace hk:k≤n:=hk
 replace hG:G.length=F.length+k:=hG
 replace he:Z5w b n 0 F=Z5w b (n - k) k G:=he
 dsimp only
 by_cases hk':k<n
 case neg=>
  obtain rfl:k=n:=by omega
  have dk:decide ((k:Int)<(k:Int))=false:=decide_eq_false (by omega)
  have e1:Z5w b k 0 F=(G,true):=by rw [he,Nat.sub_self]; rfl
  rw [e1] at hfin
  refine gxq (cj4 dk hLl hLm hlen) ?_
  exact Z06.sameA
 have dk:decide ((k:Int)<(n:Int))=true:=decide_eq_true (by omega)
 have wk:IntKind.i64.wrap ((k:Int)+1)=(k:Int)+1:=wrq
 have hstep:Z5w b (n - k) k G=if ZhV b k G then Z5w b (n - (k+1)) (k+1) (G++[rlE b k]) else (G,false):=by
  rw [show n - k=(n - (k+1))+1 by omega]; rfl
 obtain⟨nm',h',l',hE⟩:∃nm' h' l',reE b k=.agg [.str nm',.int .i64 h',.int .i64 l']:=by
  unfold reE; split
  ·exact⟨_,_,_,rfl⟩
  ·exact⟨_,_,_,rfl⟩
 have hE2:Zbz b k=true→nm'=reN b k∧h'=enH b k∧l'=enL b k:=fun hq=>by
  have hz:reZ b k=true:=by unfold Zbz at hq; rw [Bool.and_eq_true] at hq; exact hq.1
  unfold reE at hE
  rw [if_pos hz] at hE
  simp only [AV.agg.injEq,List.cons.injEq,AV.str.injEq,AV.int.injEq,true_and,and_true] at hE
  exact⟨hE.1.symm,hE.2.1.symm,hE.2.2.symm⟩
 have k31:k<31:=by omega
 by_cases c5:Zbz b k=true
 case neg=>
  have c5':Zbz b k=false:=by simpa using c5
  have e1:Z5w b n 0 F=(G,false):=by rw [he,hstep,if_neg (fun h=>c5 h.1)]
  rw [e1] at hfin
  refine gnq 13 (cj4 dk h137 hE c5') ?_
  refine⟨⟨hbl,k31⟩,?_⟩
  refine Z02.drawnK [3,4,7,8,9,10,11,12,13,14,15,16,17,18,19,20,21,22,23] smp (by kernel_rfl) (Zhs ?_)
  refine gxq (cj3 hLl hLm hlen) ?_
  exact Z06.keep6A
 obtain⟨rfl,rfl,rfl⟩:=hE2 c5
 by_cases c6:G.length<200
 case neg=>
  have d6:decide ((200:Int)≤(G.length:Int))=true:=decide_eq_true (by omega)
  have e1:Z5w b n 0 F=(G,false):=by rw [he,hstep,if_neg (fun h=>c6 h.2.1)]
  rw [e1] at hfin
  refine gnq 13 (cj4 dk h137 hE c5) ?_
  refine⟨⟨hbl,k31⟩,?_⟩
  refine Z02.drawnK [7,8,9,10,11,12,13,14,15,16,17,18,19,20,21,22,23] smp (by kernel_rfl) (gyq d6 ?_)
  refine gxq (cj3 hLl hLm hlen) ?_
  exact Z06.keep6A
 have d6:decide ((200:Int)≤(G.length:Int))=false:=decide_eq_false (by omega)
 have hfm:(G++[rlE b k]).flatMap flC=G.flatMap flC++[.str (reN b k),.int .i64 (enH b k),.int .i64 (enL b k),.sl [] 0]:=by
  rw [List.flatMap_append,List.flatMap_singleton]; rfl
 have hln:(G++[rlE b k]).length=G.length+1:=List.length_append
 by_cases c7:G.length=0
 ·have d7:decide ((0:Int)<(G.length:Int))=false:=decide_eq_false (by omega)
  have e1:Z5w b n 0 F=Z5w b (n - (k+1)) (k+1) (G++[rlE b k]):=by rw [he,hstep,if_pos ⟨c5,c6,.inl c7⟩]
  refine gnq 13 (cj4 dk h137 hE c5) ?_
  refine⟨⟨hbl,k31⟩,?_⟩
  refine Z02.drawnK [10,11,12,13,14,15,16,17,18,19,20,21,22] smp (by kernel_rfl) (gyq (cj2 d6 d7) ?_)
  refine Z50 2 ?_
  refine Z02.dE (Z1s [.fix (.row [.ref 1 0 0,.msl 2 G.length 0 G.length,.msl 3 (Lv.length+1) 0 (Lv.length+1),.msl 4 0 0 U.length] 4 0),.any,.any,.any,.any,.any,.fix (.row [.str (reN b k),.int .i64 (enH b k),.int .i64 (enL b k)] 3 0)]) [1,2,3,4,5,8,11] [] [] true (Zhs ?_)
  refine⟨by omega,?_⟩
  refine gxq wk ?_
  refine⟨⟨(k+1,G++[rlE b k]),⟨(by omega:k+1≤n),(by rw [hln]; show G.length+1=F.length+(k+1); omega)⟩,e1⟩,by simp only; omega,?_⟩
  refine Z0q.softH 2 rfl ?_
  rw [Z1u,Z4M]
  simp only [push_cast,hfm,hln,Z1e,Z3q,List.set_cons_succ,List.set_cons_zero]
  exact Z06.keep6A
 have d7:decide ((0:Int)<(G.length:Int))=true:=decide_eq_true (by omega)
 obtain⟨m,hm⟩:∃m,G.length=m+1:=⟨G.length - 1,by omega⟩
 have wm:IntKind.i64.wrap ((G.length:Int) - 1)=(m:Int):=by rw [hm]; exact (by rw [show ((m+1:Nat):Int) - 1=(m:Int) by omega]; exact Z0t _ (by constructor <;> omega))
 have gm:=ZjC G m (.str []) (by omega)
 have gm1:G.length - 1=m:=by omega
 by_cases c8:Op.bytesLess (G.getD m default).nm (reN b k)=true
 case neg=>
  have c8':Op.bytesLess (G.getD m default).nm (reN b k)=false:=by simpa using c8
  have e1:Z5w b n 0 F=(G,false):=by
   rw [he,hstep,if_neg (fun h=>by
    rcases h.2.2 with h | h
    ·exact c7 h
    ·rw [gm1] at h; exact c8 h)]
  rw [e1] at hfin
  refine gnq 13 (cj4 dk h137 hE c5) ?_
  refine⟨⟨hbl,k31⟩,?_⟩
  refine Z02.drawnK [] smp (by kernel_rfl) (gyq (cj6 d6 d7 wm gm c8' @Int.toNat_natCast) ?_)
  refine⟨by omega,⟨by omega,by omega⟩,?_⟩
  refine gxq (cj3 hLl hLm hlen) ?_
  exact Z06.keep6A
 have e1:Z5w b n 0 F=Z5w b (n - (k+1)) (k+1) (G++[rlE b k]):=by rw [he,hstep,if_pos ⟨c5,c6,.inr (by rw [gm1]; exact c8)⟩]
 refine gnq 13 (cj4 dk h137 hE c5) ?_
 refine⟨⟨hbl,k31⟩,?_⟩
 refine Z02.drawnK [] smp (by kernel_rfl) (gyq (cj6 d6 d7 wm gm c8 @Int.toNat_natCast) ?_)
 refine⟨by omega,⟨by omega,by omega⟩,?_⟩
 refine Z50 2 ?_
 refine Z02.dE (Z1s [.fix (.row [.ref 1 0 0,.msl 2 G.length 0 G.length,.msl 3 (Lv.length+1) 0 (Lv.length+1),.msl 4 0 0 U.length] 4 0),.any,.any,.any,.any,.any,.fix (.row [.str (reN b k),.int .i64 (enH b k),.int .i64 (enL b k)] 3 0)]) [1,2,3,4,5,8,11] [] [] true (Zhs ?_)
 refine⟨by omega,?_⟩
 refine gxq wk ?_
 refine⟨⟨(k+1,G++[rlE b k]),⟨(by omega:k+1≤n),(by rw [hln]; show G.length+1=F.length+(k+1); omega)⟩,e1⟩,by simp only; omega,?_⟩
 refine Z0q.softH 2 rfl ?_
 rw [Z1u,Z4M]
 simp only [push_cast,hfm,hln,Z1e,Z3q,List.set_cons_succ,List.set_cons_zero]
 exact Z06.keep6A
theorem con97{Γ:Env}(h:Z07 Tryz.prog Γ)(h94:Γ 94=some S94)(h99:Γ 99=some S99)(h96:Γ 96=some S96)(h137:Γ 137=some S137):Con Tryz.prog 97 S97:=
 kcn h (fn:=Tryz.f97) inj97 fun ⟨F,Lv,U,N,R,a,l⟩ ⟨h1,h2,h3,h4,h5,h6,h7⟩=>body97 Γ h94 h99 h96 h137 F Lv U N R a l h1 h2 h3 h4 h5 h6 h7
def rrB(S:List Sec)(n i:Nat)(d:D3):Prop:=rdAt S i<S.length∧rlB d.F S d.U (rdAt S i) (rdLast n i)=true
instance (S:List Sec) (n i:Nat) (d:D3):Decidable (rrB S n i d):=by unfold rrB; infer_instance
def Zgm(S:List Sec)(n i:Nat)(d:D3):D3:=⟨rlF d.F S d.U (rdAt S i) (rdLast n i),rlL d.Lv S d.U (rdAt S i) (rdLast n i),rlU d.U (rdAt S i)⟩
def rrL(S:List Sec)(n:Nat):Nat→Nat→D3→D3×Bool
 | 0,_,d=>(d,true)
 | k+1,i,d=>if rrB S n i d then rrL S n k (i+1) (Zgm S n i d) else (d,false)
def rrP(S:List Sec)(i:Nat)(d:D3):Prop:=Z6t S (d.F.getD i default).hd (d.F.getD i default).ln∧(uGo 0 1 (hdAll S (d.F.getD i default)) d.U).2=true
instance (S:List Sec) (i:Nat) (d:D3):Decidable (rrP S i d):=by unfold rrP; infer_instance
def ZiU(S:List Sec)(i:Nat)(d:D3):D3:=⟨d.F.set i { d.F.getD i default with se:=hdAll S (d.F.getD i default) },d.Lv,(uGo 0 1 (hdAll S (d.F.getD i default)) d.U).1⟩
def rrH(S:List Sec):Nat→Nat→D3→D3×Bool
 | 0,_,d=>(d,true)
 | k+1,i,d=>if rrP S i d then rrH S k (i+1) (ZiU S i d) else (d,false)
def ZkD(S:List Sec)(d:D3):D3×Bool:=if (rrL S (rdN S) (rdN S) 0 d).2=true then rrH S (rrL S (rdN S) (rdN S) 0 d).1.F.length 0 (rrL S (rdN S) (rdN S) 0 d).1 else ((rrL S (rdN S) (rdN S) 0 d).1,false)
def opR(S:List Sec):D3×Bool:=if rd0 S then ZkD S ⟨[],[],(List.replicate S.length 0).set 0 1⟩ else (⟨[],[],[]⟩,false)
theorem Zat(b:List UInt8):∀(n i:Nat) (F:List Fl),(Z5w b n i F).1.length≤F.length+n
 | 0,_,_=>Nat.le_refl _
 | n+1,i,F=>by
  unfold Z5w
  split
  ·have:=Zat b n (i+1) (F++[rlE b i]); rw [List.length_append] at this; simp only [List.length_singleton] at this; omega
  ·exact Nat.le_add_right _ _
theorem ZiT(F:List Fl)(S:List Sec)(U:List Int)(at_:Int)(last:Bool):(rlF F S U at_ last).length≤F.length+31:=by
 unfold rlF
 split
 ·rename_i h
  have:=Zat (secB S at_) (lfN S at_) 0 F
  have:=h.2.2.1
  omega
 ·omega
theorem ZiS(Lv:List Int)(S:List Sec)(U:List Int)(at_:Int)(last:Bool):(rlL Lv S U at_ last).length≤Lv.length+1:=by
 unfold rlL
 split
 ·rw [List.length_append]; exact Nat.le_refl _
 ·omega
theorem ZiR(U:List Int)(at_:Int):(rlU U at_).length=U.length:=Z1V _ _ _ _
theorem ZoN(F:List Fl)(i:Nat)(d:AV)(h:i<F.length):(F.flatMap flC).getD (i*4+1) d=.int .i64 (F.getD i default).hd:=by rw [Z3C (n:=4) F i 1 d h (by decide)]; rfl
theorem ZoM(F:List Fl)(i:Nat)(d:AV)(h:i<F.length):(F.flatMap flC).getD (i*4+2) d=.int .i64 (F.getD i default).ln:=by rw [Z3C (n:=4) F i 2 d h (by decide)]; rfl
def Zk3(F:List Fl)(Lv U:List Int)(N:Nat)(R:List Wr):Z01:=[.row [.sl ((noN N).map AV.str) N,.msl 1 R.length 0 R.length] 2 0,.row (R.flatMap wrR) 2 R.length,.row (U.map (AV.int .i64)) 1 0,.row [.ref 0 0 0,.sl (F.flatMap flC) F.length,.sl (Lv.map (AV.int .i64)) Lv.length,.msl 2 0 0 U.length] 4 0]
def k43:Nat×List Wr→Ct:=fun (N,R)=>⟨([.ref 0 0 0],Z0P N R),R.length≤4096∧N≤1048576∧0<N,if (opR (sOf N R)).2=true then .tup [.ref 3 0 0,.int .i64 0] else .tup [.lit (.pointer none),.int .i64 170],if (opR (sOf N R)).2=true then Zk3 (opR (sOf N R)).1.F (opR (sOf N R)).1.Lv (opR (sOf N R)).1.U N R else Z0P N R⟩
theorem inj43:∀a b,(k43 a).a=(k43 b).a→a=b:=by
 rintro⟨N,R⟩ ⟨N',R'⟩ h
 simp only [k43,Z0g,Z0h,Z0k,Z0j,UInt8.toNat_inj,Z09,Z0c,Z0x,Z0o,Z1g,Z19,Z1L,Z0z,Z0E,Z0P,Z0I,Z0y,Z2R,Z0A,List.cons.injEq] at h
 simp_all only
noncomputable def S43:Z0n:=Z0W true k43
theorem ks43(N:Nat)(R:List Wr):KS k43 ([.ref 0 0 0],Z0P N R) (R.length≤4096∧N≤1048576∧0<N) (if (opR (sOf N R)).2=true then .tup [.ref 3 0 0,.int .i64 0] else .tup [.lit (.pointer none),.int .i64 170]) (if (opR (sOf N R)).2=true then Zk3 (opR (sOf N R)).1.F (opR (sOf N R)).1.Lv (opR (sOf N R)).1.U N R else Z0P N R):=kat inj43 (N,R)
attribute [push_cast] S43 ks43
theorem body43(Γ:Env)(h94:Γ 94=some S94)(h95:Γ 95=some S95)(h96:Γ 96=some S96)(h97:Γ 97=some S97)(h98:Γ 98=some S98)(h99:Γ 99=some S99)(N:Nat)(R:List Wr)(hR:R.length≤4096)(hN:N≤1048576)(hN0:0<N) :
  Z08 Tryz.prog Γ Tryz.f43 [.ref 0 0 0] (Z0P N R) (if (opR (sOf N R)).2=true then .tup [.ref 3 0 0,.int .i64 0] else .tup [.lit (.pointer none),.int .i64 170]) (if (opR (sOf N R)).2=true then Zk3 (opR (sOf N R)).1.F (opR (sOf N R)).1.Lv (opR (sOf N R)).1.U N R else Z0P N R):=by
 have ⟨p,r,g⟩:=ks94 N R 0
 rw [if_pos ⟨Int.le_refl _,by omega⟩] at r
 have ⟨p5,r5,g5⟩:=ks95 N R
 have p97:=fun (d:D3) (at_:Int) (last:Bool)=>(ks97 d.F d.Lv d.U N R at_ last).1
 have r97:=fun (d:D3) (at_:Int) (last:Bool)=>(ks97 d.F d.Lv d.U N R at_ last).2.1
 have g97:=fun (d:D3) (at_:Int) (last:Bool)=>(ks97 d.F d.Lv d.U N R at_ last).2.2
 have p98:=fun (a l:Int)=>(ks98 N R a l).1
 have r98:=fun (a l:Int)=>(ks98 N R a l).2.1
 have g98:=fun (a l:Int)=>(ks98 N R a l).2.2
 have hS:=Z0r N R
 generalize sOf N R=S at *
 obtain⟨b,hb⟩:∃b,secB S 0=b:=⟨_,rfl⟩
 have hbl:b.length=1024:=by rw [←hb]; exact Z3r _ _
 have hz:(List.replicate N [AV.int .i64 0]).flatten=(List.replicate N (0:Int)).map (AV.int .i64):=by
  rw [List.map_replicate]
  clear p r g p5 r5 g5 p97 r97 g97 p98 r98 g98 hS hN hN0
  induction N with
  | zero=>rfl
  | succ n ih=>rw [List.replicate_succ,List.flatten_cons,ih]; rfl
 have e0:(4*(0:Int)).toNat=0:=rfl
 have e4:(4*(1:Int)).toNat=4:=rfl
 have h0:rd0 S=(getW b 0=827475011∧getW b 4≤7):=by unfold rd0 rdN; rw [hb]
 have hn0:rdN S=getW b 4:=by unfold rdN; rw [hb]
 have bn:=Z20 b 4
 have hat:∀i,rdAt S i=getW b (4*(2+i)):=fun i=>by unfold rdAt; rw [hb]
 rw [hb] at r
 obtain⟨n,hn⟩:∃n,getW b 4=n:=⟨_,rfl⟩
 rw [hn] at h0 hn0 bn
 unfold Z0P at *
 have hU1:((List.replicate N (0:Int)).set 0 1).length=N:=by rw [List.length_set,List.length_replicate]
 by_cases c0:getW b 0=827475011∧n≤7
 case neg=>
  have eo:(opR S).2=false:=by unfold opR; rw [if_neg (by rw [h0]; exact c0)]
  have dd:(!decide (((getW b 0:Nat):Int)=827475011) || decide ((7:Int)<(n:Int)))=true:=by
   simp only [Bool.or_eq_true,Bool.not_eq_true',decide_eq_true_eq,decide_eq_false_iff_not]; omega
  rw [eo]
  simp only [Bool.false_eq_true,if_false]
  refine stt 117 [.tmp 2,.tmp 3] fun X hP hΓ hL hfin=>?_; refine gxq (ZhC h94 p r g h95 p5 r5 g5 hz h96 e0 e4 hn dd) ?_
  refine⟨⟨hR,hN⟩,⟨by omega,by omega⟩,by omega,by rw [List.length_replicate]; omega,⟨by omega,by omega⟩,⟨by omega,by omega⟩,?_⟩
  exact Z06.keep2A
 have hz1:AV.int .i64 1::List.drop 1 ((List.replicate N (0:Int)).map (AV.int .i64))=(((List.replicate N (0:Int)).set 0 1).map (AV.int .i64)):=by
  obtain⟨m,rfl⟩:∃m,N=m+1:=⟨N - 1,by omega⟩
  rfl
 have dd:(!decide (((getW b 0:Nat):Int)=827475011) || decide ((7:Int)<(n:Int)))=false:=by
  rw [Bool.eq_false_iff]
  simp only [ne_eq,Bool.or_eq_true,Bool.not_eq_true',decide_eq_true_eq,decide_eq_false_iff_not]; omega
 have eo:opR S=ZkD S ⟨[],[],(List.replicate N 0).set 0 1⟩:=by unfold opR; rw [if_pos (by rw [h0]; exact c0),hS]
 have eg:∀d,ZkD S d=if (rrL S n n 0 d).2=true then rrH S (rrL S n n 0 d).1.F.length 0 (rrL S n n 0 d).1 else ((rrL S n n 0 d).1,false):=fun d=>by unfold ZkD; rw [hn0]
 rw [eo]
 clear eo h0 hn0
 generalize (List.replicate N (0:Int)).set 0 1=U0 at *
 have h1r:1≤(List.replicate N (0:Int)).length:=by rw [List.length_replicate]; omega
 have wN:IntKind.u32.wrap (N:Int)=(N:Int):=Z5G _ (by omega)
 have wn:IntKind.i64.wrap (n:Int)=(n:Int):=wrq
 refine stt 117 [.tmp 2,.tmp 3] fun X hP hΓ hL hfin=>?_; refine gxq (ZhC h94 p r g h95 p5 r5 g5 hz h96 e0 e4 hn dd) ?_
 refine⟨⟨hR,hN⟩,⟨by omega,by omega⟩,by omega,h1r,⟨by omega,by omega⟩,⟨by omega,by omega⟩,?_⟩
 rw [hz1]
 refine Z02.nilH 3 1 4 rfl rfl ?_
 refine Z02.nilH 3 2 1 rfl rfl ?_
 simp only [push_cast,List.set_cons_succ,List.set_cons_zero]
 obtain⟨d0,hd0⟩:∃d0:D3,d0=⟨[],[],U0⟩:=⟨_,rfl⟩
 have hdU:d0.U.length=N:=by rw [hd0]; exact hU1
 rw [←hd0] at hfin
 rw [eg] at hfin
 refine Z02.loopM (ι:={p:Nat×D3 // (p.1≤n∧p.2.U.length=N∧p.2.F.length≤31*p.1∧p.2.Lv.length≤p.1)∧rrL S n n 0 d0=rrL S n (n - p.1) p.1 p.2}) [tt,ff,ff,ff,tt,ff,tt,tt,ff,ff,ff,tt,tt,tt,tt,ff,ff,ff,ff,ff,ff,ff,ff,ff,ff,ff,ff,ff,ff,ff,ff,ff,ff,ff,ff,ff,ff,ff,ff,ff,ff,ff,ff,ff,ff,ff,ff,ff,ff,ff,ff,ff,ff,ff,ff,ff,ff,ff,ff,ff,ff,ff,ff,ff,ff,ff,ff,ff,ff,ff,ff,ff,ff,ff,ff,ff,ff,ff,ff,ff,ff,ff,ff,ff,ff,ff,ff,ff,ff,ff,ff,ff,ff,ff,ff,ff,ff,ff,ff,ff,ff,ff,ff,ff,ff,ff,ff,ff,ff,ff,ff,ff,ff,ff,ff,ff,ff] (fun i=>[(4,.str b),(6,.ref 3 0 0),(7,.int .u32 n),(8,.int .i64 i.1.1)]) (fun i=>[.row [.sl ((noN N).map AV.str) N,.msl 1 R.length 0 R.length] 2 0,.row (R.flatMap wrR) 2 R.length,.row (i.1.2.U.map (AV.int .i64)) 1 0,.row [.ref 0 0 0,.msl 4 i.1.2.F.length 0 i.1.2.F.length,.msl 5 i.1.2.Lv.length 0 i.1.2.Lv.length,.msl 2 0 0 N] 4 0,.row (i.1.2.F.flatMap flC) 4 i.1.2.F.length,.row (i.1.2.Lv.map (AV.int .i64)) 1 i.1.2.Lv.length]) (fun i=>n - i.1.1) ⟨(0,d0),⟨Nat.zero_le _,hdU,by rw [hd0]; exact Nat.zero_le _,by rw [hd0]; exact Nat.zero_le _⟩,rfl⟩ ?_ ?_
 ·rw [hL]
  simp only [hd0,push_cast,Int.natCast_zero,List.flatMap_nil,List.length_nil,List.map_nil]
  exact Z06.sameA
 rintro⟨⟨k,d⟩,⟨hk,hdl,hFl,hLl⟩,he⟩
 replace hk:k≤n:=hk
 replace hdl:d.U.length=N:=hdl
 replace hFl:d.F.length≤31*k:=hFl
 replace hLl:d.Lv.length≤k:=hLl
 replace he:rrL S n n 0 d0=rrL S n (n - k) k d:=he
 dsimp only
 by_cases hk':k<n
 ·have dk:decide ((k:Int)<(n:Int))=true:=decide_eq_true (by omega)
  have wk:IntKind.i64.wrap ((k:Int)+1)=(k:Int)+1:=wrq
  have wk2:IntKind.i64.wrap (2+(k:Int))=2+(k:Int):=wrq
  have wn1:IntKind.i64.wrap ((n:Int) - 1)=(n:Int) - 1:=wrq
  have hstep:rrL S n (n - k) k d=if rrB S n k d then rrL S n (n - (k+1)) (k+1) (Zgm S n k d) else (d,false):=by
   rw [show n - k=(n - (k+1))+1 by omega]; rfl
  have ea:getW b (4*(2+(k:Int))).toNat=getW b (4*(2+k)):=by congr 1
  have ba:=Z20 b (4*(2+k))
  have hak:=hat k
  have wa:IntKind.i64.wrap ((getW b (4*(2+k)):Nat):Int)=((getW b (4*(2+k)):Nat):Int):=wrq
  have el:decide ((k:Int)=(n:Int) - 1)=rdLast n k:=by unfold rdLast; exact decide_eq_decide.2 (by omega)
  have q97:=p97 d (rdAt S k) (rdLast n k)
  have s97:=r97 d (rdAt S k) (rdLast n k)
  have t97:=g97 d (rdAt S k) (rdLast n k)
  clear p97 r97 g97
  have hlen:=ZiR d.U (rdAt S k)
  unfold Z2R at q97 s97 t97
  rw [hlen] at t97
  rw [hdl] at q97 s97 t97
  rw [hak] at q97 s97 t97
  have hrB:rrB S n k d=(((getW b (4*(2+k)):Nat):Int)<N∧rlB d.F S d.U ((getW b (4*(2+k)):Nat):Int) (rdLast n k)=true):=by unfold rrB; rw [hak,hS]
  have hrS:Zgm S n k d=⟨rlF d.F S d.U ((getW b (4*(2+k)):Nat):Int) (rdLast n k),rlL d.Lv S d.U ((getW b (4*(2+k)):Nat):Int) (rdLast n k),rlU d.U ((getW b (4*(2+k)):Nat):Int)⟩:=by unfold Zgm; rw [hak]
  have hFl2:=ZiT d.F S d.U ((getW b (4*(2+k)):Nat):Int) (rdLast n k)
  have hLl2:=ZiS d.Lv S d.U ((getW b (4*(2+k)):Nat):Int) (rdLast n k)
  rw [hak] at hlen
  generalize getW b (4*(2+k))=a at *
  by_cases c1:a<N
  case neg=>
   have da:decide ((N:Int)≤(a:Int))=true:=decide_eq_true (by omega)
   have e1:rrL S n n 0 d0=(d,false):=by rw [he,hstep,if_neg (by rw [hrB]; omega)]
   rw [e1] at hfin
   simp only [Bool.false_eq_true,if_false] at hfin
   refine gxq (Ziy dk h96 wk2 ea h95 p5 r5 g5 wN da wn) ?_
   refine⟨⟨by omega,by omega,by omega⟩,?_⟩
   exact Z06.keep2A
  have da:decide ((N:Int)≤(a:Int))=false:=decide_eq_false (by omega)
  cases hB:rlB d.F S d.U (a:Int) (rdLast n k) with
  | false=>
   have e1:rrL S n n 0 d0=(d,false):=by rw [he,hstep,if_neg (by rw [hrB,hB]; simp)]
   rw [e1] at hfin
   simp only [Bool.false_eq_true,if_false] at hfin
   rw [hB] at s97
   refine gxq (Zp2 dk h96 wk2 ea h95 p5 r5 g5 wN da wn wa wn1 el h97 q97 s97 t97) ?_
   refine⟨⟨by omega,by omega,by omega⟩,⟨by decide,by omega,by omega,by omega,hR,hN,by omega⟩,?_⟩
   exact Z06.keep2A
  | true=>
   have e1:rrL S n n 0 d0=rrL S n (n - (k+1)) (k+1) (Zgm S n k d):=by rw [he,hstep,if_pos (by rw [hrB,hB]; exact⟨by omega,rfl⟩)]
   rw [hB] at s97
   refine gxq (cj19 dk h96 wk2 ea h95 p5 r5 g5 wN da wn wa wn1 el h97 q97 s97 t97 wk) ?_
   refine⟨⟨by omega,by omega,by omega⟩,⟨by decide,by omega,by omega,by omega,hR,hN,by omega⟩,?_⟩
   rw [hrS] at e1
   refine⟨⟨(k+1,⟨rlF d.F S d.U (a:Int) (rdLast n k),rlL d.Lv S d.U (a:Int) (rdLast n k),rlU d.U (a:Int)⟩),⟨(by omega:k+1≤n),hlen.trans hdl,(by show (rlF _ _ _ _ _).length≤31*(k+1); omega),(by show (rlL _ _ _ _ _).length≤k+1; omega)⟩,e1⟩,by simp only; omega,?_⟩
   exact Z06.sameA
 ·obtain rfl:k=n:=by omega
  have dk:decide ((k:Int)<(k:Int))=false:=decide_eq_false (by omega)
  have e1:rrL S k k 0 d0=(d,true):=by rw [he,Nat.sub_self]; rfl
  rw [e1] at hfin
  simp only [if_true] at hfin
  obtain⟨M,hM⟩:∃M,d.F.length=M:=⟨_,rfl⟩
  rw [hM] at hfin hFl ⊢
  clear p97 r97 g97 e1 he hat
  refine gxq (cj2 dk wn) ?_
  refine Z02.loopM (ι:={p:Nat×D3 // (p.1≤M∧p.2.U.length=N∧p.2.F.length=M∧p.2.Lv=d.Lv)∧rrH S M 0 d=rrH S (M - p.1) p.1 p.2}) [tt,ff,ff,ff,ff,ff,tt,ff,ff,ff,ff,ff,ff,ff,ff,ff,ff,ff,ff,ff,ff,ff,ff,ff,ff,ff,ff,ff,ff,ff,ff,ff,ff,ff,ff,ff,ff,ff,ff,ff,ff,ff,ff,ff,ff,ff,ff,ff,ff,ff,ff,ff,ff,ff,ff,ff,ff,ff,ff,ff,ff,ff,ff,ff,ff,ff,ff,ff,ff,ff,ff,ff,ff,ff,ff,ff,ff,ff,ff,ff,ff,ff,ff,ff,ff,ff,ff,ff,ff,ff,ff,ff,ff,ff,ff,ff,ff,ff,ff,ff,ff,ff,ff,ff,ff,ff,ff,ff,ff,ff,ff,ff,ff,ff,ff,ff,ff] (fun i=>[(6,.ref 3 0 0),(11,.int .i64 i.1.1)]) (fun i=>[.row [.sl ((noN N).map AV.str) N,.msl 1 R.length 0 R.length] 2 0,.row (R.flatMap wrR) 2 R.length,.row (i.1.2.U.map (AV.int .i64)) 1 0,.row [.ref 0 0 0,.msl 4 M 0 M,.msl 5 d.Lv.length 0 d.Lv.length,.msl 2 0 0 N] 4 0,.row (i.1.2.F.flatMap flC) 4 M,.row (d.Lv.map (AV.int .i64)) 1 d.Lv.length]) (fun i=>M - i.1.1) ⟨(0,d),⟨Nat.zero_le _,hdl,hM,rfl⟩,rfl⟩ ?_ ?_
  ·rw [hL]
   simp only [push_cast,Int.natCast_zero]
   exact Z06.sameA
  rintro⟨⟨j,x⟩,⟨hj,hxl,hxF,hxL⟩,hx⟩
  replace hj:j≤M:=hj
  replace hxl:x.U.length=N:=hxl
  replace hxF:x.F.length=M:=hxF
  replace hxL:x.Lv=d.Lv:=hxL
  replace hx:rrH S M 0 d=rrH S (M - j) j x:=hx
  dsimp only
  by_cases hj':j<M
  ·have dj:decide ((j:Int)<(M:Int))=true:=decide_eq_true (by omega)
   have wj:IntKind.i64.wrap ((j:Int)+1)=(j:Int)+1:=wrq
   have hstep:rrH S (M - j) j x=if rrP S j x then rrH S (M - (j+1)) (j+1) (ZiU S j x) else (x,false):=by
    rw [show M - j=(M - (j+1))+1 by omega]; rfl
   have g1:=ZoN x.F j (.int .i64 0) (by omega)
   have g2:=ZoM x.F j (.int .i64 0) (by omega)
   obtain⟨f,hf⟩:∃f,x.F.getD j default=f:=⟨_,rfl⟩
   have q98:=p98 f.hd f.ln
   have s98:=r98 f.hd f.ln
   have t98:=g98 f.hd f.ln
   rw [hf] at g1 g2
   have hP':rrP S j x=(Z6t S f.hd f.ln∧(uGo 0 1 (hdAll S f) x.U).2=true):=by unfold rrP; rw [hf]
   by_cases c2:Z6t S f.hd f.ln
   case neg=>
    have a98:hdA S f.hd f.ln=_:=if_neg c2
    have e1:rrH S M 0 d=(x,false):=by rw [hx,hstep,if_neg (by rw [hP']; exact fun h=>c2 h.1)]
    rw [e1] at hfin
    simp only [Bool.false_eq_true,if_false] at hfin
    refine gnq 8 dj ?_
    refine Z02.drawnK [] smp (by kernel_rfl) (gyq (cj7 g1 g2 h98 q98 s98 t98 a98) ?_)
    refine⟨by omega,⟨by omega,by omega⟩,by omega,⟨by omega,by omega⟩,⟨hR,hN⟩,?_⟩
    refine Z50 1 ?_
    refine Z02.reg ?_
    refine Z04.ev 2 (Z1S ?_)
    refine Z04.skips 3 (Z1S ?_)
    refine Z04.ev 2 (Z1S ?_)
    refine Z04.nil ?_
    refine Z0G ?_
    exact Z06.keep2A
   have a98:hdA S f.hd f.ln=.tup [.sl ((hdAll S f).map (AV.int .i64)) (hdAll S f).length,.bool true]:=if_pos c2
   have hll:(hdAll S f).length≤251:=by
    unfold hdAll
    rw [Z3B]
    have:=c2.1.2.2.1
    unfold hdN
    omega
   have p99:=Zdj x.F d.Lv x.U N R (hdAll S f) 0 1
   have r99:=Zct x.F d.Lv x.U N R (hdAll S f) 0 1
   have g99:=ZdX x.F d.Lv x.U N R (hdAll S f) 0 1
   have hul:=Z1V 0 1 (hdAll S f) x.U
   unfold Z2R at p99 r99 g99
   rw [hul] at g99
   rw [hxl,hxF] at p99 r99 g99
   have hSt:ZiU S j x=⟨x.F.set j { f with se:=hdAll S f },x.Lv,(uGo 0 1 (hdAll S f) x.U).1⟩:=by unfold ZiU; rw [hf]
   have hset:=Zih x.F j (hdAll S f) (by omega)
   rw [hf] at hset
   generalize hdAll S f=l at *
   generalize uGo 0 1 l x.U=res at *
   obtain⟨V,ok⟩:=res
   dsimp only at *
   cases ok with
   | false=>
    have e1:rrH S M 0 d=(x,false):=by rw [hx,hstep,if_neg (by rw [hP']; simp)]
    rw [e1] at hfin
    simp only [Bool.false_eq_true,if_false] at hfin
    refine gnq 8 dj ?_
    refine Z02.drawnK [] smp (by kernel_rfl) (gyq (cj7 g1 g2 h98 q98 s98 t98 a98) ?_)
    refine⟨by omega,⟨by omega,by omega⟩,by omega,⟨by omega,by omega⟩,⟨hR,hN⟩,?_⟩
    refine gxq (cj4 h99 p99 r99 g99) ?_
    refine⟨⟨by decide,by omega,by omega⟩,?_⟩
    exact Z06.keep2A
   | true=>
    have e1:rrH S M 0 d=rrH S (M - (j+1)) (j+1) (ZiU S j x):=by rw [hx,hstep,if_pos (by rw [hP']; exact⟨c2,rfl⟩)]
    rw [hSt] at e1
    refine gnq 8 dj ?_
    refine Z02.drawnK [] smp (by kernel_rfl) (gyq (cj7 g1 g2 h98 q98 s98 t98 a98) ?_)
    refine⟨by omega,⟨by omega,by omega⟩,by omega,⟨by omega,by omega⟩,⟨hR,hN⟩,?_⟩
    refine gxq (cj6 h99 p99 r99 g99 wj hset) ?_
    refine⟨⟨by decide,by omega,by omega⟩,by omega,by omega,?_⟩
    refine⟨⟨(j+1,⟨x.F.set j { f with se:=l },x.Lv,V⟩),⟨(by omega:j+1≤M),hul.trans hxl,(by show (List.set _ _ _).length=M; rw [List.length_set]; exact hxF),hxL⟩,e1⟩,by simp only; omega,?_⟩
    exact Z06.sameA
  ·obtain rfl:j=M:=by omega
   have dj:decide ((j:Int)<(j:Int))=false:=decide_eq_false (by omega)
   have e1:rrH S j 0 d=(x,true):=by rw [hx,Nat.sub_self]; rfl
   rw [e1] at hfin
   simp only [if_true] at hfin
   ((first | with_reducible refine holds_of_ex X 400 _ _ _ ?_ | skip); simp (maxSteps:=1000000) only [push_cast,reduceCtorEq,Nat.reduceAdd,Nat.reduceMul,Nat.reduceSub,Nat.reduceBEq,Nat.reduceGT,Nat.reduceLT,Int.toNat_zero,Nat.reduceLeDiff,Int.reduceEq,Int.reduceLT,Int.reduceLE,hP,hΓ,hL,hfin,String.reduceEq,Int.toNat_one,Bool.not_not,dj,Zk3,hxl,hxF,hxL])
   have t1:List.take (j*4) (List.flatMap flC x.F)=List.flatMap flC x.F:=by rw [←hxF]; exact Z2i x.F
   have t2:List.take d.Lv.length (List.map (AV.int .i64) d.Lv)=List.map (AV.int .i64) d.Lv:=List.take_of_length_le (by rw [List.length_map]; exact Nat.le_refl _)
   refine Z0q.frz 4 smo smf (gsq ?_)
   rw [t1]
   refine Z0q.frz 5 smo smf (gsq ?_)
   try rw [t2]
   exact Z0q.base [0,1,2,3] ⟨sml,smr,(by decide),(by first | rfl | decide),sm,sm⟩ smd
theorem con43{Γ:Env}(h:Z07 Tryz.prog Γ)(h94:Γ 94=some S94)(h95:Γ 95=some S95)(h96:Γ 96=some S96)(h97:Γ 97=some S97)(h98:Γ 98=some S98)(h99:Γ 99=some S99):Con Tryz.prog 43 S43:=
 kcn h (fn:=Tryz.f43) inj43 fun ⟨N,R⟩ h=>body43 Γ h94 h95 h96 h97 h98 h99 N R h.1 h.2.1 h.2.2
theorem Zak{U:List Int}{was now n:Int}{l:List Int}(hne:was≠now)(h0:0≤n)(h1:n<U.length)(h2:U.getD n.toNat default=was)(i:Nat):tAt (U.set n.toNat now) was l i↔tAt U was (n::l) (i+1):=by
 unfold tAt
 rw [List.getD_cons_succ,List.take_succ_cons,List.length_set]
 constructor
 ·rintro⟨a,b,c,d⟩
  have hn:(l.getD i default)≠n:=fun e=>by
   rw [e,Z1J _ _ _ _ (by omega)] at c
   exact hne c.symm
  rw [Z1c _ _ _ _ _ (fun e=>hn (by omega))] at c
  exact⟨a,b,c,fun h=>by
   rcases List.mem_cons.1 h with h | h
   ·exact hn h
   ·exact d h⟩
 ·rintro⟨a,b,c,d⟩
  have hn:(l.getD i default)≠n:=fun e=>d (by rw [e]; exact List.mem_cons_self ..)
  refine⟨a,b,?_,fun h=>d (List.mem_cons_of_mem _ h)⟩
  rw [Z1c _ _ _ _ _ (fun e=>hn (by omega))]
  exact c
theorem Zgb{U:List Int}{was now n:Int}{l:List Int}(hne:was≠now):tOk U was (n::l)↔(0≤n∧n<U.length∧U.getD n.toNat default=was)∧tOk (U.set n.toNat now) was l:=by
 constructor
 ·intro h
  have h0:=h 0 (by simp)
  unfold tAt at h0
  rw [List.getD_cons_zero] at h0
  refine⟨⟨h0.1,h0.2.1,h0.2.2.1⟩,fun i hi=>(Zak hne h0.1 h0.2.1 h0.2.2.1 i).2 (h (i+1) (by simpa using hi))⟩
 ·rintro⟨⟨h0,h1,h2⟩,h⟩ i hi
  rcases i with _ | i
  ·unfold tAt
   rw [List.getD_cons_zero]
   exact⟨h0,h1,h2,by simp⟩
  ·exact (Zak hne h0 h1 h2 i).1 (h i (by simpa using hi))
theorem Z3M{was now:Int}(hne:was≠now):∀(l U:List Int),((uGo was now l U).2=true↔tOk U was l)∧(tOk U was l→(uGo was now l U).1=tSet U now l)
 | [],U=>⟨⟨fun _ i hi=>absurd hi (Nat.not_lt_zero i),fun _=>rfl⟩,fun _=>rfl⟩
 | n::l,U=>by
  obtain⟨h1,h2⟩:=Z3M hne l (U.set n.toNat now)
  unfold uGo
  rw [Zgb hne]
  by_cases h:0≤n∧n<U.length∧U.getD n.toNat default=was
  ·rw [if_pos h]
   exact⟨by rw [h1]; exact⟨fun h'=>⟨h,h'⟩,fun h'=>h'.2⟩,fun h'=>h2 h'.2⟩
  ·rw [if_neg h]
   exact⟨⟨fun h'=>by simp at h',fun h'=>absurd h'.1 h⟩,fun h'=>absurd h'.1 h⟩
theorem ZhW(b:List UInt8)(i:Nat):rlE b i=lfE b i:=by unfold rlE lfE; rw [Zda]
theorem Zas(b:List UInt8)(i:Nat)(F:List Fl)(hF:F.length≤200):ZhV b i F↔ZdP b i F∧enH b i<1024∧enL b i≤256000:=by
 unfold ZhV ZdP Zbz Zhz
 rw [ZkJ,Zda]
 simp only [Bool.and_eq_true,decide_eq_true_eq]
 constructor
 ·rintro⟨⟨h1,⟨h2,h3⟩,h4⟩,h5,h6⟩
  exact⟨⟨⟨h2,h1⟩,by omega,h6⟩,h3,h4⟩
 ·rintro⟨⟨⟨h2,h1⟩,h5,h6⟩,h3,h4⟩
  exact⟨⟨h1,⟨h2,h3⟩,h4⟩,by omega,h6⟩
def Ze5(F:List Fl):Prop:=∀f∈F,f.hd<1024∧f.ln≤256000
theorem Z7P(b:List UInt8):∀(n i:Nat) (F:List Fl) (f:Fl),f∈F→f∈(Z3L b n i F).1
 | 0,_,_,_,h=>h
 | n+1,i,F,f,h=>by
  unfold Z3L
  split
  ·exact Z7P b n (i+1) _ f (List.mem_append_left _ h)
  ·exact h
theorem ZaO(b:List UInt8):∀(n i:Nat) (F:List Fl),F.length≤200→(Z3L b n i F).1.length≤200
 | 0,_,_,h=>h
 | n+1,i,F,h=>by
  unfold Z3L
  split
  ·rename_i hc
   exact ZaO b n (i+1) _ (by rw [List.length_append]; have:=hc.2.1; simp only [List.length_singleton]; omega)
  ·exact h
theorem ZkE(b:List UInt8):∀(n i:Nat) (F:List Fl),F.length≤200→(Z5w b n i F).2=true→Z3L b n i F=Z5w b n i F
 | 0,_,_,_,_=>rfl
 | n+1,i,F,hF,h=>by
  unfold Z5w at h ⊢
  unfold Z3L
  by_cases hc:ZhV b i F
  ·have hl:=((Zas b i F hF).1 hc).1
   rw [if_pos hc] at h ⊢
   rw [if_pos hl]
   rw [ZhW] at h ⊢
   exact ZkE b n (i+1) _ (by rw [List.length_append]; have:=hc.2.1; simp only [List.length_singleton]; omega) h
  ·rw [if_neg hc] at h; simp at h
theorem Zlh(b:List UInt8):∀(n i:Nat) (F:List Fl),F.length≤200→(Z3L b n i F).2=true→Ze5 (Z3L b n i F).1→Z5w b n i F=Z3L b n i F
 | 0,_,_,_,_,_=>rfl
 | n+1,i,F,hF,h,hg=>by
  unfold Z3L at h hg ⊢
  unfold Z5w
  by_cases hc:ZdP b i F
  ·rw [if_pos hc] at h hg ⊢
   have hm:=hg _ (Z7P b n (i+1) (F++[lfE b i]) (lfE b i) (List.mem_append_right _ (List.mem_singleton.2 rfl)))
   have hr:ZhV b i F:=(Zas b i F hF).2 ⟨hc,hm.1,hm.2⟩
   rw [if_pos hr,ZhW]
   exact Zlh b n (i+1) _ (by rw [List.length_append]; have:=hc.2.1; simp only [List.length_singleton]; omega) h hg
  ·rw [if_neg hc] at h; simp at h
theorem ZcA{S:List Sec}{U:List Int}{at_:Int}{last:Bool}(h:0≤at_∧at_<S.length):rlP S U at_ last↔lfP S U at_ last:=by
 unfold rlP lfP lf0
 rw [(Z3M (by decide) [at_] U).1]
 exact⟨fun ⟨⟨a,b⟩,c⟩=>⟨⟨h,a,b⟩,c⟩,fun ⟨⟨_,a,b⟩,c⟩=>⟨⟨a,b⟩,c⟩⟩
theorem ZhU{S:List Sec}{U:List Int}{at_:Int}{last:Bool}(h:0≤at_∧at_<S.length)(hp:lfP S U at_ last):rlU U at_=lfU S U at_:=by
 have ht:=hp.1.2.1
 unfold rlU lfU tRes
 rw [if_pos h,if_pos ht,(Z3M (by decide) [at_] U).2 ht]
theorem Zn5{S:List Sec}{n i:Nat}{d:D3}(hF:d.F.length≤200)(h:rrB S n i d):rdB S n i d=true∧Z4R S n i d=Zgm S n i d:=by
 obtain⟨h1,h2⟩:=h
 have hr:0≤rdAt S i∧rdAt S i<S.length:=⟨by unfold rdAt; omega,h1⟩
 unfold rlB at h2
 split at h2
 case isFalse=>simp at h2
 rename_i hp
 have hl:=(ZcA hr).1 hp
 have e:=ZkE _ _ _ _ hF h2
 constructor
 ·unfold rdB lfB; rw [if_pos hl,e]; exact h2
 ·unfold Z4R Zgm lfF rlF lfL rlL
  rw [if_pos hl,if_pos hp,if_pos hl,if_pos hp,e,ZhU hr hl]
theorem Zn6{S:List Sec}{n i:Nat}{d:D3}(hF:d.F.length≤200)(h:rdB S n i d=true)(hg:Ze5 (Z4R S n i d).F):rrB S n i d∧Zgm S n i d=Z4R S n i d:=by
 unfold rdB lfB at h
 split at h
 case isFalse=>simp at h
 rename_i hl
 have hr:=hl.1.1
 have hp:=(ZcA hr).2 hl
 have hg':Ze5 (Z3L (secB S (rdAt S i)) (lfN S (rdAt S i)) 0 d.F).1:=by unfold Z4R lfF at hg; rw [if_pos hl] at hg; exact hg
 have e:=Zlh _ _ _ _ hF h hg'
 constructor
 ·refine⟨hr.2,?_⟩
  unfold rlB; rw [if_pos hp,e]; exact h
 ·unfold Z4R Zgm lfF rlF lfL rlL
  rw [if_pos hl,if_pos hp,if_pos hl,if_pos hp,e,ZhU hr hl]
theorem Zax{S:List Sec}{n i:Nat}{d:D3}(hF:d.F.length≤200):(Z4R S n i d).F.length≤200:=by
 unfold Z4R lfF
 dsimp only
 split
 ·exact ZaO _ _ _ _ hF
 ·exact hF
theorem Zaw{S:List Sec}{n i:Nat}{d:D3}{f:Fl}(h:f∈d.F):f∈(Z4R S n i d).F:=by
 unfold Z4R lfF
 dsimp only
 split
 ·exact Z7P _ _ _ _ _ h
 ·exact h
theorem Zdd(S:List Sec)(n:Nat):∀(k i:Nat) (d:D3) (f:Fl),f∈d.F→f∈(rdL S n k i d).1.F
 | 0,_,_,_,h=>h
 | k+1,i,d,f,h=>by
  unfold rdL
  split
  ·exact Zdd S n k (i+1) _ f (Zaw h)
  ·exact Zaw h
theorem Zcz(S:List Sec)(n:Nat):∀(k i:Nat) (d:D3),d.F.length≤200→(rrL S n k i d).2=true→rdL S n k i d=rrL S n k i d
 | 0,_,_,_,_=>rfl
 | k+1,i,d,hF,h=>by
  unfold rrL at h ⊢
  unfold rdL
  by_cases hc:rrB S n i d
  ·obtain⟨h1,h2⟩:=Zn5 hF hc
   rw [if_pos hc] at h ⊢
   rw [if_pos h1,h2]
   exact Zcz S n k (i+1) _ (by rw [←h2]; exact Zax hF) h
  ·rw [if_neg hc] at h; simp at h
theorem Zdb(S:List Sec)(n:Nat):∀(k i:Nat) (d:D3),d.F.length≤200→(rdL S n k i d).2=true→Ze5 (rdL S n k i d).1.F→rrL S n k i d=rdL S n k i d
 | 0,_,_,_,_,_=>rfl
 | k+1,i,d,hF,h,hg=>by
  unfold rdL at h hg ⊢
  unfold rrL
  by_cases hc:rdB S n i d=true
  ·rw [if_pos hc] at h hg ⊢
   obtain⟨h1,h2⟩:=Zn6 hF hc (fun f hf=>hg f (Zdd S n k (i+1) _ f hf))
   rw [if_pos h1,h2]
   exact Zdb S n k (i+1) _ (Zax hF) h hg
  ·rw [if_neg hc] at h; simp at h
theorem ZhT(S:List Sec):∀(k i:Nat) (d:D3),rrH S k i d=rdH S k i d
 | 0,_,_=>rfl
 | k+1,i,d=>by
  unfold rrH rdH
  have hu:=Z3M (was:=0) (now:=1) (by decide) (hdAll S (d.F.getD i default)) d.U
  have hi:rrP S i d↔hdP S i d:=by unfold rrP hdP; rw [hu.1]
  by_cases h:hdP S i d
  ·rw [if_pos h,if_pos (hi.2 h)]
   have:ZiU S i d=Z98 S i d:=by unfold ZiU Z98; rw [hu.2 h.2]
   rw [this]
   exact ZhT S k (i+1) _
  ·rw [if_neg h,if_neg (fun h'=>h (hi.1 h'))]
theorem Zay(S:List Sec):∀(k i:Nat) (d:D3),(rdH S k i d).2=true→i+k≤d.F.length→∀j,i≤j→j<i+k→Z6t S (d.F.getD j default).hd (d.F.getD j default).ln
 | 0,i,d,_,_,j,h1,h2=>absurd h2 (by omega)
 | k+1,i,d,h,hl,j,h1,h2=>by
  unfold rdH at h
  by_cases hp:hdP S i d
  ·rw [if_pos hp] at h
   by_cases e:j=i
   ·rw [e]; exact hp.1
   ·have:=Zay S k (i+1) (Z98 S i d) h (by unfold Z98; dsimp only; rw [List.length_set]; omega) j (by omega) (by omega)
    unfold Z98 at this
    dsimp only at this
    rw [Z1c _ _ _ _ _ (fun e'=>e e'.symm)] at this
    exact this
  ·rw [if_neg hp] at h; simp at h
theorem Zdu(S:List Sec)(hS:S.length≤1024):(opR S).2=(opn S).2∧((opn S).2=true→(opR S).1=(opn S).1):=by
 unfold opR opn rdA3
 by_cases h0:rd0 S
 ·rw [if_pos h0,if_pos h0]
  generalize hd:(⟨[],[],(List.replicate S.length 0).set 0 1⟩:D3)=d
  have hF:d.F.length≤200:=by rw [←hd]; exact Nat.zero_le _
  unfold ZkD ZbA
  by_cases hr:(rrL S (rdN S) (rdN S) 0 d).2=true
  ·have e:=Zcz S _ _ _ _ hF hr
   rw [if_pos hr,e,if_pos hr,ZhT]
   exact⟨rfl,fun _=>rfl⟩
  ·rw [if_neg hr]
   by_cases hl:(rdL S (rdN S) (rdN S) 0 d).2=true
   ·rw [if_pos hl]
    have hn:(rdH S (rdL S (rdN S) (rdN S) 0 d).1.F.length 0 (rdL S (rdN S) (rdN S) 0 d).1).2=false:=by
     rw [Bool.eq_false_iff]
     intro hh
     have hg:Ze5 (rdL S (rdN S) (rdN S) 0 d).1.F:=fun f hf=>by
      obtain⟨j,hj,rfl⟩:=List.mem_iff_getElem.1 hf
      have:=Zay S _ 0 _ hh (by omega) j (Nat.zero_le _) (by omega)
      rw [List.getD_eq_getElem?_getD,List.getElem?_eq_getElem hj,Option.getD_some] at this
      have h1:=this.1.1.2
      have h2:=this.1.2.2.1
      exact⟨by omega,h2⟩
     have:=Zdb S _ _ _ _ hF hl hg
     rw [this] at hr
     exact hr hl
    rw [hn]
    exact⟨rfl,fun h=>by simp at h⟩
   ·have:(rdL S (rdN S) (rdN S) 0 d).2=false:=by simpa using hl
    rw [if_neg hl,this]
    exact⟨rfl,fun h=>by simp at h⟩
 ·rw [if_neg h0,if_neg h0]
  exact⟨rfl,fun h=>by simp at h⟩
end Go.Proofs.YtbnnhffkbcekcaaGreatDoor.dirDone
end
