/- Parts of the walk through directories. Conditions stand in each. -/
import Derived.Test.YtbnnhffkbcekcaaGreatDoorGp
import Derived.Test.YtbnnhffkbcekcaaGreatDoorFg
set_option linter.unusedVariables false
set_option linter.unusedSimpArgs false
set_option maxRecDepth 100000
set_option maxHeartbeats 4000000
section
namespace Go.Proofs.YtbnnhffkbcekcaaGreatDoor.dirDone
open Go Go.Eng Go.Proofs Go.Lib
def tks:Nat→List Int→List Int→List Int×List Int
 | 0,U,l=>(U,l)
 | k+1,U,l=>if (0:Int)∈U then tks k (tkU U) (l++[Z2e U 0]) else (U,l)
theorem Zce{U:List Int}{a:Nat}(ha:Z2e U 0=(a:Nat)):tkU U=U.set a 2:=by unfold tkU; rw [ha,if_neg (by omega),Int.toNat_natCast]
theorem ZhN{U:List Int}{a:Nat}(hal:a<U.length)(hag:U.getD a default=0):tOk U 0 [(a:Int)]:=by
 refine Z0p.2 ⟨fun n hn=>?_,by simp⟩
 obtain rfl:=List.mem_singleton.1 hn
 exact⟨by omega,by omega,by rw [Int.toNat_natCast]; exact hag⟩
theorem Zcg{U:List Int}{a:Nat}{l:List Int}(hal:a<U.length)(hag:U.getD a default=0)(h:tOk (U.set a 2) 0 l):tOk U 0 ((a:Int)::l):=by
 obtain⟨m,d⟩:=Z0p.1 h
 have hn:∀n∈l,n≠(a:Int):=fun n hn e=>by
  have:=(m n hn).2.2
  rw [e,Int.toNat_natCast,Z1J _ _ _ _ hal] at this
  exact absurd this (by decide)
 refine Z0p.2 ⟨fun n hx=>?_,List.nodup_cons.2 ⟨fun hx=>hn _ hx rfl,d⟩⟩
 rcases List.mem_cons.1 hx with rfl | hx
 ·exact⟨by omega,by omega,by rw [Int.toNat_natCast]; exact hag⟩
 ·obtain⟨h1,h2,h3⟩:=m n hx
  rw [List.length_set] at h2
  have:=hn n hx
  rw [Z1c _ _ _ _ _ (by omega)] at h3
  exact⟨h1,h2,h3⟩
theorem Zaf:∀(k:Nat) (U l:List Int),∃l2,(tks k U l).2=l++l2∧(tks k U l).1=tSet U 2 l2∧tOk U 0 l2∧l2.length≤k
 | 0,U,l=>⟨[],(List.append_nil l).symm,rfl,fun i hi=>absurd hi (Nat.not_lt_zero i),Nat.le_refl _⟩
 | k+1,U,l=>by
  unfold tks
  by_cases c:(0:Int)∈U
  ·rw [if_pos c]
   obtain⟨a,ha,hal,hag⟩:=Z2x c
   obtain⟨l2,h1,h2,h3,h4⟩:=Zaf k (tkU U) (l++[Z2e U 0])
   rw [Zce ha] at h1 h2 h3 ⊢
   rw [ha] at h1 h2 ⊢
   refine⟨(a:Int)::l2,by rw [h1,List.append_assoc]; rfl,?_,Zcg hal hag h3,by simpa using h4⟩
   rw [h2]
   show tSet (U.set a 2) 2 l2=tSet (U.set ((a:Int)).toNat 2) 2 l2
   rw [Int.toNat_natCast]
  ·rw [if_neg c]
   exact⟨[],(List.append_nil l).symm,rfl,fun i hi=>absurd hi (Nat.not_lt_zero i),Nat.zero_le _⟩
def tkL(U:List Int)(k:Nat):List Int:=(tks k U []).2
def tkV(U:List Int)(k:Nat):List Int:=(tks k U []).1
theorem Z7t(U:List Int)(k:Nat):tkV U k=tSet U 2 (tkL U k)∧tOk U 0 (tkL U k)∧(tkL U k).length≤k:=by
 obtain⟨l2,h1,h2,h3,h4⟩:=Zaf k U []
 rw [List.nil_append] at h1
 unfold tkV tkL
 rw [h1]
 exact⟨h2,h3,h4⟩
theorem Ze6{U l:List Int}(h:tOk U 0 l):tSet (tSet U 2 l) 0 l=U:=by
 obtain⟨m,d⟩:=Z0p.1 h
 have nn:=Z1I m
 refine Zb5 (by rw [Z0w,Z0w]) fun k hk=>?_
 rw [Z0w,Z0w] at hk
 rw [Z15 _ _ _ _ nn (by rw [Z0w]; exact hk),Z15 _ _ _ _ nn hk]
 by_cases c:(k:Int)∈l
 ·rw [if_pos c]
  have:=(m _ c).2.2
  rw [Int.toNat_natCast] at this
  exact this.symm
 ·rw [if_neg c,if_neg c]
theorem Zht{U l:List Int}{k:Nat}(h:tOk U 2 l)(hk:k<l.length):tOk (tSet U 0 (l.take k)) 2 [l.getD k default]∧tRes (tSet U 0 (l.take k)) 2 0 [l.getD k default]=tSet U 0 (l.take (k+1)):=by
 obtain⟨m,d⟩:=Z0p.1 h
 have hx:l.getD k default∈l:=by rw [Z0m hk]; exact List.getElem_mem hk
 have ho:tOk (tSet U 0 (l.take k)) 2 [l.getD k default]:=by
  refine Z0p.2 ⟨fun n hn=>?_,by simp⟩
  obtain rfl:=List.mem_singleton.1 hn
  refine Z1x (l:=[l.getD k default]) (fun n hn=>m n (by rw [List.mem_singleton.1 hn]; exact hx)) (fun n hn ht=>?_) (fun n hn=>Z1I m n (List.mem_of_mem_take hn)) _ (List.mem_singleton.2 rfl)
  have hn:=List.mem_singleton.1 hn
  rw [hn] at ht
  exact (h k hk).2.2.2 ht
 refine⟨ho,?_⟩
 unfold tRes
 rw [if_pos ho,Z5Z _ _ _ _ hk]
 rfl
def cut5(len:Int):Nat:=(len.tmod 5000).toNat
def cuM(len:Int):Nat:=hdN (cut5 len)
theorem ZfF(len:Int):cut5 len<5000:=by
 unfold cut5
 have:=Int.tmod_lt_of_pos len (show (0:Int)<5000 by decide)
 omega
theorem Zmb(len:Int):cuM len≤5:=by
 have:=ZfF len
 unfold cuM hdN
 omega
def Z5I(n:Nat)(l:List Int):Nat→List UInt8
 | 0=>Z8t (Z8t Z59 0 826820163) 1 n
 | k+1=>Z8t (Z5I n l k) (1+(k+1)) (l.getD (k+1) default).toNat
def Zc1(n:Nat)(l:List Int):List UInt8:=Z5I n l (l.length - 1)
theorem Z4S(b:List UInt8)(i w:Nat)(h:4*i+4≤b.length):(Z8t b i w).length=b.length:=ZaA b i w 4 h (Nat.le_refl _)
theorem Z45:Z59.length=1024:=List.length_replicate
theorem Z7Y(n:Nat)(l:List Int):∀k,k≤200→(Z5I n l k).length=1024
 | 0,_=>by
  have h1:=Z4S Z59 0 826820163 (by rw [Z45]; decide)
  rw [Z45] at h1
  have h2:=Z4S (Z8t Z59 0 826820163) 1 n (by rw [h1]; decide)
  exact h2.trans h1
 | k+1,h=>by
  have ih:=Z7Y n l k (by omega)
  exact (Z4S _ _ _ (by rw [ih]; omega)).trans ih
def fiL(U:List Int)(len:Int):List Int:=tkL U (cuM len+1)
def Z53(U:List Int)(len:Int):Prop:=(fiL U len).length=cuM len+1
instance (U:List Int) (len:Int):Decidable (Z53 U len):=by unfold Z53; infer_instance
def fiH(U:List Int)(len:Int):Int:=(fiL U len).getD 0 default
def fiR(N:Nat)(U:List Int)(R:List Wr)(len:Int):List Wr:=if Z53 U len then rwW N R (fiH U len) (Zc1 (cut5 len) (fiL U len)) else R
def fiS(N:Nat)(s:St)(len:Int):St:=⟨s.F,s.Lv,tSet s.U 2 (fiL s.U len),fiR N s.U s.R len⟩
def fiC(N:Nat)(s:St)(nm:List UInt8)(len:Int):Prop:=Z53 s.U len∧inR s.F (fiS N s len).U (sOf N (fiS N s len).R) (wOf N (fiS N s len).R) nm (fiH s.U len) (cut5 len)=0
instance (N:Nat) (s:St) (nm:List UInt8) (len:Int):Decidable (fiC N s nm len):=by unfold fiC; infer_instance
def fileS(N:Nat)(s:St)(nm:List UInt8)(len:Int):St:=
 if fiC N s nm len then insS N (fiS N s len) nm (fiH s.U len) (cut5 len) else ⟨s.F,s.Lv,s.U,fiR N s.U s.R len⟩
theorem Zec{N:Nat}{U:List Int}{R:List Wr}{len:Int}(h:R.length≤4096):(fiR N U R len).length≤4096:=by
 unfold fiR; split
 ·exact Z2J _ _ _ _ h
 ·exact h
theorem Z6y{N:Nat}{s:St}{len:Int}(hi:inv N s):inv N (fiS N s len):=by
 obtain⟨i1,i2,i3,i4,i5,i6,i7⟩:=hi
 obtain⟨_,h2,_⟩:=Z7t s.U (cuM len+1)
 obtain⟨m,d⟩:=Z0p.1 i7
 obtain⟨m2,d2⟩:=Z0p.1 h2
 refine⟨i1,i2,i3,i4,by show (tSet _ _ _).length=N; rw [Z0w]; exact i5,Zec i6,Z0p.2 ⟨?_,d⟩⟩
 exact Z1x m (Z1i m m2 (by decide)) (Z1I m2)
theorem Z8T{N:Nat}{s:St}{nm:List UInt8}{len:Int}(hN:N≤4096)(hi:inv N s):inv N (fileS N s nm len):=by
 unfold fileS
 split
 ·exact (Z4W hN (Z6y hi)).1
 ·obtain⟨i1,i2,i3,i4,i5,i6,i7⟩:=hi
  exact⟨i1,i2,i3,i4,i5,Zec i6,i7⟩
theorem Z8M{N:Nat}{s:St}{nm:List UInt8}{h ln:Int}(hN:N≤4096)(hi:inv N s)(hc:inR s.F s.U (sOf N s.R) (wOf N s.R) nm h ln=0) :
  inZ s.F s.Lv s.U (sOf N s.R) (wOf N s.R) nm h ln=Zc2 (insS N s nm h ln).F s.Lv (inG s.F nm) (insS N s nm h ln).Lv (insS N s nm h ln).U (sOf N (insS N s nm h ln).R) (wOf N (insS N s nm h ln).R)∧
   Zic s.F s.Lv s.U N s.R nm h ln=Z0y (insS N s nm h ln).F (insS N s nm h ln).Lv (insS N s nm h ln).U N (insS N s nm h ln).R:=by
 have hb:=(Z4W (nm:=nm) (h:=h) (ln:=ln) hN hi).2 hc
 have hc':inR s.F s.U (sOf N s.R) s.R nm h ln=0:=by rw [←Z6q (Z0F N s.R)]; exact hc
 obtain⟨_,_,_,h4⟩:=Z5Q hc'
 obtain⟨b1,b2,b3,_⟩:=Z6h (N:=N) h4
 have e:insS N s nm h ln=Z78 N s (inL s.F (sOf N s.R) nm h ln) (inG s.F nm) (Z2K (sOf N s.R) h ln):=by unfold insS; rw [if_pos hc]
 rw [e] at hb ⊢
 unfold inZ Zic ZbM
 rw [if_pos hc,if_pos hc',hb,b1,b2,b3]
 exact⟨rfl,rfl⟩
theorem Z5B{N:Nat}{s:St}{nm:List UInt8}{h ln:Int}(hc:inR s.F s.U (sOf N s.R) (wOf N s.R) nm h ln≠0) :
  inZ s.F s.Lv s.U (sOf N s.R) (wOf N s.R) nm h ln=Z0z s.F s.Lv s.U (sOf N s.R) (wOf N s.R)∧Zic s.F s.Lv s.U N s.R nm h ln=Z0y s.F s.Lv s.U N s.R:=by
 have hc':¬inR s.F s.U (sOf N s.R) s.R nm h ln=0:=by rw [←Z6q (Z0F N s.R)]; exact hc
 unfold inZ Zic
 rw [if_neg hc,if_neg hc']
 exact⟨rfl,rfl⟩
theorem Zil{N M q a:Nat}{s:St}{len:Int}{l1 V1:List Int}{R1:List Wr}(hM:cuM len=M)(hq:cut5 len=q)(hl:fiL s.U len=l1)(hF:l1.length=M+1)(ha:l1.getD 0 default=(a:Int))(hV:V1=tSet s.U 2 l1)(hR:rwW N s.R a (Zc1 q l1)=R1) :
  fiS N s len=⟨s.F,s.Lv,V1,R1⟩∧Z53 s.U len∧fiH s.U len=(a:Int)∧fiR N s.U s.R len=R1:=by
 have h1:Z53 s.U len:=by unfold Z53; rw [hl,hM]; exact hF
 have h2:fiH s.U len=(a:Int):=by unfold fiH; rw [hl]; exact ha
 have h3:fiR N s.U s.R len=R1:=by unfold fiR; rw [if_pos h1,h2,hq,hl]; exact hR
 refine⟨?_,h1,h2,h3⟩
 unfold fiS
 rw [h3,hl,hV]
end Go.Proofs.YtbnnhffkbcekcaaGreatDoor.dirDone
end
section
namespace Go.Eng
open Go
theorem Z02.cutM{X:Cx}{c:Code}{k:List It}{fr:List AV}{L:Z01}{ι:Type}(ms:List Bool)(us:ι→List (Nat×AV))(Lf:ι→Z01)
  (h1:Z02 X (.code c::.chk (fun fr' L'=>∃i,Z06 X.B.L fr' L' (Zg7 (us i) (Z5l ms fr),Lf i))::k) fr L) (h2:∀i,Z02 X k (Zg7 (us i) (Z5l ms fr)) (Lf i)):Z02 X (.code c::k) fr L:=
 Z02.cut _ h1 (fun _ _ ⟨i,hi⟩=>Z02.weak hi (h2 i))
end Go.Eng
namespace Go.Proofs.YtbnnhffkbcekcaaGreatDoor.dirDone
open Go Go.Eng Go.Proofs Go.Lib
def bI(F:List Fl)(Lv U:List Int)(S:List Sec)(W:List Wr)(N:Nat)(R:List Wr)(rub:List Int)(v:Nat):Z01:=[.row [.ref 1 0 0,.ref 2 0 0,.ref 3 0 0,.ref 4 0 0] 4 0,
 .row [.msl 5 0 0 S.length,.msl 6 W.length 0 W.length] 2 0,
 .row [.ref 1 0 0,.sl (F.flatMap flC) F.length,.msl 11 Lv.length 0 Lv.length,.msl 8 0 0 U.length] 4 0,
 .row [.sl ((noN N).map AV.str) N,.msl 9 R.length 0 R.length] 2 0,
 .row [.ref 3 0 0,.sl (F.flatMap flC) F.length,.sl (Lv.map (AV.int .i64)) Lv.length,.msl 10 0 0 U.length] 4 0,
 .row (S.flatMap Z1T) 1024 0,.row (W.flatMap wrC) 1025 W.length,.row (rub.map (AV.int .i64)) 1 v,.row (U.map (AV.int .i64)) 1 0,.row (R.flatMap wrR) 2 R.length,.row (U.map (AV.int .i64)) 1 0,
 .row (Lv.map (AV.int .i64)) 1 Lv.length]
def bIH(N:Nat)(s:St)(rub:List Int)(v:Nat):Z01:=bI s.F s.Lv s.U (sOf N s.R) (wOf N s.R) N s.R rub v
def Z84(N:Nat)(s:St)(nm:List UInt8)(len:Int):Z01:=
 if fiC N s nm len then bIH N (fileS N s nm len) (s.Lv++inG s.F nm) (s.Lv.length+1) else bH N (fileS N s nm len)
def k67:List Fl×List Int×List Int×Nat×List Wr×Int×List UInt8×List UInt8×Int×Int×List UInt8→Ct:=fun (F,Lv,U,N,R,kd,nm,to,n,len,r)=>⟨([.ref 0 0 0,.agg [.int .i64 kd,.str nm,.str to,.int .i64 n,.int .i64 len,.str r]],bK F Lv U (sOf N R) (wOf N R) N R),inv N ⟨F,Lv,U,R⟩∧N≤1024∧nm.length≤1048576,.bool true,Z84 N ⟨F,Lv,U,R⟩ nm len⟩
theorem inj67:∀a b,(k67 a).a=(k67 b).a→a=b:=by
 rintro⟨F,Lv,U,N,R,kd,nm,to,n,len,r⟩ ⟨F',Lv',U',N',R',kd',nm',to',n',len',r'⟩ h
 simp only [k67,Z0g,Z0h,Z0k,Z0j,UInt8.toNat_inj,Z09,Z0c,Z0x,Z0o,Z1g,Z19,Z1L,Z0z,Z0E,Z0P,Z0I,Z0y,Z2R,Z4n,bK,Z0A,List.cons.injEq] at h
 simp_all only
noncomputable def S67:Z0n:=Z0W true k67
theorem ks67(F:List Fl)(Lv U:List Int)(N:Nat)(R:List Wr)(kd:Int)(nm to:List UInt8)(n len:Int)(r:List UInt8):KS k67 ([.ref 0 0 0,.agg [.int .i64 kd,.str nm,.str to,.int .i64 n,.int .i64 len,.str r]],bK F Lv U (sOf N R) (wOf N R) N R) (inv N ⟨F,Lv,U,R⟩∧N≤1024∧nm.length≤1048576) (.bool true) (Z84 N ⟨F,Lv,U,R⟩ nm len):=kat inj67 (F,Lv,U,N,R,kd,nm,to,n,len,r)
attribute [push_cast] S67 ks67
theorem body67(Γ:Env)(h110:Γ 110=some S110)(h33:Γ 33=some S33)(h71:Γ 71=some S71)(h118:Γ 118=some S118)(h119:Γ 119=some S119)(h34:Γ 34=some S34)(h68:Γ 68=some S68)(h32:Γ 32=some S32)(h72:Γ 72=some S72)(F:List Fl)(Lv U:List Int)(N:Nat)(R:List Wr)(kd:Int)(nm to:List UInt8)(n len:Int)(r:List UInt8)(hi:inv N ⟨F,Lv,U,R⟩)(hN:N≤1024)(hnm:nm.length≤1048576) :
  Z08 Tryz.prog Γ Tryz.f67 [.ref 0 0 0,.agg [.int .i64 kd,.str nm,.str to,.int .i64 n,.int .i64 len,.str r]] (bK F Lv U (sOf N R) (wOf N R) N R) (.bool true) (Z84 N ⟨F,Lv,U,R⟩ nm len):=by
 have hS:=Z0r N R
 have hW:=Z0F N R
 have hU:U.length=N:=hi.2.2.2.2.1
 have hR:R.length≤4096:=hi.2.2.2.2.2.1
 obtain⟨q,hq⟩:∃q,cut5 len=q:=⟨_,rfl⟩
 have hq5:q<5000:=by rw [←hq]; exact ZfF len
 have tl:=Int.tmod_lt_of_pos len (show (0:Int)<5000 by decide)
 obtain⟨M,hM⟩:∃M,cuM len=M:=⟨_,rfl⟩
 have hMq:hdN (q:Int)=M:=by rw [←hM,←hq]; rfl
 have hM5:M≤5:=by rw [←hM]; exact Zmb len
 generalize hZ:Z84 N ⟨F,Lv,U,R⟩ nm len=Z
 generalize eS:sOf N R=S at *
 generalize eW:wOf N R=W at *
 unfold bK
 rw [hU]
 refine stt 157 [.tmp 4] fun X hP hΓ hL hfin=>?_; refine ZlH 5 ?_
 refine Z02.cutM (ι:=Unit) [tt,ff,ff,tt,tt,ff,ff,ff,ff,ff,ff,ff,ff,ff,ff,ff,ff,ff,ff,ff,ff,ff,ff,ff,ff,ff,ff,ff,ff,ff,ff,ff,ff,ff,ff,ff,ff,ff,ff,ff,ff,ff,ff,ff,ff,ff,ff,ff,ff,ff,ff,ff,ff,ff,ff,ff,ff,ff,ff,ff,ff,ff,ff,ff,ff,ff,ff,ff,ff,ff,ff,ff,ff,ff,ff,ff,ff,ff,ff,ff,ff,ff,ff,ff,ff,ff,ff,ff,ff,ff,ff,ff,ff,ff,ff,ff,ff,ff,ff,ff,ff,ff,ff,ff,ff,ff,ff,ff,ff,ff,ff,ff,ff,ff,ff,ff,ff,ff,ff,ff,ff,ff,ff,ff,ff,ff,ff,ff,ff,ff,ff,ff,ff,ff,ff,ff,ff,ff,ff,ff,ff,ff,ff,ff,ff,ff,ff,ff,ff,ff,ff,ff,ff,ff,ff,ff,ff] (fun i=>[(5,.int .i64 q)]) (fun i=>[.row [.ref 1 0 0,.ref 2 0 0,.ref 3 0 0,.ref 4 0 0] 4 0,.row [.msl 5 0 0 S.length,.msl 6 W.length 0 W.length] 2 0,.row [.ref 1 0 0,.sl (F.flatMap flC) F.length,.msl 7 Lv.length 0 Lv.length,.msl 8 0 0 N] 4 0,.row [.sl ((noN N).map AV.str) N,.msl 9 R.length 0 R.length] 2 0,.row [.ref 3 0 0,.sl (F.flatMap flC) F.length,.sl (Lv.map (AV.int .i64)) Lv.length,.msl 10 0 0 N] 4 0,.row (S.flatMap Z1T) 1024 0,.row (W.flatMap wrC) 1025 W.length,.row (Lv.map (AV.int .i64)) 1 Lv.length,.row (U.map (AV.int .i64)) 1 0,.row (R.flatMap wrR) 2 R.length,.row (U.map (AV.int .i64)) 1 0,.row [.int .i64 kd,.str nm,.str to,.int .i64 n,.int .i64 len,.str r] 6 0]) ?_ ?_
 ·by_cases c:len.tmod 5000<0
  ·have d:decide (len.tmod 5000<0)=true:=decide_eq_true c
   obtain rfl:q=0:=by rw [←hq]; unfold cut5; omega
   refine gxq d ?_
   refine⟨(),?_⟩
   exact Z06.sameA
  ·have d:decide (len.tmod 5000<0)=false:=decide_eq_false c
   have e:len.tmod 5000=(q:Int):=by rw [←hq]; unfold cut5; omega
   refine gxq d ?_
   rw [e]
   refine⟨(),?_⟩
   exact Z06.sameA
 rintro⟨⟩
 refine Z50 5 ?_
 refine Z02.nilS 6 1 rfl ?_
 simp only [push_cast,reduceCtorEq,Nat.reduceAdd,Nat.reduceMul,Nat.reduceSub,Nat.reduceBEq,Nat.reduceGT,Nat.reduceLT,Int.toNat_zero,Nat.reduceLeDiff,Int.reduceEq,Int.reduceLT,Int.reduceLE,List.set_cons_succ,List.set_cons_zero,List.cons_append,List.nil_append]
 obtain⟨t1,t2,t3⟩:=Z7t U (M+1)
 have hl1:fiL U len=tkL U (M+1):=by unfold fiL; rw [hM]
 obtain⟨V1,hV1⟩:∃V1,tkV U (M+1)=V1:=⟨_,rfl⟩
 obtain⟨l1,hl⟩:∃l1,tkL U (M+1)=l1:=⟨_,rfl⟩
 have htk:tks (M+1) U []=(V1,l1):=by rw [←hV1,←hl]; rfl
 rw [hl] at hl1
 rw [hl,hV1] at t1
 rw [hl] at t2 t3
 clear hl hV1
 refine Z02.cutM (ι:=Unit) [tt,ff,ff,tt,ff,tt,ff,ff,ff,ff,ff,ff,ff,ff,ff,ff,ff,ff,ff,ff,ff,ff,ff,ff,ff,ff,ff,ff,ff,ff,ff,ff,ff,ff,ff,ff,ff,ff,ff,ff,ff,ff,ff,ff,ff,ff,ff,ff,ff,ff,ff,ff,ff,ff,ff,ff,ff,ff,ff,ff,ff,ff,ff,ff,ff,ff,ff,ff,ff,ff,ff,ff,ff,ff,ff,ff,ff,ff,ff,ff,ff,ff,ff,ff,ff,ff,ff,ff,ff,ff,ff,ff,ff,ff,ff,ff,ff,ff,ff,ff,ff,ff,ff,ff,ff,ff,ff,ff,ff,ff,ff,ff,ff,ff,ff,ff,ff,ff,ff,ff,ff,ff,ff,ff,ff,ff,ff,ff,ff,ff,ff,ff,ff,ff,ff,ff,ff,ff,ff,ff,ff,ff,ff,ff,ff,ff,ff,ff,ff,ff,ff,ff,ff,ff,ff,ff,ff] (fun i=>[(6,.msl 12 l1.length 0 l1.length)]) (fun i=>[.row [.ref 1 0 0,.ref 2 0 0,.ref 3 0 0,.ref 4 0 0] 4 0,.row [.msl 5 0 0 S.length,.msl 6 W.length 0 W.length] 2 0,.row [.ref 1 0 0,.sl (F.flatMap flC) F.length,.msl 7 Lv.length 0 Lv.length,.msl 8 0 0 N] 4 0,.row [.sl ((noN N).map AV.str) N,.msl 9 R.length 0 R.length] 2 0,.row [.ref 3 0 0,.sl (F.flatMap flC) F.length,.sl (Lv.map (AV.int .i64)) Lv.length,.msl 10 0 0 N] 4 0,.row (S.flatMap Z1T) 1024 0,.row (W.flatMap wrC) 1025 W.length,.row (Lv.map (AV.int .i64)) 1 Lv.length,.row (V1.map (AV.int .i64)) 1 0,.row (R.flatMap wrR) 2 R.length,.row (V1.map (AV.int .i64)) 1 0,.row [.int .i64 kd,.str nm,.str to,.int .i64 n,.int .i64 len,.str r] 6 0,.row (l1.map (AV.int .i64)) 1 l1.length]) ?_ ?_
 ·refine Z02.peelB ?_
  refine Z02.loopM (ι:={p:Nat×List Int×List Int // p.1≤M+1∧p.2.1.length=N∧p.2.2.length=p.1∧tks (M+1) U []=tks (M+1 - p.1) p.2.1 p.2.2}) [tt,ff,ff,tt,ff,tt,ff,ff,ff,ff,ff,ff,tt,tt,tt,tt,tt,tt,tt,tt,ff,ff,ff,ff,ff,ff,ff,ff,ff,ff,ff,ff,ff,ff,ff,ff,ff,ff,ff,ff,ff,ff,ff,ff,ff,ff,ff,ff,ff,ff,ff,ff,ff,ff,ff,ff,ff,ff,ff,ff,ff,ff,ff,ff,ff,ff,ff,ff,ff,ff,ff,ff,ff,ff,ff,ff,ff,ff,ff,ff,ff,ff,ff,ff,ff,ff,ff,ff,ff,ff,ff,ff,ff,ff,ff,ff,ff,ff,ff,ff,ff,ff,ff,ff,ff,ff,ff,ff,ff,ff,ff,ff,ff,ff,ff,ff,ff,ff,ff,ff,ff,ff,ff,ff,ff,ff,ff,ff,ff,ff,ff,ff,ff,ff,ff,ff,ff,ff,ff,ff,ff,ff,ff,ff,ff,ff,ff,ff,ff,ff,ff,ff,ff,ff,ff,ff,ff] (fun i=>[(6,.msl 12 i.1.1 0 i.1.1),(7,.int .i64 i.1.1)]) (fun i=>[.row [.ref 1 0 0,.ref 2 0 0,.ref 3 0 0,.ref 4 0 0] 4 0,.row [.msl 5 0 0 S.length,.msl 6 W.length 0 W.length] 2 0,.row [.ref 1 0 0,.sl (F.flatMap flC) F.length,.msl 7 Lv.length 0 Lv.length,.msl 8 0 0 N] 4 0,.row [.sl ((noN N).map AV.str) N,.msl 9 R.length 0 R.length] 2 0,.row [.ref 3 0 0,.sl (F.flatMap flC) F.length,.sl (Lv.map (AV.int .i64)) Lv.length,.msl 10 0 0 N] 4 0,.row (S.flatMap Z1T) 1024 0,.row (W.flatMap wrC) 1025 W.length,.row (Lv.map (AV.int .i64)) 1 Lv.length,.row (i.1.2.1.map (AV.int .i64)) 1 0,.row (R.flatMap wrR) 2 R.length,.row (i.1.2.1.map (AV.int .i64)) 1 0,.row [.int .i64 kd,.str nm,.str to,.int .i64 n,.int .i64 len,.str r] 6 0,.row (i.1.2.2.map (AV.int .i64)) 1 i.1.1]) (fun i=>M+1 - i.1.1) ⟨(0,U,[]),Nat.zero_le _,hU,rfl,rfl⟩ ?_ ?_
  ·(rw [hL]; simp only [push_cast,Int.natCast_zero,List.map_nil]; exact Z06.sameA)
  rintro⟨⟨k,V,l⟩,hk,hV,hll,he⟩
  replace hk:k≤M+1:=hk
  replace hV:V.length=N:=hV
  replace hll:l.length=k:=hll
  replace he:tks (M+1) U []=tks (M+1 - k) V l:=he
  rw [htk] at he
  dsimp only
  have p110:=ZgP (q:Int)
  have r110:=Zgl (q:Int)
  have g110:=Zhq (q:Int)
  rw [hMq] at r110
  by_cases hk':k<M+1
  ·have dk:decide ((k:Int)≤(M:Int))=true:=decide_eq_true (by omega)
   have wk:IntKind.i64.wrap ((k:Int)+1)=(k:Int)+1:=wrq
   have hstep:tks (M+1 - k) V l=if (0:Int)∈V then tks (M+1 - (k+1)) (tkU V) (l++[Z2e V 0]) else (V,l):=by
    rw [show M+1 - k=(M+1 - (k+1))+1 by omega]; rfl
   rw [hstep] at he
   have ⟨p33,r33,g33⟩:=ks33 F Lv V S W
   have ⟨p71,r71,g71⟩:=ks71 F Lv V N R
   have tl:=Z3N V
   unfold Z0z at p33 r33 g33
   unfold Z0y at p71 r71 g71
   rw [tl] at g33 g71
   rw [hV] at p33 r33 g33 p71 r71 g71
   by_cases c0:(0:Int)∈V
   ·rw [if_pos c0] at he
    obtain⟨a,ha,hal,hag⟩:=Z2x c0
    have hR1:tkR V=.tup [.int .i64 (a:Nat),.int .i64 0]:=by unfold tkR; rw [ha,if_neg (by omega)]
    rw [hR1] at r33 r71
    rw [ha] at he
    have hla:(l++[(a:Int)]).length=k+1:=by rw [List.length_append,hll]; rfl
    have hlm:(l++[(a:Int)]).map (AV.int .i64)=l.map (AV.int .i64)++[AV.int .i64 a]:=by rw [List.map_append]; rfl
    refine gxq (ZhC h110 p110 r110 g110 dk h33 p33 r33 g33 h71 p71 r71 g71 wk) ?_
    refine⟨by omega,⟨by decide,by omega⟩,⟨by decide,by omega⟩,⟨hll,by omega⟩,⟨(k+1,tkU V,l++[(a:Int)]),(by omega:k+1≤M+1),tl.trans hV,hla,htk.trans he⟩,by simp only; omega,?_⟩
    dsimp only
    rw [hlm]
    exact Z06.sameA
   ·rw [if_neg c0] at he
    have hR1:tkR V=.tup [.int .i64 0,.int .i64 174]:=by unfold tkR Z2e; rw [if_neg c0]; rfl
    rw [hR1] at r33 r71
    have hU1:tkU V=V:=by unfold tkU Z2e; rw [if_neg c0]; rfl
    rw [hU1] at g33 g71
    obtain⟨rfl,rfl⟩:V1=V∧l1=l:=by simpa using he
    refine gxq (ZhC h110 p110 r110 g110 dk h33 p33 r33 g33 h71 p71 r71 g71 wk) ?_
    refine⟨by omega,⟨by decide,by omega⟩,⟨by decide,by omega⟩,(),?_⟩
    rw [hll]
    exact Z06.sameA
  ·obtain rfl:k=M+1:=by omega
   have dk:decide (((M+1:Nat):Int)≤(M:Int))=false:=decide_eq_false (by omega)
   have e0:tks (M+1 - (M+1)) V l=(V,l):=by rw [Nat.sub_self]; rfl
   rw [e0] at he
   obtain⟨rfl,rfl⟩:V1=V∧l1=l:=by simpa using he
   rw [show ((M+1:Nat):Int)=(M:Int)+1 by omega] at *
   refine gxq (cj5 h110 p110 r110 g110 dk) ?_
   refine⟨by omega,(),?_⟩
   rw [hll]
   exact Z06.sameA
 rintro⟨⟩
 dsimp only
 have hV1:V1.length=N:=by rw [t1,Z0w]; exact hU
 have p110:=ZgP (q:Int)
 have r110:=Zgl (q:Int)
 have g110:=Zhq (q:Int)
 rw [hMq] at r110
 have wM:IntKind.i64.wrap ((M:Int)+1)=(M:Int)+1:=wrq
 obtain⟨l1m,l1d⟩:=Z0p.1 t2
 by_cases hC:fiC N ⟨F,Lv,U,R⟩ nm len
 ·have hF:l1.length=M+1:=by have:=hC.1; unfold Z53 at this; rw [hl1,hM] at this; exact this
  have hcd':=hC.2
  unfold Z84 at hZ
  rw [if_pos hC] at hZ
  have dF:decide ((l1.length:Int)=(M:Int)+1)=true:=decide_eq_true (by omega)
  obtain⟨Q,hQ⟩:∃Q,Q=1024:=⟨_,rfl⟩
  have zQ:Int.toNat 1024=Q:=hQ.symm
  have zl:Z59.length=Q:=Z45.trans hQ.symm
  have zr:(List.replicate Q [AV.int .u8 0]).flatten=Z59.map Z05:=by rw [hQ]; exact Z4I 1024
  have p1:=Z9E Z59 0 0 826820163
  have r1:=Z9w Z59 0 0 826820163
  have g1:=Z9W Z59 0 0 826820163
  rw [show ((0:Nat):Int)=0 from rfl,show ((826820163:Nat):Int)=826820163 from rfl] at p1 r1 g1
  rw [zl] at p1 r1 g1
  obtain⟨b1,hb1⟩:∃b1,Z8t Z59 0 826820163=b1:=⟨_,rfl⟩
  have hb1l:b1.length=Q:=by rw [←hb1,Z4S _ _ _ (by rw [Z45]; decide)]; exact zl
  rw [hb1] at g1
  have p2:=Z9E b1 0 1 q
  have r2:=Z9w b1 0 1 q
  have g2:=Z9W b1 0 1 q
  rw [show ((1:Nat):Int)=1 from rfl] at p2 r2 g2
  rw [hb1l] at p2 r2 g2
  have wq:IntKind.u32.wrap (q:Int)=(q:Int):=Z5G _ (by omega)
  have h0:Z8t b1 1 q=Z5I q l1 0:=by rw [←hb1]; rfl
  rw [h0] at g2
  refine gxq (Zk7 h110 p110 r110 g110 wM dF zQ zr h118 p1 r1 g1 p2 r2 g2 wq) ?_
  refine⟨by omega,by decide,⟨by omega,by omega⟩,⟨by omega,by omega,by omega⟩,?_⟩
  clear p1 r1 g1 p2 r2 g2
  obtain⟨o,ho⟩:∃o:Nat,o=1:=⟨_,rfl⟩
  refine Z02.loopM (ι:={j:Nat // 1≤j∧j≤l1.length}) [tt,ff,ff,tt,tt,tt,tt,ff,ff,ff,ff,ff,tt,tt,tt,ff,tt,tt,tt,tt,ff,ff,ff,ff,ff,ff,ff,ff,ff,ff,ff,ff,ff,ff,ff,ff,ff,ff,ff,ff,ff,ff,ff,ff,ff,ff,ff,ff,ff,ff,ff,ff,ff,ff,ff,ff,ff,ff,ff,ff,ff,ff,ff,ff,ff,ff,ff,ff,ff,ff,ff,ff,ff,ff,ff,ff,ff,ff,ff,ff,ff,ff,ff,ff,ff,ff,ff,ff,ff,ff,ff,ff,ff,ff,ff,ff,ff,ff,ff,ff,ff,ff,ff,ff,ff,ff,ff,ff,ff,ff,ff,ff,ff,ff,ff,ff,ff,ff,ff,ff,ff,ff,ff,ff,ff,ff,ff,ff,ff,ff,ff,ff,ff,ff,ff,ff,ff,ff,ff,ff,ff,ff,ff,ff,ff,ff,ff,ff,ff,ff,ff,ff,ff,ff,ff,ff,ff] (fun i=>[(15,.int .i64 i.1)]) (fun i=>[.row [.ref 1 0 0,.ref 2 0 0,.ref 3 0 0,.ref 4 0 0] 4 0,.row [.msl 5 0 0 S.length,.msl 6 W.length 0 W.length] 2 0,.row [.ref 1 0 0,.sl (F.flatMap flC) F.length,.msl 7 Lv.length 0 Lv.length,.msl 8 0 0 N] 4 0,.row [.sl ((noN N).map AV.str) N,.msl 9 R.length 0 R.length] 2 0,.row [.ref 3 0 0,.sl (F.flatMap flC) F.length,.sl (Lv.map (AV.int .i64)) Lv.length,.msl 10 0 0 N] 4 0,.row (S.flatMap Z1T) 1024 0,.row (W.flatMap wrC) 1025 W.length,.row (Lv.map (AV.int .i64)) 1 Lv.length,.row (V1.map (AV.int .i64)) 1 0,.row (R.flatMap wrR) 2 R.length,.row (V1.map (AV.int .i64)) 1 0,.row [.int .i64 kd,.str nm,.str to,.int .i64 n,.int .i64 len,.str r] 6 0,.row (l1.map (AV.int .i64)) 1 l1.length,.row ((Z5I q l1 (i.1 - 1)).map Z05) 1 0]) (fun i=>l1.length - i.1) ⟨o,by omega,by omega⟩ ?_ ?_
  ·have ho':(1:Int)=(o:Int):=by omega
   rw [ho',show o - 1=0 by omega]
   (rw [hL]; simp only [push_cast,Int.natCast_zero]; exact Z06.sameA)
  rintro⟨j,hj1,hj⟩
  dsimp only
  have hjl:(Z5I q l1 (j - 1)).length=Q:=(Z7Y q l1 (j - 1) (by omega)).trans hQ.symm
  by_cases hj':j<l1.length
  ·have dj:decide ((j:Int)<(l1.length:Int))=true:=decide_eq_true (by omega)
   have wj:IntKind.i64.wrap ((j:Int)+1)=((j+1:Nat):Int):=wrq
   obtain⟨jj,hjj⟩:∃jj:Nat,jj=1+j:=⟨_,rfl⟩
   have w1:IntKind.i64.wrap (1+(j:Int))=(jj:Int):=by rw [show 1+(j:Int)=(jj:Int) by omega]; exact Z0t _ (by constructor <;> omega)
   have hx:=l1m _ (show l1.getD j default∈l1 by rw [Z0m hj']; exact List.getElem_mem hj')
   obtain⟨a,ha⟩:=Int.eq_ofNat_of_zero_le hx.1
   have wa:IntKind.u32.wrap (a:Int)=(a:Int):=Z5G _ (by omega)
   have p3:=Z9E (Z5I q l1 (j - 1)) 0 jj a
   have r3:=Z9w (Z5I q l1 (j - 1)) 0 jj a
   have g3:=Z9W (Z5I q l1 (j - 1)) 0 jj a
   rw [hjl] at p3 r3 g3
   have hst:Z8t (Z5I q l1 (j - 1)) jj a=Z5I q l1 (j+1 - 1):=by
    obtain⟨k,rfl⟩:∃k,j=k+1:=⟨j - 1,by omega⟩
    have:Z5I q l1 (k+1)=Z8t (Z5I q l1 k) (1+(k+1)) (l1.getD (k+1) default).toNat:=rfl
    rw [show k+1+1 - 1=k+1 by omega,this,ha,Int.toNat_natCast,hjj]; rfl
   rw [hst] at g3
   refine gxq (Zkm dj wj w1 ha wa hj' h118 p3 r3 g3) ?_
   refine⟨by omega,⟨by omega,by omega⟩,⟨by omega,by omega,by omega⟩,⟨j+1,by omega,hj'⟩,by simp only; omega,?_⟩
   exact Z06.sameA
  obtain rfl:j=l1.length:=by omega
  have dj:decide ((l1.length:Int)<(l1.length:Int))=false:=decide_eq_false (by omega)
  have hB:Z5I q l1 (l1.length - 1)=Zc1 q l1:=rfl
  rw [hB] at hjl ⊢
  obtain⟨a,ha⟩:=Int.eq_ofNat_of_zero_le (l1m _ (show l1.getD 0 default∈l1 by rw [Z0m (by omega)]; exact List.getElem_mem (by omega))).1
  have h0l:0<l1.length:=by omega
  have tQ:List.take Q (List.map Z05 (Zc1 q l1))=List.map Z05 (Zc1 q l1):=List.take_of_length_le (by rw [List.length_map,hjl]; exact Nat.le_refl _)
  have ⟨p3,r3,g3⟩:=ks119 F Lv V1 N R (a:Int) (Zc1 q l1)
  rw [eS,eW,hjl] at p3 r3 g3
  obtain⟨R1,hR1⟩:∃R1,rwW N R (a:Int) (Zc1 q l1)=R1:=⟨_,rfl⟩
  rw [hR1] at g3
  have hR1l:R1.length≤4096:=by rw [←hR1]; exact Z2J _ _ _ _ hR
  have hS1:=Z0r N R1
  have hW1:=Z0F N R1
  obtain⟨f1,f2,f3,f4⟩:=Zil (s:=⟨F,Lv,U,R⟩) hM hq hl1 hF ha t1 hR1
  have i1:=Z6y (len:=len) hi
  rw [f1] at i1
  unfold bK at p3 r3 g3
  rw [hV1] at p3 r3 g3
  have ⟨p34,r34,g34⟩:=ks34 F Lv V1 (sOf N R1) (wOf N R1) nm a q
  have ⟨p68,r68,g68⟩:=ks68 F Lv V1 N R1 nm a q
  rw [←Z6q (Z0F N R1)] at r68
  obtain⟨j1,j2,j3,j4,j5,j6,j7⟩:=i1
  have k34:∀f∈F,Z1p f∧f.se.length≤1000000:=fun f hf=>⟨(j3 f hf).1,by have:=(j3 f hf).2; omega⟩
  have j4':Lv.length≤7:=j4
  have j2':F.length≤200:=j2
  refine gnq 2 dj ?_
  refine Z02.frz 13 (by rw [hL]; simp) smf (gsq ?_)
  refine gxq (cj8 dj ha h0l tQ h119 p3 r3 g3) ?_
  refine⟨by omega,by omega,⟨by decide,hR,by omega⟩,?_⟩
  (refine Z02.dE (Z1s [.any,.any,.any,.any,.any,.any,.any,.any,.any,.any,.any,.fix (.row [.int .i64 kd,.str nm,.str to,.int .i64 n,.int .i64 len,.str r] 6 0),.fix (.row (l1.map (AV.int .i64)) 1 l1.length)]) [7,8] [] [] true (gyq (cj2 ha h0l) ?_))
  refine⟨by omega,⟨by omega,by omega⟩,?_⟩
  have hcd:inR F V1 (sOf N R1) (wOf N R1) nm a q=0:=by rw [f1,f3,hq] at hcd'; exact hcd'
  obtain⟨z1,z2⟩:=Z8M (s:=⟨F,Lv,V1,R1⟩) (by omega) ⟨j1,j2,j3,j4,j5,j6,j7⟩ hcd
  have i2:=(Z4W (nm:=nm) (h:=(a:Int)) (ln:=(q:Int)) (show N≤4096 by omega) (show inv N ⟨F,Lv,V1,R1⟩ from ⟨j1,j2,j3,j4,j5,j6,j7⟩)).1
  have hs2:fileS N ⟨F,Lv,U,R⟩ nm len=insS N ⟨F,Lv,V1,R1⟩ nm a q:=by unfold fileS; rw [if_pos hC,f1,f3,hq]
  rw [hs2] at hZ
  dsimp only at z1 z2 hZ hcd
  rw [z1] at g34
  rw [z2] at g68
  rw [hcd] at r34 r68
  clear z1 z2 hs2
  generalize insS N ⟨F,Lv,V1,R1⟩ nm a q=s2 at *
  obtain⟨F2,Lv2,U2,R2⟩:=s2
  have hU2:U2.length=N:=i2.2.2.2.2.1
  dsimp only at *
  have hS2:=Z0r N R2
  unfold bIH bI at hZ
  dsimp only at hZ
  generalize sOf N R2=S2 at *
  generalize wOf N R2=W2 at *
  generalize sOf N R1=S1 at *
  generalize wOf N R1=W1 at *
  unfold Z0z at p34 r34 g34
  unfold Zc2 at g34
  unfold Z0y at p68 r68 g68
  rw [hV1] at p34 r34 g34 p68 r68 g68
  rw [hU2] at g34 g68 hZ
  refine Z02.peel ?_
  (refine Z02.dE (Z1s [.fix (.row [.ref 1 0 0,.ref 2 0 0,.ref 3 0 0,.ref 4 0 0] 4 0),.any,.any,.any,.any,.any,.any,.any,.any,.any,.any,.fix (.row [.int .i64 kd,.str nm,.str to,.int .i64 n,.int .i64 len,.str r] 6 0),.fix (.row (l1.map (AV.int .i64)) 1 l1.length),.any,.fix (.row [.str nm,.int .i64 a,.int .i64 q] 3 0)]) [0,1,2,3,4,5,6] [] [] false (gyq (cj4 h34 p34 r34 g34) ?_))
  refine⟨⟨by decide,j2,j1,k34,by omega,by omega,by omega,by omega,hnm⟩,?_⟩
  (refine Z02.dE (Z1s [.fix (.row [.ref 1 0 0,.ref 2 0 0,.ref 3 0 0,.ref 4 0 0] 4 0),.any,.any,.any,.any,.any,.any,.any,.any,.any,.any,.fix (.row [.int .i64 kd,.str nm,.str to,.int .i64 n,.int .i64 len,.str r] 6 0),.fix (.row (l1.map (AV.int .i64)) 1 l1.length),.any,.fix (.row [.str nm,.int .i64 a,.int .i64 q] 3 0)]) [0,1,2,3,4,5,6] [] [] false (gyq (cj4 h68 p68 r68 g68) ?_))
  refine⟨⟨by decide,j2,j3,by omega,by omega,hR1l,hnm⟩,?_⟩
  refine Z0G ?_
  refine Z02.loopM (ι:=Unit) [tt,ff,ff,ff,ff,ff,tt,ff,ff,ff,ff,ff,tt,tt,ff,ff,ff,ff,ff,ff,ff,ff,ff,ff,ff,ff,ff,ff,ff,ff,ff,ff,ff,ff,ff,ff,ff,ff,ff,ff,ff,ff,ff,ff,ff,ff,ff,ff,ff,ff,ff,ff,ff,ff,ff,ff,ff,ff,ff,ff,ff,ff,ff,ff,ff,ff,ff,ff,ff,ff,ff,ff,ff,ff,ff,ff,ff,ff,ff,ff,ff,ff,ff,ff,ff,ff,ff,ff,ff,ff,ff,ff,ff,ff,ff,ff,ff,ff,ff,ff,ff,ff,ff,ff,ff,ff,ff,ff,ff,ff,ff,ff,ff,ff,ff,ff,ff,ff,ff,ff,ff,ff,ff,ff,ff,ff,ff,ff,ff,ff,ff,ff,ff,ff,ff,ff,ff,ff,ff,ff,ff,ff,ff,ff,ff,ff,ff,ff,ff,ff,ff,ff,ff,ff,ff,ff,ff] (fun i=>[(12,.int .i64 0),(13,.int .i64 0),(17,.int .i64 0)]) (fun i=>[.row [.ref 1 0 0,.ref 2 0 0,.ref 3 0 0,.ref 4 0 0] 4 0,.row [.msl 5 0 0 S2.length,.msl 6 W2.length 0 W2.length] 2 0,.row [.ref 1 0 0,.sl (F2.flatMap flC) F2.length,.msl 15 Lv2.length 0 Lv2.length,.msl 8 0 0 N] 4 0,.row [.sl ((noN N).map AV.str) N,.msl 9 R2.length 0 R2.length] 2 0,.row [.ref 3 0 0,.sl (F2.flatMap flC) F2.length,.sl (Lv2.map (AV.int .i64)) Lv2.length,.msl 10 0 0 N] 4 0,.row (S2.flatMap Z1T) 1024 0,.row (W2.flatMap wrC) 1025 W2.length,.row ((Lv++inG F nm).map (AV.int .i64)) 1 (Lv.length+1),.row (U2.map (AV.int .i64)) 1 0,.row (R2.flatMap wrR) 2 R2.length,.row (U2.map (AV.int .i64)) 1 0,.row [.int .i64 kd,.str nm,.str to,.int .i64 n,.int .i64 len,.str r] 6 0,.row (l1.map (AV.int .i64)) 1 l1.length,.dead,.row [.str nm,.int .i64 a,.int .i64 q] 3 0,.row (Lv2.map (AV.int .i64)) 1 Lv2.length]) (fun i=>0) () ?_ ?_
  ·(rw [hL]; simp only [push_cast,Int.natCast_zero]; exact Z06.sameA)
  rintro⟨⟩
  have d0:decide ((0:Int)<(l1.length:Int))=true:=decide_eq_true (by omega)
  refine gxq d0 ?_
  rw [←hZ]
  exact Z0q.base [0,1,2,3,4,5,6,7,8,9,10,15] ⟨sml,smr,(by decide),(by first | rfl | decide),sm,sm⟩ smd
 have hcut:True:=trivial
 unfold Z84 at hZ
 rw [if_neg hC] at hZ
 have hs2:fileS N ⟨F,Lv,U,R⟩ nm len=⟨F,Lv,U,fiR N U R len⟩:=by unfold fileS; rw [if_neg hC]
 rw [hs2] at hZ
 refine Z50 5 ?_
 refine Z02.cutM (ι:={cd:Int // cd≠0}) [tt,ff,ff,tt,ff,tt,tt,ff,ff,ff,ff,ff,ff,ff,ff,ff,ff,ff,ff,ff,ff,ff,ff,ff,ff,ff,ff,ff,ff,ff,ff,ff,ff,ff,ff,ff,ff,ff,ff,ff,ff,ff,ff,ff,ff,ff,ff,ff,ff,ff,ff,ff,ff,ff,ff,ff,ff,ff,ff,ff,ff,ff,ff,ff,ff,ff,ff,ff,ff,ff,ff,ff,ff,ff,ff,ff,ff,ff,ff,ff,ff,ff,ff,ff,ff,ff,ff,ff,ff,ff,ff,ff,ff,ff,ff,ff,ff,ff,ff,ff,ff,ff,ff,ff,ff,ff,ff,ff,ff,ff,ff,ff,ff,ff,ff,ff,ff,ff,ff,ff,ff,ff,ff,ff,ff,ff,ff,ff,ff,ff,ff,ff,ff,ff,ff,ff,ff,ff,ff,ff,ff,ff,ff,ff,ff,ff,ff,ff,ff,ff,ff,ff,ff,ff,ff,ff,ff] (fun i=>[(12,.int .i64 i.1),(13,.int .i64 i.1)]) (fun i=>[.row [.ref 1 0 0,.ref 2 0 0,.ref 3 0 0,.ref 4 0 0] 4 0,.row [.msl 5 0 0 (sOf N (fiR N U R len)).length,.msl 6 (wOf N (fiR N U R len)).length 0 (wOf N (fiR N U R len)).length] 2 0,.row [.ref 1 0 0,.sl (F.flatMap flC) F.length,.msl 7 Lv.length 0 Lv.length,.msl 8 0 0 N] 4 0,.row [.sl ((noN N).map AV.str) N,.msl 9 (fiR N U R len).length 0 (fiR N U R len).length] 2 0,.row [.ref 3 0 0,.sl (F.flatMap flC) F.length,.sl (Lv.map (AV.int .i64)) Lv.length,.msl 10 0 0 N] 4 0,.row ((sOf N (fiR N U R len)).flatMap Z1T) 1024 0,.row ((wOf N (fiR N U R len)).flatMap wrC) 1025 (wOf N (fiR N U R len)).length,.row (Lv.map (AV.int .i64)) 1 Lv.length,.row (V1.map (AV.int .i64)) 1 0,.row ((fiR N U R len).flatMap wrR) 2 (fiR N U R len).length,.row (V1.map (AV.int .i64)) 1 0,.row [.int .i64 kd,.str nm,.str to,.int .i64 n,.int .i64 len,.str r] 6 0,.row (l1.map (AV.int .i64)) 1 l1.length]) ?_ ?_
 ·by_cases hF:l1.length=M+1
  case neg=>
   have dF:decide ((l1.length:Int)=(M:Int)+1)=false:=decide_eq_false (by omega)
   have hfR:fiR N U R len=R:=by unfold fiR; rw [if_neg (fun h=>hF (by unfold Z53 at h; rw [hl1,hM] at h; exact h))]
   rw [hfR,eS,eW]
   refine gxq (cj6 h110 p110 r110 g110 wM dF) ?_
   refine⟨by omega,⟨174,by decide⟩,?_⟩
   exact Z06.sameA
  have dF:decide ((l1.length:Int)=(M:Int)+1)=true:=decide_eq_true (by omega)
  obtain⟨Q,hQ⟩:∃Q,Q=1024:=⟨_,rfl⟩
  have zQ:Int.toNat 1024=Q:=hQ.symm
  have zl:Z59.length=Q:=Z45.trans hQ.symm
  have zr:(List.replicate Q [AV.int .u8 0]).flatten=Z59.map Z05:=by rw [hQ]; exact Z4I 1024
  have p1:=Z9E Z59 0 0 826820163
  have r1:=Z9w Z59 0 0 826820163
  have g1:=Z9W Z59 0 0 826820163
  rw [show ((0:Nat):Int)=0 from rfl,show ((826820163:Nat):Int)=826820163 from rfl] at p1 r1 g1
  rw [zl] at p1 r1 g1
  obtain⟨b1,hb1⟩:∃b1,Z8t Z59 0 826820163=b1:=⟨_,rfl⟩
  have hb1l:b1.length=Q:=by rw [←hb1,Z4S _ _ _ (by rw [Z45]; decide)]; exact zl
  rw [hb1] at g1
  have p2:=Z9E b1 0 1 q
  have r2:=Z9w b1 0 1 q
  have g2:=Z9W b1 0 1 q
  rw [show ((1:Nat):Int)=1 from rfl] at p2 r2 g2
  rw [hb1l] at p2 r2 g2
  have wq:IntKind.u32.wrap (q:Int)=(q:Int):=Z5G _ (by omega)
  have h0:Z8t b1 1 q=Z5I q l1 0:=by rw [←hb1]; rfl
  rw [h0] at g2
  refine gxq (Zk7 h110 p110 r110 g110 wM dF zQ zr h118 p1 r1 g1 p2 r2 g2 wq) ?_
  refine⟨by omega,by decide,⟨by omega,by omega⟩,⟨by omega,by omega,by omega⟩,?_⟩
  clear p1 r1 g1 p2 r2 g2
  obtain⟨o,ho⟩:∃o:Nat,o=1:=⟨_,rfl⟩
  refine Z02.loopM (ι:={j:Nat // 1≤j∧j≤l1.length}) [tt,ff,ff,tt,tt,tt,tt,ff,ff,ff,ff,ff,tt,tt,tt,ff,tt,tt,tt,tt,ff,ff,ff,ff,ff,ff,ff,ff,ff,ff,ff,ff,ff,ff,ff,ff,ff,ff,ff,ff,ff,ff,ff,ff,ff,ff,ff,ff,ff,ff,ff,ff,ff,ff,ff,ff,ff,ff,ff,ff,ff,ff,ff,ff,ff,ff,ff,ff,ff,ff,ff,ff,ff,ff,ff,ff,ff,ff,ff,ff,ff,ff,ff,ff,ff,ff,ff,ff,ff,ff,ff,ff,ff,ff,ff,ff,ff,ff,ff,ff,ff,ff,ff,ff,ff,ff,ff,ff,ff,ff,ff,ff,ff,ff,ff,ff,ff,ff,ff,ff,ff,ff,ff,ff,ff,ff,ff,ff,ff,ff,ff,ff,ff,ff,ff,ff,ff,ff,ff,ff,ff,ff,ff,ff,ff,ff,ff,ff,ff,ff,ff,ff,ff,ff,ff,ff,ff] (fun i=>[(15,.int .i64 i.1)]) (fun i=>[.row [.ref 1 0 0,.ref 2 0 0,.ref 3 0 0,.ref 4 0 0] 4 0,.row [.msl 5 0 0 S.length,.msl 6 W.length 0 W.length] 2 0,.row [.ref 1 0 0,.sl (F.flatMap flC) F.length,.msl 7 Lv.length 0 Lv.length,.msl 8 0 0 N] 4 0,.row [.sl ((noN N).map AV.str) N,.msl 9 R.length 0 R.length] 2 0,.row [.ref 3 0 0,.sl (F.flatMap flC) F.length,.sl (Lv.map (AV.int .i64)) Lv.length,.msl 10 0 0 N] 4 0,.row (S.flatMap Z1T) 1024 0,.row (W.flatMap wrC) 1025 W.length,.row (Lv.map (AV.int .i64)) 1 Lv.length,.row (V1.map (AV.int .i64)) 1 0,.row (R.flatMap wrR) 2 R.length,.row (V1.map (AV.int .i64)) 1 0,.row [.int .i64 kd,.str nm,.str to,.int .i64 n,.int .i64 len,.str r] 6 0,.row (l1.map (AV.int .i64)) 1 l1.length,.row ((Z5I q l1 (i.1 - 1)).map Z05) 1 0]) (fun i=>l1.length - i.1) ⟨o,by omega,by omega⟩ ?_ ?_
  ·have ho':(1:Int)=(o:Int):=by omega
   rw [ho',show o - 1=0 by omega]
   (rw [hL]; simp only [push_cast,Int.natCast_zero]; exact Z06.sameA)
  rintro⟨j,hj1,hj⟩
  dsimp only
  have hjl:(Z5I q l1 (j - 1)).length=Q:=(Z7Y q l1 (j - 1) (by omega)).trans hQ.symm
  by_cases hj':j<l1.length
  ·have dj:decide ((j:Int)<(l1.length:Int))=true:=decide_eq_true (by omega)
   have wj:IntKind.i64.wrap ((j:Int)+1)=((j+1:Nat):Int):=wrq
   obtain⟨jj,hjj⟩:∃jj:Nat,jj=1+j:=⟨_,rfl⟩
   have w1:IntKind.i64.wrap (1+(j:Int))=(jj:Int):=by rw [show 1+(j:Int)=(jj:Int) by omega]; exact Z0t _ (by constructor <;> omega)
   have hx:=l1m _ (show l1.getD j default∈l1 by rw [Z0m hj']; exact List.getElem_mem hj')
   obtain⟨a,ha⟩:=Int.eq_ofNat_of_zero_le hx.1
   have wa:IntKind.u32.wrap (a:Int)=(a:Int):=Z5G _ (by omega)
   have p3:=Z9E (Z5I q l1 (j - 1)) 0 jj a
   have r3:=Z9w (Z5I q l1 (j - 1)) 0 jj a
   have g3:=Z9W (Z5I q l1 (j - 1)) 0 jj a
   rw [hjl] at p3 r3 g3
   have hst:Z8t (Z5I q l1 (j - 1)) jj a=Z5I q l1 (j+1 - 1):=by
    obtain⟨k,rfl⟩:∃k,j=k+1:=⟨j - 1,by omega⟩
    have:Z5I q l1 (k+1)=Z8t (Z5I q l1 k) (1+(k+1)) (l1.getD (k+1) default).toNat:=rfl
    rw [show k+1+1 - 1=k+1 by omega,this,ha,Int.toNat_natCast,hjj]; rfl
   rw [hst] at g3
   refine gxq (Zkm dj wj w1 ha wa hj' h118 p3 r3 g3) ?_
   refine⟨by omega,⟨by omega,by omega⟩,⟨by omega,by omega,by omega⟩,⟨j+1,by omega,hj'⟩,by simp only; omega,?_⟩
   exact Z06.sameA
  obtain rfl:j=l1.length:=by omega
  have dj:decide ((l1.length:Int)<(l1.length:Int))=false:=decide_eq_false (by omega)
  have hB:Z5I q l1 (l1.length - 1)=Zc1 q l1:=rfl
  rw [hB] at hjl ⊢
  obtain⟨a,ha⟩:=Int.eq_ofNat_of_zero_le (l1m _ (show l1.getD 0 default∈l1 by rw [Z0m (by omega)]; exact List.getElem_mem (by omega))).1
  have h0l:0<l1.length:=by omega
  have tQ:List.take Q (List.map Z05 (Zc1 q l1))=List.map Z05 (Zc1 q l1):=List.take_of_length_le (by rw [List.length_map,hjl]; exact Nat.le_refl _)
  have ⟨p3,r3,g3⟩:=ks119 F Lv V1 N R (a:Int) (Zc1 q l1)
  rw [eS,eW,hjl] at p3 r3 g3
  obtain⟨R1,hR1⟩:∃R1,rwW N R (a:Int) (Zc1 q l1)=R1:=⟨_,rfl⟩
  rw [hR1] at g3
  have hR1l:R1.length≤4096:=by rw [←hR1]; exact Z2J _ _ _ _ hR
  have hS1:=Z0r N R1
  have hW1:=Z0F N R1
  obtain⟨f1,f2,f3,f4⟩:=Zil (s:=⟨F,Lv,U,R⟩) hM hq hl1 hF ha t1 hR1
  have i1:=Z6y (len:=len) hi
  rw [f1] at i1
  unfold bK at p3 r3 g3
  rw [hV1] at p3 r3 g3
  have ⟨p34,r34,g34⟩:=ks34 F Lv V1 (sOf N R1) (wOf N R1) nm a q
  have ⟨p68,r68,g68⟩:=ks68 F Lv V1 N R1 nm a q
  rw [←Z6q (Z0F N R1)] at r68
  obtain⟨j1,j2,j3,j4,j5,j6,j7⟩:=i1
  have k34:∀f∈F,Z1p f∧f.se.length≤1000000:=fun f hf=>⟨(j3 f hf).1,by have:=(j3 f hf).2; omega⟩
  have j4':Lv.length≤7:=j4
  have j2':F.length≤200:=j2
  refine gnq 2 dj ?_
  refine Z02.frz 13 (by rw [hL]; simp) smf (gsq ?_)
  refine gxq (cj8 dj ha h0l tQ h119 p3 r3 g3) ?_
  refine⟨by omega,by omega,⟨by decide,hR,by omega⟩,?_⟩
  (refine Z02.dE (Z1s [.any,.any,.any,.any,.any,.any,.any,.any,.any,.any,.any,.fix (.row [.int .i64 kd,.str nm,.str to,.int .i64 n,.int .i64 len,.str r] 6 0),.fix (.row (l1.map (AV.int .i64)) 1 l1.length)]) [7,8] [] [] true (gyq (cj2 ha h0l) ?_))
  refine⟨by omega,⟨by omega,by omega⟩,?_⟩
  have hcd:¬inR F V1 (sOf N R1) (wOf N R1) nm a q=0:=fun h=>hC ⟨f2,by rw [f1,f3,hq]; exact h⟩
  obtain⟨z1,z2⟩:=Z5B (s:=⟨F,Lv,V1,R1⟩) hcd
  dsimp only at z1 z2
  rw [z1] at g34
  rw [z2] at g68
  rw [f4]
  clear z1 z2
  generalize inR F V1 (sOf N R1) (wOf N R1) nm a q=cd at *
  generalize sOf N R1=S1 at *
  generalize wOf N R1=W1 at *
  unfold Z0z at p34 r34 g34
  unfold Z0y at p68 r68 g68
  rw [hV1] at p34 r34 g34 p68 r68 g68
  refine Z02.peel ?_
  (refine Z02.dE (Z1s [.fix (.row [.ref 1 0 0,.ref 2 0 0,.ref 3 0 0,.ref 4 0 0] 4 0),.any,.any,.any,.any,.any,.any,.any,.any,.any,.any,.fix (.row [.int .i64 kd,.str nm,.str to,.int .i64 n,.int .i64 len,.str r] 6 0),.fix (.row (l1.map (AV.int .i64)) 1 l1.length),.any,.fix (.row [.str nm,.int .i64 a,.int .i64 q] 3 0)]) [0,1,2,3,4,5,6] [] [] false (gyq (cj4 h34 p34 r34 g34) ?_))
  refine⟨⟨by decide,j2,j1,k34,by omega,by omega,by omega,by omega,hnm⟩,?_⟩
  (refine Z02.dE (Z1s [.fix (.row [.ref 1 0 0,.ref 2 0 0,.ref 3 0 0,.ref 4 0 0] 4 0),.any,.any,.any,.any,.any,.any,.any,.any,.any,.any,.fix (.row [.int .i64 kd,.str nm,.str to,.int .i64 n,.int .i64 len,.str r] 6 0),.fix (.row (l1.map (AV.int .i64)) 1 l1.length),.any,.fix (.row [.str nm,.int .i64 a,.int .i64 q] 3 0)]) [0,1,2,3,4,5,6] [] [] false (gyq (cj4 h68 p68 r68 g68) ?_))
  refine⟨⟨by decide,j2,j3,by omega,by omega,hR1l,hnm⟩,?_⟩
  refine Z0G ?_
  refine⟨⟨cd,hcd⟩,?_⟩
  exact Z06.keep13A
 rintro⟨cd,hcd⟩
 dsimp only
 clear hs2
 have hR':(fiR N U R len).length≤4096:=Zec hR
 have hS':=Z0r N (fiR N U R len)
 have hW':=Z0F N (fiR N U R len)
 unfold bH bK at hZ
 dsimp only at hZ
 rw [hU] at hZ
 generalize sOf N (fiR N U R len)=S' at *
 generalize wOf N (fiR N U R len)=W' at *
 generalize fiR N U R len=R' at *
 have hV2:tOk V1 2 l1:=Z0p.2 ⟨by rw [t1]; exact Z4U l1m,l1d⟩
 have dc:decide (cd=0)=false:=decide_eq_false hcd
 refine Z0G ?_
 refine Z02.loopM (ι:={k:Nat // k≤l1.length}) [tt,ff,ff,ff,ff,ff,tt,ff,ff,ff,ff,ff,tt,tt,ff,ff,ff,ff,ff,ff,ff,ff,ff,ff,ff,ff,ff,ff,ff,ff,ff,ff,ff,ff,ff,ff,ff,ff,ff,ff,ff,ff,ff,ff,ff,ff,ff,ff,ff,ff,ff,ff,ff,ff,ff,ff,ff,ff,ff,ff,ff,ff,ff,ff,ff,ff,ff,ff,ff,ff,ff,ff,ff,ff,ff,ff,ff,ff,ff,ff,ff,ff,ff,ff,ff,ff,ff,ff,ff,ff,ff,ff,ff,ff,ff,ff,ff,ff,ff,ff,ff,ff,ff,ff,ff,ff,ff,ff,ff,ff,ff,ff,ff,ff,ff,ff,ff,ff,ff,ff,ff,ff,ff,ff,ff,ff,ff,ff,ff,ff,ff,ff,ff,ff,ff,ff,ff,ff,ff,ff,ff,ff,ff,ff,ff,ff,ff,ff,ff,ff,ff,ff,ff,ff,ff,ff,ff] (fun i=>[(17,.int .i64 i.1)]) (fun i=>[.row [.ref 1 0 0,.ref 2 0 0,.ref 3 0 0,.ref 4 0 0] 4 0,.row [.msl 5 0 0 S'.length,.msl 6 W'.length 0 W'.length] 2 0,.row [.ref 1 0 0,.sl (F.flatMap flC) F.length,.msl 7 Lv.length 0 Lv.length,.msl 8 0 0 N] 4 0,.row [.sl ((noN N).map AV.str) N,.msl 9 R'.length 0 R'.length] 2 0,.row [.ref 3 0 0,.sl (F.flatMap flC) F.length,.sl (Lv.map (AV.int .i64)) Lv.length,.msl 10 0 0 N] 4 0,.row (S'.flatMap Z1T) 1024 0,.row (W'.flatMap wrC) 1025 W'.length,.row (Lv.map (AV.int .i64)) 1 Lv.length,.row ((tSet V1 0 (l1.take i.1)).map (AV.int .i64)) 1 0,.row (R'.flatMap wrR) 2 R'.length,.row ((tSet V1 0 (l1.take i.1)).map (AV.int .i64)) 1 0,.row [.int .i64 kd,.str nm,.str to,.int .i64 n,.int .i64 len,.str r] 6 0,.row (l1.map (AV.int .i64)) 1 l1.length]) (fun i=>l1.length - i.1) ⟨0,Nat.zero_le _⟩ ?_ ?_
 ·rw [List.take_zero,show tSet V1 0 []=V1 from rfl]
  (rw [hL]; simp only [push_cast,Int.natCast_zero]; exact Z06.sameA)
 rintro⟨k,hk⟩
 dsimp only
 have hVk:(tSet V1 0 (l1.take k)).length=N:=by rw [Z0w]; exact hV1
 by_cases hk':k<l1.length
 ·obtain⟨o1,o2⟩:=Zht hV2 hk'
  have dk:decide ((k:Int)<(l1.length:Int))=true:=decide_eq_true (by omega)
  have wk:IntKind.i64.wrap ((k:Int)+1)=(k:Int)+1:=wrq
  have ⟨p32,r32,g32⟩:=ks32 F Lv (tSet V1 0 (l1.take k)) S' W' (l1.getD k default)
  have ⟨p72,r72,g72⟩:=ks72 F Lv (tSet V1 0 (l1.take k)) N R' (l1.getD k default)
  have hVk2:(tSet V1 0 (l1.take (k+1))).length=N:=by rw [Z0w]; exact hV1
  rw [if_pos o1] at r32 r72
  rw [o2] at g32 g72
  generalize hV3:tSet V1 0 (l1.take (k+1))=V3 at *
  generalize tSet V1 0 (l1.take k)=V2 at *
  unfold Z0z at p32 r32 g32
  unfold Z0y at p72 r72 g72
  rw [hVk] at p32 r32 g32 p72 r72 g72
  rw [hVk2] at g32 g72
  refine gxq (cj2 dk dc) ?_
  (refine Z02.dE (Z1s [.fix (.row [.ref 1 0 0,.ref 2 0 0,.ref 3 0 0,.ref 4 0 0] 4 0),.any,.any,.any,.any,.any,.any,.any,.any,.any,.any,.any,.fix (.row (l1.map (AV.int .i64)) 1 l1.length)]) [0,1,2,3,4,5,6,7,8,9] [] [] false (gyq (cj5 h32 p32 r32 g32 hk') ?_))
  refine⟨by omega,⟨by omega,by omega⟩,⟨by decide,by omega⟩,?_⟩
  refine Z02.peel ?_
  (refine Z02.dE (Z1s [.fix (.row [.ref 1 0 0,.ref 2 0 0,.ref 3 0 0,.ref 4 0 0] 4 0),.any,.any,.any,.any,.any,.any,.any,.any,.any,.any,.any,.fix (.row (l1.map (AV.int .i64)) 1 l1.length)]) [0,1,2,3,4,5,6,7,8,9] [] [] false (gyq (cj5 h72 p72 r72 g72 hk') ?_))
  refine⟨by omega,⟨by omega,by omega⟩,⟨by decide,by omega⟩,?_⟩
  refine gxq wk ?_
  refine⟨⟨k+1,hk'⟩,by simp only; omega,?_⟩
  dsimp only
  rw [hV3]
  exact Z06.sameA
 ·obtain rfl:k=l1.length:=by omega
  have dk:decide ((l1.length:Int)<(l1.length:Int))=false:=decide_eq_false (by omega)
  have hb:tSet V1 0 (l1.take l1.length)=U:=by rw [List.take_length,t1]; exact Ze6 t2
  rw [hb]
  refine gxq dk ?_
  rw [←hZ]
  exact Z06.keep11A
theorem con67{Γ:Env}(h:Z07 Tryz.prog Γ)(h110:Γ 110=some S110)(h33:Γ 33=some S33)(h71:Γ 71=some S71)(h118:Γ 118=some S118)(h119:Γ 119=some S119)(h34:Γ 34=some S34)(h68:Γ 68=some S68)(h32:Γ 32=some S32)(h72:Γ 72=some S72):Con Tryz.prog 67 S67:=
 kcn h (fn:=Tryz.f67) inj67 fun ⟨F,Lv,U,N,R,kd,nm,to,n,len,r⟩ h=>body67 Γ h110 h33 h71 h118 h119 h34 h68 h32 h72 F Lv U N R kd nm to n len r h.1 h.2.1 h.2.2
end Go.Proofs.YtbnnhffkbcekcaaGreatDoor.dirDone
end
