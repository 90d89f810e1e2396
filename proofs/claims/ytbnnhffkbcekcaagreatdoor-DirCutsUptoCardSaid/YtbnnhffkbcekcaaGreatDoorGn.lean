/- Parts of the walk through directories. Conditions stand in each. -/
import Derived.Test.YtbnnhffkbcekcaaGreatDoorGm
import Derived.Test.YtbnnhffkbcekcaaGreatDoorFg
set_option linter.unusedVariables false
set_option linter.unusedSimpArgs false
set_option maxRecDepth 100000
set_option maxHeartbeats 4000000
section
namespace Go.Proofs.YtbnnhffkbcekcaaGreatDoor.dirDone
open Go Go.Eng Go.Proofs Go.Lib
def delL(F:List Fl)(nm:List UInt8):List Fl:=wo F (fiN F nm)
def delG(F:List Fl)(nm:List UInt8):List Int:=(F.getD (fiN F nm) default).se
def delR(F:List Fl)(U:List Int)(W:List Wr)(nm:List UInt8):Int:=if fiB F nm=true then (if Z2l (delL F nm) W U then 0 else 174) else 172
def Zix(F:List Fl)(Lv U:List Int)(N:Nat)(R:List Wr)(nm:List UInt8):Z01:=
 if delR F U R nm=0 then Z0y (delL F nm) (ryE (delL F nm) N R U).now (uGo 1 0 (delG F nm) (ryU (delL F nm) Lv N R U)).1 N (ryR (delL F nm) N R U) else Z0y F Lv U N R
def k69:List Fl×List Int×List Int×Nat×List Wr×List UInt8→Ct:=fun (F,Lv,U,N,R,nm)=>⟨([.ref 0 0 0,.str nm],Z0y F Lv U N R),F.length≤200∧(∀f∈F,Z1p f∧f.se.length≤251)∧Lv.length≤1000∧U.length≤1048576∧N≤4096∧R.length≤4096,.int .i64 (delR F U R nm),Zix F Lv U N R nm⟩
theorem inj69:∀a b,(k69 a).a=(k69 b).a→a=b:=by
 rintro⟨F,Lv,U,N,R,nm⟩ ⟨F',Lv',U',N',R',nm'⟩ h
 simp only [k69,Z0g,Z0h,Z0k,Z0j,UInt8.toNat_inj,Z09,Z0c,Z0x,Z0o,Z1g,Z19,Z1L,Z0z,Z0E,Z0P,Z0I,Z0y,Z2R,Z4n,Z0A,List.cons.injEq] at h
 simp_all only
noncomputable def S69:Z0n:=Z0W true k69
theorem ks69(F:List Fl)(Lv U:List Int)(N:Nat)(R:List Wr)(nm:List UInt8):KS k69 ([.ref 0 0 0,.str nm],Z0y F Lv U N R) (F.length≤200∧(∀f∈F,Z1p f∧f.se.length≤251)∧Lv.length≤1000∧U.length≤1048576∧N≤4096∧R.length≤4096) (.int .i64 (delR F U R nm)) (Zix F Lv U N R nm):=kat inj69 (F,Lv,U,N,R,nm)
attribute [push_cast] S69 ks69
theorem body69(Γ:Env)(h120:Γ 120=some S120)(h121:Γ 121=some S121)(h122:Γ 122=some S122)(h123:Γ 123=some S123)(h99:Γ 99=some S99)(F:List Fl)(Lv U:List Int)(N:Nat)(R:List Wr)(nm:List UInt8)
  (hF:F.length≤200) (hok:∀f∈F,Z1p f∧f.se.length≤251) (hLv:Lv.length≤1000) (hU:U.length≤1048576) (hN:N≤4096) (hR:R.length≤4096) :
  Z08 Tryz.prog Γ Tryz.f69 [.ref 0 0 0,.str nm] (Z0y F Lv U N R) (.int .i64 (delR F U R nm)) (Zix F Lv U N R nm):=by
 have ⟨p120,r120,g120⟩:=ks120 F Lv U N R nm
 unfold Zix
 by_cases c0:F.length=0
 ·obtain rfl:F=[]:=List.eq_nil_of_length_eq_zero c0
  have c1:fiB [] nm=false:=rfl
  have eR:delR [] U R nm=172:=by unfold delR; rw [c1]; rfl
  have p121:=Zdm [] Lv U N R
  have r121:=Zcw [] Lv U N R
  have g121:=Ze0 [] Lv U N R
  have w0:IntKind.i64.wrap ((0:Int) - 1)=-1:=by decide
  rw [eR,if_neg (by decide)]
  rw [c1] at r120
  unfold Z0y at *
  simp only [List.flatMap_nil,List.length_nil] at *
  refine stt 43 [.tmp 4] fun X hP hΓ hL hfin=>?_; refine gxq (cj9 h120 p120 r120 g120 w0 h121 p121 r121 g121) ?_
  refine⟨by decide,?_⟩
  refine⟨⟨by decide,hR,hU⟩,?_⟩
  exact Z06.sameA
 obtain⟨n,hn⟩:∃n,F.length=n+1:=⟨F.length - 1,by omega⟩
 have w0:IntKind.i64.wrap ((F.length:Int) - 1)=(n:Int):=by rw [show (F.length:Int) - 1=(n:Int) by omega]; exact Z0t _ (by constructor <;> omega)
 have p121:=Z6c F Lv U N R n
 have r121:=Z66 F Lv U N R n
 have g121:=Z6s F Lv U N R n
 by_cases c1:fiB F nm=true
 case neg=>
  have c1':fiB F nm=false:=by simpa using c1
  have eR:delR F U R nm=172:=by unfold delR; rw [if_neg c1]
  rw [eR,if_neg (by decide)]
  rw [c1'] at r120
  unfold Z0y at *
  refine stt 43 [.tmp 4] fun X hP hΓ hL hfin=>?_; refine gxq (cj9 h120 p120 r120 g120 w0 h121 p121 r121 g121) ?_
  refine⟨⟨by decide,by omega⟩,⟨by decide,hR,hU,by omega⟩,?_⟩
  exact Z06.sameA
 have hi:=(of_decide_eq_true c1).1
 have hwl:(delL F nm).length=n:=by unfold delL; rw [Z6M hi]; omega
 have hly:Z2l (delL F nm) R U↔(R.length+lvN n+1≤4096∧lvN n≤U.count 0):=by unfold Z2l; rw [hwl]; exact And.comm
 by_cases c2:R.length+lvN n+1≤4096∧lvN n≤U.count 0
 case neg=>
  have eR:delR F U R nm=174:=by unfold delR; rw [if_pos c1,if_neg (fun h=>c2 (hly.1 h))]
  rw [eR,if_neg (by decide)]
  rw [c1] at r120
  rw [decide_eq_false c2] at r121
  unfold Z0y at *
  refine stt 43 [.tmp 4] fun X hP hΓ hL hfin=>?_; refine gxq (cj9 h120 p120 r120 g120 w0 h121 p121 r121 g121) ?_
  refine⟨⟨by decide,by omega⟩,⟨by decide,hR,hU,by omega⟩,?_⟩
  exact Z06.sameA
 have eR:delR F U R nm=0:=by unfold delR; rw [if_pos c1,if_pos (hly.2 c2)]
 rw [eR,if_pos rfl]
 rw [c1] at r120
 rw [decide_eq_true c2] at r121
 have hfl:∀f∈delL F nm,Z1p f:=fun f hf=>(hok f (Z4K hf)).1
 have hgl:(delG F nm).length≤251:=(hok _ (by rw [Z0m hi]; exact List.getElem_mem hi)).2
 have gse:=fun d=>ZjB F (fiN F nm) d hi
 have ⟨p123,r123,g123⟩:=ks123 F Lv U N R (fiN F nm)
 have ⟨p122,r122,g122⟩:=ks122 (delL F nm) F Lv U N R
 have lU:=Z64 (delL F nm) Lv N R U hR (by rw [hwl]; exact c2.2)
 rw [show wo F (fiN F nm)=delL F nm from rfl] at r123
 rw [show (F.getD (fiN F nm) default).se=delG F nm from rfl] at gse
 rw [hwl] at p122 r122 g122 r123
 generalize fiN F nm=i at *
 generalize delL F nm=L at *
 generalize delG F nm=gone at *
 generalize (ryE L N R U).now=now at *
 generalize ryU L Lv N R U=U1 at *
 generalize ryR L N R U=R1 at *
 have p2:=Z6b L now U1 N R1 gone 1 0
 have r2:=Z65 L now U1 N R1 gone 1 0
 have g2:=Z6r L now U1 N R1 gone 1 0
 have lU3:=Z1V 1 0 gone U1
 generalize (uGo 1 0 gone U1).1=U3 at *
 unfold Z0y at *
 rw [hwl] at p2 r2 g2
 rw [lU] at g122 p2 r2 lU3
 rw [hwl] at g122
 rw [lU3,lU] at g2
 rw [hwl,lU3]
 refine stt 43 [.tmp 4] fun X hP hΓ hL hfin=>?_; refine gxq (cj22 h120 p120 r120 g120 w0 h121 p121 r121 g121 gse h123 p123 r123 g123 h122 p122 r122 g122 h99 p2 r2 g2) ?_
 refine⟨⟨by decide,by omega⟩,⟨by decide,hR,hU,by omega⟩,by omega,by omega,⟨by decide,hi,by omega⟩,⟨by decide,⟨by omega,hfl⟩,c2.2,hLv,hU,hR,by omega⟩,⟨by decide,by omega,by omega⟩,?_⟩
 exact Z06.keep4A
theorem con69{Γ:Env}(h:Z07 Tryz.prog Γ)(h120:Γ 120=some S120)(h121:Γ 121=some S121)(h122:Γ 122=some S122)(h123:Γ 123=some S123)(h99:Γ 99=some S99):Con Tryz.prog 69 S69:=
 kcn h (fn:=Tryz.f69) inj69 fun ⟨F,Lv,U,N,R,nm⟩ ⟨h1,h2,h3,h4,h5,h6⟩=>body69 Γ h120 h121 h122 h123 h99 F Lv U N R nm h1 h2 h3 h4 h5 h6
def renF(F:List Fl)(a b:List UInt8):Fl:=⟨b,(F.getD (fiN F a) default).hd,(F.getD (fiN F a) default).ln,(F.getD (fiN F a) default).se⟩
def renL(F:List Fl)(a b:List UInt8):List Fl:=insF (wo F (fiN F a)) (fiN (wo F (fiN F a)) b) (renF F a b)
def renR(F:List Fl)(U:List Int)(W:List Wr)(a b:List UInt8):Int:=
 if Z34 b=true then (if fiB F a=true then (if fiB F b=true then 175 else if Z2l (renL F a b) W U then 0 else 174) else 172) else 171
def ZhX(F:List Fl)(Lv U:List Int)(N:Nat)(R:List Wr)(a b:List UInt8):Z01:=
 if renR F U R a b=0 then Z0y (renL F a b) (ryE (renL F a b) N R U).now (ryU (renL F a b) Lv N R U) N (ryR (renL F a b) N R U) else Z0y F Lv U N R
theorem Z54{F:List Fl}{a:List UInt8}(h:fiB F a=true):fiN F a<F.length:=(of_decide_eq_true h).1
theorem Z4P{F:List Fl}{a:List UInt8}(b:List UInt8)(h:fiN F a<F.length):(renL F a b).length=F.length:=by
 unfold renL; rw [Z7S _ _ _ (Z6z _ _),Z6M h]; omega
def k70:List Fl×List Int×List Int×Nat×List Wr×List UInt8×List UInt8→Ct:=fun (F,Lv,U,N,R,a,b)=>⟨([.ref 0 0 0,.str a,.str b],Z0y F Lv U N R),F.length≤200∧(∀f∈F,Z1p f∧f.se.length≤251)∧Lv.length≤1000∧U.length≤1048576∧N≤4096∧R.length≤4096∧b.length≤1048576,.int .i64 (renR F U R a b),ZhX F Lv U N R a b⟩
theorem inj70:∀a b,(k70 a).a=(k70 b).a→a=b:=by
 rintro⟨F,Lv,U,N,R,a,b⟩ ⟨F',Lv',U',N',R',a',b'⟩ h
 simp only [k70,Z0g,Z0h,Z0k,Z0j,UInt8.toNat_inj,Z09,Z0c,Z0x,Z0o,Z1g,Z19,Z1L,Z0z,Z0E,Z0P,Z0I,Z0y,Z2R,Z4n,Z0A,List.cons.injEq] at h
 simp_all only
noncomputable def S70:Z0n:=Z0W true k70
theorem ks70(F:List Fl)(Lv U:List Int)(N:Nat)(R:List Wr)(a b:List UInt8):KS k70 ([.ref 0 0 0,.str a,.str b],Z0y F Lv U N R) (F.length≤200∧(∀f∈F,Z1p f∧f.se.length≤251)∧Lv.length≤1000∧U.length≤1048576∧N≤4096∧R.length≤4096∧b.length≤1048576) (.int .i64 (renR F U R a b)) (ZhX F Lv U N R a b):=kat inj70 (F,Lv,U,N,R,a,b)
attribute [push_cast] S70 ks70
theorem body70(Γ:Env)(h109:Γ 109=some S109)(h120:Γ 120=some S120)(h121:Γ 121=some S121)(h122:Γ 122=some S122)(h123:Γ 123=some S123)(F:List Fl)(Lv U:List Int)(N:Nat)(R:List Wr)(a b:List UInt8)
  (hF:F.length≤200) (hok:∀f∈F,Z1p f∧f.se.length≤251) (hLv:Lv.length≤1000) (hU:U.length≤1048576) (hN:N≤4096) (hR:R.length≤4096) (hb:b.length≤1048576) :
  Z08 Tryz.prog Γ Tryz.f70 [.ref 0 0 0,.str a,.str b] (Z0y F Lv U N R) (.int .i64 (renR F U R a b)) (ZhX F Lv U N R a b):=by
 have ⟨p1,r1,g1⟩:=ks120 F Lv U N R a
 have ⟨p2,r2,g2⟩:=ks120 F Lv U N R b
 have p3:=Z6c F Lv U N R F.length
 have r3:=Z66 F Lv U N R F.length
 have g3:=Z6s F Lv U N R F.length
 unfold ZhX
 by_cases c1:Z34 b=true
 case neg=>
  have eR:renR F U R a b=171:=by unfold renR; rw [if_neg c1]
  rw [eR,if_neg (by decide)]
  have c1':Z34 b=false:=by simpa using c1
  unfold Z0y at *
  refine stt 94 [.tmp 6] fun X hP hΓ hL hfin=>?_; refine gxq (ZhD h109 c1' h120 p1 r1 g1 p2 r2 g2 h121 p3 r3 g3) ?_
  refine⟨by omega,⟨by decide,by omega⟩,⟨by decide,by omega⟩,⟨by decide,hR,hU,by omega⟩,?_⟩
  exact Z06.sameA
 by_cases c2:fiB F a=true
 case neg=>
  have eR:renR F U R a b=172:=by unfold renR; rw [if_pos c1,if_neg c2]
  rw [eR,if_neg (by decide)]
  rw [show fiB F a=false by simpa using c2] at r1
  unfold Z0y at *
  refine stt 94 [.tmp 6] fun X hP hΓ hL hfin=>?_; refine gxq (ZhD h109 c1 h120 p1 r1 g1 p2 r2 g2 h121 p3 r3 g3) ?_
  refine⟨by omega,⟨by decide,by omega⟩,⟨by decide,by omega⟩,⟨by decide,hR,hU,by omega⟩,?_⟩
  exact Z06.sameA
 rw [c2] at r1
 by_cases c3:fiB F b=true
 case pos=>
  have eR:renR F U R a b=175:=by unfold renR; rw [if_pos c1,if_pos c2,if_pos c3]
  rw [eR,if_neg (by decide)]
  rw [c3] at r2
  unfold Z0y at *
  refine stt 94 [.tmp 6] fun X hP hΓ hL hfin=>?_; refine gxq (ZhD h109 c1 h120 p1 r1 g1 p2 r2 g2 h121 p3 r3 g3) ?_
  refine⟨by omega,⟨by decide,by omega⟩,⟨by decide,by omega⟩,⟨by decide,hR,hU,by omega⟩,?_⟩
  exact Z06.sameA
 rw [show fiB F b=false by simpa using c3] at r2
 have hi:=Z54 c2
 have hly:Z2l (renL F a b) R U↔(R.length+lvN F.length+1≤4096∧lvN F.length≤U.count 0):=by unfold Z2l; rw [Z4P b hi]; exact And.comm
 by_cases c4:R.length+lvN F.length+1≤4096∧lvN F.length≤U.count 0
 case neg=>
  have eR:renR F U R a b=174:=by unfold renR; rw [if_pos c1,if_pos c2,if_neg c3,if_neg (fun h=>c4 (hly.1 h))]
  rw [eR,if_neg (by decide)]
  rw [decide_eq_false c4] at r3
  unfold Z0y at *
  refine stt 94 [.tmp 6] fun X hP hΓ hL hfin=>?_; refine gxq (ZhD h109 c1 h120 p1 r1 g1 p2 r2 g2 h121 p3 r3 g3) ?_
  refine⟨by omega,⟨by decide,by omega⟩,⟨by decide,by omega⟩,⟨by decide,hR,hU,by omega⟩,?_⟩
  exact Z06.sameA
 have eR:renR F U R a b=0:=by unfold renR; rw [if_pos c1,if_pos c2,if_neg c3,if_pos (hly.2 c4)]
 rw [eR,if_pos rfl]
 rw [decide_eq_true c4] at r3
 have hLl:=Z4P b hi
 have hfl:∀f∈renL F a b,Z1p f:=fun f hf=>by
  unfold renL insF at hf
  have hk:=hok _ (by rw [Z0m hi]; exact List.getElem_mem hi:F.getD (fiN F a) default∈F)
  rcases List.mem_append.1 hf with h | h
  ·exact (hok f (Z4K (List.mem_of_mem_take h))).1
  ·rcases List.mem_cons.1 h with rfl | h
   ·exact⟨Z2w c1,hk.1.2⟩
   ·exact (hok f (Z4K (List.mem_of_mem_drop h))).1
 have ⟨p4,r4,g4⟩:=ks123 F Lv U N R (fiN F a)
 have hw:=Z6M hi
 have hfi:=Z6z F a
 unfold Z0y at *
 refine stt 94 [.tmp 6] fun X hP hΓ hL hfin=>?_; refine gxq (Zp2 h109 c1 h120 p1 r1 g1 p2 r2 g2 h121 p3 r3 g3 hi h123 p4 r4 g4) ?_
 refine⟨by omega,⟨by decide,by omega⟩,⟨by decide,by omega⟩,⟨by decide,hR,hU,by omega⟩,by omega,by omega,⟨by decide,by omega⟩,?_⟩
 rw [show AV.str b::List.drop 1 (flC (F.getD (fiN F a) default))=flC (renF F a b) from rfl]
 have hLd:renL F a b=insF (wo F (fiN F a)) (fiN (wo F (fiN F a)) b) (renF F a b):=rfl
 generalize hx:renF F a b=x at *
 generalize hW:wo F (fiN F a)=W at *
 refine Z02.loopM (ι:={k:Nat // k≤W.length∧∀q,q<k→Op.bytesLess (W.getD q default).nm b=true}) [tt,ff,tt,ff,ff,ff,tt,ff,ff,ff,ff,ff,ff,tt,tt,ff,tt,ff,ff,ff,ff,ff,ff,ff,ff,ff,ff,ff,ff,ff,ff,ff,ff,ff,ff,ff,ff,ff,ff,ff,ff,ff,ff,ff,ff,ff,ff,ff,ff,ff,ff,ff,ff,ff,ff,ff,ff,ff,ff,ff,ff,ff,ff,ff,ff,ff,ff,ff,ff,ff,ff,ff,ff,ff,ff,ff,ff,ff,ff,ff,ff,ff,ff,ff,ff,ff,ff,ff,ff,ff,ff,ff,ff,ff] (fun i=>[(15,.int .i64 i.1)]) (fun i=>[.row [.ref 1 0 0,.sl (F.flatMap flC) F.length,.sl (Lv.map (AV.int .i64)) Lv.length,.msl 2 0 0 U.length] 4 0,.row [.sl ((noN N).map AV.str) N,.msl 3 R.length 0 R.length] 2 0,.row (U.map (AV.int .i64)) 1 0,.row (R.flatMap wrR) 2 R.length,.row (flC x) 4 0]) (fun i=>W.length - i.1) ⟨0,Nat.zero_le _,fun q h=>absurd h (Nat.not_lt_zero q)⟩ ?_ ?_
 ·(rw [hL]; simp only [push_cast,Int.natCast_zero,]; exact Z06.sameA)
 rintro⟨k,hk,hp⟩
 dsimp only
 by_cases hk':k<W.length
 ·have d1:decide ((k:Int)<(W.length:Int))=true:=decide_eq_true (by omega)
  have wk:IntKind.i64.wrap ((k:Int)+1)=(k:Int)+1:=wrq
  have gn:=ZjC W k (.str []) hk'
  by_cases hlt:Op.bytesLess (W.getD k default).nm b=true
  ·refine gxq (cj4 d1 gn hlt wk) ?_
   refine⟨by omega,by omega,?_⟩
   refine⟨⟨k+1,hk',fun q hq=>by
    rcases Nat.lt_succ_iff_lt_or_eq.1 hq with h | rfl
    ·exact hp q h
    ·exact hlt⟩,by simp only; omega,?_⟩
   exact Z06.sameA
  ·have hlt':Op.bytesLess (W.getD k default).nm b=false:=by simpa using hlt
   have e:=Zb4 hk' hp hlt'
   rw [e] at hLd
   have m1:min (k*4) (W.length*4)=k*4:=by omega
   have o1:Z0b (List.take (k*4) (List.flatMap flC W))=true:=by rw [Z1W]; exact Z2L _
   have o2:Z0b (List.drop (k*4) (List.flatMap flC W))=true:=by rw [Z1d]; exact Z2L _
   have tA:List.take (W.length*4) (List.flatMap flC W)=List.flatMap flC W:=Z2i W
   have hset:List.take (k*4) (List.flatMap flC W)++flC x++List.drop (k*4) (List.flatMap flC W)=(insF W k x).flatMap flC:=(Z8N W k x).symm
   have hlen:k - 0+1+(W.length - k)=F.length:=by omega
   refine gnq 12 (cj9 d1 gn hlt' m1 o1 o2 tA hset hlen) ?_
   refine⟨by omega,by omega,⟨by omega,by omega⟩,⟨by omega,by omega⟩,⟨by omega,by omega⟩,?_⟩
   refine Z02.reg ?_
   refine Z04.ev 6 (gzq (cj6 m1 o1 o2 tA hset hlen) ?_)
   refine⟨⟨by omega,by omega⟩,⟨by omega,by omega,by omega⟩,?_⟩
   refine Z04.frz 5 (by rw [hL]; simp) smf (gsq ?_)
   rw [←hLd]
   have tL:List.take (F.length*4) (List.flatMap flC (renL F a b))=List.flatMap flC (renL F a b):=by rw [←hLl]; exact Z2i _
   have ⟨p5,r5,g5⟩:=ks122 (renL F a b) F Lv U N R
   have lU:=Z64 (renL F a b) Lv N R U hR (by rw [hLl]; exact c4.2)
   unfold Z0y at p5 r5 g5
   rw [hLl] at p5 r5 g5 hfin
   generalize renL F a b=L at *
   generalize (ryE L N R U).now=now at *
   generalize ryU L Lv N R U=U1 at *
   generalize ryR L N R U=R1 at *
   rw [lU] at g5 hfin
   refine Z04.ev 1 (gzq (cj5 h122 p5 r5 g5 tL) ?_)
   refine⟨⟨by decide,⟨by omega,hfl⟩,c4.2,hLv,hU,hR,by omega⟩,?_⟩
   refine Z04.nil ?_
   refine Z0G ?_
   exact Z06.keep4A
 ·have hkW:k=W.length:=by omega
  have d1:decide ((k:Int)<(W.length:Int))=false:=decide_eq_false (by omega)
  have e:fiN W b=k:=Z8U W b k hk hp (fun h=>absurd h (by omega))
  have gn:(List.flatMap flC W).getD (k*4) (AV.str [])=AV.str []:=by rw [List.getD_eq_getElem?_getD,List.getElem?_eq_none (by rw [Z2d (n:=4)]; omega)]; rfl
  clear hk'
  rw [e] at hLd
  have m1:min (k*4) (W.length*4)=k*4:=by omega
  have o1:Z0b (List.take (k*4) (List.flatMap flC W))=true:=by rw [Z1W]; exact Z2L _
  have o2:Z0b (List.drop (k*4) (List.flatMap flC W))=true:=by rw [Z1d]; exact Z2L _
  have tA:List.take (W.length*4) (List.flatMap flC W)=List.flatMap flC W:=Z2i W
  have hset:List.take (k*4) (List.flatMap flC W)++flC x++List.drop (k*4) (List.flatMap flC W)=(insF W k x).flatMap flC:=(Z8N W k x).symm
  have hlen:k - 0+1+(W.length - k)=F.length:=by omega
  refine gnq 12 (cj8 d1 gn m1 o1 o2 tA hset hlen) ?_
  refine⟨⟨by omega,by omega⟩,⟨by omega,by omega⟩,⟨by omega,by omega⟩,?_⟩
  refine Z02.reg ?_
  refine Z04.ev 6 (gzq (cj6 m1 o1 o2 tA hset hlen) ?_)
  refine⟨⟨by omega,by omega⟩,⟨by omega,by omega,by omega⟩,?_⟩
  refine Z04.frz 5 (by rw [hL]; simp) smf (gsq ?_)
  rw [←hLd]
  have tL:List.take (F.length*4) (List.flatMap flC (renL F a b))=List.flatMap flC (renL F a b):=by rw [←hLl]; exact Z2i _
  have ⟨p5,r5,g5⟩:=ks122 (renL F a b) F Lv U N R
  have lU:=Z64 (renL F a b) Lv N R U hR (by rw [hLl]; exact c4.2)
  unfold Z0y at p5 r5 g5
  rw [hLl] at p5 r5 g5 hfin
  generalize renL F a b=L at *
  generalize (ryE L N R U).now=now at *
  generalize ryU L Lv N R U=U1 at *
  generalize ryR L N R U=R1 at *
  rw [lU] at g5 hfin
  refine Z04.ev 1 (gzq (cj5 h122 p5 r5 g5 tL) ?_)
  refine⟨⟨by decide,⟨by omega,hfl⟩,c4.2,hLv,hU,hR,by omega⟩,?_⟩
  refine Z04.nil ?_
  refine Z0G ?_
  exact Z06.keep4A
theorem con70{Γ:Env}(h:Z07 Tryz.prog Γ)(h109:Γ 109=some S109)(h120:Γ 120=some S120)(h121:Γ 121=some S121)(h122:Γ 122=some S122)(h123:Γ 123=some S123):Con Tryz.prog 70 S70:=
 kcn h (fn:=Tryz.f70) inj70 fun ⟨F,Lv,U,N,R,a,b⟩ ⟨h1,h2,h3,h4,h5,h6,h7⟩=>body70 Γ h109 h120 h121 h122 h123 F Lv U N R a b h1 h2 h3 h4 h5 h6 h7
end Go.Proofs.YtbnnhffkbcekcaaGreatDoor.dirDone
end
