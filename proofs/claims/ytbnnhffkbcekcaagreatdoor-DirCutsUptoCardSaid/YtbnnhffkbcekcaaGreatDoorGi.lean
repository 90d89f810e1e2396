/- Parts of the walk through directories. Conditions stand in each. -/
import Derived.Test.YtbnnhffkbcekcaaGreatDoorGh
import Derived.Test.YtbnnhffkbcekcaaGreatDoorFg
set_option linter.unusedVariables false
set_option linter.unusedSimpArgs false
set_option maxRecDepth 100000
set_option maxHeartbeats 4000000
section
namespace Go.Proofs.YtbnnhffkbcekcaaGreatDoor.dirDone
open Go Go.Eng Go.Proofs Go.Lib
def k76:List Fl×List Int×List Int×Nat×List Wr→Ct:=fun (F,Lv,U,N,R)=>⟨([.ref 0 0 0],Z0y F Lv U N R),U.length≤1048576,.int .i64 (U.count 0:Nat),Z0y F Lv U N R⟩
theorem inj76:∀a b,(k76 a).a=(k76 b).a→a=b:=by
 rintro⟨F,Lv,U,N,R⟩ ⟨F',Lv',U',N',R'⟩ h
 simp only [k76,Z0g,Z0h,Z0k,Z0j,UInt8.toNat_inj,Z09,Z0c,Z0x,Z0o,Z1g,Z19,Z1L,Z0z,Z0E,Z0P,Z0I,Z0y,Z2R,Z0A,List.cons.injEq] at h
 simp_all only
noncomputable def S76:Z0n:=Z0W true k76
theorem ks76(F:List Fl)(Lv U:List Int)(N:Nat)(R:List Wr):KS k76 ([.ref 0 0 0],Z0y F Lv U N R) (U.length≤1048576) (.int .i64 (U.count 0:Nat)) (Z0y F Lv U N R):=kat inj76 (F,Lv,U,N,R)
attribute [push_cast] S76 ks76
theorem body76(Γ:Env)(F:List Fl)(Lv U:List Int)(N:Nat)(R:List Wr)(hU:U.length≤1048576):Z08 Tryz.prog Γ Tryz.f76 [.ref 0 0 0] (Z0y F Lv U N R) (.int .i64 (U.count 0:Nat)) (Z0y F Lv U N R):=by
 unfold Z0y
 refine stt 25 [.tmp 2] fun X hP hΓ hL hfin=>?_; refine Z0G ?_
 refine Z02.loopM (ι:={k:Nat // k≤U.length}) [tt,ff,tt,ff,ff,ff,ff,ff,ff,ff,ff,ff,ff,ff,ff,ff,ff,ff,ff,ff,ff,ff,ff,ff,ff] (fun i=>[(4,.int .i64 i.1),(3,.int .i64 ((U.take i.1).count 0:Nat))]) (fun i=>Z0y F Lv U N R) (fun i=>U.length - i.1) ⟨0,Nat.zero_le _⟩ ?_ ?_
 ·rw [hL]
  unfold Z0y
  simp only [push_cast,List.take_zero,List.count_nil]
  exact Z06.sameA
 rintro⟨k,hk⟩
 unfold Z0y
 refine Z0G ?_
 ((with_reducible refine Z0v (fun h=>?_) fun h=>?_) <;> try simp only [fkl,beq_iff_eq,beq_eq_false_iff_ne,ne_eq] at h)
 ·have hk':k<U.length:=by omega
  have e1:(U.take (k+1)).count 0=(U.take k).count 0+(if U.getD k default=0 then 1 else 0):=by
   rw [List.take_succ_eq_append_getElem hk',List.count_append]
   congr 1
   simp only [List.getD,hk',List.getElem?_eq_getElem,Option.getD_some]
   rw [List.count_singleton]
   simp
  have e2:(U.take k).count 0≤k:=Nat.le_trans List.count_le_length (by rw [List.length_take]; omega)
  refine gxq hk' ?_
  refine⟨by omega,⟨by omega,by omega⟩,?_⟩
  ((with_reducible refine Z0v (fun h=>?_) fun h=>?_) <;> try simp only [fkl,beq_iff_eq,beq_eq_false_iff_ne,ne_eq] at h)
  ·rw [if_pos h] at e1
   refine Z0G ?_
   refine⟨⟨k+1,hk'⟩,by simp only; omega,?_⟩
   dsimp only
   rw [Z0t ((k:Int)+1) (by constructor <;> omega),Z0t (((U.take k).count 0:Nat)+1) (by constructor <;> omega),e1]
   exact Z06.sameA
  ·rw [if_neg h] at e1
   refine Z0G ?_
   refine⟨⟨k+1,hk'⟩,by simp only; omega,?_⟩
   dsimp only
   rw [Z0t ((k:Int)+1) (by constructor <;> omega),e1,Nat.add_zero]
   exact Z06.sameA
 ·obtain rfl:k=U.length:=by omega
  rw [List.take_length]
  refine Z0G ?_
  exact Z06.sameA
theorem con76{Γ:Env}(h:Z07 Tryz.prog Γ):Con Tryz.prog 76 S76:=
 kcn h (fn:=Tryz.f76) inj76 fun ⟨F,Lv,U,N,R⟩ h=>body76 Γ F Lv U N R h
def k71:List Fl×List Int×List Int×Nat×List Wr→Ct:=fun (F,Lv,U,N,R)=>⟨([.ref 0 0 0],Z0y F Lv U N R),U.length≤1048576,tkR U,Z0y F Lv (tkU U) N R⟩
theorem inj71:∀a b,(k71 a).a=(k71 b).a→a=b:=by
 rintro⟨F,Lv,U,N,R⟩ ⟨F',Lv',U',N',R'⟩ h
 simp only [k71,Z0g,Z0h,Z0k,Z0j,UInt8.toNat_inj,Z09,Z0c,Z0x,Z0o,Z1g,Z19,Z1L,Z0z,Z0E,Z0P,Z0I,Z0y,Z2R,Z0A,List.cons.injEq] at h
 simp_all only
noncomputable def S71:Z0n:=Z0W true k71
theorem ks71(F:List Fl)(Lv U:List Int)(N:Nat)(R:List Wr):KS k71 ([.ref 0 0 0],Z0y F Lv U N R) (U.length≤1048576) (tkR U) (Z0y F Lv (tkU U) N R):=kat inj71 (F,Lv,U,N,R)
attribute [push_cast] S71 ks71
theorem body71(Γ:Env)(F:List Fl)(Lv U:List Int)(N:Nat)(R:List Wr)(hU:U.length≤1048576):Z08 Tryz.prog Γ Tryz.f71 [.ref 0 0 0] (Z0y F Lv U N R) (tkR U) (Z0y F Lv (tkU U) N R):=by
 have hlen:=Z3N U
 unfold Z0y
 rw [hlen]
 refine stt 29 [.tmp 2,.tmp 3] fun X hP hΓ hL hfin=>?_; refine Z0G ?_
 refine Z02.loopM (ι:={k:Nat // k≤U.length∧(0:Int)∉U.take k}) [tt,ff,ff,ff,ff,ff,ff,ff,ff,ff,ff,ff,ff,ff,ff,ff,ff,ff,ff,ff,ff,ff,ff,ff,ff,ff,ff,ff,ff] (fun i=>[(4,.int .i64 i.1)]) (fun i=>Z0y F Lv U N R) (fun i=>U.length - i.1) ⟨0,Nat.zero_le _,by simp⟩ ?_ ?_
 ·rw [hL]
  unfold Z0y
  simp only [push_cast]
  exact Z06.sameA
 rintro⟨k,hk,hn⟩
 unfold Z0y
 refine Z0G ?_
 ((with_reducible refine Z0v (fun h=>?_) fun h=>?_) <;> try simp only [fkl,beq_iff_eq,beq_eq_false_iff_ne,ne_eq] at h)
 ·have hk':k<U.length:=by omega
  have wk:IntKind.i64.wrap ((k:Int)+1)=(k:Int)+1:=wrq
  refine gxq hk' ?_
  refine⟨by omega,⟨by omega,by omega⟩,?_⟩
  ((with_reducible refine Z0v (fun h=>?_) fun h=>?_) <;> try simp only [fkl,beq_iff_eq,beq_eq_false_iff_ne,ne_eq] at h)
  ·have e:=Z9V hk' hn h
   have er:tkR U=.tup [.int .i64 (k:Nat),.int .i64 0]:=by unfold tkR; rw [e,if_neg (by omega)]
   have eu:tkU U=U.set k 2:=by unfold tkU; rw [e,if_neg (by omega),Int.toNat_natCast]
   rw [er,eu] at hfin
   refine gxq hk' ?_
   refine⟨by omega,by omega,?_⟩
   rw [Z4u U k 2 hk']
   exact Z06.sameA
  ·refine gxq wk ?_
   refine⟨⟨k+1,hk',Z7u hk' hn (fun h'=>h h'.symm)⟩,by simp only; omega,?_⟩
   exact Z06.sameA
 ·obtain rfl:k=U.length:=by omega
  rw [List.take_length] at hn
  have e:Z2e U 0=-1:=by unfold Z2e; rw [if_neg hn]
  have er:tkR U=.tup [.int .i64 0,.int .i64 174]:=by unfold tkR; rw [e]; rfl
  have eu:tkU U=U:=by unfold tkU; rw [e]; rfl
  rw [er,eu] at hfin
  refine Z0G ?_
  exact Z06.sameA
theorem con71{Γ:Env}(h:Z07 Tryz.prog Γ):Con Tryz.prog 71 S71:=
 kcn h (fn:=Tryz.f71) inj71 fun ⟨F,Lv,U,N,R⟩ h=>body71 Γ F Lv U N R h
def k72:List Fl×List Int×List Int×Nat×List Wr×Int→Ct:=fun (F,Lv,U,N,R,n)=>⟨([.ref 0 0 0,.int .i64 n],Z0y F Lv U N R),U.length≤1048576,.int .i64 (if tOk U 2 [n] then 0 else 2),Z0y F Lv (tRes U 2 0 [n]) N R⟩
theorem inj72:∀a b,(k72 a).a=(k72 b).a→a=b:=by
 rintro⟨F,Lv,U,N,R,n⟩ ⟨F',Lv',U',N',R',n'⟩ h
 simp only [k72,Z0g,Z0h,Z0k,Z0j,UInt8.toNat_inj,Z09,Z0c,Z0x,Z0o,Z1g,Z19,Z1L,Z0z,Z0E,Z0P,Z0I,Z0y,Z2R,Z0A,List.cons.injEq] at h
 simp_all only
noncomputable def S72:Z0n:=Z0W true k72
theorem ks72(F:List Fl)(Lv U:List Int)(N:Nat)(R:List Wr)(n:Int):KS k72 ([.ref 0 0 0,.int .i64 n],Z0y F Lv U N R) (U.length≤1048576) (.int .i64 (if tOk U 2 [n] then 0 else 2)) (Z0y F Lv (tRes U 2 0 [n]) N R):=kat inj72 (F,Lv,U,N,R,n)
attribute [push_cast] S72 ks72
theorem Z7v(U:List Int)(was n:Int):tOk U was [n]↔0≤n∧n<U.length∧U.getD n.toNat default=was:=by
 constructor
 ·intro h
  have:=h 0 (Nat.zero_lt_one)
  unfold tAt at this
  simp only [List.getD_cons_zero,List.take_zero] at this
  exact⟨this.1,this.2.1,this.2.2.1⟩
 ·rintro⟨h1,h2,h3⟩ i hi
  obtain rfl:i=0:=by simp at hi; omega
  unfold tAt
  simp only [List.getD_cons_zero,List.take_zero]
  exact⟨h1,h2,h3,by simp⟩
theorem body72(Γ:Env)(F:List Fl)(Lv U:List Int)(N:Nat)(R:List Wr)(n:Int)(hU:U.length≤1048576):Z08 Tryz.prog Γ Tryz.f72 [.ref 0 0 0,.int .i64 n] (Z0y F Lv U N R) (.int .i64 (if tOk U 2 [n] then 0 else 2)) (Z0y F Lv (tRes U 2 0 [n]) N R):=by
 have hlen:=Z2q U 2 0 [n]
 have hno:¬tOk U 2 [n]→tRes U 2 0 [n]=U:=fun h=>by unfold tRes; rw [if_neg h]
 unfold Z0y
 rw [hlen]
 by_cases c1:n<0
 ·have hx:¬tOk U 2 [n]:=fun h=>by have:=(Z7v U 2 n).1 h; omega
  have d1:decide (n<0)=true:=decide_eq_true c1
  rw [if_neg hx,hno hx]
  refine stt 32 [.tmp 4] fun X hP hΓ hL hfin=>?_; refine gmq 4 d1 ?_
  refine Z02.reg ?_
  refine Z04.ev 3 (gzq d1 ?_)
  refine Z04.skips 7 (gzq d1 ?_)
  refine Z04.ev 2 (gzq d1 ?_)
  refine Z04.skips 8 (gzq d1 ?_)
  refine Z04.ev 1 (gzq d1 ?_)
  refine Z04.nil ?_
  refine Z0G ?_
  exact Z06.sameA
 obtain⟨m,rfl⟩:=Int.eq_ofNat_of_zero_le (show 0≤n by omega)
 have d1:decide ((m:Int)<0)=false:=decide_eq_false (by omega)
 by_cases c2:m<U.length
 case neg=>
  have hx:¬tOk U 2 [(m:Int)]:=fun h=>by have:=(Z7v U 2 m).1 h; omega
  have d2:decide ((U.length:Int)≤m)=true:=decide_eq_true (by omega)
  rw [if_neg hx,hno hx]
  refine stt 32 [.tmp 4] fun X hP hΓ hL hfin=>?_; refine gmq 4 d1 ?_
  refine Z02.reg ?_
  refine Z04.ev 12 (gzq (cj2 d1 d2) ?_)
  refine Z04.skips 8 (gzq d1 ?_)
  refine Z04.ev 1 (gzq d1 ?_)
  refine Z04.nil ?_
  refine Z0G ?_
  exact Z06.sameA
 have d2:decide ((U.length:Int)≤m)=false:=decide_eq_false (by omega)
 by_cases c3:U.getD m default=2
 case neg=>
  have hx:¬tOk U 2 [(m:Int)]:=fun h=>c3 ((Z7v U 2 m).1 h).2.2
  have d3:decide (U.getD m default=2)=false:=decide_eq_false c3
  rw [if_neg hx,hno hx]
  refine stt 32 [.tmp 4] fun X hP hΓ hL hfin=>?_; refine gxq (cj4 d1 d2 d3 c2) ?_
  refine⟨by omega,⟨by omega,by omega⟩,?_⟩
  exact Z06.sameA
 have hx:tOk U 2 [(m:Int)]:=(Z7v U 2 m).2 ⟨by omega,by omega,c3⟩
 have d3:decide (U.getD m default=2)=true:=decide_eq_true c3
 have eu:tRes U 2 0 [(m:Int)]=U.set m 0:=by unfold tRes; rw [if_pos hx]; rfl
 rw [if_pos hx,eu]
 refine stt 32 [.tmp 4] fun X hP hΓ hL hfin=>?_; refine gxq (cj4 d1 d2 d3 c2) ?_
 refine⟨by omega,⟨by omega,by omega⟩,by omega,by omega,?_⟩
 rw [Z4u U m 0 c2]
 exact Z06.sameA
theorem con72{Γ:Env}(h:Z07 Tryz.prog Γ):Con Tryz.prog 72 S72:=
 kcn h (fn:=Tryz.f72) inj72 fun ⟨F,Lv,U,N,R,n⟩ h=>body72 Γ F Lv U N R n h
theorem ZjC(F:List Fl)(i:Nat)(d:AV)(h:i<F.length):(F.flatMap flC).getD (i*4) d=.str (F.getD i default).nm:=by rw [Z4e (n:=4) F i d h (by decide)]; rfl
theorem Zb4{F:List Fl}{nm:List UInt8}{k:Nat}(h:k<F.length)(hp:∀q,q<k→Op.bytesLess (F.getD q default).nm nm=true)(hb:Op.bytesLess (F.getD k default).nm nm=false):fiN F nm=k:=Z8U F nm k (by omega) hp (fun _=>hb)
def k120:List Fl×List Int×List Int×Nat×List Wr×List UInt8→Ct:=fun (F,Lv,U,N,R,nm)=>⟨([.ref 0 0 0,.str nm],Z0y F Lv U N R),F.length≤4194304,.tup [.int .i64 (fiN F nm),.bool (fiB F nm)],Z0y F Lv U N R⟩
theorem inj120:∀a b,(k120 a).a=(k120 b).a→a=b:=by
 rintro⟨F,Lv,U,N,R,nm⟩ ⟨F',Lv',U',N',R',nm'⟩ h
 simp only [k120,Z0g,Z0h,Z0k,Z0j,UInt8.toNat_inj,Z09,Z0c,Z0x,Z0o,Z1g,Z19,Z1L,Z0z,Z0E,Z0P,Z0I,Z0y,Z2R,Z0A,List.cons.injEq] at h
 simp_all only
noncomputable def S120:Z0n:=Z0W true k120
theorem ks120(F:List Fl)(Lv U:List Int)(N:Nat)(R:List Wr)(nm:List UInt8):KS k120 ([.ref 0 0 0,.str nm],Z0y F Lv U N R) (F.length≤4194304) (.tup [.int .i64 (fiN F nm),.bool (fiB F nm)]) (Z0y F Lv U N R):=kat inj120 (F,Lv,U,N,R,nm)
attribute [push_cast] S120 ks120
theorem body120(Γ:Env)(F:List Fl)(Lv U:List Int)(N:Nat)(R:List Wr)(nm:List UInt8)(hF:F.length≤4194304):Z08 Tryz.prog Γ Tryz.f120 [.ref 0 0 0,.str nm] (Z0y F Lv U N R) (.tup [.int .i64 (fiN F nm),.bool (fiB F nm)]) (Z0y F Lv U N R):=by
 unfold Z0y
 refine stt 50 [.tmp 4,.tmp 5] fun X hP hΓ hL hfin=>?_; refine Z0G ?_
 refine Z02.loopM (ι:={k:Nat // k≤F.length∧∀q,q<k→Op.bytesLess (F.getD q default).nm nm=true}) [tt,tt,ff,ff,tt,tt,ff,ff,ff,ff,ff,ff,ff,ff,ff,ff,ff,ff,ff,ff,ff,ff,ff,ff,ff,ff,ff,ff,ff,ff,ff,ff,ff,ff,ff,ff,ff,ff,ff,ff,ff,ff,ff,ff,ff,ff,ff,ff,ff,ff] (fun i=>[(6,.int .i64 i.1)]) (fun i=>Z0y F Lv U N R) (fun i=>F.length - i.1) ⟨0,Nat.zero_le _,fun q h=>absurd h (Nat.not_lt_zero q)⟩ ?_ ?_
 ·rw [hL]
  unfold Z0y
  simp only [push_cast]
  exact Z06.sameA
 rintro⟨k,hk,hp⟩
 unfold Z0y
 dsimp only
 by_cases hk':k<F.length
 ·have d1:decide ((k:Int)<(F.length:Int))=true:=decide_eq_true (by omega)
  have wk:IntKind.i64.wrap ((k:Int)+1)=(k:Int)+1:=wrq
  have g1:=ZjC F k (.str []) hk'
  by_cases hb:Op.bytesLess (F.getD k default).nm nm=true
  ·refine gxq (cj4 d1 g1 hb wk) ?_
   refine⟨by omega,by omega,?_⟩
   refine⟨⟨k+1,hk',fun q hq=>by
    rcases Nat.lt_succ_iff_lt_or_eq.1 hq with h | rfl
    ·exact hp q h
    ·exact hb⟩,by simp only; omega,?_⟩
   exact Z06.sameA
  ·have hb':Op.bytesLess (F.getD k default).nm nm=false:=by simpa using hb
   have e:=Zb4 hk' hp hb'
   have eb:fiB F nm=((F.getD k default).nm == nm):=by
    unfold fiB; rw [e]
    by_cases hq:(F.getD k default).nm=nm
    ·rw [decide_eq_true ⟨hk',hq⟩]; exact (beq_iff_eq.2 hq).symm
    ·rw [decide_eq_false (fun h=>hq h.2)]; exact (beq_eq_false_iff_ne.2 hq).symm
   rw [e,eb] at hfin
   refine gnq 3 (cj3 d1 g1 hb') ?_
   refine⟨by omega,by omega,?_⟩
   refine Z50 4 ?_
   refine Z02.drawnK [] smp (by kernel_rfl) (gyq (cj3 d1 g1 hk') ?_)
   refine⟨by omega,by omega,?_⟩
   refine Z0G ?_
   exact Z06.sameA
 ·obtain rfl:k=F.length:=by omega
  have d1:decide ((F.length:Int)<(F.length:Int))=false:=decide_eq_false (by omega)
  have e:fiN F nm=F.length:=Z8U F nm F.length (Nat.le_refl _) hp (fun h=>absurd h (Nat.lt_irrefl _))
  have eb:fiB F nm=false:=by unfold fiB; rw [e]; simp
  rw [e,eb] at hfin
  refine gnq 2 d1 ?_
  refine Z02.reg ?_
  refine Z04.ev 8 (gzq d1 ?_)
  refine Z04.skips 11 (gzq d1 ?_)
  refine Z04.ev 1 (gzq d1 ?_)
  refine Z04.nil ?_
  refine Z50 4 ?_
  refine Z02.drawnK [9,10,11,12,13,14,15,16,17,18,19] smp (by kernel_rfl) (gyq d1 ?_)
  refine Z0G ?_
  exact Z06.sameA
theorem con120{Γ:Env}(h:Z07 Tryz.prog Γ):Con Tryz.prog 120 S120:=
 kcn h (fn:=Tryz.f120) inj120 fun ⟨F,Lv,U,N,R,nm⟩ h=>body120 Γ F Lv U N R nm h
def k98:Nat×List Wr×Int×Int→Ct:=fun (N,R,at_,len)=>⟨([.ref 0 0 0,.int .i64 at_,.int .i64 len],Z0P N R),R.length≤4096∧N≤1048576,hdA (sOf N R) at_ len,Z0P N R⟩
theorem inj98:∀a b,(k98 a).a=(k98 b).a→a=b:=by
 rintro⟨N,R,at_,len⟩ ⟨N',R',at_',len'⟩ h
 simp only [k98,Z0g,Z0h,Z0k,Z0j,UInt8.toNat_inj,Z09,Z0c,Z0x,Z0o,Z1g,Z19,Z1L,Z0z,Z0E,Z0P,Z0I,Z0y,Z2R,Z0A,List.cons.injEq] at h
 simp_all only
noncomputable def S98:Z0n:=Z0W true k98
theorem ks98(N:Nat)(R:List Wr)(at_ len:Int):KS k98 ([.ref 0 0 0,.int .i64 at_,.int .i64 len],Z0P N R) (R.length≤4096∧N≤1048576) (hdA (sOf N R) at_ len) (Z0P N R):=kat inj98 (N,R,at_,len)
attribute [push_cast] S98 ks98
theorem body98(Γ:Env)(h94:Γ 94=some S94)(h95:Γ 95=some S95)(h96:Γ 96=some S96)(h110:Γ 110=some S110)(N:Nat)(R:List Wr)(at_ len:Int)(hR:R.length≤4096)(hN:N≤1048576):Z08 Tryz.prog Γ Tryz.f98 [.ref 0 0 0,.int .i64 at_,.int .i64 len] (Z0P N R) (hdA (sOf N R) at_ len) (Z0P N R):=by
 have ⟨p,r,g⟩:=ks94 N R at_
 have ⟨p5,r5,g5⟩:=ks95 N R
 have hS:=Z0r N R
 have hno:¬hd0 (sOf N R) at_ len→hdA (sOf N R) at_ len=.tup [.lit (.slice none 0 0),.bool false]:=fun h=>by unfold hdA; rw [if_neg (fun h'=>h h'.1)]
 by_cases c0:0≤at_∧at_<N
 case neg=>
  rw [if_neg c0] at r
  rw [hno (fun h=>c0 (by rw [←hS]; exact h.1))]
  unfold Z0P at *
  refine stt 64 [.tmp 6,.tmp 7] fun X hP hΓ hL hfin=>?_; refine gmq 6 (cj4 h94 p r g) ?_
  refine⟨⟨hR,hN⟩,?_⟩
  refine Z02.reg ?_
  refine Z04.ev 3 (Z1S ?_)
  refine Z04.skips 2 (Z1S ?_)
  refine Z04.ev 2 (Z1S ?_)
  refine Z04.skips 2 (Z1S ?_)
  refine Z04.ev 2 (Z1S ?_)
  refine Z04.skips 3 (Z1S ?_)
  refine Z04.ev 2 (Z1S ?_)
  refine Z04.skips 5 (Z1S ?_)
  refine Z04.ev 1 (Z1S ?_)
  refine Z04.nil ?_
  refine Z0G ?_
  exact Z06.sameA
 rw [if_pos c0] at r
 obtain⟨b,hb⟩:∃b,secB (sOf N R) at_=b:=⟨_,rfl⟩
 have hbl:b.length=1024:=by rw [←hb]; exact Z3r _ _
 rw [hb] at r
 have e0:(4*(0:Int)).toNat=0:=rfl
 have e4:(4*(1:Int)).toNat=4:=rfl
 have pw:=fun i=>Znp b i
 have rw_:=fun i=>ZmR b i
 have gw:=fun i=>hs96 b i
 by_cases c1:len<0
 ·have d1:decide (len<0)=true:=decide_eq_true c1
  rw [hno (fun h=>by have:=h.2.1; omega)]
  unfold Z0P at *
  refine stt 64 [.tmp 6,.tmp 7] fun X hP hΓ hL hfin=>?_; refine gmq 6 (cj4 h94 p r g) ?_
  refine⟨⟨hR,hN⟩,?_⟩
  refine Z02.reg ?_
  refine Z04.ev 7 (gzq d1 ?_)
  refine Z04.skips 2 (Z1S ?_)
  refine Z04.ev 2 (Z1S ?_)
  refine Z04.skips 3 (Z1S ?_)
  refine Z04.ev 2 (Z1S ?_)
  refine Z04.skips 5 (Z1S ?_)
  refine Z04.ev 1 (Z1S ?_)
  refine Z04.nil ?_
  refine Z0G ?_
  exact Z06.sameA
 have d1:decide (len<0)=false:=decide_eq_false c1
 by_cases c2:len≤256000
 case neg=>
  have d2:decide (256000<len)=true:=decide_eq_true (by omega)
  rw [hno (fun h=>c2 h.2.2.1)]
  unfold Z0P at *
  refine stt 64 [.tmp 6,.tmp 7] fun X hP hΓ hL hfin=>?_; refine gmq 6 (cj4 h94 p r g) ?_
  refine⟨⟨hR,hN⟩,?_⟩
  refine Z02.reg ?_
  refine Z04.ev 11 (gzq (cj2 d1 d2) ?_)
  refine Z04.skips 3 (Z1S ?_)
  refine Z04.ev 2 (Z1S ?_)
  refine Z04.skips 5 (Z1S ?_)
  refine Z04.ev 1 (Z1S ?_)
  refine Z04.nil ?_
  refine Z0G ?_
  exact Z06.sameA
 have d2:decide (256000<len)=false:=decide_eq_false (by omega)
 by_cases c3:getW b 0=826820163
 case neg=>
  have d3:decide (((getW b 0:Nat):Int)=826820163)=false:=decide_eq_false (by omega)
  rw [hno (fun h=>c3 (by rw [←hb]; exact h.2.2.2.1))]
  unfold Z0P at *
  refine stt 64 [.tmp 6,.tmp 7] fun X hP hΓ hL hfin=>?_; refine gmq 6 (cj4 h94 p r g) ?_
  refine⟨⟨hR,hN⟩,?_⟩
  refine Z02.reg ?_
  refine Z04.ev 16 (gzq (cj5 d1 d2 d3 h96 e0) ?_)
  refine⟨⟨by omega,by omega⟩,?_⟩
  refine Z04.skips 5 (Z1S ?_)
  refine Z04.ev 1 (Z1S ?_)
  refine Z04.nil ?_
  refine Z0G ?_
  exact Z06.sameA
 have d3:decide (((getW b 0:Nat):Int)=826820163)=true:=decide_eq_true (by omega)
 have w4:IntKind.u32.wrap len=len:=Z5G _ (by omega)
 by_cases c4:((getW b 4:Nat):Int)=len
 case neg=>
  have d4:decide (((getW b 4:Nat):Int)=len)=false:=decide_eq_false c4
  rw [hno (fun h=>c4 (by rw [←hb]; exact h.2.2.2.2))]
  unfold Z0P at *
  refine stt 64 [.tmp 6,.tmp 7] fun X hP hΓ hL hfin=>?_; refine gxq (Z9a h94 p r g d1 d2 d3 d4 h96 e0 e4 w4) ?_
  refine⟨⟨hR,hN⟩,⟨by omega,by omega⟩,⟨by omega,by omega⟩,?_⟩
  exact Z06.sameA
 have d4:decide (((getW b 4:Nat):Int)=len)=true:=decide_eq_true c4
 have hd:hd0 (sOf N R) at_ len:=⟨by rw [hS]; exact c0,by omega,c2,by rw [hb]; exact c3,by rw [hb]; exact c4⟩
 have p110:=ZgP len
 have r110:=Zgl len
 have g110:=Zhq len
 obtain⟨n,hn⟩:∃n,hdN len=n:=⟨_,rfl⟩
 have hn2:n≤250:=by rw [←hn]; unfold hdN; omega
 rw [hn] at r110
 have wN:IntKind.u32.wrap (N:Int)=(N:Int):=Z5G _ (by omega)
 have hdiff:hdA (sOf N R) at_ len=if ∀i,i<n→hdW b i<N then .tup [.sl ((hdL b at_ n).map (AV.int .i64)) (n+1),.bool true] else .tup [.lit (.slice none 0 0),.bool false]:=by
  unfold hdA
  by_cases hq:∀i,i<n→hdW b i<N
  ·rw [if_pos hq,if_pos ⟨hd,by rw [hb,hn,hS]; exact hq⟩,hb,hn,Z3B]
  ·rw [if_neg hq,if_neg (fun h=>hq (by have:=h.2; rw [hb,hn,hS] at this; exact this))]
 rw [hdiff]
 clear hdiff hno
 unfold Z0P at *
 refine stt 64 [.tmp 6,.tmp 7] fun X hP hΓ hL hfin=>?_; refine gxq (Z9a h94 p r g d1 d2 d3 d4 h96 e0 e4 w4) ?_
 refine⟨⟨hR,hN⟩,⟨by omega,by omega⟩,⟨by omega,by omega⟩,?_⟩
 refine Z02.loopM (ι:={i:Nat // i≤n∧∀j,j<i→hdW b j<N}) [tt,ff,tt,ff,ff,ff,ff,ff,tt,ff,ff,ff,ff,ff,ff,ff,ff,ff,ff,ff,ff,ff,ff,ff,ff,ff,ff,ff,ff,ff,ff,ff,ff,ff,ff,ff,ff,ff,ff,ff,ff,ff,ff,ff,ff,ff,ff,ff,ff,ff,ff,ff,ff,ff,ff,ff,ff,ff,ff,ff,ff,ff,ff,ff] (fun i=>[(8,.str b),(10,.msl 2 i.1 0 (i.1+1)),(11,.int .i64 i.1)]) (fun i=>[.row [.sl ((noN N).map AV.str) N,.msl 1 R.length 0 R.length] 2 0,.row (R.flatMap wrR) 2 R.length,.row ((hdL b at_ i.1).map (AV.int .i64)) 1 i.1]) (fun i=>n - i.1) ⟨0,Nat.zero_le _,fun j h=>absurd h (Nat.not_lt_zero j)⟩ ?_ ?_
 ·rw [hL]
  have e:(hdL b at_ 0).map (AV.int .i64)=[AV.int .i64 at_]:=rfl
  simp only [push_cast,e]
  exact Z06.sameA
 rintro⟨k,hk,hlt⟩
 dsimp only
 by_cases hk':k<n
 ·have dk:decide ((k:Int)<(n:Int))=true:=decide_eq_true (by omega)
  have ew:getW b (4*(2+(k:Int))).toNat=hdW b k:=by unfold hdW; congr 1
  have wl:=Z20 b (4*(2+k))
  have wl2:hdW b k<4294967296:=wl
  have wa:IntKind.i64.wrap (2+(k:Int))=2+(k:Int):=wrq
  have wb:IntKind.i64.wrap ((hdW b k:Nat):Int)=((hdW b k:Nat):Int):=wrq
  have wk:IntKind.i64.wrap ((k:Int)+1)=(k:Int)+1:=wrq
  by_cases hw:hdW b k<N
  ·have dw:decide ((N:Int)≤((hdW b k:Nat):Int))=false:=decide_eq_false (by omega)
   have hc:(hdL b at_ k).map (AV.int .i64)++[AV.int .i64 ((hdW b k:Nat):Int)]=(hdL b at_ (k+1)).map (AV.int .i64):=by rw [ZaZ,List.map_append]; rfl
   refine gxq (ZhC h110 hn dk h96 ew wa wb wk h95 p5 r5 g5 wN dw) ?_
   refine⟨⟨by omega,by omega⟩,⟨by omega,by omega,by omega⟩,⟨Z3B _ _ _,by omega⟩,?_⟩
   rw [hc]
   refine⟨⟨k+1,hk',fun j hj=>by
    rcases Nat.lt_succ_iff_lt_or_eq.1 hj with h | rfl
    ·exact hlt j h
    ·exact hw⟩,by simp only; omega,?_⟩
   exact Z06.sameA
  ·have dw:decide ((N:Int)≤((hdW b k:Nat):Int))=true:=decide_eq_true (by omega)
   rw [if_neg (fun h=>hw (h k hk'))] at hfin
   refine gxq (ZhC h110 hn dk h96 ew wa wb wk h95 p5 r5 g5 wN dw) ?_
   refine⟨⟨by omega,by omega⟩,⟨by omega,by omega,by omega⟩,?_⟩
   exact Z06.keep2A
 ·obtain rfl:k=n:=by omega
  have dk:decide ((k:Int)<(k:Int))=false:=decide_eq_false (by omega)
  rw [if_pos hlt] at hfin
  refine gxq (cj3 h110 hn dk) ?_
  have ht:List.take (k+1) ((hdL b at_ k).map (AV.int .i64))=(hdL b at_ k).map (AV.int .i64):=List.take_of_length_le (by rw [List.length_map,Z3B]; exact Nat.le_refl _)
  refine⟨⟨by omega,by omega⟩,?_⟩
  refine Z0q.frz 2 smo smf (gsq ?_)
  rw [ht]
  exact Z06.keep2A
theorem con98{Γ:Env}(h:Z07 Tryz.prog Γ)(h94:Γ 94=some S94)(h95:Γ 95=some S95)(h96:Γ 96=some S96)(h110:Γ 110=some S110):Con Tryz.prog 98 S98:=
 kcn h (fn:=Tryz.f98) inj98 fun ⟨N,R,a,n⟩ h=>body98 Γ h94 h95 h96 h110 N R a n h.1 h.2
def reP(c:UInt8):Bool:=!(c == 0)
def reN(b:List UInt8)(i:Nat):List UInt8:=(enB b i).takeWhile reP
def reZ(b:List UInt8)(i:Nat):Bool:=((enB b i).drop (reN b i).length).all (· == 0)
def Zbz(b:List UInt8)(i:Nat):Bool:=reZ b i && (Z34 (reN b i) && decide (enH b i<1024) && decide (enL b i≤256000))
def reE(b:List UInt8)(i:Nat):AV:=if reZ b i=true then .agg [.str (reN b i),.int .i64 (enH b i),.int .i64 (enL b i)] else .agg [.str [],.int .i64 0,.int .i64 0]
theorem ZjF{b:List UInt8}(hb:b.length=1024){i:Nat}(hi:i<31):(enB b i).length=24:=by
 unfold enB; rw [List.length_take,List.length_drop]; omega
theorem body137(Γ:Env)(h96:Γ 96=some S96)(h109:Γ 109=some S109)(b:List UInt8)(q:Nat)(hb:b.length=1024)(hi:q<31):Z08 Tryz.prog Γ Tryz.f137 [.str b,.int .i64 q] [] (.tup [reE b q,.bool (Zbz b q)]) []:=by
 have hl:=ZjF hb hi
 have w1:IntKind.i64.wrap (32*(q:Int))=32*(q:Int):=wrq
 have w2:IntKind.i64.wrap (8+32*(q:Int))=8+32*(q:Int):=wrq
 obtain⟨a,ha⟩:∃a:Nat,a=8+32*q:=⟨_,rfl⟩
 have ha2:8+32*(q:Int)=(a:Int):=by omega
 have wa:IntKind.i64.wrap (a:Int)=(a:Int):=wrq
 have w3:IntKind.i64.wrap ((a:Int)+24)=(a:Int)+24:=wrq
 have w4:IntKind.i64.wrap ((a:Int)+28)=(a:Int)+28:=wrq
 have e1:List.drop a (List.take ((a:Int)+24).toNat b)=enB b q:=by
  unfold enB
  rw [show ((a:Int)+24).toNat=a+24 by omega,←ha,List.drop_take,Nat.add_sub_cancel_left]
 refine stt 72 [.cell 4 61,.tmp 5] fun X hP hΓ hL hfin=>?_; refine gxq (cj5 w1 ha2 wa w3 e1) ?_
 refine⟨by omega,?_⟩
 refine Z02.loopM (ι:={k:Nat // k≤24∧∀j,j<k→reP ((enB b q).getD j 0)=true}) [tt,ff,ff,ff,tt,tt,tt,tt,ff,tt,tt,tt,tt,ff,ff,ff,ff,ff,ff,ff,ff,ff,ff,ff,ff,ff,ff,ff,ff,ff,ff,ff,ff,ff,ff,ff,ff,ff,ff,ff,ff,ff,ff,ff,ff,ff,ff,ff,ff,ff,ff,ff,ff,ff,ff,ff,ff,ff,ff,ff,ff,ff,ff,ff,ff,ff,ff,ff,ff,ff,ff,ff] (fun i=>[(4,.ref 0 0 0),(6,.int .i64 a),(7,.str (enB b q)),(8,.int .i64 i.1)]) (fun i=>[.row [.str [],.int .i64 0,.int .i64 0] 3 0]) (fun i=>24 - i.1) ⟨0,Nat.zero_le _,fun j h=>absurd h (Nat.not_lt_zero j)⟩ ?_ ?_
 ·rw [hL]
  simp only [push_cast]
  exact Z06.sameA
 rintro⟨k,hk,hp⟩
 dsimp only
 have dP:reP ((enB b q).getD k 0)=!decide ((((enB b q).getD k 0).toNat:Int)=0):=by
  unfold reP
  by_cases hz:(enB b q).getD k 0=0
  ·rw [hz]; rfl
  ·have:((enB b q).getD k 0).toNat≠0:=fun h=>hz (UInt8.toNat_inj.1 h)
   rw [beq_eq_false_iff_ne.2 hz,decide_eq_false (by omega)]
 by_cases hA:(decide ((k:Int)<24) && !decide ((((enB b q).getD k 0).toNat:Int)=0))=true
 ·have wk:IntKind.i64.wrap ((k:Int)+1)=(k:Int)+1:=wrq
  rw [Bool.and_eq_true,decide_eq_true_eq] at hA
  have hA2:(decide ((k:Int)<24) && !decide ((((enB b q).getD k 0).toNat:Int)=0))=true:=by rw [Bool.and_eq_true,decide_eq_true_eq]; exact hA
  refine gxq (cj2 hA2 wk) ?_
  refine⟨fun _=>by omega,?_⟩
  refine⟨⟨k+1,by omega,fun j hj=>by
   rcases Nat.lt_succ_iff_lt_or_eq.1 hj with h | rfl
   ·exact hp j h
   ·rw [dP]; exact hA.2⟩,by simp only; omega,?_⟩
  exact Z06.sameA
 have hA2:(decide ((k:Int)<24) && !decide ((((enB b q).getD k 0).toNat:Int)=0))=false:=by simpa using hA
 have hend:k=24∨reP ((enB b q).getD k 0)=false:=by
  by_cases h:k=24
  ·exact .inl h
  ·right
   rw [decide_eq_true (by omega:(k:Int)<24),Bool.true_and] at hA2
   rw [dP]; exact hA2
 have hN:reN b q=(enB b q).take k:=Z2Z reP 0 (enB b q) k (by omega) hp (by rw [hl]; exact hend)
 have hNl:(reN b q).length=k:=by rw [hN,List.length_take]; omega
 refine gxq hA2 ?_
 refine⟨fun h=>by have:=of_decide_eq_true h; omega,?_⟩
 refine Z02.loopM (ι:={p:Nat // (k≤p∧p≤24)∧∀j,k≤j→j<p→(enB b q).getD j 0=0}) [tt,ff,ff,ff,tt,ff,tt,tt,tt,ff,tt,tt,tt,ff,ff,ff,ff,ff,ff,ff,ff,ff,ff,ff,ff,ff,ff,ff,ff,ff,ff,ff,ff,ff,ff,ff,ff,ff,ff,ff,ff,ff,ff,ff,ff,ff,ff,ff,ff,ff,ff,ff,ff,ff,ff,ff,ff,ff,ff,ff,ff,ff,ff,ff,ff,ff,ff,ff,ff,ff,ff,ff] (fun i=>[(4,.ref 0 0 0),(6,.int .i64 a),(7,.str (enB b q)),(8,.int .i64 k),(9,.int .i64 i.1)]) (fun i=>[.row [.str [],.int .i64 0,.int .i64 0] 3 0]) (fun i=>24 - i.1) ⟨k,⟨Nat.le_refl _,hk⟩,fun j h1 h2=>absurd h2 (Nat.not_lt.2 h1)⟩ ?_ ?_
 ·rw [hL]
  simp only [push_cast]
  exact Z06.sameA
 rintro⟨p,⟨hkp,hp24⟩,hz⟩
 dsimp only
 by_cases hp':p<24
 ·have d1:decide ((p:Int)<24)=true:=decide_eq_true (by omega)
  have wp:IntKind.i64.wrap ((p:Int)+1)=(p:Int)+1:=wrq
  by_cases hc:(enB b q).getD p 0=0
  ·have d2:decide ((((enB b q).getD p 0).toNat:Int)=0)=true:=by rw [hc]; rfl
   refine gxq (cj3 d1 d2 wp) ?_
   refine⟨by omega,?_⟩
   refine⟨⟨p+1,⟨by omega,hp'⟩,fun j h1 h2=>by
    rcases Nat.lt_succ_iff_lt_or_eq.1 h2 with h | rfl
    ·exact hz j h1 h
    ·exact hc⟩,by simp only; omega,?_⟩
   exact Z06.sameA
  ·have d2:decide ((((enB b q).getD p 0).toNat:Int)=0)=false:=decide_eq_false (fun h=>hc (UInt8.toNat_inj.1 (by simpa using h)))
   have hZ:reZ b q=false:=by
    unfold reZ
    rw [hNl,Bool.eq_false_iff]
    intro h
    rw [List.all_eq_true] at h
    have hm:(enB b q).getD p 0∈(enB b q).drop k:=by
     rw [List.mem_iff_getElem]
     refine⟨p - k,by rw [List.length_drop]; omega,?_⟩
     rw [List.getElem_drop,List.getD_eq_getElem?_getD,List.getElem?_eq_getElem (by omega)]
     simp [Nat.add_sub_cancel' hkp]
    have:=h _ hm
    exact hc (by simpa using this)
   have eE:reE b q=.agg [.str [],.int .i64 0,.int .i64 0]:=by unfold reE; rw [hZ]; rfl
   have eO:Zbz b q=false:=by unfold Zbz; rw [hZ]; rfl
   rw [eE,eO] at hfin
   refine gxq (cj2 d1 d2) ?_
   refine⟨by omega,?_⟩
   exact Z06.keep0A
 ·have hpe:p=24:=by omega
  have hZ:reZ b q=true:=by
   unfold reZ
   rw [hNl,List.all_eq_true]
   intro c hm
   obtain⟨j,hj,rfl⟩:=List.mem_iff_getElem.1 hm
   rw [List.length_drop] at hj
   have:=hz (k+j) (by omega) (by omega)
   rw [List.getD_eq_getElem?_getD,List.getElem?_eq_getElem (by omega)] at this
   rw [List.getElem_drop]
   simpa using this
  have eE:reE b q=.agg [.str (reN b q),.int .i64 (enH b q),.int .i64 (enL b q)]:=by unfold reE; rw [hZ]; rfl
  have eO:Zbz b q=(Z34 (reN b q) && decide (enH b q<1024) && decide (enL b q≤256000)):=by unfold Zbz; rw [hZ]; rfl
  rw [eE,eO] at hfin
  obtain⟨u,hu⟩:∃u:Nat,u=8+8*q:=⟨_,rfl⟩
  have t1:((a:Int)+24).tdiv 4=(u:Int):=by rw [Int.tdiv_eq_ediv_of_nonneg (by omega)]; omega
  have t2:((a:Int)+28).tdiv 4=(u:Int)+1:=by rw [Int.tdiv_eq_ediv_of_nonneg (by omega)]; omega
  have wu:IntKind.i64.wrap (u:Int)=(u:Int):=wrq
  have wu1:IntKind.i64.wrap ((u:Int)+1)=(u:Int)+1:=wrq
  have eH:((getW b (4*(u:Int)).toNat:Nat):Int)=enH b q:=by
   unfold enH; rw [show (4*(u:Int)).toNat=4*((8+32*q+24) / 4) by omega]
  have eL:((getW b (4*((u:Int)+1)).toNat:Nat):Int)=enL b q:=by
   unfold enL; rw [show (4*((u:Int)+1)).toNat=4*((8+32*q+24) / 4+1) by omega]
  have bH:=Z20 b (4*(u:Int)).toNat
  have bL:=Z20 b (4*((u:Int)+1)).toNat
  have wH:IntKind.i64.wrap (enH b q)=enH b q:=Z0t _ (by rw [←eH]; constructor <;> omega)
  have wL:IntKind.i64.wrap (enL b q)=enL b q:=Z0t _ (by rw [←eL]; constructor <;> omega)
  have d1:decide ((p:Int)<24)=false:=decide_eq_false (by omega)
  refine gxq (ZhD h96 h109 w3 w4 t1 t2 wu wu1 eH eL wH wL d1) ?_
  rw [←hN]
  refine⟨⟨by omega,by omega⟩,⟨by omega,by omega,by omega⟩,by omega,by omega,by omega,?_⟩
  exact Z06.keep0A
def ZjN:List UInt8×Nat→List AV:=fun (b,i)=>[.str b,.int .i64 i]
def ZnN:List UInt8×Nat→Prop:=fun (b,i)=>b.length=1024∧i<31
def Zne:List UInt8×Nat→AV:=fun (b,i)=>.tup [reE b i,.bool (Zbz b i)]
def ZoB:List UInt8×Nat→Z01:=fun (b,i)=>[]
theorem inj137:∀a b,ZjN a=ZjN b→a=b:=by
 rintro⟨b,i⟩ ⟨b',i'⟩ h
 simp only [ZjN,Z0g,Z0h,Z0k,Z0j,UInt8.toNat_inj,Z09,Z0c,Z0x,Z0o,Z1g,Z19,Z1L,Z0z,Z0E,Z0P,Z0I,Z0y,Z2R,Z0A,List.cons.injEq] at h
 simp_all only
noncomputable def S137:Z0n:=Z5S ZjN ZnN Zne ZoB true
theorem Znx(b:List UInt8)(i:Nat):Z5P ZjN ZnN [.str b,.int .i64 i]=(b.length=1024∧i<31):=Z13 inj137 ZnN (b,i)
theorem ZmZ(b:List UInt8)(i:Nat):Z2s ZjN Zne .any [.str b,.int .i64 i]=(.tup [reE b i,.bool (Zbz b i)]):=Z0u inj137 Zne .any (b,i)
theorem Zok(b:List UInt8)(i:Nat):Z2s ZjN ZoB [] [.str b,.int .i64 i]=([]):=Z0u inj137 ZoB [] (b,i)
attribute [push_cast] S137 Znx ZmZ Zok
theorem con137{Γ:Env}(h:Z07 Tryz.prog Γ)(h96:Γ 96=some S96)(h109:Γ 109=some S109):Con Tryz.prog 137 S137:=
 Z0V h (fn:=Tryz.f137) (by kernel_rfl) rfl (by kernel_rfl) inj137 (by first | (intro h; cases h; done) | exact fun _ _=>rfl) fun ⟨b,i⟩ h=>body137 Γ h96 h109 b i h.1 h.2
theorem Zda(b:List UInt8)(i:Nat):reN b i=enN b i:=by
 unfold reN enN Z99
 generalize enB b i=l
 have ne0:∀{j:Nat},j<l.length→l[j]?≠some 0→reP (l.getD j 0)=true:=fun {j} hj h=>by
  rw [List.getD_eq_getElem?_getD,List.getElem?_eq_getElem hj]
  unfold reP
  rw [Option.getD_some,beq_eq_false_iff_ne.2 (fun e=>h (by rw [List.getElem?_eq_getElem hj,e]))]; rfl
 by_cases h:indexByte l 0<0
 ·rw [if_pos h]
  have h1:indexByte l 0=-1:=by have:=indexByte_ge l 0; omega
  rw [Z2Z reP 0 l l.length (Nat.le_refl _) (fun j hj=>ne0 hj (indexByte_none h1 j)) (.inl rfl),List.take_length]
 ·rw [if_neg h]
  obtain⟨o,ho⟩:=Int.eq_ofNat_of_zero_le (show 0≤indexByte l 0 by omega)
  obtain⟨h1,h2⟩:=indexByte_some ho
  have hlt:=(List.getElem?_eq_some_iff.1 h1).1
  rw [ho,Int.toNat_natCast]
  exact Z2Z reP 0 l o (by omega) (fun j hj=>ne0 (by omega) (h2 j hj)) (.inr (by rw [List.getD_eq_getElem?_getD,h1]; rfl))
theorem Zef(p:UInt8→Bool):∀l:List UInt8,l.dropWhile p=[]↔∀c∈l,p c=true
 | []=>by simp
 | a::l=>by
  rw [List.dropWhile_cons]
  by_cases h:p a=true
  ·rw [if_pos h,Zef p l]; simp [h]
  ·rw [if_neg h]; simp [h]
theorem Zae(l:List UInt8):(Z3d 0 (Z2W 0 l) == [])=l.all (· == 0):=by
 rw [Bool.eq_iff_iff,beq_iff_eq,List.all_eq_true]
 unfold Z3d Z2W
 constructor
 ·intro h c hc
  rw [Zef] at h
  have e:l.reverse=l.reverse.takeWhile (· == 0)++l.reverse.dropWhile (· == 0):=(List.takeWhile_append_dropWhile).symm
  have hm:c∈l.reverse:=List.mem_reverse.2 hc
  rw [e] at hm
  rcases List.mem_append.1 hm with hm | hm
  ·have:=List.all_takeWhile (l:=l.reverse) (p:=(· == 0))
   rw [List.all_eq_true] at this
   exact this c hm
  ·exact h c (List.mem_reverse.2 hm)
 ·intro h
  have:l.reverse.dropWhile (· == 0)=[]:=by
   rw [Zef]
   intro c hc
   exact h c (List.mem_reverse.1 hc)
  rw [this]; rfl
theorem ZkJ(b:List UInt8)(i:Nat):reZ b i=(Z3d 0 (Z2W 0 (enR b i)) == []):=by
 rw [Zae]
 unfold reZ
 rw [Zda]
 unfold enN enR Z99 Za3
 generalize enB b i=l
 by_cases h:indexByte l 0<0
 ·rw [if_pos h,if_pos h,List.drop_length]
 ·rw [if_neg h,if_neg h]
  obtain⟨o,ho⟩:=Int.eq_ofNat_of_zero_le (show 0≤indexByte l 0 by omega)
  obtain⟨h1,h2⟩:=indexByte_some ho
  have hlt:=(List.getElem?_eq_some_iff.1 h1).1
  have h0:=(List.getElem?_eq_some_iff.1 h1).2
  rw [ho,Int.toNat_natCast,List.length_take,Nat.min_eq_left (by omega),List.drop_eq_getElem_cons hlt,h0]
  rfl
end Go.Proofs.YtbnnhffkbcekcaaGreatDoor.dirDone
end
