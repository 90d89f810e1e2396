/- Parts of the walk through directories. Conditions stand in each. -/
import Derived.Test.YtbnnhffkbcekcaaGreatDoorGs
import Derived.Test.YtbnnhffkbcekcaaGreatDoorFg
set_option linter.unusedVariables false
set_option linter.unusedSimpArgs false
set_option maxRecDepth 100000
set_option maxHeartbeats 4000000
section
namespace Go.Proofs.YtbnnhffkbcekcaaGreatDoor.dirDone
open Go Go.Eng Go.Proofs Go.Lib
def wOk(N:Nat)(R:List Wr):Prop:=∀w∈R,0≤w.1∧w.1<N
theorem Z6R{N:Nat}{R:List Wr}{n:Int}{b:List UInt8}(h:wOk N R):wOk N (rwW N R n b):=by
 unfold rwW
 split
 ·rename_i e
  intro w hw
  rcases List.mem_append.1 hw with hw | hw
  ·exact h w hw
  ·obtain rfl:=List.mem_singleton.1 hw
   unfold wrE at e
   by_cases c:0≤n∧n<(sOf N R).length
   ·rw [Z0r] at c; exact c
   ·rw [if_pos c] at e; exact absurd e (by decide)
 ·exact h
theorem Zcr{L:List Fl}{N:Nat}{R:List Wr}{U:List Int}(h:wOk N R):wOk N (ryR L N R U):=by
 have:∀q,wOk N (ryK L N R U q).R:=by
  intro q
  induction q with
  | zero=>exact h
  | succ q ih=>exact Z6R ih
 exact Z6R (this _)
theorem Zia{N:Nat}{s:St}{nm:List UInt8}{h ln:Int}(hw:wOk N s.R):wOk N (insS N s nm h ln).R:=by
 unfold insS; split
 ·exact Zcr hw
 ·exact hw
theorem Zi5{N:Nat}{s:St}{R:List Wr}(hw:wOk N R):wOk N (opT N s R).R:=by
 unfold opT; split
 ·show wOk N (opK N R)
  unfold opK; split
  ·exact hw
  ·exact Z6R hw
 ·exact hw
theorem Zgc{N:Nat}{s:St}{t:Stp}(hw:wOk N s.R):wOk N (stepS N s t).R:=by
 have hf:wOk N (fiR N s.U s.R t.len):=by
  unfold fiR; split
  ·exact Z6R hw
  ·exact hw
 unfold stepS
 split
 ·unfold fileS; split
  ·exact Zia (s:=fiS N s t.len) hf
  ·exact hf
 split
 ·exact Zia hw
 split
 ·unfold delS; split
  ·exact Zcr hw
  ·exact hw
 split
 ·unfold renS; split
  ·exact Zcr hw
  ·exact hw
 split
 ·exact hw
 split
 ·exact hw
 split
 ·exact Zi5 hw
 split
 ·split
  ·exact Zi5 (Z6R hw)
  ·exact hw
 ·exact hw
def un1(S:List Sec)(w:Wr):List Sec:=S.set w.1.toNat w.2
def unS(S:List Sec)(W:List Wr):Nat→List Sec
 | 0=>S
 | j+1=>un1 (unS S W j) (W.getD (W.length - 1 - j) default)
theorem Z9j(S:List Sec)(W:List Wr):∀j,(unS S W j).length=S.length
 | 0=>rfl
 | j+1=>by unfold unS un1; rw [List.length_set]; exact Z9j S W j
theorem Zc6(N:Nat)(i:Nat):∀(B A:List Wr),i<A.length→(wOf N (A++B)).getD i default=(wOf N A).getD i default
 | [],A,_=>by rw [List.append_nil]
 | b::B,A,h=>by
  have e:A++b::B=(A++[b])++B:=by rw [List.append_assoc]; rfl
  rw [e,Zc6 N i B (A++[b]) (by rw [List.length_append]; omega),Z7q,Zb2 _ _ _ (by rw [Z0F]; exact h)]
theorem Zac(N:Nat)(R:List Wr)(i:Nat)(h:i<R.length):(wOf N R).getD i default=((R.getD i default).1,(sOf N (R.take i)).getD (R.getD i default).1.toNat default):=by
 conv=>lhs; rw [←List.take_append_drop (i+1) R]
 rw [Zc6 N i _ _ (by rw [List.length_take]; omega),Z3e h,Z7q]
 have hl:(wOf N (R.take i)).length=i:=by rw [Z0F,List.length_take]; omega
 rw [List.getD_eq_getElem?_getD,List.getElem?_append_right (by omega),hl,Nat.sub_self]
 rfl
theorem ZhM{N:Nat}{R:List Wr}(hw:wOk N R):∀j,j≤R.length→unS (sOf N R) (wOf N R) j=sOf N (R.take (R.length - j))
 | 0,_=>by rw [Nat.sub_zero,List.take_length]; rfl
 | j+1,h=>by
  unfold unS
  rw [ZhM hw j (by omega),Z0F]
  obtain⟨i,hi⟩:∃i,i=R.length - 1 - j:=⟨_,rfl⟩
  have hl:i<R.length:=by omega
  rw [←hi,show R.length - j=i+1 by omega,show R.length - (j+1)=i by omega,Zac N R i hl,Z3e hl,Z4N]
  obtain⟨a,b⟩:=hw _ (by rw [Z0m hl]; exact List.getElem_mem hl:R.getD i default∈R)
  generalize R.getD i default=w at *
  unfold un1 stW
  rw [if_pos a]
  dsimp only
  rw [List.set_set]
  refine List.ext_getElem (by rw [List.length_set]) fun k h1 h2=>?_
  rw [List.getElem_set]
  split
  ·rename_i e
   subst e
   rw [Z0m h2]
  ·rfl
theorem Zim:∀{F:List (List UInt8×Int×Int)} {G:List (List UInt8×Int×Int)},F.flatMap (fun x=>[AV.str x.1,.int .i64 x.2.1,.int .i64 x.2.2])=G.flatMap (fun x=>[AV.str x.1,.int .i64 x.2.1,.int .i64 x.2.2])→F=G
 | [],[],_=>rfl
 | [],_::_,h=>by simp at h
 | _::_,[],h=>by simp at h
 | ⟨a,b,c⟩::F,⟨d,e,f⟩::G,h=>by
  simp only [List.flatMap_cons,List.cons_append,List.nil_append,List.cons.injEq,AV.str.injEq,AV.int.injEq,true_and] at h
  obtain⟨rfl,rfl,rfl,h⟩:=h
  rw [Zim h]
def eT(f:Fl):List UInt8×Int×Int:=(f.nm,f.hd,f.ln)
def eC(x:List UInt8×Int×Int):List AV:=[.str x.1,.int .i64 x.2.1,.int .i64 x.2.2]
instance:Z22 eC 3:=⟨fun _=>rfl⟩
instance:Z1U eC:=⟨fun x=>by simp only [eC,Z1G,Z0s,Bool.and_self],fun x=>rfl⟩
theorem ZlR{F G:List (List UInt8×Int×Int)}:F.flatMap eC=G.flatMap eC↔F=G:=⟨Zim,fun h=>by rw [h]⟩
theorem Z8W(F:List Fl):F.flatMap etC=(F.map eT).flatMap eC:=by rw [List.flatMap_map]; rfl
def k41:(List (List UInt8×Int×Int))×List Sec×List Wr→Ct:=fun (E,S,W)=>⟨([.ref 0 0 0,.sl (E.flatMap eC) E.length],Z0o S W),(0<S.length∧S.length≤1048576)∧(opn S).2=true∧E=(opn S).1.F.map eT∧E.length≤200,.bool true,Z0o S W⟩
theorem inj41:∀a b,(k41 a).a=(k41 b).a→a=b:=by
 rintro⟨E,S,W⟩ ⟨E',S',W'⟩ h
 simp only [k41,Z0g,Z0h,Z0k,Z0j,UInt8.toNat_inj,Z09,Z0c,ZlR,Z0o,Z0A,List.cons.injEq] at h
 simp_all only
noncomputable def S41:Z0n:=Z0W true k41
theorem ks41(E:List (List UInt8×Int×Int))(S:List Sec)(W:List Wr):KS k41 ([.ref 0 0 0,.sl (E.flatMap eC) E.length],Z0o S W) ((0<S.length∧S.length≤1048576)∧(opn S).2=true∧E=(opn S).1.F.map eT∧E.length≤200) (.bool true) (Z0o S W):=kat inj41 (E,S,W)
attribute [push_cast] S41 ks41
theorem body41(Γ:Env)(h18:Γ 18=some S18)(h29:Γ 29=some S29)(F:List Fl)(S:List Sec)(W:List Wr)(hS:0<S.length∧S.length≤1048576)(h1:(opn S).2=true)(hF:F=(opn S).1.F)(hl:F.length≤200) :
  Z08 Tryz.prog Γ Tryz.f41 [.ref 0 0 0,.sl (F.flatMap etC) F.length] (Z0o S W) (.bool true) (Z0o S W):=by
 have p18:=Z72 S W
 have r18:=Z6T S W
 have g18:=Z7d S W
 rw [if_pos h1] at r18 g18
 rw [←hF] at g18
 generalize (opn S).1.Lv=Lv at *
 generalize (opn S).1.U=U at *
 have ⟨p29,r29,g29⟩:=ks29 F Lv U S W
 unfold Z0o Z1L at *
 unfold Z0z at p29 r29 g29
 have tA:List.take (F.length*3) (F.flatMap etC)=F.flatMap etC:=List.take_of_length_le (by rw [Z2d (n:=3)]; exact Nat.le_refl _)
 refine stt 38 [.tmp 4] fun X hP hΓ hL hfin=>?_; refine gxq (cj8 h18 p18 r18 g18 h29 p29 r29 g29) ?_
 refine⟨⟨by decide,by omega,by omega⟩,⟨by decide,by omega⟩,?_⟩
 refine Z02.loopM (ι:={k:Nat // k≤F.length}) [ff,tt,ff,ff,ff,ff,ff,tt,ff,ff,ff,ff,ff,ff,ff,ff,ff,ff,ff,ff,ff,ff,ff,ff,ff,ff,ff,ff,ff,ff,ff,ff,ff,ff,ff,ff,ff,ff] (fun i=>[(8,.int .i64 i.1)]) (fun i=>[.row [.msl 1 0 0 S.length,.msl 2 W.length 0 W.length] 2 0,.row (S.flatMap Z1T) 1024 0,.row (W.flatMap wrC) 1025 W.length,.row (U.map (AV.int .i64)) 1 0,.row [.ref 0 0 0,.sl (F.flatMap flC) F.length,.msl 5 Lv.length 0 Lv.length,.msl 3 0 0 U.length] 4 0,.row (Lv.map (AV.int .i64)) 1 Lv.length,.row (F.flatMap etC) 3 F.length]) (fun i=>F.length - i.1) ⟨0,Nat.zero_le _⟩ ?_ ?_
 ·(rw [hL]; simp only [push_cast,Int.natCast_zero]; exact Z06.sameA)
 rintro⟨k,hk⟩
 dsimp only
 by_cases hk':k<F.length
 ·have dk:decide ((k:Int)<(F.length:Int))=true:=decide_eq_true (by omega)
  have wk:IntKind.i64.wrap ((k:Int)+1)=(k:Int)+1:=wrq
  obtain⟨f,hf⟩:∃f,F.getD k default=f:=⟨_,rfl⟩
  have t3:List.take 3 (List.drop (k*3) (F.flatMap etC))=[.str f.nm,.int .i64 f.hd,.int .i64 f.ln]:=by
   rw [Z1d (n:=3),List.drop_eq_getElem_cons hk',List.flatMap_cons,←Z0m hk',hf]; rfl
  have m3:min 3 (F.length*3 - k*3)=3:=by omega
  refine gxq dk ?_
  refine Z02.drawnK [] smp (by kernel_rfl) (gyq (cj2 t3 m3) ?_)
  refine⟨by omega,by omega,by omega,by omega,?_⟩
  refine gxq wk ?_
  refine⟨⟨k+1,hk'⟩,by simp only; omega,?_⟩
  exact Z06.sameA
 ·obtain rfl:k=F.length:=by omega
  have dk:decide ((F.length:Int)<(F.length:Int))=false:=decide_eq_false (by omega)
  refine gxq dk ?_
  exact Z06.keep3A
theorem con41{Γ:Env}(h:Z07 Tryz.prog Γ)(h18:Γ 18=some S18)(h29:Γ 29=some S29):Con Tryz.prog 41 S41:=
 kcn h (fn:=Tryz.f41) inj41 fun ⟨E,S,W⟩ ⟨h1,h2,h3,h4⟩=>by
  subst h3
  have:=body41 Γ h18 h29 (opn S).1.F S W h1 h2 rfl (by simpa using h4)
  rw [Z8W] at this
  have e:((opn S).1.F.map eT).length=(opn S).1.F.length:=List.length_map ..
  show Z08 _ _ _ [.ref 0 0 0,.sl (((opn S).1.F.map eT).flatMap eC) ((opn S).1.F.map eT).length] (Z0o S W) (.bool true) (Z0o S W)
  rw [e]
  exact this
end Go.Proofs.YtbnnhffkbcekcaaGreatDoor.dirDone
end
section
namespace Go.Proofs.YtbnnhffkbcekcaaGreatDoor.dirDone
open Go Go.Eng Go.Proofs
def k24:List Sec×List Wr×Nat→Ct:=fun (S,W,k)=>⟨([.ref 0 0 0,.int .i64 k],Z0o S W),(k≤W.length∧W.length≤4096∧0<S.length∧S.length≤4096)∧∀w∈W,0≤w.1∧w.1<S.length,.tup [.ref 3 0 0,.int .i64 0],Z0o S W++[.row [.msl 4 0 0 S.length,.msl 5 0 0 0] 2 0,.row ((unS S W (W.length - k)).flatMap Z1T) 1024 0,.row [] 1025 0]⟩
theorem inj24:∀a b,(k24 a).a=(k24 b).a→a=b:=by
 rintro⟨S,W,k⟩ ⟨S',W',k'⟩ h
 simp only [k24,Z0g,Z0h,Z0k,Z0j,UInt8.toNat_inj,Z09,Z0c,Z0o,Z0A,List.cons.injEq] at h
 simp_all only
noncomputable def S24:Z0n:=Z0W true k24
theorem ks24(S:List Sec)(W:List Wr)(k:Nat):KS k24 ([.ref 0 0 0,.int .i64 k],Z0o S W) ((k≤W.length∧W.length≤4096∧0<S.length∧S.length≤4096)∧∀w∈W,0≤w.1∧w.1<S.length) (.tup [.ref 3 0 0,.int .i64 0]) (Z0o S W++[.row [.msl 4 0 0 S.length,.msl 5 0 0 0] 2 0,.row ((unS S W (W.length - k)).flatMap Z1T) 1024 0,.row [] 1025 0]):=kat inj24 (S,W,k)
attribute [push_cast] S24 ks24
theorem body24(Γ:Env)(S:List Sec)(W:List Wr)(k:Nat)(hk:k≤W.length)(hW:W.length≤4096)(hS0:0<S.length)(hS:S.length≤4096)(hw:∀w∈W,0≤w.1∧w.1<S.length) :
  Z08 Tryz.prog Γ Tryz.f24 [.ref 0 0 0,.int .i64 k] (Z0o S W) (.tup [.ref 3 0 0,.int .i64 0]) (Z0o S W++[.row [.msl 4 0 0 S.length,.msl 5 0 0 0] 2 0,.row ((unS S W (W.length - k)).flatMap Z1T) 1024 0,.row [] 1025 0]):=by
 unfold Z0o
 have d1:decide ((W.length:Int)<(k:Int))=false:=decide_eq_false (by omega)
 have d0:decide ((k:Int)<0)=false:=decide_eq_false (by omega)
 refine stt 68 [.tmp 4,.tmp 5] fun X hP hΓ hL hfin=>?_; refine gxq (cj2 d0 d1) ?_
 refine⟨⟨by rw [Z1W]; exact Z2L _,by omega⟩,?_⟩
 refine Z02.loopM (ι:={j:Nat // j≤W.length - k}) [tt,tt,ff,ff,tt,tt,tt,ff,ff,ff,ff,ff,ff,ff,ff,ff,ff,ff,ff,ff,ff,ff,ff,ff,ff,ff,ff,ff,ff,ff,ff,ff,ff,ff,ff,ff,ff,ff,ff,ff,ff,ff,ff,ff,ff,ff,ff,ff,ff,ff,ff,ff,ff,ff,ff,ff,ff,ff,ff,ff,ff,ff,ff,ff,ff,ff,ff,ff] (fun i=>[(7,.int .i64 ((W.length:Int) - 1 - i.1)),(6,.ref 4 0 0)]) (fun i=>[.row [.msl 1 0 0 S.length,.msl 2 W.length 0 W.length] 2 0,.row (S.flatMap Z1T) 1024 0,.row (W.flatMap wrC) 1025 W.length,.row ((unS S W i.1).flatMap Z1T) 1024 0,.row [.msl 3 0 0 S.length,.lit (.slice none 0 0)] 2 0]) (fun i=>W.length - k - i.1) ⟨0,Nat.zero_le _⟩ ?_ ?_
 ·rw [hL]
  have e0:List.take (S.length*1024) (S.flatMap Z1T)=(unS S W 0).flatMap Z1T:=List.take_of_length_le (by rw [Z2d (n:=1024)]; exact Nat.le_refl _)
  rw [e0,Z0t _ (by constructor <;> omega)]
  simp only [push_cast,reduceCtorEq,Nat.reduceAdd,Nat.reduceMul,Nat.reduceSub,Nat.reduceBEq,Nat.reduceGT,Nat.reduceLT,Int.toNat_zero,Nat.reduceLeDiff,Int.reduceEq,Int.reduceLT,Int.reduceLE,Int.natCast_zero,Int.sub_zero]
  exact Z06.sameA
 rintro⟨j,hj⟩
 dsimp only
 by_cases hc:j<W.length - k
 case neg=>
  obtain rfl:j=W.length - k:=by omega
  have dk:decide ((k:Int)≤(W.length:Int) - 1 - ((W.length - k:Nat):Int))=false:=decide_eq_false (by omega)
  refine gxq dk ?_
  refine Z0q.nilH 4 1 1025 rfl rfl ?_
  exact Z0q.base [0,1,2,4,3,5] ⟨sml,smr,(by decide),(by first | rfl | decide),sm,sm⟩ smd
 have dk:decide ((k:Int)≤(W.length:Int) - 1 - (j:Int))=true:=decide_eq_true (by omega)
 obtain⟨i,hi⟩:∃i,i=W.length - 1 - j:=⟨_,rfl⟩
 have ei:(W.length:Int) - 1 - (j:Int)=(i:Int):=by omega
 rw [ei] at dk ⊢
 have hil:i<W.length:=by omega
 have hh:List.take 1025 (List.drop (i*1025) (W.flatMap wrC))=wrC (W.getD i default):=Z3z (n:=1025) W i hil
 have h4:min 1025 (W.length*1025 - i*1025)=1025:=by omega
 have hu:unS S W (j+1)=(unS S W j).set (W.getD i default).1.toNat (W.getD i default).2:=by rw [hi]; rfl
 obtain⟨a0,a1⟩:=hw (W.getD i default) (by rw [List.getD_eq_getElem?_getD,List.getElem?_eq_getElem hil]; exact List.getElem_mem hil)
 generalize W.getD i default=w at *
 obtain⟨n,t⟩:=w
 obtain⟨q,rfl⟩:=Int.eq_ofNat_of_zero_le a0
 dsimp only at a1 hu
 have hq:q<S.length:=by omega
 have hlu:=Z9j S W j
 rw [Int.toNat_natCast] at hu
 generalize unS S W j=V at *
 have hs:List.take 1024 (List.drop (q*1024) (V.flatMap Z1T))=Z1T (V.getD q default):=Z3z (n:=1024) V q (by omega)
 have h5:min 1024 (V.length*1024 - q*1024)=1024:=by omega
 have hwc:wrC ((q:Int),t)=AV.int .i64 (q:Int)::Z1T t:=rfl
 refine gxq (cj6 dk hh h4 @za123 @Zjq hwc) ?_
 refine⟨by omega,⟨by omega,by omega⟩,?_⟩
 refine Z02.drawnK [] smp (by kernel_rfl) ?_; simp (maxSteps:=1000000) only [↓reduceIte,Option.getD_some,push_cast,reduceCtorEq,Nat.reduceAdd,Nat.reduceMul,Nat.reduceSub,Nat.reduceBEq,Nat.reduceGT,Nat.reduceLT,Int.toNat_zero,Nat.reduceLeDiff,Int.reduceEq,Int.reduceLT,Int.reduceLE,hP,hΓ,hL,hfin,String.reduceEq,Int.toNat_one,Bool.not_not,hs,h5,hlu,Z2k,Z2F,hq]
 have ab:∀x:Sec,Z1A (Z1T x)=true:=fun x=>Z2k _
 refine⟨by omega,⟨by omega,by omega⟩,⟨ab _,ab _⟩,?_⟩
 have eb:IntKind.i64.wrap ((i:Int) - 1)=(W.length:Int) - 1 - ((j+1:Nat):Int):=by rw [Z0t _ (by constructor <;> omega)]; omega
 by_cases he:V.getD q default=t
 ·have du:(!decide (Z0C (Z1T (V.getD q default))=Z0C (Z1T t)))=false:=by rw [he,decide_eq_true rfl]; rfl
  have hv:V.set q t=V:=by
   refine List.ext_getElem (by rw [List.length_set]) fun a b1 b2=>?_
   rw [List.getElem_set]
   split
   ·rename_i e; subst e; rw [←he,List.getD_eq_getElem?_getD,List.getElem?_eq_getElem b2]; rfl
   ·rfl
  refine gxq du ?_
  refine⟨⟨j+1,by omega⟩,by simp only; omega,?_⟩
  dsimp only
  rw [eb,hu,hv]
  exact Z06.keep5A
 have du:(!decide (Z0C (Z1T (V.getD q default))=Z0C (Z1T t)))=true:=by
  have ub:∀x:Sec,Z0C (Z1T x)=x.1:=fun x=>Z2F _
  rw [ub,ub,decide_eq_false fun h=>he (Subtype.ext h)]; rfl
 refine gxq du ?_
 refine Z02.dE (Z1s [.any,.any,.any,.row 1024 0,.fix (.row [.msl 3 0 0 S.length,.lit (.slice none 0 0)] 2 0),.fix (.row (.int .i64 q::Z1T t) 1025 0)]) [0,1,2,3,4,5,6,7,8,9] [] [] true (gyq (cj2 hq hlu) ?_)
 have hm:(q+1)*1024≤S.length*1024:=Nat.mul_le_mul_right _ hq
 refine⟨by omega,by omega,?_⟩
 refine Z0G ?_
 refine⟨⟨j+1,by omega⟩,by simp only; omega,?_⟩
 dsimp only
 rw [eb,hu,Z3f V q t (by omega)]
 exact Z06.keep5A
theorem con24{Γ:Env}(h:Z07 Tryz.prog Γ):Con Tryz.prog 24 S24:=
 kcn h (fn:=Tryz.f24) inj24 fun ⟨S,W,k⟩ h=>body24 Γ S W k h.1.1 h.1.2.1 h.1.2.2.1 h.1.2.2.2 h.2
end Go.Proofs.YtbnnhffkbcekcaaGreatDoor.dirDone
end
section
namespace Go.Proofs.YtbnnhffkbcekcaaGreatDoor.dirDone
open Go Go.Eng Go.Proofs Go.Lib
theorem ZdM(n:Int):0<madeN n∧madeN n≤1024:=by unfold madeN; split <;> omega
theorem ZiM{N:Nat}(h:0<N):inv N (st0 N)∧mk1 N (st0 N)∧dsk N (st0 N)∧wOk N (st0 N).R:=⟨opn_inv (Z2J _ _ _ _ (Nat.zero_le _)) (Z4T h (by decide)),opn_mk h (Z2J _ _ _ _ (Nat.zero_le _)) (Z4T h (by decide)),Zge h,Z6R (fun w hw=>absurd hw (List.not_mem_nil))⟩
def pq(a j:Nat):Nat:=a+j
theorem Zkq{N:Nat}{R:List Wr}(h:wOk N R):∀w∈wOf N R,0≤w.1∧w.1<N:=fun w hw=>by
 obtain⟨i,hi,rfl⟩:=List.mem_iff_getElem.1 hw
 rw [Z0F] at hi
 have:=Zac N R i hi
 rw [Z0m (by rw [Z0F]; exact hi)] at this
 rw [this]
 show 0≤(R.getD i default).1∧(R.getD i default).1<N
 exact h _ (by rw [Z0m hi]; exact List.getElem_mem hi)
theorem Zc4(N:Nat)(R:List Wr):(wns (wOf N R)).length=R.length:=by unfold wns; rw [List.length_map,Z0F]
theorem ZhB{N:Nat}{F F2:List Fl}{Lv U Lv2 U2:List Int}{R R2 ws:List Wr}(h0:0<N)(hi:inv N ⟨F,Lv,U,R⟩)(hm:mk1 N ⟨F,Lv,U,R⟩)(i2:inv N ⟨F2,Lv2,U2,R2⟩)(m2:mk1 N ⟨F2,Lv2,U2,R2⟩)(d2:dsk N ⟨F2,Lv2,U2,R2⟩)(o2:wOk N R2)
  (hws:R2=R++ws) (hcut:∀q,q<ws.length→Z6B (sOf N (R++ws.take q)) F Lv) (j:Nat) (hj:j≤ws.length) :
  (opn (unS (sOf N R2) (wOf N R2) ((wOf N R2).length - pq R.length j))).2=true∧(opn (unS (sOf N R2) (wOf N R2) ((wOf N R2).length - pq R.length j))).1.F=if j=ws.length then F2 else F:=by
 have hl:R2.length=R.length+ws.length:=by rw [hws,List.length_append]
 rw [ZhM o2 _ (by rw [Z0F]; omega),Z0F]
 unfold pq
 rw [show R2.length - (R2.length - (R.length+j))=R.length+j by omega]
 by_cases c:j=ws.length
 ·rw [if_pos c,show R.length+j=R2.length by omega,List.take_length]
  obtain⟨U1,e,_⟩:=Zdv h0 i2 m2 (Z0r N R2) d2
  rw [e]; exact⟨rfl,rfl⟩
 ·rw [if_neg c]
  have e1:R2.take (R.length+j)=R++ws.take j:=by rw [hws,List.take_append,List.take_of_length_le (by omega),show R.length+j - R.length=j by omega]
  rw [e1]
  obtain⟨U1,e,_⟩:=Zdv h0 hi hm (Z0r N _) (hcut j (by omega))
  rw [e]; exact⟨rfl,rfl⟩
theorem body12(Γ:Env)(h25:Γ 25=some S25)(h26:Γ 26=some S26)(h27:Γ 27=some S27)(h29:Γ 29=some S29)(h23:Γ 23=some S23)(h24:Γ 24=some S24)(h41:Γ 41=some S41)(sec:Int)(fs:List Stp)(hf:fs.length≤1048576)(hfs:∀s∈fs,s.nm.length≤1048576∧s.to.length≤1048576∧s.r.length≤1048576) :
  Z08 Tryz.prog Γ Tryz.f12 [.int .i64 sec,.sl (fs.flatMap stC) fs.length] [] (.bool true) []:=by
 obtain⟨hN0,hN⟩:=ZdM sec
 have ⟨p26,r26,g26⟩:=ks26 sec
 have i0:=ZiM hN0
 generalize madeN sec=N at *
 generalize st0 N=s0 at *
 obtain⟨F0,Lv0,U0,R0⟩:=s0
 unfold bH bK at g26
 dsimp only at g26
 refine stt 93 [.tmp 4] fun X hP hΓ hL hfin=>?_; refine gxq (cj5 h25 h26 p26 r26 g26) ?_
 refine Z02.loopM (ι:={p:Nat×St // p.1≤fs.length∧inv N p.2∧mk1 N p.2∧dsk N p.2∧wOk N p.2.R}) [ff,tt,ff,ff,ff,tt,tt,ff,ff,ff,ff,ff,ff,ff,ff,ff,ff,ff,ff,ff,ff,ff,ff,ff,ff,ff,ff,ff,ff,ff,ff,ff,ff,ff,ff,ff,ff,ff,ff,ff,ff,ff,ff,ff,ff,ff,ff,ff,ff,ff,ff,ff,ff,ff,ff,ff,ff,ff,ff,ff,ff,ff,ff,ff,ff,ff,ff,ff,ff,ff,ff,ff,ff,ff,ff,ff,ff,ff,ff,ff,ff,ff,ff,ff,ff,ff,ff,ff,ff,ff,ff,ff,ff] (fun i=>[(7,.int .i64 i.1.1)]) (fun i=>bH N i.1.2) (fun i=>fs.length - i.1.1) ⟨(0,⟨F0,Lv0,U0,R0⟩),Nat.zero_le _,i0⟩ ?_ ?_
 ·rw [hL]
  unfold bH bK
  simp only [push_cast,reduceCtorEq,Nat.reduceAdd,Nat.reduceMul,Nat.reduceSub,Nat.reduceBEq,Nat.reduceGT,Nat.reduceLT,Int.toNat_zero,Nat.reduceLeDiff,Int.reduceEq,Int.reduceLT,Int.reduceLE,Int.natCast_zero]
  exact Z06.sameA
 clear p26 r26 g26 i0
 rintro⟨⟨k,⟨F,Lv,U,R⟩⟩,hk,hi,hm,hd,ho⟩
 replace hk:k≤fs.length:=hk
 replace hi:inv N ⟨F,Lv,U,R⟩:=hi
 replace hm:mk1 N ⟨F,Lv,U,R⟩:=hm
 replace hd:dsk N ⟨F,Lv,U,R⟩:=hd
 replace ho:wOk N R:=ho
 have hU:U.length=N:=hi.2.2.2.2.1
 have hR:R.length≤4096:=hi.2.2.2.2.2.1
 have hF2:F.length≤200:=hi.2.1
 unfold bH
 dsimp only
 unfold bK
 by_cases hk':k<fs.length
 ·have dk:decide ((k:Int)<(fs.length:Int))=true:=decide_eq_true (by omega)
  have wk:IntKind.i64.wrap ((k:Int)+1)=(k:Int)+1:=wrq
  obtain⟨f,hf⟩:∃f,fs.getD k default=f:=⟨_,rfl⟩
  have hfm:f∈fs:=by rw [←hf,Z0m hk']; exact List.getElem_mem hk'
  obtain⟨hnm,hto,hr⟩:=hfs f hfm
  have t6:List.take 6 (List.drop (k*6) (fs.flatMap stC))=[.int .i64 f.kd,.str f.nm,.str f.to,.int .i64 f.n,.int .i64 f.len,.str f.r]:=by
   rw [Z1d (n:=6),List.drop_eq_getElem_cons hk',List.flatMap_cons,←Z0m hk',hf]; rfl
  have m6:min 6 (fs.length*6 - k*6)=6:=by omega
  have gk:∀d,(fs.flatMap stC).getD (k*6) d=.int .i64 f.kd:=fun d=>by rw [Z4e (n:=6) fs k d hk' (by decide),hf]; rfl
  by_cases k9:f.kd=9
  ·have d9:decide (f.kd=9)=true:=decide_eq_true k9
   refine gxq (cj4 dk wk gk d9) ?_
   refine⟨by omega,by omega,⟨(k+1,⟨F,Lv,U,R⟩),hk',hi,hm,hd,ho⟩,by simp only; omega,?_⟩
   exact Z06.sameA
  have d9:decide (f.kd=9)=false:=decide_eq_false k9
  have ⟨p1,r1,g1⟩:=ks27 F Lv U N R f.kd f.nm f.to f.n f.len f.r
  have ⟨p2,r2,g2⟩:=ks29 F Lv U (sOf N R) (wOf N R)
  have ⟨p3,r3,g3⟩:=ks23 (sOf N R) (wOf N R)
  rw [Zc4] at r3
  have i2:=Zci (t:=f) hN0 hN hi
  have m2:=Zgd (t:=f) hN0 hi hm
  have o2:=Zgc (t:=f) (s:=⟨F,Lv,U,R⟩) ho
  obtain⟨d2,c2⟩:=Zbj (t:=f) hN0 (by omega) k9 hi hm hd
  unfold ZfC at g1
  rw [show (⟨f.kd,f.nm,f.to,f.n,f.len,f.r⟩:Stp)=f from rfl] at g1
  generalize stepS N ⟨F,Lv,U,R⟩ f=s2 at *
  obtain⟨F2,Lv2,U2,R2⟩:=s2
  obtain⟨ws,hws,hcut⟩:=c2
  dsimp only at hws hcut
  have hR2:R2.length≤4096:=i2.2.2.2.2.2.1
  have hF3:F2.length≤200:=i2.2.1
  have hS:=Z0r N R
  have hW:=Z0F N R
  unfold Z0z at p2 r2 g2
  unfold Z0o at p3 r3 g3
  refine gnq 16 (Ziy dk gk d9 h29 p2 r2 g2 h23 p3 r3 g3) ?_
  refine⟨by omega,by omega,⟨by decide,by omega⟩,⟨by decide,by omega⟩,?_⟩
  refine Z02.peel ?_
  have hH2:bH N ⟨F2,Lv2,U2,R2⟩=bK F2 Lv2 U2 (sOf N R2) (wOf N R2) N R2:=rfl
  refine Z02.cutM (ι:=Unit) [ff,tt,ff,ff,ff,tt,tt,tt,tt,tt,ff,ff,ff,ff,ff,ff,ff,ff,ff,ff,ff,ff,ff,ff,ff,ff,ff,ff,ff,ff,ff,ff,ff,ff,ff,ff,ff,ff,ff,ff,ff,ff,ff,ff,ff,ff,ff,ff,ff,ff,ff,ff,ff,ff,ff,ff,ff,ff,ff,ff,ff,ff,ff,ff,ff,ff,ff,ff,ff,ff,ff,ff,ff,ff,ff,ff,ff,ff,ff,ff,ff,ff,ff,ff,ff,ff,ff,ff,ff,ff,ff,ff,ff] (fun i=>[]) (fun i=>bH N ⟨F2,Lv2,U2,R2⟩++[.row (F.flatMap etC) 3 F.length]) ?_ ?_
  ·by_cases hI:Zll N ⟨F,Lv,U,R⟩ f
   ·rw [if_pos hI] at g1
    generalize rubL ⟨F,Lv,U,R⟩ f=rub at *
    unfold bIH bI at g1
    dsimp only at g1
    generalize sOf N R=S at *
    generalize wOf N R=W at *
    unfold bK at p1 r1 g1
    refine gxq (cj6 t6 m6 h27 p1 r1 g1) ?_
    refine⟨by omega,by omega,⟨by decide,hi,hN0,hN,hnm,hto,hr⟩,(),?_⟩
    unfold bH bK
    dsimp only
    simp only [List.cons_append,List.nil_append]
    exact Z0q.base [0,1,2,3,4,5,6,12,8,9,10,11] ⟨sml,smr,(by decide),(by first | rfl | decide),sm,sm⟩ smd
   rw [if_neg hI] at g1
   by_cases hN':Zlk N ⟨F,Lv,U,R⟩ f
   ·rw [if_pos hN'] at g1
    unfold bOH bO at g1
    dsimp only at g1
    generalize sOf N R=S at *
    generalize wOf N R=W at *
    unfold bK at p1 r1 g1
    refine gxq (cj6 t6 m6 h27 p1 r1 g1) ?_
    refine⟨by omega,by omega,⟨by decide,hi,hN0,hN,hnm,hto,hr⟩,(),?_⟩
    unfold bH bK
    dsimp only
    simp only [List.cons_append,List.nil_append]
    exact Z0q.base [0,1,12,3,13,5,6,14,15,9,16,11] ⟨sml,smr,(by decide),(by first | rfl | decide),sm,sm⟩ smd
   ·rw [if_neg hN'] at g1
    unfold bH at g1
    dsimp only at g1
    generalize sOf N R=S at *
    generalize wOf N R=W at *
    unfold bK at p1 r1 g1
    refine gxq (cj6 t6 m6 h27 p1 r1 g1) ?_
    refine⟨by omega,by omega,⟨by decide,hi,hN0,hN,hnm,hto,hr⟩,(),?_⟩
    unfold bH bK
    dsimp only
    simp only [List.cons_append,List.nil_append]
    exact Z06.keep12A
  rintro⟨⟩
  have hS2:=Z0r N R2
  have hW2:=Z0F N R2
  have hl2:R2.length=R.length+ws.length:=by rw [hws,List.length_append]
  have hwo:=Zkq o2
  have hread:=ZhB hN0 hi hm i2 m2 d2 o2 hws hcut
  have ⟨p4,r4,g4⟩:=ks29 F2 Lv2 U2 (sOf N R2) (wOf N R2)
  have ⟨p5,r5,g5⟩:=ks23 (sOf N R2) (wOf N R2)
  rw [Zc4] at r5
  unfold Z0z at p4 r4 g4
  unfold Z0o at p5 r5 g5
  unfold bH bK
  dsimp only
  simp only [List.cons_append,List.nil_append]
  refine gxq (cj8 h29 p4 r4 g4 h23 p5 r5 g5) ?_
  refine⟨⟨by decide,by omega⟩,⟨by decide,by omega⟩,?_⟩
  refine Z02.loopM (ι:={j:Nat // j≤ws.length+1}) [ff,tt,ff,ff,ff,tt,tt,tt,tt,ff,tt,tt,ff,ff,ff,ff,ff,ff,ff,ff,ff,ff,ff,ff,ff,ff,ff,ff,ff,ff,ff,ff,ff,ff,ff,ff,ff,ff,ff,ff,ff,ff,ff,ff,ff,ff,ff,ff,ff,ff,ff,ff,ff,ff,ff,ff,ff,ff,ff,ff,ff,ff,ff,ff,ff,ff,ff,ff,ff,ff,ff,ff,ff,ff,ff,ff,ff,ff,ff,ff,ff,ff,ff,ff,ff,ff,ff,ff,ff,ff,ff,ff,ff] (fun i=>[(12,.int .i64 (pq R.length i.1))]) (fun i=>bH N ⟨F2,Lv2,U2,R2⟩++[.row (F.flatMap etC) 3 F.length,.row (F2.flatMap etC) 3 F2.length]) (fun i=>ws.length+1 - i.1) ⟨0,Nat.zero_le _⟩ ?_ ?_
  ·rw [hL]
   unfold bH bK
   dsimp only
   simp only [push_cast,reduceCtorEq,Nat.reduceAdd,Nat.reduceMul,Nat.reduceSub,Nat.reduceBEq,Nat.reduceGT,Nat.reduceLT,Int.toNat_zero,Nat.reduceLeDiff,Int.reduceEq,Int.reduceLT,Int.reduceLE,List.cons_append,List.nil_append,show pq R.length 0=R.length from rfl]
   exact Z06.sameA
  rintro⟨j,hj⟩
  dsimp only
  have hq:pq R.length j=R.length+j:=rfl
  by_cases hj':j≤ws.length
  case neg=>
   have dl:decide ((pq R.length j:Int)≤(R2.length:Int))=false:=decide_eq_false (by omega)
   have wk:IntKind.i64.wrap ((k:Int)+1)=(k:Int)+1:=wrq
   unfold bH bK
   dsimp only
   simp only [List.cons_append,List.nil_append]
   refine gxq (cj2 dl wk) ?_
   refine⟨⟨(k+1,⟨F2,Lv2,U2,R2⟩),hk',i2,m2,d2,o2⟩,by simp only; omega,?_⟩
   exact Z06.keep11A
  obtain⟨c1,c3⟩:=hread j hj'
  have dl:decide ((pq R.length j:Int)≤(R2.length:Int))=true:=decide_eq_true (by omega)
  have wq:IntKind.i64.wrap ((pq R.length j:Int)+1)=(pq R.length (j+1):Int):=by rw [Z0t _ (by constructor <;> omega),show pq R.length (j+1)=R.length+(j+1) from rfl]; omega
  have ⟨p6,r6,g6⟩:=ks24 (sOf N R2) (wOf N R2) (pq R.length j)
  have uL:=Z9j (sOf N R2) (wOf N R2) ((wOf N R2).length - pq R.length j)
  generalize hSk:unS (sOf N R2) (wOf N R2) ((wOf N R2).length - pq R.length j)=Sk at *
  unfold Z0o at p6 r6 g6
  unfold bH bK
  dsimp only
  simp only [List.cons_append,List.nil_append] at g6 ⊢
  by_cases hj2:j=ws.length
  ·have de:decide ((pq R.length j:Int)=(R2.length:Int))=true:=decide_eq_true (by omega)
   rw [if_pos hj2] at c3
   have ⟨p7,r7,g7⟩:=ks41 (F2.map eT) Sk []
   rw [←Z8W,List.length_map,c3] at p7
   rw [←Z8W,List.length_map] at r7 g7
   unfold Z0o at p7 r7 g7
   simp only [List.flatMap_nil,List.length_nil] at p7 r7 g7
   rw [uL] at p7 r7 g7
   have t2:List.take (F2.length*3) (F2.flatMap etC)=F2.flatMap etC:=List.take_of_length_le (by rw [Z2d (n:=3)]; exact Nat.le_refl _)
   refine gxq (Z9a dl h24 p6 r6 g6 de h41 p7 r7 g7 wq t2) ?_
   refine⟨⟨by decide,⟨by omega,by omega,by omega,by omega⟩,by rw [hS2]; exact hwo⟩,⟨by decide,⟨by omega,by omega⟩,c1,hF3⟩,⟨⟨j+1,by omega⟩,by simp only; omega,?_⟩⟩
   exact Z06.keep13A
  ·have de:decide ((pq R.length j:Int)=(R2.length:Int))=false:=decide_eq_false (by omega)
   rw [if_neg hj2] at c3
   have ⟨p7,r7,g7⟩:=ks41 (F.map eT) Sk []
   rw [←Z8W,List.length_map,c3] at p7
   rw [←Z8W,List.length_map] at r7 g7
   unfold Z0o at p7 r7 g7
   simp only [List.flatMap_nil,List.length_nil] at p7 r7 g7
   rw [uL] at p7 r7 g7
   have t2:List.take (F.length*3) (F.flatMap etC)=F.flatMap etC:=List.take_of_length_le (by rw [Z2d (n:=3)]; exact Nat.le_refl _)
   refine gxq (Z9a dl h24 p6 r6 g6 de h41 p7 r7 g7 wq t2) ?_
   refine⟨⟨by decide,⟨by omega,by omega,by omega,by omega⟩,by rw [hS2]; exact hwo⟩,⟨by decide,⟨by omega,by omega⟩,c1,hF2⟩,⟨⟨j+1,by omega⟩,by simp only; omega,?_⟩⟩
   exact Z06.keep13A
 ·obtain rfl:k=fs.length:=by omega
  have dk:decide ((fs.length:Int)<(fs.length:Int))=false:=decide_eq_false (by omega)
  refine gxq dk ?_
  exact Z06.one rfl rfl
end Go.Proofs.YtbnnhffkbcekcaaGreatDoor.dirDone
end
section
namespace Go.Proofs.YtbnnhffkbcekcaaGreatDoor.dirDone
open Go Go.Eng Go.Proofs Go.RowKit
noncomputable def dt0:Env:=noE
theorem Ziw:Z07 Tryz.prog dt0:=Zlc _
noncomputable def dt1:Env:=Z11 dt0 116 S116
theorem Ziv:Z07 Tryz.prog dt1:=Ziw.add (con116 Ziw)
noncomputable def dt2:Env:=Z11 dt1 64 S64
theorem Ziu:Z07 Tryz.prog dt2:=Ziv.add (con64 Ziv rfl)
noncomputable def dt3:Env:=Z11 dt2 113 S113
theorem Zit:Z07 Tryz.prog dt3:=Ziu.add (con113 Ziu rfl)
noncomputable def dt4:Env:=Z11 dt3 31 S31
theorem Zis:Z07 Tryz.prog dt4:=Zit.add (con31 Zit)
noncomputable def dt5:Env:=Z11 dt4 115 S115
theorem Zir:Z07 Tryz.prog dt5:=Zis.add (con115 Zis)
noncomputable def dt6:Env:=Z11 dt5 62 S62
theorem Ziq:Z07 Tryz.prog dt6:=Zir.add (con62 Zir rfl)
noncomputable def dt7:Env:=Z11 dt6 23 S23
theorem Zip:Z07 Tryz.prog dt7:=Ziq.add (con23 Ziq)
noncomputable def dt8:Env:=Z11 dt7 61 S61
theorem Zio:Z07 Tryz.prog dt8:=Zip.add (con61 Zip rfl)
noncomputable def dt9:Env:=Z11 dt8 90 S90
theorem Zin:Z07 Tryz.prog dt9:=Zio.add (con90 Zio rfl)
noncomputable def dt10:Env:=Z11 dt9 49 S49
theorem ZfA:Z07 Tryz.prog dt10:=Zin.add (con49 Zin)
noncomputable def dt11:Env:=Z11 dt10 91 S91
theorem Zfz:Z07 Tryz.prog dt11:=ZfA.add (con91 ZfA)
noncomputable def dt12:Env:=Z11 dt11 92 S92
theorem Zfy:Z07 Tryz.prog dt12:=Zfz.add (con92 Zfz rfl)
noncomputable def dt13:Env:=Z11 dt12 37 S37
theorem Zfx:Z07 Tryz.prog dt13:=Zfy.add (con37 Zfy rfl rfl rfl)
noncomputable def dt14:Env:=Z11 dt13 141 S141
theorem Zfw:Z07 Tryz.prog dt14:=Zfx.add (con141 Zfx)
noncomputable def dt15:Env:=Z11 dt14 79 S79
theorem Zfv:Z07 Tryz.prog dt15:=Zfw.add (con79 Zfw)
noncomputable def dt16:Env:=Z11 dt15 126 S126
theorem Zfu:Z07 Tryz.prog dt16:=Zfv.add (con126 Zfv rfl)
noncomputable def dt17:Env:=Z11 dt16 78 S78
theorem Zft:Z07 Tryz.prog dt17:=Zfu.add (con78 Zfu rfl)
noncomputable def dt18:Env:=Z11 dt17 80 S80
theorem Zfs:Z07 Tryz.prog dt18:=Zft.add (con80 Zft rfl rfl rfl)
noncomputable def dt19:Env:=Z11 dt18 56 S56
theorem Zfr:Z07 Tryz.prog dt19:=Zfs.add (con56 Zfs)
noncomputable def dt20:Env:=Z11 dt19 109 S109
theorem Zk2:Z07 Tryz.prog dt20:=Zfr.add (con109 Zfr)
noncomputable def dt21:Env:=Z11 dt20 185 ixS
theorem Zfq:Z07 Tryz.prog dt21:=Zk2.add (con185)
noncomputable def dt22:Env:=Z11 dt21 178 ixS
theorem Zfp:Z07 Tryz.prog dt22:=Zfq.add (con178 Zfq rfl)
noncomputable def dt23:Env:=Z11 dt22 173 S173
theorem Zfo:Z07 Tryz.prog dt23:=Zfp.add (con173 Zfp rfl)
noncomputable def dt24:Env:=Z11 dt23 164 S164
theorem Zfn:Z07 Tryz.prog dt24:=Zfo.add (con164 Zfo rfl)
noncomputable def dt25:Env:=Z11 dt24 156 S156
theorem Zfm:Z07 Tryz.prog dt25:=Zfn.add (con156 Zfn rfl)
noncomputable def dt26:Env:=Z11 dt25 165 S165
theorem Zfl:Z07 Tryz.prog dt26:=Zfm.add (con165 Zfm)
noncomputable def dt27:Env:=Z11 dt26 166 S166
theorem Zfk:Z07 Tryz.prog dt27:=Zfl.add (con166 Zfl)
noncomputable def dt28:Env:=Z11 dt27 157 S157
theorem Zfj:Z07 Tryz.prog dt28:=Zfk.add (con157 Zfk rfl rfl)
noncomputable def dt29:Env:=Z11 dt28 139 S139
theorem Zfi:Z07 Tryz.prog dt29:=Zfj.add (con139 Zfj)
noncomputable def dt30:Env:=Z11 dt29 114 S114
theorem Zfh:Z07 Tryz.prog dt30:=Zfi.add (con114 Zfi rfl rfl rfl rfl rfl rfl rfl)
noncomputable def dt31:Env:=Z11 dt30 55 S55
theorem Zfg:Z07 Tryz.prog dt31:=Zfh.add (con55 Zfh rfl rfl rfl rfl rfl)
noncomputable def dt32:Env:=Z11 dt31 18 S18
theorem Zff:Z07 Tryz.prog dt32:=Zfg.add (con18 Zfg rfl rfl)
noncomputable def dt33:Env:=Z11 dt32 19 S19
theorem Zfe:Z07 Tryz.prog dt33:=Zff.add (con19 Zff)
noncomputable def dt34:Env:=Z11 dt33 33 S33
theorem Zfd:Z07 Tryz.prog dt34:=Zfe.add (con33 Zfe rfl)
noncomputable def dt35:Env:=Z11 dt34 32 S32
theorem Zfc:Z07 Tryz.prog dt35:=Zfd.add (con32 Zfd rfl)
noncomputable def dt36:Env:=Z11 dt35 29 S29
theorem Zk1:Z07 Tryz.prog dt36:=Zfc.add (con29 Zfc)
noncomputable def dt37:Env:=Z11 dt36 154 ZbT
theorem Zfb:Z07 Tryz.prog dt37:=Zk1.add (con154)
noncomputable def dt38:Env:=Z11 dt37 134 ZbT
theorem Zfa:Z07 Tryz.prog dt38:=Zfb.add (con134 Zfb rfl)
noncomputable def dt39:Env:=Z11 dt38 89 ZbT
theorem Zf9:Z07 Tryz.prog dt39:=Zfa.add (con89 Zfa rfl)
noncomputable def dt40:Env:=Z11 dt39 125 S125
theorem Zf8:Z07 Tryz.prog dt40:=Zf9.add (con125 Zf9 rfl)
noncomputable def dt41:Env:=Z11 dt40 124 S124
theorem Zf7:Z07 Tryz.prog dt41:=Zf8.add (con124 Zf8 rfl)
noncomputable def dt42:Env:=Z11 dt41 77 S77
theorem Zf6:Z07 Tryz.prog dt42:=Zf7.add (con77 Zf7 rfl)
noncomputable def dt43:Env:=Z11 dt42 81 S81
theorem Zf5:Z07 Tryz.prog dt43:=Zf6.add (con81 Zf6)
noncomputable def dt44:Env:=Z11 dt43 82 S82
theorem Zf4:Z07 Tryz.prog dt44:=Zf5.add (con82 Zf5 rfl)
noncomputable def dt45:Env:=Z11 dt44 129 S129
theorem Zf3:Z07 Tryz.prog dt45:=Zf4.add (con129 Zf4)
noncomputable def dt46:Env:=Z11 dt45 130 S130
theorem Zf2:Z07 Tryz.prog dt46:=Zf3.add (con130 Zf3)
noncomputable def dt47:Env:=Z11 dt46 85 S85
theorem Zf1:Z07 Tryz.prog dt47:=Zf2.add (con85 Zf2 rfl rfl rfl rfl rfl rfl rfl rfl)
noncomputable def dt48:Env:=Z11 dt47 83 S83
theorem Zf0:Z07 Tryz.prog dt48:=Zf1.add (con83 Zf1)
noncomputable def dt49:Env:=Z11 dt48 84 S84
theorem ZeZ:Z07 Tryz.prog dt49:=Zf0.add (con84 Zf0)
noncomputable def dt50:Env:=Z11 dt49 34 S34
theorem ZeY:Z07 Tryz.prog dt50:=ZeZ.add (con34 ZeZ rfl rfl rfl rfl rfl rfl rfl rfl rfl)
noncomputable def dt51:Env:=Z11 dt50 95 S95
theorem ZeX:Z07 Tryz.prog dt51:=ZeY.add (con95 ZeY)
noncomputable def dt52:Env:=Z11 dt51 135 S135
theorem ZeW:Z07 Tryz.prog dt52:=ZeX.add (con135 ZeX)
noncomputable def dt53:Env:=Z11 dt52 94 S94
theorem ZeV:Z07 Tryz.prog dt53:=ZeW.add (con94 ZeW rfl)
noncomputable def dt54:Env:=Z11 dt53 105 S105
theorem ZeU:Z07 Tryz.prog dt54:=ZeV.add (con105 ZeV)
noncomputable def dt55:Env:=Z11 dt54 51 S51
theorem ZeT:Z07 Tryz.prog dt55:=ZeU.add (con51 ZeU rfl)
noncomputable def dt56:Env:=Z11 dt55 106 S106
theorem ZeS:Z07 Tryz.prog dt56:=ZeT.add (con106 ZeT)
noncomputable def dt57:Env:=Z11 dt56 107 S107
theorem ZeR:Z07 Tryz.prog dt57:=ZeS.add (con107 ZeS)
noncomputable def dt58:Env:=Z11 dt57 110 S110
theorem ZeQ:Z07 Tryz.prog dt58:=ZeR.add (con110 ZeR)
noncomputable def dt59:Env:=Z11 dt58 111 S111
theorem ZeP:Z07 Tryz.prog dt59:=ZeQ.add (con111 ZeQ)
noncomputable def dt60:Env:=Z11 dt59 108 S108
theorem ZeO:Z07 Tryz.prog dt60:=ZeP.add (con108 ZeP)
noncomputable def dt61:Env:=Z11 dt60 136 S136
theorem ZeN:Z07 Tryz.prog dt61:=ZeO.add (con136 ZeO)
noncomputable def dt62:Env:=Z11 dt61 96 S96
theorem ZeM:Z07 Tryz.prog dt62:=ZeN.add (con96 ZeN rfl)
noncomputable def dt63:Env:=Z11 dt62 99 S99
theorem ZeL:Z07 Tryz.prog dt63:=ZeM.add (con99 ZeM)
noncomputable def dt64:Env:=Z11 dt63 76 S76
theorem ZeK:Z07 Tryz.prog dt64:=ZeL.add (con76 ZeL)
noncomputable def dt65:Env:=Z11 dt64 71 S71
theorem ZeJ:Z07 Tryz.prog dt65:=ZeK.add (con71 ZeK)
noncomputable def dt66:Env:=Z11 dt65 72 S72
theorem ZeI:Z07 Tryz.prog dt66:=ZeJ.add (con72 ZeJ)
noncomputable def dt67:Env:=Z11 dt66 120 S120
theorem ZeH:Z07 Tryz.prog dt67:=ZeI.add (con120 ZeI)
noncomputable def dt68:Env:=Z11 dt67 98 S98
theorem ZeG:Z07 Tryz.prog dt68:=ZeH.add (con98 ZeH rfl rfl rfl rfl)
noncomputable def dt69:Env:=Z11 dt68 137 S137
theorem ZeF:Z07 Tryz.prog dt69:=ZeG.add (con137 ZeG rfl rfl)
noncomputable def dt70:Env:=Z11 dt69 97 S97
theorem ZeE:Z07 Tryz.prog dt70:=ZeF.add (con97 ZeF rfl rfl rfl rfl)
noncomputable def dt71:Env:=Z11 dt70 43 S43
theorem ZeD:Z07 Tryz.prog dt71:=ZeE.add (con43 ZeE rfl rfl rfl rfl rfl rfl)
noncomputable def dt72:Env:=Z11 dt71 103 S103
theorem ZeC:Z07 Tryz.prog dt72:=ZeD.add (con103 ZeD)
noncomputable def dt73:Env:=Z11 dt72 52 S52
theorem ZeB:Z07 Tryz.prog dt73:=ZeC.add (con52 ZeC rfl rfl rfl rfl)
noncomputable def dt74:Env:=Z11 dt73 121 S121
theorem ZeA:Z07 Tryz.prog dt74:=ZeB.add (con121 ZeB rfl rfl rfl)
noncomputable def dt75:Env:=Z11 dt74 122 S122
theorem Zez:Z07 Tryz.prog dt75:=ZeA.add (con122 ZeA rfl rfl rfl rfl rfl rfl)
noncomputable def dt76:Env:=Z11 dt75 68 S68
theorem Zey:Z07 Tryz.prog dt76:=Zez.add (con68 Zez rfl rfl rfl rfl rfl rfl)
noncomputable def dt77:Env:=Z11 dt76 25 S25
theorem Zex:Z07 Tryz.prog dt77:=Zey.add (con25 Zey rfl rfl rfl rfl)
noncomputable def dt78:Env:=Z11 dt77 26 S26
theorem Zew:Z07 Tryz.prog dt78:=Zex.add (con26 Zex rfl rfl rfl rfl rfl rfl)
noncomputable def dt79:Env:=Z11 dt78 119 S119
theorem Zev:Z07 Tryz.prog dt79:=Zew.add (con119 Zew rfl rfl)
noncomputable def dt80:Env:=Z11 dt79 118 S118
theorem Zeu:Z07 Tryz.prog dt80:=Zev.add (con118 Zev)
noncomputable def dt81:Env:=Z11 dt80 74 S74
theorem Zet:Z07 Tryz.prog dt81:=Zeu.add (con74 Zeu rfl rfl rfl rfl)
noncomputable def dt82:Env:=Z11 dt81 75 S75
theorem Zes:Z07 Tryz.prog dt82:=Zet.add (con75 Zet rfl rfl rfl rfl)
noncomputable def dt83:Env:=Z11 dt82 67 S67
theorem Zer:Z07 Tryz.prog dt83:=Zes.add (con67 Zes rfl rfl rfl rfl rfl rfl rfl rfl rfl)
noncomputable def dt84:Env:=Z11 dt83 30 S30
theorem Zeq:Z07 Tryz.prog dt84:=Zer.add (con30 Zer rfl)
noncomputable def dt85:Env:=Z11 dt84 73 S73
theorem Zep:Z07 Tryz.prog dt85:=Zeq.add (con73 Zeq rfl)
noncomputable def dt86:Env:=Z11 dt85 123 S123
theorem Zeo:Z07 Tryz.prog dt86:=Zep.add (con123 Zep)
noncomputable def dt87:Env:=Z11 dt86 69 S69
theorem Zen:Z07 Tryz.prog dt87:=Zeo.add (con69 Zeo rfl rfl rfl rfl rfl)
noncomputable def dt88:Env:=Z11 dt87 70 S70
theorem Zem:Z07 Tryz.prog dt88:=Zen.add (con70 Zen rfl rfl rfl rfl rfl)
noncomputable def dt89:Env:=Z11 dt88 131 S131
theorem Zel:Z07 Tryz.prog dt89:=Zem.add (con131 Zem)
noncomputable def dt90:Env:=Z11 dt89 86 S86
theorem Zek:Z07 Tryz.prog dt90:=Zel.add (con86 Zel rfl)
noncomputable def dt91:Env:=Z11 dt90 35 S35
theorem Zk0:Z07 Tryz.prog dt91:=Zek.add (con35 Zek rfl rfl rfl)
noncomputable def dt92:Env:=Z11 dt91 87 Z6O
theorem Zej:Z07 Tryz.prog dt92:=Zk0.add (con87)
noncomputable def dt93:Env:=Z11 dt92 36 S36
theorem Zei:Z07 Tryz.prog dt93:=Zej.add (con36 Zej rfl rfl rfl rfl rfl)
noncomputable def dt94:Env:=Z11 dt93 27 S27
theorem Zeh:Z07 Tryz.prog dt94:=Zei.add (con27 Zei rfl rfl rfl rfl rfl rfl rfl rfl rfl rfl rfl rfl rfl rfl rfl)
noncomputable def dt95:Env:=Z11 dt94 24 S24
theorem Zeg:Z07 Tryz.prog dt95:=Zeh.add (con24 Zeh)
noncomputable def dt96:Env:=Z11 dt95 41 S41
theorem ZjZ:Z07 Tryz.prog dt96:=Zeg.add (con41 Zeg rfl rfl)
noncomputable abbrev dtE:Env:=dt96
theorem ZlU:Z07 Tryz.prog dtE:=ZjZ
end Go.Proofs.YtbnnhffkbcekcaaGreatDoor.dirDone
end
