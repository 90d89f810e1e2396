/- Parts of the walk through directories. Conditions stand in each. -/
import Derived.Test.YtbnnhffkbcekcaaGreatDoorGc
import Derived.Test.YtbnnhffkbcekcaaGreatDoorFg
set_option linter.unusedVariables false
set_option linter.unusedSimpArgs false
set_option maxRecDepth 100000
set_option maxHeartbeats 4000000
section
namespace Go.Proofs.YtbnnhffkbcekcaaGreatDoor.dirDone
open Go Go.Eng Go.Proofs Go.Lib
attribute [push_cast] Z26
theorem Z4M:∀F:List Fl,Z1e (F.flatMap flC)=F.flatMap flC
 | []=>rfl
 | f::F=>by
  rw [List.flatMap_cons,Z1u,Z4M F]
  rfl
def ZdP(b:List UInt8)(i:Nat)(F:List Fl):Prop:=Zhz b i=true∧F.length≠200∧(F.length=0∨Op.bytesLess (F.getD (F.length - 1) default).nm (enN b i)=true)
instance (b:List UInt8) (i:Nat) (F:List Fl):Decidable (ZdP b i F):=by unfold ZdP; infer_instance
def lfE(b:List UInt8)(i:Nat):Fl:=⟨enN b i,enH b i,enL b i,[]⟩
def Z3L(b:List UInt8):Nat→Nat→List Fl→List Fl×Bool
 | 0,_,F=>(F,true)
 | k+1,i,F=>if ZdP b i F then Z3L b k (i+1) (F++[lfE b i]) else (F,false)
def lf0(S:List Sec)(U:List Int)(at_:Int):Prop:=(0≤at_∧at_<S.length)∧tOk U 0 [at_]∧getW (secB S at_) 0=827081795
instance (S:List Sec) (U:List Int) (at_:Int):Decidable (lf0 S U at_):=by unfold lf0; infer_instance
def lfN(S:List Sec)(at_:Int):Nat:=getW (secB S at_) 4
def lf1(S:List Sec)(at_:Int)(last:Bool):Prop:=1≤lfN S at_∧lfN S at_≤31∧(last=true∨lfN S at_=31)
instance (S:List Sec) (at_:Int) (last:Bool):Decidable (lf1 S at_ last):=by unfold lf1; infer_instance
def lfP(S:List Sec)(U:List Int)(at_:Int)(last:Bool):Prop:=lf0 S U at_∧lf1 S at_ last
instance (S:List Sec) (U:List Int) (at_:Int) (last:Bool):Decidable (lfP S U at_ last):=by unfold lfP; infer_instance
def lfB(F:List Fl)(S:List Sec)(U:List Int)(at_:Int)(last:Bool):Bool:=if lfP S U at_ last then (Z3L (secB S at_) (lfN S at_) 0 F).2 else false
def lfF(F:List Fl)(S:List Sec)(U:List Int)(at_:Int)(last:Bool):List Fl:=if lfP S U at_ last then (Z3L (secB S at_) (lfN S at_) 0 F).1 else F
def lfL(Lv:List Int)(S:List Sec)(U:List Int)(at_:Int)(last:Bool):List Int:=if lfP S U at_ last then Lv++[at_] else Lv
def lfU(S:List Sec)(U:List Int)(at_:Int):List Int:=if 0≤at_∧at_<S.length then tRes U 0 1 [at_] else U
theorem Z9N(S:List Sec)(U:List Int)(at_:Int):(lfU S U at_).length=U.length:=by
 unfold lfU tRes
 split
 ·split
  ·exact Z0w _ _ _
  ·rfl
 ·rfl
def lfH(F:List Fl)(Lv:List Int)(at_:Int)(U1:List Int)(u:Nat)(S:List Sec)(W:List Wr)(n:Nat)(b:List UInt8)(rc:List Z0Q):Z01:=[.row [.ref 1 0 0,.msl 2 F.length 0 F.length,.msl 3 (Lv.length+1) 0 (Lv.length+1),.msl 4 0 0 u] 4 0,.row [.msl 5 0 0 S.length,.msl 6 W.length 0 W.length] 2 0,.row (F.flatMap flC) 4 F.length,.row (Lv.map (AV.int .i64)++[.int .i64 at_]) 1 (Lv.length+1),.row (U1.map (AV.int .i64)) 1 0,.row (S.flatMap Z1T) 1024 0,.row (W.flatMap wrC) 1025 W.length,.row [.ref 0 0 0] 1 0,.row [.bool false] 1 0,.row [.int .i64 at_] 1 0,.row [.int .i64 n] 1 0,.row [.sl (b.map Z05) b.length] 1 0]++rc
def k114:List Fl×List Int×List Int×List Sec×List Wr×Int×Bool→Ct:=fun (F,Lv,U,S,W,at_,last)=>⟨([.ref 0 0 0,.int .i64 at_,.bool last],Z19 F Lv U S W),F.length≤4194304∧Lv.length≤4194304∧U.length≤4194304∧S.length≤1048576,.bool (lfB F S U at_ last),Z19 (lfF F S U at_ last) (lfL Lv S U at_ last) (lfU S U at_) S W⟩
theorem inj114:∀a b,(k114 a).a=(k114 b).a→a=b:=by
 rintro⟨F,Lv,U,S,W,at_,last⟩ ⟨F',Lv',U',S',W',at_',last'⟩ h
 simp only [k114,Z0g,Z0h,Z0k,Z0j,UInt8.toNat_inj,Z09,Z0c,Z0x,Z0o,Z1g,Z19,Z0A,List.cons.injEq] at h
 simp_all only
noncomputable def S114:Z0n:=Z0W true k114
theorem ks114(F:List Fl)(Lv U:List Int)(S:List Sec)(W:List Wr)(at_:Int)(last:Bool):KS k114 ([.ref 0 0 0,.int .i64 at_,.bool last],Z19 F Lv U S W) (F.length≤4194304∧Lv.length≤4194304∧U.length≤4194304∧S.length≤1048576) (.bool (lfB F S U at_ last)) (Z19 (lfF F S U at_ last) (lfL Lv S U at_ last) (lfU S U at_) S W):=kat inj114 (F,Lv,U,S,W,at_,last)
attribute [push_cast] S114 ks114
theorem body114(Γ:Env)(h62:Γ 62=some S62)(h78:Γ 78=some S78)(h113:Γ 113=some S113)(h139:Γ 139=some S139)(h156:Γ 156=some S156)(h56:Γ 56=some S56)(h157:Γ 157=some S157)
  (F:List Fl) (Lv U:List Int) (S:List Sec) (W:List Wr) (at_:Int) (last:Bool) (hF:F.length≤4194304) (hLv:Lv.length≤4194304) (hU:U.length≤4194304) (hS:S.length≤1048576) :
  Z08 Tryz.prog Γ Tryz.f114 [.ref 0 0 0,.int .i64 at_,.bool last] (Z19 F Lv U S W) (.bool (lfB F S U at_ last)) (Z19 (lfF F S U at_ last) (lfL Lv S U at_ last) (lfU S U at_) S W):=by
 have ⟨ps,rs,hs⟩:=ks62 S W at_
 have pt:=Z8v U 0 [at_] 0 0 1
 have rt:=Z8p U 0 [at_] 0 0 1
 have ht:=Z8O U 0 [at_] 0 0 1
 simp only [List.map_cons,List.map_nil,List.length_singleton] at pt rt ht
 have hno:¬lfP S U at_ last→lfB F S U at_ last=false∧lfF F S U at_ last=F∧lfL Lv S U at_ last=Lv:=fun h=>by
  unfold lfB lfF lfL; rw [if_neg h,if_neg h,if_neg h]; exact⟨rfl,rfl,rfl⟩
 by_cases c0:0≤at_∧at_<S.length
 case neg=>
  obtain⟨k1,k2,k3⟩:=hno (fun h=>c0 h.1.1)
  have k4:lfU S U at_=U:=by unfold lfU; rw [if_neg c0]
  rw [k1,k2,k3,k4]
  have e1:rdA S at_=.tup [.sl [] 0,.int .i64 31]:=by unfold rdA; rw [if_neg c0]
  rw [e1] at rs
  unfold Z0o at *
  unfold Z19 at *
  refine stt 114 [.cell 6 4] fun X hP hΓ hL hfin=>?_; refine gmq 6 (cj4 h62 ps rs hs) ?_
  refine⟨by decide,?_⟩
  refine Z02.reg ?_
  refine Z04.ev 3 (Z1S ?_)
  refine Z04.skips 8 (Z1S ?_)
  refine Z04.ev 2 (Z1S ?_)
  refine Z04.skips 3 (Z1S ?_)
  refine Z04.ev 1 (Z1S ?_)
  refine Z04.nil ?_
  refine Z0G ?_
  exact Z06.keep7A
 have k4:lfU S U at_=tRes U 0 1 [at_]:=by unfold lfU; rw [if_pos c0]
 have e1:rdA S at_=.tup [.sl ((secB S at_).map Z05) (secB S at_).length,.int .i64 0]:=by unfold rdA; rw [if_pos c0]; rfl
 rw [e1] at rs
 have hl:=Z3r S at_
 by_cases c1:tOk U 0 [at_]
 case neg=>
  obtain⟨k1,k2,k3⟩:=hno (fun h=>c1 h.1.2.1)
  have k5:tRes U 0 1 [at_]=U:=by unfold tRes; rw [if_neg c1]
  have d1:decide (tOk U 0 [at_])=false:=decide_eq_false c1
  rw [k1,k2,k3,k4,k5]
  rw [k5] at ht
  unfold Z0o at *
  unfold Z19 at *
  refine stt 114 [.cell 6 4] fun X hP hΓ hL hfin=>?_; refine gxq (Zkm h62 h113 h78 ps rs hs pt rt ht d1) ?_
  refine⟨by decide,⟨by decide,hU⟩,?_⟩
  exact Z06.keep7A
 have d1:decide (tOk U 0 [at_])=true:=decide_eq_true c1
 have hU1:(tRes U 0 1 [at_]).length=U.length:=by rw [←k4]; exact Z9N S U at_
 have f0:((getW (secB S at_) (4*0:Int).toNat:Nat):Int)=((getW (secB S at_) 0:Nat):Int):=rfl
 have f1:((getW (secB S at_) (4*1:Int).toNat:Nat):Int)=(lfN S at_:Int):=rfl
 have hh:Z19 (lfF F S U at_ last) (lfL Lv S U at_ last) (lfU S U at_) S W=[.row [.ref 1 0 0,.msl 2 (lfF F S U at_ last).length 0 (lfF F S U at_ last).length,.msl 3 (lfL Lv S U at_ last).length 0 (lfL Lv S U at_ last).length,.msl 4 0 0 U.length] 4 0,.row [.msl 5 0 0 S.length,.msl 6 W.length 0 W.length] 2 0,.row ((lfF F S U at_ last).flatMap flC) 4 (lfF F S U at_ last).length,.row ((lfL Lv S U at_ last).map (AV.int .i64)) 1 (lfL Lv S U at_ last).length,.row ((tRes U 0 1 [at_]).map (AV.int .i64)) 1 0,.row (S.flatMap Z1T) 1024 0,.row (W.flatMap wrC) 1025 W.length]:=by
  unfold Z19; rw [Z9N,k4]
 rw [hh]
 generalize tRes U 0 1 [at_]=U1 at *
 by_cases c2:getW (secB S at_) 0=827081795
 case neg=>
  obtain⟨k1,k2,k3⟩:=hno (fun h=>c2 h.1.2.2)
  have d2:decide (((getW (secB S at_) 0:Nat):Int)=827081795)=false:=decide_eq_false (by omega)
  rw [k1,k2,k3]
  unfold Z0o at *
  unfold Z19 at *
  refine stt 114 [.cell 6 4] fun X hP hΓ hL hfin=>?_; refine gxq (Z9a h62 h113 h78 ps rs hs pt rt ht d1 f0 d2) ?_
  refine⟨by decide,⟨by decide,hU⟩,⟨by omega,by omega⟩,?_⟩
  exact Z06.keep7A
 have d2:decide (((getW (secB S at_) 0:Nat):Int)=827081795)=true:=decide_eq_true (by omega)
 have hlt:lfN S at_<4294967296:=Z20 _ _
 have f3:IntKind.i64.wrap ((lfN S at_:Nat):Int)=(lfN S at_:Int):=wrq
 by_cases c3:lf1 S at_ last
 case neg=>
  obtain⟨k1,k2,k3⟩:=hno (fun h=>c3 h.2)
  have d3:(decide ((lfN S at_:Int)<1) || decide ((31:Int)<(lfN S at_:Int)) || !last && !decide ((lfN S at_:Int)=31))=true:=by
   rw [Bool.eq_iff_iff]
   simp only [Bool.or_eq_true,Bool.and_eq_true,Bool.not_eq_true',decide_eq_true_eq,decide_eq_false_iff_not,iff_true]
   by_cases q1:lfN S at_<1
   ·exact .inl (.inl (by omega))
   by_cases q2:31<lfN S at_
   ·exact .inl (.inr (by omega))
   refine .inr ⟨?_,fun h=>c3 ⟨by omega,by omega,.inr (by omega)⟩⟩
   cases last
   ·rfl
   ·exact absurd ⟨by omega,by omega,.inl rfl⟩ c3
  rw [k1,k2,k3]
  unfold Z0o at *
  unfold Z19 at *
  refine stt 114 [.cell 6 4] fun X hP hΓ hL hfin=>?_; refine gxq (Zk8 h62 h113 h78 ps rs hs pt rt ht d1 f0 d2 f1 f3 d3) ?_
  refine⟨by decide,⟨by decide,hU⟩,⟨by omega,by omega⟩,⟨by omega,by omega⟩,?_⟩
  exact Z06.keep7A
 have hP0:lfP S U at_ last:=⟨⟨c0,c1,c2⟩,c3⟩
 have g1:lfB F S U at_ last=(Z3L (secB S at_) (lfN S at_) 0 F).2:=by unfold lfB; rw [if_pos hP0]
 have g2:lfF F S U at_ last=(Z3L (secB S at_) (lfN S at_) 0 F).1:=by unfold lfF; rw [if_pos hP0]
 have g3:lfL Lv S U at_ last=Lv++[at_]:=by unfold lfL; rw [if_pos hP0]
 rw [g1,g2,g3]
 obtain⟨q1,q2,q3⟩:=c3
 have d3:(decide ((lfN S at_:Int)<1) || decide ((31:Int)<(lfN S at_:Int)) || !last && !decide ((lfN S at_:Int)=31))=false:=by
  rw [decide_eq_false (by omega),decide_eq_false (by omega)]
  rcases q3 with rfl | q3
  ·rfl
  ·rw [decide_eq_true (by omega)]; simp
 clear hno hh k4 e1
 generalize secB S at_=b at *
 generalize lfN S at_=n at *
 unfold Z0o at *
 unfold Z19 at *
 refine stt 114 [.cell 6 4] fun X hP hΓ hL hfin=>?_; refine gxq (Zk8 h62 h113 h78 ps rs hs pt rt ht d1 f0 d2 f1 f3 d3) ?_
 refine⟨by decide,⟨by decide,hU⟩,⟨by omega,by omega⟩,⟨by omega,by omega⟩,?_⟩
 refine Z02.dE (Z1s [.fix (.row [.ref 1 0 0,.msl 2 F.length 0 F.length,.msl 3 Lv.length 0 Lv.length,.msl 4 0 0 U.length] 4 0),.any,.any,.any,.any,.any,.any,.fix (.row [.ref 0 0 0] 1 0)]) [1,2,3,4,5,7,10] [] [] true (Zhs ?_)
 refine⟨by omega,?_⟩
 refine gxq h139 ?_
 have hmp:(Lv++[at_]).map (AV.int .i64)=Lv.map (AV.int .i64)++[.int .i64 at_]:=by rw [List.map_append]; rfl
 refine Z02.rangeFunc hP hΓ hfin (F:=155) (fnI:=Tryz.f155) (cap:=[.ref 10 0 0,.ref 11 0 0]) rfl (by kernel_rfl) rfl (by kernel_rfl) rfl rfl (ι:=Unit) (fun b' r _=>lfH (Z3L b n 0 F).1 Lv at_ U1 U.length S W n b [Z26 b' (if (Z3L b n 0 F).2 then rdy r else don r)]) ?_ ?_
 ·intro b' r hps has hbd X hP hΓ hL hfin hC
  show Z02 X _ _ (lfH F Lv at_ U1 U.length S W n b [Z26 b' (rdy r)])
  unfold lfH
  (rw [show Tryz.f155.ntmps=61 from rfl]; refine Z0G ?_)
  have hbl:b.length=1024:=hl
  refine Z02.loopM (ι:={p:Nat×List Fl // p.1≤n∧Z3L b (n - p.1) p.1 p.2=Z3L b n 0 F∧p.2.length≤F.length+p.1}) [tt,ff,tt,ff,ff,ff,ff,ff,ff,ff,tt,ff,ff,ff,ff,ff,ff,ff,ff,ff,ff,ff,ff,ff,ff,ff,ff,ff,ff,ff,ff,ff,ff,ff,ff,ff,ff,ff,ff,ff,ff,ff,ff,ff,ff,ff,ff,ff,ff,ff,ff,ff,ff,ff,ff,ff,ff,ff,ff,ff,ff] (fun i=>[(10,.int .i64 n),(11,.int .i64 i.1.1)]) (fun i=>lfH i.1.2 Lv at_ U1 U.length S W n b [Z26 b' (rdy r)]) (fun i=>n - i.1.1) ⟨(0,F),Nat.zero_le _,rfl,Nat.le_refl _⟩ ?_ ?_
  ·rw [hL]
   unfold lfH
   simp only [push_cast]
   exact Z06.sameA
  rintro⟨⟨k,F'⟩,hk,hgo,hfl⟩
  dsimp only at hk hgo hfl
  unfold lfH
  by_cases ck:k<n
  case neg=>
   have dk:decide ((k:Int)<(n:Int))=false:=decide_eq_false (by omega)
   have he:Z3L b n 0 F=(F',true):=by rw [←hgo,show n - k=0 by omega]; rfl
   refine gxq dk ?_
   refine⟨(),?_⟩
   rw [he]
   show Z0q _ _ _ ([],lfH F' Lv at_ U1 U.length S W n b [.raw (.obj (some b') (.loop (rdy r)))])
   unfold lfH
   exact Z06.sameA
  have dk:decide ((k:Int)<(n:Int))=true:=decide_eq_true (by omega)
  obtain⟨o,ho⟩:∃o,o=8+32*k:=⟨_,rfl⟩
  obtain⟨o2,ho2⟩:∃o2,o2=o+24:=⟨_,rfl⟩
  have w0:IntKind.i64.wrap (32*(k:Int))=32*(k:Int):=wrq
  have w1:IntKind.i64.wrap (8+32*(k:Int))=(o:Int):=by rw [Z0t _ (by constructor <;> omega)]; omega
  have w2:IntKind.i64.wrap ((o:Int)+24)=(o2:Int):=by rw [Z0t _ (by constructor <;> omega)]; omega
  have hsl:List.drop o (List.take o2 (b.map Z05))=(enB b k).map Z05:=by
   rw [←List.map_take,←List.map_drop,List.drop_take,show o2 - o=24 by omega,ho]; rfl
  have hel:(enB b k).length=24:=by unfold enB; rw [List.length_take,List.length_drop]; omega
  have hN:(enN b k).length≤24:=by
   unfold enN Z99
   split
   ·omega
   ·rw [List.length_take]; omega
  have hRl:(enR b k).length≤24:=by
   unfold enR Za3
   split
   ·exact Nat.zero_le _
   ·rw [List.length_drop]; omega
  have hcN:Z99 (enB b k) 0=enN b k:=rfl
  have hcR:Za3 (enB b k) 0=enR b k:=rfl
  refine gxq (cj8 dk w0 w1 w2 hsl h156 hcN hcR) ?_
  refine⟨⟨by omega,by omega,by omega⟩,by omega,by omega,?_⟩
  obtain⟨o3,ho3⟩:∃o3,o3=o2 / 4:=⟨_,rfl⟩
  obtain⟨o4,ho4⟩:∃o4,o4=o3+1:=⟨_,rfl⟩
  have w3:(o2:Int).tdiv 4=(o3:Int):=by rw [Int.tdiv_eq_ediv_of_nonneg (by omega)]; omega
  have w4:IntKind.i64.wrap (o3:Int)=(o3:Int):=wrq
  have w5:IntKind.i64.wrap ((o3:Int)+1)=(o4:Int):=by rw [Z0t _ (by constructor <;> omega)]; omega
  have fH:((getW b (4*(o3:Int)).toNat:Nat):Int)=enH b k:=by unfold enH; rw [show (4*(o3:Int)).toNat=4*((8+32*k+24) / 4) by omega]
  have fL:((getW b (4*(o4:Int)).toNat:Nat):Int)=enL b k:=by unfold enL; rw [show (4*(o4:Int)).toNat=4*((8+32*k+24) / 4+1) by omega]
  have eH:0≤enH b k∧enH b k<4294967296:=by unfold enH; have:=Z20 b (4*((8+32*k+24) / 4)); omega
  have eL:0≤enL b k∧enL b k<4294967296:=by unfold enL; have:=Z20 b (4*((8+32*k+24) / 4+1)); omega
  have wH:IntKind.i64.wrap (enH b k)=enH b k:=wrq
  have wL:IntKind.i64.wrap (enL b k)=enL b k:=wrq
  refine Z02.dE (Z1s [.any,.any,.any,.any,.any,.any,.any,.any,.any,.any,.any,.fix (.row [.sl (b.map Z05) b.length] 1 0)]) [0,1,2,3,4,7,8,9,10,11,15,16] [] [] false (gyq (cj9 h113 w2 w3 w4 w5 fH fL wH wL) ?_)
  refine⟨by omega,by omega,?_⟩
  refine gnq 4 (cj2 h56 h157) ?_
  refine⟨by omega,fun _=>⟨by omega,by decide⟩,?_⟩
  have hc:(!Z34 (enN b k) || !Z3d 0 (Z2W 0 (enR b k)) == [])=!Zhz b k:=by unfold Zhz; rw [Bool.not_and]
  rw [hc]
  have hstep:Z3L b (n - k) k F'=if ZdP b k F' then Z3L b (n - (k+1)) (k+1) (F'++[lfE b k]) else (F',false):=by
   rw [show n - k=(n - (k+1))+1 by omega]; rfl
  rw [hstep] at hgo
  cases hk2:Zhz b k with
  | false=>
   have hno2:¬ZdP b k F':=fun h=>by rw [h.1] at hk2; cases hk2
   rw [if_neg hno2] at hgo
   simp only [Bool.not_false,Zb6]
   refine Z50 2 ?_
   refine Z02.reg ?_
   refine Z04.ev 2 (Z1S ?_)
   refine Z04.yieldM (lid:=12) (b:=b') (r:=r) rfl hP hΓ rfl rfl rfl (by rw [hps]; rfl) hC (by rw [hps]) (ι:=Empty) (κ:=Unit) (fun j=>j.elim) (fun _=>lfH F' Lv at_ U1 U.length S W n b [Z26 b' (bsy r),.row [.str (enN b k),.int .i64 (enH b k),.int .i64 (enL b k)] 3 0]) ?_ (fun j=>j.elim) ?_
   ·intro X hP hΓ hL hRR
    rw [has]
    ((first | with_reducible refine holds_of_ex X 400 _ _ _ ?_ | skip); simp (maxSteps:=1000000) only [push_cast,reduceCtorEq,Nat.reduceAdd,Nat.reduceMul,Nat.reduceSub,Nat.reduceBEq,Nat.reduceGT,Nat.reduceLT,Int.toNat_zero,Nat.reduceLeDiff,Int.reduceEq,Int.reduceLT,Int.reduceLE,hP,hΓ,hL,hfin,String.reduceEq,Int.toNat_one,Bool.not_not,List.zip_cons_cons,List.map_cons,List.map_nil,List.zip_nil_left])
    refine⟨rfl,fun X hP hΓ hL hfin=>?_⟩
    rw [hbd]
    simp only [List.set_cons_succ,List.set_cons_zero]
    refine Z0G ?_
    refine Z02.drawnK [3,4,7,8,9,10,11,12,13,14,15,16,17,18,19,20,21,22,23,24,25] smp (by kernel_rfl) (Zhs ?_)
    refine Z0G ?_
    refine⟨(),?_⟩
    unfold lfH
    simp only [push_cast]
    exact Z06.sameA
   ·rintro⟨⟩
    refine⟨rfl,?_⟩
    unfold lfH
    simp only [push_cast,List.set_cons_succ,List.set_cons_zero,List.drop_succ_cons,List.drop_zero]
    refine Z04.ev 5 (Z1S ?_)
    refine Z04.nil ?_
    refine Z0G ?_
    refine⟨(),?_⟩
    rw [←hgo]
    show Z0q _ _ _ ([],lfH F' Lv at_ U1 U.length S W n b [.raw (.obj (some b') (.loop (don r)))])
    unfold lfH
    exact Z06.keep13A
  | true=>
   simp only [Bool.not_true,Z8V]
   refine Z50 2 ?_
   refine Z02.reg ?_
   refine Z04.ev 2 (Z1S ?_)
   by_cases hlf:ZdP b k F'
   ·rw [if_pos hlf] at hgo
    obtain⟨-,h200,hless⟩:=hlf
    have d200:decide ((F'.length:Int)=200)=false:=decide_eq_false (by omega)
    have hfm:(F'++[lfE b k]).flatMap flC=F'.flatMap flC++[.str (enN b k),.int .i64 (enH b k),.int .i64 (enL b k),.sl [] 0]:=by rw [List.flatMap_append]; rfl
    have hln:(F'++[lfE b k]).length=F'.length+1:=by rw [List.length_append]; rfl
    refine Z04.yieldM (lid:=12) (b:=b') (r:=r) rfl hP hΓ rfl rfl rfl (by rw [hps]; rfl) hC (by rw [hps]) (ι:=Unit) (κ:=Empty) (fun _=>lfH (F'++[lfE b k]) Lv at_ U1 U.length S W n b [Z26 b' (bsy r),.row [.str (enN b k),.int .i64 (enH b k),.int .i64 (enL b k)] 3 0]) (fun j=>j.elim) ?_ ?_ (fun j=>j.elim)
    ·intro X hP hΓ hL hRR
     rw [has]
     ((first | with_reducible refine holds_of_ex X 400 _ _ _ ?_ | skip); simp (maxSteps:=1000000) only [push_cast,reduceCtorEq,Nat.reduceAdd,Nat.reduceMul,Nat.reduceSub,Nat.reduceBEq,Nat.reduceGT,Nat.reduceLT,Int.toNat_zero,Nat.reduceLeDiff,Int.reduceEq,Int.reduceLT,Int.reduceLE,hP,hΓ,hL,hfin,String.reduceEq,Int.toNat_one,Bool.not_not,List.zip_cons_cons,List.map_cons,List.map_nil,List.zip_nil_left])
     refine⟨rfl,fun X hP hΓ hL hfin=>?_⟩
     rw [hbd]
     simp only [List.set_cons_succ,List.set_cons_zero]
     refine Z0G ?_
     by_cases hz:F'.length=0
     ·have dz:decide ((0:Int)<(F'.length:Int))=false:=decide_eq_false (by omega)
      refine Z02.drawnK [10,11,12,13,14,15,16,17,18,19,20,21,22,23,24] smp (by kernel_rfl) (gyq (cj2 d200 dz) ?_)
      refine Z0G ?_
      refine Z02.dE (Z1s [.fix (.row [.ref 1 0 0,.msl 2 F'.length 0 F'.length,.msl 3 (Lv.length+1) 0 (Lv.length+1),.msl 4 0 0 U.length] 4 0),.any,.any,.any,.any,.any,.any,.fix (.row [.ref 0 0 0] 1 0),.any,.any,.any,.any,.any,.fix (.row [.str (enN b k),.int .i64 (enH b k),.int .i64 (enL b k)] 3 0)]) [1,2,3,4,5,6,7,10,13] [] [] true (Zhs ?_)
      refine⟨by omega,?_⟩
      refine Z0G ?_
      refine⟨(),?_⟩
      refine Z0q.softH 2 rfl ?_
      rw [Z1u,Z4M]
      unfold lfH
      simp only [push_cast,hfm,hln,Z1e,Z3q,List.set_cons_succ,List.set_cons_zero]
      exact Z06.sameA
     ·have dz:decide ((0:Int)<(F'.length:Int))=true:=decide_eq_true (by omega)
      obtain⟨m,hm⟩:∃m,F'.length=m+1:=⟨F'.length - 1,by omega⟩
      have wm:IntKind.i64.wrap ((F'.length:Int) - 1)=(m:Int):=by rw [Z0t _ (by constructor <;> omega)]; omega
      have hgd:(F'.flatMap flC).getD (m*4) (AV.str [])=.str (F'.getD m default).nm:=by
       rw [Z4e (n:=4) F' m (AV.str []) (by omega) (by omega)]; rfl
      have hls:Op.bytesLess (F'.getD m default).nm (enN b k)=true:=by
       rcases hless with h | h
       ·omega
       ·rw [hm] at h; exact h
      refine Z02.drawnQ smp (by kernel_rfl) (gwq (cj6 d200 dz wm hgd @Int.toNat_natCast hls) ?_)
      refine⟨by omega,by omega,?_⟩
      refine Z02.dE (Z1s [.fix (.row [.ref 1 0 0,.msl 2 F'.length 0 F'.length,.msl 3 (Lv.length+1) 0 (Lv.length+1),.msl 4 0 0 U.length] 4 0),.any,.any,.any,.any,.any,.any,.fix (.row [.ref 0 0 0] 1 0),.any,.any,.any,.any,.any,.fix (.row [.str (enN b k),.int .i64 (enH b k),.int .i64 (enL b k)] 3 0)]) [1,2,3,4,5,6,7,10,13] [] [] true (Zhs ?_)
      refine⟨by omega,?_⟩
      refine Z0G ?_
      refine⟨(),?_⟩
      refine Z0q.softH 2 rfl ?_
      rw [Z1u,Z4M]
      unfold lfH
      simp only [push_cast,hfm,hln,Z1e,Z3q,List.set_cons_succ,List.set_cons_zero]
      exact Z06.sameA
    ·rintro⟨⟩
     refine⟨rfl,?_⟩
     unfold lfH
     simp only [push_cast,List.set_cons_succ,List.set_cons_zero,List.drop_succ_cons,List.drop_zero]
     refine Z04.ev 5 (Z1S ?_)
     refine Z04.nil ?_
     refine Z0G ?_
     refine⟨⟨(k+1,F'++[lfE b k]),by simp only; omega,hgo,by simp only [hln]; omega⟩,by simp only; omega,?_⟩
     rw [Z0t ((k:Int)+1) (by constructor <;> omega)]
     simp only [push_cast,hfm,hln]
     exact Z06.keep13A
   ·rw [if_neg hlf] at hgo
    refine Z04.yieldM (lid:=12) (b:=b') (r:=r) rfl hP hΓ rfl rfl rfl (by rw [hps]; rfl) hC (by rw [hps]) (ι:=Empty) (κ:=Unit) (fun j=>j.elim) (fun _=>lfH F' Lv at_ U1 U.length S W n b [Z26 b' (bsy r),.row [.str (enN b k),.int .i64 (enH b k),.int .i64 (enL b k)] 3 0]) ?_ (fun j=>j.elim) ?_
    ·intro X hP hΓ hL hRR
     rw [has]
     ((first | with_reducible refine holds_of_ex X 400 _ _ _ ?_ | skip); simp (maxSteps:=1000000) only [push_cast,reduceCtorEq,Nat.reduceAdd,Nat.reduceMul,Nat.reduceSub,Nat.reduceBEq,Nat.reduceGT,Nat.reduceLT,Int.toNat_zero,Nat.reduceLeDiff,Int.reduceEq,Int.reduceLT,Int.reduceLE,hP,hΓ,hL,hfin,String.reduceEq,Int.toNat_one,Bool.not_not,List.zip_cons_cons,List.map_cons,List.map_nil,List.zip_nil_left])
     refine⟨rfl,fun X hP hΓ hL hfin=>?_⟩
     rw [hbd]
     simp only [List.set_cons_succ,List.set_cons_zero]
     refine Z0G ?_
     by_cases h200:F'.length=200
     ·have d200:decide ((F'.length:Int)=200)=true:=decide_eq_true (by omega)
      refine Z02.drawnK [7,8,9,10,11,12,13,14,15,16,17,18,19,20,21,22,23,24,25] smp (by kernel_rfl) (gyq d200 ?_)
      refine Z0G ?_
      refine⟨(),?_⟩
      unfold lfH
      simp only [push_cast]
      exact Z06.sameA
     ·have d200:decide ((F'.length:Int)=200)=false:=decide_eq_false (by omega)
      have hz:F'.length≠0:=fun h=>hlf ⟨hk2,h200,.inl h⟩
      have dz:decide ((0:Int)<(F'.length:Int))=true:=decide_eq_true (by omega)
      obtain⟨m,hm⟩:∃m,F'.length=m+1:=⟨F'.length - 1,by omega⟩
      have wm:IntKind.i64.wrap ((F'.length:Int) - 1)=(m:Int):=by rw [Z0t _ (by constructor <;> omega)]; omega
      have hgd:(F'.flatMap flC).getD (m*4) (AV.str [])=.str (F'.getD m default).nm:=by
       rw [Z4e (n:=4) F' m (AV.str []) (by omega) (by omega)]; rfl
      have hls:Op.bytesLess (F'.getD m default).nm (enN b k)=false:=by
       rw [Bool.eq_false_iff]
       intro h
       exact hlf ⟨hk2,h200,.inr (by rw [hm]; exact h)⟩
      refine Z02.drawnQ smp (by kernel_rfl) (gwq (cj6 d200 dz wm hgd @Int.toNat_natCast hls) ?_)
      refine⟨by omega,by omega,?_⟩
      refine⟨(),?_⟩
      unfold lfH
      simp only [push_cast]
      exact Z06.sameA
    ·rintro⟨⟩
     refine⟨rfl,?_⟩
     unfold lfH
     simp only [push_cast,List.set_cons_succ,List.set_cons_zero,List.drop_succ_cons,List.drop_zero]
     refine Z04.ev 5 (Z1S ?_)
     refine Z04.nil ?_
     refine Z0G ?_
     refine⟨(),?_⟩
     rw [←hgo]
     show Z0q _ _ _ ([],lfH F' Lv at_ U1 U.length S W n b [.raw (.obj (some b') (.loop (don r)))])
     unfold lfH
     exact Z06.keep13A
 ·rintro b' r ⟨⟩
  cases hres:(Z3L b n 0 F).2 with
  | true=>
   refine .inl ⟨rfl,fun X hP hΓ hL hfin=>?_⟩
   show Z02 X _ _ (lfH (Z3L b n 0 F).1 Lv at_ U1 U.length S W n b [.raw .gone])
   unfold lfH
   ((first | with_reducible refine holds_of_ex X 400 _ _ _ ?_ | skip); simp (maxSteps:=1000000) only [push_cast,reduceCtorEq,Nat.reduceAdd,Nat.reduceMul,Nat.reduceSub,Nat.reduceBEq,Nat.reduceGT,Nat.reduceLT,Int.toNat_zero,Nat.reduceLeDiff,Int.reduceEq,Int.reduceLT,Int.reduceLE,hP,hΓ,hL,hfin,String.reduceEq,Int.toNat_one,Bool.not_not,hres])
   rw [hmp]
   exact Z06.keep7A
  | false=>
   refine .inr ⟨rfl,?_⟩
   show ZhK _ _ _ _ _ _ (lfH (Z3L b n 0 F).1 Lv at_ U1 U.length S W n b [.raw .gone])
   unfold lfH
   simp only [push_cast,hres]
   rw [hmp]
   refine⟨by decide,?_⟩
   exact Z06.keep7A
theorem con114{Γ:Env}(h:Z07 Tryz.prog Γ)(h62:Γ 62=some S62)(h78:Γ 78=some S78)(h113:Γ 113=some S113)(h139:Γ 139=some S139)(h156:Γ 156=some S156)(h56:Γ 56=some S56)(h157:Γ 157=some S157):Con Tryz.prog 114 S114:=
 kcn h (fn:=Tryz.f114) inj114 fun ⟨F,Lv,U,S,W,a,l⟩ h=>body114 Γ h62 h78 h113 h139 h156 h56 h157 F Lv U S W a l h.1 h.2.1 h.2.2.1 h.2.2.2
structure D3 where
 F:List Fl
 Lv:List Int
 U:List Int
 deriving Inhabited,DecidableEq
def rdAt(S:List Sec)(i:Nat):Int:=getW (secB S 0) (4*(2+i))
def rdLast(n i:Nat):Bool:=decide (i+1=n)
def rdB(S:List Sec)(n i:Nat)(d:D3):Bool:=lfB d.F S d.U (rdAt S i) (rdLast n i)
def Z4R(S:List Sec)(n i:Nat)(d:D3):D3:=⟨lfF d.F S d.U (rdAt S i) (rdLast n i),lfL d.Lv S d.U (rdAt S i) (rdLast n i),lfU S d.U (rdAt S i)⟩
def rdL(S:List Sec)(n:Nat):Nat→Nat→D3→D3×Bool
 | 0,_,d=>(d,true)
 | k+1,i,d=>if rdB S n i d=true then rdL S n k (i+1) (Z4R S n i d) else (Z4R S n i d,false)
def hdAll(S:List Sec)(f:Fl):List Int:=hdL (secB S f.hd) f.hd (hdN f.ln)
def hdP(S:List Sec)(i:Nat)(d:D3):Prop:=Z6t S (d.F.getD i default).hd (d.F.getD i default).ln∧tOk d.U 0 (hdAll S (d.F.getD i default))
instance (S:List Sec) (i:Nat) (d:D3):Decidable (hdP S i d):=by unfold hdP; infer_instance
def Z98(S:List Sec)(i:Nat)(d:D3):D3:=⟨d.F.set i { d.F.getD i default with se:=hdAll S (d.F.getD i default) },d.Lv,tSet d.U 1 (hdAll S (d.F.getD i default))⟩
def rdH(S:List Sec):Nat→Nat→D3→D3×Bool
 | 0,_,d=>(d,true)
 | k+1,i,d=>if hdP S i d then rdH S k (i+1) (Z98 S i d) else (d,false)
def rdN(S:List Sec):Nat:=getW (secB S 0) 4
def rd0(S:List Sec):Prop:=getW (secB S 0) 0=827475011∧rdN S≤7
instance (S:List Sec):Decidable (rd0 S):=by unfold rd0; infer_instance
def ZbA(S:List Sec)(d:D3):D3×Bool:=if (rdL S (rdN S) (rdN S) 0 d).2=true then rdH S (rdL S (rdN S) (rdN S) 0 d).1.F.length 0 (rdL S (rdN S) (rdN S) 0 d).1 else rdL S (rdN S) (rdN S) 0 d
def rdA3(S:List Sec)(U:List Int):D3×Bool:=if rd0 S then ZbA S ⟨[],[],U.set 0 1⟩ else (⟨[],[],U⟩,false)
theorem ZaN(b:List UInt8):∀(n i:Nat) (F:List Fl),(Z3L b n i F).1.length≤F.length+n
 | 0,_,_=>Nat.le_refl _
 | n+1,i,F=>by
  unfold Z3L
  split
  ·have:=ZaN b n (i+1) (F++[lfE b i]); rw [List.length_append] at this; simp only [List.length_singleton] at this; omega
  ·exact Nat.le_add_right _ _
theorem Zjg(F:List Fl)(S:List Sec)(U:List Int)(at_:Int)(last:Bool):(lfF F S U at_ last).length≤F.length+31:=by
 unfold lfF
 split
 ·rename_i h
  have:=ZaN (secB S at_) (lfN S at_) 0 F
  have:=h.2.2.1
  omega
 ·omega
theorem Zjf(Lv:List Int)(S:List Sec)(U:List Int)(at_:Int)(last:Bool):(lfL Lv S U at_ last).length≤Lv.length+1:=by
 unfold lfL
 split
 ·rw [List.length_append]; exact Nat.le_refl _
 ·omega
theorem Zih(F:List Fl)(i:Nat)(l:List Int)(h:i<F.length):(F.flatMap flC).take (i*4+3)++[.sl (l.map (AV.int .i64)) l.length]++(F.flatMap flC).drop (i*4+3+1)=(F.set i { F.getD i default with se:=l }).flatMap flC:=by
 induction F generalizing i with
 | nil=>simp at h
 | cons f F ih=>
  cases i with
  | zero=>simp [flC,List.getD]
  | succ i=>
   have:=ih i (by simpa using h)
   simp only [List.flatMap_cons,List.set_cons_succ,List.getD_cons_succ]
   rw [←this,show (i+1)*4+3=(flC f).length+(i*4+3) by simp [flC]; omega,List.take_length_add_append,show (flC f).length+(i*4+3)+1=(flC f).length+(i*4+3+1) by omega,List.drop_length_add_append]
   simp only [List.append_assoc]
def k55:List Int×List Sec×List Wr→Ct:=fun (U,S,W)=>⟨([.ref 0 0 0],Z19 [] [] U S W),U.length≤4194304∧S.length≤1048576∧0<S.length∧0<U.length,.bool (rdA3 S U).2,Z19 (rdA3 S U).1.F (rdA3 S U).1.Lv (rdA3 S U).1.U S W⟩
theorem inj55:∀a b,(k55 a).a=(k55 b).a→a=b:=by
 rintro⟨U,S,W⟩ ⟨U',S',W'⟩ h
 simp only [k55,Z0g,Z0h,Z0k,Z0j,UInt8.toNat_inj,Z09,Z0c,Z0x,Z0o,Z1g,Z19,Z0A,List.cons.injEq] at h
 simp_all only
noncomputable def S55:Z0n:=Z0W true k55
theorem ks55(U:List Int)(S:List Sec)(W:List Wr):KS k55 ([.ref 0 0 0],Z19 [] [] U S W) (U.length≤4194304∧S.length≤1048576∧0<S.length∧0<U.length) (.bool (rdA3 S U).2) (Z19 (rdA3 S U).1.F (rdA3 S U).1.Lv (rdA3 S U).1.U S W):=kat inj55 (U,S,W)
attribute [push_cast] S55 ks55
theorem body55(Γ:Env)(h62:Γ 62=some S62)(h78:Γ 78=some S78)(h113:Γ 113=some S113)(h114:Γ 114=some S114)(h80:Γ 80=some S80)
  (U:List Int) (S:List Sec) (W:List Wr) (hU:U.length≤4194304) (hS:S.length≤1048576) (hS0:0<S.length) (hU0:0<U.length) :
  Z08 Tryz.prog Γ Tryz.f55 [.ref 0 0 0] (Z19 [] [] U S W) (.bool (rdA3 S U).2) (Z19 (rdA3 S U).1.F (rdA3 S U).1.Lv (rdA3 S U).1.U S W):=by
 have ⟨ps,rs,hs⟩:=ks62 S W 0
 have e1:rdA S 0=.tup [.sl ((secB S 0).map Z05) (secB S 0).length,.int .i64 0]:=by unfold rdA; rw [if_pos ⟨by omega,by omega⟩]; rfl
 rw [e1] at rs
 have hl:=Z3r S 0
 have f0:((getW (secB S 0) (4*0:Int).toNat:Nat):Int)=((getW (secB S 0) 0:Nat):Int):=rfl
 have f1:((getW (secB S 0) (4*1:Int).toNat:Nat):Int)=(rdN S:Int):=rfl
 have hlt:rdN S<4294967296:=Z20 _ _
 by_cases c0:rd0 S
 case neg=>
  have k0:rdA3 S U=(⟨[],[],U⟩,false):=by unfold rdA3; rw [if_neg c0]
  rw [k0]
  have d0:(!decide (((getW (secB S 0) 0:Nat):Int)=827475011) || decide ((7:Int)<(rdN S:Int)))=true:=by
   rw [Bool.eq_iff_iff]
   simp only [Bool.or_eq_true,Bool.not_eq_true',decide_eq_true_eq,decide_eq_false_iff_not,iff_true]
   by_cases q:getW (secB S 0) 0=827475011
   ·exact .inr (by have:¬rdN S≤7:=fun h=>c0 ⟨q,h⟩; omega)
   ·exact .inl (by omega)
  unfold Z0o at *
  unfold Z19 at *
  simp only [List.length_nil,List.map_nil,List.flatMap_nil]
  refine stt 100 [.tmp 2] fun X hP hΓ hL hfin=>?_; refine gxq (cj8 h62 h113 ps rs hs f0 f1 d0) ?_
  refine⟨by decide,by omega,by omega,?_⟩
  exact Z06.sameA
 have k0:rdA3 S U=ZbA S ⟨[],[],U.set 0 1⟩:=by unfold rdA3; rw [if_pos c0]
 rw [k0]
 obtain⟨q0,q1⟩:=c0
 have d0:(!decide (((getW (secB S 0) 0:Nat):Int)=827475011) || decide ((7:Int)<(rdN S:Int)))=false:=by
  rw [decide_eq_true (by omega),decide_eq_false (by omega)]; rfl
 have f2:IntKind.i64.wrap (rdN S:Int)=(rdN S:Int):=wrq
 have hset:AV.int .i64 1::(U.map (AV.int .i64)).drop 1=(U.set 0 1).map (AV.int .i64):=by
  cases U with
  | nil=>simp at hU0
  | cons u U=>rfl
 have hgo:ZbA S ⟨[],[],U.set 0 1⟩=if (rdL S (rdN S) (rdN S) 0 ⟨[],[],U.set 0 1⟩).2=true then rdH S (rdL S (rdN S) (rdN S) 0 ⟨[],[],U.set 0 1⟩).1.F.length 0 (rdL S (rdN S) (rdN S) 0 ⟨[],[],U.set 0 1⟩).1 else rdL S (rdN S) (rdN S) 0 ⟨[],[],U.set 0 1⟩:=rfl
 have hrd:∀k,rdAt S k=(getW (secB S 0) (4*(2+k)):Int):=fun _=>rfl
 generalize rdN S=n at *
 generalize hb0:secB S 0=b at *
 unfold Z0o at *
 unfold Z19 at *
 simp only [List.length_nil,List.map_nil,List.flatMap_nil]
 refine stt 100 [.tmp 2] fun X hP hΓ hL hfin=>?_; refine gxq (cj9 h62 h113 ps rs hs f0 f1 d0 f2) ?_
 refine⟨by decide,by omega,by omega,by omega,by omega,?_⟩
 refine Z02.loopM (ι:={p:Nat×D3 // p.1≤n∧rdL S n (n - p.1) p.1 p.2=rdL S n n 0 ⟨[],[],U.set 0 1⟩∧p.2.F.length≤31*p.1∧p.2.Lv.length≤p.1∧p.2.U.length=U.length}) [tt,ff,ff,tt,ff,tt,ff,tt,tt,tt,tt,ff,ff,ff,ff,ff,ff,ff,ff,ff,ff,ff,ff,ff,ff,ff,ff,ff,ff,ff,ff,ff,ff,ff,tt,ff,ff,ff,ff,ff,ff,ff,ff,ff,ff,ff,ff,ff,ff,ff,ff,ff,ff,ff,ff,ff,tt,tt,ff,ff,ff,ff,ff,ff,ff,ff,ff,ff,ff,ff,ff,ff,ff,ff,ff,ff,ff,ff,ff,ff,ff,ff,ff,ff,ff,ff,ff,ff,ff,ff,ff,ff,ff,ff,ff,ff,ff,ff,ff,ff] (fun i=>[(34,.int .i64 n),(35,.int .i64 i.1.1)]) (fun i=>Z19 i.1.2.F i.1.2.Lv i.1.2.U S W) (fun i=>n - i.1.1) ⟨(0,⟨[],[],U.set 0 1⟩),Nat.zero_le _,rfl,Nat.le_refl _,Nat.le_refl _,List.length_set⟩ ?_ ?_
 ·rw [hL]
  unfold Z19
  simp only [push_cast,hset,List.length_set,List.length_nil,List.map_nil,List.flatMap_nil]
  exact Z06.sameA
 rintro⟨⟨k,⟨F,Lv,V⟩⟩,hk,hgk,hF,hLv,hV⟩
 dsimp only at hk hgk hF hLv hV
 by_cases ck:k<n
 case pos=>
  have dk:decide ((k:Int)<(n:Int))=true:=decide_eq_true (by omega)
  have w1:IntKind.i64.wrap (2+(k:Int))=2+(k:Int):=wrq
  have f3:((getW b (4*(2+(k:Int))).toNat:Nat):Int)=rdAt S k:=by rw [hrd,show (4*(2+(k:Int))).toNat=4*(2+k) by omega]
  have hat:0≤rdAt S k∧rdAt S k<4294967296:=by rw [hrd]; have:=Z20 b (4*(2+k)); omega
  have w2:IntKind.i64.wrap (rdAt S k)=rdAt S k:=wrq
  have w3:IntKind.i64.wrap ((n:Int) - 1)=(n:Int) - 1:=wrq
  have dl:decide ((k:Int)=(n:Int) - 1)=rdLast n k:=by unfold rdLast; rw [decide_eq_decide]; omega
  have ⟨pl,rl,gl⟩:=ks114 F Lv V S W (rdAt S k) (rdLast n k)
  have hF2:=Zjg F S V (rdAt S k) (rdLast n k)
  have hL2:=Zjf Lv S V (rdAt S k) (rdLast n k)
  have hU2:=Z9N S V (rdAt S k)
  have hstep:rdL S n (n - k) k ⟨F,Lv,V⟩=if rdB S n k ⟨F,Lv,V⟩=true then rdL S n (n - (k+1)) (k+1) (Z4R S n k ⟨F,Lv,V⟩) else (Z4R S n k ⟨F,Lv,V⟩,false):=by
   rw [show n - k=(n - (k+1))+1 by omega]; rfl
  rw [hstep] at hgk
  have eB:rdB S n k ⟨F,Lv,V⟩=lfB F S V (rdAt S k) (rdLast n k):=rfl
  have eS:Z4R S n k ⟨F,Lv,V⟩=⟨lfF F S V (rdAt S k) (rdLast n k),lfL Lv S V (rdAt S k) (rdLast n k),lfU S V (rdAt S k)⟩:=rfl
  rw [eB,eS] at hgk
  unfold Z19 at *
  generalize lfF F S V (rdAt S k) (rdLast n k)=F2 at *
  generalize lfL Lv S V (rdAt S k) (rdLast n k)=Lv2 at *
  generalize lfU S V (rdAt S k)=V2 at *
  cases hB:lfB F S V (rdAt S k) (rdLast n k) with
  | false=>
   rw [hB,if_neg Bool.false_ne_true] at hgk
   rw [hB] at rl
   have hfin1:ZbA S ⟨[],[],U.set 0 1⟩=(⟨F2,Lv2,V2⟩,false):=by rw [hgo,←hgk]; rfl
   refine gxq (ZhD dk w1 f3 w2 f2 w3 dl h113 h114 pl rl gl hfin1) ?_
   refine⟨by omega,⟨by decide,by omega⟩,?_⟩
   exact Z06.sameA
  | true=>
   rw [hB,if_pos rfl] at hgk
   rw [hB] at rl
   refine gxq (Z9a dk w1 f3 w2 f2 w3 dl h113 h114 pl rl gl) ?_
   refine⟨by omega,⟨by decide,by omega⟩,⟨(k+1,⟨F2,Lv2,V2⟩),by simp only; omega,hgk,by simp only; omega,by simp only; omega,by simp only; omega⟩,by simp only; omega,?_⟩
   rw [Z0t ((k:Int)+1) (by constructor <;> omega)]
   simp only [push_cast]
   exact Z06.sameA
 case neg=>
  obtain rfl:k=n:=by omega
  unfold Z19 at *
  have dk:decide ((k:Int)<(k:Int))=false:=decide_eq_false (by omega)
  have hk2:rdL S k k 0 ⟨[],[],U.set 0 1⟩=(⟨F,Lv,V⟩,true):=by rw [←hgk,Nat.sub_self]; rfl
  have hgo2:ZbA S ⟨[],[],U.set 0 1⟩=rdH S F.length 0 ⟨F,Lv,V⟩:=by rw [hgo,hk2]; rfl
  refine gxq dk ?_
  refine Z02.loopM (ι:={p:Nat×D3 // p.1≤F.length∧rdH S (F.length - p.1) p.1 p.2=rdH S F.length 0 ⟨F,Lv,V⟩∧p.2.F.length=F.length∧p.2.U.length=U.length}) [tt,ff,ff,ff,ff,ff,ff,ff,ff,ff,ff,ff,ff,ff,ff,ff,ff,ff,ff,ff,ff,ff,ff,ff,ff,ff,ff,ff,ff,ff,ff,ff,ff,ff,ff,ff,ff,ff,ff,ff,ff,ff,ff,ff,ff,ff,ff,ff,ff,ff,ff,ff,ff,ff,ff,ff,tt,ff,ff,ff,ff,ff,ff,ff,ff,ff,ff,ff,ff,ff,ff,ff,ff,ff,ff,ff,ff,ff,ff,ff,ff,ff,ff,ff,ff,ff,ff,ff,ff,ff,ff,ff,ff,ff,ff,ff,ff,ff,ff,ff] (fun i=>[(56,.int .i64 F.length),(57,.int .i64 i.1.1)]) (fun i=>Z19 i.1.2.F i.1.2.Lv i.1.2.U S W) (fun i=>F.length - i.1.1) ⟨(0,⟨F,Lv,V⟩),Nat.zero_le _,rfl,rfl,hV⟩ ?_ ?_
  ·rw [hL]
   unfold Z19
   simp only [push_cast]
   exact Z06.sameA
  rintro⟨⟨i,⟨G,Lv',V'⟩⟩,hi,hgi,hG,hV'⟩
  dsimp only at hi hgi hG hV'
  unfold Z19
  by_cases ci:i<F.length
  case neg=>
   have di:decide ((i:Int)<(F.length:Int))=false:=decide_eq_false (by omega)
   have hfin2:ZbA S ⟨[],[],U.set 0 1⟩=(⟨G,Lv',V'⟩,true):=by rw [hgo2,←hgi,show F.length - i=0 by omega]; rfl
   refine gxq (cj2 di hfin2) ?_
   exact Z06.sameA
  have di:decide ((i:Int)<(F.length:Int))=true:=decide_eq_true (by omega)
  have hstep:rdH S (F.length - i) i ⟨G,Lv',V'⟩=if hdP S i ⟨G,Lv',V'⟩ then rdH S (F.length - (i+1)) (i+1) (Z98 S i ⟨G,Lv',V'⟩) else (⟨G,Lv',V'⟩,false):=by
   rw [show F.length - i=(F.length - (i+1))+1 by omega]; rfl
  rw [hstep] at hgi
  refine gxq di ?_
  refine⟨by omega,?_⟩
  obtain⟨x,hx⟩:∃x,x=G.getD i default:=⟨_,rfl⟩
  have hg1:∀d,(G.flatMap flC).getD (i*4+1) d=.int .i64 x.hd:=fun d=>by rw [hx,Z3C (n:=4) G i 1 d (by omega) (by omega)]; rfl
  have hg2:∀d,(G.flatMap flC).getD (i*4+2) d=.int .i64 x.ln:=fun d=>by rw [hx,Z3C (n:=4) G i 2 d (by omega) (by omega)]; rfl
  have ⟨p8,r8,g8⟩:=ks80 S W x.hd x.ln
  unfold Z0o at *
  have hPx:hdP S i ⟨G,Lv',V'⟩↔(Z6t S x.hd x.ln∧tOk V' 0 (hdAll S x)):=by unfold hdP; rw [hx]
  by_cases ch:Z6t S x.hd x.ln
  case neg=>
   have e8:hdA S x.hd x.ln=.tup [.lit (.slice none 0 0),.bool false]:=by unfold hdA; rw [if_neg ch]
   rw [e8] at r8
   rw [if_neg (fun h=>ch (hPx.1 h).1)] at hgi
   have hfin2:ZbA S ⟨[],[],U.set 0 1⟩=(⟨G,Lv',V'⟩,false):=by rw [hgo2,←hgi]
   refine Z02.drawnK [] smp (by kernel_rfl) (gyq (cj6 hg1 hg2 h80 p8 r8 g8) ?_)
   refine⟨by omega,by omega,⟨by decide,hS⟩,?_⟩
   refine Z50 2 ?_
   refine Z02.reg ?_
   refine Z04.ev 3 (Z1S ?_)
   refine Z04.skips 7 (Z1S ?_)
   refine Z04.ev 1 (Z1S ?_)
   refine Z04.nil ?_
   refine gxq hfin2 ?_
   exact Z06.sameA
  have e8:hdA S x.hd x.ln=.tup [.sl ((hdAll S x).map (AV.int .i64)) (hdAll S x).length,.bool true]:=by unfold hdA hdAll; rw [if_pos ch]
  rw [e8] at r8
  have hlen:(hdAll S x).length≤4194304:=by
   unfold hdAll; rw [Z3B]; unfold hdN; have:=ch.1.2.2.1; omega
  have p7:=ZaG V' 0 (hdAll S x) 0 1
  have r7:=Zaq V' 0 (hdAll S x) 0 1
  have g7:=ZaW V' 0 (hdAll S x) 0 1
  by_cases ct:tOk V' 0 (hdAll S x)
  case neg=>
   rw [if_neg (fun h=>ct (hPx.1 h).2)] at hgi
   have hfin2:ZbA S ⟨[],[],U.set 0 1⟩=(⟨G,Lv',V'⟩,false):=by rw [hgo2,←hgi]
   have dt:decide (tOk V' 0 (hdAll S x))=false:=decide_eq_false ct
   have et:tRes V' 0 1 (hdAll S x)=V':=by unfold tRes; rw [if_neg ct]
   rw [et] at g7
   refine Z02.drawnQ smp (by kernel_rfl) (gwq (Z9a hg1 hg2 h80 p8 r8 g8 h78 p7 r7 g7 dt hfin2) ?_)
   refine⟨by omega,by omega,⟨by decide,hS⟩,⟨hlen,by omega⟩,?_⟩
   exact Z06.sameA
  rw [if_pos (hPx.2 ⟨ch,ct⟩)] at hgi
  have dt:decide (tOk V' 0 (hdAll S x))=true:=decide_eq_true ct
  have et:tRes V' 0 1 (hdAll S x)=tSet V' 1 (hdAll S x):=by unfold tRes; rw [if_pos ct]
  have eS:Z98 S i ⟨G,Lv',V'⟩=⟨G.set i { G.getD i default with se:=hdAll S x },Lv',tSet V' 1 (hdAll S x)⟩:=by unfold Z98; rw [hx]
  rw [eS] at hgi
  rw [et] at g7
  refine Z02.drawnQ smp (by kernel_rfl) (gwq (Ziy hg1 hg2 h80 p8 r8 g8 h78 p7 r7 g7 dt) ?_)
  have hts:=Z0w 1 (hdAll S x) V'
  refine⟨by omega,by omega,⟨by decide,hS⟩,⟨hlen,by omega⟩,by omega,⟨(i+1,⟨G.set i { G.getD i default with se:=hdAll S x },Lv',tSet V' 1 (hdAll S x)⟩),by simp only; omega,hgi,by simp only; rw [List.length_set]; omega,by simp only; omega⟩,by simp only; omega,?_⟩
  rw [Z0t ((i:Int)+1) (by constructor <;> omega)]
  simp only [push_cast,List.length_set,hts]
  rw [Zih G i (hdAll S x) (by omega)]
  exact Z06.sameA
theorem con55{Γ:Env}(h:Z07 Tryz.prog Γ)(h62:Γ 62=some S62)(h78:Γ 78=some S78)(h113:Γ 113=some S113)(h114:Γ 114=some S114)(h80:Γ 80=some S80):Con Tryz.prog 55 S55:=
 kcn h (fn:=Tryz.f55) inj55 fun ⟨U,S,W⟩ h=>body55 Γ h62 h78 h113 h114 h80 U S W h.1 h.2.1 h.2.2.1 h.2.2.2
def Z1L(F:List Fl)(Lv U:List Int)(S:List Sec)(W:List Wr):Z01:=[.row [.msl 1 0 0 S.length,.msl 2 W.length 0 W.length] 2 0,.row (S.flatMap Z1T) 1024 0,.row (W.flatMap wrC) 1025 W.length,.row (U.map (AV.int .i64)) 1 0,.row [.ref 0 0 0,.sl (F.flatMap flC) F.length,.msl 5 Lv.length 0 Lv.length,.msl 3 0 0 U.length] 4 0,.row (Lv.map (AV.int .i64)) 1 Lv.length]
def Z0z(F:List Fl)(Lv U:List Int)(S:List Sec)(W:List Wr):Z01:=[.row [.ref 1 0 0,.sl (F.flatMap flC) F.length,.msl 2 Lv.length 0 Lv.length,.msl 3 0 0 U.length] 4 0,.row [.msl 4 0 0 S.length,.msl 5 W.length 0 W.length] 2 0,.row (Lv.map (AV.int .i64)) 1 Lv.length,.row (U.map (AV.int .i64)) 1 0,.row (S.flatMap Z1T) 1024 0,.row (W.flatMap wrC) 1025 W.length]
theorem Z2i(F:List Fl):List.take (F.length*4) (F.flatMap flC)=F.flatMap flC:=List.take_of_length_le (by rw [Z2d (n:=4)]; exact Nat.le_refl _)
def opn(S:List Sec):D3×Bool:=rdA3 S (List.replicate S.length 0)
inductive A18 where
 | c0
 | c1 (S:List Sec) (W:List Wr)
def e18:A18→List AV×Z01
 | .c0=>([.lit (.pointer none)],[])
 | .c1 S W=>([.ref 0 0 0],Z0o S W)
def p18:A18→Prop
 | .c0=>True
 | .c1 S W=>0<S.length∧S.length≤1048576
def r18:A18→AV
 | .c0=>.tup [.lit (.pointer none),.int .i64 1]
 | .c1 S W=>if (opn S).2=true then .tup [.ref 4 0 0,.int .i64 0] else .tup [.lit (.pointer none),.int .i64 170]
def g18:A18→Z01
 | .c0=>[]
 | .c1 S W=>if (opn S).2=true then Z1L (opn S).1.F (opn S).1.Lv (opn S).1.U S W else Z0o S W
theorem inj18:∀a b,e18 a=e18 b→a=b:=by
 intro a b h
 cases a <;> cases b <;> simp only [e18,Z0g,Z0h,Z0k,Z0j,UInt8.toNat_inj,Z09,Z0c,Z0x,Z0o,Z1g,Z19,Z1L,Z0z,Z0A,List.cons.injEq,Fn.func.injEq,reduceCtorEq,Nat.reduceEqDiff,false_and,and_false,List.cons_ne_nil] at h <;> simp_all only
noncomputable def S18:Z0n:=Z7X true e18 p18 r18 g18
theorem ZkU:Z1Y e18 p18 ([.lit (.pointer none)],[])=(True):=Z0J inj18 p18 (.c0 )
theorem Zkz:Z0U e18 r18 .any ([.lit (.pointer none)],[])=(.tup [.lit (.pointer none),.int .i64 1]):=Z0d inj18 r18 .any (.c0 )
theorem ZlE:Z0U e18 g18 [] ([.lit (.pointer none)],[])=([]):=Z0d inj18 g18 [] (.c0 )
theorem Z72(S:List Sec)(W:List Wr):Z1Y e18 p18 ([.ref 0 0 0],Z0o S W)=(0<S.length∧S.length≤1048576):=Z0J inj18 p18 (.c1 S W)
theorem Z6T(S:List Sec)(W:List Wr):Z0U e18 r18 .any ([.ref 0 0 0],Z0o S W)=(if (opn S).2=true then .tup [.ref 4 0 0,.int .i64 0] else .tup [.lit (.pointer none),.int .i64 170]):=Z0d inj18 r18 .any (.c1 S W)
theorem Z7d(S:List Sec)(W:List Wr):Z0U e18 g18 [] ([.ref 0 0 0],Z0o S W)=(if (opn S).2=true then Z1L (opn S).1.F (opn S).1.Lv (opn S).1.U S W else Z0o S W):=Z0d inj18 g18 [] (.c1 S W)
attribute [push_cast] S18 ZkU Zkz ZlE Z72 Z6T Z7d
theorem body18n(Γ:Env):Z08 Tryz.prog Γ Tryz.f18 [.lit (.pointer none)] [] (.tup [.lit (.pointer none),.int .i64 1]) []:=by
 refine stt 17 [.tmp 2,.tmp 3] fun X hP hΓ hL hfin=>?_; refine Z0G ?_
 exact Z06.sameA
theorem body18(Γ:Env)(h31:Γ 31=some S31)(h55:Γ 55=some S55)(S:List Sec)(W:List Wr)(hS:0<S.length)(hS2:S.length≤1048576):Z08 Tryz.prog Γ Tryz.f18 [.ref 0 0 0] (Z0o S W) (if (opn S).2=true then .tup [.ref 4 0 0,.int .i64 0] else .tup [.lit (.pointer none),.int .i64 170]) (if (opn S).2=true then Z1L (opn S).1.F (opn S).1.Lv (opn S).1.U S W else Z0o S W):=by
 have ⟨p1,r1,g1⟩:=ks31 S W
 have hl:(List.replicate S.length (0:Int)).length=S.length:=List.length_replicate
 have hz:(List.replicate S.length [AV.int .i64 0]).flatten=(List.replicate S.length (0:Int)).map (AV.int .i64):=by
  rw [List.map_replicate]
  generalize S.length=n
  induction n with
  | zero=>rfl
  | succ n ih=>rw [List.replicate_succ,List.flatten_cons,ih]; rfl
 have ⟨p2,r2,g2⟩:=ks55 (List.replicate S.length 0) S W
 unfold opn
 generalize List.replicate S.length (0:Int)=U at *
 unfold Z0o at *
 unfold Z1L Z19 at *
 rw [hl] at p2 r2 g2
 simp only [List.length_nil,List.map_nil,List.flatMap_nil] at p2 r2 g2
 generalize rdA3 S U=R at *
 obtain⟨⟨F,Lv,V⟩,q⟩:=R
 dsimp only at *
 refine stt 17 [.tmp 2,.tmp 3] fun X hP hΓ hL hfin=>?_; refine gmq 9 (cj5 h31 p1 r1 g1 hz) ?_
 refine⟨by decide,⟨Int.le_refl _,by omega⟩,?_⟩
 refine Z02.nilH 4 2 1 rfl rfl ?_
 refine Z02.nilH 4 1 4 rfl rfl ?_
 simp only [push_cast,List.set_cons_succ,List.set_cons_zero]
 cases q with
 | true=>
  ((first | with_reducible refine holds_of_ex X 400 _ _ _ ?_ | skip); simp (maxSteps:=1000000) only [push_cast,reduceCtorEq,Nat.reduceAdd,Nat.reduceMul,Nat.reduceSub,Nat.reduceBEq,Nat.reduceGT,Nat.reduceLT,Int.toNat_zero,Nat.reduceLeDiff,Int.reduceEq,Int.reduceLT,Int.reduceLE,hP,hΓ,hL,hfin,String.reduceEq,Int.toNat_one,Bool.not_not,h55,p2,r2,g2,if_pos])
  refine⟨⟨by decide,by omega⟩,?_⟩
  refine Z0q.frz 6 smo smf (gsq ?_)
  rw [Z2i]
  exact Z06.keep6A
 | false=>
  ((first | with_reducible refine holds_of_ex X 400 _ _ _ ?_ | skip); simp (maxSteps:=1000000) only [push_cast,reduceCtorEq,Nat.reduceAdd,Nat.reduceMul,Nat.reduceSub,Nat.reduceBEq,Nat.reduceGT,Nat.reduceLT,Int.toNat_zero,Nat.reduceLeDiff,Int.reduceEq,Int.reduceLT,Int.reduceLE,hP,hΓ,hL,hfin,String.reduceEq,Int.toNat_one,Bool.not_not,h55,p2,r2,g2,Bool.false_ne_true,if_neg])
  refine⟨⟨by decide,by omega⟩,?_⟩
  exact Z06.keep3A
theorem con18{Γ:Env}(h:Z07 Tryz.prog Γ)(h31:Γ 31=some S31)(h55:Γ 55=some S55):Con Tryz.prog 18 S18:=
 Z2g h (fn:=Tryz.f18) (by kernel_rfl) rfl (by kernel_rfl) inj18 fun a h=>match a,h with | .c0,_=>body18n Γ | .c1 S W,h=>body18 Γ h31 h55 S W h.1 h.2
end Go.Proofs.YtbnnhffkbcekcaaGreatDoor.dirDone
end
