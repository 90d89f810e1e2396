/- Parts of the walk through directories. Conditions stand in each. -/
import Derived.Test.YtbnnhffkbcekcaaGreatDoorGl
import Derived.Test.YtbnnhffkbcekcaaGreatDoorFg
set_option linter.unusedVariables false
set_option linter.unusedSimpArgs false
set_option maxRecDepth 100000
set_option maxHeartbeats 4000000
section
namespace Go.Eng
open Go
theorem Z02.nilS{X:Cx}{k:List It}{fr:List AV}{L:Z01}(i sz:Nat)(hi:fr.getD i .any=.lit (.slice none 0 0))(h:Z02 X k (fr.set i (.msl L.length 0 0 0)) (L++[.row [] sz 0])):Z02 X k fr L:=
 Z02.weak (S:=(fr.set i (.msl L.length 0 0 0),L++[.row [] sz 0])) (.nil i sz hi (.refl (fr.set i (.msl L.length 0 0 0),L++[.row [] sz 0]))) h
end Go.Eng
namespace Go.Proofs.YtbnnhffkbcekcaaGreatDoor.dirDone
open Go Go.Eng Go.Proofs Go.Lib
def ZbM(F:List Fl)(Lv U:List Int)(N:Nat)(R:List Wr)(nm:List UInt8)(h ln:Int):List Int:=
 (uGo 1 0 (inG F nm) (uGo 2 1 (Z2K (sOf N R) h ln) (ryU (inL F (sOf N R) nm h ln) Lv N R U)).1).1
def Zic(F:List Fl)(Lv U:List Int)(N:Nat)(R:List Wr)(nm:List UInt8)(h ln:Int):Z01:=
 if inR F U (sOf N R) R nm h ln=0 then Z0y (inL F (sOf N R) nm h ln) (ryE (inL F (sOf N R) nm h ln) N R U).now (ZbM F Lv U N R nm h ln) N (ryR (inL F (sOf N R) nm h ln) N R U) else Z0y F Lv U N R
def k68:List Fl×List Int×List Int×Nat×List Wr×List UInt8×Int×Int→Ct:=fun (F,Lv,U,N,R,nm,h,ln)=>⟨([.ref 0 0 0,.agg [.str nm,.int .i64 h,.int .i64 ln]],Z0y F Lv U N R),F.length≤200∧(∀f∈F,Z1p f∧f.se.length≤251)∧Lv.length≤1000∧U.length=N∧N≤4096∧R.length≤4096∧nm.length≤1048576,.int .i64 (inR F U (sOf N R) R nm h ln),Zic F Lv U N R nm h ln⟩
theorem inj68:∀a b,(k68 a).a=(k68 b).a→a=b:=by
 rintro⟨F,Lv,U,N,R,nm,h,ln⟩ ⟨F',Lv',U',N',R',nm',h',ln'⟩ h
 simp only [k68,Z0g,Z0h,Z0k,Z0j,UInt8.toNat_inj,Z09,Z0c,Z0x,Z0o,Z1g,Z19,Z1L,Z0z,Z0E,Z0P,Z0I,Z0y,Z2R,Z4n,Z0A,List.cons.injEq] at h
 simp_all only
noncomputable def S68:Z0n:=Z0W true k68
theorem ks68(F:List Fl)(Lv U:List Int)(N:Nat)(R:List Wr)(nm:List UInt8)(h ln:Int):KS k68 ([.ref 0 0 0,.agg [.str nm,.int .i64 h,.int .i64 ln]],Z0y F Lv U N R) (F.length≤200∧(∀f∈F,Z1p f∧f.se.length≤251)∧Lv.length≤1000∧U.length=N∧N≤4096∧R.length≤4096∧nm.length≤1048576) (.int .i64 (inR F U (sOf N R) R nm h ln)) (Zic F Lv U N R nm h ln):=kat inj68 (F,Lv,U,N,R,nm,h,ln)
attribute [push_cast] S68 ks68
theorem ZjB(F:List Fl)(i:Nat)(d:AV)(h:i<F.length):(F.flatMap flC).getD (i*4+3) d=.sl ((F.getD i default).se.map (AV.int .i64)) (F.getD i default).se.length:=by rw [Z3C (n:=4) F i 3 d h (by decide)]; rfl
theorem Zjv{S:List Sec}{h ln:Int}(hk:Z6t S h ln)(i:Nat)(hi:i<(Z2K S h ln).length):0≤(Z2K S h ln).getD i default∧(Z2K S h ln).getD i default<S.length:=by
 unfold Z2K at hi ⊢
 rw [Z3B] at hi
 rcases i with _ | i
 ·exact hk.1.1
 ·have:(hdL (secB S h) h (hdN ln)).getD (i+1) default=((hdW (secB S h) i:Nat):Int):=by
   unfold hdL
   rw [List.getD_cons_succ,List.getD_eq_getElem?_getD,List.getElem?_map,List.getElem?_range (by omega)]
   rfl
  rw [this]
  have:=hk.2 i (by omega)
  omega
theorem Z64(L:List Fl)(Lv:List Int)(N:Nat)(R:List Wr)(U:List Int)(hR:R.length≤4096)(h:lvN L.length≤U.count 0):(ryU L Lv N R U).length=U.length:=by
 unfold ryU
 rw [Z1V,Z1V]
 exact (Z2I L N R U hR _ h).2.1
theorem body68(Γ:Env)(h109:Γ 109=some S109)(h98:Γ 98=some S98)(h120:Γ 120=some S120)(h121:Γ 121=some S121)(h122:Γ 122=some S122)(h99:Γ 99=some S99)(F:List Fl)(Lv U:List Int)(N:Nat)(R:List Wr)(nm:List UInt8)(h ln:Int)
  (hF:F.length≤200) (hok:∀f∈F,Z1p f∧f.se.length≤251) (hLv:Lv.length≤1000) (hU:U.length=N) (hN:N≤4096) (hR:R.length≤4096) (hn:nm.length≤1048576) :
  Z08 Tryz.prog Γ Tryz.f68 [.ref 0 0 0,.agg [.str nm,.int .i64 h,.int .i64 ln]] (Z0y F Lv U N R) (.int .i64 (inR F U (sOf N R) R nm h ln)) (Zic F Lv U N R nm h ln):=by
 have ⟨p98,r98,g98⟩:=ks98 N R h ln
 have ⟨p120,r120,g120⟩:=ks120 F Lv U N R nm
 have hS:=Z0r N R
 unfold Zic
 have hno:inR F U (sOf N R) R nm h ln≠0→(if inR F U (sOf N R) R nm h ln=0 then Z0y (inL F (sOf N R) nm h ln) (ryE (inL F (sOf N R) nm h ln) N R U).now (ZbM F Lv U N R nm h ln) N (ryR (inL F (sOf N R) nm h ln) N R U) else Z0y F Lv U N R)=Z0y F Lv U N R:=fun h'=>if_neg h'
 have hyes:inR F U (sOf N R) R nm h ln=0→(if inR F U (sOf N R) R nm h ln=0 then Z0y (inL F (sOf N R) nm h ln) (ryE (inL F (sOf N R) nm h ln) N R U).now (ZbM F Lv U N R nm h ln) N (ryR (inL F (sOf N R) nm h ln) N R U) else Z0y F Lv U N R)=_:=fun h'=>if_pos h'
 generalize hH:(if inR F U (sOf N R) R nm h ln=0 then Z0y (inL F (sOf N R) nm h ln) (ryE (inL F (sOf N R) nm h ln) N R U).now (ZbM F Lv U N R nm h ln) N (ryR (inL F (sOf N R) nm h ln) N R U) else Z0y F Lv U N R)=H at *
 clear hH
 have e1:¬Z34 nm=true→inR F U (sOf N R) R nm h ln=171:=fun c=>by unfold inR; rw [if_neg c]
 have e2:Z34 nm=true→¬inA U (sOf N R) h ln→inR F U (sOf N R) R nm h ln=2:=fun c d=>by unfold inR; rw [if_pos c,if_neg d]
 have e3:Z34 nm=true→inA U (sOf N R) h ln→¬(inL F (sOf N R) nm h ln).length≤200→inR F U (sOf N R) R nm h ln=173:=fun c d e=>by unfold inR; rw [if_pos c,if_pos d,if_neg e]
 have e4:Z34 nm=true→inA U (sOf N R) h ln→(inL F (sOf N R) nm h ln).length≤200→¬Z2l (inL F (sOf N R) nm h ln) R U→inR F U (sOf N R) R nm h ln=174:=fun c d e f=>by unfold inR; rw [if_pos c,if_pos d,if_pos e,if_neg f]
 have e5:Z34 nm=true→inA U (sOf N R) h ln→(inL F (sOf N R) nm h ln).length≤200→Z2l (inL F (sOf N R) nm h ln) R U→inR F U (sOf N R) R nm h ln=0:=fun c d e f=>by unfold inR; rw [if_pos c,if_pos d,if_pos e,if_pos f]
 have p109:nm.length≤9223372036854775807:=by omega
 generalize inR F U (sOf N R) R nm h ln=code at *
 by_cases c1:Z34 nm=true
 case neg=>
  have c1':Z34 nm=false:=by simpa using c1
  obtain rfl:=e1 c1
  rw [hno (by decide)]
  unfold Z0y
  refine stt 133 [.tmp 4] fun X hP hΓ hL hfin=>?_; refine gxq (cj2 h109 c1') ?_
  refine⟨p109,?_⟩
  exact Z06.keep4A
 by_cases c2:Z6t (sOf N R) h ln
 case neg=>
  obtain rfl:=e2 c1 (fun d=>c2 d.1)
  rw [hno (by decide)]
  have a98:hdA (sOf N R) h ln=_:=if_neg c2
  unfold Z0y Z0P at *
  refine stt 133 [.tmp 4] fun X hP hΓ hL hfin=>?_; refine gxq (cj2 h109 c1) ?_
  refine⟨p109,?_⟩
  refine Z02.drawnQ smp (by kernel_rfl) (gwq (cj5 h98 p98 r98 g98 a98) ?_)
  refine⟨⟨by decide,hR,by omega⟩,?_⟩
  exact Z06.keep4A
 have a98:hdA (sOf N R) h ln=.tup [.sl ((Z2K (sOf N R) h ln).map (AV.int .i64)) (Z2K (sOf N R) h ln).length,.bool true]:=if_pos c2
 have hol:=Z7K c2
 have hin:=Zjv c2
 rw [hS] at hin
 have hA:inA U (sOf N R) h ln↔tOk U 2 (Z2K (sOf N R) h ln):=⟨fun d=>d.2,fun d=>⟨c2,d⟩⟩
 rw [hA] at e2 e3 e4 e5
 replace e2:=e2 c1
 replace e3:=e3 c1
 replace e4:=e4 c1
 replace e5:=e5 c1
 clear e1 hA
 unfold ZbM at *
 unfold inL at *
 generalize hown:Z2K (sOf N R) h ln=own at *
 unfold Z0y Z0P at *
 refine stt 133 [.tmp 4] fun X hP hΓ hL hfin=>?_; refine gxq (cj2 h109 c1) ?_
 refine⟨p109,?_⟩
 refine Z02.drawnQ smp (by kernel_rfl) (gwq (cj5 h98 p98 r98 g98 a98) ?_)
 refine⟨⟨by decide,hR,by omega⟩,?_⟩
 refine Z02.loopM (ι:={k:Nat // k≤own.length∧∀i,i<k→tAt U 2 own i}) [tt,ff,ff,tt,ff,ff,tt,ff,ff,ff,tt,tt,tt,tt,tt,tt,ff,ff,ff,ff,ff,ff,ff,ff,ff,ff,ff,ff,ff,ff,ff,ff,ff,ff,ff,ff,ff,ff,ff,ff,ff,ff,ff,ff,ff,ff,ff,ff,ff,ff,ff,ff,ff,ff,ff,ff,ff,ff,ff,ff,ff,ff,ff,ff,ff,ff,ff,ff,ff,ff,ff,ff,ff,ff,ff,ff,ff,ff,ff,ff,ff,ff,ff,ff,ff,ff,ff,ff,ff,ff,ff,ff,ff,ff,ff,ff,ff,ff,ff,ff,ff,ff,ff,ff,ff,ff,ff,ff,ff,ff,ff,ff,ff,ff,ff,ff,ff,ff,ff,ff,ff,ff,ff,ff,ff,ff,ff,ff,ff,ff,ff,ff,ff] (fun i=>[(6,.sl (own.map (AV.int .i64)) own.length),(8,.int .i64 i.1)]) (fun i=>[.row [.ref 1 0 0,.sl (F.flatMap flC) F.length,.sl (Lv.map (AV.int .i64)) Lv.length,.msl 2 0 0 U.length] 4 0,.row [.sl ((noN N).map AV.str) N,.msl 3 R.length 0 R.length] 2 0,.row (U.map (AV.int .i64)) 1 0,.row (R.flatMap wrR) 2 R.length,.row [.str nm,.int .i64 h,.int .i64 ln] 3 0]) (fun i=>own.length - i.1) ⟨0,Nat.zero_le _,fun i hi=>absurd hi (Nat.not_lt_zero i)⟩ ?_ ?_
 ·(rw [hL]; simp only [push_cast,Int.natCast_zero,]; exact Z06.sameA)
 rintro⟨k,hk,hp⟩
 dsimp only
 by_cases hk':k<own.length
 ·have dk:decide ((k:Int)<(own.length:Int))=true:=decide_eq_true (by omega)
  have wk:IntKind.i64.wrap ((k:Int)+1)=(k:Int)+1:=wrq
  obtain⟨hm0,hm1⟩:=hin k hk'
  obtain⟨m,hm⟩:=Int.eq_ofNat_of_zero_le hm0
  have hmU:m<U.length:=by omega
  by_cases c3:U.getD m default=2
  case neg=>
   have hx:¬tOk U 2 own:=fun hc=>c3 (by have:=(hc k hk').2.2.1; rw [hm,Int.toNat_natCast] at this; exact this)
   obtain rfl:=e2 hx
   rw [hno (by decide)] at hfin
   have d3:decide (U.getD m default=2)=false:=decide_eq_false c3
   refine gxq dk ?_
   refine Z02.drawnQ smp (by kernel_rfl) (gwq (cj4 hk' hm hmU d3) ?_)
   refine⟨by omega,by omega,by omega,⟨by omega,by omega⟩,?_⟩
   exact Z06.keep4A
  have d3:decide (U.getD m default=2)=true:=decide_eq_true c3
  refine gxq dk ?_
  refine Z02.drawnQ smp (by kernel_rfl) (gwq (cj4 hk' hm hmU d3) ?_)
  refine⟨by omega,by omega,by omega,⟨by omega,by omega⟩,?_⟩
  refine Z02.loopM (ι:={q:Nat // q≤k∧∀i,i<q→own.getD i default≠own.getD k default}) [tt,ff,ff,tt,ff,ff,tt,ff,tt,ff,tt,tt,tt,tt,tt,tt,ff,ff,ff,ff,ff,ff,ff,ff,ff,ff,ff,ff,ff,ff,ff,ff,ff,ff,ff,ff,ff,ff,ff,ff,ff,ff,ff,ff,ff,ff,ff,ff,ff,ff,ff,ff,ff,ff,ff,ff,ff,ff,ff,ff,ff,ff,ff,ff,ff,ff,ff,ff,ff,ff,ff,ff,ff,ff,ff,ff,ff,ff,ff,ff,ff,ff,ff,ff,ff,ff,ff,ff,ff,ff,ff,ff,ff,ff,ff,ff,ff,ff,ff,ff,ff,ff,ff,ff,ff,ff,ff,ff,ff,ff,ff,ff,ff,ff,ff,ff,ff,ff,ff,ff,ff,ff,ff,ff,ff,ff,ff,ff,ff,ff,ff,ff,ff] (fun i=>[(9,.int .i64 i.1)]) (fun i=>[.row [.ref 1 0 0,.sl (F.flatMap flC) F.length,.sl (Lv.map (AV.int .i64)) Lv.length,.msl 2 0 0 U.length] 4 0,.row [.sl ((noN N).map AV.str) N,.msl 3 R.length 0 R.length] 2 0,.row (U.map (AV.int .i64)) 1 0,.row (R.flatMap wrR) 2 R.length,.row [.str nm,.int .i64 h,.int .i64 ln] 3 0]) (fun i=>k - i.1) ⟨0,Nat.zero_le _,fun i hi=>absurd hi (Nat.not_lt_zero i)⟩ ?_ ?_
  ·(rw [hL]; simp only [push_cast,Int.natCast_zero,]; exact Z06.sameA)
  rintro⟨q,hq,hd⟩
  dsimp only
  by_cases hq':q<k
  ·have dq:decide ((q:Int)<(k:Int))=true:=decide_eq_true (by omega)
   have wq:IntKind.i64.wrap ((q:Int)+1)=(q:Int)+1:=wrq
   have hql:q<own.length:=by omega
   by_cases c4:own.getD q default=own.getD k default
   ·have hx:¬tOk U 2 own:=fun hc=>(hc k hk').2.2.2 (by
     rw [←c4,Z0m hql]
     exact List.mem_take_iff_getElem.2 ⟨q,by omega,rfl⟩)
    obtain rfl:=e2 hx
    rw [hno (by decide)] at hfin
    have d4:decide (own.getD q default=own.getD k default)=true:=decide_eq_true c4
    refine gxq dq ?_
    refine Z02.drawnQ smp (by kernel_rfl) (gwq (cj3 hk' hql d4) ?_)
    refine⟨by omega,by omega,by omega,by omega,?_⟩
    exact Z06.keep4A
   ·have d4:decide (own.getD q default=own.getD k default)=false:=decide_eq_false c4
    refine gxq dq ?_
    refine Z02.drawnQ smp (by kernel_rfl) (gwq (cj4 hk' hql d4 wq) ?_)
    refine⟨by omega,by omega,by omega,by omega,⟨q+1,hq',fun i hi=>?_⟩,by simp only; omega,?_⟩
    ·rcases Nat.lt_succ_iff_lt_or_eq.1 hi with hi | rfl
     ·exact hd i hi
     ·exact c4
    ·exact Z06.sameA
  ·obtain rfl:q=k:=by omega
   have dq:decide ((q:Int)<(q:Int))=false:=decide_eq_false (by omega)
   refine gxq (cj2 dq wk) ?_
   refine⟨⟨q+1,hk',fun i hi=>?_⟩,by simp only; omega,?_⟩
   ·rcases Nat.lt_succ_iff_lt_or_eq.1 hi with hi | rfl
    ·exact hp i hi
    ·refine⟨by omega,by omega,by rw [hm,Int.toNat_natCast]; exact c3,fun hx=>?_⟩
     obtain⟨j,hj,e⟩:=List.mem_take_iff_getElem.1 hx
     exact hd j (by omega) (by rw [Z0m (by omega)]; exact e)
   ·exact Z06.sameA
 ·obtain rfl:k=own.length:=by omega
  have hx:tOk U 2 own:=hp
  have dk:decide ((own.length:Int)<(own.length:Int))=false:=decide_eq_false (by omega)
  have hown1:=e3 hx
  have e4':=e4 hx
  have e5':=e5 hx
  clear e2 e3 e4 e5 hp hk hk'
  by_cases d:fiB F nm=true
  ·have hd:=of_decide_eq_true d
   rw [d] at r120
   have wF1:IntKind.i64.wrap ((F.length:Int)+1)=(F.length:Int)+1:=wrq
   have wF2:IntKind.i64.wrap ((F.length:Int)+1 - 1)=(F.length:Int):=by rw [Int.add_sub_cancel]; exact Z0t _ (by constructor <;> omega)
   have p121:=Z6c F Lv U N R F.length
   have r121:=Z66 F Lv U N R F.length
   have g121:=Z6s F Lv U N R F.length
   have d200:decide ((200:Int)<(F.length:Int))=false:=decide_eq_false (by omega)
   have eL:inF F nm ⟨nm,h,ln,own⟩=F.set (fiN F nm) ⟨nm,h,ln,own⟩:=by unfold inF; rw [if_pos d]
   have eG:inG F nm=(F.getD (fiN F nm) default).se:=by unfold inG; rw [if_pos d]
   have hLl:(F.set (fiN F nm) ⟨nm,h,ln,own⟩).length=F.length:=List.length_set
   rw [eL] at e4' e5' hyes
   rw [eG] at hyes
   have hly:Z2l (F.set (fiN F nm) ⟨nm,h,ln,own⟩) R U↔(R.length+lvN F.length+1≤4096∧lvN F.length≤U.count 0):=by unfold Z2l; rw [hLl]; exact And.comm
   rw [hly] at e4' e5'
   rw [hLl] at e4' e5'
   clear hly hown1
   unfold Z0y at p121 r121 g121
   by_cases c5:R.length+lvN F.length+1≤4096∧lvN F.length≤U.count 0
   case neg=>
    rw [decide_eq_false c5] at r121
    obtain rfl:=e4' hF c5
    rw [hno (by decide)] at hfin
    refine gxq (Z9a dk h120 p120 r120 g120 wF1 wF2 h121 p121 r121 g121 d200) ?_
    refine⟨⟨by decide,by omega⟩,⟨by decide,hR,by omega,by omega⟩,?_⟩
    exact Z06.keep4A
   rw [decide_eq_true c5] at r121
   obtain rfl:=e5' hF c5
   rw [hyes rfl] at hfin
   clear hyes hno e4' e5'
   generalize hfi:fiN F nm=i at *
   obtain⟨hi,hinm⟩:=hd
   have wI:IntKind.i64.wrap ((i:Int)+1)=(i:Int)+1:=wrq
   have gse:=fun d=>ZjB F i d hi
   have m1:min (i*4) (F.length*4)=i*4:=by omega
   have o1:Z0b (List.take (i*4) (List.flatMap flC F))=true:=by rw [Z1W]; exact Z2L _
   have o2:Z0b (List.drop ((i+1)*4) (List.flatMap flC F))=true:=by rw [Z1d]; exact Z2L _
   have tA:List.take (F.length*4) (List.flatMap flC F)=List.flatMap flC F:=Z2i F
   have hset:List.take (i*4) (List.flatMap flC F)++[AV.str nm,AV.int .i64 h,AV.int .i64 ln,AV.sl (List.map (AV.int .i64) own) own.length]++List.drop ((i+1)*4) (List.flatMap flC F)=(F.set i ⟨nm,h,ln,own⟩).flatMap flC:=by
    have:=Z3f (g:=flC) (n:=4) F i ⟨nm,h,ln,own⟩ hi
    rw [show i*4+4=(i+1)*4 by omega] at this
    exact this
   have hlen:i - 0+1+(F.length - (i+1))=F.length:=by omega
   refine gnq 44 (cj20 dk h120 p120 r120 g120 wF1 wF2 h121 p121 r121 g121 d200 wI gse m1 o1 o2 tA hset hlen) ?_
   refine⟨⟨by decide,by omega⟩,⟨by decide,hR,by omega,by omega⟩,⟨by omega,by omega⟩,⟨by omega,by omega⟩,⟨by omega,by omega⟩,by omega,by omega,⟨by omega,by omega,by omega⟩,⟨by omega,by omega,by omega⟩,?_⟩
   have tL:List.take (F.length*4) (List.flatMap flC (F.set i ⟨nm,h,ln,own⟩))=List.flatMap flC (F.set i ⟨nm,h,ln,own⟩):=by rw [←hLl]; exact Z2i _
   have hfl:∀f∈F.set i ⟨nm,h,ln,own⟩,Z1p f:=fun f hf=>by
    rcases List.mem_or_eq_of_mem_set hf with hf | rfl
    ·exact (hok f hf).1
    ·exact⟨Z2w c1,Z5R hN c2⟩
   have hgl:(F.getD i default).se.length≤251:=(hok _ (by rw [Z0m hi]; exact List.getElem_mem hi)).2
   have ⟨p122,r122,g122⟩:=ks122 (F.set i ⟨nm,h,ln,own⟩) F Lv U N R
   have lU:=Z64 (F.set i ⟨nm,h,ln,own⟩) Lv N R U hR (by rw [hLl]; exact c5.2)
   rw [hLl] at p122 r122 g122
   generalize F.set i ⟨nm,h,ln,own⟩=L at *
   generalize (F.getD i default).se=gone at *
   generalize (ryE L N R U).now=now at *
   generalize ryU L Lv N R U=U1 at *
   generalize ryR L N R U=R1 at *
   have p1:=Z6b L now U1 N R1 own 2 1
   have r1:=Z65 L now U1 N R1 own 2 1
   have g1:=Z6r L now U1 N R1 own 2 1
   have lU2:=Z1V 2 1 own U1
   generalize (uGo 2 1 own U1).1=U2 at *
   have p2:=Z6b L now U2 N R1 gone 1 0
   have r2:=Z65 L now U2 N R1 gone 1 0
   have g2:=Z6r L now U2 N R1 gone 1 0
   have lU3:=Z1V 1 0 gone U2
   generalize (uGo 1 0 gone U2).1=U3 at *
   unfold Z0y at p122 g122 p1 r1 g1 p2 r2 g2
   rw [hLl] at p1 r1 g1 p2 r2 g2 hfin
   rw [lU3,lU2] at g2 hfin
   rw [lU2] at g1 p2 r2
   rw [lU] at g122 p1 r1 g1 p2 r2 g2 hfin
   rw [hLl] at g122
   refine Z02.frz 5 (by rw [hL]; simp) smf (gsq ?_)
   refine gxq (Z9a h122 p122 r122 g122 h99 p1 r1 g1 p2 r2 g2 tL) ?_
   refine⟨⟨by decide,⟨hF,hfl⟩,c5.2,hLv,by omega,hR,by omega⟩,⟨by decide,by omega,by omega⟩,⟨by decide,by omega,by omega⟩,?_⟩
   exact Z06.keep4A
  ·have d':fiB F nm=false:=by simpa using d
   rw [d'] at r120
   have hi:=Z6z F nm
   have wF1:IntKind.i64.wrap ((F.length:Int)+1)=(F.length:Int)+1:=wrq
   have p121:=Z6c F Lv U N R (F.length+1)
   have r121:=Z66 F Lv U N R (F.length+1)
   have g121:=Z6s F Lv U N R (F.length+1)
   have eL:inF F nm ⟨nm,h,ln,own⟩=insF F (fiN F nm) ⟨nm,h,ln,own⟩:=by unfold inF; rw [if_neg d]
   have eG:inG F nm=[]:=by unfold inG; rw [if_neg d]
   have hLl:(insF F (fiN F nm) ⟨nm,h,ln,own⟩).length=F.length+1:=Z7S F _ _ hi
   rw [eL] at e4' e5' hyes hown1
   rw [eG] at hyes
   have hly:Z2l (insF F (fiN F nm) ⟨nm,h,ln,own⟩) R U↔(R.length+lvN (F.length+1)+1≤4096∧lvN (F.length+1)≤U.count 0):=by unfold Z2l; rw [hLl]; exact And.comm
   rw [hly] at e4' e5'
   rw [hLl] at e4' e5'
   rw [hLl] at hown1
   clear hly
   unfold Z0y at p121 r121 g121
   rw [show ((F.length+1:Nat):Int)=(F.length:Int)+1 by omega] at p121 r121 g121
   by_cases c200:F.length+1≤200
   case neg=>
    have d200:decide ((200:Int)<(F.length:Int)+1)=true:=decide_eq_true (by omega)
    obtain rfl:=hown1 c200
    rw [hno (by decide)] at hfin
    refine gxq (Ziy dk h120 p120 r120 g120 wF1 h121 p121 r121 g121 d200) ?_
    refine⟨⟨by decide,by omega⟩,⟨by decide,hR,by omega,by omega⟩,?_⟩
    exact Z06.keep4A
   have d200:decide ((200:Int)<(F.length:Int)+1)=false:=decide_eq_false (by omega)
   by_cases c5:R.length+lvN (F.length+1)+1≤4096∧lvN (F.length+1)≤U.count 0
   case neg=>
    rw [decide_eq_false c5] at r121
    obtain rfl:=e4' c200 c5
    rw [hno (by decide)] at hfin
    refine gxq (Ziy dk h120 p120 r120 g120 wF1 h121 p121 r121 g121 d200) ?_
    refine⟨⟨by decide,by omega⟩,⟨by decide,hR,by omega,by omega⟩,?_⟩
    exact Z06.keep4A
   rw [decide_eq_true c5] at r121
   obtain rfl:=e5' c200 c5
   rw [hyes rfl] at hfin
   clear hyes hno e4' e5'
   generalize hfi:fiN F nm=i at *
   have m1:min (i*4) (F.length*4)=i*4:=by omega
   have o1:Z0b (List.take (i*4) (List.flatMap flC F))=true:=by rw [Z1W]; exact Z2L _
   have o2:Z0b (List.drop (i*4) (List.flatMap flC F))=true:=by rw [Z1d]; exact Z2L _
   have tA:List.take (F.length*4) (List.flatMap flC F)=List.flatMap flC F:=Z2i F
   have hset:List.take (i*4) (List.flatMap flC F)++[AV.str nm,AV.int .i64 h,AV.int .i64 ln,AV.sl (List.map (AV.int .i64) own) own.length]++List.drop (i*4) (List.flatMap flC F)=(insF F i ⟨nm,h,ln,own⟩).flatMap flC:=by
    exact (Z8N F i ⟨nm,h,ln,own⟩).symm
   have hlen:i - 0+1+(F.length - i)=F.length+1:=by omega
   refine gnq 42 (ZmF dk h120 p120 r120 g120 wF1 h121 p121 r121 g121 d200 m1 o1 o2 tA hset hlen) ?_
   refine⟨⟨by decide,by omega⟩,⟨by decide,hR,by omega,by omega⟩,⟨by omega,by omega⟩,⟨by omega,by omega⟩,⟨by omega,by omega⟩,⟨by omega,by omega⟩,⟨by omega,by omega,by omega⟩,?_⟩
   have tL:List.take ((F.length+1)*4) (List.flatMap flC (insF F i ⟨nm,h,ln,own⟩))=List.flatMap flC (insF F i ⟨nm,h,ln,own⟩):=by rw [←hLl]; exact Z2i _
   have hfl:∀f∈insF F i ⟨nm,h,ln,own⟩,Z1p f:=fun f hf=>by
    have:f∈inF F nm ⟨nm,h,ln,own⟩:=by rw [eL]; exact hf
    rcases Z7T this with rfl | hf
    ·exact⟨Z2w c1,Z5R hN c2⟩
    ·exact (hok f hf).1
   have e0:∀V:List Int,(uGo 1 0 [] V).1=V:=fun _=>rfl
   rw [e0] at hfin
   have ⟨p122,r122,g122⟩:=ks122 (insF F i ⟨nm,h,ln,own⟩) F Lv U N R
   have lU:=Z64 (insF F i ⟨nm,h,ln,own⟩) Lv N R U hR (by rw [hLl]; exact c5.2)
   rw [hLl] at p122 r122 g122
   generalize insF F i ⟨nm,h,ln,own⟩=L at *
   generalize (ryE L N R U).now=now at *
   generalize ryU L Lv N R U=U1 at *
   generalize ryR L N R U=R1 at *
   have p1:=Z6b L now U1 N R1 own 2 1
   have r1:=Z65 L now U1 N R1 own 2 1
   have g1:=Z6r L now U1 N R1 own 2 1
   have lU2:=Z1V 2 1 own U1
   generalize (uGo 2 1 own U1).1=U2 at *
   have p2:=Zi4 L now U2 N R1 1 0
   have r2:=ZhS L now U2 N R1 1 0
   have g2:=Zid L now U2 N R1 1 0
   unfold Z0y at p122 g122 p1 r1 g1 p2 r2 g2
   rw [hLl] at p1 r1 g1 p2 r2 g2 hfin
   rw [lU2] at g1 p2 r2 g2 hfin
   rw [lU] at g122 p1 r1 g1 p2 r2 g2 hfin
   rw [hLl] at g122
   refine Z02.frz 5 (by rw [hL]; simp) smf (gsq ?_)
   refine gxq (Z9a h122 p122 r122 g122 h99 p1 r1 g1 p2 r2 g2 tL) ?_
   refine⟨⟨by decide,⟨by omega,hfl⟩,c5.2,hLv,by omega,hR,by omega⟩,⟨by decide,by omega,by omega⟩,by decide,?_⟩
   exact Z06.keep4A
theorem con68{Γ:Env}(h:Z07 Tryz.prog Γ)(h109:Γ 109=some S109)(h98:Γ 98=some S98)(h120:Γ 120=some S120)(h121:Γ 121=some S121)(h122:Γ 122=some S122)(h99:Γ 99=some S99):Con Tryz.prog 68 S68:=
 kcn h (fn:=Tryz.f68) inj68 fun ⟨F,Lv,U,N,R,nm,h,ln⟩ ⟨h1,h2,h3,h4,h5,h6,h7⟩=>body68 Γ h109 h98 h120 h121 h122 h99 F Lv U N R nm h ln h1 h2 h3 h4 h5 h6 h7
def fdE(F:List Fl)(nm:List UInt8):AV:=if fiB F nm=true then .agg [.str (F.getD (fiN F nm) default).nm,.int .i64 (F.getD (fiN F nm) default).hd,.int .i64 (F.getD (fiN F nm) default).ln] else .agg [.str [],.int .i64 0,.int .i64 0]
def fdC(F:List Fl)(nm:List UInt8):Int:=if fiB F nm=true then 0 else 172
def k30:List Fl×List Int×List Int×List Sec×List Wr×List UInt8→Ct:=fun (F,Lv,U,S,W,nm)=>⟨([.ref 0 0 0,.str nm],Z0z F Lv U S W),F.length≤4194304∧srt F,.tup [fdE F nm,.int .i64 (fdC F nm)],Z0z F Lv U S W⟩
theorem inj30:∀a b,(k30 a).a=(k30 b).a→a=b:=by
 rintro⟨F,Lv,U,S,W,nm⟩ ⟨F',Lv',U',S',W',nm'⟩ h
 simp only [k30,Z0g,Z0h,Z0k,Z0j,UInt8.toNat_inj,Z09,Z0c,Z0x,Z0o,Z1g,Z19,Z1L,Z0z,Z0E,Z0P,Z0I,Z0y,Z2R,Z4n,Z0A,List.cons.injEq] at h
 simp_all only
noncomputable def S30:Z0n:=Z0W true k30
theorem ks30(F:List Fl)(Lv U:List Int)(S:List Sec)(W:List Wr)(nm:List UInt8):KS k30 ([.ref 0 0 0,.str nm],Z0z F Lv U S W) (F.length≤4194304∧srt F) (.tup [fdE F nm,.int .i64 (fdC F nm)]) (Z0z F Lv U S W):=kat inj30 (F,Lv,U,S,W,nm)
attribute [push_cast] S30 ks30
theorem Zij{F:List Fl}{k:Nat}(hk:k<F.length):List.take 3 (List.drop (k*4) (List.flatMap flC F))=[.str (F.getD k default).nm,.int .i64 (F.getD k default).hd,.int .i64 (F.getD k default).ln]:=by
 rw [Z1d (n:=4),List.drop_eq_getElem_cons hk,List.flatMap_cons,←Z0m hk]; rfl
theorem body30(Γ:Env)(h77:Γ 77=some S77)(F:List Fl)(Lv U:List Int)(S:List Sec)(W:List Wr)(nm:List UInt8)(hF:F.length≤4194304)(hs:srt F) :
  Z08 Tryz.prog Γ Tryz.f30 [.ref 0 0 0,.str nm] (Z0z F Lv U S W) (.tup [fdE F nm,.int .i64 (fdC F nm)]) (Z0z F Lv U S W):=by
 have ⟨p,r,g⟩:=ks77 F Lv U S W nm
 unfold Z0z at *
 unfold fdE fdC
 by_cases c:fiB F nm=true
 ·have hk:=(of_decide_eq_true c).1
  have t3:=Zij hk
  rw [if_pos c,if_pos c]
  rw [c] at r
  generalize fiN F nm=k at *
  have m3:min 3 (F.length*4 - k*4)=3:=by omega
  refine stt 28 [.cell 4 61,.tmp 5] fun X hP hΓ hL hfin=>?_; refine gxq (cj6 h77 p r g t3 m3) ?_
  refine⟨⟨by decide,hF,hs⟩,by omega,by omega,?_⟩
  exact Z06.keep6A
 ·have c':fiB F nm=false:=by simpa using c
  rw [if_neg c,if_neg c]
  rw [c'] at r
  refine stt 28 [.cell 4 61,.tmp 5] fun X hP hΓ hL hfin=>?_; refine gxq (cj4 h77 p r g) ?_
  refine⟨⟨by decide,hF,hs⟩,?_⟩
  exact Z06.keep6A
theorem con30{Γ:Env}(h:Z07 Tryz.prog Γ)(h77:Γ 77=some S77):Con Tryz.prog 30 S30:=
 kcn h (fn:=Tryz.f30) inj30 fun ⟨F,Lv,U,S,W,nm⟩ h=>body30 Γ h77 F Lv U S W nm h.1 h.2
def k73:List Fl×List Int×List Int×Nat×List Wr×List UInt8→Ct:=fun (F,Lv,U,N,R,nm)=>⟨([.ref 0 0 0,.str nm],Z0y F Lv U N R),F.length≤4194304,.tup [fdE F nm,.int .i64 (fdC F nm)],Z0y F Lv U N R⟩
theorem inj73:∀a b,(k73 a).a=(k73 b).a→a=b:=by
 rintro⟨F,Lv,U,N,R,nm⟩ ⟨F',Lv',U',N',R',nm'⟩ h
 simp only [k73,Z0g,Z0h,Z0k,Z0j,UInt8.toNat_inj,Z09,Z0c,Z0x,Z0o,Z1g,Z19,Z1L,Z0z,Z0E,Z0P,Z0I,Z0y,Z2R,Z4n,Z0A,List.cons.injEq] at h
 simp_all only
noncomputable def S73:Z0n:=Z0W true k73
theorem ks73(F:List Fl)(Lv U:List Int)(N:Nat)(R:List Wr)(nm:List UInt8):KS k73 ([.ref 0 0 0,.str nm],Z0y F Lv U N R) (F.length≤4194304) (.tup [fdE F nm,.int .i64 (fdC F nm)]) (Z0y F Lv U N R):=kat inj73 (F,Lv,U,N,R,nm)
attribute [push_cast] S73 ks73
theorem body73(Γ:Env)(h120:Γ 120=some S120)(F:List Fl)(Lv U:List Int)(N:Nat)(R:List Wr)(nm:List UInt8)(hF:F.length≤4194304) :
  Z08 Tryz.prog Γ Tryz.f73 [.ref 0 0 0,.str nm] (Z0y F Lv U N R) (.tup [fdE F nm,.int .i64 (fdC F nm)]) (Z0y F Lv U N R):=by
 have ⟨p,r,g⟩:=ks120 F Lv U N R nm
 unfold Z0y at *
 unfold fdE fdC
 by_cases c:fiB F nm=true
 ·have hk:=(of_decide_eq_true c).1
  have t3:=Zij hk
  rw [if_pos c,if_pos c]
  rw [c] at r
  generalize fiN F nm=k at *
  have m3:min 3 (F.length*4 - k*4)=3:=by omega
  refine stt 25 [.cell 4 61,.tmp 5] fun X hP hΓ hL hfin=>?_; refine gxq (cj6 h120 p r g t3 m3) ?_
  refine⟨⟨by decide,hF⟩,by omega,by omega,?_⟩
  exact Z06.keep4A
 ·have c':fiB F nm=false:=by simpa using c
  rw [if_neg c,if_neg c]
  rw [c'] at r
  refine stt 25 [.cell 4 61,.tmp 5] fun X hP hΓ hL hfin=>?_; refine gxq (cj4 h120 p r g) ?_
  refine⟨⟨by decide,hF⟩,?_⟩
  exact Z06.keep4A
theorem con73{Γ:Env}(h:Z07 Tryz.prog Γ)(h120:Γ 120=some S120):Con Tryz.prog 73 S73:=
 kcn h (fn:=Tryz.f73) inj73 fun ⟨F,Lv,U,N,R,nm⟩ h=>body73 Γ h120 F Lv U N R nm h
theorem Z6M{F:List Fl}{i:Nat}(h:i<F.length):(wo F i).length=F.length - 1:=by unfold wo; rw [List.length_append,List.length_take,List.length_drop]; omega
theorem ZmL(F:List Fl)(i:Nat):(wo F i).flatMap flC=List.take (i*4) (F.flatMap flC)++List.drop ((i+1)*4) (F.flatMap flC):=by
 unfold wo; rw [List.flatMap_append,Z1W,Z1d]
theorem Z4K{F:List Fl}{i:Nat}{f:Fl}(h:f∈wo F i):f∈F:=by
 unfold wo at h
 rcases List.mem_append.1 h with h | h
 ·exact List.mem_of_mem_take h
 ·exact List.mem_of_mem_drop h
def k123:List Fl×List Int×List Int×Nat×List Wr×Nat→Ct:=fun (F,Lv,U,N,R,i)=>⟨([.ref 0 0 0,.int .i64 i],Z0y F Lv U N R),i<F.length∧F.length≤1000000,.sl ((wo F i).flatMap flC) (wo F i).length,Z0y F Lv U N R⟩
theorem inj123:∀a b,(k123 a).a=(k123 b).a→a=b:=by
 rintro⟨F,Lv,U,N,R,i⟩ ⟨F',Lv',U',N',R',i'⟩ h
 simp only [k123,Z0g,Z0h,Z0k,Z0j,UInt8.toNat_inj,Z09,Z0c,Z0x,Z0o,Z1g,Z19,Z1L,Z0z,Z0E,Z0P,Z0I,Z0y,Z2R,Z4n,Z0A,List.cons.injEq] at h
 simp_all only
noncomputable def S123:Z0n:=Z0W true k123
theorem ks123(F:List Fl)(Lv U:List Int)(N:Nat)(R:List Wr)(i:Nat):KS k123 ([.ref 0 0 0,.int .i64 i],Z0y F Lv U N R) (i<F.length∧F.length≤1000000) (.sl ((wo F i).flatMap flC) (wo F i).length) (Z0y F Lv U N R):=kat inj123 (F,Lv,U,N,R,i)
attribute [push_cast] S123 ks123
theorem body123(Γ:Env)(F:List Fl)(Lv U:List Int)(N:Nat)(R:List Wr)(i:Nat)(hi:i<F.length)(hF:F.length≤1000000) :
  Z08 Tryz.prog Γ Tryz.f123 [.ref 0 0 0,.int .i64 i] (Z0y F Lv U N R) (.sl ((wo F i).flatMap flC) (wo F i).length) (Z0y F Lv U N R):=by
 have o1:Z0b (List.take (i*4) (List.flatMap flC F))=true:=by rw [Z1W]; exact Z2L _
 have o2:Z0b (List.drop ((i+1)*4) (List.flatMap flC F))=true:=by rw [Z1d]; exact Z2L _
 have tA:List.take (F.length*4) (List.flatMap flC F)=List.flatMap flC F:=Z2i F
 have wI:IntKind.i64.wrap ((i:Int)+1)=(i:Int)+1:=wrq
 have m1:min (i*4) (F.length*4)=i*4:=by omega
 have hw:=Z6M hi
 have hf:=(ZmL F i).symm
 have hlen:i - 0+(F.length - (i+1))=F.length - 1:=by omega
 have tW:List.take ((F.length - 1)*4) (List.flatMap flC (wo F i))=List.flatMap flC (wo F i):=by rw [←hw]; exact Z2i _
 rw [hw]
 unfold Z0y
 refine stt 23 [.tmp 4] fun X hP hΓ hL hfin=>?_; refine gxq (cj7 o1 o2 tA wI m1 hf hlen) ?_
 refine⟨⟨by omega,by omega⟩,⟨by omega,by omega⟩,⟨by omega,by omega,by omega⟩,⟨by omega,by omega,by omega⟩,?_⟩
 refine Z0q.frz 4 smo smf (gsq ?_)
 try rw [tW]
 exact Z06.keep4A
theorem con123{Γ:Env}(h:Z07 Tryz.prog Γ):Con Tryz.prog 123 S123:=
 kcn h (fn:=Tryz.f123) inj123 fun ⟨F,Lv,U,N,R,i⟩ h=>body123 Γ F Lv U N R i h.1 h.2
end Go.Proofs.YtbnnhffkbcekcaaGreatDoor.dirDone
end
