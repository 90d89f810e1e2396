/- Parts of the walk through directories. Conditions stand in each. -/
import Derived.Test.YtbnnhffkbcekcaaGreatDoorGe
import Derived.Test.YtbnnhffkbcekcaaGreatDoorFg
set_option linter.unusedVariables false
set_option linter.unusedSimpArgs false
set_option maxRecDepth 100000
set_option maxHeartbeats 4000000
section
namespace Go.Proofs.YtbnnhffkbcekcaaGreatDoor.dirDone
open Go Go.Eng Go.Proofs Go.Lib
def lvN(n:Nat):Nat:=(n+30) / 31
def ZjP:(Nat)→List AV:=fun n=>[.int .i64 n]
def ZnP:(Nat)→Prop:=fun n=>n≤4194304
def Zng:(Nat)→AV:=fun n=>.int .i64 (lvN n)
def ZoD:(Nat)→Z01:=fun n=>[]
theorem inj129:∀a b,ZjP a=ZjP b→a=b:=by
 rintro n n' h
 simp only [ZjP,Z0g,Z0h,Z0k,Z0j,UInt8.toNat_inj,Z09,Z0c,Z0x,Z0o,Z1g,Z19,Z1L,Z0z,Z0A,List.cons.injEq] at h
 simp_all only
noncomputable def S129:Z0n:=Z5S ZjP ZnP Zng ZoD true
theorem Zny(n:Nat):Z5P ZjP ZnP [.int .i64 n]=(n≤4194304):=Z13 inj129 ZnP n
theorem Zn0(n:Nat):Z2s ZjP Zng .any [.int .i64 n]=(.int .i64 (lvN n)):=Z0u inj129 Zng .any n
theorem Zol(n:Nat):Z2s ZjP ZoD [] [.int .i64 n]=([]):=Z0u inj129 ZoD [] n
attribute [push_cast] S129 Zny Zn0 Zol
theorem body129(Γ:Env)(n:Nat)(hn:n≤4194304):Z08 Tryz.prog Γ Tryz.f129 [.int .i64 n] [] (.int .i64 (lvN n)) []:=by
 have w1:IntKind.i64.wrap ((n:Int)+31)=(n:Int)+31:=wrq
 have w2:IntKind.i64.wrap ((n:Int)+31 - 1)=(n:Int)+30:=by rw [Z0t _ (by constructor <;> omega)]; omega
 have w3:((n:Int)+30).tdiv 31=(lvN n:Int):=by unfold lvN; rw [Int.tdiv_eq_ediv_of_nonneg (by omega)]; omega
 have w4:IntKind.i64.wrap (lvN n:Int)=(lvN n:Int):=Z0t _ (by unfold lvN; constructor <;> omega)
 refine stt 7 [.tmp 2] fun X hP hΓ hL hfin=>?_; refine gxq (cj4 w1 w2 w3 w4) ?_
 exact Z06.sameA
theorem con129{Γ:Env}(h:Z07 Tryz.prog Γ):Con Tryz.prog 129 S129:=
 Z0V h (fn:=Tryz.f129) (by kernel_rfl) rfl (by kernel_rfl) inj129 (by first | (intro h; cases h; done) | exact fun _ _=>rfl) fun n h=>body129 Γ n h
def k130:List Fl→Ct:=fun L=>⟨([.sl (L.flatMap flC) L.length,.int .i64 31],[]),True,.fn (.func 143) [] [.ref 0 0 0,.ref 1 0 0],[.row [.sl (L.flatMap flC) L.length] 1 0,.row [.int .i64 31] 1 0]⟩
theorem inj130:∀a b,(k130 a).a=(k130 b).a→a=b:=by
 rintro L L' h
 simp only [k130,Z0g,Z0h,Z0k,Z0j,UInt8.toNat_inj,Z09,Z0c,Z0x,Z0o,Z1g,Z19,Z1L,Z0z,Z0A,List.cons.injEq] at h
 simp_all only
noncomputable def S130:Z0n:=Z0W true k130
theorem ks130(L:List Fl):KS k130 ([.sl (L.flatMap flC) L.length,.int .i64 31],[]) (True) (.fn (.func 143) [] [.ref 0 0 0,.ref 1 0 0]) ([.row [.sl (L.flatMap flC) L.length] 1 0,.row [.int .i64 31] 1 0]):=kat inj130 L
attribute [push_cast] S130 ks130
theorem body130(Γ:Env)(L:List Fl):Z08 Tryz.prog Γ Tryz.f130 [.sl (L.flatMap flC) L.length,.int .i64 31] [] (.fn (.func 143) [] [.ref 0 0 0,.ref 1 0 0]) [.row [.sl (L.flatMap flC) L.length] 1 0,.row [.int .i64 31] 1 0]:=by
 refine stt 9 [.tmp 4] fun X hP hΓ hL hfin=>?_; refine Z0G ?_
 exact Z06.sameA
theorem con130{Γ:Env}(h:Z07 Tryz.prog Γ):Con Tryz.prog 130 S130:=
 kcn h (fn:=Tryz.f130) inj130 fun L _=>body130 Γ L
def enW(f:Fl):List UInt8:=f.nm++List.replicate (24 - f.nm.length) 0++leW f.hd.toNat++leW f.ln.toNat
def lfW(P:List Fl):List UInt8:=leW 827081795++leW P.length++P.flatMap enW
def chk(L:List Fl)(q:Nat):List Fl:=(L.drop (31*q)).take 31
theorem Z5p(L:List Fl)(q:Nat):(chk L q).length=min 31 (L.length - 31*q):=by unfold chk; rw [List.length_take,List.length_drop]
theorem Z89{L:List Fl}{q:Nat}{f:Fl}(h:f∈chk L q):f∈L:=List.mem_of_mem_drop (List.mem_of_mem_take h)
theorem Zmc(L:List Fl)(q i:Nat)(h:i=31*q):List.drop (i*4) (List.take ((i+(chk L q).length)*4) (L.flatMap flC))=(chk L q).flatMap flC:=by
 subst h
 rw [Z1W,Z1d,Z5p]
 congr 1
 unfold chk
 rw [List.drop_take]
 rw [show 31*q+min 31 (L.length - 31*q) - 31*q=min 31 (L.length - 31*q) by omega]
 by_cases h:31≤L.length - 31*q
 ·rw [Nat.min_eq_left h]
 ·rw [Nat.min_eq_right (by omega),List.take_of_length_le (by rw [List.length_drop]; exact Nat.le_refl _),List.take_of_length_le (by rw [List.length_drop]; omega)]
structure Ly where
 S:List Sec
 W:List Wr
 U:List Int
 now:List Int
 root:List UInt8
def lyK(L:List Fl)(S:List Sec)(W:List Wr)(U:List Int):Nat→Ly
 | 0=>⟨S,W,U,[],leW markR++leW (lvN L.length)⟩
 | q+1=>⟨wrS (lyK L S W U q).S (lyK L S W U q).W (Z2e (lyK L S W U q).U 0) (padP (lfW (chk L q))),wrW (lyK L S W U q).S (lyK L S W U q).W (Z2e (lyK L S W U q).U 0) (padP (lfW (chk L q))),tkU (lyK L S W U q).U,
   (lyK L S W U q).now++[Z2e (lyK L S W U q).U 0],(lyK L S W U q).root++leW (Z2e (lyK L S W U q).U 0).toNat⟩
def Z2l(L:List Fl)(W:List Wr)(U:List Int):Prop:=lvN L.length≤U.count 0∧W.length+lvN L.length+1≤4096
instance (L:List Fl) (W:List Wr) (U:List Int):Decidable (Z2l L W U):=by unfold Z2l; infer_instance
def lyE(L:List Fl)(S:List Sec)(W:List Wr)(U:List Int):Ly:=lyK L S W U (lvN L.length)
def lyS(L:List Fl)(S:List Sec)(W:List Wr)(U:List Int):List Sec:=if Z2l L W U then wrS (lyE L S W U).S (lyE L S W U).W 0 (padP (lyE L S W U).root) else S
def lyW(L:List Fl)(S:List Sec)(W:List Wr)(U:List Int):List Wr:=if Z2l L W U then wrW (lyE L S W U).S (lyE L S W U).W 0 (padP (lyE L S W U).root) else W
def lyU(L:List Fl)(Lv gone:List Int)(S:List Sec)(W:List Wr)(U:List Int):List Int:=if Z2l L W U then tRes (tRes (lyE L S W U).U 2 1 (lyE L S W U).now) 1 0 (Lv++gone) else U
def Z1p(f:Fl):Prop:=f.nm.length≤23∧(0≤f.hd∧f.hd<4294967296)∧0≤f.ln∧f.ln<4294967296
theorem Z9d(S:List Sec)(W:List Wr)(n:Int)(b:List UInt8):(wrS S W n b).length=S.length:=by
 unfold wrS; split
 ·exact List.length_set
 ·rfl
theorem ZiE(S:List Sec)(W:List Wr)(n:Int)(b:List UInt8):(wrW S W n b).length≤W.length+1:=by
 unfold wrW; split
 ·rw [List.length_append]; exact Nat.le_refl _
 ·omega
theorem Z2x{l:List Int}{n:Int}(h:n∈l):∃k,Z2e l n=(k:Nat)∧k<l.length∧l.getD k default=n:=by
 refine⟨l.idxOf n,by unfold Z2e; rw [if_pos h],List.idxOf_lt_length_of_mem h,?_⟩
 have hlt:=List.idxOf_lt_length_of_mem h
 simp [List.getD,hlt,List.getElem_idxOf]
theorem Z8i(U:List Int)(h:0<U.count 0):(tkU U).count 0+1=U.count 0:=by
 have hm:(0:Int)∈U:=List.count_pos_iff.1 h
 obtain⟨k,hk,hlt,hg⟩:=Z2x hm
 unfold tkU
 rw [if_neg (by omega),hk,Int.toNat_natCast,List.count_set hlt]
 have:U[k]=0:=by simpa [List.getD,hlt] using hg
 simp [this]
 omega
theorem Z2O(L:List Fl)(S:List Sec)(W:List Wr)(U:List Int):∀q,q≤U.count 0→
  (lyK L S W U q).S.length=S.length∧(lyK L S W U q).W.length≤W.length+q∧(lyK L S W U q).U.length=U.length∧(lyK L S W U q).now.length=q∧(lyK L S W U q).root.length=8+4*q∧(lyK L S W U q).U.count 0+q=U.count 0
 | 0,_=>⟨rfl,Nat.le_refl _,rfl,rfl,rfl,rfl⟩
 | q+1,h=>by
  obtain⟨h1,h2,h3,h4,h5,h6⟩:=Z2O L S W U q (by omega)
  refine⟨?_,?_,?_,?_,?_,?_⟩
  ·show (wrS _ _ _ _).length=_; rw [Z9d,h1]
  ·show (wrW _ _ _ _).length≤_; have:=ZiE (lyK L S W U q).S (lyK L S W U q).W (Z2e (lyK L S W U q).U 0) (padP (lfW (chk L q))); omega
  ·show (tkU _).length=_; rw [Z3N,h3]
  ·show (_++[_]).length=_; rw [List.length_append,h4]; rfl
  ·show (_++leW _).length=_; rw [List.length_append,h5,Z0O]; omega
  ·show (tkU _).count 0+_=_; have:=Z8i (lyK L S W U q).U (by omega); omega
theorem ZjE(f:Fl)(h:f.nm.length≤23):(enW f).length=32:=by
 unfold enW
 rw [List.length_append,List.length_append,List.length_append,List.length_replicate,Z0O,Z0O]; omega
theorem Z4h:∀(P:List Fl),(∀f∈P,Z1p f)→(P.flatMap enW).length=32*P.length
 | [],_=>rfl
 | f::P,h=>by
  rw [List.flatMap_cons,List.length_append,ZjE f (h f (List.mem_cons_self ..)).1,Z4h P (fun g hg=>h g (List.mem_cons_of_mem _ hg)),List.length_cons]; omega
theorem Z9M(P:List Fl)(h:∀f∈P,Z1p f):(lfW P).length=8+32*P.length:=by
 unfold lfW
 rw [List.length_append,List.length_append,Z0O,Z0O,Z4h P h]
def pgK(p:List Fl)(k:Nat):List UInt8:=leW 827081795++leW p.length++(p.take k).flatMap enW
theorem Zdr(p:List Fl):pgK p p.length=lfW p:=by unfold pgK lfW; rw [List.take_length]
theorem ZaI(p:List Fl)(k:Nat)(h:k<p.length):pgK p (k+1)=pgK p k++(p.getD k default).nm++List.replicate (24 - (p.getD k default).nm.length) 0++leW (p.getD k default).hd.toNat++leW (p.getD k default).ln.toNat:=by
 have e:p[k]=p.getD k default:=by simp [List.getD,h]
 unfold pgK
 rw [List.take_succ_eq_append_getElem h,List.flatMap_append,List.flatMap_singleton,e,enW]
 simp only [List.append_assoc]
theorem Z9F(p:List Fl)(h:∀f∈p,Z1p f)(k:Nat)(hk:k≤p.length):(pgK p k).length=8+32*k:=by
 unfold pgK
 rw [List.length_append,List.length_append,Z0O,Z0O,Z4h _ (fun f hf=>h f (List.mem_of_mem_take hf)),List.length_take]
 omega
theorem Z4I(z:Nat):(List.replicate z [AV.int .u8 0]).flatten=(List.replicate z (0:UInt8)).map Z05:=by
 rw [List.map_replicate]
 induction z with
 | zero=>rfl
 | succ z ih=>rw [List.replicate_succ,List.flatten_cons,ih]; rfl
attribute [push_cast] Z26
def lyG(L F:List Fl)(Lv U:List Int)(S:List Sec)(W:List Wr)(now:List Int)(root:List UInt8)(v:Nat)(rc:List Z0Q):Z01:=[.row [.ref 1 0 0,.sl (F.flatMap flC) F.length,.msl 2 Lv.length 0 Lv.length,.msl 3 0 0 U.length] 4 0,.row [.msl 4 0 0 S.length,.msl 5 W.length 0 W.length] 2 0,.row (Lv.map (AV.int .i64)) 1 Lv.length,.row (U.map (AV.int .i64)) 1 0,.row (S.flatMap Z1T) 1024 0,.row (W.flatMap wrC) 1025 W.length,.row [.ref 0 0 0] 1 0,.row [.msl 12 now.length 0 now.length] 1 0,.row (root.map Z05) 1 v,.row [.msl 8 v 0 root.length] 1 0,.row [.sl (L.flatMap flC) L.length] 1 0,.row [.int .i64 31] 1 0,.row (now.map (AV.int .i64)) 1 now.length]++rc
def m31(q:Nat):Nat:=31*q
def lyX(L F:List Fl)(Lv U:List Int)(S:List Sec)(W:List Wr)(q:Nat)(rc:List Z0Q):Z01:=lyG L F Lv (lyK L S W U q).U (lyK L S W U q).S (lyK L S W U q).W (lyK L S W U q).now (lyK L S W U q).root (1+q) rc
def lyZ(L F:List Fl)(Lv gone U:List Int)(S:List Sec)(W:List Wr):Z01:=if Z2l L W U then [.row [.ref 1 0 0,.sl (L.flatMap flC) L.length,.msl 6 (lvN L.length) 0 (lvN L.length),.msl 3 0 0 U.length] 4 0,.row [.msl 4 0 0 S.length,.msl 5 (lyW L S W U).length 0 (lyW L S W U).length] 2 0,.row ((Lv++gone).map (AV.int .i64)) 1 (Lv.length+1),.row ((lyU L Lv gone S W U).map (AV.int .i64)) 1 0,.row ((lyS L S W U).flatMap Z1T) 1024 0,.row ((lyW L S W U).flatMap wrC) 1025 (lyW L S W U).length,.row ((lyE L S W U).now.map (AV.int .i64)) 1 (lvN L.length)] else Z0z F Lv U S W
theorem body85(Γ:Env)(h129:Γ 129=some S129)(h19:Γ 19=some S19)(h90:Γ 90=some S90)(h91:Γ 91=some S91)(h130:Γ 130=some S130)(h33:Γ 33=some S33)(h92:Γ 92=some S92)(h78:Γ 78=some S78)
  (L F:List Fl) (Lv gone U:List Int) (S:List Sec) (W:List Wr) (hL0:L.length≤200) (hok:∀f∈L,Z1p f) (hLv:Lv.length≤1000) (hg:gone.length≤1000000) (hU:U.length≤1048576) (hS:S.length≤4096) (hW:W.length≤4096) :
  Z08 Tryz.prog Γ Tryz.f85 [.ref 0 0 0,.sl (L.flatMap flC) L.length,.sl (gone.map (AV.int .i64)) gone.length] (Z0z F Lv U S W) (.int .i64 (if Z2l L W U then 0 else 174)) (lyZ L F Lv gone U S W):=by
 have hn7:lvN L.length≤7:=by unfold lvN; omega
 have ⟨ps,rs,gs⟩:=ks19 F Lv U S W
 have ⟨pb,rb,gb⟩:=ks90 S W ((lvN L.length:Int)+1)
 have w1:IntKind.i64.wrap ((lvN L.length:Int)+1)=(lvN L.length:Int)+1:=wrq
 have hc:(decide ((U.count 0:Int)<(lvN L.length:Int)) || !decide ((W.length:Int)+((lvN L.length:Int)+1)≤4096))=!decide (Z2l L W U):=by
  by_cases a:lvN L.length≤U.count 0
  ·have e1:decide ((U.count 0:Int)<(lvN L.length:Int))=false:=decide_eq_false (by omega)
   by_cases b:W.length+lvN L.length+1≤4096
   ·have e2:decide ((W.length:Int)+((lvN L.length:Int)+1)≤4096)=true:=decide_eq_true (by omega)
    rw [e1,e2,decide_eq_true (show Z2l L W U from ⟨a,b⟩)]; rfl
   ·have e2:decide ((W.length:Int)+((lvN L.length:Int)+1)≤4096)=false:=decide_eq_false (by omega)
    rw [e1,e2,decide_eq_false (show ¬Z2l L W U from fun h=>b h.2)]; rfl
  ·have e1:decide ((U.count 0:Int)<(lvN L.length:Int))=true:=decide_eq_true (by omega)
   rw [e1,decide_eq_false (show ¬Z2l L W U from fun h=>a h.1)]; rfl
 by_cases c0:Z2l L W U
 case neg=>
  have d0:decide (Z2l L W U)=false:=decide_eq_false c0
  have k1:lyZ L F Lv gone U S W=Z0z F Lv U S W:=by unfold lyZ; rw [if_neg c0]
  rw [k1,if_neg c0]
  unfold Z0o Z0z at *
  refine stt 126 [.tmp 6] fun X hP hΓ hL hfin=>?_; refine gxq (Z9a h129 h19 h90 ps rs gs pb rb gb w1 hc d0) ?_
  refine⟨by omega,⟨by decide,hU⟩,fun _=>⟨by decide,by omega⟩,?_⟩
  exact Z06.keep6A
 have d0:decide (Z2l L W U)=true:=decide_eq_true c0
 have k1:lyZ L F Lv gone U S W=[.row [.ref 1 0 0,.sl (L.flatMap flC) L.length,.msl 6 (lvN L.length) 0 (lvN L.length),.msl 3 0 0 U.length] 4 0,.row [.msl 4 0 0 S.length,.msl 5 (lyW L S W U).length 0 (lyW L S W U).length] 2 0,.row ((Lv++gone).map (AV.int .i64)) 1 (Lv.length+1),.row ((lyU L Lv gone S W U).map (AV.int .i64)) 1 0,.row ((lyS L S W U).flatMap Z1T) 1024 0,.row ((lyW L S W U).flatMap wrC) 1025 (lyW L S W U).length,.row ((lyE L S W U).now.map (AV.int .i64)) 1 (lvN L.length)]:=by unfold lyZ; rw [if_pos c0]
 rw [k1,if_pos c0]
 have hlc:IntKind.u32.wrap (lvN L.length:Int)=(lvN L.length:Int):=Z5G _ (by omega)
 have p0:=ZaF markR
 have r0:=Zap markR
 have g0:=ZaV markR
 rw [show ((markR:Nat):Int)=827475011 from rfl] at p0 r0 g0
 have p1:=Z71 (lvN L.length) (leW markR) 0
 have r1:=Z6S (lvN L.length) (leW markR) 0
 have g1:=Z7c (lvN L.length) (leW markR) 0
 rw [Z0O] at p1 r1 g1
 unfold Z0o Z0z at *
 refine stt 126 [.tmp 6] fun X hP hΓ hL hfin=>?_; refine gxq (cj21 h129 h19 h90 ps rs gs pb rb gb w1 hc d0 h91 p0 r0 g0 p1 r1 g1 hlc h130) ?_
 refine⟨by omega,⟨by decide,hU⟩,fun _=>⟨by decide,by omega⟩,?_⟩
 refine Z02.nilH 7 0 1 rfl rfl ?_
 simp only [push_cast,List.set_cons_succ,List.set_cons_zero]
 have hst:lyX L F Lv U S W 0 []=lyG L F Lv U S W [] (leW markR++leW (lvN L.length)) 1 []:=rfl
 refine Z02.rangeFunc (L:=lyX L F Lv U S W 0 []) hP hΓ hfin (F:=143) (fnI:=Tryz.f143) (cap:=[.ref 10 0 0,.ref 11 0 0]) rfl (by kernel_rfl) rfl (by kernel_rfl) rfl rfl (ι:=Unit) (fun b' r _=>lyX L F Lv U S W (lvN L.length) [Z26 b' (rdy r)]) ?_ ?_
 ·intro b' r hps has hbd X hP hΓ hL hfin hC
  show Z02 X _ _ (lyX L F Lv U S W 0 [Z26 b' (rdy r)])
  unfold lyX lyG
  (rw [show Tryz.f143.ntmps=31 from rfl]; refine Z0G ?_)
  refine Z02.loopM (ι:={q:Nat // q≤lvN L.length}) [tt,tt,tt,ff,ff,ff,ff,ff,ff,ff,ff,ff,ff,ff,ff,ff,ff,ff,ff,ff,ff,ff,ff,ff,ff,ff,ff,ff,ff,ff,ff] (fun i=>[(4,.int .i64 (m31 i.1))]) (fun i=>lyX L F Lv U S W i.1 [Z26 b' (rdy r)]) (fun i=>lvN L.length - i.1) ⟨0,Nat.zero_le _⟩ ?_ ?_
  ·rw [hL]
   unfold lyX lyG
   rw [show m31 0=0 from rfl]
   simp only [push_cast]
   exact Z06.sameA
  rintro⟨q,hq⟩
  dsimp only
  obtain⟨fS,fW,fU,fn,fr,fc⟩:=Z2O L S W U q (by have:=c0.1; omega)
  have hm:m31 q=31*q:=rfl
  by_cases cq:q<lvN L.length
  case neg=>
   obtain rfl:q=lvN L.length:=by omega
   have dq:decide ((m31 (lvN L.length):Int)<(L.length:Int))=false:=decide_eq_false (by rw [hm]; unfold lvN; omega)
   unfold lyX lyG
   refine gxq dq ?_
   refine⟨(),?_⟩
   unfold lyX lyG
   exact Z06.sameA
  have cq2:31*q<L.length:=by unfold lvN at cq; omega
  have dq:decide ((m31 q:Int)<(L.length:Int))=true:=decide_eq_true (by omega)
  have hcl:=Z5p L q
  obtain⟨i,hi⟩:∃i,i=m31 q:=⟨_,rfl⟩
  obtain⟨c,hcc⟩:∃c,c=(chk L q).length:=⟨_,rfl⟩
  have hmin:min (31:Int) ((L.length - i:Nat):Int)=(c:Int):=by omega
  obtain⟨e,he⟩:∃e,e=i+c:=⟨_,rfl⟩
  have wi:IntKind.i64.wrap ((i:Int)+(c:Int))=(e:Int):=by rw [Z0t _ (by constructor <;> omega)]; omega
  obtain⟨p,hp⟩:∃p,p=chk L q:=⟨_,rfl⟩
  have hpl:p.length=c:=by rw [hp,hcc]
  have hei:e - i=p.length:=by omega
  have hpart:List.drop (i*4) (List.take (e*4) (L.flatMap flC))=p.flatMap flC:=by rw [he,hcc,Zmc L q i (by rw [hi,hm]),hp]
  have hpo:∀f∈p,Z1p f:=fun f hf=>hok f (Z89 (by rw [←hp]; exact hf))
  have hx:lyX L F Lv U S W q [Z26 b' (rdy r)]=lyG L F Lv (lyK L S W U q).U (lyK L S W U q).S (lyK L S W U q).W (lyK L S W U q).now (lyK L S W U q).root (1+q) [Z26 b' (rdy r)]:=rfl
  rw [hx]
  generalize hK:lyK L S W U q=K at *
  obtain⟨Sq,Wq,Uq,now,root⟩:=K
  dsimp only at *
  unfold lyG
  rw [←hi] at dq ⊢
  refine gxq dq ?_
  refine Z02.drawnK [] smp (by kernel_rfl) (gyq hmin ?_)
  refine⟨by omega,?_⟩
  refine Z50 1 ?_
  refine Z02.reg ?_
  refine Z04.ev 10 (gzq (cj4 wi @Int.toNat_natCast hpart hei) ?_)
  refine⟨by omega,?_⟩
  refine Z04.yieldM (lid:=13) (b:=b') (r:=r) rfl hP hΓ rfl rfl rfl (by rw [hps]; rfl) hC (by rw [hps]) (ι:=Unit) (κ:=Empty) (fun _=>lyX L F Lv U S W (q+1) [Z26 b' (bsy r)]) (fun j=>j.elim) ?_ ?_ (fun j=>j.elim)
  ·intro X hP hΓ hL hRR
   rw [has]
   ((first | with_reducible refine holds_of_ex X 400 _ _ _ ?_ | skip); simp (maxSteps:=1000000) only [push_cast,reduceCtorEq,Nat.reduceAdd,Nat.reduceMul,Nat.reduceSub,Nat.reduceBEq,Nat.reduceGT,Nat.reduceLT,Int.toNat_zero,Nat.reduceLeDiff,Int.reduceEq,Int.reduceLT,Int.reduceLE,hP,hΓ,hL,hfin,String.reduceEq,Int.toNat_one,Bool.not_not,List.zip_cons_cons,List.map_cons,List.map_nil,List.zip_nil_left])
   refine⟨rfl,fun X hP hΓ hL hfin=>?_⟩
   rw [hbd]
   simp only [List.set_cons_succ,List.set_cons_zero]
   have hpos:(0:Int)∈Uq:=List.count_pos_iff.1 (by have:=c0.1; omega)
   obtain⟨a,ha,hal,-⟩:=Z2x hpos
   have hK1:lyK L S W U (q+1)=⟨wrS Sq Wq a (padP (lfW p)),wrW Sq Wq a (padP (lfW p)),tkU Uq,now++[(a:Int)],root++leW a⟩:=by
    rw [lyK,hK]
    dsimp only
    rw [ha,←hp,Int.toNat_natCast]
   have hx1:∀rc,lyX L F Lv U S W (q+1) rc=lyG L F Lv (tkU Uq) (wrS Sq Wq a (padP (lfW p))) (wrW Sq Wq a (padP (lfW p))) (now++[(a:Int)]) (root++leW a) (1+(q+1)) rc:=fun rc=>by unfold lyX; rw [hK1]
   have ⟨pT,rT,gT⟩:=ks33 F Lv Uq Sq Wq
   have eT:tkR Uq=.tup [.int .i64 a,.int .i64 0]:=by unfold tkR; rw [if_neg (by omega),ha]
   have hUt:=Z3N Uq
   rw [eT] at rT
   unfold Z0z at pT rT gT
   have ua:IntKind.u32.wrap (a:Int)=(a:Int):=Z5G _ (by omega)
   have p1:=Z71 a root (1+q)
   have r1:=Z6S a root (1+q)
   have g1:=Z7c a root (1+q)
   have p2:=ZaF 827081795
   have r2:=Zap 827081795
   have g2:=ZaV 827081795
   have p3:=Z71 p.length (leW 827081795) 0
   have r3:=Z6S p.length (leW 827081795) 0
   have g3:=Z7c p.length (leW 827081795) 0
   rw [show ((827081795:Nat):Int)=827081795 from rfl] at p2 r2 g2
   rw [Z0O] at p3 r3 g3
   have up:IntKind.u32.wrap (p.length:Int)=(p.length:Int):=Z5G _ (by omega)
   refine gxq (Zk7 h33 pT rT gT h91 p1 r1 g1 ua p2 r2 g2 p3 r3 g3 up) ?_
   refine⟨⟨by decide,by omega⟩,by omega,by omega,?_⟩
   have hpg0:leW 827081795++leW p.length=pgK p 0:=by unfold pgK; rw [List.take_zero,List.flatMap_nil,List.append_nil]
   have hnl:(now++[(a:Int)]).length=now.length+1:=by rw [List.length_append]; rfl
   have hrl:(root++leW a).length=root.length+4:=by rw [List.length_append,Z0O]
   have hv:1+q+1=1+(q+1):=by omega
   refine Z02.loopM (ι:={k:Nat // k≤p.length}) [ff,tt,tt,tt,ff,ff,tt,ff,tt,tt,ff,tt,ff,ff,ff,ff,ff,ff,ff,ff,ff,ff,ff,ff,ff,ff,ff,ff,ff,ff,ff,ff,ff,ff,ff,ff,ff,ff,ff,ff,ff,ff,ff,ff,ff,ff,ff,ff,ff,ff,ff,ff,ff,ff,ff,ff,ff,ff,tt,tt,ff,ff,ff,ff,ff,ff,ff,ff,ff,ff,ff,ff,ff,ff,ff,ff,ff,ff,ff,ff,ff,ff,ff,ff,ff,ff,ff,ff,ff,ff,ff,ff,ff,ff,ff,ff,ff,ff,ff,ff,ff,ff,ff,ff,ff,ff,ff,ff,ff,ff,ff,ff,ff,ff,ff,ff,ff,ff,ff,ff,ff,ff,ff,ff,ff,ff] (fun i=>[(59,.int .i64 p.length),(60,.int .i64 i.1),(13,.msl 14 0 0 (pgK p i.1).length)]) (fun i=>lyG L F Lv (tkU Uq) Sq Wq (now++[(a:Int)]) (root++leW a) (1+(q+1)) [Z26 b' (bsy r),.row ((pgK p i.1).map Z05) 1 0]) (fun i=>p.length - i.1) ⟨0,Nat.zero_le _⟩ ?_ ?_
   ·rw [hL]
    rw [hpg0]
    have hpl0:(pgK p 0).length=4+4:=Z9F p hpo 0 (Nat.zero_le _)
    refine Z0q.ver 14  0 sm smv (gsq ?_)
    unfold lyG
    simp only [push_cast,hnl,hrl,hpl0,List.map_append,List.map_cons,List.map_nil]
    exact Z06.sameA
   rintro⟨k,hk⟩
   dsimp only
   have hgl:=Z9F p hpo k hk
   unfold lyG
   by_cases ck:k<p.length
   case neg=>
    obtain rfl:k=p.length:=by omega
    have dk:decide ((p.length:Int)<(p.length:Int))=false:=decide_eq_false (by omega)
    have hlw:=Z9M p hpo
    have c02:W.length+lvN L.length+1≤4096:=c0.2
    have pW:=Zmz Sq Wq (lfW p) 0 a
    have rW:=Zmy Sq Wq (lfW p) 0 a
    have gW:=ZmE Sq Wq (lfW p) 0 a
    unfold Z1g at pW rW gW
    rw [Zdr]
    refine gxq (cj5 dk h92 pW rW gW) ?_
    refine⟨⟨by decide,by omega,by omega,by omega⟩,?_⟩
    refine⟨(),?_⟩
    rw [hx1]
    unfold lyG
    simp only [push_cast,hnl,hrl,Z0O]
    exact Z06.keep14A
   have dk:decide ((k:Int)<(p.length:Int))=true:=decide_eq_true (by omega)
   obtain⟨f,hf⟩:∃f,f=p.getD k default:=⟨_,rfl⟩
   have hfm:f∈p:=by rw [hf,show p.getD k default=p[k] by simp [List.getD,ck]]; exact List.getElem_mem ck
   obtain⟨o1,⟨o2,o3⟩,o4,o5⟩:=hpo f hfm
   have hh:List.take 4 (List.drop (k*4) (p.flatMap flC))=[.str f.nm,.int .i64 f.hd,.int .i64 f.ln,.sl (f.se.map (AV.int .i64)) f.se.length]:=by rw [Z3z (n:=4) p k ck,←hf]; rfl
   have h4:min 4 (p.length*4 - k*4)=4:=by omega
   obtain⟨g0,hg0⟩:∃g0,g0=pgK p k:=⟨_,rfl⟩
   obtain⟨z,hz⟩:∃z,z=24 - f.nm.length:=⟨_,rfl⟩
   have wz:IntKind.i64.wrap (24 - (f.nm.length:Int))=(z:Int):=by rw [Z0t _ (by constructor <;> omega)]; omega
   obtain⟨g1,hg1⟩:∃g1,g1=g0++f.nm++List.replicate z 0:=⟨_,rfl⟩
   have eC:List.map Z05 g0++List.map Z05 f.nm++(List.replicate z [AV.int .u8 0]).flatten=g1.map Z05:=by
    rw [hg1,List.map_append,List.map_append,Z4I]
   have eL:g0.length+f.nm.length+z=g1.length:=by rw [hg1,List.length_append,List.length_append,List.length_replicate]
   rw [←hg0] at hgl ⊢
   have hg1l:g1.length=32+32*k:=by rw [←eL,hgl]; omega
   obtain⟨x,hx'⟩:=Int.eq_ofNat_of_zero_le o2
   obtain⟨y,hy'⟩:=Int.eq_ofNat_of_zero_le o4
   have ux:IntKind.u32.wrap (x:Int)=(x:Int):=Z5G _ (by omega)
   have uy:IntKind.u32.wrap (y:Int)=(y:Int):=Z5G _ (by omega)
   rw [hx',hy'] at hh
   obtain⟨g2,hg2⟩:∃g2,g2=g1++leW x:=⟨_,rfl⟩
   have hg2l:g1.length+4=g2.length:=by rw [hg2,List.length_append,Z0O]
   have pA:=Z71 x g1 2
   have rA:=Z6S x g1 2
   have gA:=Z7c x g1 2
   rw [←hg2] at gA
   rw [hg2l] at rA
   have pB:=Z71 y g2 3
   have rB:=Z6S y g2 3
   have gB:=Z7c y g2 3
   obtain⟨g3,hg3⟩:∃g3,g3=pgK p (k+1):=⟨_,rfl⟩
   have hg23:g2++leW y=g3:=by
    rw [hg3,ZaI p k ck,←hf,←hg0,hx',hy',hg2,hg1,hz]; rfl
   have hg3l:g2.length+4=g3.length:=by rw [←hg23,List.length_append,Z0O]
   rw [hg23] at gB
   rw [hg3l] at rB
   refine gxq (cj6 dk hh h4 wz eC eL) ?_
   refine⟨by omega,by omega,by omega,by omega,?_⟩
   (refine Z02.dE (Z1s [.any,.any,.any,.any,.any,.any,.any,.any,.any,.any,.any,.any,.any,.any,.any,.fix (.row [.str f.nm,.int .i64 x,.int .i64 y,.sl (f.se.map (AV.int .i64)) f.se.length] 4 0)]) [0,1,2,3,5,10,11] [] [] false (gyq (cj9 h91 ux uy pA rA gA pB rB gB) ?_))
   refine⟨by omega,by omega,?_⟩
   refine Z0G ?_
   refine⟨⟨k+1,ck⟩,by simp only; omega,?_⟩
   dsimp only
   rw [Z0t ((k:Int)+1) (by constructor <;> omega),←hg3]
   refine Z0q.ver 14  0 sm smv (gsq ?_)
   exact Z06.keep15A
  ·rintro⟨⟩
   refine⟨rfl,?_⟩
   show Z04 X _ _ _ _ (lyX L F Lv U S W (q+1) [Z26 b' (rdy r)])
   unfold lyX lyG
   simp only [push_cast,List.drop_succ_cons,List.drop_zero]
   refine Z04.ev 1 (Z1S ?_)
   refine Z04.nil ?_
   refine Z0G ?_
   refine⟨⟨q+1,cq⟩,by simp only; omega,?_⟩
   rw [show IntKind.i64.wrap ((i:Int)+31)=(m31 (q+1):Int) by rw [Z0t _ (by constructor <;> omega),hi]; unfold m31; omega]
   exact Z06.sameA
 ·rintro b' r ⟨⟩
  refine .inl ⟨rfl,fun X hP hΓ hL hfin=>?_⟩
  show Z02 X _ _ (lyX L F Lv U S W (lvN L.length) [.raw .gone])
  obtain⟨fS,fW,fU,fn,fr,fc⟩:=Z2O L S W U (lvN L.length) c0.1
  have hE:lyE L S W U=lyK L S W U (lvN L.length):=rfl
  have hx:∀rc,lyX L F Lv U S W (lvN L.length) rc=lyG L F Lv (lyE L S W U).U (lyE L S W U).S (lyE L S W U).W (lyE L S W U).now (lyE L S W U).root (1+lvN L.length) rc:=fun _=>rfl
  have kS:lyS L S W U=wrS (lyE L S W U).S (lyE L S W U).W 0 (padP (lyE L S W U).root):=by unfold lyS; rw [if_pos c0]
  have kW:lyW L S W U=wrW (lyE L S W U).S (lyE L S W U).W 0 (padP (lyE L S W U).root):=by unfold lyW; rw [if_pos c0]
  have kU:lyU L Lv gone S W U=tRes (tRes (lyE L S W U).U 2 1 (lyE L S W U).now) 1 0 (Lv++gone):=by unfold lyU; rw [if_pos c0]
  have c02:W.length+lvN L.length+1≤4096:=c0.2
  rw [hx]
  rw [←hE] at fS fW fU fn fr fc
  generalize lyE L S W U=K at *
  obtain⟨Se,We,Ue,now,root⟩:=K
  dsimp only at *
  unfold lyG
  refine Z0G ?_
  have pW:=Zmz Se We root (1+lvN L.length) 0
  have rW:=Zmy Se We root (1+lvN L.length) 0
  have gW:=ZmE Se We root (1+lvN L.length) 0
  unfold Z1g at pW rW gW
  rw [←kS,←kW] at gW
  have hSl:=Z9d Se We 0 (padP root)
  have pG:=Z8v Ue 0 now now.length 2 1
  have rG:=Z8p Ue 0 now now.length 2 1
  have gG:=Z8O Ue 0 now now.length 2 1
  have pH:=Z8v (tRes Ue 2 1 now) 0 (Lv++gone) (Lv.length+1) 1 0
  have rH:=Z8p (tRes Ue 2 1 now) 0 (Lv++gone) (Lv.length+1) 1 0
  have gH:=Z8O (tRes Ue 2 1 now) 0 (Lv++gone) (Lv.length+1) 1 0
  rw [←kU] at gH
  rw [Z2q,List.length_append,List.map_append] at pH rH gH
  have x0:(Z0Q.row [.ref 1 0 0,.sl (F.flatMap flC) F.length,.msl 2 Lv.length 0 Lv.length,.msl 3 0 0 Ue.length] 4 0)=Z0Q.row [.ref 1 0 0,.sl (F.flatMap flC) F.length,.msl 2 Lv.length 0 Lv.length,.msl 3 0 0 Ue.length] 4 0:=rfl
  refine Z02.dE (Z1s [.fix (.row [.ref 1 0 0,.sl (F.flatMap flC) F.length,.msl 2 Lv.length 0 Lv.length,.msl 3 0 0 Ue.length] 4 0),.any,.any,.any,.any,.any,.fix (.row [.ref 0 0 0] 1 0),.any,.any,.fix (.row [.msl 8 (1+lvN L.length) 0 root.length] 1 0)]) [0,1,2,3,4,5] [] [] true (gyq (cj4 h92 pW rW gW) ?_)
  refine⟨⟨by decide,by omega,by omega,by omega⟩,?_⟩
  refine Z0G ?_
  refine Z02.dE (Z1s [.fix (.row [.ref 1 0 0,.sl (F.flatMap flC) F.length,.msl 2 Lv.length 0 Lv.length,.msl 3 0 0 Ue.length] 4 0),.any,.any,.any,.any,.any,.fix (.row [.ref 0 0 0] 1 0),.fix (.row [.msl 12 now.length 0 now.length] 1 0)]) [0,1,2,3,4,5] [] [] true (gyq (cj4 h78 pG rG gG) ?_)
  refine⟨⟨by decide,by omega,by omega⟩,?_⟩
  refine Z0G ?_
  refine Z02.dE (Z1s [.fix (.row [.ref 1 0 0,.sl (F.flatMap flC) F.length,.msl 2 Lv.length 0 Lv.length,.msl 3 0 0 Ue.length] 4 0),.any,.any,.any,.any,.any,.fix (.row [.ref 0 0 0] 1 0)]) [4,5,6,7,8,9,10] [] [] true (gyq (cj4 h78 pH rH gH) ?_)
  refine⟨by omega,⟨by decide,by omega,by omega⟩,?_⟩
  refine Z0G ?_
  refine Z02.dE (Z1s [.row 4 0,.any,.any,.any,.any,.any,.fix (.row [.ref 0 0 0] 1 0),.fix (.row [.msl 12 now.length 0 now.length] 1 0)]) [6,9] [] [] false (Zhs ?_)
  refine Z0G ?_
  have hSl2:(lyS L S W U).length=S.length:=by rw [kS,hSl,fS]
  rw [fU,hSl2,fn,List.map_append]
  exact Z0q.base [0,1,2,3,4,5,12] ⟨sml,smr,(by decide),(by first | rfl | decide),sm,sm⟩ smd
theorem body85n(Γ:Env)(h129:Γ 129=some S129)(h19:Γ 19=some S19)(h90:Γ 90=some S90)(h91:Γ 91=some S91)(h130:Γ 130=some S130)(h33:Γ 33=some S33)(h92:Γ 92=some S92)(h78:Γ 78=some S78)
  (L F:List Fl) (Lv U:List Int) (S:List Sec) (W:List Wr) (hL0:L.length≤200) (hok:∀f∈L,Z1p f) (hLv:Lv.length≤1000) (hU:U.length≤1048576) (hS:S.length≤4096) (hW:W.length≤4096) :
  Z08 Tryz.prog Γ Tryz.f85 [.ref 0 0 0,.sl (L.flatMap flC) L.length,.lit (.slice none 0 0)] (Z0z F Lv U S W) (.int .i64 (if Z2l L W U then 0 else 174)) (lyZ L F Lv [] U S W):=by
 refine Z08.soft ?_
 have e:Z1e [AV.ref 0 0 0,.sl (L.flatMap flC) L.length,.lit (.slice none 0 0)]=[.ref 0 0 0,.sl (L.flatMap flC) L.length,.sl (([]:List Int).map (AV.int .i64)) ([]:List Int).length]:=rfl
 rw [e]
 exact body85 Γ h129 h19 h90 h91 h130 h33 h92 h78 L F Lv [] U S W hL0 hok hLv (Nat.zero_le _) hU hS hW
inductive A85 where
 | c0 (L:List Fl) (F:List Fl) (Lv:List Int) (gone:List Int) (U:List Int) (S:List Sec) (W:List Wr)
 | c1 (L:List Fl) (F:List Fl) (Lv:List Int) (U:List Int) (S:List Sec) (W:List Wr)
def e85:A85→List AV×Z01
 | .c0 L F Lv gone U S W=>([.ref 0 0 0,.sl (L.flatMap flC) L.length,.sl (gone.map (AV.int .i64)) gone.length],Z0z F Lv U S W)
 | .c1 L F Lv U S W=>([.ref 0 0 0,.sl (L.flatMap flC) L.length,.lit (.slice none 0 0)],Z0z F Lv U S W)
def p85:A85→Prop
 | .c0 L F Lv gone U S W=>(L.length≤200∧∀f∈L,Z1p f)∧Lv.length≤1000∧gone.length≤1000000∧U.length≤1048576∧S.length≤4096∧W.length≤4096
 | .c1 L F Lv U S W=>(L.length≤200∧∀f∈L,Z1p f)∧Lv.length≤1000∧U.length≤1048576∧S.length≤4096∧W.length≤4096
def r85:A85→AV
 | .c0 L F Lv gone U S W=>.int .i64 (if Z2l L W U then 0 else 174)
 | .c1 L F Lv U S W=>.int .i64 (if Z2l L W U then 0 else 174)
def g85:A85→Z01
 | .c0 L F Lv gone U S W=>lyZ L F Lv gone U S W
 | .c1 L F Lv U S W=>lyZ L F Lv [] U S W
theorem inj85:∀a b,e85 a=e85 b→a=b:=by
 intro a b h
 cases a <;> cases b <;> simp only [e85,Z0g,Z0h,Z0k,Z0j,UInt8.toNat_inj,Z09,Z0c,Z0x,Z0o,Z1g,Z19,Z1L,Z0z,Z0A,List.cons.injEq,Fn.func.injEq,reduceCtorEq,Nat.reduceEqDiff,false_and,and_false,List.cons_ne_nil] at h <;> simp_all only
noncomputable def S85:Z0n:=Z6L e85 p85 r85 g85
theorem Zdl(L F:List Fl)(Lv gone U:List Int)(S:List Sec)(W:List Wr):Z1Y e85 p85 ([.ref 0 0 0,.sl (L.flatMap flC) L.length,.sl (gone.map (AV.int .i64)) gone.length],Z0z F Lv U S W)=((L.length≤200∧∀f∈L,Z1p f)∧Lv.length≤1000∧gone.length≤1000000∧U.length≤1048576∧S.length≤4096∧W.length≤4096):=Z0J inj85 p85 (.c0 L F Lv gone U S W)
theorem Zcv(L F:List Fl)(Lv gone U:List Int)(S:List Sec)(W:List Wr):Z0U e85 r85 .any ([.ref 0 0 0,.sl (L.flatMap flC) L.length,.sl (gone.map (AV.int .i64)) gone.length],Z0z F Lv U S W)=(.int .i64 (if Z2l L W U then 0 else 174)):=Z0d inj85 r85 .any (.c0 L F Lv gone U S W)
theorem ZdZ(L F:List Fl)(Lv gone U:List Int)(S:List Sec)(W:List Wr):Z0U e85 g85 [] ([.ref 0 0 0,.sl (L.flatMap flC) L.length,.sl (gone.map (AV.int .i64)) gone.length],Z0z F Lv U S W)=(lyZ L F Lv gone U S W):=Z0d inj85 g85 [] (.c0 L F Lv gone U S W)
theorem Zdk(L F:List Fl)(Lv U:List Int)(S:List Sec)(W:List Wr):Z1Y e85 p85 ([.ref 0 0 0,.sl (L.flatMap flC) L.length,.lit (.slice none 0 0)],Z0z F Lv U S W)=((L.length≤200∧∀f∈L,Z1p f)∧Lv.length≤1000∧U.length≤1048576∧S.length≤4096∧W.length≤4096):=Z0J inj85 p85 (.c1 L F Lv U S W)
theorem Zcu(L F:List Fl)(Lv U:List Int)(S:List Sec)(W:List Wr):Z0U e85 r85 .any ([.ref 0 0 0,.sl (L.flatMap flC) L.length,.lit (.slice none 0 0)],Z0z F Lv U S W)=(.int .i64 (if Z2l L W U then 0 else 174)):=Z0d inj85 r85 .any (.c1 L F Lv U S W)
theorem ZdY(L F:List Fl)(Lv U:List Int)(S:List Sec)(W:List Wr):Z0U e85 g85 [] ([.ref 0 0 0,.sl (L.flatMap flC) L.length,.lit (.slice none 0 0)],Z0z F Lv U S W)=(lyZ L F Lv [] U S W):=Z0d inj85 g85 [] (.c1 L F Lv U S W)
attribute [push_cast] S85 Zdl Zcv ZdZ Zdk Zcu ZdY
theorem con85{Γ:Env}(h:Z07 Tryz.prog Γ)(h129:Γ 129=some S129)(h19:Γ 19=some S19)(h90:Γ 90=some S90)(h91:Γ 91=some S91)(h130:Γ 130=some S130)(h33:Γ 33=some S33)(h92:Γ 92=some S92)(h78:Γ 78=some S78):Con Tryz.prog 85 S85:=
 Z2f h (fn:=Tryz.f85) (by kernel_rfl) rfl (by kernel_rfl) inj85 fun a h=>match a,h with | .c0 L F Lv gone U S W,h=>body85 Γ h129 h19 h90 h91 h130 h33 h92 h78 L F Lv gone U S W h.1.1 h.1.2 h.2.1 h.2.2.1 h.2.2.2.1 h.2.2.2.2.1 h.2.2.2.2.2 | .c1 L F Lv U S W,h=>body85n Γ h129 h19 h90 h91 h130 h33 h92 h78 L F Lv U S W h.1.1 h.1.2 h.2.1 h.2.2.1 h.2.2.2.1 h.2.2.2.2
end Go.Proofs.YtbnnhffkbcekcaaGreatDoor.dirDone
end
