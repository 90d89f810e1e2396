/- Parts of the walk through directories. Conditions stand in each. -/
import Derived.Test.YtbnnhffkbcekcaaGreatDoorFt
import Derived.Test.YtbnnhffkbcekcaaGreatDoorFg
import Derived.Test.YtbnnhffkbcekcaaGreatDoorFe
import Derived.Test.YtbnnhffkbcekcaaGreatDoorFf
import Derived.Test.YtbnnhffkbcekcaaGreatDoorFv
import Derived.Test.YtbnnhffkbcekcaaGreatDoorFu
import Derived.IntWalk
set_option linter.unusedVariables false
set_option linter.unusedSimpArgs false
set_option maxRecDepth 100000
set_option maxHeartbeats 4000000
section
namespace Go.Proofs.YtbnnhffkbcekcaaGreatDoor.dirDone
open Go Go.Eng Go.Proofs
theorem ZmN(n:Int):IntKind.u32.wrap n=n % 4294967296:=by simp [IntKind.wrap,IntKind.bits,IntKind.signed]
theorem Z5G(n:Int)(h:0≤n∧n<4294967296):IntKind.u32.wrap n=n:=by rw [ZmN]; omega
theorem Zoc(x y:Nat)(hx:x<2 ^ 32)(hy:y<2 ^ 32):Z7V .or .u32 ↑x ↑y=((x ||| y:Nat):Int):=by
 show IntKind.u32.wrap (((BitVec.ofInt 32 (x:Int) ||| BitVec.ofInt 32 (y:Int)).toNat:Nat):Int)=_
 rw [BitVec.toNat_or,BitVec.ofInt_natCast,BitVec.ofInt_natCast,BitVec.toNat_ofNat,BitVec.toNat_ofNat,Nat.mod_eq_of_lt hx,Nat.mod_eq_of_lt hy]
 have:=Nat.or_lt_two_pow hx hy
 rw [ZmN]; omega
def leV:List UInt8→Nat
 | []=>0
 | b::r=>b.toNat+256*leV r
theorem ZaQ:∀l:List UInt8,leV l<256 ^ l.length
 | []=>by simp [leV]
 | b::r=>by
  have h1:=ZaQ r
  have h2:=b.toNat_lt
  rw [leV,List.length_cons,Nat.pow_succ]; omega
theorem ZaP(b:UInt8):∀l:List UInt8,leV (l++[b])=leV l+b.toNat*256 ^ l.length
 | []=>by simp [leV]
 | c::r=>by
  rw [List.cons_append,leV,leV,ZaP b r,List.length_cons,Nat.pow_succ,Nat.mul_add,Nat.mul_comm 256 (b.toNat*_),Nat.mul_assoc]; omega
theorem ZnX(l:List UInt8)(b:UInt8)(h:l.length<4):Z7V .or .u32 (leV l:Int) ((b.toNat:Int)*((2 ^ (8*l.length):Nat):Int))=(leV (l++[b]):Int):=by
 have h1:=ZaQ l
 have h2:=b.toNat_lt
 have e:(256:Nat) ^ l.length=2 ^ (8*l.length):=by rw [Nat.pow_mul]
 have hle:2 ^ (8*l.length)≤2 ^ 24:=Nat.pow_le_pow_right (by omega) (by omega)
 have hmul:b.toNat*2 ^ (8*l.length)≤255*2 ^ 24:=Nat.mul_le_mul (by omega) hle
 rw [←Int.natCast_mul,Zoc _ _ (by omega) (by omega),ZaP,e,Nat.or_comm,Nat.mul_comm b.toNat,←Nat.two_pow_add_eq_or_of_lt (by omega),Nat.add_comm]
theorem ZmP(b:UInt8)(k:Nat)(h:k<4):IntKind.u32.wrap ((b.toNat:Int)*2 ^ (min (8*(k:Int)).toNat IntKind.u32.bits))=(b.toNat:Int)*((2 ^ (8*k):Nat):Int):=by
 have h2:=b.toNat_lt
 rcases (by omega:k=0∨k=1∨k=2∨k=3) with rfl | rfl | rfl | rfl
 all_goals
  simp [IntKind.bits]
  rw [ZmN]; omega
def ZjU:(List UInt8)→List AV:=fun l=>[.sl (l.map Z05) l.length]
def ZnU:(List UInt8)→Prop:=fun l=>l.length≤4
def Znl:(List UInt8)→AV:=fun l=>.int .u32 (leV l)
def ZoI:(List UInt8)→Z01:=fun l=>[]
theorem inj116:∀a b,ZjU a=ZjU b→a=b:=by
 rintro l l' h
 simp only [ZjU,Z0g,Z0h,Z0k,Z0j,UInt8.toNat_inj,Z0A,List.cons.injEq] at h
 simp_all only
noncomputable def S116:Z0n:=Z5S ZjU ZnU Znl ZoI true
theorem ZnA(l:List UInt8):Z5P ZjU ZnU [.sl (l.map Z05) l.length]=(l.length≤4):=Z13 inj116 ZnU l
theorem Zn2(l:List UInt8):Z2s ZjU Znl .any [.sl (l.map Z05) l.length]=(.int .u32 (leV l)):=Z0u inj116 Znl .any l
theorem Zoo(l:List UInt8):Z2s ZjU ZoI [] [.sl (l.map Z05) l.length]=([]):=Z0u inj116 ZoI [] l
attribute [push_cast] S116 ZnA Zn2 Zoo
theorem body116(Γ:Env)(l:List UInt8)(hl:l.length≤4):Z08 Tryz.prog Γ Tryz.f116 [.sl (l.map Z05) l.length] [] (.int .u32 (leV l)) []:=by
 have e0:((leV []:Nat):Int)=0:=rfl
 refine stt 22 [.tmp 2] fun X hP hΓ hL hfin=>?_; refine Z0G ?_
 refine Z02.loopM (ι:={k:Nat // k≤l.length}) [tt,ff,tt,ff,ff,ff,tt,ff,ff,ff,ff,ff,ff,ff,ff,ff,ff,ff,ff,ff,ff,ff] (fun i=>[(7,.int .i64 i.1),(3,.int .u32 (leV (l.take i.1)))]) (fun i=>[]) (fun i=>l.length - i.1) ⟨0,Nat.zero_le _⟩ ?_ ?_
 ·(rw [hL]; simp only [push_cast,Int.natCast_zero,e0]; exact Z06.sameA)
 rintro⟨k,hk⟩
 refine Z0G ?_
 ((with_reducible refine Z0v (fun h=>?_) fun h=>?_) <;> try simp only [fkl,beq_iff_eq,beq_eq_false_iff_ne,ne_eq] at h)
 ·have hk':k<l.length:=by omega
  have w8:IntKind.i64.wrap (8*(k:Int))=8*(k:Int):=wrq
  have hb:=(l.getD k 0).toNat_lt
  have wb:IntKind.u32.wrap ((l.getD k 0).toNat:Int)=((l.getD k 0).toNat:Int):=Z5G _ (by omega)
  have hs:=ZmP (l.getD k 0) k (by omega)
  have ht:(l.take k).length=k:=by rw [List.length_take]; omega
  have ho:=ZnX (l.take k) (l.getD k 0) (by omega)
  rw [ht] at ho
  have e1:l.take k++[l.getD k 0]=l.take (k+1):=by rw [List.take_succ_eq_append_getElem hk']; simp [List.getD,hk']
  rw [e1] at ho
  generalize hB:((2 ^ (8*k):Nat):Int)=B at *
  generalize hV:leV (l.take k)=V at *
  generalize hV2:leV (l.take (k+1))=V2 at *
  refine gxq (cj4 w8 wb hs ho) ?_
  refine⟨by omega,by omega,by omega,⟨k+1,hk'⟩,by simp only; omega,?_⟩
  dsimp only
  rw [Z0t ((k:Int)+1) (by constructor <;> omega),hV2]
  exact Z06.sameA
 ·obtain rfl:k=l.length:=by omega
  rw [List.take_length]
  refine Z0G ?_
  exact Z06.one rfl rfl
theorem con116{Γ:Env}(h:Z07 Tryz.prog Γ):Con Tryz.prog 116 S116:=
 Z0V h (fn:=Tryz.f116) (by kernel_rfl) rfl (by kernel_rfl) inj116 (by first | (intro h; cases h; done) | exact fun _ _=>rfl) fun l h=>body116 Γ l h
def getW(l:List UInt8)(i:Nat):Nat:=leV ((l.take (i+4)).drop i)
theorem Z20(l:List UInt8)(i:Nat):getW l i<4294967296:=by
 have h:=ZaQ ((l.take (i+4)).drop i)
 have hl:((l.take (i+4)).drop i).length≤4:=by rw [List.length_drop,List.length_take]; omega
 have:=Nat.pow_le_pow_right (show 0<256 by decide) hl
 have e:(256:Nat) ^ 4=4294967296:=by decide
 unfold getW; omega
def e64:List UInt8×Int→List AV:=fun (l,i)=>[.sl (l.map Z05) l.length,.int .i64 i]
def p64:List UInt8×Int→Prop:=fun (l,i)=>0≤i∧i+4≤(l.length:Int)∧l.length≤4194304
def r64:List UInt8×Int→AV:=fun (l,i)=>.tup [.int .u32 (getW l i.toNat),.bool true]
def g64:List UInt8×Int→Z01:=fun (l,i)=>[]
theorem inj64:∀a b,e64 a=e64 b→a=b:=by
 rintro⟨l,i⟩ ⟨l',i'⟩ h
 simp only [e64,Z0g,Z0h,Z0k,Z0j,UInt8.toNat_inj,Z0A,List.cons.injEq] at h
 simp_all only
noncomputable def S64:Z0n:=Z5S e64 p64 r64 g64 true
theorem ps64(l:List UInt8)(i:Int):Z5P e64 p64 [.sl (l.map Z05) l.length,.int .i64 i]=(0≤i∧i+4≤(l.length:Int)∧l.length≤4194304):=Z13 inj64 p64 (l,i)
theorem rs64(l:List UInt8)(i:Int):Z2s e64 r64 .any [.sl (l.map Z05) l.length,.int .i64 i]=(.tup [.int .u32 (getW l i.toNat),.bool true]):=Z0u inj64 r64 .any (l,i)
theorem hs64(l:List UInt8)(i:Int):Z2s e64 g64 [] [.sl (l.map Z05) l.length,.int .i64 i]=([]):=Z0u inj64 g64 [] (l,i)
attribute [push_cast] S64 ps64 rs64 hs64
theorem body64(Γ:Env)(h116:Γ 116=some S116)(l:List UInt8)(i:Nat)(h:i+4≤l.length)(hl:l.length≤4194304):Z08 Tryz.prog Γ Tryz.f64 [.sl (l.map Z05) l.length,.int .i64 i] [] (.tup [.int .u32 (getW l i),.bool true]) []:=by
 have d1:decide ((i:Int)<0)=false:=decide_eq_false (by omega)
 have w1:IntKind.i64.wrap ((l.length:Int) - 4)=(l.length:Int) - 4:=wrq
 have w2:IntKind.i64.wrap ((i:Int)+4)=((i+4:Nat):Int):=by rw [Z0t _ (by constructor <;> omega)]; omega
 have d2:decide ((l.length:Int) - 4<(i:Int))=false:=decide_eq_false (by omega)
 have hlen:((l.take (i+4)).drop i).length=4:=by rw [List.length_drop,List.length_take]; omega
 have h4:((l.take (i+4)).drop i).length≤4:=by omega
 unfold getW
 have e1:List.drop i (List.take (i+4) (l.map Z05))=((l.take (i+4)).drop i).map Z05:=by rw [List.map_drop,List.map_take]
 have e2:i+4 - i=((l.take (i+4)).drop i).length:=by omega
 generalize hs:(l.take (i+4)).drop i=s at *
 generalize hj:i+4=j at *
 refine stt 21 [.tmp 4,.tmp 5] fun X hP hΓ hL hfin=>?_; refine gxq (cj8 d1 d2 w1 w2 e1 e2 h116 h4) ?_
 exact⟨⟨by omega,by omega,by omega⟩,Z06.one rfl rfl⟩
theorem con64{Γ:Env}(h:Z07 Tryz.prog Γ)(h116:Γ 116=some S116):Con Tryz.prog 64 S64:=
 Z0V h (fn:=Tryz.f64) (by kernel_rfl) rfl (by kernel_rfl) inj64 (by first | (intro h; cases h; done) | exact fun _ _=>rfl) fun ⟨l,i⟩ h=>by
  obtain⟨n,rfl⟩:=Int.eq_ofNat_of_zero_le h.1
  exact body64 Γ h116 l n (by have:=h.2.1; omega) h.2.2
def ZjV:List UInt8×Int→List AV:=fun (l,i)=>[.sl (l.map Z05) l.length,.int .i64 i]
def ZnV:List UInt8×Int→Prop:=fun (l,i)=>0≤i∧4*i+4≤(l.length:Int)∧l.length≤4194304
def Znm:List UInt8×Int→AV:=fun (l,i)=>.int .u32 (getW l (4*i).toNat)
def ZoJ:List UInt8×Int→Z01:=fun (l,i)=>[]
theorem inj113:∀a b,ZjV a=ZjV b→a=b:=by
 rintro⟨l,i⟩ ⟨l',i'⟩ h
 simp only [ZjV,Z0g,Z0h,Z0k,Z0j,UInt8.toNat_inj,Z0A,List.cons.injEq] at h
 simp_all only
noncomputable def S113:Z0n:=Z5S ZjV ZnV Znm ZoJ true
theorem ZnB(l:List UInt8)(i:Int):Z5P ZjV ZnV [.sl (l.map Z05) l.length,.int .i64 i]=(0≤i∧4*i+4≤(l.length:Int)∧l.length≤4194304):=Z13 inj113 ZnV (l,i)
theorem ZkC(l:List UInt8)(i:Int):Z2s ZjV Znm .any [.sl (l.map Z05) l.length,.int .i64 i]=(.int .u32 (getW l (4*i).toNat)):=Z0u inj113 Znm .any (l,i)
theorem Zop(l:List UInt8)(i:Int):Z2s ZjV ZoJ [] [.sl (l.map Z05) l.length,.int .i64 i]=([]):=Z0u inj113 ZoJ [] (l,i)
attribute [push_cast] S113 ZnB ZkC Zop
theorem body113(Γ:Env)(h64:Γ 64=some S64)(l:List UInt8)(i:Int)(h0:0≤i)(h:4*i+4≤(l.length:Int))(hl:l.length≤4194304):Z08 Tryz.prog Γ Tryz.f113 [.sl (l.map Z05) l.length,.int .i64 i] [] (.int .u32 (getW l (4*i).toNat)) []:=by
 have w1:IntKind.i64.wrap (4*i)=4*i:=wrq
 have p1:(0:Int)≤4*i:=by omega
 refine stt 15 [.tmp 4] fun X hP hΓ hL hfin=>?_; refine gxq (cj5 w1 h64 p1 h hl) ?_
 exact Z06.one rfl rfl
theorem con113{Γ:Env}(h:Z07 Tryz.prog Γ)(h64:Γ 64=some S64):Con Tryz.prog 113 S113:=
 Z0V h (fn:=Tryz.f113) (by kernel_rfl) rfl (by kernel_rfl) inj113 (by first | (intro h; cases h; done) | exact fun _ _=>rfl) fun ⟨l,i⟩ h=>body113 Γ h64 l i h.1 h.2.1 h.2.2
abbrev Sec:Type:={ l:List UInt8 // l.length=1024 }
def Z1T(s:Sec):List AV:=s.1.map Z05
instance:Z1U Z1T:=⟨fun s=>by simp only [Z1T,Z1a],fun s=>by simp only [Z1T]; exact Z4y _⟩
instance:Z22 Z1T 1024:=⟨fun s=>by rw [Z1T,List.length_map,s.2]⟩
instance:Inhabited Sec:=⟨⟨List.replicate 1024 0,List.length_replicate⟩⟩
abbrev Wr:Type:=Int×Sec
def wrC(w:Wr):List AV:=.int .i64 w.1::w.2.1.map Z05
instance:Z1U wrC:=⟨fun w=>by simp only [wrC,Z1G,Z0s,Z1a,Bool.and_self],fun w=>by simp only [wrC,Z0b]; exact Z4y _⟩
instance:Z22 wrC 1025:=⟨fun w=>by rw [wrC,List.length_cons,List.length_map,w.2.2]⟩
instance:Inhabited Wr:=⟨(0,default)⟩
theorem Zcq(a b:Sec)(h:Z1T a=Z1T b):a=b:=Subtype.ext (Z0j.1 h)
theorem Zkp(a b:Wr)(h:wrC a=wrC b):a=b:=by
 obtain⟨n,s⟩:=a
 obtain⟨k,t⟩:=b
 simp only [wrC,List.cons.injEq,AV.int.injEq,true_and] at h
 rw [h.1,Zcq s t h.2]
theorem Z09{S T:List Sec}:S.flatMap Z1T=T.flatMap Z1T↔S=T:=⟨ZaT (n:=1024) Zcq (fun s=>Z22.len s) (by decide),fun h=>by rw [h]⟩
theorem Z0c{S T:List Wr}:S.flatMap wrC=T.flatMap wrC↔S=T:=⟨ZaT (n:=1025) Zkp (fun s=>Z22.len s) (by decide),fun h=>by rw [h]⟩
def Z0o(S:List Sec)(W:List Wr):Z01:=[.row [.msl 1 0 0 S.length,.msl 2 W.length 0 W.length] 2 0,.row (S.flatMap Z1T) 1024 0,.row (W.flatMap wrC) 1025 W.length]
def k31:List Sec×List Wr→Ct:=fun (S,W)=>⟨([.ref 0 0 0],Z0o S W),True,.int .i64 S.length,Z0o S W⟩
theorem inj31:∀a b,(k31 a).a=(k31 b).a→a=b:=by
 rintro⟨S,W⟩ ⟨S',W'⟩ h
 simp only [k31,Z0g,Z0h,Z0k,Z0j,UInt8.toNat_inj,Z09,Z0c,Z0o,Z0A,List.cons.injEq] at h
 simp_all only
noncomputable def S31:Z0n:=Z0W true k31
theorem ks31(S:List Sec)(W:List Wr):KS k31 ([.ref 0 0 0],Z0o S W) (True) (.int .i64 S.length) (Z0o S W):=kat inj31 (S,W)
attribute [push_cast] S31 ks31
theorem body31(Γ:Env)(S:List Sec)(W:List Wr):Z08 Tryz.prog Γ Tryz.f31 [.ref 0 0 0] (Z0o S W) (.int .i64 S.length) (Z0o S W):=by
 unfold Z0o
 refine stt 10 [.tmp 2] fun X hP hΓ hL hfin=>?_; refine Z0G ?_
 exact Z06.sameA
theorem con31{Γ:Env}(h:Z07 Tryz.prog Γ):Con Tryz.prog 31 S31:=
 kcn h (fn:=Tryz.f31) inj31 fun ⟨S,W⟩ _=>body31 Γ S W
def k115:List Sec×List Wr×Int→Ct:=fun (S,W,n)=>⟨([.ref 0 0 0,.int .i64 n],Z0o S W),True,.int .i64 (if 0≤n∧n<S.length then 0 else 31),Z0o S W⟩
theorem inj115:∀a b,(k115 a).a=(k115 b).a→a=b:=by
 rintro⟨S,W,n⟩ ⟨S',W',n'⟩ h
 simp only [k115,Z0g,Z0h,Z0k,Z0j,UInt8.toNat_inj,Z09,Z0c,Z0o,Z0A,List.cons.injEq] at h
 simp_all only
noncomputable def S115:Z0n:=Z0W true k115
theorem ks115(S:List Sec)(W:List Wr)(n:Int):KS k115 ([.ref 0 0 0,.int .i64 n],Z0o S W) (True) (.int .i64 (if 0≤n∧n<S.length then 0 else 31)) (Z0o S W):=kat inj115 (S,W,n)
attribute [push_cast] S115 ks115
theorem body115(Γ:Env)(S:List Sec)(W:List Wr)(n:Int):Z08 Tryz.prog Γ Tryz.f115 [.ref 0 0 0,.int .i64 n] (Z0o S W) (.int .i64 (if 0≤n∧n<S.length then 0 else 31)) (Z0o S W):=by
 unfold Z0o
 by_cases h:0≤n∧n<S.length
 ·have d1:(decide (n<0) || decide ((S.length:Int)≤n))=false:=by
   rw [Bool.eq_false_iff]; intro h'; simp only [Bool.or_eq_true,decide_eq_true_eq] at h'; omega
  rw [if_pos h]
  refine stt 20 [.tmp 4] fun X hP hΓ hL hfin=>?_; refine gxq d1 ?_
  exact Z06.sameA
 ·have d1:(decide (n<0) || decide ((S.length:Int)≤n))=true:=by
   simp only [Bool.or_eq_true,decide_eq_true_eq]; omega
  rw [if_neg h]
  refine stt 20 [.tmp 4] fun X hP hΓ hL hfin=>?_; refine gxq d1 ?_
  exact Z06.sameA
theorem con115{Γ:Env}(h:Z07 Tryz.prog Γ):Con Tryz.prog 115 S115:=
 kcn h (fn:=Tryz.f115) inj115 fun ⟨S,W,n⟩ _=>body115 Γ S W n
theorem za121:zeroA Tryz.prog 121=.agg (Z1T default):=by kernel_rfl
theorem ZlC:Z1b Tryz.prog 121:=by unfold Z1b; kernel_rfl
def rdA(S:List Sec)(n:Int):AV:=if 0≤n∧n<S.length then .tup [.sl ((S.getD n.toNat default).1.map Z05) (S.getD n.toNat default).1.length,.int .i64 0] else .tup [.sl [] 0,.int .i64 31]
def k62:List Sec×List Wr×Int→Ct:=fun (S,W,n)=>⟨([.ref 0 0 0,.int .i64 n],Z0o S W),True,rdA S n,Z0o S W⟩
theorem inj62:∀a b,(k62 a).a=(k62 b).a→a=b:=by
 rintro⟨S,W,n⟩ ⟨S',W',n'⟩ h
 simp only [k62,Z0g,Z0h,Z0k,Z0j,UInt8.toNat_inj,Z09,Z0c,Z0o,Z0A,List.cons.injEq] at h
 simp_all only
noncomputable def S62:Z0n:=Z0W true k62
theorem ks62(S:List Sec)(W:List Wr)(n:Int):KS k62 ([.ref 0 0 0,.int .i64 n],Z0o S W) (True) (rdA S n) (Z0o S W):=kat inj62 (S,W,n)
attribute [push_cast] S62 ks62
theorem body62(Γ:Env)(h115:Γ 115=some S115)(S:List Sec)(W:List Wr)(n:Int):Z08 Tryz.prog Γ Tryz.f62 [.ref 0 0 0,.int .i64 n] (Z0o S W) (rdA S n) (Z0o S W):=by
 have ⟨ps,rs,hs⟩:=ks115 S W n
 unfold rdA
 unfold Z0o at *
 by_cases h:0≤n∧n<S.length
 ·obtain⟨k,rfl⟩:=Int.eq_ofNat_of_zero_le h.1
  have hk:k<S.length:=by omega
  rw [if_pos h] at rs ⊢
  refine stt 22 [.tmp 4,.tmp 5] fun X hP hΓ hL hfin=>?_; refine gmq 12 (cj7 h115 ps rs hs @za121 @ZlC hk) ?_
  have hm:(k+1)*1024≤S.length*1024:=Nat.mul_le_mul_right _ hk
  refine⟨by decide,by omega,⟨by omega,by omega⟩,?_⟩
  refine Z02.frz 3 (by rw [hL]; simp) smf (gsq ?_)
  refine Z0G ?_
  have e:AV.sl (Z1T (S.getD k default)) 1024=AV.sl ((S.getD k default).1.map Z05) (S.getD k default).1.length:=by rw [(S.getD k default).2]; rfl
  rw [e]
  exact Z06.keep3A
 ·rw [if_neg h] at rs ⊢
  refine stt 22 [.tmp 4,.tmp 5] fun X hP hΓ hL hfin=>?_; refine gxq (cj4 h115 ps rs hs) ?_
  refine⟨by decide,?_⟩
  refine Z0q.soft ?_
  simp only [push_cast]
  exact Z06.sameA
theorem con62{Γ:Env}(h:Z07 Tryz.prog Γ)(h115:Γ 115=some S115):Con Tryz.prog 62 S62:=
 kcn h (fn:=Tryz.f62) inj62 fun ⟨S,W,n⟩ _=>body62 Γ h115 S W n
theorem za123:zeroA Tryz.prog 123=.agg (wrC default):=by kernel_rfl
theorem Zjq:Z1b Tryz.prog 123:=by unfold Z1b; kernel_rfl
theorem wr0(w:Wr)(d:AV):(wrC w).getD 0 d=.int .i64 w.1:=rfl
def wns(W:List Wr):List Int:=W.map Prod.fst
def k23:List Sec×List Wr→Ct:=fun (S,W)=>⟨([.ref 0 0 0],Z0o S W),W.length≤4194304,.sl ((wns W).map (AV.int .i64)) (wns W).length,Z0o S W⟩
theorem inj23:∀a b,(k23 a).a=(k23 b).a→a=b:=by
 rintro⟨S,W⟩ ⟨S',W'⟩ h
 simp only [k23,Z0g,Z0h,Z0k,Z0j,UInt8.toNat_inj,Z09,Z0c,Z0o,Z0A,List.cons.injEq] at h
 simp_all only
noncomputable def S23:Z0n:=Z0W true k23
theorem ks23(S:List Sec)(W:List Wr):KS k23 ([.ref 0 0 0],Z0o S W) (W.length≤4194304) (.sl ((wns W).map (AV.int .i64)) (wns W).length) (Z0o S W):=kat inj23 (S,W)
attribute [push_cast] S23 ks23
theorem body23(Γ:Env)(S:List Sec)(W:List Wr)(hW:W.length≤4194304):Z08 Tryz.prog Γ Tryz.f23 [.ref 0 0 0] (Z0o S W) (.sl ((wns W).map (AV.int .i64)) (wns W).length) (Z0o S W):=by
 unfold Z0o
 refine stt 24 [.tmp 2] fun X hP hΓ hL hfin=>?_; refine Z0G ?_
 refine Z02.loopM (ι:={k:Nat // k≤W.length}) [ff,ff,tt,ff,ff,ff,ff,ff,ff,ff,ff,tt,tt,ff,ff,ff,ff,ff,ff,ff,ff,ff,ff,ff] (fun i=>[(13,.int .i64 i.1),(3,.msl 3 0 0 i.1)]) (fun i=>[.row [.msl 1 0 0 S.length,.msl 2 W.length 0 W.length] 2 0,.row (S.flatMap Z1T) 1024 0,.row (W.flatMap wrC) 1025 W.length,.row ((wns (W.take i.1)).map (AV.int .i64)) 1 0]) (fun i=>W.length - i.1) ⟨0,Nat.zero_le _⟩ ?_ ?_
 ·rw [hL]; simp only [push_cast,Int.natCast_zero,wns]
  refine Z0q.nil 3  1 rfl (gsq ?_)
  exact Z06.sameA
 rintro⟨k,hk⟩
 refine Z0G ?_
 ((with_reducible refine Z0v (fun h=>?_) fun h=>?_) <;> try simp only [fkl,beq_iff_eq,beq_eq_false_iff_ne,ne_eq] at h)
 ·have hk':k<W.length:=by omega
  have e1:wns (W.take (k+1))=wns (W.take k)++[(W.getD k default).1]:=by
   unfold wns
   rw [List.take_succ_eq_append_getElem hk',List.map_append]
   simp [List.getD,hk']
  have hm:(k+1)*1025≤W.length*1025:=Nat.mul_le_mul_right _ hk'
  have hl1:(wns (W.take k)).length=k:=by unfold wns; rw [List.length_map,List.length_take]; omega
  refine gxq (cj4 hk' @za123 @Zjq @wr0) ?_
  refine⟨by omega,⟨by omega,by omega⟩,⟨hl1,by omega⟩,⟨k+1,hk'⟩,by simp only; omega,?_⟩
  dsimp only
  rw [Z0t ((k:Int)+1) (by constructor <;> omega),e1,List.map_append]
  refine Z0q.ver 3  0 sm smv (gsq ?_)
  exact Z06.keep4A
 ·obtain rfl:k=W.length:=by omega
  rw [List.take_length]
  have hl1:(wns W).length=W.length:=by unfold wns; rw [List.length_map]
  refine Z0G ?_
  refine Z0q.frz 3 smo smf (gsq ?_)
  rw [←hl1,Zag]
  exact Z06.keep3A
theorem con23{Γ:Env}(h:Z07 Tryz.prog Γ):Con Tryz.prog 23 S23:=
 kcn h (fn:=Tryz.f23) inj23 fun ⟨S,W⟩ h=>body23 Γ S W h
theorem ZhL(w:Wr):(wrC w).length=1025:=Z22.len w
theorem ZiD(w:Wr):List.drop 1024 (List.drop 1 (wrC w))=[]:=by rw [List.drop_drop,List.drop_eq_nil_of_le]; rw [ZhL]; decide
theorem ZmK(n:Int)(s:Sec):AV.int .i64 n::Z1T s=wrC (n,s):=rfl
theorem ZjA{α:Type}{g:α→List AV}(l:List α)(x:α):(l++[x]).flatMap g=l.flatMap g++g x:=by simp
theorem Z3f{α:Type}{g:α→List AV}{n:Nat}[Z22 g n](l:List α)(k:Nat)(x:α)(hk:k<l.length):(l.flatMap g).take (k*n)++g x++(l.flatMap g).drop (k*n+n)=(l.set k x).flatMap g:=by
 have e:l.set k x=l.take k++x::l.drop (k+1):=by rw [List.set_eq_take_append_cons_drop,if_pos hk]
 rw [Z1W,show k*n+n=(k+1)*n by rw [Nat.succ_mul],Z1d,e]
 simp only [List.flatMap_append,List.flatMap_cons,List.append_assoc]
def Z2p(b:List UInt8):Sec:=if h:b.length=1024 then ⟨b,h⟩ else default
theorem Z4L{b:List UInt8}(h:b.length=1024):(Z2p b).1=b:=by rw [Z2p,dif_pos h]
def wrE(S:List Sec)(W:List Wr)(n:Int)(b:List UInt8):Int:=if ¬(0≤n∧n<S.length) then 31 else if b.length≠1024 then 32 else if W.length=4096 then 33 else 0
def wrS(S:List Sec)(W:List Wr)(n:Int)(b:List UInt8):List Sec:=if wrE S W n b=0 then S.set n.toNat (Z2p b) else S
def wrW(S:List Sec)(W:List Wr)(n:Int)(b:List UInt8):List Wr:=if wrE S W n b=0 then W++[(n,S.getD n.toNat default)] else W
def k61:List Sec×List Wr×Int×List UInt8→Ct:=fun (S,W,n,b)=>⟨([.ref 0 0 0,.int .i64 n,.sl (b.map Z05) b.length],Z0o S W),W.length≤4096∧S.length≤4096,.int .i64 (wrE S W n b),Z0o (wrS S W n b) (wrW S W n b)⟩
theorem inj61:∀a b,(k61 a).a=(k61 b).a→a=b:=by
 rintro⟨S,W,n,b⟩ ⟨S',W',n',b'⟩ h
 simp only [k61,Z0g,Z0h,Z0k,Z0j,UInt8.toNat_inj,Z09,Z0c,Z0o,Z0A,List.cons.injEq] at h
 simp_all only
noncomputable def S61:Z0n:=Z0W true k61
theorem ks61(S:List Sec)(W:List Wr)(n:Int)(b:List UInt8):KS k61 ([.ref 0 0 0,.int .i64 n,.sl (b.map Z05) b.length],Z0o S W) (W.length≤4096∧S.length≤4096) (.int .i64 (wrE S W n b)) (Z0o (wrS S W n b) (wrW S W n b)):=kat inj61 (S,W,n,b)
attribute [push_cast] S61 ks61
theorem body61(Γ:Env)(h115:Γ 115=some S115)(S:List Sec)(W:List Wr)(n:Int)(b:List UInt8)(hW:W.length≤4096)(hS:S.length≤4096):Z08 Tryz.prog Γ Tryz.f61 [.ref 0 0 0,.int .i64 n,.sl (b.map Z05) b.length] (Z0o S W) (.int .i64 (wrE S W n b)) (Z0o (wrS S W n b) (wrW S W n b)):=by
 have ⟨ps,rs,hs⟩:=ks115 S W n
 unfold wrS wrW
 by_cases h:0≤n∧n<S.length
 case neg=>
  have e:wrE S W n b=31:=by unfold wrE; rw [if_pos h]
  rw [e,if_neg (by decide),if_neg (by decide)]
  unfold Z0o at *
  rw [if_neg h] at rs
  refine stt 56 [.tmp 6] fun X hP hΓ hL hfin=>?_; refine gxq (cj4 h115 ps rs hs) ?_
  refine⟨by decide,?_⟩
  exact Z06.sameA
 by_cases hb:b.length=1024
 case neg=>
  have e:wrE S W n b=32:=by unfold wrE; rw [if_neg (fun h'=>h' h),if_pos hb]
  rw [e,if_neg (by decide),if_neg (by decide)]
  unfold Z0o at *
  rw [if_pos h] at rs
  have db:decide ((b.length:Int)=1024)=false:=decide_eq_false (by omega)
  refine stt 56 [.tmp 6] fun X hP hΓ hL hfin=>?_; refine gxq (cj5 h115 ps rs hs db) ?_
  refine⟨by decide,?_⟩
  exact Z06.sameA
 by_cases hw:W.length=4096
 ·have e:wrE S W n b=33:=by unfold wrE; rw [if_neg (fun h'=>h' h),if_neg (fun h'=>h' hb),if_pos hw]
  rw [e,if_neg (by decide),if_neg (by decide)]
  unfold Z0o at *
  rw [if_pos h] at rs
  have db:decide ((b.length:Int)=1024)=true:=decide_eq_true (by omega)
  have dw:decide ((W.length:Int)=4096)=true:=decide_eq_true (by omega)
  refine stt 56 [.tmp 6] fun X hP hΓ hL hfin=>?_; refine gxq (cj6 h115 ps rs hs db dw) ?_
  refine⟨by decide,?_⟩
  exact Z06.sameA
 have e:wrE S W n b=0:=by unfold wrE; rw [if_neg (fun h'=>h' h),if_neg (fun h'=>h' hb),if_neg hw]
 rw [e,if_pos rfl,if_pos rfl]
 unfold Z0o at *
 rw [if_pos h] at rs
 obtain⟨k,rfl⟩:=Int.eq_ofNat_of_zero_le h.1
 have hk:k<S.length:=by omega
 have db:decide ((b.length:Int)=1024)=true:=decide_eq_true (by omega)
 have dw:decide ((W.length:Int)=4096)=false:=decide_eq_false (by omega)
 refine stt 56 [.tmp 6] fun X hP hΓ hL hfin=>?_; refine gxq (cj7 h115 ps rs hs db dw hk) ?_
 refine⟨by decide,?_⟩
 refine Z02.dE (Z1s [.fix (.row [.msl 1 0 0 S.length,.msl 2 W.length 0 W.length] 2 0),.fix (.row (S.flatMap Z1T) 1024 0)]) [1,2,3,4,5,6,7,8,9,10,11,12,15,18] [] [] true (gyq (cj6 hk @za123 @Zjq @ZhL @ZiD @ZmK) ?_)
 have hm:(k+1)*1024≤S.length*1024:=Nat.mul_le_mul_right _ hk
 refine⟨by omega,⟨by omega,by omega⟩,by omega,?_⟩
 refine Z0G ?_
 refine Z02.dE (Z1s [.fix (.row [.msl 1 0 0 S.length,.msl 2 (W.length+1) 0 (W.length+1)] 2 0),.row 1024 0]) [0,1,2,3,4,5,7,8,9] [] [] true (gyq hk ?_)
 have ho:Z0b (List.take 1024 (List.map Z05 b))=true:=by rw [←List.map_take]; exact Z4y _
 refine⟨⟨by omega,by omega⟩,by omega,by omega,⟨by omega,by omega,by omega,ho⟩,?_⟩
 refine Z0G ?_
 have e3:min 1024 b.length=1024:=by omega
 have e4:List.take 1024 (List.map Z05 b)=Z1T (Z2p b):=by
  rw [List.take_of_length_le (by rw [List.length_map]; omega),Z1T,Z4L hb]
 rw [e3,e4,Z3f S k (Z2p b) hk,←ZjA,List.length_set]
 exact Z06.sameA
theorem con61{Γ:Env}(h:Z07 Tryz.prog Γ)(h115:Γ 115=some S115):Con Tryz.prog 61 S61:=
 kcn h (fn:=Tryz.f61) inj61 fun ⟨S,W,n,b⟩ h=>body61 Γ h115 S W n b h.1 h.2
def Z1g(S:List Sec)(W:List Wr):Z01:=[.row [.msl 2 0 0 S.length,.msl 3 W.length 0 W.length] 2 0,.row (S.flatMap Z1T) 1024 0,.row (W.flatMap wrC) 1025 W.length]
def k90:List Sec×List Wr×Int→Ct:=fun (S,W,n)=>⟨([.ref 0 0 0,.int .i64 n],Z0o S W),W.length≤4096∧-1000000≤n∧n≤1000000,.bool (decide ((W.length:Int)+n≤4096)),Z0o S W⟩
theorem inj90:∀a b,(k90 a).a=(k90 b).a→a=b:=by
 rintro⟨S,W,n⟩ ⟨S',W',n'⟩ h
 simp only [k90,Z0g,Z0h,Z0k,Z0j,UInt8.toNat_inj,Z09,Z0c,Z0o,Z1g,Z0A,List.cons.injEq] at h
 simp_all only
noncomputable def S90:Z0n:=Z0W true k90
theorem ks90(S:List Sec)(W:List Wr)(n:Int):KS k90 ([.ref 0 0 0,.int .i64 n],Z0o S W) (W.length≤4096∧-1000000≤n∧n≤1000000) (.bool (decide ((W.length:Int)+n≤4096))) (Z0o S W):=kat inj90 (S,W,n)
attribute [push_cast] S90 ks90
theorem body90(Γ:Env)(h23:Γ 23=some S23)(S:List Sec)(W:List Wr)(n:Int)(hW:W.length≤4096)(hn:-1000000≤n∧n≤1000000):Z08 Tryz.prog Γ Tryz.f90 [.ref 0 0 0,.int .i64 n] (Z0o S W) (.bool (decide ((W.length:Int)+n≤4096))) (Z0o S W):=by
 have ⟨ps,rs,hs⟩:=ks23 S W
 have hl:(wns W).length=W.length:=by unfold wns; rw [List.length_map]
 unfold Z0o at *
 refine stt 11 [.tmp 4] fun X hP hΓ hL hfin=>?_; refine gxq (cj5 h23 ps rs hs hl) ?_
 refine⟨by omega,?_⟩
 rw [Z0t _ (by constructor <;> omega)]
 exact Z06.sameA
theorem con90{Γ:Env}(h:Z07 Tryz.prog Γ)(h23:Γ 23=some S23):Con Tryz.prog 90 S90:=
 kcn h (fn:=Tryz.f90) inj90 fun ⟨S,W,n⟩ h=>body90 Γ h23 S W n h.1 h.2
def Zi8(n:Int):List Sec:=List.replicate n.toNat default
def k49:Int→Ct:=fun n=>⟨([.int .i64 n],[]),True,if 8≤n∧n≤1024 then .tup [.ref 0 0 0,.int .i64 0] else .tup [.lit (.pointer none),.int .i64 30],if 8≤n∧n≤1024 then Z0o (Zi8 n) [] else []⟩
theorem inj49:∀a b,(k49 a).a=(k49 b).a→a=b:=by
 rintro n n' h
 simp only [k49,Z0g,Z0h,Z0k,Z0j,UInt8.toNat_inj,Z09,Z0c,Z0o,Z1g,Z0A,List.cons.injEq] at h
 simp_all only
noncomputable def S49:Z0n:=Z0W true k49
theorem ks49(n:Int):KS k49 ([.int .i64 n],[]) (True) (if 8≤n∧n≤1024 then .tup [.ref 0 0 0,.int .i64 0] else .tup [.lit (.pointer none),.int .i64 30]) (if 8≤n∧n≤1024 then Z0o (Zi8 n) [] else []):=kat inj49 n
attribute [push_cast] S49 ks49
theorem Zh1(n:Int):(Zi8 n).length=n.toNat:=List.length_replicate
theorem Z5C{α:Type}{g:α→List AV}(x:α):∀n:Nat,(List.replicate n x).flatMap g=reps n (g x)
 | 0=>rfl
 | n+1=>by rw [List.replicate_succ,List.flatMap_cons,Z5C x n]; rfl
theorem body49(Γ:Env)(n:Int):Z08 Tryz.prog Γ Tryz.f49 [.int .i64 n] [] (if 8≤n∧n≤1024 then .tup [.ref 0 0 0,.int .i64 0] else .tup [.lit (.pointer none),.int .i64 30]) (if 8≤n∧n≤1024 then Z0o (Zi8 n) [] else []):=by
 by_cases h:8≤n∧n≤1024
 ·have d1:(decide (n<8) || decide ((1024:Int)<n))=false:=by
   rw [Bool.eq_false_iff]; intro h'; simp only [Bool.or_eq_true,decide_eq_true_eq] at h'; omega
  rw [if_pos h,if_pos h]
  unfold Z0o
  refine stt 14 [.tmp 2,.tmp 3] fun X hP hΓ hL hfin=>?_; refine gxq (cj3 d1 @za121 @ZlC) ?_
  refine⟨⟨by omega,by omega,by omega⟩,?_⟩
  refine Z0q.nilH 1 1 1025 rfl rfl ?_
  simp only [push_cast,Zh1]
  rw [show (List.replicate n.toNat (Z1T default)).flatten=(Zi8 n).flatMap Z1T from (Z5C default n.toNat).symm]
  rw [List.flatMap_nil]
  exact Z0q.base [1,0,2] ⟨sml,smr,(by decide),(by first | rfl | decide),sm,sm⟩ smd
 ·have d1:(decide (n<8) || decide ((1024:Int)<n))=true:=by
   simp only [Bool.or_eq_true,decide_eq_true_eq]; omega
  rw [if_neg h,if_neg h]
  refine stt 14 [.tmp 2,.tmp 3] fun X hP hΓ hL hfin=>?_; refine gxq d1 ?_
  exact Z06.sameA
theorem con49{Γ:Env}(h:Z07 Tryz.prog Γ):Con Tryz.prog 49 S49:=
 kcn h (fn:=Tryz.f49) inj49 fun n _=>body49 Γ n
def q8(n:Nat):Nat:=n / 256
def q16(n:Nat):Nat:=n / 65536
def q24(n:Nat):Nat:=n / 16777216
def leW(w:Nat):List UInt8:=[UInt8.ofNat w,UInt8.ofNat (q8 w),UInt8.ofNat (q16 w),UInt8.ofNat (q24 w)]
theorem Z0O(w:Nat):(leW w).length=4:=rfl
theorem Z7p(n:Nat):IntKind.u8.wrap (n:Int)=((UInt8.ofNat n).toNat:Int):=by
 rw [show IntKind.u8.wrap (n:Int)=((n % 256:Nat):Int) by simp [IntKind.wrap,IntKind.bits,IntKind.signed]]; congr 1
theorem Z7A(n s:Nat):(n:Int).fdiv (2 ^ s)=((n / 2 ^ s:Nat):Int):=by
 rw [Int.fdiv_eq_ediv_of_nonneg _ (by exact Int.le_of_lt (Int.pow_pos (by omega)))]
 simp
theorem sh8(w:Nat):(w:Int).fdiv (2 ^ min (Int.toNat 8) IntKind.u32.bits)=(q8 w:Int):=Z7A w 8
theorem sh16(w:Nat):(w:Int).fdiv (2 ^ min (Int.toNat 16) IntKind.u32.bits)=(q16 w:Int):=Z7A w 16
theorem sh24(w:Nat):(w:Int).fdiv (2 ^ min (Int.toNat 24) IntKind.u32.bits)=(q24 w:Int):=Z7A w 24
inductive A91 where
 | c0 (w:Nat)
 | c1 (w:Nat) (p:List UInt8) (v:Nat)
def e91:A91→List AV×Z01
 | .c0 w=>([.lit (.slice none 0 0),.int .u32 w],[])
 | .c1 w p v=>([.msl 0 v 0 p.length,.int .u32 w],[.row (p.map Z05) 1 v])
def p91:A91→Prop
 | .c0 w=>True
 | .c1 w p v=>p.length≤1000000
def r91:A91→AV
 | .c0 w=>.msl 0 0 0 4
 | .c1 w p v=>.msl 0 (v+1) 0 (p.length+4)
def g91:A91→Z01
 | .c0 w=>[.row ((leW w).map Z05) 1 0]
 | .c1 w p v=>[.row ((p++leW w).map Z05) 1 (v+1)]
theorem inj91:∀a b,e91 a=e91 b→a=b:=by
 intro a b h
 cases a <;> cases b <;> simp only [e91,Z0g,Z0h,Z0k,Z0j,UInt8.toNat_inj,Z09,Z0c,Z0o,Z1g,Z0A,List.cons.injEq,Fn.func.injEq,reduceCtorEq,Nat.reduceEqDiff,false_and,and_false,List.cons_ne_nil] at h <;> simp_all only
noncomputable def S91:Z0n:=Z6L e91 p91 r91 g91
theorem ZaF(w:Nat):Z1Y e91 p91 ([.lit (.slice none 0 0),.int .u32 w],[])=(True):=Z0J inj91 p91 (.c0 w)
theorem Zap(w:Nat):Z0U e91 r91 .any ([.lit (.slice none 0 0),.int .u32 w],[])=(.msl 0 0 0 4):=Z0d inj91 r91 .any (.c0 w)
theorem ZaV(w:Nat):Z0U e91 g91 [] ([.lit (.slice none 0 0),.int .u32 w],[])=([.row ((leW w).map Z05) 1 0]):=Z0d inj91 g91 [] (.c0 w)
theorem Z71(w:Nat)(p:List UInt8)(v:Nat):Z1Y e91 p91 ([.msl 0 v 0 p.length,.int .u32 w],[.row (p.map Z05) 1 v])=(p.length≤1000000):=Z0J inj91 p91 (.c1 w p v)
theorem Z6S(w:Nat)(p:List UInt8)(v:Nat):Z0U e91 r91 .any ([.msl 0 v 0 p.length,.int .u32 w],[.row (p.map Z05) 1 v])=(.msl 0 (v+1) 0 (p.length+4)):=Z0d inj91 r91 .any (.c1 w p v)
theorem Z7c(w:Nat)(p:List UInt8)(v:Nat):Z0U e91 g91 [] ([.msl 0 v 0 p.length,.int .u32 w],[.row (p.map Z05) 1 v])=([.row ((p++leW w).map Z05) 1 (v+1)]):=Z0d inj91 g91 [] (.c1 w p v)
attribute [push_cast] S91 ZaF Zap ZaV Z71 Z6S Z7c
theorem body91n(Γ:Env)(w:Nat):Z08 Tryz.prog Γ Tryz.f91 [.lit (.slice none 0 0),.int .u32 w] [] (.msl 0 0 0 4) [.row ((leW w).map Z05) 1 0]:=by
 refine stt 19 [.tmp 4] fun X hP hΓ hL hfin=>?_; refine gxq (cj4 @sh8 @sh16 @sh24 @Z7p) ?_
 exact Z06.sameA
theorem body91(Γ:Env)(w:Nat)(p:List UInt8)(v:Nat)(hp:p.length≤1000000):Z08 Tryz.prog Γ Tryz.f91 [.msl 0 v 0 p.length,.int .u32 w] [.row (p.map Z05) 1 v] (.msl 0 (v+1) 0 (p.length+4)) [.row ((p++leW w).map Z05) 1 (v+1)]:=by
 refine stt 19 [.tmp 4] fun X hP hΓ hL hfin=>?_; refine gxq (cj4 @sh8 @sh16 @sh24 @Z7p) ?_
 refine⟨by omega,?_⟩
 rw [List.map_append]
 exact Z06.sameA
theorem con91{Γ:Env}(h:Z07 Tryz.prog Γ):Con Tryz.prog 91 S91:=
 Z2f h (fn:=Tryz.f91) (by kernel_rfl) rfl (by kernel_rfl) inj91 fun a h=>match a,h with | .c0 w,_=>body91n Γ w | .c1 w p v,h=>body91 Γ w p v h
theorem Z3S{α:Type}{g:α→List AV}(h:∀x,Z0S (g x)=true):∀xs:List α,Z0S (xs.flatMap g)=true
 | []=>rfl
 | x::xs=>by rw [List.flatMap_cons,Z3T,h,Z3S h xs]; rfl
theorem ZkY(S:List Sec):Z0S (S.flatMap Z1T)=true:=Z3S (fun s=>Z39 _) S
theorem ZnF(W:List Wr):Z0S (W.flatMap wrC)=true:=Z3S (fun w=>by simp only [wrC,Z0S,Z27,Bool.true_and]; exact Z39 _) W
attribute [push_cast] ZkY ZnF
def padP(p:List UInt8):List UInt8:=p++List.replicate (1024 - p.length) 0
theorem Z29{p:List UInt8}(h:p.length≤1024):(padP p).length=1024:=by unfold padP; rw [List.length_append,List.length_replicate]; omega
def e92:List Sec×List Wr×List UInt8×Nat×Int→List AV×Z01:=fun (S,W,p,v,n)=>([.msl 0 v 0 p.length,.ref 1 0 0,.int .i64 n],.row (p.map Z05) 1 v::Z1g S W)
def p92:List Sec×List Wr×List UInt8×Nat×Int→Prop:=fun (S,W,p,v,n)=>p.length≤1024∧W.length≤4096∧S.length≤4096
def r92:List Sec×List Wr×List UInt8×Nat×Int→AV:=fun (S,W,p,v,n)=>.tup []
def g92:List Sec×List Wr×List UInt8×Nat×Int→Z01:=fun (S,W,p,v,n)=>.row ((padP p).map Z05) 1 (v+1)::Z1g (wrS S W n (padP p)) (wrW S W n (padP p))
theorem inj92:∀a b,e92 a=e92 b→a=b:=by
 rintro⟨S,W,p,v,n⟩ ⟨S',W',p',v',n'⟩ h
 simp only [e92,Z0g,Z0h,Z0k,Z0j,UInt8.toNat_inj,Z09,Z0c,Z0o,Z1g,Z0A,List.cons.injEq] at h
 simp_all only
noncomputable def S92:Z0n:=Z6L e92 p92 r92 g92
theorem Zmz(S:List Sec)(W:List Wr)(p:List UInt8)(v:Nat)(n:Int):Z1Y e92 p92 ([.msl 0 v 0 p.length,.ref 1 0 0,.int .i64 n],.row (p.map Z05) 1 v::Z1g S W)=(p.length≤1024∧W.length≤4096∧S.length≤4096):=Z0J inj92 p92 (S,W,p,v,n)
theorem Zmy(S:List Sec)(W:List Wr)(p:List UInt8)(v:Nat)(n:Int):Z0U e92 r92 .any ([.msl 0 v 0 p.length,.ref 1 0 0,.int .i64 n],.row (p.map Z05) 1 v::Z1g S W)=(.tup []):=Z0d inj92 r92 .any (S,W,p,v,n)
theorem ZmE(S:List Sec)(W:List Wr)(p:List UInt8)(v:Nat)(n:Int):Z0U e92 g92 [] ([.msl 0 v 0 p.length,.ref 1 0 0,.int .i64 n],.row (p.map Z05) 1 v::Z1g S W)=(.row ((padP p).map Z05) 1 (v+1)::Z1g (wrS S W n (padP p)) (wrW S W n (padP p))):=Z0d inj92 g92 [] (S,W,p,v,n)
attribute [push_cast] S92 Zmz Zmy ZmE
theorem body92(Γ:Env)(h61:Γ 61=some S61)(S:List Sec)(W:List Wr)(p:List UInt8)(v:Nat)(n:Int)(hp:p.length≤1024)(hW:W.length≤4096)(hS:S.length≤4096):Z08 Tryz.prog Γ Tryz.f92 [.msl 0 v 0 p.length,.ref 1 0 0,.int .i64 n] (.row (p.map Z05) 1 v::Z1g S W) (.tup []) (.row ((padP p).map Z05) 1 (v+1)::Z1g (wrS S W n (padP p)) (wrW S W n (padP p))):=by
 have ⟨ps,rs,hs⟩:=ks61 S W n (padP p)
 unfold Z0o at *
 unfold Z1g
 obtain⟨q,hq⟩:∃q,q=1024 - p.length:=⟨_,rfl⟩
 have e1:IntKind.i64.wrap (1024 - (p.length:Int))=(q:Int):=by rw [Z0t _ (by constructor <;> omega)]; omega
 have e2:List.map Z05 p++(List.replicate q [AV.int .u8 0]).flatten=(padP p).map Z05:=by
  unfold padP
  rw [List.map_append,←hq]
  congr 1
  rw [List.map_replicate]
  clear hq e1
  induction q with
  | zero=>rfl
  | succ q ih=>rw [List.replicate_succ,List.flatten_cons,ih]; rfl
 have e3:p.length+q=(padP p).length:=by rw [Z29 hp]; omega
 have e4:=Z29 hp
 refine stt 14 [] fun X hP hΓ hL hfin=>?_; apply holds_of_ex X 400; simp (maxSteps:=1000000) only [push_cast,reduceCtorEq,Nat.reduceAdd,Nat.reduceMul,Nat.reduceSub,Nat.reduceBEq,Nat.reduceGT,Nat.reduceLT,Int.toNat_zero,Nat.reduceLeDiff,Int.reduceEq,Int.reduceLT,Int.reduceLE,hP,hΓ,hL,hfin,String.reduceEq,Int.toNat_one,Bool.not_not,h61,ps,rs,hs,e1,e2,e3,Zag]
 refine⟨by omega,⟨by decide,⟨hW,hS⟩⟩,?_⟩
 exact Z06.sameA
theorem con92{Γ:Env}(h:Z07 Tryz.prog Γ)(h61:Γ 61=some S61):Con Tryz.prog 92 S92:=
 Z2f h (fn:=Tryz.f92) (by kernel_rfl) rfl (by kernel_rfl) inj92 fun ⟨S,W,p,v,n⟩ h=>body92 Γ h61 S W p v n h.1 h.2.1 h.2.2
def markR:Nat:=827475011
def ZlP(S:List Sec)(W:List Wr):List Sec:=wrS S W 0 (padP (leW markR))
def ZlO(S:List Sec)(W:List Wr):List Wr:=wrW S W 0 (padP (leW markR))
inductive A37 where
 | c0
 | c1 (S:List Sec) (W:List Wr)
def e37:A37→List AV×Z01
 | .c0=>([.lit (.pointer none)],[])
 | .c1 S W=>([.ref 0 0 0],Z0o S W)
def p37:A37→Prop
 | .c0=>True
 | .c1 S W=>W.length≤4096∧S.length≤4096
def r37:A37→AV
 | .c0=>.int .i64 1
 | .c1 S W=>.int .i64 (if W.length<4096 then 0 else 174)
def g37:A37→Z01
 | .c0=>[]
 | .c1 S W=>if W.length<4096 then Z0o (ZlP S W) (ZlO S W) else Z0o S W
theorem inj37:∀a b,e37 a=e37 b→a=b:=by
 intro a b h
 cases a <;> cases b <;> simp only [e37,Z0g,Z0h,Z0k,Z0j,UInt8.toNat_inj,Z09,Z0c,Z0o,Z1g,Z0A,List.cons.injEq,Fn.func.injEq,reduceCtorEq,Nat.reduceEqDiff,false_and,and_false,List.cons_ne_nil] at h <;> simp_all only
noncomputable def S37:Z0n:=Z7X true e37 p37 r37 g37
theorem ZkT:Z1Y e37 p37 ([.lit (.pointer none)],[])=(True):=Z0J inj37 p37 (.c0 )
theorem Zky:Z0U e37 r37 .any ([.lit (.pointer none)],[])=(.int .i64 1):=Z0d inj37 r37 .any (.c0 )
theorem ZlD:Z0U e37 g37 [] ([.lit (.pointer none)],[])=([]):=Z0d inj37 g37 [] (.c0 )
theorem ZaH(S:List Sec)(W:List Wr):Z1Y e37 p37 ([.ref 0 0 0],Z0o S W)=(W.length≤4096∧S.length≤4096):=Z0J inj37 p37 (.c1 S W)
theorem Zar(S:List Sec)(W:List Wr):Z0U e37 r37 .any ([.ref 0 0 0],Z0o S W)=(.int .i64 (if W.length<4096 then 0 else 174)):=Z0d inj37 r37 .any (.c1 S W)
theorem ZaX(S:List Sec)(W:List Wr):Z0U e37 g37 [] ([.ref 0 0 0],Z0o S W)=(if W.length<4096 then Z0o (ZlP S W) (ZlO S W) else Z0o S W):=Z0d inj37 g37 [] (.c1 S W)
attribute [push_cast] S37 ZkT Zky ZlD ZaH Zar ZaX
theorem body37n(Γ:Env):Z08 Tryz.prog Γ Tryz.f37 [.lit (.pointer none)] [] (.int .i64 1) []:=by
 refine stt 13 [.tmp 2] fun X hP hΓ hL hfin=>?_; refine Z0G ?_
 exact Z06.sameA
theorem body37(Γ:Env)(h90:Γ 90=some S90)(h91:Γ 91=some S91)(h92:Γ 92=some S92)(S:List Sec)(W:List Wr)(hW:W.length≤4096)(hS:S.length≤4096):Z08 Tryz.prog Γ Tryz.f37 [.ref 0 0 0] (Z0o S W) (.int .i64 (if W.length<4096 then 0 else 174)) (if W.length<4096 then Z0o (ZlP S W) (ZlO S W) else Z0o S W):=by
 have ⟨ps,rs,hs⟩:=ks90 S W 1
 have p2:=Zmz S W (leW markR) 0 0
 have r2:=Zmy S W (leW markR) 0 0
 have g2:=ZmE S W (leW markR) 0 0
 have p1:=ZaF markR
 have r1:=Zap markR
 have g1:=ZaV markR
 rw [show ((markR:Nat):Int)=827475011 from rfl] at p1 r1 g1
 rw [Z0O] at p2 r2 g2
 by_cases h:W.length<4096
 ·have d1:decide ((W.length:Int)+1≤4096)=true:=decide_eq_true (by omega)
  rw [if_pos h,if_pos h]
  unfold ZlP ZlO
  unfold Z0o Z1g at *
  refine stt 13 [.tmp 2] fun X hP hΓ hL hfin=>?_; refine gxq (ZhD h90 h91 h92 ps rs hs d1 p1 r1 g1 p2 r2 g2) ?_
  refine⟨⟨by decide,hW⟩,⟨by decide,hW,hS⟩,?_⟩
  exact Z06.keep3A
 ·have d1:decide ((W.length:Int)+1≤4096)=false:=decide_eq_false (by omega)
  rw [if_neg h,if_neg h]
  unfold Z0o at *
  refine stt 13 [.tmp 2] fun X hP hΓ hL hfin=>?_; refine gxq (cj5 h90 ps rs hs d1) ?_
  refine⟨by omega,?_⟩
  exact Z06.sameA
theorem con37{Γ:Env}(h:Z07 Tryz.prog Γ)(h90:Γ 90=some S90)(h91:Γ 91=some S91)(h92:Γ 92=some S92):Con Tryz.prog 37 S37:=
 Z2g h (fn:=Tryz.f37) (by kernel_rfl) rfl (by kernel_rfl) inj37 fun a h=>match a,h with | .c0,_=>body37n Γ | .c1 S W,h=>body37 Γ h90 h91 h92 S W h.1 h.2
end Go.Proofs.YtbnnhffkbcekcaaGreatDoor.dirDone
end
