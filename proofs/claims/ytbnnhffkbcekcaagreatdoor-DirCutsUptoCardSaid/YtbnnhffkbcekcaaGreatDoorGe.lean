/- Parts of the walk through directories. Conditions stand in each. -/
import Derived.Test.YtbnnhffkbcekcaaGreatDoorGd
import Derived.Test.YtbnnhffkbcekcaaGreatDoorFg
set_option linter.unusedVariables false
set_option linter.unusedSimpArgs false
set_option maxRecDepth 100000
set_option maxHeartbeats 4000000
section
namespace Go.Proofs.YtbnnhffkbcekcaaGreatDoor.dirDone
open Go Go.Eng Go.Proofs Go.Lib
def k19:List Fl×List Int×List Int×List Sec×List Wr→Ct:=fun (F,Lv,U,S,W)=>⟨([.ref 0 0 0],Z0z F Lv U S W),U.length≤1048576,.int .i64 (U.count 0:Nat),Z0z F Lv U S W⟩
theorem inj19:∀a b,(k19 a).a=(k19 b).a→a=b:=by
 rintro⟨F,Lv,U,S,W⟩ ⟨F',Lv',U',S',W'⟩ h
 simp only [k19,Z0g,Z0h,Z0k,Z0j,UInt8.toNat_inj,Z09,Z0c,Z0x,Z0o,Z1g,Z19,Z1L,Z0z,Z0A,List.cons.injEq] at h
 simp_all only
noncomputable def S19:Z0n:=Z0W true k19
theorem ks19(F:List Fl)(Lv U:List Int)(S:List Sec)(W:List Wr):KS k19 ([.ref 0 0 0],Z0z F Lv U S W) (U.length≤1048576) (.int .i64 (U.count 0:Nat)) (Z0z F Lv U S W):=kat inj19 (F,Lv,U,S,W)
attribute [push_cast] S19 ks19
theorem body19(Γ:Env)(F:List Fl)(Lv U:List Int)(S:List Sec)(W:List Wr)(hU:U.length≤1048576):Z08 Tryz.prog Γ Tryz.f19 [.ref 0 0 0] (Z0z F Lv U S W) (.int .i64 (U.count 0:Nat)) (Z0z F Lv U S W):=by
 unfold Z0z
 refine stt 23 [.tmp 2] fun X hP hΓ hL hfin=>?_; refine Z0G ?_
 refine Z02.loopM (ι:={k:Nat // k≤U.length}) [ff,ff,tt,ff,ff,ff,ff,ff,ff,ff,ff,tt,tt,ff,ff,ff,ff,ff,ff,ff,ff,ff,ff] (fun i=>[(13,.int .i64 i.1),(3,.int .i64 ((U.take i.1).count 0:Nat))]) (fun i=>Z0z F Lv U S W) (fun i=>U.length - i.1) ⟨0,Nat.zero_le _⟩ ?_ ?_
 ·rw [hL]
  unfold Z0z
  simp only [push_cast,List.take_zero,List.count_nil]
  exact Z06.sameA
 rintro⟨k,hk⟩
 unfold Z0z
 refine Z0G ?_
 ((with_reducible refine Z0v (fun h=>?_) fun h=>?_) <;> try simp only [fkl,beq_iff_eq,beq_eq_false_iff_ne,ne_eq] at h)
 ·have hk':k<U.length:=by omega
  have e1:(U.take (k+1)).count 0=(U.take k).count 0+(if U.getD k default=0 then 1 else 0):=by
   rw [List.take_succ_eq_append_getElem hk',List.count_append]
   congr 1
   simp only [List.getD,hk',List.getElem?_eq_getElem,Option.getD_some]
   rw [List.count_singleton]
   simp
  have e2:(U.take k).count 0≤k:=Nat.le_trans List.count_le_length (by rw [List.length_take]; omega)
  refine gxq hk' ?_
  refine⟨by omega,⟨by omega,by omega⟩,?_⟩
  ((with_reducible refine Z0v (fun h=>?_) fun h=>?_) <;> try simp only [fkl,beq_iff_eq,beq_eq_false_iff_ne,ne_eq] at h)
  ·rw [if_pos h] at e1
   refine Z0G ?_
   refine⟨⟨k+1,hk'⟩,by simp only; omega,?_⟩
   dsimp only
   rw [Z0t ((k:Int)+1) (by constructor <;> omega),Z0t _ (by constructor <;> omega),e1]
   exact Z06.sameA
  ·rw [if_neg h,Nat.add_zero] at e1
   refine Z0G ?_
   refine⟨⟨k+1,hk'⟩,by simp only; omega,?_⟩
   dsimp only
   rw [Z0t ((k:Int)+1) (by constructor <;> omega),e1]
   exact Z06.sameA
 ·obtain rfl:k=U.length:=by omega
  rw [List.take_length]
  refine Z0G ?_
  exact Z06.sameA
theorem con19{Γ:Env}(h:Z07 Tryz.prog Γ):Con Tryz.prog 19 S19:=
 kcn h (fn:=Tryz.f19) inj19 fun ⟨F,Lv,U,S,W⟩ h=>body19 Γ F Lv U S W h
def tkR(U:List Int):AV:=if Z2e U 0<0 then .tup [.int .i64 0,.int .i64 174] else .tup [.int .i64 (Z2e U 0),.int .i64 0]
def tkU(U:List Int):List Int:=if Z2e U 0<0 then U else U.set (Z2e U 0).toNat 2
theorem Z3N(U:List Int):(tkU U).length=U.length:=by
 unfold tkU; split
 ·rfl
 ·exact List.length_set
theorem Zjp(l:List Int)(n:Int):Z2e l n<l.length:=by
 unfold Z2e
 split
 ·rename_i h; have:=List.idxOf_lt_length_of_mem h; omega
 ·have:(0:Int)≤l.length:=Int.natCast_nonneg _; omega
def k33:List Fl×List Int×List Int×List Sec×List Wr→Ct:=fun (F,Lv,U,S,W)=>⟨([.ref 0 0 0],Z0z F Lv U S W),U.length≤1048576,tkR U,Z0z F Lv (tkU U) S W⟩
theorem inj33:∀a b,(k33 a).a=(k33 b).a→a=b:=by
 rintro⟨F,Lv,U,S,W⟩ ⟨F',Lv',U',S',W'⟩ h
 simp only [k33,Z0g,Z0h,Z0k,Z0j,UInt8.toNat_inj,Z09,Z0c,Z0x,Z0o,Z1g,Z19,Z1L,Z0z,Z0A,List.cons.injEq] at h
 simp_all only
noncomputable def S33:Z0n:=Z0W true k33
theorem ks33(F:List Fl)(Lv U:List Int)(S:List Sec)(W:List Wr):KS k33 ([.ref 0 0 0],Z0z F Lv U S W) (U.length≤1048576) (tkR U) (Z0z F Lv (tkU U) S W):=kat inj33 (F,Lv,U,S,W)
attribute [push_cast] S33 ks33
theorem body33(Γ:Env)(h79:Γ 79=some S79)(F:List Fl)(Lv U:List Int)(S:List Sec)(W:List Wr)(hU:U.length≤1048576):Z08 Tryz.prog Γ Tryz.f33 [.ref 0 0 0] (Z0z F Lv U S W) (tkR U) (Z0z F Lv (tkU U) S W):=by
 have ps:=ps79 U 0
 have rs:=rs79 U 0
 have hlt:=Zjp U 0
 have htk:List.take U.length (U.map (AV.int .i64))=U.map (AV.int .i64):=List.take_of_length_le (by rw [List.length_map]; exact Nat.le_refl _)
 by_cases h:Z2e U 0<0
 ·have e1:tkR U=.tup [.int .i64 0,.int .i64 174]:=by unfold tkR; rw [if_pos h]
  have e2:tkU U=U:=by unfold tkU; rw [if_pos h]
  have d0:decide (Z2e U 0<0)=true:=decide_eq_true h
  rw [e1,e2]
  unfold Z0z
  refine stt 21 [.tmp 2,.tmp 3] fun X hP hΓ hL hfin=>?_; refine gxq (cj5 h79 ps rs d0 htk) ?_
  refine⟨by omega,?_⟩
  exact Z06.sameA
 ·obtain⟨k,hk⟩:=Int.eq_ofNat_of_zero_le (show 0≤Z2e U 0 by omega)
  have e1:tkR U=.tup [.int .i64 k,.int .i64 0]:=by unfold tkR; rw [if_neg h,hk]
  have e2:tkU U=U.set k 2:=by unfold tkU; rw [if_neg h,hk]; rfl
  rw [hk] at rs hlt
  have d0:decide ((k:Int)<0)=false:=decide_eq_false (by omega)
  rw [e1,e2]
  unfold Z0z
  rw [List.length_set]
  refine stt 21 [.tmp 2,.tmp 3] fun X hP hΓ hL hfin=>?_; refine gxq (cj5 h79 ps rs d0 htk) ?_
  refine⟨by omega,by omega,by omega,?_⟩
  rw [Z4u U k 2 (by omega)]
  exact Z06.sameA
theorem con33{Γ:Env}(h:Z07 Tryz.prog Γ)(h79:Γ 79=some S79):Con Tryz.prog 33 S33:=
 kcn h (fn:=Tryz.f33) inj33 fun ⟨F,Lv,U,S,W⟩ h=>body33 Γ h79 F Lv U S W h
def k32:List Fl×List Int×List Int×List Sec×List Wr×Int→Ct:=fun (F,Lv,U,S,W,n)=>⟨([.ref 0 0 0,.int .i64 n],Z0z F Lv U S W),U.length≤1048576,.int .i64 (if tOk U 2 [n] then 0 else 2),Z0z F Lv (tRes U 2 0 [n]) S W⟩
theorem inj32:∀a b,(k32 a).a=(k32 b).a→a=b:=by
 rintro⟨F,Lv,U,S,W,n⟩ ⟨F',Lv',U',S',W',n'⟩ h
 simp only [k32,Z0g,Z0h,Z0k,Z0j,UInt8.toNat_inj,Z09,Z0c,Z0x,Z0o,Z1g,Z19,Z1L,Z0z,Z0A,List.cons.injEq] at h
 simp_all only
noncomputable def S32:Z0n:=Z0W true k32
theorem ks32(F:List Fl)(Lv U:List Int)(S:List Sec)(W:List Wr)(n:Int):KS k32 ([.ref 0 0 0,.int .i64 n],Z0z F Lv U S W) (U.length≤1048576) (.int .i64 (if tOk U 2 [n] then 0 else 2)) (Z0z F Lv (tRes U 2 0 [n]) S W):=kat inj32 (F,Lv,U,S,W,n)
attribute [push_cast] S32 ks32
theorem Z2q(U:List Int)(a b:Int)(l:List Int):(tRes U a b l).length=U.length:=by
 unfold tRes; split
 ·exact Z0w _ _ _
 ·rfl
theorem body32(Γ:Env)(h78:Γ 78=some S78)(F:List Fl)(Lv U:List Int)(S:List Sec)(W:List Wr)(n:Int)(hU:U.length≤1048576):Z08 Tryz.prog Γ Tryz.f32 [.ref 0 0 0,.int .i64 n] (Z0z F Lv U S W) (.int .i64 (if tOk U 2 [n] then 0 else 2)) (Z0z F Lv (tRes U 2 0 [n]) S W):=by
 have pt:=Z8v U 0 [n] 0 2 0
 have rt:=Z8p U 0 [n] 0 2 0
 have ht:=Z8O U 0 [n] 0 2 0
 simp only [List.map_cons,List.map_nil,List.length_singleton] at pt rt ht
 have hl:=Z2q U 2 0 [n]
 unfold Z0z
 rw [hl]
 generalize tRes U 2 0 [n]=V at *
 by_cases h:tOk U 2 [n]
 ·have d0:decide (tOk U 2 [n])=true:=decide_eq_true h
  rw [if_pos h]
  refine stt 17 [.tmp 4] fun X hP hΓ hL hfin=>?_; refine gxq (cj5 h78 pt rt ht d0) ?_
  refine⟨⟨by decide,by omega⟩,?_⟩
  exact Z06.keep6A
 ·have d0:decide (tOk U 2 [n])=false:=decide_eq_false h
  rw [if_neg h]
  refine stt 17 [.tmp 4] fun X hP hΓ hL hfin=>?_; refine gxq (cj5 h78 pt rt ht d0) ?_
  refine⟨⟨by decide,by omega⟩,?_⟩
  exact Z06.keep6A
theorem con32{Γ:Env}(h:Z07 Tryz.prog Γ)(h78:Γ 78=some S78):Con Tryz.prog 32 S32:=
 kcn h (fn:=Tryz.f32) inj32 fun ⟨F,Lv,U,S,W,n⟩ h=>body32 Γ h78 F Lv U S W n h
def etC(f:Fl):List AV:=[.str f.nm,.int .i64 f.hd,.int .i64 f.ln]
instance:Z22 etC 3:=⟨fun _=>rfl⟩
instance:Z1U etC:=⟨fun x=>by simp only [etC,Z1G,Z0s,Bool.and_self],fun x=>rfl⟩
def k29:List Fl×List Int×List Int×List Sec×List Wr→Ct:=fun (F,Lv,U,S,W)=>⟨([.ref 0 0 0],Z0z F Lv U S W),F.length≤4194304,.msl 6 F.length 0 F.length,Z0z F Lv U S W++[.row (F.flatMap etC) 3 F.length]⟩
theorem inj29:∀a b,(k29 a).a=(k29 b).a→a=b:=by
 rintro⟨F,Lv,U,S,W⟩ ⟨F',Lv',U',S',W'⟩ h
 simp only [k29,Z0g,Z0h,Z0k,Z0j,UInt8.toNat_inj,Z09,Z0c,Z0x,Z0o,Z1g,Z19,Z1L,Z0z,Z0A,List.cons.injEq] at h
 simp_all only
noncomputable def S29:Z0n:=Z0W true k29
theorem ks29(F:List Fl)(Lv U:List Int)(S:List Sec)(W:List Wr):KS k29 ([.ref 0 0 0],Z0z F Lv U S W) (F.length≤4194304) (.msl 6 F.length 0 F.length) (Z0z F Lv U S W++[.row (F.flatMap etC) 3 F.length]):=kat inj29 (F,Lv,U,S,W)
attribute [push_cast] S29 ks29
theorem body29(Γ:Env)(F:List Fl)(Lv U:List Int)(S:List Sec)(W:List Wr)(hF:F.length≤4194304):Z08 Tryz.prog Γ Tryz.f29 [.ref 0 0 0] (Z0z F Lv U S W) (.msl 6 F.length 0 F.length) (Z0z F Lv U S W++[.row (F.flatMap etC) 3 F.length]):=by
 unfold Z0z
 refine stt 24 [.tmp 2] fun X hP hΓ hL hfin=>?_; refine Z0G ?_
 refine Z02.loopM (ι:={k:Nat // k≤F.length}) [ff,ff,tt,ff,ff,ff,ff,ff,ff,ff,ff,tt,tt,ff,ff,ff,ff,ff,ff,ff,ff,ff,ff,ff] (fun i=>[(13,.int .i64 i.1),(3,.msl 6 i.1 0 i.1)]) (fun i=>Z0z F Lv U S W++[.row ((F.take i.1).flatMap etC) 3 i.1]) (fun i=>F.length - i.1) ⟨0,Nat.zero_le _⟩ ?_ ?_
 ·rw [hL]
  unfold Z0z
  simp only [push_cast,List.take_zero,List.flatMap_nil]
  refine Z0q.nil 3  3 rfl (gsq ?_)
  exact Z06.sameA
 rintro⟨k,hk⟩
 unfold Z0z
 by_cases ck:k<F.length
 case neg=>
  have dk:decide ((k:Int)<(F.length:Int))=false:=decide_eq_false (by omega)
  obtain rfl:k=F.length:=by omega
  rw [List.take_length]
  refine gxq dk ?_
  exact Z06.sameA
 have dk:decide ((k:Int)<(F.length:Int))=true:=decide_eq_true (by omega)
 obtain⟨f,hf⟩:∃f,f=F.getD k default:=⟨_,rfl⟩
 have hh:List.take 4 (List.drop (k*4) (F.flatMap flC))=[.str f.nm,.int .i64 f.hd,.int .i64 f.ln,.sl (f.se.map (AV.int .i64)) f.se.length]:=by rw [Z3z (n:=4) F k ck,←hf]; rfl
 have h4:min 4 (F.length*4 - k*4)=4:=by omega
 have hs:(F.take (k+1)).flatMap etC=(F.take k).flatMap etC++[.str f.nm,.int .i64 f.hd,.int .i64 f.ln]:=by
  rw [List.take_succ_eq_append_getElem ck,List.flatMap_append,hf]
  simp [etC,List.getD,ck]
 refine gxq (cj3 dk hh h4) ?_
 refine⟨by omega,by omega,⟨by omega,by omega⟩,⟨k+1,ck⟩,by simp only; omega,?_⟩
 rw [Z0t ((k:Int)+1) (by constructor <;> omega)]
 simp only [push_cast,hs]
 exact Z06.keep7A
theorem con29{Γ:Env}(h:Z07 Tryz.prog Γ):Con Tryz.prog 29 S29:=
 kcn h (fn:=Tryz.f29) inj29 fun ⟨F,Lv,U,S,W⟩ h=>body29 Γ F Lv U S W h
theorem Z6D(a b:UInt8)(x y:List UInt8):Op.bytesLess (a::x) (b::y)=true↔a<b∨(a=b∧Op.bytesLess x y=true):=by
 rw [Op.bytesLess]; simp
theorem ZiA(x:List UInt8):Op.bytesLess x []=false:=by cases x <;> rfl
theorem Z93:∀x:List UInt8,Op.bytesLess x x=false
 | []=>rfl
 | a::x=>by
  rw [Bool.eq_false_iff]
  intro h
  rcases (Z6D a a x x).1 h with h | ⟨_,h⟩
  ·exact absurd h (UInt8.lt_irrefl a)
  ·rw [Z93 x] at h; cases h
theorem Z2y:∀{x y z:List UInt8},Op.bytesLess x y=true→Op.bytesLess y z=true→Op.bytesLess x z=true
 | x,y,[],_,h=>by rw [ZiA] at h; cases h
 | x,[],_::_,h,_=>by rw [ZiA] at h; cases h
 | [],_::_,_::_,_,_=>rfl
 | a::x,b::y,c::z,h1,h2=>by
  rw [Z6D] at h1 h2 ⊢
  simp only [UInt8.lt_iff_toNat_lt,←UInt8.toNat_inj] at *
  rcases h1 with h1 | ⟨h1,h1'⟩ <;> rcases h2 with h2 | ⟨h2,h2'⟩
  ·exact .inl (by omega)
  ·exact .inl (by omega)
  ·exact .inl (by omega)
  ·exact .inr ⟨by omega,Z2y h1' h2'⟩
theorem Z92:∀(x y:List UInt8),Op.bytesLess x y=true∨x=y∨Op.bytesLess y x=true
 | [],[]=>.inr (.inl rfl)
 | [],_::_=>.inl rfl
 | _::_,[]=>.inr (.inr rfl)
 | a::x,b::y=>by
  rw [Z6D,Z6D]
  simp only [UInt8.lt_iff_toNat_lt,List.cons.injEq,←UInt8.toNat_inj]
  rcases Nat.lt_trichotomy a.toNat b.toNat with h | h | h
  ·exact .inl (.inl h)
  ·rcases Z92 x y with k | k | k
   ·exact .inl (.inr ⟨h,k⟩)
   ·exact .inr (.inl ⟨h,k⟩)
   ·exact .inr (.inr (.inr ⟨h.symm,k⟩))
  ·exact .inr (.inr (.inl h))
theorem Z5o:∀(x y:List UInt8),compareBytes x y<0↔Op.bytesLess x y=true
 | [],[]=>by simp [compareBytes,Op.bytesLess]
 | [],_::_=>by simp [compareBytes,Op.bytesLess]
 | _::_,[]=>by simp [compareBytes,Op.bytesLess]
 | a::x,b::y=>by
  rw [Z6D,compareBytes,←Z5o x y]
  by_cases h1:a<b
  ·simp [h1]
  ·rw [if_neg h1]
   by_cases h2:b<a
   ·rw [if_pos h2]
    simp only [UInt8.lt_iff_toNat_lt,←UInt8.toNat_inj] at *
    constructor
    ·intro h; omega
    ·rintro (h | ⟨h,_⟩) <;> omega
   ·rw [if_neg h2]
    have e:a=b:=by simp only [UInt8.lt_iff_toNat_lt,←UInt8.toNat_inj] at *; omega
    simp [h1,e]
theorem Zb9:∀(x y:List UInt8),compareBytes x y=0↔x=y
 | [],[]=>by simp [compareBytes]
 | [],_::_=>by simp [compareBytes]
 | _::_,[]=>by simp [compareBytes]
 | a::x,b::y=>by
  rw [compareBytes,List.cons.injEq,←Zb9 x y]
  simp only [UInt8.lt_iff_toNat_lt,←UInt8.toNat_inj]
  by_cases h1:a.toNat<b.toNat
  ·rw [if_pos h1]; omega
  ·rw [if_neg h1]
   by_cases h2:b.toNat<a.toNat
   ·rw [if_pos h2]; omega
   ·rw [if_neg h2]
    have:a.toNat=b.toNat:=by omega
    simp [this]
def Zkl(xs:List AV):Prop:=match xs with
 | [.str _,.str _]=>True
 | _=>False
def Zp0(xs:List AV):AV:=match xs with
 | [.str a,.str b]=>.int .i64 (compareBytes a b)
 | _=>.any
def ZbT:Z0n:=Z6k Zkl Zp0 (fun _=>[]) true
attribute [push_cast] Zkl Zp0 ZbT
theorem con154:Con Tryz.prog 154 ZbT:=by
 refine Con.ofExt (fun xs hx=>?_) fun m w xs vs hc hx=>?_
 ·unfold Zkl at hx
  split at hx
  ·exact⟨_,_,rfl⟩
  ·exact hx.elim
 ·unfold Zkl at hx
  split at hx
  ·rename_i l n
   simp only [Z0a,Z03] at hc
   obtain⟨v1,vs,rfl,rfl,v2,vs,rfl,rfl,rfl⟩:=hc
   refine⟨.int .i64 (compareBytes l n),?_,by simp [Zp0,Z03]⟩
   rw [run_callFunc_extern Tryz.func154 (by kernel_rfl) (by kernel_rfl) (by kernel_rfl) (e:=Extern.BytealgCompare.compare) (by kernel_rfl),Lib.run_compareString]
   rfl
  ·exact hx.elim
theorem body134(Γ:Env)(h:Γ 154=some ZbT)(a b:List UInt8):Z08 Tryz.prog Γ Tryz.f134 [.str a,.str b] [] (.int .i64 (compareBytes a b)) []:=by
 refine stt 8 [.tmp 4] fun X hP hΓ hL hfin=>?_; refine gxq h ?_
 exact Z06.one rfl rfl
theorem con134{Γ:Env}(h:Z07 Tryz.prog Γ)(hf:Γ 154=some ZbT):Con Tryz.prog 134 ZbT:=by
 refine Con.of_body h (fn:=Tryz.f134) (by kernel_rfl) rfl (by kernel_rfl) (fun _ _=>rfl) fun xs hx=>?_
 unfold Zkl at hx
 split at hx
 ·rename_i l n
  exact body134 Γ hf l n
 ·exact hx.elim
theorem body89(Γ:Env)(h:Γ 134=some ZbT)(a b:List UInt8):Z08 Tryz.prog Γ Tryz.f89 [.str a,.str b] [] (.int .i64 (compareBytes a b)) []:=by
 refine stt 8 [.tmp 4] fun X hP hΓ hL hfin=>?_; refine gxq h ?_
 exact Z06.one rfl rfl
theorem con89{Γ:Env}(h:Z07 Tryz.prog Γ)(hf:Γ 134=some ZbT):Con Tryz.prog 89 ZbT:=by
 refine Con.of_body h (fn:=Tryz.f89) (by kernel_rfl) rfl (by kernel_rfl) (fun _ _=>rfl) fun xs hx=>?_
 unfold Zkl at hx
 split at hx
 ·rename_i l n
  exact body89 Γ hf l n
 ·exact hx.elim
def ZjR:List UInt8×Int×Int×List Int×List UInt8→List AV:=fun (a,h,n,l,nm)=>[.agg [.str a,.int .i64 h,.int .i64 n,.sl (l.map (AV.int .i64)) l.length],.str nm]
def ZnR:List UInt8×Int×Int×List Int×List UInt8→Prop:=fun (a,h,n,l,nm)=>True
def Zni:List UInt8×Int×Int×List Int×List UInt8→AV:=fun (a,h,n,l,nm)=>.int .i64 (compareBytes a nm)
def ZoF:List UInt8×Int×Int×List Int×List UInt8→Z01:=fun (a,h,n,l,nm)=>[]
theorem inj125:∀a b,ZjR a=ZjR b→a=b:=by
 rintro⟨a,h,n,l,nm⟩ ⟨a',h',n',l',nm'⟩ h
 simp only [ZjR,Z0g,Z0h,Z0k,Z0j,UInt8.toNat_inj,Z09,Z0c,Z0x,Z0o,Z1g,Z19,Z1L,Z0z,Z0A,List.cons.injEq] at h
 simp_all only
noncomputable def S125:Z0n:=Z5S ZjR ZnR Zni ZoF true
theorem Znz(a:List UInt8)(h n:Int)(l:List Int)(nm:List UInt8):Z5P ZjR ZnR [.agg [.str a,.int .i64 h,.int .i64 n,.sl (l.map (AV.int .i64)) l.length],.str nm]=(True):=Z13 inj125 ZnR (a,h,n,l,nm)
theorem Zn1(a:List UInt8)(h n:Int)(l:List Int)(nm:List UInt8):Z2s ZjR Zni .any [.agg [.str a,.int .i64 h,.int .i64 n,.sl (l.map (AV.int .i64)) l.length],.str nm]=(.int .i64 (compareBytes a nm)):=Z0u inj125 Zni .any (a,h,n,l,nm)
theorem Zom(a:List UInt8)(h n:Int)(l:List Int)(nm:List UInt8):Z2s ZjR ZoF [] [.agg [.str a,.int .i64 h,.int .i64 n,.sl (l.map (AV.int .i64)) l.length],.str nm]=([]):=Z0u inj125 ZoF [] (a,h,n,l,nm)
attribute [push_cast] S125 Znz Zn1 Zom
theorem body125(Γ:Env)(h89:Γ 89=some ZbT)(a:List UInt8)(h n:Int)(l:List Int)(nm:List UInt8):Z08 Tryz.prog Γ Tryz.f125 [.agg [.str a,.int .i64 h,.int .i64 n,.sl (l.map (AV.int .i64)) l.length],.str nm] [] (.int .i64 (compareBytes a nm)) []:=by
 refine stt 10 [.tmp 4] fun X hP hΓ hL hfin=>?_; refine gxq h89 ?_
 exact Z06.keep0A
theorem con125{Γ:Env}(h:Z07 Tryz.prog Γ)(h89:Γ 89=some ZbT):Con Tryz.prog 125 S125:=
 Z0V h (fn:=Tryz.f125) (by kernel_rfl) rfl (by kernel_rfl) inj125 (by first | (intro h; cases h; done) | exact fun _ _=>rfl) fun ⟨a,h,n,l,nm⟩ _=>body125 Γ h89 a h n l nm
def srt(F:List Fl):Prop:=F.Pairwise fun a b=>Op.bytesLess a.nm b.nm=true
def fiN:List Fl→List UInt8→Nat
 | [],_=>0
 | f::F,nm=>if Op.bytesLess f.nm nm=true then fiN F nm+1 else 0
def fiB(F:List Fl)(nm:List UInt8):Bool:=decide (fiN F nm<F.length∧(F.getD (fiN F nm) default).nm=nm)
theorem Z6z:∀(F:List Fl) (nm:List UInt8),fiN F nm≤F.length
 | [],_=>Nat.le_refl _
 | f::F,nm=>by
  unfold fiN; split
  ·have:=Z6z F nm; simp only [List.length_cons]; omega
  ·exact Nat.zero_le _
theorem Z8U:∀(F:List Fl) (nm:List UInt8) (i:Nat),i≤F.length→(∀q,q<i→Op.bytesLess (F.getD q default).nm nm=true)→(i<F.length→Op.bytesLess (F.getD i default).nm nm=false)→fiN F nm=i
  | [], _, i, hi, _, _ => by have : i = 0 := by simpa using hi
                             subst this; rfl
  | f::F,nm,0,_,_,h=>by
    have:=h (Nat.succ_pos _)
    unfold fiN
    rw [if_neg (by simpa using this)]
  | f::F,nm,i+1,hi,hl,h=>by
    have h0:=hl 0 (Nat.succ_pos _)
    unfold fiN
    rw [if_pos (by simpa using h0),Z8U F nm i (by simpa using hi) (fun q hq=>by simpa using hl (q+1) (by omega)) (fun hlt=>by simpa using h (by simpa using hlt))]
theorem Z60{F:List Fl}(h:srt F){i j:Nat}(hij:i<j)(hj:j<F.length):Op.bytesLess (F.getD i default).nm (F.getD j default).nm=true:=by
 have:=List.pairwise_iff_getElem.1 h i j (by omega) hj hij
 simpa [List.getD,hj,show i<F.length by omega] using this
def ZjS:List Fl×List UInt8→List AV:=fun (F,nm)=>[.sl (F.flatMap flC) F.length,.str nm,.fn (.func 125) [] []]
def ZnS:List Fl×List UInt8→Prop:=fun (F,nm)=>F.length≤4194304∧srt F
def Znj:List Fl×List UInt8→AV:=fun (F,nm)=>.tup [.int .i64 (fiN F nm),.bool (fiB F nm)]
def ZoG:List Fl×List UInt8→Z01:=fun (F,nm)=>[]
theorem inj124:∀a b,ZjS a=ZjS b→a=b:=by
 rintro⟨F,nm⟩ ⟨F',nm'⟩ h
 simp only [ZjS,Z0g,Z0h,Z0k,Z0j,UInt8.toNat_inj,Z09,Z0c,Z0x,Z0o,Z1g,Z19,Z1L,Z0z,Z0A,List.cons.injEq] at h
 simp_all only
noncomputable def S124:Z0n:=Z5S ZjS ZnS Znj ZoG true
theorem ZkW(F:List Fl)(nm:List UInt8):Z5P ZjS ZnS [.sl (F.flatMap flC) F.length,.str nm,.fn (.func 125) [] []]=(F.length≤4194304∧srt F):=Z13 inj124 ZnS (F,nm)
theorem ZkB(F:List Fl)(nm:List UInt8):Z2s ZjS Znj .any [.sl (F.flatMap flC) F.length,.str nm,.fn (.func 125) [] []]=(.tup [.int .i64 (fiN F nm),.bool (fiB F nm)]):=Z0u inj124 Znj .any (F,nm)
theorem Zon(F:List Fl)(nm:List UInt8):Z2s ZjS ZoG [] [.sl (F.flatMap flC) F.length,.str nm,.fn (.func 125) [] []]=([]):=Z0u inj124 ZoG [] (F,nm)
attribute [push_cast] S124 ZkW ZkB Zon
theorem body124(Γ:Env)(h125:Γ 125=some S125)(F:List Fl)(nm:List UInt8)(hF:F.length≤4194304)(hs:srt F):Z08 Tryz.prog Γ Tryz.f124 [.sl (F.flatMap flC) F.length,.str nm,.fn (.func 125) [] []] [] (.tup [.int .i64 (fiN F nm),.bool (fiB F nm)]) []:=by
 refine stt 49 [.tmp 6,.tmp 7] fun X hP hΓ hL hfin=>?_; refine gxq h125 ?_
 refine Z02.loopM (ι:={p:Nat×Nat // p.1≤p.2∧p.2≤F.length∧(∀q,q<p.1→Op.bytesLess (F.getD q default).nm nm=true)∧(∀q,p.2≤q→q<F.length→Op.bytesLess (F.getD q default).nm nm=false)}) [tt,tt,tt,ff,ff,ff,tt,tt,tt,ff,ff,ff,ff,ff,ff,ff,ff,ff,ff,ff,ff,ff,ff,ff,ff,ff,ff,ff,ff,ff,ff,ff,ff,ff,ff,ff,ff,ff,ff,ff,ff,ff,ff,ff,ff,ff,ff,ff,ff] (fun i=>[(9,.int .i64 i.1.1),(10,.int .i64 i.1.2)]) (fun i=>[]) (fun i=>i.1.2 - i.1.1) ⟨(0,F.length),Nat.zero_le _,Nat.le_refl _,fun q h=>absurd h (Nat.not_lt_zero q),fun q h h'=>absurd h' (Nat.not_lt.2 h)⟩ ?_ ?_
 ·rw [hL]
  simp only [push_cast]
  exact Z06.sameA
 rintro⟨⟨i,j⟩,hij,hj,hlo,hhi⟩
 dsimp only at hij hj hlo hhi
 by_cases c0:i<j
 case neg=>
  obtain rfl:i=j:=by omega
  have d0:decide ((i:Int)<(i:Int))=false:=decide_eq_false (by omega)
  have hn:fiN F nm=i:=Z8U F nm i hj hlo (fun h=>hhi i (Nat.le_refl _) h)
  by_cases hl:i<F.length
  ·have dl:decide ((i:Int)<(F.length:Int))=true:=decide_eq_true (by omega)
   obtain⟨f,hf⟩:∃f,f=F.getD i default:=⟨_,rfl⟩
   have hh:List.take 4 (List.drop (i*4) (F.flatMap flC))=[.str f.nm,.int .i64 f.hd,.int .i64 f.ln,.sl (f.se.map (AV.int .i64)) f.se.length]:=by rw [Z3z (n:=4) F i hl,←hf]; rfl
   have h4:min 4 (F.length*4 - i*4)=4:=by omega
   have hb:fiB F nm=decide (compareBytes f.nm nm=0):=by
    unfold fiB
    rw [hn,decide_eq_decide,Zb9,←hf]
    exact⟨fun h=>h.2,fun h=>⟨hl,h⟩⟩
   refine gxq (cj7 d0 hn dl hh h4 h125 hb) ?_
   refine⟨by omega,by omega,?_⟩
   exact Z06.sameA
  ·have dl:decide ((i:Int)<(F.length:Int))=false:=decide_eq_false (by omega)
   have hb:fiB F nm=false:=by
    unfold fiB
    rw [hn]
    exact decide_eq_false (fun h=>hl h.1)
   refine gnq 6 d0 ?_
   refine Z02.reg ?_
   refine Z04.ev 5 (gzq dl ?_)
   refine Z04.skips 8 (Z1S ?_)
   refine Z04.ev 3 (Z1S ?_)
   refine Z04.nil ?_
   refine gxq (cj2 hn hb) ?_
   exact Z06.sameA
 have d0:decide ((i:Int)<(j:Int))=true:=decide_eq_true (by omega)
 obtain⟨s,hs1⟩:∃s,s=i+j:=⟨_,rfl⟩
 obtain⟨h,hh1⟩:∃h,h=s / 2:=⟨_,rfl⟩
 have w1:IntKind.i64.wrap ((i:Int)+(j:Int))=(s:Int):=by rw [Z0t _ (by constructor <;> omega)]; omega
 have w2:IntKind.u64.wrap (s:Int)=(s:Int):=by
  have:s<18446744073709551616:=by omega
  simp [IntKind.wrap,IntKind.bits,IntKind.signed]; omega
 have w3:(s:Int).fdiv (2 ^ min 1 IntKind.u64.bits)=(h:Int):=by rw [hh1]; exact Z7A s 1
 have w4:IntKind.u64.wrap (h:Int)=(h:Int):=by
  have:h<18446744073709551616:=by omega
  simp [IntKind.wrap,IntKind.bits,IntKind.signed]; omega
 have w5:IntKind.i64.wrap (h:Int)=(h:Int):=wrq
 have hlt:h<F.length:=by omega
 obtain⟨f,hf⟩:∃f,f=F.getD h default:=⟨_,rfl⟩
 have hh:List.take 4 (List.drop (h*4) (F.flatMap flC))=[.str f.nm,.int .i64 f.hd,.int .i64 f.ln,.sl (f.se.map (AV.int .i64)) f.se.length]:=by rw [Z3z (n:=4) F h hlt,←hf]; rfl
 have h4:min 4 (F.length*4 - h*4)=4:=by omega
 have hc:decide (compareBytes f.nm nm<0)=Op.bytesLess f.nm nm:=by rw [Bool.eq_iff_iff,decide_eq_true_eq,Z5o]
 cases hB:Op.bytesLess f.nm nm with
 | true=>
  ((first | with_reducible refine holds_of_ex X 400 _ _ _ ?_ | skip); simp (maxSteps:=1000000) only [push_cast,reduceCtorEq,Nat.reduceAdd,Nat.reduceMul,Nat.reduceSub,Nat.reduceBEq,Nat.reduceGT,Nat.reduceLT,Int.toNat_zero,Nat.reduceLeDiff,Int.reduceEq,Int.reduceLT,Int.reduceLE,hP,hΓ,hL,hfin,String.reduceEq,Int.toNat_one,Bool.not_not,d0,w1,w2,w3,w4,w5,hh,h4,h125,hc,hB])
  refine⟨by omega,by omega,⟨(h+1,j),by simp only; omega,hj,fun q hq=>?_,hhi⟩,by simp only; omega,?_⟩
  ·rcases Nat.lt_succ_iff_lt_or_eq.1 hq with h' | rfl
   ·exact Z2y (Z60 hs h' hlt) (by rw [←hf]; exact hB)
   ·rw [←hf]; exact hB
  rw [Z0t ((h:Int)+1) (by constructor <;> omega)]
  simp only [push_cast]
  exact Z06.sameA
 | false=>
  ((first | with_reducible refine holds_of_ex X 400 _ _ _ ?_ | skip); simp (maxSteps:=1000000) only [push_cast,reduceCtorEq,Nat.reduceAdd,Nat.reduceMul,Nat.reduceSub,Nat.reduceBEq,Nat.reduceGT,Nat.reduceLT,Int.toNat_zero,Nat.reduceLeDiff,Int.reduceEq,Int.reduceLT,Int.reduceLE,hP,hΓ,hL,hfin,String.reduceEq,Int.toNat_one,Bool.not_not,d0,w1,w2,w3,w4,w5,hh,h4,h125,hc,hB])
  refine⟨by omega,by omega,⟨(i,h),by simp only; omega,by simp only; omega,hlo,fun q hq hq2=>?_⟩,by simp only; omega,?_⟩
  ·rcases Nat.lt_or_eq_of_le hq with h' | h'
   ·rw [Bool.eq_false_iff]
    intro hx
    have:=Z2y (Z60 hs h' hq2) hx
    rw [←hf,hB] at this
    cases this
   ·rw [←h',←hf]; exact hB
  exact Z06.sameA
theorem con124{Γ:Env}(h:Z07 Tryz.prog Γ)(h125:Γ 125=some S125):Con Tryz.prog 124 S124:=
 Z0V h (fn:=Tryz.f124) (by kernel_rfl) rfl (by kernel_rfl) inj124 (by first | (intro h; cases h; done) | exact fun _ _=>rfl) fun ⟨F,nm⟩ h=>body124 Γ h125 F nm h.1 h.2
def k77:List Fl×List Int×List Int×List Sec×List Wr×List UInt8→Ct:=fun (F,Lv,U,S,W,nm)=>⟨([.ref 0 0 0,.str nm],Z0z F Lv U S W),F.length≤4194304∧srt F,.tup [.int .i64 (fiN F nm),.bool (fiB F nm)],Z0z F Lv U S W⟩
theorem inj77:∀a b,(k77 a).a=(k77 b).a→a=b:=by
 rintro⟨F,Lv,U,S,W,nm⟩ ⟨F',Lv',U',S',W',nm'⟩ h
 simp only [k77,Z0g,Z0h,Z0k,Z0j,UInt8.toNat_inj,Z09,Z0c,Z0x,Z0o,Z1g,Z19,Z1L,Z0z,Z0A,List.cons.injEq] at h
 simp_all only
noncomputable def S77:Z0n:=Z0W true k77
theorem ks77(F:List Fl)(Lv U:List Int)(S:List Sec)(W:List Wr)(nm:List UInt8):KS k77 ([.ref 0 0 0,.str nm],Z0z F Lv U S W) (F.length≤4194304∧srt F) (.tup [.int .i64 (fiN F nm),.bool (fiB F nm)]) (Z0z F Lv U S W):=kat inj77 (F,Lv,U,S,W,nm)
attribute [push_cast] S77 ks77
theorem body77(Γ:Env)(h124:Γ 124=some S124)(F:List Fl)(Lv U:List Int)(S:List Sec)(W:List Wr)(nm:List UInt8)(hF:F.length≤4194304)(hs:srt F):Z08 Tryz.prog Γ Tryz.f77 [.ref 0 0 0,.str nm] (Z0z F Lv U S W) (.tup [.int .i64 (fiN F nm),.bool (fiB F nm)]) (Z0z F Lv U S W):=by
 have ps:=ZkW F nm
 have rs:=ZkB F nm
 unfold Z0z
 refine stt 14 [.tmp 4,.tmp 5] fun X hP hΓ hL hfin=>?_; refine gxq (cj3 h124 ps rs) ?_
 refine⟨⟨hF,hs⟩,?_⟩
 exact Z06.sameA
theorem con77{Γ:Env}(h:Z07 Tryz.prog Γ)(h124:Γ 124=some S124):Con Tryz.prog 77 S77:=
 kcn h (fn:=Tryz.f77) inj77 fun ⟨F,Lv,U,S,W,nm⟩ h=>body77 Γ h124 F Lv U S W nm h.1 h.2
def e81:List Int×List Int→List AV:=fun (a,b)=>[.sl (a.map (AV.int .i64)) a.length,.sl (b.map (AV.int .i64)) b.length]
def p81:List Int×List Int→Prop:=fun (a,b)=>a.length≤4194304∧b.length≤4194304
def r81:List Int×List Int→AV:=fun (a,b)=>.bool (decide (a=b))
def g81:List Int×List Int→Z01:=fun (a,b)=>[]
theorem inj81:∀a b,e81 a=e81 b→a=b:=by
 rintro⟨a,b⟩ ⟨a',b'⟩ h
 simp only [e81,Z0g,Z0h,Z0k,Z0j,UInt8.toNat_inj,Z09,Z0c,Z0x,Z0o,Z1g,Z19,Z1L,Z0z,Z0A,List.cons.injEq] at h
 simp_all only
noncomputable def S81:Z0n:=Z5S e81 p81 r81 g81 true
theorem ps81(a b:List Int):Z5P e81 p81 [.sl (a.map (AV.int .i64)) a.length,.sl (b.map (AV.int .i64)) b.length]=(a.length≤4194304∧b.length≤4194304):=Z13 inj81 p81 (a,b)
theorem rs81(a b:List Int):Z2s e81 r81 .any [.sl (a.map (AV.int .i64)) a.length,.sl (b.map (AV.int .i64)) b.length]=(.bool (decide (a=b))):=Z0u inj81 r81 .any (a,b)
theorem hs81(a b:List Int):Z2s e81 g81 [] [.sl (a.map (AV.int .i64)) a.length,.sl (b.map (AV.int .i64)) b.length]=([]):=Z0u inj81 g81 [] (a,b)
attribute [push_cast] S81 ps81 rs81 hs81
theorem body81(Γ:Env)(a b:List Int)(ha:a.length≤4194304)(hb:b.length≤4194304):Z08 Tryz.prog Γ Tryz.f81 [.sl (a.map (AV.int .i64)) a.length,.sl (b.map (AV.int .i64)) b.length] [] (.bool (decide (a=b))) []:=by
 by_cases hl:a.length=b.length
 case neg=>
  have d0:decide ((a.length:Int)=(b.length:Int))=false:=decide_eq_false (by omega)
  have e:decide (a=b)=false:=decide_eq_false (fun h=>hl (by rw [h]))
  rw [e]
  refine stt 26 [.tmp 4] fun X hP hΓ hL hfin=>?_; refine gxq d0 ?_
  exact Z06.sameA
 have d0:decide ((a.length:Int)=(b.length:Int))=true:=decide_eq_true (by omega)
 refine stt 26 [.tmp 4] fun X hP hΓ hL hfin=>?_; refine gxq d0 ?_
 refine Z02.loopM (ι:={k:Nat // k≤a.length∧a.take k=b.take k}) [tt,tt,ff,ff,ff,ff,ff,ff,ff,ff,ff,ff,tt,ff,ff,ff,ff,ff,ff,ff,ff,ff,ff,ff,ff,ff] (fun i=>[(12,.int .i64 a.length),(13,.int .i64 i.1)]) (fun i=>[]) (fun i=>a.length - i.1) ⟨0,Nat.zero_le _,rfl⟩ ?_ ?_
 ·(rw [hL]; simp only [push_cast,Int.natCast_zero,]; exact Z06.sameA)
 rintro⟨k,hk,he⟩
 by_cases ck:k<a.length
 case neg=>
  have dk:decide ((k:Int)<(a.length:Int))=false:=decide_eq_false (by omega)
  have e:decide (a=b)=true:=by
   rw [List.take_of_length_le (by omega),List.take_of_length_le (by omega)] at he
   exact decide_eq_true he
  refine gxq (cj2 dk e) ?_
  exact Z06.sameA
 have dk:decide ((k:Int)<(a.length:Int))=true:=decide_eq_true (by omega)
 refine gxq dk ?_
 by_cases cv:a.getD k default=b.getD k default
 ·have dv:decide (a.getD k default=b.getD k default)=true:=decide_eq_true cv
  refine Z02.drawnQ smp (by kernel_rfl) (gwq dv ?_)
  refine⟨by omega,by omega,by omega,by omega,⟨k+1,ck,?_⟩,by simp only; omega,?_⟩
  ·rw [List.take_succ_eq_append_getElem ck,List.take_succ_eq_append_getElem (show k<b.length by omega),he]
   congr 1
   simpa [List.getD,ck,show k<b.length by omega] using cv
  rw [Z0t ((k:Int)+1) (by constructor <;> omega)]
  simp only [push_cast]
  exact Z06.sameA
 ·have dv:decide (a.getD k default=b.getD k default)=false:=decide_eq_false cv
  have e:decide (a=b)=false:=decide_eq_false (fun h=>cv (by rw [h]))
  refine Z02.drawnQ smp (by kernel_rfl) (gwq (cj2 dv e) ?_)
  refine⟨by omega,by omega,by omega,by omega,?_⟩
  exact Z06.sameA
theorem con81{Γ:Env}(h:Z07 Tryz.prog Γ):Con Tryz.prog 81 S81:=
 Z0V h (fn:=Tryz.f81) (by kernel_rfl) rfl (by kernel_rfl) inj81 (by first | (intro h; cases h; done) | exact fun _ _=>rfl) fun ⟨a,b⟩ h=>body81 Γ a b h.1 h.2
def alK(U:List Int)(use:Int)(l:List Int):Nat→List Int
 | 0=>[]
 | k+1=>if tAt U use l k then alK U use l k++[l.getD k default] else alK U use l k
theorem Z8d(U:List Int)(use:Int)(l:List Int):∀k,(alK U use l k).length≤k
 | 0=>Nat.le_refl _
 | k+1=>by
  have:=Z8d U use l k
  unfold alK; split
  ·rw [List.length_append]; simp only [List.length_singleton]; omega
  ·omega
theorem ZfT(U:List Int)(use:Int)(l:List Int):∀k,k≤l.length→(alK U use l k).length=k→(∀i,i<k→tAt U use l i)∧alK U use l k=l.take k
 | 0,_,_=>⟨fun i h=>absurd h (Nat.not_lt_zero i),rfl⟩
 | k+1,hk,h=>by
  have hl:=Z8d U use l k
  unfold alK at h ⊢
  split at h
  ·rename_i ht
   rw [List.length_append] at h
   simp only [List.length_singleton] at h
   obtain⟨h1,h2⟩:=ZfT U use l k (by omega) (by omega)
   refine⟨fun i hi=>?_,?_⟩
   ·rcases Nat.lt_succ_iff_lt_or_eq.1 hi with h' | rfl
    ·exact h1 i h'
    ·exact ht
   ·rw [if_pos ht,h2,List.take_succ_eq_append_getElem (by omega)]
    simp [List.getD,show k<l.length by omega]
  ·omega
theorem ZiB(U:List Int)(use:Int)(l:List Int):∀k,k≤l.length→(∀i,i<k→tAt U use l i)→alK U use l k=l.take k
 | 0,_,_=>rfl
 | k+1,hk,h=>by
  unfold alK
  rw [if_pos (h k (Nat.lt_succ_self k)),ZiB U use l k (by omega) (fun i hi=>h i (by omega)),List.take_succ_eq_append_getElem (by omega)]
  simp [List.getD,show k<l.length by omega]
theorem ZfS(U:List Int)(use:Int)(l:List Int):alK U use l l.length=l↔tOk U use l:=by
 constructor
 ·intro h
  exact (ZfT U use l l.length (Nat.le_refl _) (by rw [h])).1
 ·intro h
  rw [ZiB U use l l.length (Nat.le_refl _) h,List.take_length]
def k82:List Fl×List Int×List Int×List Sec×List Wr×List Int×Int→Ct:=fun (F,Lv,U,S,W,l,use)=>⟨([.ref 0 0 0,.sl (l.map (AV.int .i64)) l.length,.int .i64 use],Z0z F Lv U S W),l.length≤4194304∧U.length≤4194304,.sl ((alK U use l l.length).map (AV.int .i64)) (alK U use l l.length).length,Z0z F Lv U S W⟩
theorem inj82:∀a b,(k82 a).a=(k82 b).a→a=b:=by
 rintro⟨F,Lv,U,S,W,l,use⟩ ⟨F',Lv',U',S',W',l',use'⟩ h
 simp only [k82,Z0g,Z0h,Z0k,Z0j,UInt8.toNat_inj,Z09,Z0c,Z0x,Z0o,Z1g,Z19,Z1L,Z0z,Z0A,List.cons.injEq] at h
 simp_all only
noncomputable def S82:Z0n:=Z0W true k82
theorem ks82(F:List Fl)(Lv U:List Int)(S:List Sec)(W:List Wr)(l:List Int)(use:Int):KS k82 ([.ref 0 0 0,.sl (l.map (AV.int .i64)) l.length,.int .i64 use],Z0z F Lv U S W) (l.length≤4194304∧U.length≤4194304) (.sl ((alK U use l l.length).map (AV.int .i64)) (alK U use l l.length).length) (Z0z F Lv U S W):=kat inj82 (F,Lv,U,S,W,l,use)
attribute [push_cast] S82 ks82
theorem body82(Γ:Env)(h126:Γ 126=some S126)(F:List Fl)(Lv U:List Int)(S:List Sec)(W:List Wr)(l:List Int)(use:Int)(hl:l.length≤4194304)(hU:U.length≤4194304) :
  Z08 Tryz.prog Γ Tryz.f82 [.ref 0 0 0,.sl (l.map (AV.int .i64)) l.length,.int .i64 use] (Z0z F Lv U S W) (.sl ((alK U use l l.length).map (AV.int .i64)) (alK U use l l.length).length) (Z0z F Lv U S W):=by
 unfold Z0z
 refine stt 53 [.tmp 6] fun X hP hΓ hL hfin=>?_; refine Z0G ?_
 refine Z02.loopM (ι:={k:Nat // k≤l.length}) [tt,tt,tt,ff,ff,ff,tt,ff,ff,ff,tt,tt,ff,ff,ff,ff,ff,ff,ff,ff,ff,ff,ff,ff,ff,ff,ff,ff,ff,ff,ff,ff,ff,ff,ff,ff,ff,ff,ff,ff,ff,ff,ff,ff,ff,ff,ff,ff,ff,ff,ff,ff,ff] (fun i=>[(11,.int .i64 l.length),(12,.int .i64 i.1),(7,.msl 6 (alK U use l i.1).length 0 (alK U use l i.1).length)]) (fun i=>Z0z F Lv U S W++[.row ((alK U use l i.1).map (AV.int .i64)) 1 (alK U use l i.1).length]) (fun i=>l.length - i.1) ⟨0,Nat.zero_le _⟩ ?_ ?_
 ·rw [hL]
  unfold Z0z
  simp only [push_cast,alK,List.map_nil,List.length_nil]
  refine Z0q.nil 7  1 rfl (gsq ?_)
  exact Z06.sameA
 rintro⟨k,hk⟩
 unfold Z0z
 have hal:=Z8d U use l k
 by_cases ck:k<l.length
 case neg=>
  have dk:decide ((k:Int)<(l.length:Int))=false:=decide_eq_false (by omega)
  obtain rfl:k=l.length:=by omega
  refine gxq dk ?_
  refine Z0q.frz 6 smo smf (gsq ?_)
  rw [Zag]
  exact Z06.keep6A
 have dk:decide ((k:Int)<(l.length:Int))=true:=decide_eq_true (by omega)
 have hkl:(l.take k).length=k:=by rw [List.length_take]; omega
 have htk:List.take k (l.map (AV.int .i64))=(l.take k).map (AV.int .i64):=by rw [List.map_take]
 have hks:k - 0=k:=Nat.sub_zero k
 have ps:=ZgO (l.take k) (l.getD k default)
 have rs:=Zgk (l.take k) (l.getD k default)
 have gs:=Zhp (l.take k) (l.getD k default)
 rw [hkl] at ps rs gs
 have hc:(decide (0≤l.getD k default) && decide (l.getD k default<(U.length:Int)) && decide (U.getD (l.getD k default).toNat default=use) && !decide (l.getD k default∈l.take k))=decide (tAt U use l k):=by
  rw [Bool.eq_iff_iff]
  simp [tAt,and_assoc]
 by_cases ct:tAt U use l k
 ·have dt:decide (tAt U use l k)=true:=decide_eq_true ct
  have ea:alK U use l (k+1)=alK U use l k++[l.getD k default]:=by rw [alK,if_pos ct]
  ((first | with_reducible refine holds_of_ex X 400 _ _ _ ?_ | skip); simp (maxSteps:=1000000) only [push_cast,reduceCtorEq,Nat.reduceAdd,Nat.reduceMul,Nat.reduceSub,Nat.reduceBEq,Nat.reduceGT,Nat.reduceLT,Int.toNat_zero,Nat.reduceLeDiff,Int.reduceEq,Int.reduceLT,Int.reduceLE,hP,hΓ,hL,hfin,String.reduceEq,Int.toNat_one,Bool.not_not,dk,h126,htk,hks,ps,rs,gs,hc,dt,Bool.cond_self,List.map_nil])
  refine⟨by omega,by omega,fun h=>by (simp only [Bool.and_eq_true,decide_eq_true_eq] at h; omega),fun h=>by (simp only [Bool.and_eq_true,decide_eq_true_eq] at h; omega),fun h=>by omega,fun h=>by omega,by omega,⟨k+1,ck⟩,by simp only; omega,?_⟩
  rw [Z0t ((k:Int)+1) (by constructor <;> omega)]
  simp only [push_cast,ea,List.map_append,List.length_append,List.map_cons,List.map_nil,List.length_singleton]
  exact Z06.sameA
 ·have dt:decide (tAt U use l k)=false:=decide_eq_false ct
  have ea:alK U use l (k+1)=alK U use l k:=by rw [alK,if_neg ct]
  ((first | with_reducible refine holds_of_ex X 400 _ _ _ ?_ | skip); simp (maxSteps:=1000000) only [push_cast,reduceCtorEq,Nat.reduceAdd,Nat.reduceMul,Nat.reduceSub,Nat.reduceBEq,Nat.reduceGT,Nat.reduceLT,Int.toNat_zero,Nat.reduceLeDiff,Int.reduceEq,Int.reduceLT,Int.reduceLE,hP,hΓ,hL,hfin,String.reduceEq,Int.toNat_one,Bool.not_not,dk,h126,htk,hks,ps,rs,gs,hc,dt,Bool.cond_self,List.map_nil])
  refine⟨by omega,by omega,fun h=>by (simp only [Bool.and_eq_true,decide_eq_true_eq] at h; omega),fun h=>by (simp only [Bool.and_eq_true,decide_eq_true_eq] at h; omega),fun h=>by omega,fun h=>by omega,⟨k+1,ck⟩,by simp only; omega,?_⟩
  rw [Z0t ((k:Int)+1) (by constructor <;> omega)]
  simp only [push_cast,ea]
  exact Z06.sameA
theorem con82{Γ:Env}(h:Z07 Tryz.prog Γ)(h126:Γ 126=some S126):Con Tryz.prog 82 S82:=
 kcn h (fn:=Tryz.f82) inj82 fun ⟨F,Lv,U,S,W,l,u⟩ h=>body82 Γ h126 F Lv U S W l u h.1 h.2
end Go.Proofs.YtbnnhffkbcekcaaGreatDoor.dirDone
end
