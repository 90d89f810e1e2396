/- Parts of the walk through directories. Conditions stand in each. -/
import Derived.Test.YtbnnhffkbcekcaaGreatDoorGb
import Derived.Test.YtbnnhffkbcekcaaGreatDoorFg
import Derived.Lib.IndexLaws
set_option linter.unusedVariables false
set_option linter.unusedSimpArgs false
set_option maxRecDepth 100000
set_option maxHeartbeats 4000000
section
namespace Go.Proofs.YtbnnhffkbcekcaaGreatDoor.dirDone
open Go Go.Eng Go.Proofs Go.Lib
def gd(first:Bool)(c:UInt8):Bool:=(97≤c.toNat && c.toNat≤122 || 65≤c.toNat && c.toNat≤90) || !first && (48≤c.toNat && c.toNat≤57 || c.toNat == 46 || c.toNat == 95)
def Z34(l:List UInt8):Bool:=decide ((∀i<l.length,gd (decide (i=0)) (l.getD i 0)=true)∧l≠[]∧l.length≤23)
def e56:(List UInt8)→List AV:=fun l=>[.str l]
def p56:(List UInt8)→Prop:=fun l=>l.length≤9223372036854775807
def r56:(List UInt8)→AV:=fun l=>.bool (Z34 l)
def g56:(List UInt8)→Z01:=fun l=>[]
theorem inj56:∀a b,e56 a=e56 b→a=b:=by
 rintro l l' h
 simp only [e56,Z0g,Z0h,Z0k,Z0j,UInt8.toNat_inj,Z0A,List.cons.injEq] at h
 simp_all only
noncomputable def S56:Z0n:=Z5S e56 p56 r56 g56 true
theorem ps56(l:List UInt8):Z5P e56 p56 [.str l]=(l.length≤9223372036854775807):=Z13 inj56 p56 l
theorem rs56(l:List UInt8):Z2s e56 r56 .any [.str l]=(.bool (Z34 l)):=Z0u inj56 r56 .any l
theorem hs56(l:List UInt8):Z2s e56 g56 [] [.str l]=([]):=Z0u inj56 g56 [] l
attribute [push_cast] S56 ps56 rs56 hs56
theorem Z9R(Γ:Env)(l:List UInt8)(hl:l.length≤9223372036854775807):Z08 Tryz.prog Γ Tryz.f56 [.str l] [] (.bool (Z34 l)) []:=by
 refine stt 52 [.tmp 2] fun X hP hΓ hL hfin=>?_; refine Z0G ?_
 refine Z02.loop (ι:={ k:Nat // k≤l.length∧∀i<k,gd (decide (i=0)) (l.getD i 0)=true }) (fun k=>([.str l,.any,.any,.any,.any,.any,.any,.int .i64 l.length,.int .i64 k.1,.any,.any,.any,.any,.any,.any,.any,.any,.any,.any,.any,.any,.any,.any,.any,.any,.any,.any,.any,.any,.any,.any,.any,.any,.any,.any,.any,.any,.any,.any,.any,.any,.any,.any,.any,.any,.any,.any,.any,.any,.any,.any,.any],[])) (fun k=>l.length - k.1) ⟨0,Nat.zero_le _,by simp⟩ ?_ ?_
 ·rw [hL]; exact Z06.flat (by simp [leF]) rfl
 rintro⟨k,hk,hg⟩
 refine Z0G ?_
 refine Z0v (fun h=>?_) (fun h=>?_)
 ·refine Z0G ?_
  have hk':k<l.length:=by simpa using h
  refine⟨by omega,Z0v (fun h=>?_) (fun h=>?_)⟩
  ·refine Z0G ?_
   have hb:gd (decide (k=0)) (l.getD k 0)=false:=by
    rw [show decide ((k:Int)=0)=decide (k=0) by simp] at h
    generalize decide (k=0)=b at h ⊢
    generalize l.getD k 0=c at h ⊢
    rw [←Bool.not_eq_true']
    revert h; revert c
    cases b
    ·refine Z35 ?_; kernel_rfl
    ·refine Z35 ?_; kernel_rfl
   refine Z06.one ?_ (by rfl)
   congr 1
   symm
   simp only [Z34,decide_eq_false_iff_not]
   intro hh
   rw [hh.1 k hk'] at hb; cases hb
  ·refine Z0G ?_
   have hb:gd (decide (k=0)) (l.getD k 0)=true:=by
    rw [show decide ((k:Int)=0)=decide (k=0) by simp] at h
    generalize decide (k=0)=b at h ⊢
    generalize l.getD k 0=c at h ⊢
    rw [←Bool.not_eq_true'] at h
    revert h; revert c
    cases b
    ·refine Z35 ?_; kernel_rfl
    ·refine Z35 ?_; kernel_rfl
   rw [Zab _ (by omega)]
   refine⟨⟨k+1,hk',fun i hi=>?_⟩,by simp only; omega,Z06.flat (by simp [leF]) rfl⟩
   rcases Nat.lt_succ_iff_lt_or_eq.1 hi with h' | rfl
   ·exact hg i h'
   ·exact hb
 ·refine Z0G ?_
  refine Z06.one ?_ (by rfl)
  congr 1
  have hk':k=l.length:=by have:=(decide_eq_false_iff_not.1 h); omega
  subst hk'
  rw [Bool.eq_iff_iff]
  simp only [Z34,decide_eq_true_eq,Bool.and_eq_true,Bool.not_eq_true',beq_eq_false_iff_ne]
  constructor
  ·rintro⟨h1,h2⟩; exact⟨hg,h1,by omega⟩
  ·rintro⟨_,h1,h2⟩; exact⟨h1,by omega⟩
theorem con56{Γ:Env}(h:Z07 Tryz.prog Γ):Con Tryz.prog 56 S56:=
 Z0V h (fn:=Tryz.f56) (by kernel_rfl) rfl (by kernel_rfl) inj56 (by first | (intro h; cases h; done) | exact fun _ _=>rfl) fun l h=>Z9R Γ l h
def ZjX:(List UInt8)→List AV:=fun l=>[.str l]
def p109:(List UInt8)→Prop:=fun l=>l.length≤9223372036854775807
def Znn:(List UInt8)→AV:=fun l=>.bool (Z34 l)
def ZoK:(List UInt8)→Z01:=fun l=>[]
theorem inj109:∀a b,ZjX a=ZjX b→a=b:=by
 rintro l l' h
 simp only [ZjX,Z0g,Z0h,Z0k,Z0j,UInt8.toNat_inj,Z0A,List.cons.injEq] at h
 simp_all only
noncomputable def S109:Z0n:=Z5S ZjX p109 Znn ZoK true
theorem ZnC(l:List UInt8):Z5P ZjX p109 [.str l]=(l.length≤9223372036854775807):=Z13 inj109 p109 l
theorem Zn3(l:List UInt8):Z2s ZjX Znn .any [.str l]=(.bool (Z34 l)):=Z0u inj109 Znn .any l
theorem Zoq(l:List UInt8):Z2s ZjX ZoK [] [.str l]=([]):=Z0u inj109 ZoK [] l
attribute [push_cast] S109 ZnC Zn3 Zoq
theorem ZbL(Γ:Env)(l:List UInt8)(hl:l.length≤9223372036854775807):Z08 Tryz.prog Γ Tryz.f109 [.str l] [] (.bool (Z34 l)) []:=by
 refine stt 61 [.tmp 2] fun X hP hΓ hL hfin=>?_; refine Z0G ?_
 refine Z0v (fun h=>?_) (fun h=>?_)
 ·refine Z0G ?_
  refine Z06.one ?_ (by rfl)
  congr 1
  symm
  simp only [Z34,decide_eq_false_iff_not]
  rintro⟨_,h1,h2⟩
  simp [h1] at h; omega
 refine Z0G ?_
 have hs:l≠[]∧l.length≤23:=by simp at h; exact⟨h.1,by omega⟩
 refine Z02.loop (ι:={ k:Nat // k≤l.length∧∀i<k,gd (decide (i=0)) (l.getD i 0)=true }) (fun k=>([.str l,.any,.any,.int .i64 k.1,.any,.any,.any,.any,.any,.any,.any,.any,.any,.any,.any,.any,.any,.any,.any,.any,.any,.any,.any,.any,.any,.any,.any,.any,.any,.any,.any,.any,.any,.any,.any,.any,.any,.any,.any,.any,.any,.any,.any,.any,.any,.any,.any,.any,.any,.any,.any,.any,.any,.any,.any,.any,.any,.any,.any,.any,.any],[])) (fun k=>l.length - k.1) ⟨0,Nat.zero_le _,by simp⟩ ?_ ?_
 ·rw [hL]; exact Z06.flat (by simp [leF]) rfl
 rintro⟨k,hk,hg⟩
 refine Z0G ?_
 refine Z0v (fun h=>?_) (fun h=>?_)
 ·refine Z0G ?_
  have hk':k<l.length:=by simpa using h
  refine⟨by omega,Z0v (fun h=>?_) (fun h=>?_)⟩
  ·refine Z0G ?_
   have hb:gd (decide (k=0)) (l.getD k 0)=false:=by
    rw [show decide ((k:Int)=0)=decide (k=0) by simp] at h
    generalize decide (k=0)=b at h ⊢
    generalize l.getD k 0=c at h ⊢
    rw [←Bool.not_eq_true']
    revert h; revert c
    cases b
    ·refine Z35 ?_; kernel_rfl
    ·refine Z35 ?_; kernel_rfl
   refine Z06.one ?_ (by rfl)
   congr 1
   symm
   simp only [Z34,decide_eq_false_iff_not]
   intro hh
   rw [hh.1 k hk'] at hb; cases hb
  ·refine Z0G ?_
   have hb:gd (decide (k=0)) (l.getD k 0)=true:=by
    rw [show decide ((k:Int)=0)=decide (k=0) by simp] at h
    generalize decide (k=0)=b at h ⊢
    generalize l.getD k 0=c at h ⊢
    rw [←Bool.not_eq_true'] at h
    revert h; revert c
    cases b
    ·refine Z35 ?_; kernel_rfl
    ·refine Z35 ?_; kernel_rfl
   rw [Zab _ (by omega)]
   refine⟨⟨k+1,hk',fun i hi=>?_⟩,by simp only; omega,Z06.flat (by simp [leF]) rfl⟩
   rcases Nat.lt_succ_iff_lt_or_eq.1 hi with h' | rfl
   ·exact hg i h'
   ·exact hb
 ·refine Z0G ?_
  refine Z06.one ?_ (by rfl)
  congr 1
  have hk':k=l.length:=by have:=(decide_eq_false_iff_not.1 h); omega
  subst hk'
  symm
  simp only [Z34,decide_eq_true_eq]
  exact⟨hg,hs⟩
theorem con109{Γ:Env}(h:Z07 Tryz.prog Γ):Con Tryz.prog 109 S109:=
 Z0V h (fn:=Tryz.f109) (by kernel_rfl) rfl (by kernel_rfl) inj109 (by first | (intro h; cases h; done) | exact fun _ _=>rfl) fun l h=>ZbL Γ l h
def Zl9(xs:List AV):Prop:=match xs with
 | [.str l,.int .u8 n]=>(∃c:UInt8,n=c.toNat)∧l.length≤4194304
 | _=>False
def ixR(xs:List AV):AV:=match xs with
 | [.str l,.int _ n]=>.int .i64 (indexByte l n.toNat.toUInt8)
 | _=>.any
def ixS:Z0n:=Z6k Zl9 ixR (fun _=>[]) true
theorem one0:decide ((0:Int)+1=0)=false:=by decide
theorem one1:decide ((0:Int)+1=1)=true:=by decide
theorem oneN(c:UInt8):([c] == ([]:List UInt8))=false:=rfl
theorem ZfL(c:UInt8):c.toNat.toUInt8=c:=by simp
attribute [push_cast] one0 one1 oneN Zl9 ixR ixS ZfL
theorem con185:Con Tryz.prog 185 ixS:=by
 refine Con.ofExt (fun xs hx=>?_) fun m w xs vs hc hx=>?_
 ·unfold Zl9 at hx
  split at hx
  ·exact⟨_,_,rfl⟩
  ·exact hx.elim
 ·unfold Zl9 at hx
  split at hx
  ·rename_i l n
   simp only [Z0a,Z03] at hc
   obtain⟨v1,vs,rfl,rfl,v2,vs,rfl,rfl,rfl⟩:=hc
   refine⟨.int .i64 (indexByte l n.toNat.toUInt8),?_,by simp [ixR,Z03]⟩
   rw [run_callFunc_extern Tryz.func185 (by kernel_rfl) (by kernel_rfl) (by kernel_rfl) (e:=Extern.BytealgIndexByte.indexByte) (by kernel_rfl),Lib.run_indexByteString]
   rfl
  ·exact hx.elim
theorem Zkb(Γ:Env)(h185:Γ 185=some ixS)(l:List UInt8)(c:UInt8)(hl:l.length≤4194304):Z08 Tryz.prog Γ Tryz.f178 [.str l,.int .u8 c.toNat] [] (.int .i64 (indexByte l c)) []:=by
 refine stt 8 [.tmp 4] fun X hP hΓ hL hfin=>?_; refine gxq h185 ?_
 exact⟨⟨⟨c,rfl⟩,hl⟩,Z06.one rfl rfl⟩
theorem con178{Γ:Env}(h:Z07 Tryz.prog Γ)(h185:Γ 185=some ixS):Con Tryz.prog 178 ixS:=by
 refine Con.of_body h (fn:=Tryz.f178) (by kernel_rfl) rfl (by kernel_rfl) (fun _ _=>rfl) fun xs hx=>?_
 unfold Zl9 at hx
 split at hx
 ·obtain⟨⟨c,rfl⟩,hl⟩:=hx
  have:=Zkb Γ h185 _ c hl
  simpa [ixR] using this
 ·exact hx.elim
def ZjG:List UInt8×(UInt8)→List AV:=fun (l,c)=>[.str l,.str [c]]
def ZnG:List UInt8×(UInt8)→Prop:=fun (l,c)=>l.length≤4194304
def Zn7:List UInt8×(UInt8)→AV:=fun (l,c)=>.int .i64 (indexByte l c)
def Zou:List UInt8×(UInt8)→Z01:=fun (l,c)=>[]
theorem inj173:∀a b,ZjG a=ZjG b→a=b:=by
 rintro⟨l,c⟩ ⟨l',c'⟩ h
 simp only [ZjG,Z0g,Z0h,Z0k,Z0j,UInt8.toNat_inj,Z0A,List.cons.injEq] at h
 simp_all only
noncomputable def S173:Z0n:=Z5S ZjG ZnG Zn7 Zou true
theorem Znq(l:List UInt8)(c:(UInt8)):Z5P ZjG ZnG [.str l,.str [c]]=(l.length≤4194304):=Z13 inj173 ZnG (l,c)
theorem ZmS(l:List UInt8)(c:(UInt8)):Z2s ZjG Zn7 .any [.str l,.str [c]]=(.int .i64 (indexByte l c)):=Z0u inj173 Zn7 .any (l,c)
theorem Zod(l:List UInt8)(c:(UInt8)):Z2s ZjG Zou [] [.str l,.str [c]]=([]):=Z0u inj173 Zou [] (l,c)
attribute [push_cast] S173 Znq ZmS Zod
theorem ZiK(Γ:Env)(h178:Γ 178=some ixS)(l:List UInt8)(c:UInt8)(hl:l.length≤4194304):Z08 Tryz.prog Γ Tryz.f173 [.str l,.str [c]] [] (.int .i64 (indexByte l c)) []:=by
 refine stt 143 [.tmp 4] fun X hP hΓ hL hfin=>?_; refine gxq h178 ?_
 refine Z0v (fun h=>?_) (fun h=>?_)
 ·refine Z0G ?_
  have e:l=[c]:=(eq_of_beq h).symm
  subst e
  exact Z06.one (by simp [indexByte]) rfl
 ·refine gxq h178 ?_
  exact⟨by omega,⟨⟨c,rfl⟩,hl⟩,Z06.one rfl rfl⟩
theorem con173{Γ:Env}(h:Z07 Tryz.prog Γ)(h178:Γ 178=some ixS):Con Tryz.prog 173 S173:=
 Z0V h (fn:=Tryz.f173) (by kernel_rfl) rfl (by kernel_rfl) inj173 (by first | (intro h; cases h; done) | exact fun _ _=>rfl) fun ⟨l,c⟩ h=>ZiK Γ h178 l c h
def Z99(l:List UInt8)(c:UInt8):List UInt8:=if indexByte l c<0 then l else l.take (indexByte l c).toNat
def Za3(l:List UInt8)(c:UInt8):List UInt8:=if indexByte l c<0 then [] else l.drop ((indexByte l c).toNat+1)
def ZjJ:List UInt8×(UInt8)→List AV:=fun (l,c)=>[.str l,.str [c]]
def ZnJ:List UInt8×(UInt8)→Prop:=fun (l,c)=>l.length≤4194304
def Zna:List UInt8×(UInt8)→AV:=fun (l,c)=>.tup [.str (Z99 l c),.str (Za3 l c),.bool (decide (0≤indexByte l c))]
def Zox:List UInt8×(UInt8)→Z01:=fun (l,c)=>[]
theorem inj164:∀a b,ZjJ a=ZjJ b→a=b:=by
 rintro⟨l,c⟩ ⟨l',c'⟩ h
 simp only [ZjJ,Z0g,Z0h,Z0k,Z0j,UInt8.toNat_inj,Z0A,List.cons.injEq] at h
 simp_all only
noncomputable def S164:Z0n:=Z5S ZjJ ZnJ Zna Zox true
theorem Znt(l:List UInt8)(c:(UInt8)):Z5P ZjJ ZnJ [.str l,.str [c]]=(l.length≤4194304):=Z13 inj164 ZnJ (l,c)
theorem ZmV(l:List UInt8)(c:(UInt8)):Z2s ZjJ Zna .any [.str l,.str [c]]=(.tup [.str (Z99 l c),.str (Za3 l c),.bool (decide (0≤indexByte l c))]):=Z0u inj164 Zna .any (l,c)
theorem Zog(l:List UInt8)(c:(UInt8)):Z2s ZjJ Zox [] [.str l,.str [c]]=([]):=Z0u inj164 Zox [] (l,c)
attribute [push_cast] S164 Znt ZmV Zog
theorem body164(Γ:Env)(h173:Γ 173=some S173)(l:List UInt8)(c:UInt8)(hl:l.length≤4194304):Z08 Tryz.prog Γ Tryz.f164 [.str l,.str [c]] [] (.tup [.str (Z99 l c),.str (Za3 l c),.bool (decide (0≤indexByte l c))]) []:=by
 have hlt:indexByte l c<0∨∃k:Nat,indexByte l c=k∧k<l.length:=by
  by_cases h:indexByte l c<0
  ·exact .inl h
  ·obtain⟨k,hk⟩:=Int.eq_ofNat_of_zero_le (show 0≤indexByte l c by omega)
   have:=(indexByte_some hk).1
   exact .inr ⟨k,hk,(List.getElem?_eq_some_iff.1 this).1⟩
 rcases hlt with h | ⟨k,hk,hkl⟩
 ·have d0:decide (0≤indexByte l c)=false:=decide_eq_false (by omega)
  have e1:Z99 l c=l:=by unfold Z99; rw [if_pos h]
  have e2:Za3 l c=[]:=by unfold Za3; rw [if_pos h]
  rw [e1,e2,d0]
  refine stt 23 [.tmp 4,.tmp 5,.tmp 6] fun X hP hΓ hL hfin=>?_; refine gxq (cj2 h173 d0) ?_
  refine⟨hl,?_⟩
  exact Z06.sameA
 ·have e1:Z99 l c=l.take k:=by unfold Z99; rw [hk,if_neg (by omega)]; rfl
  have e2:Za3 l c=l.drop (k+1):=by unfold Za3; rw [hk,if_neg (by omega)]; rfl
  have d0:decide ((0:Int)≤(k:Int))=true:=decide_eq_true (by omega)
  have w1:IntKind.i64.wrap ((k:Int)+(0+1))=((k+1:Nat):Int):=by rw [Z0t _ (by constructor <;> omega)]; omega
  rw [e1,e2,hk,d0]
  refine stt 23 [.tmp 4,.tmp 5,.tmp 6] fun X hP hΓ hL hfin=>?_; refine gxq (cj4 h173 hk d0 w1) ?_
  refine⟨hl,?_⟩
  refine Z02.drawnQ smp (by kernel_rfl) (gwq (cj3 hk w1 @Int.toNat_natCast) ?_)
  refine⟨by omega,⟨by omega,by omega,by omega⟩,?_⟩
  rw [List.take_length]
  exact Z06.sameA
theorem con164{Γ:Env}(h:Z07 Tryz.prog Γ)(h173:Γ 173=some S173):Con Tryz.prog 164 S164:=
 Z0V h (fn:=Tryz.f164) (by kernel_rfl) rfl (by kernel_rfl) inj164 (by first | (intro h; cases h; done) | exact fun _ _=>rfl) fun ⟨l,c⟩ h=>body164 Γ h173 l c h
def ZjL:List UInt8×(UInt8)→List AV:=fun (l,c)=>[.str l,.str [c]]
def ZnL:List UInt8×(UInt8)→Prop:=fun (l,c)=>l.length≤4194304
def Znc:List UInt8×(UInt8)→AV:=fun (l,c)=>.tup [.str (Z99 l c),.str (Za3 l c),.bool (decide (0≤indexByte l c))]
def Zoz:List UInt8×(UInt8)→Z01:=fun (l,c)=>[]
theorem inj156:∀a b,ZjL a=ZjL b→a=b:=by
 rintro⟨l,c⟩ ⟨l',c'⟩ h
 simp only [ZjL,Z0g,Z0h,Z0k,Z0j,UInt8.toNat_inj,Z0A,List.cons.injEq] at h
 simp_all only
noncomputable def S156:Z0n:=Z5S ZjL ZnL Znc Zoz true
theorem Znv(l:List UInt8)(c:(UInt8)):Z5P ZjL ZnL [.str l,.str [c]]=(l.length≤4194304):=Z13 inj156 ZnL (l,c)
theorem ZmX(l:List UInt8)(c:(UInt8)):Z2s ZjL Znc .any [.str l,.str [c]]=(.tup [.str (Z99 l c),.str (Za3 l c),.bool (decide (0≤indexByte l c))]):=Z0u inj156 Znc .any (l,c)
theorem Zoi(l:List UInt8)(c:(UInt8)):Z2s ZjL Zoz [] [.str l,.str [c]]=([]):=Z0u inj156 Zoz [] (l,c)
attribute [push_cast] S156 Znv ZmX Zoi
theorem body156(Γ:Env)(h164:Γ 164=some S164)(l:List UInt8)(c:UInt8)(hl:l.length≤4194304):Z08 Tryz.prog Γ Tryz.f156 [.str l,.str [c]] [] (.tup [.str (Z99 l c),.str (Za3 l c),.bool (decide (0≤indexByte l c))]) []:=by
 refine stt 13 [.tmp 4,.tmp 5,.tmp 6] fun X hP hΓ hL hfin=>?_; refine gxq h164 ?_
 refine⟨hl,?_⟩
 exact Z06.sameA
theorem con156{Γ:Env}(h:Z07 Tryz.prog Γ)(h164:Γ 164=some S164):Con Tryz.prog 156 S156:=
 Z0V h (fn:=Tryz.f156) (by kernel_rfl) rfl (by kernel_rfl) inj156 (by first | (intro h; cases h; done) | exact fun _ _=>rfl) fun ⟨l,c⟩ h=>body156 Γ h164 l c h
def Z3d(c:UInt8)(l:List UInt8):List UInt8:=l.dropWhile (· == c)
def Z2W(c:UInt8)(l:List UInt8):List UInt8:=(l.reverse.dropWhile (· == c)).reverse
theorem Zbg(c:UInt8)(l:List UInt8)(k:Nat)(h:k<l.length)(hc:l.getD k 0=c):Z3d c (l.drop (k+1))=Z3d c (l.drop k):=by
 have e:l.drop k=l.getD k 0::l.drop (k+1):=by rw [List.drop_eq_getElem_cons h]; simp [List.getD,h]
 rw [e,hc]; unfold Z3d; simp
theorem Zcd(c:UInt8)(l:List UInt8)(k:Nat)(h:k<l.length)(hc:l.getD k 0≠c):Z3d c (l.drop k)=l.drop k:=by
 have e:l.drop k=l.getD k 0::l.drop (k+1):=by rw [List.drop_eq_getElem_cons h]; simp [List.getD,h]
 rw [e]; unfold Z3d; rw [List.dropWhile_cons_of_neg (by simpa using hc)]
theorem Zbf(c:UInt8)(l:List UInt8)(k:Nat)(h:k<l.length)(hc:l.getD k 0=c):Z2W c (l.take (k+1))=Z2W c (l.take k):=by
 have e:l.take (k+1)=l.take k++[l.getD k 0]:=by rw [List.take_succ_eq_append_getElem h]; simp [List.getD,h]
 rw [e,hc]; unfold Z2W; simp
theorem Zcc(c:UInt8)(l:List UInt8)(k:Nat)(h:k<l.length)(hc:l.getD k 0≠c):Z2W c (l.take (k+1))=l.take (k+1):=by
 have e:l.take (k+1)=l.take k++[l.getD k 0]:=by rw [List.take_succ_eq_append_getElem h]; simp [List.getD,h]
 rw [e]; unfold Z2W; rw [List.reverse_append,List.reverse_singleton,List.singleton_append,List.dropWhile_cons_of_neg (by simpa using hc)]; simp
def ZjI:List UInt8×(UInt8)→List AV:=fun (l,c)=>[.str l,.int .u8 c.toNat]
def ZnI:List UInt8×(UInt8)→Prop:=fun (l,c)=>l.length≤4194304
def Zn9:List UInt8×(UInt8)→AV:=fun (l,c)=>.str (Z3d c l)
def Zow:List UInt8×(UInt8)→Z01:=fun (l,c)=>[]
theorem inj165:∀a b,ZjI a=ZjI b→a=b:=by
 rintro⟨l,c⟩ ⟨l',c'⟩ h
 simp only [ZjI,Z0g,Z0h,Z0k,Z0j,UInt8.toNat_inj,Z0A,List.cons.injEq] at h
 simp_all only
noncomputable def S165:Z0n:=Z5S ZjI ZnI Zn9 Zow true
theorem Zns(l:List UInt8)(c:(UInt8)):Z5P ZjI ZnI [.str l,.int .u8 c.toNat]=(l.length≤4194304):=Z13 inj165 ZnI (l,c)
theorem ZmU(l:List UInt8)(c:(UInt8)):Z2s ZjI Zn9 .any [.str l,.int .u8 c.toNat]=(.str (Z3d c l)):=Z0u inj165 Zn9 .any (l,c)
theorem Zof(l:List UInt8)(c:(UInt8)):Z2s ZjI Zow [] [.str l,.int .u8 c.toNat]=([]):=Z0u inj165 Zow [] (l,c)
attribute [push_cast] S165 Zns ZmU Zof
theorem body165(Γ:Env)(l:List UInt8)(c:UInt8)(hl:l.length≤4194304):Z08 Tryz.prog Γ Tryz.f165 [.str l,.int .u8 c.toNat] [] (.str (Z3d c l)) []:=by
 refine stt 17 [.tmp 4] fun X hP hΓ hL hfin=>?_; refine Z0G ?_
 refine Z02.loopM (ι:={k:Nat // k≤l.length∧Z3d c (l.drop k)=Z3d c l}) [ff,tt,ff,ff,tt,ff,ff,ff,ff,ff,ff,ff,ff,ff,ff,ff,ff] (fun i=>[(0,.str (l.drop i.1))]) (fun i=>[]) (fun i=>l.length - i.1) ⟨0,Nat.zero_le _,rfl⟩ ?_ ?_
 ·(rw [hL]; simp only [push_cast,Int.natCast_zero,]; exact Z06.sameA)
 rintro⟨k,hk,hg⟩
 by_cases c0:k<l.length
 case neg=>
  have d0:decide ((0:Int)<((l.length - k:Nat):Int))=false:=decide_eq_false (by omega)
  have e:l.drop k=[]:=List.drop_eq_nil_of_le (by omega)
  refine gxq d0 ?_
  rw [←hg,e]
  exact Z06.sameA
 have d0:decide ((0:Int)<((l.length - k:Nat):Int))=true:=decide_eq_true (by omega)
 have g0:(l.drop k).getD 0 0=l.getD k 0:=by simp [List.getD,List.getElem?_drop]
 by_cases c1:l.getD k 0=c
 ·refine gxq (cj3 d0 g0 c1) ?_
  refine⟨by omega,by omega,⟨k+1,c0,by rw [Zbg c l k c0 c1]; exact hg⟩,by simp only; omega,?_⟩
  have e:(List.take (l.length - k) (List.drop k l)).drop 1=l.drop (k+1):=by
   rw [List.take_of_length_le (by rw [List.length_drop]; exact Nat.le_refl _),List.drop_drop]
  rw [e]
  exact Z06.sameA
 ·have d1:decide (((l.getD k 0).toNat:Int)=(c.toNat:Int))=false:=decide_eq_false (fun h=>c1 (UInt8.toNat_inj.1 (by omega)))
  refine gxq (cj3 d0 g0 d1) ?_
  refine⟨by omega,?_⟩
  rw [←hg,Zcd c l k c0 c1]
  exact Z06.sameA
theorem con165{Γ:Env}(h:Z07 Tryz.prog Γ):Con Tryz.prog 165 S165:=
 Z0V h (fn:=Tryz.f165) (by kernel_rfl) rfl (by kernel_rfl) inj165 (by first | (intro h; cases h; done) | exact fun _ _=>rfl) fun ⟨l,c⟩ h=>body165 Γ l c h
def ZjH:List UInt8×(UInt8)→List AV:=fun (l,c)=>[.str l,.int .u8 c.toNat]
def ZnH:List UInt8×(UInt8)→Prop:=fun (l,c)=>l.length≤4194304
def Zn8:List UInt8×(UInt8)→AV:=fun (l,c)=>.str (Z2W c l)
def Zov:List UInt8×(UInt8)→Z01:=fun (l,c)=>[]
theorem inj166:∀a b,ZjH a=ZjH b→a=b:=by
 rintro⟨l,c⟩ ⟨l',c'⟩ h
 simp only [ZjH,Z0g,Z0h,Z0k,Z0j,UInt8.toNat_inj,Z0A,List.cons.injEq] at h
 simp_all only
noncomputable def S166:Z0n:=Z5S ZjH ZnH Zn8 Zov true
theorem Znr(l:List UInt8)(c:(UInt8)):Z5P ZjH ZnH [.str l,.int .u8 c.toNat]=(l.length≤4194304):=Z13 inj166 ZnH (l,c)
theorem ZmT(l:List UInt8)(c:(UInt8)):Z2s ZjH Zn8 .any [.str l,.int .u8 c.toNat]=(.str (Z2W c l)):=Z0u inj166 Zn8 .any (l,c)
theorem Zoe(l:List UInt8)(c:(UInt8)):Z2s ZjH Zov [] [.str l,.int .u8 c.toNat]=([]):=Z0u inj166 Zov [] (l,c)
attribute [push_cast] S166 Znr ZmT Zoe
theorem body166(Γ:Env)(l:List UInt8)(c:UInt8)(hl:l.length≤4194304):Z08 Tryz.prog Γ Tryz.f166 [.str l,.int .u8 c.toNat] [] (.str (Z2W c l)) []:=by
 refine stt 23 [.tmp 4] fun X hP hΓ hL hfin=>?_; refine Z0G ?_
 refine Z02.loopM (ι:={k:Nat // k≤l.length∧Z2W c (l.take k)=Z2W c l}) [ff,tt,ff,ff,tt,ff,ff,ff,ff,ff,ff,ff,ff,ff,ff,ff,ff,ff,ff,ff,ff,ff,ff] (fun i=>[(0,.str (l.take i.1))]) (fun i=>[]) (fun i=>i.1) ⟨l.length,Nat.le_refl _,by rw [List.take_length]⟩ ?_ ?_
 ·rw [hL,List.take_length]
  exact Z06.sameA
 rintro⟨k,hk,hg⟩
 cases k with
 | zero=>
  have e:l.take 0=[]:=List.take_zero
  rw [e] at hg
  refine gxq e ?_
  rw [←hg]
  exact Z06.sameA
 | succ k=>
 have hm:(l.take (k+1)).length=k+1:=by rw [List.length_take]; omega
 have d0:decide ((0:Int)<(k:Int)+1)=true:=decide_eq_true (by omega)
 have g0:(l.take (k+1)).getD k 0=l.getD k 0:=by simp [List.getD,List.getElem?_take]
 have w1:IntKind.i64.wrap ((k:Int)+1 - 1)=(k:Int):=by rw [Z0t _ (by constructor <;> omega)]; omega
 have hmn:min (k+1) l.length=k+1:=by omega
 by_cases c1:l.getD k 0=c
 ·refine gxq (cj5 hmn d0 w1 g0 c1) ?_
  refine⟨by omega,by omega,⟨k,by omega,by rw [←Zbf c l k (by omega) c1]; exact hg⟩,by simp only; omega,?_⟩
  have e:List.take k (List.take (k+1) l)=l.take k:=by rw [List.take_take,Nat.min_eq_left (by omega)]
  rw [e]
  exact Z06.sameA
 ·have d1:decide (((l.getD k 0).toNat:Int)=(c.toNat:Int))=false:=decide_eq_false (fun h=>c1 (UInt8.toNat_inj.1 (by omega)))
  refine gxq (cj5 hmn d0 w1 g0 d1) ?_
  refine⟨by omega,?_⟩
  rw [←hg,Zcc c l k (by omega) c1]
  exact Z06.sameA
theorem con166{Γ:Env}(h:Z07 Tryz.prog Γ):Con Tryz.prog 166 S166:=
 Z0V h (fn:=Tryz.f166) (by kernel_rfl) rfl (by kernel_rfl) inj166 (by first | (intro h; cases h; done) | exact fun _ _=>rfl) fun ⟨l,c⟩ h=>body166 Γ l c h
theorem Zcb(c:UInt8)(l:List UInt8):(Z2W c l).length≤l.length:=by
 unfold Z2W
 rw [List.length_reverse]
 exact Nat.le_trans (List.dropWhile_suffix _).length_le (by rw [List.length_reverse]; exact Nat.le_refl _)
def ZjK:List UInt8×(UInt8)→List AV:=fun (l,c)=>[.str l,.str [c]]
def ZnK:List UInt8×(UInt8)→Prop:=fun (l,c)=>l.length≤4194304∧c.toNat<128
def Znb:List UInt8×(UInt8)→AV:=fun (l,c)=>.str (Z3d c (Z2W c l))
def Zoy:List UInt8×(UInt8)→Z01:=fun (l,c)=>[]
theorem inj157:∀a b,ZjK a=ZjK b→a=b:=by
 rintro⟨l,c⟩ ⟨l',c'⟩ h
 simp only [ZjK,Z0g,Z0h,Z0k,Z0j,UInt8.toNat_inj,Z0A,List.cons.injEq] at h
 simp_all only
noncomputable def S157:Z0n:=Z5S ZjK ZnK Znb Zoy true
theorem Znu(l:List UInt8)(c:(UInt8)):Z5P ZjK ZnK [.str l,.str [c]]=(l.length≤4194304∧c.toNat<128):=Z13 inj157 ZnK (l,c)
theorem ZmW(l:List UInt8)(c:(UInt8)):Z2s ZjK Znb .any [.str l,.str [c]]=(.str (Z3d c (Z2W c l))):=Z0u inj157 Znb .any (l,c)
theorem Zoh(l:List UInt8)(c:(UInt8)):Z2s ZjK Zoy [] [.str l,.str [c]]=([]):=Z0u inj157 Zoy [] (l,c)
attribute [push_cast] S157 Znu ZmW Zoh
theorem body157(Γ:Env)(h165:Γ 165=some S165)(h166:Γ 166=some S166)(l:List UInt8)(c:UInt8)(hl:l.length≤4194304)(hc:c.toNat<128):Z08 Tryz.prog Γ Tryz.f157 [.str l,.str [c]] [] (.str (Z3d c (Z2W c l))) []:=by
 have hc':decide ((c.toNat:Int)<128)=true:=decide_eq_true (by omega)
 have hr:=Zcb c l
 by_cases hn:l=[]
 ·subst hn
  have e:Z3d c (Z2W c [])=[]:=rfl
  rw [e]
  refine stt 43 [.tmp 4] fun X hP hΓ hL hfin=>?_; refine gxq (cj3 h165 h166 hc') ?_
  exact Z06.sameA
 have hb:(l == ([]:List UInt8))=false:=by simpa using hn
 refine stt 43 [.tmp 4] fun X hP hΓ hL hfin=>?_; refine gxq (cj4 h165 h166 hc' hb) ?_
 refine⟨by omega,?_⟩
 refine Z02.drawnQ smp (by kernel_rfl) (gwq (cj2 h165 h166) ?_)
 refine⟨by omega,hl,by omega,by omega,?_⟩
 exact Z06.sameA
theorem con157{Γ:Env}(h:Z07 Tryz.prog Γ)(h165:Γ 165=some S165)(h166:Γ 166=some S166):Con Tryz.prog 157 S157:=
 Z0V h (fn:=Tryz.f157) (by kernel_rfl) rfl (by kernel_rfl) inj157 (by first | (intro h; cases h; done) | exact fun _ _=>rfl) fun ⟨l,c⟩ h=>body157 Γ h165 h166 l c h.1 h.2
structure Fl where
 nm:List UInt8
 hd:Int
 ln:Int
 se:List Int
 deriving Inhabited,DecidableEq
def flC(f:Fl):List AV:=[.str f.nm,.int .i64 f.hd,.int .i64 f.ln,.sl (f.se.map (AV.int .i64)) f.se.length]
instance:Z22 flC 4:=⟨fun _=>rfl⟩
instance:Z1U flC:=⟨fun x=>by simp only [flC,Z1G,Z0s,Z1a,Bool.and_self],fun x=>rfl⟩
theorem Zii:∀{a b:List Fl},a.flatMap flC=b.flatMap flC→a=b
 | [],[],_=>rfl
 | [],y::b,h=>by simp [flC] at h
 | x::a,[],h=>by simp [flC] at h
 | x::a,y::b,h=>by
  simp only [List.flatMap_cons,flC,List.cons_append,List.nil_append,List.cons.injEq,AV.str.injEq,AV.int.injEq,true_and,AV.sl.injEq,Z0g,Int.natCast_inj] at h
  obtain⟨h1,h2,h3,⟨h4,_⟩,h5⟩:=h
  obtain⟨a1,a2,a3,a4⟩:=x
  obtain⟨b1,b2,b3,b4⟩:=y
  simp only at h1 h2 h3 h4
  rw [Zii h5,h1,h2,h3,h4]
theorem Z0x{a b:List Fl}:a.flatMap flC=b.flatMap flC↔a=b:=⟨Zii,fun h=>by rw [h]⟩
def Z19(F:List Fl)(Lv U:List Int)(S:List Sec)(W:List Wr):Z01:=[.row [.ref 1 0 0,.msl 2 F.length 0 F.length,.msl 3 Lv.length 0 Lv.length,.msl 4 0 0 U.length] 4 0,.row [.msl 5 0 0 S.length,.msl 6 W.length 0 W.length] 2 0,.row (F.flatMap flC) 4 F.length,.row (Lv.map (AV.int .i64)) 1 Lv.length,.row (U.map (AV.int .i64)) 1 0,.row (S.flatMap Z1T) 1024 0,.row (W.flatMap wrC) 1025 W.length]
def k139:List UInt8×Int→Ct:=fun (b,n)=>⟨([.sl (b.map Z05) b.length,.int .i64 n],[]),True,.fn (.func 155) [] [.ref 0 0 0,.ref 1 0 0],[.row [.int .i64 n] 1 0,.row [.sl (b.map Z05) b.length] 1 0]⟩
theorem inj139:∀a b,(k139 a).a=(k139 b).a→a=b:=by
 rintro⟨b,n⟩ ⟨b',n'⟩ h
 simp only [k139,Z0g,Z0h,Z0k,Z0j,UInt8.toNat_inj,Z09,Z0c,Z0x,Z0o,Z1g,Z19,Z0A,List.cons.injEq] at h
 simp_all only
noncomputable def S139:Z0n:=Z0W true k139
theorem ks139(b:List UInt8)(n:Int):KS k139 ([.sl (b.map Z05) b.length,.int .i64 n],[]) (True) (.fn (.func 155) [] [.ref 0 0 0,.ref 1 0 0]) ([.row [.int .i64 n] 1 0,.row [.sl (b.map Z05) b.length] 1 0]):=kat inj139 (b,n)
attribute [push_cast] S139 ks139
theorem body139(Γ:Env)(b:List UInt8)(n:Int):Z08 Tryz.prog Γ Tryz.f139 [.sl (b.map Z05) b.length,.int .i64 n] [] (.fn (.func 155) [] [.ref 0 0 0,.ref 1 0 0]) [.row [.int .i64 n] 1 0,.row [.sl (b.map Z05) b.length] 1 0]:=by
 refine stt 6 [.tmp 4] fun X hP hΓ hL hfin=>?_; refine Z0G ?_
 exact Z0q.base [1,0] ⟨sml,smr,(by decide),(by first | rfl | decide),sm,sm⟩ smd
theorem con139{Γ:Env}(h:Z07 Tryz.prog Γ):Con Tryz.prog 139 S139:=
 kcn h (fn:=Tryz.f139) inj139 fun ⟨b,n⟩ _=>body139 Γ b n
def enB(b:List UInt8)(i:Nat):List UInt8:=(b.drop (8+32*i)).take 24
def enN(b:List UInt8)(i:Nat):List UInt8:=Z99 (enB b i) 0
def enR(b:List UInt8)(i:Nat):List UInt8:=Za3 (enB b i) 0
def enH(b:List UInt8)(i:Nat):Int:=getW b (4*((8+32*i+24) / 4))
def enL(b:List UInt8)(i:Nat):Int:=getW b (4*((8+32*i+24) / 4+1))
def Zhz(b:List UInt8)(i:Nat):Bool:=Z34 (enN b i) && (Z3d 0 (Z2W 0 (enR b i)) == [])
end Go.Proofs.YtbnnhffkbcekcaaGreatDoor.dirDone
end
