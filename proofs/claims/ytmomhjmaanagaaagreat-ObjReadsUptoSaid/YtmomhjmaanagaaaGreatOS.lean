/- Objects in plain words: what they are made of, which may be, which bytes they have. No conditions. -/
import Derived.Test.YtmomhjmaanagaaaGreatTy
import Derived.Test.YtmomhjmaanagaaaGreatEng16
import Derived.Test.YtmomhjmaanagaaaGreatOBA
set_option linter.unusedVariables false
set_option linter.unusedSimpArgs false
set_option maxRecDepth 100000
set_option maxHeartbeats 4000000
namespace Go.Proofs.YtmomhjmaanagaaaGreat.objDone
open Go Go.Eng Go.Proofs
open Go.Proofs.YtmomhjmaanagaaaGreat.objNumbersDone (enc hi7 lo7 q7 Z2X m32 BIG)
attribute [push_cast] List.append_eq Zco Zfa Zf8 Z9U Int.natCast_nonneg
abbrev Z04:=List UInt8
structure Im where
 name:Z04
 key:Int
 deriving Inhabited,DecidableEq
structure Ds where
 ty:Int
 size:Int
 tags:List Int
 deriving Inhabited,DecidableEq
structure Fx where
 at_:Int
 kind:Int
 m:Int
 n:Int
 deriving Inhabited,DecidableEq
structure Ob where
 name:Z04
 key:Int
 imps:List Im
 code:List Int
 procs:List Int
 names:List Z04
 exps:List Bool
 init:Int
 vars:List Int
 shown:List Int
 strs:List Z04
 descs:List Ds
 fixes:List Fx
 deriving Inhabited,DecidableEq
def Im.c(x:Im):List AV:=[.str x.name,.int .u32 x.key]
def Ds.c(x:Ds):List AV:=[.int .i64 x.ty,.int .i64 x.size,.sl (x.tags.map (.int .i64)) x.tags.length]
def Fx.c(x:Fx):List AV:=[.int .i64 x.at_,.int .i64 x.kind,.int .i64 x.m,.int .i64 x.n]
def Ob.c(o:Ob):List AV:=[.str o.name,.int .u32 o.key,.sl (o.imps.flatMap Im.c) o.imps.length,.sl (o.code.map (.int .u32)) o.code.length,.sl (o.procs.map (.int .i64)) o.procs.length,.sl (o.names.map .str) o.names.length,.sl (o.exps.map .bool) o.exps.length,
 .int .i64 o.init,.sl (o.vars.map (.int .i64)) o.vars.length,.sl (o.shown.map (.int .i64)) o.shown.length,.sl (o.strs.map .str) o.strs.length,.sl (o.descs.flatMap Ds.c) o.descs.length,.sl (o.fixes.flatMap Fx.c) o.fixes.length]
instance:Z1t Im.c:=⟨fun x=>rfl,fun x=>rfl⟩
instance:Z1t Fx.c:=⟨fun x=>rfl,fun x=>rfl⟩
instance:Z1t Ds.c:=⟨fun x=>by simp only [Ds.c,Z1D,Z0H,Z1d,Bool.and_self],fun x=>rfl⟩
instance:Z1t Ob.c:=⟨fun x=>by simp only [Ob.c,Z1D,Z0H,Z1d,Z2u,Bool.and_self],fun x=>rfl⟩
instance:Z2C Im.c 2:=⟨fun _=>rfl⟩
instance:Z2C Ds.c 3:=⟨fun _=>rfl⟩
instance:Z2C Fx.c 4:=⟨fun _=>rfl⟩
instance:Z2C Ob.c 13:=⟨fun _=>rfl⟩
theorem Ob.g0(o:Ob)(d:AV):o.c.getD 0 d=AV.str o.name:=rfl
theorem Ob.g1(o:Ob)(d:AV):o.c.getD 1 d=AV.int .u32 o.key:=rfl
theorem Ob.g2(o:Ob)(d:AV):o.c.getD 2 d=.sl (o.imps.flatMap Im.c) o.imps.length:=rfl
theorem Ob.g3(o:Ob)(d:AV):o.c.getD 3 d=.sl (o.code.map (.int .u32)) o.code.length:=rfl
theorem Ob.g4(o:Ob)(d:AV):o.c.getD 4 d=.sl (o.procs.map (.int .i64)) o.procs.length:=rfl
theorem Ob.g5(o:Ob)(d:AV):o.c.getD 5 d=.sl (o.names.map .str) o.names.length:=rfl
theorem Ob.g6(o:Ob)(d:AV):o.c.getD 6 d=.sl (o.exps.map .bool) o.exps.length:=rfl
theorem Ob.g7(o:Ob)(d:AV):o.c.getD 7 d=.int .i64 o.init:=rfl
theorem Ob.g8(o:Ob)(d:AV):o.c.getD 8 d=.sl (o.vars.map (.int .i64)) o.vars.length:=rfl
theorem Ob.g9(o:Ob)(d:AV):o.c.getD 9 d=.sl (o.shown.map (.int .i64)) o.shown.length:=rfl
theorem Ob.g10(o:Ob)(d:AV):o.c.getD 10 d=.sl (o.strs.map .str) o.strs.length:=rfl
theorem Ob.g11(o:Ob)(d:AV):o.c.getD 11 d=.sl (o.descs.flatMap Ds.c) o.descs.length:=rfl
theorem Ob.g12(o:Ob)(d:AV):o.c.getD 12 d=.sl (o.fixes.flatMap Fx.c) o.fixes.length:=rfl
theorem Im.g0(x:Im)(d:AV):x.c.getD 0 d=.str x.name:=rfl
theorem Im.g1(x:Im)(d:AV):x.c.getD 1 d=.int .u32 x.key:=rfl
theorem Ds.g0(x:Ds)(d:AV):x.c.getD 0 d=.int .i64 x.ty:=rfl
theorem Ds.g1(x:Ds)(d:AV):x.c.getD 1 d=.int .i64 x.size:=rfl
theorem Ds.g2(x:Ds)(d:AV):x.c.getD 2 d=.sl (x.tags.map (.int .i64)) x.tags.length:=rfl
theorem Fx.g0(x:Fx)(d:AV):x.c.getD 0 d=.int .i64 x.at_:=rfl
theorem Fx.g1(x:Fx)(d:AV):x.c.getD 1 d=.int .i64 x.kind:=rfl
theorem Fx.g2(x:Fx)(d:AV):x.c.getD 2 d=.int .i64 x.m:=rfl
theorem Fx.g3(x:Fx)(d:AV):x.c.getD 3 d=.int .i64 x.n:=rfl
attribute [push_cast] Ob.g0 Ob.g1 Ob.g2 Ob.g3 Ob.g4 Ob.g5 Ob.g6 Ob.g7 Ob.g8 Ob.g9 Ob.g10 Ob.g11 Ob.g12 Im.g0 Im.g1 Ds.g0 Ds.g1 Ds.g2 Fx.g0 Fx.g1 Fx.g2 Fx.g3
theorem Z2s{α:Type}{f:α→AV}(hf:∀a b,f a=f b→a=b):∀{xs ys:List α},xs.map f=ys.map f→xs=ys
 | [],[],_=>rfl
 | [],y::ys,h=>by simp at h
 | x::xs,[],h=>by simp at h
 | x::xs,y::ys,h=>by
  simp only [List.map_cons,List.cons.injEq] at h
  rw [hf _ _ h.1,Z2s hf h.2]
theorem Z69{α:Type}{g:α→List AV}{n:Nat}[Z2C g n](hg:∀a b,g a=g b→a=b)(hn:0<n):∀{xs ys:List α},xs.flatMap g=ys.flatMap g→xs=ys
 | [],[],_=>rfl
 | [],y::ys,h=>by
  have:=congrArg List.length h
  rw [Z46,Z46,List.length_nil,List.length_cons,Nat.succ_mul] at this; omega
 | x::xs,[],h=>by
  have:=congrArg List.length h
  rw [Z46,Z46,List.length_nil,List.length_cons,Nat.succ_mul] at this; omega
 | x::xs,y::ys,h=>by
  rw [List.flatMap_cons,List.flatMap_cons] at h
  obtain⟨h1,h2⟩:=List.append_inj h (by rw [Z2C.len (g:=g),Z2C.len (g:=g)])
  rw [hg _ _ h1,Z69 hg hn h2]
theorem Z8K(a b:Z04)(h:AV.str a=AV.str b):a=b:=by injection h
theorem Z58{k:IntKind}(a b:Int)(h:AV.int k a=AV.int k b):a=b:=by injection h
theorem Z9P(a b:Bool)(h:AV.bool a=AV.bool b):a=b:=by injection h
theorem Im.inj(a b:Im)(h:a.c=b.c):a=b:=by cases a; cases b; simp_all [Im.c]
theorem Fx.inj(a b:Fx)(h:a.c=b.c):a=b:=by cases a; cases b; simp_all [Fx.c]
theorem Ds.inj(a b:Ds)(h:a.c=b.c):a=b:=by
 cases a; cases b
 simp only [Ds.c,List.cons.injEq,AV.int.injEq,AV.sl.injEq,true_and,and_true] at h
 obtain⟨rfl,rfl,h,_⟩:=h
 rw [Z2s Z58 h]
theorem Ob.inj(a b:Ob)(h:a.c=b.c):a=b:=by
 cases a; cases b
 simp only [Ob.c,List.cons.injEq,AV.int.injEq,AV.str.injEq,AV.sl.injEq,true_and,and_true] at h
 obtain⟨rfl,rfl,⟨h1,_⟩,⟨h2,_⟩,⟨h3,_⟩,⟨h4,_⟩,⟨h5,_⟩,rfl,⟨h6,_⟩,⟨h7,_⟩,⟨h8,_⟩,⟨h9,_⟩,h10,_⟩:=h
 rw [Z69 Im.inj (by decide) h1,Z2s Z58 h2,Z2s Z58 h3,Z2s Z8K h4,Z2s Z9P h5,Z2s Z58 h6,Z2s Z58 h7,Z2s Z8K h8,Z69 Ds.inj (by decide) h9,Z69 Fx.inj (by decide) h10]
theorem Z0f{k:IntKind}{xs ys:List Int}:xs.map (AV.int k)=ys.map (AV.int k)↔xs=ys:=⟨Z2s Z58,fun h=>by rw [h]⟩
theorem Z0h{xs ys:List Z04}:xs.map AV.str=ys.map AV.str↔xs=ys:=⟨Z2s Z8K,fun h=>by rw [h]⟩
theorem Z0i{xs ys:List Bool}:xs.map AV.bool=ys.map AV.bool↔xs=ys:=⟨Z2s Z9P,fun h=>by rw [h]⟩
theorem Zfu(a b:UInt8)(h:Z03 a=Z03 b):a=b:=by
 simp only [Z03,AV.int.injEq,true_and] at h
 exact UInt8.toNat.inj (by omega)
theorem Z0g{xs ys:Z04}:xs.map Z03=ys.map Z03↔xs=ys:=⟨Z2s Zfu,fun h=>by rw [h]⟩
theorem Z0u{xs ys:List Im}:xs.flatMap Im.c=ys.flatMap Im.c↔xs=ys:=⟨Z69 Im.inj (by decide),fun h=>by rw [h]⟩
theorem Z0F{xs ys:List Ds}:xs.flatMap Ds.c=ys.flatMap Ds.c↔xs=ys:=⟨Z69 Ds.inj (by decide),fun h=>by rw [h]⟩
theorem Z0E{xs ys:List Fx}:xs.flatMap Fx.c=ys.flatMap Fx.c↔xs=ys:=⟨Z69 Fx.inj (by decide),fun h=>by rw [h]⟩
theorem Z0z{a b:Ob}:a.c=b.c↔a=b:=⟨Ob.inj a b,fun h=>by rw [h]⟩
theorem Z0G{a b:Ds}:a.c=b.c↔a=b:=⟨Ds.inj a b,fun h=>by rw [h]⟩
theorem Z0D{a b:Fx}:a.c=b.c↔a=b:=⟨Fx.inj a b,fun h=>by rw [h]⟩
theorem Z0C{a b:Im}:a.c=b.c↔a=b:=⟨Im.inj a b,fun h=>by rw [h]⟩
def tm(f:Int→Option Int):Key→Option Value:=fun k=>match k with
 | .i .i64 n=>(f n).map (.int .i64)
 | _=>none
theorem ZgA(f:Int→Option Int)(n:Int):tm f (.i .i64 n)=(f n).map (.int .i64):=rfl
def ZjG(x:Option Int)(z:AV):AV:=match x with
 | some v=>.int .i64 v
 | none=>z
theorem Z00(f:Int→Option Int)(n:Int)(z:AV):Z5Y (tm f (.i .i64 n)).isSome (ofV ((tm f (.i .i64 n)).getD undef)) z=ZjG (f n) z:=by
 rw [ZgA]
 cases f n <;> simp [ZjG,Z4h,Z3J,ofV,Z45]
theorem Ze4(x:Option Int)(d:Int):ZjG x (.int .i64 d)=.int .i64 (x.getD d):=by cases x <;> rfl
theorem Zi3(f:Int→Option Int)(n v:Int):Z8A (tm f) (.i .i64 n) (.int .i64 v)=tm fun i=>if i=n then some v else f i:=by
 funext k
 cases k with
 | s l=>rfl
 | i k m=>
  by_cases h:k=.i64
  ·subst h
   simp only [Z8A,tm,Key.i.injEq,true_and]
   split <;> rfl
  ·have:Key.i k m≠.i .i64 n:=by simp [h]
   simp only [Z8A,if_neg this]
   cases k <;> first | rfl | exact absurd rfl h
theorem ZjF:noK=tm fun _=>none:=by
 funext k
 cases k with
 | s l=>rfl
 | i k m=>cases k <;> rfl
theorem Z0J{f g:Int→Option Int}:tm f=tm g↔f=g:=by
 refine⟨fun h=>?_,fun h=>by rw [h]⟩
 funext n
 have:=congrFun h (.i .i64 n)
 simp only [ZgA] at this
 cases hf:f n <;> cases hg:g n <;> simp_all
attribute [push_cast] ZgA Zi3 Ze4
def Z8e(c:UInt8):Bool:=(97≤c.toNat && c.toNat≤122) || (65≤c.toNat && c.toNat≤90)
def ZhH(c:UInt8):Bool:=48≤c.toNat && c.toNat≤57
def may(i:Nat)(c:UInt8):Bool:=Z8e c || (decide (i≠0) && ZhH c)
def Z24{α:Type}[Inhabited α](p:Nat→α→Bool)(xs:List α)(n:Nat):Bool:=(List.range n).all fun i=>p i (xs.getD i default)
theorem Z1w{α:Type}[Inhabited α](p:Nat→α→Bool)(xs:List α)(n:Nat):Z24 p xs (n+1)=(Z24 p xs n && p n (xs.getD n default)):=by simp [Z24,List.range_succ]
theorem Z1h{α:Type}[Inhabited α]{p:Nat→α→Bool}{xs:List α}{k n:Nat}(h:k<n)(hp:p k (xs.getD k default)=false):Z24 p xs n=false:=by
 simp only [Z24,List.all_eq_false,List.mem_range]; exact⟨k,h,by rw [hp]; simp⟩
def Z1g(s:Z04):Bool:=Z24 may s s.length && (decide (s≠[]) && decide (s.length≤20))
def win(n a b:Int):Bool:=decide (a≤n) && decide (n≤b)
theorem win_t(n a b:Int):win n a b=true↔a≤n∧n≤b:=by simp [win]
theorem win_f(n a b:Int):win n a b=false↔n<a∨b<n:=by simp [win]; omega
end Go.Proofs.YtmomhjmaanagaaaGreat.objDone