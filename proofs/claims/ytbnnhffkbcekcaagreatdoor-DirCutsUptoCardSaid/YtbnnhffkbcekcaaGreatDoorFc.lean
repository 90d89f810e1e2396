/- Parts of the walk through directories. Conditions stand in each. -/
import Derived.Test.YtbnnhffkbcekcaaGreatDoorFb
import Derived.TacticsIn
import Derived.OrdersIn
import Derived.RangeFuncFrom
import Derived.RangeFuncLeaves
set_option linter.unusedVariables false
set_option linter.unusedSimpArgs false
section
namespace Go.Eng
open Go
mutual
def ren(ρ:Nat→Nat):AV→AV
 | .agg cs=>.agg (renL ρ cs)
 | .tup cs=>.tup (renL ρ cs)
 | .sl cs n=>.sl (renL ρ cs) n
 | .msl id v o n=>.msl (ρ id) v o n
 | .ref id v o=>.ref (ρ id) v o
 | .ip cs=>.ip (renL ρ cs)
 | .fn f a b=>.fn f (renL ρ a) (renL ρ b)
 | .ifc t x=>.ifc t (ren ρ x)
 | .when c x=>.when c (ren ρ x)
 | .alt c x y=>.alt c (ren ρ x) (ren ρ y)
 | .any=>.any
 | .int k n=>.int k n
 | .bool b=>.bool b
 | .str l=>.str l
 | .lit v=>.lit v
 | .ub p q=>.ub p q
 | .csl id v o n=>.csl (ρ id) v o n
 | .mp id=>.mp (ρ id)
 | .mpr kd f=>.mpr kd f
def renL(ρ:Nat→Nat):List AV→List AV
 | []=>[]
 | x::xs=>ren ρ x::renL ρ xs
end
mutual
def scp(n:Nat):AV→Bool
 | .agg cs=>Z1z n cs
 | .tup cs=>Z1z n cs
 | .sl cs _=>Z1z n cs
 | .msl id _ _ _=>decide (id<n)
 | .ref id _ _=>decide (id<n)
 | .ip cs=>Z1z n cs
 | .fn _ a b=>Z1z n a && Z1z n b
 | .ifc _ x=>scp n x
 | .when _ x=>scp n x
 | .alt _ x y=>scp n x && scp n y
 | .any=>true
 | .int _ _=>true
 | .bool _=>true
 | .str _=>true
 | .lit _=>true
 | .ub _ _=>true
 | .csl id _ _ _=>decide (id<n)
 | .mp id=>decide (id<n)
 | .mpr _ _=>true
def Z1z(n:Nat):List AV→Bool
 | []=>true
 | x::xs=>scp n x && Z1z n xs
end
def Z1m(ρ:Nat→Nat):Z0Q→Z0Q
 | .row cs sz v=>.row (renL ρ cs) sz v
 | .raw r=>.raw r
 | .dead=>.dead
def Z3s(n:Nat):Z0Q→Bool
 | .row cs _ _=>Z1z n cs
 | _=>true
theorem Z2m(ρ:Nat→Nat):∀xs:List AV,renL ρ xs=xs.map (ren ρ)
 | []=>rfl
 | x::xs=>by simp only [renL,List.map_cons,Z2m ρ xs]
structure Z2U(m:Mem)(L:Z01)(ρ:Nat→Nat)(m':Mem)(L':Z01):Prop where
 pobj:m'.pobj=m.pobj
 blk:∀id,id<L'.length→m'.blk id=m.blk (ρ id)
 cap:∀id,id<L'.length→m'.cap id=m.cap (ρ id)
 obj:∀id o,L'[id]?=some o→L[ρ id]?=some (Z1m ρ o)
 inj:∀i j,i<L'.length→j<L'.length→ρ i=ρ j→i=j
theorem Z2U.pin{m:Mem}{L:Z01}{ρ:Nat→Nat}{m':Mem}{L':Z01}(H:Z2U m L ρ m' L'):m'.pin=m.pin:=by
 funext g o; simp only [Mem.pin,H.pobj]
mutual
theorem Z03.ren{m:Mem}{L:Z01}{ρ:Nat→Nat}{m':Mem}{L':Z01}(H:Z2U m L ρ m' L'):∀(x:AV) (u:Value),Z03 m L (ren ρ x) u→scp L'.length x=true→Z03 m' L' x u
 | .any,_,_,_=>by simp [Z03]
 | .int ..,_,h,_=>by simpa [Z03,Eng.ren] using h
 | .bool _,_,h,_=>by simpa [Z03,Eng.ren] using h
 | .str _,_,h,_=>by simpa [Z03,Eng.ren] using h
 | .lit _,_,h,_=>by simpa [Z03,Eng.ren] using h
 | .agg cs,u,h,hs=>by
  simp only [Z03,Eng.ren,scp] at *
  obtain⟨us,rfl,hc⟩:=h
  exact⟨us,rfl,Z0a.ren H cs us hc hs⟩
 | .tup cs,u,h,hs=>by
  simp only [Z03,Eng.ren,scp] at *
  obtain⟨us,rfl,hc⟩:=h
  exact⟨us,rfl,Z0a.ren H cs us hc hs⟩
 | .sl cs len,u,h,hs=>by
  simp only [Z03,Eng.ren,scp] at *
  obtain⟨a,cap,rfl,hl,us,hc,hp⟩:=h
  refine⟨a,cap,rfl,hl,us,Z0a.ren H cs us hc hs,?_⟩
  rw [H.pin]; exact hp
 | .msl id ver off len,u,h,hs=>by
  simp only [Z03,Eng.ren,scp,decide_eq_true_eq] at *
  obtain⟨cs,sz,v,hL,hv,hsh,h⟩:=h
  obtain⟨o,ho⟩:∃o,L'[id]?=some o:=⟨L'[id],by simp [hs]⟩
  have h1:=H.obj id o ho
  rw [hL] at h1
  cases o with
  | row cs' sz' v'=>
   simp only [Z1m,Option.some.injEq,Z0Q.row.injEq] at h1
   obtain⟨rfl,rfl,rfl⟩:=h1
   refine⟨cs',sz,v,ho,hv,hsh,fun e=>?_⟩
   obtain⟨h2,h3,h4⟩:=h e
   rw [Z2m,List.length_map] at h2
   rw [H.cap id hs,H.blk id hs]
   exact⟨h2,h3,h4⟩
  | raw r=>simp [Z1m] at h1
  | dead=>simp [Z1m] at h1
 | .ref id ver off,u,h,hs=>by
  simp only [Z03,Eng.ren,scp,decide_eq_true_eq] at *
  obtain⟨o,ho⟩:∃o,L'[id]?=some o:=⟨L'[id],by simp [hs]⟩
  have h1:=H.obj id o ho
  rcases h with ⟨cs,sz,v,hL,hv,hsh,h⟩ | ⟨r,hL,h⟩
  ·rw [hL] at h1
   cases o with
   | row cs' sz' v'=>
    simp only [Z1m,Option.some.injEq,Z0Q.row.injEq] at h1
    obtain⟨rfl,rfl,rfl⟩:=h1
    exact .inl ⟨cs',sz,v,ho,hv,hsh,fun e=>by rw [H.blk id hs]; exact h e⟩
   | raw r=>simp [Z1m] at h1
   | dead=>simp [Z1m] at h1
  ·rw [hL] at h1
   cases o with
   | row cs' sz' v'=>simp [Z1m] at h1
   | raw r'=>exact .inr ⟨r',ho,by rw [H.blk id hs]; exact h⟩
   | dead=>simp [Z1m] at h1
 | .ip cs,u,h,hs=>by
  simp only [Z03,Eng.ren,scp] at *
  obtain⟨us,g,o,rfl,hc,hp⟩:=h
  refine⟨us,g,o,rfl,Z0a.ren H cs us hc hs,?_⟩
  rw [H.pin]; exact hp
 | .fn f first captured,u,h,hs=>by
  simp only [Z03,Eng.ren,scp,Bool.and_eq_true] at *
  obtain⟨us,vs,rfl,h1,h2⟩:=h
  exact⟨us,vs,rfl,Z0a.ren H first us h1 hs.1,Z0a.ren H captured vs h2 hs.2⟩
 | .ifc t x,u,h,hs=>by
  simp only [Z03,Eng.ren,scp] at *
  obtain⟨v,rfl,h⟩:=h
  exact⟨v,rfl,Z03.ren H x v h hs⟩
 | .when c x,u,h,hs=>by
  simp only [Z03,Eng.ren,scp] at *
  exact⟨fun hc=>Z03.ren H x u (h.1 hc) hs,h.2⟩
 | .alt c x y,u,h,hs=>by
  simp only [Z03,Eng.ren,scp,Bool.and_eq_true] at *
  exact⟨fun hc=>Z03.ren H x u (h.1 hc) hs.1,fun hc=>Z03.ren H y u (h.2 hc) hs.2⟩
 | .ub ..,_,h,_=>by simpa only [Z03,Eng.ren] using h
 | .csl id ver off len,u,h,hs=>by
  simp only [Z03,Eng.ren,scp,decide_eq_true_eq] at *
  obtain⟨cs,sz,v,hL,hv,hsh,h⟩:=h
  obtain⟨o,ho⟩:∃o,L'[id]?=some o:=⟨L'[id],by simp [hs]⟩
  have h1:=H.obj id o ho
  rw [hL] at h1
  cases o with
  | row cs' sz' v'=>
   simp only [Z1m,Option.some.injEq,Z0Q.row.injEq] at h1
   obtain⟨rfl,rfl,rfl⟩:=h1
   refine⟨cs',sz,v,ho,hv,hsh,fun e=>?_⟩
   obtain⟨h2,h3,h4⟩:=h e
   rw [Z2m,List.length_map] at h2
   rw [H.cap id hs,H.blk id hs]
   exact⟨h2,h3,h4⟩
  | raw r=>simp [Z1m] at h1
  | dead=>simp [Z1m] at h1
 | .mp id,u,h,hs=>by
  simp only [Z03,Eng.ren,scp,decide_eq_true_eq] at *
  obtain⟨r,hL,h⟩:=h
  obtain⟨o,ho⟩:∃o,L'[id]?=some o:=⟨L'[id],by simp [hs]⟩
  have h1:=H.obj id o ho
  rw [hL] at h1
  cases o with
  | row cs' sz' v'=>simp [Z1m] at h1
  | raw r'=>exact⟨r',ho,by rw [H.blk id hs]; exact h⟩
  | dead=>simp [Z1m] at h1
 | .mpr kd f,u,h,_=>by
  simp only [Z03,Eng.ren] at *
  rw [H.pobj]; exact h
theorem Z0a.ren{m:Mem}{L:Z01}{ρ:Nat→Nat}{m':Mem}{L':Z01}(H:Z2U m L ρ m' L'):∀(cs:List AV) (us:List Value),Z0a m L (renL ρ cs) us→Z1z L'.length cs=true→Z0a m' L' cs us
 | [],_,h,_=>by simpa [Z0a,renL] using h
 | c::cs,us,h,hs=>by
  simp only [Z0a,renL,Z1z,Bool.and_eq_true] at *
  obtain⟨u,us',rfl,h1,h2⟩:=h
  exact⟨u,us',rfl,Z03.ren H c u h1 hs.1,Z0a.ren H cs us' h2 hs.2⟩
end
theorem Z2U.own{m:Mem}{L:Z01}{ρ:Nat→Nat}{m':Mem}{L':Z01}(H:Z2U m L ρ m' L'){id:Nat}(h:Own m' L' id):Own m L (ρ id)∧id<L'.length:=by
 rcases h with ⟨cs,sz,ver,hL,hc⟩ | ⟨r,hL⟩
 ·have hlt:=(List.getElem?_eq_some_iff.1 hL).1
  exact⟨.inl ⟨_,_,_,H.obj _ _ hL,by rw [←H.cap id hlt]; exact hc⟩,hlt⟩
 ·have hlt:=(List.getElem?_eq_some_iff.1 hL).1
  exact⟨.inr ⟨_,H.obj _ _ hL⟩,hlt⟩
theorem Z2U.hid{m:Mem}{L:Z01}{ρ:Nat→Nat}{m':Mem}{L':Z01}(H:Z2U m L ρ m' L'){id g:Nat}(h:Hid m' L' id g):Hid m L (ρ id) g∧id<L'.length:=by
 obtain⟨T,e,l,hL,hc⟩:=h
 have hlt:=(List.getElem?_eq_some_iff.1 hL).1
 exact⟨⟨T,e,l,H.obj _ _ hL,by rw [←H.cap id hlt]; exact hc⟩,hlt⟩
theorem Z3H.ren{m:Mem}{L:Z01}{w:World}{ρ:Nat→Nat}{m':Mem}{L':Z01}(H:Z2U m L ρ m' L')(h:Z3H m L w):Z3H m' L' w:=by
 refine⟨fun id T e l hL=>?_,fun id g k=>by rw [H.pobj]; exact h.free _ g (H.hid k).1,fun id g k j hj=>?_,fun i j g k1 k2=>H.inj i j (H.hid k1).2 (H.hid k2).2 (h.inj _ _ g (H.hid k1).1 (H.hid k2).1)⟩
 ·have hlt:=(List.getElem?_eq_some_iff.1 hL).1
  rw [H.blk id hlt,H.cap id hlt]; exact h.at_ _ _ _ _ (H.obj _ _ hL)
 ·obtain⟨h1,h2⟩:=H.own hj
  rw [H.blk j h2]; exact h.own _ g (H.hid k).1 _ h1
theorem Z0D.ren{m:Mem}{L:Z01}{w:World}{ρ:Nat→Nat}{m':Mem}{L':Z01}(H:Z2U m L ρ m' L')(hs:L'.all (Z3s L'.length)=true)(hW:Z0D m L w):Z0D m' L' w:=by
 have hs':∀o∈L',Z3s L'.length o=true:=by simpa [List.all_eq_true] using hs
 refine⟨by rw [H.pobj]; exact hW.glob,fun g o hp=>hW.pobjs g o (by rw [←H.pobj]; exact hp),fun id cs sz ver hL hc=>?_,fun id cs sz ver hL hc=>?_,fun id r hL=>?_,fun i j hi hj he=>?_,fun id hl=>?_,hW.hid.ren H⟩
 ·have hlt:=(List.getElem?_eq_some_iff.1 hL).1
  rw [H.cap id hlt] at hc ⊢
  obtain⟨us,rest,elem,lo,hi,h1,h2,h3,h4⟩:=hW.rows _ _ _ _ (H.obj _ _ hL) hc
  have:=hs' _ (List.mem_of_getElem? hL)
  simp only [Z3s] at this
  exact⟨us,rest,elem,lo,hi,by rw [H.blk id hlt]; exact h1,Z0a.ren H cs us h2 this,h3,h4⟩
 ·have hlt:=(List.getElem?_eq_some_iff.1 hL).1
  rw [H.cap id hlt] at hc
  have:=hW.nils _ _ _ _ (H.obj _ _ hL) hc
  rw [Z2m] at this
  simpa using this
 ·have hlt:=(List.getElem?_eq_some_iff.1 hL).1
  rw [H.blk id hlt]; exact hW.iters _ _ (H.obj _ _ hL)
 ·obtain⟨h1,h2⟩:=H.own hi
  obtain⟨h3,h4⟩:=H.own hj
  rw [H.blk i h2,H.blk j h4] at he
  exact H.inj i j h2 h4 (hW.inj _ _ h1 h3 he)
 ·obtain⟨h1,h2⟩:=H.own hl
  rw [H.pobj,H.blk id h2]; exact hW.freeo _ h1
def leF:List AV→List AV→Prop
 | [],[]=>True
 | _::xs,.any::ys=>leF xs ys
 | x::xs,y::ys=>x=y∧leF xs ys
 | _,_=>False
theorem Z6m{m:Mem}{L:Z01}:∀{xs ys:List AV} {us:List Value},leF xs ys→Z0a m L xs us→Z0a m L ys us
 | [],[],us,_,h=>h
 | x::xs,y::ys,us,hl,h=>by
  simp only [Z0a] at h ⊢
  obtain⟨u,us',rfl,h1,h2⟩:=h
  by_cases hy:y=.any
  ·subst hy
   simp only [leF] at hl
   exact⟨u,us',rfl,by simp [Z03],Z6m hl h2⟩
  ·have:x=y∧leF xs ys:=by
    unfold leF at hl
    split at hl <;> simp_all
   exact⟨u,us',rfl,by rw [←this.1]; exact h1,Z6m this.2 h2⟩
 | [],y::ys,us,hl,h=>by simp [leF] at hl
 | x::xs,[],us,hl,h=>by simp [leF] at hl
def Zc3(n0:Nat)(ids:List Nat)(fr:List AV)(L:Z01)(fr':List AV)(L':Z01):Prop:=
 leF fr (renL (fun i=>ids.getD i i) fr')∧(ids.map fun i=>L[i]?)=(L'.map fun o=>some (Z1m (fun i=>ids.getD i i) o))∧ids.Nodup∧
  ids.take n0=List.range n0∧Z1z L'.length fr'=true∧L'.all (Z3s L'.length)=true
theorem Zc3.len{n0:Nat}{ids:List Nat}{fr:List AV}{L:Z01}{fr':List AV}{L':Z01}(h:Zc3 n0 ids fr L fr' L'):ids.length=L'.length:=by
 have:=congrArg List.length h.2.1
 simpa using this
theorem Zc3.renamed{n0:Nat}{ids:List Nat}{fr:List AV}{L:Z01}{fr':List AV}{L':Z01}(h:Zc3 n0 ids fr L fr' L')(m:Mem) :
  Z2U m L (fun i=>ids.getD i i) { m with blk:=fun i=>m.blk (ids.getD i i),cap:=fun i=>m.cap (ids.getD i i) } L':=by
 have hlen:=h.len
 obtain⟨h1,h2,h3,h4,h5,h6⟩:=h
 refine⟨rfl,fun _ _=>rfl,fun _ _=>rfl,fun id o ho=>?_,fun i j hi hj he=>?_⟩
 ·have hlt:=(List.getElem?_eq_some_iff.1 ho).1
  have:=congrArg (·[id]?) h2
  simp only [List.getElem?_map,ho,Option.map_some] at this
  have hid:ids[id]?=some (ids.getD id id):=by simp [List.getD,hlen,hlt]
  rw [hid] at this
  simpa using this
 ·have hi':i<ids.length:=by omega
  have hj':j<ids.length:=by omega
  simp only [List.getD,List.getElem?_eq_getElem hi',List.getElem?_eq_getElem hj',Option.getD_some] at he
  have hp:=List.pairwise_iff_getElem.1 h3
  rcases Nat.lt_trichotomy i j with h | h | h
  ·exact absurd he (hp i j hi' hj' h)
  ·exact h
  ·exact absurd he.symm (hp j i hj' hi' h)
theorem Zc3.ext{n0:Nat}{ids:List Nat}{fr:List AV}{L:Z01}{fr':List AV}{L':Z01}(h:Zc3 n0 ids fr L fr' L'){m0:Mem}{L0:Z01}{w0:World}{m:Mem}{w:World}(hn:n0=L0.length)(hle:n0≤L'.length)
  (hE:Ext m0 L0 w0 m L w):Ext m0 L0 w0 { m with blk:=fun i=>m.blk (ids.getD i i),cap:=fun i=>m.cap (ids.getD i i) } L' w:=by
 have H:=h.renamed m
 have hlen:=h.len
 have hid:∀i,i<n0→ids.getD i i=i:=by
  intro i hi
  have:=congrArg (·[i]?) h.2.2.2.1
  simp [hi] at this
  simp [List.getD,this]
 refine⟨hE.frame,hE.size,hE.newobj,fun id hl=>?_,by omega,⟨hE.mono.pobj,fun id cs sz ver hL=>?_,fun id r hL=>?_⟩,hE.same,fun id g k=>?_⟩
 ·obtain⟨h1,h2⟩:=H.own hl
  rcases hE.blks _ h1 with ⟨h3,h4⟩ | h3
  ·left
   have hlt:ids.getD id id<n0:=by
    rcases h3 with ⟨_,_,_,h,_⟩ | ⟨_,h⟩ <;> (have:=(List.getElem?_eq_some_iff.1 h).1; omega)
   have:id=ids.getD id id:=H.inj _ _ h2 (by omega) (by rw [hid _ hlt])
   rw [←this] at h3
   exact⟨h3,by show m.blk (ids.getD id id)=_; rw [←this] at h4 ⊢; exact h4⟩
  ·exact .inr h3
 ·obtain⟨cs',ver',hL',hv,hk⟩:=hE.mono.row _ _ _ _ hL
  have hlt:=(List.getElem?_eq_some_iff.1 hL).1
  obtain⟨o,ho⟩:∃o,L'[id]?=some o:=⟨L'[id]'(by omega),by simp⟩
  have:=H.obj id o ho
  simp only [hid id (by omega)] at this
  rw [hL'] at this
  cases o with
  | row cs2 sz2 v2=>
   simp only [Z1m,Option.some.injEq,Z0Q.row.injEq] at this
   obtain⟨rfl,rfl,rfl⟩:=this
   refine⟨cs2,ver',ho,hv,fun e=>?_⟩
   obtain⟨k1,k2,k3⟩:=hk e
   rw [Z2m,List.length_map] at k1
   simp only [hid id (by omega)]
   exact⟨k1,k2,k3⟩
  | raw r=>simp [Z1m] at this
  | dead=>simp [Z1m] at this
 ·obtain⟨r',hL',hk⟩:=hE.mono.iter _ _ hL
  have hlt:=(List.getElem?_eq_some_iff.1 hL).1
  obtain⟨o,ho⟩:∃o,L'[id]?=some o:=⟨L'[id]'(by omega),by simp⟩
  have:=H.obj id o ho
  simp only [hid id (by omega)] at this
  rw [hL'] at this
  cases o with
  | row cs2 sz2 v2=>simp [Z1m] at this
  | raw r=>exact⟨r,ho,by simp only [hid id (by omega)]; exact hk⟩
  | dead=>simp [Z1m] at this
 ·obtain⟨h1,h2⟩:=H.hid k
  rcases hE.hnew _ _ h1 with h3 | h3
  ·left
   have hlt:ids.getD id id<n0:=by
    obtain⟨_,_,_,h,_⟩:=h3
    have:=(List.getElem?_eq_some_iff.1 h).1; omega
   have:id=ids.getD id id:=H.inj _ _ h2 (by omega) (by rw [hid _ hlt])
   rw [←this] at h3
   exact h3
  ·exact .inr h3
structure Z8f where
 m:Mem
 L:Z01
 w:World
 D:List Deferred:=[]
structure RS(B:Z8f)(fr:List AV)(L:Z01)(m:Mem)(a:Act)(w:World):Prop where
 wrel:Z0D m L w
 frel:Z0a m L fr a.tmps.toList
 ext:Ext B.m B.L B.w m L w
 defers:a.defers=B.D
theorem RS.weak{B:Z8f}{fr:List AV}{L:Z01}{m:Mem}{a:Act}{w:World}(h:RS B fr L m a w){ids:List Nat}{fr':List AV}{L':Z01}(hw:Zc3 B.L.length ids fr L fr' L')(hle:B.L.length≤L'.length) :
  ∃m',RS B fr' L' m' a w:=by
 have H:=hw.renamed m
 refine⟨_,⟨Z0D.ren H hw.2.2.2.2.2 h.wrel,Z0a.ren H _ _ (Z6m hw.1 h.frel) hw.2.2.2.2.1,hw.ext rfl hle h.ext,h.defers⟩⟩
mutual
theorem Z6U:∀x:AV,ren (fun i=>i) x=x
 | .agg cs=>by simp only [ren,Z36 cs]
 | .tup cs=>by simp only [ren,Z36 cs]
 | .sl cs n=>by simp only [ren,Z36 cs]
 | .ip cs=>by simp only [ren,Z36 cs]
 | .fn f a b=>by simp only [ren,Z36 a,Z36 b]
 | .ifc t x=>by simp only [ren,Z6U x]
 | .when c x=>by simp only [ren,Z6U x]
 | .alt c x y=>by simp only [ren,Z6U x,Z6U y]
 | .any=>rfl
 | .int ..=>rfl
 | .bool _=>rfl
 | .str _=>rfl
 | .lit _=>rfl
 | .msl ..=>rfl
 | .ref ..=>rfl
 | .ub ..=>rfl
 | .csl ..=>rfl
 | .mp ..=>rfl
 | .mpr ..=>rfl
theorem Z36:∀xs:List AV,renL (fun i=>i) xs=xs
 | []=>rfl
 | x::xs=>by simp only [renL,Z6U x,Z36 xs]
end
theorem Z7l{m:Mem}{L:Z01}{x:AV}{u:Value}(h:Z03 m L x u)(hs:scp 0 x=true):Z03 m [] x u:=
 Z03.ren (ρ:=fun i=>i) ⟨rfl,fun _ h=>by simp at h,fun _ h=>by simp at h,fun _ _ h=>by simp at h,fun _ _ h=>by simp at h⟩ x u (by rw [Z6U]; exact h) hs
theorem Z4C{m:Mem}{L:Z01}{xs:List AV}{us:List Value}(h:Z0a m L xs us)(hs:Z1z 0 xs=true):Z0a m [] xs us:=
 Z0a.ren (ρ:=fun i=>i) ⟨rfl,fun _ h=>by simp at h,fun _ h=>by simp at h,fun _ _ h=>by simp at h,fun _ _ h=>by simp at h⟩ xs us (by rw [Z36]; exact h) hs
mutual
def Z4G(L:Z01)(id:Nat):AV→AV
 | .msl i ver off n=>cond (i == id) (cond (ver == Z1t L id) (.sl (((Z0L L id).drop (off*Z1K L id)).take (n*Z1K L id)) n) .any) (.msl i ver off n)
 | .ref i ver off=>cond (i == id) (cond (ver == Z1t L id) (cond (isRow L id) (.ip ((Z0L L id).drop off)) .any) .any) (.ref i ver off)
 | .agg cs=>.agg (Z4H L id cs)
 | .tup cs=>.tup (Z4H L id cs)
 | .sl cs n=>cond (Z1z 0 cs) (.sl cs n) .any
 | .ip cs=>cond (Z1z 0 cs) (.ip cs) .any
 | .fn f a b=>cond (Z1z 0 a && Z1z 0 b) (.fn f a b) .any
 | .ifc t x=>.ifc t (Z4G L id x)
 | .when c x=>cond (scp 0 x) (.when c x) .any
 | .alt c x y=>cond (scp 0 x && scp 0 y) (.alt c x y) .any
 | .any=>.any
 | .int k n=>.int k n
 | .bool b=>.bool b
 | .str l=>.str l
 | .lit v=>.lit v
 | .ub p q=>.ub p q
 | .csl i ver off n=>cond (i == id) (cond (ver == Z1t L id) (.sl (((Z0L L id).drop (off*Z1K L id)).take (n*Z1K L id)) n) .any) (.csl i ver off n)
 | .mp i=>cond (i == id) (match L[id]? with | some (.raw (.map kd f))=>.mpr kd f | _=>.any) (.mp i)
 | .mpr kd f=>.mpr kd f
def Z4H(L:Z01)(id:Nat):List AV→List AV
 | []=>[]
 | x::xs=>Z4G L id x::Z4H L id xs
end
def Zki(L:Z01)(id:Nat):Z0Q→Z0Q
 | .row cs sz v=>.row (Z4H L id cs) sz v
 | .raw r=>.raw r
 | .dead=>.dead
def Z5c(L:Z01)(id:Nat):Z01:=(L.set id .dead).map (Zki L id)
def Za1(L:Z01)(id:Nat):Prop:=isRow L id=true∧Z1z 0 (Z0L L id)=true
def Z9T(L:Z01)(id:Nat):Bool:=match L[id]? with | some (.raw (.map ..))=>true | _=>false
def Z2Q(L:Z01)(id:Nat):Prop:=Za1 L id∨Z9T L id=true
theorem Z3E(L:Z01)(id:Nat):∀cs:List AV,(Z4H L id cs).length=cs.length
 | []=>rfl
 | x::xs=>by simp only [Z4H,List.length_cons,Z3E L id xs]
open Classical in
noncomputable def Z81(m:Mem)(L:Z01)(w:World)(id:Nat):Mem:={ m with pobj:=fun g=>if g=m.blk id∧Own m L id then w.heap[g]? else m.pobj g }
section
variable {m:Mem} {L:Z01} {w:World} {id:Nat}
theorem Z3D{j:Nat}(hj:j≠id):(Z5c L id)[j]?=(L[j]?).map (Zki L id):=by
 simp only [Z5c,List.getElem?_map,List.getElem?_set_ne (Ne.symm hj)]
theorem ZlM(hok:Z2Q L id):id<L.length:=by
 rcases Nat.lt_or_ge id L.length with h | h
 ·exact h
 ·rcases hok with hok | hok
  ·have:=hok.1; simp [isRow,List.getElem?_eq_none h] at this
  ·simp [Z9T,List.getElem?_eq_none h] at hok
theorem Z80(hW:Z0D m L w){g:Nat}{o:Obj}(hp:m.pobj g=some o):(Z81 m L w id).pobj g=some o:=by
 simp only [Z81]
 split
 ·rename_i h
  have:=hW.freeo id h.2
  rw [←h.1,hp] at this; cases this
 ·exact hp
theorem Z8P(hW:Z0D m L w):Z4D m [] (Z81 m L w id) (Z5c L id):=
 ⟨fun g o h=>Z80 hW h,fun _ _ _ _ h=>by simp at h,fun _ _ h=>by simp at h⟩
theorem Z3o(hW:Z0D m L w){x:AV}{u:Value}(h:Z03 m L x u)(hs:scp 0 x=true):Z03 (Z81 m L w id) (Z5c L id) x u:=
 Z03.mono (Z8P hW) _ _ (Z7l h hs)
theorem Za0(hW:Z0D m L w){xs:List AV}{us:List Value}(h:Z0a m L xs us)(hs:Z1z 0 xs=true):Z0a (Z81 m L w id) (Z5c L id) xs us:=
 Z0a.mono (Z8P hW) _ _ (Z4C h hs)
theorem Z6v(hW:Z0D m L w)(hok:Za1 L id):∃us,Z0a (Z81 m L w id) (Z5c L id) (Z0L L id) us∧∀j v,us[j]?=some v→(Z81 m L w id).pin (m.blk id) j=some v:=by
 obtain⟨cs,sz,hL,h1,h2⟩:=Z0H (L:=L) (id:=id) (ver:=Z1t L id) ⟨hok.1,rfl⟩
 obtain⟨us,hc,hcell,_⟩:=Z1E hW hL
 have hs:=hok.2
 rw [h1] at hs ⊢
 refine⟨us,Za0 hW hc hs,fun j v hj=>?_⟩
 have hcap:m.cap id≠0:=by
  intro h0
  have:=hW.nils _ _ _ _ hL h0
  subst this
  simp only [Z0a] at hc
  subst hc
  simp at hj
 refine Mem.pin_heap ?_ (hcell _ _ hj)
 simp only [Z81]
 rw [if_pos ⟨rfl,.inl ⟨_,_,_,hL,hcap⟩⟩]
mutual
theorem Z03.frz(hW:Z0D m L w)(hok:Z2Q L id):∀(x:AV) (u:Value),Z03 m L x u→Z03 (Z81 m L w id) (Z5c L id) (Z4G L id x) u
 | .any,_,_=>by simp [Z4G,Z03]
 | .int ..,_,h=>by simpa [Z4G,Z03] using h
 | .bool _,_,h=>by simpa [Z4G,Z03] using h
 | .str _,_,h=>by simpa [Z4G,Z03] using h
 | .lit _,_,h=>by simpa [Z4G,Z03] using h
 | .agg cs,u,h=>by
  simp only [Z03,Z4G] at *
  obtain⟨us,rfl,hc⟩:=h
  exact⟨us,rfl,Z0a.frz hW hok cs us hc⟩
 | .tup cs,u,h=>by
  simp only [Z03,Z4G] at *
  obtain⟨us,rfl,hc⟩:=h
  exact⟨us,rfl,Z0a.frz hW hok cs us hc⟩
 | .sl cs n,u,h=>by
  simp only [Z4G]
  cases hs:Z1z 0 cs
  ·simp [Z03]
  ·exact Z3o hW h hs
 | .ip cs,u,h=>by
  simp only [Z4G]
  cases hs:Z1z 0 cs
  ·simp [Z03]
  ·exact Z3o hW h hs
 | .fn f a b,u,h=>by
  simp only [Z4G]
  cases hs:Z1z 0 a && Z1z 0 b
  ·simp [Z03]
  ·exact Z3o hW h (by simpa [scp] using hs)
 | .when c x,u,h=>by
  simp only [Z4G]
  cases hs:scp 0 x
  ·simp [Z03]
  ·exact Z3o hW h (by simpa [scp] using hs)
 | .alt c x y,u,h=>by
  simp only [Z4G]
  cases hs:scp 0 x && scp 0 y
  ·simp [Z03]
  ·exact Z3o hW h (by simpa [scp] using hs)
 | .ifc t x,u,h=>by
  simp only [Z03,Z4G] at *
  obtain⟨v,rfl,h⟩:=h
  exact⟨v,rfl,Z03.frz hW hok x v h⟩
 | .msl i ver off n,u,h=>by
  simp only [Z4G]
  by_cases hi:i=id
  ·subst hi
   simp only [beq_self_eq_true,cond_true]
   by_cases hv:ver=Z1t L i
   ·simp only [hv,beq_self_eq_true,cond_true]
    have hrow:Za1 L i:=by
     rcases hok with hok | hok
     ·exact hok
     ·simp only [Z03] at h
      obtain⟨_,_,_,hL,_⟩:=h
      simp [Z9T,hL] at hok
    have hf:Z14 L i (Z1t L i):=⟨hrow.1,rfl⟩
    rw [hv] at h
    obtain⟨k1,k2,a,rfl,ha⟩:=Z0N h hf
    obtain⟨us,hc,hp⟩:=Z6v hW hrow
    simp only [Z03]
    refine⟨a,_,rfl,by omega,_,(hc.drop (off*Z1K L i)).take (n*Z1K L i),?_⟩
    rcases ha with ha | ha
    ·have:n=0:=by omega
     subst this
     simp
    ·refine .inr ⟨_,_,ha,fun j v hj=>hp _ _ ?_⟩
     rw [List.getElem?_take,List.getElem?_drop] at hj
     split at hj
     ·exact hj
     ·cases hj
   ·have:(ver == Z1t L i)=false:=by simp [hv]
    simp [this,Z03]
  ·have:(i == id)=false:=by simp [hi]
   simp only [this,cond_false,Z03] at h ⊢
   obtain⟨cs,sz,v,hL,hle,hsh,h⟩:=h
   refine⟨Z4H L id cs,sz,v,by rw [Z3D hi,hL]; rfl,hle,hsh,?_⟩
   rw [Z3E]
   exact h
 | .ref i ver off,u,h=>by
  simp only [Z4G]
  by_cases hi:i=id
  ·subst hi
   simp only [beq_self_eq_true,cond_true]
   by_cases hv:ver=Z1t L i
   ·simp only [hv,beq_self_eq_true,cond_true]
    by_cases hrow:Za1 L i
    case neg=>
     have:cond (isRow L i) (AV.ip ((Z0L L i).drop off)) .any=.any:=by
      rcases hok with hok | hok
      ·exact absurd hok hrow
      ·unfold Z9T at hok
       split at hok
       ·rename_i hL; simp [isRow,hL]
       ·cases hok
     rw [this]; simp [Z03]
    rw [hrow.1]
    have hf:Z14 L i (Z1t L i):=⟨hrow.1,rfl⟩
    rw [hv] at h
    have hu:=Z3u h hf
    obtain⟨us,hc,hp⟩:=Z6v hW hrow
    simp only [cond_true,Z03]
    exact⟨_,_,_,hu,hc.drop off,fun j v hj=>hp _ _ (by rw [List.getElem?_drop] at hj; exact hj)⟩
   ·have:(ver == Z1t L i)=false:=by simp [hv]
    simp [this,Z03]
  ·have:(i == id)=false:=by simp [hi]
   simp only [this,cond_false,Z03] at h ⊢
   rcases h with ⟨cs,sz,v,hL,hle,hsh,h⟩ | ⟨r,hL,h⟩
   ·exact .inl ⟨Z4H L id cs,sz,v,by rw [Z3D hi,hL]; rfl,hle,hsh,h⟩
   ·exact .inr ⟨r,by rw [Z3D hi,hL]; rfl,h⟩
 | .ub ..,_,h=>by simpa only [Z4G,Z03] using h
 | .csl i ver off n,u,h=>by
  simp only [Z4G]
  by_cases hi:i=id
  ·subst hi
   simp only [beq_self_eq_true,cond_true]
   by_cases hv:ver=Z1t L i
   ·simp only [hv,beq_self_eq_true,cond_true]
    have hrow:Za1 L i:=by
     rcases hok with hok | hok
     ·exact hok
     ·simp only [Z03] at h
      obtain⟨_,_,_,hL,_⟩:=h
      simp [Z9T,hL] at hok
    have hf:Z14 L i (Z1t L i):=⟨hrow.1,rfl⟩
    rw [hv] at h
    obtain⟨k1,k2,a,rfl,ha⟩:=Z3Y h hf
    obtain⟨us,hc,hp⟩:=Z6v hW hrow
    simp only [Z03]
    refine⟨a,_,rfl,by omega,_,(hc.drop (off*Z1K L i)).take (n*Z1K L i),?_⟩
    rcases ha with ha | ha
    ·have:n=0:=by omega
     subst this
     simp
    ·refine .inr ⟨_,_,ha,fun j v hj=>hp _ _ ?_⟩
     rw [List.getElem?_take,List.getElem?_drop] at hj
     split at hj
     ·exact hj
     ·cases hj
   ·have:(ver == Z1t L i)=false:=by simp [hv]
    simp [this,Z03]
  ·have:(i == id)=false:=by simp [hi]
   simp only [this,cond_false,Z03] at h ⊢
   obtain⟨cs,sz,v,hL,hle,hsh,h⟩:=h
   refine⟨Z4H L id cs,sz,v,by rw [Z3D hi,hL]; rfl,hle,hsh,?_⟩
   rw [Z3E]
   exact h
 | .mp i,u,h=>by
  simp only [Z4G]
  by_cases hi:i=id
  ·subst hi
   simp only [beq_self_eq_true,cond_true]
   split
   ·rename_i kd f hL
    simp only [Z03] at h ⊢
    obtain⟨r,hL',hu⟩:=h
    obtain⟨o,hb,hr⟩:=hW.iters _ _ hL
    simp only [Z4s] at hr
    obtain⟨es,clock,rfl,hM⟩:=hr
    refine⟨m.blk i,es,clock,hu,?_,hM⟩
    simp only [Z81]
    rw [if_pos ⟨rfl,.inr ⟨_,hL⟩⟩]
    exact hb
   ·simp [Z03]
  ·have:(i == id)=false:=by simp [hi]
   simp only [this,cond_false,Z03] at h ⊢
   obtain⟨r,hL,h⟩:=h
   exact⟨r,by rw [Z3D hi,hL]; rfl,h⟩
 | .mpr kd f,u,h=>by
  simp only [Z4G,Z03] at *
  obtain⟨g,es,clock,hu,hp,hM⟩:=h
  exact⟨g,es,clock,hu,Z80 hW hp,hM⟩
theorem Z0a.frz(hW:Z0D m L w)(hok:Z2Q L id):∀(cs:List AV) (us:List Value),Z0a m L cs us→Z0a (Z81 m L w id) (Z5c L id) (Z4H L id cs) us
 | [],_,h=>by simpa [Z0a,Z4H] using h
 | c::cs,us,h=>by
  simp only [Z0a,Z4H] at *
  obtain⟨u,us',rfl,h1,h2⟩:=h
  exact⟨u,us',rfl,Z03.frz hW hok c u h1,Z0a.frz hW hok cs us' h2⟩
end
theorem frz_dead(hok:Z2Q L id):(Z5c L id)[id]?=some .dead:=by
 have:=ZlM hok
 simp [Z5c,this,Zki]
theorem Z9Z{j:Nat}{cs':List AV}{sz ver:Nat}(hr:Z2Q L id)(h:(Z5c L id)[j]?=some (.row cs' sz ver)):j≠id∧∃cs,L[j]?=some (.row cs sz ver)∧cs'=Z4H L id cs:=by
 have hj:j≠id:=by intro e; rw [e,frz_dead hr] at h; cases h
 rw [Z3D hj,Option.map_eq_some_iff] at h
 obtain⟨o,h1,h2⟩:=h
 cases o <;> simp only [Zki,reduceCtorEq,Z0Q.row.injEq] at h2
 obtain⟨rfl,rfl,rfl⟩:=h2
 exact⟨hj,_,h1,rfl⟩
theorem Z5T{j:Nat}{r:Raw}(hr:Z2Q L id)(h:(Z5c L id)[j]?=some (.raw r)):j≠id∧L[j]?=some (.raw r):=by
 have hj:j≠id:=by intro e; rw [e,frz_dead hr] at h; cases h
 rw [Z3D hj,Option.map_eq_some_iff] at h
 obtain⟨o,h1,h2⟩:=h
 cases o <;> simp only [Zki,reduceCtorEq,Z0Q.raw.injEq] at h2
 subst h2
 exact⟨hj,h1⟩
theorem Z6u{j:Nat}(hr:Z2Q L id)(h:Own (Z81 m L w id) (Z5c L id) j):j≠id∧Own m L j:=by
 rcases h with ⟨cs,sz,ver,hL,hc⟩ | ⟨r,hL⟩
 ·obtain⟨h1,cs',h2,_⟩:=Z9Z hr hL
  exact⟨h1,.inl ⟨_,_,_,h2,hc⟩⟩
 ·obtain⟨h1,h2⟩:=Z5T hr hL
  exact⟨h1,.inr ⟨_,h2⟩⟩
theorem Z0D.frz(hW:Z0D m L w)(hok:Z2Q L id):Z0D (Z81 m L w id) (Z5c L id) w:=by
 refine⟨hW.glob.mono fun g o h=>by simp only [Z81]; split; exact hW.pobjs _ _ h; exact h,fun g o hp=>?_,fun j cs sz ver hL hc=>?_,fun j cs sz ver hL hc=>?_,fun j r hL=>?_,fun i j hi hj he=>?_,fun j ho=>?_,?_⟩
 ·simp only [Z81] at hp
  split at hp
  ·exact hp
  ·exact hW.pobjs _ _ hp
 ·obtain⟨hj,cs',hL',rfl⟩:=Z9Z hok hL
  obtain⟨us,rest,elem,lo,hi,k1,k2,k3,k4⟩:=hW.rows _ _ _ _ hL' hc
  exact⟨us,rest,elem,lo,hi,k1,Z0a.frz hW hok _ _ k2,k3,k4⟩
 ·obtain⟨hj,cs',hL',rfl⟩:=Z9Z hok hL
  rw [hW.nils _ _ _ _ hL' hc]; rfl
 ·exact hW.iters _ _ (Z5T hok hL).2
 ·exact hW.inj i j (Z6u hok hi).2 (Z6u hok hj).2 he
 ·obtain⟨hj,ho'⟩:=Z6u hok ho
  simp only [Z81]
  rw [if_neg]
  ·exact hW.freeo j ho'
  ·rintro⟨h1,h2⟩
   exact hj (hW.inj j id ho' h2 h1)
 ·refine hW.hid.keep (fun i T e l h=>⟨(Z5T hok h).2,rfl,rfl⟩) (fun _ _ _ _ _ _=>rfl) (fun _ _ _=>rfl) (fun i g k=>?_) (fun i g k j hj=>hW.hid.own i g k j (Z6u hok hj).2)
  simp only [Z81]
  rw [if_neg]
  ·exact hW.hid.free i g k
  ·rintro⟨h1,h2⟩; exact hW.hid.own i g k id h2 h1.symm
theorem Ext.frz{m0:Mem}{L0:Z01}{w0:World}(hE:Ext m0 L0 w0 m L w)(hW:Z0D m L w)(hok:Z2Q L id)(hle:L0.length≤id):Ext m0 L0 w0 (Z81 m L w id) (Z5c L id) w:=by
 have hb:Own m L id→w0.heap.size≤m.blk id:=by
  intro ho
  rcases hE.blks id ho with ⟨h1,_⟩ | h1
  ·rcases h1 with ⟨_,_,_,h,_⟩ | ⟨_,h⟩ <;> (have:=(List.getElem?_eq_some_iff.1 h).1; omega)
  ·exact h1
 refine⟨hE.frame,hE.size,fun g hg=>?_,fun j ho=>hE.blks j (Z6u hok ho).2,by simp only [Z5c,List.length_map,List.length_set]; exact hE.len,⟨fun g o hp=>Z80 hW (hE.mono.pobj _ _ hp),fun j cs sz ver hL=>?_,fun j r hL=>?_⟩,hE.same,fun i g ⟨T,e,l,k1,k2⟩=>hE.hnew i g ⟨T,e,l,(Z5T hok k1).2,k2⟩⟩
 ·simp only [Z81]
  rw [if_neg]
  ·exact hE.newobj g hg
  ·rintro⟨h1,h2⟩; have:=hb h2; omega
 ·obtain⟨cs',v',h1,h2,h3⟩:=hE.mono.row _ _ _ _ hL
  have hj:j≠id:=by have:=(List.getElem?_eq_some_iff.1 hL).1; omega
  refine⟨Z4H L id cs',v',by rw [Z3D hj,h1]; rfl,h2,fun e=>?_⟩
  rw [Z3E]; exact h3 e
 ·obtain⟨r',h1,h2⟩:=hE.mono.iter _ _ hL
  have hj:j≠id:=by have:=(List.getElem?_eq_some_iff.1 hL).1; omega
  exact⟨r',by rw [Z3D hj,h1]; rfl,h2⟩
end
def Z5b(m:Mem)(n:Nat):Mem:={ m with cap:=fun i=>if i=n then 0 else m.cap i }
section
variable {m:Mem} {L:Z01} {w:World} {sz:Nat}
theorem Z5k{j:Nat}{o:Z0Q}(h:(L++[Z0Q.row [] sz 0])[j]?=some o):(j<L.length∧L[j]?=some o)∨(j=L.length∧o=.row [] sz 0):=by
 by_cases hlt:j<L.length
 ·rw [List.getElem?_append_left hlt] at h; exact .inl ⟨hlt,h⟩
 ·rw [List.getElem?_append_right (by omega)] at h
  have:j - L.length=0:=by
   have:=(List.getElem?_eq_some_iff.1 h).1
   simp at this; omega
  rw [this] at h
  simp at h
  exact .inr ⟨by omega,h.symm⟩
theorem Z4c:Z4D m L (Z5b m L.length) (L++[Z0Q.row [] sz 0]):=by
 refine⟨fun _ _ h=>h,fun id cs s v h=>?_,fun id r h=>?_⟩ <;> have hlt:=(List.getElem?_eq_some_iff.1 h).1
 ·exact⟨cs,v,by rw [List.getElem?_append_left hlt]; exact h,Nat.le_refl _,fun _=>⟨rfl,rfl,by simp only [Z5b]; rw [if_neg (by omega)]⟩⟩
 ·exact⟨r,by rw [List.getElem?_append_left hlt]; exact h,rfl⟩
theorem Z6e{j:Nat}(h:Own (Z5b m L.length) (L++[Z0Q.row [] sz 0]) j):j<L.length∧Own m L j:=by
 rcases h with ⟨cs,s,v,hL,hc⟩ | ⟨r,hL⟩
 ·rcases Z5k hL with ⟨h1,h2⟩ | ⟨h1,_⟩
  ·simp only [Z5b] at hc
   rw [if_neg (by omega)] at hc
   exact⟨h1,.inl ⟨_,_,_,h2,hc⟩⟩
  ·subst h1; simp [Z5b] at hc
 ·rcases Z5k hL with ⟨h1,h2⟩ | ⟨_,h2⟩
  ·exact⟨h1,.inr ⟨_,h2⟩⟩
  ·cases h2
theorem Z9I{j:Nat}{T e:TypeId}{l:List UInt8}(h:(L++[Z0Q.row [] sz 0])[j]?=some (.raw (.bld T e l))):L[j]?=some (.raw (.bld T e l))∧(Z5b m L.length).blk j=m.blk j∧(Z5b m L.length).cap j=m.cap j:=by
 rcases Z5k h with ⟨h1,h2⟩ | ⟨_,h2⟩
 ·exact⟨h2,rfl,by simp only [Z5b]; rw [if_neg (by omega)]⟩
 ·cases h2
theorem Z0D.nil(hW:Z0D m L w):Z0D (Z5b m L.length) (L++[Z0Q.row [] sz 0]) w:=by
 refine⟨hW.glob,hW.pobjs,fun j cs s v hL hc=>?_,fun j cs s v hL hc=>?_,fun j r hL=>?_,fun i j hi hj he=>hW.inj i j (Z6e hi).2 (Z6e hj).2 he,fun j ho=>hW.freeo j (Z6e ho).2,hW.hid.keep (fun i T e l h=>Z9I h) (fun _ _ _ _ _ _=>rfl) (fun _ _ _=>rfl) (fun i g k=>hW.hid.free i g k) (fun i g k j hj=>hW.hid.own i g k j (Z6e hj).2)⟩
 ·rcases Z5k hL with ⟨h1,h2⟩ | ⟨h1,_⟩
  ·simp only [Z5b] at hc ⊢
   rw [if_neg (by omega)] at hc ⊢
   obtain⟨us,rest,elem,lo,hi,k1,k2,k3,k4⟩:=hW.rows _ _ _ _ h2 hc
   exact⟨us,rest,elem,lo,hi,k1,Z0a.mono Z4c _ _ k2,k3,k4⟩
  ·subst h1; simp [Z5b] at hc
 ·rcases Z5k hL with ⟨h1,h2⟩ | ⟨_,h2⟩
  ·simp only [Z5b] at hc
   rw [if_neg (by omega)] at hc
   exact hW.nils _ _ _ _ h2 hc
  ·cases h2; rfl
 ·rcases Z5k hL with ⟨h1,h2⟩ | ⟨_,h2⟩
  ·exact hW.iters _ _ h2
  ·cases h2
theorem Ext.nil{m0:Mem}{L0:Z01}{w0:World}(hE:Ext m0 L0 w0 m L w):Ext m0 L0 w0 (Z5b m L.length) (L++[Z0Q.row [] sz 0]) w:=
 ⟨hE.frame,hE.size,hE.newobj,fun j ho=>hE.blks j (Z6e ho).2,by simp; have:=hE.len; omega,hE.mono.trans Z4c,hE.same,fun i g ⟨T,e,l,k1,k2⟩=>hE.hnew i g ⟨T,e,l,(Z9I (m:=m) k1).1,by rw [←(Z9I (m:=m) k1).2.2]; exact k2⟩⟩
theorem ZdC{fr:List AV}{us:List Value}(h:Z0a m L fr us)(i:Nat)(hi:fr.getD i .any=.lit (.slice none 0 0)):Z0a (Z5b m L.length) (L++[Z0Q.row [] sz 0]) (fr.set i (.msl L.length 0 0 0)) us:=by
 have h1:=h.getD i
 rw [hi] at h1
 simp only [Z03] at h1
 have hv:Z03 (Z5b m L.length) (L++[Z0Q.row [] sz 0]) (.msl L.length 0 0 0) (us.getD i undef):=by
  rw [h1]
  simp only [Z03]
  exact⟨[],sz,0,by simp,Nat.le_refl _,⟨none,0,0,rfl⟩,fun _=>⟨by simp,by simp,none,by simp [Z5b],.inl (by simp [Z5b])⟩⟩
 have h2:=(Z0a.mono (Z4c (sz:=sz)) _ _ h).set i hv
 have:us.set i (us.getD i undef)=us:=by
  apply List.ext_getElem?
  intro j
  rw [List.getElem?_set]
  split
  ·rename_i hij
   subst hij
   split
   ·rename_i hlt; simp [List.getD,hlt]
   ·rename_i hlt; rw [List.getElem?_eq_none (by omega)]
  ·rfl
 rwa [this] at h2
end
mutual
def Z4F(L:Z01)(id v':Nat):AV→AV
 | .msl i ver off n=>cond (i == id) (cond (ver == Z1t L id) (.msl i v' off n) .any) (.msl i ver off n)
 | .csl i ver off n=>cond (i == id) (cond (ver == Z1t L id) (.csl i v' off n) .any) (.csl i ver off n)
 | .ref i ver off=>cond (i == id) (cond (ver == Z1t L id) (.ref i v' off) .any) (.ref i ver off)
 | .agg cs=>.agg (Z5a L id v' cs)
 | .tup cs=>.tup (Z5a L id v' cs)
 | .sl cs n=>cond (Z1z 0 cs) (.sl cs n) .any
 | .ip cs=>cond (Z1z 0 cs) (.ip cs) .any
 | .fn f a b=>.fn f (Z5a L id v' a) (Z5a L id v' b)
 | .ifc t x=>.ifc t (Z4F L id v' x)
 | .when c x=>cond (scp 0 x) (.when c x) .any
 | .alt c x y=>cond (scp 0 x && scp 0 y) (.alt c x y) .any
 | .any=>.any
 | .int k n=>.int k n
 | .bool b=>.bool b
 | .str l=>.str l
 | .lit v=>.lit v
 | .ub p q=>.ub p q
 | .mp i=>.mp i
 | .mpr kd f=>.mpr kd f
def Z5a(L:Z01)(id v':Nat):List AV→List AV
 | []=>[]
 | x::xs=>Z4F L id v' x::Z5a L id v' xs
end
def ZiH(L:Z01)(id v':Nat):Z0Q→Z0Q
 | .row cs sz v=>.row (Z5a L id v' cs) sz v
 | .raw r=>.raw r
 | .dead=>.dead
def Z6N(L:Z01)(id v':Nat):Z01:=(match L[id]? with | some (.row cs sz _)=>L.set id (.row cs sz v') | _=>L).map (ZiH L id v')
theorem Z3p(L:Z01)(id v':Nat):∀cs:List AV,(Z5a L id v' cs).length=cs.length
 | []=>rfl
 | x::xs=>by simp only [Z5a,List.length_cons,Z3p L id v' xs]
section
variable {m:Mem} {L:Z01} {w:World} {id v':Nat}
theorem Z5Y{j:Nat}(hj:j≠id):(Z6N L id v')[j]?=(L[j]?).map (ZiH L id v'):=by
 simp only [Z6N]
 split
 ·rw [List.getElem?_map,List.getElem?_set_ne (Ne.symm hj)]
 ·rw [List.getElem?_map]
theorem Zad{cs:List AV}{sz v:Nat}(h:L[id]?=some (.row cs sz v)):(Z6N L id v')[id]?=some (.row (Z5a L id v' cs) sz v'):=by
 have hlt:=(List.getElem?_eq_some_iff.1 h).1
 simp only [Z6N,h,List.getElem?_map,List.getElem?_set_self hlt,Option.map_some,ZiH]
theorem Z9g{j:Nat}{r:Raw}(h:L[j]?=some (.raw r)):(Z6N L id v')[j]?=some (.raw r):=by
 by_cases hj:j=id
 ·subst hj
  simp only [Z6N,h,List.getElem?_map,Option.map_some,ZiH]
 ·rw [Z5Y hj,h]; rfl
theorem Z9f(hr:isRow L id=true){j:Nat}{cs:List AV}{sz v:Nat}(h:(Z6N L id v')[j]?=some (.row cs sz v)):∃cs0 v0,L[j]?=some (.row cs0 sz v0)∧cs=Z5a L id v' cs0:=by
 by_cases hj:j=id
 ·subst hj
  obtain⟨cs0,sz0,hL,_⟩:=Z0H (L:=L) (id:=j) (ver:=Z1t L j) ⟨hr,rfl⟩
  rw [Zad hL] at h
  simp only [Option.some.injEq,Z0Q.row.injEq] at h
  obtain⟨rfl,rfl,rfl⟩:=h
  exact⟨cs0,_,hL,rfl⟩
 ·rw [Z5Y hj,Option.map_eq_some_iff] at h
  obtain⟨o,h1,h2⟩:=h
  cases o <;> simp only [ZiH,reduceCtorEq,Z0Q.row.injEq] at h2
  obtain⟨rfl,rfl,rfl⟩:=h2
  exact⟨_,_,h1,rfl⟩
theorem Z5N(hr:isRow L id=true){j:Nat}{r:Raw}(h:(Z6N L id v')[j]?=some (.raw r)):L[j]?=some (.raw r):=by
 by_cases hj:j=id
 ·subst hj
  obtain⟨cs0,sz0,hL,_⟩:=Z0H (L:=L) (id:=j) (ver:=Z1t L j) ⟨hr,rfl⟩
  rw [Zad hL] at h; cases h
 ·rw [Z5Y hj,Option.map_eq_some_iff] at h
  obtain⟨o,h1,h2⟩:=h
  cases o <;> simp only [ZiH,reduceCtorEq,Z0Q.raw.injEq] at h2
  subst h2; exact h1
theorem Z5X(hr:isRow L id=true){j:Nat}(h:Own m (Z6N L id v') j):Own m L j:=by
 rcases h with ⟨cs,sz,ver,hL,hc⟩ | ⟨r,hL⟩
 ·obtain⟨cs0,v0,h1,_⟩:=Z9f hr hL
  exact .inl ⟨_,_,_,h1,hc⟩
 ·exact .inr ⟨_,Z5N hr hL⟩
theorem Z46{x:AV}{u:Value}(h:Z03 m L x u)(hs:scp 0 x=true):Z03 m (Z6N L id v') x u:=
 Z03.mono (m:=m) (L:=[]) ⟨fun _ _ h=>h,fun _ _ _ _ h=>by simp at h,fun _ _ h=>by simp at h⟩ _ _ (Z7l h hs)
theorem Z7r{i ver:Nat}{Q:Nat→Nat→Prop}{S:Prop}(hr:isRow L id=true)
  (h:∃cs sz v,L[i]?=some (.row cs sz v)∧ver≤v∧S∧(v=ver→Q sz cs.length)) :
  (i=id→ver=Z1t L id→∃cs sz v,(Z6N L id v')[i]?=some (.row cs sz v)∧v'≤v∧S∧(v=v'→Q sz cs.length))∧
  (i≠id→∃cs sz v,(Z6N L id v')[i]?=some (.row cs sz v)∧ver≤v∧S∧(v=ver→Q sz cs.length)):=by
 obtain⟨cs,sz,v,hL,hle,hs,hq⟩:=h
 refine⟨fun hi hv=>?_,fun hi=>?_⟩
 ·subst hi
  have:v=ver:=by rw [hv]; simp [Z1t,hL]
  exact⟨Z5a L i v' cs,sz,v',Zad hL,Nat.le_refl _,hs,fun _=>by rw [Z3p]; exact hq this⟩
 ·exact⟨Z5a L id v' cs,sz,v,by rw [Z5Y hi,hL]; rfl,hle,hs,by rw [Z3p]; exact hq⟩
mutual
theorem Z03.ver(hr:isRow L id=true):∀(x:AV) (u:Value),Z03 m L x u→Z03 m (Z6N L id v') (Z4F L id v' x) u
 | .any,_,_=>by simp [Z4F,Z03]
 | .int ..,_,h=>by simpa [Z4F,Z03] using h
 | .bool _,_,h=>by simpa [Z4F,Z03] using h
 | .str _,_,h=>by simpa [Z4F,Z03] using h
 | .lit _,_,h=>by simpa [Z4F,Z03] using h
 | .ub ..,_,h=>by simpa only [Z4F,Z03] using h
 | .agg cs,u,h=>by
  simp only [Z03,Z4F] at *
  obtain⟨us,rfl,hc⟩:=h
  exact⟨us,rfl,Z0a.ver hr cs us hc⟩
 | .tup cs,u,h=>by
  simp only [Z03,Z4F] at *
  obtain⟨us,rfl,hc⟩:=h
  exact⟨us,rfl,Z0a.ver hr cs us hc⟩
 | .sl cs n,u,h=>by
  simp only [Z4F]
  cases hs:Z1z 0 cs
  ·simp [Z03]
  ·exact Z46 h hs
 | .ip cs,u,h=>by
  simp only [Z4F]
  cases hs:Z1z 0 cs
  ·simp [Z03]
  ·exact Z46 h hs
 | .fn f a b,u,h=>by
  simp only [Z03,Z4F] at *
  obtain⟨us,vs,rfl,h1,h2⟩:=h
  exact⟨us,vs,rfl,Z0a.ver hr a us h1,Z0a.ver hr b vs h2⟩
 | .when c x,u,h=>by
  simp only [Z4F]
  cases hs:scp 0 x
  ·simp [Z03]
  ·exact Z46 h (by simpa [scp] using hs)
 | .alt c x y,u,h=>by
  simp only [Z4F]
  cases hs:scp 0 x && scp 0 y
  ·simp [Z03]
  ·exact Z46 h (by simpa [scp] using hs)
 | .ifc t x,u,h=>by
  simp only [Z03,Z4F] at *
  obtain⟨v,rfl,h⟩:=h
  exact⟨v,rfl,Z03.ver hr x v h⟩
 | .msl i ver off n,u,h=>by
  simp only [Z4F]
  simp only [Z03] at h
  have k:=Z7r (v':=v') (Q:=fun sz l=>(off+n)*sz≤l∧off+n≤m.cap i∧∃a,u=.slice a n (m.cap i - off)∧(off=m.cap i∨a=some ⟨m.blk i,off*sz,none⟩)) hr h
  by_cases hi:i=id
  ·by_cases hv:ver=Z1t L id
   ·have:=k.1 hi hv
    simpa only [hi,hv,beq_self_eq_true,cond_true,Z03] using this
   ·have e:(ver == Z1t L id)=false:=by simp [hv]
    simp [hi,e,Z03]
  ·have e:(i == id)=false:=by simp [hi]
   simpa only [e,cond_false,Z03] using k.2 hi
 | .csl i ver off n,u,h=>by
  simp only [Z4F]
  simp only [Z03] at h
  have k:=Z7r (v':=v') (Q:=fun sz l=>(off+n)*sz≤l∧off+n≤m.cap i∧∃a,u=.slice a n n∧(n=0∨a=some ⟨m.blk i,off*sz,none⟩)) hr h
  by_cases hi:i=id
  ·by_cases hv:ver=Z1t L id
   ·have:=k.1 hi hv
    simpa only [hi,hv,beq_self_eq_true,cond_true,Z03] using this
   ·have e:(ver == Z1t L id)=false:=by simp [hv]
    simp [hi,e,Z03]
  ·have e:(i == id)=false:=by simp [hi]
   simpa only [e,cond_false,Z03] using k.2 hi
 | .ref i ver off,u,h=>by
  simp only [Z4F]
  simp only [Z03] at h
  rcases h with h | ⟨r,hL,h⟩
  ·have k:=Z7r (v':=v') (Q:=fun _ _=>u=.pointer (some ⟨m.blk i,off,none⟩)) hr h
   by_cases hi:i=id
   ·by_cases hv:ver=Z1t L id
    ·have:=k.1 hi hv
     simp only [hi,hv,beq_self_eq_true,cond_true,Z03]
     left; simpa only [hi] using this
    ·have e:(ver == Z1t L id)=false:=by simp [hv]
     simp [hi,e,Z03]
   ·have e:(i == id)=false:=by simp [hi]
    simp only [e,cond_false,Z03]
    exact .inl (k.2 hi)
  ·have hi:i≠id:=by
    intro e; subst e
    simp [isRow,hL] at hr
   have e:(i == id)=false:=by simp [hi]
   simp only [e,cond_false,Z03]
   exact .inr ⟨r,Z9g hL,h⟩
 | .mp i,u,h=>by
  simp only [Z4F,Z03] at *
  obtain⟨r,hL,h⟩:=h
  exact⟨r,Z9g hL,h⟩
 | .mpr kd f,u,h=>by simpa only [Z4F,Z03] using h
theorem Z0a.ver(hr:isRow L id=true):∀(cs:List AV) (us:List Value),Z0a m L cs us→Z0a m (Z6N L id v') (Z5a L id v' cs) us
 | [],_,h=>by simpa [Z0a,Z5a] using h
 | c::cs,us,h=>by
  simp only [Z0a,Z5a] at *
  obtain⟨u,us',rfl,h1,h2⟩:=h
  exact⟨u,us',rfl,Z03.ver hr c u h1,Z0a.ver hr cs us' h2⟩
end
theorem Z0D.ver(hW:Z0D m L w)(hr:isRow L id=true):Z0D m (Z6N L id v') w:=by
 refine⟨hW.glob,hW.pobjs,fun j cs sz ver hL hc=>?_,fun j cs sz ver hL hc=>?_,fun j r hL=>hW.iters _ _ (Z5N hr hL),fun i j hi hj he=>hW.inj i j (Z5X hr hi) (Z5X hr hj) he,fun j ho=>hW.freeo j (Z5X hr ho),hW.hid.keep (fun i T e l h=>⟨Z5N hr h,rfl,rfl⟩) (fun _ _ _ _ _ _=>rfl) (fun _ _ _=>rfl) (fun i g k=>hW.hid.free i g k) (fun i g k j hj=>hW.hid.own i g k j (Z5X hr hj))⟩
 ·obtain⟨cs0,v0,h1,rfl⟩:=Z9f hr hL
  obtain⟨us,rest,elem,lo,hi,k1,k2,k3,k4⟩:=hW.rows _ _ _ _ h1 hc
  exact⟨us,rest,elem,lo,hi,k1,Z0a.ver hr _ _ k2,k3,k4⟩
 ·obtain⟨cs0,v0,h1,rfl⟩:=Z9f hr hL
  rw [hW.nils _ _ _ _ h1 hc]; rfl
theorem Z9i:(Z6N L id v').length=L.length:=by
 simp only [Z6N]; split <;> simp
theorem Ext.ver{m0:Mem}{L0:Z01}{w0:World}(hE:Ext m0 L0 w0 m L w)(hr:isRow L id=true)(hv:Z1t L0 id<v'∨L0.length≤id):Ext m0 L0 w0 m (Z6N L id v') w:=by
 refine⟨hE.frame,hE.size,hE.newobj,fun j ho=>hE.blks j (Z5X hr ho),by rw [Z9i]; exact hE.len,⟨hE.mono.pobj,fun j cs sz ver hL=>?_,fun j r hL=>?_⟩,hE.same,fun i g ⟨T,e,l,k1,k2⟩=>hE.hnew i g ⟨T,e,l,Z5N hr k1,k2⟩⟩
 ·obtain⟨cs',v1,h1,h2,h3⟩:=hE.mono.row _ _ _ _ hL
  by_cases hj:j=id
  ·subst hj
   have hlt:=(List.getElem?_eq_some_iff.1 hL).1
   have e:Z1t L0 j=ver:=by simp [Z1t,hL]
   refine⟨Z5a L j v' cs',v',Zad h1,by omega,fun e2=>by omega⟩
  ·exact⟨Z5a L id v' cs',v1,by rw [Z5Y hj,h1]; rfl,h2,fun e=>by rw [Z3p]; exact h3 e⟩
 ·obtain⟨r',h1,h2⟩:=hE.mono.iter _ _ hL
  exact⟨r',Z9g h1,h2⟩
end
theorem Zgi{α:Type}{us:List α}{i:Nat}{u:α}(h:us[i]?=some u):us.set i u=us:=by
 apply List.ext_getElem?
 intro j
 rw [List.getElem?_set]
 split
 ·rename_i hij; subst hij
  rw [if_pos (List.getElem?_eq_some_iff.1 h).1,h]
 ·rfl
theorem ZgZ{m:Mem}{L:Z01}{sz:Nat}{fr:List AV}{us:List Value}(h:Z0a m L fr us)(i j:Nat)(cs:List AV)(hi:fr.getD i .any=.tup cs)(hj:cs.getD j .any=.lit (.slice none 0 0)) :
  Z0a (Z5b m L.length) (L++[Z0Q.row [] sz 0]) (fr.set i (.tup (cs.set j (.msl L.length 0 0 0)))) us:=by
 have h':=Z0a.mono (Z4c (sz:=sz)) _ _ h
 have h1:=h'.getD i
 rw [hi] at h1
 simp only [Z03] at h1
 obtain⟨vs,hu,hc⟩:=h1
 have hc1:=ZdC (m:=m) (L:=L) (sz:=sz) (fr:=cs) (us:=vs) (by
  have h0:=h.getD i
  rw [hi] at h0
  simp only [Z03] at h0
  obtain⟨vs',hu',hc'⟩:=h0
  rw [hu] at hu'
  have:vs=vs':=by simpa using hu'
  rw [this]; exact hc') j hj
 have hlt:i<us.length:=by
  rcases Nat.lt_or_ge i us.length with h2 | h2
  ·exact h2
  ·have:fr.getD i .any=.any:=by simp [List.getD,List.getElem?_eq_none (by rw [←h.length]; exact h2)]
   rw [this] at hi; cases hi
 have hget:us[i]?=some (.tuple vs.toArray):=by
  have:us.getD i undef=us[i]:=by simp [List.getD,hlt]
  rw [this] at hu
  simp [hlt,hu]
 have:=h'.set i (c:=.tup (cs.set j (.msl L.length 0 0 0))) (u:=.tuple vs.toArray) (by simp only [Z03]; exact⟨vs,rfl,hc1⟩)
 rwa [Zgi hget] at this
section
variable {m:Mem} {L:Z01} {w:World}
theorem Z2z{id:Nat}{cs cs':List AV}{sz v:Nat}(hL:L[id]?=some (.row cs sz v)){j:Nat}{o:Z0Q}(h:(L.set id (.row cs' sz v))[j]?=some o):(j=id∧o=.row cs' sz v)∨(j≠id∧L[j]?=some o):=by
 have hlt:=(List.getElem?_eq_some_iff.1 hL).1
 by_cases hj:j=id
 ·subst hj; rw [List.getElem?_set_self hlt] at h; exact .inl ⟨rfl,(Option.some.inj h).symm⟩
 ·rw [List.getElem?_set_ne (Ne.symm hj)] at h; exact .inr ⟨hj,h⟩
theorem Z25{id:Nat}{cs cs':List AV}{sz v:Nat}(hL:L[id]?=some (.row cs sz v))(hl:cs'.length=cs.length):Z4D m L m (L.set id (.row cs' sz v)):=by
 have hlt:=(List.getElem?_eq_some_iff.1 hL).1
 refine⟨fun _ _ h=>h,fun i cs1 s v1 h=>?_,fun i r h=>?_⟩
 ·by_cases hi:i=id
  ·subst hi
   rw [hL] at h
   simp only [Option.some.injEq,Z0Q.row.injEq] at h
   obtain⟨rfl,rfl,rfl⟩:=h
   exact⟨cs',v,by rw [List.getElem?_set_self hlt],Nat.le_refl _,fun _=>⟨hl,rfl,rfl⟩⟩
  ·exact⟨cs1,v1,by rw [List.getElem?_set_ne (Ne.symm hi)]; exact h,Nat.le_refl _,fun _=>⟨rfl,rfl,rfl⟩⟩
 ·have hi:i≠id:=by rintro rfl; rw [hL] at h; cases h
  exact⟨r,by rw [List.getElem?_set_ne (Ne.symm hi)]; exact h,rfl⟩
theorem Z3j{id:Nat}{cs cs':List AV}{sz v:Nat}(hL:L[id]?=some (.row cs sz v)){j:Nat}(h:Own m (L.set id (.row cs' sz v)) j):Own m L j:=by
 rcases h with ⟨c1,s1,v1,h1,hc⟩ | ⟨r,h1⟩
 ·rcases Z2z hL h1 with ⟨rfl,h2⟩ | ⟨_,h2⟩
  ·exact .inl ⟨_,_,_,hL,hc⟩
  ·exact .inl ⟨_,_,_,h2,hc⟩
 ·rcases Z2z hL h1 with ⟨rfl,h2⟩ | ⟨_,h2⟩
  ·cases h2
  ·exact .inr ⟨_,h2⟩
theorem Z6V{id:Nat}{cs cs':List AV}{sz v:Nat}(hL:L[id]?=some (.row cs sz v)){j:Nat}{T e:TypeId}{l:List UInt8}(h:(L.set id (.row cs' sz v))[j]?=some (.raw (.bld T e l))):L[j]?=some (.raw (.bld T e l)):=by
 rcases Z2z hL h with ⟨_,h2⟩ | ⟨_,h2⟩
 ·cases h2
 ·exact h2
theorem Z0D.recell(hW:Z0D m L w){id:Nat}{cs cs':List AV}{sz v:Nat}(hL:L[id]?=some (.row cs sz v))(hl:cs'.length=cs.length)(hc:∀us,Z0a m L cs us→Z0a m L cs' us):Z0D m (L.set id (.row cs' sz v)) w:=by
 have M:=Z25 (m:=m) hL hl
 refine⟨hW.glob,hW.pobjs,fun j c s v1 h hcap=>?_,fun j c s v1 h hcap=>?_,fun j r h=>?_,fun i j hi hj he=>hW.inj i j (Z3j hL hi) (Z3j hL hj) he,fun j ho=>hW.freeo j (Z3j hL ho),hW.hid.keep (fun i T e l h=>⟨Z6V hL h,rfl,rfl⟩) (fun _ _ _ _ _ _=>rfl) (fun _ _ _=>rfl) (fun i g k=>hW.hid.free i g k) (fun i g k j hj=>hW.hid.own i g k j (Z3j hL hj))⟩
 ·rcases Z2z hL h with ⟨rfl,h2⟩ | ⟨_,h2⟩
  ·simp only [Z0Q.row.injEq] at h2
   obtain⟨rfl,rfl,rfl⟩:=h2
   obtain⟨us,rest,elem,lo,hi,k1,k2,k3,k4⟩:=hW.rows _ _ _ _ hL hcap
   exact⟨us,rest,elem,lo,hi,k1,Z0a.mono M _ _ (hc _ k2),k3,k4⟩
  ·obtain⟨us,rest,elem,lo,hi,k1,k2,k3,k4⟩:=hW.rows _ _ _ _ h2 hcap
   exact⟨us,rest,elem,lo,hi,k1,Z0a.mono M _ _ k2,k3,k4⟩
 ·rcases Z2z hL h with ⟨rfl,h2⟩ | ⟨_,h2⟩
  ·simp only [Z0Q.row.injEq] at h2
   obtain⟨rfl,rfl,rfl⟩:=h2
   have:=hW.nils _ _ _ _ hL hcap
   rw [this] at hl
   exact List.eq_nil_of_length_eq_zero hl
  ·exact hW.nils _ _ _ _ h2 hcap
 ·rcases Z2z hL h with ⟨rfl,h2⟩ | ⟨_,h2⟩
  ·cases h2
  ·exact hW.iters _ _ h2
theorem Ext.recell{m0:Mem}{L0:Z01}{w0:World}(hE:Ext m0 L0 w0 m L w){id:Nat}{cs cs':List AV}{sz v:Nat}(hL:L[id]?=some (.row cs sz v))(hl:cs'.length=cs.length):Ext m0 L0 w0 m (L.set id (.row cs' sz v)) w:=
 ⟨hE.frame,hE.size,hE.newobj,fun j ho=>hE.blks j (Z3j hL ho),by rw [List.length_set]; exact hE.len,hE.mono.trans (Z25 hL hl),hE.same,fun i g ⟨T,e,l,k1,k2⟩=>hE.hnew i g ⟨T,e,l,Z6V hL k1,k2⟩⟩
end
theorem Zh0{m:Mem}{L:Z01}{w:World}(hW:Z0D m L w){id:Nat}(j sz':Nat){cs:List AV}{sz v:Nat}(hL:L[id]?=some (.row cs sz v))(hj:cs.getD j .any=.lit (.slice none 0 0)) :
  L.set id (.row (cs.set j (.msl L.length 0 0 0)) sz v)++[Z0Q.row [] sz' 0]=(L++[Z0Q.row [] sz' 0]).set id (.row (cs.set j (.msl L.length 0 0 0)) sz v)∧(L++[Z0Q.row [] sz' 0])[id]?=some (.row cs sz v)∧
   ∀us,Z0a (Z5b m L.length) (L++[Z0Q.row [] sz' 0]) cs us→Z0a (Z5b m L.length) (L++[Z0Q.row [] sz' 0]) (cs.set j (.msl L.length 0 0 0)) us:=by
 have hlt:=(List.getElem?_eq_some_iff.1 hL).1
 have hL1:(L++[Z0Q.row [] sz' 0])[id]?=some (.row cs sz v):=by rw [List.getElem?_append_left hlt]; exact hL
 refine⟨by rw [List.set_append_left _ _ hlt],hL1,?_⟩
 have hjl:j<cs.length:=by
  rcases Nat.lt_or_ge j cs.length with h' | h'
  ·exact h'
  ·simp [List.getD,List.getElem?_eq_none h'] at hj
 have hv:Z03 (Z5b m L.length) (L++[Z0Q.row [] sz' 0]) (.msl L.length 0 0 0) (.slice none 0 0):=by
  simp only [Z03]
  exact⟨[],sz',0,by simp,Nat.le_refl _,⟨none,0,0,rfl⟩,fun _=>⟨by simp,by simp,none,by simp [Z5b],.inl (by simp [Z5b])⟩⟩
 intro us hcs
 refine Z0a.mk (by simp [hcs.length]) fun i c u hi hu=>?_
 rw [List.getElem?_set] at hi
 by_cases hij:j=i
 ·subst hij
  simp [hjl] at hi
  subst hi
  have:=hcs.getD j
  rw [hj] at this
  simp only [Z03] at this
  simp [List.getD,hu] at this
  rw [this]; exact hv
 ·simp [hij] at hi
  obtain⟨u1,hu1,hr1⟩:=hcs.get i c hi
  rw [hu] at hu1; obtain rfl:=Option.some.inj hu1; exact hr1
inductive Z0q (L0:Z01):List AV→Z01→List AV×Z01→Prop
 | refl (S:List AV×Z01):Z0q L0 S.1 S.2 S
 | weak {fr:List AV} {L:Z01} {fr':List AV} {L':Z01} {S:List AV×Z01} (ids:List Nat) (h:Zc3 L0.length ids fr L fr' L') (hle:L0.length≤L'.length) (h':Z0q L0 fr' L' S):Z0q L0 fr L S
 | nil {fr:List AV} {L:Z01} {S:List AV×Z01} (i sz:Nat) (hi:fr.getD i .any=.lit (.slice none 0 0)) (h:Z0q L0 (fr.set i (.msl L.length 0 0 0)) (L++[.row [] sz 0]) S):Z0q L0 fr L S
 | nilT {fr:List AV} {L:Z01} {S:List AV×Z01} (i j sz:Nat) (cs:List AV) (hi:fr.getD i .any=.tup cs) (hj:cs.getD j .any=.lit (.slice none 0 0)) (h:Z0q L0 (fr.set i (.tup (cs.set j (.msl L.length 0 0 0)))) (L++[.row [] sz 0]) S):Z0q L0 fr L S
 | frz {fr:List AV} {L:Z01} {S:List AV×Z01} (id:Nat) (hn:L0.length≤id) (hok:Z2Q L id) (h:Z0q L0 (Z4H L id fr) (Z5c L id) S):Z0q L0 fr L S
 | sem {fr fr':List AV} {L:Z01} {S:List AV×Z01} (hs:∀m us,Z0a m L fr us→Z0a m L fr' us) (h:Z0q L0 fr' L S):Z0q L0 fr L S
 | recell {fr:List AV} {L:Z01} {S:List AV×Z01} (id:Nat) (cs':List AV) {cs:List AV} {sz v:Nat} (hL:L[id]?=some (.row cs sz v)) (hl:cs'.length=cs.length) (hc:∀m us,Z0a m L cs us→Z0a m L cs' us) (h:Z0q L0 fr (L.set id (.row cs' sz v)) S):Z0q L0 fr L S
 | nilH {fr:List AV} {L:Z01} {S:List AV×Z01} (id j sz':Nat) {cs:List AV} {sz v:Nat} (hL:L[id]?=some (.row cs sz v)) (hj:cs.getD j .any=.lit (.slice none 0 0)) (h:Z0q L0 fr (L.set id (.row (cs.set j (.msl L.length 0 0 0)) sz v)++[.row [] sz' 0]) S):Z0q L0 fr L S
 | ver {fr:List AV} {L:Z01} {S:List AV×Z01} (id v':Nat) (hr:isRow L id=true) (hv:Z1t L0 id<v'∨L0.length≤id) (h:Z0q L0 (Z5a L id v' fr) (Z6N L id v') S):Z0q L0 fr L S
theorem Z0q.base{L0:Z01}{fr:List AV}{L:Z01}{S:List AV×Z01}(ids:List Nat)(h:Zc3 L0.length ids fr L S.1 S.2)(hle:L0.length≤S.2.length):Z0q L0 fr L S:=.weak ids h hle (.refl S)
theorem Z0q.trans{L0:Z01}{fr:List AV}{L:Z01}{S S':List AV×Z01}(h:Z0q L0 fr L S):Z0q L0 S.1 S.2 S'→Z0q L0 fr L S':=by
 induction h with
 | refl S=>exact id
 | weak ids h hle h' ih=>exact fun k=>.weak ids h hle (ih k)
 | nil i sz hi h ih=>exact fun k=>.nil i sz hi (ih k)
 | nilT i j sz cs hi hj h ih=>exact fun k=>.nilT i j sz cs hi hj (ih k)
 | frz id hn hok h ih=>exact fun k=>.frz id hn hok (ih k)
 | sem hs h ih=>exact fun k=>.sem hs (ih k)
 | recell id cs' hL hl hc h ih=>exact fun k=>.recell id cs' hL hl hc (ih k)
 | nilH id j sz' hL hj h ih=>exact fun k=>.nilH id j sz' hL hj (ih k)
 | ver id v' hr hv h ih=>exact fun k=>.ver id v' hr hv (ih k)
theorem Z0q.sound{m0:Mem}{L0:Z01}{w0:World}{fr:List AV}{L:Z01}{S:List AV×Z01}(h:Z0q L0 fr L S):∀{m:Mem} {w:World} {us:List Value},Z0D m L w→Z0a m L fr us→Ext m0 L0 w0 m L w→
  ∃m',Z0D m' S.2 w∧Z0a m' S.2 S.1 us∧Ext m0 L0 w0 m' S.2 w:=by
 induction h with
 | refl S=>
  intro m w us hW hc hE
  exact⟨m,hW,hc,hE⟩
 | weak ids h hle h' ih=>
  intro m w us hW hc hE
  have H:=h.renamed m
  exact ih (Z0D.ren H h.2.2.2.2.2 hW) (Z0a.ren H _ _ (Z6m h.1 hc) h.2.2.2.2.1) (h.ext rfl hle hE)
 | nil i sz hi h ih=>
  intro m w us hW hc hE
  exact ih hW.nil (ZdC hc i hi) hE.nil
 | nilT i j sz cs hi hj h ih=>
  intro m w us hW hc hE
  exact ih hW.nil (ZgZ hc i j cs hi hj) hE.nil
 | frz id hn hok h ih=>
  intro m w us hW hc hE
  exact ih (hW.frz hok) (Z0a.frz hW hok _ _ hc) (hE.frz hW hok hn)
 | sem hs h ih=>
  intro m w us hW hc hE
  exact ih hW (hs m us hc) hE
 | recell id cs' hL hl hc h ih=>
  intro m w us hW hcr hE
  exact ih (hW.recell hL hl (hc m)) (Z0a.mono (Z25 hL hl) _ _ hcr) (hE.recell hL hl)
 | nilH id j sz' hL hj h ih=>
  intro m w us hW hc hE
  obtain⟨e,hL1,hcell⟩:=Zh0 hW j sz' hL hj
  rw [e] at ih
  exact ih (hW.nil.recell hL1 (by simp) hcell) (Z0a.mono (Z25 hL1 (by simp)) _ _ (Z0a.mono (Z4c (m:=m) (sz:=sz')) _ _ hc)) (hE.nil.recell hL1 (by simp))
 | ver id v' hr hv h ih=>
  intro m w us hW hc hE
  exact ih (hW.ver hr) (Z0a.ver hr _ _ hc) (hE.ver hr hv)
theorem RS.intoF{B:Z8f}{fr:List AV}{L:Z01}{m:Mem}{a:Act}{w:World}(h:RS B fr L m a w){S:List AV×Z01}(hi:Z0q B.L fr L S):∃m',RS B S.1 S.2 m' a w:=by
 obtain⟨m',h1,h2,h3⟩:=hi.sound h.wrel h.frel h.ext
 exact⟨m',h1,h2,h3,h.defers⟩
structure Z0n where
 pre:List AV→Z01→Prop
 res:List AV→Z01→AV
 post:List AV→Z01→Z01
 quiet:Bool
structure Con(P:Program)(f:FuncId)(sp:Z0n):Prop where
 quiet:sp.quiet=true→∀xs L,sp.post xs L=L
 runs:((∃fn,P.funcs[f]?=some fn∧fn.body.isNone=false∧(fn.name == "runtime.NumGoroutine")=false)∧
   ∀(m:Mem) (L:Z01) (w:World) (xs:List AV) (vs:List Value),Z0D m L w→Z0a m L xs vs→sp.pre xs L→
    Calls P f vs.toArray w fun e w'=>∃v m',e=.returned v∧Z03 m' (sp.post xs L) (sp.res xs L) v∧Z0D m' (sp.post xs L) w'∧Ext m L w m' (sp.post xs L) w')∨
  ∀(m:Mem) (L:Z01) (w:World) (xs:List AV) (vs:List Value),Z0D m L w→Z0a m L xs vs→sp.pre xs L→
   ∃v,(callFunc f vs.toArray).run P w=.ok (.value v) w∧Z03 m L (sp.res xs L) v∧sp.post xs L=L
abbrev Env:=FuncId→Option Z0n
def Z07(P:Program)(Γ:Env):Prop:=∀f sp,Γ f=some sp→Con P f sp
def Z0f(all:List Oper)(fr:List AV):Option (Nat×Bool)→Bool
 | none=>true
 | some (j,want)=>match (all[j]?).bind (·.dst) with
  | some d=>match fr.getD d .any with
   | .bool b=>b == want
   | .when c (.bool b)=>c && (b == want)
   | _=>false
  | none=>false
def Z1D(all:List Oper)(fr:List AV):Option (Nat×Bool)→Prop
 | none=>True
 | some (j,_)=>match (all[j]?).bind (·.dst) with
  | some d=>match fr.getD d .any with
   | .bool _=>True
   | .when _ (.bool _)=>True
   | _=>False
  | none=>False
def ZfK(Γ:Env)(c:Bool)(fr:List AV)(L:Z01)(f:Operand)(args:List Operand):Rz:=
 match (opd fr f).bare with
 | .fn (.func g) first captured=>match Γ g with
  | some sp=>⟨need c (opd fr f)∧Z2N c (args.map (opd fr))∧(c=true→sp.pre (first++args.map (fun x=>(opd fr x).bare)++captured) L),
    sp.res (first++args.map (fun x=>(opd fr x).bare)++captured) L,cond c (sp.post (first++args.map (fun x=>(opd fr x).bare)++captured) L) L⟩
  | none=>bad L
 | _=>bad L
noncomputable def Z16(P:Program)(Γ:Env)(c:Bool)(fr:List AV)(L:Z01):Op→Rz
 | .call { callee:=.value f,args:=args,argTypes:=_ }=>ZfK Γ c fr L f args.toList
 | op=>ev P c fr L op
noncomputable def stepA(P:Program)(Γ:Env)(all:List Oper)(c:Bool)(fr:List AV)(L:Z01)(o:Oper):Rz:=
 match Zjh all o,o.op with
 | true,.buildSlice t len parts=>(Z3t P c L t len (Z32 fr parts)).also (Z2N c (parts.toList.map fun p=>opd fr p.2))
 | _,op=>Z16 P Γ c fr L op
theorem Z1M(P:Program)(Γ:Env)(all:List Oper)(o:Oper):(∀c fr L,stepA P Γ all c fr L o=Z16 P Γ c fr L o.op)∨
  ∃t len parts,o.op=.buildSlice t len parts∧∀c fr L,stepA P Γ all c fr L o=(Z3t P c L t len (Z32 fr parts)).also (Z2N c (parts.toList.map fun p=>opd fr p.2)):=by
 obtain⟨dst,op,ty,pos,after,guard⟩:=o
 cases hl:Zjh all ⟨dst,op,ty,pos,after,guard⟩ with
 | false=>left; intro c fr L; simp only [stepA,hl]
 | true=>
  cases op <;> first
   | (left; intro c fr L; simp only [stepA,hl]; done)
   | (right; exact⟨_,_,_,rfl,fun c fr L=>by simp only [stepA,hl]⟩)
def mkV:Option (Nat×Bool)→Bool→AV→AV
 | none,_,v=>v
 | some _,c,v=>.when c v
def Z1R(fr:List AV):Option Tmp→AV→List AV
 | none,_=>fr
 | some d,v=>fr.set d v
def ZbQ(P:Program)(Γ:Env)(all:List Oper):List Oper→List AV→Z01→(List AV→Z01→Prop)→Prop
 | [],fr,L,K=>K fr L
 | o::r,fr,L,K=>
  Z1D all fr o.guard∧(stepA P Γ all (Z0f all fr o.guard) fr L o).pre∧
   ZbQ P Γ all r (Z1R fr o.dst (mkV o.guard (Z0f all fr o.guard) (stepA P Γ all (Z0f all fr o.guard) fr L o).v)) (stepA P Γ all (Z0f all fr o.guard) fr L o).L K
section
variable {P:Program} {Γ:Env} {m:Mem} {L:Z01} {w:World}
theorem Z3V{fr:List AV}{a:Act}(h:Z0a m L fr a.tmps.toList)(ops:Array Oper)(o:Oper)(hg:Z1D ops.toList fr o.guard) :
  Region.wanted o (yielded ops a.tmps)=Z0f ops.toList fr o.guard:=by
 unfold Region.wanted Z0f
 cases hgd:o.guard with
 | none=>rfl
 | some q=>
  obtain⟨j,want⟩:=q
  rw [hgd] at hg
  simp only [Z1D] at hg
  have e:(ops.toList[j]?).bind (·.dst)=(ops[j]?).bind (·.dst):=by simp
  simp only [yielded]
  rw [e] at hg ⊢
  cases hd:(ops[j]?).bind (·.dst) with
  | none=>rw [hd] at hg; exact hg.elim
  | some d=>
   rw [hd] at hg
   simp only at hg ⊢
   have hr:=h.getD d
   have hlen:=h.length
   have hdlt:d<fr.length:=by
    rcases Nat.lt_or_ge d fr.length with h' | h'
    ·exact h'
    ·simp [List.getD,List.getElem?_eq_none h'] at hg
   have hget:a.tmps[d]?=some (a.tmps.toList.getD d undef):=by
    have h2:d<a.tmps.size:=by rw [←Array.length_toList,hlen]; exact hdlt
    simp [List.getD,h2]
   simp only [Option.bind_some,hget]
   split at hg
   ·rename_i b hb
    rw [hb] at hr
    simp only [Z03] at hr
    rw [hr]
    simp
   ·rename_i c b hb
    rw [hb] at hr
    simp only [Z03] at hr
    cases c with
    | true=>
     rw [hr.1 rfl]
     simp
    | false=>
     rw [hr.2 rfl]
     simp [undef]
   ·exact hg.elim
theorem Z9l(hΓ:Z07 P Γ)(fr:List AV)(op:Op)(hp:(Z16 P Γ false fr L op).pre):(Z16 P Γ false fr L op).L=L:=by
 have hb:∀L:Z01,(bad L).L=L:=fun _=>rfl
 cases op <;> try (first | rfl | exact hp.elim)
 case pick q x y=>simp only [Z16,ev,Zdq]; split <;> rfl
 case binOp op t x y yt=>
  simp only [Z16,ev,Rz.also,Zkn]
  split
  ·cases op <;> rfl
  ·cases op <;> rfl
  ·split <;> rfl
  ·split
   ·simp only [Z8X]; repeat' split
    all_goals rfl
   ·simp only [Z8X]; repeat' split
    all_goals rfl
   ·rfl
  ·split
   ·simp only [Zi7]; split <;> rfl
   ·simp only [Zi7]; split <;> rfl
   ·rfl
  ·rfl
 case unOp op t x=>simp only [Z16,ev,Rz.also,unR]; split <;> rfl
 case convert s d x=>
  simp only [Z16,ev,Rz.also,ZfI] at *
  split
  ·split <;> rfl
  ·rename_i l heq
   rw [heq] at hp
   simp only at hp
   split <;> rename_i hd <;> simp only [hd] at hp ⊢ <;> simp at hp
  all_goals first | rfl | (split <;> rfl)
 case index t x i=>
  simp only [Z16,ev,Rz.also,Z7b]
  split
  ·rfl
  ·split <;> rfl
  ·rfl
 case indexAddr t x i=>simp only [Z16,ev,Rz.also,Z2C]; split <;> first | rfl | (split <;> rfl)
 case load t x=>simp only [Z16,ev,Rz.also,Z8H]; split <;> rfl
 case store t x y=>simp only [Z16,ev,Rz.also,Zam] at *; split at hp <;> simp_all
 case alloc t=>simp only [Z16,ev,Z6F] at hp; split at hp <;> simp at hp
 case box t x=>simp [Z16,ev,Rz.also,ZmG] at hp
 case build t parts=>
  simp only [Z16,ev,Rz.also,Z90]
  split
  ·split <;> rfl
  ·split <;> rfl
  ·rfl
 case buildSlice t len parts=>
  simp only [Z16,ev,Rz.also,Z2T] at *
  split at hp
  ·split at hp <;> simp_all
  ·simp_all
 case field t x f=>
  simp only [Z16,ev,Rz.also,Z7h]
  split
  ·split <;> rfl
  ·rfl
 case fieldAddr t x f=>
  simp only [Z16,ev,Rz.also,Z2D]
  split
  ·split
   ·split <;> rfl
   ·rfl
  ·rfl
 case extract x i=>simp only [Z16,ev,Rz.also,Z4i]; split <;> rfl
 case slice t x lo hi mx=>
  simp only [Z16,ev,Rz.also,Z6P]
  split
  ·split <;> rfl
  ·split <;> rfl
  ·repeat' split
   all_goals rfl
  ·split <;> rfl
  ·rfl
 case sliceToArrayPointer t x=>simp only [Z16,ev,Rz.also,Z5q]; split <;> rfl
 case makeMap t r=>
  simp only [Z16,ev,Rz.also,Z4V] at *
  repeat' split at hp
  all_goals simp_all
 case insert t x k v=>
  simp only [Z16,ev,Rz.also,Z3a] at *
  repeat' split at hp
  all_goals simp_all
 case mapUpdate t x k v=>
  simp only [Z16,ev,Rz.also,Z3a] at *
  repeat' split at hp
  all_goals simp_all
 case lookup t x k ok=>
  simp only [Z16,ev,Rz.also,ZbI]
  repeat' split
  all_goals rfl
 case range t x=>simp only [Z16,ev,Rz.also,Z8r] at *; split at hp <;> simp_all
 case next x b=>
  simp only [Z16,ev,Rz.also,ZdD] at *
  split at hp
  ·split at hp <;> simp_all
  ·simp_all
 case nilCheck x=>simp only [Z16,ev,Rz.also,Z3m]; split <;> rfl
 case makeSlice t l k=>simp only [Z16,ev,Rz.also,Z3n] at *; split at hp <;> simp_all
 case call c=>
  obtain⟨callee,args,ts⟩:=c
  cases callee with
  | value f=>
   simp only [Z16,ZfK] at *
   split at hp
   ·rename_i g a b hf
    split at hp
    ·rename_i sp hsp
     simp only [hf,hsp]
     rfl
    ·exact hp.elim
   ·exact hp.elim
  | invoke r n=>exact hp.elim
  | builtin b=>
   simp only [Z16,ev,Z4k] at *
   split at hp
   ·simp only [Rz.also,Zkh]; repeat' split
    all_goals rfl
   ·simp only [Rz.also,ZfY]; split <;> rfl
   ·simp only [Rz.also,ZfY]; split <;> rfl
   ·simp only [Rz.also,Zmr] at *
    split at hp
    ·simp only [Z8g] at *
     split at hp <;> simp_all
    ·simp only [Z5r] at *
     split at hp
     ·split at hp <;> simp_all
     ·simp_all
   ·simp only [Rz.also,ZfG] at *
    split at hp <;> simp_all
   ·simp only [Rz.also,Z6f] at *
    split at hp
    ·split at hp <;> simp_all
    ·simp_all
   ·exact hp.elim
theorem Z2n{fr:List AV}{a:Act}(h:Z0a m L fr a.tmps.toList)(dst:Option Tmp){x:AV}{v:Value}(hr:Z03 m L x v):Z0a m L (Z1R fr dst x) (a.put dst v).tmps.toList:=by
 cases dst with
 | none=>exact h
 | some d=>
  simp only [Z1R,Act.put,Array.toList_setIfInBounds]
  exact h.set d hr
theorem Z9m(hΓ:Z07 P Γ)(all:List Oper)(fr:List AV)(o:Oper)(hp:(stepA P Γ all false fr L o).pre):(stepA P Γ all false fr L o).L=L:=by
 rcases Z1M P Γ all o with hst | ⟨t,len,parts,hop,hst⟩
 ·rw [hst] at hp ⊢; exact Z9l hΓ fr o.op hp
 ·rw [hst]
  simp only [Rz.also,Z3t]
  split
  ·split <;> rfl
  ·rfl
def Z1q(R:Option Nat):Fence:={ Fence.wide with round:=R }
theorem Za4{R:Option Nat}{n:Nat}{f:FuncId}{args:Array Value}{w:World}{E:Ending→World→Prop}(h:Calls P f args w E):CallsIn (Z1q R) n P f args w E:=(callsIn_wide (n:=n)).2 h
theorem Z9n(all:List Oper)(c:Bool)(fr:List AV)(o:Oper){q:Call}(ho:o.op=.defer q)(hp:(stepA P Γ all c fr L o).pre):False:=by
 rcases Z1M P Γ all o with hst | ⟨t,len,parts,hop,hst⟩
 ·rw [hst,ho] at hp; exact hp
 ·rw [hop] at ho; cases ho
theorem Z48{R:Option Nat}(hΓ:Z07 P Γ)(hW:Z0D m L w){fr:List AV}{a:Act}(h:Z0a m L fr a.tmps.toList)(ops:Array Oper)(o:Oper){next:Act→World→Prop}{Q:Exit→Act→World→Prop}
  (hg:Z1D ops.toList fr o.guard) (hp:(stepA P Γ ops.toList (Z0f ops.toList fr o.guard) fr L o).pre)
  (hK:∀a' w' m',Z0D m' (stepA P Γ ops.toList (Z0f ops.toList fr o.guard) fr L o).L w'→
   Z0a m' (stepA P Γ ops.toList (Z0f ops.toList fr o.guard) fr L o).L (Z1R fr o.dst (mkV o.guard (Z0f ops.toList fr o.guard) (stepA P Γ ops.toList (Z0f ops.toList fr o.guard) fr L o).v)) a'.tmps.toList→
   Ext m L w m' (stepA P Γ ops.toList (Z0f ops.toList fr o.guard) fr L o).L w'→a'.defers=a.defers→next a' w') :
  if Region.wanted o (yielded ops a.tmps) then o.wpIn (Z1q R) 0 P a w next Q else (∀f,o.about P w a.eval=some f→(Z1q R).fn f)∧next (a.put o.dst undef) w:=by
 rw [Z3V h ops o hg]
 cases hc:Z0f ops.toList fr o.guard with
 | false=>
  rw [hc] at hp hK
  have hL:=Z9m hΓ ops.toList fr o hp
  rw [hL] at hK
  simp only [Bool.false_eq_true,if_false]
  refine⟨fun _ _=>trivial,hK _ w m hW ?_ Ext.refl (by cases o.dst <;> rfl)⟩
  refine Z2n h o.dst ?_
  cases hgd:o.guard with
  | none=>rw [hgd] at hc; simp [Z0f] at hc
  | some q=>simp [mkV,Z03]
 | true=>
  rw [hc] at hp hK
  simp only [if_true]
  refine⟨fun _ _=>trivial,?_⟩
  rw [Oper.semAt_eq _ _ _ (fun q hq=>Z9n _ _ _ _ hq hp)]
  have hmk:∀m' L' x v,Z03 m' L' x v→Z03 m' L' (mkV o.guard true x) v:=by
   intro m' L' x v hv
   cases o.guard with
   | none=>exact hv
   | some q=>simp only [mkV,Z03]; exact⟨fun _=>hv,fun h=>by cases h⟩
  rcases Z1M P Γ ops.toList o with hst | ⟨t,len,parts,hop,hst⟩
  case inr=>
   simp only [hst] at hp hK
   have hS:Z0i P m L w ((Z3t P true L t len (Z32 fr parts)).also (Z2N true (parts.toList.map fun p=>opd fr p.2))) (execOp a.eval o):=by
    obtain⟨dst,op,ty,pos,after,guard⟩:=o
    simp only at hop
    subst hop
    exact Z0i.also fun h1=>Z7E hW t len (Z3l h parts h1).1 (Z3l h parts h1).2
   obtain⟨n,w',m',hrun,hres,hW',hE⟩:=hS hp
   have hmono:=Z0a.mono hE.mono _ _ h
   rw [hrun]
   rcases hres with ⟨u,rfl,hv⟩ | ⟨rfl,hv⟩
   ·simp only [Oper.uponIn]
    exact hK _ w' m' hW' (Z2n hmono o.dst (hmk _ _ _ _ hv)) hE (by cases o.dst <;> rfl)
   ·simp only [Oper.uponIn]
    refine hK _ w' m' hW' (Z2n hmono o.dst (hmk _ _ _ _ ?_)) hE (by cases o.dst <;> rfl)
    rw [hv]; simp [Z03]
  simp only [hst] at hp hK
  by_cases hcall:∃f args ts,o.op=.call { callee:=.value f,args:=args,argTypes:=ts }
  ·obtain⟨f,args,ts,ho⟩:=hcall
   rw [ho] at hp hK
   simp only [Z16,ZfK] at hp hK
   split at hp
   ·rename_i g first captured hf
    rw [hf] at hK
    simp only at hK
    split at hp
    ·rename_i sp hsp
     rw [hsp] at hK
     simp only at hK
     obtain⟨hn1,hn2,hpre⟩:=hp
     simp only [cond_true] at hK
     have hcon:=hΓ g sp hsp
     have hfv:=Z3G (Z0Z h f) (hn1 rfl)
     rw [hf] at hfv
     simp only [Z03] at hfv
     obtain⟨us,vs,hfe,hu1,hu2⟩:=hfv
     have hargs:=Z3w h args.toList hn2
     have hall:=(hu1.append hargs).append hu2
     rcases hcon.runs.symm with hext | ⟨⟨fn,hfn,hbody,hname⟩,hcl⟩
     ·obtain⟨v,hr,hv,hpo⟩:=hext m L w _ _ hW hall (hpre trivial)
      have hrun:(execOp a.eval o).run P w=.ok (.value v) w:=by
       have e:args.map a.eval=(args.toList.map a.eval).toArray:=by apply Array.ext'; simp
       rw [List.append_assoc] at hr
       simp [execOp,ho,resolve,hfe,Deferred.ofValue,invoke,e,hr]
      rw [hrun]
      simp only [Oper.uponIn]
      rw [hpo] at hK
      exact hK _ w m hW (Z2n h o.dst (hmk _ _ _ _ hv)) Ext.refl (by cases o.dst <;> rfl)
     have hcalls:=hcl m L w _ _ hW hall (hpre trivial)
     have hname':fn.name≠ "runtime.NumGoroutine":=by simpa using hname
     have hbody':fn.body≠none:=by intro h; simp [h] at hbody
     have hrun:(execOp a.eval o).run P w=.ok (.enter g (us++args.toList.map a.eval++vs).toArray) w:=by
      have e:args.map a.eval=(args.toList.map a.eval).toArray:=by apply Array.ext'; simp
      simp [execOp,ho,resolve,hfe,Deferred.ofValue,invoke,callFunc,hfn,hbody',hname',e]
     rw [hrun]
     refine⟨fun h=>(by cases h),CallsIn.mono (Za4 hcalls) ?_⟩
     rintro e w' ⟨v,m',rfl,h1,h2,h3⟩
     refine hK _ w' m' h2 (Z2n (Z0a.mono h3.mono _ _ h) o.dst (hmk _ _ _ _ h1)) h3 (by cases o.dst <;> rfl)
    ·exact hp.elim
   ·exact hp.elim
  ·have hst:Z16 P Γ true fr L o.op=ev P true fr L o.op:=by
    unfold Z16
    split
    ·rename_i f args ts heq; exact absurd ⟨f,args,ts,heq⟩ hcall
    ·rfl
   rw [hst] at hp hK
   obtain⟨n,w',m',hrun,hres,hW',hE⟩:=Zhv (P:=P) hW h o hp
   have hmono:=Z0a.mono hE.mono _ _ h
   rw [hrun]
   rcases hres with ⟨u,rfl,hv⟩ | ⟨rfl,hv⟩
   ·simp only [Oper.uponIn]
    exact hK _ w' m' hW' (Z2n hmono o.dst (hmk _ _ _ _ hv)) hE (by cases o.dst <;> rfl)
   ·simp only [Oper.uponIn]
    refine hK _ w' m' hW' (Z2n hmono o.dst (hmk _ _ _ _ ?_)) hE (by cases o.dst <;> rfl)
    rw [hv]; simp [Z03]
theorem Z6A{R:Option Nat}(hΓ:Z07 P Γ){B:Z8f}(ops:Array Oper){K:List AV→Z01→Prop}{Q:Exit→Act→World→Prop}(hK:∀fr L m a w,K fr L→RS B fr L m a w→Q .normal a w) :
  ∀(l:List Oper) (fr:List AV) (L:Z01) (m:Mem) (a:Act) (w:World),ZbQ P Γ ops.toList l fr L K→RS B fr L m a w→wpListIn (Z1q R) 0 P ops Q l a w
 | [],fr,L,m,a,w,h,hR=>hK fr L m a w h hR
 | o::l,fr,L,m,a,w,h,hR=>by
  obtain⟨h1,h2,h3⟩:=h
  have:=Z48 (P:=P) (Γ:=Γ) (R:=R) hΓ hR.wrel hR.frel ops o (next:=wpListIn (Z1q R) 0 P ops Q l) (Q:=Q) h1 h2 fun a' w' m' k1 k2 k3 k4=>
   Z6A hΓ ops hK l _ _ m' a' w' h3 ⟨k1,k2,hR.ext.trans k3,by rw [k4,hR.defers]⟩
  unfold wpListIn
  split
  ·rename_i hw; rw [if_pos hw] at this; exact this
  ·rename_i hw; rw [if_neg hw] at this; exact this
end
inductive It where
 | code (c:Code)
 | blk (id:Nat)
 | chk (I:List AV→Z01→Prop)
def W(P:Program)(R:Option Nat)(B:Z8f)(Q:Exit→Act→World→Prop):List It→Exit→Act→World→Prop
 | [],e=>Q e
 | .code c::k,.normal=>c.wpIn (Z1q R) 0 P (W P R B Q k)
 | .code _::k,e=>W P R B Q k e
 | .blk id::k,.exit i=>if i=id then W P R B Q k .normal else W P R B Q k (.exit i)
 | .blk _::k,e=>W P R B Q k e
 | .chk I::_,.normal=>fun a w=>∃fr L m,I fr L∧RS B fr L m a w
 | .chk _::k,e=>W P R B Q k e
structure Z4E(m:Mem)(L:Z01)(D:Nat):Prop where
 pin:m.pobj D=none
 own:∀id,Own m L id→m.blk id≠D
 hid:∀id,¬Hid m L id D
theorem Z0D.foreign{m:Mem}{L:Z01}{w w':World}(h:Z0D m L w){D:Nat}(hD:Z4E m L D)(he:∀g,g≠D→w'.heap[g]?=w.heap[g]?):Z0D m L w' where
 glob:=h.glob
 pobjs g o hp:=by
  have hne:g≠D:=by rintro rfl; rw [hD.pin] at hp; cases hp
  rw [he g hne]; exact h.pobjs g o hp
 rows id cs sz ver hL hc:=by
  rw [he _ (hD.own id (.inl ⟨cs,sz,ver,hL,hc⟩))]; exact h.rows id cs sz ver hL hc
 nils:=h.nils
 iters id r hL:=by
  rw [he _ (hD.own id (.inr ⟨r,hL⟩))]; exact h.iters id r hL
 inj:=h.inj
 freeo:=h.freeo
 hid:=h.hid.keep (fun _ _ _ _ k=>⟨k,rfl,rfl⟩) (fun id T e l hL _=>he _ (hD.own id (.inr ⟨_,hL⟩))) (fun id g k=>he g (by rintro rfl; exact hD.hid id k)) (fun id g k=>h.hid.free id g k) (fun id g k j hj=>h.hid.own id g k j hj)
theorem Z4E.ext{m m':Mem}{L L':Z01}{w w':World}{D:Nat}(h:Z4E m L D)(hlt:D<w.heap.size)(hE:Ext m L w m' L' w'):Z4E m' L' D∧w'.heap[D]?=w.heap[D]?:=by
 refine⟨⟨by rw [hE.newobj D hlt]; exact h.pin,fun id hid=>?_,fun id hid=>?_⟩,hE.frame D hlt h.own h.hid⟩
 ·rcases hE.blks id hid with ⟨h1,h2⟩ | h1
  ·rw [h2]; exact h.own id h1
  ·omega
 ·rcases hE.hnew id D hid with h1 | h1
  ·exact h.hid id h1
  ·omega
structure Z43(n0:Nat)(m:Mem)(L:Z01)(w:World)(ds:List Deferred):Prop where
 each:∀d∈ds,∃D,d={ target:=.collected D,args:=#[] }∧n0≤D∧D<w.heap.size∧w.heap[D]?=some (.deferred (some []))∧Z4E m L D
 nodup:ds.Nodup
theorem Z43.nil{n0:Nat}{m:Mem}{L:Z01}{w:World}:Z43 n0 m L w []:=⟨fun _ h=>(by cases h),List.nodup_nil⟩
theorem Z43.ext{n0:Nat}{m m':Mem}{L L':Z01}{w w':World}{ds:List Deferred}(h:Z43 n0 m L w ds)(hE:Ext m L w m' L' w'):Z43 n0 m' L' w' ds:=
 ⟨fun d hd=>by
  obtain⟨D,h1,h2,h3,h4,h5⟩:=h.each d hd
  obtain⟨h6,h7⟩:=h5.ext h3 hE
  exact⟨D,h1,h2,Nat.lt_of_lt_of_le h3 hE.size,by rw [h7]; exact h4,h6⟩,h.nodup⟩
structure Cx where
 P:Program
 Γ:Env
 ok:Z07 P Γ
 R:Option Nat:=none
 B:Z8f
 Q:Exit→Act→World→Prop
 fin:List AV→Z01→Prop
 n0:Nat
 hn0:n0≤B.w.heap.size
 hD:Z43 n0 B.m B.L B.w B.D
 hfin:∀fr L m a w,fin fr L→Z0D m L w→Z0a m L fr a.tmps.toList→Ext B.m B.L B.w m L w→Z43 n0 m L w a.defers→Q .normal a w
 finR:List AV→Z01→Prop
 hfinR:∀fr L m a w,finR fr L→Z0D m L w→Z0a m L fr a.tmps.toList→Ext B.m B.L B.w m L w→Z43 n0 m L w a.defers→Q .ret a w
 ng:∀l a w,¬Q (.goto l) a w
def Z02(X:Cx)(todo:List It)(fr:List AV)(L:Z01):Prop:=∀m a w,RS X.B fr L m a w→W X.P X.R X.B X.Q todo .normal a w
def Z8w(id:Nat):List It→List It
 | []=>[]
 | .blk i::k=>if id=i then k else Z8w id k
 | _::k=>Z8w id k
def Z4Y(id:Nat):List It→Bool
 | []=>false
 | .blk i::k=>id == i || Z4Y id k
 | _::k=>Z4Y id k
def exB(E:List It→Prop)(b:Bool)(t1 t2:List It):Prop:=(b=true→E t1)∧(b=false→E t2)
theorem Zb6(E:List It→Prop)(t1 t2:List It):exB E true t1 t2=E t1:=by simp [exB]
theorem Z8V(E:List It→Prop)(t1 t2:List It):exB E false t1 t2=E t2:=by simp [exB]
theorem Z0v{E:List It→Prop}{b:Bool}{t1 t2:List It}(h1:b=true→E t1)(h2:b=false→E t2):exB E b t1 t2:=⟨h1,h2⟩
def exU(E:List It→Prop)(p q:Prop)(t1 t2:List It):Prop:=(p→E t1)∧(q→E t2)
def ex(X:Cx):Nat→List It→List AV→Z01→Prop
 | 0,todo,fr,L=>Z02 X todo fr L
 | _+1,[],fr,L=>X.fin fr L
 | n+1,.code .skip::k,fr,L=>ex X n k fr L
 | n+1,.code (.label _)::k,fr,L=>ex X n k fr L
 | n+1,.code (.seq a b)::k,fr,L=>ex X n (.code a::.code b::k) fr L
 | n+1,.code (.cond q x y)::k,fr,L=>match opd fr q with
  | .bool b=>exB (fun t=>ex X n t fr L) b (.code x::k) (.code y::k)
  | .ub p q=>exU (fun t=>ex X n t fr L) p q (.code x::k) (.code y::k)
  | _=>False
 | n+1,.code (.block id b)::k,fr,L=>ex X n (.code b::.blk id::k) fr L
 | n+1,.code (.exit id)::k,fr,L=>Z4Y id k=true∧ex X n (Z8w id k) fr L
 | _+1,.code .ret::_,fr,L=>X.finR fr L
 | n+1,.code (.region _ ops false)::k,fr,L=>ZbQ X.P X.Γ ops.toList ops.toList fr L (ex X n k)
 | n+1,.code (.scope b)::k,fr,L=>ex X n (.code b::k) fr L
 | _+1,.code c::k,fr,L=>Z02 X (.code c::k) fr L
 | n+1,.blk _::k,fr,L=>ex X n k fr L
 | _+1,.chk I::_,fr,L=>I fr L
theorem ZfU{P:Program}{R:Option Nat}{B:Z8f}{Q:Exit→Act→World→Prop}:∀k:List It,W P R B Q k .ret=Q .ret
 | []=>rfl
 | .code _::k=>by simp only [W]; exact ZfU k
 | .blk _::k=>by simp only [W]; exact ZfU k
 | .chk _::k=>by simp only [W]; exact ZfU k
theorem Zbc{P:Program}{R:Option Nat}{B:Z8f}{Q:Exit→Act→World→Prop}(l:Nat):∀k:List It,W P R B Q k (.goto l)=Q (.goto l)
 | []=>rfl
 | .code _::k=>by simp only [W]; exact Zbc l k
 | .blk _::k=>by simp only [W]; exact Zbc l k
 | .chk _::k=>by simp only [W]; exact Zbc l k
theorem Zbd{P:Program}{R:Option Nat}{B:Z8f}{Q:Exit→Act→World→Prop}(id:Nat):∀k:List It,Z4Y id k=true→W P R B Q k (.exit id)=W P R B Q (Z8w id k) .normal
 | [],h=>by simp [Z4Y] at h
 | .code _::k,h=>by simp only [W,Z8w]; exact Zbd id k (by simpa [Z4Y] using h)
 | .chk _::k,h=>by simp only [W,Z8w]; exact Zbd id k (by simpa [Z4Y] using h)
 | .blk i::k,h=>by
  simp only [W,Z8w]
  by_cases hi:id=i
  ·simp [hi]
  ·simp only [hi,if_false]
   exact Zbd id k (by simpa [Z4Y,hi] using h)
section
variable {R:Option Nat} {P:Program} {b:Frame} {a:Act} {k:List Item} {cs:List Frame} {w:World} {Q:Exit→Act→World→Prop}
theorem Z24{c:Code}:step P (lone (b.atR a (.code (.scope c)::k)) cs w)=.next (lone (b.atR a (.code c::.inScope c::k)) cs w):=
 step_lone_go (by simp [stepG,stepG.exec,Frame.atR])
theorem Z7x{c:Code}:step P (lone (b.atR a (.inScope c::k)) cs w)=.next (lone (b.atR a k) cs w):=
 step_lone_go (by simp [stepG,stepG.exec,Frame.atR])
theorem Z4J{c:Code}(h:c.wpIn (Z1q R) 0 P (Exit.noGoto Q) a w):(Code.scope c).wpIn (Z1q R) 0 P Q a w:=by
 intro b k cs hro hb hr
 obtain⟨e,a₁,w₁,hq,harr⟩:=h b (.inScope c::k) cs hro hb hr
 have h0:=fenced_calm (P:=P) (fr:=b.atR a (.code (.scope c)::k)) (w:=w) hb hr rfl
 cases e with
 | normal=>exact⟨.normal,a₁,w₁,hq,.head h0 Z24 (StepsIn.trans harr (.one (fenced_calm hb hr rfl) Z7x))⟩
 | exit id=>exact⟨.exit id,a₁,w₁,hq,fun k' hk=>.head h0 Z24 (harr.1 k' (by simp [exitTo,hk])),fun hr' hk=>let ⟨k₁,h1,h2⟩:=harr.2 hr' (by simp [exitTo,hk]); ⟨k₁,h1,.head h0 Z24 h2⟩⟩
 | goto l=>exact hq.elim
 | ret=>exact⟨_,a₁,w₁,hq,.of_steps (.one h0 Z24) harr⟩
 | panic ch=>exact⟨_,a₁,w₁,hq,.of_steps (.one h0 Z24) harr⟩
 | outgrown=>exact⟨_,a₁,w₁,hq,.of_steps (.one h0 Z24) harr⟩
end
theorem holds_of_ex(X:Cx):∀(n:Nat) (todo:List It) (fr:List AV) (L:Z01),ex X n todo fr L→Z02 X todo fr L
 | 0,_,_,_,h=>h
 | n+1,[],fr,L,h=>fun m a w hR=>X.hfin fr L m a w h hR.wrel hR.frel hR.ext (by rw [hR.defers]; exact X.hD.ext hR.ext)
 | n+1,.blk _::k,fr,L,h=>fun m a w hR=>by simp only [W]; exact holds_of_ex X n k fr L h m a w hR
 | n+1,.chk I::k,fr,L,h=>fun m a w hR=>by simp only [W]; exact⟨fr,L,m,h,hR⟩
 | n+1,.code c::k,fr,L,h=>by
  cases c with
  | skip=>exact fun m a w hR=>by simp only [W]; exact wpIn_skip (holds_of_ex X n k fr L h m a w hR)
  | label l=>exact fun m a w hR=>by simp only [W]; exact wpIn_label (holds_of_ex X n k fr L h m a w hR)
  | seq x y=>
   intro m a w hR
   have:=holds_of_ex X n (.code x::.code y::k) fr L h m a w hR
   simp only [W] at this ⊢
   refine wpIn_seq (Go.wpIn_mono this fun e a' w' q=>?_)
   cases e <;> simp only [W,Exit.then] at * <;> exact q
  | cond q x y=>
   simp only [ex] at h
   split at h
   ·rename_i b hb
    intro m a w hR
    have hq:=Z0Z hR.frel q
    rw [hb] at hq
    simp only [Z03] at hq
    simp only [W]
    refine wpIn_cond_split hq (fun ht=>?_) (fun ht=>?_)
    ·have:=holds_of_ex X n _ fr L (h.1 ht) m a w hR; simpa only [W] using this
    ·have:=holds_of_ex X n _ fr L (h.2 ht) m a w hR; simpa only [W] using this
   ·rename_i p q' hb
    intro m a w hR
    have hq:=Z0Z hR.frel q
    rw [hb] at hq
    simp only [Z03] at hq
    obtain⟨b,hq,hp1,hp2⟩:=hq
    simp only [W]
    refine wpIn_cond_split hq (fun ht=>?_) (fun ht=>?_)
    ·have:=holds_of_ex X n _ fr L (h.1 (hp1 ht)) m a w hR; simpa only [W] using this
    ·have:=holds_of_ex X n _ fr L (h.2 (hp2 ht)) m a w hR; simpa only [W] using this
   ·exact h.elim
  | block id b=>
   intro m a w hR
   have:=holds_of_ex X n (.code b::.blk id::k) fr L h m a w hR
   simp only [W] at this ⊢
   refine wpIn_block (Go.wpIn_mono this fun e a' w' q=>?_)
   cases e <;> simp only [W,Exit.inBlock] at * <;> first | exact q | (split <;> rename_i hid <;> simp only [hid,if_true,if_false] at q <;> exact q)
  | exit id=>
   intro m a w hR
   obtain⟨h1,h2⟩:=h
   simp only [W]
   refine wpIn_exit ?_
   rw [Zbd id k h1]
   exact holds_of_ex X n _ fr L h2 m a w hR
  | ret=>
   intro m a w hR
   simp only [W]
   refine wpIn_ret ?_
   rw [ZfU]
   exact X.hfinR fr L m a w h hR.wrel hR.frel hR.ext (by rw [hR.defers]; exact X.hD.ext hR.ext)
  | region id ops draw=>
   cases draw with
   | true=>exact h
   | false=>
    intro m a w hR
    simp only [W]
    exact wpIn_region_list (Z6A X.ok ops (Q:=W X.P X.R X.B X.Q k) (fun fr L m a w hk hR=>holds_of_ex X n k fr L hk m a w hR) ops.toList fr L m a w h hR)
  | loop b=>exact h
  | rangeFunc f ps x y=>exact h
  | scope b=>
   intro m a w hR
   have:=holds_of_ex X n (.code b::k) fr L h m a w hR
   simp only [W] at this ⊢
   refine Z4J (Go.wpIn_mono this fun e a' w' q=>?_)
   cases e <;> first | exact q | (simp only [Zbc] at q; exact absurd q (X.ng _ _ _))
  | goto l=>exact h
  | refuse s=>exact h
theorem Z9e{R:Option Nat}{P:Program}{c:Code}{Q:Exit→Act→World→Prop}(I:Nat→Act→World→Prop)
  (round:∀n a w,I n a w→c.wpIn (Z1q R) 0 P (Exit.then (fun a' w'=>∃n',n'<n∧I n' a' w') Q) a w) (n₀:Nat) (a:Act) (w:World) (h₀:I n₀ a w):(Code.loop c).wpIn (Z1q R) 0 P Q a w:=by
 intro b k cs hro hb hr
 have key:∀n a w,I n a w→∃e a' w',Q e a' w'∧ArrivesIn (Machine.fenced P (Z1q R)) P (lone (b.atR a (.code c::.inLoop c::k)) cs w) b k cs e a' w':=by
  intro n
  induction n using Nat.strongRecOn with
  | _ n ih=>
   intro a w hI
   obtain⟨e,a₁,w₁,hq,harr⟩:=round n a w hI b (.inLoop c::k) cs hro hb hr
   cases e with
   | normal=>
    obtain⟨n',hlt,hI₁⟩:=hq
    obtain⟨e₂,a₂,w₂,hq₂,harr₂⟩:=ih n' hlt a₁ w₁ hI₁
    exact⟨e₂,a₂,w₂,hq₂,.of_steps (StepsIn.trans harr (.one (fenced_calm hb hr rfl) stepR_inLoop)) harr₂⟩
   | exit id=>exact⟨_,a₁,w₁,hq,.pass (x:=.inLoop c) rfl (fun _ _=>.inl (by simp)) harr⟩
   | goto l=>exact⟨_,a₁,w₁,hq,.pass (x:=.inLoop c) rfl (fun _ _=>.inl (by simp)) harr⟩
   | ret=>exact⟨_,a₁,w₁,hq,.pass (x:=.inLoop c) rfl (fun _ _=>.inl (by simp)) harr⟩
   | panic ch=>exact⟨_,a₁,w₁,hq,.pass (x:=.inLoop c) rfl (fun _ _=>.inl (by simp)) harr⟩
   | outgrown=>exact⟨_,a₁,w₁,hq,.pass (x:=.inLoop c) rfl (fun _ _=>.inl (by simp)) harr⟩
 obtain⟨e,a',w',hq,harr⟩:=key n₀ a w h₀
 exact⟨e,a',w',hq,.of_steps (.one (fenced_calm hb hr rfl) stepR_loop) harr⟩
abbrev Z06(L0:Z01)(fr:List AV)(L:Z01)(S:List AV×Z01):Prop:=Z0q L0 fr L S
theorem Z02.weak{X:Cx}{k:List It}{fr:List AV}{L:Z01}{S:List AV×Z01}(hi:Z06 X.B.L fr L S)(h:Z02 X k S.1 S.2):Z02 X k fr L:=by
 intro m a w hR
 obtain⟨m',hR'⟩:=hR.intoF hi
 exact h m' a w hR'
theorem Z02.loop{X:Cx}{b:Code}{k:List It}{fr:List AV}{L:Z01}{ι:Type}(S:ι→List AV×Z01)(μ:ι→Nat)(i0:ι)(h0:Z06 X.B.L fr L (S i0))
  (h:∀i,Z02 X (.code b::.chk (fun fr' L'=>∃j,μ j<μ i∧Z06 X.B.L fr' L' (S j))::k) (S i).1 (S i).2):Z02 X (.code (.loop b)::k) fr L:=by
 refine Z02.weak h0 ?_
 intro m a w hR
 simp only [W]
 refine Z9e (fun n a w=>∃i m,μ i=n∧RS X.B (S i).1 (S i).2 m a w) ?_ (μ i0) a w ⟨i0,m,rfl,hR⟩
 rintro n a w ⟨i,m,rfl,hR⟩
 have:=h i m a w hR
 simp only [W] at this
 refine Go.wpIn_mono this fun e a' w' q=>?_
 cases e <;> simp only [W,Exit.then] at * <;> try exact q
 obtain⟨fr',L',m',⟨j,hlt,hi⟩,hR'⟩:=q
 obtain⟨m'',hR''⟩:=hR'.intoF hi
 exact⟨μ j,hlt,j,m'',rfl,hR''⟩
theorem Z02.cut{X:Cx}{c:Code}{k:List It}{fr:List AV}{L:Z01}(I:List AV→Z01→Prop)(h1:Z02 X (.code c::.chk I::k) fr L)(h2:∀fr' L',I fr' L'→Z02 X k fr' L'):Z02 X (.code c::k) fr L:=by
 intro m a w hR
 have:=h1 m a w hR
 simp only [W] at this ⊢
 refine Go.wpIn_mono this fun e a' w' q=>?_
 cases e <;> simp only [W] at * <;> try exact q
 obtain⟨fr',L',m',hI,hR'⟩:=q
 exact h2 fr' L' hI m' a' w' hR'
end Go.Eng
end
