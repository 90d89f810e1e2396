/- The engine, part 9: a state is weakened: slots forgotten, objects dropped or given other numbers. -/
import Derived.Test.YtmomhjmaanagaaaGreatEng8
set_option linter.unusedVariables false
set_option linter.unusedSimpArgs false
namespace Go.Eng
open Go
mutual
def ren(ρ:Nat→Nat):AV→AV
 | .agg cs=>.agg (Z2l ρ cs)
 | .tup cs=>.tup (Z2l ρ cs)
 | .sl cs n=>.sl (Z2l ρ cs) n
 | .msl id v o n=>.msl (ρ id) v o n
 | .ref id v o=>.ref (ρ id) v o
 | .ip cs=>.ip (Z2l ρ cs)
 | .fn f a b=>.fn f (Z2l ρ a) (Z2l ρ b)
 | .ifc t x=>.ifc t (ren ρ x)
 | .when c x=>.when c (ren ρ x)
 | .alt c x y=>.alt c (ren ρ x) (ren ρ y)
 | .any=>.any
 | .int k n=>.int k n
 | .bool b=>.bool b
 | .str l=>.str l
 | .lit v=>.lit v
 | .ub p q=>.ub p q
 | .csl id v o n=>.csl (ρ id) v o n
 | .mp id=>.mp (ρ id)
 | .mpr kd f=>.mpr kd f
def Z2l(ρ:Nat→Nat):List AV→List AV
 | []=>[]
 | x::xs=>ren ρ x::Z2l ρ xs
end
mutual
def scp(n:Nat):AV→Bool
 | .agg cs=>Z0Z n cs
 | .tup cs=>Z0Z n cs
 | .sl cs _=>Z0Z n cs
 | .msl id _ _ _=>decide (id<n)
 | .ref id _ _=>decide (id<n)
 | .ip cs=>Z0Z n cs
 | .fn _ a b=>Z0Z n a && Z0Z n b
 | .ifc _ x=>scp n x
 | .when _ x=>scp n x
 | .alt _ x y=>scp n x && scp n y
 | .any=>true
 | .int _ _=>true
 | .bool _=>true
 | .str _=>true
 | .lit _=>true
 | .ub _ _=>true
 | .csl id _ _ _=>decide (id<n)
 | .mp id=>decide (id<n)
 | .mpr _ _=>true
def Z0Z(n:Nat):List AV→Bool
 | []=>true
 | x::xs=>scp n x && Z0Z n xs
end
def Z1C(ρ:Nat→Nat):Z0L→Z0L
 | .row cs sz v=>.row (Z2l ρ cs) sz v
 | .raw r=>.raw r
 | .dead=>.dead
def Z2H(n:Nat):Z0L→Bool
 | .row cs _ _=>Z0Z n cs
 | _=>true
theorem Z2A(ρ:Nat→Nat):∀xs:List AV,Z2l ρ xs=xs.map (ren ρ)
 | []=>rfl
 | x::xs=>by simp only [Z2l,List.map_cons,Z2A ρ xs]
theorem Z9s(n:Nat):∀xs:List AV,Z0Z n xs=xs.all (scp n)
 | []=>rfl
 | x::xs=>by simp only [Z0Z,List.all_cons,Z9s n xs]
structure Z30(m:Mem)(L:Heap)(ρ:Nat→Nat)(m':Mem)(L':Heap):Prop where
 pobj:m'.pobj=m.pobj
 blk:∀id,id<L'.length→m'.blk id=m.blk (ρ id)
 cap:∀id,id<L'.length→m'.cap id=m.cap (ρ id)
 obj:∀id o,L'[id]?=some o→L[ρ id]?=some (Z1C ρ o)
 inj:∀i j,i<L'.length→j<L'.length→ρ i=ρ j→i=j
theorem Z30.pin{m:Mem}{L:Heap}{ρ:Nat→Nat}{m':Mem}{L':Heap}(H:Z30 m L ρ m' L'):m'.pin=m.pin:=by
 funext g o; simp only [Mem.pin,H.pobj]
mutual
theorem Z05.ren{m:Mem}{L:Heap}{ρ:Nat→Nat}{m':Mem}{L':Heap}(H:Z30 m L ρ m' L'):∀(x:AV) (u:Value),Z05 m L (ren ρ x) u→scp L'.length x=true→Z05 m' L' x u
 | .any,_,_,_=>by simp [Z05]
 | .int ..,_,h,_=>by simpa [Z05,Eng.ren] using h
 | .bool _,_,h,_=>by simpa [Z05,Eng.ren] using h
 | .str _,_,h,_=>by simpa [Z05,Eng.ren] using h
 | .lit _,_,h,_=>by simpa [Z05,Eng.ren] using h
 | .agg cs,u,h,hs=>by
  simp only [Z05,Eng.ren,scp] at *
  obtain⟨us,rfl,hc⟩:=h
  exact⟨us,rfl,Z0e.ren H cs us hc hs⟩
 | .tup cs,u,h,hs=>by
  simp only [Z05,Eng.ren,scp] at *
  obtain⟨us,rfl,hc⟩:=h
  exact⟨us,rfl,Z0e.ren H cs us hc hs⟩
 | .sl cs len,u,h,hs=>by
  simp only [Z05,Eng.ren,scp] at *
  obtain⟨a,cap,rfl,hl,us,hc,hp⟩:=h
  refine⟨a,cap,rfl,hl,us,Z0e.ren H cs us hc hs,?_⟩
  rw [H.pin]; exact hp
 | .msl id ver off len,u,h,hs=>by
  simp only [Z05,Eng.ren,scp,decide_eq_true_eq] at *
  obtain⟨cs,sz,v,hL,hv,hsh,h⟩:=h
  obtain⟨o,ho⟩:∃o,L'[id]?=some o:=⟨L'[id],by simp [hs]⟩
  have h1:=H.obj id o ho
  rw [hL] at h1
  cases o with
  | row cs' sz' v'=>
   simp only [Z1C,Option.some.injEq,Z0L.row.injEq] at h1
   obtain⟨rfl,rfl,rfl⟩:=h1
   refine⟨cs',sz,v,ho,hv,hsh,fun e=>?_⟩
   obtain⟨h2,h3,h4⟩:=h e
   rw [Z2A,List.length_map] at h2
   rw [H.cap id hs,H.blk id hs]
   exact⟨h2,h3,h4⟩
  | raw r=>simp [Z1C] at h1
  | dead=>simp [Z1C] at h1
 | .ref id ver off,u,h,hs=>by
  simp only [Z05,Eng.ren,scp,decide_eq_true_eq] at *
  obtain⟨o,ho⟩:∃o,L'[id]?=some o:=⟨L'[id],by simp [hs]⟩
  have h1:=H.obj id o ho
  rcases h with ⟨cs,sz,v,hL,hv,hsh,h⟩ | ⟨r,hL,h⟩
  ·rw [hL] at h1
   cases o with
   | row cs' sz' v'=>
    simp only [Z1C,Option.some.injEq,Z0L.row.injEq] at h1
    obtain⟨rfl,rfl,rfl⟩:=h1
    exact .inl ⟨cs',sz,v,ho,hv,hsh,fun e=>by rw [H.blk id hs]; exact h e⟩
   | raw r=>simp [Z1C] at h1
   | dead=>simp [Z1C] at h1
  ·rw [hL] at h1
   cases o with
   | row cs' sz' v'=>simp [Z1C] at h1
   | raw r'=>exact .inr ⟨r',ho,by rw [H.blk id hs]; exact h⟩
   | dead=>simp [Z1C] at h1
 | .ip cs,u,h,hs=>by
  simp only [Z05,Eng.ren,scp] at *
  obtain⟨us,g,o,rfl,hc,hp⟩:=h
  refine⟨us,g,o,rfl,Z0e.ren H cs us hc hs,?_⟩
  rw [H.pin]; exact hp
 | .fn f first captured,u,h,hs=>by
  simp only [Z05,Eng.ren,scp,Bool.and_eq_true] at *
  obtain⟨us,vs,rfl,h1,h2⟩:=h
  exact⟨us,vs,rfl,Z0e.ren H first us h1 hs.1,Z0e.ren H captured vs h2 hs.2⟩
 | .ifc t x,u,h,hs=>by
  simp only [Z05,Eng.ren,scp] at *
  obtain⟨v,rfl,h⟩:=h
  exact⟨v,rfl,Z05.ren H x v h hs⟩
 | .when c x,u,h,hs=>by
  simp only [Z05,Eng.ren,scp] at *
  exact⟨fun hc=>Z05.ren H x u (h.1 hc) hs,h.2⟩
 | .alt c x y,u,h,hs=>by
  simp only [Z05,Eng.ren,scp,Bool.and_eq_true] at *
  exact⟨fun hc=>Z05.ren H x u (h.1 hc) hs.1,fun hc=>Z05.ren H y u (h.2 hc) hs.2⟩
 | .ub ..,_,h,_=>by simpa only [Z05,Eng.ren] using h
 | .csl id ver off len,u,h,hs=>by
  simp only [Z05,Eng.ren,scp,decide_eq_true_eq] at *
  obtain⟨cs,sz,v,hL,hv,hsh,h⟩:=h
  obtain⟨o,ho⟩:∃o,L'[id]?=some o:=⟨L'[id],by simp [hs]⟩
  have h1:=H.obj id o ho
  rw [hL] at h1
  cases o with
  | row cs' sz' v'=>
   simp only [Z1C,Option.some.injEq,Z0L.row.injEq] at h1
   obtain⟨rfl,rfl,rfl⟩:=h1
   refine⟨cs',sz,v,ho,hv,hsh,fun e=>?_⟩
   obtain⟨h2,h3,h4⟩:=h e
   rw [Z2A,List.length_map] at h2
   rw [H.cap id hs,H.blk id hs]
   exact⟨h2,h3,h4⟩
  | raw r=>simp [Z1C] at h1
  | dead=>simp [Z1C] at h1
 | .mp id,u,h,hs=>by
  simp only [Z05,Eng.ren,scp,decide_eq_true_eq] at *
  obtain⟨r,hL,h⟩:=h
  obtain⟨o,ho⟩:∃o,L'[id]?=some o:=⟨L'[id],by simp [hs]⟩
  have h1:=H.obj id o ho
  rw [hL] at h1
  cases o with
  | row cs' sz' v'=>simp [Z1C] at h1
  | raw r'=>exact⟨r',ho,by rw [H.blk id hs]; exact h⟩
  | dead=>simp [Z1C] at h1
 | .mpr kd f,u,h,_=>by
  simp only [Z05,Eng.ren] at *
  rw [H.pobj]; exact h
theorem Z0e.ren{m:Mem}{L:Heap}{ρ:Nat→Nat}{m':Mem}{L':Heap}(H:Z30 m L ρ m' L'):∀(cs:List AV) (us:List Value),Z0e m L (Z2l ρ cs) us→Z0Z L'.length cs=true→Z0e m' L' cs us
 | [],_,h,_=>by simpa [Z0e,Z2l] using h
 | c::cs,us,h,hs=>by
  simp only [Z0e,Z2l,Z0Z,Bool.and_eq_true] at *
  obtain⟨u,us',rfl,h1,h2⟩:=h
  exact⟨u,us',rfl,Z05.ren H c u h1 hs.1,Z0e.ren H cs us' h2 hs.2⟩
end
theorem Z30.own{m:Mem}{L:Heap}{ρ:Nat→Nat}{m':Mem}{L':Heap}(H:Z30 m L ρ m' L'){id:Nat}(h:Own m' L' id):Own m L (ρ id)∧id<L'.length:=by
 rcases h with ⟨cs,sz,ver,hL,hc⟩ | ⟨r,hL⟩
 ·have hlt:=(List.getElem?_eq_some_iff.1 hL).1
  exact⟨.inl ⟨_,_,_,H.obj _ _ hL,by rw [←H.cap id hlt]; exact hc⟩,hlt⟩
 ·have hlt:=(List.getElem?_eq_some_iff.1 hL).1
  exact⟨.inr ⟨_,H.obj _ _ hL⟩,hlt⟩
theorem Z30.hid{m:Mem}{L:Heap}{ρ:Nat→Nat}{m':Mem}{L':Heap}(H:Z30 m L ρ m' L'){id g:Nat}(h:Hid m' L' id g):Hid m L (ρ id) g∧id<L'.length:=by
 obtain⟨T,e,l,hL,hc⟩:=h
 have hlt:=(List.getElem?_eq_some_iff.1 hL).1
 exact⟨⟨T,e,l,H.obj _ _ hL,by rw [←H.cap id hlt]; exact hc⟩,hlt⟩
theorem Z3S.ren{m:Mem}{L:Heap}{w:World}{ρ:Nat→Nat}{m':Mem}{L':Heap}(H:Z30 m L ρ m' L')(h:Z3S m L w):Z3S m' L' w:=by
 refine⟨fun id T e l hL=>?_,fun id g k=>by rw [H.pobj]; exact h.free _ g (H.hid k).1,fun id g k j hj=>?_,fun i j g k1 k2=>H.inj i j (H.hid k1).2 (H.hid k2).2 (h.inj _ _ g (H.hid k1).1 (H.hid k2).1)⟩
 ·have hlt:=(List.getElem?_eq_some_iff.1 hL).1
  rw [H.blk id hlt,H.cap id hlt]; exact h.at_ _ _ _ _ (H.obj _ _ hL)
 ·obtain⟨h1,h2⟩:=H.own hj
  rw [H.blk j h2]; exact h.own _ g (H.hid k).1 _ h1
theorem Z0O.ren{m:Mem}{L:Heap}{w:World}{ρ:Nat→Nat}{m':Mem}{L':Heap}(H:Z30 m L ρ m' L')(hs:L'.all (Z2H L'.length)=true)(hW:Z0O m L w):Z0O m' L' w:=by
 have hs':∀o∈L',Z2H L'.length o=true:=by simpa [List.all_eq_true] using hs
 refine⟨by rw [H.pobj]; exact hW.glob,fun g o hp=>hW.pobjs g o (by rw [←H.pobj]; exact hp),fun id cs sz ver hL hc=>?_,fun id cs sz ver hL hc=>?_,fun id r hL=>?_,fun i j hi hj he=>?_,fun id hl=>?_,hW.hid.ren H⟩
 ·have hlt:=(List.getElem?_eq_some_iff.1 hL).1
  rw [H.cap id hlt] at hc ⊢
  obtain⟨us,rest,elem,lo,hi,h1,h2,h3,h4⟩:=hW.rows _ _ _ _ (H.obj _ _ hL) hc
  have:=hs' _ (List.mem_of_getElem? hL)
  simp only [Z2H] at this
  exact⟨us,rest,elem,lo,hi,by rw [H.blk id hlt]; exact h1,Z0e.ren H cs us h2 this,h3,h4⟩
 ·have hlt:=(List.getElem?_eq_some_iff.1 hL).1
  rw [H.cap id hlt] at hc
  have:=hW.nils _ _ _ _ (H.obj _ _ hL) hc
  rw [Z2A] at this
  simpa using this
 ·have hlt:=(List.getElem?_eq_some_iff.1 hL).1
  rw [H.blk id hlt]; exact hW.iters _ _ (H.obj _ _ hL)
 ·obtain⟨h1,h2⟩:=H.own hi
  obtain⟨h3,h4⟩:=H.own hj
  rw [H.blk i h2,H.blk j h4] at he
  exact H.inj i j h2 h4 (hW.inj _ _ h1 h3 he)
 ·obtain⟨h1,h2⟩:=H.own hl
  rw [H.pobj,H.blk id h2]; exact hW.freeo _ h1
def leF:List AV→List AV→Prop
 | [],[]=>True
 | _::xs,.any::ys=>leF xs ys
 | x::xs,y::ys=>x=y∧leF xs ys
 | _,_=>False
theorem Z7s{m:Mem}{L:Heap}:∀{xs ys:List AV} {us:List Value},leF xs ys→Z0e m L xs us→Z0e m L ys us
 | [],[],us,_,h=>h
 | x::xs,y::ys,us,hl,h=>by
  simp only [Z0e] at h ⊢
  obtain⟨u,us',rfl,h1,h2⟩:=h
  by_cases hy:y=.any
  ·subst hy
   simp only [leF] at hl
   exact⟨u,us',rfl,by simp [Z05],Z7s hl h2⟩
  ·have:x=y∧leF xs ys:=by
    unfold leF at hl
    split at hl <;> simp_all
   exact⟨u,us',rfl,by rw [←this.1]; exact h1,Z7s this.2 h2⟩
 | [],y::ys,us,hl,h=>by simp [leF] at hl
 | x::xs,[],us,hl,h=>by simp [leF] at hl
def ZdS(n0:Nat)(ids:List Nat)(fr:List AV)(L:Heap)(fr':List AV)(L':Heap):Prop:=
 leF fr (Z2l (fun i=>ids.getD i i) fr')∧(ids.map fun i=>L[i]?)=(L'.map fun o=>some (Z1C (fun i=>ids.getD i i) o))∧ids.Nodup∧
  ids.take n0=List.range n0∧Z0Z L'.length fr'=true∧L'.all (Z2H L'.length)=true
theorem ZdS.len{n0:Nat}{ids:List Nat}{fr:List AV}{L:Heap}{fr':List AV}{L':Heap}(h:ZdS n0 ids fr L fr' L'):ids.length=L'.length:=by
 have:=congrArg List.length h.2.1
 simpa using this
theorem ZdS.renamed{n0:Nat}{ids:List Nat}{fr:List AV}{L:Heap}{fr':List AV}{L':Heap}(h:ZdS n0 ids fr L fr' L')(m:Mem) :
  Z30 m L (fun i=>ids.getD i i) { m with blk:=fun i=>m.blk (ids.getD i i),cap:=fun i=>m.cap (ids.getD i i) } L':=by
 have hlen:=h.len
 obtain⟨h1,h2,h3,h4,h5,h6⟩:=h
 refine⟨rfl,fun _ _=>rfl,fun _ _=>rfl,fun id o ho=>?_,fun i j hi hj he=>?_⟩
 ·have hlt:=(List.getElem?_eq_some_iff.1 ho).1
  have:=congrArg (·[id]?) h2
  simp only [List.getElem?_map,ho,Option.map_some] at this
  have hid:ids[id]?=some (ids.getD id id):=by simp [List.getD,hlen,hlt]
  rw [hid] at this
  simpa using this
 ·have hi':i<ids.length:=by omega
  have hj':j<ids.length:=by omega
  simp only [List.getD,List.getElem?_eq_getElem hi',List.getElem?_eq_getElem hj',Option.getD_some] at he
  have hp:=List.pairwise_iff_getElem.1 h3
  rcases Nat.lt_trichotomy i j with h | h | h
  ·exact absurd he (hp i j hi' hj' h)
  ·exact h
  ·exact absurd he.symm (hp j i hj' hi' h)
theorem ZdS.ext{n0:Nat}{ids:List Nat}{fr:List AV}{L:Heap}{fr':List AV}{L':Heap}(h:ZdS n0 ids fr L fr' L'){m0:Mem}{L0:Heap}{w0:World}{m:Mem}{w:World}(hn:n0=L0.length)(hle:n0≤L'.length)
  (hE:Ext m0 L0 w0 m L w):Ext m0 L0 w0 { m with blk:=fun i=>m.blk (ids.getD i i),cap:=fun i=>m.cap (ids.getD i i) } L' w:=by
 have H:=h.renamed m
 have hlen:=h.len
 have hid:∀i,i<n0→ids.getD i i=i:=by
  intro i hi
  have:=congrArg (·[i]?) h.2.2.2.1
  simp [hi] at this
  simp [List.getD,this]
 refine⟨hE.frame,hE.size,hE.newobj,fun id hl=>?_,by omega,⟨hE.mono.pobj,fun id cs sz ver hL=>?_,fun id r hL=>?_⟩,hE.same,fun id g k=>?_⟩
 ·obtain⟨h1,h2⟩:=H.own hl
  rcases hE.blks _ h1 with ⟨h3,h4⟩ | h3
  ·left
   have hlt:ids.getD id id<n0:=by
    rcases h3 with ⟨_,_,_,h,_⟩ | ⟨_,h⟩ <;> (have:=(List.getElem?_eq_some_iff.1 h).1; omega)
   have:id=ids.getD id id:=H.inj _ _ h2 (by omega) (by rw [hid _ hlt])
   rw [←this] at h3
   exact⟨h3,by show m.blk (ids.getD id id)=_; rw [←this] at h4 ⊢; exact h4⟩
  ·exact .inr h3
 ·obtain⟨cs',ver',hL',hv,hk⟩:=hE.mono.row _ _ _ _ hL
  have hlt:=(List.getElem?_eq_some_iff.1 hL).1
  obtain⟨o,ho⟩:∃o,L'[id]?=some o:=⟨L'[id]'(by omega),by simp⟩
  have:=H.obj id o ho
  simp only [hid id (by omega)] at this
  rw [hL'] at this
  cases o with
  | row cs2 sz2 v2=>
   simp only [Z1C,Option.some.injEq,Z0L.row.injEq] at this
   obtain⟨rfl,rfl,rfl⟩:=this
   refine⟨cs2,ver',ho,hv,fun e=>?_⟩
   obtain⟨k1,k2,k3⟩:=hk e
   rw [Z2A,List.length_map] at k1
   simp only [hid id (by omega)]
   exact⟨k1,k2,k3⟩
  | raw r=>simp [Z1C] at this
  | dead=>simp [Z1C] at this
 ·obtain⟨r',hL',hk⟩:=hE.mono.iter _ _ hL
  have hlt:=(List.getElem?_eq_some_iff.1 hL).1
  obtain⟨o,ho⟩:∃o,L'[id]?=some o:=⟨L'[id]'(by omega),by simp⟩
  have:=H.obj id o ho
  simp only [hid id (by omega)] at this
  rw [hL'] at this
  cases o with
  | row cs2 sz2 v2=>simp [Z1C] at this
  | raw r=>exact⟨r,ho,by simp only [hid id (by omega)]; exact hk⟩
  | dead=>simp [Z1C] at this
 ·obtain⟨h1,h2⟩:=H.hid k
  rcases hE.hnew _ _ h1 with h3 | h3
  ·left
   have hlt:ids.getD id id<n0:=by
    obtain⟨_,_,_,h,_⟩:=h3
    have:=(List.getElem?_eq_some_iff.1 h).1; omega
   have:id=ids.getD id id:=H.inj _ _ h2 (by omega) (by rw [hid _ hlt])
   rw [←this] at h3
   exact h3
  ·exact .inr h3
structure Z9S where
 m:Mem
 L:Heap
 w:World
 D:List Deferred:=[]
structure RS(B:Z9S)(fr:List AV)(L:Heap)(m:Mem)(a:Act)(w:World):Prop where
 wrel:Z0O m L w
 frel:Z0e m L fr a.tmps.toList
 ext:Ext B.m B.L B.w m L w
 defers:a.defers=B.D
theorem RS.weak{B:Z9S}{fr:List AV}{L:Heap}{m:Mem}{a:Act}{w:World}(h:RS B fr L m a w){ids:List Nat}{fr':List AV}{L':Heap}(hw:ZdS B.L.length ids fr L fr' L')(hle:B.L.length≤L'.length) :
  ∃m',RS B fr' L' m' a w:=by
 have H:=hw.renamed m
 refine⟨_,⟨Z0O.ren H hw.2.2.2.2.2 h.wrel,Z0e.ren H _ _ (Z7s hw.1 h.frel) hw.2.2.2.2.1,hw.ext rfl hle h.ext,h.defers⟩⟩
end Go.Eng