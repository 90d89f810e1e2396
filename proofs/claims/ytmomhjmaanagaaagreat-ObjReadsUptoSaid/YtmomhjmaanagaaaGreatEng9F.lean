/- The engine, part 9F: an own row that nobody turns any more is laid fast: it becomes memory that only is read. -/
import Derived.Test.YtmomhjmaanagaaaGreatEng9
set_option linter.unusedVariables false
set_option linter.unusedSimpArgs false
namespace Go.Eng
open Go
mutual
theorem Z6J:∀x:AV,ren (fun i=>i) x=x
 | .agg cs=>by simp only [ren,Z38 cs]
 | .tup cs=>by simp only [ren,Z38 cs]
 | .sl cs n=>by simp only [ren,Z38 cs]
 | .ip cs=>by simp only [ren,Z38 cs]
 | .fn f a b=>by simp only [ren,Z38 a,Z38 b]
 | .ifc t x=>by simp only [ren,Z6J x]
 | .when c x=>by simp only [ren,Z6J x]
 | .alt c x y=>by simp only [ren,Z6J x,Z6J y]
 | .any=>rfl
 | .int ..=>rfl
 | .bool _=>rfl
 | .str _=>rfl
 | .lit _=>rfl
 | .msl ..=>rfl
 | .ref ..=>rfl
 | .ub ..=>rfl
 | .csl ..=>rfl
 | .mp ..=>rfl
 | .mpr ..=>rfl
theorem Z38:∀xs:List AV,Z2l (fun i=>i) xs=xs
 | []=>rfl
 | x::xs=>by simp only [Z2l,Z6J x,Z38 xs]
end
theorem Z72{m:Mem}{L:Heap}{x:AV}{u:Value}(h:Z05 m L x u)(hs:scp 0 x=true):Z05 m [] x u:=
 Z05.ren (ρ:=fun i=>i) ⟨rfl,fun _ h=>by simp at h,fun _ h=>by simp at h,fun _ _ h=>by simp at h,fun _ _ h=>by simp at h⟩ x u (by rw [Z6J]; exact h) hs
theorem Z6i{m:Mem}{L:Heap}{xs:List AV}{us:List Value}(h:Z0e m L xs us)(hs:Z0Z 0 xs=true):Z0e m [] xs us:=
 Z0e.ren (ρ:=fun i=>i) ⟨rfl,fun _ h=>by simp at h,fun _ h=>by simp at h,fun _ _ h=>by simp at h,fun _ _ h=>by simp at h⟩ xs us (by rw [Z38]; exact h) hs
mutual
def Z4F(L:Heap)(id:Nat):AV→AV
 | .msl i ver off n=>cond (i == id) (cond (ver == Z1G L id) (.sl (((Z0Q L id).drop (off*Z1S L id)).take (n*Z1S L id)) n) .any) (.msl i ver off n)
 | .ref i ver off=>cond (i == id) (cond (ver == Z1G L id) (cond (isRow L id) (.ip ((Z0Q L id).drop off)) .any) .any) (.ref i ver off)
 | .agg cs=>.agg (Z5G L id cs)
 | .tup cs=>.tup (Z5G L id cs)
 | .sl cs n=>cond (Z0Z 0 cs) (.sl cs n) .any
 | .ip cs=>cond (Z0Z 0 cs) (.ip cs) .any
 | .fn f a b=>cond (Z0Z 0 a && Z0Z 0 b) (.fn f a b) .any
 | .ifc t x=>.ifc t (Z4F L id x)
 | .when c x=>cond (scp 0 x) (.when c x) .any
 | .alt c x y=>cond (scp 0 x && scp 0 y) (.alt c x y) .any
 | .any=>.any
 | .int k n=>.int k n
 | .bool b=>.bool b
 | .str l=>.str l
 | .lit v=>.lit v
 | .ub p q=>.ub p q
 | .csl i ver off n=>cond (i == id) (cond (ver == Z1G L id) (.sl (((Z0Q L id).drop (off*Z1S L id)).take (n*Z1S L id)) n) .any) (.csl i ver off n)
 | .mp i=>cond (i == id) (match L[id]? with | some (.raw (.map kd f))=>.mpr kd f | _=>.any) (.mp i)
 | .mpr kd f=>.mpr kd f
def Z5G(L:Heap)(id:Nat):List AV→List AV
 | []=>[]
 | x::xs=>Z4F L id x::Z5G L id xs
end
def ZhY(L:Heap)(id:Nat):Z0L→Z0L
 | .row cs sz v=>.row (Z5G L id cs) sz v
 | .raw r=>.raw r
 | .dead=>.dead
def Z6y(L:Heap)(id:Nat):Heap:=(L.set id .dead).map (ZhY L id)
def Z28(L:Heap)(id:Nat):Prop:=isRow L id=true∧Z0Z 0 (Z0Q L id)=true
def Z27(L:Heap)(id:Nat):Bool:=match L[id]? with | some (.raw (.map ..))=>true | _=>false
def Z15(L:Heap)(id:Nat):Prop:=Z28 L id∨Z27 L id=true
theorem Z3O(L:Heap)(id:Nat):∀cs:List AV,(Z5G L id cs).length=cs.length
 | []=>rfl
 | x::xs=>by simp only [Z5G,List.length_cons,Z3O L id xs]
open Classical in
noncomputable def Z7z(m:Mem)(L:Heap)(w:World)(id:Nat):Mem:={ m with pobj:=fun g=>if g=m.blk id∧Own m L id then w.heap[g]? else m.pobj g }
section
variable {m:Mem} {L:Heap} {w:World} {id:Nat}
theorem Z3N{j:Nat}(hj:j≠id):(Z6y L id)[j]?=(L[j]?).map (ZhY L id):=by
 simp only [Z6y,List.getElem?_map,List.getElem?_set_ne (Ne.symm hj)]
theorem ZiN(hok:Z15 L id):id<L.length:=by
 rcases Nat.lt_or_ge id L.length with h | h
 ·exact h
 ·rcases hok with hok | hok
  ·have:=hok.1; simp [isRow,List.getElem?_eq_none h] at this
  ·simp [Z27,List.getElem?_eq_none h] at hok
theorem Z7y(hW:Z0O m L w){g:Nat}{o:Obj}(hp:m.pobj g=some o):(Z7z m L w id).pobj g=some o:=by
 simp only [Z7z]
 split
 ·rename_i h
  have:=hW.freeo id h.2
  rw [←h.1,hp] at this; cases this
 ·exact hp
theorem Z8k(hW:Z0O m L w):Z4G m [] (Z7z m L w id) (Z6y L id):=
 ⟨fun g o h=>Z7y hW h,fun _ _ _ _ h=>by simp at h,fun _ _ h=>by simp at h⟩
theorem Z3v(hW:Z0O m L w){x:AV}{u:Value}(h:Z05 m L x u)(hs:scp 0 x=true):Z05 (Z7z m L w id) (Z6y L id) x u:=
 Z05.mono (Z8k hW) _ _ (Z72 h hs)
theorem Z97(hW:Z0O m L w){xs:List AV}{us:List Value}(h:Z0e m L xs us)(hs:Z0Z 0 xs=true):Z0e (Z7z m L w id) (Z6y L id) xs us:=
 Z0e.mono (Z8k hW) _ _ (Z6i h hs)
theorem Z68(hW:Z0O m L w)(hok:Z28 L id):∃us,Z0e (Z7z m L w id) (Z6y L id) (Z0Q L id) us∧∀j v,us[j]?=some v→(Z7z m L w id).pin (m.blk id) j=some v:=by
 obtain⟨cs,sz,hL,h1,h2⟩:=Z0N (L:=L) (id:=id) (ver:=Z1G L id) ⟨hok.1,rfl⟩
 obtain⟨us,hc,hcell,_⟩:=Z2d hW hL
 have hs:=hok.2
 rw [h1] at hs ⊢
 refine⟨us,Z97 hW hc hs,fun j v hj=>?_⟩
 have hcap:m.cap id≠0:=by
  intro h0
  have:=hW.nils _ _ _ _ hL h0
  subst this
  simp only [Z0e] at hc
  subst hc
  simp at hj
 refine Mem.pin_heap ?_ (hcell _ _ hj)
 simp only [Z7z]
 rw [if_pos ⟨rfl,.inl ⟨_,_,_,hL,hcap⟩⟩]
mutual
theorem Z05.frz(hW:Z0O m L w)(hok:Z15 L id):∀(x:AV) (u:Value),Z05 m L x u→Z05 (Z7z m L w id) (Z6y L id) (Z4F L id x) u
 | .any,_,_=>by simp [Z4F,Z05]
 | .int ..,_,h=>by simpa [Z4F,Z05] using h
 | .bool _,_,h=>by simpa [Z4F,Z05] using h
 | .str _,_,h=>by simpa [Z4F,Z05] using h
 | .lit _,_,h=>by simpa [Z4F,Z05] using h
 | .agg cs,u,h=>by
  simp only [Z05,Z4F] at *
  obtain⟨us,rfl,hc⟩:=h
  exact⟨us,rfl,Z0e.frz hW hok cs us hc⟩
 | .tup cs,u,h=>by
  simp only [Z05,Z4F] at *
  obtain⟨us,rfl,hc⟩:=h
  exact⟨us,rfl,Z0e.frz hW hok cs us hc⟩
 | .sl cs n,u,h=>by
  simp only [Z4F]
  cases hs:Z0Z 0 cs
  ·simp [Z05]
  ·exact Z3v hW h hs
 | .ip cs,u,h=>by
  simp only [Z4F]
  cases hs:Z0Z 0 cs
  ·simp [Z05]
  ·exact Z3v hW h hs
 | .fn f a b,u,h=>by
  simp only [Z4F]
  cases hs:Z0Z 0 a && Z0Z 0 b
  ·simp [Z05]
  ·exact Z3v hW h (by simpa [scp] using hs)
 | .when c x,u,h=>by
  simp only [Z4F]
  cases hs:scp 0 x
  ·simp [Z05]
  ·exact Z3v hW h (by simpa [scp] using hs)
 | .alt c x y,u,h=>by
  simp only [Z4F]
  cases hs:scp 0 x && scp 0 y
  ·simp [Z05]
  ·exact Z3v hW h (by simpa [scp] using hs)
 | .ifc t x,u,h=>by
  simp only [Z05,Z4F] at *
  obtain⟨v,rfl,h⟩:=h
  exact⟨v,rfl,Z05.frz hW hok x v h⟩
 | .msl i ver off n,u,h=>by
  simp only [Z4F]
  by_cases hi:i=id
  ·subst hi
   simp only [beq_self_eq_true,cond_true]
   by_cases hv:ver=Z1G L i
   ·simp only [hv,beq_self_eq_true,cond_true]
    have hrow:Z28 L i:=by
     rcases hok with hok | hok
     ·exact hok
     ·simp only [Z05] at h
      obtain⟨_,_,_,hL,_⟩:=h
      simp [Z27,hL] at hok
    have hf:Z1q L i (Z1G L i):=⟨hrow.1,rfl⟩
    rw [hv] at h
    obtain⟨k1,k2,a,rfl,ha⟩:=Z1e h hf
    obtain⟨us,hc,hp⟩:=Z68 hW hrow
    simp only [Z05]
    refine⟨a,_,rfl,by omega,_,(hc.drop (off*Z1S L i)).take (n*Z1S L i),?_⟩
    rcases ha with ha | ha
    ·have:n=0:=by omega
     subst this
     simp
    ·refine .inr ⟨_,_,ha,fun j v hj=>hp _ _ ?_⟩
     rw [List.getElem?_take,List.getElem?_drop] at hj
     split at hj
     ·exact hj
     ·cases hj
   ·have:(ver == Z1G L i)=false:=by simp [hv]
    simp [this,Z05]
  ·have:(i == id)=false:=by simp [hi]
   simp only [this,cond_false,Z05] at h ⊢
   obtain⟨cs,sz,v,hL,hle,hsh,h⟩:=h
   refine⟨Z5G L id cs,sz,v,by rw [Z3N hi,hL]; rfl,hle,hsh,?_⟩
   rw [Z3O]
   exact h
 | .ref i ver off,u,h=>by
  simp only [Z4F]
  by_cases hi:i=id
  ·subst hi
   simp only [beq_self_eq_true,cond_true]
   by_cases hv:ver=Z1G L i
   ·simp only [hv,beq_self_eq_true,cond_true]
    by_cases hrow:Z28 L i
    case neg=>
     have:cond (isRow L i) (AV.ip ((Z0Q L i).drop off)) .any=.any:=by
      rcases hok with hok | hok
      ·exact absurd hok hrow
      ·unfold Z27 at hok
       split at hok
       ·rename_i hL; simp [isRow,hL]
       ·cases hok
     rw [this]; simp [Z05]
    rw [hrow.1]
    have hf:Z1q L i (Z1G L i):=⟨hrow.1,rfl⟩
    rw [hv] at h
    have hu:=Z3F h hf
    obtain⟨us,hc,hp⟩:=Z68 hW hrow
    simp only [cond_true,Z05]
    exact⟨_,_,_,hu,hc.drop off,fun j v hj=>hp _ _ (by rw [List.getElem?_drop] at hj; exact hj)⟩
   ·have:(ver == Z1G L i)=false:=by simp [hv]
    simp [this,Z05]
  ·have:(i == id)=false:=by simp [hi]
   simp only [this,cond_false,Z05] at h ⊢
   rcases h with ⟨cs,sz,v,hL,hle,hsh,h⟩ | ⟨r,hL,h⟩
   ·exact .inl ⟨Z5G L id cs,sz,v,by rw [Z3N hi,hL]; rfl,hle,hsh,h⟩
   ·exact .inr ⟨r,by rw [Z3N hi,hL]; rfl,h⟩
 | .ub ..,_,h=>by simpa only [Z4F,Z05] using h
 | .csl i ver off n,u,h=>by
  simp only [Z4F]
  by_cases hi:i=id
  ·subst hi
   simp only [beq_self_eq_true,cond_true]
   by_cases hv:ver=Z1G L i
   ·simp only [hv,beq_self_eq_true,cond_true]
    have hrow:Z28 L i:=by
     rcases hok with hok | hok
     ·exact hok
     ·simp only [Z05] at h
      obtain⟨_,_,_,hL,_⟩:=h
      simp [Z27,hL] at hok
    have hf:Z1q L i (Z1G L i):=⟨hrow.1,rfl⟩
    rw [hv] at h
    obtain⟨k1,k2,a,rfl,ha⟩:=Z4a h hf
    obtain⟨us,hc,hp⟩:=Z68 hW hrow
    simp only [Z05]
    refine⟨a,_,rfl,by omega,_,(hc.drop (off*Z1S L i)).take (n*Z1S L i),?_⟩
    rcases ha with ha | ha
    ·have:n=0:=by omega
     subst this
     simp
    ·refine .inr ⟨_,_,ha,fun j v hj=>hp _ _ ?_⟩
     rw [List.getElem?_take,List.getElem?_drop] at hj
     split at hj
     ·exact hj
     ·cases hj
   ·have:(ver == Z1G L i)=false:=by simp [hv]
    simp [this,Z05]
  ·have:(i == id)=false:=by simp [hi]
   simp only [this,cond_false,Z05] at h ⊢
   obtain⟨cs,sz,v,hL,hle,hsh,h⟩:=h
   refine⟨Z5G L id cs,sz,v,by rw [Z3N hi,hL]; rfl,hle,hsh,?_⟩
   rw [Z3O]
   exact h
 | .mp i,u,h=>by
  simp only [Z4F]
  by_cases hi:i=id
  ·subst hi
   simp only [beq_self_eq_true,cond_true]
   split
   ·rename_i kd f hL
    simp only [Z05] at h ⊢
    obtain⟨r,hL',hu⟩:=h
    obtain⟨o,hb,hr⟩:=hW.iters _ _ hL
    simp only [Z4X] at hr
    obtain⟨es,clock,rfl,hM⟩:=hr
    refine⟨m.blk i,es,clock,hu,?_,hM⟩
    simp only [Z7z]
    rw [if_pos ⟨rfl,.inr ⟨_,hL⟩⟩]
    exact hb
   ·simp [Z05]
  ·have:(i == id)=false:=by simp [hi]
   simp only [this,cond_false,Z05] at h ⊢
   obtain⟨r,hL,h⟩:=h
   exact⟨r,by rw [Z3N hi,hL]; rfl,h⟩
 | .mpr kd f,u,h=>by
  simp only [Z4F,Z05] at *
  obtain⟨g,es,clock,hu,hp,hM⟩:=h
  exact⟨g,es,clock,hu,Z7y hW hp,hM⟩
theorem Z0e.frz(hW:Z0O m L w)(hok:Z15 L id):∀(cs:List AV) (us:List Value),Z0e m L cs us→Z0e (Z7z m L w id) (Z6y L id) (Z5G L id cs) us
 | [],_,h=>by simpa [Z0e,Z5G] using h
 | c::cs,us,h=>by
  simp only [Z0e,Z5G] at *
  obtain⟨u,us',rfl,h1,h2⟩:=h
  exact⟨u,us',rfl,Z05.frz hW hok c u h1,Z0e.frz hW hok cs us' h2⟩
end
theorem frz_dead(hok:Z15 L id):(Z6y L id)[id]?=some .dead:=by
 have:=ZiN hok
 simp [Z6y,this,ZhY]
theorem Z96{j:Nat}{cs':List AV}{sz ver:Nat}(hr:Z15 L id)(h:(Z6y L id)[j]?=some (.row cs' sz ver)):j≠id∧∃cs,L[j]?=some (.row cs sz ver)∧cs'=Z5G L id cs:=by
 have hj:j≠id:=by intro e; rw [e,frz_dead hr] at h; cases h
 rw [Z3N hj,Option.map_eq_some_iff] at h
 obtain⟨o,h1,h2⟩:=h
 cases o <;> simp only [ZhY,reduceCtorEq,Z0L.row.injEq] at h2
 obtain⟨rfl,rfl,rfl⟩:=h2
 exact⟨hj,_,h1,rfl⟩
theorem Z5F{j:Nat}{r:Raw}(hr:Z15 L id)(h:(Z6y L id)[j]?=some (.raw r)):j≠id∧L[j]?=some (.raw r):=by
 have hj:j≠id:=by intro e; rw [e,frz_dead hr] at h; cases h
 rw [Z3N hj,Option.map_eq_some_iff] at h
 obtain⟨o,h1,h2⟩:=h
 cases o <;> simp only [ZhY,reduceCtorEq,Z0L.raw.injEq] at h2
 subst h2
 exact⟨hj,h1⟩
theorem Z67{j:Nat}(hr:Z15 L id)(h:Own (Z7z m L w id) (Z6y L id) j):j≠id∧Own m L j:=by
 rcases h with ⟨cs,sz,ver,hL,hc⟩ | ⟨r,hL⟩
 ·obtain⟨h1,cs',h2,_⟩:=Z96 hr hL
  exact⟨h1,.inl ⟨_,_,_,h2,hc⟩⟩
 ·obtain⟨h1,h2⟩:=Z5F hr hL
  exact⟨h1,.inr ⟨_,h2⟩⟩
theorem Z0O.frz(hW:Z0O m L w)(hok:Z15 L id):Z0O (Z7z m L w id) (Z6y L id) w:=by
 refine⟨hW.glob.mono fun g o h=>by simp only [Z7z]; split; exact hW.pobjs _ _ h; exact h,fun g o hp=>?_,fun j cs sz ver hL hc=>?_,fun j cs sz ver hL hc=>?_,fun j r hL=>?_,fun i j hi hj he=>?_,fun j ho=>?_,?_⟩
 ·simp only [Z7z] at hp
  split at hp
  ·exact hp
  ·exact hW.pobjs _ _ hp
 ·obtain⟨hj,cs',hL',rfl⟩:=Z96 hok hL
  obtain⟨us,rest,elem,lo,hi,k1,k2,k3,k4⟩:=hW.rows _ _ _ _ hL' hc
  exact⟨us,rest,elem,lo,hi,k1,Z0e.frz hW hok _ _ k2,k3,k4⟩
 ·obtain⟨hj,cs',hL',rfl⟩:=Z96 hok hL
  rw [hW.nils _ _ _ _ hL' hc]; rfl
 ·exact hW.iters _ _ (Z5F hok hL).2
 ·exact hW.inj i j (Z67 hok hi).2 (Z67 hok hj).2 he
 ·obtain⟨hj,ho'⟩:=Z67 hok ho
  simp only [Z7z]
  rw [if_neg]
  ·exact hW.freeo j ho'
  ·rintro⟨h1,h2⟩
   exact hj (hW.inj j id ho' h2 h1)
 ·refine hW.hid.keep (fun i T e l h=>⟨(Z5F hok h).2,rfl,rfl⟩) (fun _ _ _ _ _ _=>rfl) (fun _ _ _=>rfl) (fun i g k=>?_) (fun i g k j hj=>hW.hid.own i g k j (Z67 hok hj).2)
  simp only [Z7z]
  rw [if_neg]
  ·exact hW.hid.free i g k
  ·rintro⟨h1,h2⟩; exact hW.hid.own i g k id h2 h1.symm
theorem Ext.frz{m0:Mem}{L0:Heap}{w0:World}(hE:Ext m0 L0 w0 m L w)(hW:Z0O m L w)(hok:Z15 L id)(hle:L0.length≤id):Ext m0 L0 w0 (Z7z m L w id) (Z6y L id) w:=by
 have hb:Own m L id→w0.heap.size≤m.blk id:=by
  intro ho
  rcases hE.blks id ho with ⟨h1,_⟩ | h1
  ·rcases h1 with ⟨_,_,_,h,_⟩ | ⟨_,h⟩ <;> (have:=(List.getElem?_eq_some_iff.1 h).1; omega)
  ·exact h1
 refine⟨hE.frame,hE.size,fun g hg=>?_,fun j ho=>hE.blks j (Z67 hok ho).2,by simp only [Z6y,List.length_map,List.length_set]; exact hE.len,⟨fun g o hp=>Z7y hW (hE.mono.pobj _ _ hp),fun j cs sz ver hL=>?_,fun j r hL=>?_⟩,hE.same,fun i g ⟨T,e,l,k1,k2⟩=>hE.hnew i g ⟨T,e,l,(Z5F hok k1).2,k2⟩⟩
 ·simp only [Z7z]
  rw [if_neg]
  ·exact hE.newobj g hg
  ·rintro⟨h1,h2⟩; have:=hb h2; omega
 ·obtain⟨cs',v',h1,h2,h3⟩:=hE.mono.row _ _ _ _ hL
  have hj:j≠id:=by have:=(List.getElem?_eq_some_iff.1 hL).1; omega
  refine⟨Z5G L id cs',v',by rw [Z3N hj,h1]; rfl,h2,fun e=>?_⟩
  rw [Z3O]; exact h3 e
 ·obtain⟨r',h1,h2⟩:=hE.mono.iter _ _ hL
  have hj:j≠id:=by have:=(List.getElem?_eq_some_iff.1 hL).1; omega
  exact⟨r',by rw [Z3N hj,h1]; rfl,h2⟩
end
def Z4Z(m:Mem)(n:Nat):Mem:={ m with cap:=fun i=>if i=n then 0 else m.cap i }
section
variable {m:Mem} {L:Heap} {w:World} {sz:Nat}
theorem Z56{j:Nat}{o:Z0L}(h:(L++[Z0L.row [] sz 0])[j]?=some o):(j<L.length∧L[j]?=some o)∨(j=L.length∧o=.row [] sz 0):=by
 by_cases hlt:j<L.length
 ·rw [List.getElem?_append_left hlt] at h; exact .inl ⟨hlt,h⟩
 ·rw [List.getElem?_append_right (by omega)] at h
  have:j - L.length=0:=by
   have:=(List.getElem?_eq_some_iff.1 h).1
   simp at this; omega
  rw [this] at h
  simp at h
  exact .inr ⟨by omega,h.symm⟩
theorem Z4i:Z4G m L (Z4Z m L.length) (L++[Z0L.row [] sz 0]):=by
 refine⟨fun _ _ h=>h,fun id cs s v h=>?_,fun id r h=>?_⟩ <;> have hlt:=(List.getElem?_eq_some_iff.1 h).1
 ·exact⟨cs,v,by rw [List.getElem?_append_left hlt]; exact h,Nat.le_refl _,fun _=>⟨rfl,rfl,by simp only [Z4Z]; rw [if_neg (by omega)]⟩⟩
 ·exact⟨r,by rw [List.getElem?_append_left hlt]; exact h,rfl⟩
theorem Z60{j:Nat}(h:Own (Z4Z m L.length) (L++[Z0L.row [] sz 0]) j):j<L.length∧Own m L j:=by
 rcases h with ⟨cs,s,v,hL,hc⟩ | ⟨r,hL⟩
 ·rcases Z56 hL with ⟨h1,h2⟩ | ⟨h1,_⟩
  ·simp only [Z4Z] at hc
   rw [if_neg (by omega)] at hc
   exact⟨h1,.inl ⟨_,_,_,h2,hc⟩⟩
  ·subst h1; simp [Z4Z] at hc
 ·rcases Z56 hL with ⟨h1,h2⟩ | ⟨_,h2⟩
  ·exact⟨h1,.inr ⟨_,h2⟩⟩
  ·cases h2
theorem Z90{j:Nat}{T e:TypeId}{l:List UInt8}(h:(L++[Z0L.row [] sz 0])[j]?=some (.raw (.bld T e l))):L[j]?=some (.raw (.bld T e l))∧(Z4Z m L.length).blk j=m.blk j∧(Z4Z m L.length).cap j=m.cap j:=by
 rcases Z56 h with ⟨h1,h2⟩ | ⟨_,h2⟩
 ·exact⟨h2,rfl,by simp only [Z4Z]; rw [if_neg (by omega)]⟩
 ·cases h2
theorem Z0O.nil(hW:Z0O m L w):Z0O (Z4Z m L.length) (L++[Z0L.row [] sz 0]) w:=by
 refine⟨hW.glob,hW.pobjs,fun j cs s v hL hc=>?_,fun j cs s v hL hc=>?_,fun j r hL=>?_,fun i j hi hj he=>hW.inj i j (Z60 hi).2 (Z60 hj).2 he,fun j ho=>hW.freeo j (Z60 ho).2,hW.hid.keep (fun i T e l h=>Z90 h) (fun _ _ _ _ _ _=>rfl) (fun _ _ _=>rfl) (fun i g k=>hW.hid.free i g k) (fun i g k j hj=>hW.hid.own i g k j (Z60 hj).2)⟩
 ·rcases Z56 hL with ⟨h1,h2⟩ | ⟨h1,_⟩
  ·simp only [Z4Z] at hc ⊢
   rw [if_neg (by omega)] at hc ⊢
   obtain⟨us,rest,elem,lo,hi,k1,k2,k3,k4⟩:=hW.rows _ _ _ _ h2 hc
   exact⟨us,rest,elem,lo,hi,k1,Z0e.mono Z4i _ _ k2,k3,k4⟩
  ·subst h1; simp [Z4Z] at hc
 ·rcases Z56 hL with ⟨h1,h2⟩ | ⟨_,h2⟩
  ·simp only [Z4Z] at hc
   rw [if_neg (by omega)] at hc
   exact hW.nils _ _ _ _ h2 hc
  ·cases h2; rfl
 ·rcases Z56 hL with ⟨h1,h2⟩ | ⟨_,h2⟩
  ·exact hW.iters _ _ h2
  ·cases h2
theorem Ext.nil{m0:Mem}{L0:Heap}{w0:World}(hE:Ext m0 L0 w0 m L w):Ext m0 L0 w0 (Z4Z m L.length) (L++[Z0L.row [] sz 0]) w:=
 ⟨hE.frame,hE.size,hE.newobj,fun j ho=>hE.blks j (Z60 ho).2,by simp; have:=hE.len; omega,hE.mono.trans Z4i,hE.same,fun i g ⟨T,e,l,k1,k2⟩=>hE.hnew i g ⟨T,e,l,(Z90 (m:=m) k1).1,by rw [←(Z90 (m:=m) k1).2.2]; exact k2⟩⟩
theorem Zc1{fr:List AV}{us:List Value}(h:Z0e m L fr us)(i:Nat)(hi:fr.getD i .any=.lit (.slice none 0 0)):Z0e (Z4Z m L.length) (L++[Z0L.row [] sz 0]) (fr.set i (.msl L.length 0 0 0)) us:=by
 have h1:=h.getD i
 rw [hi] at h1
 simp only [Z05] at h1
 have hv:Z05 (Z4Z m L.length) (L++[Z0L.row [] sz 0]) (.msl L.length 0 0 0) (us.getD i undef):=by
  rw [h1]
  simp only [Z05]
  exact⟨[],sz,0,by simp,Nat.le_refl _,⟨none,0,0,rfl⟩,fun _=>⟨by simp,by simp,none,by simp [Z4Z],.inl (by simp [Z4Z])⟩⟩
 have h2:=(Z0e.mono (Z4i (sz:=sz)) _ _ h).set i hv
 have:us.set i (us.getD i undef)=us:=by
  apply List.ext_getElem?
  intro j
  rw [List.getElem?_set]
  split
  ·rename_i hij
   subst hij
   split
   ·rename_i hlt; simp [List.getD,hlt]
   ·rename_i hlt; rw [List.getElem?_eq_none (by omega)]
  ·rfl
 rwa [this] at h2
end
mutual
def Z4p(L:Heap)(id v':Nat):AV→AV
 | .msl i ver off n=>cond (i == id) (cond (ver == Z1G L id) (.msl i v' off n) .any) (.msl i ver off n)
 | .csl i ver off n=>cond (i == id) (cond (ver == Z1G L id) (.csl i v' off n) .any) (.csl i ver off n)
 | .ref i ver off=>cond (i == id) (cond (ver == Z1G L id) (.ref i v' off) .any) (.ref i ver off)
 | .agg cs=>.agg (Z3V L id v' cs)
 | .tup cs=>.tup (Z3V L id v' cs)
 | .sl cs n=>cond (Z0Z 0 cs) (.sl cs n) .any
 | .ip cs=>cond (Z0Z 0 cs) (.ip cs) .any
 | .fn f a b=>.fn f (Z3V L id v' a) (Z3V L id v' b)
 | .ifc t x=>.ifc t (Z4p L id v' x)
 | .when c x=>cond (scp 0 x) (.when c x) .any
 | .alt c x y=>cond (scp 0 x && scp 0 y) (.alt c x y) .any
 | .any=>.any
 | .int k n=>.int k n
 | .bool b=>.bool b
 | .str l=>.str l
 | .lit v=>.lit v
 | .ub p q=>.ub p q
 | .mp i=>.mp i
 | .mpr kd f=>.mpr kd f
def Z3V(L:Heap)(id v':Nat):List AV→List AV
 | []=>[]
 | x::xs=>Z4p L id v' x::Z3V L id v' xs
end
def ZdZ(L:Heap)(id v':Nat):Z0L→Z0L
 | .row cs sz v=>.row (Z3V L id v' cs) sz v
 | .raw r=>.raw r
 | .dead=>.dead
def Z6D(L:Heap)(id v':Nat):Heap:=(match L[id]? with | some (.row cs sz _)=>L.set id (.row cs sz v') | _=>L).map (ZdZ L id v')
theorem Z3z(L:Heap)(id v':Nat):∀cs:List AV,(Z3V L id v' cs).length=cs.length
 | []=>rfl
 | x::xs=>by simp only [Z3V,List.length_cons,Z3z L id v' xs]
section
variable {m:Mem} {L:Heap} {w:World} {id v':Nat}
theorem Z5N{j:Nat}(hj:j≠id):(Z6D L id v')[j]?=(L[j]?).map (ZdZ L id v'):=by
 simp only [Z6D]
 split
 ·rw [List.getElem?_map,List.getElem?_set_ne (Ne.symm hj)]
 ·rw [List.getElem?_map]
theorem Z9k{cs:List AV}{sz v:Nat}(h:L[id]?=some (.row cs sz v)):(Z6D L id v')[id]?=some (.row (Z3V L id v' cs) sz v'):=by
 have hlt:=(List.getElem?_eq_some_iff.1 h).1
 simp only [Z6D,h,List.getElem?_map,List.getElem?_set_self hlt,Option.map_some,ZdZ]
theorem Z8F{j:Nat}{r:Raw}(h:L[j]?=some (.raw r)):(Z6D L id v')[j]?=some (.raw r):=by
 by_cases hj:j=id
 ·subst hj
  simp only [Z6D,h,List.getElem?_map,Option.map_some,ZdZ]
 ·rw [Z5N hj,h]; rfl
theorem Z8E(hr:isRow L id=true){j:Nat}{cs:List AV}{sz v:Nat}(h:(Z6D L id v')[j]?=some (.row cs sz v)):∃cs0 v0,L[j]?=some (.row cs0 sz v0)∧cs=Z3V L id v' cs0:=by
 by_cases hj:j=id
 ·subst hj
  obtain⟨cs0,sz0,hL,_⟩:=Z0N (L:=L) (id:=j) (ver:=Z1G L j) ⟨hr,rfl⟩
  rw [Z9k hL] at h
  simp only [Option.some.injEq,Z0L.row.injEq] at h
  obtain⟨rfl,rfl,rfl⟩:=h
  exact⟨cs0,_,hL,rfl⟩
 ·rw [Z5N hj,Option.map_eq_some_iff] at h
  obtain⟨o,h1,h2⟩:=h
  cases o <;> simp only [ZdZ,reduceCtorEq,Z0L.row.injEq] at h2
  obtain⟨rfl,rfl,rfl⟩:=h2
  exact⟨_,_,h1,rfl⟩
theorem Z5C(hr:isRow L id=true){j:Nat}{r:Raw}(h:(Z6D L id v')[j]?=some (.raw r)):L[j]?=some (.raw r):=by
 by_cases hj:j=id
 ·subst hj
  obtain⟨cs0,sz0,hL,_⟩:=Z0N (L:=L) (id:=j) (ver:=Z1G L j) ⟨hr,rfl⟩
  rw [Z9k hL] at h; cases h
 ·rw [Z5N hj,Option.map_eq_some_iff] at h
  obtain⟨o,h1,h2⟩:=h
  cases o <;> simp only [ZdZ,reduceCtorEq,Z0L.raw.injEq] at h2
  subst h2; exact h1
theorem Z5M(hr:isRow L id=true){j:Nat}(h:Own m (Z6D L id v') j):Own m L j:=by
 rcases h with ⟨cs,sz,ver,hL,hc⟩ | ⟨r,hL⟩
 ·obtain⟨cs0,v0,h1,_⟩:=Z8E hr hL
  exact .inl ⟨_,_,_,h1,hc⟩
 ·exact .inr ⟨_,Z5C hr hL⟩
theorem Z4d{x:AV}{u:Value}(h:Z05 m L x u)(hs:scp 0 x=true):Z05 m (Z6D L id v') x u:=
 Z05.mono (m:=m) (L:=[]) ⟨fun _ _ h=>h,fun _ _ _ _ h=>by simp at h,fun _ _ h=>by simp at h⟩ _ _ (Z72 h hs)
theorem Z79{i ver:Nat}{Q:Nat→Nat→Prop}{S:Prop}(hr:isRow L id=true)
  (h:∃cs sz v,L[i]?=some (.row cs sz v)∧ver≤v∧S∧(v=ver→Q sz cs.length)) :
  (i=id→ver=Z1G L id→∃cs sz v,(Z6D L id v')[i]?=some (.row cs sz v)∧v'≤v∧S∧(v=v'→Q sz cs.length))∧
  (i≠id→∃cs sz v,(Z6D L id v')[i]?=some (.row cs sz v)∧ver≤v∧S∧(v=ver→Q sz cs.length)):=by
 obtain⟨cs,sz,v,hL,hle,hs,hq⟩:=h
 refine⟨fun hi hv=>?_,fun hi=>?_⟩
 ·subst hi
  have:v=ver:=by rw [hv]; simp [Z1G,hL]
  exact⟨Z3V L i v' cs,sz,v',Z9k hL,Nat.le_refl _,hs,fun _=>by rw [Z3z]; exact hq this⟩
 ·exact⟨Z3V L id v' cs,sz,v,by rw [Z5N hi,hL]; rfl,hle,hs,by rw [Z3z]; exact hq⟩
mutual
theorem Z05.ver(hr:isRow L id=true):∀(x:AV) (u:Value),Z05 m L x u→Z05 m (Z6D L id v') (Z4p L id v' x) u
 | .any,_,_=>by simp [Z4p,Z05]
 | .int ..,_,h=>by simpa [Z4p,Z05] using h
 | .bool _,_,h=>by simpa [Z4p,Z05] using h
 | .str _,_,h=>by simpa [Z4p,Z05] using h
 | .lit _,_,h=>by simpa [Z4p,Z05] using h
 | .ub ..,_,h=>by simpa only [Z4p,Z05] using h
 | .agg cs,u,h=>by
  simp only [Z05,Z4p] at *
  obtain⟨us,rfl,hc⟩:=h
  exact⟨us,rfl,Z0e.ver hr cs us hc⟩
 | .tup cs,u,h=>by
  simp only [Z05,Z4p] at *
  obtain⟨us,rfl,hc⟩:=h
  exact⟨us,rfl,Z0e.ver hr cs us hc⟩
 | .sl cs n,u,h=>by
  simp only [Z4p]
  cases hs:Z0Z 0 cs
  ·simp [Z05]
  ·exact Z4d h hs
 | .ip cs,u,h=>by
  simp only [Z4p]
  cases hs:Z0Z 0 cs
  ·simp [Z05]
  ·exact Z4d h hs
 | .fn f a b,u,h=>by
  simp only [Z05,Z4p] at *
  obtain⟨us,vs,rfl,h1,h2⟩:=h
  exact⟨us,vs,rfl,Z0e.ver hr a us h1,Z0e.ver hr b vs h2⟩
 | .when c x,u,h=>by
  simp only [Z4p]
  cases hs:scp 0 x
  ·simp [Z05]
  ·exact Z4d h (by simpa [scp] using hs)
 | .alt c x y,u,h=>by
  simp only [Z4p]
  cases hs:scp 0 x && scp 0 y
  ·simp [Z05]
  ·exact Z4d h (by simpa [scp] using hs)
 | .ifc t x,u,h=>by
  simp only [Z05,Z4p] at *
  obtain⟨v,rfl,h⟩:=h
  exact⟨v,rfl,Z05.ver hr x v h⟩
 | .msl i ver off n,u,h=>by
  simp only [Z4p]
  simp only [Z05] at h
  have k:=Z79 (v':=v') (Q:=fun sz l=>(off+n)*sz≤l∧off+n≤m.cap i∧∃a,u=.slice a n (m.cap i - off)∧(off=m.cap i∨a=some ⟨m.blk i,off*sz,none⟩)) hr h
  by_cases hi:i=id
  ·by_cases hv:ver=Z1G L id
   ·have:=k.1 hi hv
    simpa only [hi,hv,beq_self_eq_true,cond_true,Z05] using this
   ·have e:(ver == Z1G L id)=false:=by simp [hv]
    simp [hi,e,Z05]
  ·have e:(i == id)=false:=by simp [hi]
   simpa only [e,cond_false,Z05] using k.2 hi
 | .csl i ver off n,u,h=>by
  simp only [Z4p]
  simp only [Z05] at h
  have k:=Z79 (v':=v') (Q:=fun sz l=>(off+n)*sz≤l∧off+n≤m.cap i∧∃a,u=.slice a n n∧(n=0∨a=some ⟨m.blk i,off*sz,none⟩)) hr h
  by_cases hi:i=id
  ·by_cases hv:ver=Z1G L id
   ·have:=k.1 hi hv
    simpa only [hi,hv,beq_self_eq_true,cond_true,Z05] using this
   ·have e:(ver == Z1G L id)=false:=by simp [hv]
    simp [hi,e,Z05]
  ·have e:(i == id)=false:=by simp [hi]
   simpa only [e,cond_false,Z05] using k.2 hi
 | .ref i ver off,u,h=>by
  simp only [Z4p]
  simp only [Z05] at h
  rcases h with h | ⟨r,hL,h⟩
  ·have k:=Z79 (v':=v') (Q:=fun _ _=>u=.pointer (some ⟨m.blk i,off,none⟩)) hr h
   by_cases hi:i=id
   ·by_cases hv:ver=Z1G L id
    ·have:=k.1 hi hv
     simp only [hi,hv,beq_self_eq_true,cond_true,Z05]
     left; simpa only [hi] using this
    ·have e:(ver == Z1G L id)=false:=by simp [hv]
     simp [hi,e,Z05]
   ·have e:(i == id)=false:=by simp [hi]
    simp only [e,cond_false,Z05]
    exact .inl (k.2 hi)
  ·have hi:i≠id:=by
    intro e; subst e
    simp [isRow,hL] at hr
   have e:(i == id)=false:=by simp [hi]
   simp only [e,cond_false,Z05]
   exact .inr ⟨r,Z8F hL,h⟩
 | .mp i,u,h=>by
  simp only [Z4p,Z05] at *
  obtain⟨r,hL,h⟩:=h
  exact⟨r,Z8F hL,h⟩
 | .mpr kd f,u,h=>by simpa only [Z4p,Z05] using h
theorem Z0e.ver(hr:isRow L id=true):∀(cs:List AV) (us:List Value),Z0e m L cs us→Z0e m (Z6D L id v') (Z3V L id v' cs) us
 | [],_,h=>by simpa [Z0e,Z3V] using h
 | c::cs,us,h=>by
  simp only [Z0e,Z3V] at *
  obtain⟨u,us',rfl,h1,h2⟩:=h
  exact⟨u,us',rfl,Z05.ver hr c u h1,Z0e.ver hr cs us' h2⟩
end
theorem Z0O.ver(hW:Z0O m L w)(hr:isRow L id=true):Z0O m (Z6D L id v') w:=by
 refine⟨hW.glob,hW.pobjs,fun j cs sz ver hL hc=>?_,fun j cs sz ver hL hc=>?_,fun j r hL=>hW.iters _ _ (Z5C hr hL),fun i j hi hj he=>hW.inj i j (Z5M hr hi) (Z5M hr hj) he,fun j ho=>hW.freeo j (Z5M hr ho),hW.hid.keep (fun i T e l h=>⟨Z5C hr h,rfl,rfl⟩) (fun _ _ _ _ _ _=>rfl) (fun _ _ _=>rfl) (fun i g k=>hW.hid.free i g k) (fun i g k j hj=>hW.hid.own i g k j (Z5M hr hj))⟩
 ·obtain⟨cs0,v0,h1,rfl⟩:=Z8E hr hL
  obtain⟨us,rest,elem,lo,hi,k1,k2,k3,k4⟩:=hW.rows _ _ _ _ h1 hc
  exact⟨us,rest,elem,lo,hi,k1,Z0e.ver hr _ _ k2,k3,k4⟩
 ·obtain⟨cs0,v0,h1,rfl⟩:=Z8E hr hL
  rw [hW.nils _ _ _ _ h1 hc]; rfl
theorem Z8H:(Z6D L id v').length=L.length:=by
 simp only [Z6D]; split <;> simp
theorem Ext.ver{m0:Mem}{L0:Heap}{w0:World}(hE:Ext m0 L0 w0 m L w)(hr:isRow L id=true)(hv:Z1G L0 id<v'∨L0.length≤id):Ext m0 L0 w0 m (Z6D L id v') w:=by
 refine⟨hE.frame,hE.size,hE.newobj,fun j ho=>hE.blks j (Z5M hr ho),by rw [Z8H]; exact hE.len,⟨hE.mono.pobj,fun j cs sz ver hL=>?_,fun j r hL=>?_⟩,hE.same,fun i g ⟨T,e,l,k1,k2⟩=>hE.hnew i g ⟨T,e,l,Z5C hr k1,k2⟩⟩
 ·obtain⟨cs',v1,h1,h2,h3⟩:=hE.mono.row _ _ _ _ hL
  by_cases hj:j=id
  ·subst hj
   have hlt:=(List.getElem?_eq_some_iff.1 hL).1
   have e:Z1G L0 j=ver:=by simp [Z1G,hL]
   refine⟨Z3V L j v' cs',v',Z9k h1,by omega,fun e2=>by omega⟩
  ·exact⟨Z3V L id v' cs',v1,by rw [Z5N hj,h1]; rfl,h2,fun e=>by rw [Z3z]; exact h3 e⟩
 ·obtain⟨r',h1,h2⟩:=hE.mono.iter _ _ hL
  exact⟨r',Z8F h1,h2⟩
end
theorem Zed{α:Type}{us:List α}{i:Nat}{u:α}(h:us[i]?=some u):us.set i u=us:=by
 apply List.ext_getElem?
 intro j
 rw [List.getElem?_set]
 split
 ·rename_i hij; subst hij
  rw [if_pos (List.getElem?_eq_some_iff.1 h).1,h]
 ·rfl
theorem ZeJ{m:Mem}{L:Heap}{sz:Nat}{fr:List AV}{us:List Value}(h:Z0e m L fr us)(i j:Nat)(cs:List AV)(hi:fr.getD i .any=.tup cs)(hj:cs.getD j .any=.lit (.slice none 0 0)) :
  Z0e (Z4Z m L.length) (L++[Z0L.row [] sz 0]) (fr.set i (.tup (cs.set j (.msl L.length 0 0 0)))) us:=by
 have h':=Z0e.mono (Z4i (sz:=sz)) _ _ h
 have h1:=h'.getD i
 rw [hi] at h1
 simp only [Z05] at h1
 obtain⟨vs,hu,hc⟩:=h1
 have hc1:=Zc1 (m:=m) (L:=L) (sz:=sz) (fr:=cs) (us:=vs) (by
  have h0:=h.getD i
  rw [hi] at h0
  simp only [Z05] at h0
  obtain⟨vs',hu',hc'⟩:=h0
  rw [hu] at hu'
  have:vs=vs':=by simpa using hu'
  rw [this]; exact hc') j hj
 have hlt:i<us.length:=by
  rcases Nat.lt_or_ge i us.length with h2 | h2
  ·exact h2
  ·have:fr.getD i .any=.any:=by simp [List.getD,List.getElem?_eq_none (by rw [←h.length]; exact h2)]
   rw [this] at hi; cases hi
 have hget:us[i]?=some (.tuple vs.toArray):=by
  have:us.getD i undef=us[i]:=by simp [List.getD,hlt]
  rw [this] at hu
  simp [hlt,hu]
 have:=h'.set i (c:=.tup (cs.set j (.msl L.length 0 0 0))) (u:=.tuple vs.toArray) (by simp only [Z05]; exact⟨vs,rfl,hc1⟩)
 rwa [Zed hget] at this
section
variable {m:Mem} {L:Heap} {w:World}
theorem Z2I{id:Nat}{cs cs':List AV}{sz v:Nat}(hL:L[id]?=some (.row cs sz v)){j:Nat}{o:Z0L}(h:(L.set id (.row cs' sz v))[j]?=some o):(j=id∧o=.row cs' sz v)∨(j≠id∧L[j]?=some o):=by
 have hlt:=(List.getElem?_eq_some_iff.1 hL).1
 by_cases hj:j=id
 ·subst hj; rw [List.getElem?_set_self hlt] at h; exact .inl ⟨rfl,(Option.some.inj h).symm⟩
 ·rw [List.getElem?_set_ne (Ne.symm hj)] at h; exact .inr ⟨hj,h⟩
theorem Z2p{id:Nat}{cs cs':List AV}{sz v:Nat}(hL:L[id]?=some (.row cs sz v))(hl:cs'.length=cs.length):Z4G m L m (L.set id (.row cs' sz v)):=by
 have hlt:=(List.getElem?_eq_some_iff.1 hL).1
 refine⟨fun _ _ h=>h,fun i cs1 s v1 h=>?_,fun i r h=>?_⟩
 ·by_cases hi:i=id
  ·subst hi
   rw [hL] at h
   simp only [Option.some.injEq,Z0L.row.injEq] at h
   obtain⟨rfl,rfl,rfl⟩:=h
   exact⟨cs',v,by rw [List.getElem?_set_self hlt],Nat.le_refl _,fun _=>⟨hl,rfl,rfl⟩⟩
  ·exact⟨cs1,v1,by rw [List.getElem?_set_ne (Ne.symm hi)]; exact h,Nat.le_refl _,fun _=>⟨rfl,rfl,rfl⟩⟩
 ·have hi:i≠id:=by rintro rfl; rw [hL] at h; cases h
  exact⟨r,by rw [List.getElem?_set_ne (Ne.symm hi)]; exact h,rfl⟩
theorem Z3m{id:Nat}{cs cs':List AV}{sz v:Nat}(hL:L[id]?=some (.row cs sz v)){j:Nat}(h:Own m (L.set id (.row cs' sz v)) j):Own m L j:=by
 rcases h with ⟨c1,s1,v1,h1,hc⟩ | ⟨r,h1⟩
 ·rcases Z2I hL h1 with ⟨rfl,h2⟩ | ⟨_,h2⟩
  ·exact .inl ⟨_,_,_,hL,hc⟩
  ·exact .inl ⟨_,_,_,h2,hc⟩
 ·rcases Z2I hL h1 with ⟨rfl,h2⟩ | ⟨_,h2⟩
  ·cases h2
  ·exact .inr ⟨_,h2⟩
theorem Z6K{id:Nat}{cs cs':List AV}{sz v:Nat}(hL:L[id]?=some (.row cs sz v)){j:Nat}{T e:TypeId}{l:List UInt8}(h:(L.set id (.row cs' sz v))[j]?=some (.raw (.bld T e l))):L[j]?=some (.raw (.bld T e l)):=by
 rcases Z2I hL h with ⟨_,h2⟩ | ⟨_,h2⟩
 ·cases h2
 ·exact h2
theorem Z0O.recell(hW:Z0O m L w){id:Nat}{cs cs':List AV}{sz v:Nat}(hL:L[id]?=some (.row cs sz v))(hl:cs'.length=cs.length)(hc:∀us,Z0e m L cs us→Z0e m L cs' us):Z0O m (L.set id (.row cs' sz v)) w:=by
 have M:=Z2p (m:=m) hL hl
 refine⟨hW.glob,hW.pobjs,fun j c s v1 h hcap=>?_,fun j c s v1 h hcap=>?_,fun j r h=>?_,fun i j hi hj he=>hW.inj i j (Z3m hL hi) (Z3m hL hj) he,fun j ho=>hW.freeo j (Z3m hL ho),hW.hid.keep (fun i T e l h=>⟨Z6K hL h,rfl,rfl⟩) (fun _ _ _ _ _ _=>rfl) (fun _ _ _=>rfl) (fun i g k=>hW.hid.free i g k) (fun i g k j hj=>hW.hid.own i g k j (Z3m hL hj))⟩
 ·rcases Z2I hL h with ⟨rfl,h2⟩ | ⟨_,h2⟩
  ·simp only [Z0L.row.injEq] at h2
   obtain⟨rfl,rfl,rfl⟩:=h2
   obtain⟨us,rest,elem,lo,hi,k1,k2,k3,k4⟩:=hW.rows _ _ _ _ hL hcap
   exact⟨us,rest,elem,lo,hi,k1,Z0e.mono M _ _ (hc _ k2),k3,k4⟩
  ·obtain⟨us,rest,elem,lo,hi,k1,k2,k3,k4⟩:=hW.rows _ _ _ _ h2 hcap
   exact⟨us,rest,elem,lo,hi,k1,Z0e.mono M _ _ k2,k3,k4⟩
 ·rcases Z2I hL h with ⟨rfl,h2⟩ | ⟨_,h2⟩
  ·simp only [Z0L.row.injEq] at h2
   obtain⟨rfl,rfl,rfl⟩:=h2
   have:=hW.nils _ _ _ _ hL hcap
   rw [this] at hl
   exact List.eq_nil_of_length_eq_zero hl
  ·exact hW.nils _ _ _ _ h2 hcap
 ·rcases Z2I hL h with ⟨rfl,h2⟩ | ⟨_,h2⟩
  ·cases h2
  ·exact hW.iters _ _ h2
theorem Ext.recell{m0:Mem}{L0:Heap}{w0:World}(hE:Ext m0 L0 w0 m L w){id:Nat}{cs cs':List AV}{sz v:Nat}(hL:L[id]?=some (.row cs sz v))(hl:cs'.length=cs.length):Ext m0 L0 w0 m (L.set id (.row cs' sz v)) w:=
 ⟨hE.frame,hE.size,hE.newobj,fun j ho=>hE.blks j (Z3m hL ho),by rw [List.length_set]; exact hE.len,hE.mono.trans (Z2p hL hl),hE.same,fun i g ⟨T,e,l,k1,k2⟩=>hE.hnew i g ⟨T,e,l,Z6K hL k1,k2⟩⟩
end
theorem ZeK{m:Mem}{L:Heap}{w:World}(hW:Z0O m L w){id:Nat}(j sz':Nat){cs:List AV}{sz v:Nat}(hL:L[id]?=some (.row cs sz v))(hj:cs.getD j .any=.lit (.slice none 0 0)) :
  L.set id (.row (cs.set j (.msl L.length 0 0 0)) sz v)++[Z0L.row [] sz' 0]=(L++[Z0L.row [] sz' 0]).set id (.row (cs.set j (.msl L.length 0 0 0)) sz v)∧(L++[Z0L.row [] sz' 0])[id]?=some (.row cs sz v)∧
   ∀us,Z0e (Z4Z m L.length) (L++[Z0L.row [] sz' 0]) cs us→Z0e (Z4Z m L.length) (L++[Z0L.row [] sz' 0]) (cs.set j (.msl L.length 0 0 0)) us:=by
 have hlt:=(List.getElem?_eq_some_iff.1 hL).1
 have hL1:(L++[Z0L.row [] sz' 0])[id]?=some (.row cs sz v):=by rw [List.getElem?_append_left hlt]; exact hL
 refine⟨by rw [List.set_append_left _ _ hlt],hL1,?_⟩
 have hjl:j<cs.length:=by
  rcases Nat.lt_or_ge j cs.length with h' | h'
  ·exact h'
  ·simp [List.getD,List.getElem?_eq_none h'] at hj
 have hv:Z05 (Z4Z m L.length) (L++[Z0L.row [] sz' 0]) (.msl L.length 0 0 0) (.slice none 0 0):=by
  simp only [Z05]
  exact⟨[],sz',0,by simp,Nat.le_refl _,⟨none,0,0,rfl⟩,fun _=>⟨by simp,by simp,none,by simp [Z4Z],.inl (by simp [Z4Z])⟩⟩
 intro us hcs
 refine Z0e.mk (by simp [hcs.length]) fun i c u hi hu=>?_
 rw [List.getElem?_set] at hi
 by_cases hij:j=i
 ·subst hij
  simp [hjl] at hi
  subst hi
  have:=hcs.getD j
  rw [hj] at this
  simp only [Z05] at this
  simp [List.getD,hu] at this
  rw [this]; exact hv
 ·simp [hij] at hi
  obtain⟨u1,hu1,hr1⟩:=hcs.get i c hi
  rw [hu] at hu1; obtain rfl:=Option.some.inj hu1; exact hr1
inductive Z0k (L0:Heap):List AV→Heap→List AV×Heap→Prop
 | refl (S:List AV×Heap):Z0k L0 S.1 S.2 S
 | weak {fr:List AV} {L:Heap} {fr':List AV} {L':Heap} {S:List AV×Heap} (ids:List Nat) (h:ZdS L0.length ids fr L fr' L') (hle:L0.length≤L'.length) (h':Z0k L0 fr' L' S):Z0k L0 fr L S
 | nil {fr:List AV} {L:Heap} {S:List AV×Heap} (i sz:Nat) (hi:fr.getD i .any=.lit (.slice none 0 0)) (h:Z0k L0 (fr.set i (.msl L.length 0 0 0)) (L++[.row [] sz 0]) S):Z0k L0 fr L S
 | nilT {fr:List AV} {L:Heap} {S:List AV×Heap} (i j sz:Nat) (cs:List AV) (hi:fr.getD i .any=.tup cs) (hj:cs.getD j .any=.lit (.slice none 0 0)) (h:Z0k L0 (fr.set i (.tup (cs.set j (.msl L.length 0 0 0)))) (L++[.row [] sz 0]) S):Z0k L0 fr L S
 | frz {fr:List AV} {L:Heap} {S:List AV×Heap} (id:Nat) (hn:L0.length≤id) (hok:Z15 L id) (h:Z0k L0 (Z5G L id fr) (Z6y L id) S):Z0k L0 fr L S
 | sem {fr fr':List AV} {L:Heap} {S:List AV×Heap} (hs:∀m us,Z0e m L fr us→Z0e m L fr' us) (h:Z0k L0 fr' L S):Z0k L0 fr L S
 | recell {fr:List AV} {L:Heap} {S:List AV×Heap} (id:Nat) (cs':List AV) {cs:List AV} {sz v:Nat} (hL:L[id]?=some (.row cs sz v)) (hl:cs'.length=cs.length) (hc:∀m us,Z0e m L cs us→Z0e m L cs' us) (h:Z0k L0 fr (L.set id (.row cs' sz v)) S):Z0k L0 fr L S
 | nilH {fr:List AV} {L:Heap} {S:List AV×Heap} (id j sz':Nat) {cs:List AV} {sz v:Nat} (hL:L[id]?=some (.row cs sz v)) (hj:cs.getD j .any=.lit (.slice none 0 0)) (h:Z0k L0 fr (L.set id (.row (cs.set j (.msl L.length 0 0 0)) sz v)++[.row [] sz' 0]) S):Z0k L0 fr L S
 | ver {fr:List AV} {L:Heap} {S:List AV×Heap} (id v':Nat) (hr:isRow L id=true) (hv:Z1G L0 id<v'∨L0.length≤id) (h:Z0k L0 (Z3V L id v' fr) (Z6D L id v') S):Z0k L0 fr L S
theorem Z0k.base{L0:Heap}{fr:List AV}{L:Heap}{S:List AV×Heap}(ids:List Nat)(h:ZdS L0.length ids fr L S.1 S.2)(hle:L0.length≤S.2.length):Z0k L0 fr L S:=.weak ids h hle (.refl S)
theorem Z0k.trans{L0:Heap}{fr:List AV}{L:Heap}{S S':List AV×Heap}(h:Z0k L0 fr L S):Z0k L0 S.1 S.2 S'→Z0k L0 fr L S':=by
 induction h with
 | refl S=>exact id
 | weak ids h hle h' ih=>exact fun k=>.weak ids h hle (ih k)
 | nil i sz hi h ih=>exact fun k=>.nil i sz hi (ih k)
 | nilT i j sz cs hi hj h ih=>exact fun k=>.nilT i j sz cs hi hj (ih k)
 | frz id hn hok h ih=>exact fun k=>.frz id hn hok (ih k)
 | sem hs h ih=>exact fun k=>.sem hs (ih k)
 | recell id cs' hL hl hc h ih=>exact fun k=>.recell id cs' hL hl hc (ih k)
 | nilH id j sz' hL hj h ih=>exact fun k=>.nilH id j sz' hL hj (ih k)
 | ver id v' hr hv h ih=>exact fun k=>.ver id v' hr hv (ih k)
theorem Z0k.sound{m0:Mem}{L0:Heap}{w0:World}{fr:List AV}{L:Heap}{S:List AV×Heap}(h:Z0k L0 fr L S):∀{m:Mem} {w:World} {us:List Value},Z0O m L w→Z0e m L fr us→Ext m0 L0 w0 m L w→
  ∃m',Z0O m' S.2 w∧Z0e m' S.2 S.1 us∧Ext m0 L0 w0 m' S.2 w:=by
 induction h with
 | refl S=>
  intro m w us hW hc hE
  exact⟨m,hW,hc,hE⟩
 | weak ids h hle h' ih=>
  intro m w us hW hc hE
  have H:=h.renamed m
  exact ih (Z0O.ren H h.2.2.2.2.2 hW) (Z0e.ren H _ _ (Z7s h.1 hc) h.2.2.2.2.1) (h.ext rfl hle hE)
 | nil i sz hi h ih=>
  intro m w us hW hc hE
  exact ih hW.nil (Zc1 hc i hi) hE.nil
 | nilT i j sz cs hi hj h ih=>
  intro m w us hW hc hE
  exact ih hW.nil (ZeJ hc i j cs hi hj) hE.nil
 | frz id hn hok h ih=>
  intro m w us hW hc hE
  exact ih (hW.frz hok) (Z0e.frz hW hok _ _ hc) (hE.frz hW hok hn)
 | sem hs h ih=>
  intro m w us hW hc hE
  exact ih hW (hs m us hc) hE
 | recell id cs' hL hl hc h ih=>
  intro m w us hW hcr hE
  exact ih (hW.recell hL hl (hc m)) (Z0e.mono (Z2p hL hl) _ _ hcr) (hE.recell hL hl)
 | nilH id j sz' hL hj h ih=>
  intro m w us hW hc hE
  obtain⟨e,hL1,hcell⟩:=ZeK hW j sz' hL hj
  rw [e] at ih
  exact ih (hW.nil.recell hL1 (by simp) hcell) (Z0e.mono (Z2p hL1 (by simp)) _ _ (Z0e.mono (Z4i (m:=m) (sz:=sz')) _ _ hc)) (hE.nil.recell hL1 (by simp))
 | ver id v' hr hv h ih=>
  intro m w us hW hc hE
  exact ih (hW.ver hr) (Z0e.ver hr _ _ hc) (hE.ver hr hv)
theorem RS.intoF{B:Z9S}{fr:List AV}{L:Heap}{m:Mem}{a:Act}{w:World}(h:RS B fr L m a w){S:List AV×Heap}(hi:Z0k B.L fr L S):∃m',RS B S.1 S.2 m' a w:=by
 obtain⟨m',h1,h2,h3⟩:=hi.sound h.wrel h.frel h.ext
 exact⟨m',h1,h2,h3,h.defers⟩
end Go.Eng