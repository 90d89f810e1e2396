/- The engine, part 5: operations that make or change memory. -/
import Derived.Test.YtmomhjmaanagaaaGreatEng4
set_option linter.unusedVariables false
set_option linter.unusedSimpArgs false
namespace Go.Eng
open Go
theorem Z0O.heap{m:Mem}{L:Heap}{w w':World}(h:w'.heap=w.heap)(hW:Z0O m L w):Z0O m L w' where
 glob:=hW.glob
 pobjs g o hp:=by rw [h]; exact hW.pobjs g o hp
 rows:=by rw [h]; exact hW.rows
 nils:=hW.nils
 iters:=by rw [h]; exact hW.iters
 inj:=hW.inj
 freeo:=hW.freeo
 hid:=hW.hid.keep (fun _ _ _ _ h=>⟨h,rfl,rfl⟩) (fun _ _ _ _ _ _=>by rw [h]) (fun _ _ _=>by rw [h]) (fun _ _ k=>hW.hid.free _ _ k) (fun _ _ k j hj=>hW.hid.own _ _ k j hj)
section
variable {P:Program} {m:Mem} {L:Heap} {w:World}
def Mem.put(m:Mem)(id g c:Nat):Mem:={ m with blk:=fun i=>if i=id then g else m.blk i,cap:=fun i=>if i=id then c else m.cap i }
theorem Own.lt{id:Nat}(h:Own m L id):id<L.length:=by
 rcases h with ⟨cs,sz,ver,h,_⟩ | ⟨r,h⟩ <;> exact (List.getElem?_eq_some_iff.1 h).1
theorem Z55{id g c:Nat}{o:Z0L}(h:Own (m.put L.length g c) (L++[o]) id):(Own m L id∧id≠L.length)∨id=L.length:=by
 have:=h.lt
 simp at this
 by_cases hid:id=L.length
 ·exact .inr hid
 ·left
  have hlt:id<L.length:=by omega
  unfold Own at *
  rw [List.getElem?_append_left hlt] at h
  simpa [Mem.put,hid] using h
def Z1x(w w':World)(o:Obj):Prop:=w'.heap=w.heap.push o∧Z9h w w'
theorem Z1x.old{w w':World}{o:Obj}(h:Z1x w w' o){g:Nat}(hg:g<w.heap.size):w'.heap[g]?=w.heap[g]?:=by
 rw [h.1,Array.getElem?_push]; simp [Nat.ne_of_lt hg]
theorem Z1x.new{w w':World}{o:Obj}(h:Z1x w w' o):w'.heap[w.heap.size]?=some o:=by
 rw [h.1,Array.getElem?_push]; simp
theorem Z1x.size{w w':World}{o:Obj}(h:Z1x w w' o):w'.heap.size=w.heap.size+1:=by rw [h.1]; simp
theorem Z1x.alloc(w:World)(o:Obj):Z1x w (w.alloc o) o:=⟨rfl,rfl,rfl,rfl⟩
theorem Z8a(id_obj:Z0L)(g c:Nat):Z4G m L (m.put L.length g c) (L++[id_obj]) where
 pobj _ _ h:=h
 row id cs sz ver h:=by
  have hlt:id<L.length:=(List.getElem?_eq_some_iff.1 h).1
  refine⟨cs,ver,by rw [List.getElem?_append_left hlt]; exact h,Nat.le_refl _,fun _=>⟨rfl,?_,?_⟩⟩ <;> simp [Mem.put,Nat.ne_of_lt hlt]
 iter id r h:=by
  have hlt:id<L.length:=(List.getElem?_eq_some_iff.1 h).1
  exact⟨r,by rw [List.getElem?_append_left hlt]; exact h,by simp [Mem.put,Nat.ne_of_lt hlt]⟩
structure Zgv(w w':World):Prop where
 old:∀g,g<w.heap.size→w'.heap[g]?=w.heap[g]?
 size:w.heap.size≤w'.heap.size
 same:Z9h w w'
theorem Z1x.keep{w w':World}{o:Obj}(h:Z1x w w' o):Zgv w w':=⟨fun _ hg=>h.old hg,by rw [h.size]; omega,h.2⟩
theorem Zgv.refl(w:World):Zgv w w:=⟨fun _ _=>rfl,Nat.le_refl _,Z9h.refl w⟩
theorem Z9D{g c:Nat}{x:Z0L}(hx:∀T e l,x=.raw (.bld T e l)→c=0){id g':Nat}(h:Hid (m.put L.length g c) (L++[x]) id g'):Hid m L id g':=by
 obtain⟨T,e,l,hL,hc⟩:=h
 by_cases hid:id=L.length
 ·subst hid
  simp at hL
  have:=hx _ _ _ hL
  simp [Mem.put] at hc
  omega
 ·have hlt:id<L.length:=by
   have:=(List.getElem?_eq_some_iff.1 hL).1
   simp at this; omega
  rw [List.getElem?_append_left hlt] at hL
  exact⟨T,e,l,hL,by simpa [Mem.put,hid] using hc⟩
theorem Z3S.push{w':World}(hW:Z0O m L w){x:Z0L}{c:Nat}(hk:Zgv w w')(hx:∀T e l,x=.raw (.bld T e l)→c=0∧Z9j w' w.heap.size 0 T e l):Z3S (m.put L.length w.heap.size c) (L++[x]) w':=by
 have hh:∀{id g'},Hid (m.put L.length w.heap.size c) (L++[x]) id g'→Hid m L id g':=fun h=>Z9D (fun T e l hx'=>(hx T e l hx').1) h
 refine⟨fun id T e l hL=>?_,fun id g k=>hW.hid.free id g (hh k),fun id g k j hj=>?_,fun i j g k1 k2=>hW.hid.inj i j g (hh k1) (hh k2)⟩
 ·by_cases hid:id=L.length
  ·subst hid
   simp at hL
   obtain⟨h0,h1⟩:=hx _ _ _ hL
   subst h0
   simpa [Mem.put] using h1
  ·have hlt:id<L.length:=by
    have:=(List.getElem?_eq_some_iff.1 hL).1
    simp at this; omega
   rw [List.getElem?_append_left hlt] at hL
   simp only [Mem.put,hid,if_false]
   exact (hW.hid.at_ _ _ _ _ hL).same (hk.old _ (hW.blk_lt (.inr ⟨_,hL⟩))) fun g hc=>hk.old _ (hW.hid.lt ⟨_,_,_,hL,hc⟩)
 ·have hlt:=hW.hid.lt (hh k)
  rcases Z55 hj with ⟨h1,h2⟩ | h1
  ·simp only [Mem.put,h2,if_false]; exact hW.hid.own id g (hh k) j h1
  ·simp only [Mem.put,h1,if_true]; omega
theorem Z2j{w':World}(x:Z0L)(c:Nat)(hk:Zgv w w')(hx:∀T e l,x=.raw (.bld T e l)→c=0:=by (intro _ _ _ h; first | rfl | (cases h; done))):Ext m L w (m.put L.length w.heap.size c) (L++[x]) w' where
 hnew id g h:=.inl (Z9D hx h)
 frame g hg _ _:=hk.old g hg
 size:=hk.size
 newobj _ _:=rfl
 blks id hl:=by
  rcases Z55 hl with ⟨h,hne⟩ | h
  ·exact .inl ⟨h,by simp [Mem.put,hne]⟩
  ·exact .inr (by simp [Mem.put,h])
 len:=by simp
 mono:=Z8a x _ _
 same:=hk.same
theorem Z7p{w':World}(hW:Z0O m L w){x:Z0L}{c:Nat}(hk:Zgv w w')
  (hrow:∀cs sz ver,x=.row cs sz ver→c≠0→∃us rest elem lo hi,w'.heap[w.heap.size]?=some (.cells (us++rest).toArray elem (lo,hi))∧Z0e m L cs us∧us.length+rest.length=c*sz∧(hi=lo∨(c*sz≤lo∧sz=1)))
  (hnil:∀cs sz ver,x=.row cs sz ver→c=0→cs=[]) (hiter:∀r,x=.raw r→∃o,w'.heap[w.heap.size]?=some o∧Z4X w.heap.size r o) (hbld:∀T e l,x=.raw (.bld T e l)→c=0∧Z9j w' w.heap.size 0 T e l) :
  Z0O (m.put L.length w.heap.size c) (L++[x]) w':=by
 have M:Z4G m L (m.put L.length w.heap.size c) (L++[x]):=Z8a x _ _
 have hlive:∀i,Own (m.put L.length w.heap.size c) (L++[x]) i→(m.put L.length w.heap.size c).blk i=w.heap.size∧i=L.length∨(m.put L.length w.heap.size c).blk i=m.blk i∧Own m L i∧m.blk i<w.heap.size:=by
  intro i hi
  rcases Z55 hi with ⟨h,hne⟩ | h
  ·exact .inr ⟨by simp [Mem.put,hne],h,hW.blk_lt h⟩
  ·exact .inl ⟨by simp [Mem.put,h],h⟩
 have hold:∀{id:Nat} {o:Z0L},(L++[x])[id]?=some o→id≠L.length→L[id]?=some o:=by
  intro id o hL hid
  have hlt:id<L.length:=by
   have:=(List.getElem?_eq_some_iff.1 hL).1
   simp at this; omega
  rwa [List.getElem?_append_left hlt] at hL
 refine⟨hW.glob,fun g o hpin=>?_,fun id cs' sz' ver' hL hcap=>?_,fun id cs' sz' ver' hL hcap=>?_,fun id r hL=>?_,fun i j hi hj he=>?_,fun id hl=>?_,Z3S.push hW hk hbld⟩
 ·rw [hk.old _ (hW.pobj_lt hpin)]; exact hW.pobjs g o hpin
 ·by_cases hid:id=L.length
  ·subst hid
   simp at hL
   simp [Mem.put] at hcap
   obtain⟨us,rest,elem,lo,hi,h1,h2,h3,h4⟩:=hrow _ _ _ hL hcap
   exact⟨us,rest,elem,lo,hi,by simp [Mem.put,h1],Z0e.mono M _ _ h2,by simpa [Mem.put] using h3,by simpa [Mem.put] using h4⟩
  ·have hL':=hold hL hid
   simp [Mem.put,hid] at hcap
   obtain⟨us',rest',elem',lo',hi',h1,h2,h3,h4⟩:=hW.rows _ _ _ _ hL' hcap
   have hb:=hW.blk_lt (id:=id) (.inl ⟨_,_,_,hL',hcap⟩)
   refine⟨us',rest',elem',lo',hi',?_,Z0e.mono M _ _ h2,?_,?_⟩
   ·simp only [Mem.put,hid,if_false]; rw [hk.old _ hb]; exact h1
   ·simpa [Mem.put,hid] using h3
   ·simpa [Mem.put,hid] using h4
 ·by_cases hid:id=L.length
  ·subst hid
   simp at hL
   simp [Mem.put] at hcap
   exact hnil _ _ _ hL hcap
  ·simp [Mem.put,hid] at hcap
   exact hW.nils _ _ _ _ (hold hL hid) hcap
 ·by_cases hid:id=L.length
  ·subst hid; simp at hL; simpa [Mem.put] using hiter _ hL
  ·have hL':=hold hL hid
   have hb:=hW.blk_lt (id:=id) (.inr ⟨_,hL'⟩)
   simp only [Mem.put,hid,if_false]; rw [hk.old _ hb]; exact hW.iters _ _ hL'
 ·rcases hlive i hi with ⟨h1,h2⟩ | ⟨h1,h2,h3⟩ <;> rcases hlive j hj with ⟨k1,k2⟩ | ⟨k1,k2,k3⟩
  ·omega
  ·omega
  ·omega
  ·exact hW.inj i j h2 k2 (by omega)
 ·rcases hlive id hl with ⟨h1,h2⟩ | ⟨h1,h2,h3⟩
  ·rw [h1]
   cases hpo:m.pobj w.heap.size with
   | none=>exact hpo
   | some v=>have:=hW.pobj_lt hpo; omega
  ·rw [h1]; exact hW.freeo id h2
theorem Z3G{w':World}(hW:Z0O m L w){cs:List AV}{us rest:List Value}{elem:TypeId}{sz c lo hi:Nat}(hp:Z1x w w' (.cells (us++rest).toArray elem (lo,hi)))(hc:Z0e m L cs us)
  (hlen:us.length+rest.length=c*sz) (hf:hi=lo∨(c*sz≤lo∧sz=1)) (ver:Nat:=0):Z0O (m.put L.length w.heap.size c) (L++[.row cs sz ver]) w':=by
 refine Z7p hW hp.keep (fun cs' sz' ver' he _=>?_) (fun cs' sz' ver' he h0=>?_) (fun r he=>by cases he) (fun _ _ _ he=>by cases he)
 ·cases he; exact⟨us,rest,elem,lo,hi,hp.new,hc,hlen,hf⟩
 ·cases he
  have:=hc.length
  rw [h0] at hlen
  simp at hlen
  exact List.eq_nil_of_length_eq_zero (by rw [←this,hlen.1]; rfl)
theorem ZeA(hW:Z0O m L w)(sz:Nat):Z0O (m.put L.length w.heap.size 0) (L++[.row [] sz 0]) w:=
 Z7p hW (Zgv.refl w) (fun cs' sz' ver' he h=>absurd rfl h) (fun cs' sz' ver' he h0=>by cases he; rfl) (fun r he=>by cases he) (fun _ _ _ he=>by cases he)
theorem Z7o{w':World}(hW:Z0O m L w){r:Raw}{o:Obj}(hp:Z1x w w' o)(hr:Z4X w.heap.size r o)(hbld:∀T e l,r=.bld T e l→Z9j w' w.heap.size 0 T e l:=by (intro _ _ _ h; cases h; done)):Z0O (m.put L.length w.heap.size 0) (L++[.raw r]) w':=
 Z7p hW hp.keep (fun cs' sz' ver' he _=>by cases he) (fun cs' sz' ver' he h0=>by cases he) (fun r' he=>by cases he; exact⟨o,hp.new,hr⟩) (fun T e l he=>⟨rfl,hbld T e l (by cases he; rfl)⟩)
structure Chg(w w':World)(g:Nat)(o:Obj):Prop where
 at_:w'.heap[g]?=some o
 other:∀g',g'≠g→g'<w.heap.size→w'.heap[g']?=w.heap[g']?
 size:w.heap.size≤w'.heap.size
 same:Z9h w w'
theorem ZbQ{id i g c:Nat}{o:Z0L}(h:Own (m.put id g c) (L.set id o) i)(hi:i≠id):Own m L i:=by
 unfold Own at *
 rw [List.getElem?_set_ne (fun h=>hi h.symm)] at h
 simpa [Mem.put,hi] using h
theorem Z89{id:Nat}{cs0 cs:List AV}{sz ver ver':Nat}(h0:L[id]?=some (.row cs0 sz ver)){g c:Nat}
  (hver:(ver'=ver∧cs.length=cs0.length∧g=m.blk id∧c=m.cap id)∨ver'=ver+1):Z4G m L (m.put id g c) (L.set id (.row cs sz ver')):=by
 have hlt:id<L.length:=(List.getElem?_eq_some_iff.1 h0).1
 refine⟨fun _ _ h=>h,fun i cs' sz' v hL=>?_,fun i r hL=>?_⟩
 ·by_cases hi:i=id
  ·subst hi
   rw [h0] at hL
   simp at hL
   obtain⟨rfl,rfl,rfl⟩:=hL
   refine⟨cs,ver',by simp [hlt],by omega,fun e=>?_⟩
   rcases hver with ⟨h1,h2,h3,h4⟩ | h1
   ·exact⟨h2,by simp [Mem.put,h3],by simp [Mem.put,h4]⟩
   ·omega
  ·refine⟨cs',v,by rw [List.getElem?_set_ne (fun h=>hi h.symm)]; exact hL,Nat.le_refl _,fun _=>⟨rfl,?_,?_⟩⟩ <;> simp [Mem.put,hi]
 ·have hi:i≠id:=by intro h; subst h; rw [h0] at hL; simp at hL
  exact⟨r,by rw [List.getElem?_set_ne (fun h=>hi h.symm)]; exact hL,by simp [Mem.put,hi]⟩
theorem Z3A{w':World}(hW:Z0O m L w){id:Nat}{cs0 cs:List AV}{sz ver ver':Nat}(h0:L[id]?=some (.row cs0 sz ver)){us rest:List Value}{elem:TypeId}{g c lo hi:Nat}
  (hg:(g=m.blk id∧m.cap id≠0)∨w.heap.size≤g) (hC:Chg w w' g (.cells (us++rest).toArray elem (lo,hi))) (hc:Z0e m L cs us) (hlen:us.length+rest.length=c*sz) (hf:hi=lo∨(c*sz≤lo∧sz=1)) (hc0:c≠0)
  (hver:(ver'=ver∧cs.length=cs0.length∧g=m.blk id∧c=m.cap id)∨ver'=ver+1) :
  Z0O (m.put id g c) (L.set id (.row cs sz ver')) w'∧Ext m L w (m.put id g c) (L.set id (.row cs sz ver')) w':=by
 have hlt:id<L.length:=(List.getElem?_eq_some_iff.1 h0).1
 have hgne:∀i,Own m L i→i≠id→m.blk i≠g:=by
  intro i hi hne he
  rcases hg with ⟨hg,hcap⟩ | hg
  ·exact hne (hW.inj i id hi (.inl ⟨_,_,_,h0,hcap⟩) (by omega))
  ·have:=hW.blk_lt hi; omega
 have hpin0:m.pobj g=none:=by
  rcases hg with ⟨hg,hcap⟩ | hg
  ·rw [hg]; exact hW.freeo id (.inl ⟨_,_,_,h0,hcap⟩)
  ·cases hpo:m.pobj g with
   | none=>rfl
   | some v=>have:=hW.pobj_lt hpo; omega
 have M:Z4G m L (m.put id g c) (L.set id (.row cs sz ver')):=Z89 h0 hver
 have hlive:∀i,Own (m.put id g c) (L.set id (.row cs sz ver')) i→(i=id∧(m.put id g c).blk i=g)∨(i≠id∧Own m L i∧(m.put id g c).blk i=m.blk i):=by
  intro i hi
  by_cases hii:i=id
  ·exact .inl ⟨hii,by simp [Mem.put,hii]⟩
  ·exact .inr ⟨hii,ZbQ hi hii,by simp [Mem.put,hii]⟩
 have hbs:∀i T e l,(L.set id (.row cs sz ver'))[i]?=some (.raw (.bld T e l))→L[i]?=some (.raw (.bld T e l))∧(m.put id g c).blk i=m.blk i∧(m.put id g c).cap i=m.cap i:=by
  intro i T e l hL
  have hi:i≠id:=by intro h; subst h; simp [hlt] at hL
  rw [List.getElem?_set_ne (fun h=>hi h.symm)] at hL
  exact⟨hL,by simp [Mem.put,hi],by simp [Mem.put,hi]⟩
 have hgh:∀i g',Hid m L i g'→g'≠g:=by
  intro i g' k e
  subst e
  rcases hg with ⟨hg,hcap⟩ | hg
  ·exact hW.hid.own _ _ k id (.inl ⟨_,_,_,h0,hcap⟩) hg.symm
  ·have:=hW.hid.lt k; omega
 have hHid:Z3S (m.put id g c) (L.set id (.row cs sz ver')) w':=by
  refine hW.hid.keep hbs (fun i T e l k k'=>?_) (fun i g' k=>hC.other g' (hgh i g' k) (hW.hid.lt k)) (fun i g' k=>hW.hid.free i g' k) (fun i g' k j hj=>?_)
  ·have hi:i≠id:=by intro h; subst h; simp [hlt] at k'
   exact hC.other _ (hgne i (.inr ⟨_,k⟩) hi) (hW.blk_lt (.inr ⟨_,k⟩))
  ·rcases hlive j hj with ⟨h1,h2⟩ | ⟨h1,h2,h3⟩
   ·rw [h2]; exact fun e=>hgh i g' k e.symm
   ·rw [h3]; exact hW.hid.own i g' k j h2
 refine⟨⟨hW.glob,fun g' o hpin=>?_,fun i cs' sz' v hL hcap=>?_,fun i cs' sz' v hL hcap=>?_,fun i r hL=>?_,fun i j hi hj he=>?_,fun i hl=>?_,hHid⟩,⟨fun g' hg' hne _=>?_,hC.size,fun _ _=>rfl,fun i hl=>?_,by simp,M,hC.same,fun i g' ⟨T,e,l,k1,k2⟩=>.inl ⟨T,e,l,(hbs _ _ _ _ k1).1,by rw [←(hbs _ _ _ _ k1).2.2]; exact k2⟩⟩⟩
 ·have hne:g'≠g:=by
   intro h; subst h
   have h1:m.pobj g'=some o:=hpin
   rw [hpin0] at h1; cases h1
  rw [hC.other g' hne (hW.pobj_lt hpin)]; exact hW.pobjs g' o hpin
 ·by_cases hq:i=id
  ·subst hq
   simp [hlt] at hL
   obtain⟨rfl,rfl,rfl⟩:=hL
   exact⟨us,rest,elem,lo,hi,by simp [Mem.put,hC.at_],Z0e.mono M _ _ hc,by simpa [Mem.put] using hlen,by simpa [Mem.put] using hf⟩
  ·rw [List.getElem?_set_ne (fun h=>hq h.symm)] at hL
   simp [Mem.put,hq] at hcap
   obtain⟨us',rest',elem',lo',hi',h1,h2,h3,h4⟩:=hW.rows _ _ _ _ hL hcap
   have hl:Own m L i:=.inl ⟨_,_,_,hL,hcap⟩
   refine⟨us',rest',elem',lo',hi',?_,Z0e.mono M _ _ h2,?_,?_⟩
   ·simp only [Mem.put,hq,if_false]; rw [hC.other _ (hgne i hl hq) (hW.blk_lt hl)]; exact h1
   ·simpa [Mem.put,hq] using h3
   ·simpa [Mem.put,hq] using h4
 ·by_cases hq:i=id
  ·simp [Mem.put,hq] at hcap; exact absurd hcap hc0
  ·rw [List.getElem?_set_ne (fun h=>hq h.symm)] at hL
   simp [Mem.put,hq] at hcap
   exact hW.nils _ _ _ _ hL hcap
 ·have hi:i≠id:=by intro h; subst h; simp [hlt] at hL
  rw [List.getElem?_set_ne (fun h=>hi h.symm)] at hL
  have hl:Own m L i:=.inr ⟨_,hL⟩
  simp only [Mem.put,hi,if_false]; rw [hC.other _ (hgne i hl hi) (hW.blk_lt hl)]; exact hW.iters _ _ hL
 ·rcases hlive i hi with ⟨h1,h2⟩ | ⟨h1,h2,h3⟩ <;> rcases hlive j hj with ⟨k1,k2⟩ | ⟨k1,k2,k3⟩
  ·omega
  ·exact absurd (by omega) (hgne j k2 k1)
  ·exact absurd (by omega) (hgne i h2 h1)
  ·exact hW.inj i j h2 k2 (by omega)
 ·rcases hlive i hl with ⟨h1,h2⟩ | ⟨h1,h2,h3⟩
  ·rw [h2]; exact hpin0
  ·rw [h3]; exact hW.freeo i h2
 ·refine hC.other g' ?_ hg'
  intro h; subst h
  rcases hg with ⟨hg,hcap⟩ | hg
  ·exact hne id (.inl ⟨_,_,_,h0,hcap⟩) hg.symm
  ·omega
 ·rcases hlive i hl with ⟨h1,h2⟩ | ⟨h1,h2,h3⟩
  ·rw [h2]
   rcases hg with ⟨hg,hcap⟩ | hg
   ·exact .inl ⟨by rw [h1]; exact .inl ⟨_,_,_,h0,hcap⟩,by rw [h1]; exact hg⟩
   ·exact .inr hg
  ·exact .inl ⟨h2,h3⟩
theorem Ze3(hW:Z0O m L w){id:Nat}{cs0:List AV}{sz ver:Nat}(h0:L[id]?=some (.row cs0 sz ver))(hcap:m.cap id=0)(g:Nat) :
  Z0O (m.put id g 0) (L.set id (.row [] sz (ver+1))) w∧Ext m L w (m.put id g 0) (L.set id (.row [] sz (ver+1))) w:=by
 have hlt:id<L.length:=(List.getElem?_eq_some_iff.1 h0).1
 have M:Z4G m L (m.put id g 0) (L.set id (.row [] sz (ver+1))):=Z89 h0 (.inr rfl)
 have hlive:∀i,Own (m.put id g 0) (L.set id (.row [] sz (ver+1))) i→i≠id∧Own m L i∧(m.put id g 0).blk i=m.blk i:=by
  intro i hi
  by_cases hii:i=id
  ·subst hii
   rcases hi with ⟨_,_,_,_,h⟩ | ⟨_,h⟩
   ·simp [Mem.put] at h
   ·simp [hlt] at h
  ·exact⟨hii,ZbQ hi hii,by simp [Mem.put,hii]⟩
 have hbs:∀i T e l,(L.set id (.row [] sz (ver+1)))[i]?=some (.raw (.bld T e l))→L[i]?=some (.raw (.bld T e l))∧(m.put id g 0).blk i=m.blk i∧(m.put id g 0).cap i=m.cap i:=by
  intro i T e l hL
  have hi:i≠id:=by intro h; subst h; simp [hlt] at hL
  rw [List.getElem?_set_ne (fun h=>hi h.symm)] at hL
  exact⟨hL,by simp [Mem.put,hi],by simp [Mem.put,hi]⟩
 have hHid:Z3S (m.put id g 0) (L.set id (.row [] sz (ver+1))) w:=by
  refine hW.hid.keep hbs (fun _ _ _ _ _ _=>rfl) (fun _ _ _=>rfl) (fun i g' k=>hW.hid.free i g' k) (fun i g' k j hj=>?_)
  obtain⟨h1,h2,h3⟩:=hlive j hj
  rw [h3]; exact hW.hid.own i g' k j h2
 refine⟨⟨hW.glob,hW.pobjs,fun i cs' sz' v hL hcap'=>?_,fun i cs' sz' v hL hcap'=>?_,fun i r hL=>?_,fun i j hi hj he=>?_,fun i hl=>?_,hHid⟩,⟨fun _ _ _ _=>rfl,Nat.le_refl _,fun _ _=>rfl,fun i hl=>?_,by simp,M,Z9h.refl w,fun i g' ⟨T,e,l,k1,k2⟩=>.inl ⟨T,e,l,(hbs _ _ _ _ k1).1,by rw [←(hbs _ _ _ _ k1).2.2]; exact k2⟩⟩⟩
 ·have hq:i≠id:=by intro h; simp [Mem.put,h] at hcap'
  rw [List.getElem?_set_ne (fun h=>hq h.symm)] at hL
  simp [Mem.put,hq] at hcap'
  obtain⟨us',rest',elem',lo',hi',h1,h2,h3,h4⟩:=hW.rows _ _ _ _ hL hcap'
  exact⟨us',rest',elem',lo',hi',by simpa [Mem.put,hq] using h1,Z0e.mono M _ _ h2,by simpa [Mem.put,hq] using h3,by simpa [Mem.put,hq] using h4⟩
 ·by_cases hq:i=id
  ·subst hq; simp [hlt] at hL; exact hL.1
  ·rw [List.getElem?_set_ne (fun h=>hq h.symm)] at hL
   simp [Mem.put,hq] at hcap'
   exact hW.nils _ _ _ _ hL hcap'
 ·have hi:i≠id:=by intro h; subst h; simp [hlt] at hL
  rw [List.getElem?_set_ne (fun h=>hi h.symm)] at hL
  simp only [Mem.put,hi,if_false]; exact hW.iters _ _ hL
 ·obtain⟨h1,h2,h3⟩:=hlive i hi
  obtain⟨k1,k2,k3⟩:=hlive j hj
  exact hW.inj i j h2 k2 (by omega)
 ·obtain⟨h1,h2,h3⟩:=hlive i hl
  rw [h3]; exact hW.freeo i h2
 ·obtain⟨h1,h2,h3⟩:=hlive i hl
  exact .inl ⟨h2,h3⟩
theorem Z7c{w':World}(hW:Z0O m L w){id:Nat}{r r0:Raw}{ob:Obj}(h0:L[id]?=some (.raw r0))(hC:Chg w w' (m.blk id) ob)(hr:Z4X (m.blk id) r ob)(hnb:∀T e l,r≠.bld T e l:=by (intro _ _ _ h; cases h; done)) :
  Z0O m (L.set id (.raw r)) w'∧Ext m L w m (L.set id (.raw r)) w':=by
 have hlt:id<L.length:=(List.getElem?_eq_some_iff.1 h0).1
 have hlive0:Own m L id:=.inr ⟨_,h0⟩
 have M:Z4G m L m (L.set id (.raw r)):=by
  refine⟨fun _ _ h=>h,fun i cs' sz' v hL=>?_,fun i r' hL=>?_⟩
  ·have hi:i≠id:=by intro h; subst h; rw [h0] at hL; simp at hL
   exact⟨cs',v,by rw [List.getElem?_set_ne (fun h=>hi h.symm)]; exact hL,Nat.le_refl _,fun _=>⟨rfl,rfl,rfl⟩⟩
  ·by_cases hi:i=id
   ·subst hi; exact⟨r,by simp [hlt],rfl⟩
   ·exact⟨r',by rw [List.getElem?_set_ne (fun h=>hi h.symm)]; exact hL,rfl⟩
 have hlive:∀i,Own m (L.set id (.raw r)) i→Own m L i:=by
  intro i hi
  by_cases hii:i=id
  ·rw [hii]; exact hlive0
  ·unfold Own at *
   rwa [List.getElem?_set_ne (fun h=>hii h.symm)] at hi
 have hgne:∀i,Own m L i→i≠id→m.blk i≠m.blk id:=fun i hi hne he=>hne (hW.inj i id hi hlive0 he)
 have hbs:∀(i:Nat) T e l,(L.set id (Z0L.raw r))[i]?=some (.raw (.bld T e l))→L[i]?=some (.raw (.bld T e l)):=by
  intro i T e l hL
  have hi:i≠id:=by
   intro h; subst h; simp [hlt] at hL; exact hnb _ _ _ hL
  rwa [List.getElem?_set_ne (fun h=>hi h.symm)] at hL
 have hHid:Z3S m (L.set id (.raw r)) w':=by
  refine hW.hid.keep (fun i T e l k=>⟨hbs i T e l k,rfl,rfl⟩) (fun i T e l k k'=>?_) (fun i g' k=>hC.other g' (fun e=>hW.hid.own i g' k id hlive0 e.symm) (hW.hid.lt k)) (fun i g' k=>hW.hid.free i g' k) (fun i g' k j hj=>hW.hid.own i g' k j (hlive j hj))
  have hi:i≠id:=by
   intro h; subst h; simp [hlt] at k'; exact hnb _ _ _ k'
  exact hC.other _ (hgne i (.inr ⟨_,k⟩) hi) (hW.blk_lt (.inr ⟨_,k⟩))
 refine⟨⟨hW.glob,fun g' o hpin=>?_,fun i cs' sz' v hL hcap=>?_,fun i cs' sz' v hL hcap=>?_,fun i r' hL=>?_,fun i j hi hj he=>hW.inj i j (hlive i hi) (hlive j hj) he,fun i hl=>hW.freeo i (hlive i hl),hHid⟩,⟨fun g' hg' hne _=>hC.other g' (fun h=>hne id hlive0 h.symm) hg',hC.size,fun _ _=>rfl,fun i hl=>.inl ⟨hlive i hl,rfl⟩,by simp,M,hC.same,fun i g' ⟨T,e,l,k1,k2⟩=>.inl ⟨T,e,l,hbs _ _ _ _ k1,k2⟩⟩⟩
 ·have hne:g'≠m.blk id:=by
   intro h; subst h
   rw [hW.freeo id hlive0] at hpin; cases hpin
  rw [hC.other g' hne (hW.pobj_lt hpin)]; exact hW.pobjs g' o hpin
 ·have hi:i≠id:=by intro h; subst h; simp [hlt] at hL
  rw [List.getElem?_set_ne (fun h=>hi h.symm)] at hL
  obtain⟨us',rest',elem',lo',hi',h1,h2,h3,h4⟩:=hW.rows _ _ _ _ hL hcap
  have hl:Own m L i:=.inl ⟨_,_,_,hL,hcap⟩
  exact⟨us',rest',elem',lo',hi',by rw [hC.other _ (hgne i hl hi) (hW.blk_lt hl)]; exact h1,Z0e.mono M _ _ h2,h3,h4⟩
 ·have hi:i≠id:=by intro h; subst h; simp [hlt] at hL
  rw [List.getElem?_set_ne (fun h=>hi h.symm)] at hL
  exact hW.nils _ _ _ _ hL hcap
 ·by_cases hi:i=id
  ·subst hi
   simp [hlt] at hL
   subst hL
   exact⟨ob,hC.at_,hr⟩
  ·rw [List.getElem?_set_ne (fun h=>hi h.symm)] at hL
   have hl:Own m L i:=.inr ⟨_,hL⟩
   rw [hC.other _ (hgne i hl hi) (hW.blk_lt hl)]; exact hW.iters _ _ hL
end
end Go.Eng