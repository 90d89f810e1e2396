/- The engine, part 14: a contract at a small heap serves a caller's heap in which those objects lie. -/
import Derived.Test.YtmomhjmaanagaaaGreatEng11
set_option linter.unusedVariables false
set_option linter.unusedSimpArgs false
namespace Go.Eng
open Go Go.RowKit
def Z6p(ids:List Nat)(n j:Nat):Nat:=if j<ids.length then ids.getD j 0 else n+(j - ids.length)
def Z2D:List Nat→List Z0L→Heap→Heap
 | id::ids,o::os,L=>Z2D ids os (L.set id o)
 | _,_,L=>L
def Z84(ids:List Nat)(L N:Heap):Heap:=Z2D ids ((N.take ids.length).map (Z1C (Z6p ids L.length))) L++(N.drop ids.length).map (Z1C (Z6p ids L.length))
theorem Z1y:∀(ids:List Nat) (os:List Z0L) (L:Heap),(Z2D ids os L).length=L.length
 | [],_,_=>by simp [Z2D]
 | _::_,[],_=>by simp [Z2D]
 | id::ids,o::os,L=>by simp [Z2D,Z1y ids os]
theorem Z54:∀(ids:List Nat) (os:List Z0L) (L:Heap) (i:Nat),i∉ids→(Z2D ids os L)[i]?=L[i]?
 | [],_,_,_,_=>by simp [Z2D]
 | _::_,[],_,_,_=>by simp [Z2D]
 | id::ids,o::os,L,i,h=>by
  simp only [List.mem_cons,not_or] at h
  simp only [Z2D]
  rw [Z54 ids os _ i h.2,List.getElem?_set_ne (Ne.symm h.1)]
theorem Z6M:∀(ids:List Nat) (os:List Z0L) (L:Heap) (j:Nat),ids.Nodup→ids.length=os.length→(∀i∈ids,i<L.length)→∀id,ids[j]?=some id→(Z2D ids os L)[id]?=os[j]?
 | [],_,_,_,_,_,_,_,h=>by simp at h
 | _::_,[],_,_,_,h,_,_,_=>by simp at h
 | i::ids,o::os,L,0,hn,hl,hb,id,h=>by
  simp at h; subst h
  simp only [Z2D]
  rw [Z54 _ _ _ _ (List.nodup_cons.1 hn).1]
  simp [hb i (by simp)]
 | i::ids,o::os,L,j+1,hn,hl,hb,id,h=>by
  simp only [Z2D]
  simp only [List.getElem?_cons_succ] at h ⊢
  exact Z6M ids os _ j (List.nodup_cons.1 hn).2 (by simpa using hl) (fun x hx=>by simpa using hb x (by simp [hx])) id h
section
variable {m mb:Mem} {L L0:Heap} {w:World} {ids:List Nat}
structure Z9i(m mb:Mem)(L L0:Heap)(ids:List Nat):Prop where
 nodup:ids.Nodup
 obj:(ids.map fun i=>L[i]?)=L0.map fun o=>some (Z1C (fun j=>ids.getD j j) o)
 blk:∀j,j<ids.length→mb.blk j=m.blk (ids.getD j 0)
 cap:∀j,j<ids.length→mb.cap j=m.cap (ids.getD j 0)
 pobj:∀g o,m.pobj g=some o→mb.pobj g=some o
theorem Z9i.len(H:Z9i m mb L L0 ids):ids.length=L0.length:=by simpa using congrArg List.length H.obj
theorem Z9i.at(H:Z9i m mb L L0 ids){j:Nat}{o:Z0L}(h:L0[j]?=some o):j<ids.length∧L[ids.getD j 0]?=some (Z1C (fun j=>ids.getD j j) o):=by
 have hlt:j<ids.length:=by rw [H.len]; exact (List.getElem?_eq_some_iff.1 h).1
 have:=congrArg (·[j]?) H.obj
 simp only [List.getElem?_map,h,Option.map_some] at this
 have hid:ids[j]?=some (ids.getD j 0):=by simp [List.getD,hlt]
 rw [hid] at this
 exact⟨hlt,by simpa using this⟩
theorem Z9i.back(H:Z9i m mb L L0 ids){j:Nat}(hj:j<ids.length):∃o,L0[j]?=some o∧L[ids.getD j 0]?=some (Z1C (fun j=>ids.getD j j) o):=by
 have hlt:j<L0.length:=by rw [←H.len]; exact hj
 exact⟨L0[j],by simp,(H.at (by simp)).2⟩
theorem Z9i.bound(H:Z9i m mb L L0 ids):∀i∈ids,i<L.length:=by
 intro i hi
 obtain⟨j,hj,rfl⟩:=List.mem_iff_getElem.1 hi
 obtain⟨o,_,h2⟩:=H.back hj
 have e:ids.getD j 0=ids[j]:=by simp [List.getD,hj]
 rw [e] at h2
 exact (List.getElem?_eq_some_iff.1 h2).1
theorem Z9i.own(H:Z9i m mb L L0 ids){j:Nat}(h:Own mb L0 j):j<ids.length∧Own m L (ids.getD j 0)∧mb.blk j=m.blk (ids.getD j 0):=by
 rcases h with ⟨cs,sz,ver,hL,hc⟩ | ⟨r,hL⟩
 ·obtain⟨h1,h2⟩:=H.at hL
  exact⟨h1,.inl ⟨_,_,_,h2,by rw [←H.cap j h1]; exact hc⟩,H.blk j h1⟩
 ·obtain⟨h1,h2⟩:=H.at hL
  exact⟨h1,.inr ⟨_,h2⟩,H.blk j h1⟩
theorem Z9i.hid(H:Z9i m mb L L0 ids){j g:Nat}(h:Hid mb L0 j g):j<ids.length∧Hid m L (ids.getD j 0) g:=by
 obtain⟨T,e,l,hL,hc⟩:=h
 obtain⟨h1,h2⟩:=H.at hL
 exact⟨h1,T,e,l,h2,by rw [←H.cap j h1]; exact hc⟩
theorem Z1F{j:Nat}(h:j<ids.length):ids.getD j 0∈ids:=by simp [List.getD,h]
theorem Z4Q(hn:ids.Nodup){i j:Nat}(hi:i<ids.length)(hj:j<ids.length)(he:ids.getD i 0=ids.getD j 0):i=j:=by
 simp only [List.getD,List.getElem?_eq_getElem hi,List.getElem?_eq_getElem hj,Option.getD_some] at he
 have hp:=List.pairwise_iff_getElem.1 hn
 rcases Nat.lt_trichotomy i j with h | h | h
 ·exact absurd he (hp i j hi hj h)
 ·exact h
 ·exact absurd he.symm (hp j i hj hi h)
theorem Zf6(hn:ids.Nodup){j:Nat}(hj:j<ids.length):ids.idxOf (ids.getD j 0)=j:=by
 have h1:ids.idxOf (ids.getD j 0)<ids.length:=List.idxOf_lt_length_of_mem (Z1F hj)
 refine Z4Q hn h1 hj ?_
 have:ids[ids.idxOf (ids.getD j 0)]=ids.getD j 0:=List.getElem_idxOf h1
 rw [List.getD_eq_getElem?_getD (l:=ids) (i:=ids.idxOf (ids.getD j 0)),List.getElem?_eq_getElem h1,Option.getD_some]
 exact this
set_option maxHeartbeats 1000000 in
theorem Z6P(hW:Z0O m L w)(H:Z9i m mb L L0 ids)(borrowed:Bool)(hb:borrowed=false→mb.pobj=m.pobj){res:AV}{N:Heap}{e:Ending}{w':World}(h:ZdT mb L0 w res N e w')
  (hfree:borrowed=true→Z3I res=true∧N.all Z4g=true):ZdT m L w (ren (Z6p ids L.length) res) (Z84 ids L N) e w':=by
 obtain⟨v,m',rfl,hv,hW',hE⟩:=h
 have hlen:=H.len
 have hNlen:ids.length≤N.length:=by rw [hlen]; exact hE.len
 have hold:∀g,g<w.heap.size→(∀id,id∈ids→Own m L id→m.blk id≠g)→(∀id,id∈ids→¬Hid m L id g)→w'.heap[g]?=w.heap[g]?:=fun g hg hno hnh=>hE.frame g hg (fun j hj=>by
  obtain⟨h1,h2,h3⟩:=H.own hj
  rw [h3]; exact hno _ (Z1F h1) h2) (fun j hj=>hnh _ (Z1F (H.hid hj).1) (H.hid hj).2)
 obtain⟨ρ,hρ⟩:∃ρ,ρ=Z6p ids L.length:=⟨_,rfl⟩
 have hρ1:∀j,j<ids.length→ρ j=ids.getD j 0:=fun j hj=>by rw [hρ]; simp [Z6p,hj]
 have hρ2:∀j,ids.length≤j→ρ j=L.length+(j - ids.length):=fun j hj=>by rw [hρ]; simp [Z6p,show ¬j<ids.length by omega]
 have hPL:Z84 ids L N=Z2D ids ((N.take ids.length).map (Z1C ρ)) L++(N.drop ids.length).map (Z1C ρ):=by rw [hρ]; rfl
 rw [←hρ,hPL]
 obtain⟨R,hR⟩:∃R,R=Z2D ids ((N.take ids.length).map (Z1C ρ)) L++(N.drop ids.length).map (Z1C ρ):=⟨_,rfl⟩
 have hol:ids.length=((N.take ids.length).map (Z1C ρ)).length:=by simp; omega
 have hRold:∀i,i<L.length→i∉ids→R[i]?=L[i]?:=fun i hi hn=>by
  rw [hR,List.getElem?_append_left (by rw [Z1y]; exact hi),Z54 _ _ _ _ hn]
 have hRids:∀j,j<ids.length→R[ids.getD j 0]?=(N[j]?).map (Z1C ρ):=fun j hj=>by
  have hlt:=H.bound _ (Z1F hj)
  rw [hR,List.getElem?_append_left (by rw [Z1y]; exact hlt),Z6M _ _ _ j H.nodup hol H.bound _ (by simp [List.getD,hj])]
  simp [List.getElem?_take,hj]
 have hRnew:∀j,ids.length≤j→R[L.length+(j - ids.length)]?=(N[j]?).map (Z1C ρ):=fun j hj=>by
  rw [hR,List.getElem?_append_right (by rw [Z1y]; omega),Z1y]
  simp only [List.getElem?_map,List.getElem?_drop]
  congr 2; omega
 have hRlen:L.length≤R.length:=by rw [hR,List.length_append,Z1y]; omega
 have hRend:R.length=L.length+(N.length - ids.length):=by rw [hR,List.length_append,Z1y]; simp
 have hRρ:∀j,j<N.length→R[ρ j]?=(N[j]?).map (Z1C ρ):=fun j hj=>by
  by_cases hj':j<ids.length
  ·rw [hρ1 j hj']; exact hRids j hj'
  ·rw [hρ2 j (by omega)]; exact hRnew j (by omega)
 rw [←hR]
 obtain⟨m2,hm2⟩:∃m2:Mem,m2={ pobj:=fun g=>if g<w.heap.size then m.pobj g else m'.pobj g,blk:=fun i=>if i<L.length then (if i∈ids then m'.blk (ids.idxOf i) else m.blk i) else m'.blk (i - L.length+ids.length),cap:=fun i=>if i<L.length then (if i∈ids then m'.cap (ids.idxOf i) else m.cap i) else m'.cap (i - L.length+ids.length) }:=⟨_,rfl⟩
 have hpin2:∀g,m2.pobj g=if g<w.heap.size then m.pobj g else m'.pobj g:=fun g=>by rw [hm2]
 have hold1:∀i,i<L.length→i∉ids→m2.blk i=m.blk i∧m2.cap i=m.cap i:=fun i hi hn=>by rw [hm2]; simp [hi,hn]
 have hnew1:∀j,m2.blk (ρ j)=m'.blk j∧m2.cap (ρ j)=m'.cap j:=fun j=>by
  by_cases hj:j<ids.length
  ·have hlt:=H.bound _ (Z1F hj)
   rw [hρ1 j hj,hm2]
   simp only [hlt,if_true,Z1F hj,Zf6 H.nodup hj,and_self]
  ·rw [hρ2 j (by omega),hm2]
   simp only [show ¬L.length+(j - ids.length)<L.length by omega,if_false,show L.length+(j - ids.length) - L.length+ids.length=j by omega,and_self]
 obtain⟨m3,hm3⟩:∃m3:Mem,m3={ m' with pobj:=m2.pobj }:=⟨_,rfl⟩
 have heq:borrowed=false→m3=m':=by
  intro hbf
  have hmb:=hb hbf
  rw [hm3]
  have:m2.pobj=m'.pobj:=by
   funext g
   rw [hpin2]
   split
   ·rename_i hg; have:=hE.newobj g hg; rw [this,hmb]
   ·rfl
  rw [this]
 have hb3:m3.blk=m'.blk:=by rw [hm3]
 have hc3:m3.cap=m'.cap:=by rw [hm3]
 have hp3:m3.pobj=m2.pobj:=by rw [hm3]
 have hv3:Z05 m3 N res v:=by
  cases hbr:borrowed with
  | false=>rw [heq hbr]; exact hv
  | true=>exact Z5l hb3 hc3 (hfree hbr).1 hv
 have hrow3:∀(id:Nat) (cs:List AV) (sz ver:Nat) (us:List Value),N[id]?=some (Z0L.row cs sz ver)→Z0e m' N cs us→Z0e m3 N cs us:=by
  intro id cs sz ver us hN hcr
  cases hbr:borrowed with
  | false=>rw [heq hbr]; exact hcr
  | true=>
   have:=(hfree hbr).2
   rw [List.all_eq_true] at this
   exact Z1K hb3 hc3 _ _ (this _ (List.mem_of_getElem? hN)) hcr
 have HL:Laid m3 N ρ m2 R:=by
  refine⟨fun g o h=>by rw [←hp3]; exact h,fun j o ho=>⟨?_,?_,?_⟩⟩
  ·rw [hRρ j (List.getElem?_eq_some_iff.1 ho).1,ho]; rfl
  ·rw [(hnew1 j).1,hb3]
  ·rw [(hnew1 j).2,hc3]
 have hinv:∀i∈ids,∃j,j<ids.length∧i=ids.getD j 0:=fun i hi=>by
  obtain⟨j,hj,rfl⟩:=List.mem_iff_getElem.1 hi
  exact⟨j,hj,by simp [List.getD,hj]⟩
 have HM:Z4G m L m2 R:=by
  refine⟨fun g o h=>by rw [hpin2,if_pos (hW.pobj_lt h)]; exact h,fun id cs sz ver hL=>?_,fun id r hL=>?_⟩
  ·have hlt:=(List.getElem?_eq_some_iff.1 hL).1
   by_cases hin:id∈ids
   ·obtain⟨j,hj,rfl⟩:=hinv id hin
    obtain⟨o,ho,h2⟩:=H.back hj
    rw [hL] at h2
    cases o <;> simp only [Z1C,reduceCtorEq,Option.some.injEq,Z0L.row.injEq] at h2
    obtain⟨rfl,rfl,rfl⟩:=h2
    obtain⟨cs',ver',k1,k2,k3⟩:=hE.mono.row _ _ _ _ ho
    refine⟨Z2l ρ cs',ver',by rw [hRids j hj,k1]; rfl,k2,fun e=>?_⟩
    obtain⟨q1,q2,q3⟩:=k3 e
    rw [Z2A,Z2A,List.length_map,List.length_map]
    have:=hnew1 j
    rw [hρ1 j hj] at this
    exact⟨q1,by rw [this.1,q2,H.blk j hj],by rw [this.2,q3,H.cap j hj]⟩
   ·exact⟨cs,ver,by rw [hRold id hlt hin]; exact hL,Nat.le_refl _,fun _=>⟨rfl,hold1 id hlt hin⟩⟩
  ·have hlt:=(List.getElem?_eq_some_iff.1 hL).1
   by_cases hin:id∈ids
   ·obtain⟨j,hj,rfl⟩:=hinv id hin
    obtain⟨o,ho,h2⟩:=H.back hj
    rw [hL] at h2
    cases o <;> simp only [Z1C,reduceCtorEq,Option.some.injEq,Z0L.raw.injEq] at h2
    subst h2
    obtain⟨r',k1,k2⟩:=hE.mono.iter _ _ ho
    have:=hnew1 j
    rw [hρ1 j hj] at this
    exact⟨r',by rw [hRids j hj,k1]; rfl,by rw [this.1,k2,H.blk j hj]⟩
   ·exact⟨r,by rw [hRold id hlt hin]; exact hL,(hold1 id hlt hin).1⟩
 have hcase:∀{id:Nat} {o:Z0L},R[id]?=some o→(id<L.length∧id∉ids∧L[id]?=some o)∨(∃j o',id=ρ j∧N[j]?=some o'∧o=Z1C ρ o'):=by
  intro id o ho
  by_cases hlt:id<L.length
  ·by_cases hin:id∈ids
   ·obtain⟨j,hj,rfl⟩:=hinv id hin
    rw [hRids j hj,Option.map_eq_some_iff] at ho
    obtain⟨o',h1,h2⟩:=ho
    exact .inr ⟨j,o',(hρ1 j hj).symm,h1,h2.symm⟩
   ·rw [hRold id hlt hin] at ho; exact .inl ⟨hlt,hin,ho⟩
  ·have hidx:=(List.getElem?_eq_some_iff.1 ho).1
   have e:id=L.length+(id - L.length+ids.length - ids.length):=by omega
   rw [e,hRnew _ (by omega),Option.map_eq_some_iff] at ho
   obtain⟨o',h1,h2⟩:=ho
   exact .inr ⟨id - L.length+ids.length,o',by rw [hρ2 _ (by omega)]; omega,h1,h2.symm⟩
 have hown:∀{id:Nat},Own m2 R id→(id∉ids∧Own m L id∧m2.blk id=m.blk id∧m.blk id<w.heap.size)∨(∃j,id=ρ j∧Own m' N j∧m2.blk id=m'.blk j):=by
  intro id ho
  rcases ho with ⟨cs,sz,ver,hL,hc⟩ | ⟨r,hL⟩
  ·rcases hcase hL with ⟨hlt,hin,h1⟩ | ⟨j,o',rfl,h1,h2⟩
   ·have ho:Own m L id:=.inl ⟨_,_,_,h1,by rw [←(hold1 id hlt hin).2]; exact hc⟩
    exact .inl ⟨hin,ho,(hold1 id hlt hin).1,hW.blk_lt ho⟩
   ·cases o' <;> simp only [Z1C,reduceCtorEq,Z0L.row.injEq] at h2
    exact .inr ⟨j,rfl,.inl ⟨_,_,_,h1,by rw [←(hnew1 j).2]; exact hc⟩,(hnew1 j).1⟩
  ·rcases hcase hL with ⟨hlt,hin,h1⟩ | ⟨j,o',rfl,h1,h2⟩
   ·have ho:Own m L id:=.inr ⟨_,h1⟩
    exact .inl ⟨hin,ho,(hold1 id hlt hin).1,hW.blk_lt ho⟩
   ·cases o' <;> simp only [Z1C,reduceCtorEq,Z0L.raw.injEq] at h2
    exact .inr ⟨j,rfl,.inr ⟨_,h1⟩,(hnew1 j).1⟩
 have hwhere:∀j,Own m' N j→(j<ids.length∧Own m L (ids.getD j 0)∧m'.blk j=m.blk (ids.getD j 0))∨w.heap.size≤m'.blk j:=fun j hj=>by
  rcases hE.blks j hj with ⟨h1,h2⟩ | h1
  ·obtain⟨k1,k2,k3⟩:=H.own h1
   exact .inl ⟨k1,k2,by rw [h2,k3]⟩
  ·exact .inr h1
 have hkeep:∀id,id∉ids→Own m L id→w'.heap[m.blk id]?=w.heap[m.blk id]?:=fun id hin ho=>hold _ (hW.blk_lt ho) (fun i hi hoi he=>hin (by have:=hW.inj i id hoi ho he; rw [←this]; exact hi)) (fun i hi hk=>hW.hid.own i _ hk id ho rfl)
 have hhid:∀{id g:Nat},Hid m2 R id g→(id∉ids∧Hid m L id g)∨(∃j,id=ρ j∧Hid m' N j g):=by
  rintro id g ⟨T,e,l,hL,hc⟩
  rcases hcase hL with ⟨hlt,hin,h1⟩ | ⟨j,o',rfl,h1,h2⟩
  ·exact .inl ⟨hin,T,e,l,h1,by rw [←(hold1 id hlt hin).2]; exact hc⟩
  ·cases o' <;> simp only [Z1C,reduceCtorEq,Z0L.raw.injEq] at h2
   subst h2
   exact .inr ⟨j,rfl,T,e,l,h1,by rw [←(hnew1 j).2]; exact hc⟩
 have hwhereH:∀j g,Hid m' N j g→(j<ids.length∧Hid m L (ids.getD j 0) g)∨w.heap.size≤g:=fun j g hj=>by
  rcases hE.hnew j g hj with h1 | h1
  ·exact .inl (H.hid h1)
  ·exact .inr h1
 have hHid:Z3S m2 R w':=by
  refine⟨fun id T e l hL=>?_,fun id g k=>?_,fun id g k j hj=>?_,fun i j g k1 k2=>?_⟩
  ·rcases hcase hL with ⟨hlt,hin,h1⟩ | ⟨j,o',rfl,h1,h2⟩
   ·rw [(hold1 id hlt hin).1,(hold1 id hlt hin).2]
    refine (hW.hid.at_ _ _ _ _ h1).same (hkeep id hin (.inr ⟨_,h1⟩)) fun g hc=>?_
    have hk:Hid m L id g:=⟨_,_,_,h1,hc⟩
    exact hold g (hW.hid.lt hk) (fun i hi ho he=>hW.hid.own id g hk i ho he) (fun i hi hk'=>hin (by have:=hW.hid.inj i id g hk' hk; rw [←this]; exact hi))
   ·cases o' <;> simp only [Z1C,reduceCtorEq,Z0L.raw.injEq] at h2
    subst h2
    rw [(hnew1 j).1,(hnew1 j).2]; exact hW'.hid.at_ _ _ _ _ h1
  ·rw [hpin2]
   rcases hhid k with ⟨hin,q⟩ | ⟨j,rfl,q⟩
   ·rw [if_pos (hW.hid.lt q)]; exact hW.hid.free _ _ q
   ·split
    ·rcases hwhereH j g q with ⟨q1,q2⟩ | q1
     ·exact hW.hid.free _ _ q2
     ·omega
    ·exact hW'.hid.free _ _ q
  ·rcases hown hj with ⟨h0,h1,h2,h3⟩ | ⟨i',rfl,h1,h2⟩ <;> rcases hhid k with ⟨hin,q⟩ | ⟨j',rfl,q⟩
   ·rw [h2]; exact hW.hid.own _ _ q _ h1
   ·rcases hwhereH j' g q with ⟨q1,q2⟩ | q1
    ·rw [h2]; exact hW.hid.own _ _ q2 _ h1
    ·omega
   ·rcases hwhere i' h1 with ⟨q1,q2,q3⟩ | q1
    ·rw [h2,q3]; exact hW.hid.own _ _ q _ q2
    ·have:=hW.hid.lt q; omega
   ·rw [h2]; exact hW'.hid.own _ _ q _ h1
  ·rcases hhid k1 with ⟨n1,a1⟩ | ⟨i',rfl,a1⟩ <;> rcases hhid k2 with ⟨n2,a2⟩ | ⟨j',rfl,a2⟩
   ·exact hW.hid.inj _ _ _ a1 a2
   ·rcases hwhereH j' g a2 with ⟨q1,q2⟩ | q1
    ·exact absurd (by have:=hW.hid.inj _ _ _ a1 q2; rw [this]; exact Z1F q1) n1
    ·have:=hW.hid.lt a1; omega
   ·rcases hwhereH i' g a1 with ⟨q1,q2⟩ | q1
    ·exact absurd (by have:=hW.hid.inj _ _ _ a2 q2; rw [this]; exact Z1F q1) n2
    ·have:=hW.hid.lt a2; omega
   ·rw [hW'.hid.inj _ _ _ a1 a2]
 refine⟨v,m2,rfl,Z05.laid HL _ _ hv3,⟨hW.glob.mono fun g o h=>by rw [hpin2,if_pos (hW.pobj_lt h)]; exact h,fun g o hp=>?_,fun id cs sz ver hL hc=>?_,fun id cs sz ver hL hc=>?_,fun id r hL=>?_,fun i j hi hj he=>?_,fun id ho=>?_,hHid⟩,
  ⟨fun g hg hno hnh=>hold g hg (fun id _ ho=>hno id ho) (fun id _=>hnh id),hE.size,fun g hg=>by rw [hpin2,if_pos hg],fun id ho=>?_,hRlen,HM,hE.same,fun id g k=>?_⟩⟩
 ·rw [hpin2] at hp
  split at hp
  ·rename_i hg
   have hfr:w'.heap[g]?=w.heap[g]?:=hold g hg (fun id _ ho he=>by
    have:=hW.freeo id ho
    rw [he,hp] at this; cases this) (fun id _ hk=>by
    have:=hW.hid.free id g hk
    rw [hp] at this; cases this)
   rw [hfr]; exact hW.pobjs g o hp
  ·exact hW'.pobjs g o hp
 ·rcases hcase hL with ⟨hlt,hin,h1⟩ | ⟨j,o',rfl,h1,h2⟩
  ·rw [(hold1 id hlt hin).2] at hc ⊢
   obtain⟨us,rest,elem,lo,hi,k1,k2,k3,k4⟩:=hW.rows _ _ _ _ h1 hc
   exact⟨us,rest,elem,lo,hi,by rw [(hold1 id hlt hin).1,hkeep id hin (.inl ⟨_,_,_,h1,hc⟩)]; exact k1,Z0e.mono HM _ _ k2,k3,k4⟩
  ·cases o' <;> simp only [Z1C,reduceCtorEq,Z0L.row.injEq] at h2
   obtain⟨rfl,rfl,rfl⟩:=h2
   rw [(hnew1 j).2] at hc ⊢
   obtain⟨us,rest,elem,lo,hi,k1,k2,k3,k4⟩:=hW'.rows _ _ _ _ h1 hc
   exact⟨us,rest,elem,lo,hi,by rw [(hnew1 j).1]; exact k1,Z0e.laid HL _ _ (hrow3 _ _ _ _ _ h1 k2),k3,k4⟩
 ·rcases hcase hL with ⟨hlt,hin,h1⟩ | ⟨j,o',rfl,h1,h2⟩
  ·rw [(hold1 id hlt hin).2] at hc; exact hW.nils _ _ _ _ h1 hc
  ·cases o' <;> simp only [Z1C,reduceCtorEq,Z0L.row.injEq] at h2
   obtain⟨rfl,rfl,rfl⟩:=h2
   rw [(hnew1 j).2] at hc
   rw [hW'.nils _ _ _ _ h1 hc]; rfl
 ·rcases hcase hL with ⟨hlt,hin,h1⟩ | ⟨j,o',rfl,h1,h2⟩
  ·rw [(hold1 id hlt hin).1,hkeep id hin (.inr ⟨_,h1⟩)]; exact hW.iters _ _ h1
  ·cases o' <;> simp only [Z1C,reduceCtorEq,Z0L.raw.injEq] at h2
   subst h2
   rw [(hnew1 j).1]; exact hW'.iters _ _ h1
 ·rcases hown hi with ⟨h0,h1,h2,h3⟩ | ⟨i',rfl,h1,h2⟩ <;> rcases hown hj with ⟨k0,k1,k2,k3⟩ | ⟨j',rfl,k1,k2⟩
  ·exact hW.inj i j h1 k1 (by omega)
  ·rcases hwhere j' k1 with ⟨q1,q2,q3⟩ | q1
   ·exact absurd (by have:=hW.inj i _ h1 q2 (by omega); rw [this]; exact Z1F q1) h0
   ·omega
  ·rcases hwhere i' h1 with ⟨q1,q2,q3⟩ | q1
   ·exact absurd (by have:=hW.inj j _ k1 q2 (by omega); rw [this]; exact Z1F q1) k0
   ·omega
  ·rw [hW'.inj i' j' h1 k1 (by omega)]
 ·rw [hpin2]
  rcases hown ho with ⟨h0,h1,h2,h3⟩ | ⟨j,rfl,h1,h2⟩
  ·rw [h2,if_pos h3]; exact hW.freeo id h1
  ·rw [h2]
   split
   ·rename_i hg
    rcases hwhere j h1 with ⟨q1,q2,q3⟩ | q1
    ·rw [q3]; exact hW.freeo _ q2
    ·omega
   ·exact hW'.freeo j h1
 ·rcases hown ho with ⟨h0,h1,h2,h3⟩ | ⟨j,rfl,h1,h2⟩
  ·exact .inl ⟨h1,h2⟩
  ·rcases hwhere j h1 with ⟨q1,q2,q3⟩ | q1
   ·exact .inl ⟨by rw [hρ1 j q1]; exact q2,by rw [h2,q3,hρ1 j q1]⟩
   ·exact .inr (by omega)
 ·rcases hhid k with ⟨_,q⟩ | ⟨j,rfl,q⟩
  ·exact .inl q
  ·rcases hwhereH j g q with ⟨q1,q2⟩ | q1
   ·exact .inl (by rw [hρ1 j q1]; exact q2)
   ·exact .inr q1
end
def Z3L(ids:List Nat)(i:Nat):Bool:=ids.contains i
def Z49(L:Heap)(ids:List Nat):AV→AV:=Z1b L (Z3L ids) (d3 L (Z3L ids))
def ZeZ(L:Heap)(ids:List Nat):AV→Prop:=Z1z L (Z3L ids) (l3 L (Z3L ids))
def Z4q(L:Heap)(ids:List Nat):AV→Bool:=Z4n L (Z3L ids) (b3 L (Z3L ids))
structure ZfA where
 ids:List AV→List Nat
 args:List AV→Heap→List AV
 start:List AV→Heap→Heap
 pre:List AV→Heap→Prop
 res:List AV→Heap→AV
 post:List AV→Heap→Heap
def liftG(g:ZfA):Z0n where
 pre xs L:=(∀x∈xs,ZeZ L (g.ids xs) x)∧(g.ids xs).Nodup∧xs.map (Z49 L (g.ids xs))=Z2l (fun j=>(g.ids xs).getD j j) (g.args xs L)∧
  ((g.ids xs).map fun i=>L[i]?)=((g.start xs L).map fun o=>some (Z1C (fun j=>(g.ids xs).getD j j) o))∧Z0Z (g.start xs L).length (g.args xs L)=true∧(g.start xs L).all (Z2H (g.start xs L).length)=true∧
  g.pre (g.args xs L) (g.start xs L)∧(xs.any (Z4q L (g.ids xs))=true→Z3I (g.res (g.args xs L) (g.start xs L))=true∧(g.post (g.args xs L) (g.start xs L)).all Z4g=true)
 res xs L:=ren (Z6p (g.ids xs) L.length) (g.res (g.args xs L) (g.start xs L))
 post xs L:=Z84 (g.ids xs) L (g.post (g.args xs L) (g.start xs L))
 quiet:=false
section
variable {P:Program} {Γ:Env}
theorem Z0d:∀xs:List AV,leF xs xs
 | []=>trivial
 | x::xs=>by
  have h:=Z0d xs
  cases x <;> first | exact h | exact⟨rfl,h⟩
open Classical in
theorem Con.liftG{f:FuncId} (hfn:∃fn,P.funcs[f]?=some fn∧fn.body.isNone=false∧(fn.name == "runtime.NumGoroutine")=false) {g:ZfA}
  (h:∀(m:Mem) (L:Heap) (w:World) (xs:List AV) (vs:List Value),Z0O m L w→Z0e m L xs vs→g.pre xs L→Calls P f vs.toArray w (ZdT m L w (g.res xs L) (g.post xs L))):Con P f (Eng.liftG g) where
 quiet hq:=by cases hq
 runs:=.inl ⟨hfn,fun m L w xs vs hW hx hp=>by
  obtain⟨h1,h2,h3,h4,h5,h6,h7,h8⟩:=hp
  obtain⟨ids,hids⟩:∃ids,ids=g.ids xs:=⟨_,rfl⟩
  rw [←hids] at h1 h2 h3 h4 h8
  obtain⟨mp,hmp⟩:∃mp:Mem,mp=if xs.any (Z4q L ids)=true then { m with pobj:=fun g=>if (∃i∈ids,Own m L i∧m.blk i=g)∨(∃i∈ids,Hid m L i g) then none else w.heap[g]? } else m:=⟨_,rfl⟩
  have hpin:∀g o,m.pobj g=some o→mp.pobj g=some o:=by
   intro g o hv
   rw [hmp]
   split
   ·simp only
    rw [if_neg]
    ·exact hW.pobjs _ _ hv
    ·rintro (⟨i,hi,ho,rfl⟩ | ⟨i,hi,hk⟩)
     ·have:=hW.freeo i ho
      rw [hv] at this; cases this
     ·have:=hW.hid.free i _ hk
      rw [hv] at this; cases this
   ·exact hv
  have hblk:mp.blk=m.blk∧mp.cap=m.cap:=by rw [hmp]; split <;> exact⟨rfl,rfl⟩
  have hpins:∀g o,mp.pobj g=some o→w.heap[g]?=some o:=by
   intro g o hv
   rw [hmp] at hv
   split at hv
   ·simp only at hv
    split at hv
    ·cases hv
    ·exact hv
   ·exact hW.pobjs _ _ hv
  have hfree:∀i∈ids,Own m L i→mp.pobj (m.blk i)=none:=by
   intro i hi ho
   rw [hmp]
   split
   ·simp only
    rw [if_pos (.inl ⟨i,hi,ho,rfl⟩)]
   ·exact hW.freeo i ho
  have M:Z4G m L mp L:=⟨hpin,fun id cs sz ver h=>⟨cs,ver,h,Nat.le_refl _,fun _=>⟨rfl,by rw [hblk.1],by rw [hblk.2]⟩⟩,fun id r h=>⟨r,h,by rw [hblk.1]⟩⟩
  have hx':Z0e mp L (xs.map (Z49 L ids)) vs:=(ZjI hW M (keep:=Z3L ids) (full:=xs.any (Z4q L ids)=true) fun hf g hno hnh=>by
   rw [hmp,if_pos hf]
   simp only
   rw [if_neg]
   rintro (⟨i,hi,ho,he⟩ | ⟨i,hi,hk⟩)
   ·exact hno i (by simp [Z3L,hi]) ho he
   ·exact hnh i (by simp [Z3L,hi]) hk).list hx h1 (fun h=>h)
  have hw:ZdS 0 ids (xs.map (Z49 L ids)) L (g.args xs L) (g.start xs L):=⟨by rw [h3]; exact Z0d _,h4,h2,rfl,h5,h6⟩
  have H:=hw.renamed mp
  have hc0:=Z0e.ren H _ _ (by rw [←h3]; exact hx') h5
  obtain⟨mb,hmb⟩:∃mb:Mem,mb={ mp with blk:=fun i=>mp.blk (ids.getD i i),cap:=fun i=>mp.cap (ids.getD i i) }:=⟨_,rfl⟩
  rw [←hmb] at H hc0
  have hgd:∀j,j<ids.length→ids.getD j j=ids.getD j 0:=fun j hj=>by simp [List.getD,hj]
  have HL:Z9i m mb L (g.start xs L) ids:=⟨h2,h4,fun j hj=>by rw [hmb]; simp only [hblk.1,hgd j hj],fun j hj=>by rw [hmb]; simp only [hblk.2,hgd j hj],fun g o hv=>by rw [hmb]; exact hpin g o hv⟩
  have hfreeH:∀i∈ids,∀g,Hid m L i g→mp.pobj g=none:=by
   intro i hi g hk
   rw [hmp]
   split
   ·simp only
    rw [if_pos (.inr ⟨i,hi,hk⟩)]
   ·exact hW.hid.free i g hk
  have hW0:Z0O mb (g.start xs L) w:=by
   have hs':∀o∈g.start xs L,Z2H (g.start xs L).length o=true:=by simpa [List.all_eq_true] using h6
   refine⟨hW.glob.mono fun g o hv=>by rw [hmb]; exact hpin g o hv,fun g o hv=>hpins g o (by rw [hmb] at hv; exact hv),fun j cs sz ver hL hc=>?_,fun j cs sz ver hL hc=>?_,fun j r hL=>?_,fun i j hi hj he=>?_,fun j ho=>?_,⟨fun j T e l hL=>?_,fun j g k=>?_,fun j g k i hi=>?_,fun i j g k1 k2=>?_⟩⟩
   ·obtain⟨k1,k2⟩:=HL.at hL
    rw [HL.cap j k1] at hc ⊢
    obtain⟨us,rest,elem,lo,hi,q1,q2,q3,q4⟩:=hW.rows _ _ _ _ k2 hc
    have hscp:=hs' _ (List.mem_of_getElem? hL)
    exact⟨us,rest,elem,lo,hi,by rw [HL.blk j k1]; exact q1,Z0e.ren H _ _ (Z0e.mono M _ _ q2) (by simpa [Z2H] using hscp),q3,q4⟩
   ·obtain⟨k1,k2⟩:=HL.at hL
    rw [HL.cap j k1] at hc
    have:=hW.nils _ _ _ _ k2 hc
    rw [Z2A] at this
    simpa using this
   ·obtain⟨k1,k2⟩:=HL.at hL
    rw [HL.blk j k1]; exact hW.iters _ _ k2
   ·obtain⟨a1,a2,a3⟩:=HL.own hi
    obtain⟨b1,b2,b3⟩:=HL.own hj
    exact Z4Q h2 a1 b1 (hW.inj _ _ a2 b2 (by omega))
   ·obtain⟨a1,a2,a3⟩:=HL.own ho
    rw [a3,hmb]
    exact hfree _ (Z1F a1) a2
   ·obtain⟨k1,k2⟩:=HL.at hL
    rw [HL.blk j k1,HL.cap j k1]; exact hW.hid.at_ _ _ _ _ k2
   ·obtain⟨a1,a2⟩:=HL.hid k
    rw [hmb]; exact hfreeH _ (Z1F a1) g a2
   ·obtain⟨a1,a2⟩:=HL.hid k
    obtain⟨b1,b2,b3⟩:=HL.own hi
    rw [b3]; exact hW.hid.own _ _ a2 _ b2
   ·obtain⟨a1,a2⟩:=HL.hid k1
    obtain⟨b1,b2⟩:=HL.hid k2
    exact Z4Q h2 a1 b1 (hW.hid.inj _ _ _ a2 b2)
  have:=(h mb (g.start xs L) w (g.args xs L) vs hW0 hc0 h7).mono fun e w' hpost=>Z6P hW HL (xs.any (Z4q L ids)) (fun hf=>by rw [hmb,hmp,hf]; rfl) hpost h8
  rw [hids] at this
  exact this⟩
theorem Con.liftG_of_body(hΓ:Z07 P Γ){f:FuncId}{fn:Func}(hf:P.funcs[f]?=some fn)(hb:fn.body.isNone=false) (hn:(fn.name == "runtime.NumGoroutine")=false) {g:ZfA}
  (h:∀xs L,g.pre xs L→Z0a P Γ fn xs L (g.res xs L) (g.post xs L)):Con P f (Eng.liftG g):=
 Con.liftG ⟨fn,hf,hb,hn⟩ fun m L w xs vs hW hx hp=>Z2k hΓ hf (h xs L hp) hW hx
end
end Go.Eng