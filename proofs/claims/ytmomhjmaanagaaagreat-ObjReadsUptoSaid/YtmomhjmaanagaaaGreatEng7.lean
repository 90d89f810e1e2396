/- The engine, part 7: conversions and append are sound. -/
import Derived.Test.YtmomhjmaanagaaaGreatEng6
set_option linter.unusedVariables false
set_option linter.unusedSimpArgs false
namespace Go.Eng
open Go
section
variable {P:Program} {m:Mem} {L:Heap} {w:World}
theorem Z1s(a:Addr):(loadCells a 0).run P w=.ok #[] w:=by simp [loadCells,loadCellsFrom]
theorem Z8s(a:Option Addr)(cap:Nat):(Conv.bytesToString (.slice a 0 cap)).run P w=.ok (.string ⟨#[]⟩) w:=by
 cases a with
 | none=>simp [Conv.bytesToString]; rfl
 | some a=>simp [Conv.bytesToString,Z1s]; rfl
theorem Z9L(need old:Nat)(e:TypeId)(t:Nat)(h:need<2 ^ 63):need≤(Question.appendCap need old e).cut t:=by
 simp [Question.cut]
theorem Z7R(hW:Z0O m L w)(e:TypeId)(l:List UInt8)(hl:l.length<9223372036854775808):∃(w':World) (c:Nat),(Conv.stringToBytes e ⟨l.toArray⟩).run P w=.ok (.slice (some ⟨w.heap.size,0,none⟩) l.length c) w'∧l.length≤c∧
  Z0O (m.put L.length w.heap.size c) (L++[.row (l.map Z03) 1 0]) w'∧Ext m L w (m.put L.length w.heap.size c) (L++[.row (l.map Z03) 1 0]) w':=by
 obtain⟨c,hc⟩:∃c,c=(Question.appendCap l.length 0 e).cut (w.tape w.drawn (.appendCap l.length 0 e)):=⟨_,rfl⟩
 have hle:l.length≤c:=by rw [hc]; exact Z9L _ _ _ _ (by omega)
 have hsz:(⟨l.toArray⟩:ByteArray).size=l.length:=Z8u l
 have hch:(choose (.appendCap (⟨l.toArray⟩:ByteArray).size 0 e)).run P w=.ok c w.drew:=by
  rw [hsz,run_choose,hc]; rfl
 obtain⟨us,hus⟩:∃us:List Value,us=l.map fun b=>Value.int .u8 b.toNat:=⟨_,rfl⟩
 obtain⟨rest,hrest⟩:∃r:List Value,r=List.replicate (c - l.length) (.int .u8 0):=⟨_,rfl⟩
 have hlen:us.length+rest.length=c:=by simp [hus,hrest]; omega
 obtain⟨w',hw'⟩:∃w':World,w'=(w.drew.alloc (.cells (us++rest).toArray e)).freeze ⟨w.heap.size,c,none⟩ 1:=⟨_,rfl⟩
 have hP:Z1x w w' (.cells (us++rest).toArray e (c,c+1)):=by
  have hh:w'.heap=(w.heap.push (.cells (us++rest).toArray e)).modify w.heap.size (fun | .cells c' elem (lo,hi)=>.cells c' elem (if lo == hi then (c,c+1) else (min lo c,max hi (c+1))) | o=>o):=by
   rw [hw',World.freeze,if_neg (by decide)]; rfl
  refine⟨?_,?_⟩
  case refine_2=>rw [hw',World.freeze,if_neg (by decide)]; exact⟨rfl,rfl,rfl⟩
  rw [hh]
  apply Array.ext_getElem?
  intro i
  simp only [Array.getElem?_modify,Array.getElem?_push]
  by_cases hi:i=w.heap.size
  ·subst hi; simp
  ·simp [hi,Ne.symm hi]
 have hcr:Z0e m L (l.map Z03) us:=by
  rw [hus]
  refine Z0e.mk (by simp) fun j x u hx hu=>?_
  simp only [List.getElem?_map,Option.map_eq_some_iff] at hx hu
  obtain⟨b,hb,rfl⟩:=hx
  obtain⟨b',hb',rfl⟩:=hu
  rw [hb] at hb'
  obtain rfl:=Option.some.inj hb'
  simp [Z03,Z05]
 refine⟨w',c,?_,hle,Z3G (sz:=1) (c:=c) hW hP hcr (by omega) (.inr (by omega)),Z2j _ _ hP.keep⟩
 rw [hsz] at hch
 have ha:((⟨l.toArray⟩:ByteArray).data.map (fun b=>Value.int .u8 b.toNat)++Array.replicate (c - l.length) (Value.int .u8 0))=(us++rest).toArray:=by
  rw [hus,hrest]; simp
 have hms:(markStringish ⟨w.drew.heap.size,0,none⟩).run P (w.drew.alloc (.cells (us++rest).toArray e))=.ok () w':=by
  have hsh:(w.drew.alloc (.cells (us++rest).toArray e)).shape? w.drew.heap.size=some (e,c):=by
   show (match (w.heap.push (Obj.cells (us++rest).toArray e))[w.heap.size]? with | some (.cells c elem _)=>some (elem,c.size) | _=>none)=_
   simp [hlen]
  rw [hw']
  simp only [markStringish,Sem.run_bind,run_shape,Result.andThen_ok,hsh,run_freeze]
  rfl
 simp only [Conv.stringToBytes,Sem.run_bind,hsz,hch,Result.andThen_ok,newRow,run_newObj,Sem.run_pure]
 rw [ha]
 simp only [World.alloc_eq]
 rw [hms]
 rfl
theorem Zex(m:Mem)(id:Nat):m.put id (m.blk id) (m.cap id)=m:=by
 unfold Mem.put
 congr 1
 ·funext i; split
  ·rename_i h; rw [h]
  ·rfl
 ·funext i; split
  ·rename_i h; rw [h]
  ·rfl
theorem Zi7{L:Heap}{id:Nat}{o:Z0L}(h:L[id]?=some o):L.set id o=L:=by
 apply List.ext_getElem?
 intro j
 rw [List.getElem?_set]
 split
 ·rename_i e; subst e
  split
  ·exact h.symm
  ·rw [List.getElem?_eq_none (by omega)]
 ·rfl
theorem ZdC(hW:Z0O m L w)(t e:TypeId)(ht:P.underlying t=some (.slice e))(he:P.underlying e=some (.int .u8)){id ver off n:Nat}{u:Value}(hx:Z05 m L (.msl id ver off n) u)(hn:0<n)(hf:Z1q L id ver)(hs1:Z1S L id=1) :
  ∃w',(convert t t u).run P w=.ok u w'∧Z0O m L w'∧Ext m L w m L w':=by
 obtain⟨cs,sz,hL,hr,hsz⟩:=Z0N hf
 have hsz1:sz=1:=by rw [←hsz,hs1]
 obtain⟨k1,k2,a,rfl,ha⟩:=Z1e hx hf
 have hcap:m.cap id≠0:=by omega
 have ha':a=some ⟨m.blk id,off*sz,none⟩:=by
  rcases ha with ha | ha
  ·omega
  ·rw [ha,hsz]
 subst ha'
 obtain⟨us,rest,elem,lo,hi,hb,hc,hl,hfz⟩:=hW.rows _ _ _ _ hL hcap
 obtain⟨N,hN⟩:∃N,N=(us++rest).toArray.size:=⟨_,rfl⟩
 have hNl:N=m.cap id*sz:=by rw [hN]; simp; omega
 obtain⟨w',hw'⟩:∃w':World,w'=w.freeze ⟨m.blk id,N,none⟩ 1:=⟨_,rfl⟩
 have hh:w'.heap=w.heap.modify (m.blk id) (fun | .cells c' elem (lo,hi)=>.cells c' elem (if lo == hi then (N,N+1) else (min lo N,max hi (N+1))) | o=>o):=by
  rw [hw',World.freeze,if_neg (by decide)]; rfl
 have hC:Chg w w' (m.blk id) (.cells (us++rest).toArray elem (if lo == hi then (N,N+1) else (min lo N,max hi (N+1)))):=by
  refine⟨?_,fun g' hg _=>?_,?_,?_⟩
  ·rw [hh,Array.getElem?_modify,if_pos rfl,hb]; rfl
  ·rw [hh,Array.getElem?_modify,if_neg (Ne.symm hg)]
  ·rw [hh]; simp
  ·rw [hw',World.freeze,if_neg (by decide)]; exact⟨rfl,rfl,rfl⟩
 obtain⟨lo',hi',hlh⟩:∃lo' hi',(if lo == hi then (N,N+1) else (min lo N,max hi (N+1)))=(lo',hi'):=⟨_,_,rfl⟩
 rw [hlh] at hC
 have hf':hi'=lo'∨(m.cap id*sz≤lo'∧sz=1):=by
  right
  by_cases hlo:lo=hi
  ·subst hlo; simp at hlh; omega
  ·have:(lo == hi)=false:=by simpa using hlo
   rw [this] at hlh
   simp at hlh
   rcases hfz with hfz | hfz
   ·exact absurd hfz.symm hlo
   ·omega
 obtain⟨t1,t2⟩:=Z3A hW hL (cs:=cs) (ver':=ver) (g:=m.blk id) (c:=m.cap id) (.inl ⟨rfl,hcap⟩) hC hc hl hf' hcap (.inl ⟨rfl,rfl,rfl,rfl⟩)
 rw [Zex,Zi7 hL] at t1 t2
 refine⟨w',?_,t1,t2⟩
 have hsh:w.shape? (m.blk id)=some (elem,N):=by simp [World.shape?,hb,hN]
 simp [convert,Z01 ht,Z01 he,markStringish,hsh,hw']
theorem Zay(hW:Z0O m L w)(src dst:TypeId){X:AV}{u:Value}(hx:Z05 m L X u):Z0l P m L w (ZdD P true L src dst X) (Z1B (convert src dst u)):=by
 unfold ZdD
 split
 ·rename_i k n
  simp only [Z05] at hx; subst hx
  split
  ·rename_i k' hd
   refine Z0l.pure hW fun hp=>?_
   obtain⟨d,hs⟩:=Option.isSome_iff_exists.1 hp
   refine⟨.int k' (k'.wrap n),?_,by simp [Z05]⟩
   simp [convert,Z01 hs,Z01 hd,Conv.intToInt]
  ·exact fun h=>h.elim
 ·rename_i l
  simp only [Z05] at hx; subst hx
  split
  ·rename_i hd
   refine Z0l.pure hW fun hp=>?_
   exact⟨.string ⟨l.toArray⟩,by simp [convert,Z01 hp,Z01 hd],by simp [Z05]⟩
  ·rename_i e hd
   intro hp
   obtain⟨-,hs,he,hl⟩:=hp
   obtain⟨w',c,hr,hle,h1,h2⟩:=Z7R (P:=P) hW e l hl
   refine⟨.value (.slice (some ⟨w.heap.size,0,none⟩) l.length c),w',_,?_,.inl ⟨_,rfl,Z61 _ _ _ _ _ (by simp) hle⟩,h1,h2⟩
   simp [Z1B,convert,Z01 hs,Z01 hd,Z01 he,hr]
  ·exact fun h=>h.elim
 ·rename_i cs n
  refine Z0l.pure hW fun hp=>?_
  obtain⟨hd,⟨e,hs,he⟩,hp⟩:=hp
  obtain⟨hb,hn⟩:=hp rfl
  simp only [Z05] at hx
  obtain⟨a,cap,rfl,hle,us,hc,hpin⟩:=hx
  refine⟨.string ⟨(Z0w cs).toArray⟩,?_,by simp [Z05]⟩
  have hr:(Conv.bytesToString (.slice a n cap)).run P w=.ok (.string ⟨(Z0w cs).toArray⟩) w:=by
   rcases hpin with rfl | ⟨g,o,rfl,hpin⟩
   ·have:=hc.length
    have hcs:cs=[]:=List.eq_nil_of_length_eq_zero (by rw [←this]; rfl)
    subst hcs
    simp at hn; subst hn
    rw [Z8s]; rfl
   ·have:=Z2Y (P:=P) (w:=w) (g:=g) (o:=o) hc hb (fun j v hj=>hW.pins _ _ _ (hpin j v hj)) cap
    rwa [hn] at this
  simp [convert,Z01 hs,Z01 hd,Z01 he,hr]
 ·rename_i id ver off n
  split
  ·rename_i e hd
   intro hp
   obtain⟨rfl,he,hp⟩:=hp
   obtain⟨hn,hf,hs1⟩:=hp rfl
   obtain⟨w',h1,h2,h3⟩:=ZdC (P:=P) hW src e hd he hx hn hf hs1
   exact⟨.value u,w',m,by simp [Z1B,h1],.inl ⟨_,rfl,hx⟩,h2,h3⟩
  ·refine Z0l.pure hW fun hp=>?_
   obtain⟨hd,⟨e,hs,he⟩,hp⟩:=hp
   obtain⟨hb,hsz1,hf⟩:=hp rfl
   obtain⟨cs,sz,hL,hr,hsz⟩:=Z0N hf
   obtain⟨k1,k2,a,rfl,ha⟩:=Z1e hx hf
   rw [hr] at hb ⊢
   rw [hsz1,hr] at k1
   rw [hsz1] at ha
   obtain⟨us,hc,hcell,_⟩:=Z2d hW hL
   refine⟨.string ⟨(Z0w ((cs.drop off).take n)).toArray⟩,?_,by simp [Z05]⟩
   have hln:((cs.drop off).take n).length=n:=by simp; omega
   have hr':(Conv.bytesToString (.slice a n (m.cap id - off))).run P w=.ok (.string ⟨(Z0w ((cs.drop off).take n)).toArray⟩) w:=by
    by_cases hn:n=0
    ·subst hn; rw [Z8s]; simp [Z0w]
    ·have ha':a=some ⟨m.blk id,off,none⟩:=by
      rcases ha with ha | ha
      ·omega
      ·simpa using ha
     subst ha'
     have:=Z2Y (P:=P) (w:=w) (g:=m.blk id) (o:=off) ((hc.drop off).take n) hb (fun j v hj=>by
      rw [List.getElem?_take,List.getElem?_drop] at hj
      split at hj
      ·exact hcell _ _ hj
      ·cases hj) (m.cap id - off)
     rwa [hln] at this
   simp [convert,Z01 hs,Z01 hd,Z01 he,hr']
 ·rename_i n c
  simp only [Z05] at hx; subst hx
  refine Z0l.pure hW fun hp=>?_
  obtain⟨hd,e,hs,he⟩:=hp
  refine⟨.string ⟨#[]⟩,?_,by simp [Z05]⟩
  simp [convert,Z01 hs,Z01 hd,Z01 he,Conv.bytesToString]
  rfl
 ·exact fun h=>h.elim
theorem Z5S(hW:Z0O m L w){X:AV}{u:Value}{sz:Nat}(hx:Z05 m L X u)(ho:Z3T L sz X):∃vs,Z0e m L (Z0B L sz X) vs∧vs.length=Z0p X*sz∧
  ∀w':World,w'.heap=w.heap→(Builtin.lenOf u).run P w'=.ok (Z0p X) w'∧(Builtin.firstCells sz (Z0p X) u).run P w'=.ok vs.toArray w':=by
 cases X <;> try exact ho.elim
 case str l=>
  simp only [Z05] at hx; subst hx
  simp only [Z3T] at ho; subst ho
  refine⟨l.map fun b=>Value.int .u8 b.toNat,?_,by simp [Z0p],fun w' _=>⟨by simp [Builtin.lenOf,Z8u,Z0p],?_⟩⟩
  ·simp only [Z0B]
   refine Z0e.mk (by simp) fun j x u hx hu=>?_
   simp only [List.getElem?_map,Option.map_eq_some_iff] at hx hu
   obtain⟨b,hb,rfl⟩:=hx
   obtain⟨b',hb',rfl⟩:=hu
   rw [hb] at hb'
   obtain rfl:=Option.some.inj hb'
   simp [Z03,Z05]
  ·have e:((⟨l.toArray⟩:ByteArray).extract 0 l.length).data=l.toArray:=by simp
   simp [Builtin.firstCells,Z0p,e]
 case lit v=>
  simp only [Z05] at hx; subst hx
  have hv:u=.slice none 0 0:=by
   unfold Z3T at ho
   split at ho <;> first | exact ho.elim | simp_all
  subst hv
  exact⟨[],by simp [Z0B,Z0e],by simp [Z0p],fun w' _=>⟨by simp [Builtin.lenOf,Z0p],by simp [Builtin.firstCells]⟩⟩
 case sl cs n=>
  simp only [Z05] at hx
  obtain⟨a,cap,rfl,hle,us,hc,hpin⟩:=hx
  simp only [Z3T] at ho
  have hl:=hc.length
  refine⟨us,by simpa [Z0B] using hc,by simp only [Z0p]; omega,fun w' hw'=>⟨by simp [Builtin.lenOf,Z0p],?_⟩⟩
  simp only [Z0p]
  rcases hpin with rfl | ⟨g,o,rfl,hpin⟩
  ·have hz:n*sz=0:=by simp at hl; omega
   cases a with
   | none=>simp [Builtin.firstCells]
   | some a=>simp only [Builtin.firstCells]; rw [hz]; exact Z1s a
  ·have:=Z16 (P:=P) (w:=w') g o us (n*sz) (by omega) (fun j v hj=>by have:=hW.pins _ _ _ (hpin j v hj); simpa [World.cell?,hw'] using this)
   simp only [Builtin.firstCells]
   rw [this,List.take_of_length_le (by omega)]
 case msl id ver off n=>
  simp only [Z3T] at ho
  obtain⟨hf,hs⟩:=ho
  obtain⟨cs,sz',hL,hr,hsz⟩:=Z0N hf
  obtain⟨k1,k2,a,rfl,ha⟩:=Z1e hx hf
  rw [hs,hr] at k1
  rw [hs] at ha
  obtain⟨us,hc,hcell,_⟩:=Z2d hW hL
  have hl:=hc.length
  rw [Nat.add_mul] at k1
  have hln:((us.drop (off*sz)).take (n*sz)).length=n*sz:=by simp; omega
  refine⟨(us.drop (off*sz)).take (n*sz),by simp only [Z0B,hr]; exact (hc.drop _).take _,by simp only [Z0p]; exact hln,fun w' hw'=>⟨by simp [Builtin.lenOf,Z0p],?_⟩⟩
  simp only [Z0p]
  rcases ha with ha | ha
  ·have hn:n=0:=by omega
   subst hn
   cases a with
   | none=>simp [Builtin.firstCells]
   | some a=>simp only [Builtin.firstCells,Nat.zero_mul]; rw [Z1s]; simp
  ·subst ha
   have:=Z16 (P:=P) (w:=w') (m.blk id) (off*sz) (us.drop (off*sz)) (n*sz) (by simp; omega) (fun j v hj=>by rw [List.getElem?_drop] at hj; have:=hcell _ _ hj; simpa [World.cell?,hw'] using this)
   simp only [Builtin.firstCells]
   exact this
theorem Z7V{α:Type}{l:List α}{i:Nat}{x:α}(h:l[i]?=some x):l.set i x=l:=by
 apply List.ext_getElem?
 intro j
 rw [List.getElem?_set]
 split
 ·rename_i e
  subst e
  have:=(List.getElem?_eq_some_iff.1 h).1
  rw [if_pos this,h]
 ·rfl
theorem ZaY(hW:Z0O m L w){X:AV}{u:Value}{sz:Nat}(hx:Z05 m L X u)(ho:Z3T L sz X):∃vs,Z0e m L (Z0B L sz X) vs∧vs.length=Z0p X*sz∧
  (Builtin.lenOf u).run P w=.ok (Z0p X) w∧∀q,q≤Z0p X→(Builtin.firstCells sz q u).run P w=.ok (vs.take (q*sz)).toArray w:=by
 cases X <;> try exact ho.elim
 case str l=>
  simp only [Z05] at hx; subst hx
  simp only [Z3T] at ho; subst ho
  refine⟨l.map fun b=>Value.int .u8 b.toNat,?_,by simp [Z0p],by simp [Builtin.lenOf,Z8u,Z0p],fun q hq=>?_⟩
  ·simp only [Z0B]
   refine Z0e.mk (by simp) fun j x u hx hu=>?_
   simp only [List.getElem?_map,Option.map_eq_some_iff] at hx hu
   obtain⟨b,hb,rfl⟩:=hx
   obtain⟨b',hb',rfl⟩:=hu
   rw [hb] at hb'
   obtain rfl:=Option.some.inj hb'
   simp [Z03,Z05]
  ·simp only [Z0p] at hq
   have e:((⟨l.toArray⟩:ByteArray).extract 0 q).data=(l.take q).toArray:=by simp
   simp [Builtin.firstCells,e,List.map_take]
 case lit v=>
  simp only [Z05] at hx; subst hx
  have hv:u=.slice none 0 0:=by
   unfold Z3T at ho
   split at ho <;> first | exact ho.elim | simp_all
  subst hv
  exact⟨[],by simp [Z0B,Z0e],by simp [Z0p],by simp [Builtin.lenOf,Z0p],fun q hq=>by simp [Builtin.firstCells]⟩
 case sl cs n=>
  simp only [Z05] at hx
  obtain⟨a,cap,rfl,hle,us,hc,hpin⟩:=hx
  simp only [Z3T] at ho
  have hl:=hc.length
  refine⟨us,by simpa [Z0B] using hc,by simp only [Z0p]; omega,by simp [Builtin.lenOf,Z0p],fun q hq=>?_⟩
  simp only [Z0p] at hq
  have hqn:q*sz≤n*sz:=Nat.mul_le_mul_right _ hq
  rcases hpin with rfl | ⟨g,o,rfl,hpin⟩
  ·have hz:q*sz=0:=by simp at hl; omega
   cases a with
   | none=>simp [Builtin.firstCells]
   | some a=>simp only [Builtin.firstCells]; rw [hz]; exact Z1s a
  ·have:=Z16 (P:=P) (w:=w) g o us (q*sz) (by omega) (fun j v hj=>hW.pins _ _ _ (hpin j v hj))
   simp only [Builtin.firstCells]
   exact this
 case msl id ver off n=>
  simp only [Z3T] at ho
  obtain⟨hf,hs⟩:=ho
  obtain⟨cs,sz',hL,hr,hsz⟩:=Z0N hf
  obtain⟨k1,k2,a,rfl,ha⟩:=Z1e hx hf
  rw [hs,hr] at k1
  rw [hs] at ha
  obtain⟨us,hc,hcell,_⟩:=Z2d hW hL
  have hl:=hc.length
  rw [Nat.add_mul] at k1
  have hln:((us.drop (off*sz)).take (n*sz)).length=n*sz:=by simp; omega
  refine⟨(us.drop (off*sz)).take (n*sz),by simp only [Z0B,hr]; exact (hc.drop _).take _,by simp only [Z0p]; exact hln,by simp [Builtin.lenOf,Z0p],fun q hq=>?_⟩
  simp only [Z0p] at hq
  have hqn:q*sz≤n*sz:=Nat.mul_le_mul_right _ hq
  rw [List.take_take,Nat.min_eq_left hqn]
  rcases ha with ha | ha
  ·have hn:q=0:=by omega
   subst hn
   cases a with
   | none=>simp [Builtin.firstCells]
   | some a=>simp only [Builtin.firstCells,Nat.zero_mul]; rw [Z1s]; simp
  ·subst ha
   have:=Z16 (P:=P) (w:=w) (m.blk id) (off*sz) (us.drop (off*sz)) (q*sz) (by simp; omega) (fun j v hj=>by rw [List.getElem?_drop] at hj; exact hcell _ _ hj)
   simp only [Builtin.firstCells]
   exact this
theorem Zax(hW:Z0O m L w)(t tx ty:TypeId){X Y:AV}{u v:Value}(hx:Z05 m L X u)(hy:Z05 m L Y v):Z0l P m L w (ZdB P true L t X Y) (Z1B (Builtin.copy_ #[t,tx] ty #[u,v])):=by
 unfold ZdB
 split
 ·rename_i e id ver off n hu
  intro hp
  obtain⟨-,hie,hpos,ho,hone,hf,hsz,hle⟩:=hp
  obtain⟨cs,sz,hL,hr,hsz'⟩:=Z0N hf
  obtain⟨k1,k2,a,rfl,ha⟩:=Z1e hx hf
  have he:sz=P.cellsOf e:=by rw [←hsz',hsz]
  subst he
  rw [hsz] at ha
  obtain⟨vs,hvc,hvl,hlen,hfirst⟩:=ZaY (P:=P) hW hy ho
  obtain⟨q,hq⟩:∃q,q=min (Z0p Y) n:=⟨_,rfl⟩
  have hq1:q≤Z0p Y:=by omega
  have hq2:q≤n:=by omega
  have hf1:=hfirst q hq1
  have hso:=Z0s (P:=P) (w:=w) hie
  have hqs:q*P.cellsOf e≤Z0p Y*P.cellsOf e:=Nat.mul_le_mul_right _ hq1
  have hqn:q*P.cellsOf e≤n*P.cellsOf e:=Nat.mul_le_mul_right _ hq2
  rw [hr,Nat.add_mul] at hle
  rw [←hq] at hone
  rw [hr,←hq]
  have hmin:Nat.min (Z0p Y) n=q:=hq.symm
  by_cases hcap:m.cap id=0
  ·have hcs:=hW.nils _ _ _ _ hL hcap
   have hn0:n=0:=by
    rw [hcs,List.length_nil] at hle
    rcases Nat.eq_zero_or_pos n with h | h
    ·exact h
    ·have:=Nat.mul_pos h hpos; omega
   have hq0:q=0:=by omega
   rw [hcs,hq0,Nat.zero_mul,List.take_zero]
   have e0:Z2m ([]:List AV) (off*P.cellsOf e) []=[]:=by simp [Z2m]
   rw [e0]
   have eL:L.set id (.row [] (P.cellsOf e) ver)=L:=by rw [←hcs]; exact Z7V hL
   rw [hq0] at hf1 hmin
   refine⟨.value (.int .i64 0),w,m,?_,.inl ⟨_,rfl,by simp [Z05]⟩,?_,?_⟩
   ·cases a with
    | none=>simp [Z1B,Builtin.copy_,Z01 hu,hlen,hmin,hso,hf1,goInt]
    | some b=>simp [Z1B,Builtin.copy_,Z01 hu,hlen,hmin,hso,hf1,goInt,storeCells]
   ·show Z0O m (L.set id (.row [] (P.cellsOf e) ver)) w
    rw [eL]; exact hW
   ·show Ext m L w m (L.set id (.row [] (P.cellsOf e) ver)) w
    rw [eL]; exact Ext.refl
  ·obtain⟨us,rest,elem,lo,hi',hb,hc,hlen2,hfz⟩:=hW.rows _ _ _ _ hL hcap
   have hul:=hc.length
   have hds:((Z0B L (P.cellsOf e) Y).take (q*P.cellsOf e)).length=q*P.cellsOf e:=by rw [List.length_take,←hvc.length,hvl]; omega
   have hvt:(vs.take (q*P.cellsOf e)).length=q*P.cellsOf e:=by rw [List.length_take,hvl]; omega
   have hvone:∀x∈vs.take (q*P.cellsOf e),x.oneCell'=true:=fun x hx=>Z2w (hvc.take _) hone x hx
   rcases Nat.eq_zero_or_pos q with hq0 | hq0
   ·have e0:Z2m cs (off*P.cellsOf e) ((Z0B L (P.cellsOf e) Y).take (q*P.cellsOf e))=cs:=by rw [hq0]; simp [Z2m]
    rw [e0]
    have eL:L.set id (.row cs (P.cellsOf e) ver)=L:=Z7V hL
    rw [hq0] at hf1 hmin
    refine⟨.value (.int .i64 (q:Int)),w,m,?_,.inl ⟨_,rfl,by simp [Z05]⟩,?_,?_⟩
    ·rw [hq0]
     cases a with
     | none=>simp [Z1B,Builtin.copy_,Z01 hu,hlen,hmin,hso,hf1,goInt]
     | some b=>simp [Z1B,Builtin.copy_,Z01 hu,hlen,hmin,hso,hf1,goInt,storeCells]
    ·show Z0O m (L.set id (.row cs (P.cellsOf e) ver)) w
     rw [eL]; exact hW
    ·show Ext m L w m (L.set id (.row cs (P.cellsOf e) ver)) w
     rw [eL]; exact Ext.refl
   have ha':a=some ⟨m.blk id,off*P.cellsOf e,none⟩:=by
    rcases ha with ha | ha
    ·omega
    ·exact ha
   subst ha'
   obtain⟨w',hrun,hC,hs⟩:=Z2c (P:=P) (m.blk id) (off*P.cellsOf e) (vs.take (q*P.cellsOf e)) 0 w (us++rest) elem lo hi' hb (by simp at *; omega) (fun j h1 h2=>by
    rw [hvt] at h2
    have:(off+n)*P.cellsOf e≤m.cap id*P.cellsOf e:=Nat.mul_le_mul_right _ k2
    rw [Nat.add_mul] at this
    rcases hfz with h | h <;> omega) hvone
   have e1:(us++rest).take (off*P.cellsOf e+0)++vs.take (q*P.cellsOf e)++(us++rest).drop (off*P.cellsOf e+0+(vs.take (q*P.cellsOf e)).length)=(us.take (off*P.cellsOf e)++vs.take (q*P.cellsOf e)++us.drop (off*P.cellsOf e+(vs.take (q*P.cellsOf e)).length))++rest:=by
    rw [Nat.add_zero,List.take_append_of_le_length (by omega),List.drop_append_of_le_length (by omega)]
    simp
   rw [e1] at hC
   have hsa:=Z2F cs (off*P.cellsOf e) ((Z0B L (P.cellsOf e) Y).take (q*P.cellsOf e)) us (vs.take (q*P.cellsOf e)) hc (hvc.take _)
   have hlen3:(us.take (off*P.cellsOf e)++vs.take (q*P.cellsOf e)++us.drop (off*P.cellsOf e+(vs.take (q*P.cellsOf e)).length)).length=us.length:=by
    rw [List.length_append,List.length_append,hvt,List.length_take,List.length_drop]; omega
   obtain⟨t1,t2⟩:=Z3A hW hL (cs:=Z2m cs (off*P.cellsOf e) ((Z0B L (P.cellsOf e) Y).take (q*P.cellsOf e))) (ver':=ver) (g:=m.blk id) (c:=m.cap id) (.inl ⟨rfl,hcap⟩) hC hsa (by rw [hlen3]; exact hlen2) hfz hcap
    (.inl ⟨rfl,by have:=hsa.length; omega,rfl,rfl⟩)
   refine⟨.value (.int .i64 (q:Int)),w',m.put id (m.blk id) (m.cap id),?_,.inl ⟨_,rfl,by simp [Z05]⟩,t1,t2⟩
   simp [Z1B,Builtin.copy_,Z01 hu,hlen,hmin,hso,hf1,goInt,hrun]
 ·exact fun h=>h.elim
theorem Zir(d:TypeDesc)(h:∀k,d≠.int k):(match d with | .int _=>true | _=>false)=false:=by
 cases d <;> first | rfl | exact absurd rfl (h _)
theorem Z2y(zs:Array Value)(n:Nat):(Builtin.zeroCells zs n).toList.length=n*zs.size:=by simp [Builtin.zeroCells]
theorem Z4o(t tx ty:TypeId){e:TypeId}(hu:P.underlying t=some (.slice e))(h1:∀k,P.underlying tx≠some (.int k))(h2:(P.underlying tx).isSome=true)(hz:Z1U P e)(hb:0<P.bytesOf e)
  (base:Option Addr) (n k c:Nat) (x:Value) (hlen:(Builtin.lenOf x).run P w=.ok k w) (hroom:(n+k)*P.bytesOf e≤140737488355328) {w':World} {v:Value}
  (hin:n+k≤c→∃news:Array Value,(Builtin.firstCells (P.cellsOf e) k x).run P w=.ok news w∧(∀a,base=some a→(storeCells (a.add (n*P.cellsOf e)) news.toList).run P w=.ok () w')∧(base=none→w'=w)∧v=.slice base (n+k) c)
  (hout:c<n+k→∃(z:Value) (olds news:Array Value),(zeroValue e).run P w.drew=.ok z w.drew∧(Builtin.firstCells (P.cellsOf e) n (.slice base n c)).run P w.drew=.ok olds w.drew∧(Builtin.firstCells (P.cellsOf e) k x).run P w.drew=.ok news w.drew∧
   w'=w.drew.alloc (.cells (olds++news++Builtin.zeroCells z.cells ((Question.appendCap (n+k) c e).cut (w.tape w.drawn (.appendCap (n+k) c e)) - (n+k))) e)∧
   v=.slice (some ⟨w.heap.size,0,none⟩) (n+k) ((Question.appendCap (n+k) c e).cut (w.tape w.drawn (.appendCap (n+k) c e)))) :
  (Builtin.append_ #[t,tx] ty #[.slice base n c,x]).run P w=.ok v w':=by
 have hi:(P.info? e).isSome=true:=by
  obtain⟨z,i,hi,_⟩:=Z1c (w:=w) hz; rw [hi]; rfl
 have hsz:=Z0s (P:=P) (w:=w) hi
 obtain⟨i,hie,hcs,hby⟩:=Z4L hi
 obtain⟨dx,hdx⟩:=Option.isSome_iff_exists.1 h2
 have hdx':∀k,dx≠.int k:=fun k h=>h1 k (by rw [hdx,h])
 have hmatch:=Zir dx hdx'
 by_cases hnk:n+k≤c
 ·obtain⟨news,hn1,hn2,hn3,rfl⟩:=hin hnk
  cases base with
  | none=>simp [Builtin.append_,Z01 hu,hsz,Z01 hdx,hmatch,hlen,hnk,hn1,hn3]
  | some a=>simp [Builtin.append_,Z01 hu,hsz,Z01 hdx,hmatch,hlen,hnk,hn1,hn2 a rfl]
 ·obtain⟨z,olds,news,hzr,ho1,ho2,rfl,rfl⟩:=hout (by omega)
  have hfits:=growslice_fits (need:=n+k) (old:=c) (bytes:=P.bytesOf e) (by omega) hroom
  have hb0:i.bytes≠0:=by rw [←hby]; omega
  have hti:(typeInfo e).run P w=.ok i w:=by simp [typeInfo,hie]
  have hti':(typeInfo e).run P w.drew=.ok i w.drew:=by simp [typeInfo,hie]
  have hsz':=Z0s (P:=P) (w:=w.drew) hi
  simp [Builtin.append_,Z01 hu,hsz,Z01 hdx,hmatch,hlen,hnk,hti,hti',hb0,←hby,show ¬281474976710656<Builtin.nextslicecap (n+k) c*P.bytesOf e by omega,Question.forced,hzr,ho1,ho2,newRow]
  intro _ h0; omega
theorem Z26{e:TypeId}(h:Z3w P e=true):Z1U P e∧(Z1u P e).cells.length=P.cellsOf e∧0<P.cellsOf e∧0<P.bytesOf e:=by
 simp only [Z3w,Bool.and_eq_true,beq_iff_eq,decide_eq_true_eq] at h
 exact h
theorem Z4v{t:TypeId}(h:Z6r P t=true):(∀k,P.underlying t≠some (.int k))∧(P.underlying t).isSome=true:=by
 unfold Z6r at h
 split at h
 ·cases h
 ·rename_i d hd hu
  rw [hu]
  exact⟨fun k hk=>hd k (Option.some.inj hk),rfl⟩
 ·cases h
theorem Z5A(hW:Z0O m L w)(t tx ty:TypeId){Y:AV}{v:Value}(hy:Z05 m L Y v){e:TypeId}(hu:P.underlying t=some (.slice e))(hek:Z3w P e=true)
  (htx:Z6r P tx=true) (ho:Z3T L (P.cellsOf e) Y)
  (hroom:Z0p Y*P.bytesOf e≤140737488355328) :
  ∃u w' m',(Builtin.append_ #[t,tx] ty #[.slice none 0 0,v]).run P w=.ok u w'∧Z05 m' (L++[.row (Z0B L (P.cellsOf e) Y) (P.cellsOf e) 0]) (.msl L.length 0 0 (Z0p Y)) u∧
   Z0O m' (L++[.row (Z0B L (P.cellsOf e) Y) (P.cellsOf e) 0]) w'∧Ext m L w m' (L++[.row (Z0B L (P.cellsOf e) Y) (P.cellsOf e) 0]) w':=by
 obtain⟨hz,hzl,hs,hb⟩:=Z26 hek
 obtain⟨h1,h2⟩:=Z4v htx
 obtain⟨vs,hvc,hvl,hrun⟩:=Z5S hW hy ho
 by_cases h0:Z0p Y=0
 ·have hcs:Z0B L (P.cellsOf e) Y=[]:=by
   have:=hvc.length; rw [h0] at hvl; simp at hvl; rw [hvl] at this; exact List.eq_nil_of_length_eq_zero this.symm
  rw [hcs,h0]
  refine⟨.slice none 0 0,w,m.put L.length w.heap.size 0,?_,?_,ZeA hW _,Z2j _ _ (Zgv.refl w)⟩
  ·have h:=Z4o (w:=w) (w':=w) (v:=.slice none (0+Z0p Y) 0) t tx ty hu h1 h2 hz hb none 0 (Z0p Y) 0 v (hrun w rfl).1 (by rw [Nat.zero_add]; exact hroom)
    (fun _=>⟨vs.toArray,(hrun w rfl).2,(fun a h=>by cases h),fun _=>rfl,rfl⟩) (fun h=>by omega)
   rw [h,h0]
  ·simp only [Z05]
   exact⟨[],P.cellsOf e,0,by simp,Nat.le_refl _,⟨_,_,_,rfl⟩,fun _=>⟨by simp,by simp,none,by simp [Mem.put],.inl (by simp [Mem.put])⟩⟩
 ·obtain⟨z,i,hi,hzi,hza,hzr⟩:=Z1c (w:=w.drew) hz
  obtain⟨c,hc⟩:∃c,c=(Question.appendCap (0+Z0p Y) 0 e).cut (w.tape w.drawn (.appendCap (0+Z0p Y) 0 e)):=⟨_,rfl⟩
  have hn:Z0p Y<2 ^ 63:=by
   have:Z0p Y*1≤Z0p Y*P.bytesOf e:=Nat.mul_le_mul_left _ hb
   omega
  have hle:Z0p Y≤c:=by rw [hc]; have:=Z9L (0+Z0p Y) 0 e (w.tape w.drawn (.appendCap (0+Z0p Y) 0 e)) (by omega); omega
  have hzs:z.cells.size=P.cellsOf e:=by
   have:=(Z1W (m:=m) (L:=L) z).length
   rw [←hza,hzl] at this
   simpa using this
  have hP:Z1x w (w.drew.alloc (.cells (#[]++vs.toArray++Builtin.zeroCells z.cells (c - (0+Z0p Y))) e)) (.cells (vs++(Builtin.zeroCells z.cells (c - (0+Z0p Y))).toList).toArray e (0,0)):=by
   have:(#[]++vs.toArray++Builtin.zeroCells z.cells (c - (0+Z0p Y)))=(vs++(Builtin.zeroCells z.cells (c - (0+Z0p Y))).toList).toArray:=by simp
   rw [this]; exact⟨rfl,rfl,rfl,rfl⟩
  have hlen:vs.length+(Builtin.zeroCells z.cells (c - (0+Z0p Y))).toList.length=c*P.cellsOf e:=by
   rw [Z2y,hvl,hzs,←Nat.add_mul]; congr 1; omega
  refine⟨.slice (some ⟨w.heap.size,0,none⟩) (0+Z0p Y) c,_,m.put L.length w.heap.size c,?_,?_,Z3G hW hP hvc hlen (.inl rfl),Z2j _ _ hP.keep⟩
  ·refine Z4o (w:=w) t tx ty hu h1 h2 hz hb none 0 (Z0p Y) 0 v (hrun w rfl).1 (by rw [Nat.zero_add]; exact hroom) (fun h=>by omega)
    (fun _=>⟨z,#[],vs.toArray,hzr,by simp [Builtin.firstCells],(hrun w.drew rfl).2,by rw [hc],by rw [hc]⟩)
  ·rw [Nat.zero_add]
   exact Z61 _ _ _ _ _ (by rw [←hvl,hvc.length]; exact Nat.le_refl _) hle
theorem Z4c(hW:Z0O m L w)(t tx ty:TypeId){x s:Value}{e:TypeId}(hek:Z3w P e=true){ds:List AV}{k:Nat}{vs:List Value}(hvc:Z0e m L ds vs)(hvl:vs.length=k*P.cellsOf e)(hone:Z0m ds=true){id ver n:Nat}(hf:Z1q L id ver)(hsz:Z1S L id=P.cellsOf e)(hx:Z05 m L (.msl id ver 0 n) s)
  (hfull:(Z0Q L id).length=n*P.cellsOf e) (hroom:(n+k)*P.bytesOf e≤140737488355328)
  (hrunA:∀(base:Option Addr) (c:Nat) (w':World) (v:Value),(n+k≤c→(∀a,base=some a→(storeCells (a.add (n*P.cellsOf e)) vs).run P w=.ok () w')∧(base=none→vs=[]∧w'=w)∧v=.slice base (n+k) c)→
   (c<n+k→∃(z:Value) (olds:Array Value),(zeroValue e).run P w.drew=.ok z w.drew∧(Builtin.firstCells (P.cellsOf e) n (.slice base n c)).run P w.drew=.ok olds w.drew∧
    w'=w.drew.alloc (.cells (olds++vs.toArray++Builtin.zeroCells z.cells ((Question.appendCap (n+k) c e).cut (w.tape w.drawn (.appendCap (n+k) c e)) - (n+k))) e)∧
    v=.slice (some ⟨w.heap.size,0,none⟩) (n+k) ((Question.appendCap (n+k) c e).cut (w.tape w.drawn (.appendCap (n+k) c e))))→
   (Builtin.append_ #[t,tx] ty #[.slice base n c,x]).run P w=.ok v w') :
  ∃u w' m',(Builtin.append_ #[t,tx] ty #[s,x]).run P w=.ok u w'∧Z05 m' (L.set id (.row (Z0Q L id++ds) (P.cellsOf e) (ver+1))) (.msl id (ver+1) 0 (n+k)) u∧
   Z0O m' (L.set id (.row (Z0Q L id++ds) (P.cellsOf e) (ver+1))) w'∧Ext m L w m' (L.set id (.row (Z0Q L id++ds) (P.cellsOf e) (ver+1))) w':=by
 obtain⟨hz,hzl,hs,hb⟩:=Z26 hek
 obtain⟨cs,sz,hL,hr,hsz'⟩:=Z0N hf
 have hlt:id<L.length:=(List.getElem?_eq_some_iff.1 hL).1
 obtain⟨k1,k2,a,rfl,ha⟩:=Z1e hx hf
 have he:sz=P.cellsOf e:=by rw [←hsz',hsz]
 subst he
 rw [hr] at hfull ⊢
 rw [Nat.sub_zero,Nat.zero_mul] at *
 rw [Nat.zero_add] at k2
 obtain⟨us,hc,hcell,_⟩:=Z2d hW hL
 have hul:=hc.length
 have hvone:=Z2w hvc hone
 by_cases hin:n+k≤m.cap id
 ·by_cases hcap:m.cap id=0
  ·have hcs:=hW.nils _ _ _ _ hL hcap
   have hn0:n=0:=by omega
   have hs0:k=0:=by omega
   have hvs:ds=[]:=by
    have:=hvc.length; rw [hs0,Nat.zero_mul] at hvl; exact List.eq_nil_of_length_eq_zero (by omega)
   have hvs':vs=[]:=List.eq_nil_of_length_eq_zero (by rw [hvl,hs0,Nat.zero_mul])
   obtain⟨t1,t2⟩:=Ze3 hW hL hcap 0
   rw [hcs,hvs,hn0,hs0]
   refine⟨.slice a (0+0) (m.cap id),w,_,?_,?_,t1,t2⟩
   ·have h:=hrunA a (m.cap id) w (.slice a (n+k) (m.cap id))
     (fun _=>⟨(fun b hb'=>by rw [hvs']; simp [storeCells]),fun _=>⟨hvs',rfl⟩,rfl⟩) (fun h=>by omega)
    rw [hn0,hs0] at h; exact h
   ·simp only [Z05]
    exact⟨[],P.cellsOf e,ver+1,by simp [hlt],Nat.le_refl _,⟨_,_,_,rfl⟩,fun _=>⟨by simp,by simp,a,by simp [Mem.put,hcap],.inl (by simp [Mem.put])⟩⟩
  ·obtain⟨us',rest,elem,lo,hi,hblk,hc',hlen,hfz⟩:=hW.rows _ _ _ _ hL hcap
   have hul':=hc'.length
   have ha':a=some ⟨m.blk id,0,none⟩:=by
    rcases ha with ha | ha
    ·omega
    ·exact ha
   subst ha'
   have hmul:(n+k)*P.cellsOf e≤m.cap id*P.cellsOf e:=Nat.mul_le_mul_right _ hin
   rw [Nat.add_mul] at hmul
   obtain⟨w',hst,hC,hsize⟩:=Z2c (P:=P) (m.blk id) (n*P.cellsOf e) vs 0 w (us'++rest) elem lo hi hblk (by simp; omega) (fun j hj1 hj2=>by omega) hvone
   have e1:(us'++rest).take (n*P.cellsOf e+0)++vs++(us'++rest).drop (n*P.cellsOf e+0+vs.length)=(us'++vs)++rest.drop vs.length:=by
    rw [Nat.add_zero,List.take_left' (by omega),List.drop_append,List.drop_eq_nil_of_le (by omega)]
    simp
    congr 1; omega
   rw [e1] at hC
   obtain⟨t1,t2⟩:=Z3A hW hL (cs:=cs++ds) (ver':=ver+1) (g:=m.blk id) (c:=m.cap id) (.inl ⟨rfl,hcap⟩) hC (hc'.append hvc) (by simp; omega) hfz hcap (.inr rfl)
   refine⟨.slice (some ⟨m.blk id,0,none⟩) (n+k) (m.cap id),w',_,?_,?_,t1,t2⟩
   ·exact hrunA _ (m.cap id) w' _
     (fun _=>⟨(fun b hb'=>by cases hb'; rw [Addr.add_lit,Nat.zero_add]; exact hst),(fun h=>by cases h),rfl⟩) (fun h=>by omega)
   ·simp only [Z05]
    refine⟨cs++ds,P.cellsOf e,ver+1,by simp [hlt],Nat.le_refl _,⟨_,_,_,rfl⟩,fun _=>⟨?_,by simpa [Mem.put] using hin,some ⟨m.blk id,0,none⟩,by simp [Mem.put],.inr (by simp [Mem.put])⟩⟩
    have:=hvc.length
    rw [Nat.zero_add,Nat.add_mul,List.length_append]; omega
 ·obtain⟨z,i,hi,hzi,hza,hzr⟩:=Z1c (w:=w.drew) hz
  obtain⟨c,hc2⟩:∃c,c=(Question.appendCap (n+k) (m.cap id) e).cut (w.tape w.drawn (.appendCap (n+k) (m.cap id) e)):=⟨_,rfl⟩
  have hn:n+k<2 ^ 63:=by
   have:(n+k)*1≤(n+k)*P.bytesOf e:=Nat.mul_le_mul_left _ hb
   omega
  have hle:n+k≤c:=by rw [hc2]; exact Z9L _ _ _ _ hn
  have hzs:z.cells.size=P.cellsOf e:=by
   have:=(Z1W (m:=m) (L:=L) z).length
   rw [←hza,hzl] at this
   simpa using this
  have hold:(Builtin.firstCells (P.cellsOf e) n (.slice a n (m.cap id))).run P w.drew=.ok us.toArray w.drew:=by
   cases a with
   | none=>
    have hn0:n=0:=by
     rcases ha with ha | ha
     ·omega
     ·cases ha
    have:us=[]:=List.eq_nil_of_length_eq_zero (by rw [hul,hfull,hn0,Nat.zero_mul])
    simp [Builtin.firstCells,this]
   | some b=>
    rcases ha with ha | ha
    ·have hn0:n=0:=by omega
     have:us=[]:=List.eq_nil_of_length_eq_zero (by rw [hul,hfull,hn0,Nat.zero_mul])
     simp only [Builtin.firstCells,hn0,Nat.zero_mul,this]
     exact Z1s b
    ·cases ha
     have:=Z16 (P:=P) (w:=w.drew) (m.blk id) 0 us (n*P.cellsOf e) (by omega) (fun j v hj=>by rw [Nat.zero_add]; exact hcell j v hj)
     rw [List.take_of_length_le (by omega)] at this
     exact this
  obtain⟨rest,hrest⟩:∃r,r=(Builtin.zeroCells z.cells (c - (n+k))).toList:=⟨_,rfl⟩
  have hP:Z1x w (w.drew.alloc (.cells (us.toArray++vs.toArray++Builtin.zeroCells z.cells (c - (n+k))) e)) (.cells ((us++vs)++rest).toArray e (0,0)):=by
   have:(us.toArray++vs.toArray++Builtin.zeroCells z.cells (c - (n+k)))=((us++vs)++rest).toArray:=by rw [hrest]; simp
   rw [this]; exact⟨rfl,rfl,rfl,rfl⟩
  have hlen:(us++vs).length+rest.length=c*P.cellsOf e:=by
   rw [hrest,Z2y,hzs,List.length_append,hul,hfull,hvl,←Nat.add_mul,←Nat.add_mul]; congr 1; omega
  have hC:Chg w (w.drew.alloc (.cells (us.toArray++vs.toArray++Builtin.zeroCells z.cells (c - (n+k))) e)) w.heap.size (.cells ((us++vs)++rest).toArray e (0,0)):=
   ⟨hP.new,fun g' _ hg=>hP.old hg,by rw [hP.size]; omega,hP.2⟩
  obtain⟨t1,t2⟩:=Z3A hW hL (cs:=cs++ds) (ver':=ver+1) (g:=w.heap.size) (c:=c) (.inr (Nat.le_refl _)) hC (hc.append hvc) hlen (.inl rfl) (by omega) (.inr rfl)
  refine⟨.slice (some ⟨w.heap.size,0,none⟩) (n+k) c,_,_,?_,?_,t1,t2⟩
  ·exact hrunA a (m.cap id) _ _ (fun h=>by omega)
    (fun _=>⟨z,us.toArray,hzr,hold,by rw [hc2],by rw [hc2]⟩)
  ·simp only [Z05]
   refine⟨cs++ds,P.cellsOf e,ver+1,by simp [hlt],Nat.le_refl _,⟨_,_,_,rfl⟩,fun _=>⟨?_,by simpa [Mem.put] using hle,some ⟨w.heap.size,0,none⟩,by simp [Mem.put],.inr (by simp [Mem.put])⟩⟩
   have:=hvc.length
   rw [Nat.zero_add,Nat.add_mul,List.length_append]; omega
theorem Z5z(hW:Z0O m L w)(t tx ty:TypeId){Y:AV}{v s:Value}(hy:Z05 m L Y v){e:TypeId}(hu:P.underlying t=some (.slice e))(hek:Z3w P e=true)
  (htx:Z6r P tx=true) (ho:Z3T L (P.cellsOf e) Y) (hone:Z0m (Z0B L (P.cellsOf e) Y)=true) {id ver n:Nat} (hf:Z1q L id ver) (hsz:Z1S L id=P.cellsOf e) (hx:Z05 m L (.msl id ver 0 n) s)
  (hfull:(Z0Q L id).length=n*P.cellsOf e) (hroom:(n+Z0p Y)*P.bytesOf e≤140737488355328) :
  ∃u w' m',(Builtin.append_ #[t,tx] ty #[s,v]).run P w=.ok u w'∧Z05 m' (L.set id (.row (Z0Q L id++Z0B L (P.cellsOf e) Y) (P.cellsOf e) (ver+1))) (.msl id (ver+1) 0 (n+Z0p Y)) u∧
   Z0O m' (L.set id (.row (Z0Q L id++Z0B L (P.cellsOf e) Y) (P.cellsOf e) (ver+1))) w'∧Ext m L w m' (L.set id (.row (Z0Q L id++Z0B L (P.cellsOf e) Y) (P.cellsOf e) (ver+1))) w':=by
 obtain⟨hz,hzl,hs,hb⟩:=Z26 hek
 obtain⟨h1,h2⟩:=Z4v htx
 obtain⟨vs,hvc,hvl,hrun⟩:=Z5S (P:=P) hW hy ho
 refine Z4c hW t tx ty hek hvc hvl hone hf hsz hx hfull hroom fun base c w' u hin hout=>?_
 refine Z4o t tx ty hu h1 h2 hz hb base n (Z0p Y) c v (hrun w rfl).1 hroom (fun h=>?_) (fun h=>?_)
 ·obtain⟨k1,k2,k3⟩:=hin h
  exact⟨vs.toArray,(hrun w rfl).2,k1,fun h=>(k2 h).2,k3⟩
 ·obtain⟨z,olds,k1,k2,k3,k4⟩:=hout h
  exact⟨z,olds,vs.toArray,k1,k2,(hrun w.drew rfl).2,k3,k4⟩
theorem ZbX:∀a b:List AV,Z0m (a++b)=(Z0m a && Z0m b)
 | [],b=>by simp [Z0m]
 | x::a,b=>by
  have ih:=ZbX a b
  cases x <;> simp only [List.cons_append,Z0m,Bool.false_and,ih,Bool.and_assoc]
theorem Z9z{cs:List AV}(h:Z0m cs=true):∀n:Nat,Z0m (Z8B n cs)=true
 | 0=>by simp [Z8B,Z0m]
 | n+1=>by
  have:=Z9z h n
  simp only [Z8B,List.replicate_succ,List.flatten_cons,ZbX,h,Bool.true_and] at this ⊢
  exact this
theorem Z8C(hW:Z0O m L w)(t tx ty:TypeId){X:AV}{u:Value}(k:IntKind)(q:Int)(hx:Z05 m L X u):Z0l P m L w (Z7M P true L t tx X q) (Z1B (Builtin.append_ #[t,tx] ty #[u,.int k q])):=by
 unfold Z7M
 split
 ·rename_i e k0 id ver off n hu hux
  intro hp
  obtain⟨-,hek,hzo,h0,hf,hsz,rfl,hfull,hroom⟩:=hp
  obtain⟨hz,hzl,hs,hb⟩:=Z26 hek
  obtain⟨z,i,hi,hzi,hza,hzr⟩:=Z1c (w:=w) hz
  obtain⟨z',i',hi',hzi',hza',hzr'⟩:=Z1c (w:=w.drew) hz
  have hzz:z'=z:=by rw [hi] at hi'; cases hi'; rw [hzi] at hzi'; exact (Option.some.inj hzi').symm
  subst hzz
  have hzc:Z0e m L (Z1u P e).cells z'.cells.toList:=by rw [hza]; exact Z1W z'
  have hzcl:=hzc.length
  have hzs:z'.cells.size=P.cellsOf e:=by simp at hzcl; omega
  have hrel:=Z4H hzc q.toNat (by omega)
  rw [hzl] at hrel
  have hzc2:(Builtin.zeroCells z'.cells q.toNat).toList=((Array.range (q.toNat*P.cellsOf e)).map (z'.cells[· % z'.cells.size]!)).toList:=by rw [Builtin.zeroCells,hzs]
  have hone:Z0m (Z8B q.toNat (Z1u P e).cells)=true:=Z9z hzo q.toNat
  have hvl:((Array.range (q.toNat*P.cellsOf e)).map (z'.cells[· % z'.cells.size]!)).toList.length=q.toNat*P.cellsOf e:=by simp
  have hqr:q≤140737488355328:=by
   have:(n+q.toNat)*1≤(n+q.toNat)*P.bytesOf e:=Nat.mul_le_mul_left _ hb
   omega
  have hwq:IntKind.i64.wrap q=q:=IntWalk.i64_in q (by omega)
  have hsz2:=Z0s (P:=P) (w:=w) (t:=e) (by rw [hi]; rfl)
  obtain⟨i2,hie,hcs,hby⟩:=Z4L (P:=P) (t:=e) (by rw [hi]; rfl)
  rw [hi] at hie; obtain rfl:=Option.some.inj hie
  have hti:(typeInfo e).run P w=.ok i w:=by simp [typeInfo,hi]
  have hti':(typeInfo e).run P w.drew=.ok i w.drew:=by simp [typeInfo,hi]
  have hsz3:=Z0s (P:=P) (w:=w.drew) (t:=e) (by rw [hi]; rfl)
  have hb0:i.bytes≠0:=by rw [←hby]; omega
  have hqb:¬(281474976710656:Int)<q*i.bytes:=by
   have h1:q.toNat*P.bytesOf e≤(n+q.toNat)*P.bytesOf e:=Nat.mul_le_mul_right _ (by omega)
   have h2:(q.toNat:Int)=q:=by omega
   have h4:q.toNat*P.bytesOf e≤140737488355328:=Nat.le_trans h1 hroom
   have h5:((q.toNat*P.bytesOf e:Nat):Int)=q*i.bytes:=by rw [Int.natCast_mul,h2,hby]
   rw [←h5]
   omega
  have hqb2:¬(281474976710656:Int)<q*(P.bytesOf e:Int):=by rw [hby]; exact hqb
  have hbig:¬(9223372036854775807:Int)<(n:Int)+max q 0:=by
   have:(n+q.toNat)*1≤(n+q.toNat)*P.bytesOf e:=Nat.mul_le_mul_left _ hb
   omega
  obtain⟨r,w',m',r1,r2,r3,r4⟩:=Z4c (x:=.int k q) hW t tx ty hek hrel hvl hone hf hsz hx hfull hroom fun base c w' u hin hout=>by
   have hzero:q.toNat*P.cellsOf e=0→((Array.range (q.toNat*P.cellsOf e)).map (z'.cells[· % z'.cells.size]!)).toList=[]:=fun h=>by rw [h]; simp
   by_cases hnk:n+q.toNat≤c
   ·obtain⟨k1,k2,rfl⟩:=hin hnk
    rw [←hzc2] at k1 k2
    by_cases hq0:q.toNat*P.cellsOf e=0
    ·have hnil:(Builtin.zeroCells z'.cells q.toNat).toList=[]:=by rw [hzc2]; exact hzero hq0
     rw [hnil] at k1 k2
     cases base with
     | none=>simp [Builtin.append_,Z01 hu,hsz2,Z01 hux,asInt,asIntOf,hwq,show ¬q<0 by omega,hti,hqb,hnk,hq0,(k2 rfl).2]
     | some a=>have:=k1 a rfl; simp [Builtin.append_,Z01 hu,hsz2,Z01 hux,asInt,asIntOf,hwq,show ¬q<0 by omega,hti,hqb,hnk,hq0,this]
    ·cases base with
     | none=>simp [Builtin.append_,Z01 hu,hsz2,Z01 hux,asInt,asIntOf,hwq,show ¬q<0 by omega,hti,hqb,hnk,hq0,hzr,(k2 rfl).2]
     | some a=>have:=k1 a rfl; simp [Builtin.append_,Z01 hu,hsz2,Z01 hux,asInt,asIntOf,hwq,show ¬q<0 by omega,hti,hqb,hnk,hq0,hzr,this]
   ·obtain⟨z2,olds,k1,k2,rfl,rfl⟩:=hout (by omega)
    rw [hzr'] at k1
    obtain⟨rfl,_⟩:z'=z2∧True:=by cases k1; exact⟨rfl,trivial⟩
    have hfits:=growslice_fits (need:=n+q.toNat) (old:=c) (bytes:=P.bytesOf e) (by omega) hroom
    rw [←hzc2]
    by_cases hq0:q.toNat*P.cellsOf e=0
    ·have hnil:(Builtin.zeroCells z'.cells q.toNat).toList=[]:=by rw [hzc2]; exact hzero hq0
     have hq1:q.toNat=0:=by
      rcases Nat.eq_zero_or_pos q.toNat with h | h
      ·exact h
      ·have:=Nat.mul_pos h hs; omega
     rw [hnil]
     simp [Builtin.append_,Z01 hu,hsz2,Z01 hux,asInt,asIntOf,hwq,show ¬q<0 by omega,hti,hti',hqb,hqb2,hbig,hnk,hb0,←hby,show ¬281474976710656<Builtin.nextslicecap (n+q.toNat) c*P.bytesOf e by omega,Question.forced,hzr',k2,newRow,hq0]
     try (intro h; omega)
    ·simp [Builtin.append_,Z01 hu,hsz2,Z01 hux,asInt,asIntOf,hwq,show ¬q<0 by omega,hti,hti',hqb,hqb2,hbig,hnk,hb0,←hby,show ¬281474976710656<Builtin.nextslicecap (n+q.toNat) c*P.bytesOf e by omega,Question.forced,hzr',k2,newRow,hq0]
     try (intro h; omega)
  exact⟨.value r,w',m',by simp [Z1B,r1],.inl ⟨r,rfl,r2⟩,r3,r4⟩
 ·exact fun h=>h.elim
theorem Z5B(hW:Z0O m L w)(t tx ty:TypeId){Y:AV}{v s:Value}(hy:Z05 m L Y v){e:TypeId}(hu:P.underlying t=some (.slice e))(hek:Z3w P e=true)
  (htx:Z6r P tx=true) (ho:Z3T L (P.cellsOf e) Y) {id ver off n:Nat} (hf:Z1q L id ver) (hsz:Z1S L id=P.cellsOf e) (hx:Z05 m L (.csl id ver off n) s)
  (hpos:0<Z0p Y) (hroom:(n+Z0p Y)*P.bytesOf e≤140737488355328) :
  ∃u w' m',(Builtin.append_ #[t,tx] ty #[s,v]).run P w=.ok u w'∧Z05 m' (L++[.row (((Z0Q L id).drop (off*P.cellsOf e)).take (n*P.cellsOf e)++Z0B L (P.cellsOf e) Y) (P.cellsOf e) 0]) (.msl L.length 0 0 (n+Z0p Y)) u∧
   Z0O m' (L++[.row (((Z0Q L id).drop (off*P.cellsOf e)).take (n*P.cellsOf e)++Z0B L (P.cellsOf e) Y) (P.cellsOf e) 0]) w'∧Ext m L w m' (L++[.row (((Z0Q L id).drop (off*P.cellsOf e)).take (n*P.cellsOf e)++Z0B L (P.cellsOf e) Y) (P.cellsOf e) 0]) w':=by
 obtain⟨hz,hzl,hs,hb⟩:=Z26 hek
 obtain⟨h1,h2⟩:=Z4v htx
 obtain⟨vs,hvc,hvl,hrun⟩:=Z5S hW hy ho
 obtain⟨cs,sz,hL,hr,hsz'⟩:=Z0N hf
 obtain⟨k1,k2,a,rfl,ha⟩:=Z4a hx hf
 have he:sz=P.cellsOf e:=by rw [←hsz',hsz]
 subst he
 rw [hr,hsz] at k1
 rw [hsz] at ha
 rw [hr]
 obtain⟨us,hc,hcell,_⟩:=Z2d hW hL
 have hul:=hc.length
 rw [Nat.add_mul] at k1
 obtain⟨os,hos⟩:∃os,os=(us.drop (off*P.cellsOf e)).take (n*P.cellsOf e):=⟨_,rfl⟩
 have hol:os.length=n*P.cellsOf e:=by rw [hos]; simp; omega
 have hoc:Z0e m L ((cs.drop (off*P.cellsOf e)).take (n*P.cellsOf e)) os:=by rw [hos]; exact (hc.drop _).take _
 obtain⟨z,i,hi,hzi,hza,hzr⟩:=Z1c (w:=w.drew) hz
 obtain⟨c,hc2⟩:∃c,c=(Question.appendCap (n+Z0p Y) n e).cut (w.tape w.drawn (.appendCap (n+Z0p Y) n e)):=⟨_,rfl⟩
 have hn:n+Z0p Y<2 ^ 63:=by
  have:(n+Z0p Y)*1≤(n+Z0p Y)*P.bytesOf e:=Nat.mul_le_mul_left _ hb
  omega
 have hle:n+Z0p Y≤c:=by rw [hc2]; exact Z9L _ _ _ _ hn
 have hzs:z.cells.size=P.cellsOf e:=by
  have:=(Z1W (m:=m) (L:=L) z).length
  rw [←hza,hzl] at this
  simpa using this
 have hold:(Builtin.firstCells (P.cellsOf e) n (.slice a n n)).run P w.drew=.ok os.toArray w.drew:=by
  rcases ha with ha | ha
  ·subst ha
   have:os=[]:=List.eq_nil_of_length_eq_zero (by rw [hol,Nat.zero_mul])
   cases a with
   | none=>simp [Builtin.firstCells,this]
   | some b=>simp only [Builtin.firstCells,Nat.zero_mul,this]; exact Z1s b
  ·subst ha
   have:=Z16 (P:=P) (w:=w.drew) (m.blk id) (off*P.cellsOf e) (us.drop (off*P.cellsOf e)) (n*P.cellsOf e) (by simp; omega) (fun j v hj=>by rw [List.getElem?_drop] at hj; exact hcell _ _ hj)
   rw [←hos] at this
   exact this
 have hP:Z1x w (w.drew.alloc (.cells (os.toArray++vs.toArray++Builtin.zeroCells z.cells (c - (n+Z0p Y))) e)) (.cells ((os++vs)++(Builtin.zeroCells z.cells (c - (n+Z0p Y))).toList).toArray e (0,0)):=by
  have:(os.toArray++vs.toArray++Builtin.zeroCells z.cells (c - (n+Z0p Y)))=((os++vs)++(Builtin.zeroCells z.cells (c - (n+Z0p Y))).toList).toArray:=by simp
  rw [this]; exact⟨rfl,rfl,rfl,rfl⟩
 have hlen:(os++vs).length+(Builtin.zeroCells z.cells (c - (n+Z0p Y))).toList.length=c*P.cellsOf e:=by
  rw [Z2y,hzs,List.length_append,hol,hvl,←Nat.add_mul,←Nat.add_mul]; congr 1; omega
 refine⟨.slice (some ⟨w.heap.size,0,none⟩) (n+Z0p Y) c,_,m.put L.length w.heap.size c,?_,?_,Z3G hW hP (hoc.append hvc) hlen (.inl rfl),Z2j _ _ hP.keep⟩
 ·exact Z4o (w:=w) t tx ty hu h1 h2 hz hb a n (Z0p Y) n v (hrun w rfl).1 hroom (fun h=>by omega)
   (fun _=>⟨z,os.toArray,vs.toArray,hzr,hold,(hrun w.drew rfl).2,by rw [hc2],by rw [hc2]⟩)
 ·have hcl:=(hoc.append hvc).length
  rw [List.length_append,hol,hvl,←Nat.add_mul] at hcl
  exact Z61 _ _ _ _ _ (by rw [←hcl]; exact Nat.le_refl _) hle
theorem ZdM(hW:Z0O m L w)(t tx ty:TypeId){X Y:AV}{u v:Value}(hx:Z05 m L X u)(hy:Z05 m L Y v)(happ:Z0l P m L w (Z5e P true L t tx X Y) (Z1B (Builtin.append_ #[t,tx] ty #[u,v]))):Z0l P m L w (Zjp P true L t tx X Y) (Z1B (Builtin.append_ #[t,tx] ty #[u,v])):=by
 unfold Zjp
 split
 ·rename_i k q
  simp only [Z05] at hy; subst hy
  exact Z8C hW t tx ty k q hx
 ·exact happ
theorem Z8w(hW:Z0O m L w)(t tx ty:TypeId){X Y:AV}{u v:Value}(hx:Z05 m L X u)(hy:Z05 m L Y v):Z0l P m L w (Z5e P true L t tx X Y) (Z1B (Builtin.append_ #[t,tx] ty #[u,v])):=by
 unfold Z5e
 split
 ·rename_i e hu
  split
  ·intro hp
   obtain⟨-,hek,htx,ho,hone,hroom⟩:=hp
   simp only [Z05] at hx; subst hx
   obtain⟨r,w',m',h1,h2,h3,h4⟩:=Z5A hW t tx ty hy hu hek htx ho hroom
   exact⟨.value r,w',m',by simp [Z1B,h1],.inl ⟨r,rfl,h2⟩,h3,h4⟩
  ·rename_i id ver off n
   intro hp
   obtain⟨-,hek,htx,ho,hone,hf,hsz,rfl,hfull,hroom⟩:=hp
   obtain⟨r,w',m',h1,h2,h3,h4⟩:=Z5z hW t tx ty hy hu hek htx ho hone hf hsz hx hfull hroom
   exact⟨.value r,w',m',by simp [Z1B,h1],.inl ⟨r,rfl,h2⟩,h3,h4⟩
  ·rename_i id ver off n
   intro hp
   obtain⟨-,hek,htx,ho,hone,hf,hsz,hpos,hroom⟩:=hp
   obtain⟨r,w',m',h1,h2,h3,h4⟩:=Z5B hW t tx ty hy hu hek htx ho hf hsz hx hpos hroom
   exact⟨.value r,w',m',by simp [Z1B,h1],.inl ⟨r,rfl,h2⟩,h3,h4⟩
  ·exact fun h=>h.elim
 ·exact fun h=>h.elim
end
end Go.Eng