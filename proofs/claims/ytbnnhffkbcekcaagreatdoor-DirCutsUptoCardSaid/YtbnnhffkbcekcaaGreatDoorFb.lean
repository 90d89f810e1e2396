/- Parts of the walk through directories. Conditions stand in each. -/
import Derived.Test.YtbnnhffkbcekcaaGreatDoorFa
import Derived.MapKept
import Derived.Laws.StructEq
set_option linter.unusedVariables false
set_option linter.unusedSimpArgs false
section
namespace Go.Eng
open Go
section
variable {P:Program} {m:Mem} {L:Z01} {w:World}
theorem Z2c:∀{cs:List AV} {us:List Value},Z0a m L cs us→Z0b cs=true→∀u∈us,u.oneCell'=true
 | [],us,h,_=>by simp only [Z0a] at h; simp [h]
 | c::cs,us,h,ho=>by
  simp only [Z0a] at h
  obtain⟨u,us',rfl,h1,h2⟩:=h
  have ih:Z0b cs=true→∀u∈us',u.oneCell'=true:=Z2c h2
  have hcs:Z0b cs=true:=by cases c <;> simp_all [Z0b]
  have hu:u.oneCell'=true:=by
   cases c <;> simp only [Z0b,Z03,Bool.and_eq_true,Bool.false_eq_true] at ho h1
   case int=>subst h1; rfl
   case bool=>subst h1; rfl
   case str=>subst h1; rfl
   case lit=>subst h1; exact ho.1
   case sl=>obtain⟨a,cap,rfl,_⟩:=h1; rfl
   case msl=>obtain⟨_,_,_,_,_,⟨a,n,c,rfl⟩,_⟩:=h1; rfl
   case ref=>
    rcases h1 with ⟨_,_,_,_,_,⟨a,rfl⟩,_⟩ | ⟨_,_,rfl⟩ <;> rfl
   case ub=>obtain⟨_,rfl,_⟩:=h1; rfl
   case csl=>obtain⟨_,_,_,_,_,⟨a,n,c,rfl⟩,_⟩:=h1; rfl
   case mp=>obtain⟨_,_,rfl⟩:=h1; rfl
   case mpr=>obtain⟨_,_,_,rfl,_⟩:=h1; rfl
   case ip=>obtain⟨_,_,_,rfl,_⟩:=h1; rfl
   case fn=>obtain⟨_,_,rfl,_⟩:=h1; rfl
   case ifc=>obtain⟨_,rfl,_⟩:=h1; rfl
  intro x hx
  rcases List.mem_cons.1 hx with rfl | hx
  ·exact hu
  ·exact ih hcs x hx
theorem Z6C{X:AV}{u:Value}(h:Z03 m L X u)(ho:Z0b X.cells=true):Z0a m L X.cells u.cells.toList:=by
 have one:∀(Y:AV),Y.cells=[Y]→Z03 m L Y u→Z0b [Y]=true→Z0a m L Y.cells u.cells.toList:=by
  intro Y hY hv ho
  have:=Z2c (Z0a.cons hv (Z0a.nil m L)) ho u (by simp)
  rw [hY]
  have hu:u.cells=#[u]:=by cases u <;> simp_all [Value.cells,Value.oneCell']
  rw [hu]
  exact Z0a.cons hv (Z0a.nil m L)
 cases X with
 | agg cs=>simp only [Z03] at h; obtain⟨us,rfl,hc⟩:=h; simpa [AV.cells,Value.cells] using hc
 | _=>exact one _ rfl h ho
theorem Z1l(v:Value):Z0a m L (ofV v).cells v.cells.toList:=by
 cases v with
 | agg cs=>simp only [ofV,AV.cells,Value.cells]; exact Z2M m L _
 | func f a b=>
  simp only [ofV,AV.cells,Value.cells]
  exact Z0a.cons (by simpa [ofV] using Z3U m L (.func f a b)) (Z0a.nil m L)
 | _=>simp [ofV,Z4o,AV.cells,Value.cells,Z0a,Z03]
theorem Z9r(w:World)(g o:Nat)(v:Value)(arr:List Value)(elem:TypeId)(fz:Nat×Nat)(h:w.heap[g]?=some (.cells arr.toArray elem fz)) :
  (w.setCell ⟨g,o,none⟩ v).heap[g]?=some (.cells (arr.set o v).toArray elem fz)∧(∀g',g'≠g→(w.setCell ⟨g,o,none⟩ v).heap[g']?=w.heap[g']?)∧(w.setCell ⟨g,o,none⟩ v).heap.size=w.heap.size∧Z9b w (w.setCell ⟨g,o,none⟩ v):=by
 refine⟨?_,fun g' hg=>?_,by simp [World.setCell],rfl,rfl,rfl⟩
 ·simp [World.setCell,Array.getElem?_modify,h]
 ·simp [World.setCell,Array.getElem?_modify,hg.symm]
theorem Z62(arr:List Value)(k:Nat)(v:Value)(rest:List Value)(h:k+1+rest.length≤arr.length) :
  (arr.set k v).take (k+1)++rest++(arr.set k v).drop (k+1+rest.length)=arr.take k++(v::rest)++arr.drop (k+(rest.length+1)):=by
 have h1:(arr.set k v).take (k+1)=arr.take k++[v]:=by
  rw [List.take_succ_eq_append_getElem (by simp; omega)]
  simp [List.take_set_of_le (Nat.le_refl k)]
 have h2:(arr.set k v).drop (k+1+rest.length)=arr.drop (k+(rest.length+1)):=by
  rw [List.drop_set_of_lt (by omega)]
  congr 1; omega
 rw [h1,h2]
 simp
theorem Z1X(g o:Nat):∀(vs:List Value) (i:Nat) (w:World) (arr:List Value) (elem:TypeId) (lo hi:Nat),w.heap[g]?=some (.cells arr.toArray elem (lo,hi))→o+i+vs.length≤arr.length→
  (∀j,o+i≤j→j<o+i+vs.length→¬(lo≤j∧j<hi))→(∀v∈vs,v.oneCell'=true)→
  ∃w',(storeCells ⟨g,o,none⟩ vs i).run P w=.ok () w'∧Chg w w' g (.cells (arr.take (o+i)++vs++arr.drop (o+i+vs.length)).toArray elem (lo,hi))∧w'.heap.size=w.heap.size
 | [],i,w,arr,elem,lo,hi,hg,_,_,_=>⟨w,by simp [storeCells],⟨by simpa using hg,fun _ _ _=>rfl,Nat.le_refl _,Z9b.refl w⟩,rfl⟩
 | v::rest,i,w,arr,elem,lo,hi,hg,hl,hf,h1=>by
  simp at hl
  have hcell:w.cell? ⟨g,o+i,none⟩=some arr[o+i]:=by simp [World.cell?,hg]
  have hfro:w.frozen? ⟨g,o+i,none⟩=false:=by
   have:=hf (o+i) (Nat.le_refl _) (by simp)
   simp [World.frozen?,hg]; omega
  obtain⟨c1,c2,c3,c4⟩:=Z9r w g (o+i) v arr elem (lo,hi) hg
  have hst:(store ((⟨g,o,none⟩:Addr).add i) v).run P w=.ok () (w.setCell ⟨g,o+i,none⟩ v):=by
   rw [Addr.add_lit,run_store P w _ v _ (h1 v (by simp)),hcell]
   simp [hfro]
  obtain⟨w',hr,hC,hs⟩:=Z1X g o rest (i+1) (w.setCell ⟨g,o+i,none⟩ v) (arr.set (o+i) v) elem lo hi c1 (by simp; omega)
   (fun j h2 h3=>hf j (by omega) (by simp; omega)) (fun x hx=>h1 x (by simp [hx]))
  refine⟨w',?_,⟨?_,fun g' hne hlt=>?_,by rw [hs,c3]; exact Nat.le_refl _,c4.trans hC.same⟩,by rw [hs,c3]⟩
  ·simp only [storeCells,Sem.run_bind,hst,Result.andThen_ok,hr]
  ·rw [hC.at_]
   have:=Z62 arr (o+i) v rest (by omega)
   rw [←Nat.add_assoc,this]
   rfl
  ·rw [hC.other g' hne (by rw [c3]; exact hlt),c2 g' hne]
theorem Z2r(cs:List AV)(off:Nat)(ds:List AV)(us vs:List Value)(hc:Z0a m L cs us)(hd:Z0a m L ds vs):Z0a m L (Z23 cs off ds) (us.take off++vs++us.drop (off+vs.length)):=by
 unfold Z23
 rw [hd.length]
 exact ((hc.take off).append hd).append (hc.drop _)
theorem Z9k(hW:Z0D m L w)(t:TypeId){X Y:AV}{u v:Value}(hx:Z03 m L X u)(hy:Z03 m L Y v) :
  Z0i P m L w (Zam P true L t X Y) (do Instr.storeAt t u v; pure .skip):=by
 cases X <;> try exact fun h=>h.elim
 case ref id ver off=>
  intro hp
  obtain⟨-,hf,hi,hn,hpos,hle,ho⟩:=hp
  obtain⟨cs,sz,hL,hr,hsz⟩:=Z0H hf
  have hu:=Z3u hx hf
  subst hu
  rw [hr] at hle
  have hcells:=Z6C hy ho
  have hone:=Z2c hcells ho
  have hvl:=hcells.length
  have hcap:m.cap id≠0:=by
   intro h
   have hnil:=hW.nils _ _ _ _ hL h
   rw [hnil,List.length_nil] at hle; omega
  obtain⟨us,rest,elem,lo,hi',hb,hc,hlen,hfz⟩:=hW.rows _ _ _ _ hL hcap
  have hul:=hc.length
  obtain⟨w',hrun,hC,hs⟩:=Z1X (P:=P) (m.blk id) off v.cells.toList 0 w (us++rest) elem lo hi' hb (by simp at *; omega) (fun j h1 h2=>by simp at *; omega) hone
  have e1:(us++rest).take (off+0)++v.cells.toList++(us++rest).drop (off+0+v.cells.toList.length)=(us.take off++v.cells.toList++us.drop (off+v.cells.toList.length))++rest:=by
   rw [Nat.add_zero,List.take_append_of_le_length (by omega),List.drop_append_of_le_length (by omega)]
   simp
  rw [e1] at hC
  have hlen2:(us.take off++v.cells.toList++us.drop (off+v.cells.toList.length)).length=us.length:=by simp at *; omega
  obtain⟨t1,t2⟩:=Z2Y hW hL (cs:=Z23 cs off Y.cells) (ver':=ver) (g:=m.blk id) (c:=m.cap id) (.inl ⟨rfl,hcap⟩) hC (Z2r cs off Y.cells us v.cells.toList hc hcells) (by rw [hlen2]; exact hlen) hfz hcap
   (.inl ⟨rfl,by have:=(Z2r cs off Y.cells us v.cells.toList hc hcells).length; omega,rfl,rfl⟩)
  have hset:Z6Q L id (Z23 (Z0L L id) off Y.cells)=L.set id (.row (Z23 cs off Y.cells) sz ver):=by
   simp [Z6Q,hL,hr]
  refine⟨.skip,w',m.put id (m.blk id) (m.cap id),?_,.inr ⟨rfl,rfl⟩,?_,?_⟩
  ·have hsz':v.cells.size=P.cellsOf t:=by rw [←hn,←hvl]; simp
   simp [Instr.storeAt,Instr.sureAddr,storeVar,Z0e hi,hsz',hrun]
  ·show Z0D _ (Z6Q L id (Z23 (Z0L L id) off Y.cells)) _
   rw [hset]; exact t1
  ·show Ext _ _ _ _ (Z6Q L id (Z23 (Z0L L id) off Y.cells)) _
   rw [hset]; exact t2
theorem Z31(w:World)(cs:Array Value)(t:TypeId):Z18 w (w.alloc (.cells cs t)) (.cells (cs.toList++[]).toArray t (0,0)):=by
 have:(cs.toList++[]).toArray=cs:=by simp
 rw [this]; exact⟨rfl,rfl,rfl,rfl⟩
theorem ZdE(cs:List AV)(sz g c:Nat):Z03 (m.put L.length g c) (L++[.row cs sz 0]) (.ref L.length 0 0) (.pointer (some ⟨g,0,none⟩)):=by
 simp only [Z03]
 exact .inl ⟨cs,sz,0,by simp,Nat.le_refl _,⟨_,rfl⟩,fun _=>by simp [Mem.put]⟩
theorem Z4z(cs:List AV)(sz g c len:Nat)(h1:len*sz≤cs.length)(h2:len≤c):Z03 (m.put L.length g c) (L++[.row cs sz 0]) (.msl L.length 0 0 len) (.slice (some ⟨g,0,none⟩) len c):=by
 simp only [Z03]
 exact⟨cs,sz,0,by simp,Nat.le_refl _,⟨_,_,_,rfl⟩,fun _=>⟨by simpa using h1,by simpa [Mem.put] using h2,some ⟨g,0,none⟩,by simp [Mem.put],.inr (by simp [Mem.put])⟩⟩
theorem Z0K{t:TypeId}(h:Z1b P t):∃z i,P.info? t=some i∧i.zero=some z∧zeroA P t=ofV z∧(zeroValue t).run P w=.ok z w:=by
 unfold Z1b at h
 cases hi:P.info? t with
 | none=>simp [hi] at h
 | some i=>
  cases hz:i.zero with
  | none=>simp [hi,hz] at h
  | some z=>exact⟨z,i,rfl,hz,by simp [zeroA,hi,hz],by simp [zeroValue,typeInfo,hi,hz]⟩
theorem Za6(hW:Z0D m L w)(t:TypeId):Z0i P m L w (Z6F P true L t) (Z1j (Instr.alloc t true (.tuple #[]))):=by
 unfold Z6F
 split
 ·rename_i e _
  rintro⟨-,hz,hzc⟩
  obtain⟨z,i,hi,hzi,hza,hzr⟩:=Z0K (w:=w) hz
  have hzv:z=.agg #[.pointer none,.slice none 0 0]:=by
   have h1:=Z3U m L z
   rw [←hza,hzc] at h1
   simp only [Z03,Z0a] at h1
   obtain⟨us,rfl,a,us',rfl,rfl,b,us'',rfl,rfl,rfl⟩:=h1
   rfl
  have hP:=Z18.alloc w (.cells #[.pointer none,.slice none 0 0] t)
  refine⟨.value (.pointer (some ⟨w.heap.size,0,none⟩)),_,_,?_,.inl ⟨_,rfl,?_⟩,Z5O hW hP trivial (fun T e' l h=>?_),Z1r _ _ hP.keep⟩
  ·simp [Z1j,Instr.alloc,hzr,newVar,newRow,hzv,Value.cells]
  ·simp only [Z03]
   exact .inr ⟨.bld t e [],by simp,by simp [Mem.put]⟩
  ·cases h
   exact⟨_,_,hP.new,.inl rfl,.inl ⟨rfl,rfl,rfl⟩⟩
 intro hp
 obtain⟨-,hz⟩:=hp
 obtain⟨z,i,hi,hzi,hza,hzr⟩:=Z0K (w:=w) hz
 have hc:Z0a m L (zeroA P t).cells z.cells.toList:=by rw [hza]; exact Z1l z
 have hP:Z18 w (w.alloc (.cells z.cells t)) (.cells (z.cells.toList++[]).toArray t (0,0)):=Z31 w _ t
 have hl:=hc.length
 have h1:=Z2u (sz:=(zeroA P t).cells.length) (c:=1) hW hP hc (by simp at hl ⊢; omega) (.inl rfl)
 refine⟨.value (.pointer (some ⟨w.heap.size,0,none⟩)),_,_,?_,.inl ⟨_,rfl,?_⟩,h1,Z1r _ _ hP.keep⟩
 ·simp [Z1j,Instr.alloc,hzr,newVar,newRow]
 ·exact ZdE _ _ _ _
theorem ZfN(hW:Z0D m L w)(t:TypeId){X:AV}{u:Value}(hx:Z03 m L X u):Z0i P m L w (ZmG true L X) (Z1j (Instr.box t u)):=by
 intro hp
 obtain⟨-,ho⟩:=hp
 have hc:=Z6C hx ho
 have hP:Z18 w (w.alloc (.cells u.cells t)) (.cells (u.cells.toList++[]).toArray t (0,0)):=Z31 w _ t
 have hl:=hc.length
 have h1:=Z2u (sz:=X.cells.length) (c:=1) hW hP hc (by simp at hl ⊢; omega) (.inl rfl)
 refine⟨.value (.pointer (some ⟨w.heap.size,0,none⟩)),_,_,?_,.inl ⟨_,rfl,?_⟩,h1,Z1r _ _ hP.keep⟩
 ·simp [Z1j,Instr.box,newVar,newRow]
 ·exact ZdE _ _ _ _
theorem Z8Q(off:Nat):∀(vs:List Value) (k:Nat) (arr:List Value),off+k+vs.length≤arr.length→
  ((vs.zipIdx k).foldl (fun cs (x:Value×Nat)=>cs.setIfInBounds (off+x.2) x.1) arr.toArray).toList=arr.take (off+k)++vs++arr.drop (off+k+vs.length)
 | [],k,arr,_=>by simp
 | v::rest,k,arr,h=>by
  simp at h
  simp only [List.zipIdx_cons,List.foldl_cons]
  have e:(arr.toArray.setIfInBounds (off+k) v)=(arr.set (off+k) v).toArray:=by simp
  rw [e,Z8Q off rest (k+1) (arr.set (off+k) v) (by simp; omega)]
  have:=Z62 arr (off+k) v rest (by omega)
  rw [←Nat.add_assoc,this]
  rfl
theorem Z52{place placeA:Nat→Option (Nat×Nat)}(hp:∀i,placeA i=place i):∀(parts:List (Nat×AV)) (vals:List (Nat×Value)) (cells:List AV) (us:List Value) (out:List AV),
  Z0a m L cells us→(∀q∈parts,Z0b q.2.cells=true)→(parts.map (·.1)=vals.map (·.1))→(∀(j:Nat) (q:Nat×AV) (r:Nat×Value),parts[j]?=some q→vals[j]?=some r→Z03 m L q.2 r.2)→
  fillA placeA cells parts=some out→∃os:List Value,Instr.fill place us.toArray vals=some os.toArray∧Z0a m L out os
 | [],vals,cells,us,out,hc,_,hm,_,ho=>by
  have:vals=[]:=by simpa using hm.symm
  subst this
  simp only [fillA,Option.some.injEq] at ho
  subst ho
  exact⟨us,by simp [Instr.fill],hc⟩
 | (i,x)::parts,vals,cells,us,out,hc,h1,hm,hr,ho=>by
  cases vals with
  | nil=>simp at hm
  | cons r vals=>
   obtain⟨i',v⟩:=r
   simp at hm
   obtain⟨rfl,hm⟩:=hm
   simp only [fillA,hp] at ho
   cases hpl:place i with
   | none=>simp [hpl] at ho
   | some q=>
    obtain⟨off,size⟩:=q
    simp only [hpl] at ho
    split at ho
    ·cases ho
    ·rename_i hcond
     have hx:Z03 m L x v:=hr 0 (i,x) (i,v) (by simp) (by simp)
     have hxo:=h1 (i,x) (by simp)
     have hcx:=Z6C hx hxo
     have hlx:=hcx.length
     have hl:=hc.length
     simp at hcond hlx
     have hfold:=Z8Q off v.cells.toList 0 us (by simp; omega)
     have hsp:=Z2r cells off x.cells us v.cells.toList hc hcx
     have hz:v.cells.zipIdx.foldl (fun cs (x:Value×Nat)=>cs.setIfInBounds (off+x.2) x.1) us.toArray=(us.take off++v.cells.toList++us.drop (off+v.cells.toList.length)).toArray:=by
      apply Array.toList_inj.1
      rw [←Array.foldl_toList]
      simpa using hfold
     obtain⟨os,ho1,ho2⟩:=Z52 hp parts vals _ _ out hsp (fun q hq=>h1 q (by simp [hq])) hm (fun j q r hq hr'=>hr (j+1) q r (by simpa using hq) (by simpa using hr')) ho
     refine⟨os,?_,ho2⟩
     rw [←ho1]
     simp only [Instr.fill,hpl]
     rw [if_neg (by simp; omega)]
     congr 1
theorem Z9J{fields:Array Field}(h:Z85 P fields):(fields.mapM (m:=Sem) fun f=>do pure (f.offset,←sizeOf f.type)).run P w=.ok (Z49 P fields).toArray w:=by
 have key:∀(l:List Field),(∀f∈l,(P.info? f.type).isSome=true)→(l.mapM (m:=Sem) fun f=>do pure (f.offset,←sizeOf f.type)).run P w=.ok (l.map fun f=>(f.offset,P.cellsOf f.type)) w:=by
  intro l
  induction l with
  | nil=>intro _; simp
  | cons f l ih=>
   intro h
   have hf:=Z0e (P:=P) (w:=w) (h f (by simp))
   have ih':=ih fun g hg=>h g (by simp [hg])
   simp only [List.mapM_cons]
   simp [hf]
   simp at ih'
   simp [ih']
 have:=key fields.toList h
 rw [Array.mapM_eq_mapM_toList]
 simp only [Sem.run_map,this,Result.andThen_ok,Z49]
theorem Za5(hW:Z0D m L w)(t:TypeId){parts:List (Nat×AV)}{vals:Array (Nat×Value)}(hm:parts.map (·.1)=vals.toList.map (·.1))
  (hr:∀(j:Nat) (q:Nat×AV) (r:Nat×Value),parts[j]?=some q→vals.toList[j]?=some r→Z03 m L q.2 r.2):Z0i P m L w (Z90 P true L t parts) (Z1j (Instr.build t vals)):=by
 unfold Z90
 split
 ·rename_i fields hu
  split
  ·rename_i cs hfill
   refine Z0i.pure hW fun hp=>?_
   obtain⟨hz,hf,ho⟩:=hp
   obtain⟨z,i,hi,hzi,hza,hzr⟩:=Z0K (w:=w) hz
   rw [hza] at hfill
   obtain⟨os,h1,h2⟩:=Z52 (place:=fun i=>(Z49 P fields).toArray[i]?) (fun i=>by simp) parts vals.toList _ _ cs (Z1l z) (ho rfl) hm hr hfill
   refine⟨.agg os.toArray,?_,by simp only [Z03]; exact⟨os,rfl,h2⟩⟩
   have h1':Instr.fill (fun i=>(Z49 P fields).toArray[i]?) z.cells vals.toList=some os.toArray:=by simpa using h1
   have hmf:=Z9J (P:=P) (w:=w) hf
   simp [Instr.build,hzr,Z00 hu]
   simp at hmf
   simp [hmf]
   simp at h1'
   simp [h1']
  ·exact fun h=>h.elim
 ·rename_i n e hu
  split
  ·rename_i cs hfill
   refine Z0i.pure hW fun hp=>?_
   obtain⟨hz,hi',ho⟩:=hp
   obtain⟨z,i,hi,hzi,hza,hzr⟩:=Z0K (w:=w) hz
   rw [hza] at hfill
   obtain⟨os,h1,h2⟩:=Z52 (place:=fun i=>some (i*P.cellsOf e,P.cellsOf e)) (fun i=>rfl) parts vals.toList _ _ cs (Z1l z) (ho rfl) hm hr hfill
   refine⟨.agg os.toArray,?_,by simp only [Z03]; exact⟨os,rfl,h2⟩⟩
   have h1':Instr.fill (fun i=>some (i*P.cellsOf e,P.cellsOf e)) z.cells vals.toList=some os.toArray:=by simpa using h1
   simp [Instr.build,hzr,Z00 hu,Z0e hi',h1']
  ·exact fun h=>h.elim
 ·exact fun h=>h.elim
theorem Z1N(n:Nat)(cs:List AV):(reps n cs).length=n*cs.length:=by
 simp [reps,List.length_flatten]
theorem Zau(cs:List AV):∀(n j:Nat),j<n*cs.length→(reps n cs)[j]?=cs[j % cs.length]?
 | 0,j,h=>by simp at h
 | n+1,j,h=>by
  have e:reps (n+1) cs=cs++reps n cs:=by simp [reps,List.replicate_succ]
  rw [e]
  by_cases hj:j<cs.length
  ·rw [List.getElem?_append_left hj,Nat.mod_eq_of_lt hj]
  ·have hlt:j - cs.length<n*cs.length:=by rw [Nat.succ_mul] at h; omega
   rw [List.getElem?_append_right (by omega),Zau cs n (j - cs.length) hlt]
   rw [Nat.mod_eq_sub_mod (a:=j) (by omega)]
theorem Z3c{cs:List AV}{zs:Array Value}(h:Z0a m L cs zs.toList)(n:Nat)(hz:0<cs.length) :
  Z0a m L (reps n cs) ((Array.range (n*cs.length)).map (zs[· % zs.size]!)).toList:=by
 have hl:=h.length
 simp at hl
 refine Z0a.mk (by simp [Z1N]) fun j c u hc hu=>?_
 have hj:j<n*cs.length:=by
  have:=(List.getElem?_eq_some_iff.1 hc).1
  rwa [Z1N] at this
 rw [Zau cs n j hj] at hc
 simp [hj] at hu
 have hm:j % zs.size<zs.size:=Nat.mod_lt _ (by omega)
 rw [←hl] at hc
 obtain⟨u',hu',hr⟩:=h.get _ _ hc
 simp [hm] at hu'
 rw [getElem!_pos zs _ hm] at hu
 rw [←hu,hu']
 exact hr
theorem ZgQ{w':World}{o:Obj}(hW:Z0D m L w)(hp:Z18 w w' o) :
  Z0D { m with pobj:=fun x=>if x=w.heap.size then some o else m.pobj x } L w'∧Ext m L w { m with pobj:=fun x=>if x=w.heap.size then some o else m.pobj x } L w':=by
 have hpo:∀x o',m.pobj x=some o'→(if x=w.heap.size then some o else m.pobj x)=some o':=by
  intro x o' h
  have:=hW.pobj_lt h
  rw [if_neg (by omega)]; exact h
 have hm:Z4D m L { m with pobj:=fun x=>if x=w.heap.size then some o else m.pobj x } L:=
  ⟨hpo,fun id cs sz ver h=>⟨cs,ver,h,Nat.le_refl _,fun _=>⟨rfl,rfl,rfl⟩⟩,fun id r h=>⟨r,h,rfl⟩⟩
 refine⟨⟨hW.glob.mono hpo,fun x o' h=>?_,fun id cs sz ver hL hc=>?_,fun id cs sz ver hL hc=>hW.nils id cs sz ver hL hc,fun id r hL=>?_,fun i j hi hj e=>hW.inj i j hi hj e,fun id ho'=>?_,?_⟩,?_⟩
 ·simp only at h
  split at h
  ·rename_i e; subst e; rw [hp.new]; exact h
  ·rw [hp.old (hW.pobj_lt h)]; exact hW.pobjs _ _ h
 ·obtain⟨us,rest,elem,lo,hi,h1,h2,h3,h4⟩:=hW.rows id cs sz ver hL hc
  have hlt:m.blk id<w.heap.size:=hW.blk_lt (.inl ⟨_,_,_,hL,hc⟩)
  exact⟨us,rest,elem,lo,hi,by rw [hp.old hlt]; exact h1,Z0a.mono hm _ _ h2,h3,h4⟩
 ·obtain⟨o',h1,h2⟩:=hW.iters id r hL
  have hlt:m.blk id<w.heap.size:=hW.blk_lt (.inr ⟨_,hL⟩)
  exact⟨o',by rw [hp.old hlt]; exact h1,h2⟩
 ·have hlt:m.blk id<w.heap.size:=hW.blk_lt ho'
  simp only
  rw [if_neg (by omega)]
  exact hW.freeo id ho'
 ·refine hW.hid.keep (fun _ _ _ _ h=>⟨h,rfl,rfl⟩) (fun id T e l h _=>hp.old (hW.blk_lt (.inr ⟨_,h⟩))) (fun id g k=>hp.old (hW.hid.lt k)) (fun id g k=>?_) (fun id g k j hj=>hW.hid.own id g k j hj)
  have:=hW.hid.lt k
  simp only
  rw [if_neg (by omega)]; exact hW.hid.free id g k
 ·exact⟨fun x hx _ _=>hp.old hx,hp.keep.size,fun x hx=>by simp only; rw [if_neg (by omega)],fun id h=>.inl ⟨h,rfl⟩,Nat.le_refl _,hm,hp.keep.same,fun _ _ h=>.inl h⟩
theorem Z5J(hW:Z0D m L w)(t:TypeId)(len:Nat){parts:List (Nat×AV)}{vals:Array (Nat×Value)}(hm:parts.map (·.1)=vals.toList.map (·.1))
  (hr:∀(j:Nat) (q:Nat×AV) (r:Nat×Value),parts[j]?=some q→vals.toList[j]?=some r→Z03 m L q.2 r.2):Z0i P m L w (Z2T P true L t len parts) (Z1j (Instr.buildSlice t len vals)):=by
 unfold Z2T
 split
 ·rename_i e hu
  split
  ·rename_i cs hfill
   intro hp
   obtain⟨-,hz,hzl,hs0,hbig,ho,hone⟩:=hp
   obtain⟨z,i,hi,hzi,hza,hzr⟩:=Z0K (w:=w) hz
   have hsz:=Z0e (P:=P) (w:=w) (t:=e) (by rw [hi]; rfl)
   have hzc:Z0a m L (zeroA P e).cells z.cells.toList:=by rw [hza]; exact Z1l z
   have hzs:=Z3c hzc len (by omega)
   rw [hzl] at hzs
   obtain⟨os,h1,h2⟩:=Z52 (place:=fun i=>some (i*P.cellsOf e,P.cellsOf e)) (fun i=>rfl) parts vals.toList _ _ cs hzs ho hm hr hfill
   have hol:=h2.length
   have hcl:cs.length=len*P.cellsOf e:=by
    have:∀(parts:List (Nat×AV)) (cells out:List AV),fillA (fun i=>some (i*P.cellsOf e,P.cellsOf e)) cells parts=some out→out.length=cells.length:=by
     intro parts
     induction parts with
     | nil=>intro cells out h; simp [fillA] at h; rw [h]
     | cons q parts ih=>
      intro cells out h
      obtain⟨i,x⟩:=q
      simp only [fillA] at h
      split at h
      ·cases h
      ·rename_i hc
       rw [ih _ _ h]
       simp at hc
       simp [Z23]; omega
    rw [this _ _ _ hfill,Z1N,hzl]
   have hP:Z18 w (w.alloc (.cells os.toArray e)) (.cells (os++[]).toArray e (0,0)):=by
    have:=Z31 w os.toArray e
    simpa using this
   have hpr:=Z2u (sz:=P.cellsOf e) (c:=len) hW hP h2 (by simp; omega) (.inl rfl)
   have h1':Instr.fill (fun i=>some (i*P.cellsOf e,P.cellsOf e)) ((Array.range (len*P.cellsOf e)).map (z.cells[· % z.cells.size]!)) vals.toList=some os.toArray:=by rw [←h1]
   refine⟨.value (.slice (some ⟨w.heap.size,0,none⟩) len len),_,_,?_,.inl ⟨_,rfl,?_⟩,hpr,Z1r _ _ hP.keep⟩
   ·by_cases hne:len*P.cellsOf e=0
    ·have hz0:∀f:Nat→Value,(Array.range 0).map f=#[]:=fun f=>Array.eq_empty_of_size_eq_zero (by simp)
     have h1'':Instr.fill (fun i=>some (i*P.cellsOf e,P.cellsOf e)) #[] vals.toList=some os.toArray:=by
      rw [←h1',hne,hz0]
     simp [Z1j,Instr.buildSlice,Z00 hu,hsz,hne,newRow,hz0,h1'']
    ·simp [Z1j,Instr.buildSlice,Z00 hu,hsz,hne,show ¬16777216<len*P.cellsOf e by omega,hzr,newRow,h1']
   ·exact Z4z _ _ _ _ _ (by omega) (Nat.le_refl _)
  ·exact fun h=>h.elim
 ·exact fun h=>h.elim
theorem Z7E(hW:Z0D m L w)(t:TypeId)(len:Nat){parts:List (Nat×AV)}{vals:Array (Nat×Value)}(hm:parts.map (·.1)=vals.toList.map (·.1))
  (hr:∀(j:Nat) (q:Nat×AV) (r:Nat×Value),parts[j]?=some q→vals.toList[j]?=some r→Z03 m L q.2 r.2):Z0i P m L w (Z3t P true L t len parts) (Z1j (Instr.buildSlice t len vals)):=by
 unfold Z3t
 split
 ·rename_i e hu
  split
  ·rename_i cs hfill
   intro hp
   obtain⟨hz,hzl,hs0,hbig,ho,hone⟩:=hp
   obtain⟨z,i,hi,hzi,hza,hzr⟩:=Z0K (w:=w) hz
   have hsz:=Z0e (P:=P) (w:=w) (t:=e) (by rw [hi]; rfl)
   have hzc:Z0a m L (zeroA P e).cells z.cells.toList:=by rw [hza]; exact Z1l z
   have hzs:=Z3c hzc len (by omega)
   rw [hzl] at hzs
   obtain⟨os,h1,h2⟩:=Z52 (place:=fun i=>some (i*P.cellsOf e,P.cellsOf e)) (fun i=>rfl) parts vals.toList _ _ cs hzs ho hm hr hfill
   have hol:=h2.length
   have hcl:cs.length=len*P.cellsOf e:=by
    have:∀(parts:List (Nat×AV)) (cells out:List AV),fillA (fun i=>some (i*P.cellsOf e,P.cellsOf e)) cells parts=some out→out.length=cells.length:=by
     intro parts
     induction parts with
     | nil=>intro cells out h; simp [fillA] at h; rw [h]
     | cons q parts ih=>
      intro cells out h
      obtain⟨i,x⟩:=q
      simp only [fillA] at h
      split at h
      ·cases h
      ·rename_i hc
       rw [ih _ _ h]
       simp at hc
       simp [Z23]; omega
    rw [this _ _ _ hfill,Z1N,hzl]
   have hP:Z18 w (w.alloc (.cells os.toArray e)) (.cells (os++[]).toArray e (0,0)):=by
    have:=Z31 w os.toArray e
    simpa using this
   obtain⟨q1,q2⟩:=ZgQ hW hP
   have h1':Instr.fill (fun i=>some (i*P.cellsOf e,P.cellsOf e)) ((Array.range (len*P.cellsOf e)).map (z.cells[· % z.cells.size]!)) vals.toList=some os.toArray:=by rw [←h1]
   refine⟨.value (.slice (some ⟨w.heap.size,0,none⟩) len len),_,_,?_,.inl ⟨_,rfl,?_⟩,q1,q2⟩
   ·by_cases hne:len*P.cellsOf e=0
    ·have hz0:∀f:Nat→Value,(Array.range 0).map f=#[]:=fun f=>Array.eq_empty_of_size_eq_zero (by simp)
     have h1'':Instr.fill (fun i=>some (i*P.cellsOf e,P.cellsOf e)) #[] vals.toList=some os.toArray:=by
      rw [←h1',hne,hz0]
     simp [Z1j,Instr.buildSlice,Z00 hu,hsz,hne,newRow,hz0,h1'']
    ·simp [Z1j,Instr.buildSlice,Z00 hu,hsz,hne,show ¬16777216<len*P.cellsOf e by omega,hzr,newRow,h1']
   ·simp only [Z03]
    refine⟨_,_,rfl,Nat.le_refl _,os,Z0a.mono q2.mono _ _ h2,.inr ⟨w.heap.size,0,rfl,fun i v hi=>?_⟩⟩
    simp only [Mem.pin,Nat.zero_add,if_true]
    simpa using hi
  ·exact fun h=>h.elim
 ·exact fun h=>h.elim
theorem Z9A(hW:Z0D m L w)(t:TypeId){X:AV}{u:Value}(hx:Z03 m L X u):Z0i P m L w (Z8r P true L t X) (Z1j (Instr.range t u)):=by
 cases X <;> try exact fun h=>h.elim
 case str l=>
  intro hp
  obtain⟨-,hu⟩:=hp
  simp only [Z03] at hx; subst hx
  have hP:=Z18.alloc w (.stringIter ⟨l.toArray⟩ 0)
  refine⟨.value (.pointer (some ⟨w.heap.size,0,none⟩)),_,_,?_,.inl ⟨_,rfl,?_⟩,Z5O hW hP rfl,Z1r _ _ hP.keep⟩
  ·simp [Z1j,Instr.range,Z00 hu]
  ·simp only [Z03,Z8r]
   exact .inr ⟨.iter l 0,by simp,by simp [Mem.put]⟩
theorem ZbE(hW:Z0D m L w)(t:TypeId)(b:Bool){X:AV}{u:Value}(hx:Z03 m L X u):Z0i P m L w (ZdD true L X b) (Z1j (Instr.next u b t)):=by
 cases X <;> try exact fun h=>h.elim
 case ref id ver off=>
  simp only [ZdD]
  split
  ·rename_i s p hL
   intro hp
   obtain⟨-,rfl⟩:=hp
   simp only [Z03] at hx
   have hu:u=.pointer (some ⟨m.blk id,0,none⟩):=by
    rcases hx with ⟨_,_,_,h,_⟩ | ⟨_,h,hu⟩
    ·rw [hL] at h; simp at h
    ·exact hu
   subst hu
   obtain⟨ob,hb,hrr⟩:=hW.iters _ _ hL
   simp only [Z4s] at hrr
   subst hrr
   have hlt:m.blk id<w.heap.size:=hW.blk_lt (.inr ⟨_,hL⟩)
   have hget:(getObj (m.blk id)).run P w=.ok (.stringIter ⟨s.toArray⟩ p) w:=by simp [getObj,Sem.run,hb]
   by_cases hps:p<s.length
   ·have hset:(setObj (m.blk id) (.stringIter ⟨s.toArray⟩ (p+(Z3g s p).2))).run P w=.ok () { w with heap:=w.heap.setIfInBounds (m.blk id) (.stringIter ⟨s.toArray⟩ (p+(Z3g s p).2)) }:=by
     simp [setObj,Sem.run,hb]
    have hC:Chg w { w with heap:=w.heap.setIfInBounds (m.blk id) (.stringIter ⟨s.toArray⟩ (p+(Z3g s p).2)) } (m.blk id) (.stringIter ⟨s.toArray⟩ (p+(Z3g s p).2)):=by
     refine⟨by simp [hlt],fun g' hne _=>?_,by simp,rfl,rfl,rfl⟩
     simp [Array.getElem?_setIfInBounds,hne.symm]
    obtain⟨t1,t2⟩:=Z47 (r:=.iter s (p+(Z3g s p).2)) hW hL hC rfl
    refine⟨.value (.tuple #[.bool true,goInt p,.int .i32 (Z3g s p).1]),_,m,?_,.inl ⟨_,rfl,?_⟩,by simpa [hps] using t1,by simpa [hps] using t2⟩
    ·simp [Z1j,Instr.next,hget,Z91,hps]
     unfold Z3g at hset
     simp [hset,Z3g]
    ·simp only [Z03,hps,decide_true]
     exact⟨fun _=>⟨[.bool true,goInt p,.int .i32 (Z3g s p).1],rfl,by simp [Z0a,Z03,goInt]⟩,fun h=>by cases h⟩
   ·refine⟨.value (.tuple #[.bool false]),w,m,?_,.inl ⟨_,rfl,?_⟩,?_,?_⟩
    ·simp [Z1j,Instr.next,hget,Z91,hps]
    ·rw [show decide (p<s.length)=false by simp [hps]]
     simp only [Z03]
     exact⟨(fun h=>by cases h),fun _=>⟨[.bool false],rfl,by simp [Z0a,Z03]⟩⟩
    ·have e:L.set id (.raw (.iter s (if p<s.length then p+(Z3g s p).2 else p)))=L:=by
      rw [if_neg hps]
      apply List.ext_getElem?
      intro j
      rw [List.getElem?_set]
      split
      ·rename_i h; subst h; split <;> simp_all
      ·rfl
     show Z0D m (L.set id _) w
     rw [e]; exact hW
    ·have e:L.set id (.raw (.iter s (if p<s.length then p+(Z3g s p).2 else p)))=L:=by
      rw [if_neg hps]
      apply List.ext_getElem?
      intro j
      rw [List.getElem?_set]
      split
      ·rename_i h; subst h; split <;> simp_all
      ·rfl
     show Ext m L w m (L.set id _) w
     rw [e]; exact Ext.refl
  ·exact fun h=>h.elim
end
section
variable {P:Program} {m:Mem} {L:Z01} {w:World}
theorem Z10(a:Addr):(loadCells a 0).run P w=.ok #[] w:=by simp [loadCells,loadCellsFrom]
theorem Z8Z(a:Option Addr)(cap:Nat):(Conv.bytesToString (.slice a 0 cap)).run P w=.ok (.string ⟨#[]⟩) w:=by
 cases a with
 | none=>simp [Conv.bytesToString]; rfl
 | some a=>simp [Conv.bytesToString,Z10]; rfl
theorem Z7k(need old:Nat)(e:TypeId)(t:Nat)(h:need<2 ^ 63):need≤(Question.appendCap need old e).cut t:=by
 simp [Question.cut]
theorem Z8j(hW:Z0D m L w)(e:TypeId)(l:List UInt8)(hl:l.length<9223372036854775808):∃(w':World) (c:Nat),(Conv.stringToBytes e ⟨l.toArray⟩).run P w=.ok (.slice (some ⟨w.heap.size,0,none⟩) l.length c) w'∧l.length≤c∧
  Z0D (m.put L.length w.heap.size c) (L++[.row (l.map Z05) 1 0]) w'∧Ext m L w (m.put L.length w.heap.size c) (L++[.row (l.map Z05) 1 0]) w':=by
 obtain⟨c,hc⟩:∃c,c=(Question.appendCap l.length 0 e).cut (w.tape w.drawn (.appendCap l.length 0 e)):=⟨_,rfl⟩
 have hle:l.length≤c:=by rw [hc]; exact Z7k _ _ _ _ (by omega)
 have hsz:(⟨l.toArray⟩:ByteArray).size=l.length:=Z91 l
 have hch:(choose (.appendCap (⟨l.toArray⟩:ByteArray).size 0 e)).run P w=.ok c w.drew:=by
  rw [hsz,run_choose,hc]; rfl
 obtain⟨us,hus⟩:∃us:List Value,us=l.map fun b=>Value.int .u8 b.toNat:=⟨_,rfl⟩
 obtain⟨rest,hrest⟩:∃r:List Value,r=List.replicate (c - l.length) (.int .u8 0):=⟨_,rfl⟩
 have hlen:us.length+rest.length=c:=by simp [hus,hrest]; omega
 obtain⟨w',hw'⟩:∃w':World,w'=(w.drew.alloc (.cells (us++rest).toArray e)).freeze ⟨w.heap.size,c,none⟩ 1:=⟨_,rfl⟩
 have hP:Z18 w w' (.cells (us++rest).toArray e (c,c+1)):=by
  have hh:w'.heap=(w.heap.push (.cells (us++rest).toArray e)).modify w.heap.size (fun | .cells c' elem (lo,hi)=>.cells c' elem (if lo == hi then (c,c+1) else (min lo c,max hi (c+1))) | o=>o):=by
   rw [hw',World.freeze,if_neg (by decide)]; rfl
  refine⟨?_,?_⟩
  case refine_2=>rw [hw',World.freeze,if_neg (by decide)]; exact⟨rfl,rfl,rfl⟩
  rw [hh]
  apply Array.ext_getElem?
  intro i
  simp only [Array.getElem?_modify,Array.getElem?_push]
  by_cases hi:i=w.heap.size
  ·subst hi; simp
  ·simp [hi,Ne.symm hi]
 have hcr:Z0a m L (l.map Z05) us:=by
  rw [hus]
  refine Z0a.mk (by simp) fun j x u hx hu=>?_
  simp only [List.getElem?_map,Option.map_eq_some_iff] at hx hu
  obtain⟨b,hb,rfl⟩:=hx
  obtain⟨b',hb',rfl⟩:=hu
  rw [hb] at hb'
  obtain rfl:=Option.some.inj hb'
  simp [Z05,Z03]
 refine⟨w',c,?_,hle,Z2u (sz:=1) (c:=c) hW hP hcr (by omega) (.inr (by omega)),Z1r _ _ hP.keep⟩
 rw [hsz] at hch
 have ha:((⟨l.toArray⟩:ByteArray).data.map (fun b=>Value.int .u8 b.toNat)++Array.replicate (c - l.length) (Value.int .u8 0))=(us++rest).toArray:=by
  rw [hus,hrest]; simp
 have hms:(markStringish ⟨w.drew.heap.size,0,none⟩).run P (w.drew.alloc (.cells (us++rest).toArray e))=.ok () w':=by
  have hsh:(w.drew.alloc (.cells (us++rest).toArray e)).shape? w.drew.heap.size=some (e,c):=by
   show (match (w.heap.push (Obj.cells (us++rest).toArray e))[w.heap.size]? with | some (.cells c elem _)=>some (elem,c.size) | _=>none)=_
   simp [hlen]
  rw [hw']
  simp only [markStringish,Sem.run_bind,run_shape,Result.andThen_ok,hsh,run_freeze]
  rfl
 simp only [Conv.stringToBytes,Sem.run_bind,hsz,hch,Result.andThen_ok,newRow,run_newObj,Sem.run_pure]
 rw [ha]
 simp only [World.alloc_eq]
 rw [hms]
 rfl
theorem ZgM(m:Mem)(id:Nat):m.put id (m.blk id) (m.cap id)=m:=by
 unfold Mem.put
 congr 1
 ·funext i; split
  ·rename_i h; rw [h]
  ·rfl
 ·funext i; split
  ·rename_i h; rw [h]
  ·rfl
theorem Zkv{L:Z01}{id:Nat}{o:Z0Q}(h:L[id]?=some o):L.set id o=L:=by
 apply List.ext_getElem?
 intro j
 rw [List.getElem?_set]
 split
 ·rename_i e; subst e
  split
  ·exact h.symm
  ·rw [List.getElem?_eq_none (by omega)]
 ·rfl
theorem ZfH(hW:Z0D m L w)(t e:TypeId)(ht:P.underlying t=some (.slice e))(he:P.underlying e=some (.int .u8)){id ver off n:Nat}{u:Value}(hx:Z03 m L (.msl id ver off n) u)(hn:0<n)(hf:Z14 L id ver)(hs1:Z1K L id=1) :
  ∃w',(convert t t u).run P w=.ok u w'∧Z0D m L w'∧Ext m L w m L w':=by
 obtain⟨cs,sz,hL,hr,hsz⟩:=Z0H hf
 have hsz1:sz=1:=by rw [←hsz,hs1]
 obtain⟨k1,k2,a,rfl,ha⟩:=Z0N hx hf
 have hcap:m.cap id≠0:=by omega
 have ha':a=some ⟨m.blk id,off*sz,none⟩:=by
  rcases ha with ha | ha
  ·omega
  ·rw [ha,hsz]
 subst ha'
 obtain⟨us,rest,elem,lo,hi,hb,hc,hl,hfz⟩:=hW.rows _ _ _ _ hL hcap
 obtain⟨N,hN⟩:∃N,N=(us++rest).toArray.size:=⟨_,rfl⟩
 have hNl:N=m.cap id*sz:=by rw [hN]; simp; omega
 obtain⟨w',hw'⟩:∃w':World,w'=w.freeze ⟨m.blk id,N,none⟩ 1:=⟨_,rfl⟩
 have hh:w'.heap=w.heap.modify (m.blk id) (fun | .cells c' elem (lo,hi)=>.cells c' elem (if lo == hi then (N,N+1) else (min lo N,max hi (N+1))) | o=>o):=by
  rw [hw',World.freeze,if_neg (by decide)]; rfl
 have hC:Chg w w' (m.blk id) (.cells (us++rest).toArray elem (if lo == hi then (N,N+1) else (min lo N,max hi (N+1)))):=by
  refine⟨?_,fun g' hg _=>?_,?_,?_⟩
  ·rw [hh,Array.getElem?_modify,if_pos rfl,hb]; rfl
  ·rw [hh,Array.getElem?_modify,if_neg (Ne.symm hg)]
  ·rw [hh]; simp
  ·rw [hw',World.freeze,if_neg (by decide)]; exact⟨rfl,rfl,rfl⟩
 obtain⟨lo',hi',hlh⟩:∃lo' hi',(if lo == hi then (N,N+1) else (min lo N,max hi (N+1)))=(lo',hi'):=⟨_,_,rfl⟩
 rw [hlh] at hC
 have hf':hi'=lo'∨(m.cap id*sz≤lo'∧sz=1):=by
  right
  by_cases hlo:lo=hi
  ·subst hlo; simp at hlh; omega
  ·have:(lo == hi)=false:=by simpa using hlo
   rw [this] at hlh
   simp at hlh
   rcases hfz with hfz | hfz
   ·exact absurd hfz.symm hlo
   ·omega
 obtain⟨t1,t2⟩:=Z2Y hW hL (cs:=cs) (ver':=ver) (g:=m.blk id) (c:=m.cap id) (.inl ⟨rfl,hcap⟩) hC hc hl hf' hcap (.inl ⟨rfl,rfl,rfl,rfl⟩)
 rw [ZgM,Zkv hL] at t1 t2
 refine⟨w',?_,t1,t2⟩
 have hsh:w.shape? (m.blk id)=some (elem,N):=by simp [World.shape?,hb,hN]
 simp [convert,Z00 ht,Z00 he,markStringish,hsh,hw']
theorem ZbS(hW:Z0D m L w)(src dst:TypeId){X:AV}{u:Value}(hx:Z03 m L X u):Z0i P m L w (ZfI P true L src dst X) (Z1j (convert src dst u)):=by
 unfold ZfI
 split
 ·rename_i k n
  simp only [Z03] at hx; subst hx
  split
  ·rename_i k' hd
   refine Z0i.pure hW fun hp=>?_
   obtain⟨d,hs⟩:=Option.isSome_iff_exists.1 hp
   refine⟨.int k' (k'.wrap n),?_,by simp [Z03]⟩
   simp [convert,Z00 hs,Z00 hd,Conv.intToInt]
  ·exact fun h=>h.elim
 ·rename_i l
  simp only [Z03] at hx; subst hx
  split
  ·rename_i hd
   refine Z0i.pure hW fun hp=>?_
   exact⟨.string ⟨l.toArray⟩,by simp [convert,Z00 hp,Z00 hd],by simp [Z03]⟩
  ·rename_i e hd
   intro hp
   obtain⟨-,hs,he,hl⟩:=hp
   obtain⟨w',c,hr,hle,h1,h2⟩:=Z8j (P:=P) hW e l hl
   refine⟨.value (.slice (some ⟨w.heap.size,0,none⟩) l.length c),w',_,?_,.inl ⟨_,rfl,Z4z _ _ _ _ _ (by simp) hle⟩,h1,h2⟩
   simp [Z1j,convert,Z00 hs,Z00 hd,Z00 he,hr]
  ·exact fun h=>h.elim
 ·rename_i cs n
  refine Z0i.pure hW fun hp=>?_
  obtain⟨hd,⟨e,hs,he⟩,hp⟩:=hp
  obtain⟨hb,hn⟩:=hp rfl
  simp only [Z03] at hx
  obtain⟨a,cap,rfl,hle,us,hc,hpin⟩:=hx
  refine⟨.string ⟨(Z0C cs).toArray⟩,?_,by simp [Z03]⟩
  have hr:(Conv.bytesToString (.slice a n cap)).run P w=.ok (.string ⟨(Z0C cs).toArray⟩) w:=by
   rcases hpin with rfl | ⟨g,o,rfl,hpin⟩
   ·have:=hc.length
    have hcs:cs=[]:=List.eq_nil_of_length_eq_zero (by rw [←this]; rfl)
    subst hcs
    simp at hn; subst hn
    rw [Z8Z]; rfl
   ·have:=Z2S (P:=P) (w:=w) (g:=g) (o:=o) hc hb (fun j v hj=>hW.pins _ _ _ (hpin j v hj)) cap
    rwa [hn] at this
  simp [convert,Z00 hs,Z00 hd,Z00 he,hr]
 ·rename_i id ver off n
  split
  ·rename_i e hd
   intro hp
   obtain⟨rfl,he,hp⟩:=hp
   obtain⟨hn,hf,hs1⟩:=hp rfl
   obtain⟨w',h1,h2,h3⟩:=ZfH (P:=P) hW src e hd he hx hn hf hs1
   exact⟨.value u,w',m,by simp [Z1j,h1],.inl ⟨_,rfl,hx⟩,h2,h3⟩
  ·refine Z0i.pure hW fun hp=>?_
   obtain⟨hd,⟨e,hs,he⟩,hp⟩:=hp
   obtain⟨hb,hsz1,hf⟩:=hp rfl
   obtain⟨cs,sz,hL,hr,hsz⟩:=Z0H hf
   obtain⟨k1,k2,a,rfl,ha⟩:=Z0N hx hf
   rw [hr] at hb ⊢
   rw [hsz1,hr] at k1
   rw [hsz1] at ha
   obtain⟨us,hc,hcell,_⟩:=Z1E hW hL
   refine⟨.string ⟨(Z0C ((cs.drop off).take n)).toArray⟩,?_,by simp [Z03]⟩
   have hln:((cs.drop off).take n).length=n:=by simp; omega
   have hr':(Conv.bytesToString (.slice a n (m.cap id - off))).run P w=.ok (.string ⟨(Z0C ((cs.drop off).take n)).toArray⟩) w:=by
    by_cases hn:n=0
    ·subst hn; rw [Z8Z]; simp [Z0C]
    ·have ha':a=some ⟨m.blk id,off,none⟩:=by
      rcases ha with ha | ha
      ·omega
      ·simpa using ha
     subst ha'
     have:=Z2S (P:=P) (w:=w) (g:=m.blk id) (o:=off) ((hc.drop off).take n) hb (fun j v hj=>by
      rw [List.getElem?_take,List.getElem?_drop] at hj
      split at hj
      ·exact hcell _ _ hj
      ·cases hj) (m.cap id - off)
     rwa [hln] at this
   simp [convert,Z00 hs,Z00 hd,Z00 he,hr']
 ·rename_i n c
  simp only [Z03] at hx; subst hx
  refine Z0i.pure hW fun hp=>?_
  obtain⟨hd,e,hs,he⟩:=hp
  refine⟨.string ⟨#[]⟩,?_,by simp [Z03]⟩
  simp [convert,Z00 hs,Z00 hd,Z00 he,Conv.bytesToString]
  rfl
 ·exact fun h=>h.elim
theorem Z61(hW:Z0D m L w){X:AV}{u:Value}{sz:Nat}(hx:Z03 m L X u)(ho:Z3J L sz X):∃vs,Z0a m L (Z0B L sz X) vs∧vs.length=Z0l X*sz∧
  ∀w':World,w'.heap=w.heap→(Builtin.lenOf u).run P w'=.ok (Z0l X) w'∧(Builtin.firstCells sz (Z0l X) u).run P w'=.ok vs.toArray w':=by
 cases X <;> try exact ho.elim
 case str l=>
  simp only [Z03] at hx; subst hx
  simp only [Z3J] at ho; subst ho
  refine⟨l.map fun b=>Value.int .u8 b.toNat,?_,by simp [Z0l],fun w' _=>⟨by simp [Builtin.lenOf,Z91,Z0l],?_⟩⟩
  ·simp only [Z0B]
   refine Z0a.mk (by simp) fun j x u hx hu=>?_
   simp only [List.getElem?_map,Option.map_eq_some_iff] at hx hu
   obtain⟨b,hb,rfl⟩:=hx
   obtain⟨b',hb',rfl⟩:=hu
   rw [hb] at hb'
   obtain rfl:=Option.some.inj hb'
   simp [Z05,Z03]
  ·have e:((⟨l.toArray⟩:ByteArray).extract 0 l.length).data=l.toArray:=by simp
   simp [Builtin.firstCells,Z0l,e]
 case lit v=>
  simp only [Z03] at hx; subst hx
  have hv:u=.slice none 0 0:=by
   unfold Z3J at ho
   split at ho <;> first | exact ho.elim | simp_all
  subst hv
  exact⟨[],by simp [Z0B,Z0a],by simp [Z0l],fun w' _=>⟨by simp [Builtin.lenOf,Z0l],by simp [Builtin.firstCells]⟩⟩
 case sl cs n=>
  simp only [Z03] at hx
  obtain⟨a,cap,rfl,hle,us,hc,hpin⟩:=hx
  simp only [Z3J] at ho
  have hl:=hc.length
  refine⟨us,by simpa [Z0B] using hc,by simp only [Z0l]; omega,fun w' hw'=>⟨by simp [Builtin.lenOf,Z0l],?_⟩⟩
  simp only [Z0l]
  rcases hpin with rfl | ⟨g,o,rfl,hpin⟩
  ·have hz:n*sz=0:=by simp at hl; omega
   cases a with
   | none=>simp [Builtin.firstCells]
   | some a=>simp only [Builtin.firstCells]; rw [hz]; exact Z10 a
  ·have:=Z0R (P:=P) (w:=w') g o us (n*sz) (by omega) (fun j v hj=>by have:=hW.pins _ _ _ (hpin j v hj); simpa [World.cell?,hw'] using this)
   simp only [Builtin.firstCells]
   rw [this,List.take_of_length_le (by omega)]
 case msl id ver off n=>
  simp only [Z3J] at ho
  obtain⟨hf,hs⟩:=ho
  obtain⟨cs,sz',hL,hr,hsz⟩:=Z0H hf
  obtain⟨k1,k2,a,rfl,ha⟩:=Z0N hx hf
  rw [hs,hr] at k1
  rw [hs] at ha
  obtain⟨us,hc,hcell,_⟩:=Z1E hW hL
  have hl:=hc.length
  rw [Nat.add_mul] at k1
  have hln:((us.drop (off*sz)).take (n*sz)).length=n*sz:=by simp; omega
  refine⟨(us.drop (off*sz)).take (n*sz),by simp only [Z0B,hr]; exact (hc.drop _).take _,by simp only [Z0l]; exact hln,fun w' hw'=>⟨by simp [Builtin.lenOf,Z0l],?_⟩⟩
  simp only [Z0l]
  rcases ha with ha | ha
  ·have hn:n=0:=by omega
   subst hn
   cases a with
   | none=>simp [Builtin.firstCells]
   | some a=>simp only [Builtin.firstCells,Nat.zero_mul]; rw [Z10]; simp
  ·subst ha
   have:=Z0R (P:=P) (w:=w') (m.blk id) (off*sz) (us.drop (off*sz)) (n*sz) (by simp; omega) (fun j v hj=>by rw [List.getElem?_drop] at hj; have:=hcell _ _ hj; simpa [World.cell?,hw'] using this)
   simp only [Builtin.firstCells]
   exact this
theorem Z8l{α:Type}{l:List α}{i:Nat}{x:α}(h:l[i]?=some x):l.set i x=l:=by
 apply List.ext_getElem?
 intro j
 rw [List.getElem?_set]
 split
 ·rename_i e
  subst e
  have:=(List.getElem?_eq_some_iff.1 h).1
  rw [if_pos this,h]
 ·rfl
theorem Zcl(hW:Z0D m L w){X:AV}{u:Value}{sz:Nat}(hx:Z03 m L X u)(ho:Z3J L sz X):∃vs,Z0a m L (Z0B L sz X) vs∧vs.length=Z0l X*sz∧
  (Builtin.lenOf u).run P w=.ok (Z0l X) w∧∀q,q≤Z0l X→(Builtin.firstCells sz q u).run P w=.ok (vs.take (q*sz)).toArray w:=by
 cases X <;> try exact ho.elim
 case str l=>
  simp only [Z03] at hx; subst hx
  simp only [Z3J] at ho; subst ho
  refine⟨l.map fun b=>Value.int .u8 b.toNat,?_,by simp [Z0l],by simp [Builtin.lenOf,Z91,Z0l],fun q hq=>?_⟩
  ·simp only [Z0B]
   refine Z0a.mk (by simp) fun j x u hx hu=>?_
   simp only [List.getElem?_map,Option.map_eq_some_iff] at hx hu
   obtain⟨b,hb,rfl⟩:=hx
   obtain⟨b',hb',rfl⟩:=hu
   rw [hb] at hb'
   obtain rfl:=Option.some.inj hb'
   simp [Z05,Z03]
  ·simp only [Z0l] at hq
   have e:((⟨l.toArray⟩:ByteArray).extract 0 q).data=(l.take q).toArray:=by simp
   simp [Builtin.firstCells,e,List.map_take]
 case lit v=>
  simp only [Z03] at hx; subst hx
  have hv:u=.slice none 0 0:=by
   unfold Z3J at ho
   split at ho <;> first | exact ho.elim | simp_all
  subst hv
  exact⟨[],by simp [Z0B,Z0a],by simp [Z0l],by simp [Builtin.lenOf,Z0l],fun q hq=>by simp [Builtin.firstCells]⟩
 case sl cs n=>
  simp only [Z03] at hx
  obtain⟨a,cap,rfl,hle,us,hc,hpin⟩:=hx
  simp only [Z3J] at ho
  have hl:=hc.length
  refine⟨us,by simpa [Z0B] using hc,by simp only [Z0l]; omega,by simp [Builtin.lenOf,Z0l],fun q hq=>?_⟩
  simp only [Z0l] at hq
  have hqn:q*sz≤n*sz:=Nat.mul_le_mul_right _ hq
  rcases hpin with rfl | ⟨g,o,rfl,hpin⟩
  ·have hz:q*sz=0:=by simp at hl; omega
   cases a with
   | none=>simp [Builtin.firstCells]
   | some a=>simp only [Builtin.firstCells]; rw [hz]; exact Z10 a
  ·have:=Z0R (P:=P) (w:=w) g o us (q*sz) (by omega) (fun j v hj=>hW.pins _ _ _ (hpin j v hj))
   simp only [Builtin.firstCells]
   exact this
 case msl id ver off n=>
  simp only [Z3J] at ho
  obtain⟨hf,hs⟩:=ho
  obtain⟨cs,sz',hL,hr,hsz⟩:=Z0H hf
  obtain⟨k1,k2,a,rfl,ha⟩:=Z0N hx hf
  rw [hs,hr] at k1
  rw [hs] at ha
  obtain⟨us,hc,hcell,_⟩:=Z1E hW hL
  have hl:=hc.length
  rw [Nat.add_mul] at k1
  have hln:((us.drop (off*sz)).take (n*sz)).length=n*sz:=by simp; omega
  refine⟨(us.drop (off*sz)).take (n*sz),by simp only [Z0B,hr]; exact (hc.drop _).take _,by simp only [Z0l]; exact hln,by simp [Builtin.lenOf,Z0l],fun q hq=>?_⟩
  simp only [Z0l] at hq
  have hqn:q*sz≤n*sz:=Nat.mul_le_mul_right _ hq
  rw [List.take_take,Nat.min_eq_left hqn]
  rcases ha with ha | ha
  ·have hn:q=0:=by omega
   subst hn
   cases a with
   | none=>simp [Builtin.firstCells]
   | some a=>simp only [Builtin.firstCells,Nat.zero_mul]; rw [Z10]; simp
  ·subst ha
   have:=Z0R (P:=P) (w:=w) (m.blk id) (off*sz) (us.drop (off*sz)) (q*sz) (by simp; omega) (fun j v hj=>by rw [List.getElem?_drop] at hj; exact hcell _ _ hj)
   simp only [Builtin.firstCells]
   exact this
theorem ZbR(hW:Z0D m L w)(t tx ty:TypeId){X Y:AV}{u v:Value}(hx:Z03 m L X u)(hy:Z03 m L Y v):Z0i P m L w (ZfG P true L t X Y) (Z1j (Builtin.copy_ #[t,tx] ty #[u,v])):=by
 unfold ZfG
 split
 ·rename_i e id ver off n hu
  intro hp
  obtain⟨-,hie,hpos,ho,hone,hf,hsz,hle⟩:=hp
  obtain⟨cs,sz,hL,hr,hsz'⟩:=Z0H hf
  obtain⟨k1,k2,a,rfl,ha⟩:=Z0N hx hf
  have he:sz=P.cellsOf e:=by rw [←hsz',hsz]
  subst he
  rw [hsz] at ha
  obtain⟨vs,hvc,hvl,hlen,hfirst⟩:=Zcl (P:=P) hW hy ho
  obtain⟨q,hq⟩:∃q,q=min (Z0l Y) n:=⟨_,rfl⟩
  have hq1:q≤Z0l Y:=by omega
  have hq2:q≤n:=by omega
  have hf1:=hfirst q hq1
  have hso:=Z0e (P:=P) (w:=w) hie
  have hqs:q*P.cellsOf e≤Z0l Y*P.cellsOf e:=Nat.mul_le_mul_right _ hq1
  have hqn:q*P.cellsOf e≤n*P.cellsOf e:=Nat.mul_le_mul_right _ hq2
  rw [hr,Nat.add_mul] at hle
  rw [←hq] at hone
  rw [hr,←hq]
  have hmin:Nat.min (Z0l Y) n=q:=hq.symm
  by_cases hcap:m.cap id=0
  ·have hcs:=hW.nils _ _ _ _ hL hcap
   have hn0:n=0:=by
    rw [hcs,List.length_nil] at hle
    rcases Nat.eq_zero_or_pos n with h | h
    ·exact h
    ·have:=Nat.mul_pos h hpos; omega
   have hq0:q=0:=by omega
   rw [hcs,hq0,Nat.zero_mul,List.take_zero]
   have e0:Z23 ([]:List AV) (off*P.cellsOf e) []=[]:=by simp [Z23]
   rw [e0]
   have eL:L.set id (.row [] (P.cellsOf e) ver)=L:=by rw [←hcs]; exact Z8l hL
   rw [hq0] at hf1 hmin
   refine⟨.value (.int .i64 0),w,m,?_,.inl ⟨_,rfl,by simp [Z03]⟩,?_,?_⟩
   ·cases a with
    | none=>simp [Z1j,Builtin.copy_,Z00 hu,hlen,hmin,hso,hf1,goInt]
    | some b=>simp [Z1j,Builtin.copy_,Z00 hu,hlen,hmin,hso,hf1,goInt,storeCells]
   ·show Z0D m (L.set id (.row [] (P.cellsOf e) ver)) w
    rw [eL]; exact hW
   ·show Ext m L w m (L.set id (.row [] (P.cellsOf e) ver)) w
    rw [eL]; exact Ext.refl
  ·obtain⟨us,rest,elem,lo,hi',hb,hc,hlen2,hfz⟩:=hW.rows _ _ _ _ hL hcap
   have hul:=hc.length
   have hds:((Z0B L (P.cellsOf e) Y).take (q*P.cellsOf e)).length=q*P.cellsOf e:=by rw [List.length_take,←hvc.length,hvl]; omega
   have hvt:(vs.take (q*P.cellsOf e)).length=q*P.cellsOf e:=by rw [List.length_take,hvl]; omega
   have hvone:∀x∈vs.take (q*P.cellsOf e),x.oneCell'=true:=fun x hx=>Z2c (hvc.take _) hone x hx
   rcases Nat.eq_zero_or_pos q with hq0 | hq0
   ·have e0:Z23 cs (off*P.cellsOf e) ((Z0B L (P.cellsOf e) Y).take (q*P.cellsOf e))=cs:=by rw [hq0]; simp [Z23]
    rw [e0]
    have eL:L.set id (.row cs (P.cellsOf e) ver)=L:=Z8l hL
    rw [hq0] at hf1 hmin
    refine⟨.value (.int .i64 (q:Int)),w,m,?_,.inl ⟨_,rfl,by simp [Z03]⟩,?_,?_⟩
    ·rw [hq0]
     cases a with
     | none=>simp [Z1j,Builtin.copy_,Z00 hu,hlen,hmin,hso,hf1,goInt]
     | some b=>simp [Z1j,Builtin.copy_,Z00 hu,hlen,hmin,hso,hf1,goInt,storeCells]
    ·show Z0D m (L.set id (.row cs (P.cellsOf e) ver)) w
     rw [eL]; exact hW
    ·show Ext m L w m (L.set id (.row cs (P.cellsOf e) ver)) w
     rw [eL]; exact Ext.refl
   have ha':a=some ⟨m.blk id,off*P.cellsOf e,none⟩:=by
    rcases ha with ha | ha
    ·omega
    ·exact ha
   subst ha'
   obtain⟨w',hrun,hC,hs⟩:=Z1X (P:=P) (m.blk id) (off*P.cellsOf e) (vs.take (q*P.cellsOf e)) 0 w (us++rest) elem lo hi' hb (by simp at *; omega) (fun j h1 h2=>by
    rw [hvt] at h2
    have:(off+n)*P.cellsOf e≤m.cap id*P.cellsOf e:=Nat.mul_le_mul_right _ k2
    rw [Nat.add_mul] at this
    rcases hfz with h | h <;> omega) hvone
   have e1:(us++rest).take (off*P.cellsOf e+0)++vs.take (q*P.cellsOf e)++(us++rest).drop (off*P.cellsOf e+0+(vs.take (q*P.cellsOf e)).length)=(us.take (off*P.cellsOf e)++vs.take (q*P.cellsOf e)++us.drop (off*P.cellsOf e+(vs.take (q*P.cellsOf e)).length))++rest:=by
    rw [Nat.add_zero,List.take_append_of_le_length (by omega),List.drop_append_of_le_length (by omega)]
    simp
   rw [e1] at hC
   have hsa:=Z2r cs (off*P.cellsOf e) ((Z0B L (P.cellsOf e) Y).take (q*P.cellsOf e)) us (vs.take (q*P.cellsOf e)) hc (hvc.take _)
   have hlen3:(us.take (off*P.cellsOf e)++vs.take (q*P.cellsOf e)++us.drop (off*P.cellsOf e+(vs.take (q*P.cellsOf e)).length)).length=us.length:=by
    rw [List.length_append,List.length_append,hvt,List.length_take,List.length_drop]; omega
   obtain⟨t1,t2⟩:=Z2Y hW hL (cs:=Z23 cs (off*P.cellsOf e) ((Z0B L (P.cellsOf e) Y).take (q*P.cellsOf e))) (ver':=ver) (g:=m.blk id) (c:=m.cap id) (.inl ⟨rfl,hcap⟩) hC hsa (by rw [hlen3]; exact hlen2) hfz hcap
    (.inl ⟨rfl,by have:=hsa.length; omega,rfl,rfl⟩)
   refine⟨.value (.int .i64 (q:Int)),w',m.put id (m.blk id) (m.cap id),?_,.inl ⟨_,rfl,by simp [Z03]⟩,t1,t2⟩
   simp [Z1j,Builtin.copy_,Z00 hu,hlen,hmin,hso,hf1,goInt,hrun]
 ·exact fun h=>h.elim
theorem Zlb(d:TypeDesc)(h:∀k,d≠.int k):(match d with | .int _=>true | _=>false)=false:=by
 cases d <;> first | rfl | exact absurd rfl (h _)
theorem Z1k(zs:Array Value)(n:Nat):(Builtin.zeroCells zs n).toList.length=n*zs.size:=by simp [Builtin.zeroCells]
theorem Z4l(t tx ty:TypeId){e:TypeId}(hu:P.underlying t=some (.slice e))(h1:∀k,P.underlying tx≠some (.int k))(h2:(P.underlying tx).isSome=true)(hz:Z1b P e)(hb:0<P.bytesOf e)
  (base:Option Addr) (n k c:Nat) (x:Value) (hlen:(Builtin.lenOf x).run P w=.ok k w) (hroom:(n+k)*P.bytesOf e≤140737488355328) {w':World} {v:Value}
  (hin:n+k≤c→∃news:Array Value,(Builtin.firstCells (P.cellsOf e) k x).run P w=.ok news w∧(∀a,base=some a→(storeCells (a.add (n*P.cellsOf e)) news.toList).run P w=.ok () w')∧(base=none→w'=w)∧v=.slice base (n+k) c)
  (hout:c<n+k→∃(z:Value) (olds news:Array Value),(zeroValue e).run P w.drew=.ok z w.drew∧(Builtin.firstCells (P.cellsOf e) n (.slice base n c)).run P w.drew=.ok olds w.drew∧(Builtin.firstCells (P.cellsOf e) k x).run P w.drew=.ok news w.drew∧
   w'=w.drew.alloc (.cells (olds++news++Builtin.zeroCells z.cells ((Question.appendCap (n+k) c e).cut (w.tape w.drawn (.appendCap (n+k) c e)) - (n+k))) e)∧
   v=.slice (some ⟨w.heap.size,0,none⟩) (n+k) ((Question.appendCap (n+k) c e).cut (w.tape w.drawn (.appendCap (n+k) c e)))) :
  (Builtin.append_ #[t,tx] ty #[.slice base n c,x]).run P w=.ok v w':=by
 have hi:(P.info? e).isSome=true:=by
  obtain⟨z,i,hi,_⟩:=Z0K (w:=w) hz; rw [hi]; rfl
 have hsz:=Z0e (P:=P) (w:=w) hi
 obtain⟨i,hie,hcs,hby⟩:=Z3h hi
 obtain⟨dx,hdx⟩:=Option.isSome_iff_exists.1 h2
 have hdx':∀k,dx≠.int k:=fun k h=>h1 k (by rw [hdx,h])
 have hmatch:=Zlb dx hdx'
 by_cases hnk:n+k≤c
 ·obtain⟨news,hn1,hn2,hn3,rfl⟩:=hin hnk
  cases base with
  | none=>simp [Builtin.append_,Z00 hu,hsz,Z00 hdx,hmatch,hlen,hnk,hn1,hn3]
  | some a=>simp [Builtin.append_,Z00 hu,hsz,Z00 hdx,hmatch,hlen,hnk,hn1,hn2 a rfl]
 ·obtain⟨z,olds,news,hzr,ho1,ho2,rfl,rfl⟩:=hout (by omega)
  have hfits:=growslice_fits (need:=n+k) (old:=c) (bytes:=P.bytesOf e) (by omega) hroom
  have hb0:i.bytes≠0:=by rw [←hby]; omega
  have hti:(typeInfo e).run P w=.ok i w:=by simp [typeInfo,hie]
  have hti':(typeInfo e).run P w.drew=.ok i w.drew:=by simp [typeInfo,hie]
  have hsz':=Z0e (P:=P) (w:=w.drew) hi
  simp [Builtin.append_,Z00 hu,hsz,Z00 hdx,hmatch,hlen,hnk,hti,hti',hb0,←hby,show ¬281474976710656<Builtin.nextslicecap (n+k) c*P.bytesOf e by omega,Question.forced,hzr,ho1,ho2,newRow]
  intro _ h0; omega
theorem Z1f{e:TypeId}(h:Z2j P e=true):Z1b P e∧(zeroA P e).cells.length=P.cellsOf e∧0<P.cellsOf e∧0<P.bytesOf e:=by
 simp only [Z2j,Bool.and_eq_true,beq_iff_eq,decide_eq_true_eq] at h
 exact h
theorem Z4t{t:TypeId}(h:Z6G P t=true):(∀k,P.underlying t≠some (.int k))∧(P.underlying t).isSome=true:=by
 unfold Z6G at h
 split at h
 ·cases h
 ·rename_i d hd hu
  rw [hu]
  exact⟨fun k hk=>hd k (Option.some.inj hk),rfl⟩
 ·cases h
theorem Z5L(hW:Z0D m L w)(t tx ty:TypeId){Y:AV}{v:Value}(hy:Z03 m L Y v){e:TypeId}(hu:P.underlying t=some (.slice e))(hek:Z2j P e=true)
  (htx:Z6G P tx=true) (ho:Z3J L (P.cellsOf e) Y)
  (hroom:Z0l Y*P.bytesOf e≤140737488355328) :
  ∃u w' m',(Builtin.append_ #[t,tx] ty #[.slice none 0 0,v]).run P w=.ok u w'∧Z03 m' (L++[.row (Z0B L (P.cellsOf e) Y) (P.cellsOf e) 0]) (.msl L.length 0 0 (Z0l Y)) u∧
   Z0D m' (L++[.row (Z0B L (P.cellsOf e) Y) (P.cellsOf e) 0]) w'∧Ext m L w m' (L++[.row (Z0B L (P.cellsOf e) Y) (P.cellsOf e) 0]) w':=by
 obtain⟨hz,hzl,hs,hb⟩:=Z1f hek
 obtain⟨h1,h2⟩:=Z4t htx
 obtain⟨vs,hvc,hvl,hrun⟩:=Z61 hW hy ho
 by_cases h0:Z0l Y=0
 ·have hcs:Z0B L (P.cellsOf e) Y=[]:=by
   have:=hvc.length; rw [h0] at hvl; simp at hvl; rw [hvl] at this; exact List.eq_nil_of_length_eq_zero this.symm
  rw [hcs,h0]
  refine⟨.slice none 0 0,w,m.put L.length w.heap.size 0,?_,?_,ZgN hW _,Z1r _ _ (ZiC.refl w)⟩
  ·have h:=Z4l (w:=w) (w':=w) (v:=.slice none (0+Z0l Y) 0) t tx ty hu h1 h2 hz hb none 0 (Z0l Y) 0 v (hrun w rfl).1 (by rw [Nat.zero_add]; exact hroom)
    (fun _=>⟨vs.toArray,(hrun w rfl).2,(fun a h=>by cases h),fun _=>rfl,rfl⟩) (fun h=>by omega)
   rw [h,h0]
  ·simp only [Z03]
   exact⟨[],P.cellsOf e,0,by simp,Nat.le_refl _,⟨_,_,_,rfl⟩,fun _=>⟨by simp,by simp,none,by simp [Mem.put],.inl (by simp [Mem.put])⟩⟩
 ·obtain⟨z,i,hi,hzi,hza,hzr⟩:=Z0K (w:=w.drew) hz
  obtain⟨c,hc⟩:∃c,c=(Question.appendCap (0+Z0l Y) 0 e).cut (w.tape w.drawn (.appendCap (0+Z0l Y) 0 e)):=⟨_,rfl⟩
  have hn:Z0l Y<2 ^ 63:=by
   have:Z0l Y*1≤Z0l Y*P.bytesOf e:=Nat.mul_le_mul_left _ hb
   omega
  have hle:Z0l Y≤c:=by rw [hc]; have:=Z7k (0+Z0l Y) 0 e (w.tape w.drawn (.appendCap (0+Z0l Y) 0 e)) (by omega); omega
  have hzs:z.cells.size=P.cellsOf e:=by
   have:=(Z1l (m:=m) (L:=L) z).length
   rw [←hza,hzl] at this
   simpa using this
  have hP:Z18 w (w.drew.alloc (.cells (#[]++vs.toArray++Builtin.zeroCells z.cells (c - (0+Z0l Y))) e)) (.cells (vs++(Builtin.zeroCells z.cells (c - (0+Z0l Y))).toList).toArray e (0,0)):=by
   have:(#[]++vs.toArray++Builtin.zeroCells z.cells (c - (0+Z0l Y)))=(vs++(Builtin.zeroCells z.cells (c - (0+Z0l Y))).toList).toArray:=by simp
   rw [this]; exact⟨rfl,rfl,rfl,rfl⟩
  have hlen:vs.length+(Builtin.zeroCells z.cells (c - (0+Z0l Y))).toList.length=c*P.cellsOf e:=by
   rw [Z1k,hvl,hzs,←Nat.add_mul]; congr 1; omega
  refine⟨.slice (some ⟨w.heap.size,0,none⟩) (0+Z0l Y) c,_,m.put L.length w.heap.size c,?_,?_,Z2u hW hP hvc hlen (.inl rfl),Z1r _ _ hP.keep⟩
  ·refine Z4l (w:=w) t tx ty hu h1 h2 hz hb none 0 (Z0l Y) 0 v (hrun w rfl).1 (by rw [Nat.zero_add]; exact hroom) (fun h=>by omega)
    (fun _=>⟨z,#[],vs.toArray,hzr,by simp [Builtin.firstCells],(hrun w.drew rfl).2,by rw [hc],by rw [hc]⟩)
  ·rw [Nat.zero_add]
   exact Z4z _ _ _ _ _ (by rw [←hvl,hvc.length]; exact Nat.le_refl _) hle
theorem Z41(hW:Z0D m L w)(t tx ty:TypeId){x s:Value}{e:TypeId}(hek:Z2j P e=true){ds:List AV}{k:Nat}{vs:List Value}(hvc:Z0a m L ds vs)(hvl:vs.length=k*P.cellsOf e)(hone:Z0b ds=true){id ver n:Nat}(hf:Z14 L id ver)(hsz:Z1K L id=P.cellsOf e)(hx:Z03 m L (.msl id ver 0 n) s)
  (hfull:(Z0L L id).length=n*P.cellsOf e) (hroom:(n+k)*P.bytesOf e≤140737488355328)
  (hrunA:∀(base:Option Addr) (c:Nat) (w':World) (v:Value),(n+k≤c→(∀a,base=some a→(storeCells (a.add (n*P.cellsOf e)) vs).run P w=.ok () w')∧(base=none→vs=[]∧w'=w)∧v=.slice base (n+k) c)→
   (c<n+k→∃(z:Value) (olds:Array Value),(zeroValue e).run P w.drew=.ok z w.drew∧(Builtin.firstCells (P.cellsOf e) n (.slice base n c)).run P w.drew=.ok olds w.drew∧
    w'=w.drew.alloc (.cells (olds++vs.toArray++Builtin.zeroCells z.cells ((Question.appendCap (n+k) c e).cut (w.tape w.drawn (.appendCap (n+k) c e)) - (n+k))) e)∧
    v=.slice (some ⟨w.heap.size,0,none⟩) (n+k) ((Question.appendCap (n+k) c e).cut (w.tape w.drawn (.appendCap (n+k) c e))))→
   (Builtin.append_ #[t,tx] ty #[.slice base n c,x]).run P w=.ok v w') :
  ∃u w' m',(Builtin.append_ #[t,tx] ty #[s,x]).run P w=.ok u w'∧Z03 m' (L.set id (.row (Z0L L id++ds) (P.cellsOf e) (ver+1))) (.msl id (ver+1) 0 (n+k)) u∧
   Z0D m' (L.set id (.row (Z0L L id++ds) (P.cellsOf e) (ver+1))) w'∧Ext m L w m' (L.set id (.row (Z0L L id++ds) (P.cellsOf e) (ver+1))) w':=by
 obtain⟨hz,hzl,hs,hb⟩:=Z1f hek
 obtain⟨cs,sz,hL,hr,hsz'⟩:=Z0H hf
 have hlt:id<L.length:=(List.getElem?_eq_some_iff.1 hL).1
 obtain⟨k1,k2,a,rfl,ha⟩:=Z0N hx hf
 have he:sz=P.cellsOf e:=by rw [←hsz',hsz]
 subst he
 rw [hr] at hfull ⊢
 rw [Nat.sub_zero,Nat.zero_mul] at *
 rw [Nat.zero_add] at k2
 obtain⟨us,hc,hcell,_⟩:=Z1E hW hL
 have hul:=hc.length
 have hvone:=Z2c hvc hone
 by_cases hin:n+k≤m.cap id
 ·by_cases hcap:m.cap id=0
  ·have hcs:=hW.nils _ _ _ _ hL hcap
   have hn0:n=0:=by omega
   have hs0:k=0:=by omega
   have hvs:ds=[]:=by
    have:=hvc.length; rw [hs0,Nat.zero_mul] at hvl; exact List.eq_nil_of_length_eq_zero (by omega)
   have hvs':vs=[]:=List.eq_nil_of_length_eq_zero (by rw [hvl,hs0,Nat.zero_mul])
   obtain⟨t1,t2⟩:=Zg9 hW hL hcap 0
   rw [hcs,hvs,hn0,hs0]
   refine⟨.slice a (0+0) (m.cap id),w,_,?_,?_,t1,t2⟩
   ·have h:=hrunA a (m.cap id) w (.slice a (n+k) (m.cap id))
     (fun _=>⟨(fun b hb'=>by rw [hvs']; simp [storeCells]),fun _=>⟨hvs',rfl⟩,rfl⟩) (fun h=>by omega)
    rw [hn0,hs0] at h; exact h
   ·simp only [Z03]
    exact⟨[],P.cellsOf e,ver+1,by simp [hlt],Nat.le_refl _,⟨_,_,_,rfl⟩,fun _=>⟨by simp,by simp,a,by simp [Mem.put,hcap],.inl (by simp [Mem.put])⟩⟩
  ·obtain⟨us',rest,elem,lo,hi,hblk,hc',hlen,hfz⟩:=hW.rows _ _ _ _ hL hcap
   have hul':=hc'.length
   have ha':a=some ⟨m.blk id,0,none⟩:=by
    rcases ha with ha | ha
    ·omega
    ·exact ha
   subst ha'
   have hmul:(n+k)*P.cellsOf e≤m.cap id*P.cellsOf e:=Nat.mul_le_mul_right _ hin
   rw [Nat.add_mul] at hmul
   obtain⟨w',hst,hC,hsize⟩:=Z1X (P:=P) (m.blk id) (n*P.cellsOf e) vs 0 w (us'++rest) elem lo hi hblk (by simp; omega) (fun j hj1 hj2=>by omega) hvone
   have e1:(us'++rest).take (n*P.cellsOf e+0)++vs++(us'++rest).drop (n*P.cellsOf e+0+vs.length)=(us'++vs)++rest.drop vs.length:=by
    rw [Nat.add_zero,List.take_left' (by omega),List.drop_append,List.drop_eq_nil_of_le (by omega)]
    simp
    congr 1; omega
   rw [e1] at hC
   obtain⟨t1,t2⟩:=Z2Y hW hL (cs:=cs++ds) (ver':=ver+1) (g:=m.blk id) (c:=m.cap id) (.inl ⟨rfl,hcap⟩) hC (hc'.append hvc) (by simp; omega) hfz hcap (.inr rfl)
   refine⟨.slice (some ⟨m.blk id,0,none⟩) (n+k) (m.cap id),w',_,?_,?_,t1,t2⟩
   ·exact hrunA _ (m.cap id) w' _
     (fun _=>⟨(fun b hb'=>by cases hb'; rw [Addr.add_lit,Nat.zero_add]; exact hst),(fun h=>by cases h),rfl⟩) (fun h=>by omega)
   ·simp only [Z03]
    refine⟨cs++ds,P.cellsOf e,ver+1,by simp [hlt],Nat.le_refl _,⟨_,_,_,rfl⟩,fun _=>⟨?_,by simpa [Mem.put] using hin,some ⟨m.blk id,0,none⟩,by simp [Mem.put],.inr (by simp [Mem.put])⟩⟩
    have:=hvc.length
    rw [Nat.zero_add,Nat.add_mul,List.length_append]; omega
 ·obtain⟨z,i,hi,hzi,hza,hzr⟩:=Z0K (w:=w.drew) hz
  obtain⟨c,hc2⟩:∃c,c=(Question.appendCap (n+k) (m.cap id) e).cut (w.tape w.drawn (.appendCap (n+k) (m.cap id) e)):=⟨_,rfl⟩
  have hn:n+k<2 ^ 63:=by
   have:(n+k)*1≤(n+k)*P.bytesOf e:=Nat.mul_le_mul_left _ hb
   omega
  have hle:n+k≤c:=by rw [hc2]; exact Z7k _ _ _ _ hn
  have hzs:z.cells.size=P.cellsOf e:=by
   have:=(Z1l (m:=m) (L:=L) z).length
   rw [←hza,hzl] at this
   simpa using this
  have hold:(Builtin.firstCells (P.cellsOf e) n (.slice a n (m.cap id))).run P w.drew=.ok us.toArray w.drew:=by
   cases a with
   | none=>
    have hn0:n=0:=by
     rcases ha with ha | ha
     ·omega
     ·cases ha
    have:us=[]:=List.eq_nil_of_length_eq_zero (by rw [hul,hfull,hn0,Nat.zero_mul])
    simp [Builtin.firstCells,this]
   | some b=>
    rcases ha with ha | ha
    ·have hn0:n=0:=by omega
     have:us=[]:=List.eq_nil_of_length_eq_zero (by rw [hul,hfull,hn0,Nat.zero_mul])
     simp only [Builtin.firstCells,hn0,Nat.zero_mul,this]
     exact Z10 b
    ·cases ha
     have:=Z0R (P:=P) (w:=w.drew) (m.blk id) 0 us (n*P.cellsOf e) (by omega) (fun j v hj=>by rw [Nat.zero_add]; exact hcell j v hj)
     rw [List.take_of_length_le (by omega)] at this
     exact this
  obtain⟨rest,hrest⟩:∃r,r=(Builtin.zeroCells z.cells (c - (n+k))).toList:=⟨_,rfl⟩
  have hP:Z18 w (w.drew.alloc (.cells (us.toArray++vs.toArray++Builtin.zeroCells z.cells (c - (n+k))) e)) (.cells ((us++vs)++rest).toArray e (0,0)):=by
   have:(us.toArray++vs.toArray++Builtin.zeroCells z.cells (c - (n+k)))=((us++vs)++rest).toArray:=by rw [hrest]; simp
   rw [this]; exact⟨rfl,rfl,rfl,rfl⟩
  have hlen:(us++vs).length+rest.length=c*P.cellsOf e:=by
   rw [hrest,Z1k,hzs,List.length_append,hul,hfull,hvl,←Nat.add_mul,←Nat.add_mul]; congr 1; omega
  have hC:Chg w (w.drew.alloc (.cells (us.toArray++vs.toArray++Builtin.zeroCells z.cells (c - (n+k))) e)) w.heap.size (.cells ((us++vs)++rest).toArray e (0,0)):=
   ⟨hP.new,fun g' _ hg=>hP.old hg,by rw [hP.size]; omega,hP.2⟩
  obtain⟨t1,t2⟩:=Z2Y hW hL (cs:=cs++ds) (ver':=ver+1) (g:=w.heap.size) (c:=c) (.inr (Nat.le_refl _)) hC (hc.append hvc) hlen (.inl rfl) (by omega) (.inr rfl)
  refine⟨.slice (some ⟨w.heap.size,0,none⟩) (n+k) c,_,_,?_,?_,t1,t2⟩
  ·exact hrunA a (m.cap id) _ _ (fun h=>by omega)
    (fun _=>⟨z,us.toArray,hzr,hold,by rw [hc2],by rw [hc2]⟩)
  ·simp only [Z03]
   refine⟨cs++ds,P.cellsOf e,ver+1,by simp [hlt],Nat.le_refl _,⟨_,_,_,rfl⟩,fun _=>⟨?_,by simpa [Mem.put] using hle,some ⟨w.heap.size,0,none⟩,by simp [Mem.put],.inr (by simp [Mem.put])⟩⟩
   have:=hvc.length
   rw [Nat.zero_add,Nat.add_mul,List.length_append]; omega
theorem Z5K(hW:Z0D m L w)(t tx ty:TypeId){Y:AV}{v s:Value}(hy:Z03 m L Y v){e:TypeId}(hu:P.underlying t=some (.slice e))(hek:Z2j P e=true)
  (htx:Z6G P tx=true) (ho:Z3J L (P.cellsOf e) Y) (hone:Z0b (Z0B L (P.cellsOf e) Y)=true) {id ver n:Nat} (hf:Z14 L id ver) (hsz:Z1K L id=P.cellsOf e) (hx:Z03 m L (.msl id ver 0 n) s)
  (hfull:(Z0L L id).length=n*P.cellsOf e) (hroom:(n+Z0l Y)*P.bytesOf e≤140737488355328) :
  ∃u w' m',(Builtin.append_ #[t,tx] ty #[s,v]).run P w=.ok u w'∧Z03 m' (L.set id (.row (Z0L L id++Z0B L (P.cellsOf e) Y) (P.cellsOf e) (ver+1))) (.msl id (ver+1) 0 (n+Z0l Y)) u∧
   Z0D m' (L.set id (.row (Z0L L id++Z0B L (P.cellsOf e) Y) (P.cellsOf e) (ver+1))) w'∧Ext m L w m' (L.set id (.row (Z0L L id++Z0B L (P.cellsOf e) Y) (P.cellsOf e) (ver+1))) w':=by
 obtain⟨hz,hzl,hs,hb⟩:=Z1f hek
 obtain⟨h1,h2⟩:=Z4t htx
 obtain⟨vs,hvc,hvl,hrun⟩:=Z61 (P:=P) hW hy ho
 refine Z41 hW t tx ty hek hvc hvl hone hf hsz hx hfull hroom fun base c w' u hin hout=>?_
 refine Z4l t tx ty hu h1 h2 hz hb base n (Z0l Y) c v (hrun w rfl).1 hroom (fun h=>?_) (fun h=>?_)
 ·obtain⟨k1,k2,k3⟩:=hin h
  exact⟨vs.toArray,(hrun w rfl).2,k1,fun h=>(k2 h).2,k3⟩
 ·obtain⟨z,olds,k1,k2,k3,k4⟩:=hout h
  exact⟨z,olds,vs.toArray,k1,k2,(hrun w.drew rfl).2,k3,k4⟩
theorem Zdz:∀a b:List AV,Z0b (a++b)=(Z0b a && Z0b b)
 | [],b=>by simp [Z0b]
 | x::a,b=>by
  have ih:=Zdz a b
  cases x <;> simp only [List.cons_append,Z0b,Bool.false_and,ih,Bool.and_assoc]
theorem ZaM{cs:List AV}(h:Z0b cs=true):∀n:Nat,Z0b (reps n cs)=true
 | 0=>by simp [reps,Z0b]
 | n+1=>by
  have:=ZaM h n
  simp only [reps,List.replicate_succ,List.flatten_cons,Zdz,h,Bool.true_and] at this ⊢
  exact this
theorem Z9c(hW:Z0D m L w)(t tx ty:TypeId){X:AV}{u:Value}(k:IntKind)(q:Int)(hx:Z03 m L X u):Z0i P m L w (Z8g P true L t tx X q) (Z1j (Builtin.append_ #[t,tx] ty #[u,.int k q])):=by
 unfold Z8g
 split
 ·rename_i e k0 id ver off n hu hux
  intro hp
  obtain⟨-,hek,hzo,h0,hf,hsz,rfl,hfull,hroom⟩:=hp
  obtain⟨hz,hzl,hs,hb⟩:=Z1f hek
  obtain⟨z,i,hi,hzi,hza,hzr⟩:=Z0K (w:=w) hz
  obtain⟨z',i',hi',hzi',hza',hzr'⟩:=Z0K (w:=w.drew) hz
  have hzz:z'=z:=by rw [hi] at hi'; cases hi'; rw [hzi] at hzi'; exact (Option.some.inj hzi').symm
  subst hzz
  have hzc:Z0a m L (zeroA P e).cells z'.cells.toList:=by rw [hza]; exact Z1l z'
  have hzcl:=hzc.length
  have hzs:z'.cells.size=P.cellsOf e:=by simp at hzcl; omega
  have hrel:=Z3c hzc q.toNat (by omega)
  rw [hzl] at hrel
  have hzc2:(Builtin.zeroCells z'.cells q.toNat).toList=((Array.range (q.toNat*P.cellsOf e)).map (z'.cells[· % z'.cells.size]!)).toList:=by rw [Builtin.zeroCells,hzs]
  have hone:Z0b (reps q.toNat (zeroA P e).cells)=true:=ZaM hzo q.toNat
  have hvl:((Array.range (q.toNat*P.cellsOf e)).map (z'.cells[· % z'.cells.size]!)).toList.length=q.toNat*P.cellsOf e:=by simp
  have hqr:q≤140737488355328:=by
   have:(n+q.toNat)*1≤(n+q.toNat)*P.bytesOf e:=Nat.mul_le_mul_left _ hb
   omega
  have hwq:IntKind.i64.wrap q=q:=IntWalk.i64_in q (by omega)
  have hsz2:=Z0e (P:=P) (w:=w) (t:=e) (by rw [hi]; rfl)
  obtain⟨i2,hie,hcs,hby⟩:=Z3h (P:=P) (t:=e) (by rw [hi]; rfl)
  rw [hi] at hie; obtain rfl:=Option.some.inj hie
  have hti:(typeInfo e).run P w=.ok i w:=by simp [typeInfo,hi]
  have hti':(typeInfo e).run P w.drew=.ok i w.drew:=by simp [typeInfo,hi]
  have hsz3:=Z0e (P:=P) (w:=w.drew) (t:=e) (by rw [hi]; rfl)
  have hb0:i.bytes≠0:=by rw [←hby]; omega
  have hqb:¬(281474976710656:Int)<q*i.bytes:=by
   have h1:q.toNat*P.bytesOf e≤(n+q.toNat)*P.bytesOf e:=Nat.mul_le_mul_right _ (by omega)
   have h2:(q.toNat:Int)=q:=by omega
   have h4:q.toNat*P.bytesOf e≤140737488355328:=Nat.le_trans h1 hroom
   have h5:((q.toNat*P.bytesOf e:Nat):Int)=q*i.bytes:=by rw [Int.natCast_mul,h2,hby]
   rw [←h5]
   omega
  have hqb2:¬(281474976710656:Int)<q*(P.bytesOf e:Int):=by rw [hby]; exact hqb
  have hbig:¬(9223372036854775807:Int)<(n:Int)+max q 0:=by
   have:(n+q.toNat)*1≤(n+q.toNat)*P.bytesOf e:=Nat.mul_le_mul_left _ hb
   omega
  obtain⟨r,w',m',r1,r2,r3,r4⟩:=Z41 (x:=.int k q) hW t tx ty hek hrel hvl hone hf hsz hx hfull hroom fun base c w' u hin hout=>by
   have hzero:q.toNat*P.cellsOf e=0→((Array.range (q.toNat*P.cellsOf e)).map (z'.cells[· % z'.cells.size]!)).toList=[]:=fun h=>by rw [h]; simp
   by_cases hnk:n+q.toNat≤c
   ·obtain⟨k1,k2,rfl⟩:=hin hnk
    rw [←hzc2] at k1 k2
    by_cases hq0:q.toNat*P.cellsOf e=0
    ·have hnil:(Builtin.zeroCells z'.cells q.toNat).toList=[]:=by rw [hzc2]; exact hzero hq0
     rw [hnil] at k1 k2
     cases base with
     | none=>simp [Builtin.append_,Z00 hu,hsz2,Z00 hux,asInt,asIntOf,hwq,show ¬q<0 by omega,hti,hqb,hnk,hq0,(k2 rfl).2]
     | some a=>have:=k1 a rfl; simp [Builtin.append_,Z00 hu,hsz2,Z00 hux,asInt,asIntOf,hwq,show ¬q<0 by omega,hti,hqb,hnk,hq0,this]
    ·cases base with
     | none=>simp [Builtin.append_,Z00 hu,hsz2,Z00 hux,asInt,asIntOf,hwq,show ¬q<0 by omega,hti,hqb,hnk,hq0,hzr,(k2 rfl).2]
     | some a=>have:=k1 a rfl; simp [Builtin.append_,Z00 hu,hsz2,Z00 hux,asInt,asIntOf,hwq,show ¬q<0 by omega,hti,hqb,hnk,hq0,hzr,this]
   ·obtain⟨z2,olds,k1,k2,rfl,rfl⟩:=hout (by omega)
    rw [hzr'] at k1
    obtain⟨rfl,_⟩:z'=z2∧True:=by cases k1; exact⟨rfl,trivial⟩
    have hfits:=growslice_fits (need:=n+q.toNat) (old:=c) (bytes:=P.bytesOf e) (by omega) hroom
    rw [←hzc2]
    by_cases hq0:q.toNat*P.cellsOf e=0
    ·have hnil:(Builtin.zeroCells z'.cells q.toNat).toList=[]:=by rw [hzc2]; exact hzero hq0
     have hq1:q.toNat=0:=by
      rcases Nat.eq_zero_or_pos q.toNat with h | h
      ·exact h
      ·have:=Nat.mul_pos h hs; omega
     rw [hnil]
     simp [Builtin.append_,Z00 hu,hsz2,Z00 hux,asInt,asIntOf,hwq,show ¬q<0 by omega,hti,hti',hqb,hqb2,hbig,hnk,hb0,←hby,show ¬281474976710656<Builtin.nextslicecap (n+q.toNat) c*P.bytesOf e by omega,Question.forced,hzr',k2,newRow,hq0]
     try (intro h; omega)
    ·simp [Builtin.append_,Z00 hu,hsz2,Z00 hux,asInt,asIntOf,hwq,show ¬q<0 by omega,hti,hti',hqb,hqb2,hbig,hnk,hb0,←hby,show ¬281474976710656<Builtin.nextslicecap (n+q.toNat) c*P.bytesOf e by omega,Question.forced,hzr',k2,newRow,hq0]
     try (intro h; omega)
  exact⟨.value r,w',m',by simp [Z1j,r1],.inl ⟨r,rfl,r2⟩,r3,r4⟩
 ·exact fun h=>h.elim
theorem Z5M(hW:Z0D m L w)(t tx ty:TypeId){Y:AV}{v s:Value}(hy:Z03 m L Y v){e:TypeId}(hu:P.underlying t=some (.slice e))(hek:Z2j P e=true)
  (htx:Z6G P tx=true) (ho:Z3J L (P.cellsOf e) Y) {id ver off n:Nat} (hf:Z14 L id ver) (hsz:Z1K L id=P.cellsOf e) (hx:Z03 m L (.csl id ver off n) s)
  (hpos:0<Z0l Y) (hroom:(n+Z0l Y)*P.bytesOf e≤140737488355328) :
  ∃u w' m',(Builtin.append_ #[t,tx] ty #[s,v]).run P w=.ok u w'∧Z03 m' (L++[.row (((Z0L L id).drop (off*P.cellsOf e)).take (n*P.cellsOf e)++Z0B L (P.cellsOf e) Y) (P.cellsOf e) 0]) (.msl L.length 0 0 (n+Z0l Y)) u∧
   Z0D m' (L++[.row (((Z0L L id).drop (off*P.cellsOf e)).take (n*P.cellsOf e)++Z0B L (P.cellsOf e) Y) (P.cellsOf e) 0]) w'∧Ext m L w m' (L++[.row (((Z0L L id).drop (off*P.cellsOf e)).take (n*P.cellsOf e)++Z0B L (P.cellsOf e) Y) (P.cellsOf e) 0]) w':=by
 obtain⟨hz,hzl,hs,hb⟩:=Z1f hek
 obtain⟨h1,h2⟩:=Z4t htx
 obtain⟨vs,hvc,hvl,hrun⟩:=Z61 hW hy ho
 obtain⟨cs,sz,hL,hr,hsz'⟩:=Z0H hf
 obtain⟨k1,k2,a,rfl,ha⟩:=Z3Y hx hf
 have he:sz=P.cellsOf e:=by rw [←hsz',hsz]
 subst he
 rw [hr,hsz] at k1
 rw [hsz] at ha
 rw [hr]
 obtain⟨us,hc,hcell,_⟩:=Z1E hW hL
 have hul:=hc.length
 rw [Nat.add_mul] at k1
 obtain⟨os,hos⟩:∃os,os=(us.drop (off*P.cellsOf e)).take (n*P.cellsOf e):=⟨_,rfl⟩
 have hol:os.length=n*P.cellsOf e:=by rw [hos]; simp; omega
 have hoc:Z0a m L ((cs.drop (off*P.cellsOf e)).take (n*P.cellsOf e)) os:=by rw [hos]; exact (hc.drop _).take _
 obtain⟨z,i,hi,hzi,hza,hzr⟩:=Z0K (w:=w.drew) hz
 obtain⟨c,hc2⟩:∃c,c=(Question.appendCap (n+Z0l Y) n e).cut (w.tape w.drawn (.appendCap (n+Z0l Y) n e)):=⟨_,rfl⟩
 have hn:n+Z0l Y<2 ^ 63:=by
  have:(n+Z0l Y)*1≤(n+Z0l Y)*P.bytesOf e:=Nat.mul_le_mul_left _ hb
  omega
 have hle:n+Z0l Y≤c:=by rw [hc2]; exact Z7k _ _ _ _ hn
 have hzs:z.cells.size=P.cellsOf e:=by
  have:=(Z1l (m:=m) (L:=L) z).length
  rw [←hza,hzl] at this
  simpa using this
 have hold:(Builtin.firstCells (P.cellsOf e) n (.slice a n n)).run P w.drew=.ok os.toArray w.drew:=by
  rcases ha with ha | ha
  ·subst ha
   have:os=[]:=List.eq_nil_of_length_eq_zero (by rw [hol,Nat.zero_mul])
   cases a with
   | none=>simp [Builtin.firstCells,this]
   | some b=>simp only [Builtin.firstCells,Nat.zero_mul,this]; exact Z10 b
  ·subst ha
   have:=Z0R (P:=P) (w:=w.drew) (m.blk id) (off*P.cellsOf e) (us.drop (off*P.cellsOf e)) (n*P.cellsOf e) (by simp; omega) (fun j v hj=>by rw [List.getElem?_drop] at hj; exact hcell _ _ hj)
   rw [←hos] at this
   exact this
 have hP:Z18 w (w.drew.alloc (.cells (os.toArray++vs.toArray++Builtin.zeroCells z.cells (c - (n+Z0l Y))) e)) (.cells ((os++vs)++(Builtin.zeroCells z.cells (c - (n+Z0l Y))).toList).toArray e (0,0)):=by
  have:(os.toArray++vs.toArray++Builtin.zeroCells z.cells (c - (n+Z0l Y)))=((os++vs)++(Builtin.zeroCells z.cells (c - (n+Z0l Y))).toList).toArray:=by simp
  rw [this]; exact⟨rfl,rfl,rfl,rfl⟩
 have hlen:(os++vs).length+(Builtin.zeroCells z.cells (c - (n+Z0l Y))).toList.length=c*P.cellsOf e:=by
  rw [Z1k,hzs,List.length_append,hol,hvl,←Nat.add_mul,←Nat.add_mul]; congr 1; omega
 refine⟨.slice (some ⟨w.heap.size,0,none⟩) (n+Z0l Y) c,_,m.put L.length w.heap.size c,?_,?_,Z2u hW hP (hoc.append hvc) hlen (.inl rfl),Z1r _ _ hP.keep⟩
 ·exact Z4l (w:=w) t tx ty hu h1 h2 hz hb a n (Z0l Y) n v (hrun w rfl).1 hroom (fun h=>by omega)
   (fun _=>⟨z,os.toArray,vs.toArray,hzr,hold,(hrun w.drew rfl).2,by rw [hc2],by rw [hc2]⟩)
 ·have hcl:=(hoc.append hvc).length
  rw [List.length_append,hol,hvl,←Nat.add_mul] at hcl
  exact Z4z _ _ _ _ _ (by rw [←hcl]; exact Nat.le_refl _) hle
theorem ZfQ(hW:Z0D m L w)(t tx ty:TypeId){X Y:AV}{u v:Value}(hx:Z03 m L X u)(hy:Z03 m L Y v)(happ:Z0i P m L w (Z5r P true L t tx X Y) (Z1j (Builtin.append_ #[t,tx] ty #[u,v]))):Z0i P m L w (Zmr P true L t tx X Y) (Z1j (Builtin.append_ #[t,tx] ty #[u,v])):=by
 unfold Zmr
 split
 ·rename_i k q
  simp only [Z03] at hy; subst hy
  exact Z9c hW t tx ty k q hx
 ·exact happ
theorem Z95(hW:Z0D m L w)(t tx ty:TypeId){X Y:AV}{u v:Value}(hx:Z03 m L X u)(hy:Z03 m L Y v):Z0i P m L w (Z5r P true L t tx X Y) (Z1j (Builtin.append_ #[t,tx] ty #[u,v])):=by
 unfold Z5r
 split
 ·rename_i e hu
  split
  ·intro hp
   obtain⟨-,hek,htx,ho,hone,hroom⟩:=hp
   simp only [Z03] at hx; subst hx
   obtain⟨r,w',m',h1,h2,h3,h4⟩:=Z5L hW t tx ty hy hu hek htx ho hroom
   exact⟨.value r,w',m',by simp [Z1j,h1],.inl ⟨r,rfl,h2⟩,h3,h4⟩
  ·rename_i id ver off n
   intro hp
   obtain⟨-,hek,htx,ho,hone,hf,hsz,rfl,hfull,hroom⟩:=hp
   obtain⟨r,w',m',h1,h2,h3,h4⟩:=Z5K hW t tx ty hy hu hek htx ho hone hf hsz hx hfull hroom
   exact⟨.value r,w',m',by simp [Z1j,h1],.inl ⟨r,rfl,h2⟩,h3,h4⟩
  ·rename_i id ver off n
   intro hp
   obtain⟨-,hek,htx,ho,hone,hf,hsz,hpos,hroom⟩:=hp
   obtain⟨r,w',m',h1,h2,h3,h4⟩:=Z5M hW t tx ty hy hu hek htx ho hf hsz hx hpos hroom
   exact⟨.value r,w',m',by simp [Z1j,h1],.inl ⟨r,rfl,h2⟩,h3,h4⟩
  ·exact fun h=>h.elim
 ·exact fun h=>h.elim
end
section
variable {P:Program} {m:Mem} {L:Z01} {w:World}
def Z5F:Option IntKind→TypeDesc
 | some k=>.int k
 | none=>.string
theorem Z5A{kt:TypeId}{kd:Option IntKind}(h:Z1y P kt=some kd):P.underlying kt=some (Z5F kd):=by
 unfold Z1y at h
 split at h <;> simp_all
 all_goals (subst h; rfl)
theorem Z3Z{kt:TypeId}{kd:Option IntKind}(h:Z1y P kt=some kd)(b:Bool)(k:Key)(hk:k.kd=kd):(Instr.checkKey b 10000 kt k.val).run P w=.ok () w:=by
 have hu:=Z5A h
 show (Instr.checkKey b (9999+1) kt k.val).run P w=_
 generalize 9999=d
 cases k <;> simp only [Key.kd] at hk <;> subst hk <;> simp only [Z5F] at hu <;> simp [Instr.checkKey,Key.val,Z00 hu]
theorem Z7R{k k':Key}(h:k.val=k'.val):k=k':=by
 cases k <;> cases k' <;> simp_all [Key.val]
theorem Z9u{kd:Option IntKind}{k k':Key}(h:k.kd=kd)(h':k'.kd=kd):Instr.sameNow (Z5F kd) k.val k'.val=some (decide (k=k')):=by
 subst h
 cases k <;> cases k' <;> simp only [Key.kd,reduceCtorEq,Option.some.injEq] at h' <;> simp [Instr.sameNow,Key.val,Key.kd,Z5F]
 ·subst h'; simp
  rw [Bool.eq_iff_iff]; simp
 ·rename_i a b
  rw [Bool.eq_iff_iff,beq_toListBytes,ByteArray.toList_mk,ByteArray.toList_mk]; simp
theorem Z5D{kd:Option IntKind}{k:Key}(hk:k.kd=kd):∀(es:List MapEntry) (i:Nat),(∀e∈es,∃k':Key,e.key=k'.val∧k'.kd=kd)→
  (∃j e,es[j]?=some e∧e.key=k.val∧Instr.findNow (Z5F kd) k.val es i=some (some (i+j,e.val)))∨
  ((∀e∈es,e.key≠k.val)∧Instr.findNow (Z5F kd) k.val es i=some none)
 | [],i,_=>.inr ⟨by simp,rfl⟩
 | e::es,i,h=>by
  obtain⟨k',h1,h2⟩:=h e (by simp)
  have hs:=Z9u hk h2
  by_cases he:k=k'
  ·left
   refine⟨0,e,rfl,by rw [h1,he],?_⟩
   subst he
   simp only [Instr.findNow,h1,hs,decide_true,Nat.add_zero]
  ·have hf:Instr.findNow (Z5F kd) k.val (e::es) i=Instr.findNow (Z5F kd) k.val es (i+1):=by
    simp only [Instr.findNow,h1,hs,he,decide_false]
   rcases Z5D hk es (i+1) (fun x hx=>h x (by simp [hx])) with ⟨j,e',q1,q2,q3⟩ | ⟨q1,q2⟩
   ·left
    exact⟨j+1,e',by simpa using q1,q2,by rw [hf,q3]; congr 3; omega⟩
   ·right
    refine⟨fun x hx=>?_,by rw [hf,q2]⟩
    rcases List.mem_cons.1 hx with rfl | hx
    ·rw [h1]; exact fun e=>he (Z7R e).symm
    ·exact q1 x hx
theorem Z7o.kinds{kd:Option IntKind}{f:Key→Option Value}{es:List MapEntry}(h:Z7o kd f es):∀e∈es,∃k':Key,e.key=k'.val∧k'.kd=kd:=fun e he=>by
 obtain⟨k,h1,h2⟩:=h.ent e he
 exact⟨k,h1,(h.has k _ h2).1⟩
theorem Z6w{kd:Option IntKind}{f:Key→Option Value}{es:List MapEntry}(h:Z7o kd f es){k:Key}(hk:k.kd=kd){kt:TypeId}(hkt:Z1y P kt=some kd) :
  (∃j e,es[j]?=some e∧e.key=k.val∧f k=some e.val∧∀w,(Instr.findKey kt k.val es).run P w=.ok (some (j,e.val)) w)∨(f k=none∧(∀e∈es,e.key≠k.val)∧∀w,(Instr.findKey kt k.val es).run P w=.ok none w):=by
 have hu:=Z5A hkt
 rcases Z5D hk es 0 h.kinds with ⟨j,e,q1,q2,q3⟩ | ⟨q1,q2⟩
 ·left
  obtain⟨k',h1,h2⟩:=h.ent e (List.mem_of_getElem? q1)
  have:k=k':=Z7R (by rw [←q2,h1])
  subst this
  refine⟨j,e,q1,q2,h2,fun w=>?_⟩
  have:=MapKept.run_findKey (w:=w) hu q3
  simpa using this
 ·right
  refine⟨?_,q1,fun w=>MapKept.run_findKey (w:=w) hu q2⟩
  cases hf:f k with
  | none=>rfl
  | some v=>
   obtain⟨_,e,he,h2⟩:=h.has k v hf
   exact absurd h2 (q1 e he)
theorem ZdI(hW:Z0D m L w){id:Nat}{kd:Option IntKind}{f:Key→Option Value}{u:Value}(hx:Z03 m L (.mp id) u)(hL:L[id]?=some (.raw (.map kd f))) :
  u=.map (some (m.blk id))∧∃es clock,w.heap[m.blk id]?=some (.map es clock)∧MRC kd f es.toList clock:=by
 simp only [Z03] at hx
 obtain⟨r,hL',hu⟩:=hx
 obtain⟨o,hb,hr⟩:=hW.iters _ _ hL
 simp only [Z4s] at hr
 obtain⟨es,clock,rfl,h⟩:=hr
 exact⟨hu,es,clock,hb,h⟩
theorem Z4d{X:AV}{u:Value}{k:Key}(hx:Z03 m L X u)(h:Z79 X=some k):u=k.val:=by
 cases X <;> simp only [Z79,reduceCtorEq,Option.some.injEq] at h <;> subst h <;> simpa only [Z03,Key.val] using hx
theorem ZdO(hW:Z0D m L w)(t:TypeId)(ok:Bool){kt et:TypeId}(hu:P.underlying t=some (.map kt et)){kd:Option IntKind}{f:Key→Option Value}{g:Nat}{es:Array MapEntry}{clock:Nat}(hb:w.heap[g]?=some (.map es clock))(hM:Z7o kd f es.toList)(key:Key) :
  Z0i P m L w ⟨Z1b P et∧Z1y P kt=some kd∧key.kd=kd,cond ok (.alt (f key).isSome (.tup [ofV ((f key).getD undef),.bool true]) (.tup [zeroA P et,.bool false])) (Z6J (f key).isSome (ofV ((f key).getD undef)) (zeroA P et)),L⟩
   (Z1j (Instr.lookup t (.map (some g)) key.val ok)):=by
 refine Z0i.pure hW fun hp=>?_
 obtain⟨hz,hkt,hkd⟩:=hp
 have hget:(getObj g).run P w=.ok (.map es clock) w:=by simp [getObj,Sem.run,hb]
 have hc:=Z3Z (P:=P) (w:=w) hkt es.isEmpty key hkd
 obtain⟨z,i,h1,h2,h3,h4⟩:=Z0K (P:=P) (w:=w) hz
 rcases Z6w (P:=P) hM hkd hkt with ⟨j,e,q1,q2,q3,q4⟩ | ⟨q1,q2,q3⟩
 ·refine⟨if ok then .tuple #[e.val,.bool true] else e.val,?_,?_⟩
  ·simp [Instr.lookup,Z00 hu,hget,hc,q4]
  ·rw [q3]
   cases ok
   ·simp only [cond_false,Option.isSome_some,Option.getD_some,Z5h]; exact Z3U _ _ _
   ·simp only [cond_true,Option.isSome_some,Option.getD_some,Z03]
    exact⟨fun _=>⟨[e.val,.bool true],rfl,by simp only [Z0a]; exact⟨_,_,rfl,Z3U _ _ _,_,_,rfl,by simp [Z03],rfl⟩⟩,fun h=>by cases h⟩
 ·refine⟨if ok then .tuple #[z,.bool false] else z,?_,?_⟩
  ·simp [Instr.lookup,Z00 hu,hget,hc,q3,h4]
  ·rw [q1]
   cases ok
   ·simp only [cond_false,Option.isSome_none,Z4w]; rw [h3]; exact Z3U _ _ _
   ·simp only [cond_true,Option.isSome_none,Z03]
    exact⟨(fun h=>by cases h),fun _=>⟨[z,.bool false],rfl,by simp only [Z0a]; exact⟨_,_,rfl,by rw [h3]; exact Z3U _ _ _,_,_,rfl,by simp [Z03],rfl⟩⟩⟩
theorem ZbH(hW:Z0D m L w)(t:TypeId)(ok:Bool){X K:AV}{u k:Value}(hx:Z03 m L X u)(hk:Z03 m L K k):Z0i P m L w (ZbI P L t X K ok) (Z1j (Instr.lookup t u k ok)):=by
 unfold ZbI
 split
 ·rename_i kt et id key hu hkey
  split
  ·rename_i kd f hL
   obtain⟨rfl,es,clock,hb,hM⟩:=ZdI hW hx hL
   have:=Z4d hk hkey
   subst this
   exact ZdO hW t ok hu hb hM.rel key
  ·exact fun h=>h.elim
 ·rename_i kt et kd f key hu hkey
  simp only [Z03] at hx
  obtain⟨g,es,clock,rfl,hp,hM⟩:=hx
  have:=Z4d hk hkey
  subst this
  exact ZdO hW t ok hu (hW.pobjs _ _ hp) hM.rel key
 ·exact fun h=>h.elim
theorem Z7N(hW:Z0D m L w)(t:TypeId){r:Option AV}{v:Option Value}(hr:ZbX m L r v):Z0i P m L w (Z4V P true L t r) (Z1j (Instr.makeMap t v)):=by
 have key:∀(kd:Option IntKind),(∀w:World,(Instr.makeMap t v).run P w=.ok (.map (some w.heap.size)) (w.alloc (.map #[] 0)))→Z0i P m L w ⟨true=true,.mp L.length,L++[.raw (.map kd noK)]⟩ (Z1j (Instr.makeMap t v)):=by
  intro kd hrun _
  have hP:=Z18.alloc w (.map #[] 0)
  refine⟨.value (.map (some w.heap.size)),_,_,?_,.inl ⟨_,rfl,?_⟩,Z5O hW hP ?_,Z1r _ _ hP.keep⟩
  ·simp [Z1j,hrun w]
  ·simp only [Z03]
   exact⟨.map kd noK,by simp,by simp [Mem.put]⟩
  ·exact⟨#[],0,rfl,⟨by simp,by simp [noK],by simp⟩,⟨by simp,by simp⟩⟩
 unfold Z4V
 split
 ·rename_i kt et hu
  have:=hr.iff.1 rfl; subst this
  split
  ·refine key _ fun w=>?_
   simp [Instr.makeMap]
  ·exact fun h=>h.elim
 ·rename_i kt et k n hu
  split
  ·cases v with
   | none=>exact absurd (hr.iff.2 rfl) (by simp)
   | some v=>
    have hv:=hr
    simp only [ZbX,Z03] at hv
    subst hv
    refine key _ fun w=>?_
    simp [Instr.makeMap,Z00 hu,asInt,asIntOf]
  ·exact fun h=>h.elim
 ·exact fun h=>h.elim
theorem Z8u{X:AV}{u v:Value}(hx:Z03 m L X u)(h:ZbB X=some v):u=v:=by
 cases X
 case fn f a b=>
  cases a <;> cases b <;> simp only [ZbB,reduceCtorEq,Option.some.injEq] at h
  subst h
  simp only [Z03,Z0a] at hx
  obtain⟨us,vs,rfl,rfl,rfl⟩:=hx
  rfl
 all_goals (simp only [ZbB,reduceCtorEq,Option.some.injEq] at h <;> subst h <;> simpa only [Z03] using hx)
theorem Z6Z:∀{xs:List AV} {us vs:List Value},Z0a m L xs us→Z70 xs=some vs→us=vs
 | [],us,vs,hx,h=>by simp only [Z70,Option.some.injEq] at h; simp only [Z0a] at hx; rw [hx,h]
 | x::xs,us,vs,hx,h=>by
  simp only [Z0a] at hx
  obtain⟨u,us',rfl,h1,h2⟩:=hx
  simp only [Z70] at h
  split at h
  ·rename_i v vs' e1 e2
   simp only [Option.some.injEq] at h
   subst h
   rw [Z8u h1 e1,Z6Z h2 e2]
  ·cases h
theorem Zbi{X:AV}{u v:Value}(hx:Z03 m L X u)(h:Zal X=some v):u=v:=by
 cases X <;> simp only [Zal] at h <;> try exact Z8u hx h
 simp only [Option.map_eq_some_iff] at h
 obtain⟨vs,h1,rfl⟩:=h
 simp only [Z03] at hx
 obtain⟨us,rfl,hc⟩:=hx
 rw [Z6Z hc h1]
theorem Z8o(n:Nat)(k:Key):Instr.sameBits n k.val k.val=true:=by
 cases k <;> cases n <;> simp [Instr.sameBits,Key.val,beq_toListBytes]
theorem Z7o.put{kd:Option IntKind}{f:Key→Option Value}{es:List MapEntry}(h:Z7o kd f es){k:Key}(hk:k.kd=kd){j:Nat}{e:MapEntry}(hj:es[j]?=some e)(he:e.key=k.val)(v:Value)(g:MapEntry→MapEntry)(hg:g e={ e with key:=k.val,val:=v }) :
  Z7o kd (Zbe f k v) (es.set j (g e)):=by
 have hkeys:(es.set j (g e)).map (·.key)=es.map (·.key):=by
  rw [List.map_set,hg]
  apply List.ext_getElem?
  intro i
  rw [List.getElem?_set]
  split
  ·rename_i hij
   subst hij
   simp only [List.length_map]
   have hlt:=(List.getElem?_eq_some_iff.1 hj).1
   simp [hlt,List.getElem?_map,hj,he]
   have:=(List.getElem?_eq_some_iff.1 hj).2
   rw [this,he]
  ·rfl
 have hlt:=(List.getElem?_eq_some_iff.1 hj).1
 refine⟨fun x hx=>?_,fun k' v' hf=>?_,by rw [hkeys]; exact h.nodup⟩
 ·obtain⟨i,hi⟩:=List.mem_iff_getElem?.1 hx
  rw [List.getElem?_set] at hi
  split at hi
  ·simp [hlt] at hi
   subst hi
   exact⟨k,by rw [hg],by rw [hg]; simp [Zbe]⟩
  ·rename_i hij
   obtain⟨k',h1,h2⟩:=h.ent x (List.mem_of_getElem? hi)
   refine⟨k',h1,?_⟩
   have hne:k'≠k:=by
    rintro rfl
    have hnd:=h.nodup
    have hii:=(List.getElem?_eq_some_iff.1 hi).1
    have e1:(es.map (·.key))[i]?=some k'.val:=by simp [hi,h1]
    have e2:(es.map (·.key))[j]?=some k'.val:=by simp [hj,he]
    have:=(List.getElem?_inj (by simpa using hii) hnd).1 (e1.trans e2.symm)
    exact hij this.symm
   simp [Zbe,hne,h2]
 ·by_cases hkk:k'=k
  ·subst hkk
   exact⟨hk,g e,List.mem_iff_getElem?.2 ⟨j,by simp [hlt]⟩,by rw [hg]⟩
  ·simp only [Zbe,hkk,if_false] at hf
   obtain⟨h1,x,h2,h3⟩:=h.has k' v' hf
   refine⟨h1,x,?_,h3⟩
   obtain⟨i,hi⟩:=List.mem_iff_getElem?.1 h2
   refine List.mem_iff_getElem?.2 ⟨i,?_⟩
   rw [List.getElem?_set_ne]
   ·exact hi
   ·rintro rfl
    rw [hj] at hi
    obtain rfl:=Option.some.inj hi
    exact hkk (Z7R (by rw [←h3,he]))
theorem Z7o.push{kd:Option IntKind}{f:Key→Option Value}{es:List MapEntry}(h:Z7o kd f es){k:Key}(hk:k.kd=kd)(hn:∀e∈es,e.key≠k.val)(v:Value)(b:Nat):Z7o kd (Zbe f k v) (es++[{ key:=k.val,val:=v,born:=b }]):=by
 refine⟨fun x hx=>?_,fun k' v' hf=>?_,?_⟩
 ·rcases List.mem_append.1 hx with hx | hx
  ·obtain⟨k',h1,h2⟩:=h.ent x hx
   have:k'≠k:=by rintro rfl; exact hn x ‹_› h1
   exact⟨k',h1,by simp [Zbe,this,h2]⟩
  ·simp at hx; subst hx
   exact⟨k,rfl,by simp [Zbe]⟩
 ·by_cases hkk:k'=k
  ·subst hkk
   exact⟨hk,{ key:=k'.val,val:=v,born:=b },List.mem_append.2 (.inr (by simp)),rfl⟩
  ·simp only [Zbe,hkk,if_false] at hf
   obtain⟨h1,x,h2,h3⟩:=h.has k' v' hf
   exact⟨h1,x,List.mem_append.2 (.inl h2),h3⟩
 ·rw [List.map_append,List.nodup_append]
  refine⟨h.nodup,by simp,fun a ha b hb=>?_⟩
  simp at hb; subst hb
  obtain⟨x,hx,rfl⟩:=List.mem_map.1 ha
  exact hn x hx
theorem Z4r.put{es:List MapEntry}{clock:Nat}(h:Z4r es clock){j:Nat}{e x:MapEntry}(hj:es[j]?=some e)(hx:x.born=e.born):Z4r (es.set j x) clock:=by
 have hm:(es.set j x).map (·.born)=es.map (·.born):=by
  rw [List.map_set,hx]
  apply List.ext_getElem?
  intro i
  rw [List.getElem?_set]
  split
  ·rename_i hij
   subst hij
   simp only [List.length_map]
   have hlt:=(List.getElem?_eq_some_iff.1 hj).1
   simp [hlt]
   have:=(List.getElem?_eq_some_iff.1 hj).2
   rw [this]
  ·rfl
 refine⟨fun y hy=>?_,by rw [hm]; exact h.2⟩
 have:y.born∈es.map (·.born):=by rw [←hm]; exact List.mem_map.2 ⟨y,hy,rfl⟩
 obtain⟨z,hz,he⟩:=List.mem_map.1 this
 rw [←he]; exact h.1 z hz
theorem Z4r.push{es:List MapEntry}{clock:Nat}(h:Z4r es clock)(k v:Value):Z4r (es++[{ key:=k,val:=v,born:=clock }]) (clock+1):=by
 refine⟨fun x hx=>?_,?_⟩
 ·rcases List.mem_append.1 hx with hx | hx
  ·have:=h.1 x hx; omega
  ·simp at hx; subst hx; simp
 ·rw [List.map_append,List.nodup_append]
  refine⟨h.2,by simp,fun a ha b hb=>?_⟩
  simp at hb; subst hb
  obtain⟨x,hx,rfl⟩:=List.mem_map.1 ha
  have:=h.1 x hx; omega
theorem Z7o.del{kd:Option IntKind}{f:Key→Option Value}{es:List MapEntry}(h:Z7o kd f es){k:Key}{j:Nat}{e:MapEntry}(hj:es[j]?=some e)(he:e.key=k.val):Z7o kd (Zb8 f k) (es.eraseIdx j):=by
 have hlt:=(List.getElem?_eq_some_iff.1 hj).1
 have hnd:((es.eraseIdx j).map (·.key)).Nodup:=by
  exact h.nodup.sublist ((List.eraseIdx_sublist _ _).map _)
 have huniq:∀(i:Nat) (x:MapEntry),es[i]?=some x→x.key=k.val→i=j:=fun i x hi hx=>by
  have hii:=(List.getElem?_eq_some_iff.1 hi).1
  have e1:(es.map (·.key))[i]?=some k.val:=by simp [hi,hx]
  have e2:(es.map (·.key))[j]?=some k.val:=by simp [hj,he]
  exact (List.getElem?_inj (by simpa using hii) h.nodup).1 (e1.trans e2.symm)
 refine⟨fun x hx=>?_,fun k' v' hf=>?_,hnd⟩
 ·obtain⟨k',h1,h2⟩:=h.ent x (List.mem_of_mem_eraseIdx hx)
  refine⟨k',h1,?_⟩
  have hne:k'≠k:=by
   rintro rfl
   rw [List.mem_eraseIdx_iff_getElem?] at hx
   obtain⟨i,hi,hx⟩:=hx
   exact hi (huniq i x hx h1)
  simp [Zb8,hne,h2]
 ·by_cases hkk:k'=k
  ·subst hkk; simp [Zb8] at hf
  ·simp only [Zb8,hkk,if_false] at hf
   obtain⟨h1,x,h2,h3⟩:=h.has k' v' hf
   refine⟨h1,x,?_,h3⟩
   obtain⟨i,hi⟩:=List.mem_iff_getElem?.1 h2
   rw [List.mem_eraseIdx_iff_getElem?]
   refine⟨i,?_,hi⟩
   rintro rfl
   rw [hj] at hi
   obtain rfl:=Option.some.inj hi
   exact hkk (Z7R (by rw [←h3,he]))
theorem Z7o.delNone{kd:Option IntKind}{f:Key→Option Value}{es:List MapEntry}(h:Z7o kd f es){k:Key}(hf:f k=none):Z7o kd (Zb8 f k) es:=by
 have e:Zb8 f k=f:=by
  funext k'
  unfold Zb8
  split
  ·rename_i h'; rw [h',hf]
  ·rfl
 rw [e]; exact h
theorem Z4r.del{es:List MapEntry}{clock:Nat}(h:Z4r es clock)(j:Nat):Z4r (es.eraseIdx j) clock:=
 ⟨fun x hx=>h.1 x (List.mem_of_mem_eraseIdx hx),h.2.sublist ((List.eraseIdx_sublist _ _).map _)⟩
theorem Z8G(hW:Z0D m L w)(t ty tk:TypeId)(ts:List TypeId){X K:AV}{u k:Value}(hx:Z03 m L X u)(hk:Z03 m L K k) :
  Z0i P m L w (Z6f P true L t X K) (Z1j (Builtin.delete_ ⟨t::ts⟩ ty #[u,k])):=by
 unfold Z6f
 split
 ·rename_i kt et id key hu hkey
  split
  ·rename_i kd f hL
   rintro⟨-,hkt,hkd⟩
   obtain⟨rfl,es,clock,hb,hM⟩:=ZdI hW hx hL
   have:=Z4d hk hkey
   subst this
   have hlt:m.blk id<w.heap.size:=hW.blk_lt (.inr ⟨_,hL⟩)
   have hget:(getObj (m.blk id)).run P w=.ok (.map es clock) w:=by simp [getObj,Sem.run,hb]
   have hc:=Z3Z (P:=P) (w:=w) hkt es.isEmpty key hkd
   have hset:∀o,(setObj (m.blk id) o).run P w=.ok () { w with heap:=w.heap.setIfInBounds (m.blk id) o }:=fun o=>by simp [setObj,Sem.run,hb]
   have hC:∀o,Chg w { w with heap:=w.heap.setIfInBounds (m.blk id) o } (m.blk id) o:=fun o=>by
    refine⟨by simp [hlt],fun g' hne _=>?_,by simp,rfl,rfl,rfl⟩
    simp [Array.getElem?_setIfInBounds,hne.symm]
   have fin:∀(es':Array MapEntry),MRC kd (Zb8 f key) es'.toList clock→(Builtin.delete_ ⟨t::ts⟩ ty #[.map (some (m.blk id)),key.val]).run P w=.ok (.tuple #[]) { w with heap:=w.heap.setIfInBounds (m.blk id) (.map es' clock) }→
     ∃w',(Builtin.delete_ ⟨t::ts⟩ ty #[.map (some (m.blk id)),key.val]).run P w=.ok (.tuple #[]) w'∧Z0D m (L.set id (.raw (.map kd (Zb8 f key)))) w'∧Ext m L w m (L.set id (.raw (.map kd (Zb8 f key)))) w':=by
    intro es' hM' hrun
    obtain⟨t1,t2⟩:=Z47 (r:=.map kd (Zb8 f key)) hW hL (hC (.map es' clock)) ⟨es',clock,rfl,hM'⟩
    exact⟨_,hrun,t1,t2⟩
   obtain⟨w',hrun,t1,t2⟩:∃w',(Builtin.delete_ ⟨t::ts⟩ ty #[.map (some (m.blk id)),key.val]).run P w=.ok (.tuple #[]) w'∧Z0D m (L.set id (.raw (.map kd (Zb8 f key)))) w'∧Ext m L w m (L.set id (.raw (.map kd (Zb8 f key)))) w':=by
    rcases Z6w (P:=P) hM.rel hkd hkt with ⟨j,e,q1,q2,q3,q4⟩ | ⟨q1,q2,q3⟩
    ·refine fin (es.eraseIdxIfInBounds j) ?_ ?_
     ·rw [Array.toList_eraseIdxIfInBounds]
      exact⟨hM.rel.del q1 q2,hM.st.del j⟩
     ·simp [Builtin.delete_,Z00 hu,hget,hc,q4,hset]
    ·refine fin es ⟨hM.rel.delNone q1,hM.st⟩ ?_
     simp [Builtin.delete_,Z00 hu,hget,hc,q3,hset]
   exact⟨.value (.tuple #[]),w',m,by simp [Z1j,hrun],.inl ⟨_,rfl,by simp [Z03,Z0a]⟩,t1,t2⟩
  ·exact fun h=>h.elim
 ·exact fun h=>h.elim
theorem Z5z(hW:Z0D m L w)(t:TypeId){X K V:AV}{u k v:Value}(hx:Z03 m L X u)(hk:Z03 m L K k)(hv:Z03 m L V v) :
  (Z3a P true L t X K V).pre→∃w' m',(Instr.mapUpdate t u k v).run P w=.ok () w'∧(Z3a P true L t X K V).v=.lit undef∧Z0D m' (Z3a P true L t X K V).L w'∧Ext m L w m' (Z3a P true L t X K V).L w':=by
 unfold Z3a
 split
 ·rename_i kt et id key val hu hkey hval
  split
  ·rename_i kd f hL
   rintro⟨-,hkt,hkd⟩
   obtain⟨rfl,es,clock,hb,hM⟩:=ZdI hW hx hL
   have:=Z4d hk hkey
   subst this
   have:=Zbi hv hval
   subst this
   have hlt:m.blk id<w.heap.size:=hW.blk_lt (.inr ⟨_,hL⟩)
   have hget:(getObj (m.blk id)).run P w=.ok (.map es clock) w:=by simp [getObj,Sem.run,hb]
   have hc:=Z3Z (P:=P) (w:=w) hkt false key hkd
   have hset:∀o,(setObj (m.blk id) o).run P w=.ok () { w with heap:=w.heap.setIfInBounds (m.blk id) o }:=fun o=>by simp [setObj,Sem.run,hb]
   have hC:∀o,Chg w { w with heap:=w.heap.setIfInBounds (m.blk id) o } (m.blk id) o:=fun o=>by
    refine⟨by simp [hlt],fun g' hne _=>?_,by simp,rfl,rfl,rfl⟩
    simp [Array.getElem?_setIfInBounds,hne.symm]
   have fin:∀(es':Array MapEntry) (clock':Nat),MRC kd (Zbe f key v) es'.toList clock'→(Instr.mapUpdate t (.map (some (m.blk id))) key.val v).run P w=.ok () { w with heap:=w.heap.setIfInBounds (m.blk id) (.map es' clock') }→
     ∃w' m',(Instr.mapUpdate t (.map (some (m.blk id))) key.val v).run P w=.ok () w'∧AV.lit undef=.lit undef∧Z0D m' (L.set id (.raw (.map kd (Zbe f key v)))) w'∧Ext m L w m' (L.set id (.raw (.map kd (Zbe f key v)))) w':=by
    intro es' clock' hM' hrun
    obtain⟨t1,t2⟩:=Z47 (r:=.map kd (Zbe f key v)) hW hL (hC (.map es' clock')) ⟨es',clock',rfl,hM'⟩
    exact⟨_,m,hrun,rfl,t1,t2⟩
   rcases Z6w (P:=P) hM.rel hkd hkt with ⟨j,e,q1,q2,q3,q4⟩ | ⟨q1,q2,q3⟩
   ·have q1':es[j]?=some e:=by simpa using q1
    refine fin (es.modify j fun e=>{ e with key:=key.val,val:=v }) clock ?_ ?_
    ·have:=Z7o.put hM.rel hkd q1 q2 v (fun e=>{ e with key:=key.val,val:=v }) rfl
     rw [Array.toList_modify,List.modify_eq_set,q1]
     exact⟨this,hM.st.put q1 rfl⟩
    ·simp [Instr.mapUpdate,Z00 hu,hget,hc,q4,q1',q2,Instr.keyThatStays,Z8o,hset]
   ·refine fin (es.push { key:=key.val,val:=v,born:=clock }) (clock+1) ?_ ?_
    ·rw [Array.toList_push]
     exact⟨Z7o.push hM.rel hkd q2 v clock,hM.st.push _ _⟩
    ·simp [Instr.mapUpdate,Z00 hu,hget,hc,q3,hset]
  ·exact fun h=>h.elim
 ·exact fun h=>h.elim
end
section
variable {P:Program} {m:Mem} {L:Z01} {w:World}
theorem Z6g(hW:Z0D m L w)(t:TypeId){X Y:AV}{u v:Value}(hx:Z03 m L X u)(hy:Z03 m L Y v):Z0i P m L w (Z3n P true L t X Y) (Z1j (Instr.makeSlice t u v)):=by
 unfold Z3n
 split
 ·rename_i e k1 l k2 k hu
  intro hp
  obtain⟨-,hek,h0,hlk,hroom⟩:=hp
  simp only [Z03] at hx hy; subst hx hy
  obtain⟨hz,hzl,hs,hb⟩:=Z1f hek
  obtain⟨z,i,hi,hzi,hza,hzr⟩:=Z0K (w:=w) hz
  have hsz:=Z0e (P:=P) (w:=w) (t:=e) (by rw [hi]; rfl)
  obtain⟨i',hie,hcs,hby⟩:=Z3h (P:=P) (t:=e) (by rw [hi]; rfl)
  rw [hi] at hie; obtain rfl:=Option.some.inj hie
  have hb':(0:Int)<P.bytesOf e:=by omega
  have hkr:k≤281474976710656:=by
   have h1:k*1≤k*(P.bytesOf e:Int):=Int.mul_le_mul_of_nonneg_left (by omega) (by omega)
   omega
  have hwl:IntKind.i64.wrap l=l:=IntWalk.i64_in l (by omega)
  have hwk:IntKind.i64.wrap k=k:=IntWalk.i64_in k (by omega)
  have hzc:Z0a m L (zeroA P e).cells z.cells.toList:=by rw [hza]; exact Z1l z
  have hzcl:=hzc.length
  have hzs:z.cells.size=P.cellsOf e:=by simp at hzcl; omega
  obtain⟨zs,hzs'⟩:∃zs:List Value,zs=((Array.range (k.toNat*P.cellsOf e)).map (z.cells[· % z.cells.size]!)).toList:=⟨_,rfl⟩
  have hzlen:zs.length=k.toNat*P.cellsOf e:=by rw [hzs']; simp
  have hrel:=Z3c hzc l.toNat (by omega)
  rw [hzl] at hrel
  have htake:((Array.range (l.toNat*P.cellsOf e)).map (z.cells[· % z.cells.size]!)).toList=zs.take (l.toNat*P.cellsOf e):=by
   rw [hzs']
   simp only [Array.toList_map,Array.toList_range,←List.map_take]
   congr 1
   rw [List.take_range]
   congr 1
   have:l.toNat*P.cellsOf e≤k.toNat*P.cellsOf e:=Nat.mul_le_mul_right _ (by omega)
   omega
  rw [htake] at hrel
  have hP:Z18 w (w.alloc (.cells zs.toArray e)) (.cells (zs.take (l.toNat*P.cellsOf e)++zs.drop (l.toNat*P.cellsOf e)).toArray e (0,0)):=by
   rw [List.take_append_drop]; exact⟨rfl,rfl,rfl,rfl⟩
  have hpr:=Z2u (sz:=P.cellsOf e) (c:=k.toNat) hW hP hrel (by rw [←List.length_append,List.take_append_drop,hzlen]) (.inl rfl)
  refine⟨.value (.slice (some ⟨w.heap.size,0,none⟩) l.toNat k.toNat),_,_,?_,.inl ⟨_,rfl,?_⟩,hpr,Z1r _ _ hP.keep⟩
  ·have hti:(typeInfo e).run P w=.ok i w:=by simp [typeInfo,hi]
   have c1:¬(281474976710656:Int)<i.bytes*k:=by rw [←hby,Int.mul_comm]; omega
   have c2:¬(281474976710656:Int)<i.bytes*l:=by
    have:(i.bytes:Int)*l≤i.bytes*k:=Int.mul_le_mul_of_nonneg_left hlk (by omega)
    omega
   have e1:((Array.range (k.toNat*P.cellsOf e)).map (z.cells[· % z.cells.size]!))=zs.toArray:=by rw [hzs']
   by_cases hk0:k.toNat*P.cellsOf e=0
   ·have:zs=[]:=List.eq_nil_of_length_eq_zero (by rw [hzlen,hk0])
    simp [Z1j,Instr.makeSlice,Z00 hu,asInt,asIntOf,hti,hwl,hwk,c1,c2,show ¬k<0 by omega,show ¬l<0 by omega,show ¬k<l by omega,hsz,hk0,newRow,this]
    congr 2
    exact Array.eq_empty_of_size_eq_zero (by simp)
   ·simp [Z1j,Instr.makeSlice,Z00 hu,asInt,asIntOf,hti,hwl,hwk,c1,c2,show ¬k<0 by omega,show ¬l<0 by omega,show ¬k<l by omega,hsz,hk0,newRow,hzr,e1]
  ·exact Z4z _ _ _ _ _ (by rw [Z1N,hzl]; exact Nat.le_refl _) (by omega)
 ·exact fun h=>h.elim
theorem Z6K(hW:Z0D m L w){X:AV}{u:Value}(hx:Z03 m L X u)(o:Oper)(x:Operand)(ρ:Operand→Value)(ho:o.op=.nilCheck x)(hu:ρ x=u):Z0i P m L w (Z3m true L X) (execOp ρ o):=by
 unfold Z3m
 split
 ·rename_i id ver off
  intro hp
  have:=Z3u hx (hp rfl)
  subst this
  refine⟨.value _,w,m,?_,.inl ⟨_,rfl,hx⟩,hW,Ext.refl⟩
  simp [execOp,ho,hu]
 ·rename_i cs
  intro _
  have hx':=hx
  simp only [Z03] at hx'
  obtain⟨us,g,o',rfl,_⟩:=hx'
  refine⟨.value _,w,m,?_,.inl ⟨_,rfl,hx⟩,hW,Ext.refl⟩
  simp [execOp,ho,hu]
 ·rename_i f a b
  intro _
  have hx':=hx
  simp only [Z03] at hx'
  obtain⟨us,vs,rfl,_⟩:=hx'
  refine⟨.value _,w,m,?_,.inl ⟨_,rfl,hx⟩,hW,Ext.refl⟩
  simp [execOp,ho,hu]
 ·exact fun h=>h.elim
theorem Z3w{fr:List AV}{a:Act}(h:Z0a m L fr a.tmps.toList):∀(xs:List Operand),Z2N true (xs.map (opd fr))→Z0a m L (xs.map fun x=>(opd fr x).bare) (xs.map a.eval)
 | [],_=>by simp [Z0a]
 | x::xs,hn=>by
  simp only [List.map_cons]
  refine Z0a.cons (Z3G (Z0Z h x) (hn _ (by simp) rfl)) (Z3w h xs fun y hy=>hn y (by simp only [List.map_cons]; exact List.mem_cons_of_mem _ hy))
theorem Z3l{fr:List AV}{a:Act}(h:Z0a m L fr a.tmps.toList)(parts:Array (Nat×Operand))(hn:Z2N true (parts.toList.map fun p=>opd fr p.2)) :
  (Z32 fr parts).map (·.1)=(parts.map fun (i,x)=>(i,a.eval x)).toList.map (·.1)∧
  ∀(j:Nat) (q:Nat×AV) (r:Nat×Value),(Z32 fr parts)[j]?=some q→(parts.map fun (i,x)=>(i,a.eval x)).toList[j]?=some r→Z03 m L q.2 r.2:=by
 refine⟨by simp [Z32,List.map_map,Function.comp_def],fun j q r hq hr=>?_⟩
 simp only [Z32,List.getElem?_map,Option.map_eq_some_iff,Array.toList_map] at hq hr
 obtain⟨p,hp,rfl⟩:=hq
 obtain⟨p',hp',rfl⟩:=hr
 rw [hp] at hp'
 obtain rfl:=Option.some.inj hp'
 exact Z3G (Z0Z h p.2) (hn _ (List.mem_map.2 ⟨p,List.mem_of_getElem? hp,rfl⟩) rfl)
theorem ZmA{fr:List AV}{a:Act}(h:Z0a m L fr a.tmps.toList)(x:Option Operand)(hn:Z5H true fr x):ZbX m L (ZaK fr x) (x.map a.eval):=by
 cases x with
 | none=>simp [ZaK,ZbX]
 | some x=>simp only [ZaK,Option.map_some,ZbX]; exact Z3G (Z0Z h x) (hn rfl)
set_option maxHeartbeats 1000000 in
theorem ZdJ{P:Program}{m:Mem}{L:Z01}{w:World}(hW:Z0D m L w)(ts:List TypeId)(ty:TypeId){X Y:AV}{u v:Value}(hx:Z03 m L X u)(hy:Z03 m L Y v):Z0i P m L w (ZfY L true X Y) (Z1j (Builtin.min_ ⟨ts⟩ ty #[u,v])):=by
 unfold ZfY
 split
 ·rename_i k a k' b
  intro _
  simp only [Z03] at hx hy
  subst hx; subst hy
  refine⟨.value (.int k (min a b)),w,m,?_,.inl ⟨_,rfl,by simp [Z03]⟩,hW,Ext.refl⟩
  simp [Z1j,Builtin.min_,Builtin.min2]
  omega
 ·exact Z0i.bad
theorem ZdK{P:Program}{m:Mem}{L:Z01}{w:World}(hW:Z0D m L w)(ts:List TypeId)(ty:TypeId){X Y:AV}{u v:Value}(hx:Z03 m L X u)(hy:Z03 m L Y v):Z0i P m L w (ZfY L false X Y) (Z1j (Builtin.max_ ⟨ts⟩ ty #[u,v])):=by
 unfold ZfY
 split
 ·rename_i k a k' b
  intro _
  simp only [Z03] at hx hy
  subst hx; subst hy
  refine⟨.value (.int k (max a b)),w,m,?_,.inl ⟨_,rfl,by simp [Z03]⟩,hW,Ext.refl⟩
  simp [Z1j,Builtin.max_,Builtin.max2]
  omega
 ·exact Z0i.bad
theorem Zhv(hW:Z0D m L w){fr:List AV}{a:Act}(h:Z0a m L fr a.tmps.toList)(o:Oper):Z0i P m L w (ev P true fr L o.op) (execOp a.eval o):=by
 have R:∀x,(opd fr x).cond=true→Z03 m L (opd fr x).bare (a.eval x):=fun x hc=>Z3G (Z0Z h x) hc
 obtain⟨dst,op,ty,pos,after,guard⟩:=o
 cases op <;> try exact fun h=>h.elim
 case move x=>exact fun hp=>⟨.value (a.eval x),w,m,rfl,.inl ⟨_,rfl,R x (hp rfl)⟩,hW,Ext.refl⟩
 case assign x=>exact fun hp=>⟨.value (a.eval x),w,m,rfl,.inl ⟨_,rfl,R x (hp rfl)⟩,hW,Ext.refl⟩
 case pick q x y=>
  simp only [ev,Zdq]
  split
  ·rename_i t ht
   intro hp
   obtain⟨h1,h2,h3⟩:=hp
   have hq:=R q (h1 rfl)
   rw [ht] at hq
   simp only [Z03] at hq
   refine⟨.value (if t then a.eval x else a.eval y),w,m,?_,.inl ⟨_,rfl,?_⟩,hW,Ext.refl⟩
   ·simp [execOp,hq,asBool]
   ·refine Z8z (fun ht=>?_) (fun ht=>?_)
    ·subst ht; exact R x (h2 rfl)
    ·subst ht; exact R y (h3 rfl)
  ·exact Z0i.bad
 case binOp op t x y yt=>exact Z0i.also fun ⟨h1,h2⟩=>ZfO hW op t x y (R x (h1 rfl)) (R y (h2 rfl))
 case unOp op t x=>exact Z0i.also fun h1=>Zg8 hW op (R x (h1 rfl))
 case convert s d x=>exact Z0i.also fun h1=>ZbS hW s d (R x (h1 rfl))
 case index t x i=>exact Z0i.also fun ⟨h1,h2⟩=>Z9U hW t (R x (h1 rfl)) (R i (h2 rfl))
 case indexAddr t x i=>exact Z0i.also fun ⟨h1,h2⟩=>Z6p hW t (R x (h1 rfl)) (R i (h2 rfl))
 case load t x=>exact Z0i.also fun h1=>ZbJ hW t (R x (h1 rfl))
 case store t x y=>exact Z0i.also fun ⟨h1,h2⟩=>Z9k hW t (R x (h1 rfl)) (R y (h2 rfl))
 case alloc t=>exact Za6 hW t
 case box t x=>exact Z0i.also fun h1=>ZfN hW t (R x (h1 rfl))
 case build t parts=>exact Z0i.also fun h1=>Za5 hW t (Z3l h parts h1).1 (Z3l h parts h1).2
 case buildSlice t len parts=>exact Z0i.also fun h1=>Z5J hW t len (Z3l h parts h1).1 (Z3l h parts h1).2
 case field t x f=>exact Z0i.also fun h1=>Za2 hW t f (R x (h1 rfl))
 case fieldAddr t x f=>exact Z0i.also fun h1=>Z6x hW t f (R x (h1 rfl))
 case extract x i=>exact Z0i.also fun h1=>Z86 hW i (R x (h1 rfl))
 case slice t x lo hi mx=>exact Z0i.also fun ⟨h1,h2,h3,h4⟩=>Z9q hW t (R x (h1 rfl)) (ZmA h lo h2) (ZmA h hi h3) (ZmA h mx h4)
 case sliceToArrayPointer t x=>exact Z0i.also fun h1=>Z94 hW t (R x (h1 rfl))
 case range t x=>exact Z0i.also fun h1=>Z9A hW t (R x (h1 rfl))
 case next x b=>exact Z0i.also fun h1=>ZbE hW ty b (R x (h1 rfl))
 case nilCheck x=>exact Z0i.also fun h1=>Z6K hW (R x (h1 rfl)) _ x a.eval rfl rfl
 case makeMap t r=>exact Z0i.also fun h1=>Z7N hW t (ZmA h r h1)
 case lookup t x k ok=>exact Z0i.also fun ⟨h1,h2⟩=>ZbH hW t ok (R x (h1 rfl)) (R k (h2 rfl))
 case insert t x k v=>
  refine Z0i.also fun ⟨h1,h2,h3⟩=>?_
  intro hp
  obtain⟨w',m',q1,q2,q3,q4⟩:=Z5z hW t (R x (h1 rfl)) (R k (h2 rfl)) (R v (h3 rfl)) hp
  exact⟨.skip,w',m',by simp [execOp,q1],.inr ⟨rfl,q2⟩,q3,q4⟩
 case mapUpdate t x k v=>
  refine Z0i.also fun ⟨h1,h2,h3⟩=>?_
  intro hp
  obtain⟨w',m',q1,q2,q3,q4⟩:=Z5z hW t (R x (h1 rfl)) (R k (h2 rfl)) (R v (h3 rfl)) hp
  exact⟨.skip,w',m',by simp [execOp,q1],.inr ⟨rfl,q2⟩,q3,q4⟩
 case makeInterface t x=>
  refine Z0i.pure hW fun hp=>?_
  obtain⟨h1,h2⟩:=hp
  refine⟨.iface t (a.eval x),?_,by simp only [Z03]; exact⟨_,rfl,R x (h1 rfl)⟩⟩
  unfold Z7U at h2
  split at h2
  ·cases h2
  ·rename_i d hd hu
   cases d <;> simp_all [Instr.makeInterface,Z00 hu]
  ·cases h2
 case makeFunc f first captured=>
  refine Z0i.pure hW fun hp=>?_
  obtain⟨h1,h2⟩:=hp
  have e:∀xs:Array Operand,xs.map a.eval=(xs.toList.map a.eval).toArray:=fun xs=>by apply Array.ext'; simp
  refine⟨.func f (first.map a.eval) (captured.map a.eval),by simp [Instr.makeFunc],?_⟩
  simp only [Z03]
  exact⟨first.toList.map a.eval,captured.toList.map a.eval,by rw [e,e],Z3w h _ h1,Z3w h _ h2⟩
 case makeSlice t l k=>exact Z0i.also fun ⟨h1,h2⟩=>Z6g hW t (R l (h1 rfl)) (R k (h2 rfl))
 case call c=>
  obtain⟨callee,args,ts⟩:=c
  cases callee <;> try exact fun h=>h.elim
  case builtin b=>
   obtain⟨args⟩:=args
   obtain⟨ts⟩:=ts
   simp only [ev,Z4k]
   split
   ·rename_i x t
    refine Z0i.also fun h1=>?_
    have:=ZdT (P:=P) hW t ty (R x (h1 rfl))
    have e:execOp a.eval { dst,op:=.call { callee:=.builtin .len,args:=#[x],argTypes:=#[t] },type:=ty,pos,after,guard }=Z1j (Builtin.len_ #[t] ty #[a.eval x]):=by
     simp [execOp,resolve,invoke,builtin,Z1j]
    rw [e]; exact this
   ·rename_i x y
    refine Z0i.also fun ⟨h1,h2⟩=>?_
    have:=ZdJ (P:=P) hW ts ty (R x (h1 rfl)) (R y (h2 rfl))
    have e:execOp a.eval { dst,op:=.call { callee:=.builtin .min,args:=#[x,y],argTypes:=⟨ts⟩ },type:=ty,pos,after,guard }=Z1j (Builtin.min_ ⟨ts⟩ ty #[a.eval x,a.eval y]):=by
     simp [execOp,resolve,invoke,builtin,Z1j]
    rw [e]; exact this
   ·rename_i x y
    refine Z0i.also fun ⟨h1,h2⟩=>?_
    have:=ZdK (P:=P) hW ts ty (R x (h1 rfl)) (R y (h2 rfl))
    have e:execOp a.eval { dst,op:=.call { callee:=.builtin .max,args:=#[x,y],argTypes:=⟨ts⟩ },type:=ty,pos,after,guard }=Z1j (Builtin.max_ ⟨ts⟩ ty #[a.eval x,a.eval y]):=by
     simp [execOp,resolve,invoke,builtin,Z1j]
    rw [e]; exact this
   ·rename_i s x t tx
    refine Z0i.also fun ⟨h1,h2⟩=>?_
    have:=ZfQ (P:=P) hW t tx ty (R s (h1 rfl)) (R x (h2 rfl)) (Z95 (P:=P) hW t tx ty (R s (h1 rfl)) (R x (h2 rfl)))
    have e:execOp a.eval { dst,op:=.call { callee:=.builtin .append,args:=#[s,x],argTypes:=#[t,tx] },type:=ty,pos,after,guard }=Z1j (Builtin.append_ #[t,tx] ty #[a.eval s,a.eval x]):=by
     simp [execOp,resolve,invoke,builtin,Z1j]
    rw [e]; exact this
   ·rename_i s x t tx
    refine Z0i.also fun ⟨h1,h2⟩=>?_
    have:=ZbR (P:=P) hW t tx ty (R s (h1 rfl)) (R x (h2 rfl))
    have e:execOp a.eval { dst,op:=.call { callee:=.builtin .copy,args:=#[s,x],argTypes:=#[t,tx] },type:=ty,pos,after,guard }=Z1j (Builtin.copy_ #[t,tx] ty #[a.eval s,a.eval x]):=by
     simp [execOp,resolve,invoke,builtin,Z1j]
    rw [e]; exact this
   ·rename_i x k t ts'
    refine Z0i.also fun ⟨h1,h2⟩=>?_
    have:=Z8G (P:=P) hW t ty 0 ts' (R x (h1 rfl)) (R k (h2 rfl))
    have e:execOp a.eval { dst,op:=.call { callee:=.builtin .delete,args:=#[x,k],argTypes:=⟨t::ts'⟩ },type:=ty,pos,after,guard }=Z1j (Builtin.delete_ ⟨t::ts'⟩ ty #[a.eval x,a.eval k]):=by
     simp [execOp,resolve,invoke,builtin,Z1j]
    rw [e]; exact this
   ·exact Z0i.bad
end
end Go.Eng
end
