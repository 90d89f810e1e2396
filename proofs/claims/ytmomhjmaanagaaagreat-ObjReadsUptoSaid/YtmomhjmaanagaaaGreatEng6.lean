/- The engine, part 6: the operations that make or change memory are sound. -/
import Derived.Test.YtmomhjmaanagaaaGreatEng5
set_option linter.unusedVariables false
set_option linter.unusedSimpArgs false
namespace Go.Eng
open Go
section
variable {P:Program} {m:Mem} {L:Heap} {w:World}
theorem Z2w:∀{cs:List AV} {us:List Value},Z0e m L cs us→Z0m cs=true→∀u∈us,u.oneCell'=true
 | [],us,h,_=>by simp only [Z0e] at h; simp [h]
 | c::cs,us,h,ho=>by
  simp only [Z0e] at h
  obtain⟨u,us',rfl,h1,h2⟩:=h
  have ih:Z0m cs=true→∀u∈us',u.oneCell'=true:=Z2w h2
  have hcs:Z0m cs=true:=by cases c <;> simp_all [Z0m]
  have hu:u.oneCell'=true:=by
   cases c <;> simp only [Z0m,Z05,Bool.and_eq_true,Bool.false_eq_true] at ho h1
   case int=>subst h1; rfl
   case bool=>subst h1; rfl
   case str=>subst h1; rfl
   case lit=>subst h1; exact ho.1
   case sl=>obtain⟨a,cap,rfl,_⟩:=h1; rfl
   case msl=>obtain⟨_,_,_,_,_,⟨a,n,c,rfl⟩,_⟩:=h1; rfl
   case ref=>
    rcases h1 with ⟨_,_,_,_,_,⟨a,rfl⟩,_⟩ | ⟨_,_,rfl⟩ <;> rfl
   case ub=>obtain⟨_,rfl,_⟩:=h1; rfl
   case csl=>obtain⟨_,_,_,_,_,⟨a,n,c,rfl⟩,_⟩:=h1; rfl
   case mp=>obtain⟨_,_,rfl⟩:=h1; rfl
   case mpr=>obtain⟨_,_,_,rfl,_⟩:=h1; rfl
   case ip=>obtain⟨_,_,_,rfl,_⟩:=h1; rfl
   case fn=>obtain⟨_,_,rfl,_⟩:=h1; rfl
   case ifc=>obtain⟨_,rfl,_⟩:=h1; rfl
  intro x hx
  rcases List.mem_cons.1 hx with rfl | hx
  ·exact hu
  ·exact ih hcs x hx
theorem Z6j{X:AV}{u:Value}(h:Z05 m L X u)(ho:Z0m X.cells=true):Z0e m L X.cells u.cells.toList:=by
 have one:∀(Y:AV),Y.cells=[Y]→Z05 m L Y u→Z0m [Y]=true→Z0e m L Y.cells u.cells.toList:=by
  intro Y hY hv ho
  have:=Z2w (Z0e.cons hv (Z0e.nil m L)) ho u (by simp)
  rw [hY]
  have hu:u.cells=#[u]:=by cases u <;> simp_all [Value.cells,Value.oneCell']
  rw [hu]
  exact Z0e.cons hv (Z0e.nil m L)
 cases X with
 | agg cs=>simp only [Z05] at h; obtain⟨us,rfl,hc⟩:=h; simpa [AV.cells,Value.cells] using hc
 | _=>exact one _ rfl h ho
theorem Z1W(v:Value):Z0e m L (ofV v).cells v.cells.toList:=by
 cases v with
 | agg cs=>simp only [ofV,AV.cells,Value.cells]; exact Z2S m L _
 | func f a b=>
  simp only [ofV,AV.cells,Value.cells]
  exact Z0e.cons (by simpa [ofV] using Z44 m L (.func f a b)) (Z0e.nil m L)
 | _=>simp [ofV,Z45,AV.cells,Value.cells,Z0e,Z05]
theorem Z8S(w:World)(g o:Nat)(v:Value)(arr:List Value)(elem:TypeId)(fz:Nat×Nat)(h:w.heap[g]?=some (.cells arr.toArray elem fz)) :
  (w.setCell ⟨g,o,none⟩ v).heap[g]?=some (.cells (arr.set o v).toArray elem fz)∧(∀g',g'≠g→(w.setCell ⟨g,o,none⟩ v).heap[g']?=w.heap[g']?)∧(w.setCell ⟨g,o,none⟩ v).heap.size=w.heap.size∧Z9h w (w.setCell ⟨g,o,none⟩ v):=by
 refine⟨?_,fun g' hg=>?_,by simp [World.setCell],rfl,rfl,rfl⟩
 ·simp [World.setCell,Array.getElem?_modify,h]
 ·simp [World.setCell,Array.getElem?_modify,hg.symm]
theorem Z5T(arr:List Value)(k:Nat)(v:Value)(rest:List Value)(h:k+1+rest.length≤arr.length) :
  (arr.set k v).take (k+1)++rest++(arr.set k v).drop (k+1+rest.length)=arr.take k++(v::rest)++arr.drop (k+(rest.length+1)):=by
 have h1:(arr.set k v).take (k+1)=arr.take k++[v]:=by
  rw [List.take_succ_eq_append_getElem (by simp; omega)]
  simp [List.take_set_of_le (Nat.le_refl k)]
 have h2:(arr.set k v).drop (k+1+rest.length)=arr.drop (k+(rest.length+1)):=by
  rw [List.drop_set_of_lt (by omega)]
  congr 1; omega
 rw [h1,h2]
 simp
theorem Z2c(g o:Nat):∀(vs:List Value) (i:Nat) (w:World) (arr:List Value) (elem:TypeId) (lo hi:Nat),w.heap[g]?=some (.cells arr.toArray elem (lo,hi))→o+i+vs.length≤arr.length→
  (∀j,o+i≤j→j<o+i+vs.length→¬(lo≤j∧j<hi))→(∀v∈vs,v.oneCell'=true)→
  ∃w',(storeCells ⟨g,o,none⟩ vs i).run P w=.ok () w'∧Chg w w' g (.cells (arr.take (o+i)++vs++arr.drop (o+i+vs.length)).toArray elem (lo,hi))∧w'.heap.size=w.heap.size
 | [],i,w,arr,elem,lo,hi,hg,_,_,_=>⟨w,by simp [storeCells],⟨by simpa using hg,fun _ _ _=>rfl,Nat.le_refl _,Z9h.refl w⟩,rfl⟩
 | v::rest,i,w,arr,elem,lo,hi,hg,hl,hf,h1=>by
  simp at hl
  have hcell:w.cell? ⟨g,o+i,none⟩=some arr[o+i]:=by simp [World.cell?,hg]
  have hfro:w.frozen? ⟨g,o+i,none⟩=false:=by
   have:=hf (o+i) (Nat.le_refl _) (by simp)
   simp [World.frozen?,hg]; omega
  obtain⟨c1,c2,c3,c4⟩:=Z8S w g (o+i) v arr elem (lo,hi) hg
  have hst:(store ((⟨g,o,none⟩:Addr).add i) v).run P w=.ok () (w.setCell ⟨g,o+i,none⟩ v):=by
   rw [Addr.add_lit,run_store P w _ v _ (h1 v (by simp)),hcell]
   simp [hfro]
  obtain⟨w',hr,hC,hs⟩:=Z2c g o rest (i+1) (w.setCell ⟨g,o+i,none⟩ v) (arr.set (o+i) v) elem lo hi c1 (by simp; omega)
   (fun j h2 h3=>hf j (by omega) (by simp; omega)) (fun x hx=>h1 x (by simp [hx]))
  refine⟨w',?_,⟨?_,fun g' hne hlt=>?_,by rw [hs,c3]; exact Nat.le_refl _,c4.trans hC.same⟩,by rw [hs,c3]⟩
  ·simp only [storeCells,Sem.run_bind,hst,Result.andThen_ok,hr]
  ·rw [hC.at_]
   have:=Z5T arr (o+i) v rest (by omega)
   rw [←Nat.add_assoc,this]
   rfl
  ·rw [hC.other g' hne (by rw [c3]; exact hlt),c2 g' hne]
theorem Z2F(cs:List AV)(off:Nat)(ds:List AV)(us vs:List Value)(hc:Z0e m L cs us)(hd:Z0e m L ds vs):Z0e m L (Z2m cs off ds) (us.take off++vs++us.drop (off+vs.length)):=by
 unfold Z2m
 rw [hd.length]
 exact ((hc.take off).append hd).append (hc.drop _)
theorem Z8L(hW:Z0O m L w)(t:TypeId){X Y:AV}{u v:Value}(hx:Z05 m L X u)(hy:Z05 m L Y v) :
  Z0l P m L w (Z9p P true L t X Y) (do Instr.storeAt t u v; pure .skip):=by
 cases X <;> try exact fun h=>h.elim
 case ref id ver off=>
  intro hp
  obtain⟨-,hf,hi,hn,hpos,hle,ho⟩:=hp
  obtain⟨cs,sz,hL,hr,hsz⟩:=Z0N hf
  have hu:=Z3F hx hf
  subst hu
  rw [hr] at hle
  have hcells:=Z6j hy ho
  have hone:=Z2w hcells ho
  have hvl:=hcells.length
  have hcap:m.cap id≠0:=by
   intro h
   have hnil:=hW.nils _ _ _ _ hL h
   rw [hnil,List.length_nil] at hle; omega
  obtain⟨us,rest,elem,lo,hi',hb,hc,hlen,hfz⟩:=hW.rows _ _ _ _ hL hcap
  have hul:=hc.length
  obtain⟨w',hrun,hC,hs⟩:=Z2c (P:=P) (m.blk id) off v.cells.toList 0 w (us++rest) elem lo hi' hb (by simp at *; omega) (fun j h1 h2=>by simp at *; omega) hone
  have e1:(us++rest).take (off+0)++v.cells.toList++(us++rest).drop (off+0+v.cells.toList.length)=(us.take off++v.cells.toList++us.drop (off+v.cells.toList.length))++rest:=by
   rw [Nat.add_zero,List.take_append_of_le_length (by omega),List.drop_append_of_le_length (by omega)]
   simp
  rw [e1] at hC
  have hlen2:(us.take off++v.cells.toList++us.drop (off+v.cells.toList.length)).length=us.length:=by simp at *; omega
  obtain⟨t1,t2⟩:=Z3A hW hL (cs:=Z2m cs off Y.cells) (ver':=ver) (g:=m.blk id) (c:=m.cap id) (.inl ⟨rfl,hcap⟩) hC (Z2F cs off Y.cells us v.cells.toList hc hcells) (by rw [hlen2]; exact hlen) hfz hcap
   (.inl ⟨rfl,by have:=(Z2F cs off Y.cells us v.cells.toList hc hcells).length; omega,rfl,rfl⟩)
  have hset:Z6I L id (Z2m (Z0Q L id) off Y.cells)=L.set id (.row (Z2m cs off Y.cells) sz ver):=by
   simp [Z6I,hL,hr]
  refine⟨.skip,w',m.put id (m.blk id) (m.cap id),?_,.inr ⟨rfl,rfl⟩,?_,?_⟩
  ·have hsz':v.cells.size=P.cellsOf t:=by rw [←hn,←hvl]; simp
   simp [Instr.storeAt,Instr.sureAddr,storeVar,Z0s hi,hsz',hrun]
  ·show Z0O _ (Z6I L id (Z2m (Z0Q L id) off Y.cells)) _
   rw [hset]; exact t1
  ·show Ext _ _ _ _ (Z6I L id (Z2m (Z0Q L id) off Y.cells)) _
   rw [hset]; exact t2
theorem Z33(w:World)(cs:Array Value)(t:TypeId):Z1x w (w.alloc (.cells cs t)) (.cells (cs.toList++[]).toArray t (0,0)):=by
 have:(cs.toList++[]).toArray=cs:=by simp
 rw [this]; exact⟨rfl,rfl,rfl,rfl⟩
theorem Zc2(cs:List AV)(sz g c:Nat):Z05 (m.put L.length g c) (L++[.row cs sz 0]) (.ref L.length 0 0) (.pointer (some ⟨g,0,none⟩)):=by
 simp only [Z05]
 exact .inl ⟨cs,sz,0,by simp,Nat.le_refl _,⟨_,rfl⟩,fun _=>by simp [Mem.put]⟩
theorem Z61(cs:List AV)(sz g c len:Nat)(h1:len*sz≤cs.length)(h2:len≤c):Z05 (m.put L.length g c) (L++[.row cs sz 0]) (.msl L.length 0 0 len) (.slice (some ⟨g,0,none⟩) len c):=by
 simp only [Z05]
 exact⟨cs,sz,0,by simp,Nat.le_refl _,⟨_,_,_,rfl⟩,fun _=>⟨by simpa using h1,by simpa [Mem.put] using h2,some ⟨g,0,none⟩,by simp [Mem.put],.inr (by simp [Mem.put])⟩⟩
theorem Z1c{t:TypeId}(h:Z1U P t):∃z i,P.info? t=some i∧i.zero=some z∧Z1u P t=ofV z∧(zeroValue t).run P w=.ok z w:=by
 unfold Z1U at h
 cases hi:P.info? t with
 | none=>simp [hi] at h
 | some i=>
  cases hz:i.zero with
  | none=>simp [hi,hz] at h
  | some z=>exact⟨z,i,rfl,hz,by simp [Z1u,hi,hz],by simp [zeroValue,typeInfo,hi,hz]⟩
theorem Z9f(hW:Z0O m L w)(t:TypeId):Z0l P m L w (Z6l P true L t) (Z1B (Instr.alloc t true (.tuple #[]))):=by
 unfold Z6l
 split
 ·rename_i e _
  rintro⟨-,hz,hzc⟩
  obtain⟨z,i,hi,hzi,hza,hzr⟩:=Z1c (w:=w) hz
  have hzv:z=.agg #[.pointer none,.slice none 0 0]:=by
   have h1:=Z44 m L z
   rw [←hza,hzc] at h1
   simp only [Z05,Z0e] at h1
   obtain⟨us,rfl,a,us',rfl,rfl,b,us'',rfl,rfl,rfl⟩:=h1
   rfl
  have hP:=Z1x.alloc w (.cells #[.pointer none,.slice none 0 0] t)
  refine⟨.value (.pointer (some ⟨w.heap.size,0,none⟩)),_,_,?_,.inl ⟨_,rfl,?_⟩,Z7o hW hP trivial (fun T e' l h=>?_),Z2j _ _ hP.keep⟩
  ·simp [Z1B,Instr.alloc,hzr,newVar,newRow,hzv,Value.cells]
  ·simp only [Z05]
   exact .inr ⟨.bld t e [],by simp,by simp [Mem.put]⟩
  ·cases h
   exact⟨_,_,hP.new,.inl rfl,.inl ⟨rfl,rfl,rfl⟩⟩
 intro hp
 obtain⟨-,hz⟩:=hp
 obtain⟨z,i,hi,hzi,hza,hzr⟩:=Z1c (w:=w) hz
 have hc:Z0e m L (Z1u P t).cells z.cells.toList:=by rw [hza]; exact Z1W z
 have hP:Z1x w (w.alloc (.cells z.cells t)) (.cells (z.cells.toList++[]).toArray t (0,0)):=Z33 w _ t
 have hl:=hc.length
 have h1:=Z3G (sz:=(Z1u P t).cells.length) (c:=1) hW hP hc (by simp at hl ⊢; omega) (.inl rfl)
 refine⟨.value (.pointer (some ⟨w.heap.size,0,none⟩)),_,_,?_,.inl ⟨_,rfl,?_⟩,h1,Z2j _ _ hP.keep⟩
 ·simp [Z1B,Instr.alloc,hzr,newVar,newRow]
 ·exact Zc2 _ _ _ _
theorem ZdK(hW:Z0O m L w)(t:TypeId){X:AV}{u:Value}(hx:Z05 m L X u):Z0l P m L w (ZjC true L X) (Z1B (Instr.box t u)):=by
 intro hp
 obtain⟨-,ho⟩:=hp
 have hc:=Z6j hx ho
 have hP:Z1x w (w.alloc (.cells u.cells t)) (.cells (u.cells.toList++[]).toArray t (0,0)):=Z33 w _ t
 have hl:=hc.length
 have h1:=Z3G (sz:=X.cells.length) (c:=1) hW hP hc (by simp at hl ⊢; omega) (.inl rfl)
 refine⟨.value (.pointer (some ⟨w.heap.size,0,none⟩)),_,_,?_,.inl ⟨_,rfl,?_⟩,h1,Z2j _ _ hP.keep⟩
 ·simp [Z1B,Instr.box,newVar,newRow]
 ·exact Zc2 _ _ _ _
theorem Z8l(off:Nat):∀(vs:List Value) (k:Nat) (arr:List Value),off+k+vs.length≤arr.length→
  ((vs.zipIdx k).foldl (fun cs (x:Value×Nat)=>cs.setIfInBounds (off+x.2) x.1) arr.toArray).toList=arr.take (off+k)++vs++arr.drop (off+k+vs.length)
 | [],k,arr,_=>by simp
 | v::rest,k,arr,h=>by
  simp at h
  simp only [List.zipIdx_cons,List.foldl_cons]
  have e:(arr.toArray.setIfInBounds (off+k) v)=(arr.set (off+k) v).toArray:=by simp
  rw [e,Z8l off rest (k+1) (arr.set (off+k) v) (by simp; omega)]
  have:=Z5T arr (off+k) v rest (by omega)
  rw [←Nat.add_assoc,this]
  rfl
theorem Z4R{place placeA:Nat→Option (Nat×Nat)}(hp:∀i,placeA i=place i):∀(parts:List (Nat×AV)) (vals:List (Nat×Value)) (cells:List AV) (us:List Value) (out:List AV),
  Z0e m L cells us→(∀q∈parts,Z0m q.2.cells=true)→(parts.map (·.1)=vals.map (·.1))→(∀(j:Nat) (q:Nat×AV) (r:Nat×Value),parts[j]?=some q→vals[j]?=some r→Z05 m L q.2 r.2)→
  fillA placeA cells parts=some out→∃os:List Value,Instr.fill place us.toArray vals=some os.toArray∧Z0e m L out os
 | [],vals,cells,us,out,hc,_,hm,_,ho=>by
  have:vals=[]:=by simpa using hm.symm
  subst this
  simp only [fillA,Option.some.injEq] at ho
  subst ho
  exact⟨us,by simp [Instr.fill],hc⟩
 | (i,x)::parts,vals,cells,us,out,hc,h1,hm,hr,ho=>by
  cases vals with
  | nil=>simp at hm
  | cons r vals=>
   obtain⟨i',v⟩:=r
   simp at hm
   obtain⟨rfl,hm⟩:=hm
   simp only [fillA,hp] at ho
   cases hpl:place i with
   | none=>simp [hpl] at ho
   | some q=>
    obtain⟨off,size⟩:=q
    simp only [hpl] at ho
    split at ho
    ·cases ho
    ·rename_i hcond
     have hx:Z05 m L x v:=hr 0 (i,x) (i,v) (by simp) (by simp)
     have hxo:=h1 (i,x) (by simp)
     have hcx:=Z6j hx hxo
     have hlx:=hcx.length
     have hl:=hc.length
     simp at hcond hlx
     have hfold:=Z8l off v.cells.toList 0 us (by simp; omega)
     have hsp:=Z2F cells off x.cells us v.cells.toList hc hcx
     have hz:v.cells.zipIdx.foldl (fun cs (x:Value×Nat)=>cs.setIfInBounds (off+x.2) x.1) us.toArray=(us.take off++v.cells.toList++us.drop (off+v.cells.toList.length)).toArray:=by
      apply Array.toList_inj.1
      rw [←Array.foldl_toList]
      simpa using hfold
     obtain⟨os,ho1,ho2⟩:=Z4R hp parts vals _ _ out hsp (fun q hq=>h1 q (by simp [hq])) hm (fun j q r hq hr'=>hr (j+1) q r (by simpa using hq) (by simpa using hr')) ho
     refine⟨os,?_,ho2⟩
     rw [←ho1]
     simp only [Instr.fill,hpl]
     rw [if_neg (by simp; omega)]
     congr 1
theorem Z91{fields:Array Field}(h:Z7C P fields):(fields.mapM (m:=Sem) fun f=>do pure (f.offset,←sizeOf f.type)).run P w=.ok (Z4f P fields).toArray w:=by
 have key:∀(l:List Field),(∀f∈l,(P.info? f.type).isSome=true)→(l.mapM (m:=Sem) fun f=>do pure (f.offset,←sizeOf f.type)).run P w=.ok (l.map fun f=>(f.offset,P.cellsOf f.type)) w:=by
  intro l
  induction l with
  | nil=>intro _; simp
  | cons f l ih=>
   intro h
   have hf:=Z0s (P:=P) (w:=w) (h f (by simp))
   have ih':=ih fun g hg=>h g (by simp [hg])
   simp only [List.mapM_cons]
   simp [hf]
   simp at ih'
   simp [ih']
 have:=key fields.toList h
 rw [Array.mapM_eq_mapM_toList]
 simp only [Sem.run_map,this,Result.andThen_ok,Z4f]
theorem Z9e(hW:Z0O m L w)(t:TypeId){parts:List (Nat×AV)}{vals:Array (Nat×Value)}(hm:parts.map (·.1)=vals.toList.map (·.1))
  (hr:∀(j:Nat) (q:Nat×AV) (r:Nat×Value),parts[j]?=some q→vals.toList[j]?=some r→Z05 m L q.2 r.2):Z0l P m L w (Z8t P true L t parts) (Z1B (Instr.build t vals)):=by
 unfold Z8t
 split
 ·rename_i fields hu
  split
  ·rename_i cs hfill
   refine Z0l.pure hW fun hp=>?_
   obtain⟨hz,hf,ho⟩:=hp
   obtain⟨z,i,hi,hzi,hza,hzr⟩:=Z1c (w:=w) hz
   rw [hza] at hfill
   obtain⟨os,h1,h2⟩:=Z4R (place:=fun i=>(Z4f P fields).toArray[i]?) (fun i=>by simp) parts vals.toList _ _ cs (Z1W z) (ho rfl) hm hr hfill
   refine⟨.agg os.toArray,?_,by simp only [Z05]; exact⟨os,rfl,h2⟩⟩
   have h1':Instr.fill (fun i=>(Z4f P fields).toArray[i]?) z.cells vals.toList=some os.toArray:=by simpa using h1
   have hmf:=Z91 (P:=P) (w:=w) hf
   simp [Instr.build,hzr,Z01 hu]
   simp at hmf
   simp [hmf]
   simp at h1'
   simp [h1']
  ·exact fun h=>h.elim
 ·rename_i n e hu
  split
  ·rename_i cs hfill
   refine Z0l.pure hW fun hp=>?_
   obtain⟨hz,hi',ho⟩:=hp
   obtain⟨z,i,hi,hzi,hza,hzr⟩:=Z1c (w:=w) hz
   rw [hza] at hfill
   obtain⟨os,h1,h2⟩:=Z4R (place:=fun i=>some (i*P.cellsOf e,P.cellsOf e)) (fun i=>rfl) parts vals.toList _ _ cs (Z1W z) (ho rfl) hm hr hfill
   refine⟨.agg os.toArray,?_,by simp only [Z05]; exact⟨os,rfl,h2⟩⟩
   have h1':Instr.fill (fun i=>some (i*P.cellsOf e,P.cellsOf e)) z.cells vals.toList=some os.toArray:=by simpa using h1
   simp [Instr.build,hzr,Z01 hu,Z0s hi',h1']
  ·exact fun h=>h.elim
 ·exact fun h=>h.elim
theorem Z2Q(n:Nat)(cs:List AV):(Z8B n cs).length=n*cs.length:=by
 simp [Z8B,List.length_flatten]
theorem Z9t(cs:List AV):∀(n j:Nat),j<n*cs.length→(Z8B n cs)[j]?=cs[j % cs.length]?
 | 0,j,h=>by simp at h
 | n+1,j,h=>by
  have e:Z8B (n+1) cs=cs++Z8B n cs:=by simp [Z8B,List.replicate_succ]
  rw [e]
  by_cases hj:j<cs.length
  ·rw [List.getElem?_append_left hj,Nat.mod_eq_of_lt hj]
  ·have hlt:j - cs.length<n*cs.length:=by rw [Nat.succ_mul] at h; omega
   rw [List.getElem?_append_right (by omega),Z9t cs n (j - cs.length) hlt]
   rw [Nat.mod_eq_sub_mod (a:=j) (by omega)]
theorem Z4H{cs:List AV}{zs:Array Value}(h:Z0e m L cs zs.toList)(n:Nat)(hz:0<cs.length) :
  Z0e m L (Z8B n cs) ((Array.range (n*cs.length)).map (zs[· % zs.size]!)).toList:=by
 have hl:=h.length
 simp at hl
 refine Z0e.mk (by simp [Z2Q]) fun j c u hc hu=>?_
 have hj:j<n*cs.length:=by
  have:=(List.getElem?_eq_some_iff.1 hc).1
  rwa [Z2Q] at this
 rw [Z9t cs n j hj] at hc
 simp [hj] at hu
 have hm:j % zs.size<zs.size:=Nat.mod_lt _ (by omega)
 rw [←hl] at hc
 obtain⟨u',hu',hr⟩:=h.get _ _ hc
 simp [hm] at hu'
 rw [getElem!_pos zs _ hm] at hu
 rw [←hu,hu']
 exact hr
theorem ZeB{w':World}{o:Obj}(hW:Z0O m L w)(hp:Z1x w w' o) :
  Z0O { m with pobj:=fun x=>if x=w.heap.size then some o else m.pobj x } L w'∧Ext m L w { m with pobj:=fun x=>if x=w.heap.size then some o else m.pobj x } L w':=by
 have hpo:∀x o',m.pobj x=some o'→(if x=w.heap.size then some o else m.pobj x)=some o':=by
  intro x o' h
  have:=hW.pobj_lt h
  rw [if_neg (by omega)]; exact h
 have hm:Z4G m L { m with pobj:=fun x=>if x=w.heap.size then some o else m.pobj x } L:=
  ⟨hpo,fun id cs sz ver h=>⟨cs,ver,h,Nat.le_refl _,fun _=>⟨rfl,rfl,rfl⟩⟩,fun id r h=>⟨r,h,rfl⟩⟩
 refine⟨⟨hW.glob.mono hpo,fun x o' h=>?_,fun id cs sz ver hL hc=>?_,fun id cs sz ver hL hc=>hW.nils id cs sz ver hL hc,fun id r hL=>?_,fun i j hi hj e=>hW.inj i j hi hj e,fun id ho'=>?_,?_⟩,?_⟩
 ·simp only at h
  split at h
  ·rename_i e; subst e; rw [hp.new]; exact h
  ·rw [hp.old (hW.pobj_lt h)]; exact hW.pobjs _ _ h
 ·obtain⟨us,rest,elem,lo,hi,h1,h2,h3,h4⟩:=hW.rows id cs sz ver hL hc
  have hlt:m.blk id<w.heap.size:=hW.blk_lt (.inl ⟨_,_,_,hL,hc⟩)
  exact⟨us,rest,elem,lo,hi,by rw [hp.old hlt]; exact h1,Z0e.mono hm _ _ h2,h3,h4⟩
 ·obtain⟨o',h1,h2⟩:=hW.iters id r hL
  have hlt:m.blk id<w.heap.size:=hW.blk_lt (.inr ⟨_,hL⟩)
  exact⟨o',by rw [hp.old hlt]; exact h1,h2⟩
 ·have hlt:m.blk id<w.heap.size:=hW.blk_lt ho'
  simp only
  rw [if_neg (by omega)]
  exact hW.freeo id ho'
 ·refine hW.hid.keep (fun _ _ _ _ h=>⟨h,rfl,rfl⟩) (fun id T e l h _=>hp.old (hW.blk_lt (.inr ⟨_,h⟩))) (fun id g k=>hp.old (hW.hid.lt k)) (fun id g k=>?_) (fun id g k j hj=>hW.hid.own id g k j hj)
  have:=hW.hid.lt k
  simp only
  rw [if_neg (by omega)]; exact hW.hid.free id g k
 ·exact⟨fun x hx _ _=>hp.old hx,hp.keep.size,fun x hx=>by simp only; rw [if_neg (by omega)],fun id h=>.inl ⟨h,rfl⟩,Nat.le_refl _,hm,hp.keep.same,fun _ _ h=>.inl h⟩
theorem Z5y(hW:Z0O m L w)(t:TypeId)(len:Nat){parts:List (Nat×AV)}{vals:Array (Nat×Value)}(hm:parts.map (·.1)=vals.toList.map (·.1))
  (hr:∀(j:Nat) (q:Nat×AV) (r:Nat×Value),parts[j]?=some q→vals.toList[j]?=some r→Z05 m L q.2 r.2):Z0l P m L w (Z2Z P true L t len parts) (Z1B (Instr.buildSlice t len vals)):=by
 unfold Z2Z
 split
 ·rename_i e hu
  split
  ·rename_i cs hfill
   intro hp
   obtain⟨-,hz,hzl,hs0,hbig,ho,hone⟩:=hp
   obtain⟨z,i,hi,hzi,hza,hzr⟩:=Z1c (w:=w) hz
   have hsz:=Z0s (P:=P) (w:=w) (t:=e) (by rw [hi]; rfl)
   have hzc:Z0e m L (Z1u P e).cells z.cells.toList:=by rw [hza]; exact Z1W z
   have hzs:=Z4H hzc len (by omega)
   rw [hzl] at hzs
   obtain⟨os,h1,h2⟩:=Z4R (place:=fun i=>some (i*P.cellsOf e,P.cellsOf e)) (fun i=>rfl) parts vals.toList _ _ cs hzs ho hm hr hfill
   have hol:=h2.length
   have hcl:cs.length=len*P.cellsOf e:=by
    have:∀(parts:List (Nat×AV)) (cells out:List AV),fillA (fun i=>some (i*P.cellsOf e,P.cellsOf e)) cells parts=some out→out.length=cells.length:=by
     intro parts
     induction parts with
     | nil=>intro cells out h; simp [fillA] at h; rw [h]
     | cons q parts ih=>
      intro cells out h
      obtain⟨i,x⟩:=q
      simp only [fillA] at h
      split at h
      ·cases h
      ·rename_i hc
       rw [ih _ _ h]
       simp at hc
       simp [Z2m]; omega
    rw [this _ _ _ hfill,Z2Q,hzl]
   have hP:Z1x w (w.alloc (.cells os.toArray e)) (.cells (os++[]).toArray e (0,0)):=by
    have:=Z33 w os.toArray e
    simpa using this
   have hpr:=Z3G (sz:=P.cellsOf e) (c:=len) hW hP h2 (by simp; omega) (.inl rfl)
   have h1':Instr.fill (fun i=>some (i*P.cellsOf e,P.cellsOf e)) ((Array.range (len*P.cellsOf e)).map (z.cells[· % z.cells.size]!)) vals.toList=some os.toArray:=by rw [←h1]
   refine⟨.value (.slice (some ⟨w.heap.size,0,none⟩) len len),_,_,?_,.inl ⟨_,rfl,?_⟩,hpr,Z2j _ _ hP.keep⟩
   ·by_cases hne:len*P.cellsOf e=0
    ·have hz0:∀f:Nat→Value,(Array.range 0).map f=#[]:=fun f=>Array.eq_empty_of_size_eq_zero (by simp)
     have h1'':Instr.fill (fun i=>some (i*P.cellsOf e,P.cellsOf e)) #[] vals.toList=some os.toArray:=by
      rw [←h1',hne,hz0]
     simp [Z1B,Instr.buildSlice,Z01 hu,hsz,hne,newRow,hz0,h1'']
    ·simp [Z1B,Instr.buildSlice,Z01 hu,hsz,hne,show ¬16777216<len*P.cellsOf e by omega,hzr,newRow,h1']
   ·exact Z61 _ _ _ _ _ (by omega) (Nat.le_refl _)
  ·exact fun h=>h.elim
 ·exact fun h=>h.elim
theorem Z7j(hW:Z0O m L w)(t:TypeId)(len:Nat){parts:List (Nat×AV)}{vals:Array (Nat×Value)}(hm:parts.map (·.1)=vals.toList.map (·.1))
  (hr:∀(j:Nat) (q:Nat×AV) (r:Nat×Value),parts[j]?=some q→vals.toList[j]?=some r→Z05 m L q.2 r.2):Z0l P m L w (Z3E P true L t len parts) (Z1B (Instr.buildSlice t len vals)):=by
 unfold Z3E
 split
 ·rename_i e hu
  split
  ·rename_i cs hfill
   intro hp
   obtain⟨hz,hzl,hs0,hbig,ho,hone⟩:=hp
   obtain⟨z,i,hi,hzi,hza,hzr⟩:=Z1c (w:=w) hz
   have hsz:=Z0s (P:=P) (w:=w) (t:=e) (by rw [hi]; rfl)
   have hzc:Z0e m L (Z1u P e).cells z.cells.toList:=by rw [hza]; exact Z1W z
   have hzs:=Z4H hzc len (by omega)
   rw [hzl] at hzs
   obtain⟨os,h1,h2⟩:=Z4R (place:=fun i=>some (i*P.cellsOf e,P.cellsOf e)) (fun i=>rfl) parts vals.toList _ _ cs hzs ho hm hr hfill
   have hol:=h2.length
   have hcl:cs.length=len*P.cellsOf e:=by
    have:∀(parts:List (Nat×AV)) (cells out:List AV),fillA (fun i=>some (i*P.cellsOf e,P.cellsOf e)) cells parts=some out→out.length=cells.length:=by
     intro parts
     induction parts with
     | nil=>intro cells out h; simp [fillA] at h; rw [h]
     | cons q parts ih=>
      intro cells out h
      obtain⟨i,x⟩:=q
      simp only [fillA] at h
      split at h
      ·cases h
      ·rename_i hc
       rw [ih _ _ h]
       simp at hc
       simp [Z2m]; omega
    rw [this _ _ _ hfill,Z2Q,hzl]
   have hP:Z1x w (w.alloc (.cells os.toArray e)) (.cells (os++[]).toArray e (0,0)):=by
    have:=Z33 w os.toArray e
    simpa using this
   obtain⟨q1,q2⟩:=ZeB hW hP
   have h1':Instr.fill (fun i=>some (i*P.cellsOf e,P.cellsOf e)) ((Array.range (len*P.cellsOf e)).map (z.cells[· % z.cells.size]!)) vals.toList=some os.toArray:=by rw [←h1]
   refine⟨.value (.slice (some ⟨w.heap.size,0,none⟩) len len),_,_,?_,.inl ⟨_,rfl,?_⟩,q1,q2⟩
   ·by_cases hne:len*P.cellsOf e=0
    ·have hz0:∀f:Nat→Value,(Array.range 0).map f=#[]:=fun f=>Array.eq_empty_of_size_eq_zero (by simp)
     have h1'':Instr.fill (fun i=>some (i*P.cellsOf e,P.cellsOf e)) #[] vals.toList=some os.toArray:=by
      rw [←h1',hne,hz0]
     simp [Z1B,Instr.buildSlice,Z01 hu,hsz,hne,newRow,hz0,h1'']
    ·simp [Z1B,Instr.buildSlice,Z01 hu,hsz,hne,show ¬16777216<len*P.cellsOf e by omega,hzr,newRow,h1']
   ·simp only [Z05]
    refine⟨_,_,rfl,Nat.le_refl _,os,Z0e.mono q2.mono _ _ h2,.inr ⟨w.heap.size,0,rfl,fun i v hi=>?_⟩⟩
    simp only [Mem.pin,Nat.zero_add,if_true]
    simpa using hi
  ·exact fun h=>h.elim
 ·exact fun h=>h.elim
theorem Z8Y(hW:Z0O m L w)(t:TypeId){X:AV}{u:Value}(hx:Z05 m L X u):Z0l P m L w (Z7Z P true L t X) (Z1B (Instr.range t u)):=by
 cases X <;> try exact fun h=>h.elim
 case str l=>
  intro hp
  obtain⟨-,hu⟩:=hp
  simp only [Z05] at hx; subst hx
  have hP:=Z1x.alloc w (.stringIter ⟨l.toArray⟩ 0)
  refine⟨.value (.pointer (some ⟨w.heap.size,0,none⟩)),_,_,?_,.inl ⟨_,rfl,?_⟩,Z7o hW hP rfl,Z2j _ _ hP.keep⟩
  ·simp [Z1B,Instr.range,Z01 hu]
  ·simp only [Z05,Z7Z]
   exact .inr ⟨.iter l 0,by simp,by simp [Mem.put]⟩
theorem Zan(hW:Z0O m L w)(t:TypeId)(b:Bool){X:AV}{u:Value}(hx:Z05 m L X u):Z0l P m L w (nextR true L X b) (Z1B (Instr.next u b t)):=by
 cases X <;> try exact fun h=>h.elim
 case ref id ver off=>
  simp only [nextR]
  split
  ·rename_i s p hL
   intro hp
   obtain⟨-,rfl⟩:=hp
   simp only [Z05] at hx
   have hu:u=.pointer (some ⟨m.blk id,0,none⟩):=by
    rcases hx with ⟨_,_,_,h,_⟩ | ⟨_,h,hu⟩
    ·rw [hL] at h; simp at h
    ·exact hu
   subst hu
   obtain⟨ob,hb,hrr⟩:=hW.iters _ _ hL
   simp only [Z4X] at hrr
   subst hrr
   have hlt:m.blk id<w.heap.size:=hW.blk_lt (.inr ⟨_,hL⟩)
   have hget:(getObj (m.blk id)).run P w=.ok (.stringIter ⟨s.toArray⟩ p) w:=by simp [getObj,Sem.run,hb]
   by_cases hps:p<s.length
   ·have hset:(setObj (m.blk id) (.stringIter ⟨s.toArray⟩ (p+(Z3h s p).2))).run P w=.ok () { w with heap:=w.heap.setIfInBounds (m.blk id) (.stringIter ⟨s.toArray⟩ (p+(Z3h s p).2)) }:=by
     simp [setObj,Sem.run,hb]
    have hC:Chg w { w with heap:=w.heap.setIfInBounds (m.blk id) (.stringIter ⟨s.toArray⟩ (p+(Z3h s p).2)) } (m.blk id) (.stringIter ⟨s.toArray⟩ (p+(Z3h s p).2)):=by
     refine⟨by simp [hlt],fun g' hne _=>?_,by simp,rfl,rfl,rfl⟩
     simp [Array.getElem?_setIfInBounds,hne.symm]
    obtain⟨t1,t2⟩:=Z7c (r:=.iter s (p+(Z3h s p).2)) hW hL hC rfl
    refine⟨.value (.tuple #[.bool true,goInt p,.int .i32 (Z3h s p).1]),_,m,?_,.inl ⟨_,rfl,?_⟩,by simpa [hps] using t1,by simpa [hps] using t2⟩
    ·simp [Z1B,Instr.next,hget,Z8u,hps]
     unfold Z3h at hset
     simp [hset,Z3h]
    ·simp only [Z05,hps,decide_true]
     exact⟨fun _=>⟨[.bool true,goInt p,.int .i32 (Z3h s p).1],rfl,by simp [Z0e,Z05,goInt]⟩,fun h=>by cases h⟩
   ·refine⟨.value (.tuple #[.bool false]),w,m,?_,.inl ⟨_,rfl,?_⟩,?_,?_⟩
    ·simp [Z1B,Instr.next,hget,Z8u,hps]
    ·rw [show decide (p<s.length)=false by simp [hps]]
     simp only [Z05]
     exact⟨(fun h=>by cases h),fun _=>⟨[.bool false],rfl,by simp [Z0e,Z05]⟩⟩
    ·have e:L.set id (.raw (.iter s (if p<s.length then p+(Z3h s p).2 else p)))=L:=by
      rw [if_neg hps]
      apply List.ext_getElem?
      intro j
      rw [List.getElem?_set]
      split
      ·rename_i h; subst h; split <;> simp_all
      ·rfl
     show Z0O m (L.set id _) w
     rw [e]; exact hW
    ·have e:L.set id (.raw (.iter s (if p<s.length then p+(Z3h s p).2 else p)))=L:=by
      rw [if_neg hps]
      apply List.ext_getElem?
      intro j
      rw [List.getElem?_set]
      split
      ·rename_i h; subst h; split <;> simp_all
      ·rfl
     show Ext m L w m (L.set id _) w
     rw [e]; exact Ext.refl
  ·exact fun h=>h.elim
end
end Go.Eng