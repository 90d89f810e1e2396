/- The engine, part 7M: maps. -/
import Derived.Test.YtmomhjmaanagaaaGreatEng7
import Derived.MapKept
import Derived.Laws.StructEq
set_option linter.unusedVariables false
set_option linter.unusedSimpArgs false
namespace Go.Eng
open Go
section
variable {P:Program} {m:Mem} {L:Heap} {w:World}
def Z5t:Option IntKind→TypeDesc
 | some k=>.int k
 | none=>.string
theorem Z5o{kt:TypeId}{kd:Option IntKind}(h:Z1l P kt=some kd):P.underlying kt=some (Z5t kd):=by
 unfold Z1l at h
 split at h <;> simp_all
 all_goals (subst h; rfl)
theorem Z4b{kt:TypeId}{kd:Option IntKind}(h:Z1l P kt=some kd)(b:Bool)(k:Key)(hk:k.kd=kd):(Instr.checkKey b 10000 kt k.val).run P w=.ok () w:=by
 have hu:=Z5o h
 show (Instr.checkKey b (9999+1) kt k.val).run P w=_
 generalize 9999=d
 cases k <;> simp only [Key.kd] at hk <;> subst hk <;> simp only [Z5t] at hu <;> simp [Instr.checkKey,Key.val,Z01 hu]
theorem Z7t{k k':Key}(h:k.val=k'.val):k=k':=by
 cases k <;> cases k' <;> simp_all [Key.val]
theorem Z8U{kd:Option IntKind}{k k':Key}(h:k.kd=kd)(h':k'.kd=kd):Instr.sameNow (Z5t kd) k.val k'.val=some (decide (k=k')):=by
 subst h
 cases k <;> cases k' <;> simp only [Key.kd,reduceCtorEq,Option.some.injEq] at h' <;> simp [Instr.sameNow,Key.val,Key.kd,Z5t]
 ·subst h'; simp
  rw [Bool.eq_iff_iff]; simp
 ·rename_i a b
  rw [Bool.eq_iff_iff,beq_toListBytes,ByteArray.toList_mk,ByteArray.toList_mk]; simp
theorem Z5r{kd:Option IntKind}{k:Key}(hk:k.kd=kd):∀(es:List MapEntry) (i:Nat),(∀e∈es,∃k':Key,e.key=k'.val∧k'.kd=kd)→
  (∃j e,es[j]?=some e∧e.key=k.val∧Instr.findNow (Z5t kd) k.val es i=some (some (i+j,e.val)))∨
  ((∀e∈es,e.key≠k.val)∧Instr.findNow (Z5t kd) k.val es i=some none)
 | [],i,_=>.inr ⟨by simp,rfl⟩
 | e::es,i,h=>by
  obtain⟨k',h1,h2⟩:=h e (by simp)
  have hs:=Z8U hk h2
  by_cases he:k=k'
  ·left
   refine⟨0,e,rfl,by rw [h1,he],?_⟩
   subst he
   simp only [Instr.findNow,h1,hs,decide_true,Nat.add_zero]
  ·have hf:Instr.findNow (Z5t kd) k.val (e::es) i=Instr.findNow (Z5t kd) k.val es (i+1):=by
    simp only [Instr.findNow,h1,hs,he,decide_false]
   rcases Z5r hk es (i+1) (fun x hx=>h x (by simp [hx])) with ⟨j,e',q1,q2,q3⟩ | ⟨q1,q2⟩
   ·left
    exact⟨j+1,e',by simpa using q1,q2,by rw [hf,q3]; congr 3; omega⟩
   ·right
    refine⟨fun x hx=>?_,by rw [hf,q2]⟩
    rcases List.mem_cons.1 hx with rfl | hx
    ·rw [h1]; exact fun e=>he (Z7t e).symm
    ·exact q1 x hx
theorem Z77.kinds{kd:Option IntKind}{f:Key→Option Value}{es:List MapEntry}(h:Z77 kd f es):∀e∈es,∃k':Key,e.key=k'.val∧k'.kd=kd:=fun e he=>by
 obtain⟨k,h1,h2⟩:=h.ent e he
 exact⟨k,h1,(h.has k _ h2).1⟩
theorem Z6a{kd:Option IntKind}{f:Key→Option Value}{es:List MapEntry}(h:Z77 kd f es){k:Key}(hk:k.kd=kd){kt:TypeId}(hkt:Z1l P kt=some kd) :
  (∃j e,es[j]?=some e∧e.key=k.val∧f k=some e.val∧∀w,(Instr.findKey kt k.val es).run P w=.ok (some (j,e.val)) w)∨(f k=none∧(∀e∈es,e.key≠k.val)∧∀w,(Instr.findKey kt k.val es).run P w=.ok none w):=by
 have hu:=Z5o hkt
 rcases Z5r hk es 0 h.kinds with ⟨j,e,q1,q2,q3⟩ | ⟨q1,q2⟩
 ·left
  obtain⟨k',h1,h2⟩:=h.ent e (List.mem_of_getElem? q1)
  have:k=k':=Z7t (by rw [←q2,h1])
  subst this
  refine⟨j,e,q1,q2,h2,fun w=>?_⟩
  have:=MapKept.run_findKey (w:=w) hu q3
  simpa using this
 ·right
  refine⟨?_,q1,fun w=>MapKept.run_findKey (w:=w) hu q2⟩
  cases hf:f k with
  | none=>rfl
  | some v=>
   obtain⟨_,e,he,h2⟩:=h.has k v hf
   exact absurd h2 (q1 e he)
theorem Zc6(hW:Z0O m L w){id:Nat}{kd:Option IntKind}{f:Key→Option Value}{u:Value}(hx:Z05 m L (.mp id) u)(hL:L[id]?=some (.raw (.map kd f))) :
  u=.map (some (m.blk id))∧∃es clock,w.heap[m.blk id]?=some (.map es clock)∧MRC kd f es.toList clock:=by
 simp only [Z05] at hx
 obtain⟨r,hL',hu⟩:=hx
 obtain⟨o,hb,hr⟩:=hW.iters _ _ hL
 simp only [Z4X] at hr
 obtain⟨es,clock,rfl,h⟩:=hr
 exact⟨hu,es,clock,hb,h⟩
theorem Z4j{X:AV}{u:Value}{k:Key}(hx:Z05 m L X u)(h:Z6U X=some k):u=k.val:=by
 cases X <;> simp only [Z6U,reduceCtorEq,Option.some.injEq] at h <;> subst h <;> simpa only [Z05,Key.val] using hx
theorem Zcb(hW:Z0O m L w)(t:TypeId)(ok:Bool){kt et:TypeId}(hu:P.underlying t=some (.map kt et)){kd:Option IntKind}{f:Key→Option Value}{g:Nat}{es:Array MapEntry}{clock:Nat}(hb:w.heap[g]?=some (.map es clock))(hM:Z77 kd f es.toList)(key:Key) :
  Z0l P m L w ⟨Z1U P et∧Z1l P kt=some kd∧key.kd=kd,cond ok (.alt (f key).isSome (.tup [ofV ((f key).getD undef),.bool true]) (.tup [Z1u P et,.bool false])) (Z5Y (f key).isSome (ofV ((f key).getD undef)) (Z1u P et)),L⟩
   (Z1B (Instr.lookup t (.map (some g)) key.val ok)):=by
 refine Z0l.pure hW fun hp=>?_
 obtain⟨hz,hkt,hkd⟩:=hp
 have hget:(getObj g).run P w=.ok (.map es clock) w:=by simp [getObj,Sem.run,hb]
 have hc:=Z4b (P:=P) (w:=w) hkt es.isEmpty key hkd
 obtain⟨z,i,h1,h2,h3,h4⟩:=Z1c (P:=P) (w:=w) hz
 rcases Z6a (P:=P) hM hkd hkt with ⟨j,e,q1,q2,q3,q4⟩ | ⟨q1,q2,q3⟩
 ·refine⟨if ok then .tuple #[e.val,.bool true] else e.val,?_,?_⟩
  ·simp [Instr.lookup,Z01 hu,hget,hc,q4]
  ·rw [q3]
   cases ok
   ·simp only [cond_false,Option.isSome_some,Option.getD_some,Z4h]; exact Z44 _ _ _
   ·simp only [cond_true,Option.isSome_some,Option.getD_some,Z05]
    exact⟨fun _=>⟨[e.val,.bool true],rfl,by simp only [Z0e]; exact⟨_,_,rfl,Z44 _ _ _,_,_,rfl,by simp [Z05],rfl⟩⟩,fun h=>by cases h⟩
 ·refine⟨if ok then .tuple #[z,.bool false] else z,?_,?_⟩
  ·simp [Instr.lookup,Z01 hu,hget,hc,q3,h4]
  ·rw [q1]
   cases ok
   ·simp only [cond_false,Option.isSome_none,Z3J]; rw [h3]; exact Z44 _ _ _
   ·simp only [cond_true,Option.isSome_none,Z05]
    exact⟨(fun h=>by cases h),fun _=>⟨[z,.bool false],rfl,by simp only [Z0e]; exact⟨_,_,rfl,by rw [h3]; exact Z44 _ _ _,_,_,rfl,by simp [Z05],rfl⟩⟩⟩
theorem Zaq(hW:Z0O m L w)(t:TypeId)(ok:Bool){X K:AV}{u k:Value}(hx:Z05 m L X u)(hk:Z05 m L K k):Z0l P m L w (Zar P L t X K ok) (Z1B (Instr.lookup t u k ok)):=by
 unfold Zar
 split
 ·rename_i kt et id key hu hkey
  split
  ·rename_i kd f hL
   obtain⟨rfl,es,clock,hb,hM⟩:=Zc6 hW hx hL
   have:=Z4j hk hkey
   subst this
   exact Zcb hW t ok hu hb hM.rel key
  ·exact fun h=>h.elim
 ·rename_i kt et kd f key hu hkey
  simp only [Z05] at hx
  obtain⟨g,es,clock,rfl,hp,hM⟩:=hx
  have:=Z4j hk hkey
  subst this
  exact Zcb hW t ok hu (hW.pobjs _ _ hp) hM.rel key
 ·exact fun h=>h.elim
theorem Z7r(hW:Z0O m L w)(t:TypeId){r:Option AV}{v:Option Value}(hr:ZaE m L r v):Z0l P m L w (Z4M P true L t r) (Z1B (Instr.makeMap t v)):=by
 have key:∀(kd:Option IntKind),(∀w:World,(Instr.makeMap t v).run P w=.ok (.map (some w.heap.size)) (w.alloc (.map #[] 0)))→Z0l P m L w ⟨true=true,.mp L.length,L++[.raw (.map kd noK)]⟩ (Z1B (Instr.makeMap t v)):=by
  intro kd hrun _
  have hP:=Z1x.alloc w (.map #[] 0)
  refine⟨.value (.map (some w.heap.size)),_,_,?_,.inl ⟨_,rfl,?_⟩,Z7o hW hP ?_,Z2j _ _ hP.keep⟩
  ·simp [Z1B,hrun w]
  ·simp only [Z05]
   exact⟨.map kd noK,by simp,by simp [Mem.put]⟩
  ·exact⟨#[],0,rfl,⟨by simp,by simp [noK],by simp⟩,⟨by simp,by simp⟩⟩
 unfold Z4M
 split
 ·rename_i kt et hu
  have:=hr.iff.1 rfl; subst this
  split
  ·refine key _ fun w=>?_
   simp [Instr.makeMap]
  ·exact fun h=>h.elim
 ·rename_i kt et k n hu
  split
  ·cases v with
   | none=>exact absurd (hr.iff.2 rfl) (by simp)
   | some v=>
    have hv:=hr
    simp only [ZaE,Z05] at hv
    subst hv
    refine key _ fun w=>?_
    simp [Instr.makeMap,Z01 hu,asInt,asIntOf]
  ·exact fun h=>h.elim
 ·exact fun h=>h.elim
theorem Z82{X:AV}{u v:Value}(hx:Z05 m L X u)(h:Zaj X=some v):u=v:=by
 cases X
 case fn f a b=>
  cases a <;> cases b <;> simp only [Zaj,reduceCtorEq,Option.some.injEq] at h
  subst h
  simp only [Z05,Z0e] at hx
  obtain⟨us,vs,rfl,rfl,rfl⟩:=hx
  rfl
 all_goals (simp only [Zaj,reduceCtorEq,Option.some.injEq] at h <;> subst h <;> simpa only [Z05] using hx)
theorem Z6N:∀{xs:List AV} {us vs:List Value},Z0e m L xs us→Z6O xs=some vs→us=vs
 | [],us,vs,hx,h=>by simp only [Z6O,Option.some.injEq] at h; simp only [Z0e] at hx; rw [hx,h]
 | x::xs,us,vs,hx,h=>by
  simp only [Z0e] at hx
  obtain⟨u,us',rfl,h1,h2⟩:=hx
  simp only [Z6O] at h
  split at h
  ·rename_i v vs' e1 e2
   simp only [Option.some.injEq] at h
   subst h
   rw [Z82 h1 e1,Z6N h2 e2]
  ·cases h
theorem Z9V{X:AV}{u v:Value}(hx:Z05 m L X u)(h:Z9o X=some v):u=v:=by
 cases X <;> simp only [Z9o] at h <;> try exact Z82 hx h
 simp only [Option.map_eq_some_iff] at h
 obtain⟨vs,h1,rfl⟩:=h
 simp only [Z05] at hx
 obtain⟨us,rfl,hc⟩:=hx
 rw [Z6N hc h1]
theorem Z7W(n:Nat)(k:Key):Instr.sameBits n k.val k.val=true:=by
 cases k <;> cases n <;> simp [Instr.sameBits,Key.val,beq_toListBytes]
theorem Z77.put{kd:Option IntKind}{f:Key→Option Value}{es:List MapEntry}(h:Z77 kd f es){k:Key}(hk:k.kd=kd){j:Nat}{e:MapEntry}(hj:es[j]?=some e)(he:e.key=k.val)(v:Value)(g:MapEntry→MapEntry)(hg:g e={ e with key:=k.val,val:=v }) :
  Z77 kd (Z8A f k v) (es.set j (g e)):=by
 have hkeys:(es.set j (g e)).map (·.key)=es.map (·.key):=by
  rw [List.map_set,hg]
  apply List.ext_getElem?
  intro i
  rw [List.getElem?_set]
  split
  ·rename_i hij
   subst hij
   simp only [List.length_map]
   have hlt:=(List.getElem?_eq_some_iff.1 hj).1
   simp [hlt,List.getElem?_map,hj,he]
   have:=(List.getElem?_eq_some_iff.1 hj).2
   rw [this,he]
  ·rfl
 have hlt:=(List.getElem?_eq_some_iff.1 hj).1
 refine⟨fun x hx=>?_,fun k' v' hf=>?_,by rw [hkeys]; exact h.nodup⟩
 ·obtain⟨i,hi⟩:=List.mem_iff_getElem?.1 hx
  rw [List.getElem?_set] at hi
  split at hi
  ·simp [hlt] at hi
   subst hi
   exact⟨k,by rw [hg],by rw [hg]; simp [Z8A]⟩
  ·rename_i hij
   obtain⟨k',h1,h2⟩:=h.ent x (List.mem_of_getElem? hi)
   refine⟨k',h1,?_⟩
   have hne:k'≠k:=by
    rintro rfl
    have hnd:=h.nodup
    have hii:=(List.getElem?_eq_some_iff.1 hi).1
    have e1:(es.map (·.key))[i]?=some k'.val:=by simp [hi,h1]
    have e2:(es.map (·.key))[j]?=some k'.val:=by simp [hj,he]
    have:=(List.getElem?_inj (by simpa using hii) hnd).1 (e1.trans e2.symm)
    exact hij this.symm
   simp [Z8A,hne,h2]
 ·by_cases hkk:k'=k
  ·subst hkk
   exact⟨hk,g e,List.mem_iff_getElem?.2 ⟨j,by simp [hlt]⟩,by rw [hg]⟩
  ·simp only [Z8A,hkk,if_false] at hf
   obtain⟨h1,x,h2,h3⟩:=h.has k' v' hf
   refine⟨h1,x,?_,h3⟩
   obtain⟨i,hi⟩:=List.mem_iff_getElem?.1 h2
   refine List.mem_iff_getElem?.2 ⟨i,?_⟩
   rw [List.getElem?_set_ne]
   ·exact hi
   ·rintro rfl
    rw [hj] at hi
    obtain rfl:=Option.some.inj hi
    exact hkk (Z7t (by rw [←h3,he]))
theorem Z77.push{kd:Option IntKind}{f:Key→Option Value}{es:List MapEntry}(h:Z77 kd f es){k:Key}(hk:k.kd=kd)(hn:∀e∈es,e.key≠k.val)(v:Value)(b:Nat):Z77 kd (Z8A f k v) (es++[{ key:=k.val,val:=v,born:=b }]):=by
 refine⟨fun x hx=>?_,fun k' v' hf=>?_,?_⟩
 ·rcases List.mem_append.1 hx with hx | hx
  ·obtain⟨k',h1,h2⟩:=h.ent x hx
   have:k'≠k:=by rintro rfl; exact hn x ‹_› h1
   exact⟨k',h1,by simp [Z8A,this,h2]⟩
  ·simp at hx; subst hx
   exact⟨k,rfl,by simp [Z8A]⟩
 ·by_cases hkk:k'=k
  ·subst hkk
   exact⟨hk,{ key:=k'.val,val:=v,born:=b },List.mem_append.2 (.inr (by simp)),rfl⟩
  ·simp only [Z8A,hkk,if_false] at hf
   obtain⟨h1,x,h2,h3⟩:=h.has k' v' hf
   exact⟨h1,x,List.mem_append.2 (.inl h2),h3⟩
 ·rw [List.map_append,List.nodup_append]
  refine⟨h.nodup,by simp,fun a ha b hb=>?_⟩
  simp at hb; subst hb
  obtain⟨x,hx,rfl⟩:=List.mem_map.1 ha
  exact hn x hx
theorem Z4s.put{es:List MapEntry}{clock:Nat}(h:Z4s es clock){j:Nat}{e x:MapEntry}(hj:es[j]?=some e)(hx:x.born=e.born):Z4s (es.set j x) clock:=by
 have hm:(es.set j x).map (·.born)=es.map (·.born):=by
  rw [List.map_set,hx]
  apply List.ext_getElem?
  intro i
  rw [List.getElem?_set]
  split
  ·rename_i hij
   subst hij
   simp only [List.length_map]
   have hlt:=(List.getElem?_eq_some_iff.1 hj).1
   simp [hlt]
   have:=(List.getElem?_eq_some_iff.1 hj).2
   rw [this]
  ·rfl
 refine⟨fun y hy=>?_,by rw [hm]; exact h.2⟩
 have:y.born∈es.map (·.born):=by rw [←hm]; exact List.mem_map.2 ⟨y,hy,rfl⟩
 obtain⟨z,hz,he⟩:=List.mem_map.1 this
 rw [←he]; exact h.1 z hz
theorem Z4s.push{es:List MapEntry}{clock:Nat}(h:Z4s es clock)(k v:Value):Z4s (es++[{ key:=k,val:=v,born:=clock }]) (clock+1):=by
 refine⟨fun x hx=>?_,?_⟩
 ·rcases List.mem_append.1 hx with hx | hx
  ·have:=h.1 x hx; omega
  ·simp at hx; subst hx; simp
 ·rw [List.map_append,List.nodup_append]
  refine⟨h.2,by simp,fun a ha b hb=>?_⟩
  simp at hb; subst hb
  obtain⟨x,hx,rfl⟩:=List.mem_map.1 ha
  have:=h.1 x hx; omega
theorem Z77.del{kd:Option IntKind}{f:Key→Option Value}{es:List MapEntry}(h:Z77 kd f es){k:Key}{j:Nat}{e:MapEntry}(hj:es[j]?=some e)(he:e.key=k.val):Z77 kd (Z9J f k) (es.eraseIdx j):=by
 have hlt:=(List.getElem?_eq_some_iff.1 hj).1
 have hnd:((es.eraseIdx j).map (·.key)).Nodup:=by
  exact h.nodup.sublist ((List.eraseIdx_sublist _ _).map _)
 have huniq:∀(i:Nat) (x:MapEntry),es[i]?=some x→x.key=k.val→i=j:=fun i x hi hx=>by
  have hii:=(List.getElem?_eq_some_iff.1 hi).1
  have e1:(es.map (·.key))[i]?=some k.val:=by simp [hi,hx]
  have e2:(es.map (·.key))[j]?=some k.val:=by simp [hj,he]
  exact (List.getElem?_inj (by simpa using hii) h.nodup).1 (e1.trans e2.symm)
 refine⟨fun x hx=>?_,fun k' v' hf=>?_,hnd⟩
 ·obtain⟨k',h1,h2⟩:=h.ent x (List.mem_of_mem_eraseIdx hx)
  refine⟨k',h1,?_⟩
  have hne:k'≠k:=by
   rintro rfl
   rw [List.mem_eraseIdx_iff_getElem?] at hx
   obtain⟨i,hi,hx⟩:=hx
   exact hi (huniq i x hx h1)
  simp [Z9J,hne,h2]
 ·by_cases hkk:k'=k
  ·subst hkk; simp [Z9J] at hf
  ·simp only [Z9J,hkk,if_false] at hf
   obtain⟨h1,x,h2,h3⟩:=h.has k' v' hf
   refine⟨h1,x,?_,h3⟩
   obtain⟨i,hi⟩:=List.mem_iff_getElem?.1 h2
   rw [List.mem_eraseIdx_iff_getElem?]
   refine⟨i,?_,hi⟩
   rintro rfl
   rw [hj] at hi
   obtain rfl:=Option.some.inj hi
   exact hkk (Z7t (by rw [←h3,he]))
theorem Z77.delNone{kd:Option IntKind}{f:Key→Option Value}{es:List MapEntry}(h:Z77 kd f es){k:Key}(hf:f k=none):Z77 kd (Z9J f k) es:=by
 have e:Z9J f k=f:=by
  funext k'
  unfold Z9J
  split
  ·rename_i h'; rw [h',hf]
  ·rfl
 rw [e]; exact h
theorem Z4s.del{es:List MapEntry}{clock:Nat}(h:Z4s es clock)(j:Nat):Z4s (es.eraseIdx j) clock:=
 ⟨fun x hx=>h.1 x (List.mem_of_mem_eraseIdx hx),h.2.sublist ((List.eraseIdx_sublist _ _).map _)⟩
theorem Z8b(hW:Z0O m L w)(t ty tk:TypeId)(ts:List TypeId){X K:AV}{u k:Value}(hx:Z05 m L X u)(hk:Z05 m L K k) :
  Z0l P m L w (Z64 P true L t X K) (Z1B (Builtin.delete_ ⟨t::ts⟩ ty #[u,k])):=by
 unfold Z64
 split
 ·rename_i kt et id key hu hkey
  split
  ·rename_i kd f hL
   rintro⟨-,hkt,hkd⟩
   obtain⟨rfl,es,clock,hb,hM⟩:=Zc6 hW hx hL
   have:=Z4j hk hkey
   subst this
   have hlt:m.blk id<w.heap.size:=hW.blk_lt (.inr ⟨_,hL⟩)
   have hget:(getObj (m.blk id)).run P w=.ok (.map es clock) w:=by simp [getObj,Sem.run,hb]
   have hc:=Z4b (P:=P) (w:=w) hkt es.isEmpty key hkd
   have hset:∀o,(setObj (m.blk id) o).run P w=.ok () { w with heap:=w.heap.setIfInBounds (m.blk id) o }:=fun o=>by simp [setObj,Sem.run,hb]
   have hC:∀o,Chg w { w with heap:=w.heap.setIfInBounds (m.blk id) o } (m.blk id) o:=fun o=>by
    refine⟨by simp [hlt],fun g' hne _=>?_,by simp,rfl,rfl,rfl⟩
    simp [Array.getElem?_setIfInBounds,hne.symm]
   have fin:∀(es':Array MapEntry),MRC kd (Z9J f key) es'.toList clock→(Builtin.delete_ ⟨t::ts⟩ ty #[.map (some (m.blk id)),key.val]).run P w=.ok (.tuple #[]) { w with heap:=w.heap.setIfInBounds (m.blk id) (.map es' clock) }→
     ∃w',(Builtin.delete_ ⟨t::ts⟩ ty #[.map (some (m.blk id)),key.val]).run P w=.ok (.tuple #[]) w'∧Z0O m (L.set id (.raw (.map kd (Z9J f key)))) w'∧Ext m L w m (L.set id (.raw (.map kd (Z9J f key)))) w':=by
    intro es' hM' hrun
    obtain⟨t1,t2⟩:=Z7c (r:=.map kd (Z9J f key)) hW hL (hC (.map es' clock)) ⟨es',clock,rfl,hM'⟩
    exact⟨_,hrun,t1,t2⟩
   obtain⟨w',hrun,t1,t2⟩:∃w',(Builtin.delete_ ⟨t::ts⟩ ty #[.map (some (m.blk id)),key.val]).run P w=.ok (.tuple #[]) w'∧Z0O m (L.set id (.raw (.map kd (Z9J f key)))) w'∧Ext m L w m (L.set id (.raw (.map kd (Z9J f key)))) w':=by
    rcases Z6a (P:=P) hM.rel hkd hkt with ⟨j,e,q1,q2,q3,q4⟩ | ⟨q1,q2,q3⟩
    ·refine fin (es.eraseIdxIfInBounds j) ?_ ?_
     ·rw [Array.toList_eraseIdxIfInBounds]
      exact⟨hM.rel.del q1 q2,hM.st.del j⟩
     ·simp [Builtin.delete_,Z01 hu,hget,hc,q4,hset]
    ·refine fin es ⟨hM.rel.delNone q1,hM.st⟩ ?_
     simp [Builtin.delete_,Z01 hu,hget,hc,q3,hset]
   exact⟨.value (.tuple #[]),w',m,by simp [Z1B,hrun],.inl ⟨_,rfl,by simp [Z05,Z0e]⟩,t1,t2⟩
  ·exact fun h=>h.elim
 ·exact fun h=>h.elim
theorem Z5m(hW:Z0O m L w)(t:TypeId){X K V:AV}{u k v:Value}(hx:Z05 m L X u)(hk:Z05 m L K k)(hv:Z05 m L V v) :
  (Z3a P true L t X K V).pre→∃w' m',(Instr.mapUpdate t u k v).run P w=.ok () w'∧(Z3a P true L t X K V).v=.lit undef∧Z0O m' (Z3a P true L t X K V).L w'∧Ext m L w m' (Z3a P true L t X K V).L w':=by
 unfold Z3a
 split
 ·rename_i kt et id key val hu hkey hval
  split
  ·rename_i kd f hL
   rintro⟨-,hkt,hkd⟩
   obtain⟨rfl,es,clock,hb,hM⟩:=Zc6 hW hx hL
   have:=Z4j hk hkey
   subst this
   have:=Z9V hv hval
   subst this
   have hlt:m.blk id<w.heap.size:=hW.blk_lt (.inr ⟨_,hL⟩)
   have hget:(getObj (m.blk id)).run P w=.ok (.map es clock) w:=by simp [getObj,Sem.run,hb]
   have hc:=Z4b (P:=P) (w:=w) hkt false key hkd
   have hset:∀o,(setObj (m.blk id) o).run P w=.ok () { w with heap:=w.heap.setIfInBounds (m.blk id) o }:=fun o=>by simp [setObj,Sem.run,hb]
   have hC:∀o,Chg w { w with heap:=w.heap.setIfInBounds (m.blk id) o } (m.blk id) o:=fun o=>by
    refine⟨by simp [hlt],fun g' hne _=>?_,by simp,rfl,rfl,rfl⟩
    simp [Array.getElem?_setIfInBounds,hne.symm]
   have fin:∀(es':Array MapEntry) (clock':Nat),MRC kd (Z8A f key v) es'.toList clock'→(Instr.mapUpdate t (.map (some (m.blk id))) key.val v).run P w=.ok () { w with heap:=w.heap.setIfInBounds (m.blk id) (.map es' clock') }→
     ∃w' m',(Instr.mapUpdate t (.map (some (m.blk id))) key.val v).run P w=.ok () w'∧AV.lit undef=.lit undef∧Z0O m' (L.set id (.raw (.map kd (Z8A f key v)))) w'∧Ext m L w m' (L.set id (.raw (.map kd (Z8A f key v)))) w':=by
    intro es' clock' hM' hrun
    obtain⟨t1,t2⟩:=Z7c (r:=.map kd (Z8A f key v)) hW hL (hC (.map es' clock')) ⟨es',clock',rfl,hM'⟩
    exact⟨_,m,hrun,rfl,t1,t2⟩
   rcases Z6a (P:=P) hM.rel hkd hkt with ⟨j,e,q1,q2,q3,q4⟩ | ⟨q1,q2,q3⟩
   ·have q1':es[j]?=some e:=by simpa using q1
    refine fin (es.modify j fun e=>{ e with key:=key.val,val:=v }) clock ?_ ?_
    ·have:=Z77.put hM.rel hkd q1 q2 v (fun e=>{ e with key:=key.val,val:=v }) rfl
     rw [Array.toList_modify,List.modify_eq_set,q1]
     exact⟨this,hM.st.put q1 rfl⟩
    ·simp [Instr.mapUpdate,Z01 hu,hget,hc,q4,q1',q2,Instr.keyThatStays,Z7W,hset]
   ·refine fin (es.push { key:=key.val,val:=v,born:=clock }) (clock+1) ?_ ?_
    ·rw [Array.toList_push]
     exact⟨Z77.push hM.rel hkd q2 v clock,hM.st.push _ _⟩
    ·simp [Instr.mapUpdate,Z01 hu,hget,hc,q3,hset]
  ·exact fun h=>h.elim
 ·exact fun h=>h.elim
end
end Go.Eng