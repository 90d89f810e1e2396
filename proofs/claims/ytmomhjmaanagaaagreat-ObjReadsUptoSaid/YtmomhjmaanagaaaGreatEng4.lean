/- The engine, part 4: lengths, conversions, indexes, slices, fields' addresses. -/
import Derived.Test.YtmomhjmaanagaaaGreatEng3
import Derived.Laws.IdiomStrings
set_option linter.unusedVariables false
set_option linter.unusedSimpArgs false
namespace Go.Eng
open Go
section
variable {P:Program} {m:Mem} {L:Heap} {w:World}
theorem Z8u(l:List UInt8):(⟨l.toArray⟩:ByteArray).size=l.length:=by
 show l.toArray.size=_
 simp
theorem Key.val_inj{k k':Key}(h:k.val=k'.val):k=k':=by
 cases k <;> cases k' <;> simp_all [Key.val]
theorem Z9N{kd:Option IntKind}{f:Key→Option Value}{es:Array MapEntry}(h:Z77 kd f es.toList):ZdH f=es.size:=by
 have key:∀xs:List MapEntry,(∀e∈xs,∃k,e.key=Key.val k∧f k=some e.val)→(xs.map (·.key)).Nodup→∃l:List Key,l.length=xs.length∧l.Nodup∧(∀k∈l,(f k).isSome=true)∧∀k,k∈l↔k.val∈xs.map (·.key):=by
  intro xs
  induction xs with
  | nil=>intro _ _; exact⟨[],rfl,by simp,by simp,by simp⟩
  | cons e xs ih=>
   intro he hn
   rw [List.map_cons,List.nodup_cons] at hn
   obtain⟨l,l1,l2,l3,l4⟩:=ih (fun x hx=>he x (by simp [hx])) hn.2
   obtain⟨k,k1,k2⟩:=he e (by simp)
   refine⟨k::l,by simp [l1],?_,?_,?_⟩
   ·rw [List.nodup_cons]
    refine⟨fun hk=>hn.1 ?_,l2⟩
    rw [k1]; exact (l4 k).1 hk
   ·intro k' hk'
    rcases List.mem_cons.1 hk' with rfl | hk'
    ·rw [k2]; rfl
    ·exact l3 k' hk'
   ·intro k'
    rw [List.mem_cons,List.map_cons,List.mem_cons,l4,k1]
    constructor
    ·rintro (rfl | h)
     ·exact .inl rfl
     ·exact .inr h
    ·rintro (h | h)
     ·exact .inl (Key.val_inj h)
     ·exact .inr h
 obtain⟨l,l1,l2,l3,l4⟩:=key es.toList h.ent h.nodup
 rw [Zft l2,l1,Array.length_toList]
 intro k
 refine⟨l3 k,fun hk=>?_⟩
 obtain⟨v,hv⟩:=Option.isSome_iff_exists.1 hk
 obtain⟨_,e,he,hke⟩:=h.has k v hv
 rw [l4,←hke]
 exact List.mem_map.2 ⟨e,he,rfl⟩
theorem Zcc(hW:Z0O m L w)(t ty:TypeId){X:AV}{u:Value}(hx:Z05 m L X u):Z0l P m L w (ZhX P L t X) (Z1B (Builtin.len_ #[t] ty #[u])):=by
 unfold ZhX
 split
 ·simp only [Z05] at hx; subst hx
  refine Z0l.pure hW fun hp=>?_
  simp [Builtin.len_,Z01 hp,goInt,Z05,Z8u]
 ·simp only [Z05] at hx
  obtain⟨a,cap,rfl,hx⟩:=hx
  refine Z0l.pure hW fun hp=>?_
  obtain⟨e,hp⟩:=hp
  simp [Builtin.len_,Z01 hp,goInt,Z05]
 ·refine Z0l.pure hW fun hp=>?_
  obtain⟨⟨e,hp⟩,hf⟩:=hp
  obtain⟨_,_,a,rfl,_⟩:=Z1e hx hf
  simp [Builtin.len_,Z01 hp,goInt,Z05]
 ·refine Z0l.pure hW fun hp=>?_
  obtain⟨⟨e,hp⟩,hf⟩:=hp
  obtain⟨_,_,a,rfl,_⟩:=Z4a hx hf
  simp [Builtin.len_,Z01 hp,goInt,Z05]
 ·simp only [Z05] at hx; subst hx
  refine Z0l.pure hW fun hp=>?_
  obtain⟨e,hp⟩:=hp
  simp [Builtin.len_,Z01 hp,goInt,Z05]
 ·rename_i id
  split
  ·rename_i kd f hL
   refine Z0l.pure hW fun hp=>?_
   obtain⟨k,e,hp⟩:=hp
   simp only [Z05] at hx
   obtain⟨r,hL',rfl⟩:=hx
   obtain⟨o,hb,hr⟩:=hW.iters _ _ hL
   simp only [Z4X] at hr
   obtain⟨es,clock,rfl,hM⟩:=hr
   have hget:(getObj (m.blk id)).run P w=.ok (.map es clock) w:=by simp [getObj,Sem.run,hb]
   simp [Builtin.len_,Z01 hp,goInt,Z05,hget,Z9N hM.rel]
  ·exact fun h=>h.elim
 ·refine Z0l.pure hW fun hp=>?_
  obtain⟨k,e,hp⟩:=hp
  simp only [Z05] at hx
  obtain⟨g,es,clock,rfl,hpo,hM⟩:=hx
  have hget:(getObj g).run P w=.ok (.map es clock) w:=by simp [getObj,Sem.run,hW.pobjs _ _ hpo]
  simp [Builtin.len_,Z01 hp,goInt,Z05,hget,Z9N hM.rel]
 ·exact fun h=>h.elim
theorem ZaB{cs:List AV}{us:List Value}(hc:Z0e m L cs us)(hb:Z21 cs=true):us=(Z0w cs).map fun b=>Value.int .u8 b.toNat:=by
 apply List.ext_getElem?
 intro i
 cases hci:cs[i]? with
 | none=>
  have h1:us[i]?=none:=by simp at hci ⊢; have:=hc.length; omega
  simp [h1,Z0w,hci]
 | some c=>
  obtain⟨u,hu,hr⟩:=hc.get i c hci
  have hbc:Z6V c=true:=by
   simp only [Z21,List.all_eq_true] at hb
   exact hb c (List.mem_of_getElem? hci)
  rw [hu]
  simp only [Z0w,List.map_map,List.getElem?_map,hci,Option.map_some,Function.comp]
  cases c <;> simp [Z6V] at hbc
  case int k n=>
   cases k <;> simp [Z6V] at hbc
   simp only [Z05] at hr
   subst hr
   simp [Z6E]
   omega
theorem Z6t(s:ByteArray)(l:List UInt8) :
  (forIn (m:=Sem) ((l.map fun b=>Value.int .u8 b.toNat).toArray) s (fun c r=>do
   let .int .u8 n:=c | stuck "bytesToString: byte expected"
   pure (ForInStep.yield (r.push (UInt8.ofNat n.toNat))))).run P w=.ok ⟨s.data++l.toArray⟩ w:=by
 rw [←Array.forIn_toList]
 simp only [List.toList_toArray]
 induction l generalizing s with
 | nil=>simp
 | cons b l ih=>
  simp only [List.map_cons,List.forIn_cons]
  simp only [Sem.run_bind,Sem.run_pure,Result.andThen_ok]
  rw [ih]
  simp [ByteArray.push]
theorem Z2Y{cs:List AV}{us:List Value}{g o:Nat}(hc:Z0e m L cs us)(hb:Z21 cs=true)(h:∀j v,us[j]?=some v→w.cell? ⟨g,o+j,none⟩=some v)(cap:Nat) :
  (Conv.bytesToString (.slice (some ⟨g,o,none⟩) cs.length cap)).run P w=.ok (.string ⟨(Z0w cs).toArray⟩) w:=by
 have hl:=hc.length
 have hld:=Z16 (P:=P) (w:=w) g o us cs.length (by omega) h
 rw [List.take_of_length_le (by omega)] at hld
 have hus:=ZaB hc hb
 have hloop:=Z6t (P:=P) (w:=w) .empty (Z0w cs)
 rw [←hus] at hloop
 simp only [Conv.bytesToString,Sem.run_bind,hld,Result.andThen_ok]
 erw [hloop]
 simp
theorem Z94(hW:Z0O m L w)(t:TypeId){X Y:AV}{u v:Value}(hx:Z05 m L X u)(hy:Z05 m L Y v):Z0l P m L w (Z6W P true L t X Y) (Z1B (Instr.index t u v)):=by
 unfold Z6W
 split
 ·simp only [Z05] at hx hy; subst hx hy
  rename_i l k i
  refine Z0l.pure hW fun hp=>?_
  obtain⟨hu,hp⟩:=hp
  obtain⟨h0,h1⟩:=hp rfl
  have hi:i.toNat<l.length:=by omega
  have hget:(⟨l.toArray⟩:ByteArray)[i.toNat]?=some (l.getD i.toNat 0):=by
   have hi':i.toNat<(⟨l.toArray⟩:ByteArray).size:=by rw [Z8u]; exact hi
   rw [getElem?_pos (⟨l.toArray⟩:ByteArray) i.toNat hi']
   simp [ByteArray.getElem_eq_getElem_data,List.getD,hi]
  simp [Instr.index,asIntOf,Z01 hu,h0,hget,Z05]
 ·rename_i cs k i
  simp only [Z05] at hx hy; subst hy
  obtain⟨us,rfl,hc⟩:=hx
  split
  ·rename_i n e hu
   refine Z0l.pure hW fun hp=>?_
   obtain⟨hi,ho,hp⟩:=hp
   obtain⟨h0,h1⟩:=hp rfl
   have hle:i.toNat*P.cellsOf e≤cs.length∨¬Z2U P e (cs.length - i.toNat*P.cellsOf e)∨P.cellsOf e=0:=by
    by_cases hz:P.cellsOf e=0
    ·exact .inr (.inr hz)
    ·by_cases hc':i.toNat*P.cellsOf e≤cs.length
     ·exact .inl hc'
     ·refine .inr (.inl fun h=>?_)
      rw [show cs.length - i.toNat*P.cellsOf e=0 by omega] at h
      unfold Z2U at h
      split at h <;> omega
   have hle':i.toNat*P.cellsOf e≤cs.length:=by
    rcases hle with h | h | h
    ·exact h
    ·exact absurd ho h
    ·simp [h]
   obtain⟨r,hr,hv⟩:=Z2J (P:=P) (w:=w) hc hi ho hle'
   exact⟨r,by simp [Instr.index,asIntOf,Z01 hu,h0,h1,Z0s hi,hr],hv⟩
  ·exact fun h=>h.elim
 ·exact fun h=>h.elim
theorem ZbY{m:Mem}{L:Heap}:∀l:List Value,Z0e m L (l.map ofV) l
 | []=>by simp [Z0e]
 | v::l=>by
  have:=ZbY (m:=m) (L:=L) l
  simp only [List.map_cons,Z0e]
  exact⟨v,l,rfl,Z44 m L v,this⟩
theorem Z66(hW:Z0O m L w)(t:TypeId){X Y:AV}{u v:Value}(hx:Z05 m L X u)(hy:Z05 m L Y v):Z0l P m L w (Z2K P true L t X Y) (Z1B (Instr.indexAt t u v)):=by
 unfold Z2K
 split
 ·rename_i e cs n k i hu
  refine Z0l.pure hW fun hp=>?_
  obtain⟨hi,hl,hz,hp⟩:=hp
  obtain⟨h0,h1⟩:=hp rfl
  simp only [Z05] at hx hy; subst hy
  obtain⟨a,cap,rfl,hle,us,hc,hpin⟩:=hx
  have hlt:i.toNat<n:=by omega
  have hpos:0<n*P.cellsOf e:=Nat.mul_pos (by omega) hz
  have hus:=hc.length
  rcases hpin with rfl | ⟨g,o,rfl,hpin⟩
  ·simp at hus; omega
  ·refine⟨.pointer (some ⟨g,o+i.toNat*P.cellsOf e,none⟩),?_,?_⟩
   ·simp [Instr.indexAt,asIntOf,Z01 hu,h0,h1,Z0s hi,Addr.add_lit]
   ·simp only [Z05]
    exact⟨us.drop (i.toNat*P.cellsOf e),g,_,rfl,hc.drop _,fun j v hj=>by rw [List.getElem?_drop] at hj; rw [Nat.add_assoc]; exact hpin _ _ hj⟩
 ·rename_i e id ver off n k i hu
  refine Z0l.pure hW fun hp=>?_
  obtain⟨hi,hz,hp⟩:=hp
  obtain⟨hf,hs,h0,h1⟩:=hp rfl
  obtain⟨cs,sz,hL,hr,hsz⟩:=Z0N hf
  obtain⟨k1,k2,a,rfl,ha⟩:=Z1e hx hf
  simp only [Z05] at hy; subst hy
  have ha:a=some ⟨m.blk id,off*Z1S L id,none⟩:=by
   rcases ha with ha | ha
   ·omega
   ·exact ha
  subst ha
  refine⟨.pointer (some ⟨m.blk id,(off+i.toNat)*P.cellsOf e,none⟩),?_,?_⟩
  ·simp [Instr.indexAt,asIntOf,Z01 hu,h0,h1,Z0s hi,Addr.add_lit,hs,Nat.add_mul]
  ·simp only [Z05]
   exact .inl ⟨cs,sz,ver,hL,Nat.le_refl _,⟨_,rfl⟩,fun _=>trivial⟩
 ·rename_i e id ver off n k i hu
  refine Z0l.pure hW fun hp=>?_
  obtain⟨hi,hz,hp⟩:=hp
  obtain⟨hf,hs,h0,h1⟩:=hp rfl
  obtain⟨cs,sz,hL,hr,hsz⟩:=Z0N hf
  obtain⟨k1,k2,a,rfl,ha⟩:=Z4a hx hf
  simp only [Z05] at hy; subst hy
  have ha:a=some ⟨m.blk id,off*Z1S L id,none⟩:=by
   rcases ha with ha | ha
   ·omega
   ·exact ha
  subst ha
  refine⟨.pointer (some ⟨m.blk id,(off+i.toNat)*P.cellsOf e,none⟩),?_,?_⟩
  ·simp [Instr.indexAt,asIntOf,Z01 hu,h0,h1,Z0s hi,Addr.add_lit,hs,Nat.add_mul]
  ·simp only [Z05]
   exact .inl ⟨cs,sz,ver,hL,Nat.le_refl _,⟨_,rfl⟩,fun _=>trivial⟩
 ·rename_i n e id ver off k i hu
  refine Z0l.pure hW fun hp=>?_
  obtain⟨hi,hn,hp⟩:=hp
  obtain⟨hf,h0,h1⟩:=hp rfl
  obtain⟨cs,sz,hL,hr,hsz⟩:=Z0N hf
  have:=Z3F hx hf
  subst this
  simp only [Z05] at hy; subst hy
  refine⟨.pointer (some ⟨m.blk id,off+i.toNat*P.cellsOf e,none⟩),?_,?_⟩
  ·simp [Instr.indexAt,Instr.sureAddr,asIntOf,Z01 hu,h0,h1,Z0s hi,Addr.add_lit,hn]
  ·simp only [Z05]
   exact .inl ⟨cs,sz,ver,hL,Nat.le_refl _,⟨_,rfl⟩,fun _=>trivial⟩
 ·rename_i n e cs k i hu
  refine Z0l.pure hW fun hp=>?_
  obtain⟨hi,hn,hp⟩:=hp
  obtain⟨h0,h1⟩:=hp rfl
  simp only [Z05] at hx hy; subst hy
  obtain⟨us,g,o,rfl,hc,hpin⟩:=hx
  refine⟨.pointer (some ⟨g,o+i.toNat*P.cellsOf e,none⟩),?_,?_⟩
  ·simp [Instr.indexAt,Instr.sureAddr,asIntOf,Z01 hu,h0,h1,Z0s hi,Addr.add_lit,hn]
  ·simp only [Z05]
   exact⟨us.drop (i.toNat*P.cellsOf e),g,_,rfl,hc.drop _,fun j v hj=>by rw [List.getElem?_drop] at hj; rw [Nat.add_assoc]; exact hpin _ _ hj⟩
 ·rename_i n e g k i hu
  split
  ·rename_i cs hcs
   refine Z0l.pure hW fun hp=>?_
   obtain⟨hi,hn,hp⟩:=hp
   obtain⟨h0,h1⟩:=hp rfl
   simp only [Z05] at hx hy; subst hy; subst hx
   obtain⟨l,hl,rfl⟩:=Z8d hcs
   obtain⟨c,e',f,hg,hcl⟩:=hW.glob.2 _ hl
   refine⟨.pointer (some ⟨g,0+i.toNat*P.cellsOf e,none⟩),?_,?_⟩
   ·simp [Instr.indexAt,Instr.sureAddr,asIntOf,Z01 hu,h0,h1,Z0s hi,Addr.add_lit,hn]
   ·simp only [Z05]
    exact⟨l.drop (i.toNat*P.cellsOf e),g,_,rfl,(ZbY l).drop _,fun j v hj=>Mem.pin_of hg (by rw [List.getElem?_drop] at hj; rw [←Array.getElem?_toList,hcl,Nat.zero_add]; exact hj)⟩
  ·exact fun h=>h.elim
 ·exact fun h=>h.elim
theorem Z6b(hW:Z0O m L w)(t:TypeId)(f:Nat){X:AV}{u:Value}(hx:Z05 m L X u):Z0l P m L w (Z2L P true L t X f) (Z1B (Instr.fieldAt t u f)):=by
 unfold Z2L
 split
 ·rename_i fields hu
  split
  ·rename_i fd hfd
   split
   ·rename_i cs
    refine Z0l.pure hW fun hp=>?_
    obtain⟨hi,hz⟩:=hp
    simp only [Z05] at hx
    obtain⟨us,g,o,rfl,hc,hpin⟩:=hx
    refine⟨.pointer (some ⟨g,o+fd.offset,none⟩),?_,?_⟩
    ·simp [Instr.fieldAt,Z01 hu,hfd,Instr.sureAddr,fieldPlace,Z0s hi,hz,Addr.add_lit]
    ·simp only [Z05]
     exact⟨us.drop fd.offset,g,_,rfl,hc.drop _,fun j v hj=>by rw [List.getElem?_drop] at hj; rw [Nat.add_assoc]; exact hpin _ _ hj⟩
   ·rename_i id ver off
    refine Z0l.pure hW fun hp=>?_
    obtain⟨hi,hz,hf⟩:=hp
    have hf:=hf rfl
    obtain⟨cs,sz,hL,hr,hsz⟩:=Z0N hf
    have:=Z3F hx hf
    subst this
    refine⟨.pointer (some ⟨m.blk id,off+fd.offset,none⟩),?_,?_⟩
    ·simp [Instr.fieldAt,Z01 hu,hfd,Instr.sureAddr,fieldPlace,Z0s hi,hz,Addr.add_lit]
    ·simp only [Z05]
     exact .inl ⟨cs,sz,ver,hL,Nat.le_refl _,⟨_,rfl⟩,fun _=>trivial⟩
   ·exact fun h=>h.elim
  ·exact fun h=>h.elim
 ·exact fun h=>h.elim
theorem Z2P{n:Nat}{lo hi:Option AV}{i j:Int}{vl vh:Option Value}(hl:Z1P 0 lo=some i)(hh:Z1P n hi=some j)
  (rl:∀x v,lo=some x→vl=some v→Z05 m L x v) (rh:∀x v,hi=some x→vh=some v→Z05 m L x v) (el:lo=none↔vl=none) (eh:hi=none↔vh=none)
  (h0:0≤i) (h1:i≤j) (isS:Bool) (cap:Nat) (h2:j≤cap) (h3:hi=none→n≤cap):(Instr.sliceBounds isS n cap vl vh none).run P w=.ok (i.toNat,j.toNat,cap) w:=by
 have hj0:0≤j:=by omega
 have hij:i≤(j.toNat:Int):=by omega
 have hb:∀(v:Value) (x:Int) (k:IntKind) (y:Nat) (code:BoundsCode),v=.int k x→0≤x→x≤y→(Instr.sliceBound v y code).run P w=.ok x.toNat w:=by
  intro v x k y code hv hx0 hxy
  subst hv
  simp [Instr.sliceBound,asIntOf,hx0,hxy]
 have hs:∀(x:AV) (d:Nat) (y:Int) (v:Value),Z1P d (some x)=some y→Z05 m L x v→∃k,v=.int k y:=by
  intro x d y v hx hv
  cases x <;> simp [Z1P] at hx
  rename_i k n
  simp only [Z05] at hv
  exact⟨k,by rw [hv,hx]⟩
 cases hi with
 | none=>
  have:=eh.1 rfl; subst this
  simp [Z1P] at hh; subst hh
  cases lo with
  | none=>
   have:=el.1 rfl; subst this
   simp [Z1P] at hl; subst hl
   simp [Instr.sliceBounds]
  | some x=>
   cases vl with
   | none=>exact absurd (el.2 rfl) (by simp)
   | some v=>
    obtain⟨k,hk⟩:=hs x 0 i v hl (rl x v rfl rfl)
    simp [Instr.sliceBounds,hb v i k n .sliceB hk h0 (by simpa using hij)]
 | some y=>
  cases vh with
  | none=>exact absurd (eh.2 rfl) (by simp)
  | some vy=>
   obtain⟨ky,hky⟩:=hs y n j vy hh (rh y vy rfl rfl)
   have e1:=fun code=>hb vy j ky cap code hky hj0 h2
   cases lo with
   | none=>
    have:=el.1 rfl; subst this
    simp [Z1P] at hl; subst hl
    simp [Instr.sliceBounds,e1]
   | some x=>
    cases vl with
    | none=>exact absurd (el.2 rfl) (by simp)
    | some v=>
     obtain⟨k,hk⟩:=hs x 0 i v hl (rl x v rfl rfl)
     simp [Instr.sliceBounds,e1,hb v i k j.toNat .sliceB hk h0 hij]
theorem Z40{n:Nat}{hi mx:AV}{i j k:Int}{vl:Option Value}{lo':Option AV}{vh vm:Value}(hl:Z1P 0 lo'=some i)(hh:Z1P n (some hi)=some j)(hm:Z1P n (some mx)=some k)
  (rl:∀x v,lo'=some x→vl=some v→Z05 m L x v) (rh:Z05 m L hi vh) (rm:Z05 m L mx vm) (el:lo'=none↔vl=none)
  (h0:0≤i) (h1:i≤j) (isS:Bool) (cap:Nat) (h2:j≤k) (h3:k≤cap):(Instr.sliceBounds isS n cap vl (some vh) (some vm)).run P w=.ok (i.toNat,j.toNat,k.toNat) w:=by
 have hj0:0≤j:=by omega
 have hij:i≤(j.toNat:Int):=by omega
 have hjk:j≤(k.toNat:Int):=by omega
 have hb:∀(v:Value) (x:Int) (k:IntKind) (y:Nat) (code:BoundsCode),v=.int k x→0≤x→x≤y→(Instr.sliceBound v y code).run P w=.ok x.toNat w:=by
  intro v x k y code hv hx0 hxy
  subst hv
  simp [Instr.sliceBound,asIntOf,hx0,hxy]
 have hs:∀(x:AV) (d:Nat) (y:Int) (v:Value),Z1P d (some x)=some y→Z05 m L x v→∃k,v=.int k y:=by
  intro x d y v hx hv
  cases x <;> simp [Z1P] at hx
  rename_i k n
  simp only [Z05] at hv
  exact⟨k,by rw [hv,hx]⟩
 obtain⟨ky,hky⟩:=hs hi n j vh hh rh
 obtain⟨km,hkm⟩:=hs mx n k vm hm rm
 have e1:=fun code=>hb vm k km cap code hkm (by omega) h3
 have e2:=fun code=>hb vh j ky k.toNat code hky hj0 hjk
 cases lo' with
 | none=>
  have:=el.1 rfl; subst this
  simp [Z1P] at hl; subst hl
  simp [Instr.sliceBounds,e1,e2]
 | some x=>
  cases vl with
  | none=>exact absurd (el.2 rfl) (by simp)
  | some v=>
   obtain⟨kl,hkl⟩:=hs x 0 i v hl (rl x v rfl rfl)
   simp [Instr.sliceBounds,e1,e2,hb v i kl j.toNat .slice3C hkl h0 hij]
def ZaE(m:Mem)(L:Heap):Option AV→Option Value→Prop
 | none,none=>True
 | some x,some v=>Z05 m L x v
 | _,_=>False
theorem ZaE.iff{x:Option AV}{v:Option Value}(h:ZaE m L x v):x=none↔v=none:=by
 cases x <;> cases v <;> simp_all [ZaE]
theorem ZaE.rel{x:Option AV}{v:Option Value}(h:ZaE m L x v):∀x' v',x=some x'→v=some v'→Z05 m L x' v':=by
 intro x' v' h1 h2; subst h1 h2; exact h
theorem Z8R(hW:Z0O m L w)(t:TypeId){X:AV}{u:Value}{lo hi mx:Option AV}{vl vh vm:Option Value}(hx:Z05 m L X u)(rl:ZaE m L lo vl)(rh:ZaE m L hi vh)(rm:ZaE m L mx vm) :
  Z0l P m L w (Z6H P true L t X lo hi mx) (Z1B (Instr.sliceAt t u vl vh vm)):=by
 unfold Z6H
 split
 ·rename_i l hu
  split
  ·rename_i i j hl hh
   refine Z0l.pure hW fun hp=>?_
   obtain⟨h0,h1,h2⟩:=hp rfl
   simp only [Z05] at hx; subst hx
   have:=rm.iff.1 rfl; subst this
   have hb:=Z2P (P:=P) (w:=w) hl hh rl.rel rh.rel rl.iff rh.iff h0 h1 false l.length (by omega) (fun _=>Nat.le_refl _)
   refine⟨.string ⟨((l.take j.toNat).drop i.toNat).toArray⟩,?_,by simp [Z05]⟩
   simp [Instr.sliceAt,Z01 hu,Instr.slice,Z8u,hb]
   apply ByteArray.ext
   simp [ByteArray.data_extract,List.extract_eq_take_drop,List.drop_take]
  ·exact fun h=>h.elim
 ·rename_i e cs n hu
  split
  ·rename_i i j k hl hh hm
   refine Z0l.pure hW fun hp=>?_
   obtain⟨hi',hmx,hlen,hp⟩:=hp
   obtain⟨h0,h1,h2,h3⟩:=hp rfl
   simp only [Z05] at hx
   obtain⟨a,cap,rfl,hle,us,hc,hpin⟩:=hx
   obtain⟨M,hbd,hM1,hM2⟩:∃M:Nat,(Instr.sliceBounds true n cap vl vh vm).run P w=.ok (i.toNat,j.toNat,M) w∧j≤M∧M≤cap:=by
    cases mx with
    | none=>
     have:=rm.iff.1 rfl; subst this
     exact⟨cap,Z2P (P:=P) (w:=w) hl hh rl.rel rh.rel rl.iff rh.iff h0 h1 true cap (by omega) (fun _=>hle),by omega,Nat.le_refl _⟩
    | some mx=>
     cases hi with
     | none=>simp at hmx
     | some hi=>
      cases vm with
      | none=>exact absurd (rm.iff.2 rfl) (by simp)
      | some vm=>
       cases vh with
       | none=>exact absurd (rh.iff.2 rfl) (by simp)
       | some vh=>exact⟨k.toNat,Z40 (P:=P) (w:=w) hl hh hm rl.rel rh rm rl.iff h0 h1 true cap h2 (by omega),by omega,by omega⟩
   have hjn:j.toNat≤n:=by omega
   refine⟨.slice (if M=i.toNat then a else a.map (·.add (i.toNat*P.cellsOf e))) (j.toNat - i.toNat) (M - i.toNat),?_,?_⟩
   ·simp [Instr.sliceAt,Z01 hu,Instr.slice,hbd,Z0s hi']
   ·simp only [Z05]
    refine⟨_,_,rfl,by omega,(us.take (j.toNat*P.cellsOf e)).drop (i.toNat*P.cellsOf e),(hc.take _).drop _,?_⟩
    by_cases hij:i.toNat=j.toNat
    ·left; rw [hij]; simp
    ·have hne:¬M=i.toNat:=by omega
     rw [if_neg hne]
     rcases hpin with rfl | ⟨g,o,rfl,hpin⟩
     ·left; simp
     ·right
      refine⟨g,o+i.toNat*P.cellsOf e,by simp [Addr.add_lit],fun q v hq=>?_⟩
      rw [List.getElem?_drop,List.getElem?_take] at hq
      split at hq
      ·rw [Nat.add_assoc]; exact hpin _ _ hq
      ·cases hq
  ·exact fun h=>h.elim
 ·rename_i e id ver off n hu
  split
  ·rename_i i j hl hh
   refine Z0l.pure hW fun hp=>?_
   obtain⟨hi',hz,hp⟩:=hp
   obtain⟨hf,hs,h0,h1,h2⟩:=hp rfl
   obtain⟨cs,sz,hL,hr,hsz⟩:=Z0N hf
   obtain⟨k1,k2,a,rfl,ha⟩:=Z1e hx hf
   have:=rm.iff.1 rfl; subst this
   rw [hr] at h2
   rw [←hs,hsz] at hz h2
   have hle:off+j.toNat≤m.cap id:=by
    have:(off+j.toNat)*sz≤m.cap id*sz:=by
     by_cases hcap:m.cap id=0
     ·have hnil:=hW.nils _ _ _ _ hL hcap
      rw [hnil,List.length_nil] at h2
      omega
     obtain⟨us,rest,elem,flo,fhi,hb,hc,hlen,hfz⟩:=hW.rows _ _ _ _ hL hcap
     have hus:=hc.length
     omega
    exact Nat.le_of_mul_le_mul_right this hz
   have hbd:=Z2P (P:=P) (w:=w) hl hh rl.rel rh.rel rl.iff rh.iff h0 h1 true (m.cap id - off) (by omega) (fun _=>by omega)
   refine⟨.slice (if m.cap id - off=i.toNat then a else a.map (·.add (i.toNat*P.cellsOf e))) (j.toNat - i.toNat) (m.cap id - off - i.toNat),?_,?_⟩
   ·simp [Instr.sliceAt,Z01 hu,Instr.slice,hbd,Z0s hi']
   ·simp only [Z05]
    refine⟨cs,sz,ver,hL,Nat.le_refl _,⟨_,_,_,rfl⟩,fun _=>⟨?_,by omega,_,by rw [Nat.sub_sub],?_⟩⟩
    ·rw [show off+i.toNat+(j.toNat - i.toNat)=off+j.toNat by omega]; exact h2
    ·by_cases hE:m.cap id - off=i.toNat
     ·left; omega
     ·right
      rw [if_neg hE]
      rcases ha with ha | ha
      ·omega
      ·rw [ha,←hs,hsz]
       simp [Addr.add_lit,Nat.add_mul]
  ·rename_i i j mx' hl hh
   split
   ·rename_i k hm
    refine Z0l.pure hW fun hp=>?_
    obtain⟨hhi,hi',hz,hp⟩:=hp
    obtain⟨rfl,hf,hs,h0,h1,h2⟩:=hp rfl
    obtain⟨cs,sz,hL,hr,hsz⟩:=Z0N hf
    obtain⟨k1,k2,a,rfl,ha⟩:=Z1e hx hf
    rw [hr] at h2
    rw [←hs,hsz] at hz h2
    have hle:off+k.toNat≤m.cap id:=by
     have:(off+k.toNat)*sz≤m.cap id*sz:=by
      by_cases hcap:m.cap id=0
      ·have hnil:=hW.nils _ _ _ _ hL hcap
       rw [hnil,List.length_nil] at h2
       omega
      obtain⟨us,rest,elem,flo,fhi,hb,hc,hlen,hfz⟩:=hW.rows _ _ _ _ hL hcap
      have hus:=hc.length
      omega
     exact Nat.le_of_mul_le_mul_right this hz
    cases hi with
    | none=>simp at hhi
    | some hi=>
    cases vm with
    | none=>exact absurd (rm.iff.2 rfl) (by simp)
    | some vm=>
    cases vh with
    | none=>exact absurd (rh.iff.2 rfl) (by simp)
    | some vh=>
    have hbd:=Z40 (P:=P) (w:=w) hl hh hm rl.rel rh rm rl.iff h0 h1 true (m.cap id - off) (Int.le_refl _) (by omega)
    refine⟨.slice (if k.toNat=i.toNat then a else a.map (·.add (i.toNat*P.cellsOf e))) (k.toNat - i.toNat) (k.toNat - i.toNat),?_,?_⟩
    ·simp [Instr.sliceAt,Z01 hu,Instr.slice,hbd,Z0s hi']
    ·simp only [Z05]
     refine⟨cs,sz,ver,hL,Nat.le_refl _,⟨_,_,_,rfl⟩,fun _=>⟨?_,by omega,_,rfl,?_⟩⟩
     ·rw [show off+i.toNat+(k.toNat - i.toNat)=off+k.toNat by omega]; exact h2
     ·by_cases hE:k.toNat=i.toNat
      ·left; omega
      ·right
       rw [if_neg hE]
       rcases ha with ha | ha
       ·omega
       ·rw [ha,←hs,hsz]
        simp [Addr.add_lit,Nat.add_mul]
   ·exact fun h=>h.elim
  ·exact fun h=>h.elim
 ·rename_i N e cs hu
  split
  ·refine Z0l.pure hW fun hp=>?_
   obtain⟨hi',hle⟩:=hp
   simp only [Z05] at hx
   obtain⟨us,g,o,rfl,hc,hpin⟩:=hx
   have e1:=rl.iff.1 rfl; subst e1
   have e2:=rh.iff.1 rfl; subst e2
   have e3:=rm.iff.1 rfl; subst e3
   have hal:P.arrayLen t=N:=by simp [Program.arrayLen,hu]
   have hel:P.elem t=e:=by simp [Program.elem,hu]
   have ht2:P.underlying t=some (.array (P.arrayLen t) (P.elem t)):=by rw [hal,hel]; exact hu
   have hsz:=Z0s (P:=P) (w:=w) (t:=P.elem t) (by rw [hel]; exact hi')
   have hs0:slicedAt (⟨g,o,none⟩:Addr) 0 N N (P.cellsOf (P.elem t))=.slice (some ⟨g,o,none⟩) N N:=by
    unfold slicedAt
    split <;> simp [Addr.add]
   have hrun:=run_sliceAt_array_all w t ⟨g,o,none⟩ ht2
   simp only [hsz,Result.andThen,hal,hs0] at hrun
   refine⟨.slice (some ⟨g,o,none⟩) N N,by simpa using hrun,?_⟩
   simp only [Z05]
   refine⟨_,_,rfl,Nat.le_refl _,us.take (N*P.cellsOf e),hc.take _,.inr ⟨g,o,rfl,fun i v hv=>?_⟩⟩
   rw [List.getElem?_take] at hv
   split at hv
   ·exact hpin _ _ hv
   ·cases hv
  ·exact fun h=>h.elim
 ·exact fun h=>h.elim
theorem Z8v(hW:Z0O m L w)(t:TypeId){X:AV}{u:Value}(hx:Z05 m L X u):Z0l P m L w (Z5d P true L t X) (Z1B (Instr.arrayAt t u)):=by
 unfold Z5d
 split
 ·rename_i n e cs k hu
  refine Z0l.pure hW fun hp=>?_
  obtain⟨h0,h1,h2⟩:=hp rfl
  simp only [Z05] at hx
  obtain⟨a,cap,rfl,hle,us,hc,hpin⟩:=hx
  have hl:=hc.length
  rcases hpin with rfl | ⟨g,o,rfl,hpin⟩
  ·simp at hl; omega
  ·refine⟨.pointer (some ⟨g,o,none⟩),by simp [Instr.arrayAt,Z01 hu,show ¬k<n by omega],?_⟩
   simp only [Z05]
   exact⟨us,g,o,rfl,hc,hpin⟩
 ·rename_i n e id ver off k hu
  refine Z0l.pure hW fun hp=>?_
  obtain⟨hf,h0,h1⟩:=hp rfl
  obtain⟨cs,sz,hL,hr,hsz⟩:=Z0N hf
  obtain⟨k1,k2,a,rfl,ha⟩:=Z1e hx hf
  refine⟨.pointer a,by simp [Instr.arrayAt,Z01 hu,show ¬k<n by omega],?_⟩
  simp only [Z05]
  refine .inl ⟨cs,sz,ver,hL,Nat.le_refl _,⟨a,rfl⟩,fun _=>?_⟩
  rcases ha with ha | ha
  ·omega
  ·rw [ha,hsz]
 ·exact fun h=>h.elim
end
end Go.Eng