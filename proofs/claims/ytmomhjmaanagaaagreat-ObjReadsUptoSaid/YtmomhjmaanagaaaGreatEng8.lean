/- The engine, part 8: every operation of the evaluator is sound. -/
import Derived.Test.YtmomhjmaanagaaaGreatEng7M
set_option linter.unusedVariables false
set_option linter.unusedSimpArgs false
namespace Go.Eng
open Go
section
variable {P:Program} {m:Mem} {L:Heap} {w:World}
theorem Z65(hW:Z0O m L w)(t:TypeId){X Y:AV}{u v:Value}(hx:Z05 m L X u)(hy:Z05 m L Y v):Z0l P m L w (Z3s P true L t X Y) (Z1B (Instr.makeSlice t u v)):=by
 unfold Z3s
 split
 ·rename_i e k1 l k2 k hu
  intro hp
  obtain⟨-,hek,h0,hlk,hroom⟩:=hp
  simp only [Z05] at hx hy; subst hx hy
  obtain⟨hz,hzl,hs,hb⟩:=Z26 hek
  obtain⟨z,i,hi,hzi,hza,hzr⟩:=Z1c (w:=w) hz
  have hsz:=Z0s (P:=P) (w:=w) (t:=e) (by rw [hi]; rfl)
  obtain⟨i',hie,hcs,hby⟩:=Z4L (P:=P) (t:=e) (by rw [hi]; rfl)
  rw [hi] at hie; obtain rfl:=Option.some.inj hie
  have hb':(0:Int)<P.bytesOf e:=by omega
  have hkr:k≤281474976710656:=by
   have h1:k*1≤k*(P.bytesOf e:Int):=Int.mul_le_mul_of_nonneg_left (by omega) (by omega)
   omega
  have hwl:IntKind.i64.wrap l=l:=IntWalk.i64_in l (by omega)
  have hwk:IntKind.i64.wrap k=k:=IntWalk.i64_in k (by omega)
  have hzc:Z0e m L (Z1u P e).cells z.cells.toList:=by rw [hza]; exact Z1W z
  have hzcl:=hzc.length
  have hzs:z.cells.size=P.cellsOf e:=by simp at hzcl; omega
  obtain⟨zs,hzs'⟩:∃zs:List Value,zs=((Array.range (k.toNat*P.cellsOf e)).map (z.cells[· % z.cells.size]!)).toList:=⟨_,rfl⟩
  have hzlen:zs.length=k.toNat*P.cellsOf e:=by rw [hzs']; simp
  have hrel:=Z4H hzc l.toNat (by omega)
  rw [hzl] at hrel
  have htake:((Array.range (l.toNat*P.cellsOf e)).map (z.cells[· % z.cells.size]!)).toList=zs.take (l.toNat*P.cellsOf e):=by
   rw [hzs']
   simp only [Array.toList_map,Array.toList_range,←List.map_take]
   congr 1
   rw [List.take_range]
   congr 1
   have:l.toNat*P.cellsOf e≤k.toNat*P.cellsOf e:=Nat.mul_le_mul_right _ (by omega)
   omega
  rw [htake] at hrel
  have hP:Z1x w (w.alloc (.cells zs.toArray e)) (.cells (zs.take (l.toNat*P.cellsOf e)++zs.drop (l.toNat*P.cellsOf e)).toArray e (0,0)):=by
   rw [List.take_append_drop]; exact⟨rfl,rfl,rfl,rfl⟩
  have hpr:=Z3G (sz:=P.cellsOf e) (c:=k.toNat) hW hP hrel (by rw [←List.length_append,List.take_append_drop,hzlen]) (.inl rfl)
  refine⟨.value (.slice (some ⟨w.heap.size,0,none⟩) l.toNat k.toNat),_,_,?_,.inl ⟨_,rfl,?_⟩,hpr,Z2j _ _ hP.keep⟩
  ·have hti:(typeInfo e).run P w=.ok i w:=by simp [typeInfo,hi]
   have c1:¬(281474976710656:Int)<i.bytes*k:=by rw [←hby,Int.mul_comm]; omega
   have c2:¬(281474976710656:Int)<i.bytes*l:=by
    have:(i.bytes:Int)*l≤i.bytes*k:=Int.mul_le_mul_of_nonneg_left hlk (by omega)
    omega
   have e1:((Array.range (k.toNat*P.cellsOf e)).map (z.cells[· % z.cells.size]!))=zs.toArray:=by rw [hzs']
   by_cases hk0:k.toNat*P.cellsOf e=0
   ·have:zs=[]:=List.eq_nil_of_length_eq_zero (by rw [hzlen,hk0])
    simp [Z1B,Instr.makeSlice,Z01 hu,asInt,asIntOf,hti,hwl,hwk,c1,c2,show ¬k<0 by omega,show ¬l<0 by omega,show ¬k<l by omega,hsz,hk0,newRow,this]
    congr 2
    exact Array.eq_empty_of_size_eq_zero (by simp)
   ·simp [Z1B,Instr.makeSlice,Z01 hu,asInt,asIntOf,hti,hwl,hwk,c1,c2,show ¬k<0 by omega,show ¬l<0 by omega,show ¬k<l by omega,hsz,hk0,newRow,hzr,e1]
  ·exact Z61 _ _ _ _ _ (by rw [Z2Q,hzl]; exact Nat.le_refl _) (by omega)
 ·exact fun h=>h.elim
theorem Z6x(hW:Z0O m L w){X:AV}{u:Value}(hx:Z05 m L X u)(o:Oper)(x:Operand)(ρ:Operand→Value)(ho:o.op=.nilCheck x)(hu:ρ x=u):Z0l P m L w (Z3r true L X) (execOp ρ o):=by
 unfold Z3r
 split
 ·rename_i id ver off
  intro hp
  have:=Z3F hx (hp rfl)
  subst this
  refine⟨.value _,w,m,?_,.inl ⟨_,rfl,hx⟩,hW,Ext.refl⟩
  simp [execOp,ho,hu]
 ·rename_i cs
  intro _
  have hx':=hx
  simp only [Z05] at hx'
  obtain⟨us,g,o',rfl,_⟩:=hx'
  refine⟨.value _,w,m,?_,.inl ⟨_,rfl,hx⟩,hW,Ext.refl⟩
  simp [execOp,ho,hu]
 ·rename_i f a b
  intro _
  have hx':=hx
  simp only [Z05] at hx'
  obtain⟨us,vs,rfl,_⟩:=hx'
  refine⟨.value _,w,m,?_,.inl ⟨_,rfl,hx⟩,hW,Ext.refl⟩
  simp [execOp,ho,hu]
 ·exact fun h=>h.elim
theorem Z3K{fr:List AV}{a:Act}(h:Z0e m L fr a.tmps.toList):∀(xs:List Operand),Z2T true (xs.map (opd fr))→Z0e m L (xs.map fun x=>(opd fr x).bare) (xs.map a.eval)
 | [],_=>by simp [Z0e]
 | x::xs,hn=>by
  simp only [List.map_cons]
  refine Z0e.cons (Z3R (Z4z h x) (hn _ (by simp) rfl)) (Z3K h xs fun y hy=>hn y (by simp only [List.map_cons]; exact List.mem_cons_of_mem _ hy))
theorem Z3p{fr:List AV}{a:Act}(h:Z0e m L fr a.tmps.toList)(parts:Array (Nat×Operand))(hn:Z2T true (parts.toList.map fun p=>opd fr p.2)) :
  (Z34 fr parts).map (·.1)=(parts.map fun (i,x)=>(i,a.eval x)).toList.map (·.1)∧
  ∀(j:Nat) (q:Nat×AV) (r:Nat×Value),(Z34 fr parts)[j]?=some q→(parts.map fun (i,x)=>(i,a.eval x)).toList[j]?=some r→Z05 m L q.2 r.2:=by
 refine⟨by simp [Z34,List.map_map,Function.comp_def],fun j q r hq hr=>?_⟩
 simp only [Z34,List.getElem?_map,Option.map_eq_some_iff,Array.toList_map] at hq hr
 obtain⟨p,hp,rfl⟩:=hq
 obtain⟨p',hp',rfl⟩:=hr
 rw [hp] at hp'
 obtain rfl:=Option.some.inj hp'
 exact Z3R (Z4z h p.2) (hn _ (List.mem_map.2 ⟨p,List.mem_of_getElem? hp,rfl⟩) rfl)
theorem Zju{fr:List AV}{a:Act}(h:Z0e m L fr a.tmps.toList)(x:Option Operand)(hn:Z5w true fr x):ZaE m L (Z9y fr x) (x.map a.eval):=by
 cases x with
 | none=>simp [Z9y,ZaE]
 | some x=>simp only [Z9y,Option.map_some,ZaE]; exact Z3R (Z4z h x) (hn rfl)
set_option maxHeartbeats 1000000 in
theorem Zc7{P:Program}{m:Mem}{L:Heap}{w:World}(hW:Z0O m L w)(ts:List TypeId)(ty:TypeId){X Y:AV}{u v:Value}(hx:Z05 m L X u)(hy:Z05 m L Y v):Z0l P m L w (ZdV L true X Y) (Z1B (Builtin.min_ ⟨ts⟩ ty #[u,v])):=by
 unfold ZdV
 split
 ·rename_i k a k' b
  intro _
  simp only [Z05] at hx hy
  subst hx; subst hy
  refine⟨.value (.int k (min a b)),w,m,?_,.inl ⟨_,rfl,by simp [Z05]⟩,hW,Ext.refl⟩
  simp [Z1B,Builtin.min_,Builtin.min2]
  omega
 ·exact Z0l.bad
theorem Zc9{P:Program}{m:Mem}{L:Heap}{w:World}(hW:Z0O m L w)(ts:List TypeId)(ty:TypeId){X Y:AV}{u v:Value}(hx:Z05 m L X u)(hy:Z05 m L Y v):Z0l P m L w (ZdV L false X Y) (Z1B (Builtin.max_ ⟨ts⟩ ty #[u,v])):=by
 unfold ZdV
 split
 ·rename_i k a k' b
  intro _
  simp only [Z05] at hx hy
  subst hx; subst hy
  refine⟨.value (.int k (max a b)),w,m,?_,.inl ⟨_,rfl,by simp [Z05]⟩,hW,Ext.refl⟩
  simp [Z1B,Builtin.max_,Builtin.max2]
  omega
 ·exact Z0l.bad
theorem Zfg(hW:Z0O m L w){fr:List AV}{a:Act}(h:Z0e m L fr a.tmps.toList)(o:Oper):Z0l P m L w (ev P true fr L o.op) (execOp a.eval o):=by
 have R:∀x,(opd fr x).cond=true→Z05 m L (opd fr x).bare (a.eval x):=fun x hc=>Z3R (Z4z h x) hc
 obtain⟨dst,op,ty,pos,after,guard⟩:=o
 cases op <;> try exact fun h=>h.elim
 case move x=>exact fun hp=>⟨.value (a.eval x),w,m,rfl,.inl ⟨_,rfl,R x (hp rfl)⟩,hW,Ext.refl⟩
 case assign x=>exact fun hp=>⟨.value (a.eval x),w,m,rfl,.inl ⟨_,rfl,R x (hp rfl)⟩,hW,Ext.refl⟩
 case pick q x y=>
  simp only [ev,ZbP]
  split
  ·rename_i t ht
   intro hp
   obtain⟨h1,h2,h3⟩:=hp
   have hq:=R q (h1 rfl)
   rw [ht] at hq
   simp only [Z05] at hq
   refine⟨.value (if t then a.eval x else a.eval y),w,m,?_,.inl ⟨_,rfl,?_⟩,hW,Ext.refl⟩
   ·simp [execOp,hq,asBool]
   ·refine Z86 (fun ht=>?_) (fun ht=>?_)
    ·subst ht; exact R x (h2 rfl)
    ·subst ht; exact R y (h3 rfl)
  ·exact Z0l.bad
 case binOp op t x y yt=>exact Z0l.also fun ⟨h1,h2⟩=>ZdL hW op t x y (R x (h1 rfl)) (R y (h2 rfl))
 case unOp op t x=>exact Z0l.also fun h1=>Ze1 hW op (R x (h1 rfl))
 case convert s d x=>exact Z0l.also fun h1=>Zay hW s d (R x (h1 rfl))
 case index t x i=>exact Z0l.also fun ⟨h1,h2⟩=>Z94 hW t (R x (h1 rfl)) (R i (h2 rfl))
 case indexAddr t x i=>exact Z0l.also fun ⟨h1,h2⟩=>Z66 hW t (R x (h1 rfl)) (R i (h2 rfl))
 case load t x=>exact Z0l.also fun h1=>Zas hW t (R x (h1 rfl))
 case store t x y=>exact Z0l.also fun ⟨h1,h2⟩=>Z8L hW t (R x (h1 rfl)) (R y (h2 rfl))
 case alloc t=>exact Z9f hW t
 case box t x=>exact Z0l.also fun h1=>ZdK hW t (R x (h1 rfl))
 case build t parts=>exact Z0l.also fun h1=>Z9e hW t (Z3p h parts h1).1 (Z3p h parts h1).2
 case buildSlice t len parts=>exact Z0l.also fun h1=>Z5y hW t len (Z3p h parts h1).1 (Z3p h parts h1).2
 case field t x f=>exact Z0l.also fun h1=>Z98 hW t f (R x (h1 rfl))
 case fieldAddr t x f=>exact Z0l.also fun h1=>Z6b hW t f (R x (h1 rfl))
 case extract x i=>exact Z0l.also fun h1=>Z7D hW i (R x (h1 rfl))
 case slice t x lo hi mx=>exact Z0l.also fun ⟨h1,h2,h3,h4⟩=>Z8R hW t (R x (h1 rfl)) (Zju h lo h2) (Zju h hi h3) (Zju h mx h4)
 case sliceToArrayPointer t x=>exact Z0l.also fun h1=>Z8v hW t (R x (h1 rfl))
 case range t x=>exact Z0l.also fun h1=>Z8Y hW t (R x (h1 rfl))
 case next x b=>exact Z0l.also fun h1=>Zan hW ty b (R x (h1 rfl))
 case nilCheck x=>exact Z0l.also fun h1=>Z6x hW (R x (h1 rfl)) _ x a.eval rfl rfl
 case makeMap t r=>exact Z0l.also fun h1=>Z7r hW t (Zju h r h1)
 case lookup t x k ok=>exact Z0l.also fun ⟨h1,h2⟩=>Zaq hW t ok (R x (h1 rfl)) (R k (h2 rfl))
 case insert t x k v=>
  refine Z0l.also fun ⟨h1,h2,h3⟩=>?_
  intro hp
  obtain⟨w',m',q1,q2,q3,q4⟩:=Z5m hW t (R x (h1 rfl)) (R k (h2 rfl)) (R v (h3 rfl)) hp
  exact⟨.skip,w',m',by simp [execOp,q1],.inr ⟨rfl,q2⟩,q3,q4⟩
 case mapUpdate t x k v=>
  refine Z0l.also fun ⟨h1,h2,h3⟩=>?_
  intro hp
  obtain⟨w',m',q1,q2,q3,q4⟩:=Z5m hW t (R x (h1 rfl)) (R k (h2 rfl)) (R v (h3 rfl)) hp
  exact⟨.skip,w',m',by simp [execOp,q1],.inr ⟨rfl,q2⟩,q3,q4⟩
 case makeInterface t x=>
  refine Z0l.pure hW fun hp=>?_
  obtain⟨h1,h2⟩:=hp
  refine⟨.iface t (a.eval x),?_,by simp only [Z05]; exact⟨_,rfl,R x (h1 rfl)⟩⟩
  unfold Z7w at h2
  split at h2
  ·cases h2
  ·rename_i d hd hu
   cases d <;> simp_all [Instr.makeInterface,Z01 hu]
  ·cases h2
 case makeFunc f first captured=>
  refine Z0l.pure hW fun hp=>?_
  obtain⟨h1,h2⟩:=hp
  have e:∀xs:Array Operand,xs.map a.eval=(xs.toList.map a.eval).toArray:=fun xs=>by apply Array.ext'; simp
  refine⟨.func f (first.map a.eval) (captured.map a.eval),by simp [Instr.makeFunc],?_⟩
  simp only [Z05]
  exact⟨first.toList.map a.eval,captured.toList.map a.eval,by rw [e,e],Z3K h _ h1,Z3K h _ h2⟩
 case makeSlice t l k=>exact Z0l.also fun ⟨h1,h2⟩=>Z65 hW t (R l (h1 rfl)) (R k (h2 rfl))
 case call c=>
  obtain⟨callee,args,ts⟩:=c
  cases callee <;> try exact fun h=>h.elim
  case builtin b=>
   obtain⟨args⟩:=args
   obtain⟨ts⟩:=ts
   simp only [ev,Z4m]
   split
   ·rename_i x t
    refine Z0l.also fun h1=>?_
    have:=Zcc (P:=P) hW t ty (R x (h1 rfl))
    have e:execOp a.eval { dst,op:=.call { callee:=.builtin .len,args:=#[x],argTypes:=#[t] },type:=ty,pos,after,guard }=Z1B (Builtin.len_ #[t] ty #[a.eval x]):=by
     simp [execOp,resolve,invoke,builtin,Z1B]
    rw [e]; exact this
   ·rename_i x y
    refine Z0l.also fun ⟨h1,h2⟩=>?_
    have:=Zc7 (P:=P) hW ts ty (R x (h1 rfl)) (R y (h2 rfl))
    have e:execOp a.eval { dst,op:=.call { callee:=.builtin .min,args:=#[x,y],argTypes:=⟨ts⟩ },type:=ty,pos,after,guard }=Z1B (Builtin.min_ ⟨ts⟩ ty #[a.eval x,a.eval y]):=by
     simp [execOp,resolve,invoke,builtin,Z1B]
    rw [e]; exact this
   ·rename_i x y
    refine Z0l.also fun ⟨h1,h2⟩=>?_
    have:=Zc9 (P:=P) hW ts ty (R x (h1 rfl)) (R y (h2 rfl))
    have e:execOp a.eval { dst,op:=.call { callee:=.builtin .max,args:=#[x,y],argTypes:=⟨ts⟩ },type:=ty,pos,after,guard }=Z1B (Builtin.max_ ⟨ts⟩ ty #[a.eval x,a.eval y]):=by
     simp [execOp,resolve,invoke,builtin,Z1B]
    rw [e]; exact this
   ·rename_i s x t tx
    refine Z0l.also fun ⟨h1,h2⟩=>?_
    have:=ZdM (P:=P) hW t tx ty (R s (h1 rfl)) (R x (h2 rfl)) (Z8w (P:=P) hW t tx ty (R s (h1 rfl)) (R x (h2 rfl)))
    have e:execOp a.eval { dst,op:=.call { callee:=.builtin .append,args:=#[s,x],argTypes:=#[t,tx] },type:=ty,pos,after,guard }=Z1B (Builtin.append_ #[t,tx] ty #[a.eval s,a.eval x]):=by
     simp [execOp,resolve,invoke,builtin,Z1B]
    rw [e]; exact this
   ·rename_i s x t tx
    refine Z0l.also fun ⟨h1,h2⟩=>?_
    have:=Zax (P:=P) hW t tx ty (R s (h1 rfl)) (R x (h2 rfl))
    have e:execOp a.eval { dst,op:=.call { callee:=.builtin .copy,args:=#[s,x],argTypes:=#[t,tx] },type:=ty,pos,after,guard }=Z1B (Builtin.copy_ #[t,tx] ty #[a.eval s,a.eval x]):=by
     simp [execOp,resolve,invoke,builtin,Z1B]
    rw [e]; exact this
   ·rename_i x k t ts'
    refine Z0l.also fun ⟨h1,h2⟩=>?_
    have:=Z8b (P:=P) hW t ty 0 ts' (R x (h1 rfl)) (R k (h2 rfl))
    have e:execOp a.eval { dst,op:=.call { callee:=.builtin .delete,args:=#[x,k],argTypes:=⟨t::ts'⟩ },type:=ty,pos,after,guard }=Z1B (Builtin.delete_ ⟨t::ts'⟩ ty #[a.eval x,a.eval k]):=by
     simp [execOp,resolve,invoke,builtin,Z1B]
    rw [e]; exact this
   ·exact Z0l.bad
end
end Go.Eng