/- Parts of the walk through directories. Conditions stand in each. -/
import Derived.Test.YtbnnhffkbcekcaaGreatDoorFe
import Derived.Maps.RangeRun
import Derived.Laws.IdiomStrings
import Derived.Test.YtbnnhffkbcekcaaGreatDoorFu
import Derived.Stop.LaidErr
import Derived.FnData
import Derived.OpenShut
set_option linter.unusedVariables false
set_option linter.unusedSimpArgs false
section
namespace Go.Eng
open Go
section
variable {P:Program} {Γ:Env}
theorem Zcs{P:Program}{ρ:Operand→Value}{o:Oper}{w w':World}{u:Value}(h:(execOp ρ o).run P w=.ok (.value u) w'):∀c,o.op≠.defer c:=by
 intro c hc
 unfold execOp at h
 rw [hc] at h
 simp only [Sem.run_bind] at h
 cases hr:(resolve ρ c o.type).run P w <;> rw [hr] at h <;> simp [Result.andThen] at h
theorem Z5E{R:Option Nat}(hΓ:Z07 P Γ){B:Z8f}(ops:Array Oper){K:List AV→Z01→Prop}{Q:Exit→Act→World→Prop}{l':List Oper}(hK:∀fr L m a w,K fr L→RS B fr L m a w→wpListIn (Z1q R) 0 P ops Q l' a w) :
  ∀(l:List Oper) (fr:List AV) (L:Z01) (m:Mem) (a:Act) (w:World),ZbQ P Γ ops.toList l fr L K→RS B fr L m a w→wpListIn (Z1q R) 0 P ops Q (l++l') a w
 | [],fr,L,m,a,w,h,hR=>hK fr L m a w h hR
 | o::l,fr,L,m,a,w,h,hR=>by
  obtain⟨h1,h2,h3⟩:=h
  have:=Z48 (P:=P) (Γ:=Γ) (R:=R) hΓ hR.wrel hR.frel ops o (next:=wpListIn (Z1q R) 0 P ops Q (l++l')) (Q:=Q) h1 h2 fun a' w' m' k1 k2 k3 k4=>
   Z5E hΓ ops hK l _ _ m' a' w' h3 ⟨k1,k2,hR.ext.trans k3,by rw [k4,hR.defers]⟩
  rw [List.cons_append]
  unfold wpListIn
  split
  ·rename_i hw; rw [if_pos hw] at this; exact this
  ·rename_i hw; rw [if_neg hw] at this; exact this
end
def Z8e(X:Cx)(fr:List AV)(L:Z01)(o:Oper)(Out:AV→Z01→Prop):Prop:=
 ∀m a w,RS X.B fr L m a w→∃v L' u w' m',(execOp a.eval o).run X.P w=.ok (.value u) w'∧Z03 m' L' v u∧Z0D m' L' w'∧Ext m L w m' L' w'∧Out v L'
theorem Z02.peel{X:Cx}{a b:Code}{k:List It}{fr:List AV}{L:Z01}(h:Z02 X (.code a::.code b::k) fr L):Z02 X (.code (.seq a b)::k) fr L:=holds_of_ex X 1 _ _ _ h
theorem Z02.peelB{X:Cx}{id:Nat}{b:Code}{k:List It}{fr:List AV}{L:Z01}(h:Z02 X (.code b::.blk id::k) fr L):Z02 X (.code (.block id b)::k) fr L:=holds_of_ex X 1 _ _ _ h
section
variable {X:Cx} {k:List It} {fr:List AV} {L:Z01}
theorem Z7C(w:World)(g:Nat){o:Obj}(h:w.heap[g]?=some o):Chg w w g o:=⟨h,fun _ _ _=>rfl,Nat.le_refl _,Z9b.refl w⟩
theorem RS.raw{B:Z8f}{m:Mem}{a:Act}{w:World}(hR:RS B fr L m a w){id:Nat}{r r':Raw}{o:Obj}(hL:L[id]?=some (.raw r))(ho:w.heap[m.blk id]?=some o)(hr:Z4s (m.blk id) r' o)(hnb:∀T e l,r'≠.bld T e l) :
  RS B fr (L.set id (.raw r')) m a w:=by
 obtain⟨t1,t2⟩:=Z47 (r:=r') hR.wrel hL (Z7C w _ ho) hr hnb
 exact⟨t1,Z0a.mono t2.mono _ _ hR.frel,hR.ext.trans t2,hR.defers⟩
end
def Z04(X:Cx)(ops:Array Oper)(l:List Oper)(k:List It)(fr:List AV)(L:Z01):Prop:=
 ∀m a w,RS X.B fr L m a w→wpListIn (Z1q X.R) 0 X.P ops (W X.P X.R X.B X.Q k) l a w
theorem Z02.reg{X:Cx}{id:Nat}{ops:Array Oper}{k:List It}{fr:List AV}{L:Z01}(h:Z04 X ops ops.toList k fr L):Z02 X (.code (.region id ops false)::k) fr L:=
 fun m a w hR=>wpIn_region_list (h m a w hR)
theorem Z04.nil{X:Cx}{ops:Array Oper}{k:List It}{fr:List AV}{L:Z01}(h:Z02 X k fr L):Z04 X ops [] k fr L:=fun m a w hR=>h m a w hR
theorem Z04.ev{X:Cx}{ops:Array Oper}{k:List It}{fr:List AV}{L:Z01}{l:List Oper}(n:Nat)(h:ZbQ X.P X.Γ ops.toList (l.take n) fr L fun fr1 L1=>Z04 X ops (l.drop n) k fr1 L1):Z04 X ops l k fr L:=by
 intro m a w hR
 have:=Z5E X.ok ops (l':=l.drop n) (Q:=W X.P X.R X.B X.Q k) (fun fr1 L1 m1 a1 w1 hk hR1=>hk m1 a1 w1 hR1) (l.take n) fr L m a w h hR
 rwa [List.take_append_drop] at this
theorem Z04.op{X:Cx}{ops:Array Oper}{k:List It}{fr:List AV}{L:Z01}{o:Oper}{l:List Oper}(hg:o.guard=none){Out:AV→Z01→Prop}(h1:Z8e X fr L o Out)
  (h2:∀v L',Out v L'→Z04 X ops l k (Z1R fr o.dst v) L'):Z04 X ops (o::l) k fr L:=by
 intro m a w hR
 obtain⟨v,L',u,w',m',hrun,hv,hW,hE,hO⟩:=h1 m a w hR
 unfold wpListIn
 have hw:Region.wanted o (yielded ops a.tmps)=true:=by simp [Region.wanted,hg]
 rw [if_pos hw]
 refine⟨fun _ _=>trivial,?_⟩
 rw [Oper.semAt_eq _ _ _ (Zcs hrun),hrun]
 simp only [Oper.uponIn]
 refine h2 v L' hO m' _ w' ⟨hW,Z2n (Z0a.mono hE.mono _ _ hR.frel) o.dst hv,hR.ext.trans hE,?_⟩
 cases o.dst <;> exact hR.defers
theorem Z04.call{X:Cx}{ops:Array Oper}{k:List It}{fr:List AV}{L:Z01}{o:Oper}{l:List Oper}(hg:o.guard=none)
  {g:FuncId} {args:Array Operand} {ts:Array TypeId} {fn:Func} (ho:o.op=.call { callee:=.value (.func g),args:=args,argTypes:=ts }) (hfn:X.P.funcs[g]?=some fn) (hb:fn.body.isNone=false) (hn:(fn.name == "runtime.NumGoroutine")=false)
  {Out:AV→Z01→Prop} (h1:∀m a w,RS X.B fr L m a w→Calls X.P g (args.map a.eval) w fun e w'=>∃v u m' L',e=.returned u∧Z03 m' L' v u∧Z0D m' L' w'∧Ext m L w m' L' w'∧Out v L')
  (h2:∀v L',Out v L'→Z04 X ops l k (Z1R fr o.dst v) L'):Z04 X ops (o::l) k fr L:=by
 intro m a w hR
 have hcalls:=h1 m a w hR
 have hname':fn.name≠ "runtime.NumGoroutine":=by simpa using hn
 have hbody':fn.body≠none:=by intro h; simp [h] at hb
 have hrun:(execOp a.eval o).run X.P w=.ok (.enter g (args.map a.eval)) w:=by
  simp [execOp,ho,resolve,Act.eval,Deferred.ofValue,invoke,callFunc,hfn,hbody',hname']
 unfold wpListIn
 have hw:Region.wanted o (yielded ops a.tmps)=true:=by simp [Region.wanted,hg]
 rw [if_pos hw]
 refine⟨fun _ _=>trivial,?_⟩
 rw [Oper.semAt_eq _ _ _ (fun q hq=>by rw [ho] at hq; cases hq),hrun]
 simp only [Oper.uponIn]
 refine⟨fun h=>(by cases h),CallsIn.mono (Za4 hcalls) ?_⟩
 rintro e w' ⟨v,u,m',L',rfl,hv,hW,hE,hO⟩
 refine h2 v L' hO m' _ w' ⟨hW,Z2n (Z0a.mono hE.mono _ _ hR.frel) o.dst hv,hR.ext.trans hE,?_⟩
 cases o.dst <;> exact hR.defers
section
variable {X:Cx} {k:List It} {fr:List AV} {L:Z01}
end
attribute [push_cast] List.append_eq Z3C Z4e Z3z Zbh Int.natCast_nonneg
theorem Z6o{α β:Type}{f:α→β}(hf:∀a b,f a=f b→a=b):∀{xs ys:List α},xs.map f=ys.map f→xs=ys
 | [],[],_=>rfl
 | [],_::_,h=>by simp at h
 | _::_,[],h=>by simp at h
 | a::xs,b::ys,h=>by
  simp only [List.map_cons,List.cons.injEq] at h
  rw [hf _ _ h.1,Z6o hf h.2]
theorem Z0g{k:IntKind}{xs ys:List Int}:xs.map (AV.int k)=ys.map (AV.int k)↔xs=ys:=⟨Z6o fun a b h=>by injection h,fun h=>by rw [h]⟩
theorem Z0h{xs ys:List (List UInt8)}:xs.map AV.str=ys.map AV.str↔xs=ys:=⟨Z6o fun a b h=>by injection h,fun h=>by rw [h]⟩
theorem Z0k{xs ys:List Bool}:xs.map AV.bool=ys.map AV.bool↔xs=ys:=⟨Z6o fun a b h=>by injection h,fun h=>by rw [h]⟩
theorem Z0j{xs ys:List UInt8}:xs.map Z05=ys.map Z05↔xs=ys:=⟨Z6o fun a b h=>by
 simp only [Z05,AV.int.injEq,true_and] at h
 exact UInt8.toNat.inj (by omega),fun h=>by rw [h]⟩
theorem ZaT{α β:Type}{g:α→List β}{n:Nat}(hg:∀a b,g a=g b→a=b)(hw:∀a,(g a).length=n)(hn:0<n):∀{xs ys:List α},xs.flatMap g=ys.flatMap g→xs=ys
 | [],[],_=>rfl
 | [],b::ys,h=>by have:=congrArg List.length h; simp [hw] at this; omega
 | a::xs,[],h=>by have:=congrArg List.length h; simp [hw] at this; omega
 | a::xs,b::ys,h=>by
  simp only [List.flatMap_cons] at h
  obtain⟨h1,h2⟩:=List.append_inj h (by rw [hw,hw])
  rw [hg _ _ h1,ZaT hg hw hn h2]
theorem Zag{α β:Type}(f:α→β)(l:List α):List.take l.length (l.map f)=l.map f:=List.take_of_length_le (by simp)
theorem Zla:(Value.slice none 0 0).oneCell'=true:=rfl
attribute [push_cast] Zla
end Go.Eng
end
section
namespace Go.Eng
open Go Go.RowKit
end Go.Eng
end
section
namespace Go.Eng
open Go
section
variable {P:Program} {Γ:Env} {ops:Array Oper} {md:Region.Mode}
def Zms(P:Program)(Γ:Env)(md:Region.Mode)(ops:Array Oper)(H:Z01→Prop)(mk al st:Nat→Bool)(S:Array Bool)(K:List AV→Z01→Prop):Nat→Array Bool→List AV→Z01→Prop
 | 0,listed,fr,L=>listed=S∧K fr L
 | fuel+1,listed,fr,L=>Region.ready md ops listed≠[]∧
  ∀i∈Region.ready md ops listed,opE P Γ ops H mk (fun _=>false) al st i False (Zms P Γ md ops H mk al st S K fuel (listed.setIfInBounds i true)) fr L
theorem Z5s{H:Z01→Prop}{mk al st:Nat→Bool}{S:Array Bool}{K:List AV→Z01→Prop}(hHa:(∃i,al i=true)→∀G A,H G→H (G++A)){i:Nat}{oi:Oper}{v:AV}(hi:ops[i]?=some oi)
  (hE:∀(listed:Array Bool) (j:Nat),Z44 ops md listed→listed.setIfInBounds i true=S→i∈Region.ready md ops listed→j∈Region.ready md ops listed→j=i) :
  ∀(fuel:Nat) (listed:Array Bool) (fr:List AV) (L L1:Z01),Ze7 ops md mk al st listed i oi→Z44 ops md listed→i∈Region.ready md ops listed→H L→Ye P Γ ops H (mk i) false (al i) (st i) oi fr L v L1→
   Zms P Γ md ops H mk al st S K fuel (listed.setIfInBounds i true) (Z1R fr oi.dst v) L1→Zms P Γ md ops H mk al st S K (fuel+1) listed fr L:=by
 intro fuel
 induction fuel with
 | zero=>
  intro listed fr L L1 _ hcl hr hL hy hH
  refine⟨fun h=>(by rw [h] at hr; cases hr),fun j hj=>?_⟩
  obtain rfl:=hE listed j hcl hH.1 hr hj
  unfold opE; rw [hi]; exact⟨v,L1,hy,(fun h=>by cases h),hH⟩
 | succ fuel ih=>
  intro listed fr L L1 hfree hcl hr hL hy hH
  refine⟨fun h=>(by rw [h] at hr; cases hr),fun j hj=>?_⟩
  by_cases hji:j=i
  ·subst hji; unfold opE; rw [hi]; exact⟨v,L1,hy,(fun h=>by cases h),hH⟩
  ·have h1:=hH.2 j (ready_mono hj hji)
   obtain⟨hjun,oj,hoj,hall⟩:=mem_ready.1 hj
   have hiun:=(mem_ready.1 hr).1
   have hntw:¬TW ops md i j:=fun ht=>hcl.late hiun ht hj
   have hnot:∀e∈oj.after,Region.binds md e=true→e.on≠i:=fun e he hb heq=>by
    have h1:=hall e he hb
    rw [heq] at h1
    rcases Nat.lt_or_ge i listed.size with h' | h'
    ·simp [h'] at hiun h1; rw [hiun] at h1; cases h1
    ·simp [Array.getElem?_eq_none h'] at h1
   obtain⟨hap,hmm⟩:=hfree j oj hoj hji hjun hnot
   have hmm:=hmm.resolve_left hntw
   unfold opE at h1 ⊢
   rw [hoj] at h1 ⊢
   obtain⟨u,L2,hyj,hndj,h2⟩:=h1
   obtain⟨L3,hL3,k1,k2⟩:=hy.swap (fun h=>hHa ⟨j,h⟩) hL hyj hap hmm
   refine⟨u,L3,k1,(fun h=>by cases h),?_⟩
   have hfree':Ze7 ops md mk al st (listed.setIfInBounds j true) i oi:=fun k ok hk hki hun hno=>by
    refine hfree k ok hk hki ?_ hno
    by_cases hjk:j=k
    ·subst hjk; exact hjun
    ·rw [getD_set_ne true hjk] at hun; exact hun
   refine ih (listed.setIfInBounds j true) _ _ _ hfree' (hcl.set hj) (ready_mono hr (Ne.symm hji)) hL3 k2 ?_
   rw [Array.setIfInBounds_comm _ _ hji,←Z6a fr v u (Oper.apart_spec hap).2.1]
   exact h2
def Z3I:Nat→Nat→Array Bool→Array Bool
 | 0,_,l=>l
 | n+1,k,l=>Z3I n (k+1) (l.setIfInBounds k true)
theorem Z8K{m:Nat}:∀(n k:Nat) (l:Array Bool),Region.lexFrom md ops (n+m) k l=true→Region.lexFrom md ops m (k+n) (Z3I n k l)=true
 | 0,k,l,h=>by simpa [Z3I] using h
 | n+1,k,l,h=>by
  rw [show n+1+m=(n+m)+1 by omega,Region.lexFrom,Bool.and_eq_true] at h
  have:=Z8K n (k+1) _ h.2
  rwa [show k+1+n=k+(n+1) by omega] at this
theorem ZhQ{listed:Array Bool}{k:Nat}(hk:∀j,j<k→listed.getD j true=true):∀j,j<k+1→(listed.setIfInBounds k true).getD j true=true:=fun j hj=>by
 by_cases hjk:k=j
 ·subst hjk
  rcases Nat.lt_or_ge k listed.size with h' | h'
  ·simp [h']
  ·simp [Array.getElem?_eq_none h']
 ·rw [getD_set_ne true hjk]; exact hk j (by omega)
theorem Z63:∀(n k:Nat) (l:Array Bool),(∀j,j<k→l.getD j true=true)→∀j,j<k+n→(Z3I n k l).getD j true=true
 | 0,k,l,h=>by simpa [Z3I] using h
 | n+1,k,l,h=>fun j hj=>Z63 n (k+1) _ (ZhQ h) j (by omega)
theorem Z8n:∀(n k:Nat) (l:Array Bool) (j:Nat),k+n≤j→(Z3I n k l).getD j true=l.getD j true
 | 0,k,l,j,h=>rfl
 | n+1,k,l,j,h=>by rw [Z3I,Z8n n (k+1) _ j (by omega),getD_set_ne true (by omega)]
theorem Z5W{H:Z01→Prop}{ms as ss:List Nat}{S:Array Bool}{s m:Nat}{K:List AV→Z01→Prop}(hH:(∃i,as.contains i=true)→∀G A,H G→H (G++A))(hm:Zj3 ops md ms as ss=true)(hS:∀j,j<s→S.getD j true=true)(hs:∀i j,i<s→s≤j→j<ops.size→TW ops md i j):∀(l:List Oper) (k:Nat) (listed:Array Bool) (fr:List AV) (L:Z01),(∀j,j<l.length→l[j]?=ops[k+j]?)→k+l.length=s→s≤ops.size→(∀j,j<k→listed.getD j true=true)→(∀j o,k≤j→ops[j]?=some o→listed.getD j true=false)→
  Region.lexFrom md ops (l.length+m) k listed=true→Z3I l.length k listed=S→(l=[]∨H L)→evE P Γ ops.toList H ms as ss false k l fr L K→Zms P Γ md ops H (ms.contains ·) (as.contains ·) (ss.contains ·) S K l.length listed fr L
 | [],_,_,_,_,_,_,_,_,_,_,hs,_,h=>⟨hs,h⟩
 | o::l,k,listed,fr,L,hl,hn,hsz,hk,hu,hB,hSe,hL,h=>by
  have hL:H L:=by rcases hL with hL | hL; cases hL; exact hL
  have h0:ops[k]?=some o:=by simpa using (hl 0 (by simp)).symm
  rw [List.length_cons,show l.length+1+m=(l.length+m)+1 by omega,Region.lexFrom,Bool.and_eq_true,Bool.and_eq_true] at hB
  obtain⟨⟨hr,hf⟩,hB'⟩:=hB
  obtain⟨hg,h⟩:=h
  simp only [List.length_cons] at hn
  have hk':=ZhQ hk
  have hu':∀j o,k+1≤j→ops[j]?=some o→(listed.setIfInBounds k true).getD j true=false:=fun j o' hj ho=>by
   rw [getD_set_ne true (show k≠j by omega)]; exact hu j o' (by omega) ho
  have hcl:Z44 ops md listed:=fun a b ha hab=>by
   obtain⟨o',e,ho',_⟩:=hab.step
   refine hu b o' ?_ ho'
   rcases Nat.lt_or_ge a k with h' | h'
   ·rw [hk a h'] at ha; cases ha
   ·have:=hab.lt; omega
  have hl':∀j,j<l.length→l[j]?=ops[k+1+j]?:=fun j hj=>by have:=hl (j+1) (by simp; omega); simpa [Nat.add_assoc,Nat.add_comm 1 j] using this
  have hn':k+1+l.length=s:=by omega
  have hE:∀(listed:Array Bool) (j:Nat),Z44 ops md listed→listed.setIfInBounds k true=S→k∈Region.ready md ops listed→j∈Region.ready md ops listed→j=k:=fun listed j hc hS' hkr hjr=>by
   by_cases hjk:j=k
   ·exact hjk
   ·obtain⟨hjun,oj,hoj,_⟩:=mem_ready.1 hjr
    have hjs:j<ops.size:=(Array.getElem?_eq_some_iff.1 hoj).1
    have:S.getD j true=false:=by rw [←hS',getD_set_ne true (Ne.symm hjk)]; exact hjun
    have hge:s≤j:=by
     rcases Nat.lt_or_ge j s with h' | h'
     ·rw [hS j h'] at this; cases this
     ·exact h'
    exact absurd hjr (hc.late (mem_ready.1 hkr).1 (hs k j (by omega) hge hjs))
  have hSe':Z3I l.length (k+1) (listed.setIfInBounds k true)=S:=by simpa [Z3I] using hSe
  cases hak:as.contains k with
  | true=>
   rw [hak] at h
   simp only [if_true] at h
   exact Z5s hH h0 hE l.length listed fr L _ (Z7f hm h0 hk hf) hcl (by simpa using hr) hL (by unfold Ye; rw [hak]; exact⟨hg,by simp only [if_true]; exact⟨h.1,h.2.1,trivial,trivial,h.2.2.1⟩⟩)
    (Z5W hH hm hS hs l (k+1) _ _ _ hl' hn' hsz hk' hu' hB' hSe' (.inr h.2.2.1) h.2.2.2)
  | false=>
   rw [hak] at h
   simp only [Bool.false_eq_true,if_false] at h
   cases hmk:ms.contains k with
   | true=>
    rw [hmk] at h
    simp only [if_true,ZaJ] at h
    exact Z5s hH h0 hE l.length listed fr L _ (Z7f hm h0 hk hf) hcl (by simpa using hr) hL (by
      unfold Ye; rw [hmk,hak]
      refine⟨hg,?_⟩
      simp only [Bool.false_eq_true,if_false,if_true]
      exact⟨h.1,trivial,trivial,fun _=>h.2.2.1,fun hs=>by have:=h.2.1; rw [hs] at this; simpa using this⟩)
     (Z5W hH hm hS hs l (k+1) _ _ _ hl' hn' hsz hk' hu' hB' hSe' (.inr h.2.2.1) h.2.2.2)
   | false=>
    rw [hmk] at h
    simp only [Bool.false_eq_true,if_false] at h
    exact Z5s hH h0 hE l.length listed fr L L (Z7f hm h0 hk hf) hcl (by simpa using hr) hL (by
      unfold Ye; rw [hmk,hak]
      refine⟨hg,?_⟩
      simp only [Bool.false_eq_true,if_false,true_and]
      exact fun G hG=>⟨(h.1 G hG).1,(h.1 G hG).2.1,by rw [(h.1 G hG).2.2]⟩)
     (Z5W hH hm hS hs l (k+1) _ _ _ hl' hn' hsz hk' hu' hB' hSe' (.inr hL) h.2)
theorem Z7n{R:Option Nat}(hΓ:Z07 P Γ){B:Z8f}{H:Z01→Prop}{mk al st:Nat→Bool}{S:Array Bool}{K:List AV→Z01→Prop}{Q:Exit→Act→World→Prop}{n:Nat}(hK:∀fr L m a w,K fr L→RS B fr L m a w→wpAnyIn (Z1q R) 0 P md ops Q n S a w) :
  ∀(fuel:Nat) (listed:Array Bool) (fr:List AV) (L:Z01) (m:Mem) (a:Act) (w:World),(fuel=0∨H L)→Zms P Γ md ops H mk al st S K fuel listed fr L→RS B fr L m a w→wpAnyIn (Z1q R) 0 P md ops Q (fuel+n) listed a w
 | 0,_,_,_,_,_,_,_,h,hR=>by rw [Nat.zero_add,h.1]; exact hK _ _ _ _ _ h.2 hR
 | fuel+1,listed,_,L,_,_,_,hL,h,hR=>by
  rw [show fuel+1+n=(fuel+n)+1 by omega]
  refine⟨fun h0=>absurd h0 h.1,fun i hi=>?_⟩
  rcases hL with hL | hL
  ·cases hL
  ·exact Z8B hΓ (fun fr' L' m' a' w' hL' h' hR'=>Z7n hΓ hK fuel _ fr' L' m' a' w' (.inr (hL'.resolve_right id)) h' hR') hL (h.2 i hi) hR
end
def Zkt(ops:Array Oper)(md:Region.Mode)(s:Nat):Bool:=(List.range s).all fun i=>(List.range (ops.size - s)).all fun j=>twB ops md [] i 24 (s+j)
theorem Z02.drawnF{X:Cx}{id:Nat}{ops:Array Oper}{k:List It}{fr:List AV}{L:Z01}(s rid:Nat)(H:Z01→Prop)(ms as ss:List Nat)(H2:Z01→Prop)(lst:Bool)(hm:X.P.follows .mixedOrders=true)(hB:Region.lexB .any ops=true)(ho:Zj3 ops .any ms as ss=true)(hla:ZbK ops .any lst=true)(hsy:Zkt ops .any s=true)(hsz:s≤ops.size)
  (hH:as=[]∨∀G A,H G→H (G++A)) (hH2:as=[]∨∀G A,H2 G→H2 (G++A)) (hL:H L)
  (h:evE X.P X.Γ ops.toList H ms as ss false 0 (ops.toList.take s) fr L (fun fr L=>X.B.L.length≤rid∧Z2Q L rid∧H2 (Z5c L rid)∧evE X.P X.Γ ops.toList H2 ms as ss lst s (ops.toList.drop s) (Z4H L rid fr) (Z5c L rid) (Z02 X k))):Z02 X (.code (.region id ops true)::k) fr L:=by
 intro m a w hR
 simp only [W]
 simp only [Region.lexB,Bool.and_eq_true] at hB
 refine wpIn_region_any hm ?_
 have hR':RS X.B fr L m a { w with drawn:=w.drawn+1 }:=hR.drew
 have hlen:(ops.toList.take s).length=s:=by simp; omega
 have hdl:(ops.toList.drop s).length=ops.size - s:=by simp
 have hu:∀j o,0≤j→ops[j]?=some o→(Array.replicate ops.size false).getD j true=false:=fun j o hj ho=>by have:=(Array.getElem?_eq_some_iff.1 ho).1; simp [this]
 have hB2:Region.lexFrom .any ops (s+(ops.size - s)) 0 (Array.replicate ops.size false)=true:=by rw [show s+(ops.size - s)=ops.size by omega]; simpa using hB.2
 have hT:∀i j,i<s→s≤j→j<ops.size→TW ops .any i j:=fun i j h1 h2 h3=>by
  simp only [Zkt,List.all_eq_true,List.mem_range] at hsy
  have:=hsy i h1 (j - s) (by omega)
  rw [show s+(j - s)=j by omega] at this
  exact⟨[],24,this⟩
 have key:=Z5W (P:=X.P) (Γ:=X.Γ) (md:=.any) (ops:=ops) (S:=Z3I s 0 (Array.replicate ops.size false)) (s:=s) (m:=ops.size - s) (fun ⟨i,hi⟩=>by rcases hH with hH | hH; subst hH; simp at hi; exact hH) ho (fun j hj=>Z63 s 0 _ (fun j hj=>by omega) j (by omega)) hT
  (ops.toList.take s) 0 (Array.replicate ops.size false) fr L (fun j hj=>by rw [hlen] at hj; rw [List.getElem?_take_of_lt hj]; simp) (by rw [hlen]; omega) hsz (fun j hj=>by omega) hu (by rw [hlen]; exact hB2) (by rw [hlen]) (.inr hL) h
 rw [hlen] at key
 have h2:=Z7n (R:=X.R) (md:=.any) (Q:=W X.P X.R X.B X.Q k) (n:=ops.size - s) X.ok (fun fr L m a w hk hR=>?_) _ _ fr L m a _ (.inr hL) key hR'
 ·rw [show s+(ops.size - s)=ops.size by omega] at h2
  simpa using h2
 ·obtain⟨k1,k2,k3,k4⟩:=hk
  obtain⟨m,hR⟩:=hR.intoF (S:=(Z4H L rid fr,Z5c L rid)) (.frz rid k1 k2 (.refl (Z4H L rid fr,Z5c L rid)))
  have hk2:=Z58 (P:=X.P) (Γ:=X.Γ) (md:=.any) (ops:=ops) (K:=Z02 X _) (fun ⟨i,hi⟩=>by rcases hH2 with hH | hH; subst hH; simp at hi; exact hH) ho hla (ops.toList.drop s) s (Z3I s 0 (Array.replicate ops.size false)) (Z4H L rid fr) (Z5c L rid) (fun j=>by simp) (by rw [hdl]; omega) (fun j hj=>Z63 s 0 _ (fun j hj=>by omega) j (by omega)) (fun j o hj ho=>by rw [Z8n s 0 _ j (by omega)]; exact hu j o (by omega) ho)
   (by rw [hdl]; have:=Z8K _ _ _ hB2; rwa [Nat.zero_add] at this) (.inr k3) k4
  rw [hdl] at hk2
  exact Z5t (R:=X.R) (md:=.any) (Q:=W X.P X.R X.B X.Q _) X.ok (fun fr L m a w hk hR=>hk m a w hR) _ _ (Z4H L rid fr) (Z5c L rid) m a _ (.inl k3) hk2 hR
end Go.Eng
end
