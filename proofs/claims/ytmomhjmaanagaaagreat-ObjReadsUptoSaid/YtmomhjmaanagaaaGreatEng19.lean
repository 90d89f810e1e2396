/- The engine, part 19: regions that draw their order, again: quiet operations that stand ahead of all that turn the heap are read where they stand; of the last operation, which waits for all, nothing is asked of the class of heaps. -/
import Derived.Test.YtmomhjmaanagaaaGreatEng15
import Derived.Test.YtmomhjmaanagaaaGreatEng16
set_option linter.unusedVariables false
set_option linter.unusedSimpArgs false
namespace Go.Eng
open Go
def Z2O:Op→Bool
 | .move _=>true
 | .assign _=>true
 | .pick ..=>true
 | .binOp ..=>true
 | .unOp ..=>true
 | .index ..=>true
 | .indexAddr ..=>true
 | .load ..=>true
 | .field ..=>true
 | .fieldAddr ..=>true
 | .extract ..=>true
 | .nilCheck _=>true
 | .sliceToArrayPointer _ _=>true
 | .slice ..=>true
 | .lookup ..=>true
 | .call { callee:=.builtin .len,args:=_,argTypes:=_ }=>true
 | _=>false
theorem ZdN(z:Rz)(p:Prop):(z.also p).L=z.L:=rfl
theorem Z7g{P:Program}{Γ:Env}{all:List Oper}{c:Bool}{fr:List AV}{L:Heap}{o:Oper}(h:Z2O o.op=true):(stepA P Γ all c fr L o).L=L:=by
  rcases Z23 P Γ all o with hst | ⟨t,len,parts,ho,hst⟩
  · rw [hst]
    obtain⟨dst,op,ty,pos,after,guard⟩:=o
    simp only at h ⊢
    cases op <;> simp only [Z2O,Bool.false_eq_true] at h <;> simp only [Z1n,ev,ZdN]
    case pick=>unfold ZbP; split <;> rfl
    case binOp=>
      unfold ZhZ; repeat' split
      all_goals first | rfl | (unfold Zjz; split <;> rfl) | (unfold Zjt; split <;> rfl) | (unfold ZfX; split <;> rfl) | (unfold Z8o; repeat' split) | skip
      all_goals first | rfl | skip
    case unOp=>unfold unR; split <;> rfl
    case index => unfold Z6W; repeat' split
                  all_goals rfl
    case indexAddr => unfold Z2K; repeat' split
                      all_goals rfl
    case load => unfold Z8c; repeat' split
                 all_goals rfl
    case field => unfold Z6Z; repeat' split
                  all_goals rfl
    case fieldAddr => unfold Z2L; repeat' split
                      all_goals rfl
    case extract => unfold Z4k; repeat' split
                    all_goals rfl
    case nilCheck => unfold Z3r; repeat' split
                     all_goals rfl
    case sliceToArrayPointer => unfold Z5d; repeat' split
                                all_goals rfl
    case slice => unfold Z6H; repeat' split
                  all_goals rfl
    case lookup => unfold Zar; repeat' split
                   all_goals rfl
    case call c=>
      obtain⟨callee,args,ts⟩:=c
      cases callee with
      | value f=>simp [Z2O] at h
      | invoke r n=>simp [Z2O] at h
      | builtin b=>
        cases b <;> simp only [Z2O,Bool.false_eq_true] at h
        simp only [Z1n,ev,Z4m]
        split <;> first | rfl | (rw [ZdN]; unfold ZhX; repeat' split) | (rw [ZdN]; unfold ZdV; repeat' split) | contradiction | skip
        all_goals first | rfl | contradiction | skip
  · rw [ho] at h; simp [Z2O] at h
section
variable {P:Program} {Γ:Env} {ops:Array Oper}
def ZiH(o:Oper):Bool:=match o.op,o.guard with
 | .alloc _,none=>true
 | _,_=>false
theorem ZhS{o:Oper}(h:ZiH o=true):∃ob q,∀fr L,stepA P Γ ops.toList (Z0o ops.toList fr o.guard) fr L o=⟨q,.ref L.length 0 0,L++[ob]⟩∧(∀c,mkV o.guard c (.ref L.length 0 0)=.ref L.length 0 0):=by
 obtain⟨dst,op,ty,pos,after,guard⟩:=o
 unfold ZiH at h
 simp only at h
 split at h
 ·rename_i t
  cases hb:lkT tyB t with
  | none=>
   refine⟨.row (Z1u P t).cells (Z1u P t).cells.length 0,true=true∧Z1U P t,fun fr L=>?_⟩
   rcases Z23 P Γ ops.toList ⟨dst,.alloc t,ty,pos,after,none⟩ with hst | ⟨t',len,parts,ho,hst⟩
   ·rw [hst]; exact⟨by simp only [Z1n,ev,Z6l,hb,Z0o],fun _=>rfl⟩
   ·cases ho
  | some e=>
   refine⟨.raw (.bld t e []),true=true∧Z1U P t∧Z1u P t=.agg [.lit (.pointer none),.lit (.slice none 0 0)],fun fr L=>?_⟩
   rcases Z23 P Γ ops.toList ⟨dst,.alloc t,ty,pos,after,none⟩ with hst | ⟨t',len,parts,ho,hst⟩
   ·rw [hst]; exact⟨by simp only [Z1n,ev,Z6l,hb,Z0o],fun _=>rfl⟩
   ·cases ho
 ·cases h
def Z7i(P:Program)(Γ:Env)(all:List Oper)(c:Bool)(fr:List AV)(L:Heap)(o:Oper):Prop:=(stepA P Γ all c fr L o).L.length=L.length∧
 ∀A,(stepA P Γ all c fr (L++A) o).pre∧(stepA P Γ all c fr (L++A) o).v=(stepA P Γ all c fr L o).v∧(stepA P Γ all c fr (L++A) o).L=(stepA P Γ all c fr L o).L++A
def Ye(P:Program)(Γ:Env)(ops:Array Oper)(H:Heap→Prop)(mk la al st:Bool)(o:Oper)(fr:List AV)(L:Heap)(v:AV)(L':Heap):Prop:=
 Z2t ops.toList fr o.guard∧
 if al then ZiH o=true∧(stepA P Γ ops.toList (Z0o ops.toList fr o.guard) fr L o).pre∧v=mkV o.guard (Z0o ops.toList fr o.guard) (stepA P Γ ops.toList (Z0o ops.toList fr o.guard) fr L o).v∧
   L'=(stepA P Γ ops.toList (Z0o ops.toList fr o.guard) fr L o).L∧H L'
 else if mk then (stepA P Γ ops.toList (Z0o ops.toList fr o.guard) fr L o).pre∧v=mkV o.guard (Z0o ops.toList fr o.guard) (stepA P Γ ops.toList (Z0o ops.toList fr o.guard) fr L o).v∧
   L'=(stepA P Γ ops.toList (Z0o ops.toList fr o.guard) fr L o).L∧(la=false→H L')∧(st=true→Z7i P Γ ops.toList (Z0o ops.toList fr o.guard) fr L o)
 else L'=L∧∀G,H G→(stepA P Γ ops.toList (Z0o ops.toList fr o.guard) fr G o).pre∧(stepA P Γ ops.toList (Z0o ops.toList fr o.guard) fr G o).L=G∧
   v=mkV o.guard (Z0o ops.toList fr o.guard) (stepA P Γ ops.toList (Z0o ops.toList fr o.guard) fr G o).v
theorem Ye.swap{H:Heap→Prop}{mi mj ai aj si sj:Bool}{oi oj:Oper}{fr:List AV}{L L1 L2:Heap}{v u:AV}(hH:aj=true→∀G A,H G→H (G++A))(hL:H L)(hi:Ye P Γ ops H mi false ai si oi fr L v L1)(hj:Ye P Γ ops H mj false aj sj oj (Z3y fr oi.dst v) L1 u L2)
  (hap:oi.apart ops oj=true) (hm:(ai=false∧aj=false∧(¬(mi=true∧mj=true)∨(Z2O oi.op=true∧Z2O oj.op=true)))∨(ai=false∧aj=true∧(mi=true→si=true))∨(ai=true∧aj=false∧mj=false)) :
  ∃L3,H L3∧Ye P Γ ops H mj false aj sj oj fr L u L3∧Ye P Γ ops H mi false ai si oi (Z3y fr oj.dst u) L3 v L2:=by
 obtain⟨h1,h2,h3⟩:=Oper.apart_spec hap
 unfold Ye at hi hj ⊢
 have e1:∀c G,stepA P Γ ops.toList c (Z3y fr oi.dst v) G oj=stepA P Γ ops.toList c fr G oj:=fun c G=>Z9E (o:=oj) h1
 have e2:∀c G,stepA P Γ ops.toList c (Z3y fr oj.dst u) G oi=stepA P Γ ops.toList c fr G oi:=fun c G=>Z9E (o:=oi) h3
 obtain⟨g1,g2⟩:=Z4P (fr:=fr) (o:=oj) (dst:=oi.dst) (x:=v) h1
 obtain⟨g3,g4⟩:=Z4P (fr:=fr) (o:=oi) (dst:=oj.dst) (x:=u) h3
 have s1:∀c G,Z7i P Γ ops.toList c (Z3y fr oi.dst v) G oj=Z7i P Γ ops.toList c fr G oj:=fun c G=>by unfold Z7i; simp only [e1]
 have s2:∀c G,Z7i P Γ ops.toList c (Z3y fr oj.dst u) G oi=Z7i P Γ ops.toList c fr G oi:=fun c G=>by unfold Z7i; simp only [e2]
 rw [g1,g2] at hj
 simp only [e1,s1] at hj
 rw [g3,g4]
 simp only [e2,s2]
 obtain⟨hgi,hi⟩:=hi
 obtain⟨hgj,hj⟩:=hj
 rcases hm with ⟨rfl,rfl,hm⟩ | ⟨rfl,rfl,hm⟩ | ⟨rfl,rfl,rfl⟩
 ·simp only [Bool.false_eq_true,if_false] at hi hj ⊢
  cases mi <;> cases mj
  ·simp only [Bool.false_eq_true,if_false] at hi hj
   obtain⟨rfl,hi⟩:=hi
   obtain⟨rfl,hj⟩:=hj
   refine⟨L2,hL,?_⟩
   simp only [Bool.false_eq_true,if_false]
   exact⟨⟨hgj,trivial,hj⟩,hgi,trivial,hi⟩
  ·simp only [Bool.false_eq_true,if_false,if_true] at hi hj
   obtain⟨rfl,hi⟩:=hi
   refine⟨L2,hj.2.2.2.1 trivial,?_⟩
   simp only [Bool.false_eq_true,if_false,if_true]
   exact⟨⟨hgj,hj⟩,hgi,trivial,hi⟩
  ·simp only [Bool.false_eq_true,if_false,if_true] at hi hj
   obtain⟨rfl,hj⟩:=hj
   refine⟨L,hL,?_⟩
   simp only [Bool.false_eq_true,if_false,if_true]
   exact⟨⟨hgj,trivial,hj⟩,hgi,hi⟩
  ·rcases hm with hm | ⟨q1,q2⟩
   ·exact absurd ⟨rfl,rfl⟩ hm
   simp only [if_true,Z7g q1,Z7g q2] at hi hj
   obtain⟨a1,a2,rfl,a3,a4⟩:=hi
   obtain⟨b1,b2,rfl,b3,b4⟩:=hj
   refine⟨L2,hL,?_⟩
   simp only [if_true,Z7g q1,Z7g q2]
   exact⟨⟨hgj,b1,b2,trivial,b3,b4⟩,hgi,a1,a2,trivial,a3,a4⟩
 ·simp only [Bool.false_eq_true,if_false,if_true] at hi hj ⊢
  obtain⟨b0,b1,b2,rfl,b3⟩:=hj
  obtain⟨ob,q,hal⟩:=ZhS (P:=P) (Γ:=Γ) (ops:=ops) b0
  cases mi with
  | false=>
   simp only [Bool.false_eq_true,if_false] at hi ⊢
   obtain⟨rfl,hi⟩:=hi
   exact⟨_,b3,⟨hgj,b0,b1,b2,rfl,b3⟩,hgi,rfl,hi⟩
  | true=>
   simp only [if_true] at hi ⊢
   obtain⟨a1,a2,rfl,a3,a4⟩:=hi
   have hst:=a4 (hm rfl)
   obtain⟨t1,t2⟩:=hst
   have q1:=fun L=>(hal fr L).1
   have q2:=fun L=>(hal fr L).2
   simp only [q1,q2] at b1 b2 b3 ⊢
   rw [t1] at b2
   refine⟨L++[ob],hH rfl _ _ hL,⟨hgj,b0,b1,b2,rfl,hH rfl _ _ hL⟩,?_⟩
   ·obtain⟨t3,t4,t5⟩:=t2 [ob]
    refine⟨hgi,t3,by rw [t4]; exact a2,t5.symm,fun _=>b3,fun _=>?_⟩
    refine⟨by rw [t5]; simp [t1],fun A=>?_⟩
    obtain⟨r3,r4,r5⟩:=t2 ([ob]++A)
    rw [←List.append_assoc] at r3 r4 r5
    exact⟨r3,by rw [r4,t4],by rw [r5,t5,List.append_assoc]⟩
 ·simp only [Bool.false_eq_true,if_false,if_true] at hi hj ⊢
  obtain⟨rfl,hj⟩:=hj
  exact⟨L,hL,⟨hgj,rfl,hj⟩,hgi,hi⟩
theorem Ye.keeps{H:Heap→Prop}{mk al st:Bool}{o:Oper}{fr:List AV}{L L':Heap}{v:AV}(hL:H L)(h:Ye P Γ ops H mk false al st o fr L v L'):H L':=by
 unfold Ye at h
 cases al
 ·cases mk
  ·simp only [Bool.false_eq_true,if_false] at h; rw [h.2.1]; exact hL
  ·simp only [Bool.false_eq_true,if_false,if_true] at h; exact h.2.2.2.2.1 trivial
 ·simp only [if_true] at h; exact h.2.2.2.2.2
variable {md:Region.Mode}
def opE(P:Program)(Γ:Env)(ops:Array Oper)(H:Heap→Prop)(mk la al st:Nat→Bool)(i:Nat)(nd:Prop)(K:List AV→Heap→Prop)(fr:List AV)(L:Heap):Prop:=
 match ops[i]? with
 | none=>K fr L
 | some o=>∃v L',Ye P Γ ops H (mk i) (la i) (al i) (st i) o fr L v L'∧(la i=true→nd)∧K (Z3y fr o.dst v) L'
def Zjq(P:Program)(Γ:Env)(md:Region.Mode)(ops:Array Oper)(H:Heap→Prop)(mk la al st:Nat→Bool)(K:List AV→Heap→Prop):Nat→Array Bool→List AV→Heap→Prop
 | 0,listed,fr,L=>Region.ready md ops listed=[]∧K fr L
 | fuel+1,listed,fr,L=>(Region.ready md ops listed=[]→K fr L)∧
  ∀i∈Region.ready md ops listed,opE P Γ ops H mk la al st i (Region.ready md ops (listed.setIfInBounds i true)=[]) (Zjq P Γ md ops H mk la al st K fuel (listed.setIfInBounds i true)) fr L
def Zip(mk al st:Nat→Bool)(i j:Nat)(oi oj:Oper):Prop:=(al i=false∧al j=false∧(¬(mk i=true∧mk j=true)∨(Z2O oi.op=true∧Z2O oj.op=true)))∨(al i=false∧al j=true∧(mk i=true→st i=true))∨(al i=true∧al j=false∧mk j=false)
def ZhA(ops:Array Oper)(md:Region.Mode)(mk al st:Nat→Bool)(listed:Array Bool)(i:Nat)(oi:Oper):Prop:=
 ∀j oj,ops[j]?=some oj→j≠i→listed.getD j true=false→(∀e∈oj.after,Region.binds md e=true→e.on≠i)→oi.apart ops oj=true∧(TW ops md i j∨Zip mk al st i j oi oj)
def Z6o(ops:Array Oper)(md:Region.Mode)(listed:Array Bool):Prop:=∀j k,listed.getD j true=false→TW ops md j k→listed.getD k true=false
theorem Z6o.set{listed:Array Bool}(h:Z6o ops md listed){j:Nat}(hj:j∈Region.ready md ops listed):Z6o ops md (listed.setIfInBounds j true):=by
 obtain⟨hjun,oj,hoj,hall⟩:=mem_ready.1 hj
 intro a b ha hab
 have haj:j≠a:=by
  intro e; subst e
  rcases Nat.lt_or_ge j listed.size with h' | h'
  ·simp [h'] at ha
  ·simp [Array.getElem?_eq_none h'] at ha
 rw [getD_set_ne true haj] at ha
 by_cases hbj:j=b
 ·subst hbj
  obtain⟨o',e,ho',he,hb,hlt,h3⟩:=hab.step
  rw [hoj] at ho'
  obtain rfl:=Option.some.inj ho'
  have h5:=hall e he hb
  have hlt':e.on<listed.size:=by
   rcases Nat.lt_or_ge j listed.size with h' | h'
   ·omega
   ·simp [Array.getElem?_eq_none h'] at hjun
  rcases h3 with h3 | h3
  ·rw [h3] at h5 hlt'; simp [hlt'] at h5 ha; rw [ha] at h5; cases h5
  ·have h6:=h _ _ ha h3
   simp [hlt'] at h5 h6; rw [h6] at h5; cases h5
 ·rw [getD_set_ne true hbj]; exact h _ _ ha hab
theorem Z6o.late{listed:Array Bool}(h:Z6o ops md listed){i j:Nat}(hi:listed.getD i true=false)(hij:TW ops md i j):j∉Region.ready md ops listed:=by
 intro hj
 obtain⟨hjun,oj,hoj,hall⟩:=mem_ready.1 hj
 obtain⟨o',e,ho',he,hb,hlt,h3⟩:=hij.step
 rw [hoj] at ho'
 obtain rfl:=Option.some.inj ho'
 have h5:=hall e he hb
 have hlt':e.on<listed.size:=by
  rcases Nat.lt_or_ge j listed.size with h' | h'
  ·omega
  ·simp [Array.getElem?_eq_none h'] at hjun
 rcases h3 with h3 | h3
 ·rw [h3] at h5 hlt'; simp [hlt'] at h5 hi; rw [hi] at h5; cases h5
 ·have h6:=h _ _ hi h3
  simp [hlt'] at h5 h6; rw [h6] at h5; cases h5
def ZfY(ops:Array Oper)(md:Region.Mode)(la:Nat→Bool):Prop:=∀i,la i=true→∀j,j<ops.size→j≠i→TW ops md j i
theorem Z5f{H:Heap→Prop}{mk la al st:Nat→Bool}{K:List AV→Heap→Prop}(hla:ZfY ops md la)(hHa:(∃i,al i=true)→∀G A,H G→H (G++A)){i:Nat}{oi:Oper}{v:AV}(hi:ops[i]?=some oi) :
  ∀(fuel:Nat) (listed:Array Bool) (fr:List AV) (L L1:Heap),ZhA ops md mk al st listed i oi→Z6o ops md listed→i∈Region.ready md ops listed→H L→Ye P Γ ops H (mk i) (la i) (al i) (st i) oi fr L v L1→
   (la i=true→Region.ready md ops (listed.setIfInBounds i true)=[])→
   Zjq P Γ md ops H mk la al st K fuel (listed.setIfInBounds i true) (Z3y fr oi.dst v) L1→Zjq P Γ md ops H mk la al st K (fuel+1) listed fr L:=by
 intro fuel
 induction fuel with
 | zero=>
  intro listed fr L L1 _ _ hr hL hy hnd hH
  refine⟨fun h=>(by rw [h] at hr; cases hr),fun j hj=>?_⟩
  by_cases hji:j=i
  ·subst hji; unfold opE; rw [hi]; exact⟨v,L1,hy,hnd,hH⟩
  ·have:=ready_mono hj hji
   rw [hH.1] at this
   cases this
 | succ fuel ih=>
  intro listed fr L L1 hfree hcl hr hL hy hnd hH
  refine⟨fun h=>(by rw [h] at hr; cases hr),fun j hj=>?_⟩
  by_cases hji:j=i
  ·subst hji; unfold opE; rw [hi]; exact⟨v,L1,hy,hnd,hH⟩
  ·have h1:=hH.2 j (ready_mono hj hji)
   obtain⟨hjun,oj,hoj,hall⟩:=mem_ready.1 hj
   have hiun:=(mem_ready.1 hr).1
   have hjs:j<ops.size:=(Array.getElem?_eq_some_iff.1 hoj).1
   have his:i<ops.size:=(Array.getElem?_eq_some_iff.1 hi).1
   have hntw:¬TW ops md i j:=fun ht=>hcl.late hiun ht hj
   have hntw':¬TW ops md j i:=fun ht=>hcl.late hjun ht hr
   have hli:la i=false:=by
    cases h:la i with
    | false=>rfl
    | true=>exact absurd (hla i h j hjs hji) hntw'
   have hlj:la j=false:=by
    cases h:la j with
    | false=>rfl
    | true=>exact absurd (hla j h i his (Ne.symm hji)) hntw
   have hnot:∀e∈oj.after,Region.binds md e=true→e.on≠i:=fun e he hb heq=>by
    have h1:=hall e he hb
    rw [heq] at h1
    rcases Nat.lt_or_ge i listed.size with h' | h'
    ·simp [h'] at hiun h1; rw [hiun] at h1; cases h1
    ·simp [Array.getElem?_eq_none h'] at h1
   obtain⟨hap,hmm⟩:=hfree j oj hoj hji hjun hnot
   have hmm:=hmm.resolve_left hntw
   unfold opE at h1 ⊢
   rw [hoj] at h1 ⊢
   obtain⟨u,L2,hyj,hndj,h2⟩:=h1
   rw [hli] at hy
   rw [hlj] at hyj
   obtain⟨L3,hL3,k1,k2⟩:=hy.swap (fun h=>hHa ⟨j,h⟩) hL hyj hap hmm
   refine⟨u,L3,by rw [hlj]; exact k1,fun h=>(by rw [hlj] at h; cases h),?_⟩
   have hfree':ZhA ops md mk al st (listed.setIfInBounds j true) i oi:=fun k ok hk hki hun hno=>by
    refine hfree k ok hk hki ?_ hno
    by_cases hjk:j=k
    ·subst hjk; exact hjun
    ·rw [getD_set_ne true hjk] at hun; exact hun
   refine ih (listed.setIfInBounds j true) _ _ _ hfree' (hcl.set hj) (ready_mono hr (Ne.symm hji)) hL3 (by rw [hli]; exact k2) (fun h=>by rw [hli] at h; cases h) ?_
   rw [Array.setIfInBounds_comm _ _ hji,←Z81 fr v u (Oper.apart_spec hap).2.1]
   exact h2
def Z50(ops:Array Oper)(i:Nat):Bool:=match ops[i]? with | some o=>Z2O o.op | none=>false
def Zjv(ops:Array Oper)(md:Region.Mode)(ms as ss:List Nat):Bool:=(ms++as).all fun i=>(ms++as).all fun j=>decide (j≤i) || (!as.contains i && !as.contains j && (Z50 ops i && Z50 ops j)) || (!as.contains i && as.contains j && ss.contains i) || twB ops md ms i 12 j
def Zf2(ops:Array Oper)(md:Region.Mode)(lst:Bool):Bool:=!lst || (List.range (ops.size - 1)).all fun j=>twB ops md [] j 12 (ops.size - 1)
def laF(ops:Array Oper)(lst:Bool)(i:Nat):Bool:=lst && decide (i+1=ops.size)
theorem Z93{lst:Bool}(h:Zf2 ops md lst=true):ZfY ops md (laF ops lst):=by
 intro i hi j hj hji
 simp only [laF,Bool.and_eq_true,decide_eq_true_eq] at hi
 obtain⟨rfl,hi⟩:=hi
 simp only [Zf2,Bool.not_true,Bool.false_or,List.all_eq_true,List.mem_range] at h
 have:=h j (by omega)
 rw [show ops.size - 1=i by omega] at this
 exact⟨[],12,this⟩
theorem Zcp{ms as ss:List Nat}(hm:Zjv ops md ms as ss=true){i:Nat}{oi:Oper}{listed:Array Bool}(hi:ops[i]?=some oi)(hl:∀j,j<i→listed.getD j true=true)(h:Region.free md ops listed i=true) :
  ZhA ops md (ms.contains ·) (as.contains ·) (ss.contains ·) listed i oi:=by
 intro j oj hj hji hun hno
 refine⟨Region.free_spec hi h j oj hj hji hun hno,?_⟩
 have hlt:¬j≤i:=fun hle=>by have:=hl j (by omega); rw [this] at hun; cases hun
 have key:i∈ms++as→j∈ms++as→(as.contains i=false∧as.contains j=false∧Z50 ops i=true∧Z50 ops j=true)∨(as.contains i=false∧as.contains j=true∧ss.contains i=true)∨TW ops md i j:=by
  intro h1 h2
  simp only [Zjv,List.all_eq_true,Bool.or_eq_true,decide_eq_true_eq,Bool.and_eq_true,Bool.not_eq_true'] at hm
  rcases hm i h1 j h2 with ((h3 | h3) | h3) | h3
  ·exact absurd h3 hlt
  ·exact .inl ⟨h3.1.1,h3.1.2,h3.2.1,h3.2.2⟩
  ·exact .inr (.inl ⟨h3.1.1,h3.1.2,h3.2⟩)
  ·exact .inr (.inr ⟨ms,12,h3⟩)
 have hmem:∀k,(ms.contains k=true∨as.contains k=true)→k∈ms++as:=fun k hk=>by simpa [List.contains_iff_mem] using hk
 unfold Zip
 have ff:∀{b:Bool},b=true→b=false→False:=fun h1 h2=>by rw [h1] at h2; cases h2
 cases hai:as.contains i <;> cases haj:as.contains j
 ·by_cases hmm:ms.contains i=true∧ms.contains j=true
  ·rcases key (hmem i (.inl hmm.1)) (hmem j (.inl hmm.2)) with k | k | k
   ·exact .inr (.inl ⟨hai,haj,.inr ⟨by simpa [Z50,hi] using k.2.2.1,by simpa [Z50,hj] using k.2.2.2⟩⟩)
   ·exact (ff k.2.1 haj).elim
   ·exact .inl k
  ·exact .inr (.inl ⟨hai,haj,.inl hmm⟩)
 ·by_cases hmi:ms.contains i=true
  ·rcases key (hmem i (.inl hmi)) (hmem j (.inr haj)) with k | k | k
   ·exact (ff haj k.2.1).elim
   ·exact .inr (.inr (.inl ⟨hai,haj,fun _=>k.2.2⟩))
   ·exact .inl k
  ·exact .inr (.inr (.inl ⟨hai,haj,fun h=>absurd h hmi⟩))
 ·by_cases hmj:ms.contains j=true
  ·rcases key (hmem i (.inr hai)) (hmem j (.inl hmj)) with k | k | k
   ·exact (ff hai k.1).elim
   ·exact (ff hai k.1).elim
   ·exact .inl k
  ·exact .inr (.inr (.inr ⟨hai,haj,by simpa using hmj⟩))
 ·rcases key (hmem i (.inr hai)) (hmem j (.inr haj)) with k | k | k
  ·exact (ff hai k.1).elim
  ·exact (ff hai k.1).elim
  ·exact .inl k
def Z6S(lst:Bool)(r:List Oper)(p:Prop):Prop:=match lst,r with
 | true,[]=>True
 | _,_=>p
theorem ZeE(r:List Oper)(p:Prop):Z6S false r p=p:=by cases r <;> rfl
theorem ZeF(l:Bool)(o:Oper)(r:List Oper)(p:Prop):Z6S l (o::r) p=p:=by cases l <;> rfl
theorem ZeD(p:Prop):Z6S true [] p=True:=rfl
theorem Z6R{l:Bool}{r:List Oper}{p:Prop}(h:Z6S l r p):(l && r.isEmpty)=false→p:=by
 cases l <;> cases r <;> simp_all [Z6S]
def evE(P:Program)(Γ:Env)(all:List Oper)(H:Heap→Prop)(ms as ss:List Nat)(lst:Bool):Nat→List Oper→List AV→Heap→(List AV→Heap→Prop)→Prop
 | _,[],fr,L,K=>K fr L
 | k,o::r,fr,L,K=>
  Z2t all fr o.guard∧
  if as.contains k then ZiH o=true∧(stepA P Γ all (Z0o all fr o.guard) fr L o).pre∧H (stepA P Γ all (Z0o all fr o.guard) fr L o).L∧
   evE P Γ all H ms as ss lst (k+1) r (Z3y fr o.dst (mkV o.guard (Z0o all fr o.guard) (stepA P Γ all (Z0o all fr o.guard) fr L o).v)) (stepA P Γ all (Z0o all fr o.guard) fr L o).L K
  else if ms.contains k then (stepA P Γ all (Z0o all fr o.guard) fr L o).pre∧(if ss.contains k then Z7i P Γ all (Z0o all fr o.guard) fr L o else True)∧Z6S lst r (H (stepA P Γ all (Z0o all fr o.guard) fr L o).L)∧
   evE P Γ all H ms as ss lst (k+1) r (Z3y fr o.dst (mkV o.guard (Z0o all fr o.guard) (stepA P Γ all (Z0o all fr o.guard) fr L o).v)) (stepA P Γ all (Z0o all fr o.guard) fr L o).L K
  else qob H (fun G=>(stepA P Γ all (Z0o all fr o.guard) fr G o).pre∧(stepA P Γ all (Z0o all fr o.guard) fr G o).L=G∧(stepA P Γ all (Z0o all fr o.guard) fr G o).v=(stepA P Γ all (Z0o all fr o.guard) fr L o).v)∧
   evE P Γ all H ms as ss lst (k+1) r (Z3y fr o.dst (mkV o.guard (Z0o all fr o.guard) (stepA P Γ all (Z0o all fr o.guard) fr L o).v)) L K
theorem Z5J{H:Heap→Prop}{ms as ss:List Nat}{lst:Bool}{K:List AV→Heap→Prop}(hH:(∃i,as.contains i=true)→∀G A,H G→H (G++A))(hm:Zjv ops md ms as ss=true)(hla:Zf2 ops md lst=true):∀(l:List Oper) (k:Nat) (listed:Array Bool) (fr:List AV) (L:Heap),(∀j,l[j]?=ops[k+j]?)→k+l.length=ops.size→(∀j,j<k→listed.getD j true=true)→(∀j o,k≤j→ops[j]?=some o→listed.getD j true=false)→
  Region.lexFrom md ops l.length k listed=true→(l=[]∨H L)→evE P Γ ops.toList H ms as ss lst k l fr L K→Zjq P Γ md ops H (ms.contains ·) (laF ops lst) (as.contains ·) (ss.contains ·) K l.length listed fr L
 | [],_,_,_,_,_,_,_,_,hB,_,h=>⟨by simpa [Region.lexFrom] using hB,h⟩
 | o::l,k,listed,fr,L,hl,hn,hk,hu,hB,hL,h=>by
  have hL:H L:=by rcases hL with hL | hL; cases hL; exact hL
  have h0:ops[k]?=some o:=by simpa using (hl 0).symm
  simp only [List.length_cons,Region.lexFrom,Bool.and_eq_true] at hB
  obtain⟨⟨hr,hf⟩,hB'⟩:=hB
  obtain⟨hg,h⟩:=h
  have hk':∀j,j<k+1→(listed.setIfInBounds k true).getD j true=true:=fun j hj=>by
   by_cases hjk:k=j
   ·subst hjk
    rcases Nat.lt_or_ge k listed.size with h' | h'
    ·simp [h']
    ·simp [Array.getElem?_eq_none h']
   ·rw [getD_set_ne true hjk]; exact hk j (by omega)
  have hu':∀j o,k+1≤j→ops[j]?=some o→(listed.setIfInBounds k true).getD j true=false:=fun j o' hj ho=>by
   rw [getD_set_ne true (show k≠j by omega)]; exact hu j o' (by omega) ho
  have hcl:Z6o ops md listed:=fun a b ha hab=>by
   obtain⟨o',e,ho',_⟩:=hab.step
   refine hu b o' ?_ ho'
   rcases Nat.lt_or_ge a k with h' | h'
   ·rw [hk a h'] at ha; cases ha
   ·have:=hab.lt; omega
  have hl':∀j,l[j]?=ops[k+1+j]?:=fun j=>by have:=hl (j+1); simpa [Nat.add_assoc,Nat.add_comm 1 j] using this
  have hn':k+1+l.length=ops.size:=by simp only [List.length_cons] at hn; omega
  have hlk:laF ops lst k=(lst && l.isEmpty):=by
   unfold laF
   cases l with
   | nil=>simp only [List.length_nil] at hn'; simp [show k+1=ops.size by omega]
   | cons a l=>simp only [List.length_cons] at hn'; simp [show ¬k+1=ops.size by omega]
  have hnd:laF ops lst k=true→Region.ready md ops (listed.setIfInBounds k true)=[]:=fun hlast=>by
   rw [hlk,Bool.and_eq_true] at hlast
   obtain rfl:l=[]:=by simpa using hlast.2
   simpa [Region.lexFrom] using hB'
  cases hak:as.contains k with
  | true=>
   rw [hak] at h
   simp only [if_true] at h
   have hlk':laF ops lst k=true→l=[]:=fun hh=>by
    rw [hlk,Bool.and_eq_true] at hh; simpa using hh.2
   exact Z5f (Z93 hla) hH h0 l.length listed fr L _ (Zcp hm h0 hk hf) hcl (by simpa using hr) hL (by unfold Ye; rw [hak]; exact⟨hg,by simp only [if_true]; exact⟨h.1,h.2.1,trivial,trivial,h.2.2.1⟩⟩) hnd
    (Z5J hH hm hla l (k+1) _ _ _ hl' hn' hk' hu' hB' (.inr h.2.2.1) h.2.2.2)
  | false=>
   rw [hak] at h
   simp only [Bool.false_eq_true,if_false] at h
   cases hmk:ms.contains k with
   | true=>
    rw [hmk] at h
    simp only [if_true] at h
    refine Z5f (Z93 hla) hH h0 l.length listed fr L _ (Zcp hm h0 hk hf) hcl (by simpa using hr) hL (by
      unfold Ye; rw [hmk,hlk,hak]
      refine⟨hg,?_⟩
      simp only [Bool.false_eq_true,if_false,if_true]
      exact⟨h.1,trivial,trivial,Z6R h.2.2.1,fun hs=>by have:=h.2.1; rw [hs] at this; simpa using this⟩) hnd
     (Z5J hH hm hla l (k+1) _ _ _ hl' hn' hk' hu' hB' ?_ h.2.2.2)
    cases l with
    | nil=>exact .inl rfl
    | cons a l=>exact .inr (Z6R h.2.2.1 (by simp))
   | false=>
    rw [hmk] at h
    simp only [Bool.false_eq_true,if_false] at h
    exact Z5f (Z93 hla) hH h0 l.length listed fr L L (Zcp hm h0 hk hf) hcl (by simpa using hr) hL (by
      unfold Ye; rw [hmk,hak]
      refine⟨hg,?_⟩
      simp only [Bool.false_eq_true,if_false,true_and]
      exact fun G hG=>⟨(h.1 G hG).1,(h.1 G hG).2.1,by rw [(h.1 G hG).2.2]⟩) hnd
     (Z5J hH hm hla l (k+1) _ _ _ hl' hn' hk' hu' hB' (.inr hL) h.2)
theorem ZbU{R:Option Nat}(hΓ:Z07 P Γ){B:Z9S}{H:Heap→Prop}{mk la al st:Nat→Bool}{i:Nat}{nd:Prop}{K:List AV→Heap→Prop}{K':Act→World→Prop}{Q:Exit→Act→World→Prop}(hK:∀fr L m a w,H L∨nd→K fr L→RS B fr L m a w→K' a w)
  {fr:List AV} {L:Heap} {m:Mem} {a:Act} {w:World} (hL:H L) (h:opE P Γ ops H mk la al st i nd K fr L) (hR:RS B fr L m a w):wpOpIn (Z2W R) 0 P ops Q i K' a w:=by
 unfold opE at h
 unfold wpOpIn
 split
 ·rename_i ho; rw [ho] at h; exact hK _ _ _ _ _ (.inl hL) h hR
 ·rename_i o ho
  rw [ho] at h
  obtain⟨v,L',hy,hnd,h⟩:=h
  have hL':H L'∨nd:=by
   cases hl:la i with
   | true=>exact .inr (hnd hl)
   | false=>rw [hl] at hy; exact .inl (hy.keeps hL)
  unfold Ye at hy
  obtain⟨hg,hy⟩:=hy
  have hstep:(stepA P Γ ops.toList (Z0o ops.toList fr o.guard) fr L o).pre∧L'=(stepA P Γ ops.toList (Z0o ops.toList fr o.guard) fr L o).L∧v=mkV o.guard (Z0o ops.toList fr o.guard) (stepA P Γ ops.toList (Z0o ops.toList fr o.guard) fr L o).v:=by
   cases ha:al i with
   | true=>rw [ha] at hy; simp only [if_true] at hy; exact⟨hy.2.1,hy.2.2.2.1,hy.2.2.1⟩
   | false=>
    rw [ha] at hy; simp only [Bool.false_eq_true,if_false] at hy
    cases hm:mk i with
    | true=>rw [hm] at hy; simp only [if_true] at hy; exact⟨hy.1,hy.2.2.1,hy.2.1⟩
    | false=>
     rw [hm] at hy; simp only [Bool.false_eq_true,if_false] at hy
     obtain⟨h1,h2,h3⟩:=hy.2 L hL
     exact⟨h1,by rw [h2]; exact hy.1,h3⟩
  obtain⟨hp,rfl,rfl⟩:=hstep
  have:=Z51 (P:=P) (Γ:=Γ) (R:=R) hΓ hR.wrel hR.frel ops o (next:=K') (Q:=Q) hg hp fun a' w' m' k1 k2 k3 k4=>hK _ _ _ _ _ hL' h ⟨k1,k2,hR.ext.trans k3,by rw [k4,hR.defers]⟩
  split
  ·rename_i hw; rw [if_pos hw] at this; exact this
  ·rename_i hw; rw [if_neg hw] at this; exact this
theorem Z74{R:Option Nat}(hΓ:Z07 P Γ){B:Z9S}{H:Heap→Prop}{mk la al st:Nat→Bool}{K:List AV→Heap→Prop}{Q:Exit→Act→World→Prop}(hK:∀fr L m a w,K fr L→RS B fr L m a w→Q .normal a w) :
  ∀(fuel:Nat) (listed:Array Bool) (fr:List AV) (L:Heap) (m:Mem) (a:Act) (w:World),H L∨Region.ready md ops listed=[]→Zjq P Γ md ops H mk la al st K fuel listed fr L→RS B fr L m a w→wpAnyIn (Z2W R) 0 P md ops Q fuel listed a w
 | 0,_,_,_,_,_,_,_,h,hR=>⟨h.1,hK _ _ _ _ _ h.2 hR⟩
 | fuel+1,listed,_,L,_,_,_,hL,h,hR=>by
  refine⟨fun h0=>hK _ _ _ _ _ (h.1 h0) hR,fun i hi=>?_⟩
  rcases hL with hL | hL
  ·exact ZbU hΓ (fun fr' L' m' a' w' hL' h' hR'=>Z74 hΓ hK fuel _ fr' L' m' a' w' hL' h' hR') hL (h.2 i hi) hR
  ·rw [hL] at hi; cases hi
end
theorem Holds.drawnE{X:Cx}{id:Nat}{ops:Array Oper}{k:List It}{fr:List AV}{L:Heap}(H:Heap→Prop)(ms as ss:List Nat)(lst:Bool)(hm:X.P.follows .mixedOrders=true)(hB:Region.lexB .any ops=true)(ho:Zjv ops .any ms as ss=true)(hla:Zf2 ops .any lst=true)(hH:as=[]∨∀G A,H G→H (G++A))(hL:H L)
  (h:evE X.P X.Γ ops.toList H ms as ss lst 0 ops.toList fr L (Holds X k)):Holds X (.code (.region id ops true)::k) fr L:=by
 intro m a w hR
 simp only [W]
 simp only [Region.lexB,Bool.and_eq_true] at hB
 refine wpIn_region_any hm ?_
 have hR':RS X.B fr L m a { w with drawn:=w.drawn+1 }:=hR.drew
 have:=Z5J (P:=X.P) (Γ:=X.Γ) (md:=.any) (ops:=ops) (K:=Holds X k) (fun ⟨i,hi⟩=>by rcases hH with hH | hH; subst hH; simp at hi; exact hH) ho hla ops.toList 0 (Array.replicate ops.size false) fr L (by simp) (by simp) (fun j hj=>by omega) (fun j o hj ho=>by have:=(Array.getElem?_eq_some_iff.1 ho).1; simp [this]) (by simpa using hB.2) (.inr hL) h
 have h2:=Z74 (R:=X.R) (md:=.any) (Q:=W X.P X.R X.B X.Q k) X.ok (fun fr L m a w hk hR=>hk m a w hR) _ _ fr L m a _ (.inl hL) this hR'
 simpa using h2
attribute [push_cast] evE Z7i ZiH ZeE ZeF ZeD
end Go.Eng