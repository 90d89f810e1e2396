/- The engine, part 13: regions that draw their order: one walk of the order of the text serves every order. -/
import Derived.Test.YtmomhjmaanagaaaGreatEng10
import Derived.Still
set_option linter.unusedVariables false
set_option linter.unusedSimpArgs false
namespace Go.Eng
open Go
theorem Zh3{fr:List AV}{d:Nat}{x:AV}{y:Operand}(h:y≠.tmp d):opd (fr.set d x) y=opd fr y:=by
 cases y with
 | tmp t=>
  have:d≠t:=fun e=>h (by rw [e])
  simp [opd,List.getD,List.getElem?_set_ne this]
 | _=>rfl
theorem ZeH{fr:List AV}{dst:Option Tmp}{x:AV}{y:Operand}(h:∀d,dst=some d→y≠.tmp d):opd (Z3y fr dst x) y=opd fr y:=by
 cases dst with
 | none=>rfl
 | some d=>exact Zh3 (h d rfl)
theorem Zfh{P:Program}{Γ:Env}{c:Bool}{fr fr':List AV}{L:Heap}(op:Op)(h:∀y∈op.operands,opd fr y=opd fr' y):Z1n P Γ c fr L op=Z1n P Γ c fr' L op:=by
 have harr:∀xs:Array Operand,(∀y∈xs,opd fr y=opd fr' y)→xs.toList.map (opd fr)=xs.toList.map (opd fr')∧(xs.toList.map fun x=>(opd fr x).bare)=xs.toList.map fun x=>(opd fr' x).bare:=by
  intro xs hx
  have:∀y∈xs.toList,opd fr y=opd fr' y:=fun y hy=>hx y (by simpa using hy)
  exact⟨List.map_congr_left this,List.map_congr_left fun y hy=>by rw [this y hy]⟩
 have hparts:∀ps:Array (Nat×Operand),(∀y∈ps.map (·.2),opd fr y=opd fr' y)→Z34 fr ps=Z34 fr' ps∧(ps.toList.map fun p=>opd fr p.2)=ps.toList.map fun p=>opd fr' p.2:=by
  intro ps hp
  have:∀p∈ps.toList,opd fr p.2=opd fr' p.2:=fun p hm=>hp p.2 (by
   simp only [Array.mem_map]; exact⟨p,by simpa using hm,rfl⟩)
  exact⟨List.map_congr_left fun p hm=>by rw [this p hm],List.map_congr_left this⟩
 cases op <;> simp only [Op.operands] at h <;> simp only [Z1n,ev]
 case pick q a b=>rw [h q (by simp),h a (by simp),h b (by simp)]
 case build t ps=>have h':=hparts ps fun y hy=>h y (by simpa using hy); rw [h'.1,h'.2]
 case buildSlice t n ps=>have h':=hparts ps fun y hy=>h y (by simpa using hy); rw [h'.1,h'.2]
 case makeFunc f a b=>
  obtain⟨h1,h2⟩:=harr a fun y hy=>h y (by simp [hy])
  obtain⟨h3,h4⟩:=harr b fun y hy=>h y (by simp [hy])
  rw [h1,h2,h3,h4]
 case call c=>
  obtain⟨callee,args,ts⟩:=c
  obtain⟨h1,h2⟩:=harr args fun y hy=>h y (by simp [Call.operands,hy])
  cases callee with
  | value f=>
   have hf:opd fr f=opd fr' f:=h f (by simp [Call.operands])
   simp only [Z1n,ZdI]
   rw [hf,h1,h2]
  | invoke r n=>rfl
  | builtin b=>
   simp only [Z1n,ev,Z4m]
   have:∀y∈args.toList,opd fr y=opd fr' y:=fun y hy=>h y (by simp [Call.operands] at hy ⊢; exact hy)
   revert this
   split <;> intro this
   ·rename_i x t heq _
    rw [this x (by rw [heq]; simp)]
   ·rename_i x y heq
    rw [this x (by rw [heq]; simp),this y (by rw [heq]; simp)]
   ·rename_i x y heq
    rw [this x (by rw [heq]; simp),this y (by rw [heq]; simp)]
   ·rename_i s x t tx heq _
    rw [this s (by rw [heq]; simp),this x (by rw [heq]; simp)]
   ·rename_i s x t tx heq _
    rw [this s (by rw [heq]; simp),this x (by rw [heq]; simp)]
   ·rename_i x k t ts' heq _
    rw [this x (by rw [heq]; simp),this k (by rw [heq]; simp)]
   ·rfl
 case makeMap t r=>
  have:Z9y fr r=Z9y fr' r∧Z5w c fr r=Z5w c fr' r:=by
   cases r with
   | none=>exact⟨rfl,rfl⟩
   | some y=>have:=h y (by simp); simp only [Z9y,Z5w]; rw [this]; exact⟨rfl,rfl⟩
  rw [this.1,this.2]
 case slice t x lo hi mx=>
  have hx:=h x (by simp)
  have ho:∀z:Option Operand,(∀y,z=some y→opd fr y=opd fr' y)→Z9y fr z=Z9y fr' z∧Z5w c fr z=Z5w c fr' z:=by
   intro z hz
   cases z with
   | none=>exact⟨rfl,rfl⟩
   | some y=>simp only [Z9y,Z5w]; rw [hz y rfl]; exact⟨rfl,rfl⟩
  obtain⟨a1,a2⟩:=ho lo fun y hy=>h y (by simp [hy])
  obtain⟨b1,b2⟩:=ho hi fun y hy=>h y (by simp [hy])
  obtain⟨c1,c2⟩:=ho mx fun y hy=>h y (by simp [hy])
  rw [hx,a1,a2,b1,b2,c1,c2]
 all_goals first
  | rfl
  | (simp only [List.mem_toArray,List.mem_cons,List.not_mem_nil,or_false,forall_eq_or_imp,forall_eq] at h; simp only [h])
section
variable {P:Program} {Γ:Env} {ops:Array Oper}
theorem Z9E{c:Bool}{fr:List AV}{L:Heap}{o:Oper}{dst:Option Tmp}{x:AV}(h:∀d,dst=some d→d∉o.looksAt ops):stepA P Γ ops.toList c (Z3y fr dst x) L o=stepA P Γ ops.toList c fr L o:=by
 have hop:∀y∈o.op.operands,opd (Z3y fr dst x) y=opd fr y:=fun y hy=>ZeH fun d hd hyd=>h d hd (by
  subst hyd
  exact List.mem_append_left _ (List.mem_filterMap.2 ⟨.tmp d,by simpa using hy,rfl⟩))
 rcases Z23 P Γ ops.toList o with hst | ⟨t,len,parts,ho,hst⟩
 ·rw [hst,hst]; exact Zfh o.op hop
 ·rw [hst,hst]
  rw [ho] at hop
  simp only [Op.operands] at hop
  have:∀p∈parts.toList,opd (Z3y fr dst x) p.2=opd fr p.2:=fun p hm=>hop p.2 (by
   have hm':p∈parts:=by simpa using hm
   have:p.2∈parts.map (·.2):=Array.mem_map.2 ⟨p,hm',rfl⟩
   simpa using this)
  have e1:Z34 (Z3y fr dst x) parts=Z34 fr parts:=List.map_congr_left fun p hm=>by rw [this p hm]
  have e2:(parts.toList.map fun p=>opd (Z3y fr dst x) p.2)=parts.toList.map fun p=>opd fr p.2:=List.map_congr_left this
  rw [e1,e2]
theorem Z4P{fr:List AV}{o:Oper}{dst:Option Tmp}{x:AV}(h:∀d,dst=some d→d∉o.looksAt ops) :
  Z0o ops.toList (Z3y fr dst x) o.guard=Z0o ops.toList fr o.guard∧Z2t ops.toList (Z3y fr dst x) o.guard=Z2t ops.toList fr o.guard:=by
 cases dst with
 | none=>exact⟨rfl,rfl⟩
 | some d=>
  unfold Z0o Z2t
  cases hg:o.guard with
  | none=>exact⟨rfl,rfl⟩
  | some gw=>
   obtain⟨g,want⟩:=gw
   simp only
   have e:(ops.toList[g]?).bind (·.dst)=(ops[g]?).bind (·.dst):=by simp
   rw [e]
   cases ht:(ops[g]?).bind (·.dst) with
   | none=>exact⟨rfl,rfl⟩
   | some t=>
    have hne:d≠t:=fun e=>h d rfl (by subst e; simp [Oper.looksAt,hg,ht])
    have:(Z3y fr (some d) x).getD t .any=fr.getD t .any:=by simp [Z3y,List.getD,List.getElem?_set_ne hne]
    simp only [this,and_self]
theorem Z81(fr:List AV){x y:Option Tmp}(v u:AV)(h:∀d,x=some d→y≠some d):Z3y (Z3y fr x v) y u=Z3y (Z3y fr y u) x v:=by
 cases x with
 | none=>rfl
 | some d=>
  cases y with
  | none=>rfl
  | some e=>
   have hne:d≠e:=fun he=>h d rfl (he▸rfl)
   simp only [Z3y]
   exact List.set_comm _ _ hne
def Yd(P:Program)(Γ:Env)(ops:Array Oper)(H:Heap→Prop)(mk:Bool)(o:Oper)(fr:List AV)(L:Heap)(v:AV)(L':Heap):Prop:=
 Z2t ops.toList fr o.guard∧
 if mk then (stepA P Γ ops.toList (Z0o ops.toList fr o.guard) fr L o).pre∧v=mkV o.guard (Z0o ops.toList fr o.guard) (stepA P Γ ops.toList (Z0o ops.toList fr o.guard) fr L o).v∧
   L'=(stepA P Γ ops.toList (Z0o ops.toList fr o.guard) fr L o).L∧H L'
 else L'=L∧((∀G,H G→(stepA P Γ ops.toList (Z0o ops.toList fr o.guard) fr G o).pre∧(stepA P Γ ops.toList (Z0o ops.toList fr o.guard) fr G o).L=G∧
   v=mkV o.guard (Z0o ops.toList fr o.guard) (stepA P Γ ops.toList (Z0o ops.toList fr o.guard) fr G o).v)∨(Z0o ops.toList fr o.guard=false∧v=.when false (.bool false)))
theorem Yd.swap{H:Heap→Prop}{mi mj:Bool}{oi oj:Oper}{fr:List AV}{L L1 L2:Heap}{v u:AV}(hL:H L)(hi:Yd P Γ ops H mi oi fr L v L1)(hj:Yd P Γ ops H mj oj (Z3y fr oi.dst v) L1 u L2)
  (hap:oi.apart ops oj=true) (hm:¬(mi=true∧mj=true)):∃L3,H L3∧Yd P Γ ops H mj oj fr L u L3∧Yd P Γ ops H mi oi (Z3y fr oj.dst u) L3 v L2:=by
 obtain⟨h1,h2,h3⟩:=Oper.apart_spec hap
 unfold Yd at hi hj ⊢
 have e1:∀c G,stepA P Γ ops.toList c (Z3y fr oi.dst v) G oj=stepA P Γ ops.toList c fr G oj:=fun c G=>Z9E (o:=oj) h1
 have e2:∀c G,stepA P Γ ops.toList c (Z3y fr oj.dst u) G oi=stepA P Γ ops.toList c fr G oi:=fun c G=>Z9E (o:=oi) h3
 obtain⟨g1,g2⟩:=Z4P (fr:=fr) (o:=oj) (dst:=oi.dst) (x:=v) h1
 obtain⟨g3,g4⟩:=Z4P (fr:=fr) (o:=oi) (dst:=oj.dst) (x:=u) h3
 rw [g1,g2] at hj
 simp only [e1] at hj
 obtain⟨hgi,hi⟩:=hi
 obtain⟨hgj,hj⟩:=hj
 cases mi <;> cases mj
 ·simp only [Bool.false_eq_true,if_false] at hi hj
  obtain⟨rfl,hi⟩:=hi
  obtain⟨rfl,hj⟩:=hj
  refine⟨L2,hL,?_⟩
  rw [g3,g4]
  simp only [Bool.false_eq_true,if_false,e2]
  exact⟨⟨hgj,trivial,hj⟩,hgi,trivial,hi⟩
 ·simp only [Bool.false_eq_true,if_false,if_true] at hi hj
  obtain⟨rfl,hi⟩:=hi
  refine⟨L2,hj.2.2.2,?_⟩
  rw [g3,g4]
  simp only [Bool.false_eq_true,if_false,if_true,e2]
  exact⟨⟨hgj,hj⟩,hgi,trivial,hi⟩
 ·simp only [Bool.false_eq_true,if_false,if_true] at hi hj
  obtain⟨rfl,hj⟩:=hj
  refine⟨L,hL,?_⟩
  rw [g3,g4]
  simp only [Bool.false_eq_true,if_false,if_true,e2]
  exact⟨⟨hgj,trivial,hj⟩,hgi,hi⟩
 ·exact absurd ⟨rfl,rfl⟩ hm
theorem Yd.keeps{H:Heap→Prop}{mk:Bool}{o:Oper}{fr:List AV}{L L':Heap}{v:AV}(hL:H L)(h:Yd P Γ ops H mk o fr L v L'):H L':=by
 unfold Yd at h
 cases mk
 ·simp only [Bool.false_eq_true,if_false] at h; rw [h.2.1]; exact hL
 ·simp only [if_true] at h; exact h.2.2.2.2
def opD(P:Program)(Γ:Env)(ops:Array Oper)(H:Heap→Prop)(mk:Nat→Bool)(i:Nat)(K:List AV→Heap→Prop)(fr:List AV)(L:Heap):Prop:=
 match ops[i]? with
 | none=>K fr L
 | some o=>∃v L',Yd P Γ ops H (mk i) o fr L v L'∧K (Z3y fr o.dst v) L'
def Zjr(P:Program)(Γ:Env)(md:Region.Mode)(ops:Array Oper)(H:Heap→Prop)(mk:Nat→Bool)(K:List AV→Heap→Prop):Nat→Array Bool→List AV→Heap→Prop
 | 0,listed,fr,L=>Region.ready md ops listed=[]∧K fr L
 | fuel+1,listed,fr,L=>(Region.ready md ops listed=[]→K fr L)∧
  ∀i∈Region.ready md ops listed,opD P Γ ops H mk i (Zjr P Γ md ops H mk K fuel (listed.setIfInBounds i true)) fr L
variable {md:Region.Mode}
def twB(ops:Array Oper)(md:Region.Mode)(ms:List Nat)(i:Nat):Nat→Nat→Bool
 | 0,_=>false
 | n+1,j=>match ops[j]? with
  | some o=>o.after.any fun e=>Region.binds md e && decide (e.on<j) && (e.on == i || twB ops md ms i n e.on)
  | none=>false
def TW(ops:Array Oper)(md:Region.Mode)(i j:Nat):Prop:=∃ms n,twB ops md ms i n j=true
theorem TW.step{ops:Array Oper}{md:Region.Mode}{i j:Nat}(h:TW ops md i j):∃o e,ops[j]?=some o∧e∈o.after∧Region.binds md e=true∧e.on<j∧(e.on=i∨TW ops md i e.on):=by
 obtain⟨ms,n,h⟩:=h
 cases n with
 | zero=>simp [twB] at h
 | succ n=>
  simp only [twB] at h
  split at h
  ·rename_i o ho
   obtain⟨e,he,hb⟩:=Array.any_eq_true'.1 h
   simp only [Bool.and_eq_true,Bool.or_eq_true,beq_iff_eq,decide_eq_true_eq] at hb
   obtain⟨⟨h1,h2⟩,h3⟩:=hb
   refine⟨o,e,ho,he,h1,h2,?_⟩
   rcases h3 with h3 | h3
   ·exact .inl h3
   ·exact .inr ⟨ms,n,h3⟩
  ·cases h
theorem TW.lt{ops:Array Oper}{md:Region.Mode}{i:Nat}:∀{j:Nat},TW ops md i j→i<j:=by
 intro j
 induction j using Nat.strongRecOn with
 | _ j ih=>
  intro h
  obtain⟨o,e,_,_,_,h1,h2⟩:=h.step
  rcases h2 with h2 | h2
  ·omega
  ·have:=ih e.on h1 h2; omega
def ZhB(ops:Array Oper)(md:Region.Mode)(mk:Nat→Bool)(listed:Array Bool)(i:Nat)(oi:Oper):Prop:=
 ∀j oj,ops[j]?=some oj→j≠i→listed.getD j true=false→(∀e∈oj.after,Region.binds md e=true→e.on≠i)→oi.apart ops oj=true∧(TW ops md i j∨¬(mk i=true∧mk j=true))
theorem Z76{H:Heap→Prop}{mk:Nat→Bool}{K:List AV→Heap→Prop}{i:Nat}{oi:Oper}{v:AV}(hi:ops[i]?=some oi) :
  ∀(fuel:Nat) (listed:Array Bool) (fr:List AV) (L L1:Heap),ZhB ops md mk listed i oi→(∀j,TW ops md i j→listed.getD j true=false)→i∈Region.ready md ops listed→H L→Yd P Γ ops H (mk i) oi fr L v L1→
   Zjr P Γ md ops H mk K fuel (listed.setIfInBounds i true) (Z3y fr oi.dst v) L1→Zjr P Γ md ops H mk K (fuel+1) listed fr L:=by
 intro fuel
 induction fuel with
 | zero=>
  intro listed fr L L1 _ _ hr hL hy hH
  refine⟨fun h=>(by rw [h] at hr; cases hr),fun j hj=>?_⟩
  by_cases hji:j=i
  ·subst hji; unfold opD; rw [hi]; exact⟨v,L1,hy,hH⟩
  ·have:=ready_mono hj hji
   rw [hH.1] at this
   cases this
 | succ fuel ih=>
  intro listed fr L L1 hfree htw hr hL hy hH
  refine⟨fun h=>(by rw [h] at hr; cases hr),fun j hj=>?_⟩
  by_cases hji:j=i
  ·subst hji; unfold opD; rw [hi]; exact⟨v,L1,hy,hH⟩
  ·have h1:=hH.2 j (ready_mono hj hji)
   obtain⟨hjun,oj,hoj,hall⟩:=mem_ready.1 hj
   have hnot:∀e∈oj.after,Region.binds md e=true→e.on≠i:=fun e he hb heq=>by
    have h1:=hall e he hb
    have h0:=(mem_ready.1 hr).1
    rw [heq] at h1
    rcases Nat.lt_or_ge i listed.size with h' | h'
    ·simp [h'] at h0 h1; rw [h0] at h1; cases h1
    ·simp [Array.getElem?_eq_none h'] at h1
   obtain⟨hap,hmm⟩:=hfree j oj hoj hji hjun hnot
   have hntw:¬TW ops md i j:=by
    intro ht
    obtain⟨o',e,ho',he,hb,_,h3⟩:=ht.step
    rw [hoj] at ho'
    obtain rfl:=Option.some.inj ho'
    rcases h3 with h3 | h3
    ·exact hnot e he hb h3
    ·have h4:=htw _ h3
     have h5:=hall e he hb
     rcases Nat.lt_or_ge e.on listed.size with h' | h'
     ·simp [h'] at h4 h5; rw [h4] at h5; cases h5
     ·simp [Array.getElem?_eq_none h'] at h5
   have hmm:¬(mk i=true∧mk j=true):=hmm.resolve_left hntw
   have htw':∀k,TW ops md i k→(listed.setIfInBounds j true).getD k true=false:=fun k hk=>by
    have hjk:j≠k:=fun e=>hntw (e▸hk)
    rw [getD_set_ne true hjk]; exact htw k hk
   unfold opD at h1 ⊢
   rw [hoj] at h1 ⊢
   obtain⟨u,L2,hyj,h2⟩:=h1
   obtain⟨L3,hL3,k1,k2⟩:=hy.swap hL hyj hap hmm
   refine⟨u,L3,k1,?_⟩
   have hfree':ZhB ops md mk (listed.setIfInBounds j true) i oi:=fun k ok hk hki hun hno=>by
    refine hfree k ok hk hki ?_ hno
    by_cases hjk:j=k
    ·subst hjk; exact hjun
    ·rw [getD_set_ne true hjk] at hun; exact hun
   refine ih (listed.setIfInBounds j true) _ _ _ hfree' htw' (ready_mono hr (Ne.symm hji)) hL3 k2 ?_
   rw [Array.setIfInBounds_comm _ _ hji,←Z81 fr v u (Oper.apart_spec hap).2.1]
   exact h2
def Zjw(ops:Array Oper)(md:Region.Mode)(ms:List Nat):Bool:=ms.all fun i=>ms.all fun j=>decide (j≤i) || twB ops md ms i 5 j
theorem Zg1{ms:List Nat}(hm:Zjw ops md ms=true){i:Nat}{oi:Oper}{listed:Array Bool}(hi:ops[i]?=some oi)(hl:∀j,j<i→listed.getD j true=true)(h:Region.free md ops listed i=true) :
  ZhB ops md (ms.contains ·) listed i oi:=by
 intro j oj hj hji hun hno
 refine⟨Region.free_spec hi h j oj hj hji hun hno,?_⟩
 by_cases hb:ms.contains i=true∧ms.contains j=true
 ·left
  obtain⟨h1,h2⟩:=hb
  simp only [List.contains_iff_mem] at h1 h2
  simp only [Zjw,List.all_eq_true,Bool.or_eq_true,decide_eq_true_eq] at hm
  rcases hm i h1 j h2 with h3 | h3
  ·have:=hl j (by omega); rw [this] at hun; cases hun
  ·exact⟨ms,5,h3⟩
 ·exact .inr hb
def qob(H:Heap→Prop)(f:Heap→Prop):Prop:=∀G,H G→f G
def ZjB(L:Heap):Heap→Prop:=fun G=>G=L
def Zg3(L:Heap):Heap→Prop:=fun G=>∃A,G=L++A
theorem ZbK(L:Heap)(f:Heap→Prop):qob (ZjB L) f=f L:=by simp [qob,ZjB]
theorem ZgW(L:Heap)(f:Heap→Prop):qob (Zg3 L) f=∀A,f (L++A):=propext ⟨fun h A=>h _ ⟨A,rfl⟩,fun h G ⟨A,hA⟩=>hA▸h A⟩
def evD(P:Program)(Γ:Env)(all:List Oper)(H:Heap→Prop)(ms:List Nat):Nat→List Oper→List AV→Heap→(List AV→Heap→Prop)→Prop
 | _,[],fr,L,K=>K fr L
 | k,o::r,fr,L,K=>
  Z2t all fr o.guard∧
  if ms.contains k then (stepA P Γ all (Z0o all fr o.guard) fr L o).pre∧H (stepA P Γ all (Z0o all fr o.guard) fr L o).L∧
   evD P Γ all H ms (k+1) r (Z3y fr o.dst (mkV o.guard (Z0o all fr o.guard) (stepA P Γ all (Z0o all fr o.guard) fr L o).v)) (stepA P Γ all (Z0o all fr o.guard) fr L o).L K
  else qob H (fun G=>(stepA P Γ all (Z0o all fr o.guard) fr G o).pre∧(stepA P Γ all (Z0o all fr o.guard) fr G o).L=G∧(stepA P Γ all (Z0o all fr o.guard) fr G o).v=(stepA P Γ all (Z0o all fr o.guard) fr L o).v)∧
   evD P Γ all H ms (k+1) r (Z3y fr o.dst (mkV o.guard (Z0o all fr o.guard) (stepA P Γ all (Z0o all fr o.guard) fr L o).v)) L K
theorem Z7K{H:Heap→Prop}{ms:List Nat}{K:List AV→Heap→Prop}(hm:Zjw ops md ms=true):∀(l:List Oper) (k:Nat) (listed:Array Bool) (fr:List AV) (L:Heap),(∀j,l[j]?=ops[k+j]?)→(∀j,j<k→listed.getD j true=true)→(∀j o,k≤j→ops[j]?=some o→listed.getD j true=false)→
  Region.lexFrom md ops l.length k listed=true→H L→evD P Γ ops.toList H ms k l fr L K→Zjr P Γ md ops H (ms.contains ·) K l.length listed fr L
 | [],_,_,_,_,_,_,_,hB,_,h=>⟨by simpa [Region.lexFrom] using hB,h⟩
 | o::l,k,listed,fr,L,hl,hk,hu,hB,hL,h=>by
  have h0:ops[k]?=some o:=by simpa using (hl 0).symm
  simp only [List.length_cons,Region.lexFrom,Bool.and_eq_true] at hB
  obtain⟨⟨hr,hf⟩,hB'⟩:=hB
  obtain⟨hg,h⟩:=h
  have hk':∀j,j<k+1→(listed.setIfInBounds k true).getD j true=true:=fun j hj=>by
   by_cases hjk:k=j
   ·subst hjk
    rcases Nat.lt_or_ge k listed.size with h' | h'
    ·simp [h']
    ·simp [Array.getElem?_eq_none h']
   ·rw [getD_set_ne true hjk]; exact hk j (by omega)
  have hu':∀j o,k+1≤j→ops[j]?=some o→(listed.setIfInBounds k true).getD j true=false:=fun j o' hj ho=>by
   rw [getD_set_ne true (show k≠j by omega)]; exact hu j o' (by omega) ho
  have htw:∀j,TW ops md k j→listed.getD j true=false:=fun j hj=>by
   obtain⟨o',e,ho',_⟩:=hj.step
   exact hu j o' (Nat.le_of_lt hj.lt) ho'
  have hl':∀j,l[j]?=ops[k+1+j]?:=fun j=>by have:=hl (j+1); simpa [Nat.add_assoc,Nat.add_comm 1 j] using this
  cases hmk:ms.contains k with
  | true=>
   rw [hmk] at h
   simp only [if_true] at h
   exact Z76 h0 l.length listed fr L _ (Zg1 hm h0 hk hf) htw (by simpa using hr) hL (by unfold Yd; rw [hmk]; exact⟨hg,by simp only [if_true]; exact⟨h.1,trivial,trivial,h.2.1⟩⟩)
    (Z7K hm l (k+1) _ _ _ hl' hk' hu' hB' h.2.1 h.2.2)
  | false=>
   rw [hmk] at h
   simp only [Bool.false_eq_true,if_false] at h
   exact Z76 h0 l.length listed fr L L (Zg1 hm h0 hk hf) htw (by simpa using hr) hL (by
     unfold Yd; rw [hmk]
     refine⟨hg,?_⟩
     simp only [Bool.false_eq_true,if_false,true_and]
     exact .inl fun G hG=>⟨(h.1 G hG).1,(h.1 G hG).2.1,by rw [(h.1 G hG).2.2]⟩)
    (Z7K hm l (k+1) _ _ _ hl' hk' hu' hB' hL h.2)
theorem ZbV{R:Option Nat}(hΓ:Z07 P Γ){B:Z9S}{H:Heap→Prop}{mk:Nat→Bool}{i:Nat}{K:List AV→Heap→Prop}{K':Act→World→Prop}{Q:Exit→Act→World→Prop}(hK:∀fr L m a w,H L→K fr L→RS B fr L m a w→K' a w)
  {fr:List AV} {L:Heap} {m:Mem} {a:Act} {w:World} (hL:H L) (h:opD P Γ ops H mk i K fr L) (hR:RS B fr L m a w):wpOpIn (Z2W R) 0 P ops Q i K' a w:=by
 unfold opD at h
 unfold wpOpIn
 split
 ·rename_i ho; rw [ho] at h; exact hK _ _ _ _ _ hL h hR
 ·rename_i o ho
  rw [ho] at h
  obtain⟨v,L',hy,h⟩:=h
  have hL':=hy.keeps hL
  unfold Yd at hy
  obtain⟨hg,hy⟩:=hy
  have hstep:((stepA P Γ ops.toList (Z0o ops.toList fr o.guard) fr L o).pre∧L'=(stepA P Γ ops.toList (Z0o ops.toList fr o.guard) fr L o).L∧v=mkV o.guard (Z0o ops.toList fr o.guard) (stepA P Γ ops.toList (Z0o ops.toList fr o.guard) fr L o).v)∨
    (Z0o ops.toList fr o.guard=false∧L'=L∧v=.when false (.bool false)):=by
   cases hm:mk i with
   | true=>rw [hm] at hy; simp only [if_true] at hy; exact .inl ⟨hy.1,hy.2.2.1,hy.2.1⟩
   | false=>
    rw [hm] at hy; simp only [Bool.false_eq_true,if_false] at hy
    obtain⟨hy0,hy | hy⟩:=hy
    ·obtain⟨h1,h2,h3⟩:=hy L hL
     exact .inl ⟨h1,by rw [h2]; exact hy0,h3⟩
    ·exact .inr ⟨hy.1,hy0,hy.2⟩
  rcases hstep with hstep | ⟨hgf,rfl,rfl⟩
  case inr=>
   rw [Z5q hR.frel ops o hg,hgf]
   simp only [Bool.false_eq_true,if_false]
   refine⟨fun _ _=>trivial,hK _ _ m _ _ hL' h ⟨hR.wrel,Z42 hR.frel o.dst (x:=.when false (.bool false)) (by simp [Z05]),hR.ext,?_⟩⟩
   cases o.dst <;> exact hR.defers
  obtain⟨hp,rfl,rfl⟩:=hstep
  have:=Z51 (P:=P) (Γ:=Γ) (R:=R) hΓ hR.wrel hR.frel ops o (next:=K') (Q:=Q) hg hp fun a' w' m' k1 k2 k3 k4=>hK _ _ _ _ _ hL' h ⟨k1,k2,hR.ext.trans k3,by rw [k4,hR.defers]⟩
  split
  ·rename_i hw; rw [if_pos hw] at this; exact this
  ·rename_i hw; rw [if_neg hw] at this; exact this
theorem Z75{R:Option Nat}(hΓ:Z07 P Γ){B:Z9S}{H:Heap→Prop}{mk:Nat→Bool}{K:List AV→Heap→Prop}{Q:Exit→Act→World→Prop}(hK:∀fr L m a w,K fr L→RS B fr L m a w→Q .normal a w) :
  ∀(fuel:Nat) (listed:Array Bool) (fr:List AV) (L:Heap) (m:Mem) (a:Act) (w:World),H L→Zjr P Γ md ops H mk K fuel listed fr L→RS B fr L m a w→wpAnyIn (Z2W R) 0 P md ops Q fuel listed a w
 | 0,_,_,_,_,_,_,_,h,hR=>⟨h.1,hK _ _ _ _ _ h.2 hR⟩
 | fuel+1,_,_,_,_,_,_,hL,h,hR=>⟨fun h0=>hK _ _ _ _ _ (h.1 h0) hR,fun i hi=>ZbV hΓ (fun fr' L' m' a' w' hL' h' hR'=>Z75 hΓ hK fuel _ fr' L' m' a' w' hL' h' hR') hL (h.2 i hi) hR⟩
end
theorem RS.drew{B:Z9S}{fr:List AV}{L:Heap}{m:Mem}{a:Act}{w:World}(h:RS B fr L m a w):RS B fr L m a { w with drawn:=w.drawn+1 } where
 wrel:=⟨h.wrel.glob,h.wrel.pobjs,h.wrel.rows,h.wrel.nils,h.wrel.iters,h.wrel.inj,h.wrel.freeo,h.wrel.hid.keep (fun _ _ _ _ h=>⟨h,rfl,rfl⟩) (fun _ _ _ _ _ _=>rfl) (fun _ _ _=>rfl) (fun _ _ k=>h.wrel.hid.free _ _ k) (fun _ _ k j hj=>h.wrel.hid.own _ _ k j hj)⟩
 frel:=h.frel
 ext:=⟨h.ext.frame,h.ext.size,h.ext.newobj,h.ext.blks,h.ext.len,h.ext.mono,h.ext.same,h.ext.hnew⟩
 defers:=h.defers
theorem Holds.drawn{X:Cx}{id:Nat}{ops:Array Oper}{k:List It}{fr:List AV}{L:Heap}(H:Heap→Prop)(ms:List Nat)(hm:X.P.follows .mixedOrders=true)(hB:Region.lexB .any ops=true)(ho:Zjw ops .any ms=true)(hL:H L)
  (h:evD X.P X.Γ ops.toList H ms 0 ops.toList fr L (Holds X k)):Holds X (.code (.region id ops true)::k) fr L:=by
 intro m a w hR
 simp only [W]
 simp only [Region.lexB,Bool.and_eq_true] at hB
 refine wpIn_region_any hm ?_
 have hR':RS X.B fr L m a { w with drawn:=w.drawn+1 }:=hR.drew
 have:=Z7K (P:=X.P) (Γ:=X.Γ) (md:=.any) (ops:=ops) (K:=Holds X k) ho ops.toList 0 (Array.replicate ops.size false) fr L (by simp) (fun j hj=>by omega) (fun j o hj ho=>by have:=(Array.getElem?_eq_some_iff.1 ho).1; simp [this]) (by simpa using hB.2) hL h
 have h2:=Z75 (R:=X.R) (md:=.any) (Q:=W X.P X.R X.B X.Q k) X.ok (fun fr L m a w hk hR=>hk m a w hR) _ _ fr L m a _ hL this hR'
 simpa using h2
def evQ(P:Program)(Γ:Env)(all:List Oper):List Oper→List AV→Heap→(List AV→Heap→Prop)→Prop
 | [],fr,L,K=>K fr L
 | o::r,fr,L,K=>
  Z2t all fr o.guard∧(stepA P Γ all (Z0o all fr o.guard) fr L o).pre∧(stepA P Γ all (Z0o all fr o.guard) fr L o).L=L∧
   evQ P Γ all r (Z3y fr o.dst (mkV o.guard (Z0o all fr o.guard) (stepA P Γ all (Z0o all fr o.guard) fr L o).v)) L K
theorem Z70{P:Program}{Γ:Env}{all:List Oper}{L:Heap}{K:List AV→Heap→Prop}:∀(l:List Oper) (k:Nat) (fr:List AV),evQ P Γ all l fr L K→evD P Γ all (ZjB L) [] k l fr L K
 | [],_,_,h=>h
 | o::r,k,fr,h=>by
  obtain⟨h1,h2,h3,h4⟩:=h
  refine⟨h1,?_⟩
  simp only [List.contains_nil,Bool.false_eq_true,if_false]
  rw [ZbK]
  exact⟨⟨h2,h3,rfl⟩,Z70 r (k+1) _ h4⟩
theorem Holds.drawnQ{X:Cx}{id:Nat}{ops:Array Oper}{k:List It}{fr:List AV}{L:Heap}(hm:X.P.follows .mixedOrders=true)(hB:Region.lexB .any ops=true)(h:evQ X.P X.Γ ops.toList ops.toList fr L (ex X 400 k)) :
  Holds X (.code (.region id ops true)::k) fr L:=by
 refine Holds.drawn (ZjB L) [] hm hB rfl rfl (Z70 _ _ _ ?_)
 have mono:∀(l:List Oper) (fr:List AV) (L:Heap),evQ X.P X.Γ ops.toList l fr L (ex X 400 k)→evQ X.P X.Γ ops.toList l fr L (Holds X k):=by
  intro l
  induction l with
  | nil=>intro fr L h; exact holds_of_ex X 400 k fr L h
  | cons o r ih=>intro fr L h; exact⟨h.1,h.2.1,h.2.2.1,ih _ _ h.2.2.2⟩
 exact mono _ _ _ h
end Go.Eng