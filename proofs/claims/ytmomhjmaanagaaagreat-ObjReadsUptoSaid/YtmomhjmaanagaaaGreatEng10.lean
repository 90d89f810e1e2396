/- The engine, part 10: guards, calls by contract, regions, code, loops, a function's contract. -/
import Derived.Test.YtmomhjmaanagaaaGreatEng9F
import Derived.TacticsIn
import Derived.OrdersIn
import Derived.RangeFuncFrom
import Derived.RangeFuncLeaves
set_option linter.unusedVariables false
set_option linter.unusedSimpArgs false
namespace Go.Eng
open Go
structure Z0n where
 pre:List AV→Heap→Prop
 res:List AV→Heap→AV
 post:List AV→Heap→Heap
 quiet:Bool
structure Con(P:Program)(f:FuncId)(sp:Z0n):Prop where
 quiet:sp.quiet=true→∀xs L,sp.post xs L=L
 runs:((∃fn,P.funcs[f]?=some fn∧fn.body.isNone=false∧(fn.name == "runtime.NumGoroutine")=false)∧
   ∀(m:Mem) (L:Heap) (w:World) (xs:List AV) (vs:List Value),Z0O m L w→Z0e m L xs vs→sp.pre xs L→
    Calls P f vs.toArray w fun e w'=>∃v m',e=.returned v∧Z05 m' (sp.post xs L) (sp.res xs L) v∧Z0O m' (sp.post xs L) w'∧Ext m L w m' (sp.post xs L) w')∨
  ∀(m:Mem) (L:Heap) (w:World) (xs:List AV) (vs:List Value),Z0O m L w→Z0e m L xs vs→sp.pre xs L→
   ∃v,(callFunc f vs.toArray).run P w=.ok (.value v) w∧Z05 m L (sp.res xs L) v∧sp.post xs L=L
abbrev Env:=FuncId→Option Z0n
def Z07(P:Program)(Γ:Env):Prop:=∀f sp,Γ f=some sp→Con P f sp
def Z0o(all:List Oper)(fr:List AV):Option (Nat×Bool)→Bool
 | none=>true
 | some (j,want)=>match (all[j]?).bind (·.dst) with
  | some d=>match fr.getD d .any with
   | .bool b=>b == want
   | .when c (.bool b)=>c && (b == want)
   | _=>false
  | none=>false
def Z2t(all:List Oper)(fr:List AV):Option (Nat×Bool)→Prop
 | none=>True
 | some (j,_)=>match (all[j]?).bind (·.dst) with
  | some d=>match fr.getD d .any with
   | .bool _=>True
   | .when _ (.bool _)=>True
   | _=>False
  | none=>False
def ZdI(Γ:Env)(c:Bool)(fr:List AV)(L:Heap)(f:Operand)(args:List Operand):Rz:=
 match (opd fr f).bare with
 | .fn (.func g) first captured=>match Γ g with
  | some sp=>⟨need c (opd fr f)∧Z2T c (args.map (opd fr))∧(c=true→sp.pre (first++args.map (fun x=>(opd fr x).bare)++captured) L),
    sp.res (first++args.map (fun x=>(opd fr x).bare)++captured) L,cond c (sp.post (first++args.map (fun x=>(opd fr x).bare)++captured) L) L⟩
  | none=>bad L
 | _=>bad L
noncomputable def Z1n(P:Program)(Γ:Env)(c:Bool)(fr:List AV)(L:Heap):Op→Rz
 | .call { callee:=.value f,args:=args,argTypes:=_ }=>ZdI Γ c fr L f args.toList
 | op=>ev P c fr L op
noncomputable def stepA(P:Program)(Γ:Env)(all:List Oper)(c:Bool)(fr:List AV)(L:Heap)(o:Oper):Rz:=
 match Zhf all o,o.op with
 | true,.buildSlice t len parts=>(Z3E P c L t len (Z34 fr parts)).also (Z2T c (parts.toList.map fun p=>opd fr p.2))
 | _,op=>Z1n P Γ c fr L op
theorem Z23(P:Program)(Γ:Env)(all:List Oper)(o:Oper):(∀c fr L,stepA P Γ all c fr L o=Z1n P Γ c fr L o.op)∨
  ∃t len parts,o.op=.buildSlice t len parts∧∀c fr L,stepA P Γ all c fr L o=(Z3E P c L t len (Z34 fr parts)).also (Z2T c (parts.toList.map fun p=>opd fr p.2)):=by
 obtain⟨dst,op,ty,pos,after,guard⟩:=o
 cases hl:Zhf all ⟨dst,op,ty,pos,after,guard⟩ with
 | false=>left; intro c fr L; simp only [stepA,hl]
 | true=>
  cases op <;> first
   | (left; intro c fr L; simp only [stepA,hl]; done)
   | (right; exact⟨_,_,_,rfl,fun c fr L=>by simp only [stepA,hl]⟩)
def mkV:Option (Nat×Bool)→Bool→AV→AV
 | none,_,v=>v
 | some _,c,v=>.when c v
def Z3y(fr:List AV):Option Tmp→AV→List AV
 | none,_=>fr
 | some d,v=>fr.set d v
def Zfi(P:Program)(Γ:Env)(all:List Oper):List Oper→List AV→Heap→(List AV→Heap→Prop)→Prop
 | [],fr,L,K=>K fr L
 | o::r,fr,L,K=>
  Z2t all fr o.guard∧(stepA P Γ all (Z0o all fr o.guard) fr L o).pre∧
   Zfi P Γ all r (Z3y fr o.dst (mkV o.guard (Z0o all fr o.guard) (stepA P Γ all (Z0o all fr o.guard) fr L o).v)) (stepA P Γ all (Z0o all fr o.guard) fr L o).L K
section
variable {P:Program} {Γ:Env} {m:Mem} {L:Heap} {w:World}
theorem Z5q{fr:List AV}{a:Act}(h:Z0e m L fr a.tmps.toList)(ops:Array Oper)(o:Oper)(hg:Z2t ops.toList fr o.guard) :
  Region.wanted o (yielded ops a.tmps)=Z0o ops.toList fr o.guard:=by
 unfold Region.wanted Z0o
 cases hgd:o.guard with
 | none=>rfl
 | some q=>
  obtain⟨j,want⟩:=q
  rw [hgd] at hg
  simp only [Z2t] at hg
  have e:(ops.toList[j]?).bind (·.dst)=(ops[j]?).bind (·.dst):=by simp
  simp only [yielded]
  rw [e] at hg ⊢
  cases hd:(ops[j]?).bind (·.dst) with
  | none=>rw [hd] at hg; exact hg.elim
  | some d=>
   rw [hd] at hg
   simp only at hg ⊢
   have hr:=h.getD d
   have hlen:=h.length
   have hdlt:d<fr.length:=by
    rcases Nat.lt_or_ge d fr.length with h' | h'
    ·exact h'
    ·simp [List.getD,List.getElem?_eq_none h'] at hg
   have hget:a.tmps[d]?=some (a.tmps.toList.getD d undef):=by
    have h2:d<a.tmps.size:=by rw [←Array.length_toList,hlen]; exact hdlt
    simp [List.getD,h2]
   simp only [Option.bind_some,hget]
   split at hg
   ·rename_i b hb
    rw [hb] at hr
    simp only [Z05] at hr
    rw [hr]
    simp
   ·rename_i c b hb
    rw [hb] at hr
    simp only [Z05] at hr
    cases c with
    | true=>
     rw [hr.1 rfl]
     simp
    | false=>
     rw [hr.2 rfl]
     simp [undef]
   ·exact hg.elim
theorem Z8M(hΓ:Z07 P Γ)(fr:List AV)(op:Op)(hp:(Z1n P Γ false fr L op).pre):(Z1n P Γ false fr L op).L=L:=by
 have hb:∀L:Heap,(bad L).L=L:=fun _=>rfl
 cases op <;> try (first | rfl | exact hp.elim)
 case pick q x y=>simp only [Z1n,ev,ZbP]; split <;> rfl
 case binOp op t x y yt=>
  simp only [Z1n,ev,Rz.also,ZhZ]
  split
  ·cases op <;> rfl
  ·cases op <;> rfl
  ·split <;> rfl
  ·split
   ·simp only [Z8o]; repeat' split
    all_goals rfl
   ·simp only [Z8o]; repeat' split
    all_goals rfl
   ·rfl
  ·split
   ·simp only [ZfX]; split <;> rfl
   ·simp only [ZfX]; split <;> rfl
   ·rfl
  ·rfl
 case unOp op t x=>simp only [Z1n,ev,Rz.also,unR]; split <;> rfl
 case convert s d x=>
  simp only [Z1n,ev,Rz.also,ZdD] at *
  split
  ·split <;> rfl
  ·rename_i l heq
   rw [heq] at hp
   simp only at hp
   split <;> rename_i hd <;> simp only [hd] at hp ⊢ <;> simp at hp
  all_goals first | rfl | (split <;> rfl)
 case index t x i=>
  simp only [Z1n,ev,Rz.also,Z6W]
  split
  ·rfl
  ·split <;> rfl
  ·rfl
 case indexAddr t x i=>simp only [Z1n,ev,Rz.also,Z2K]; split <;> first | rfl | (split <;> rfl)
 case load t x=>simp only [Z1n,ev,Rz.also,Z8c]; split <;> rfl
 case store t x y=>simp only [Z1n,ev,Rz.also,Z9p] at *; split at hp <;> simp_all
 case alloc t=>simp only [Z1n,ev,Z6l] at hp; split at hp <;> simp at hp
 case box t x=>simp [Z1n,ev,Rz.also,ZjC] at hp
 case build t parts=>
  simp only [Z1n,ev,Rz.also,Z8t]
  split
  ·split <;> rfl
  ·split <;> rfl
  ·rfl
 case buildSlice t len parts=>
  simp only [Z1n,ev,Rz.also,Z2Z] at *
  split at hp
  ·split at hp <;> simp_all
  ·simp_all
 case field t x f=>
  simp only [Z1n,ev,Rz.also,Z6Z]
  split
  ·split <;> rfl
  ·rfl
 case fieldAddr t x f=>
  simp only [Z1n,ev,Rz.also,Z2L]
  split
  ·split
   ·split <;> rfl
   ·rfl
  ·rfl
 case extract x i=>simp only [Z1n,ev,Rz.also,Z4k]; split <;> rfl
 case slice t x lo hi mx=>
  simp only [Z1n,ev,Rz.also,Z6H]
  split
  ·split <;> rfl
  ·split <;> rfl
  ·repeat' split
   all_goals rfl
  ·split <;> rfl
  ·rfl
 case sliceToArrayPointer t x=>simp only [Z1n,ev,Rz.also,Z5d]; split <;> rfl
 case makeMap t r=>
  simp only [Z1n,ev,Rz.also,Z4M] at *
  repeat' split at hp
  all_goals simp_all
 case insert t x k v=>
  simp only [Z1n,ev,Rz.also,Z3a] at *
  repeat' split at hp
  all_goals simp_all
 case mapUpdate t x k v=>
  simp only [Z1n,ev,Rz.also,Z3a] at *
  repeat' split at hp
  all_goals simp_all
 case lookup t x k ok=>
  simp only [Z1n,ev,Rz.also,Zar]
  repeat' split
  all_goals rfl
 case range t x=>simp only [Z1n,ev,Rz.also,Z7Z] at *; split at hp <;> simp_all
 case next x b=>
  simp only [Z1n,ev,Rz.also,nextR] at *
  split at hp
  ·split at hp <;> simp_all
  ·simp_all
 case nilCheck x=>simp only [Z1n,ev,Rz.also,Z3r]; split <;> rfl
 case makeSlice t l k=>simp only [Z1n,ev,Rz.also,Z3s] at *; split at hp <;> simp_all
 case call c=>
  obtain⟨callee,args,ts⟩:=c
  cases callee with
  | value f=>
   simp only [Z1n,ZdI] at *
   split at hp
   ·rename_i g a b hf
    split at hp
    ·rename_i sp hsp
     simp only [hf,hsp]
     rfl
    ·exact hp.elim
   ·exact hp.elim
  | invoke r n=>exact hp.elim
  | builtin b=>
   simp only [Z1n,ev,Z4m] at *
   split at hp
   ·simp only [Rz.also,ZhX]; repeat' split
    all_goals rfl
   ·simp only [Rz.also,ZdV]; split <;> rfl
   ·simp only [Rz.also,ZdV]; split <;> rfl
   ·simp only [Rz.also,Zjp] at *
    split at hp
    ·simp only [Z7M] at *
     split at hp <;> simp_all
    ·simp only [Z5e] at *
     split at hp
     ·split at hp <;> simp_all
     ·simp_all
   ·simp only [Rz.also,ZdB] at *
    split at hp <;> simp_all
   ·simp only [Rz.also,Z64] at *
    split at hp
    ·split at hp <;> simp_all
    ·simp_all
   ·exact hp.elim
theorem Z42{fr:List AV}{a:Act}(h:Z0e m L fr a.tmps.toList)(dst:Option Tmp){x:AV}{v:Value}(hr:Z05 m L x v):Z0e m L (Z3y fr dst x) (a.put dst v).tmps.toList:=by
 cases dst with
 | none=>exact h
 | some d=>
  simp only [Z3y,Act.put,Array.toList_setIfInBounds]
  exact h.set d hr
theorem Z8N(hΓ:Z07 P Γ)(all:List Oper)(fr:List AV)(o:Oper)(hp:(stepA P Γ all false fr L o).pre):(stepA P Γ all false fr L o).L=L:=by
 rcases Z23 P Γ all o with hst | ⟨t,len,parts,hop,hst⟩
 ·rw [hst] at hp ⊢; exact Z8M hΓ fr o.op hp
 ·rw [hst]
  simp only [Rz.also,Z3E]
  split
  ·split <;> rfl
  ·rfl
def Z2W(R:Option Nat):Fence:={ Fence.wide with round:=R }
theorem ZhM{R:Option Nat}{n:Nat}{f:FuncId}{args:Array Value}{w:World}{E:Ending→World→Prop}(h:Calls P f args w E):CallsIn (Z2W R) n P f args w E:=(callsIn_wide (n:=n)).2 h
theorem Z8O(all:List Oper)(c:Bool)(fr:List AV)(o:Oper){q:Call}(ho:o.op=.defer q)(hp:(stepA P Γ all c fr L o).pre):False:=by
 rcases Z23 P Γ all o with hst | ⟨t,len,parts,hop,hst⟩
 ·rw [hst,ho] at hp; exact hp
 ·rw [hop] at ho; cases ho
theorem Z51{R:Option Nat}(hΓ:Z07 P Γ)(hW:Z0O m L w){fr:List AV}{a:Act}(h:Z0e m L fr a.tmps.toList)(ops:Array Oper)(o:Oper){next:Act→World→Prop}{Q:Exit→Act→World→Prop}
  (hg:Z2t ops.toList fr o.guard) (hp:(stepA P Γ ops.toList (Z0o ops.toList fr o.guard) fr L o).pre)
  (hK:∀a' w' m',Z0O m' (stepA P Γ ops.toList (Z0o ops.toList fr o.guard) fr L o).L w'→
   Z0e m' (stepA P Γ ops.toList (Z0o ops.toList fr o.guard) fr L o).L (Z3y fr o.dst (mkV o.guard (Z0o ops.toList fr o.guard) (stepA P Γ ops.toList (Z0o ops.toList fr o.guard) fr L o).v)) a'.tmps.toList→
   Ext m L w m' (stepA P Γ ops.toList (Z0o ops.toList fr o.guard) fr L o).L w'→a'.defers=a.defers→next a' w') :
  if Region.wanted o (yielded ops a.tmps) then o.wpIn (Z2W R) 0 P a w next Q else (∀f,o.about P w a.eval=some f→(Z2W R).fn f)∧next (a.put o.dst undef) w:=by
 rw [Z5q h ops o hg]
 cases hc:Z0o ops.toList fr o.guard with
 | false=>
  rw [hc] at hp hK
  have hL:=Z8N hΓ ops.toList fr o hp
  rw [hL] at hK
  simp only [Bool.false_eq_true,if_false]
  refine⟨fun _ _=>trivial,hK _ w m hW ?_ Ext.refl (by cases o.dst <;> rfl)⟩
  refine Z42 h o.dst ?_
  cases hgd:o.guard with
  | none=>rw [hgd] at hc; simp [Z0o] at hc
  | some q=>simp [mkV,Z05]
 | true=>
  rw [hc] at hp hK
  simp only [if_true]
  refine⟨fun _ _=>trivial,?_⟩
  rw [Oper.semAt_eq _ _ _ (fun q hq=>Z8O _ _ _ _ hq hp)]
  have hmk:∀m' L' x v,Z05 m' L' x v→Z05 m' L' (mkV o.guard true x) v:=by
   intro m' L' x v hv
   cases o.guard with
   | none=>exact hv
   | some q=>simp only [mkV,Z05]; exact⟨fun _=>hv,fun h=>by cases h⟩
  rcases Z23 P Γ ops.toList o with hst | ⟨t,len,parts,hop,hst⟩
  case inr=>
   simp only [hst] at hp hK
   have hS:Z0l P m L w ((Z3E P true L t len (Z34 fr parts)).also (Z2T true (parts.toList.map fun p=>opd fr p.2))) (execOp a.eval o):=by
    obtain⟨dst,op,ty,pos,after,guard⟩:=o
    simp only at hop
    subst hop
    exact Z0l.also fun h1=>Z7j hW t len (Z3p h parts h1).1 (Z3p h parts h1).2
   obtain⟨n,w',m',hrun,hres,hW',hE⟩:=hS hp
   have hmono:=Z0e.mono hE.mono _ _ h
   rw [hrun]
   rcases hres with ⟨u,rfl,hv⟩ | ⟨rfl,hv⟩
   ·simp only [Oper.uponIn]
    exact hK _ w' m' hW' (Z42 hmono o.dst (hmk _ _ _ _ hv)) hE (by cases o.dst <;> rfl)
   ·simp only [Oper.uponIn]
    refine hK _ w' m' hW' (Z42 hmono o.dst (hmk _ _ _ _ ?_)) hE (by cases o.dst <;> rfl)
    rw [hv]; simp [Z05]
  simp only [hst] at hp hK
  by_cases hcall:∃f args ts,o.op=.call { callee:=.value f,args:=args,argTypes:=ts }
  ·obtain⟨f,args,ts,ho⟩:=hcall
   rw [ho] at hp hK
   simp only [Z1n,ZdI] at hp hK
   split at hp
   ·rename_i g first captured hf
    rw [hf] at hK
    simp only at hK
    split at hp
    ·rename_i sp hsp
     rw [hsp] at hK
     simp only at hK
     obtain⟨hn1,hn2,hpre⟩:=hp
     simp only [cond_true] at hK
     have hcon:=hΓ g sp hsp
     have hfv:=Z3R (Z4z h f) (hn1 rfl)
     rw [hf] at hfv
     simp only [Z05] at hfv
     obtain⟨us,vs,hfe,hu1,hu2⟩:=hfv
     have hargs:=Z3K h args.toList hn2
     have hall:=(hu1.append hargs).append hu2
     rcases hcon.runs.symm with hext | ⟨⟨fn,hfn,hbody,hname⟩,hcl⟩
     ·obtain⟨v,hr,hv,hpo⟩:=hext m L w _ _ hW hall (hpre trivial)
      have hrun:(execOp a.eval o).run P w=.ok (.value v) w:=by
       have e:args.map a.eval=(args.toList.map a.eval).toArray:=by apply Array.ext'; simp
       rw [List.append_assoc] at hr
       simp [execOp,ho,resolve,hfe,Deferred.ofValue,invoke,e,hr]
      rw [hrun]
      simp only [Oper.uponIn]
      rw [hpo] at hK
      exact hK _ w m hW (Z42 h o.dst (hmk _ _ _ _ hv)) Ext.refl (by cases o.dst <;> rfl)
     have hcalls:=hcl m L w _ _ hW hall (hpre trivial)
     have hname':fn.name≠ "runtime.NumGoroutine":=by simpa using hname
     have hbody':fn.body≠none:=by intro h; simp [h] at hbody
     have hrun:(execOp a.eval o).run P w=.ok (.enter g (us++args.toList.map a.eval++vs).toArray) w:=by
      have e:args.map a.eval=(args.toList.map a.eval).toArray:=by apply Array.ext'; simp
      simp [execOp,ho,resolve,hfe,Deferred.ofValue,invoke,callFunc,hfn,hbody',hname',e]
     rw [hrun]
     refine⟨fun h=>(by cases h),CallsIn.mono (ZhM hcalls) ?_⟩
     rintro e w' ⟨v,m',rfl,h1,h2,h3⟩
     refine hK _ w' m' h2 (Z42 (Z0e.mono h3.mono _ _ h) o.dst (hmk _ _ _ _ h1)) h3 (by cases o.dst <;> rfl)
    ·exact hp.elim
   ·exact hp.elim
  ·have hst:Z1n P Γ true fr L o.op=ev P true fr L o.op:=by
    unfold Z1n
    split
    ·rename_i f args ts heq; exact absurd ⟨f,args,ts,heq⟩ hcall
    ·rfl
   rw [hst] at hp hK
   obtain⟨n,w',m',hrun,hres,hW',hE⟩:=Zfg (P:=P) hW h o hp
   have hmono:=Z0e.mono hE.mono _ _ h
   rw [hrun]
   rcases hres with ⟨u,rfl,hv⟩ | ⟨rfl,hv⟩
   ·simp only [Oper.uponIn]
    exact hK _ w' m' hW' (Z42 hmono o.dst (hmk _ _ _ _ hv)) hE (by cases o.dst <;> rfl)
   ·simp only [Oper.uponIn]
    refine hK _ w' m' hW' (Z42 hmono o.dst (hmk _ _ _ _ ?_)) hE (by cases o.dst <;> rfl)
    rw [hv]; simp [Z05]
theorem Z6d{R:Option Nat}(hΓ:Z07 P Γ){B:Z9S}(ops:Array Oper){K:List AV→Heap→Prop}{Q:Exit→Act→World→Prop}(hK:∀fr L m a w,K fr L→RS B fr L m a w→Q .normal a w) :
  ∀(l:List Oper) (fr:List AV) (L:Heap) (m:Mem) (a:Act) (w:World),Zfi P Γ ops.toList l fr L K→RS B fr L m a w→wpListIn (Z2W R) 0 P ops Q l a w
 | [],fr,L,m,a,w,h,hR=>hK fr L m a w h hR
 | o::l,fr,L,m,a,w,h,hR=>by
  obtain⟨h1,h2,h3⟩:=h
  have:=Z51 (P:=P) (Γ:=Γ) (R:=R) hΓ hR.wrel hR.frel ops o (next:=wpListIn (Z2W R) 0 P ops Q l) (Q:=Q) h1 h2 fun a' w' m' k1 k2 k3 k4=>
   Z6d hΓ ops hK l _ _ m' a' w' h3 ⟨k1,k2,hR.ext.trans k3,by rw [k4,hR.defers]⟩
  unfold wpListIn
  split
  ·rename_i hw; rw [if_pos hw] at this; exact this
  ·rename_i hw; rw [if_neg hw] at this; exact this
end
inductive It where
 | code (c:Code)
 | blk (id:Nat)
 | chk (I:List AV→Heap→Prop)
def W(P:Program)(R:Option Nat)(B:Z9S)(Q:Exit→Act→World→Prop):List It→Exit→Act→World→Prop
 | [],e=>Q e
 | .code c::k,.normal=>c.wpIn (Z2W R) 0 P (W P R B Q k)
 | .code _::k,e=>W P R B Q k e
 | .blk id::k,.exit i=>if i=id then W P R B Q k .normal else W P R B Q k (.exit i)
 | .blk _::k,e=>W P R B Q k e
 | .chk I::_,.normal=>fun a w=>∃fr L m,I fr L∧RS B fr L m a w
 | .chk _::k,e=>W P R B Q k e
structure Z6n(m:Mem)(L:Heap)(D:Nat):Prop where
 pin:m.pobj D=none
 own:∀id,Own m L id→m.blk id≠D
 hid:∀id,¬Hid m L id D
theorem Z0O.foreign{m:Mem}{L:Heap}{w w':World}(h:Z0O m L w){D:Nat}(hD:Z6n m L D)(he:∀g,g≠D→w'.heap[g]?=w.heap[g]?):Z0O m L w' where
 glob:=h.glob
 pobjs g o hp:=by
  have hne:g≠D:=by rintro rfl; rw [hD.pin] at hp; cases hp
  rw [he g hne]; exact h.pobjs g o hp
 rows id cs sz ver hL hc:=by
  rw [he _ (hD.own id (.inl ⟨cs,sz,ver,hL,hc⟩))]; exact h.rows id cs sz ver hL hc
 nils:=h.nils
 iters id r hL:=by
  rw [he _ (hD.own id (.inr ⟨r,hL⟩))]; exact h.iters id r hL
 inj:=h.inj
 freeo:=h.freeo
 hid:=h.hid.keep (fun _ _ _ _ k=>⟨k,rfl,rfl⟩) (fun id T e l hL _=>he _ (hD.own id (.inr ⟨_,hL⟩))) (fun id g k=>he g (by rintro rfl; exact hD.hid id k)) (fun id g k=>h.hid.free id g k) (fun id g k j hj=>h.hid.own id g k j hj)
theorem Z6n.ext{m m':Mem}{L L':Heap}{w w':World}{D:Nat}(h:Z6n m L D)(hlt:D<w.heap.size)(hE:Ext m L w m' L' w'):Z6n m' L' D∧w'.heap[D]?=w.heap[D]?:=by
 refine⟨⟨by rw [hE.newobj D hlt]; exact h.pin,fun id hid=>?_,fun id hid=>?_⟩,hE.frame D hlt h.own h.hid⟩
 ·rcases hE.blks id hid with ⟨h1,h2⟩ | h1
  ·rw [h2]; exact h.own id h1
  ·omega
 ·rcases hE.hnew id D hid with h1 | h1
  ·exact h.hid id h1
  ·omega
structure Z6m(n0:Nat)(m:Mem)(L:Heap)(w:World)(ds:List Deferred):Prop where
 each:∀d∈ds,∃D,d={ target:=.collected D,args:=#[] }∧n0≤D∧D<w.heap.size∧w.heap[D]?=some (.deferred (some []))∧Z6n m L D
 nodup:ds.Nodup
theorem Z6m.nil{n0:Nat}{m:Mem}{L:Heap}{w:World}:Z6m n0 m L w []:=⟨fun _ h=>(by cases h),List.nodup_nil⟩
theorem Z6m.ext{n0:Nat}{m m':Mem}{L L':Heap}{w w':World}{ds:List Deferred}(h:Z6m n0 m L w ds)(hE:Ext m L w m' L' w'):Z6m n0 m' L' w' ds:=
 ⟨fun d hd=>by
  obtain⟨D,h1,h2,h3,h4,h5⟩:=h.each d hd
  obtain⟨h6,h7⟩:=h5.ext h3 hE
  exact⟨D,h1,h2,Nat.lt_of_lt_of_le h3 hE.size,by rw [h7]; exact h4,h6⟩,h.nodup⟩
structure Cx where
 P:Program
 Γ:Env
 ok:Z07 P Γ
 R:Option Nat:=none
 B:Z9S
 Q:Exit→Act→World→Prop
 fin:List AV→Heap→Prop
 n0:Nat
 hn0:n0≤B.w.heap.size
 hD:Z6m n0 B.m B.L B.w B.D
 hfin:∀fr L m a w,fin fr L→Z0O m L w→Z0e m L fr a.tmps.toList→Ext B.m B.L B.w m L w→Z6m n0 m L w a.defers→Q .normal a w
 finR:List AV→Heap→Prop
 hfinR:∀fr L m a w,finR fr L→Z0O m L w→Z0e m L fr a.tmps.toList→Ext B.m B.L B.w m L w→Z6m n0 m L w a.defers→Q .ret a w
 ng:∀l a w,¬Q (.goto l) a w
def Holds(X:Cx)(todo:List It)(fr:List AV)(L:Heap):Prop:=∀m a w,RS X.B fr L m a w→W X.P X.R X.B X.Q todo .normal a w
def Z83(id:Nat):List It→List It
 | []=>[]
 | .blk i::k=>if id=i then k else Z83 id k
 | _::k=>Z83 id k
def Z4O(id:Nat):List It→Bool
 | []=>false
 | .blk i::k=>id == i || Z4O id k
 | _::k=>Z4O id k
def exB(E:List It→Prop)(b:Bool)(t1 t2:List It):Prop:=(b=true→E t1)∧(b=false→E t2)
theorem Zff(E:List It→Prop)(t1 t2:List It):exB E true t1 t2=E t1:=by simp [exB]
theorem Zcs(E:List It→Prop)(t1 t2:List It):exB E false t1 t2=E t2:=by simp [exB]
theorem Z02{E:List It→Prop}{b:Bool}{t1 t2:List It}(h1:b=true→E t1)(h2:b=false→E t2):exB E b t1 t2:=⟨h1,h2⟩
def exU(E:List It→Prop)(p q:Prop)(t1 t2:List It):Prop:=(p→E t1)∧(q→E t2)
def ex(X:Cx):Nat→List It→List AV→Heap→Prop
 | 0,todo,fr,L=>Holds X todo fr L
 | _+1,[],fr,L=>X.fin fr L
 | n+1,.code .skip::k,fr,L=>ex X n k fr L
 | n+1,.code (.label _)::k,fr,L=>ex X n k fr L
 | n+1,.code (.seq a b)::k,fr,L=>ex X n (.code a::.code b::k) fr L
 | n+1,.code (.cond q x y)::k,fr,L=>match opd fr q with
  | .bool b=>exB (fun t=>ex X n t fr L) b (.code x::k) (.code y::k)
  | .ub p q=>exU (fun t=>ex X n t fr L) p q (.code x::k) (.code y::k)
  | _=>False
 | n+1,.code (.block id b)::k,fr,L=>ex X n (.code b::.blk id::k) fr L
 | n+1,.code (.exit id)::k,fr,L=>Z4O id k=true∧ex X n (Z83 id k) fr L
 | _+1,.code .ret::_,fr,L=>X.finR fr L
 | n+1,.code (.region _ ops false)::k,fr,L=>Zfi X.P X.Γ ops.toList ops.toList fr L (ex X n k)
 | n+1,.code (.scope b)::k,fr,L=>ex X n (.code b::k) fr L
 | _+1,.code c::k,fr,L=>Holds X (.code c::k) fr L
 | n+1,.blk _::k,fr,L=>ex X n k fr L
 | _+1,.chk I::_,fr,L=>I fr L
theorem Zfy{P:Program}{R:Option Nat}{B:Z9S}{Q:Exit→Act→World→Prop}:∀k:List It,W P R B Q k .ret=Q .ret
 | []=>rfl
 | .code _::k=>by simp only [W]; exact Zfy k
 | .blk _::k=>by simp only [W]; exact Zfy k
 | .chk _::k=>by simp only [W]; exact Zfy k
theorem Z9Q{P:Program}{R:Option Nat}{B:Z9S}{Q:Exit→Act→World→Prop}(l:Nat):∀k:List It,W P R B Q k (.goto l)=Q (.goto l)
 | []=>rfl
 | .code _::k=>by simp only [W]; exact Z9Q l k
 | .blk _::k=>by simp only [W]; exact Z9Q l k
 | .chk _::k=>by simp only [W]; exact Z9Q l k
theorem Z9R{P:Program}{R:Option Nat}{B:Z9S}{Q:Exit→Act→World→Prop}(id:Nat):∀k:List It,Z4O id k=true→W P R B Q k (.exit id)=W P R B Q (Z83 id k) .normal
 | [],h=>by simp [Z4O] at h
 | .code _::k,h=>by simp only [W,Z83]; exact Z9R id k (by simpa [Z4O] using h)
 | .chk _::k,h=>by simp only [W,Z83]; exact Z9R id k (by simpa [Z4O] using h)
 | .blk i::k,h=>by
  simp only [W,Z83]
  by_cases hi:id=i
  ·simp [hi]
  ·simp only [hi,if_false]
   exact Z9R id k (by simpa [Z4O,hi] using h)
section
variable {R:Option Nat} {P:Program} {b:Frame} {a:Act} {k:List Item} {cs:List Frame} {w:World} {Q:Exit→Act→World→Prop}
theorem Z2o{c:Code}:step P (lone (b.atR a (.code (.scope c)::k)) cs w)=.next (lone (b.atR a (.code c::.inScope c::k)) cs w):=
 step_lone_go (by simp [stepG,stepG.exec,Frame.atR])
theorem Z7h{c:Code}:step P (lone (b.atR a (.inScope c::k)) cs w)=.next (lone (b.atR a k) cs w):=
 step_lone_go (by simp [stepG,stepG.exec,Frame.atR])
theorem Z4I{c:Code}(h:c.wpIn (Z2W R) 0 P (Exit.noGoto Q) a w):(Code.scope c).wpIn (Z2W R) 0 P Q a w:=by
 intro b k cs hro hb hr
 obtain⟨e,a₁,w₁,hq,harr⟩:=h b (.inScope c::k) cs hro hb hr
 have h0:=fenced_calm (P:=P) (fr:=b.atR a (.code (.scope c)::k)) (w:=w) hb hr rfl
 cases e with
 | normal=>exact⟨.normal,a₁,w₁,hq,.head h0 Z2o (StepsIn.trans harr (.one (fenced_calm hb hr rfl) Z7h))⟩
 | exit id=>exact⟨.exit id,a₁,w₁,hq,fun k' hk=>.head h0 Z2o (harr.1 k' (by simp [exitTo,hk])),fun hr' hk=>let ⟨k₁,h1,h2⟩:=harr.2 hr' (by simp [exitTo,hk]); ⟨k₁,h1,.head h0 Z2o h2⟩⟩
 | goto l=>exact hq.elim
 | ret=>exact⟨_,a₁,w₁,hq,.of_steps (.one h0 Z2o) harr⟩
 | panic ch=>exact⟨_,a₁,w₁,hq,.of_steps (.one h0 Z2o) harr⟩
 | outgrown=>exact⟨_,a₁,w₁,hq,.of_steps (.one h0 Z2o) harr⟩
end
theorem holds_of_ex(X:Cx):∀(n:Nat) (todo:List It) (fr:List AV) (L:Heap),ex X n todo fr L→Holds X todo fr L
 | 0,_,_,_,h=>h
 | n+1,[],fr,L,h=>fun m a w hR=>X.hfin fr L m a w h hR.wrel hR.frel hR.ext (by rw [hR.defers]; exact X.hD.ext hR.ext)
 | n+1,.blk _::k,fr,L,h=>fun m a w hR=>by simp only [W]; exact holds_of_ex X n k fr L h m a w hR
 | n+1,.chk I::k,fr,L,h=>fun m a w hR=>by simp only [W]; exact⟨fr,L,m,h,hR⟩
 | n+1,.code c::k,fr,L,h=>by
  cases c with
  | skip=>exact fun m a w hR=>by simp only [W]; exact wpIn_skip (holds_of_ex X n k fr L h m a w hR)
  | label l=>exact fun m a w hR=>by simp only [W]; exact wpIn_label (holds_of_ex X n k fr L h m a w hR)
  | seq x y=>
   intro m a w hR
   have:=holds_of_ex X n (.code x::.code y::k) fr L h m a w hR
   simp only [W] at this ⊢
   refine wpIn_seq (Go.wpIn_mono this fun e a' w' q=>?_)
   cases e <;> simp only [W,Exit.then] at * <;> exact q
  | cond q x y=>
   simp only [ex] at h
   split at h
   ·rename_i b hb
    intro m a w hR
    have hq:=Z4z hR.frel q
    rw [hb] at hq
    simp only [Z05] at hq
    simp only [W]
    refine wpIn_cond_split hq (fun ht=>?_) (fun ht=>?_)
    ·have:=holds_of_ex X n _ fr L (h.1 ht) m a w hR; simpa only [W] using this
    ·have:=holds_of_ex X n _ fr L (h.2 ht) m a w hR; simpa only [W] using this
   ·rename_i p q' hb
    intro m a w hR
    have hq:=Z4z hR.frel q
    rw [hb] at hq
    simp only [Z05] at hq
    obtain⟨b,hq,hp1,hp2⟩:=hq
    simp only [W]
    refine wpIn_cond_split hq (fun ht=>?_) (fun ht=>?_)
    ·have:=holds_of_ex X n _ fr L (h.1 (hp1 ht)) m a w hR; simpa only [W] using this
    ·have:=holds_of_ex X n _ fr L (h.2 (hp2 ht)) m a w hR; simpa only [W] using this
   ·exact h.elim
  | block id b=>
   intro m a w hR
   have:=holds_of_ex X n (.code b::.blk id::k) fr L h m a w hR
   simp only [W] at this ⊢
   refine wpIn_block (Go.wpIn_mono this fun e a' w' q=>?_)
   cases e <;> simp only [W,Exit.inBlock] at * <;> first | exact q | (split <;> rename_i hid <;> simp only [hid,if_true,if_false] at q <;> exact q)
  | exit id=>
   intro m a w hR
   obtain⟨h1,h2⟩:=h
   simp only [W]
   refine wpIn_exit ?_
   rw [Z9R id k h1]
   exact holds_of_ex X n _ fr L h2 m a w hR
  | ret=>
   intro m a w hR
   simp only [W]
   refine wpIn_ret ?_
   rw [Zfy]
   exact X.hfinR fr L m a w h hR.wrel hR.frel hR.ext (by rw [hR.defers]; exact X.hD.ext hR.ext)
  | region id ops draw=>
   cases draw with
   | true=>exact h
   | false=>
    intro m a w hR
    simp only [W]
    exact wpIn_region_list (Z6d X.ok ops (Q:=W X.P X.R X.B X.Q k) (fun fr L m a w hk hR=>holds_of_ex X n k fr L hk m a w hR) ops.toList fr L m a w h hR)
  | loop b=>exact h
  | rangeFunc f ps x y=>exact h
  | scope b=>
   intro m a w hR
   have:=holds_of_ex X n (.code b::k) fr L h m a w hR
   simp only [W] at this ⊢
   refine Z4I (Go.wpIn_mono this fun e a' w' q=>?_)
   cases e <;> first | exact q | (simp only [Z9Q] at q; exact absurd q (X.ng _ _ _))
  | goto l=>exact h
  | refuse s=>exact h
theorem Z8D{R:Option Nat}{P:Program}{c:Code}{Q:Exit→Act→World→Prop}(I:Nat→Act→World→Prop)
  (round:∀n a w,I n a w→c.wpIn (Z2W R) 0 P (Exit.then (fun a' w'=>∃n',n'<n∧I n' a' w') Q) a w) (n₀:Nat) (a:Act) (w:World) (h₀:I n₀ a w):(Code.loop c).wpIn (Z2W R) 0 P Q a w:=by
 intro b k cs hro hb hr
 have key:∀n a w,I n a w→∃e a' w',Q e a' w'∧ArrivesIn (Machine.fenced P (Z2W R)) P (lone (b.atR a (.code c::.inLoop c::k)) cs w) b k cs e a' w':=by
  intro n
  induction n using Nat.strongRecOn with
  | _ n ih=>
   intro a w hI
   obtain⟨e,a₁,w₁,hq,harr⟩:=round n a w hI b (.inLoop c::k) cs hro hb hr
   cases e with
   | normal=>
    obtain⟨n',hlt,hI₁⟩:=hq
    obtain⟨e₂,a₂,w₂,hq₂,harr₂⟩:=ih n' hlt a₁ w₁ hI₁
    exact⟨e₂,a₂,w₂,hq₂,.of_steps (StepsIn.trans harr (.one (fenced_calm hb hr rfl) stepR_inLoop)) harr₂⟩
   | exit id=>exact⟨_,a₁,w₁,hq,.pass (x:=.inLoop c) rfl (fun _ _=>.inl (by simp)) harr⟩
   | goto l=>exact⟨_,a₁,w₁,hq,.pass (x:=.inLoop c) rfl (fun _ _=>.inl (by simp)) harr⟩
   | ret=>exact⟨_,a₁,w₁,hq,.pass (x:=.inLoop c) rfl (fun _ _=>.inl (by simp)) harr⟩
   | panic ch=>exact⟨_,a₁,w₁,hq,.pass (x:=.inLoop c) rfl (fun _ _=>.inl (by simp)) harr⟩
   | outgrown=>exact⟨_,a₁,w₁,hq,.pass (x:=.inLoop c) rfl (fun _ _=>.inl (by simp)) harr⟩
 obtain⟨e,a',w',hq,harr⟩:=key n₀ a w h₀
 exact⟨e,a',w',hq,.of_steps (.one (fenced_calm hb hr rfl) stepR_loop) harr⟩
abbrev Z06(L0:Heap)(fr:List AV)(L:Heap)(S:List AV×Heap):Prop:=Z0k L0 fr L S
theorem Holds.weak{X:Cx}{k:List It}{fr:List AV}{L:Heap}{S:List AV×Heap}(hi:Z06 X.B.L fr L S)(h:Holds X k S.1 S.2):Holds X k fr L:=by
 intro m a w hR
 obtain⟨m',hR'⟩:=hR.intoF hi
 exact h m' a w hR'
theorem Holds.loop{X:Cx}{b:Code}{k:List It}{fr:List AV}{L:Heap}{ι:Type}(S:ι→List AV×Heap)(μ:ι→Nat)(i0:ι)(h0:Z06 X.B.L fr L (S i0))
  (h:∀i,Holds X (.code b::.chk (fun fr' L'=>∃j,μ j<μ i∧Z06 X.B.L fr' L' (S j))::k) (S i).1 (S i).2):Holds X (.code (.loop b)::k) fr L:=by
 refine Holds.weak h0 ?_
 intro m a w hR
 simp only [W]
 refine Z8D (fun n a w=>∃i m,μ i=n∧RS X.B (S i).1 (S i).2 m a w) ?_ (μ i0) a w ⟨i0,m,rfl,hR⟩
 rintro n a w ⟨i,m,rfl,hR⟩
 have:=h i m a w hR
 simp only [W] at this
 refine Go.wpIn_mono this fun e a' w' q=>?_
 cases e <;> simp only [W,Exit.then] at * <;> try exact q
 obtain⟨fr',L',m',⟨j,hlt,hi⟩,hR'⟩:=q
 obtain⟨m'',hR''⟩:=hR'.intoF hi
 exact⟨μ j,hlt,j,m'',rfl,hR''⟩
theorem Holds.cut{X:Cx}{c:Code}{k:List It}{fr:List AV}{L:Heap}(I:List AV→Heap→Prop)(h1:Holds X (.code c::.chk I::k) fr L)(h2:∀fr' L',I fr' L'→Holds X k fr' L'):Holds X (.code c::k) fr L:=by
 intro m a w hR
 have:=h1 m a w hR
 simp only [W] at this ⊢
 refine Go.wpIn_mono this fun e a' w' q=>?_
 cases e <;> simp only [W] at * <;> try exact q
 obtain⟨fr',L',m',hI,hR'⟩:=q
 exact h2 fr' L' hI m' a' w' hR'
end Go.Eng