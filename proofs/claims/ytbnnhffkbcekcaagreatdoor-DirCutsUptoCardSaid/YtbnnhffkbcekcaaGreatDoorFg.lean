/- Parts of the walk through directories. Conditions stand in each. -/
import Derived.Test.YtbnnhffkbcekcaaGreatDoorFf
import Derived.RangeFuncLeaves
import Derived.RangeFuncRecord
import Derived.Lib.Overlaps
set_option linter.unusedVariables false
set_option linter.unusedSimpArgs false
section
namespace Go.Eng
open Go
def Z26(b:Nat)(r:Loop):Z0Q:=.raw (.obj (some b) (.loop r))
def rdy(r:Loop):Loop:={ r with state:=.ready,pending:=none }
def bsy(r:Loop):Loop:={ r with state:=.busy,pending:=none }
def don(r:Loop):Loop:={ r with state:=.done,pending:=some .ret }
def ZbZ{ι:Type}(L0:Z01)(S:ι→Z01)(fr:List AV)(L:Z01):Prop:=∃j,Z0q L0 [] L ([],S j)
def Z9B(fr:List AV):List (Tmp×AV)→List AV
 | []=>fr
 | (t,v)::r=>Z9B (fr.set t v) r
theorem ZbZ.sound{ι:Type}{m0:Mem}{L0:Z01}{w0:World}{S:ι→Z01}{fr:List AV}{L:Z01}(h:ZbZ L0 S fr L){m:Mem}{w:World}(hW:Z0D m L w)(hE:Ext m0 L0 w0 m L w) :
  ∃j m',Z0D m' (S j) w∧Ext m0 L0 w0 m' (S j) w:=by
 obtain⟨j,hi⟩:=h
 obtain⟨m',k1,_,k3⟩:=hi.sound hW (Z0a.nil _ _) hE
 exact⟨j,m',k1,k3⟩
theorem Z67{m:Mem}{L:Z01}{w:World}(hW:Z0D m L w){lid b:Nat}{r:Loop}(hL:L[lid]?=some (Z26 b r)):m.blk lid=b∧w.heap[b]?=some (.loop r):=by
 obtain⟨o,ho,hb,he⟩:=hW.iters lid _ hL
 have hb:=hb b rfl
 exact⟨hb,by rw [←hb,ho,he]⟩
theorem Z6j{w:World}{b:Nat}{o:Obj}(h:w.heap[b]?=some o):b<w.heap.size:=(Array.getElem?_eq_some_iff.1 h).1
theorem Zav{m:Mem}{L:Z01}{w:World}(hW:Z0D m L w){lid b:Nat}{r:Loop}(r':Loop)(hL:L[lid]?=some (Z26 b r)) :
  Z0D m (L.set lid (Z26 b r')) (w.putObj b (.loop r'))∧Ext m L w m (L.set lid (Z26 b r')) (w.putObj b (.loop r')):=by
 obtain⟨hb,ho⟩:=Z67 hW hL
 exact Z47 (r:=.obj (some b) (.loop r')) hW hL
  (by rw [hb]; exact⟨World.putObj_heap_same (Z6j ho),fun g hg _=>World.putObj_heap_other hg,by simp,rfl,rfl,rfl⟩)
  ⟨fun x hx=>by cases hx; exact hb,rfl⟩
theorem ZgA{m:Mem}{L:Z01}{w:World}(hW:Z0D m L w){lid b:Nat}{r:Loop}(r':Loop)(hL:L[lid]?=some (Z26 b r)) :
  Z0D m (L.set lid (.raw .gone)) (w.putObj b (.loop r'))∧Ext m L w m (L.set lid (.raw .gone)) (w.putObj b (.loop r')):=by
 obtain⟨hb,ho⟩:=Z67 hW hL
 exact Z47 (r:=.gone) (ob:=.loop r') hW hL
  (by rw [hb]; exact⟨World.putObj_heap_same (Z6j ho),fun g hg _=>World.putObj_heap_other hg,by simp,rfl,rfl,rfl⟩)
  trivial
theorem Z8s{m:Mem}{L:Z01}:∀(ps:List Tmp) (xs:List AV) (us:List Value) (fr:List AV) (t:Array Value),Z0a m L xs us→Z0a m L fr t.toList→
  Z0a m L (Z9B fr (ps.zip xs)) ((ps.zip us).foldl (fun tmps (q:Tmp×Value)=>tmps.setIfInBounds q.1 q.2) t).toList
 | [],_,_,_,_,_,h=>h
 | _::_,[],us,_,_,h1,h=>by
  cases us with
  | nil=>exact h
  | cons u us=>simp [Z0a] at h1
 | p::ps,x::xs,us,fr,t,h1,h=>by
  simp only [Z0a] at h1
  obtain⟨u,us',rfl,h2,h3⟩:=h1
  simp only [List.zip_cons_cons,List.foldl_cons,Z9B]
  refine Z8s ps xs us' _ _ h3 ?_
  rw [Array.toList_setIfInBounds]
  exact h.set p h2
theorem ZaL{m:Mem}{L:Z01}{fr:List AV}{a:Act}(h:Z0a m L fr a.tmps.toList):∀l:List Operand,Z0a m L (l.map (opd fr)) (l.map a.eval)
 | []=>Z0a.nil _ _
 | x::l=>Z0a.cons (Z0Z h x) (ZaL h l)
theorem Z04.yield{X:Cx}{ops:Array Oper}{k:List It}{fr:List AV}{L:Z01}{o:Oper}{l:List Oper}(hg:o.guard=none){P:Program}{Γ:Env}(hP:X.P=P)(hΓ:X.Γ=Γ)
    {f:Operand} {args:Array Operand} {ts:Array TypeId} (ho:o.op=.call { callee:=.value f,args:=args,argTypes:=ts }) {b lid:Nat} {r:Loop}
    (hf:opd fr f=.lit (.func (.yield b) #[] #[])) (hL:L[lid]?=some (Z26 b (rdy r))) (hlen:args.size=r.params.size) {frC:List AV} (hC:Z0a X.B.m X.B.L frC r.tmps.toList)
    {fr0:List AV} (hfr0:Z9B frC (r.params.toList.zip (args.toList.map (opd fr)))=fr0) {ι κ:Type} (Mid:List AV→Z01→Prop) (SN:ι→Z01) (ST:κ→Z01)
    (h1:∀Y:Cx,Y.P=P→Y.Γ=Γ→Y.B.L=L→Y.R=some b→Z02 Y [.code r.assign,.chk Mid] fr0 L)
    (h2:∀fr1 L1,Mid fr1 L1→L1[lid]?=some (Z26 b (rdy r))∧∀Y:Cx,Y.P=P→Y.Γ=Γ→Y.B.L=L1.set lid (Z26 b (bsy r))→
      (Y.fin=ZbZ (L1.set lid (Z26 b (bsy r))) SN∧Y.finR=ZbZ (L1.set lid (Z26 b (bsy r))) ST∧Y.R=some b)→Z02 Y [.code r.body] fr1 (L1.set lid (Z26 b (bsy r))))
    (hN:∀j,(SN j)[lid]?=some (Z26 b (bsy r))∧Z04 X ops l k (Z1R fr o.dst (.bool true)) ((SN j).set lid (Z26 b (rdy r))))
    (hT:∀j,(ST j)[lid]?=some (Z26 b (bsy r))∧Z04 X ops l k (Z1R fr o.dst (.bool false)) ((ST j).set lid (Z26 b (don r)))) :
    Z04 X ops (o::l) k fr L:=by
  intro m a w hR
  obtain⟨hblk,hrec⟩:=Z67 hR.wrel hL
  have hv:=Z0Z hR.frel f
  rw [hf] at hv
  simp only [Z03] at hv
  have hrun:(execOp a.eval o).run X.P w=.ok (.round b r.fn ((r.params.zip (args.map a.eval)).foldl (fun tmps (q:Tmp×Value)=>tmps.setIfInBounds q.1 q.2) r.tmps) r.assign r.body) w:=by
    have hy:=run_yield (P:=X.P) hrec (args:=args.map a.eval) (by simpa [rdy] using hlen)
    simp only [execOp,ho,resolve,hv,Deferred.ofValue,Sem.run_bind,Sem.run_pure,Result.andThen_ok]
    simpa [invoke,rdy] using hy
  unfold wpListIn
  have hw:Region.wanted o (yielded ops a.tmps)=true:=by simp [Region.wanted,hg]
  rw [if_pos hw]
  refine⟨fun _ _=>trivial,?_⟩
  rw [Oper.semAt_eq _ _ _ (fun q hq=>by rw [ho] at hq; cases hq),hrun,Oper.uponIn_round]
  refine⟨fun h=>(by cases h),roundIn_of_wpIn trivial ?_⟩
  have hargs:Z0a m L (args.toList.map (opd fr)) (args.toList.map a.eval):=ZaL hR.frel _
  have hfr:Z0a m L (Z9B frC (r.params.toList.zip (args.toList.map (opd fr)))) ((r.params.zip (args.map a.eval)).foldl (fun tmps (q:Tmp×Value)=>tmps.setIfInBounds q.1 q.2) r.tmps).toList:=by
    have:=Z8s r.params.toList _ _ frC r.tmps hargs (Z0a.mono hR.ext.mono _ _ hC)
    have e:(r.params.zip (args.map a.eval)).toList=r.params.toList.zip (args.toList.map a.eval):=by simp
    rw [←Array.foldl_toList,e]; exact this
  let X1:Cx:=
    { P:=X.P
      Γ:=X.Γ
      ok:=X.ok
      R:=some b
      B:=⟨m,L,w,[]⟩
      Q:=fun _ _ _=>False
      fin:=fun _ _=>False
      n0:=0
      hn0:=Nat.zero_le _
      hD:=Z43.nil
      hfin:=fun _ _ _ _ _ h=>h.elim
      finR:=fun _ _=>False
      hfinR:=fun _ _ _ _ _ h=>h.elim
      ng:=fun _ _ _ h=>h }
  rw [hfr0] at hfr
  have hA:=h1 X1 hP hΓ rfl rfl m { tmps:=(r.params.zip (args.map a.eval)).foldl (fun tmps (q:Tmp×Value)=>tmps.setIfInBounds q.1 q.2) r.tmps,defers:=[] } w ⟨hR.wrel,hfr,Ext.refl,rfl⟩
  simp only [W] at hA
  refine Go.wpIn_mono hA fun e a1 w1 q=>?_
  cases e with
  | normal=>
    simp only [W] at q
    obtain⟨fr1,L1,m1,hmid,hR1⟩:=q
    obtain⟨hL1,hbody⟩:=h2 fr1 L1 hmid
    obtain⟨hb1,hr1⟩:=Z67 hR1.wrel hL1
    obtain⟨hW2,hE2⟩:=Zav hR1.wrel (bsy r) hL1
    refine⟨_,run_beginRound hr1 rfl,?_⟩
    have hD1:a1.defers=[]:=hR1.defers
    have hend:∀(S:Z01) (rn:Loop) (bv:Bool) (m3:Mem) (w3:World),S[lid]?=some (Z26 b (bsy r))→
        Z04 X ops l k (Z1R fr o.dst (.bool bv)) (S.set lid (Z26 b rn))→Z0D m3 S w3→Ext m1 (L1.set lid (Z26 b (bsy r))) (w1.putObj b (.loop (bsy r))) m3 S w3→
        wpListIn (Z1q X.R) 0 X.P ops (W X.P X.R X.B X.Q k) l (a.put o.dst (.bool bv)) (w3.putObj b (.loop rn)):=by
      intro S rn bv m3 w3 hS hrest hW3 hE3
      obtain⟨hW4,hE4⟩:=Zav hW3 rn hS
      have hE:Ext m L w m3 (S.set lid (Z26 b rn)) (w3.putObj b (.loop rn)):=((hR1.ext.trans hE2).trans hE3).trans hE4
      refine hrest m3 _ _ ⟨hW4,Z2n (Z0a.mono hE.mono _ _ hR.frel) o.dst (by simp [Z03]),hR.ext.trans hE,?_⟩
      cases o.dst <;> exact hR.defers
    let X2 : Cx := { P := X.P, Γ := X.Γ, ok := X.ok, R := some b, B := ⟨m1, L1.set lid (Z26 b (bsy r)), w1.putObj b (.loop (bsy r)), []⟩
                     Q:=fun e a' w'=>match e with | .goto _=>False | .exit _=>False | e=>(roundPost X.P b fun | .returned v,w''=>wpListIn (Z1q X.R) 0 X.P ops (W X.P X.R X.B X.Q k) l (a.put o.dst v) w'' | .panicked chain,w''=>W X.P X.R X.B X.Q k (.panic chain) a w'' | .outgrown,_=>LetsOut (W X.P X.R X.B X.Q k)) e a' w'
                     fin:=ZbZ (L1.set lid (Z26 b (bsy r))) SN,n0:=0,hn0:=Nat.zero_le _,hD:=Z43.nil
                     hfin:=fun fr2 L2 m2 a2 w2 hf2 hW2' _ hE2' _=>by
                       obtain⟨j,m3,k1,k2⟩:=hf2.sound hW2' hE2'
                       obtain⟨hS,hrest⟩:=hN j
                       obtain⟨_,hr3⟩:=Z67 k1 hS
                       exact⟨_,_,run_endRound none hr3,hend _ (rdy r) true m3 w2 hS hrest k1 k2⟩
                     finR:=ZbZ (L1.set lid (Z26 b (bsy r))) ST
                     hfinR:=fun fr2 L2 m2 a2 w2 hf2 hW2' _ hE2' _=>by
                       obtain⟨j,m3,k1,k2⟩:=hf2.sound hW2' hE2'
                       obtain⟨hS,hrest⟩:=hT j
                       obtain⟨_,hr3⟩:=Z67 k1 hS
                       exact⟨_,_,run_endRound (some .ret) hr3,hend _ (don r) false m3 w2 hS hrest k1 k2⟩
                     ng:=fun _ _ _ h=>h }
    · have hB:=hbody X2 hP hΓ rfl ⟨rfl,rfl,rfl⟩ m1 a1 _ ⟨hW2,Z0a.mono hE2.mono _ _ hR1.frel,Ext.refl,hD1⟩
      simp only [W] at hB
      refine Go.wpIn_mono hB fun e a2 w2 q=>?_
      cases e <;> first | exact q | exact q.elim
  | exit id=>simp only [W] at q; exact q
  | goto t=>simp only [W] at q; exact q
  | ret=>simp only [W] at q; exact q
  | panic c=>simp only [W] at q; exact q
  | outgrown=>simp only [W] at q; exact q
theorem Z8a{P:Program}{Γ:Env}(hΓ:Z07 P Γ){f:FuncId}{fn:Func}{c:Code}(hf:P.funcs[f]?=some fn)(hc:fn.body=some c)(hres:fn.results.toList=[]){xs:List AV}{L:Z01}{ι:Type}{S:ι→Z01}
  {m:Mem} {w:World} {vs:List Value} (hW:Z0D m L w) (hx:Z0a m L xs vs)
  (hb:∀Y:Cx,Y.P=P→Y.Γ=Γ→Y.B=⟨m,L,w,[]⟩→(Y.fin=ZbZ L S∧Y.finR=Y.fin∧Y.R=none)→Z02 Y [.code c] (Z4X xs fn.ntmps) L) :
  Calls P f vs.toArray w fun e w'=>∃v m' j,e=.returned v∧Z0D m' (S j) w'∧Ext m L w m' (S j) w':=by
 have hend:∀fr L₁ m₁ (a₁:Act) w₁,ZbZ L S fr L₁→Z0D m₁ L₁ w₁→Z0a m₁ L₁ fr a₁.tmps.toList→Ext m L w m₁ L₁ w₁→Z43 w.heap.size m₁ L₁ w₁ a₁.defers→
   LeavesInM Fence.wide 0 P fn a₁.tmps (fun e w'=>∃v m' j,e=.returned v∧Z0D m' (S j) w'∧Ext m L w m' (S j) w') a₁.defers .returning w₁:=by
  intro fr L₁ m₁ a₁ w₁ hfin hW1 hF1 hE1 hM1
  exact Z6l (P:=P) fn (tmps:=a₁.tmps) (m:=m) (L:=L) (w:=w) (m₁:=m₁) (L₁:=L₁) (fun w₂ hW2 hE2=>by
   obtain⟨v,hv,hvr⟩:=Z4O (P:=P) hW2 hF1 fn (by rw [hres]; trivial)
   obtain⟨j,m',k1,k3⟩:=hfin.sound hW2 hE2
   exact⟨v,hv,v,m',j,rfl,k1,k3⟩) a₁.defers w₁ hW1 hE1 hM1
 have hH:=hb
  {P,Γ,ok:=hΓ,B:=⟨m,L,w,[]⟩,Q:=bodyPostM Fence.wide 0 P fn (fun e w'=>∃v m' j,e=.returned v∧Z0D m' (S j) w'∧Ext m L w m' (S j) w'),fin:=ZbZ L S,n0:=w.heap.size,hn0:=Nat.le_refl _,hD:=Z43.nil
   hfin:=hend,finR:=ZbZ L S,hfinR:=hend
   ng:=fun _ _ _ h=>h }
  rfl rfl rfl ⟨rfl,rfl,rfl⟩
 refine (callsIn_wide (n:=0)).1 (callsIn_of_wp_marks hf hc trivial ?_)
 have hR:RS ⟨m,L,w,[]⟩ (Z4X xs fn.ntmps) L m { tmps:=vs.toArray++Array.replicate (fn.ntmps - vs.toArray.size) undef,defers:=[] } w:=by
  refine⟨hW,?_,Ext.refl,rfl⟩
  have hl:=hx.length
  have e:(vs.toArray++Array.replicate (fn.ntmps - vs.toArray.size) undef).toList=vs++List.replicate (fn.ntmps - xs.length) undef:=by simp [hl]
  simp only [Z4X,e]
  refine hx.append (Z0a.mk (by simp) fun i c u hc _=>?_)
  have:c=.any:=by
   have:=List.mem_of_getElem? hc
   exact (List.mem_replicate.1 this).2
  subst this
  simp [Z03]
 have:=hH m _ w hR
 simp only [W] at this
 exact Go.wpIn_mono this fun e a w q=>by simpa [W] using q
def Zj6:List It→Bool
 | []=>true
 | .chk _::_=>false
 | _::k=>Zj6 k
theorem Za8{P:Program}{R:Option Nat}{B B':Z8f}{Q:Exit→Act→World→Prop}:∀k:List It,Zj6 k=true→W P R B Q k=W P R B' Q k
 | [],_=>by funext e; cases e <;> simp only [W]
 | .code c::k,h=>by
  have ih:=Za8 (P:=P) (R:=R) (B:=B) (B':=B') (Q:=Q) k h
  funext e; cases e <;> simp only [W,ih]
 | .blk i::k,h=>by
  have ih:=Za8 (P:=P) (R:=R) (B:=B) (B':=B') (Q:=Q) k h
  funext e; cases e <;> simp only [W,ih]
 | .chk _::_,h=>by cases h
theorem Zed{m:Mem}{L:Z01}{w:World}(hW:Z0D m L w)(o:Obj):Ext m L w m L (w.alloc o)∧Z0D m L (w.alloc o)∧Z4E m L w.heap.size:=by
 have hF:Z4E m L w.heap.size:=by
  refine⟨?_,fun id hid=>?_,fun id h=>?_⟩
  ·cases hp:m.pobj w.heap.size with
   | none=>rfl
   | some o'=>have:=Z6j (hW.pobjs _ _ hp); omega
  ·have:=hW.blk_lt hid; omega
  ·have:=hW.hid.lt h; omega
 have hold:∀g,g≠w.heap.size→(w.alloc o).heap[g]?=w.heap[g]?:=fun g hg=>by
  show (w.heap.push o)[g]?=w.heap[g]?
  rcases Nat.lt_or_ge g w.heap.size with h | h
  ·rw [Array.getElem?_push_lt h,Array.getElem?_eq_getElem h]
  ·rw [Array.getElem?_eq_none (by simp; omega),Array.getElem?_eq_none h]
 exact⟨⟨fun g hg _ _=>hold g (by omega),by show w.heap.size≤(w.heap.push o).size; simp,fun _ _=>rfl,fun id h=>.inl ⟨h,rfl⟩,Nat.le_refl _,⟨fun _ _ h=>h,fun id cs sz ver h=>⟨cs,ver,h,Nat.le_refl _,fun _=>⟨rfl,rfl,rfl⟩⟩,fun id r h=>⟨r,h,rfl⟩⟩,⟨rfl,rfl,rfl⟩,fun id g h=>.inl h⟩,
  hW.foreign hF hold,hF⟩
theorem Z02.rangeFunc{X:Cx}{k:List It}{fr:List AV}{L:Z01}{P:Program}{Γ:Env}(hP:X.P=P)(hΓ:X.Γ=Γ){fin0:List AV→Z01→Prop}(hfin:X.fin=fin0∧X.finR=X.fin∧X.R=none)
    {g:Operand} {ps:Array Tmp} {assign body:Code} {F:FuncId} {fnI:Func} {cI:Code} {cap:List AV} (hg:opd fr g=.fn (.func F) [] cap) (hf:P.funcs[F]?=some fnI) (hb:fnI.body=some cI) (hn:(fnI.name == "runtime.NumGoroutine") = false)
    (hres:fnI.results.toList=[]) (hk:Zj6 k=true) {ι:Type} (S:Nat→Loop→ι→Z01)
    (h1:∀(b:Nat) (r:Loop),r.params=ps→r.assign=assign→r.body=body→
      ∀Y:Cx,Y.P=P→Y.Γ=Γ→Y.B.L=L++[Z26 b (rdy r)]→(Y.fin=ZbZ (L++[Z26 b (rdy r)]) (S b r)∧Y.finR=Y.fin∧Y.R=none)→Z0a Y.B.m Y.B.L fr r.tmps.toList→
        Z02 Y [.code cI] (Z4X (.lit (.func (.yield b) #[] #[])::cap) fnI.ntmps) (L++[Z26 b (rdy r)]))
    (h2:∀(b:Nat) (r:Loop) (j:ι),
      (((S b r j)[L.length]?=some (Z26 b (rdy r))∧∀Y:Cx,Y.P=P→Y.Γ=Γ→Y.B.L=(S b r j).set L.length (.raw .gone)→(Y.fin=fin0∧Y.finR=Y.fin∧Y.R=none)→Z02 Y k fr ((S b r j).set L.length (.raw .gone)))∨
       ((S b r j)[L.length]?=some (Z26 b (don r))∧fin0 fr ((S b r j).set L.length (.raw .gone))))) :
    Z02 X (.code (.rangeFunc g ps assign body)::k) fr L:=by
  obtain⟨hf1,hf2,hXR⟩:=hfin
  intro m a w hR
  have hv:=Z0Z hR.frel g
  rw [hg] at hv
  simp only [Z03] at hv
  obtain⟨us,capV,hge,hu1,hu2⟩:=hv
  simp only [Z0a] at hu1
  subst hu1
  simp only [W]
  refine wpIn_rangeFunc fun fnid _=>?_
  obtain⟨hE1,hW1,hF1⟩:=Zed hR.wrel (.deferred (some []))
  have hPu:=Z18.alloc (w.alloc (.deferred (some []))) (.loop { state:=.ready,pending:=none,fn:=fnid,tmps:=a.tmps,params:=ps,assign,body,defers:=w.heap.size })
  have hsz1:(w.alloc (.deferred (some []))).heap.size=w.heap.size+1:=World.size_alloc ..
  have hW2:=Z5O (r:=.obj (some (w.heap.size+1)) (.loop { state:=.ready,pending:=none,fn:=fnid,tmps:=a.tmps,params:=ps,assign,body,defers:=w.heap.size })) hW1 hPu ⟨fun x hx=>by cases hx; exact hsz1,rfl⟩
  have hE2:=Z1r (m:=m) (L:=L) (.raw (.obj (some (w.heap.size+1)) (.loop { state:=.ready,pending:=none,fn:=fnid,tmps:=a.tmps,params:=ps,assign,body,defers:=w.heap.size }))) 0 hPu.keep
  generalize hr0:({ state:=.ready,pending:=none,fn:=fnid,tmps:=a.tmps,params:=ps,assign:=assign,body:=body,defers:=w.heap.size }:Loop)=r0 at hPu hW2 hE2
  generalize hm2:m.put L.length (w.alloc (.deferred (some []))).heap.size 0=m2 at hW2 hE2
  generalize hw2:(w.alloc (.deferred (some []))).alloc (.loop r0)=w2 at hPu hW2 hE2
  have hE:=hE1.trans hE2
  have hrt:r0.tmps=a.tmps:=by rw [←hr0]
  have hrd:rdy r0=r0:=by rw [←hr0]; rfl
  have hx:Z0a m2 (L++[Z26 (w.heap.size+1) r0]) (.lit (.func (.yield (w.heap.size+1)) #[] #[])::cap) (.func (.yield (w.heap.size+1)) #[] #[]::capV):=
    Z0a.cons (by simp [Z03]) (Z0a.mono hE.mono _ _ hu2)
  have hcalls:=Z8a (P:=P) (Γ:=Γ) (fn:=fnI) (hP▸hΓ▸X.ok) hf hb hres (S:=S (w.heap.size+1) r0) hW2 hx fun Y y1 y2 y3 y4=>by
    have:=h1 (w.heap.size+1) r0 (by rw [←hr0]) (by rw [←hr0]) (by rw [←hr0]) Y y1 y2 (by rw [y3,hrd]; rfl) (by rw [hrd]; exact y4) (by rw [y3,hrt]; exact Z0a.mono hE.mono _ _ hR.frel)
    rw [hrd] at this
    exact this
  have hbody':fnI.body≠none:=by rw [hb]; exact fun h=>by cases h
  have hname':fnI.name≠ "runtime.NumGoroutine":=by simpa using hn
  refine⟨w.heap.size+1,[{ target:=.collected w.heap.size,args:=#[] }],w2,{ target:=.fn (.func F) capV.toArray,args:=#[.func (.yield (w.heap.size+1)) #[] #[]] },w2,F,(.func (.yield (w.heap.size+1)) #[] #[]::capV).toArray,w2,?_,?_,fun _ _=>trivial,?_,fun h=>(by cases h),CallsIn.mono (Za4 (hP▸hcalls)) ?_⟩
  · have:(Z1q X.R).round=none:=hXR
    rw [this,run_enterLoop_outer,hr0,hw2]
  · have hy:a.eval (.const (.func (.yield (w.heap.size+1)) #[] #[]))=.func (.yield (w.heap.size+1)) #[] #[]:=rfl
    simp [rangeCall,resolve,hge,hy,Deferred.ofValue]
  · simp [invoke,callFunc,hP,hf,hbody',hname']
  · rintro e w3 ⟨v,m3,j,rfl,hW3,hE3⟩
    have hcase:∃r',(S (w.heap.size+1) r0 j)[L.length]?=some (Z26 (w.heap.size+1) r')∧r'.state≠.busy∧((r'.pending=none∧∀Y:Cx,Y.P=P→Y.Γ=Γ→Y.B.L=(S (w.heap.size+1) r0 j).set L.length (.raw .gone)→(Y.fin=fin0∧Y.finR=Y.fin∧Y.R=none)→Z02 Y k fr ((S (w.heap.size+1) r0 j).set L.length (.raw .gone)))∨
        (r'.pending=some .ret∧fin0 fr ((S (w.heap.size+1) r0 j).set L.length (.raw .gone)))):=by
      rcases h2 (w.heap.size+1) r0 j with ⟨q1,q2⟩ | ⟨q1,q2⟩
      · exact⟨_,q1,(fun h=>by cases h),.inl ⟨rfl,q2⟩⟩
      · exact⟨_,q1,(fun h=>by cases h),.inr ⟨rfl,q2⟩⟩
    obtain⟨r',hS,hst,hcase⟩:=hcase
    obtain⟨_,hr3⟩:=Z67 hW3 hS
    obtain⟨hW4,hE4⟩:=ZgA hW3 { r' with state:=.exhausted } hS
    have hrun:=run_endLoop (P:=X.P) hr3 hst
    generalize ({ r' with state:=.exhausted }:Loop)=re at hrun hW4 hE4
    refine⟨_,_,hrun,?_⟩
    have hEE:=(hE2.trans hE3).trans hE4
    have hE0:=hR.ext.trans (hE1.trans hEE)
    have hD1:w.heap.size<(w.alloc (.deferred (some []))).heap.size:=by omega
    obtain⟨hFor,hDk⟩:=hF1.ext hD1 hEE
    have hMarks:Z43 X.n0 m3 ((S (w.heap.size+1) r0 j).set L.length (.raw .gone)) (w3.putObj (w.heap.size+1) (.loop re)) ([{ target:=.collected w.heap.size,args:=#[] }]++a.defers):=by
      have hM0:Z43 X.n0 m L w a.defers:=by rw [hR.defers]; exact X.hD.ext hR.ext
      have hM1:=hM0.ext (hE1.trans hEE)
      refine⟨fun d hd=>?_,?_⟩
      · rcases List.mem_append.1 hd with hd | hd
        · rw [List.mem_singleton] at hd
          refine⟨w.heap.size,hd,Nat.le_trans X.hn0 hR.ext.size,Nat.lt_of_lt_of_le hD1 hEE.size,?_,hFor⟩
          rw [hDk]; exact World.alloc_heap_new ..
        · exact hM1.each d hd
      · refine List.nodup_append.2 ⟨by simp,hM0.nodup,fun d1 h1 d2 h2 he=>?_⟩
        rw [List.mem_singleton] at h1
        obtain⟨D,hde,_,hlt,_⟩:=hM0.each d2 h2
        rw [←he,h1] at hde
        cases hde
        omega
    rcases hcase with ⟨hp,hk2⟩ | ⟨hp,hk2⟩
    · rw [hp]
      let Y : Cx := { X with B := ⟨m3, (S (w.heap.size + 1) r0 j).set L.length (.raw .gone), w3.putObj (w.heap.size + 1) (.loop re), [{ target := .collected w.heap.size, args := #[] }] ++ a.defers⟩
                             hn0:=Nat.le_trans X.hn0 hE0.size,hD:=hMarks
                             hfin:=fun fr5 L5 m5 a5 w5 q1 q2 q3 q4 q5=>X.hfin fr5 L5 m5 a5 w5 q1 q2 q3 (hE0.trans q4) q5
                             hfinR:=fun fr5 L5 m5 a5 w5 q1 q2 q3 q4 q5=>X.hfinR fr5 L5 m5 a5 w5 q1 q2 q3 (hE0.trans q4) q5 }
      have:=hk2 Y hP hΓ rfl ⟨hf1,hf2,hXR⟩ m3 { a with defers:=[{ target:=.collected w.heap.size,args:=#[] }]++a.defers } _ ⟨hW4,Z0a.mono (hE1.trans hEE).mono _ _ hR.frel,Ext.refl,rfl⟩
      rw [Za8 (B:=Y.B) (B':=X.B) k hk] at this
      exact this
    · rw [hp]
      refine wpIn_ret ?_
      rw [ZfU]
      exact X.hfinR fr _ m3 _ _ (by rw [hf2,hf1]; exact hk2) hW4 (Z0a.mono (hE1.trans hEE).mono _ _ hR.frel) hE0 hMarks
def Z7z(all:List Oper):List Oper→List AV→(List AV→Prop)→Prop
 | [],fr,K=>K fr
 | o::r,fr,K=>Z1D all fr o.guard∧Z0f all fr o.guard=false∧Z7z all r (Z1R fr o.dst (.when false (.bool false))) K
theorem Z04.skip{X:Cx}{ops:Array Oper}{k:List It}{fr:List AV}{L:Z01}{o:Oper}{l:List Oper}(hok:Z1D ops.toList fr o.guard)(hg:Z0f ops.toList fr o.guard=false)(h:Z04 X ops l k (Z1R fr o.dst (.when false (.bool false))) L):Z04 X ops (o::l) k fr L:=by
 intro m a w hR
 unfold wpListIn
 have hw:Region.wanted o (yielded ops a.tmps)=false:=by rw [Z3V hR.frel ops o hok]; exact hg
 rw [if_neg (by rw [hw]; exact Bool.false_ne_true)]
 refine⟨fun _ _=>trivial,h m _ w ⟨hR.wrel,Z2n hR.frel o.dst (x:=.when false (.bool false)) (by simp [Z03]),hR.ext,?_⟩⟩
 cases o.dst <;> exact hR.defers
theorem Z04.skipL{X:Cx}{ops:Array Oper}{k:List It}{L:Z01}{l2:List Oper}:∀(l:List Oper) (fr:List AV),Z7z ops.toList l fr (fun fr1=>Z04 X ops l2 k fr1 L)→Z04 X ops (l++l2) k fr L
 | [],_,h=>h
 | o::l,fr,⟨h1,h2,h3⟩=>Z04.skip h1 h2 (Z04.skipL l _ h3)
theorem Z04.skips{X:Cx}{ops:Array Oper}{k:List It}{fr:List AV}{L:Z01}{l:List Oper}(n:Nat)(h:Z7z ops.toList (l.take n) fr fun fr1=>Z04 X ops (l.drop n) k fr1 L):Z04 X ops l k fr L:=by
 have:=Z04.skipL (l.take n) fr h
 rwa [List.take_append_drop] at this
attribute [push_cast] Z7z
def ZfV(P:Program)(Γ:Env)(b lid:Nat)(r:Loop){ι κ:Type}(SN:ι→Z01)(ST:κ→Z01)(fr1:List AV)(L1:Z01):Prop:=
 L1[lid]?=some (Z26 b (rdy r))∧∀Y:Cx,Y.P=P→Y.Γ=Γ→Y.B.L=L1.set lid (Z26 b (bsy r))→
   (Y.fin=ZbZ (L1.set lid (Z26 b (bsy r))) SN∧Y.finR=ZbZ (L1.set lid (Z26 b (bsy r))) ST∧Y.R=some b)→Z02 Y [.code r.body] fr1 (L1.set lid (Z26 b (bsy r)))
theorem Z04.yieldM{X:Cx}{ops:Array Oper}{k:List It}{fr:List AV}{L:Z01}{o:Oper}{l:List Oper}(hg:o.guard=none){P:Program}{Γ:Env}(hP:X.P=P)(hΓ:X.Γ=Γ)
  {f:Operand} {args:Array Operand} {ts:Array TypeId} (ho:o.op=.call { callee:=.value f,args:=args,argTypes:=ts }) {b lid:Nat} {r:Loop}
  (hf:opd fr f=.lit (.func (.yield b) #[] #[])) (hL:L[lid]?=some (Z26 b (rdy r))) (hlen:args.size=r.params.size) {frC:List AV} (hC:Z0a X.B.m X.B.L frC r.tmps.toList)
  {fr0:List AV} (hfr0:Z9B frC (r.params.toList.zip (args.toList.map (opd fr)))=fr0) {ι κ:Type} (SN:ι→Z01) (ST:κ→Z01)
  (h1:∀Y:Cx,Y.P=P→Y.Γ=Γ→Y.B.L=L→Y.R=some b→Z02 Y [.code r.assign,.chk (ZfV P Γ b lid r SN ST)] fr0 L)
  (hN:∀j,(SN j)[lid]?=some (Z26 b (bsy r))∧Z04 X ops l k (Z1R fr o.dst (.bool true)) ((SN j).set lid (Z26 b (rdy r))))
  (hT:∀j,(ST j)[lid]?=some (Z26 b (bsy r))∧Z04 X ops l k (Z1R fr o.dst (.bool false)) ((ST j).set lid (Z26 b (don r)))) :
  Z04 X ops (o::l) k fr L:=
 Z04.yield hg hP hΓ ho hf hL hlen hC hfr0 (ZfV P Γ b lid r SN ST) SN ST h1 (fun _ _ h=>h) hN hT
attribute [push_cast] Z9B evK
theorem Z06.keep11{L0:Z01}{fr fr':List AV}{G:Z01}{o0 o1 o2 o3 o4 o5 o6 o7 o8 o9 o10:Z0Q}(h:leF fr fr')(hs:Z1z 11 fr'=true)(ho:[o0,o1,o2,o3,o4,o5,o6,o7,o8,o9,o10].all (Z3s 11)=true)(hn:L0.length≤11):Z06 L0 fr (o0::o1::o2::o3::o4::o5::o6::o7::o8::o9::o10::G) (fr',[o0,o1,o2,o3,o4,o5,o6,o7,o8,o9,o10]):=Z06.drop (L':=[o0,o1,o2,o3,o4,o5,o6,o7,o8,o9,o10]) (G:=G) h hs ho hn
theorem Z06.keep11A{L0:Z01}{fr fr':List AV}{G:Z01}{o0 o1 o2 o3 o4 o5 o6 o7 o8 o9 o10:Z0Q}(h:leF fr fr':=by first | exact Z17 _ | (simp only [leF,true_and,and_true,and_self]; done) | (simp [leF]; done))(hs:Z1z 11 fr'=true:=by (simp only [push_cast,reduceCtorEq,Nat.reduceAdd,Nat.reduceMul,Nat.reduceSub,Nat.reduceBEq,Nat.reduceGT,Nat.reduceLT,Int.toNat_zero,Nat.reduceLeDiff,Int.reduceEq,Int.reduceLT,Int.reduceLE]; done))(ho:[o0,o1,o2,o3,o4,o5,o6,o7,o8,o9,o10].all (Z3s 11)=true:=by first | rfl | (simp only [push_cast,reduceCtorEq,Nat.reduceAdd,Nat.reduceMul,Nat.reduceSub,Nat.reduceBEq,Nat.reduceGT,Nat.reduceLT,Int.toNat_zero,Nat.reduceLeDiff,Int.reduceEq,Int.reduceLT,Int.reduceLE]; done))(hn:L0.length≤11:=by first | decide | simp):Z06 L0 fr (o0::o1::o2::o3::o4::o5::o6::o7::o8::o9::o10::G) (fr',[o0,o1,o2,o3,o4,o5,o6,o7,o8,o9,o10]):=Z06.keep11 h hs ho hn
theorem Z06.keep12{L0:Z01}{fr fr':List AV}{G:Z01}{o0 o1 o2 o3 o4 o5 o6 o7 o8 o9 o10 o11:Z0Q}(h:leF fr fr')(hs:Z1z 12 fr'=true)(ho:[o0,o1,o2,o3,o4,o5,o6,o7,o8,o9,o10,o11].all (Z3s 12)=true)(hn:L0.length≤12):Z06 L0 fr (o0::o1::o2::o3::o4::o5::o6::o7::o8::o9::o10::o11::G) (fr',[o0,o1,o2,o3,o4,o5,o6,o7,o8,o9,o10,o11]):=Z06.drop (L':=[o0,o1,o2,o3,o4,o5,o6,o7,o8,o9,o10,o11]) (G:=G) h hs ho hn
theorem Z06.keep12A{L0:Z01}{fr fr':List AV}{G:Z01}{o0 o1 o2 o3 o4 o5 o6 o7 o8 o9 o10 o11:Z0Q}(h:leF fr fr':=by first | exact Z17 _ | (simp only [leF,true_and,and_true,and_self]; done) | (simp [leF]; done))(hs:Z1z 12 fr'=true:=by (simp only [push_cast,reduceCtorEq,Nat.reduceAdd,Nat.reduceMul,Nat.reduceSub,Nat.reduceBEq,Nat.reduceGT,Nat.reduceLT,Int.toNat_zero,Nat.reduceLeDiff,Int.reduceEq,Int.reduceLT,Int.reduceLE]; done))(ho:[o0,o1,o2,o3,o4,o5,o6,o7,o8,o9,o10,o11].all (Z3s 12)=true:=by first | rfl | (simp only [push_cast,reduceCtorEq,Nat.reduceAdd,Nat.reduceMul,Nat.reduceSub,Nat.reduceBEq,Nat.reduceGT,Nat.reduceLT,Int.toNat_zero,Nat.reduceLeDiff,Int.reduceEq,Int.reduceLT,Int.reduceLE]; done))(hn:L0.length≤12:=by first | decide | simp):Z06 L0 fr (o0::o1::o2::o3::o4::o5::o6::o7::o8::o9::o10::o11::G) (fr',[o0,o1,o2,o3,o4,o5,o6,o7,o8,o9,o10,o11]):=Z06.keep12 h hs ho hn
theorem Z06.keep13{L0:Z01}{fr fr':List AV}{G:Z01}{o0 o1 o2 o3 o4 o5 o6 o7 o8 o9 o10 o11 o12:Z0Q}(h:leF fr fr')(hs:Z1z 13 fr'=true)(ho:[o0,o1,o2,o3,o4,o5,o6,o7,o8,o9,o10,o11,o12].all (Z3s 13)=true)(hn:L0.length≤13):Z06 L0 fr (o0::o1::o2::o3::o4::o5::o6::o7::o8::o9::o10::o11::o12::G) (fr',[o0,o1,o2,o3,o4,o5,o6,o7,o8,o9,o10,o11,o12]):=Z06.drop (L':=[o0,o1,o2,o3,o4,o5,o6,o7,o8,o9,o10,o11,o12]) (G:=G) h hs ho hn
theorem Z06.keep13A{L0:Z01}{fr fr':List AV}{G:Z01}{o0 o1 o2 o3 o4 o5 o6 o7 o8 o9 o10 o11 o12:Z0Q}(h:leF fr fr':=by first | exact Z17 _ | (simp only [leF,true_and,and_true,and_self]; done) | (simp [leF]; done))(hs:Z1z 13 fr'=true:=by (simp only [push_cast,reduceCtorEq,Nat.reduceAdd,Nat.reduceMul,Nat.reduceSub,Nat.reduceBEq,Nat.reduceGT,Nat.reduceLT,Int.toNat_zero,Nat.reduceLeDiff,Int.reduceEq,Int.reduceLT,Int.reduceLE]; done))(ho:[o0,o1,o2,o3,o4,o5,o6,o7,o8,o9,o10,o11,o12].all (Z3s 13)=true:=by first | rfl | (simp only [push_cast,reduceCtorEq,Nat.reduceAdd,Nat.reduceMul,Nat.reduceSub,Nat.reduceBEq,Nat.reduceGT,Nat.reduceLT,Int.toNat_zero,Nat.reduceLeDiff,Int.reduceEq,Int.reduceLT,Int.reduceLE]; done))(hn:L0.length≤13:=by first | decide | simp):Z06 L0 fr (o0::o1::o2::o3::o4::o5::o6::o7::o8::o9::o10::o11::o12::G) (fr',[o0,o1,o2,o3,o4,o5,o6,o7,o8,o9,o10,o11,o12]):=Z06.keep13 h hs ho hn
theorem Z06.keep14{L0:Z01}{fr fr':List AV}{G:Z01}{o0 o1 o2 o3 o4 o5 o6 o7 o8 o9 o10 o11 o12 o13:Z0Q}(h:leF fr fr')(hs:Z1z 14 fr'=true)(ho:[o0,o1,o2,o3,o4,o5,o6,o7,o8,o9,o10,o11,o12,o13].all (Z3s 14)=true)(hn:L0.length≤14):Z06 L0 fr (o0::o1::o2::o3::o4::o5::o6::o7::o8::o9::o10::o11::o12::o13::G) (fr',[o0,o1,o2,o3,o4,o5,o6,o7,o8,o9,o10,o11,o12,o13]):=Z06.drop (L':=[o0,o1,o2,o3,o4,o5,o6,o7,o8,o9,o10,o11,o12,o13]) (G:=G) h hs ho hn
theorem Z06.keep14A{L0:Z01}{fr fr':List AV}{G:Z01}{o0 o1 o2 o3 o4 o5 o6 o7 o8 o9 o10 o11 o12 o13:Z0Q}(h:leF fr fr':=by first | exact Z17 _ | (simp only [leF,true_and,and_true,and_self]; done) | (simp [leF]; done))(hs:Z1z 14 fr'=true:=by (simp only [push_cast,reduceCtorEq,Nat.reduceAdd,Nat.reduceMul,Nat.reduceSub,Nat.reduceBEq,Nat.reduceGT,Nat.reduceLT,Int.toNat_zero,Nat.reduceLeDiff,Int.reduceEq,Int.reduceLT,Int.reduceLE]; done))(ho:[o0,o1,o2,o3,o4,o5,o6,o7,o8,o9,o10,o11,o12,o13].all (Z3s 14)=true:=by first | rfl | (simp only [push_cast,reduceCtorEq,Nat.reduceAdd,Nat.reduceMul,Nat.reduceSub,Nat.reduceBEq,Nat.reduceGT,Nat.reduceLT,Int.toNat_zero,Nat.reduceLeDiff,Int.reduceEq,Int.reduceLT,Int.reduceLE]; done))(hn:L0.length≤14:=by first | decide | simp):Z06 L0 fr (o0::o1::o2::o3::o4::o5::o6::o7::o8::o9::o10::o11::o12::o13::G) (fr',[o0,o1,o2,o3,o4,o5,o6,o7,o8,o9,o10,o11,o12,o13]):=Z06.keep14 h hs ho hn
theorem Z06.keep15{L0:Z01}{fr fr':List AV}{G:Z01}{o0 o1 o2 o3 o4 o5 o6 o7 o8 o9 o10 o11 o12 o13 o14:Z0Q}(h:leF fr fr')(hs:Z1z 15 fr'=true)(ho:[o0,o1,o2,o3,o4,o5,o6,o7,o8,o9,o10,o11,o12,o13,o14].all (Z3s 15)=true)(hn:L0.length≤15):Z06 L0 fr (o0::o1::o2::o3::o4::o5::o6::o7::o8::o9::o10::o11::o12::o13::o14::G) (fr',[o0,o1,o2,o3,o4,o5,o6,o7,o8,o9,o10,o11,o12,o13,o14]):=Z06.drop (L':=[o0,o1,o2,o3,o4,o5,o6,o7,o8,o9,o10,o11,o12,o13,o14]) (G:=G) h hs ho hn
theorem Z06.keep15A{L0:Z01}{fr fr':List AV}{G:Z01}{o0 o1 o2 o3 o4 o5 o6 o7 o8 o9 o10 o11 o12 o13 o14:Z0Q}(h:leF fr fr':=by first | exact Z17 _ | (simp only [leF,true_and,and_true,and_self]; done) | (simp [leF]; done))(hs:Z1z 15 fr'=true:=by (simp only [push_cast,reduceCtorEq,Nat.reduceAdd,Nat.reduceMul,Nat.reduceSub,Nat.reduceBEq,Nat.reduceGT,Nat.reduceLT,Int.toNat_zero,Nat.reduceLeDiff,Int.reduceEq,Int.reduceLT,Int.reduceLE]; done))(ho:[o0,o1,o2,o3,o4,o5,o6,o7,o8,o9,o10,o11,o12,o13,o14].all (Z3s 15)=true:=by first | rfl | (simp only [push_cast,reduceCtorEq,Nat.reduceAdd,Nat.reduceMul,Nat.reduceSub,Nat.reduceBEq,Nat.reduceGT,Nat.reduceLT,Int.toNat_zero,Nat.reduceLeDiff,Int.reduceEq,Int.reduceLT,Int.reduceLE]; done))(hn:L0.length≤15:=by first | decide | simp):Z06 L0 fr (o0::o1::o2::o3::o4::o5::o6::o7::o8::o9::o10::o11::o12::o13::o14::G) (fr',[o0,o1,o2,o3,o4,o5,o6,o7,o8,o9,o10,o11,o12,o13,o14]):=Z06.keep15 h hs ho hn
section
variable {P:Program} {m:Mem} {L:Z01} {w:World}
theorem ZbN(hW:Z0D m L w)(t tx ty:TypeId){id ver n:Nat}{u:Value}(k:IntKind)(q:Int)(hx:Z03 m L (.msl id ver 0 n) u){e:TypeId}{k0:IntKind}(hu:P.underlying t=some (.slice e))(hux:P.underlying tx=some (.int k0))
  (hek:Z2j P e=true) (hzo:Z0b (zeroA P e).cells=true) (h0:0≤q) (hf:Z14 L id ver) (hsz:Z1K L id=P.cellsOf e) (hcap:m.cap id<n+q.toNat) (hroom:(n+q.toNat)*P.bytesOf e≤140737488355328) :
  ∃u' w' m',(Builtin.append_ #[t,tx] ty #[u,.int k q]).run P w=.ok u' w'∧Z03 m' (L++[.row ((Z0L L id).take (n*P.cellsOf e)++reps q.toNat (zeroA P e).cells) (P.cellsOf e) 0]) (.msl L.length 0 0 (n+q.toNat)) u'∧
   Z0D m' (L++[.row ((Z0L L id).take (n*P.cellsOf e)++reps q.toNat (zeroA P e).cells) (P.cellsOf e) 0]) w'∧Ext m L w m' (L++[.row ((Z0L L id).take (n*P.cellsOf e)++reps q.toNat (zeroA P e).cells) (P.cellsOf e) 0]) w':=by
 obtain⟨hz,hzl,hs,hb⟩:=Z1f hek
 obtain⟨z,i,hi,hzi,hza,hzr⟩:=Z0K (w:=w) hz
 obtain⟨z',i',hi',hzi',hza',hzr'⟩:=Z0K (w:=w.drew) hz
 have hzz:z'=z:=by rw [hi] at hi'; cases hi'; rw [hzi] at hzi'; exact (Option.some.inj hzi').symm
 subst hzz
 have hzc:Z0a m L (zeroA P e).cells z'.cells.toList:=by rw [hza]; exact Z1l z'
 have hzcl:=hzc.length
 have hzs:z'.cells.size=P.cellsOf e:=by simp at hzcl; omega
 have hrel:=Z3c hzc q.toNat (by omega)
 rw [hzl] at hrel
 have hzc2:(Builtin.zeroCells z'.cells q.toNat).toList=((Array.range (q.toNat*P.cellsOf e)).map (z'.cells[· % z'.cells.size]!)).toList:=by rw [Builtin.zeroCells,hzs]
 have hvl:((Array.range (q.toNat*P.cellsOf e)).map (z'.cells[· % z'.cells.size]!)).toList.length=q.toNat*P.cellsOf e:=by simp
 have hqr:q≤140737488355328:=by
  have:(n+q.toNat)*1≤(n+q.toNat)*P.bytesOf e:=Nat.mul_le_mul_left _ hb
  omega
 have hwq:IntKind.i64.wrap q=q:=IntWalk.i64_in q (by omega)
 have hsz2:=Z0e (P:=P) (w:=w) (t:=e) (by rw [hi]; rfl)
 obtain⟨i2,hie,hcs,hby⟩:=Z3h (P:=P) (t:=e) (by rw [hi]; rfl)
 rw [hi] at hie; obtain rfl:=Option.some.inj hie
 have hti:(typeInfo e).run P w=.ok i w:=by simp [typeInfo,hi]
 have hti':(typeInfo e).run P w.drew=.ok i w.drew:=by simp [typeInfo,hi]
 have hb0:i.bytes≠0:=by rw [←hby]; omega
 have hqb:¬(281474976710656:Int)<q*i.bytes:=by
  have h1:q.toNat*P.bytesOf e≤(n+q.toNat)*P.bytesOf e:=Nat.mul_le_mul_right _ (by omega)
  have h2:(q.toNat:Int)=q:=by omega
  have h4:q.toNat*P.bytesOf e≤140737488355328:=Nat.le_trans h1 hroom
  have h5:((q.toNat*P.bytesOf e:Nat):Int)=q*i.bytes:=by rw [Int.natCast_mul,h2,hby]
  rw [←h5]
  omega
 have hqb2:¬(281474976710656:Int)<q*(P.bytesOf e:Int):=by rw [hby]; exact hqb
 have hbig:¬(9223372036854775807:Int)<(n:Int)+max q 0:=by
  have:(n+q.toNat)*1≤(n+q.toNat)*P.bytesOf e:=Nat.mul_le_mul_left _ hb
  omega
 obtain⟨cs,sz,hL,hr,hsz'⟩:=Z0H hf
 obtain⟨k1,k2,a,rfl,ha⟩:=Z0N hx hf
 have he:sz=P.cellsOf e:=by rw [←hsz',hsz]
 subst he
 rw [Nat.zero_add] at k1 k2
 rw [hr,hsz] at k1
 rw [Nat.zero_mul,Nat.sub_zero] at *
 rw [hr]
 obtain⟨us,hc,hcell,_⟩:=Z1E hW hL
 have hul:=hc.length
 obtain⟨os,hos⟩:∃os,os=us.take (n*P.cellsOf e):=⟨_,rfl⟩
 have hol:os.length=n*P.cellsOf e:=by rw [hos]; simp; omega
 have hoc:Z0a m L (cs.take (n*P.cellsOf e)) os:=by rw [hos]; exact hc.take _
 obtain⟨c,hc2⟩:∃c,c=(Question.appendCap (n+q.toNat) (m.cap id) e).cut (w.tape w.drawn (.appendCap (n+q.toNat) (m.cap id) e)):=⟨_,rfl⟩
 have hn:n+q.toNat<2 ^ 63:=by
  have:(n+q.toNat)*1≤(n+q.toNat)*P.bytesOf e:=Nat.mul_le_mul_left _ hb
  omega
 have hle:n+q.toNat≤c:=by rw [hc2]; exact Z7k _ _ _ _ hn
 have hold:(Builtin.firstCells (P.cellsOf e) n (.slice a n (m.cap id))).run P w.drew=.ok os.toArray w.drew:=by
  rcases ha with ha | ha
  ·have hn0:n=0:=by omega
   have:os=[]:=List.eq_nil_of_length_eq_zero (by rw [hol,hn0,Nat.zero_mul])
   cases a with
   | none=>simp [Builtin.firstCells,this]
   | some b=>simp only [Builtin.firstCells,hn0,Nat.zero_mul,this]; exact Z10 b
  ·subst ha
   have:=Z0R (P:=P) (w:=w.drew) (m.blk id) 0 us (n*P.cellsOf e) (by omega) (fun j v hj=>by rw [Nat.zero_add]; exact hcell j v hj)
   rw [←hos] at this
   exact this
 obtain⟨vs,hvs⟩:∃vs,vs=((Array.range (q.toNat*P.cellsOf e)).map (z'.cells[· % z'.cells.size]!)).toList:=⟨_,rfl⟩
 rw [←hvs] at hrel hvl hzc2
 have hP:Z18 w (w.drew.alloc (.cells (os.toArray++vs.toArray++Builtin.zeroCells z'.cells (c - (n+q.toNat))) e)) (.cells ((os++vs)++(Builtin.zeroCells z'.cells (c - (n+q.toNat))).toList).toArray e (0,0)):=by
  have:(os.toArray++vs.toArray++Builtin.zeroCells z'.cells (c - (n+q.toNat)))=((os++vs)++(Builtin.zeroCells z'.cells (c - (n+q.toNat))).toList).toArray:=by simp
  rw [this]; exact⟨rfl,rfl,rfl,rfl⟩
 have hlen:(os++vs).length+(Builtin.zeroCells z'.cells (c - (n+q.toNat))).toList.length=c*P.cellsOf e:=by
  rw [Z1k,hzs,List.length_append,hol,hvl,←Nat.add_mul,←Nat.add_mul]; congr 1; omega
 have hnk:¬n+q.toNat≤m.cap id:=by omega
 have hfits:=growslice_fits (need:=n+q.toNat) (old:=m.cap id) (bytes:=P.bytesOf e) (by omega) hroom
 have hva:vs.toArray=Builtin.zeroCells z'.cells q.toNat:=by rw [←hzc2]
 refine⟨.slice (some ⟨w.heap.size,0,none⟩) (n+q.toNat) c,_,m.put L.length w.heap.size c,?_,?_,Z2u hW hP (hoc.append hrel) hlen (.inl rfl),Z1r _ _ hP.keep⟩
 ·rw [hva,hc2]
  have hq0:¬q.toNat=0:=by omega
  have hqc:¬q.toNat*P.cellsOf e=0:=Nat.mul_ne_zero hq0 (by omega)
  simp [Builtin.append_,Z00 hu,hsz2,Z00 hux,asInt,asIntOf,hwq,show ¬q<0 by omega,hti,hti',hqb,hqb2,hbig,hnk,hb0,←hby,show ¬281474976710656<Builtin.nextslicecap (n+q.toNat) (m.cap id)*P.bytesOf e by omega,Question.forced,hzr',hold,newRow,hqc,hq0]
 ·have hcl:=(hoc.append hrel).length
  rw [List.length_append,hol,hvl,←Nat.add_mul] at hcl
  exact Z4z _ _ _ _ _ (by rw [←hcl]; exact Nat.le_refl _) hle
end
section
variable {X:Cx} {k:List It} {fr:List AV} {L:Z01}
theorem RS.cap{B:Z8f}{m:Mem}{a:Act}{w:World}(hR:RS B fr L m a w){id ver sz:Nat}{cs csB:List AV}(hL:L[id]?=some (.row cs sz ver))(hB:B.L[id]?=some (.row csB sz ver)):m.cap id=B.m.cap id:=by
 obtain⟨cs',ver',hL',hv,hk⟩:=hR.ext.mono.row _ _ _ _ hB
 rw [hL] at hL'
 simp only [Option.some.injEq,Z0Q.row.injEq] at hL'
 obtain⟨rfl,_,rfl⟩:=hL'
 exact (hk rfl).2.2
theorem Z4f{L:Z01}{id ver sz:Nat}{cs:List AV}(hL:L[id]?=some (.row cs sz ver)):Z14 L id ver:=by
 simp [Z14,isRow,Z1t,hL]
theorem Zj2{o:Oper}{x:Operand}{t e:TypeId}(ho:o.op=.call { callee:=.builtin .cap,args:=#[x],argTypes:=#[t] })(ht:X.P.underlying t=some (.slice e)){id ver n sz:Nat}{cs csB:List AV}(hx:opd fr x=.msl id ver 0 n)
  (hL:L[id]?=some (.row cs sz ver)) (hB:X.B.L[id]?=some (.row csB sz ver)):Z8e X fr L o fun v L'=>v=.int .i64 (X.B.m.cap id:Nat)∧L'=L∧n≤X.B.m.cap id:=by
 intro m a w hR
 have hu:=Z0Z hR.frel x
 rw [hx] at hu
 obtain⟨k1,k2,b,hub,_⟩:=Z0N hu (Z4f hL)
 have hc:=hR.cap hL hB
 rw [Nat.zero_add] at k2
 rw [Nat.sub_zero] at hub
 refine⟨.int .i64 (m.cap id:Nat),L,.int .i64 (m.cap id:Nat),w,m,?_,by simp [Z03],hR.wrel,Ext.refl,by rw [hc],rfl,by omega⟩
 simp [execOp,ho,resolve,invoke,builtin,Builtin.cap_,Z00 ht,hub,goInt]
theorem ZgS{o:Oper}{x y:Operand}{t e:TypeId}(ho:o.op=.slice t x none (some y) none)(ht:X.P.underlying t=some (.slice e))(hie:(X.P.info? e).isSome=true){id ver n j sz:Nat}{cs csB:List AV}(hx:opd fr x=.msl id ver 0 n)
  (hy:opd fr y=.int .i64 ((j:Nat):Int)) (hL:L[id]?=some (.row cs sz ver)) (hB:X.B.L[id]?=some (.row csB sz ver)) (hsz:sz=X.P.cellsOf e) (hs0:0<sz) (hcs:cs.length=n*sz) (hnj:n≤j) (hj:j≤X.B.m.cap id) (hj0:0<j) :
  Z8e X fr L o fun v L'=>v=.msl id (ver+1) 0 j∧L'=L.set id (.row (cs++List.replicate ((j - n)*sz) .any) sz (ver+1)):=by
 intro m a w hR
 have hlt:id<L.length:=(List.getElem?_eq_some_iff.1 hL).1
 have hu:=Z0Z hR.frel x
 rw [hx] at hu
 obtain⟨k1,k2,b,hub,hbb⟩:=Z0N hu (Z4f hL)
 have hc:=hR.cap hL hB
 rw [Nat.sub_zero] at hub
 have hcap:m.cap id≠0:=by omega
 have hb:b=some ⟨m.blk id,0,none⟩:=by
  rcases hbb with h | h
  ·omega
  ·rw [h,Nat.zero_mul]
 subst hb
 have hyv:a.eval y=.int .i64 ((j:Nat):Int):=by
  have:=Z0Z hR.frel y
  rw [hy] at this
  simpa only [Z03] using this
 have hbd:(Instr.sliceBounds true n (m.cap id) none (some (.int .i64 ((j:Nat):Int))) none).run X.P w=.ok (0,j,m.cap id) w:=by
  simp [Instr.sliceBounds,Instr.sliceBound,asIntOf,show ¬m.cap id<j by omega]
 obtain⟨us,rest,elem,lo,hi,hblk,hcr,hlen,hfz⟩:=hR.wrel.rows _ _ _ _ hL hcap
 have hul:=hcr.length
 have hmul:j*sz≤m.cap id*sz:=Nat.mul_le_mul_right _ (by omega)
 have hjn:(j - n)*sz+n*sz=j*sz:=by rw [←Nat.add_mul]; congr 1; omega
 have hsplit:us++rest=(us++rest.take ((j - n)*sz))++rest.drop ((j - n)*sz):=by rw [List.append_assoc,List.take_append_drop]
 have hCh:Chg w w (m.blk id) (.cells ((us++rest.take ((j - n)*sz))++rest.drop ((j - n)*sz)).toArray elem (lo,hi)):=by rw [←hsplit]; exact Z7C w _ hblk
 have hany:Z0a m L (List.replicate ((j - n)*sz) .any) (rest.take ((j - n)*sz)):=Z0a.mk (by simp; omega) fun i c u hc' _=>by
  have:=List.mem_of_getElem? hc'
  rw [(List.mem_replicate.1 this).2]
  simp [Z03]
 obtain⟨t1,t2⟩:=Z2Y hR.wrel hL (cs:=cs++List.replicate ((j - n)*sz) .any) (ver':=ver+1) (g:=m.blk id) (c:=m.cap id) (.inl ⟨rfl,hcap⟩) hCh (hcr.append hany) (by simp; omega) hfz hcap (.inr rfl)
 refine⟨.msl id (ver+1) 0 j,L.set id (.row (cs++List.replicate ((j - n)*sz) .any) sz (ver+1)),.slice (some ⟨m.blk id,0,none⟩) j (m.cap id),w,m.put id (m.blk id) (m.cap id),?_,?_,t1,t2,rfl,rfl⟩
 ·have hsd:slicedAt (⟨m.blk id,0,none⟩:Addr) 0 j (m.cap id) (X.P.cellsOf e)=.slice (some ⟨m.blk id,0,none⟩) j (m.cap id):=by
   unfold slicedAt; split <;> simp [Addr.add]
  simp [execOp,ho,Instr.sliceAt,Z00 ht,Instr.slice,hub,hyv,hbd,Z0e hie,hcap,Addr.add]
 ·simp only [Z03]
  refine⟨cs++List.replicate ((j - n)*sz) .any,sz,ver+1,by simp [hlt],Nat.le_refl _,⟨_,_,_,rfl⟩,fun _=>⟨by simp; omega,by simp [Mem.put]; omega,some ⟨m.blk id,0,none⟩,by simp [Mem.put],.inr (by simp [Mem.put])⟩⟩
theorem ZgU{o:Oper}{x y:Operand}{t tx e:TypeId}{k0:IntKind}(ho:o.op=.call { callee:=.builtin .append,args:=#[x,y],argTypes:=#[t,tx] })(ht:X.P.underlying t=some (.slice e))(htx:X.P.underlying tx=some (.int k0))
  (hek:Z2j X.P e=true) (hzo:Z0b (zeroA X.P e).cells=true) {id ver n q sz:Nat} {cs csB:List AV} (hx:opd fr x=.msl id ver 0 n) (hy:opd fr y=.int .i64 ((q:Nat):Int)) (hL:L[id]?=some (.row cs sz ver)) (hB:X.B.L[id]?=some (.row csB sz ver))
  (hsz:sz=X.P.cellsOf e) (hcap:X.B.m.cap id<n+q) (hroom:(n+q)*X.P.bytesOf e≤140737488355328) :
  Z8e X fr L o fun v L'=>v=.msl L.length 0 0 (n+q)∧L'=L++[.row (cs.take (n*sz)++reps q (zeroA X.P e).cells) sz 0]:=by
 intro m a w hR
 have hu:=Z0Z hR.frel x
 rw [hx] at hu
 have hc:=hR.cap hL hB
 have hyv:a.eval y=.int .i64 ((q:Nat):Int):=by
  have:=Z0Z hR.frel y
  rw [hy] at this
  simpa only [Z03] using this
 have hro:Z0L L id=cs:=by simp [Z0L,hL]
 have hso:Z1K L id=X.P.cellsOf e:=by simp [Z1K,hL,hsz]
 obtain⟨u',w',m',h1,h2,h3,h4⟩:=ZbN (P:=X.P) hR.wrel t tx o.type .i64 ((q:Nat):Int) hu ht htx hek hzo (by omega) (Z4f hL) hso (by rw [Int.toNat_natCast]; omega) (by rw [Int.toNat_natCast]; exact hroom)
 rw [hro,Int.toNat_natCast,←hsz] at h2 h3 h4
 refine⟨_,_,u',w',m',?_,h2,h3,h4,rfl,rfl⟩
 simp [execOp,ho,resolve,invoke,builtin,hyv,h1]
theorem Zdt{o:Oper}{x y:Operand}{g:FuncId}{ts:Array TypeId}{tS tR e:TypeId}(ho:o.op=.call { callee:=.value (.func g),args:=#[x,y],argTypes:=ts })
  (hcall:∀(args:Array Value) (w:World),(callFunc g args).run X.P w=((Extern.SlicesOverlaps.overlaps #[tS,tS] #[tR] args).run X.P w).andThen fun v w'=>.ok (.value v) w')
  (ht:X.P.underlying tS=some (.slice e)) (hie:(X.P.info? e).isSome=true) {i1 v1 n1 i2 v2 off n2 sz:Nat} {c1 c2:List AV} (hx:opd fr x=.msl i1 v1 0 n1) (hy:opd fr y=.msl i2 v2 off n2)
  (h1:L[i1]?=some (.row c1 sz v1)) (h2:L[i2]?=some (.row c2 sz v2)) (hne:i1≠i2) (hsz:1<sz) (hn1:0<n1) (hn2:0<n2):Z8e X fr L o fun v L'=>v=.bool false∧L'=L:=by
 intro m a w hR
 have hux:=Z0Z hR.frel x
 have huy:=Z0Z hR.frel y
 rw [hx] at hux
 rw [hy] at huy
 obtain⟨k1,k2,b1,hub1,hb1⟩:=Z0N hux (Z4f h1)
 obtain⟨l1,l2,b2,hub2,hb2⟩:=Z0N huy (Z4f h2)
 have hz2:Z1K L i2=sz:=by simp [Z1K,h2]
 have hc1:m.cap i1≠0:=by omega
 have hc2:m.cap i2≠0:=by omega
 obtain rfl:b1=some ⟨m.blk i1,0,none⟩:=by
  rcases hb1 with h | h
  ·omega
  ·rw [h,Nat.zero_mul]
 obtain rfl:b2=some ⟨m.blk i2,off*sz,none⟩:=by
  rcases hb2 with h | h
  ·omega
  ·rw [h,hz2]
 obtain⟨us1,r1,e1,lo1,hi1,q1,_,ql1,qf1⟩:=hR.wrel.rows _ _ _ _ h1 hc1
 obtain⟨us2,r2,e2,lo2,hi2,q2,_,ql2,qf2⟩:=hR.wrel.rows _ _ _ _ h2 hc2
 have hbne:m.blk i1≠m.blk i2:=fun he=>hne (hR.wrel.inj _ _ (.inl ⟨_,_,_,h1,hc1⟩) (.inl ⟨_,_,_,h2,hc2⟩) he)
 have hk2:(us2++r2).toArray.size≠0:=by
  have:0<m.cap i2*sz:=Nat.mul_pos (by omega) (by omega)
  simp only [List.size_toArray,List.length_append]; omega
 obtain rfl:hi1=lo1:=by
  rcases qf1 with h | ⟨_,h⟩
  ·exact h
  ·omega
 refine⟨.bool false,L,.bool false,w,m,?_,by simp [Z03],hR.wrel,Ext.refl,rfl,rfl⟩
 have hov:=Lib.run_overlaps_apart (P:=X.P) w tS tR e ht (X.P.cellsOf e) (fun w=>Z0e hie) ⟨m.blk i1,0,none⟩ ⟨m.blk i2,off*sz,none⟩ n1 (m.cap i1) n2 (m.cap i2 - off) hbne e1 e2 (us1++r1).toArray.size (us2++r2).toArray.size
  (by simp [World.shape?,q1]) (by simp [World.shape?,q2]) hk2 (by simp [World.frozen?,q1]) (by simp [World.frozen?,q1])
 rw [Nat.sub_zero] at hub1
 have hev:a.eval (.func g)=.func (.func g) #[] #[]:=rfl
 simp [execOp,ho,resolve,hev,Deferred.ofValue,invoke,hcall,hub1,hub2,hov]
theorem Z02.moved{X:Cx}{k:List It}{fr fr':List AV}{L L':Z01}(ids:List Nat)(i0:Nat){csB cs':List AV}{sz vB v':Nat}(h1:leF fr (renL (fun i=>ids.getD i i) fr'))(h2:(ids.map fun i=>L[i]?)=(L'.map fun o=>some (Z1m (fun i=>ids.getD i i) o)))(h3:ids.Nodup)
  (h4:∀i,i<X.B.L.length→i≠i0→ids.getD i i=i) (h5:X.B.L.length≤ids.getD i0 i0) (h6:Z1z L'.length fr'=true) (h7:L'.all (Z3s L'.length)=true) (h8:X.B.L.length≤L'.length)
  (hB:X.B.L[i0]?=some (.row csB sz vB)) (hL':L'[i0]?=some (.row cs' sz v')) (hv:vB<v') (h9:i0∉ids) (h:Z02 X k fr' L'):Z02 X k fr L:=by
 intro m a w hR
 have hw:Zc3 0 ids fr L fr' L':=⟨h1,h2,h3,by simp,h6,h7⟩
 have H:=hw.renamed m
 have hlen:=hw.len
 refine h _ a w ⟨Z0D.ren H h7 hR.wrel,Z0a.ren H _ _ (Z6m h1 hR.frel) h6,?_,hR.defers⟩
 have hE:=hR.ext
 have hi0:i0<X.B.L.length:=(List.getElem?_eq_some_iff.1 hB).1
 have hnot:∀id,id<L'.length→ids.getD id id≠i0:=fun id hl he=>by
  have:ids.getD id id∈ids:=by simp [List.getD,show id<ids.length by omega]
  rw [he] at this
  exact h9 this
 have hfix:∀id,id<L'.length→ids.getD id id<X.B.L.length→id=ids.getD id id:=fun id hl hlt=>by
  have hn:=hnot id hl
  exact H.inj _ _ hl (by omega) (by rw [h4 _ hlt hn])
 refine⟨hE.frame,hE.size,hE.newobj,fun id hl=>?_,h8,⟨hE.mono.pobj,fun id cs sz2 ver hL=>?_,fun id r hL=>?_⟩,hE.same,fun id g k=>?_⟩
 ·obtain⟨g1,g2⟩:=H.own hl
  rcases hE.blks _ g1 with ⟨g3,g4⟩ | g3
  ·left
   have hlt:ids.getD id id<X.B.L.length:=by
    rcases g3 with ⟨_,_,_,h,_⟩ | ⟨_,h⟩ <;> exact (List.getElem?_eq_some_iff.1 h).1
   have:=hfix id g2 hlt
   rw [←this] at g3
   exact⟨g3,by show m.blk (ids.getD id id)=_; rw [←this] at g4 ⊢; exact g4⟩
  ·exact .inr g3
 ·have hlt:=(List.getElem?_eq_some_iff.1 hL).1
  by_cases hi:id=i0
  ·subst hi
   rw [hB] at hL
   simp only [Option.some.injEq,Z0Q.row.injEq] at hL
   obtain⟨rfl,rfl,rfl⟩:=hL
   exact⟨cs',v',hL',by omega,fun e=>by omega⟩
  obtain⟨cs1,ver',hL1,hv1,hk⟩:=hE.mono.row _ _ _ _ hL
  obtain⟨o,ho⟩:∃o,L'[id]?=some o:=⟨L'[id]'(by omega),by simp⟩
  have:=H.obj id o ho
  simp only [h4 id hlt hi] at this
  rw [hL1] at this
  cases o with
  | row cs2 sz2 v2=>
   simp only [Z1m,Option.some.injEq,Z0Q.row.injEq] at this
   obtain⟨rfl,rfl,rfl⟩:=this
   refine⟨cs2,ver',ho,hv1,fun e=>?_⟩
   obtain⟨k1,k2,k3⟩:=hk e
   rw [Z2m,List.length_map] at k1
   simp only [h4 id hlt hi]
   exact⟨k1,k2,k3⟩
  | raw r=>simp [Z1m] at this
  | dead=>simp [Z1m] at this
 ·have hlt:=(List.getElem?_eq_some_iff.1 hL).1
  have hi:id≠i0:=fun he=>by rw [he,hB] at hL; cases hL
  obtain⟨r',hL1,hk⟩:=hE.mono.iter _ _ hL
  obtain⟨o,ho⟩:∃o,L'[id]?=some o:=⟨L'[id]'(by omega),by simp⟩
  have:=H.obj id o ho
  simp only [h4 id hlt hi] at this
  rw [hL1] at this
  cases o with
  | row cs2 sz2 v2=>simp [Z1m] at this
  | raw r=>exact⟨r,ho,by simp only [h4 id hlt hi]; exact hk⟩
  | dead=>simp [Z1m] at this
 ·obtain⟨g1,g2⟩:=H.hid k
  rcases hE.hnew _ _ g1 with g3 | g3
  ·left
   have hlt:ids.getD id id<X.B.L.length:=by
    obtain⟨_,_,_,h,_⟩:=g3
    exact (List.getElem?_eq_some_iff.1 h).1
   have:=hfix id g2 hlt
   rw [←this] at g3
   exact g3
  ·exact .inr g3
end
theorem cj2{A1 A2:Prop}(a1:A1)(a2:A2):A1∧A2:=⟨a1,a2⟩
theorem cj3{A1 A2 A3:Prop}(a1:A1)(a2:A2)(a3:A3):A1∧A2∧A3:=⟨a1,a2,a3⟩
theorem cj4{A1 A2 A3 A4:Prop}(a1:A1)(a2:A2)(a3:A3)(a4:A4):A1∧A2∧A3∧A4:=⟨a1,a2,a3,a4⟩
theorem cj5{A1 A2 A3 A4 A5:Prop}(a1:A1)(a2:A2)(a3:A3)(a4:A4)(a5:A5):A1∧A2∧A3∧A4∧A5:=⟨a1,a2,a3,a4,a5⟩
theorem cj6{A1 A2 A3 A4 A5 A6:Prop}(a1:A1)(a2:A2)(a3:A3)(a4:A4)(a5:A5)(a6:A6):A1∧A2∧A3∧A4∧A5∧A6:=⟨a1,a2,a3,a4,a5,a6⟩
theorem cj7{A1 A2 A3 A4 A5 A6 A7:Prop}(a1:A1)(a2:A2)(a3:A3)(a4:A4)(a5:A5)(a6:A6)(a7:A7):A1∧A2∧A3∧A4∧A5∧A6∧A7:=⟨a1,a2,a3,a4,a5,a6,a7⟩
theorem cj8{A1 A2 A3 A4 A5 A6 A7 A8:Prop}(a1:A1)(a2:A2)(a3:A3)(a4:A4)(a5:A5)(a6:A6)(a7:A7)(a8:A8):A1∧A2∧A3∧A4∧A5∧A6∧A7∧A8:=⟨a1,a2,a3,a4,a5,a6,a7,a8⟩
theorem cj9{A1 A2 A3 A4 A5 A6 A7 A8 A9:Prop}(a1:A1)(a2:A2)(a3:A3)(a4:A4)(a5:A5)(a6:A6)(a7:A7)(a8:A8)(a9:A9):A1∧A2∧A3∧A4∧A5∧A6∧A7∧A8∧A9:=⟨a1,a2,a3,a4,a5,a6,a7,a8,a9⟩
theorem Zkm{A1 A2 A3 A4 A5 A6 A7 A8 A9 A10:Prop}(a1:A1)(a2:A2)(a3:A3)(a4:A4)(a5:A5)(a6:A6)(a7:A7)(a8:A8)(a9:A9)(a10:A10):A1∧A2∧A3∧A4∧A5∧A6∧A7∧A8∧A9∧A10:=⟨a1,a2,a3,a4,a5,a6,a7,a8,a9,a10⟩
theorem Ziy{A1 A2 A3 A4 A5 A6 A7 A8 A9 A10 A11:Prop}(a1:A1)(a2:A2)(a3:A3)(a4:A4)(a5:A5)(a6:A6)(a7:A7)(a8:A8)(a9:A9)(a10:A10)(a11:A11):A1∧A2∧A3∧A4∧A5∧A6∧A7∧A8∧A9∧A10∧A11:=⟨a1,a2,a3,a4,a5,a6,a7,a8,a9,a10,a11⟩
theorem Z9a{A1 A2 A3 A4 A5 A6 A7 A8 A9 A10 A11 A12:Prop}(a1:A1)(a2:A2)(a3:A3)(a4:A4)(a5:A5)(a6:A6)(a7:A7)(a8:A8)(a9:A9)(a10:A10)(a11:A11)(a12:A12):A1∧A2∧A3∧A4∧A5∧A6∧A7∧A8∧A9∧A10∧A11∧A12:=⟨a1,a2,a3,a4,a5,a6,a7,a8,a9,a10,a11,a12⟩
theorem ZhD{A1 A2 A3 A4 A5 A6 A7 A8 A9 A10 A11 A12 A13:Prop}(a1:A1)(a2:A2)(a3:A3)(a4:A4)(a5:A5)(a6:A6)(a7:A7)(a8:A8)(a9:A9)(a10:A10)(a11:A11)(a12:A12)(a13:A13):A1∧A2∧A3∧A4∧A5∧A6∧A7∧A8∧A9∧A10∧A11∧A12∧A13:=⟨a1,a2,a3,a4,a5,a6,a7,a8,a9,a10,a11,a12,a13⟩
theorem ZhC{A1 A2 A3 A4 A5 A6 A7 A8 A9 A10 A11 A12 A13 A14:Prop}(a1:A1)(a2:A2)(a3:A3)(a4:A4)(a5:A5)(a6:A6)(a7:A7)(a8:A8)(a9:A9)(a10:A10)(a11:A11)(a12:A12)(a13:A13)(a14:A14):A1∧A2∧A3∧A4∧A5∧A6∧A7∧A8∧A9∧A10∧A11∧A12∧A13∧A14:=⟨a1,a2,a3,a4,a5,a6,a7,a8,a9,a10,a11,a12,a13,a14⟩
theorem Zk8{A1 A2 A3 A4 A5 A6 A7 A8 A9 A10 A11 A12 A13 A14 A15:Prop}(a1:A1)(a2:A2)(a3:A3)(a4:A4)(a5:A5)(a6:A6)(a7:A7)(a8:A8)(a9:A9)(a10:A10)(a11:A11)(a12:A12)(a13:A13)(a14:A14)(a15:A15):A1∧A2∧A3∧A4∧A5∧A6∧A7∧A8∧A9∧A10∧A11∧A12∧A13∧A14∧A15:=⟨a1,a2,a3,a4,a5,a6,a7,a8,a9,a10,a11,a12,a13,a14,a15⟩
theorem Zk7{A1 A2 A3 A4 A5 A6 A7 A8 A9 A10 A11 A12 A13 A14 A15 A16:Prop}(a1:A1)(a2:A2)(a3:A3)(a4:A4)(a5:A5)(a6:A6)(a7:A7)(a8:A8)(a9:A9)(a10:A10)(a11:A11)(a12:A12)(a13:A13)(a14:A14)(a15:A15)(a16:A16):A1∧A2∧A3∧A4∧A5∧A6∧A7∧A8∧A9∧A10∧A11∧A12∧A13∧A14∧A15∧A16:=⟨a1,a2,a3,a4,a5,a6,a7,a8,a9,a10,a11,a12,a13,a14,a15,a16⟩
theorem ZmF{A1 A2 A3 A4 A5 A6 A7 A8 A9 A10 A11 A12 A13 A14 A15 A16 A17:Prop}(a1:A1)(a2:A2)(a3:A3)(a4:A4)(a5:A5)(a6:A6)(a7:A7)(a8:A8)(a9:A9)(a10:A10)(a11:A11)(a12:A12)(a13:A13)(a14:A14)(a15:A15)(a16:A16)(a17:A17):A1∧A2∧A3∧A4∧A5∧A6∧A7∧A8∧A9∧A10∧A11∧A12∧A13∧A14∧A15∧A16∧A17:=⟨a1,a2,a3,a4,a5,a6,a7,a8,a9,a10,a11,a12,a13,a14,a15,a16,a17⟩
theorem Zp2{A1 A2 A3 A4 A5 A6 A7 A8 A9 A10 A11 A12 A13 A14 A15 A16 A17 A18:Prop}(a1:A1)(a2:A2)(a3:A3)(a4:A4)(a5:A5)(a6:A6)(a7:A7)(a8:A8)(a9:A9)(a10:A10)(a11:A11)(a12:A12)(a13:A13)(a14:A14)(a15:A15)(a16:A16)(a17:A17)(a18:A18):A1∧A2∧A3∧A4∧A5∧A6∧A7∧A8∧A9∧A10∧A11∧A12∧A13∧A14∧A15∧A16∧A17∧A18:=⟨a1,a2,a3,a4,a5,a6,a7,a8,a9,a10,a11,a12,a13,a14,a15,a16,a17,a18⟩
theorem cj19{A1 A2 A3 A4 A5 A6 A7 A8 A9 A10 A11 A12 A13 A14 A15 A16 A17 A18 A19:Prop}(a1:A1)(a2:A2)(a3:A3)(a4:A4)(a5:A5)(a6:A6)(a7:A7)(a8:A8)(a9:A9)(a10:A10)(a11:A11)(a12:A12)(a13:A13)(a14:A14)(a15:A15)(a16:A16)(a17:A17)(a18:A18)(a19:A19):A1∧A2∧A3∧A4∧A5∧A6∧A7∧A8∧A9∧A10∧A11∧A12∧A13∧A14∧A15∧A16∧A17∧A18∧A19:=⟨a1,a2,a3,a4,a5,a6,a7,a8,a9,a10,a11,a12,a13,a14,a15,a16,a17,a18,a19⟩
theorem cj20{A1 A2 A3 A4 A5 A6 A7 A8 A9 A10 A11 A12 A13 A14 A15 A16 A17 A18 A19 A20:Prop}(a1:A1)(a2:A2)(a3:A3)(a4:A4)(a5:A5)(a6:A6)(a7:A7)(a8:A8)(a9:A9)(a10:A10)(a11:A11)(a12:A12)(a13:A13)(a14:A14)(a15:A15)(a16:A16)(a17:A17)(a18:A18)(a19:A19)(a20:A20):A1∧A2∧A3∧A4∧A5∧A6∧A7∧A8∧A9∧A10∧A11∧A12∧A13∧A14∧A15∧A16∧A17∧A18∧A19∧A20:=⟨a1,a2,a3,a4,a5,a6,a7,a8,a9,a10,a11,a12,a13,a14,a15,a16,a17,a18,a19,a20⟩
theorem cj21{A1 A2 A3 A4 A5 A6 A7 A8 A9 A10 A11 A12 A13 A14 A15 A16 A17 A18 A19 A20 A21:Prop}(a1:A1)(a2:A2)(a3:A3)(a4:A4)(a5:A5)(a6:A6)(a7:A7)(a8:A8)(a9:A9)(a10:A10)(a11:A11)(a12:A12)(a13:A13)(a14:A14)(a15:A15)(a16:A16)(a17:A17)(a18:A18)(a19:A19)(a20:A20)(a21:A21):A1∧A2∧A3∧A4∧A5∧A6∧A7∧A8∧A9∧A10∧A11∧A12∧A13∧A14∧A15∧A16∧A17∧A18∧A19∧A20∧A21:=⟨a1,a2,a3,a4,a5,a6,a7,a8,a9,a10,a11,a12,a13,a14,a15,a16,a17,a18,a19,a20,a21⟩
theorem cj22{A1 A2 A3 A4 A5 A6 A7 A8 A9 A10 A11 A12 A13 A14 A15 A16 A17 A18 A19 A20 A21 A22:Prop}(a1:A1)(a2:A2)(a3:A3)(a4:A4)(a5:A5)(a6:A6)(a7:A7)(a8:A8)(a9:A9)(a10:A10)(a11:A11)(a12:A12)(a13:A13)(a14:A14)(a15:A15)(a16:A16)(a17:A17)(a18:A18)(a19:A19)(a20:A20)(a21:A21)(a22:A22):A1∧A2∧A3∧A4∧A5∧A6∧A7∧A8∧A9∧A10∧A11∧A12∧A13∧A14∧A15∧A16∧A17∧A18∧A19∧A20∧A21∧A22:=⟨a1,a2,a3,a4,a5,a6,a7,a8,a9,a10,a11,a12,a13,a14,a15,a16,a17,a18,a19,a20,a21,a22⟩
theorem cj23{A1 A2 A3 A4 A5 A6 A7 A8 A9 A10 A11 A12 A13 A14 A15 A16 A17 A18 A19 A20 A21 A22 A23:Prop}(a1:A1)(a2:A2)(a3:A3)(a4:A4)(a5:A5)(a6:A6)(a7:A7)(a8:A8)(a9:A9)(a10:A10)(a11:A11)(a12:A12)(a13:A13)(a14:A14)(a15:A15)(a16:A16)(a17:A17)(a18:A18)(a19:A19)(a20:A20)(a21:A21)(a22:A22)(a23:A23):A1∧A2∧A3∧A4∧A5∧A6∧A7∧A8∧A9∧A10∧A11∧A12∧A13∧A14∧A15∧A16∧A17∧A18∧A19∧A20∧A21∧A22∧A23:=⟨a1,a2,a3,a4,a5,a6,a7,a8,a9,a10,a11,a12,a13,a14,a15,a16,a17,a18,a19,a20,a21,a22,a23⟩
theorem cj24{A1 A2 A3 A4 A5 A6 A7 A8 A9 A10 A11 A12 A13 A14 A15 A16 A17 A18 A19 A20 A21 A22 A23 A24:Prop}(a1:A1)(a2:A2)(a3:A3)(a4:A4)(a5:A5)(a6:A6)(a7:A7)(a8:A8)(a9:A9)(a10:A10)(a11:A11)(a12:A12)(a13:A13)(a14:A14)(a15:A15)(a16:A16)(a17:A17)(a18:A18)(a19:A19)(a20:A20)(a21:A21)(a22:A22)(a23:A23)(a24:A24):A1∧A2∧A3∧A4∧A5∧A6∧A7∧A8∧A9∧A10∧A11∧A12∧A13∧A14∧A15∧A16∧A17∧A18∧A19∧A20∧A21∧A22∧A23∧A24:=⟨a1,a2,a3,a4,a5,a6,a7,a8,a9,a10,a11,a12,a13,a14,a15,a16,a17,a18,a19,a20,a21,a22,a23,a24⟩
theorem cj25{A1 A2 A3 A4 A5 A6 A7 A8 A9 A10 A11 A12 A13 A14 A15 A16 A17 A18 A19 A20 A21 A22 A23 A24 A25:Prop}(a1:A1)(a2:A2)(a3:A3)(a4:A4)(a5:A5)(a6:A6)(a7:A7)(a8:A8)(a9:A9)(a10:A10)(a11:A11)(a12:A12)(a13:A13)(a14:A14)(a15:A15)(a16:A16)(a17:A17)(a18:A18)(a19:A19)(a20:A20)(a21:A21)(a22:A22)(a23:A23)(a24:A24)(a25:A25):A1∧A2∧A3∧A4∧A5∧A6∧A7∧A8∧A9∧A10∧A11∧A12∧A13∧A14∧A15∧A16∧A17∧A18∧A19∧A20∧A21∧A22∧A23∧A24∧A25:=⟨a1,a2,a3,a4,a5,a6,a7,a8,a9,a10,a11,a12,a13,a14,a15,a16,a17,a18,a19,a20,a21,a22,a23,a24,a25⟩
theorem cj26{A1 A2 A3 A4 A5 A6 A7 A8 A9 A10 A11 A12 A13 A14 A15 A16 A17 A18 A19 A20 A21 A22 A23 A24 A25 A26:Prop}(a1:A1)(a2:A2)(a3:A3)(a4:A4)(a5:A5)(a6:A6)(a7:A7)(a8:A8)(a9:A9)(a10:A10)(a11:A11)(a12:A12)(a13:A13)(a14:A14)(a15:A15)(a16:A16)(a17:A17)(a18:A18)(a19:A19)(a20:A20)(a21:A21)(a22:A22)(a23:A23)(a24:A24)(a25:A25)(a26:A26):A1∧A2∧A3∧A4∧A5∧A6∧A7∧A8∧A9∧A10∧A11∧A12∧A13∧A14∧A15∧A16∧A17∧A18∧A19∧A20∧A21∧A22∧A23∧A24∧A25∧A26:=⟨a1,a2,a3,a4,a5,a6,a7,a8,a9,a10,a11,a12,a13,a14,a15,a16,a17,a18,a19,a20,a21,a22,a23,a24,a25,a26⟩
theorem cj27{A1 A2 A3 A4 A5 A6 A7 A8 A9 A10 A11 A12 A13 A14 A15 A16 A17 A18 A19 A20 A21 A22 A23 A24 A25 A26 A27:Prop}(a1:A1)(a2:A2)(a3:A3)(a4:A4)(a5:A5)(a6:A6)(a7:A7)(a8:A8)(a9:A9)(a10:A10)(a11:A11)(a12:A12)(a13:A13)(a14:A14)(a15:A15)(a16:A16)(a17:A17)(a18:A18)(a19:A19)(a20:A20)(a21:A21)(a22:A22)(a23:A23)(a24:A24)(a25:A25)(a26:A26)(a27:A27):A1∧A2∧A3∧A4∧A5∧A6∧A7∧A8∧A9∧A10∧A11∧A12∧A13∧A14∧A15∧A16∧A17∧A18∧A19∧A20∧A21∧A22∧A23∧A24∧A25∧A26∧A27:=⟨a1,a2,a3,a4,a5,a6,a7,a8,a9,a10,a11,a12,a13,a14,a15,a16,a17,a18,a19,a20,a21,a22,a23,a24,a25,a26,a27⟩
theorem cj28{A1 A2 A3 A4 A5 A6 A7 A8 A9 A10 A11 A12 A13 A14 A15 A16 A17 A18 A19 A20 A21 A22 A23 A24 A25 A26 A27 A28:Prop}(a1:A1)(a2:A2)(a3:A3)(a4:A4)(a5:A5)(a6:A6)(a7:A7)(a8:A8)(a9:A9)(a10:A10)(a11:A11)(a12:A12)(a13:A13)(a14:A14)(a15:A15)(a16:A16)(a17:A17)(a18:A18)(a19:A19)(a20:A20)(a21:A21)(a22:A22)(a23:A23)(a24:A24)(a25:A25)(a26:A26)(a27:A27)(a28:A28):A1∧A2∧A3∧A4∧A5∧A6∧A7∧A8∧A9∧A10∧A11∧A12∧A13∧A14∧A15∧A16∧A17∧A18∧A19∧A20∧A21∧A22∧A23∧A24∧A25∧A26∧A27∧A28:=⟨a1,a2,a3,a4,a5,a6,a7,a8,a9,a10,a11,a12,a13,a14,a15,a16,a17,a18,a19,a20,a21,a22,a23,a24,a25,a26,a27,a28⟩
theorem cj29{A1 A2 A3 A4 A5 A6 A7 A8 A9 A10 A11 A12 A13 A14 A15 A16 A17 A18 A19 A20 A21 A22 A23 A24 A25 A26 A27 A28 A29:Prop}(a1:A1)(a2:A2)(a3:A3)(a4:A4)(a5:A5)(a6:A6)(a7:A7)(a8:A8)(a9:A9)(a10:A10)(a11:A11)(a12:A12)(a13:A13)(a14:A14)(a15:A15)(a16:A16)(a17:A17)(a18:A18)(a19:A19)(a20:A20)(a21:A21)(a22:A22)(a23:A23)(a24:A24)(a25:A25)(a26:A26)(a27:A27)(a28:A28)(a29:A29):A1∧A2∧A3∧A4∧A5∧A6∧A7∧A8∧A9∧A10∧A11∧A12∧A13∧A14∧A15∧A16∧A17∧A18∧A19∧A20∧A21∧A22∧A23∧A24∧A25∧A26∧A27∧A28∧A29:=⟨a1,a2,a3,a4,a5,a6,a7,a8,a9,a10,a11,a12,a13,a14,a15,a16,a17,a18,a19,a20,a21,a22,a23,a24,a25,a26,a27,a28,a29⟩
theorem cj30{A1 A2 A3 A4 A5 A6 A7 A8 A9 A10 A11 A12 A13 A14 A15 A16 A17 A18 A19 A20 A21 A22 A23 A24 A25 A26 A27 A28 A29 A30:Prop}(a1:A1)(a2:A2)(a3:A3)(a4:A4)(a5:A5)(a6:A6)(a7:A7)(a8:A8)(a9:A9)(a10:A10)(a11:A11)(a12:A12)(a13:A13)(a14:A14)(a15:A15)(a16:A16)(a17:A17)(a18:A18)(a19:A19)(a20:A20)(a21:A21)(a22:A22)(a23:A23)(a24:A24)(a25:A25)(a26:A26)(a27:A27)(a28:A28)(a29:A29)(a30:A30):A1∧A2∧A3∧A4∧A5∧A6∧A7∧A8∧A9∧A10∧A11∧A12∧A13∧A14∧A15∧A16∧A17∧A18∧A19∧A20∧A21∧A22∧A23∧A24∧A25∧A26∧A27∧A28∧A29∧A30:=⟨a1,a2,a3,a4,a5,a6,a7,a8,a9,a10,a11,a12,a13,a14,a15,a16,a17,a18,a19,a20,a21,a22,a23,a24,a25,a26,a27,a28,a29,a30⟩
theorem gxq{P p q:Prop}(f:P)(hq:q)(h:P→q→p:=by intro fs hq; (first | with_reducible refine holds_of_ex X 400 _ _ _ ?_ | skip); simp (maxSteps:=1000000) only [push_cast,reduceCtorEq,Nat.reduceAdd,Nat.reduceMul,Nat.reduceSub,Nat.reduceBEq,Nat.reduceGT,Nat.reduceLT,Int.toNat_zero,Nat.reduceLeDiff,Int.reduceEq,Int.reduceLT,Int.reduceLE,hP,hΓ,hL,hfin,String.reduceEq,Int.toNat_one,Bool.not_not,fs]; exact hq):p:=h f hq
theorem Z0G{p q:Prop}(hq:q)(h:q→p:=by intro hq; (first | with_reducible refine holds_of_ex X 400 _ _ _ ?_ | skip); simp (maxSteps:=1000000) only [push_cast,reduceCtorEq,Nat.reduceAdd,Nat.reduceMul,Nat.reduceSub,Nat.reduceBEq,Nat.reduceGT,Nat.reduceLT,Int.toNat_zero,Nat.reduceLeDiff,Int.reduceEq,Int.reduceLT,Int.reduceLE,hP,hΓ,hL,hfin,String.reduceEq,Int.toNat_one,Bool.not_not]; exact hq):p:=h hq
theorem gyq{P p q:Prop}(f:P)(hq:q)(h:P→q→p:=by intro fs hq; simp (maxSteps:=1000000) only [↓reduceIte,Option.getD_some,push_cast,reduceCtorEq,Nat.reduceAdd,Nat.reduceMul,Nat.reduceSub,Nat.reduceBEq,Nat.reduceGT,Nat.reduceLT,Int.toNat_zero,Nat.reduceLeDiff,Int.reduceEq,Int.reduceLT,Int.reduceLE,hP,hΓ,hL,hfin,String.reduceEq,Int.toNat_one,Bool.not_not,fs]; exact hq):p:=h f hq
theorem Zhs{p q:Prop}(hq:q)(h:q→p:=by intro hq; simp (maxSteps:=1000000) only [↓reduceIte,Option.getD_some,push_cast,reduceCtorEq,Nat.reduceAdd,Nat.reduceMul,Nat.reduceSub,Nat.reduceBEq,Nat.reduceGT,Nat.reduceLT,Int.toNat_zero,Nat.reduceLeDiff,Int.reduceEq,Int.reduceLT,Int.reduceLE,hP,hΓ,hL,hfin,String.reduceEq,Int.toNat_one,Bool.not_not]; exact hq):p:=h hq
theorem gwq{P p q:Prop}(f:P)(hq:q)(h:P→q→p:=by intro fs hq; simp (maxSteps:=1000000) only [push_cast,reduceCtorEq,Nat.reduceAdd,Nat.reduceMul,Nat.reduceSub,Nat.reduceBEq,Nat.reduceGT,Nat.reduceLT,Int.toNat_zero,Nat.reduceLeDiff,Int.reduceEq,Int.reduceLT,Int.reduceLE,hP,hΓ,hL,hfin,String.reduceEq,Int.toNat_one,Bool.not_not,fs]; exact hq):p:=h f hq
theorem gwq0{p q:Prop}(hq:q)(h:q→p:=by intro hq; simp (maxSteps:=1000000) only [push_cast,reduceCtorEq,Nat.reduceAdd,Nat.reduceMul,Nat.reduceSub,Nat.reduceBEq,Nat.reduceGT,Nat.reduceLT,Int.toNat_zero,Nat.reduceLeDiff,Int.reduceEq,Int.reduceLT,Int.reduceLE,hP,hΓ,hL,hfin,String.reduceEq,Int.toNat_one,Bool.not_not]; exact hq):p:=h hq
theorem gzq{P p q:Prop}(f:P)(hq:q)(h:P→q→p:=by intro fs hq; simp (maxSteps:=1000000) only [push_cast,reduceCtorEq,Nat.reduceAdd,Nat.reduceMul,Nat.reduceSub,Nat.reduceBEq,Nat.reduceGT,Nat.reduceLT,Int.toNat_zero,Nat.reduceLeDiff,Int.reduceEq,Int.reduceLT,Int.reduceLE,hP,hΓ,hL,hfin,String.reduceEq,Int.toNat_one,Bool.not_not,List.drop_succ_cons,List.drop_zero,List.take_succ_cons,List.take_zero,fs]; exact hq):p:=h f hq
theorem Z1S{p q:Prop}(hq:q)(h:q→p:=by intro hq; simp (maxSteps:=1000000) only [push_cast,reduceCtorEq,Nat.reduceAdd,Nat.reduceMul,Nat.reduceSub,Nat.reduceBEq,Nat.reduceGT,Nat.reduceLT,Int.toNat_zero,Nat.reduceLeDiff,Int.reduceEq,Int.reduceLT,Int.reduceLE,hP,hΓ,hL,hfin,String.reduceEq,Int.toNat_one,Bool.not_not,List.drop_succ_cons,List.drop_zero,List.take_succ_cons,List.take_zero]; exact hq):p:=h hq
theorem sm{p:Prop}(h:p:=by simp only [push_cast,reduceCtorEq,Nat.reduceAdd,Nat.reduceMul,Nat.reduceSub,Nat.reduceBEq,Nat.reduceGT,Nat.reduceLT,Int.toNat_zero,Nat.reduceLeDiff,Int.reduceEq,Int.reduceLT,Int.reduceLE]):p:=h
theorem sml{p:Prop}(h:p:=by simp only [push_cast,reduceCtorEq,Nat.reduceAdd,Nat.reduceMul,Nat.reduceSub,Nat.reduceBEq,Nat.reduceGT,Nat.reduceLT,Int.toNat_zero,Nat.reduceLeDiff,Int.reduceEq,Int.reduceLT,Int.reduceLE,leF]):p:=h
theorem smr{p:Prop}(h:p:=by first | rfl | (simp only [push_cast,reduceCtorEq,Nat.reduceAdd,Nat.reduceMul,Nat.reduceSub,Nat.reduceBEq,Nat.reduceGT,Nat.reduceLT,Int.toNat_zero,Nat.reduceLeDiff,Int.reduceEq,Int.reduceLT,Int.reduceLE,leF,Z1m]; done)):p:=h
theorem smd{p:Prop}(h:p:=by first | decide | (simp only [push_cast,reduceCtorEq,Nat.reduceAdd,Nat.reduceMul,Nat.reduceSub,Nat.reduceBEq,Nat.reduceGT,Nat.reduceLT,Int.toNat_zero,Nat.reduceLeDiff,Int.reduceEq,Int.reduceLT,Int.reduceLE]; done) | simp):p:=h
theorem smf{p:Prop}(h:p:=by simp only [Z2Q,Za1,Z9T,or_true,true_or,push_cast,reduceCtorEq,Nat.reduceAdd,Nat.reduceMul,Nat.reduceSub,Nat.reduceBEq,Nat.reduceGT,Nat.reduceLT,Int.toNat_zero,Nat.reduceLeDiff,Int.reduceEq,Int.reduceLT,Int.reduceLE]):p:=h
theorem smo{p:Prop}(h:p:=by simp only [push_cast,reduceCtorEq,Nat.reduceAdd,Nat.reduceMul,Nat.reduceSub,Nat.reduceBEq,Nat.reduceGT,Nat.reduceLT,Int.toNat_zero,Nat.reduceLeDiff,Int.reduceEq,Int.reduceLT,Int.reduceLE]; first | done | decide | omega):p:=h
theorem smv{p:Prop}(h:p:=by first | exact .inr (Nat.zero_le _) | (left; simp only [push_cast,reduceCtorEq,Nat.reduceAdd,Nat.reduceMul,Nat.reduceSub,Nat.reduceBEq,Nat.reduceGT,Nat.reduceLT,Int.toNat_zero,Nat.reduceLeDiff,Int.reduceEq,Int.reduceLT,Int.reduceLE]; first | done | omega) | (right; simp only [push_cast,reduceCtorEq,Nat.reduceAdd,Nat.reduceMul,Nat.reduceSub,Nat.reduceBEq,Nat.reduceGT,Nat.reduceLT,Int.toNat_zero,Nat.reduceLeDiff,Int.reduceEq,Int.reduceLT,Int.reduceLE]; first | done | omega)):p:=h
theorem sms{p:Prop}(h:p:=by first | (simp only [push_cast]; done) | (simp only [push_cast,and_true]; omega)):p:=h
theorem smh{p:Prop}(h:p:=by first | exact .inl rfl | exact .inr fun _ _ h=>Z4b _ _ h):p:=h
theorem smp{p:Prop}(h:p:=by rw [hP]; kernel_rfl):p:=h
theorem gsq{p q:Prop}(hq:q)(h:q→p:=by intro hq; simp only [push_cast,reduceCtorEq,Nat.reduceAdd,Nat.reduceMul,Nat.reduceSub,Nat.reduceBEq,Nat.reduceGT,Nat.reduceLT,Int.toNat_zero,Nat.reduceLeDiff,Int.reduceEq,Int.reduceLT,Int.reduceLE]; exact hq):p:=h hq
theorem gnq(n:Nat){X:Cx}{k:List It}{fr:List AV}{L:Z01}{P q:Prop}(f:P)(hq:q)(h:P→q→ex X n k fr L:=by intro fs hq; simp only [push_cast,reduceCtorEq,Nat.reduceAdd,Nat.reduceMul,Nat.reduceSub,Nat.reduceBEq,Nat.reduceGT,Nat.reduceLT,Int.toNat_zero,Nat.reduceLeDiff,Int.reduceEq,Int.reduceLT,Int.reduceLE,hP,hΓ,hL,hfin,fs]; exact hq):Z02 X k fr L:=holds_of_ex X n _ _ _ (h f hq)
theorem Z50(n:Nat){X:Cx}{k:List It}{fr:List AV}{L:Z01}{q:Prop}(hq:q)(h:q→ex X n k fr L:=by intro hq; simp only [push_cast,reduceCtorEq,Nat.reduceAdd,Nat.reduceMul,Nat.reduceSub,Nat.reduceBEq,Nat.reduceGT,Nat.reduceLT,Int.toNat_zero,Nat.reduceLeDiff,Int.reduceEq,Int.reduceLT,Int.reduceLE,hP,hΓ,hL,hfin]; exact hq):Z02 X k fr L:=holds_of_ex X n _ _ _ (h hq)
theorem gmq(n:Nat){X:Cx}{k:List It}{fr:List AV}{L:Z01}{P q:Prop}(f:P)(hq:q)(h:P→q→ex X n k fr L:=by intro fs hq; simp (maxSteps:=1000000) only [push_cast,reduceCtorEq,Nat.reduceAdd,Nat.reduceMul,Nat.reduceSub,Nat.reduceBEq,Nat.reduceGT,Nat.reduceLT,Int.toNat_zero,Nat.reduceLeDiff,Int.reduceEq,Int.reduceLT,Int.reduceLE,hP,hΓ,hL,hfin,String.reduceEq,Int.toNat_one,Bool.not_not,fs]; exact hq):Z02 X k fr L:=holds_of_ex X n _ _ _ (h f hq)
theorem ZlH(n:Nat){X:Cx}{k:List It}{fr:List AV}{L:Z01}{q:Prop}(hq:q)(h:q→ex X n k fr L:=by intro hq; simp (maxSteps:=1000000) only [push_cast,reduceCtorEq,Nat.reduceAdd,Nat.reduceMul,Nat.reduceSub,Nat.reduceBEq,Nat.reduceGT,Nat.reduceLT,Int.toNat_zero,Nat.reduceLeDiff,Int.reduceEq,Int.reduceLT,Int.reduceLE,hP,hΓ,hL,hfin,String.reduceEq,Int.toNat_one,Bool.not_not]; exact hq):Z02 X k fr L:=holds_of_ex X n _ _ _ (h hq)
theorem Z0A:(∀(a c:List AV) (b d:Z01),((a,b)=(c,d))=(a=c∧b=d))∧(∀(a c:AV) (b d:List AV),(a::b=c::d)=(a=c∧b=d))∧(∀(a c:Z0Q) (b d:Z01),(a::b=c::d)=(a=c∧b=d))∧
  (∀a b c a' b' c',(Z0Q.row a b c=.row a' b' c')=(a=a'∧b=b'∧c=c'))∧(∀k n k' n',(AV.int k n=.int k' n')=(k=k'∧n=n'))∧(∀a b,(AV.bool a=.bool b)=(a=b))∧(∀a b,(AV.str a=.str b)=(a=b))∧
  (∀a n b m,(AV.sl a n=.sl b m)=(a=b∧n=m))∧(∀a b,(AV.agg a=.agg b)=(a=b))∧(∀a b,(AV.ip a=.ip b)=(a=b))∧(∀a b c a' b' c',(AV.fn a b c=.fn a' b' c')=(a=a'∧b=b'∧c=c'))∧(∀a b a' b',(AV.ifc a b=.ifc a' b')=(a=a'∧b=b'))∧
  (∀a b a' b',(AV.mpr a b=.mpr a' b')=(a=a'∧b=b'))∧(∀a b c d a' b' c' d',(AV.msl a b c d=.msl a' b' c' d')=(a=a'∧b=b'∧c=c'∧d=d'))∧(∀a b c a' b' c',(AV.ref a b c=.ref a' b' c')=(a=a'∧b=b'∧c=c'))∧(∀a b:Nat,((a:Int)=b)=(a=b))∧(∀p:Prop,(p∧True)=p)∧(∀p:Prop,(True∧p)=p):=
 ⟨by simp,by simp,by simp,by simp,by simp,by simp,by simp,by simp,by simp,by simp,by simp,by simp,by simp,by simp,by simp,fun a b=>propext Int.natCast_inj,by simp,by simp⟩
abbrev tt:Bool:=true
abbrev ff:Bool:=false
theorem stt{P:Program}{Γ:Env}{fn:Func}{xs:List AV}{L:Z01}{res:AV}{L':Z01}(n:Nat)(rs:List ResultVar){c:Code}(h:∀X:Cx,X.P=P→X.Γ=Γ→X.B.L=L→(X.fin=ZhK P rs L res L'∧X.finR=X.fin∧X.R=none)→Z02 X [.code c] (Z4X xs n) L)
  (hc:fn.body=some c:=by exact rfl) (hn:fn.ntmps=n:=by exact rfl) (hr:fn.results.toList=rs:=by exact rfl):Z08 P Γ fn xs L res L':=fun X a b d e=>⟨c,hc,by rw [hn]; rw [hr] at e; exact h X a b d e⟩
theorem fkl:(∀(p:Prop) [Decidable p],(decide p=true)=p)∧(∀(p:Prop) [Decidable p],(decide p=false)=¬p)∧(∀a b:Bool,((a && b)=true)=(a=true∧b=true))∧(∀a b:Bool,((a || b)=true)=(a=true∨b=true))∧(∀a b:Bool,((a && b)=false)=(a=false∨b=false))∧
  (∀a b:Bool,((a || b)=false)=(a=false∧b=false))∧(∀b:Bool,((!b)=true)=(b=false))∧(∀b:Bool,((!b)=false)=(b=true))∧(∀b:Bool,(¬b=true)=(b=false))∧(∀b:Bool,(¬b=false)=(b=true))∧(∀a b:Int,(¬a<b)=(b≤a))∧(∀a b:Int,(¬a≤b)=(b<a)):=
 ⟨by simp,by simp,by simp,by simp,by simp,by simp,by simp,by simp,by simp,by simp,by simp,by simp⟩
structure Ct where
 a:List AV×Z01
 p:Prop
 r:AV
 h:Z01
def pK{α:Type}(k:α→Ct)(x:List AV×Z01):Prop:=Z1Y (fun a=>(k a).a) (fun a=>(k a).p) x
noncomputable def rK{α:Type}(k:α→Ct)(x:List AV×Z01):AV:=Z0U (fun a=>(k a).a) (fun a=>(k a).r) .any x
noncomputable def hK{α:Type}(k:α→Ct)(x:List AV×Z01):Z01:=Z0U (fun a=>(k a).a) (fun a=>(k a).h) [] x
noncomputable def Z0W{α:Type}(deep:Bool)(k:α→Ct):Z0n:=liftH {
 ids:=Z68 deep
 args:=fun xs L=>renL (fun j=>ZfZ (Z68 deep xs L) j) (xs.map (Z3W L (Z68 deep xs L)))
 start:=fun xs L=>(Z68 deep xs L).map fun i=>Z1m (fun j=>ZfZ (Z68 deep xs L) j) (L.getD i .dead)
 pre:=fun xs L=>pK k (xs,L)
 res:=fun xs L=>rK k (xs,L)
 post:=fun xs L=>hK k (xs,L) }
attribute [push_cast] Z0W
abbrev KS{α:Type}(k:α→Ct)(x:List AV×Z01)(p:Prop)(r:AV)(h:Z01):Prop:=pK k x=p∧rK k x=r∧hK k x=h
theorem kat{α:Type}{k:α→Ct}(hi:∀a b,(k a).a=(k b).a→a=b)(a:α):KS k (k a).a (k a).p (k a).r (k a).h:=⟨Z0J hi (fun a=>(k a).p) a,Z0d hi (fun a=>(k a).r) .any a,Z0d hi (fun a=>(k a).h) [] a⟩
theorem kcon{P:Program}{Γ:Env}(hΓ:Z07 P Γ){f:FuncId}{fn:Func}(hf:P.funcs[f]?=some fn)(hb:fn.body.isNone=false) (hn:(fn.name == "runtime.NumGoroutine")=false) {α:Type} {deep:Bool} {k:α→Ct}
  (hi:∀a b,(k a).a=(k b).a→a=b) (hh:∀a,(k a).p→Z08 P Γ fn (k a).a.1 (k a).a.2 (k a).r (k a).h):Con P f (Z0W deep k):=Z2g hΓ hf hb hn hi hh
theorem wrq{x:Int}(h:-9223372036854775808≤x∧x≤9223372036854775807:=by constructor <;> omega):IntKind.i64.wrap x=x:=Z0t x h
theorem kcn{P:Program}{Γ:Env}(hΓ:Z07 P Γ){f:FuncId}{fn:Func}{α:Type}{deep:Bool}{k:α→Ct}(hi:∀a b,(k a).a=(k b).a→a=b)(hh:∀a,(k a).p→Z08 P Γ fn (k a).a.1 (k a).a.2 (k a).r (k a).h)(hf:P.funcs[f]?=some fn:=by kernel_rfl)(hb:fn.body.isNone=false:=by exact rfl) (hn:(fn.name == "runtime.NumGoroutine")=false:=by kernel_rfl):Con P f (Z0W deep k):=kcon hΓ hf hb hn hi hh
theorem Z02.dE{X:Cx}{id:Nat}{ops:Array Oper}{k:List It}{fr:List AV}{L:Z01}(H:Z01→Prop)(ms as ss:List Nat)(lst:Bool)(h:evE X.P X.Γ ops.toList H ms as ss lst 0 ops.toList fr L (Z02 X k))(hm:X.P.follows .mixedOrders=true:=by rw [hP]; kernel_rfl)(hB:Region.lexB .any ops=true:=by kernel_rfl)(ho:Zj3 ops .any ms as ss=true:=by kernel_rfl)(hla:ZbK ops .any lst=true:=by kernel_rfl)
  (hH:as=[]∨∀G A,H G→H (G++A):=by first | exact .inl rfl | exact .inr fun _ _ h=>Z4b _ _ h) (hL:H L:=by first | (simp only [push_cast]; done) | (simp only [push_cast,and_true]; omega)):Z02 X (.code (.region id ops true)::k) fr L:=Z02.drawnE H ms as ss lst hm hB ho hla hH hL h
end Go.Eng
end
