/- The engine, part 1: abstract values, abstract heaps, and how they relate to the model's values and worlds. It speaks of no program. -/
import Derived.WalkKit
set_option linter.unusedVariables false
set_option linter.unusedSimpArgs false
namespace Go.Eng
open Go
inductive Key where
 | i (k:IntKind) (n:Int)
 | s (l:List UInt8)
 deriving DecidableEq
def Key.val:Key→Value
 | .i k n=>.int k n
 | .s l=>.string ⟨l.toArray⟩
def Key.kd:Key→Option IntKind
 | .i k _=>some k
 | .s _=>none
inductive AV where
 | any
 | int (k:IntKind) (n:Int)
 | bool (b:Bool)
 | str (l:List UInt8)
 | lit (v:Value)
 | agg (cs:List AV)
 | tup (vs:List AV)
 | sl (cs:List AV) (len:Nat)
 | msl (id ver off len:Nat)
 | ref (id ver off:Nat)
 | ip (cs:List AV)
 | fn (f:Fn) (first captured:List AV)
 | ifc (t:TypeId) (x:AV)
 | when (c:Bool) (x:AV)
 | alt (c:Bool) (x y:AV)
 | ub (p q:Prop)
 | csl (id ver off len:Nat)
 | mp (id:Nat)
 | mpr (kd:Option IntKind) (f:Key→Option Value)
 deriving Inhabited
inductive Raw where
 | iter (s:List UInt8) (pos:Nat)
 | map (kd:Option IntKind) (f:Key→Option Value)
 | obj (b:Option Nat) (o:Obj)
 | bld (T e:TypeId) (l:List UInt8)
 | gone
structure Z77(kd:Option IntKind)(f:Key→Option Value)(es:List MapEntry):Prop where
 ent:∀e∈es,∃k,e.key=k.val∧f k=some e.val
 has:∀k v,f k=some v→k.kd=kd∧∃e∈es,e.key=k.val
 nodup:(es.map (·.key)).Nodup
def Z4s(es:List MapEntry)(clock:Nat):Prop:=(∀x∈es,x.born<clock)∧(es.map (·.born)).Nodup
structure MRC(kd:Option IntKind)(f:Key→Option Value)(es:List MapEntry)(clock:Nat):Prop where
 rel:Z77 kd f es
 st:Z4s es clock
def Z4X(b:Nat):Raw→Obj→Prop
 | .iter s p,o=>o=.stringIter ⟨s.toArray⟩ p
 | .map kd f,o=>∃es clock,o=.map es clock∧MRC kd f es.toList clock
 | .obj b' o',o=>(∀x,b'=some x→b=x)∧o=o'
 | .bld ..,_=>True
 | .gone,_=>True
inductive Z0L where
 | row (cs:List AV) (sz ver:Nat)
 | raw (r:Raw)
 | dead
 deriving Inhabited
abbrev Heap:=List Z0L
structure Mem where
 pobj:Nat→Option Obj
 blk:Nat→Nat
 cap:Nat→Nat
def Mem.pin(m:Mem)(g o:Nat):Option Value:=match m.pobj g with
 | some (.cells c _ _)=>c[o]?
 | _=>none
mutual
def Z05(m:Mem)(L:Heap):AV→Value→Prop
 | .any,_=>True
 | .int k n,u=>u=.int k n
 | .bool b,u=>u=.bool b
 | .str l,u=>u=.string ⟨l.toArray⟩
 | .lit v,u=>u=v
 | .agg cs,u=>∃us:List Value,u=.agg us.toArray∧Z0e m L cs us
 | .tup cs,u=>∃us:List Value,u=.tuple us.toArray∧Z0e m L cs us
 | .sl cs len,u=>∃a cap,u=.slice a len cap∧len≤cap∧∃us,Z0e m L cs us∧
   (us=[]∨∃g o,a=some ⟨g,o,none⟩∧∀i v,us[i]?=some v→m.pin g (o+i)=some v)
 | .msl id ver off len,u=>∃cs sz v,L[id]?=some (.row cs sz v)∧ver≤v∧(∃a n c,u=.slice a n c)∧(v=ver→(off+len)*sz≤cs.length∧off+len≤m.cap id∧
   ∃a,u=.slice a len (m.cap id - off)∧(off=m.cap id∨a=some ⟨m.blk id,off*sz,none⟩))
 | .ref id ver off,u=>(∃cs sz v,L[id]?=some (.row cs sz v)∧ver≤v∧(∃a,u=.pointer a)∧(v=ver→u=.pointer (some ⟨m.blk id,off,none⟩)))∨
   (∃r,L[id]?=some (.raw r)∧u=.pointer (some ⟨m.blk id,0,none⟩))
 | .ip cs,u=>∃us g o,u=.pointer (some ⟨g,o,none⟩)∧Z0e m L cs us∧∀i v,us[i]?=some v→m.pin g (o+i)=some v
 | .fn f first captured,u=>∃us vs:List Value,u=.func f us.toArray vs.toArray∧Z0e m L first us∧Z0e m L captured vs
 | .ifc t x,u=>∃v,u=.iface t v∧Z05 m L x v
 | .when c x,u=>(c=true→Z05 m L x u)∧(c=false→u=undef)
 | .alt c x y,u=>(c=true→Z05 m L x u)∧(c=false→Z05 m L y u)
 | .ub p q,u=>∃b,u=.bool b∧(b=true→p)∧(b=false→q)
 | .csl id ver off len,u=>∃cs sz v,L[id]?=some (.row cs sz v)∧ver≤v∧(∃a n c,u=.slice a n c)∧(v=ver→(off+len)*sz≤cs.length∧off+len≤m.cap id∧
   ∃a,u=.slice a len len∧(len=0∨a=some ⟨m.blk id,off*sz,none⟩))
 | .mp id,u=>∃r,L[id]?=some (.raw r)∧u=.map (some (m.blk id))
 | .mpr kd f,u=>∃g es clock,u=.map (some g)∧m.pobj g=some (.map es clock)∧MRC kd f es.toList clock
def Z0e(m:Mem)(L:Heap):List AV→List Value→Prop
 | [],us=>us=[]
 | c::cs,us=>∃u us',us=u::us'∧Z05 m L c u∧Z0e m L cs us'
end
theorem Z0e.length{m:Mem}{L:Heap}:∀{cs:List AV} {us:List Value},Z0e m L cs us→us.length=cs.length
 | [],us,h=>by simp only [Z0e] at h; simp [h]
 | c::cs,us,h=>by
  simp only [Z0e] at h
  obtain⟨u,us',rfl,_,h2⟩:=h
  simp [h2.length]
theorem Z0e.get{m:Mem}{L:Heap}:∀{cs:List AV} {us:List Value},Z0e m L cs us→∀(i:Nat) (c:AV),cs[i]?=some c→∃u,us[i]?=some u∧Z05 m L c u
 | [],_,_=>by simp
 | c::cs,us,h=>by
  simp only [Z0e] at h
  obtain⟨u,us',rfl,h1,h2⟩:=h
  intro i c' hi
  cases i with
  | zero=>simp at hi; subst hi; exact⟨u,by simp,h1⟩
  | succ i=>simpa using h2.get i c' (by simpa using hi)
theorem Z0e.mk{m:Mem}{L:Heap}:∀{cs:List AV} {us:List Value},us.length=cs.length→(∀(i:Nat) (c:AV) (u:Value),cs[i]?=some c→us[i]?=some u→Z05 m L c u)→Z0e m L cs us
 | [],us,hl,_=>by simp only [Z0e]; simpa using hl
 | c::cs,[],hl,_=>by simp at hl
 | c::cs,u::us,hl,h=>by
  simp only [Z0e]
  refine⟨u,us,rfl,h 0 c u (by simp) (by simp),Z0e.mk (by simpa using hl) fun i c' u' hc hu=>h (i+1) c' u' (by simpa using hc) (by simpa using hu)⟩
theorem Z0e.getD{m:Mem}{L:Heap}{cs:List AV}{us:List Value}(h:Z0e m L cs us)(i:Nat):Z05 m L (cs.getD i .any) (us.getD i undef):=by
 cases hc:cs[i]? with
 | none=>simp [List.getD,hc,Z05]
 | some c=>
  obtain⟨u,hu,hr⟩:=h.get i c hc
  simp [List.getD,hc,hu,hr]
theorem Z0e.set{m:Mem}{L:Heap}{cs:List AV}{us:List Value}(h:Z0e m L cs us)(i:Nat){c:AV}{u:Value}(hr:Z05 m L c u):Z0e m L (cs.set i c) (us.set i u):=by
 refine Z0e.mk (by simp [h.length]) fun j c' u' hc hu=>?_
 rw [List.getElem?_set] at hc hu
 by_cases hij:i=j
 ·subst hij
  have hl:=h.length
  by_cases hlt:i<cs.length
  ·simp [hlt] at hc; simp [hl,hlt] at hu; subst hc; subst hu; exact hr
  ·simp [hlt] at hc
 ·simp [hij] at hc hu
  obtain⟨u₁,hu₁,hr₁⟩:=h.get j c' hc
  rw [hu] at hu₁
  obtain rfl:=Option.some.inj hu₁
  exact hr₁
theorem Z0e.append{m:Mem}{L:Heap}{cs ds:List AV}{us vs:List Value}(h:Z0e m L cs us)(h':Z0e m L ds vs):Z0e m L (cs++ds) (us++vs):=by
 refine Z0e.mk (by simp [h.length,h'.length]) fun j c u hc hu=>?_
 have hl:=h.length
 by_cases hj:j<cs.length
 ·rw [List.getElem?_append_left hj] at hc
  rw [List.getElem?_append_left (by omega)] at hu
  obtain⟨u₁,hu₁,hr₁⟩:=h.get j c hc
  rw [hu] at hu₁; obtain rfl:=Option.some.inj hu₁; exact hr₁
 ·rw [List.getElem?_append_right (by omega)] at hc hu
  rw [hl] at hu
  obtain⟨u₁,hu₁,hr₁⟩:=h'.get _ c hc
  rw [hu] at hu₁; obtain rfl:=Option.some.inj hu₁; exact hr₁
theorem Z0e.take{m:Mem}{L:Heap}{cs:List AV}{us:List Value}(h:Z0e m L cs us)(n:Nat):Z0e m L (cs.take n) (us.take n):=by
 refine Z0e.mk (by simp [h.length]) fun j c u hc hu=>?_
 rw [List.getElem?_take] at hc hu
 split at hc
 ·rename_i hj
  simp [hj] at hu
  obtain⟨u₁,hu₁,hr₁⟩:=h.get _ c hc
  rw [hu] at hu₁; obtain rfl:=Option.some.inj hu₁; exact hr₁
 ·simp at hc
theorem Z0e.drop{m:Mem}{L:Heap}{cs:List AV}{us:List Value}(h:Z0e m L cs us)(n:Nat):Z0e m L (cs.drop n) (us.drop n):=by
 refine Z0e.mk (by simp [h.length]) fun j c u hc hu=>?_
 rw [List.getElem?_drop] at hc hu
 obtain⟨u₁,hu₁,hr₁⟩:=h.get _ c hc
 rw [hu] at hu₁; obtain rfl:=Option.some.inj hu₁; exact hr₁
theorem Z0e.nil(m:Mem)(L:Heap):Z0e m L [] []:=by simp [Z0e]
theorem Z0e.cons{m:Mem}{L:Heap}{c:AV}{cs:List AV}{u:Value}{us:List Value}(h:Z05 m L c u)(h':Z0e m L cs us):Z0e m L (c::cs) (u::us):=by
 simp only [Z0e]; exact⟨u,us,rfl,h,h'⟩
structure Z4G(m:Mem)(L:Heap)(m':Mem)(L':Heap):Prop where
 pobj:∀g o,m.pobj g=some o→m'.pobj g=some o
 row:∀id cs sz ver,L[id]?=some (.row cs sz ver)→∃cs' ver',L'[id]?=some (.row cs' sz ver')∧ver≤ver'∧
  (ver'=ver→cs'.length=cs.length∧m'.blk id=m.blk id∧m'.cap id=m.cap id)
 iter:∀id r,L[id]?=some (.raw r)→∃r',L'[id]?=some (.raw r')∧m'.blk id=m.blk id
theorem Mem.pin_some{m:Mem}{g o:Nat}{v:Value}(h:m.pin g o=some v):∃c e f,m.pobj g=some (.cells c e f)∧c[o]?=some v:=by
 unfold Mem.pin at h
 split at h
 ·rename_i c e f hp; exact⟨c,e,f,hp,h⟩
 ·cases h
theorem Mem.pin_of{m:Mem}{g o:Nat}{v:Value}{c:Array Value}{e:TypeId}{f:Nat×Nat}(h:m.pobj g=some (.cells c e f))(hc:c[o]?=some v):m.pin g o=some v:=by
 unfold Mem.pin; rw [h]; exact hc
theorem Mem.pin_heap{m:Mem}{w:World}{g o:Nat}{v:Value}(h:m.pobj g=w.heap[g]?)(hc:w.cell? ⟨g,o,none⟩=some v):m.pin g o=some v:=by
 unfold World.cell? at hc
 unfold Mem.pin
 rw [h]
 split at hc
 ·rename_i c e f hw; simp only at hw; rw [hw]; simpa using hc
 ·cases hc
theorem Z4G.pin{m:Mem}{L:Heap}{m':Mem}{L':Heap}(M:Z4G m L m' L')(g o:Nat)(v:Value)(h:m.pin g o=some v):m'.pin g o=some v:=by
 obtain⟨c,e,f,h1,h2⟩:=Mem.pin_some h
 exact Mem.pin_of (M.pobj _ _ h1) h2
mutual
theorem Z05.mono{m:Mem}{L:Heap}{m':Mem}{L':Heap}(M:Z4G m L m' L'):∀(x:AV) (u:Value),Z05 m L x u→Z05 m' L' x u
 | .any,_,_=>by simp [Z05]
 | .int ..,_,h=>by simpa [Z05] using h
 | .bool _,_,h=>by simpa [Z05] using h
 | .str _,_,h=>by simpa [Z05] using h
 | .lit _,_,h=>by simpa [Z05] using h
 | .agg cs,u,h=>by
  simp only [Z05] at *
  obtain⟨us,rfl,hc⟩:=h
  exact⟨us,rfl,Z0e.mono M cs us hc⟩
 | .tup cs,u,h=>by
  simp only [Z05] at *
  obtain⟨us,rfl,hc⟩:=h
  exact⟨us,rfl,Z0e.mono M cs us hc⟩
 | .sl cs len,u,h=>by
  simp only [Z05] at *
  obtain⟨a,cap,rfl,hl,us,hc,hp⟩:=h
  refine⟨a,cap,rfl,hl,us,Z0e.mono M cs us hc,?_⟩
  rcases hp with hp | ⟨g,o,ha,hp⟩
  ·exact .inl hp
  ·exact .inr ⟨g,o,ha,fun i v hv=>M.pin _ _ _ (hp i v hv)⟩
 | .msl id ver off len,u,h=>by
  simp only [Z05] at *
  obtain⟨cs,sz,v,hL,hv,hsh,h⟩:=h
  obtain⟨cs',v',hL',hvv,hk⟩:=M.row _ _ _ _ hL
  refine⟨cs',sz,v',hL',by omega,hsh,fun e=>?_⟩
  have e1:v=ver:=by omega
  obtain⟨h1,h2,h3⟩:=h e1
  obtain⟨k1,k2,k3⟩:=hk (by omega)
  rw [k1,k2,k3]
  exact⟨h1,h2,h3⟩
 | .ref id ver off,u,h=>by
  simp only [Z05] at *
  rcases h with ⟨cs,sz,v,hL,hv,hsh,h⟩ | ⟨r,hL,h⟩
  ·obtain⟨cs',v',hL',hvv,hk⟩:=M.row _ _ _ _ hL
   refine .inl ⟨cs',sz,v',hL',by omega,hsh,fun e=>?_⟩
   have e1:v=ver:=by omega
   obtain⟨k1,k2,k3⟩:=hk (by omega)
   rw [k2]; exact h e1
  ·obtain⟨r',hL',hk⟩:=M.iter _ _ hL
   exact .inr ⟨r',hL',by rw [hk]; exact h⟩
 | .ip cs,u,h=>by
  simp only [Z05] at *
  obtain⟨us,g,o,rfl,hc,hp⟩:=h
  exact⟨us,g,o,rfl,Z0e.mono M cs us hc,fun i v hv=>M.pin _ _ _ (hp i v hv)⟩
 | .fn f first captured,u,h=>by
  simp only [Z05] at *
  obtain⟨us,vs,rfl,h1,h2⟩:=h
  exact⟨us,vs,rfl,Z0e.mono M first us h1,Z0e.mono M captured vs h2⟩
 | .ifc t x,u,h=>by
  simp only [Z05] at *
  obtain⟨v,rfl,h⟩:=h
  exact⟨v,rfl,Z05.mono M x v h⟩
 | .when c x,u,h=>by
  simp only [Z05] at *
  exact⟨fun hc=>Z05.mono M x u (h.1 hc),h.2⟩
 | .alt c x y,u,h=>by
  simp only [Z05] at *
  exact⟨fun hc=>Z05.mono M x u (h.1 hc),fun hc=>Z05.mono M y u (h.2 hc)⟩
 | .ub ..,_,h=>by simpa only [Z05] using h
 | .csl id ver off len,u,h=>by
  simp only [Z05] at *
  obtain⟨cs,sz,v,hL,hv,hsh,h⟩:=h
  obtain⟨cs',v',hL',hvv,hk⟩:=M.row _ _ _ _ hL
  refine⟨cs',sz,v',hL',by omega,hsh,fun e=>?_⟩
  have e1:v=ver:=by omega
  obtain⟨h1,h2,h3⟩:=h e1
  obtain⟨k1,k2,k3⟩:=hk (by omega)
  rw [k1,k2,k3]
  exact⟨h1,h2,h3⟩
 | .mp id,u,h=>by
  simp only [Z05] at *
  obtain⟨r,hL,h⟩:=h
  obtain⟨r',hL',hk⟩:=M.iter _ _ hL
  exact⟨r',hL',by rw [hk]; exact h⟩
 | .mpr kd f,u,h=>by
  simp only [Z05] at *
  obtain⟨g,es,clock,hu,hp,hM⟩:=h
  exact⟨g,es,clock,hu,M.pobj _ _ hp,hM⟩
theorem Z0e.mono{m:Mem}{L:Heap}{m':Mem}{L':Heap}(M:Z4G m L m' L'):∀(cs:List AV) (us:List Value),Z0e m L cs us→Z0e m' L' cs us
 | [],_,h=>by simpa [Z0e] using h
 | c::cs,us,h=>by
  simp only [Z0e] at *
  obtain⟨u,us',rfl,h1,h2⟩:=h
  exact⟨u,us',rfl,Z05.mono M c u h1,Z0e.mono M cs us' h2⟩
end
theorem Z4G.refl(m:Mem)(L:Heap):Z4G m L m L where
 pobj _ _ h:=h
 row _ cs _ ver h:=⟨cs,ver,h,Nat.le_refl _,fun _=>⟨rfl,rfl,rfl⟩⟩
 iter _ r h:=⟨r,h,rfl⟩
theorem Z4G.trans{m m' m'':Mem}{L L' L'':Heap}(h:Z4G m L m' L')(h':Z4G m' L' m'' L''):Z4G m L m'' L'' where
 pobj g o hp:=h'.pobj g o (h.pobj g o hp)
 row id cs sz ver hL:=by
  obtain⟨cs',v',hL',h1,h2⟩:=h.row _ _ _ _ hL
  obtain⟨cs'',v'',hL'',h3,h4⟩:=h'.row _ _ _ _ hL'
  refine⟨cs'',v'',hL'',by omega,fun e=>?_⟩
  obtain⟨k1,k2,k3⟩:=h2 (by omega)
  obtain⟨j1,j2,j3⟩:=h4 (by omega)
  exact⟨by omega,by rw [j2,k2],by rw [j3,k3]⟩
 iter id r hL:=by
  obtain⟨r',hL',h1⟩:=h.iter _ _ hL
  obtain⟨r'',hL'',h2⟩:=h'.iter _ _ hL'
  exact⟨r'',hL'',by rw [h2,h1]⟩
def Own(m:Mem)(L:Heap)(id:Nat):Prop:=(∃cs sz ver,L[id]?=some (.row cs sz ver)∧m.cap id≠0)∨(∃r,L[id]?=some (.raw r))
def ZiM:List Nat:=[]
def gTab:List (Nat×List Value):=[]
def tyB:List (Nat×Nat):=[]
def lkT:List (Nat×Nat)→Nat→Option Nat
 | [],_=>none
 | (a,b)::r,t=>cond (a == t) (some b) (lkT r t)
def GOK(p:Nat→Option Obj):Prop:=(∀g∈ZiM,∃t x c e f,p g=some (.cells c e f)∧c[0]?=some (.iface t x))∧∀q∈gTab,∃c e f,p q.1=some (.cells c e f)∧c.toList=q.2
theorem GOK.mono{p p':Nat→Option Obj}(h:GOK p)(hp:∀g o,p g=some o→p' g=some o):GOK p':=
 ⟨fun g hg=>by obtain⟨t,x,c,e,f,h1,h2⟩:=h.1 g hg; exact⟨t,x,c,e,f,hp _ _ h1,h2⟩,fun q hq=>by obtain⟨c,e,f,h1,h2⟩:=h.2 q hq; exact⟨c,e,f,hp _ _ h1,h2⟩⟩
def Z9j(w:World)(b c:Nat)(T e:TypeId)(l:List UInt8):Prop:=
 ∃p v,w.heap[b]?=some (.cells #[p,v] T (0,0))∧(p=.pointer none∨p=.pointer (some ⟨b,0,none⟩))∧
  ((c=0∧v=.slice none 0 0∧l=[])∨∃g cur,c=g+1∧v=.slice (some ⟨g,0,none⟩) l.length cur.size∧w.heap[g]?=some (.cells cur e (0,0))∧l.length≤cur.size∧
   ∀(j:Nat) x,l[j]?=some x→cur[j]?=some (.int .u8 x.toNat))
def Hid(m:Mem)(L:Heap)(id g:Nat):Prop:=∃T e l,L[id]?=some (.raw (.bld T e l))∧m.cap id=g+1
structure Z3S(m:Mem)(L:Heap)(w:World):Prop where
 at_:∀id T e l,L[id]?=some (.raw (.bld T e l))→Z9j w (m.blk id) (m.cap id) T e l
 free:∀id g,Hid m L id g→m.pobj g=none
 own:∀id g,Hid m L id g→∀j,Own m L j→m.blk j≠g
 inj:∀i j g,Hid m L i g→Hid m L j g→i=j
structure Z0O(m:Mem)(L:Heap)(w:World):Prop where
 glob:GOK m.pobj
 pobjs:∀g o,m.pobj g=some o→w.heap[g]?=some o
 rows:∀id cs sz ver,L[id]?=some (.row cs sz ver)→m.cap id≠0→∃us rest elem lo hi,w.heap[m.blk id]?=some (.cells (us++rest).toArray elem (lo,hi))∧Z0e m L cs us∧
  us.length+rest.length=m.cap id*sz∧(hi=lo∨(m.cap id*sz≤lo∧sz=1))
 nils:∀id cs sz ver,L[id]?=some (.row cs sz ver)→m.cap id=0→cs=[]
 iters:∀id r,L[id]?=some (.raw r)→∃o,w.heap[m.blk id]?=some o∧Z4X (m.blk id) r o
 inj:∀i j,Own m L i→Own m L j→m.blk i=m.blk j→i=j
 freeo:∀id,Own m L id→m.pobj (m.blk id)=none
 hid:Z3S m L w
theorem Z3S.nil{m:Mem}{w:World}:Z3S m [] w:=
 ⟨fun _ _ _ _ h=>by simp at h,fun _ _ ⟨_,_,_,h,_⟩=>by simp at h,fun _ _ ⟨_,_,_,h,_⟩=>by simp at h,fun _ _ _ ⟨_,_,_,h,_⟩=>by simp at h⟩
theorem Hid.own{m:Mem}{L:Heap}{id g:Nat}(h:Hid m L id g):Own m L id:=by
 obtain⟨T,e,l,h,_⟩:=h; exact .inr ⟨_,h⟩
theorem Z3S.lt{m:Mem}{L:Heap}{w:World}(h:Z3S m L w){id g:Nat}(hg:Hid m L id g):g<w.heap.size:=by
 obtain⟨T,e,l,hL,hc⟩:=hg
 obtain⟨p,v,_,_,h⟩:=h.at_ _ _ _ _ hL
 rcases h with ⟨h0,_⟩ | ⟨g',cur,h1,_,h2,_⟩
 ·omega
 ·obtain rfl:g=g':=by omega
  rcases Nat.lt_or_ge g w.heap.size with h' | h'
  ·exact h'
  ·simp [Array.getElem?_eq_none h'] at h2
theorem Z9j.same{w w':World}{b c:Nat}{T e:TypeId}{l:List UInt8}(h:Z9j w b c T e l)(h1:w'.heap[b]?=w.heap[b]?)(h2:∀g,c=g+1→w'.heap[g]?=w.heap[g]?):Z9j w' b c T e l:=by
 obtain⟨p,v,k1,k2,k3⟩:=h
 refine⟨p,v,by rw [h1]; exact k1,k2,?_⟩
 rcases k3 with k3 | ⟨g,cur,k3,k4,k5,k6⟩
 ·exact .inl k3
 ·exact .inr ⟨g,cur,k3,k4,by rw [h2 g k3]; exact k5,k6⟩
theorem Z3S.keep{m m':Mem}{L L':Heap}{w w':World}(h:Z3S m L w)(hobj:∀id T e l,L'[id]?=some (.raw (.bld T e l))→L[id]?=some (.raw (.bld T e l))∧m'.blk id=m.blk id∧m'.cap id=m.cap id)
  (hb:∀id T e l,L[id]?=some (.raw (.bld T e l))→L'[id]?=some (.raw (.bld T e l))→w'.heap[m.blk id]?=w.heap[m.blk id]?) (hg:∀id g,Hid m L id g→w'.heap[g]?=w.heap[g]?)
  (hp:∀id g,Hid m L id g→m'.pobj g=none) (ho:∀id g,Hid m L id g→∀j,Own m' L' j→m'.blk j≠g):Z3S m' L' w':=by
 have hh:∀id g,Hid m' L' id g→Hid m L id g:=by
  rintro id g ⟨T,e,l,hL,hc⟩
  obtain⟨k1,k2,k3⟩:=hobj _ _ _ _ hL
  exact⟨T,e,l,k1,by omega⟩
 refine⟨fun id T e l hL=>?_,fun id g k=>hp id g (hh id g k),fun id g k=>ho id g (hh id g k),fun i j g k1 k2=>h.inj i j g (hh i g k1) (hh j g k2)⟩
 obtain⟨k1,k2,k3⟩:=hobj _ _ _ _ hL
 rw [k2,k3]
 exact (h.at_ _ _ _ _ k1).same (hb _ _ _ _ k1 hL) fun g hc=>hg id g ⟨T,e,l,k1,hc⟩
theorem Z0O.pins{m:Mem}{L:Heap}{w:World}(h:Z0O m L w)(g o:Nat)(v:Value)(hp:m.pin g o=some v):w.cell? ⟨g,o,none⟩=some v:=by
 obtain⟨c,e,f,h1,h2⟩:=Mem.pin_some hp
 have:=h.pobjs _ _ h1
 simp [World.cell?,this,h2]
theorem Z0O.pobj_lt{m:Mem}{L:Heap}{w:World}(h:Z0O m L w){g:Nat}{o:Obj}(hp:m.pobj g=some o):g<w.heap.size:=by
 have:=h.pobjs _ _ hp
 rcases Nat.lt_or_ge g w.heap.size with h' | h'
 ·exact h'
 ·simp [Array.getElem?_eq_none h'] at this
def Z9h(w w':World):Prop:=w'.os=w.os∧w'.tape=w.tape∧w'.output=w.output
theorem Z9h.refl(w:World):Z9h w w:=⟨rfl,rfl,rfl⟩
theorem Z9h.trans{w w' w'':World}(h:Z9h w w')(h':Z9h w' w''):Z9h w w'':=⟨h'.1.trans h.1,h'.2.1.trans h.2.1,h'.2.2.trans h.2.2⟩
structure Ext(m:Mem)(L:Heap)(w:World)(m':Mem)(L':Heap)(w':World):Prop where
 frame:∀g,g<w.heap.size→(∀id,Own m L id→m.blk id≠g)→(∀id,¬Hid m L id g)→w'.heap[g]?=w.heap[g]?
 size:w.heap.size≤w'.heap.size
 newobj:∀g,g<w.heap.size→m'.pobj g=m.pobj g
 blks:∀id,Own m' L' id→(Own m L id∧m'.blk id=m.blk id)∨w.heap.size≤m'.blk id
 len:L.length≤L'.length
 mono:Z4G m L m' L'
 same:Z9h w w'
 hnew:∀id g,Hid m' L' id g→Hid m L id g∨w.heap.size≤g
theorem Z0O.blk_lt{m:Mem}{L:Heap}{w:World}(h:Z0O m L w){id:Nat}(hl:Own m L id):m.blk id<w.heap.size:=by
 rcases hl with ⟨cs,sz,ver,hL,hc⟩ | ⟨r,hL⟩
 ·obtain⟨us,rest,elem,lo,hi,hb,_⟩:=h.rows _ _ _ _ hL hc
  rcases Nat.lt_or_ge (m.blk id) w.heap.size with h' | h'
  ·exact h'
  ·simp [Array.getElem?_eq_none h'] at hb
 ·obtain⟨o,hb,_⟩:=h.iters _ _ hL
  rcases Nat.lt_or_ge (m.blk id) w.heap.size with h' | h'
  ·exact h'
  ·simp [Array.getElem?_eq_none h'] at hb
theorem Ext.refl{m:Mem}{L:Heap}{w:World}:Ext m L w m L w where
 frame _ _ _ _:=rfl
 size:=Nat.le_refl _
 newobj _ _:=rfl
 blks _ h:=.inl ⟨h,rfl⟩
 len:=Nat.le_refl _
 mono:=Z4G.refl m L
 same:=Z9h.refl w
 hnew _ _ h:=.inl h
theorem Ext.trans{m m' m'':Mem}{L L' L'':Heap}{w w' w'':World}(h:Ext m L w m' L' w')(h':Ext m' L' w' m'' L'' w''):Ext m L w m'' L'' w'' where
 frame g hg hid hh:=by
  rw [h'.frame g (Nat.lt_of_lt_of_le hg h.size) (fun id hl=>?_) (fun id hk=>?_),h.frame g hg hid hh]
  ·rcases h.blks id hl with ⟨h1,h2⟩ | h1
   ·rw [h2]; exact hid id h1
   ·omega
  ·rcases h.hnew id g hk with h1 | h1
   ·exact hh id h1
   ·omega
 size:=Nat.le_trans h.size h'.size
 newobj g hg:=by rw [h'.newobj g (Nat.lt_of_lt_of_le hg h.size),h.newobj g hg]
 blks id hl:=by
  rcases h'.blks id hl with ⟨h1,h2⟩ | h1
  ·rcases h.blks id h1 with ⟨h3,h4⟩ | h3
   ·exact .inl ⟨h3,by rw [h2,h4]⟩
   ·exact .inr (by rw [h2]; exact h3)
  ·exact .inr (Nat.le_trans h.size h1)
 len:=Nat.le_trans h.len h'.len
 mono:=h.mono.trans h'.mono
 same:=h.same.trans h'.same
 hnew id g hk:=by
  rcases h'.hnew id g hk with h1 | h1
  ·exact h.hnew id g h1
  ·exact .inr (Nat.le_trans h.size h1)
end Go.Eng