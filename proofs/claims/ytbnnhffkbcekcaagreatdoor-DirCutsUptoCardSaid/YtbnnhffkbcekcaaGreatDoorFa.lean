/- Parts of the walk through directories. Conditions stand in each. -/
import Derived.WalkKit
import Derived.Laws.StructEq
import Derived.ChangeKeysEq
import Derived.Laws.IdiomStrings
set_option linter.unusedVariables false
set_option linter.unusedSimpArgs false
section
namespace Go.Eng
open Go
inductive Key where
 | i (k:IntKind) (n:Int)
 | s (l:List UInt8)
 deriving DecidableEq
def Key.val:Key→Value
 | .i k n=>.int k n
 | .s l=>.string ⟨l.toArray⟩
def Key.kd:Key→Option IntKind
 | .i k _=>some k
 | .s _=>none
inductive AV where
 | any
 | int (k:IntKind) (n:Int)
 | bool (b:Bool)
 | str (l:List UInt8)
 | lit (v:Value)
 | agg (cs:List AV)
 | tup (vs:List AV)
 | sl (cs:List AV) (len:Nat)
 | msl (id ver off len:Nat)
 | ref (id ver off:Nat)
 | ip (cs:List AV)
 | fn (f:Fn) (first captured:List AV)
 | ifc (t:TypeId) (x:AV)
 | when (c:Bool) (x:AV)
 | alt (c:Bool) (x y:AV)
 | ub (p q:Prop)
 | csl (id ver off len:Nat)
 | mp (id:Nat)
 | mpr (kd:Option IntKind) (f:Key→Option Value)
 deriving Inhabited
inductive Raw where
 | iter (s:List UInt8) (pos:Nat)
 | map (kd:Option IntKind) (f:Key→Option Value)
 | obj (b:Option Nat) (o:Obj)
 | bld (T e:TypeId) (l:List UInt8)
 | gone
structure Z7o(kd:Option IntKind)(f:Key→Option Value)(es:List MapEntry):Prop where
 ent:∀e∈es,∃k,e.key=k.val∧f k=some e.val
 has:∀k v,f k=some v→k.kd=kd∧∃e∈es,e.key=k.val
 nodup:(es.map (·.key)).Nodup
def Z4r(es:List MapEntry)(clock:Nat):Prop:=(∀x∈es,x.born<clock)∧(es.map (·.born)).Nodup
structure MRC(kd:Option IntKind)(f:Key→Option Value)(es:List MapEntry)(clock:Nat):Prop where
 rel:Z7o kd f es
 st:Z4r es clock
def Z4s(b:Nat):Raw→Obj→Prop
 | .iter s p,o=>o=.stringIter ⟨s.toArray⟩ p
 | .map kd f,o=>∃es clock,o=.map es clock∧MRC kd f es.toList clock
 | .obj b' o',o=>(∀x,b'=some x→b=x)∧o=o'
 | .bld ..,_=>True
 | .gone,_=>True
inductive Z0Q where
 | row (cs:List AV) (sz ver:Nat)
 | raw (r:Raw)
 | dead
 deriving Inhabited
abbrev Z01:=List Z0Q
structure Mem where
 pobj:Nat→Option Obj
 blk:Nat→Nat
 cap:Nat→Nat
def Mem.pin(m:Mem)(g o:Nat):Option Value:=match m.pobj g with
 | some (.cells c _ _)=>c[o]?
 | _=>none
mutual
def Z03(m:Mem)(L:Z01):AV→Value→Prop
 | .any,_=>True
 | .int k n,u=>u=.int k n
 | .bool b,u=>u=.bool b
 | .str l,u=>u=.string ⟨l.toArray⟩
 | .lit v,u=>u=v
 | .agg cs,u=>∃us:List Value,u=.agg us.toArray∧Z0a m L cs us
 | .tup cs,u=>∃us:List Value,u=.tuple us.toArray∧Z0a m L cs us
 | .sl cs len,u=>∃a cap,u=.slice a len cap∧len≤cap∧∃us,Z0a m L cs us∧
   (us=[]∨∃g o,a=some ⟨g,o,none⟩∧∀i v,us[i]?=some v→m.pin g (o+i)=some v)
 | .msl id ver off len,u=>∃cs sz v,L[id]?=some (.row cs sz v)∧ver≤v∧(∃a n c,u=.slice a n c)∧(v=ver→(off+len)*sz≤cs.length∧off+len≤m.cap id∧
   ∃a,u=.slice a len (m.cap id - off)∧(off=m.cap id∨a=some ⟨m.blk id,off*sz,none⟩))
 | .ref id ver off,u=>(∃cs sz v,L[id]?=some (.row cs sz v)∧ver≤v∧(∃a,u=.pointer a)∧(v=ver→u=.pointer (some ⟨m.blk id,off,none⟩)))∨
   (∃r,L[id]?=some (.raw r)∧u=.pointer (some ⟨m.blk id,0,none⟩))
 | .ip cs,u=>∃us g o,u=.pointer (some ⟨g,o,none⟩)∧Z0a m L cs us∧∀i v,us[i]?=some v→m.pin g (o+i)=some v
 | .fn f first captured,u=>∃us vs:List Value,u=.func f us.toArray vs.toArray∧Z0a m L first us∧Z0a m L captured vs
 | .ifc t x,u=>∃v,u=.iface t v∧Z03 m L x v
 | .when c x,u=>(c=true→Z03 m L x u)∧(c=false→u=undef)
 | .alt c x y,u=>(c=true→Z03 m L x u)∧(c=false→Z03 m L y u)
 | .ub p q,u=>∃b,u=.bool b∧(b=true→p)∧(b=false→q)
 | .csl id ver off len,u=>∃cs sz v,L[id]?=some (.row cs sz v)∧ver≤v∧(∃a n c,u=.slice a n c)∧(v=ver→(off+len)*sz≤cs.length∧off+len≤m.cap id∧
   ∃a,u=.slice a len len∧(len=0∨a=some ⟨m.blk id,off*sz,none⟩))
 | .mp id,u=>∃r,L[id]?=some (.raw r)∧u=.map (some (m.blk id))
 | .mpr kd f,u=>∃g es clock,u=.map (some g)∧m.pobj g=some (.map es clock)∧MRC kd f es.toList clock
def Z0a(m:Mem)(L:Z01):List AV→List Value→Prop
 | [],us=>us=[]
 | c::cs,us=>∃u us',us=u::us'∧Z03 m L c u∧Z0a m L cs us'
end
theorem Z0a.length{m:Mem}{L:Z01}:∀{cs:List AV} {us:List Value},Z0a m L cs us→us.length=cs.length
 | [],us,h=>by simp only [Z0a] at h; simp [h]
 | c::cs,us,h=>by
  simp only [Z0a] at h
  obtain⟨u,us',rfl,_,h2⟩:=h
  simp [h2.length]
theorem Z0a.get{m:Mem}{L:Z01}:∀{cs:List AV} {us:List Value},Z0a m L cs us→∀(i:Nat) (c:AV),cs[i]?=some c→∃u,us[i]?=some u∧Z03 m L c u
 | [],_,_=>by simp
 | c::cs,us,h=>by
  simp only [Z0a] at h
  obtain⟨u,us',rfl,h1,h2⟩:=h
  intro i c' hi
  cases i with
  | zero=>simp at hi; subst hi; exact⟨u,by simp,h1⟩
  | succ i=>simpa using h2.get i c' (by simpa using hi)
theorem Z0a.mk{m:Mem}{L:Z01}:∀{cs:List AV} {us:List Value},us.length=cs.length→(∀(i:Nat) (c:AV) (u:Value),cs[i]?=some c→us[i]?=some u→Z03 m L c u)→Z0a m L cs us
 | [],us,hl,_=>by simp only [Z0a]; simpa using hl
 | c::cs,[],hl,_=>by simp at hl
 | c::cs,u::us,hl,h=>by
  simp only [Z0a]
  refine⟨u,us,rfl,h 0 c u (by simp) (by simp),Z0a.mk (by simpa using hl) fun i c' u' hc hu=>h (i+1) c' u' (by simpa using hc) (by simpa using hu)⟩
theorem Z0a.getD{m:Mem}{L:Z01}{cs:List AV}{us:List Value}(h:Z0a m L cs us)(i:Nat):Z03 m L (cs.getD i .any) (us.getD i undef):=by
 cases hc:cs[i]? with
 | none=>simp [List.getD,hc,Z03]
 | some c=>
  obtain⟨u,hu,hr⟩:=h.get i c hc
  simp [List.getD,hc,hu,hr]
theorem Z0a.set{m:Mem}{L:Z01}{cs:List AV}{us:List Value}(h:Z0a m L cs us)(i:Nat){c:AV}{u:Value}(hr:Z03 m L c u):Z0a m L (cs.set i c) (us.set i u):=by
 refine Z0a.mk (by simp [h.length]) fun j c' u' hc hu=>?_
 rw [List.getElem?_set] at hc hu
 by_cases hij:i=j
 ·subst hij
  have hl:=h.length
  by_cases hlt:i<cs.length
  ·simp [hlt] at hc; simp [hl,hlt] at hu; subst hc; subst hu; exact hr
  ·simp [hlt] at hc
 ·simp [hij] at hc hu
  obtain⟨u₁,hu₁,hr₁⟩:=h.get j c' hc
  rw [hu] at hu₁
  obtain rfl:=Option.some.inj hu₁
  exact hr₁
theorem Z0a.append{m:Mem}{L:Z01}{cs ds:List AV}{us vs:List Value}(h:Z0a m L cs us)(h':Z0a m L ds vs):Z0a m L (cs++ds) (us++vs):=by
 refine Z0a.mk (by simp [h.length,h'.length]) fun j c u hc hu=>?_
 have hl:=h.length
 by_cases hj:j<cs.length
 ·rw [List.getElem?_append_left hj] at hc
  rw [List.getElem?_append_left (by omega)] at hu
  obtain⟨u₁,hu₁,hr₁⟩:=h.get j c hc
  rw [hu] at hu₁; obtain rfl:=Option.some.inj hu₁; exact hr₁
 ·rw [List.getElem?_append_right (by omega)] at hc hu
  rw [hl] at hu
  obtain⟨u₁,hu₁,hr₁⟩:=h'.get _ c hc
  rw [hu] at hu₁; obtain rfl:=Option.some.inj hu₁; exact hr₁
theorem Z0a.take{m:Mem}{L:Z01}{cs:List AV}{us:List Value}(h:Z0a m L cs us)(n:Nat):Z0a m L (cs.take n) (us.take n):=by
 refine Z0a.mk (by simp [h.length]) fun j c u hc hu=>?_
 rw [List.getElem?_take] at hc hu
 split at hc
 ·rename_i hj
  simp [hj] at hu
  obtain⟨u₁,hu₁,hr₁⟩:=h.get _ c hc
  rw [hu] at hu₁; obtain rfl:=Option.some.inj hu₁; exact hr₁
 ·simp at hc
theorem Z0a.drop{m:Mem}{L:Z01}{cs:List AV}{us:List Value}(h:Z0a m L cs us)(n:Nat):Z0a m L (cs.drop n) (us.drop n):=by
 refine Z0a.mk (by simp [h.length]) fun j c u hc hu=>?_
 rw [List.getElem?_drop] at hc hu
 obtain⟨u₁,hu₁,hr₁⟩:=h.get _ c hc
 rw [hu] at hu₁; obtain rfl:=Option.some.inj hu₁; exact hr₁
theorem Z0a.nil(m:Mem)(L:Z01):Z0a m L [] []:=by simp [Z0a]
theorem Z0a.cons{m:Mem}{L:Z01}{c:AV}{cs:List AV}{u:Value}{us:List Value}(h:Z03 m L c u)(h':Z0a m L cs us):Z0a m L (c::cs) (u::us):=by
 simp only [Z0a]; exact⟨u,us,rfl,h,h'⟩
structure Z4D(m:Mem)(L:Z01)(m':Mem)(L':Z01):Prop where
 pobj:∀g o,m.pobj g=some o→m'.pobj g=some o
 row:∀id cs sz ver,L[id]?=some (.row cs sz ver)→∃cs' ver',L'[id]?=some (.row cs' sz ver')∧ver≤ver'∧
  (ver'=ver→cs'.length=cs.length∧m'.blk id=m.blk id∧m'.cap id=m.cap id)
 iter:∀id r,L[id]?=some (.raw r)→∃r',L'[id]?=some (.raw r')∧m'.blk id=m.blk id
theorem Mem.pin_some{m:Mem}{g o:Nat}{v:Value}(h:m.pin g o=some v):∃c e f,m.pobj g=some (.cells c e f)∧c[o]?=some v:=by
 unfold Mem.pin at h
 split at h
 ·rename_i c e f hp; exact⟨c,e,f,hp,h⟩
 ·cases h
theorem Mem.pin_of{m:Mem}{g o:Nat}{v:Value}{c:Array Value}{e:TypeId}{f:Nat×Nat}(h:m.pobj g=some (.cells c e f))(hc:c[o]?=some v):m.pin g o=some v:=by
 unfold Mem.pin; rw [h]; exact hc
theorem Mem.pin_heap{m:Mem}{w:World}{g o:Nat}{v:Value}(h:m.pobj g=w.heap[g]?)(hc:w.cell? ⟨g,o,none⟩=some v):m.pin g o=some v:=by
 unfold World.cell? at hc
 unfold Mem.pin
 rw [h]
 split at hc
 ·rename_i c e f hw; simp only at hw; rw [hw]; simpa using hc
 ·cases hc
theorem Z4D.pin{m:Mem}{L:Z01}{m':Mem}{L':Z01}(M:Z4D m L m' L')(g o:Nat)(v:Value)(h:m.pin g o=some v):m'.pin g o=some v:=by
 obtain⟨c,e,f,h1,h2⟩:=Mem.pin_some h
 exact Mem.pin_of (M.pobj _ _ h1) h2
mutual
theorem Z03.mono{m:Mem}{L:Z01}{m':Mem}{L':Z01}(M:Z4D m L m' L'):∀(x:AV) (u:Value),Z03 m L x u→Z03 m' L' x u
 | .any,_,_=>by simp [Z03]
 | .int ..,_,h=>by simpa [Z03] using h
 | .bool _,_,h=>by simpa [Z03] using h
 | .str _,_,h=>by simpa [Z03] using h
 | .lit _,_,h=>by simpa [Z03] using h
 | .agg cs,u,h=>by
  simp only [Z03] at *
  obtain⟨us,rfl,hc⟩:=h
  exact⟨us,rfl,Z0a.mono M cs us hc⟩
 | .tup cs,u,h=>by
  simp only [Z03] at *
  obtain⟨us,rfl,hc⟩:=h
  exact⟨us,rfl,Z0a.mono M cs us hc⟩
 | .sl cs len,u,h=>by
  simp only [Z03] at *
  obtain⟨a,cap,rfl,hl,us,hc,hp⟩:=h
  refine⟨a,cap,rfl,hl,us,Z0a.mono M cs us hc,?_⟩
  rcases hp with hp | ⟨g,o,ha,hp⟩
  ·exact .inl hp
  ·exact .inr ⟨g,o,ha,fun i v hv=>M.pin _ _ _ (hp i v hv)⟩
 | .msl id ver off len,u,h=>by
  simp only [Z03] at *
  obtain⟨cs,sz,v,hL,hv,hsh,h⟩:=h
  obtain⟨cs',v',hL',hvv,hk⟩:=M.row _ _ _ _ hL
  refine⟨cs',sz,v',hL',by omega,hsh,fun e=>?_⟩
  have e1:v=ver:=by omega
  obtain⟨h1,h2,h3⟩:=h e1
  obtain⟨k1,k2,k3⟩:=hk (by omega)
  rw [k1,k2,k3]
  exact⟨h1,h2,h3⟩
 | .ref id ver off,u,h=>by
  simp only [Z03] at *
  rcases h with ⟨cs,sz,v,hL,hv,hsh,h⟩ | ⟨r,hL,h⟩
  ·obtain⟨cs',v',hL',hvv,hk⟩:=M.row _ _ _ _ hL
   refine .inl ⟨cs',sz,v',hL',by omega,hsh,fun e=>?_⟩
   have e1:v=ver:=by omega
   obtain⟨k1,k2,k3⟩:=hk (by omega)
   rw [k2]; exact h e1
  ·obtain⟨r',hL',hk⟩:=M.iter _ _ hL
   exact .inr ⟨r',hL',by rw [hk]; exact h⟩
 | .ip cs,u,h=>by
  simp only [Z03] at *
  obtain⟨us,g,o,rfl,hc,hp⟩:=h
  exact⟨us,g,o,rfl,Z0a.mono M cs us hc,fun i v hv=>M.pin _ _ _ (hp i v hv)⟩
 | .fn f first captured,u,h=>by
  simp only [Z03] at *
  obtain⟨us,vs,rfl,h1,h2⟩:=h
  exact⟨us,vs,rfl,Z0a.mono M first us h1,Z0a.mono M captured vs h2⟩
 | .ifc t x,u,h=>by
  simp only [Z03] at *
  obtain⟨v,rfl,h⟩:=h
  exact⟨v,rfl,Z03.mono M x v h⟩
 | .when c x,u,h=>by
  simp only [Z03] at *
  exact⟨fun hc=>Z03.mono M x u (h.1 hc),h.2⟩
 | .alt c x y,u,h=>by
  simp only [Z03] at *
  exact⟨fun hc=>Z03.mono M x u (h.1 hc),fun hc=>Z03.mono M y u (h.2 hc)⟩
 | .ub ..,_,h=>by simpa only [Z03] using h
 | .csl id ver off len,u,h=>by
  simp only [Z03] at *
  obtain⟨cs,sz,v,hL,hv,hsh,h⟩:=h
  obtain⟨cs',v',hL',hvv,hk⟩:=M.row _ _ _ _ hL
  refine⟨cs',sz,v',hL',by omega,hsh,fun e=>?_⟩
  have e1:v=ver:=by omega
  obtain⟨h1,h2,h3⟩:=h e1
  obtain⟨k1,k2,k3⟩:=hk (by omega)
  rw [k1,k2,k3]
  exact⟨h1,h2,h3⟩
 | .mp id,u,h=>by
  simp only [Z03] at *
  obtain⟨r,hL,h⟩:=h
  obtain⟨r',hL',hk⟩:=M.iter _ _ hL
  exact⟨r',hL',by rw [hk]; exact h⟩
 | .mpr kd f,u,h=>by
  simp only [Z03] at *
  obtain⟨g,es,clock,hu,hp,hM⟩:=h
  exact⟨g,es,clock,hu,M.pobj _ _ hp,hM⟩
theorem Z0a.mono{m:Mem}{L:Z01}{m':Mem}{L':Z01}(M:Z4D m L m' L'):∀(cs:List AV) (us:List Value),Z0a m L cs us→Z0a m' L' cs us
 | [],_,h=>by simpa [Z0a] using h
 | c::cs,us,h=>by
  simp only [Z0a] at *
  obtain⟨u,us',rfl,h1,h2⟩:=h
  exact⟨u,us',rfl,Z03.mono M c u h1,Z0a.mono M cs us' h2⟩
end
theorem Z4D.refl(m:Mem)(L:Z01):Z4D m L m L where
 pobj _ _ h:=h
 row _ cs _ ver h:=⟨cs,ver,h,Nat.le_refl _,fun _=>⟨rfl,rfl,rfl⟩⟩
 iter _ r h:=⟨r,h,rfl⟩
theorem Z4D.trans{m m' m'':Mem}{L L' L'':Z01}(h:Z4D m L m' L')(h':Z4D m' L' m'' L''):Z4D m L m'' L'' where
 pobj g o hp:=h'.pobj g o (h.pobj g o hp)
 row id cs sz ver hL:=by
  obtain⟨cs',v',hL',h1,h2⟩:=h.row _ _ _ _ hL
  obtain⟨cs'',v'',hL'',h3,h4⟩:=h'.row _ _ _ _ hL'
  refine⟨cs'',v'',hL'',by omega,fun e=>?_⟩
  obtain⟨k1,k2,k3⟩:=h2 (by omega)
  obtain⟨j1,j2,j3⟩:=h4 (by omega)
  exact⟨by omega,by rw [j2,k2],by rw [j3,k3]⟩
 iter id r hL:=by
  obtain⟨r',hL',h1⟩:=h.iter _ _ hL
  obtain⟨r'',hL'',h2⟩:=h'.iter _ _ hL'
  exact⟨r'',hL'',by rw [h2,h1]⟩
def Own(m:Mem)(L:Z01)(id:Nat):Prop:=(∃cs sz ver,L[id]?=some (.row cs sz ver)∧m.cap id≠0)∨(∃r,L[id]?=some (.raw r))
def Zig:List Nat:=[]
def Zot:List (Nat×List Value):=[]
def tyB:List (Nat×Nat):=[]
def lkT:List (Nat×Nat)→Nat→Option Nat
 | [],_=>none
 | (a,b)::r,t=>cond (a == t) (some b) (lkT r t)
def GOK(p:Nat→Option Obj):Prop:=(∀g∈Zig,∃t x c e f,p g=some (.cells c e f)∧c[0]?=some (.iface t x))∧∀q∈Zot,∃c e f,p q.1=some (.cells c e f)∧c.toList=q.2
theorem GOK.mono{p p':Nat→Option Obj}(h:GOK p)(hp:∀g o,p g=some o→p' g=some o):GOK p':=
 ⟨fun g hg=>by obtain⟨t,x,c,e,f,h1,h2⟩:=h.1 g hg; exact⟨t,x,c,e,f,hp _ _ h1,h2⟩,fun q hq=>by obtain⟨c,e,f,h1,h2⟩:=h.2 q hq; exact⟨c,e,f,hp _ _ h1,h2⟩⟩
def Zaa(w:World)(b c:Nat)(T e:TypeId)(l:List UInt8):Prop:=
 ∃p v,w.heap[b]?=some (.cells #[p,v] T (0,0))∧(p=.pointer none∨p=.pointer (some ⟨b,0,none⟩))∧
  ((c=0∧v=.slice none 0 0∧l=[])∨∃g cur,c=g+1∧v=.slice (some ⟨g,0,none⟩) l.length cur.size∧w.heap[g]?=some (.cells cur e (0,0))∧l.length≤cur.size∧
   ∀(j:Nat) x,l[j]?=some x→cur[j]?=some (.int .u8 x.toNat))
def Hid(m:Mem)(L:Z01)(id g:Nat):Prop:=∃T e l,L[id]?=some (.raw (.bld T e l))∧m.cap id=g+1
structure Z3H(m:Mem)(L:Z01)(w:World):Prop where
 at_:∀id T e l,L[id]?=some (.raw (.bld T e l))→Zaa w (m.blk id) (m.cap id) T e l
 free:∀id g,Hid m L id g→m.pobj g=none
 own:∀id g,Hid m L id g→∀j,Own m L j→m.blk j≠g
 inj:∀i j g,Hid m L i g→Hid m L j g→i=j
structure Z0D(m:Mem)(L:Z01)(w:World):Prop where
 glob:GOK m.pobj
 pobjs:∀g o,m.pobj g=some o→w.heap[g]?=some o
 rows:∀id cs sz ver,L[id]?=some (.row cs sz ver)→m.cap id≠0→∃us rest elem lo hi,w.heap[m.blk id]?=some (.cells (us++rest).toArray elem (lo,hi))∧Z0a m L cs us∧
  us.length+rest.length=m.cap id*sz∧(hi=lo∨(m.cap id*sz≤lo∧sz=1))
 nils:∀id cs sz ver,L[id]?=some (.row cs sz ver)→m.cap id=0→cs=[]
 iters:∀id r,L[id]?=some (.raw r)→∃o,w.heap[m.blk id]?=some o∧Z4s (m.blk id) r o
 inj:∀i j,Own m L i→Own m L j→m.blk i=m.blk j→i=j
 freeo:∀id,Own m L id→m.pobj (m.blk id)=none
 hid:Z3H m L w
theorem Z3H.nil{m:Mem}{w:World}:Z3H m [] w:=
 ⟨fun _ _ _ _ h=>by simp at h,fun _ _ ⟨_,_,_,h,_⟩=>by simp at h,fun _ _ ⟨_,_,_,h,_⟩=>by simp at h,fun _ _ _ ⟨_,_,_,h,_⟩=>by simp at h⟩
theorem Hid.own{m:Mem}{L:Z01}{id g:Nat}(h:Hid m L id g):Own m L id:=by
 obtain⟨T,e,l,h,_⟩:=h; exact .inr ⟨_,h⟩
theorem Z3H.lt{m:Mem}{L:Z01}{w:World}(h:Z3H m L w){id g:Nat}(hg:Hid m L id g):g<w.heap.size:=by
 obtain⟨T,e,l,hL,hc⟩:=hg
 obtain⟨p,v,_,_,h⟩:=h.at_ _ _ _ _ hL
 rcases h with ⟨h0,_⟩ | ⟨g',cur,h1,_,h2,_⟩
 ·omega
 ·obtain rfl:g=g':=by omega
  rcases Nat.lt_or_ge g w.heap.size with h' | h'
  ·exact h'
  ·simp [Array.getElem?_eq_none h'] at h2
theorem Zaa.same{w w':World}{b c:Nat}{T e:TypeId}{l:List UInt8}(h:Zaa w b c T e l)(h1:w'.heap[b]?=w.heap[b]?)(h2:∀g,c=g+1→w'.heap[g]?=w.heap[g]?):Zaa w' b c T e l:=by
 obtain⟨p,v,k1,k2,k3⟩:=h
 refine⟨p,v,by rw [h1]; exact k1,k2,?_⟩
 rcases k3 with k3 | ⟨g,cur,k3,k4,k5,k6⟩
 ·exact .inl k3
 ·exact .inr ⟨g,cur,k3,k4,by rw [h2 g k3]; exact k5,k6⟩
theorem Z3H.keep{m m':Mem}{L L':Z01}{w w':World}(h:Z3H m L w)(hobj:∀id T e l,L'[id]?=some (.raw (.bld T e l))→L[id]?=some (.raw (.bld T e l))∧m'.blk id=m.blk id∧m'.cap id=m.cap id)
  (hb:∀id T e l,L[id]?=some (.raw (.bld T e l))→L'[id]?=some (.raw (.bld T e l))→w'.heap[m.blk id]?=w.heap[m.blk id]?) (hg:∀id g,Hid m L id g→w'.heap[g]?=w.heap[g]?)
  (hp:∀id g,Hid m L id g→m'.pobj g=none) (ho:∀id g,Hid m L id g→∀j,Own m' L' j→m'.blk j≠g):Z3H m' L' w':=by
 have hh:∀id g,Hid m' L' id g→Hid m L id g:=by
  rintro id g ⟨T,e,l,hL,hc⟩
  obtain⟨k1,k2,k3⟩:=hobj _ _ _ _ hL
  exact⟨T,e,l,k1,by omega⟩
 refine⟨fun id T e l hL=>?_,fun id g k=>hp id g (hh id g k),fun id g k=>ho id g (hh id g k),fun i j g k1 k2=>h.inj i j g (hh i g k1) (hh j g k2)⟩
 obtain⟨k1,k2,k3⟩:=hobj _ _ _ _ hL
 rw [k2,k3]
 exact (h.at_ _ _ _ _ k1).same (hb _ _ _ _ k1 hL) fun g hc=>hg id g ⟨T,e,l,k1,hc⟩
theorem Z0D.pins{m:Mem}{L:Z01}{w:World}(h:Z0D m L w)(g o:Nat)(v:Value)(hp:m.pin g o=some v):w.cell? ⟨g,o,none⟩=some v:=by
 obtain⟨c,e,f,h1,h2⟩:=Mem.pin_some hp
 have:=h.pobjs _ _ h1
 simp [World.cell?,this,h2]
theorem Z0D.pobj_lt{m:Mem}{L:Z01}{w:World}(h:Z0D m L w){g:Nat}{o:Obj}(hp:m.pobj g=some o):g<w.heap.size:=by
 have:=h.pobjs _ _ hp
 rcases Nat.lt_or_ge g w.heap.size with h' | h'
 ·exact h'
 ·simp [Array.getElem?_eq_none h'] at this
def Z9b(w w':World):Prop:=w'.os=w.os∧w'.tape=w.tape∧w'.output=w.output
theorem Z9b.refl(w:World):Z9b w w:=⟨rfl,rfl,rfl⟩
theorem Z9b.trans{w w' w'':World}(h:Z9b w w')(h':Z9b w' w''):Z9b w w'':=⟨h'.1.trans h.1,h'.2.1.trans h.2.1,h'.2.2.trans h.2.2⟩
structure Ext(m:Mem)(L:Z01)(w:World)(m':Mem)(L':Z01)(w':World):Prop where
 frame:∀g,g<w.heap.size→(∀id,Own m L id→m.blk id≠g)→(∀id,¬Hid m L id g)→w'.heap[g]?=w.heap[g]?
 size:w.heap.size≤w'.heap.size
 newobj:∀g,g<w.heap.size→m'.pobj g=m.pobj g
 blks:∀id,Own m' L' id→(Own m L id∧m'.blk id=m.blk id)∨w.heap.size≤m'.blk id
 len:L.length≤L'.length
 mono:Z4D m L m' L'
 same:Z9b w w'
 hnew:∀id g,Hid m' L' id g→Hid m L id g∨w.heap.size≤g
theorem Z0D.blk_lt{m:Mem}{L:Z01}{w:World}(h:Z0D m L w){id:Nat}(hl:Own m L id):m.blk id<w.heap.size:=by
 rcases hl with ⟨cs,sz,ver,hL,hc⟩ | ⟨r,hL⟩
 ·obtain⟨us,rest,elem,lo,hi,hb,_⟩:=h.rows _ _ _ _ hL hc
  rcases Nat.lt_or_ge (m.blk id) w.heap.size with h' | h'
  ·exact h'
  ·simp [Array.getElem?_eq_none h'] at hb
 ·obtain⟨o,hb,_⟩:=h.iters _ _ hL
  rcases Nat.lt_or_ge (m.blk id) w.heap.size with h' | h'
  ·exact h'
  ·simp [Array.getElem?_eq_none h'] at hb
theorem Ext.refl{m:Mem}{L:Z01}{w:World}:Ext m L w m L w where
 frame _ _ _ _:=rfl
 size:=Nat.le_refl _
 newobj _ _:=rfl
 blks _ h:=.inl ⟨h,rfl⟩
 len:=Nat.le_refl _
 mono:=Z4D.refl m L
 same:=Z9b.refl w
 hnew _ _ h:=.inl h
theorem Ext.trans{m m' m'':Mem}{L L' L'':Z01}{w w' w'':World}(h:Ext m L w m' L' w')(h':Ext m' L' w' m'' L'' w''):Ext m L w m'' L'' w'' where
 frame g hg hid hh:=by
  rw [h'.frame g (Nat.lt_of_lt_of_le hg h.size) (fun id hl=>?_) (fun id hk=>?_),h.frame g hg hid hh]
  ·rcases h.blks id hl with ⟨h1,h2⟩ | h1
   ·rw [h2]; exact hid id h1
   ·omega
  ·rcases h.hnew id g hk with h1 | h1
   ·exact hh id h1
   ·omega
 size:=Nat.le_trans h.size h'.size
 newobj g hg:=by rw [h'.newobj g (Nat.lt_of_lt_of_le hg h.size),h.newobj g hg]
 blks id hl:=by
  rcases h'.blks id hl with ⟨h1,h2⟩ | h1
  ·rcases h.blks id h1 with ⟨h3,h4⟩ | h3
   ·exact .inl ⟨h3,by rw [h2,h4]⟩
   ·exact .inr (by rw [h2]; exact h3)
  ·exact .inr (Nat.le_trans h.size h1)
 len:=Nat.le_trans h.len h'.len
 mono:=h.mono.trans h'.mono
 same:=h.same.trans h'.same
 hnew id g hk:=by
  rcases h'.hnew id g hk with h1 | h1
  ·exact h.hnew id g h1
  ·exact .inr (Nat.le_trans h.size h1)
structure Rz where
 pre:Prop
 v:AV
 L:Z01
def Z4o:Value→AV
 | .int k n=>.int k n
 | .bool b=>.bool b
 | .string s=>.str s.data.toList
 | v=>.lit v
def ofV:Value→AV
 | .agg cs=>.agg (cs.toList.map Z4o)
 | .func f first captured=>.fn f (first.toList.map Z4o) (captured.toList.map Z4o)
 | v=>Z4o v
def opd(fr:List AV):Operand→AV
 | .tmp t=>fr.getD t .any
 | .const v=>ofV v
 | .global g=>.lit (.pointer (some ⟨g,0,none⟩))
 | .func f=>.fn (.func f) [] []
def AV.cond:AV→Bool
 | .when c _=>c
 | _=>true
def AV.bare:AV→AV
 | .when _ x=>x
 | x=>x
def AV.cells:AV→List AV
 | .agg cs=>cs
 | x=>[x]
def need(c:Bool)(x:AV):Prop:=c=true→x.cond=true
theorem ZdG(c:Bool)(x:AV):need c (.when c x)=True:=eq_true fun h=>h
theorem ZbG(x:AV):need false x=True:=by simp [need]
def pk(b p q:Bool):Bool:=bif b then p else q
theorem ZkX(b p:Bool):pk b p false=(b && p):=by cases b <;> rfl
theorem ZnE(b q:Bool):pk b true q=(b || q):=by cases b <;> rfl
def Z6J(b:Bool):AV→AV→AV
 | .bool p,.bool q=>.bool (pk b p q)
 | x,y=>bif b then x else y
def Z05(b:UInt8):AV:=.int .u8 b.toNat
def Z7a:AV→Bool
 | .int .u8 n=>decide (0≤n∧n<256)
 | _=>false
def Z8h:AV→UInt8
 | .int .u8 n=>UInt8.ofNat n.toNat
 | _=>0
def Z0C(cs:List AV):List UInt8:=cs.map Z8h
def Z1A(cs:List AV):Bool:=cs.all Z7a
theorem Z2F(l:List UInt8):Z0C (l.map Z05)=l:=by
 simp only [Z0C,List.map_map]
 conv=>rhs; rw [←List.map_id l]
 apply List.map_congr_left
 intro b _
 simp [Z8h,Z05]
theorem Z2k(l:List UInt8):Z1A (l.map Z05)=true:=by
 simp only [Z1A,List.all_map,List.all_eq_true]
 intro b _
 have:=b.toNat_lt
 simp [Z7a,Z05]; omega
def Z7V(op:BinOp)(k:IntKind)(x y:Int):Int:=
 match op with
 | .and=>k.wrap (BitVec.ofInt k.bits x &&& BitVec.ofInt k.bits y).toNat
 | .or=>k.wrap (BitVec.ofInt k.bits x ||| BitVec.ofInt k.bits y).toNat
 | .xor=>k.wrap (BitVec.ofInt k.bits x ^^^ BitVec.ofInt k.bits y).toNat
 | _=>k.wrap (BitVec.ofInt k.bits x &&& ~~~(BitVec.ofInt k.bits y)).toNat
def ZmC(c:Bool)(L:Z01)(op:BinOp)(k:IntKind)(a:Int)(k':IntKind)(b:Int):Rz:=
 match op with
 | .add=>⟨k=k',.int k (k.wrap (a+b)),L⟩
 | .sub=>⟨k=k',.int k (k.wrap (a - b)),L⟩
 | .mul=>⟨k=k',.int k (k.wrap (a*b)),L⟩
 | .quo=>⟨k=k'∧(c=true→b≠0),.int k (k.wrap (a.tdiv b)),L⟩
 | .rem=>⟨k=k'∧(c=true→b≠0),.int k (a.tmod b),L⟩
 | .and=>⟨k=k',.int k (Z7V .and k a b),L⟩
 | .or=>⟨k=k',.int k (Z7V .or k a b),L⟩
 | .xor=>⟨k=k',.int k (Z7V .xor k a b),L⟩
 | .andNot=>⟨k=k',.int k (Z7V .andNot k a b),L⟩
 | .shl=>⟨c=true→0≤b,.int k (k.wrap (a*2 ^ (min b.toNat k.bits))),L⟩
 | .shr=>⟨c=true→0≤b,.int k (a.fdiv (2 ^ (min b.toNat k.bits))),L⟩
 | .eql=>⟨k=k',.bool (decide (a=b)),L⟩
 | .neq=>⟨k=k',.bool (!decide (a=b)),L⟩
 | .lss=>⟨k=k',.bool (decide (a<b)),L⟩
 | .leq=>⟨k=k',.bool (decide (a≤b)),L⟩
 | .gtr=>⟨k=k',.bool (decide (b<a)),L⟩
 | .geq=>⟨k=k',.bool (decide (b≤a)),L⟩
def Zmx(c:Bool)(L:Z01)(op:BinOp)(a b:List UInt8):Rz:=
 match op with
 | .add=>⟨c=true→a.length+b.length<9223372036854775808,.str (a++b),L⟩
 | .eql=>⟨True,.bool (a == b),L⟩
 | .neq=>⟨True,.bool (!(a == b)),L⟩
 | .lss=>⟨True,.bool (Op.bytesLess a b),L⟩
 | .leq=>⟨True,.bool (Op.bytesLess a b || a == b),L⟩
 | .gtr=>⟨True,.bool (!(Op.bytesLess a b || a == b)),L⟩
 | .geq=>⟨True,.bool (!Op.bytesLess a b),L⟩
 | _=>⟨False,.any,L⟩
def Z0L(L:Z01)(id:Nat):List AV:=match L[id]? with | some (.row cs _ _)=>cs | _=>[]
def Z1K(L:Z01)(id:Nat):Nat:=match L[id]? with | some (.row _ sz _)=>sz | _=>0
def Z1t(L:Z01)(id:Nat):Nat:=match L[id]? with | some (.row _ _ v)=>v | _=>0
def isRow(L:Z01)(id:Nat):Bool:=match L[id]? with | some (.row ..)=>true | _=>false
def Z14(L:Z01)(id ver:Nat):Prop:=isRow L id=true∧Z1t L id=ver
def Zi7(P:Program)(L:Z01)(neq k:Bool)(t:TypeId)(x:AV)(v:Value):Rz:=
 match P.underlying t,x,v with
 | some (.slice _),.lit (.slice none _ _),.slice none _ _=>⟨True,.bool (!neq),L⟩
 | some (.slice _),.sl cs n,.slice none _ _=>⟨True,cond neq (.ub True (cs=[])) (.ub (cs=[]) True),L⟩
 | some (.slice _),.msl id ver _ n,.slice none _ _=>⟨Z14 L id ver,cond neq (.ub True (n=0)) (.ub (n=0) True),L⟩
 | some (.pointer _),.lit (.pointer none),.pointer none=>⟨True,.bool (!neq),L⟩
 | some (.pointer _),.ref id ver _,.pointer none=>⟨Z14 L id ver,.bool neq,L⟩
 | some (.pointer _),.ip _,.pointer none=>⟨True,.bool neq,L⟩
 | some (.interface _),.lit .nilIface,.nilIface=>⟨k=true,.bool (!neq),L⟩
 | some (.interface _),.ifc _ _,.nilIface=>⟨True,.bool neq,L⟩
 | some (.map _ _),.lit (.map none),.map none=>⟨True,.bool (!neq),L⟩
 | some (.map _ _),.mp _,.map none=>⟨True,.bool neq,L⟩
 | some (.map _ _),.mpr _ _,.map none=>⟨True,.bool neq,L⟩
 | some (.func _ _ _),.lit .nilFunc,.nilFunc=>⟨True,.bool (!neq),L⟩
 | some (.func _ _ _),.fn _ _ _,.nilFunc=>⟨True,.bool neq,L⟩
 | _,_,_=>⟨False,.any,L⟩
def Zhx:AV→AV→Option Bool
 | .int k a,.int k' b=>if k=k' then some (decide (a=b)) else none
 | .str a,.str b=>some (a == b)
 | .bool a,.bool b=>some (a == b)
 | _,_=>none
def Zik(P:Program)(t:TypeId)(x:AV):Bool:=match x with
 | .int _ _=>match P.underlying t with | some (.int _)=>true | _=>false
 | .str _=>match P.underlying t with | some .string=>true | _=>false
 | .bool _=>match P.underlying t with | some .bool=>true | _=>false
 | _=>false
def eqFs(P:Program)(cs ds:List AV):List Field→Option Bool
 | []=>some true
 | f::fs=>if f.name≠ "_"∧Zik P f.type (cs.getD f.offset .any)=true∧(P.info? f.type).isSome=true∧f.offset<cs.length∧f.offset<ds.length then
   match Zhx (cs.getD f.offset .any) (ds.getD f.offset .any),eqFs P cs ds fs with
   | some b,some c=>some (b && c)
   | _,_=>none
  else none
def Z8X(P:Program)(c:Bool)(L:Z01)(neq:Bool)(t:TypeId)(cs ds:List AV):Rz:=
 match P.underlying t with
 | some (.struct fields)=>match eqFs P cs ds fields.toList with
  | some b=>⟨P.stoodInHeld t=false∧P.eqGuardType P.depth t=false,.bool (cond neq (!b) b),L⟩
  | none=>⟨c=false,.any,L⟩
 | some (.array n e)=>⟨P.underlying e=some (.int .u8)∧P.cellsOf e=1∧(P.info? e).isSome=true∧Z1A cs=true∧Z1A ds=true∧cs.length=n∧ds.length=n∧P.eqGuardType P.depth t=false,.bool (cond neq (!decide (Z0C cs=Z0C ds)) (decide (Z0C cs=Z0C ds))),L⟩
 | _=>⟨False,.any,L⟩
def Z3b:Operand→Bool
 | .const _=>true
 | _=>false
def Zkn(P:Program)(c:Bool)(L:Z01)(op:BinOp)(t:TypeId)(x y:AV)(k:Bool):Rz:=
 match x,y with
 | .int k a,.int k' b=>ZmC c L op k a k' b
 | .str a,.str b=>Zmx c L op a b
 | .bool a,.bool b=>match op with
  | .eql=>⟨P.underlying t=some .bool,.bool (a == b),L⟩
  | .neq=>⟨P.underlying t=some .bool,.bool (!(a == b)),L⟩
  | _=>⟨False,.any,L⟩
 | .agg cs,.agg ds=>match op with
  | .eql=>Z8X P c L false t cs ds
  | .neq=>Z8X P c L true t cs ds
  | _=>⟨False,.any,L⟩
 | x,.lit v=>match op with
  | .eql=>Zi7 P L false k t x v
  | .neq=>Zi7 P L true k t x v
  | _=>⟨False,.any,L⟩
 | _,_=>⟨False,.any,L⟩
def unR(L:Z01)(op:UnOp)(x:AV):Rz:=
 match op,x with
 | .not,.bool b=>⟨True,.bool (!b),L⟩
 | .not,.ub p q=>⟨True,.ub q p,L⟩
 | .neg,.int k n=>⟨True,.int k (k.wrap (0 - n)),L⟩
 | .xor,.int k n=>⟨True,.int k (Z7V .xor k (if k.signed then -1 else k.max) n),L⟩
 | _,_=>⟨False,.any,L⟩
def Z4j(P:Program)(t:TypeId):Prop:=∃e,P.underlying t=some (.slice e)∧P.underlying e=some (.int .u8)
def ZfI(P:Program)(c:Bool)(L:Z01)(src dst:TypeId)(x:AV):Rz:=
 match x with
 | .int _ n=>match P.underlying dst with
  | some (.int k)=>⟨(P.underlying src).isSome=true,.int k (k.wrap n),L⟩
  | _=>⟨False,.any,L⟩
 | .str l=>match P.underlying dst with
  | some .string=>⟨P.underlying src=some .string,.str l,L⟩
  | some (.slice e)=>⟨c=true∧P.underlying src=some .string∧P.underlying e=some (.int .u8)∧l.length<9223372036854775808,.msl L.length 0 0 l.length,L++[.row (l.map Z05) 1 0]⟩
  | _=>⟨False,.any,L⟩
 | .sl cs n=>⟨P.underlying dst=some .string∧Z4j P src∧(c=true→Z1A cs=true∧cs.length=n),.str (Z0C cs),L⟩
 | .msl id ver off n=>match P.underlying dst with
  | some (.slice e)=>⟨src=dst∧P.underlying e=some (.int .u8)∧(c=true→0<n∧Z14 L id ver∧Z1K L id=1),.msl id ver off n,L⟩
  | _=>⟨P.underlying dst=some .string∧Z4j P src∧(c=true→Z1A (((Z0L L id).drop off).take n)=true∧Z1K L id=1∧Z14 L id ver),.str (Z0C (((Z0L L id).drop off).take n)),L⟩
 | .lit (.slice none _ _)=>⟨P.underlying dst=some .string∧Z4j P src,.str [],L⟩
 | _=>⟨False,.any,L⟩
open Classical in
noncomputable def ZfJ(f:Key→Option Value):Nat:=if h:∃l:List Key,l.Nodup∧∀k,k∈l↔(f k).isSome=true then h.choose.length else 0
theorem ZhI{f:Key→Option Value}{l:List Key}(hn:l.Nodup)(hl:∀k,k∈l↔(f k).isSome=true):ZfJ f=l.length:=by
 have h:∃l:List Key,l.Nodup∧∀k,k∈l↔(f k).isSome=true:=⟨l,hn,hl⟩
 rw [ZfJ,dif_pos h]
 obtain⟨h1,h2⟩:=h.choose_spec
 have a:∀(xs ys:List Key),xs.Nodup→(∀k∈xs,k∈ys)→xs.length≤ys.length:=by
  intro xs
  induction xs with
  | nil=>intro ys _ _; exact Nat.zero_le _
  | cons x xs ih=>
   intro ys hx hy
   have hxy:=hy x (by simp)
   rw [List.nodup_cons] at hx
   have:=ih (ys.erase x) hx.2 fun k hk=>by
    have:k≠x:=fun e=>hx.1 (e▸hk)
    exact (List.mem_erase_of_ne this).2 (hy k (by simp [hk]))
   rw [List.length_erase_of_mem hxy] at this
   have:=List.length_pos_of_mem hxy
   simp only [List.length_cons]; omega
 exact Nat.le_antisymm (a _ _ h1 fun k hk=>(hl k).2 ((h2 k).1 hk)) (a _ _ hn fun k hk=>(h2 k).2 ((hl k).1 hk))
noncomputable def Zkh(P:Program)(L:Z01)(t:TypeId)(x:AV):Rz:=
 match x with
 | .str l=>⟨P.underlying t=some .string,.int .i64 l.length,L⟩
 | .sl _ n=>⟨∃e,P.underlying t=some (.slice e),.int .i64 n,L⟩
 | .msl id ver _ n=>⟨(∃e,P.underlying t=some (.slice e))∧Z14 L id ver,.int .i64 n,L⟩
 | .csl id ver _ n=>⟨(∃e,P.underlying t=some (.slice e))∧Z14 L id ver,.int .i64 n,L⟩
 | .lit (.slice _ n _)=>⟨∃e,P.underlying t=some (.slice e),.int .i64 n,L⟩
 | .mp id=>match L[id]? with
  | some (.raw (.map _ f))=>⟨∃k e,P.underlying t=some (.map k e),.int .i64 (ZfJ f),L⟩
  | _=>⟨False,.any,L⟩
 | .mpr _ f=>⟨∃k e,P.underlying t=some (.map k e),.int .i64 (ZfJ f),L⟩
 | _=>⟨False,.any,L⟩
def zeroA(P:Program)(t:TypeId):AV:=match (P.info? t).bind (·.zero) with | some v=>ofV v | none=>.any
def Z3A(P:Program)(t:TypeId)(cs:List AV):AV:=
 match P.underlying t with
 | some (.struct _)=>.agg (cs.take (P.cellsOf t))
 | some (.array ..)=>.agg (cs.take (P.cellsOf t))
 | _=>cs.getD 0 (zeroA P t)
def Z2P(P:Program)(t:TypeId)(n:Nat):Prop:=
 match P.underlying t with
 | some (.struct _)=>(P.info? t).isSome=true∧P.cellsOf t≤n
 | some (.array ..)=>(P.info? t).isSome=true∧P.cellsOf t≤n
 | some _=>0<n
 | none=>False
def Z7b(P:Program)(c:Bool)(L:Z01)(t:TypeId)(x i:AV):Rz:=
 match x,i with
 | .str l,.int _ i=>⟨P.underlying t=some .string∧(c=true→0≤i∧i<l.length),.int .u8 (l.getD i.toNat 0).toNat,L⟩
 | .agg cs,.int _ i=>match P.underlying t with
  | some (.array n e)=>⟨(P.info? e).isSome=true∧Z2P P e (cs.length - i.toNat*P.cellsOf e)∧(c=true→0≤i∧i<n),Z3A P e (cs.drop (i.toNat*P.cellsOf e)),L⟩
  | _=>⟨False,.any,L⟩
 | _,_=>⟨False,.any,L⟩
def Zhg:List (Nat×List Value)→Nat→Option (List AV)
 | [],_=>none
 | (k,l)::r,g=>if k=g then some (l.map ofV) else Zhg r g
theorem Z8I:∀{T:List (Nat×List Value)} {g:Nat} {cs:List AV},Zhg T g=some cs→∃l,(g,l)∈T∧cs=l.map ofV
 | [],_,_,h=>by cases h
 | (k,l)::r,g,cs,h=>by
  simp only [Zhg] at h
  split at h
  ·rename_i e; cases h; subst e; exact⟨l,by simp,rfl⟩
  ·obtain⟨l',h1,h2⟩:=Z8I h; exact⟨l',by simp [h1],h2⟩
def Z2C(P:Program)(c:Bool)(L:Z01)(t:TypeId)(x i:AV):Rz:=
 match P.underlying t,x,i with
 | some (.slice e),.sl cs n,.int _ i=>⟨(P.info? e).isSome=true∧cs.length=n*P.cellsOf e∧0<P.cellsOf e∧(c=true→0≤i∧i<n),.ip (cs.drop (i.toNat*P.cellsOf e)),L⟩
 | some (.slice e),.msl id ver off n,.int _ i=>⟨(P.info? e).isSome=true∧0<P.cellsOf e∧(c=true→Z14 L id ver∧Z1K L id=P.cellsOf e∧0≤i∧i<n),.ref id ver ((off+i.toNat)*P.cellsOf e),L⟩
 | some (.slice e),.csl id ver off n,.int _ i=>⟨(P.info? e).isSome=true∧0<P.cellsOf e∧(c=true→Z14 L id ver∧Z1K L id=P.cellsOf e∧0≤i∧i<n),.ref id ver ((off+i.toNat)*P.cellsOf e),L⟩
 | some (.array n e),.ref id ver off,.int _ i=>⟨(P.info? e).isSome=true∧1<n∧(c=true→Z14 L id ver∧0≤i∧i<n),.ref id ver (off+i.toNat*P.cellsOf e),L⟩
 | some (.array n e),.ip cs,.int _ i=>⟨(P.info? e).isSome=true∧1<n∧(c=true→0≤i∧i<n),.ip (cs.drop (i.toNat*P.cellsOf e)),L⟩
 | some (.array n e),.lit (.pointer (some ⟨g,0,none⟩)),.int _ i=>match Zhg Zot g with
  | some cs=>⟨(P.info? e).isSome=true∧1<n∧(c=true→0≤i∧i<n),.ip (cs.drop (i.toNat*P.cellsOf e)),L⟩
  | none=>⟨False,.any,L⟩
 | _,_,_=>⟨False,.any,L⟩
def Z8H(P:Program)(c:Bool)(L:Z01)(t:TypeId)(x:AV):Rz:=
 match x with
 | .ip cs=>⟨c=true→Z2P P t cs.length,Z3A P t cs,L⟩
 | .ref id ver off=>⟨c=true→Z14 L id ver∧off≤(Z0L L id).length∧Z2P P t ((Z0L L id).length - off),Z3A P t ((Z0L L id).drop off),L⟩
 | _=>⟨False,.any,L⟩
def Z23(cs:List AV)(off:Nat)(ds:List AV):List AV:=cs.take off++ds++cs.drop (off+ds.length)
def Z6Q(L:Z01)(id:Nat)(cs:List AV):Z01:=match L[id]? with | some (.row _ sz v)=>L.set id (.row cs sz v) | _=>L
def Z0b:List AV→Bool
 | []=>true
 | .agg _::_=>false
 | .tup _::_=>false
 | .any::_=>false
 | .when _ _::_=>false
 | .alt _ _ _::_=>false
 | .lit v::cs=>v.oneCell' && Z0b cs
 | _::cs=>Z0b cs
def Zam(P:Program)(c:Bool)(L:Z01)(t:TypeId)(x y:AV):Rz:=
 match x with
 | .ref id ver off=>⟨c=true∧Z14 L id ver∧(P.info? t).isSome=true∧y.cells.length=P.cellsOf t∧0<y.cells.length∧off+y.cells.length≤(Z0L L id).length∧Z0b y.cells=true,.lit undef,
   Z6Q L id (Z23 (Z0L L id) off y.cells)⟩
 | _=>⟨False,.any,L⟩
def Z1b(P:Program)(t:TypeId):Prop:=((P.info? t).bind (·.zero)).isSome=true
def Z6F(P:Program)(c:Bool)(L:Z01)(t:TypeId):Rz:=
 match lkT tyB t with
 | some e=>⟨c=true∧Z1b P t∧zeroA P t=.agg [.lit (.pointer none),.lit (.slice none 0 0)],.ref L.length 0 0,L++[.raw (.bld t e [])]⟩
 | none=>⟨c=true∧Z1b P t,.ref L.length 0 0,L++[.row (zeroA P t).cells (zeroA P t).cells.length 0]⟩
def ZmG(c:Bool)(L:Z01)(x:AV):Rz:=
 ⟨c=true∧Z0b x.cells=true,.ref L.length 0 0,L++[.row x.cells x.cells.length 0]⟩
def fillA(place:Nat→Option (Nat×Nat))(cells:List AV):List (Nat×AV)→Option (List AV)
 | []=>some cells
 | (i,x)::rest=>match place i with
  | none=>none
  | some (off,size)=>if x.cells.length≠size∨off+x.cells.length > cells.length then none
   else fillA place (Z23 cells off x.cells) rest
def Z49(P:Program)(fields:Array Field):List (Nat×Nat):=fields.toList.map fun f=>(f.offset,P.cellsOf f.type)
def Z85(P:Program)(fields:Array Field):Prop:=∀f∈fields.toList,(P.info? f.type).isSome=true
def Z32(fr:List AV)(parts:Array (Nat×Operand)):List (Nat×AV):=parts.toList.map fun p=>(p.1,(opd fr p.2).bare)
def Z2N(c:Bool)(xs:List AV):Prop:=∀x∈xs,need c x
def Z90(P:Program)(c:Bool)(L:Z01)(t:TypeId)(parts:List (Nat×AV)):Rz:=
 match P.underlying t with
 | some (.struct fields)=>match fillA (fun i=>(Z49 P fields)[i]?) (zeroA P t).cells parts with
  | some cs=>⟨Z1b P t∧Z85 P fields∧(c=true→∀p∈parts,Z0b p.2.cells=true),.agg cs,L⟩
  | none=>⟨False,.any,L⟩
 | some (.array _ e)=>match fillA (fun i=>some (i*P.cellsOf e,P.cellsOf e)) (zeroA P t).cells parts with
  | some cs=>⟨Z1b P t∧(P.info? e).isSome=true∧(c=true→∀p∈parts,Z0b p.2.cells=true),.agg cs,L⟩
  | none=>⟨False,.any,L⟩
 | _=>⟨False,.any,L⟩
def reps(n:Nat)(cs:List AV):List AV:=(List.replicate n cs).flatten
def Z2T(P:Program)(c:Bool)(L:Z01)(t:TypeId)(len:Nat)(parts:List (Nat×AV)):Rz:=
 match P.underlying t with
 | some (.slice e)=>match fillA (fun i=>some (i*P.cellsOf e,P.cellsOf e)) (reps len (zeroA P e).cells) parts with
  | some cs=>⟨c=true∧Z1b P e∧(zeroA P e).cells.length=P.cellsOf e∧0<P.cellsOf e∧len*P.cellsOf e≤16777216∧(∀p∈parts,Z0b p.2.cells=true)∧Z0b cs=true,
    .msl L.length 0 0 len,L++[.row cs (P.cellsOf e) 0]⟩
  | none=>⟨False,.any,L⟩
 | _=>⟨False,.any,L⟩
def Z3t(P:Program)(c:Bool)(L:Z01)(t:TypeId)(len:Nat)(parts:List (Nat×AV)):Rz:=
 match P.underlying t with
 | some (.slice e)=>match fillA (fun i=>some (i*P.cellsOf e,P.cellsOf e)) (reps len (zeroA P e).cells) parts with
  | some cs=>⟨Z1b P e∧(zeroA P e).cells.length=P.cellsOf e∧0<P.cellsOf e∧len*P.cellsOf e≤16777216∧(∀p∈parts,Z0b p.2.cells=true)∧Z0b cs=true,.sl cs len,L⟩
  | none=>⟨False,.any,L⟩
 | _=>⟨False,.any,L⟩
def ZhP(d:Tmp)(o:Oper):Bool:=match o.op with
 | .call { callee:=.builtin .append,args:=args,argTypes:=_ }=>(match args.toList with
  | [_,.tmp e]=>e == d
  | _=>false)
 | _=>false
def Zjh(all:List Oper)(o:Oper):Bool:=match o.op,o.dst with
 | .buildSlice _ _ _,some d=>all.any (ZhP d)
 | _,_=>false
def Z7h(P:Program)(c:Bool)(L:Z01)(t:TypeId)(x:AV)(f:Nat):Rz:=
 match P.underlying t,x with
 | some (.struct fields),.agg cs=>match fields[f]? with
  | some fd=>⟨(P.info? fd.type).isSome=true∧(c=true→Z2P P fd.type (cs.length - fd.offset)∧fd.offset≤cs.length),Z3A P fd.type (cs.drop fd.offset),L⟩
  | none=>⟨False,.any,L⟩
 | _,_=>⟨False,.any,L⟩
def Z2D(P:Program)(c:Bool)(L:Z01)(t:TypeId)(x:AV)(f:Nat):Rz:=
 match P.underlying t with
 | some (.struct fields)=>match fields[f]? with
  | some fd=>match x with
   | .ip cs=>⟨(P.info? fd.type).isSome=true∧P.cellsOf fd.type≠0,.ip (cs.drop fd.offset),L⟩
   | .ref id ver off=>⟨(P.info? fd.type).isSome=true∧P.cellsOf fd.type≠0∧(c=true→Z14 L id ver),.ref id ver (off+fd.offset),L⟩
   | _=>⟨False,.any,L⟩
  | none=>⟨False,.any,L⟩
 | _=>⟨False,.any,L⟩
def Z4i(c:Bool)(L:Z01)(x:AV)(i:Nat):Rz:=
 match x with
 | .tup vs=>⟨c=true→i<vs.length,vs.getD i .any,L⟩
 | .alt b (.tup vs) (.tup ws)=>⟨c=true→(b=true→i<vs.length)∧(b=false→i<ws.length),Z6J b (vs.getD i .any) (ws.getD i .any),L⟩
 | _=>⟨False,.any,L⟩
def Z1C(d:Nat):Option AV→Option Int
 | none=>some d
 | some (.int _ i)=>some i
 | some _=>none
def Z6P(P:Program)(c:Bool)(L:Z01)(t:TypeId)(x:AV)(lo hi mx:Option AV):Rz:=
 match P.underlying t,x with
 | some .string,.str l=>match Z1C 0 lo,Z1C l.length hi,mx with
  | some i,some j,none=>⟨c=true→0≤i∧i≤j∧j≤l.length,.str ((l.take j.toNat).drop i.toNat),L⟩
  | _,_,_=>⟨False,.any,L⟩
 | some (.slice e),.sl cs n=>match Z1C 0 lo,Z1C n hi,Z1C n mx with
  | some i,some j,some k=>⟨(P.info? e).isSome=true∧(mx.isSome=true→hi.isSome=true)∧cs.length=n*P.cellsOf e∧(c=true→0≤i∧i≤j∧j≤k∧k≤n),.sl ((cs.take (j.toNat*P.cellsOf e)).drop (i.toNat*P.cellsOf e)) (j.toNat - i.toNat),L⟩
  | _,_,_=>⟨False,.any,L⟩
 | some (.slice e),.msl id ver off n=>match Z1C 0 lo,Z1C n hi,mx with
  | some i,some j,none=>⟨(P.info? e).isSome=true∧0<P.cellsOf e∧(c=true→Z14 L id ver∧Z1K L id=P.cellsOf e∧0≤i∧i≤j∧(off+j.toNat)*P.cellsOf e≤(Z0L L id).length),.msl id ver (off+i.toNat) (j.toNat - i.toNat),L⟩
  | some i,some j,some mx'=>match Z1C n (some mx') with
   | some k=>⟨hi.isSome=true∧(P.info? e).isSome=true∧0<P.cellsOf e∧(c=true→k=j∧Z14 L id ver∧Z1K L id=P.cellsOf e∧0≤i∧i≤j∧(off+j.toNat)*P.cellsOf e≤(Z0L L id).length),.csl id ver (off+i.toNat) (j.toNat - i.toNat),L⟩
   | none=>⟨False,.any,L⟩
  | _,_,_=>⟨False,.any,L⟩
 | some (.array n e),.ip cs=>match lo,hi,mx with
  | none,none,none=>⟨(P.info? e).isSome=true∧n*P.cellsOf e≤cs.length,.sl (cs.take (n*P.cellsOf e)) n,L⟩
  | _,_,_=>⟨False,.any,L⟩
 | _,_=>⟨False,.any,L⟩
def Z5q(P:Program)(c:Bool)(L:Z01)(t:TypeId)(x:AV):Rz:=
 match P.underlying t,x with
 | some (.array n _),.sl cs k=>⟨c=true→0<n∧n≤k∧0<cs.length,.ip cs,L⟩
 | some (.array n _),.msl id ver off k=>⟨c=true→Z14 L id ver∧0<n∧n≤k,.ref id ver (off*Z1K L id),L⟩
 | _,_=>⟨False,.any,L⟩
def Z0B(L:Z01)(sz:Nat):AV→List AV
 | .sl cs _=>cs
 | .msl id _ off n=>((Z0L L id).drop (off*sz)).take (n*sz)
 | .str l=>l.map Z05
 | _=>[]
def Z3J(L:Z01)(sz:Nat):AV→Prop
 | .sl cs n=>cs.length=n*sz
 | .msl id ver _ _=>Z14 L id ver∧Z1K L id=sz
 | .str _=>sz=1
 | .lit (.slice none 0 0)=>True
 | _=>False
def Z0l:AV→Nat
 | .sl _ n=>n
 | .msl _ _ _ n=>n
 | .str l=>l.length
 | _=>0
def Z2j(P:Program)(e:TypeId):Bool:=((P.info? e).bind (·.zero)).isSome && ((zeroA P e).cells.length == P.cellsOf e && (decide (0<P.cellsOf e) && decide (0<P.bytesOf e)))
def Z6G(P:Program)(t:TypeId):Bool:=match P.underlying t with
 | some (.int _)=>false
 | some _=>true
 | none=>false
def Z5r(P:Program)(c:Bool)(L:Z01)(t tx:TypeId)(s x:AV):Rz:=
 match P.underlying t with
 | some (.slice e)=>
  match s with
  | .lit (.slice none 0 0)=>⟨c=true∧Z2j P e=true∧Z6G P tx=true∧Z3J L (P.cellsOf e) x∧Z0b (Z0B L (P.cellsOf e) x)=true∧Z0l x*P.bytesOf e≤140737488355328,
    .msl L.length 0 0 (Z0l x),L++[.row (Z0B L (P.cellsOf e) x) (P.cellsOf e) 0]⟩
  | .msl id ver off n=>⟨c=true∧Z2j P e=true∧Z6G P tx=true∧Z3J L (P.cellsOf e) x∧Z0b (Z0B L (P.cellsOf e) x)=true∧
    Z14 L id ver∧Z1K L id=P.cellsOf e∧off=0∧(Z0L L id).length=n*P.cellsOf e∧(n+Z0l x)*P.bytesOf e≤140737488355328,
    .msl id (ver+1) 0 (n+Z0l x),L.set id (.row (Z0L L id++Z0B L (P.cellsOf e) x) (P.cellsOf e) (ver+1))⟩
  | .csl id ver off n=>⟨c=true∧Z2j P e=true∧Z6G P tx=true∧Z3J L (P.cellsOf e) x∧Z0b (Z0B L (P.cellsOf e) x)=true∧
    Z14 L id ver∧Z1K L id=P.cellsOf e∧0<Z0l x∧(n+Z0l x)*P.bytesOf e≤140737488355328,
    .msl L.length 0 0 (n+Z0l x),L++[.row (((Z0L L id).drop (off*P.cellsOf e)).take (n*P.cellsOf e)++Z0B L (P.cellsOf e) x) (P.cellsOf e) 0]⟩
  | _=>⟨False,.any,L⟩
 | _=>⟨False,.any,L⟩
def Z8g(P:Program)(c:Bool)(L:Z01)(t tx:TypeId)(s:AV)(q:Int):Rz:=
 match P.underlying t,P.underlying tx,s with
 | some (.slice e),some (.int _),.msl id ver off n=>⟨c=true∧Z2j P e=true∧Z0b (zeroA P e).cells=true∧0≤q∧Z14 L id ver∧Z1K L id=P.cellsOf e∧off=0∧(Z0L L id).length=n*P.cellsOf e∧(n+q.toNat)*P.bytesOf e≤140737488355328,
   .msl id (ver+1) 0 (n+q.toNat),L.set id (.row (Z0L L id++reps q.toNat (zeroA P e).cells) (P.cellsOf e) (ver+1))⟩
 | _,_,_=>⟨False,.any,L⟩
def Zmr(P:Program)(c:Bool)(L:Z01)(t tx:TypeId)(s x:AV):Rz:=
 match x with
 | .int _ q=>Z8g P c L t tx s q
 | y=>Z5r P c L t tx s y
def ZfG(P:Program)(c:Bool)(L:Z01)(t:TypeId)(s x:AV):Rz:=
 match P.underlying t,s with
 | some (.slice e),.msl id ver off n=>⟨c=true∧(P.info? e).isSome=true∧0<P.cellsOf e∧Z3J L (P.cellsOf e) x∧Z0b ((Z0B L (P.cellsOf e) x).take (min (Z0l x) n*P.cellsOf e))=true∧Z14 L id ver∧Z1K L id=P.cellsOf e∧(off+n)*P.cellsOf e≤(Z0L L id).length,
   .int .i64 ((min (Z0l x) n:Nat):Int),L.set id (.row (Z23 (Z0L L id) (off*P.cellsOf e) ((Z0B L (P.cellsOf e) x).take (min (Z0l x) n*P.cellsOf e))) (P.cellsOf e) ver)⟩
 | _,_=>⟨False,.any,L⟩
def Z8r(P:Program)(c:Bool)(L:Z01)(t:TypeId)(x:AV):Rz:=
 match x with
 | .str l=>⟨c=true∧P.underlying t=some .string,.ref L.length 0 0,L++[.raw (.iter l 0)]⟩
 | _=>⟨False,.any,L⟩
def Z3n(P:Program)(c:Bool)(L:Z01)(t:TypeId)(l k:AV):Rz:=
 match P.underlying t,l,k with
 | some (.slice e),.int _ l,.int _ k=>⟨c=true∧Z2j P e=true∧0≤l∧l≤k∧k*P.bytesOf e≤281474976710656,.msl L.length 0 0 l.toNat,L++[.row (reps l.toNat (zeroA P e).cells) (P.cellsOf e) 0]⟩
 | _,_,_=>⟨False,.any,L⟩
def Z3m(c:Bool)(L:Z01)(x:AV):Rz:=
 match x with
 | .ref id ver off=>⟨c=true→Z14 L id ver,.ref id ver off,L⟩
 | .ip cs=>⟨True,.ip cs,L⟩
 | .fn (.func f) a b=>⟨True,.fn (.func f) a b,L⟩
 | _=>⟨False,.any,L⟩
def Z7U(P:Program)(t:TypeId):Bool:=match P.underlying t with
 | some (.interface _)=>true
 | some _=>false
 | none=>true
def Z3g(l:List UInt8)(p:Nat):Nat×Nat:=Utf8.decode ⟨l.toArray⟩ p
def ZdD(c:Bool)(L:Z01)(x:AV)(isString:Bool):Rz:=
 match x with
 | .ref id _ _=>match L[id]? with
  | some (.raw (.iter s p))=>⟨c=true∧isString=true,
    .alt (decide (p<s.length)) (.tup [.bool true,.int .i64 p,.int .i32 (Z3g s p).1]) (.tup [.bool false]),
    L.set id (.raw (.iter s (if p<s.length then p+(Z3g s p).2 else p)))⟩
  | _=>⟨False,.any,L⟩
 | _=>⟨False,.any,L⟩
def Z79:AV→Option Key
 | .int k n=>some (.i k n)
 | .str l=>some (.s l)
 | _=>none
def Z1y(P:Program)(kt:TypeId):Option (Option IntKind):=match P.underlying kt with
 | some (.int k)=>some (some k)
 | some .string=>some none
 | _=>none
def ZbB:AV→Option Value
 | .int k n=>some (.int k n)
 | .bool b=>some (.bool b)
 | .str l=>some (.string ⟨l.toArray⟩)
 | .fn f first captured=>match first,captured with
  | [],[]=>some (.func f #[] #[])
  | _,_=>none
 | _=>none
def Z70:List AV→Option (List Value)
 | []=>some []
 | x::xs=>match ZbB x,Z70 xs with
  | some v,some vs=>some (v::vs)
  | _,_=>none
def Zal:AV→Option Value
 | .agg cs=>(Z70 cs).map fun vs=>.agg vs.toArray
 | x=>ZbB x
def Zbe(f:Key→Option Value)(k:Key)(v:Value):Key→Option Value:=fun k'=>if k'=k then some v else f k'
def noK:Key→Option Value:=fun _=>none
def Z4V(P:Program)(c:Bool)(L:Z01)(t:TypeId)(r:Option AV):Rz:=
 match P.underlying t,r with
 | some (.map kt _),none=>match Z1y P kt with
  | some kd=>⟨c=true,.mp L.length,L++[.raw (.map kd noK)]⟩
  | none=>⟨False,.any,L⟩
 | some (.map kt _),some (.int _ _)=>match Z1y P kt with
  | some kd=>⟨c=true,.mp L.length,L++[.raw (.map kd noK)]⟩
  | none=>⟨False,.any,L⟩
 | _,_=>⟨False,.any,L⟩
def Z3a(P:Program)(c:Bool)(L:Z01)(t:TypeId)(x k v:AV):Rz:=
 match P.underlying t,x,Z79 k,Zal v with
 | some (.map kt _),.mp id,some key,some val=>match L[id]? with
  | some (.raw (.map kd f))=>⟨c=true∧Z1y P kt=some kd∧key.kd=kd,.lit undef,L.set id (.raw (.map kd (Zbe f key val)))⟩
  | _=>⟨False,.any,L⟩
 | _,_,_,_=>⟨False,.any,L⟩
def Zb8(f:Key→Option Value)(k:Key):Key→Option Value:=fun k'=>if k'=k then none else f k'
def Z6f(P:Program)(c:Bool)(L:Z01)(t:TypeId)(x k:AV):Rz:=
 match P.underlying t,x,Z79 k with
 | some (.map kt _),.mp id,some key=>match L[id]? with
  | some (.raw (.map kd f))=>⟨c=true∧Z1y P kt=some kd∧key.kd=kd,.tup [],L.set id (.raw (.map kd (Zb8 f key)))⟩
  | _=>⟨False,.any,L⟩
 | _,_,_=>⟨False,.any,L⟩
def ZbI(P:Program)(L:Z01)(t:TypeId)(x k:AV)(ok:Bool):Rz:=
  match P.underlying t,x,Z79 k with
  | some (.map kt et),.mp id,some key=>match L[id]? with
    | some (.raw (.map kd f))=>⟨Z1b P et∧Z1y P kt=some kd∧key.kd=kd,
        cond ok (.alt (f key).isSome (.tup [ofV ((f key).getD undef),.bool true]) (.tup [zeroA P et,.bool false])) (Z6J (f key).isSome (ofV ((f key).getD undef)) (zeroA P et)),L⟩
    | _=>⟨False,.any,L⟩
  | some (.map kt et),.mpr kd f,some key=>⟨Z1b P et∧Z1y P kt=some kd∧key.kd=kd,
        cond ok (.alt (f key).isSome (.tup [ofV ((f key).getD undef),.bool true]) (.tup [zeroA P et,.bool false])) (Z6J (f key).isSome (ofV ((f key).getD undef)) (zeroA P et)),L⟩
  | _,_,_=>⟨False,.any,L⟩
def Rz.also(z:Rz)(p:Prop):Rz:=⟨p∧z.pre,z.v,z.L⟩
def bad(L:Z01):Rz:=⟨False,.any,L⟩
def Zdq(c:Bool)(L:Z01)(q a b:AV):Rz:=
 match q.bare with
 | .bool t=>⟨need c q∧need (c && t) a∧need (c && !t) b,Z6J t a.bare b.bare,L⟩
 | _=>bad L
def ZaK(fr:List AV):Option Operand→Option AV
 | none=>none
 | some x=>some (opd fr x).bare
def Z5H(c:Bool)(fr:List AV):Option Operand→Prop
 | none=>True
 | some x=>need c (opd fr x)
def ZfY(L:Z01)(low:Bool)(x y:AV):Rz:=
 match x,y with
 | .int k a,.int _ b=>⟨True,.int k (cond low (min a b) (max a b)),L⟩
 | _,_=>bad L
noncomputable def Z4k(P:Program)(c:Bool)(fr:List AV)(L:Z01)(b:Builtin)(args:List Operand)(ts:List TypeId):Rz:=
 match b,args,ts with
 | .len,[x],[t]=>(Zkh P L t (opd fr x).bare).also (need c (opd fr x))
 | .min,[x,y],_=>(ZfY L true (opd fr x).bare (opd fr y).bare).also (need c (opd fr x)∧need c (opd fr y))
 | .max,[x,y],_=>(ZfY L false (opd fr x).bare (opd fr y).bare).also (need c (opd fr x)∧need c (opd fr y))
 | .append,[s,x],[t,tx]=>(Zmr P c L t tx (opd fr s).bare (opd fr x).bare).also (need c (opd fr s)∧need c (opd fr x))
 | .copy,[s,x],[t,_]=>(ZfG P c L t (opd fr s).bare (opd fr x).bare).also (need c (opd fr s)∧need c (opd fr x))
 | .delete,[x,k],t::_=>(Z6f P c L t (opd fr x).bare (opd fr k).bare).also (need c (opd fr x)∧need c (opd fr k))
 | _,_,_=>bad L
noncomputable def ev(P:Program)(c:Bool)(fr:List AV)(L:Z01):Op→Rz
 | .move x=>⟨need c (opd fr x),(opd fr x).bare,L⟩
 | .assign x=>⟨need c (opd fr x),(opd fr x).bare,L⟩
 | .pick q a b=>Zdq c L (opd fr q) (opd fr a) (opd fr b)
 | .binOp op t x y _=>(Zkn P c L op t (opd fr x).bare (opd fr y).bare (Z3b x || Z3b y)).also (need c (opd fr x)∧need c (opd fr y))
 | .unOp op _ x=>(unR L op (opd fr x).bare).also (need c (opd fr x))
 | .convert src dst x=>(ZfI P c L src dst (opd fr x).bare).also (need c (opd fr x))
 | .index t x i=>(Z7b P c L t (opd fr x).bare (opd fr i).bare).also (need c (opd fr x)∧need c (opd fr i))
 | .indexAddr t x i=>(Z2C P c L t (opd fr x).bare (opd fr i).bare).also (need c (opd fr x)∧need c (opd fr i))
 | .load t x=>(Z8H P c L t (opd fr x).bare).also (need c (opd fr x))
 | .store t x y=>(Zam P c L t (opd fr x).bare (opd fr y).bare).also (need c (opd fr x)∧need c (opd fr y))
 | .alloc t=>Z6F P c L t
 | .box _ x=>(ZmG c L (opd fr x).bare).also (need c (opd fr x))
 | .build t parts=>(Z90 P c L t (Z32 fr parts)).also (Z2N c (parts.toList.map fun p=>opd fr p.2))
 | .buildSlice t len parts=>(Z2T P c L t len (Z32 fr parts)).also (Z2N c (parts.toList.map fun p=>opd fr p.2))
 | .field t x f=>(Z7h P c L t (opd fr x).bare f).also (need c (opd fr x))
 | .fieldAddr t x f=>(Z2D P c L t (opd fr x).bare f).also (need c (opd fr x))
 | .extract x i=>(Z4i c L (opd fr x).bare i).also (need c (opd fr x))
 | .slice t x lo hi mx=>(Z6P P c L t (opd fr x).bare (ZaK fr lo) (ZaK fr hi) (ZaK fr mx)).also (need c (opd fr x)∧Z5H c fr lo∧Z5H c fr hi∧Z5H c fr mx)
 | .sliceToArrayPointer t x=>(Z5q P c L t (opd fr x).bare).also (need c (opd fr x))
 | .range t x=>(Z8r P c L t (opd fr x).bare).also (need c (opd fr x))
 | .next x b=>(ZdD c L (opd fr x).bare b).also (need c (opd fr x))
 | .nilCheck x=>(Z3m c L (opd fr x).bare).also (need c (opd fr x))
 | .makeInterface t x=>⟨need c (opd fr x)∧Z7U P t=false,.ifc t (opd fr x).bare,L⟩
 | .makeFunc f first captured=>⟨Z2N c (first.toList.map (opd fr))∧Z2N c (captured.toList.map (opd fr)),.fn f (first.toList.map fun x=>(opd fr x).bare) (captured.toList.map fun x=>(opd fr x).bare),L⟩
 | .makeSlice t l k=>(Z3n P c L t (opd fr l).bare (opd fr k).bare).also (need c (opd fr l)∧need c (opd fr k))
 | .makeMap t r=>(Z4V P c L t (ZaK fr r)).also (Z5H c fr r)
 | .insert t x k v=>(Z3a P c L t (opd fr x).bare (opd fr k).bare (opd fr v).bare).also (need c (opd fr x)∧need c (opd fr k)∧need c (opd fr v))
 | .mapUpdate t x k v=>(Z3a P c L t (opd fr x).bare (opd fr k).bare (opd fr v).bare).also (need c (opd fr x)∧need c (opd fr k)∧need c (opd fr v))
 | .lookup t x k ok=>(ZbI P L t (opd fr x).bare (opd fr k).bare ok).also (need c (opd fr x)∧need c (opd fr k))
 | .call { callee:=.builtin b,args:=args,argTypes:=ts }=>Z4k P c fr L b args.toList ts.toList
 | _=>bad L
theorem ZbD(m:Mem)(L:Z01)(v:Value):Z03 m L (Z4o v) v:=by
 cases v <;> simp [Z4o,Z03]
theorem Z2M(m:Mem)(L:Z01):∀vs:List Value,Z0a m L (vs.map Z4o) vs
 | []=>by simp [Z0a]
 | v::vs=>by simp only [List.map_cons]; exact Z0a.cons (ZbD m L v) (Z2M m L vs)
theorem Z3U(m:Mem)(L:Z01)(v:Value):Z03 m L (ofV v) v:=by
 cases v with
 | agg cs=>simp only [ofV,Z03]; exact⟨cs.toList,by simp,Z2M m L _⟩
 | func f a b=>simp only [ofV,Z03]; exact⟨a.toList,b.toList,by simp,Z2M m L _,Z2M m L _⟩
 | _=>simp [ofV,Z4o,Z03]
theorem Z0Z{m:Mem}{L:Z01}{fr:List AV}{a:Act}(h:Z0a m L fr a.tmps.toList)(x:Operand):Z03 m L (opd fr x) (a.eval x):=by
 cases x with
 | tmp t=>
  have:=h.getD t
  simpa [opd,Act.eval,Array.getD_eq_getD_getElem?,List.getD_eq_getElem?_getD] using this
 | const v=>exact Z3U m L v
 | global g=>simp [opd,Act.eval,Z03]
 | func f=>simp [opd,Act.eval,Z03,Z0a]
theorem Z3G{m:Mem}{L:Z01}{x:AV}{u:Value}(h:Z03 m L x u)(hc:x.cond=true):Z03 m L x.bare u:=by
 cases x <;> first | exact h | (simp only [Z03,AV.bare,AV.cond] at *; exact h.1 hc)
def Z0i(P:Program)(m:Mem)(L:Z01)(w:World)(z:Rz)(s:Sem Next):Prop:=
 z.pre→∃n w' m',s.run P w=.ok n w'∧((∃u,n=.value u∧Z03 m' z.L z.v u)∨(n=.skip∧z.v=.lit undef))∧Z0D m' z.L w'∧Ext m L w m' z.L w'
def Z1j(s:Sem Value):Sem Next:=do pure (.value (←s))
theorem Z0i.pure{P:Program}{m:Mem}{L:Z01}{w:World}{pre:Prop}{v:AV}{s:Sem Value}(hW:Z0D m L w)(h:pre→∃u,s.run P w=.ok u w∧Z03 m L v u) :
  Z0i P m L w ⟨pre,v,L⟩ (Z1j s):=by
 intro hp
 obtain⟨u,hr,hv⟩:=h hp
 exact⟨.value u,w,m,by simp [Z1j,hr],.inl ⟨u,rfl,hv⟩,hW,Ext.refl⟩
theorem Z0i.also{P:Program}{m:Mem}{L:Z01}{w:World}{z:Rz}{s:Sem Next}{p:Prop}(h:p→Z0i P m L w z s):Z0i P m L w (z.also p) s:=
 fun hp=>h hp.1 hp.2
theorem Z0i.bad{P:Program}{m:Mem}{L:Z01}{w:World}{s:Sem Next}:Z0i P m L w (bad L) s:=fun h=>h.elim
section
variable {P:Program} {m:Mem} {L:Z01} {w:World}
theorem ZdV(hW:Z0D m L w)(op:BinOp)(t:TypeId)(x y:Operand)(k k':IntKind)(a b:Int) :
  Z0i P m L w (ZmC true L op k a k' b) (Z1j (do eqGuard op t x y (.int k a) (.int k' b); binOp op t (.int k a) (.int k' b))):=by
 cases op <;> refine Z0i.pure hW fun hp=>?_ <;>
  first
  | (subst hp; simp [eqGuard,binOp,Op.intArith,Op.intBits,Op.intCmp,Z03,Z7V]; done)
  | (subst hp; simp [eqGuard,binOp,Op.intCmp,Z03]; cases h:decide (a=b) <;> simp_all; done)
  | (obtain⟨rfl,hb⟩:=hp; have hb:=hb rfl; simp [eqGuard,binOp,Op.intDiv,Z03,hb]; done)
  | (have hp:=hp rfl; simp [eqGuard,binOp,Op.shift,Z03,show ¬b<0 by omega]; done)
theorem Zch(hW:Z0D m L w)(op:BinOp)(t:TypeId)(x y:Operand)(a b:List UInt8) :
    Z0i P m L w (Zmx true L op a b) (Z1j (do eqGuard op t x y (.string ⟨a.toArray⟩) (.string ⟨b.toArray⟩); binOp op t (.string ⟨a.toArray⟩) (.string ⟨b.toArray⟩))):=by
  cases op <;> first | exact fun h=>h.elim | refine Z0i.pure hW fun hp=>?_
  all_goals first
    | (simp [eqGuard,binOp,Op.stringOp,Z03,ByteArray.toList_mk]; done)
    | (have hp:=hp rfl
       have h0:¬(9223372036854775807<((⟨a.toArray⟩:ByteArray).size:Int)+((⟨b.toArray⟩:ByteArray).size:Int)):=by
        simp [ByteArray.size]; omega
       simp [eqGuard,binOp,Op.stringOp,Z03,h0]
       apply ByteArray.ext; simp)
theorem Z00{t:TypeId}{d:TypeDesc}(h:P.underlying t=some d):(underlying t).run P w=.ok d w:=by simp [underlying,h]
theorem Z6H{t:TypeId}(h:P.underlying t=some .bool)(a b:Bool):(Op.equal t (.bool a) (.bool b)).run P w=.ok (a == b) w:=by
 show (Op.equalIn (9999+1) t (.bool a) (.bool b)).run P w=_
 generalize 9999=d
 simp [Op.equalIn,Z00 h]
theorem Zg8(hW:Z0D m L w)(op:UnOp){X:AV}{u:Value}(hx:Z03 m L X u):Z0i P m L w (unR L op X) (Z1j (Op.unary op u)):=by
 cases op <;> cases X <;> first
  | exact fun h=>h.elim
  | (simp only [Z03] at hx; obtain⟨b,rfl,h1,h2⟩:=hx; refine Z0i.pure hW fun _=>?_; cases b <;> simp_all [Op.unary,Z03]; done)
  | (simp only [Z03] at hx; subst hx; refine Z0i.pure hW fun _=>?_; simp [Op.unary,Op.intArith,Op.intBits,Z03,Z7V])
theorem Z3h{t:TypeId}(h:(P.info? t).isSome=true):∃i,P.info? t=some i∧P.cellsOf t=i.size∧P.bytesOf t=i.bytes:=by
 obtain⟨i,hi⟩:=Option.isSome_iff_exists.1 h
 exact⟨i,hi,by simp [Program.cellsOf,hi],by simp [Program.bytesOf,hi]⟩
theorem Z0e{t:TypeId}(h:(P.info? t).isSome=true):(sizeOf t).run P w=.ok (P.cellsOf t) w:=by
 obtain⟨i,hi,hs,_⟩:=Z3h h
 simp [sizeOf,typeInfo,hi,hs]
theorem Z0R(g o:Nat)(us:List Value)(n:Nat)(hn:n≤us.length)(h:∀j v,us[j]?=some v→w.cell? ⟨g,o+j,none⟩=some v) :
  (loadCells ⟨g,o,none⟩ n).run P w=.ok (us.take n).toArray w:=by
 have:=run_loadCells_list (P:=P) (w:=w) ⟨g,o,none⟩ (us.take n) fun j v hj=>by
  rw [Addr.add_lit]
  rw [List.getElem?_take] at hj
  split at hj
  ·exact h j v hj
  ·cases hj
 rwa [show (us.take n).length=n by simp; omega] at this
theorem Z2v{t:TypeId}{cs:List AV}{us:List Value}{g o:Nat}(hc:Z0a m L cs us)(h:∀j v,us[j]?=some v→w.cell? ⟨g,o+j,none⟩=some v)
  (ho:Z2P P t cs.length):∃u,(loadVar t ⟨g,o,none⟩).run P w=.ok u w∧Z03 m L (Z3A P t cs) u:=by
 unfold Z2P at ho
 have hl:=hc.length
 split at ho
 ·rename_i fs hu
  refine⟨.agg (us.take (P.cellsOf t)).toArray,?_,?_⟩
  ·have hld:=Z0R (P:=P) (w:=w) g o us (P.cellsOf t) (by omega) h
   simp [loadVar,isAgg,Z00 hu,Z0e ho.1,hld]
  ·simp only [Z3A,hu,Z03]; exact⟨_,rfl,hc.take _⟩
 ·rename_i n e hu
  refine⟨.agg (us.take (P.cellsOf t)).toArray,?_,?_⟩
  ·have hld:=Z0R (P:=P) (w:=w) g o us (P.cellsOf t) (by omega) h
   simp [loadVar,isAgg,Z00 hu,Z0e ho.1,hld]
  ·simp only [Z3A,hu,Z03]; exact⟨_,rfl,hc.take _⟩
 ·rename_i d hu1 hu2 hu
  obtain⟨c,hc0⟩:∃c,cs[0]?=some c:=⟨cs[0],by simp⟩
  obtain⟨u,hu0,hr⟩:=hc.get 0 c hc0
  have hcell:=h 0 u hu0
  rw [Nat.add_zero] at hcell
  refine⟨u,?_,?_⟩
  ·cases d <;> simp_all [loadVar,isAgg,Z00 hu]
  ·have:Z3A P t cs=cs.getD 0 (zeroA P t):=by unfold Z3A; rw [hu]; cases d <;> simp_all
   rw [this]; simpa [List.getD,hc0] using hr
 ·exact ho.elim
theorem Z2B{t:TypeId}{cs:List AV}{us:List Value}{o:Nat}(hc:Z0a m L cs us)(hi:(P.info? t).isSome=true)(ho:Z2P P t (cs.length - o))(hle:o≤cs.length) :
  ∃u,(part t us.toArray o).run P w=.ok u w∧Z03 m L (Z3A P t (cs.drop o)) u:=by
 have hl:=hc.length
 unfold Z2P at ho
 split at ho
 ·rename_i fs hu
  refine⟨.agg ((us.drop o).take (P.cellsOf t)).toArray,?_,?_⟩
  ·simp [part,isAgg,Z00 hu,Z0e hi,List.extract_eq_take_drop]
  ·simp only [Z3A,hu,Z03]; exact⟨_,rfl,(hc.drop o).take _⟩
 ·rename_i n e hu
  refine⟨.agg ((us.drop o).take (P.cellsOf t)).toArray,?_,?_⟩
  ·simp [part,isAgg,Z00 hu,Z0e hi,List.extract_eq_take_drop]
  ·simp only [Z3A,hu,Z03]; exact⟨_,rfl,(hc.drop o).take _⟩
 ·rename_i d hu1 hu2 hu
  obtain⟨c,hc0⟩:∃c,cs[o]?=some c:=⟨cs[o]'(by omega),by simp⟩
  obtain⟨u,hu0,hr⟩:=hc.get o c hc0
  refine⟨u,?_,?_⟩
  ·cases d <;> simp_all [part,isAgg,Z00 hu]
  ·have:Z3A P t (cs.drop o)=(cs.drop o).getD 0 (zeroA P t):=by unfold Z3A; rw [hu]; cases d <;> simp_all
   rw [this]; simpa [List.getD,hc0] using hr
 ·exact ho.elim
theorem Z1E(hW:Z0D m L w){id:Nat}{cs:List AV}{sz ver:Nat}(h:L[id]?=some (.row cs sz ver)):∃us,Z0a m L cs us∧(∀j v,us[j]?=some v→w.cell? ⟨m.blk id,j,none⟩=some v)∧∀j,j<us.length→w.frozen? ⟨m.blk id,j,none⟩=false:=by
 by_cases hcap:m.cap id=0
 ·have:=hW.nils _ _ _ _ h hcap
  subst this
  exact⟨[],Z0a.nil m L,fun j v hj=>by simp at hj,fun j hj=>by simp at hj⟩
 obtain⟨us,rest,elem,lo,hi,hb,hc,hl,hf⟩:=hW.rows _ _ _ _ h hcap
 refine⟨us,hc,fun j v hj=>?_,fun j hj=>?_⟩
 ·have:j<us.length:=(List.getElem?_eq_some_iff.1 hj).1
  simp [World.cell?,hb,List.getElem?_append_left this,hj]
 ·simp [World.frozen?,hb]; omega
theorem Z0H{id ver:Nat}(h:Z14 L id ver):∃cs sz,L[id]?=some (.row cs sz ver)∧Z0L L id=cs∧Z1K L id=sz:=by
 obtain⟨h1,h2⟩:=h
 unfold isRow at h1
 split at h1
 ·rename_i cs sz v hL
  simp [Z1t,hL] at h2
  subst h2
  exact⟨cs,sz,hL,by simp [Z0L,hL],by simp [Z1K,hL]⟩
 ·cases h1
theorem Z0N{id ver off len:Nat}{u:Value}(hv:Z03 m L (.msl id ver off len) u)(hf:Z14 L id ver) :
  (off+len)*Z1K L id≤(Z0L L id).length∧off+len≤m.cap id∧∃a,u=.slice a len (m.cap id - off)∧(off=m.cap id∨a=some ⟨m.blk id,off*Z1K L id,none⟩):=by
 obtain⟨cs,sz,hL,h1,h2⟩:=Z0H hf
 simp only [Z03] at hv
 obtain⟨cs',sz',v',hL',hle,_,hv⟩:=hv
 rw [hL] at hL'
 simp only [Option.some.injEq,Z0Q.row.injEq] at hL'
 obtain⟨rfl,rfl,rfl⟩:=hL'
 rw [h1,h2]
 exact hv rfl
theorem Z3Y{id ver off len:Nat}{u:Value}(hv:Z03 m L (.csl id ver off len) u)(hf:Z14 L id ver) :
  (off+len)*Z1K L id≤(Z0L L id).length∧off+len≤m.cap id∧∃a,u=.slice a len len∧(len=0∨a=some ⟨m.blk id,off*Z1K L id,none⟩):=by
 obtain⟨cs,sz,hL,h1,h2⟩:=Z0H hf
 simp only [Z03] at hv
 obtain⟨cs',sz',v',hL',hle,_,hv⟩:=hv
 rw [hL] at hL'
 simp only [Option.some.injEq,Z0Q.row.injEq] at hL'
 obtain⟨rfl,rfl,rfl⟩:=hL'
 rw [h1,h2]
 exact hv rfl
theorem Z3u{id ver off:Nat}{u:Value}(hv:Z03 m L (.ref id ver off) u)(hf:Z14 L id ver):u=.pointer (some ⟨m.blk id,off,none⟩):=by
 obtain⟨cs,sz,hL,h1,h2⟩:=Z0H hf
 simp only [Z03] at hv
 rcases hv with ⟨cs',sz',v',hL',hle,_,hv⟩ | ⟨r,hL',_⟩
 ·rw [hL] at hL'
  simp only [Option.some.injEq,Z0Q.row.injEq] at hL'
  obtain⟨rfl,rfl,rfl⟩:=hL'
  exact hv rfl
 ·rw [hL] at hL'; simp at hL'
theorem ZbJ(hW:Z0D m L w)(t:TypeId){X:AV}{u:Value}(hx:Z03 m L X u):Z0i P m L w (Z8H P true L t X) (Z1j (Instr.loadAt t u)):=by
 cases X <;> try exact fun h=>h.elim
 case ref id ver off=>
  refine Z0i.pure hW fun hp=>?_
  obtain⟨hf,hle,ho⟩:=hp rfl
  obtain⟨cs,sz,hL,h1,h2⟩:=Z0H hf
  have hu:=Z3u hx hf
  subst hu
  obtain⟨us,hc,hcell,_⟩:=Z1E hW hL
  rw [h1] at ho hle ⊢
  obtain⟨r,hr,hv⟩:=Z2v (P:=P) (w:=w) (t:=t) (g:=m.blk id) (o:=off) (hc.drop off) (fun j v hj=>by rw [List.getElem?_drop] at hj; exact hcell _ _ hj) (by simpa using ho)
  exact⟨r,by simp [Instr.loadAt,Instr.sureAddr,hr],hv⟩
 case ip cs=>
  refine Z0i.pure hW fun hp=>?_
  simp only [Z03] at hx
  obtain⟨us,g,o,rfl,hc,hpin⟩:=hx
  obtain⟨r,hr,hv⟩:=Z2v (P:=P) (w:=w) (t:=t) (g:=g) (o:=o) hc (fun j v hj=>hW.pins _ _ _ (hpin j v hj)) (hp rfl)
  exact⟨r,by simp [Instr.loadAt,Instr.sureAddr,hr],hv⟩
theorem Za2(hW:Z0D m L w)(t:TypeId)(f:Nat){X:AV}{u:Value}(hx:Z03 m L X u):Z0i P m L w (Z7h P true L t X f) (Z1j (Instr.field t u f)):=by
 unfold Z7h
 split
 ·rename_i fields cs hu
  simp only [Z03] at hx
  obtain⟨us,rfl,hc⟩:=hx
  split
  ·rename_i fd hfd
   refine Z0i.pure hW fun hp=>?_
   obtain⟨hi,hp⟩:=hp
   obtain⟨r,hr,hv⟩:=Z2B (P:=P) (w:=w) hc hi (hp rfl).1 (hp rfl).2
   exact⟨r,by simp [Instr.field,Z00 hu,hfd,asAgg,hr],hv⟩
  ·exact fun h=>h.elim
 ·exact fun h=>h.elim
theorem Z5h(x y:AV):Z6J true x y=x:=by
 cases x <;> first | rfl | (cases y <;> rfl)
theorem Z4w(x y:AV):Z6J false x y=y:=by
 cases x <;> first | rfl | (cases y <;> rfl)
theorem Z8z{b:Bool}{x y:AV}{r:Value}(h1:b=true→Z03 m L x r)(h2:b=false→Z03 m L y r):Z03 m L (Z6J b x y) r:=by
 cases b with
 | true=>rw [Z5h]; exact h1 rfl
 | false=>rw [Z4w]; exact h2 rfl
theorem Z86(hW:Z0D m L w)(i:Nat){X:AV}{u:Value}(hx:Z03 m L X u):Z0i P m L w (Z4i true L X i) (Z1j (Instr.extract u i)):=by
 have key:∀(vs:List AV) (u:Value),Z03 m L (.tup vs) u→i<vs.length→∃r,(Instr.extract u i).run P w=.ok r w∧Z03 m L (vs.getD i .any) r:=by
  intro vs u hx hi
  simp only [Z03] at hx
  obtain⟨us,rfl,hc⟩:=hx
  obtain⟨r,hr,hv⟩:=hc.get i vs[i] (by simp [hi])
  exact⟨r,by simp [Instr.extract,hr],by simpa [List.getD,hi] using hv⟩
 unfold Z4i
 split
 ·refine Z0i.pure hW fun hp=>key _ _ hx (hp rfl)
 ·rename_i b vs ws
  refine Z0i.pure hW fun hp=>?_
  have hp:=hp rfl
  simp only [Z03] at hx
  have pv:∀(x y:AV) (r:Value),(b=true→Z03 m L x r)→(b=false→Z03 m L y r)→Z03 m L (Z6J b x y) r:=fun x y r h1 h2=>Z8z h1 h2
  cases b with
  | true=>
   obtain⟨r,hr,hv⟩:=key vs u (by simpa [Z03] using hx.1 rfl) (hp.1 rfl)
   exact⟨r,hr,pv _ _ _ (fun _=>hv) (fun h=>by cases h)⟩
  | false=>
   obtain⟨r,hr,hv⟩:=key ws u (by simpa [Z03] using hx.2 rfl) (hp.2 rfl)
   exact⟨r,hr,pv _ _ _ (fun h=>by cases h) (fun _=>hv)⟩
 ·exact fun h=>h.elim
theorem Z5V{t:TypeId}{x y:Value}{b:Bool}(h:∀d:Nat,(Op.equalIn (d+1) t x y).run P w=.ok b w):(Op.equal t x y).run P w=.ok b w:=h 9999
def Zly:Value→Bool
 | .slice none _ _=>true
 | .pointer none=>true
 | .nilIface=>true
 | .map none=>true
 | .nilFunc=>true
 | _=>false
theorem Z87(op:BinOp)(t:TypeId)(x y:Operand)(h:(Z3b x || Z3b y)=true):(eqGuard op t x y .nilIface .nilIface).run P w=.ok () w:=by
 cases op <;> cases x <;> cases y <;> simp_all [eqGuard,Z3b]
theorem Z8C(hW:Z0D m L w)(neq:Bool)(t:TypeId)(x y:Operand){X:AV}{u v:Value}(hx:Z03 m L X u) :
  Z0i P m L w (Zi7 P L neq (Z3b x || Z3b y) t X v) (Z1j (do eqGuard (cond neq .neq .eql) t x y u v; binOp (cond neq .neq .eql) t u v)):=by
 have fin:∀{b:Bool} {pre:Prop} {V:AV},(pre→((eqGuard (cond neq .neq .eql) t x y u v).run P w=.ok () w)∧((∀d:Nat,(Op.equalIn (d+1) t u v).run P w=.ok b w))∧Z03 m L V (.bool (cond neq (!b) b))∧(Zly v=true))→
   Z0i P m L w ⟨pre,V,L⟩ (Z1j (do eqGuard (cond neq .neq .eql) t x y u v; binOp (cond neq .neq .eql) t u v)):=by
  intro b pre V h
  refine Z0i.pure hW fun hp=>?_
  obtain⟨h0,h1,h2,h3⟩:=h hp
  refine⟨_,?_,h2⟩
  have h1:=Z5V h1
  cases neq <;> cases v <;> simp only [Zly,Bool.false_eq_true] at h3 <;> simp_all [binOp]
 unfold Zi7
 split
 ·rename_i e n c n' c' hu
  simp only [Z03] at hx; subst hx
  refine fin (b:=true) fun _=>⟨by cases neq <;> simp [eqGuard],fun d=>by simp [Op.equalIn,Z00 hu],by cases neq <;> simp [Z03],rfl⟩
 ·rename_i e cs n n' c' hu
  simp only [Z03] at hx
  obtain⟨a,cap,rfl,hle,us,hc,hp⟩:=hx
  refine Z0i.pure hW fun _=>?_
  have hk:a=none→cs=[]:=by
   rintro rfl
   rcases hp with rfl | ⟨g,o,h,_⟩
   ·have:=hc.length
    exact List.eq_nil_of_length_eq_zero (by rw [←this]; rfl)
   ·cases h
  have he:(Op.equal t (.slice a n cap) (.slice none n' c')).run P w=.ok a.isNone w:=Z5V fun d=>by cases a <;> simp [Op.equalIn,Z00 hu]
  cases neq
  ·refine⟨.bool a.isNone,by simp [eqGuard,binOp,he],?_⟩
   simp only [cond_false,Z03]
   exact⟨_,rfl,fun h=>hk (by simpa using h),fun _=>trivial⟩
  ·refine⟨.bool (!a.isNone),by simp [eqGuard,binOp,he],?_⟩
   simp only [cond_true,Z03]
   exact⟨_,rfl,fun _=>trivial,fun h=>hk (by simpa using h)⟩
 ·rename_i e id ver off n n' c' hu
  refine Z0i.pure hW fun hf=>?_
  obtain⟨k1,k2,a,rfl,ha⟩:=Z0N hx hf
  have hk:a=none→n=0:=by
   rintro rfl
   rcases ha with ha | ha
   ·omega
   ·cases ha
  have he:(Op.equal t (.slice a n (m.cap id - off)) (.slice none n' c')).run P w=.ok a.isNone w:=Z5V fun d=>by cases a <;> simp [Op.equalIn,Z00 hu]
  cases neq
  ·refine⟨.bool a.isNone,by simp [eqGuard,binOp,he],?_⟩
   simp only [cond_false,Z03]
   exact⟨_,rfl,fun h=>hk (by simpa using h),fun _=>trivial⟩
  ·refine⟨.bool (!a.isNone),by simp [eqGuard,binOp,he],?_⟩
   simp only [cond_true,Z03]
   exact⟨_,rfl,fun _=>trivial,fun h=>hk (by simpa using h)⟩
 ·rename_i e hu
  simp only [Z03] at hx; subst hx
  exact fin (b:=true) fun _=>⟨by cases neq <;> simp [eqGuard],fun d=>by simp [Op.equalIn,Z00 hu],by cases neq <;> simp [Z03],rfl⟩
 ·rename_i e id ver off hu
  refine Z0i.pure hW fun hf=>?_
  have:=Z3u hx hf; subst this
  have he:(Op.equal t (.pointer (some ⟨m.blk id,off,none⟩)) (.pointer none)).run P w=.ok false w:=Z5V fun d=>by simp [Op.equalIn,Z00 hu]
  cases neq
  ·exact⟨.bool false,by simp [eqGuard,binOp,he],by simp [Z03]⟩
  ·exact⟨.bool true,by simp [eqGuard,binOp,he],by simp [Z03]⟩
 ·rename_i e cs hu
  simp only [Z03] at hx
  obtain⟨us,g,o,rfl,_⟩:=hx
  exact fin (b:=false) fun _=>⟨by cases neq <;> simp [eqGuard],fun d=>by simp [Op.equalIn,Z00 hu],by cases neq <;> simp [Z03],rfl⟩
 ·rename_i e hu
  simp only [Z03] at hx; subst hx
  exact fin (b:=true) fun h=>⟨Z87 _ _ _ _ h,fun d=>by simp [Op.equalIn,Z00 hu],by cases neq <;> simp [Z03],rfl⟩
 ·rename_i e ty z hu
  simp only [Z03] at hx
  obtain⟨z',rfl,_⟩:=hx
  exact fin (b:=false) fun _=>⟨by cases neq <;> simp [eqGuard],fun d=>by simp [Op.equalIn,Z00 hu],by cases neq <;> simp [Z03],rfl⟩
 ·rename_i k e hu
  simp only [Z03] at hx; subst hx
  exact fin (b:=true) fun _=>⟨by cases neq <;> simp [eqGuard],fun d=>by simp [Op.equalIn,Z00 hu],by cases neq <;> simp [Z03],rfl⟩
 ·rename_i k e id hu
  simp only [Z03] at hx
  obtain⟨r,_,rfl⟩:=hx
  exact fin (b:=false) fun _=>⟨by cases neq <;> simp [eqGuard],fun d=>by simp [Op.equalIn,Z00 hu],by cases neq <;> simp [Z03],rfl⟩
 ·rename_i k e kd f hu
  simp only [Z03] at hx
  obtain⟨g,es,clock,rfl,_⟩:=hx
  exact fin (b:=false) fun _=>⟨by cases neq <;> simp [eqGuard],fun d=>by simp [Op.equalIn,Z00 hu],by cases neq <;> simp [Z03],rfl⟩
 ·rename_i hu
  simp only [Z03] at hx; subst hx
  exact fin (b:=true) fun _=>⟨by cases neq <;> simp [eqGuard],fun d=>by simp [Op.equalIn,Z00 hu],by cases neq <;> simp [Z03],rfl⟩
 ·rename_i hu
  simp only [Z03] at hx
  obtain⟨us,vs,rfl,_⟩:=hx
  exact fin (b:=false) fun _=>⟨by cases neq <;> simp [eqGuard],fun d=>by simp [Op.equalIn,Z00 hu],by cases neq <;> simp [Z03],rfl⟩
 ·exact fun h=>h.elim
theorem Zee{t:TypeId}{X Y:AV}{u v:Value}{b:Bool}(ht:Zik P t X=true)(hx:Z03 m L X u)(hy:Z03 m L Y v)(h:Zhx X Y=some b)(d:Nat):(Op.equalIn (d+1) t u v).run P w=.ok b w:=by
 unfold Zhx at h
 split at h
 ·simp only [Z03] at hx hy; subst hx hy
  simp only [Zik] at ht
  split at h
  ·rename_i hkk; subst hkk
   simp only [Option.some.injEq] at h; subst h
   split at ht
   ·rename_i h1
    rw [run_equalIn_int w d t _ _ _ _ h1]; congr 1
   ·cases ht
  ·cases h
 ·simp only [Z03] at hx hy; subst hx hy
  simp only [Zik] at ht
  simp only [Option.some.injEq] at h; subst h
  split at ht
  ·rename_i h1
   rw [run_equalIn_string w d t _ _ h1]; simp [ByteArray.toList_mk]
  ·cases ht
 ·simp only [Z03] at hx hy; subst hx hy
  simp only [Zik] at ht
  simp only [Option.some.injEq] at h; subst h
  split at ht
  ·rename_i h1
   rw [run_equalIn_bool w d t _ _ h1]
  ·cases ht
 ·cases h
theorem Zhy{cs ds:List AV}{us vs:List Value}(hc:Z0a m L cs us)(hd:Z0a m L ds vs)(d:Nat):∀(fs:List Field) (b:Bool),eqFs P cs ds fs=some b→(Op.eqFields (d+1) us.toArray vs.toArray fs).run P w=.ok b w:=by
 intro fs
 induction fs with
 | nil=>intro b h; simp [eqFs] at h; subst h; simp [Op.eqFields]
 | cons f fs ih=>
  intro b h
  simp only [eqFs] at h
  split at h
  ·rename_i hf
   obtain⟨h1,h2,h3,h4,h5⟩:=hf
   split at h
   ·rename_i b1 b2 hb1 hb2
    simp only [Option.some.injEq] at h
    subst h
    have hpl:∀n,0<n→Z2P P f.type n:=by
     intro n hn
     unfold Zik at h2
     unfold Z2P
     split at h2 <;> first | cases h2; done | skip
     all_goals split at h2 <;> first | cases h2; done | (rename_i hu; simp only [hu]; exact hn)
    have hv:∀cs':List AV,Z3A P f.type cs'=cs'.getD 0 (zeroA P f.type):=by
     intro cs'
     unfold Zik at h2
     unfold Z3A
     split at h2 <;> first | cases h2; done | skip
     all_goals split at h2 <;> first | cases h2; done | (rename_i hu; simp only [hu])
    obtain⟨u1,r1,q1⟩:=Z2B (P:=P) (w:=w) hc h3 (hpl _ (by omega)) (by omega:f.offset≤cs.length)
    obtain⟨u2,r2,q2⟩:=Z2B (P:=P) (w:=w) hd h3 (hpl _ (by omega)) (by omega:f.offset≤ds.length)
    rw [hv] at q1 q2
    have g1:(cs.drop f.offset).getD 0 (zeroA P f.type)=cs.getD f.offset .any:=by simp [List.getD,List.getElem?_drop,h4]
    have g2:(ds.drop f.offset).getD 0 (zeroA P f.type)=ds.getD f.offset .any:=by simp [List.getD,List.getElem?_drop,h5]
    rw [g1] at q1
    rw [g2] at q2
    have e:=Zee (P:=P) (w:=w) h2 q1 q2 hb1 d
    have:=ih _ hb2
    simp only [Op.eqFields,h1,if_true,Sem.run_bind,r1,r2,Result.andThen_ok,e,Sem.run_ite,ne_eq,not_false_eq_true]
    cases b1 <;> simp [this]
   ·cases h
  ·cases h
theorem ZfM{cs:List AV}{us:List Value}(hc:Z0a m L cs us)(hb:Z1A cs=true){i:Nat}(hi:i<cs.length):Z03 m L (cs.getD i .any) (us.getD i undef)∧cs.getD i .any=Z05 ((Z0C cs).getD i 0):=by
 refine⟨hc.getD i,?_⟩
 have hm:cs[i]∈cs:=List.getElem_mem hi
 have h:=(List.all_eq_true.1 hb) _ hm
 have e1:cs.getD i .any=cs[i]:=by simp [List.getD,hi]
 have e2:(Z0C cs).getD i 0=Z8h cs[i]:=by simp [Z0C,List.getD,hi]
 rw [e1,e2]
 unfold Z7a at h
 split at h
 ·rename_i n hn
  rw [hn]
  have:=of_decide_eq_true h
  simp only [Z8h,Z05,AV.int.injEq,true_and,UInt8.toNat_ofNat']
  omega
 ·cases h
theorem Z55{e:TypeId}(hu:P.underlying e=some (.int .u8))(hi:(P.info? e).isSome=true)(d:Nat){cs ds:List AV}{us vs:List Value}(hc:Z0a m L cs us)(hd:Z0a m L ds vs)(h1:Z1A cs=true)(h2:Z1A ds=true) :
  ∀is:List Nat,(∀i∈is,i<cs.length∧i<ds.length)→(Op.eqItems (d+1) e 1 us.toArray vs.toArray is).run P w=.ok (is.all fun i=>(Z0C cs).getD i 0 == (Z0C ds).getD i 0) w
 | [],_=>by simp [Op.eqItems]
 | i::is,h=>by
  obtain⟨a1,a2⟩:=h i (List.mem_cons_self ..)
  have ho:∀n,0<n→Z2P P e n:=fun n hn=>by unfold Z2P; simp only [hu]; exact hn
  have hv:∀cs':List AV,Z3A P e cs'=cs'.getD 0 (zeroA P e):=fun cs'=>by unfold Z3A; simp only [hu]
  obtain⟨u1,r1,q1⟩:=Z2B (P:=P) (w:=w) hc hi (ho _ (by omega)) (by omega:i≤cs.length)
  obtain⟨u2,r2,q2⟩:=Z2B (P:=P) (w:=w) hd hi (ho _ (by omega)) (by omega:i≤ds.length)
  rw [hv] at q1 q2
  have g1:(cs.drop i).getD 0 (zeroA P e)=cs.getD i .any:=by simp [List.getD,List.getElem?_drop,a1]
  have g2:(ds.drop i).getD 0 (zeroA P e)=ds.getD i .any:=by simp [List.getD,List.getElem?_drop,a2]
  rw [g1,(ZfM hc h1 a1).2] at q1
  rw [g2,(ZfM hd h2 a2).2] at q2
  simp only [Z05,Z03] at q1 q2
  subst q1 q2
  have ih:=Z55 hu hi d hc hd h1 h2 is fun j hj=>h j (List.mem_cons_of_mem _ hj)
  simp only [Op.eqItems,Sem.run_bind,Nat.mul_one,r1,r2,Result.andThen_ok,run_equalIn_int w d e _ _ _ _ hu,List.all_cons]
  have eb:((((Z0C cs).getD i 0).toNat:Int) == (((Z0C ds).getD i 0).toNat:Int))=((Z0C cs).getD i 0 == (Z0C ds).getD i 0):=by
   rw [Bool.eq_iff_iff]
   simp only [beq_iff_eq,Int.natCast_inj,UInt8.toNat_inj]
  rw [eb]
  cases ((Z0C cs).getD i 0 == (Z0C ds).getD i 0) <;> simp [ih]
theorem Z96(hW:Z0D m L w)(neq:Bool)(t:TypeId)(x y:Operand){cs ds:List AV}{u v:Value}(hx:Z03 m L (.agg cs) u)(hy:Z03 m L (.agg ds) v) :
  Z0i P m L w (Z8X P true L neq t cs ds) (Z1j (do eqGuard (cond neq .neq .eql) t x y u v; binOp (cond neq .neq .eql) t u v)):=by
 simp only [Z03] at hx hy
 obtain⟨us,rfl,hc⟩:=hx
 obtain⟨vs,rfl,hd⟩:=hy
 unfold Z8X
 split
 ·rename_i fields hu
  split
  ·rename_i b hb
   refine Z0i.pure hW fun hp=>?_
   obtain⟨h1,h2⟩:=hp
   have hg:(eqGuard (cond neq .neq .eql) t x y (.agg us.toArray) (.agg vs.toArray)).run P w=.ok () w:=by
    cases neq <;> exact run_eqGuard_agg w _ _ _ _ _ _ h2
   have he:(Op.equal t (.agg us.toArray) (.agg vs.toArray)).run P w=.ok b w:=by
    have hf:P.fieldsOf t=fields:=by simp [Program.fieldsOf,hu]
    have:=run_equalIn_struct (P:=P) w 9999 t us.toArray vs.toArray (by rw [hf,hu]) h1
    rw [hf] at this
    show (Op.equalIn 10000 t _ _).run P w=_
    rw [this]
    exact Zhy hc hd 9998 _ _ hb
   cases neq
   ·simp only [cond_false] at hg
    exact⟨.bool b,by simp [hg,binOp,he],by simp [Z03]⟩
   ·simp only [cond_true] at hg
    exact⟨.bool !b,by simp [hg,binOp,he],by simp [Z03]⟩
  ·exact fun h=>by cases h
 ·rename_i n e hu
  refine Z0i.pure hW fun hp=>?_
  obtain⟨q1,q2,q3,q4,q5,q6,q7,q8⟩:=hp
  have hg:(eqGuard (cond neq .neq .eql) t x y (.agg us.toArray) (.agg vs.toArray)).run P w=.ok () w:=by
   cases neq <;> exact run_eqGuard_agg w _ _ _ _ _ _ q8
  have he:(Op.equal t (.agg us.toArray) (.agg vs.toArray)).run P w=.ok (decide (Z0C cs=Z0C ds)) w:=by
   obtain⟨i,hi⟩:=Option.isSome_iff_exists.1 q3
   show (Op.equalIn 10000 t _ _).run P w=_
   rw [run_equalIn_array w 9999 _ _ hu hi,q2,Z55 q1 q3 9998 hc hd q4 q5 _ (fun i hi=>by have:=List.mem_range.1 hi; omega)]
   congr 1
   rw [Bool.eq_iff_iff,List.all_eq_true,decide_eq_true_eq]
   constructor
   ·intro h
    refine List.ext_getElem (by simp only [Z0C,List.length_map]; omega) fun i h1 h2=>?_
    have:=h i (List.mem_range.2 (by simp only [Z0C,List.length_map] at h1; omega))
    simpa [List.getD,h1,h2] using this
   ·intro e i _
    rw [e]; simp
  cases neq
  ·simp only [cond_false] at hg
   exact⟨.bool (decide (Z0C cs=Z0C ds)),by simp [hg,binOp,he],by simp [Z03]⟩
  ·simp only [cond_true] at hg
   exact⟨.bool (!decide (Z0C cs=Z0C ds)),by simp [hg,binOp,he],by simp [Z03]⟩
 ·exact fun h=>h.elim
theorem ZfO(hW:Z0D m L w)(op:BinOp)(t:TypeId)(x y:Operand){X Y:AV}{u v:Value}(hx:Z03 m L X u)(hy:Z03 m L Y v) :
    Z0i P m L w (Zkn P true L op t X Y (Z3b x || Z3b y)) (Z1j (do eqGuard op t x y u v; binOp op t u v)):=by
  unfold Zkn
  split
  · simp only [Z03] at hx hy; subst hx hy; exact ZdV hW _ _ _ _ _ _ _ _
  · simp only [Z03] at hx hy; subst hx hy; exact Zch hW _ _ _ _ _ _
  · simp only [Z03] at hx hy; subst hx hy
    cases op <;> first
      | exact fun h=>h.elim
      | (refine Z0i.pure hW fun hp=>?_
         simp [eqGuard,binOp,Z6H hp,Z03])
  · split
    · exact Z96 hW false t x y hx hy
    · exact Z96 hW true t x y hx hy
    · exact fun h=>h.elim
  · simp only [Z03] at hy; subst hy
    split
    · exact Z8C hW false t x y hx
    · exact Z8C hW true t x y hx
    · exact fun h=>h.elim
  · exact fun h=>h.elim
end
section
variable {P:Program} {m:Mem} {L:Z01} {w:World}
theorem Z91(l:List UInt8):(⟨l.toArray⟩:ByteArray).size=l.length:=by
 show l.toArray.size=_
 simp
theorem Key.val_inj{k k':Key}(h:k.val=k'.val):k=k':=by
 cases k <;> cases k' <;> simp_all [Key.val]
theorem Zba{kd:Option IntKind}{f:Key→Option Value}{es:Array MapEntry}(h:Z7o kd f es.toList):ZfJ f=es.size:=by
 have key:∀xs:List MapEntry,(∀e∈xs,∃k,e.key=Key.val k∧f k=some e.val)→(xs.map (·.key)).Nodup→∃l:List Key,l.length=xs.length∧l.Nodup∧(∀k∈l,(f k).isSome=true)∧∀k,k∈l↔k.val∈xs.map (·.key):=by
  intro xs
  induction xs with
  | nil=>intro _ _; exact⟨[],rfl,by simp,by simp,by simp⟩
  | cons e xs ih=>
   intro he hn
   rw [List.map_cons,List.nodup_cons] at hn
   obtain⟨l,l1,l2,l3,l4⟩:=ih (fun x hx=>he x (by simp [hx])) hn.2
   obtain⟨k,k1,k2⟩:=he e (by simp)
   refine⟨k::l,by simp [l1],?_,?_,?_⟩
   ·rw [List.nodup_cons]
    refine⟨fun hk=>hn.1 ?_,l2⟩
    rw [k1]; exact (l4 k).1 hk
   ·intro k' hk'
    rcases List.mem_cons.1 hk' with rfl | hk'
    ·rw [k2]; rfl
    ·exact l3 k' hk'
   ·intro k'
    rw [List.mem_cons,List.map_cons,List.mem_cons,l4,k1]
    constructor
    ·rintro (rfl | h)
     ·exact .inl rfl
     ·exact .inr h
    ·rintro (h | h)
     ·exact .inl (Key.val_inj h)
     ·exact .inr h
 obtain⟨l,l1,l2,l3,l4⟩:=key es.toList h.ent h.nodup
 rw [ZhI l2,l1,Array.length_toList]
 intro k
 refine⟨l3 k,fun hk=>?_⟩
 obtain⟨v,hv⟩:=Option.isSome_iff_exists.1 hk
 obtain⟨_,e,he,hke⟩:=h.has k v hv
 rw [l4,←hke]
 exact List.mem_map.2 ⟨e,he,rfl⟩
theorem ZdT(hW:Z0D m L w)(t ty:TypeId){X:AV}{u:Value}(hx:Z03 m L X u):Z0i P m L w (Zkh P L t X) (Z1j (Builtin.len_ #[t] ty #[u])):=by
 unfold Zkh
 split
 ·simp only [Z03] at hx; subst hx
  refine Z0i.pure hW fun hp=>?_
  simp [Builtin.len_,Z00 hp,goInt,Z03,Z91]
 ·simp only [Z03] at hx
  obtain⟨a,cap,rfl,hx⟩:=hx
  refine Z0i.pure hW fun hp=>?_
  obtain⟨e,hp⟩:=hp
  simp [Builtin.len_,Z00 hp,goInt,Z03]
 ·refine Z0i.pure hW fun hp=>?_
  obtain⟨⟨e,hp⟩,hf⟩:=hp
  obtain⟨_,_,a,rfl,_⟩:=Z0N hx hf
  simp [Builtin.len_,Z00 hp,goInt,Z03]
 ·refine Z0i.pure hW fun hp=>?_
  obtain⟨⟨e,hp⟩,hf⟩:=hp
  obtain⟨_,_,a,rfl,_⟩:=Z3Y hx hf
  simp [Builtin.len_,Z00 hp,goInt,Z03]
 ·simp only [Z03] at hx; subst hx
  refine Z0i.pure hW fun hp=>?_
  obtain⟨e,hp⟩:=hp
  simp [Builtin.len_,Z00 hp,goInt,Z03]
 ·rename_i id
  split
  ·rename_i kd f hL
   refine Z0i.pure hW fun hp=>?_
   obtain⟨k,e,hp⟩:=hp
   simp only [Z03] at hx
   obtain⟨r,hL',rfl⟩:=hx
   obtain⟨o,hb,hr⟩:=hW.iters _ _ hL
   simp only [Z4s] at hr
   obtain⟨es,clock,rfl,hM⟩:=hr
   have hget:(getObj (m.blk id)).run P w=.ok (.map es clock) w:=by simp [getObj,Sem.run,hb]
   simp [Builtin.len_,Z00 hp,goInt,Z03,hget,Zba hM.rel]
  ·exact fun h=>h.elim
 ·refine Z0i.pure hW fun hp=>?_
  obtain⟨k,e,hp⟩:=hp
  simp only [Z03] at hx
  obtain⟨g,es,clock,rfl,hpo,hM⟩:=hx
  have hget:(getObj g).run P w=.ok (.map es clock) w:=by simp [getObj,Sem.run,hW.pobjs _ _ hpo]
  simp [Builtin.len_,Z00 hp,goInt,Z03,hget,Zba hM.rel]
 ·exact fun h=>h.elim
theorem ZbU{cs:List AV}{us:List Value}(hc:Z0a m L cs us)(hb:Z1A cs=true):us=(Z0C cs).map fun b=>Value.int .u8 b.toNat:=by
 apply List.ext_getElem?
 intro i
 cases hci:cs[i]? with
 | none=>
  have h1:us[i]?=none:=by simp at hci ⊢; have:=hc.length; omega
  simp [h1,Z0C,hci]
 | some c=>
  obtain⟨u,hu,hr⟩:=hc.get i c hci
  have hbc:Z7a c=true:=by
   simp only [Z1A,List.all_eq_true] at hb
   exact hb c (List.mem_of_getElem? hci)
  rw [hu]
  simp only [Z0C,List.map_map,List.getElem?_map,hci,Option.map_some,Function.comp]
  cases c <;> simp [Z7a] at hbc
  case int k n=>
   cases k <;> simp [Z7a] at hbc
   simp only [Z03] at hr
   subst hr
   simp [Z8h]
   omega
theorem Z6I(s:ByteArray)(l:List UInt8) :
  (forIn (m:=Sem) ((l.map fun b=>Value.int .u8 b.toNat).toArray) s (fun c r=>do
   let .int .u8 n:=c | stuck "bytesToString: byte expected"
   pure (ForInStep.yield (r.push (UInt8.ofNat n.toNat))))).run P w=.ok ⟨s.data++l.toArray⟩ w:=by
 rw [←Array.forIn_toList]
 simp only [List.toList_toArray]
 induction l generalizing s with
 | nil=>simp
 | cons b l ih=>
  simp only [List.map_cons,List.forIn_cons]
  simp only [Sem.run_bind,Sem.run_pure,Result.andThen_ok]
  rw [ih]
  simp [ByteArray.push]
theorem Z2S{cs:List AV}{us:List Value}{g o:Nat}(hc:Z0a m L cs us)(hb:Z1A cs=true)(h:∀j v,us[j]?=some v→w.cell? ⟨g,o+j,none⟩=some v)(cap:Nat) :
  (Conv.bytesToString (.slice (some ⟨g,o,none⟩) cs.length cap)).run P w=.ok (.string ⟨(Z0C cs).toArray⟩) w:=by
 have hl:=hc.length
 have hld:=Z0R (P:=P) (w:=w) g o us cs.length (by omega) h
 rw [List.take_of_length_le (by omega)] at hld
 have hus:=ZbU hc hb
 have hloop:=Z6I (P:=P) (w:=w) .empty (Z0C cs)
 rw [←hus] at hloop
 simp only [Conv.bytesToString,Sem.run_bind,hld,Result.andThen_ok]
 erw [hloop]
 simp
theorem Z9U(hW:Z0D m L w)(t:TypeId){X Y:AV}{u v:Value}(hx:Z03 m L X u)(hy:Z03 m L Y v):Z0i P m L w (Z7b P true L t X Y) (Z1j (Instr.index t u v)):=by
 unfold Z7b
 split
 ·simp only [Z03] at hx hy; subst hx hy
  rename_i l k i
  refine Z0i.pure hW fun hp=>?_
  obtain⟨hu,hp⟩:=hp
  obtain⟨h0,h1⟩:=hp rfl
  have hi:i.toNat<l.length:=by omega
  have hget:(⟨l.toArray⟩:ByteArray)[i.toNat]?=some (l.getD i.toNat 0):=by
   have hi':i.toNat<(⟨l.toArray⟩:ByteArray).size:=by rw [Z91]; exact hi
   rw [getElem?_pos (⟨l.toArray⟩:ByteArray) i.toNat hi']
   simp [ByteArray.getElem_eq_getElem_data,List.getD,hi]
  simp [Instr.index,asIntOf,Z00 hu,h0,hget,Z03]
 ·rename_i cs k i
  simp only [Z03] at hx hy; subst hy
  obtain⟨us,rfl,hc⟩:=hx
  split
  ·rename_i n e hu
   refine Z0i.pure hW fun hp=>?_
   obtain⟨hi,ho,hp⟩:=hp
   obtain⟨h0,h1⟩:=hp rfl
   have hle:i.toNat*P.cellsOf e≤cs.length∨¬Z2P P e (cs.length - i.toNat*P.cellsOf e)∨P.cellsOf e=0:=by
    by_cases hz:P.cellsOf e=0
    ·exact .inr (.inr hz)
    ·by_cases hc':i.toNat*P.cellsOf e≤cs.length
     ·exact .inl hc'
     ·refine .inr (.inl fun h=>?_)
      rw [show cs.length - i.toNat*P.cellsOf e=0 by omega] at h
      unfold Z2P at h
      split at h <;> omega
   have hle':i.toNat*P.cellsOf e≤cs.length:=by
    rcases hle with h | h | h
    ·exact h
    ·exact absurd ho h
    ·simp [h]
   obtain⟨r,hr,hv⟩:=Z2B (P:=P) (w:=w) hc hi ho hle'
   exact⟨r,by simp [Instr.index,asIntOf,Z00 hu,h0,h1,Z0e hi,hr],hv⟩
  ·exact fun h=>h.elim
 ·exact fun h=>h.elim
theorem ZdA{m:Mem}{L:Z01}:∀l:List Value,Z0a m L (l.map ofV) l
 | []=>by simp [Z0a]
 | v::l=>by
  have:=ZdA (m:=m) (L:=L) l
  simp only [List.map_cons,Z0a]
  exact⟨v,l,rfl,Z3U m L v,this⟩
theorem Z6p(hW:Z0D m L w)(t:TypeId){X Y:AV}{u v:Value}(hx:Z03 m L X u)(hy:Z03 m L Y v):Z0i P m L w (Z2C P true L t X Y) (Z1j (Instr.indexAt t u v)):=by
 unfold Z2C
 split
 ·rename_i e cs n k i hu
  refine Z0i.pure hW fun hp=>?_
  obtain⟨hi,hl,hz,hp⟩:=hp
  obtain⟨h0,h1⟩:=hp rfl
  simp only [Z03] at hx hy; subst hy
  obtain⟨a,cap,rfl,hle,us,hc,hpin⟩:=hx
  have hlt:i.toNat<n:=by omega
  have hpos:0<n*P.cellsOf e:=Nat.mul_pos (by omega) hz
  have hus:=hc.length
  rcases hpin with rfl | ⟨g,o,rfl,hpin⟩
  ·simp at hus; omega
  ·refine⟨.pointer (some ⟨g,o+i.toNat*P.cellsOf e,none⟩),?_,?_⟩
   ·simp [Instr.indexAt,asIntOf,Z00 hu,h0,h1,Z0e hi,Addr.add_lit]
   ·simp only [Z03]
    exact⟨us.drop (i.toNat*P.cellsOf e),g,_,rfl,hc.drop _,fun j v hj=>by rw [List.getElem?_drop] at hj; rw [Nat.add_assoc]; exact hpin _ _ hj⟩
 ·rename_i e id ver off n k i hu
  refine Z0i.pure hW fun hp=>?_
  obtain⟨hi,hz,hp⟩:=hp
  obtain⟨hf,hs,h0,h1⟩:=hp rfl
  obtain⟨cs,sz,hL,hr,hsz⟩:=Z0H hf
  obtain⟨k1,k2,a,rfl,ha⟩:=Z0N hx hf
  simp only [Z03] at hy; subst hy
  have ha:a=some ⟨m.blk id,off*Z1K L id,none⟩:=by
   rcases ha with ha | ha
   ·omega
   ·exact ha
  subst ha
  refine⟨.pointer (some ⟨m.blk id,(off+i.toNat)*P.cellsOf e,none⟩),?_,?_⟩
  ·simp [Instr.indexAt,asIntOf,Z00 hu,h0,h1,Z0e hi,Addr.add_lit,hs,Nat.add_mul]
  ·simp only [Z03]
   exact .inl ⟨cs,sz,ver,hL,Nat.le_refl _,⟨_,rfl⟩,fun _=>trivial⟩
 ·rename_i e id ver off n k i hu
  refine Z0i.pure hW fun hp=>?_
  obtain⟨hi,hz,hp⟩:=hp
  obtain⟨hf,hs,h0,h1⟩:=hp rfl
  obtain⟨cs,sz,hL,hr,hsz⟩:=Z0H hf
  obtain⟨k1,k2,a,rfl,ha⟩:=Z3Y hx hf
  simp only [Z03] at hy; subst hy
  have ha:a=some ⟨m.blk id,off*Z1K L id,none⟩:=by
   rcases ha with ha | ha
   ·omega
   ·exact ha
  subst ha
  refine⟨.pointer (some ⟨m.blk id,(off+i.toNat)*P.cellsOf e,none⟩),?_,?_⟩
  ·simp [Instr.indexAt,asIntOf,Z00 hu,h0,h1,Z0e hi,Addr.add_lit,hs,Nat.add_mul]
  ·simp only [Z03]
   exact .inl ⟨cs,sz,ver,hL,Nat.le_refl _,⟨_,rfl⟩,fun _=>trivial⟩
 ·rename_i n e id ver off k i hu
  refine Z0i.pure hW fun hp=>?_
  obtain⟨hi,hn,hp⟩:=hp
  obtain⟨hf,h0,h1⟩:=hp rfl
  obtain⟨cs,sz,hL,hr,hsz⟩:=Z0H hf
  have:=Z3u hx hf
  subst this
  simp only [Z03] at hy; subst hy
  refine⟨.pointer (some ⟨m.blk id,off+i.toNat*P.cellsOf e,none⟩),?_,?_⟩
  ·simp [Instr.indexAt,Instr.sureAddr,asIntOf,Z00 hu,h0,h1,Z0e hi,Addr.add_lit,hn]
  ·simp only [Z03]
   exact .inl ⟨cs,sz,ver,hL,Nat.le_refl _,⟨_,rfl⟩,fun _=>trivial⟩
 ·rename_i n e cs k i hu
  refine Z0i.pure hW fun hp=>?_
  obtain⟨hi,hn,hp⟩:=hp
  obtain⟨h0,h1⟩:=hp rfl
  simp only [Z03] at hx hy; subst hy
  obtain⟨us,g,o,rfl,hc,hpin⟩:=hx
  refine⟨.pointer (some ⟨g,o+i.toNat*P.cellsOf e,none⟩),?_,?_⟩
  ·simp [Instr.indexAt,Instr.sureAddr,asIntOf,Z00 hu,h0,h1,Z0e hi,Addr.add_lit,hn]
  ·simp only [Z03]
   exact⟨us.drop (i.toNat*P.cellsOf e),g,_,rfl,hc.drop _,fun j v hj=>by rw [List.getElem?_drop] at hj; rw [Nat.add_assoc]; exact hpin _ _ hj⟩
 ·rename_i n e g k i hu
  split
  ·rename_i cs hcs
   refine Z0i.pure hW fun hp=>?_
   obtain⟨hi,hn,hp⟩:=hp
   obtain⟨h0,h1⟩:=hp rfl
   simp only [Z03] at hx hy; subst hy; subst hx
   obtain⟨l,hl,rfl⟩:=Z8I hcs
   obtain⟨c,e',f,hg,hcl⟩:=hW.glob.2 _ hl
   refine⟨.pointer (some ⟨g,0+i.toNat*P.cellsOf e,none⟩),?_,?_⟩
   ·simp [Instr.indexAt,Instr.sureAddr,asIntOf,Z00 hu,h0,h1,Z0e hi,Addr.add_lit,hn]
   ·simp only [Z03]
    exact⟨l.drop (i.toNat*P.cellsOf e),g,_,rfl,(ZdA l).drop _,fun j v hj=>Mem.pin_of hg (by rw [List.getElem?_drop] at hj; rw [←Array.getElem?_toList,hcl,Nat.zero_add]; exact hj)⟩
  ·exact fun h=>h.elim
 ·exact fun h=>h.elim
theorem Z6x(hW:Z0D m L w)(t:TypeId)(f:Nat){X:AV}{u:Value}(hx:Z03 m L X u):Z0i P m L w (Z2D P true L t X f) (Z1j (Instr.fieldAt t u f)):=by
 unfold Z2D
 split
 ·rename_i fields hu
  split
  ·rename_i fd hfd
   split
   ·rename_i cs
    refine Z0i.pure hW fun hp=>?_
    obtain⟨hi,hz⟩:=hp
    simp only [Z03] at hx
    obtain⟨us,g,o,rfl,hc,hpin⟩:=hx
    refine⟨.pointer (some ⟨g,o+fd.offset,none⟩),?_,?_⟩
    ·simp [Instr.fieldAt,Z00 hu,hfd,Instr.sureAddr,fieldPlace,Z0e hi,hz,Addr.add_lit]
    ·simp only [Z03]
     exact⟨us.drop fd.offset,g,_,rfl,hc.drop _,fun j v hj=>by rw [List.getElem?_drop] at hj; rw [Nat.add_assoc]; exact hpin _ _ hj⟩
   ·rename_i id ver off
    refine Z0i.pure hW fun hp=>?_
    obtain⟨hi,hz,hf⟩:=hp
    have hf:=hf rfl
    obtain⟨cs,sz,hL,hr,hsz⟩:=Z0H hf
    have:=Z3u hx hf
    subst this
    refine⟨.pointer (some ⟨m.blk id,off+fd.offset,none⟩),?_,?_⟩
    ·simp [Instr.fieldAt,Z00 hu,hfd,Instr.sureAddr,fieldPlace,Z0e hi,hz,Addr.add_lit]
    ·simp only [Z03]
     exact .inl ⟨cs,sz,ver,hL,Nat.le_refl _,⟨_,rfl⟩,fun _=>trivial⟩
   ·exact fun h=>h.elim
  ·exact fun h=>h.elim
 ·exact fun h=>h.elim
theorem Z2H{n:Nat}{lo hi:Option AV}{i j:Int}{vl vh:Option Value}(hl:Z1C 0 lo=some i)(hh:Z1C n hi=some j)
  (rl:∀x v,lo=some x→vl=some v→Z03 m L x v) (rh:∀x v,hi=some x→vh=some v→Z03 m L x v) (el:lo=none↔vl=none) (eh:hi=none↔vh=none)
  (h0:0≤i) (h1:i≤j) (isS:Bool) (cap:Nat) (h2:j≤cap) (h3:hi=none→n≤cap):(Instr.sliceBounds isS n cap vl vh none).run P w=.ok (i.toNat,j.toNat,cap) w:=by
 have hj0:0≤j:=by omega
 have hij:i≤(j.toNat:Int):=by omega
 have hb:∀(v:Value) (x:Int) (k:IntKind) (y:Nat) (code:BoundsCode),v=.int k x→0≤x→x≤y→(Instr.sliceBound v y code).run P w=.ok x.toNat w:=by
  intro v x k y code hv hx0 hxy
  subst hv
  simp [Instr.sliceBound,asIntOf,hx0,hxy]
 have hs:∀(x:AV) (d:Nat) (y:Int) (v:Value),Z1C d (some x)=some y→Z03 m L x v→∃k,v=.int k y:=by
  intro x d y v hx hv
  cases x <;> simp [Z1C] at hx
  rename_i k n
  simp only [Z03] at hv
  exact⟨k,by rw [hv,hx]⟩
 cases hi with
 | none=>
  have:=eh.1 rfl; subst this
  simp [Z1C] at hh; subst hh
  cases lo with
  | none=>
   have:=el.1 rfl; subst this
   simp [Z1C] at hl; subst hl
   simp [Instr.sliceBounds]
  | some x=>
   cases vl with
   | none=>exact absurd (el.2 rfl) (by simp)
   | some v=>
    obtain⟨k,hk⟩:=hs x 0 i v hl (rl x v rfl rfl)
    simp [Instr.sliceBounds,hb v i k n .sliceB hk h0 (by simpa using hij)]
 | some y=>
  cases vh with
  | none=>exact absurd (eh.2 rfl) (by simp)
  | some vy=>
   obtain⟨ky,hky⟩:=hs y n j vy hh (rh y vy rfl rfl)
   have e1:=fun code=>hb vy j ky cap code hky hj0 h2
   cases lo with
   | none=>
    have:=el.1 rfl; subst this
    simp [Z1C] at hl; subst hl
    simp [Instr.sliceBounds,e1]
   | some x=>
    cases vl with
    | none=>exact absurd (el.2 rfl) (by simp)
    | some v=>
     obtain⟨k,hk⟩:=hs x 0 i v hl (rl x v rfl rfl)
     simp [Instr.sliceBounds,e1,hb v i k j.toNat .sliceB hk h0 hij]
theorem Z3P{n:Nat}{hi mx:AV}{i j k:Int}{vl:Option Value}{lo':Option AV}{vh vm:Value}(hl:Z1C 0 lo'=some i)(hh:Z1C n (some hi)=some j)(hm:Z1C n (some mx)=some k)
  (rl:∀x v,lo'=some x→vl=some v→Z03 m L x v) (rh:Z03 m L hi vh) (rm:Z03 m L mx vm) (el:lo'=none↔vl=none)
  (h0:0≤i) (h1:i≤j) (isS:Bool) (cap:Nat) (h2:j≤k) (h3:k≤cap):(Instr.sliceBounds isS n cap vl (some vh) (some vm)).run P w=.ok (i.toNat,j.toNat,k.toNat) w:=by
 have hj0:0≤j:=by omega
 have hij:i≤(j.toNat:Int):=by omega
 have hjk:j≤(k.toNat:Int):=by omega
 have hb:∀(v:Value) (x:Int) (k:IntKind) (y:Nat) (code:BoundsCode),v=.int k x→0≤x→x≤y→(Instr.sliceBound v y code).run P w=.ok x.toNat w:=by
  intro v x k y code hv hx0 hxy
  subst hv
  simp [Instr.sliceBound,asIntOf,hx0,hxy]
 have hs:∀(x:AV) (d:Nat) (y:Int) (v:Value),Z1C d (some x)=some y→Z03 m L x v→∃k,v=.int k y:=by
  intro x d y v hx hv
  cases x <;> simp [Z1C] at hx
  rename_i k n
  simp only [Z03] at hv
  exact⟨k,by rw [hv,hx]⟩
 obtain⟨ky,hky⟩:=hs hi n j vh hh rh
 obtain⟨km,hkm⟩:=hs mx n k vm hm rm
 have e1:=fun code=>hb vm k km cap code hkm (by omega) h3
 have e2:=fun code=>hb vh j ky k.toNat code hky hj0 hjk
 cases lo' with
 | none=>
  have:=el.1 rfl; subst this
  simp [Z1C] at hl; subst hl
  simp [Instr.sliceBounds,e1,e2]
 | some x=>
  cases vl with
  | none=>exact absurd (el.2 rfl) (by simp)
  | some v=>
   obtain⟨kl,hkl⟩:=hs x 0 i v hl (rl x v rfl rfl)
   simp [Instr.sliceBounds,e1,e2,hb v i kl j.toNat .slice3C hkl h0 hij]
def ZbX(m:Mem)(L:Z01):Option AV→Option Value→Prop
 | none,none=>True
 | some x,some v=>Z03 m L x v
 | _,_=>False
theorem ZbX.iff{x:Option AV}{v:Option Value}(h:ZbX m L x v):x=none↔v=none:=by
 cases x <;> cases v <;> simp_all [ZbX]
theorem ZbX.rel{x:Option AV}{v:Option Value}(h:ZbX m L x v):∀x' v',x=some x'→v=some v'→Z03 m L x' v':=by
 intro x' v' h1 h2; subst h1 h2; exact h
theorem Z9q(hW:Z0D m L w)(t:TypeId){X:AV}{u:Value}{lo hi mx:Option AV}{vl vh vm:Option Value}(hx:Z03 m L X u)(rl:ZbX m L lo vl)(rh:ZbX m L hi vh)(rm:ZbX m L mx vm) :
  Z0i P m L w (Z6P P true L t X lo hi mx) (Z1j (Instr.sliceAt t u vl vh vm)):=by
 unfold Z6P
 split
 ·rename_i l hu
  split
  ·rename_i i j hl hh
   refine Z0i.pure hW fun hp=>?_
   obtain⟨h0,h1,h2⟩:=hp rfl
   simp only [Z03] at hx; subst hx
   have:=rm.iff.1 rfl; subst this
   have hb:=Z2H (P:=P) (w:=w) hl hh rl.rel rh.rel rl.iff rh.iff h0 h1 false l.length (by omega) (fun _=>Nat.le_refl _)
   refine⟨.string ⟨((l.take j.toNat).drop i.toNat).toArray⟩,?_,by simp [Z03]⟩
   simp [Instr.sliceAt,Z00 hu,Instr.slice,Z91,hb]
   apply ByteArray.ext
   simp [ByteArray.data_extract,List.extract_eq_take_drop,List.drop_take]
  ·exact fun h=>h.elim
 ·rename_i e cs n hu
  split
  ·rename_i i j k hl hh hm
   refine Z0i.pure hW fun hp=>?_
   obtain⟨hi',hmx,hlen,hp⟩:=hp
   obtain⟨h0,h1,h2,h3⟩:=hp rfl
   simp only [Z03] at hx
   obtain⟨a,cap,rfl,hle,us,hc,hpin⟩:=hx
   obtain⟨M,hbd,hM1,hM2⟩:∃M:Nat,(Instr.sliceBounds true n cap vl vh vm).run P w=.ok (i.toNat,j.toNat,M) w∧j≤M∧M≤cap:=by
    cases mx with
    | none=>
     have:=rm.iff.1 rfl; subst this
     exact⟨cap,Z2H (P:=P) (w:=w) hl hh rl.rel rh.rel rl.iff rh.iff h0 h1 true cap (by omega) (fun _=>hle),by omega,Nat.le_refl _⟩
    | some mx=>
     cases hi with
     | none=>simp at hmx
     | some hi=>
      cases vm with
      | none=>exact absurd (rm.iff.2 rfl) (by simp)
      | some vm=>
       cases vh with
       | none=>exact absurd (rh.iff.2 rfl) (by simp)
       | some vh=>exact⟨k.toNat,Z3P (P:=P) (w:=w) hl hh hm rl.rel rh rm rl.iff h0 h1 true cap h2 (by omega),by omega,by omega⟩
   have hjn:j.toNat≤n:=by omega
   refine⟨.slice (if M=i.toNat then a else a.map (·.add (i.toNat*P.cellsOf e))) (j.toNat - i.toNat) (M - i.toNat),?_,?_⟩
   ·simp [Instr.sliceAt,Z00 hu,Instr.slice,hbd,Z0e hi']
   ·simp only [Z03]
    refine⟨_,_,rfl,by omega,(us.take (j.toNat*P.cellsOf e)).drop (i.toNat*P.cellsOf e),(hc.take _).drop _,?_⟩
    by_cases hij:i.toNat=j.toNat
    ·left; rw [hij]; simp
    ·have hne:¬M=i.toNat:=by omega
     rw [if_neg hne]
     rcases hpin with rfl | ⟨g,o,rfl,hpin⟩
     ·left; simp
     ·right
      refine⟨g,o+i.toNat*P.cellsOf e,by simp [Addr.add_lit],fun q v hq=>?_⟩
      rw [List.getElem?_drop,List.getElem?_take] at hq
      split at hq
      ·rw [Nat.add_assoc]; exact hpin _ _ hq
      ·cases hq
  ·exact fun h=>h.elim
 ·rename_i e id ver off n hu
  split
  ·rename_i i j hl hh
   refine Z0i.pure hW fun hp=>?_
   obtain⟨hi',hz,hp⟩:=hp
   obtain⟨hf,hs,h0,h1,h2⟩:=hp rfl
   obtain⟨cs,sz,hL,hr,hsz⟩:=Z0H hf
   obtain⟨k1,k2,a,rfl,ha⟩:=Z0N hx hf
   have:=rm.iff.1 rfl; subst this
   rw [hr] at h2
   rw [←hs,hsz] at hz h2
   have hle:off+j.toNat≤m.cap id:=by
    have:(off+j.toNat)*sz≤m.cap id*sz:=by
     by_cases hcap:m.cap id=0
     ·have hnil:=hW.nils _ _ _ _ hL hcap
      rw [hnil,List.length_nil] at h2
      omega
     obtain⟨us,rest,elem,flo,fhi,hb,hc,hlen,hfz⟩:=hW.rows _ _ _ _ hL hcap
     have hus:=hc.length
     omega
    exact Nat.le_of_mul_le_mul_right this hz
   have hbd:=Z2H (P:=P) (w:=w) hl hh rl.rel rh.rel rl.iff rh.iff h0 h1 true (m.cap id - off) (by omega) (fun _=>by omega)
   refine⟨.slice (if m.cap id - off=i.toNat then a else a.map (·.add (i.toNat*P.cellsOf e))) (j.toNat - i.toNat) (m.cap id - off - i.toNat),?_,?_⟩
   ·simp [Instr.sliceAt,Z00 hu,Instr.slice,hbd,Z0e hi']
   ·simp only [Z03]
    refine⟨cs,sz,ver,hL,Nat.le_refl _,⟨_,_,_,rfl⟩,fun _=>⟨?_,by omega,_,by rw [Nat.sub_sub],?_⟩⟩
    ·rw [show off+i.toNat+(j.toNat - i.toNat)=off+j.toNat by omega]; exact h2
    ·by_cases hE:m.cap id - off=i.toNat
     ·left; omega
     ·right
      rw [if_neg hE]
      rcases ha with ha | ha
      ·omega
      ·rw [ha,←hs,hsz]
       simp [Addr.add_lit,Nat.add_mul]
  ·rename_i i j mx' hl hh
   split
   ·rename_i k hm
    refine Z0i.pure hW fun hp=>?_
    obtain⟨hhi,hi',hz,hp⟩:=hp
    obtain⟨rfl,hf,hs,h0,h1,h2⟩:=hp rfl
    obtain⟨cs,sz,hL,hr,hsz⟩:=Z0H hf
    obtain⟨k1,k2,a,rfl,ha⟩:=Z0N hx hf
    rw [hr] at h2
    rw [←hs,hsz] at hz h2
    have hle:off+k.toNat≤m.cap id:=by
     have:(off+k.toNat)*sz≤m.cap id*sz:=by
      by_cases hcap:m.cap id=0
      ·have hnil:=hW.nils _ _ _ _ hL hcap
       rw [hnil,List.length_nil] at h2
       omega
      obtain⟨us,rest,elem,flo,fhi,hb,hc,hlen,hfz⟩:=hW.rows _ _ _ _ hL hcap
      have hus:=hc.length
      omega
     exact Nat.le_of_mul_le_mul_right this hz
    cases hi with
    | none=>simp at hhi
    | some hi=>
    cases vm with
    | none=>exact absurd (rm.iff.2 rfl) (by simp)
    | some vm=>
    cases vh with
    | none=>exact absurd (rh.iff.2 rfl) (by simp)
    | some vh=>
    have hbd:=Z3P (P:=P) (w:=w) hl hh hm rl.rel rh rm rl.iff h0 h1 true (m.cap id - off) (Int.le_refl _) (by omega)
    refine⟨.slice (if k.toNat=i.toNat then a else a.map (·.add (i.toNat*P.cellsOf e))) (k.toNat - i.toNat) (k.toNat - i.toNat),?_,?_⟩
    ·simp [Instr.sliceAt,Z00 hu,Instr.slice,hbd,Z0e hi']
    ·simp only [Z03]
     refine⟨cs,sz,ver,hL,Nat.le_refl _,⟨_,_,_,rfl⟩,fun _=>⟨?_,by omega,_,rfl,?_⟩⟩
     ·rw [show off+i.toNat+(k.toNat - i.toNat)=off+k.toNat by omega]; exact h2
     ·by_cases hE:k.toNat=i.toNat
      ·left; omega
      ·right
       rw [if_neg hE]
       rcases ha with ha | ha
       ·omega
       ·rw [ha,←hs,hsz]
        simp [Addr.add_lit,Nat.add_mul]
   ·exact fun h=>h.elim
  ·exact fun h=>h.elim
 ·rename_i N e cs hu
  split
  ·refine Z0i.pure hW fun hp=>?_
   obtain⟨hi',hle⟩:=hp
   simp only [Z03] at hx
   obtain⟨us,g,o,rfl,hc,hpin⟩:=hx
   have e1:=rl.iff.1 rfl; subst e1
   have e2:=rh.iff.1 rfl; subst e2
   have e3:=rm.iff.1 rfl; subst e3
   have hal:P.arrayLen t=N:=by simp [Program.arrayLen,hu]
   have hel:P.elem t=e:=by simp [Program.elem,hu]
   have ht2:P.underlying t=some (.array (P.arrayLen t) (P.elem t)):=by rw [hal,hel]; exact hu
   have hsz:=Z0e (P:=P) (w:=w) (t:=P.elem t) (by rw [hel]; exact hi')
   have hs0:slicedAt (⟨g,o,none⟩:Addr) 0 N N (P.cellsOf (P.elem t))=.slice (some ⟨g,o,none⟩) N N:=by
    unfold slicedAt
    split <;> simp [Addr.add]
   have hrun:=run_sliceAt_array_all w t ⟨g,o,none⟩ ht2
   simp only [hsz,Result.andThen,hal,hs0] at hrun
   refine⟨.slice (some ⟨g,o,none⟩) N N,by simpa using hrun,?_⟩
   simp only [Z03]
   refine⟨_,_,rfl,Nat.le_refl _,us.take (N*P.cellsOf e),hc.take _,.inr ⟨g,o,rfl,fun i v hv=>?_⟩⟩
   rw [List.getElem?_take] at hv
   split at hv
   ·exact hpin _ _ hv
   ·cases hv
  ·exact fun h=>h.elim
 ·exact fun h=>h.elim
theorem Z94(hW:Z0D m L w)(t:TypeId){X:AV}{u:Value}(hx:Z03 m L X u):Z0i P m L w (Z5q P true L t X) (Z1j (Instr.arrayAt t u)):=by
 unfold Z5q
 split
 ·rename_i n e cs k hu
  refine Z0i.pure hW fun hp=>?_
  obtain⟨h0,h1,h2⟩:=hp rfl
  simp only [Z03] at hx
  obtain⟨a,cap,rfl,hle,us,hc,hpin⟩:=hx
  have hl:=hc.length
  rcases hpin with rfl | ⟨g,o,rfl,hpin⟩
  ·simp at hl; omega
  ·refine⟨.pointer (some ⟨g,o,none⟩),by simp [Instr.arrayAt,Z00 hu,show ¬k<n by omega],?_⟩
   simp only [Z03]
   exact⟨us,g,o,rfl,hc,hpin⟩
 ·rename_i n e id ver off k hu
  refine Z0i.pure hW fun hp=>?_
  obtain⟨hf,h0,h1⟩:=hp rfl
  obtain⟨cs,sz,hL,hr,hsz⟩:=Z0H hf
  obtain⟨k1,k2,a,rfl,ha⟩:=Z0N hx hf
  refine⟨.pointer a,by simp [Instr.arrayAt,Z00 hu,show ¬k<n by omega],?_⟩
  simp only [Z03]
  refine .inl ⟨cs,sz,ver,hL,Nat.le_refl _,⟨a,rfl⟩,fun _=>?_⟩
  rcases ha with ha | ha
  ·omega
  ·rw [ha,hsz]
 ·exact fun h=>h.elim
end
theorem Z0D.heap{m:Mem}{L:Z01}{w w':World}(h:w'.heap=w.heap)(hW:Z0D m L w):Z0D m L w' where
 glob:=hW.glob
 pobjs g o hp:=by rw [h]; exact hW.pobjs g o hp
 rows:=by rw [h]; exact hW.rows
 nils:=hW.nils
 iters:=by rw [h]; exact hW.iters
 inj:=hW.inj
 freeo:=hW.freeo
 hid:=hW.hid.keep (fun _ _ _ _ h=>⟨h,rfl,rfl⟩) (fun _ _ _ _ _ _=>by rw [h]) (fun _ _ _=>by rw [h]) (fun _ _ k=>hW.hid.free _ _ k) (fun _ _ k j hj=>hW.hid.own _ _ k j hj)
section
variable {P:Program} {m:Mem} {L:Z01} {w:World}
def Mem.put(m:Mem)(id g c:Nat):Mem:={ m with blk:=fun i=>if i=id then g else m.blk i,cap:=fun i=>if i=id then c else m.cap i }
theorem Own.lt{id:Nat}(h:Own m L id):id<L.length:=by
 rcases h with ⟨cs,sz,ver,h,_⟩ | ⟨r,h⟩ <;> exact (List.getElem?_eq_some_iff.1 h).1
theorem Z5i{id g c:Nat}{o:Z0Q}(h:Own (m.put L.length g c) (L++[o]) id):(Own m L id∧id≠L.length)∨id=L.length:=by
 have:=h.lt
 simp at this
 by_cases hid:id=L.length
 ·exact .inr hid
 ·left
  have hlt:id<L.length:=by omega
  unfold Own at *
  rw [List.getElem?_append_left hlt] at h
  simpa [Mem.put,hid] using h
def Z18(w w':World)(o:Obj):Prop:=w'.heap=w.heap.push o∧Z9b w w'
theorem Z18.old{w w':World}{o:Obj}(h:Z18 w w' o){g:Nat}(hg:g<w.heap.size):w'.heap[g]?=w.heap[g]?:=by
 rw [h.1,Array.getElem?_push]; simp [Nat.ne_of_lt hg]
theorem Z18.new{w w':World}{o:Obj}(h:Z18 w w' o):w'.heap[w.heap.size]?=some o:=by
 rw [h.1,Array.getElem?_push]; simp
theorem Z18.size{w w':World}{o:Obj}(h:Z18 w w' o):w'.heap.size=w.heap.size+1:=by rw [h.1]; simp
theorem Z18.alloc(w:World)(o:Obj):Z18 w (w.alloc o) o:=⟨rfl,rfl,rfl,rfl⟩
theorem Z8E(id_obj:Z0Q)(g c:Nat):Z4D m L (m.put L.length g c) (L++[id_obj]) where
 pobj _ _ h:=h
 row id cs sz ver h:=by
  have hlt:id<L.length:=(List.getElem?_eq_some_iff.1 h).1
  refine⟨cs,ver,by rw [List.getElem?_append_left hlt]; exact h,Nat.le_refl _,fun _=>⟨rfl,?_,?_⟩⟩ <;> simp [Mem.put,Nat.ne_of_lt hlt]
 iter id r h:=by
  have hlt:id<L.length:=(List.getElem?_eq_some_iff.1 h).1
  exact⟨r,by rw [List.getElem?_append_left hlt]; exact h,by simp [Mem.put,Nat.ne_of_lt hlt]⟩
structure ZiC(w w':World):Prop where
 old:∀g,g<w.heap.size→w'.heap[g]?=w.heap[g]?
 size:w.heap.size≤w'.heap.size
 same:Z9b w w'
theorem Z18.keep{w w':World}{o:Obj}(h:Z18 w w' o):ZiC w w':=⟨fun _ hg=>h.old hg,by rw [h.size]; omega,h.2⟩
theorem ZiC.refl(w:World):ZiC w w:=⟨fun _ _=>rfl,Nat.le_refl _,Z9b.refl w⟩
theorem ZaY{g c:Nat}{x:Z0Q}(hx:∀T e l,x=.raw (.bld T e l)→c=0){id g':Nat}(h:Hid (m.put L.length g c) (L++[x]) id g'):Hid m L id g':=by
 obtain⟨T,e,l,hL,hc⟩:=h
 by_cases hid:id=L.length
 ·subst hid
  simp at hL
  have:=hx _ _ _ hL
  simp [Mem.put] at hc
  omega
 ·have hlt:id<L.length:=by
   have:=(List.getElem?_eq_some_iff.1 hL).1
   simp at this; omega
  rw [List.getElem?_append_left hlt] at hL
  exact⟨T,e,l,hL,by simpa [Mem.put,hid] using hc⟩
theorem Z3H.push{w':World}(hW:Z0D m L w){x:Z0Q}{c:Nat}(hk:ZiC w w')(hx:∀T e l,x=.raw (.bld T e l)→c=0∧Zaa w' w.heap.size 0 T e l):Z3H (m.put L.length w.heap.size c) (L++[x]) w':=by
 have hh:∀{id g'},Hid (m.put L.length w.heap.size c) (L++[x]) id g'→Hid m L id g':=fun h=>ZaY (fun T e l hx'=>(hx T e l hx').1) h
 refine⟨fun id T e l hL=>?_,fun id g k=>hW.hid.free id g (hh k),fun id g k j hj=>?_,fun i j g k1 k2=>hW.hid.inj i j g (hh k1) (hh k2)⟩
 ·by_cases hid:id=L.length
  ·subst hid
   simp at hL
   obtain⟨h0,h1⟩:=hx _ _ _ hL
   subst h0
   simpa [Mem.put] using h1
  ·have hlt:id<L.length:=by
    have:=(List.getElem?_eq_some_iff.1 hL).1
    simp at this; omega
   rw [List.getElem?_append_left hlt] at hL
   simp only [Mem.put,hid,if_false]
   exact (hW.hid.at_ _ _ _ _ hL).same (hk.old _ (hW.blk_lt (.inr ⟨_,hL⟩))) fun g hc=>hk.old _ (hW.hid.lt ⟨_,_,_,hL,hc⟩)
 ·have hlt:=hW.hid.lt (hh k)
  rcases Z5i hj with ⟨h1,h2⟩ | h1
  ·simp only [Mem.put,h2,if_false]; exact hW.hid.own id g (hh k) j h1
  ·simp only [Mem.put,h1,if_true]; omega
theorem Z1r{w':World}(x:Z0Q)(c:Nat)(hk:ZiC w w')(hx:∀T e l,x=.raw (.bld T e l)→c=0:=by (intro _ _ _ h; first | rfl | (cases h; done))):Ext m L w (m.put L.length w.heap.size c) (L++[x]) w' where
 hnew id g h:=.inl (ZaY hx h)
 frame g hg _ _:=hk.old g hg
 size:=hk.size
 newobj _ _:=rfl
 blks id hl:=by
  rcases Z5i hl with ⟨h,hne⟩ | h
  ·exact .inl ⟨h,by simp [Mem.put,hne]⟩
  ·exact .inr (by simp [Mem.put,h])
 len:=by simp
 mono:=Z8E x _ _
 same:=hk.same
theorem Z7H{w':World}(hW:Z0D m L w){x:Z0Q}{c:Nat}(hk:ZiC w w')
  (hrow:∀cs sz ver,x=.row cs sz ver→c≠0→∃us rest elem lo hi,w'.heap[w.heap.size]?=some (.cells (us++rest).toArray elem (lo,hi))∧Z0a m L cs us∧us.length+rest.length=c*sz∧(hi=lo∨(c*sz≤lo∧sz=1)))
  (hnil:∀cs sz ver,x=.row cs sz ver→c=0→cs=[]) (hiter:∀r,x=.raw r→∃o,w'.heap[w.heap.size]?=some o∧Z4s w.heap.size r o) (hbld:∀T e l,x=.raw (.bld T e l)→c=0∧Zaa w' w.heap.size 0 T e l) :
  Z0D (m.put L.length w.heap.size c) (L++[x]) w':=by
 have M:Z4D m L (m.put L.length w.heap.size c) (L++[x]):=Z8E x _ _
 have hlive:∀i,Own (m.put L.length w.heap.size c) (L++[x]) i→(m.put L.length w.heap.size c).blk i=w.heap.size∧i=L.length∨(m.put L.length w.heap.size c).blk i=m.blk i∧Own m L i∧m.blk i<w.heap.size:=by
  intro i hi
  rcases Z5i hi with ⟨h,hne⟩ | h
  ·exact .inr ⟨by simp [Mem.put,hne],h,hW.blk_lt h⟩
  ·exact .inl ⟨by simp [Mem.put,h],h⟩
 have hold:∀{id:Nat} {o:Z0Q},(L++[x])[id]?=some o→id≠L.length→L[id]?=some o:=by
  intro id o hL hid
  have hlt:id<L.length:=by
   have:=(List.getElem?_eq_some_iff.1 hL).1
   simp at this; omega
  rwa [List.getElem?_append_left hlt] at hL
 refine⟨hW.glob,fun g o hpin=>?_,fun id cs' sz' ver' hL hcap=>?_,fun id cs' sz' ver' hL hcap=>?_,fun id r hL=>?_,fun i j hi hj he=>?_,fun id hl=>?_,Z3H.push hW hk hbld⟩
 ·rw [hk.old _ (hW.pobj_lt hpin)]; exact hW.pobjs g o hpin
 ·by_cases hid:id=L.length
  ·subst hid
   simp at hL
   simp [Mem.put] at hcap
   obtain⟨us,rest,elem,lo,hi,h1,h2,h3,h4⟩:=hrow _ _ _ hL hcap
   exact⟨us,rest,elem,lo,hi,by simp [Mem.put,h1],Z0a.mono M _ _ h2,by simpa [Mem.put] using h3,by simpa [Mem.put] using h4⟩
  ·have hL':=hold hL hid
   simp [Mem.put,hid] at hcap
   obtain⟨us',rest',elem',lo',hi',h1,h2,h3,h4⟩:=hW.rows _ _ _ _ hL' hcap
   have hb:=hW.blk_lt (id:=id) (.inl ⟨_,_,_,hL',hcap⟩)
   refine⟨us',rest',elem',lo',hi',?_,Z0a.mono M _ _ h2,?_,?_⟩
   ·simp only [Mem.put,hid,if_false]; rw [hk.old _ hb]; exact h1
   ·simpa [Mem.put,hid] using h3
   ·simpa [Mem.put,hid] using h4
 ·by_cases hid:id=L.length
  ·subst hid
   simp at hL
   simp [Mem.put] at hcap
   exact hnil _ _ _ hL hcap
  ·simp [Mem.put,hid] at hcap
   exact hW.nils _ _ _ _ (hold hL hid) hcap
 ·by_cases hid:id=L.length
  ·subst hid; simp at hL; simpa [Mem.put] using hiter _ hL
  ·have hL':=hold hL hid
   have hb:=hW.blk_lt (id:=id) (.inr ⟨_,hL'⟩)
   simp only [Mem.put,hid,if_false]; rw [hk.old _ hb]; exact hW.iters _ _ hL'
 ·rcases hlive i hi with ⟨h1,h2⟩ | ⟨h1,h2,h3⟩ <;> rcases hlive j hj with ⟨k1,k2⟩ | ⟨k1,k2,k3⟩
  ·omega
  ·omega
  ·omega
  ·exact hW.inj i j h2 k2 (by omega)
 ·rcases hlive id hl with ⟨h1,h2⟩ | ⟨h1,h2,h3⟩
  ·rw [h1]
   cases hpo:m.pobj w.heap.size with
   | none=>exact hpo
   | some v=>have:=hW.pobj_lt hpo; omega
  ·rw [h1]; exact hW.freeo id h2
theorem Z2u{w':World}(hW:Z0D m L w){cs:List AV}{us rest:List Value}{elem:TypeId}{sz c lo hi:Nat}(hp:Z18 w w' (.cells (us++rest).toArray elem (lo,hi)))(hc:Z0a m L cs us)
  (hlen:us.length+rest.length=c*sz) (hf:hi=lo∨(c*sz≤lo∧sz=1)) (ver:Nat:=0):Z0D (m.put L.length w.heap.size c) (L++[.row cs sz ver]) w':=by
 refine Z7H hW hp.keep (fun cs' sz' ver' he _=>?_) (fun cs' sz' ver' he h0=>?_) (fun r he=>by cases he) (fun _ _ _ he=>by cases he)
 ·cases he; exact⟨us,rest,elem,lo,hi,hp.new,hc,hlen,hf⟩
 ·cases he
  have:=hc.length
  rw [h0] at hlen
  simp at hlen
  exact List.eq_nil_of_length_eq_zero (by rw [←this,hlen.1]; rfl)
theorem ZgN(hW:Z0D m L w)(sz:Nat):Z0D (m.put L.length w.heap.size 0) (L++[.row [] sz 0]) w:=
 Z7H hW (ZiC.refl w) (fun cs' sz' ver' he h=>absurd rfl h) (fun cs' sz' ver' he h0=>by cases he; rfl) (fun r he=>by cases he) (fun _ _ _ he=>by cases he)
theorem Z5O{w':World}(hW:Z0D m L w){r:Raw}{o:Obj}(hp:Z18 w w' o)(hr:Z4s w.heap.size r o)(hbld:∀T e l,r=.bld T e l→Zaa w' w.heap.size 0 T e l:=by (intro _ _ _ h; cases h; done)):Z0D (m.put L.length w.heap.size 0) (L++[.raw r]) w':=
 Z7H hW hp.keep (fun cs' sz' ver' he _=>by cases he) (fun cs' sz' ver' he h0=>by cases he) (fun r' he=>by cases he; exact⟨o,hp.new,hr⟩) (fun T e l he=>⟨rfl,hbld T e l (by cases he; rfl)⟩)
structure Chg(w w':World)(g:Nat)(o:Obj):Prop where
 at_:w'.heap[g]?=some o
 other:∀g',g'≠g→g'<w.heap.size→w'.heap[g']?=w.heap[g']?
 size:w.heap.size≤w'.heap.size
 same:Z9b w w'
theorem Zds{id i g c:Nat}{o:Z0Q}(h:Own (m.put id g c) (L.set id o) i)(hi:i≠id):Own m L i:=by
 unfold Own at *
 rw [List.getElem?_set_ne (fun h=>hi h.symm)] at h
 simpa [Mem.put,hi] using h
theorem Z8D{id:Nat}{cs0 cs:List AV}{sz ver ver':Nat}(h0:L[id]?=some (.row cs0 sz ver)){g c:Nat}
  (hver:(ver'=ver∧cs.length=cs0.length∧g=m.blk id∧c=m.cap id)∨ver'=ver+1):Z4D m L (m.put id g c) (L.set id (.row cs sz ver')):=by
 have hlt:id<L.length:=(List.getElem?_eq_some_iff.1 h0).1
 refine⟨fun _ _ h=>h,fun i cs' sz' v hL=>?_,fun i r hL=>?_⟩
 ·by_cases hi:i=id
  ·subst hi
   rw [h0] at hL
   simp at hL
   obtain⟨rfl,rfl,rfl⟩:=hL
   refine⟨cs,ver',by simp [hlt],by omega,fun e=>?_⟩
   rcases hver with ⟨h1,h2,h3,h4⟩ | h1
   ·exact⟨h2,by simp [Mem.put,h3],by simp [Mem.put,h4]⟩
   ·omega
  ·refine⟨cs',v,by rw [List.getElem?_set_ne (fun h=>hi h.symm)]; exact hL,Nat.le_refl _,fun _=>⟨rfl,?_,?_⟩⟩ <;> simp [Mem.put,hi]
 ·have hi:i≠id:=by intro h; subst h; rw [h0] at hL; simp at hL
  exact⟨r,by rw [List.getElem?_set_ne (fun h=>hi h.symm)]; exact hL,by simp [Mem.put,hi]⟩
theorem Z2Y{w':World}(hW:Z0D m L w){id:Nat}{cs0 cs:List AV}{sz ver ver':Nat}(h0:L[id]?=some (.row cs0 sz ver)){us rest:List Value}{elem:TypeId}{g c lo hi:Nat}
  (hg:(g=m.blk id∧m.cap id≠0)∨w.heap.size≤g) (hC:Chg w w' g (.cells (us++rest).toArray elem (lo,hi))) (hc:Z0a m L cs us) (hlen:us.length+rest.length=c*sz) (hf:hi=lo∨(c*sz≤lo∧sz=1)) (hc0:c≠0)
  (hver:(ver'=ver∧cs.length=cs0.length∧g=m.blk id∧c=m.cap id)∨ver'=ver+1) :
  Z0D (m.put id g c) (L.set id (.row cs sz ver')) w'∧Ext m L w (m.put id g c) (L.set id (.row cs sz ver')) w':=by
 have hlt:id<L.length:=(List.getElem?_eq_some_iff.1 h0).1
 have hgne:∀i,Own m L i→i≠id→m.blk i≠g:=by
  intro i hi hne he
  rcases hg with ⟨hg,hcap⟩ | hg
  ·exact hne (hW.inj i id hi (.inl ⟨_,_,_,h0,hcap⟩) (by omega))
  ·have:=hW.blk_lt hi; omega
 have hpin0:m.pobj g=none:=by
  rcases hg with ⟨hg,hcap⟩ | hg
  ·rw [hg]; exact hW.freeo id (.inl ⟨_,_,_,h0,hcap⟩)
  ·cases hpo:m.pobj g with
   | none=>rfl
   | some v=>have:=hW.pobj_lt hpo; omega
 have M:Z4D m L (m.put id g c) (L.set id (.row cs sz ver')):=Z8D h0 hver
 have hlive:∀i,Own (m.put id g c) (L.set id (.row cs sz ver')) i→(i=id∧(m.put id g c).blk i=g)∨(i≠id∧Own m L i∧(m.put id g c).blk i=m.blk i):=by
  intro i hi
  by_cases hii:i=id
  ·exact .inl ⟨hii,by simp [Mem.put,hii]⟩
  ·exact .inr ⟨hii,Zds hi hii,by simp [Mem.put,hii]⟩
 have hbs:∀i T e l,(L.set id (.row cs sz ver'))[i]?=some (.raw (.bld T e l))→L[i]?=some (.raw (.bld T e l))∧(m.put id g c).blk i=m.blk i∧(m.put id g c).cap i=m.cap i:=by
  intro i T e l hL
  have hi:i≠id:=by intro h; subst h; simp [hlt] at hL
  rw [List.getElem?_set_ne (fun h=>hi h.symm)] at hL
  exact⟨hL,by simp [Mem.put,hi],by simp [Mem.put,hi]⟩
 have hgh:∀i g',Hid m L i g'→g'≠g:=by
  intro i g' k e
  subst e
  rcases hg with ⟨hg,hcap⟩ | hg
  ·exact hW.hid.own _ _ k id (.inl ⟨_,_,_,h0,hcap⟩) hg.symm
  ·have:=hW.hid.lt k; omega
 have hHid:Z3H (m.put id g c) (L.set id (.row cs sz ver')) w':=by
  refine hW.hid.keep hbs (fun i T e l k k'=>?_) (fun i g' k=>hC.other g' (hgh i g' k) (hW.hid.lt k)) (fun i g' k=>hW.hid.free i g' k) (fun i g' k j hj=>?_)
  ·have hi:i≠id:=by intro h; subst h; simp [hlt] at k'
   exact hC.other _ (hgne i (.inr ⟨_,k⟩) hi) (hW.blk_lt (.inr ⟨_,k⟩))
  ·rcases hlive j hj with ⟨h1,h2⟩ | ⟨h1,h2,h3⟩
   ·rw [h2]; exact fun e=>hgh i g' k e.symm
   ·rw [h3]; exact hW.hid.own i g' k j h2
 refine⟨⟨hW.glob,fun g' o hpin=>?_,fun i cs' sz' v hL hcap=>?_,fun i cs' sz' v hL hcap=>?_,fun i r hL=>?_,fun i j hi hj he=>?_,fun i hl=>?_,hHid⟩,⟨fun g' hg' hne _=>?_,hC.size,fun _ _=>rfl,fun i hl=>?_,by simp,M,hC.same,fun i g' ⟨T,e,l,k1,k2⟩=>.inl ⟨T,e,l,(hbs _ _ _ _ k1).1,by rw [←(hbs _ _ _ _ k1).2.2]; exact k2⟩⟩⟩
 ·have hne:g'≠g:=by
   intro h; subst h
   have h1:m.pobj g'=some o:=hpin
   rw [hpin0] at h1; cases h1
  rw [hC.other g' hne (hW.pobj_lt hpin)]; exact hW.pobjs g' o hpin
 ·by_cases hq:i=id
  ·subst hq
   simp [hlt] at hL
   obtain⟨rfl,rfl,rfl⟩:=hL
   exact⟨us,rest,elem,lo,hi,by simp [Mem.put,hC.at_],Z0a.mono M _ _ hc,by simpa [Mem.put] using hlen,by simpa [Mem.put] using hf⟩
  ·rw [List.getElem?_set_ne (fun h=>hq h.symm)] at hL
   simp [Mem.put,hq] at hcap
   obtain⟨us',rest',elem',lo',hi',h1,h2,h3,h4⟩:=hW.rows _ _ _ _ hL hcap
   have hl:Own m L i:=.inl ⟨_,_,_,hL,hcap⟩
   refine⟨us',rest',elem',lo',hi',?_,Z0a.mono M _ _ h2,?_,?_⟩
   ·simp only [Mem.put,hq,if_false]; rw [hC.other _ (hgne i hl hq) (hW.blk_lt hl)]; exact h1
   ·simpa [Mem.put,hq] using h3
   ·simpa [Mem.put,hq] using h4
 ·by_cases hq:i=id
  ·simp [Mem.put,hq] at hcap; exact absurd hcap hc0
  ·rw [List.getElem?_set_ne (fun h=>hq h.symm)] at hL
   simp [Mem.put,hq] at hcap
   exact hW.nils _ _ _ _ hL hcap
 ·have hi:i≠id:=by intro h; subst h; simp [hlt] at hL
  rw [List.getElem?_set_ne (fun h=>hi h.symm)] at hL
  have hl:Own m L i:=.inr ⟨_,hL⟩
  simp only [Mem.put,hi,if_false]; rw [hC.other _ (hgne i hl hi) (hW.blk_lt hl)]; exact hW.iters _ _ hL
 ·rcases hlive i hi with ⟨h1,h2⟩ | ⟨h1,h2,h3⟩ <;> rcases hlive j hj with ⟨k1,k2⟩ | ⟨k1,k2,k3⟩
  ·omega
  ·exact absurd (by omega) (hgne j k2 k1)
  ·exact absurd (by omega) (hgne i h2 h1)
  ·exact hW.inj i j h2 k2 (by omega)
 ·rcases hlive i hl with ⟨h1,h2⟩ | ⟨h1,h2,h3⟩
  ·rw [h2]; exact hpin0
  ·rw [h3]; exact hW.freeo i h2
 ·refine hC.other g' ?_ hg'
  intro h; subst h
  rcases hg with ⟨hg,hcap⟩ | hg
  ·exact hne id (.inl ⟨_,_,_,h0,hcap⟩) hg.symm
  ·omega
 ·rcases hlive i hl with ⟨h1,h2⟩ | ⟨h1,h2,h3⟩
  ·rw [h2]
   rcases hg with ⟨hg,hcap⟩ | hg
   ·exact .inl ⟨by rw [h1]; exact .inl ⟨_,_,_,h0,hcap⟩,by rw [h1]; exact hg⟩
   ·exact .inr hg
  ·exact .inl ⟨h2,h3⟩
theorem Zg9(hW:Z0D m L w){id:Nat}{cs0:List AV}{sz ver:Nat}(h0:L[id]?=some (.row cs0 sz ver))(hcap:m.cap id=0)(g:Nat) :
  Z0D (m.put id g 0) (L.set id (.row [] sz (ver+1))) w∧Ext m L w (m.put id g 0) (L.set id (.row [] sz (ver+1))) w:=by
 have hlt:id<L.length:=(List.getElem?_eq_some_iff.1 h0).1
 have M:Z4D m L (m.put id g 0) (L.set id (.row [] sz (ver+1))):=Z8D h0 (.inr rfl)
 have hlive:∀i,Own (m.put id g 0) (L.set id (.row [] sz (ver+1))) i→i≠id∧Own m L i∧(m.put id g 0).blk i=m.blk i:=by
  intro i hi
  by_cases hii:i=id
  ·subst hii
   rcases hi with ⟨_,_,_,_,h⟩ | ⟨_,h⟩
   ·simp [Mem.put] at h
   ·simp [hlt] at h
  ·exact⟨hii,Zds hi hii,by simp [Mem.put,hii]⟩
 have hbs:∀i T e l,(L.set id (.row [] sz (ver+1)))[i]?=some (.raw (.bld T e l))→L[i]?=some (.raw (.bld T e l))∧(m.put id g 0).blk i=m.blk i∧(m.put id g 0).cap i=m.cap i:=by
  intro i T e l hL
  have hi:i≠id:=by intro h; subst h; simp [hlt] at hL
  rw [List.getElem?_set_ne (fun h=>hi h.symm)] at hL
  exact⟨hL,by simp [Mem.put,hi],by simp [Mem.put,hi]⟩
 have hHid:Z3H (m.put id g 0) (L.set id (.row [] sz (ver+1))) w:=by
  refine hW.hid.keep hbs (fun _ _ _ _ _ _=>rfl) (fun _ _ _=>rfl) (fun i g' k=>hW.hid.free i g' k) (fun i g' k j hj=>?_)
  obtain⟨h1,h2,h3⟩:=hlive j hj
  rw [h3]; exact hW.hid.own i g' k j h2
 refine⟨⟨hW.glob,hW.pobjs,fun i cs' sz' v hL hcap'=>?_,fun i cs' sz' v hL hcap'=>?_,fun i r hL=>?_,fun i j hi hj he=>?_,fun i hl=>?_,hHid⟩,⟨fun _ _ _ _=>rfl,Nat.le_refl _,fun _ _=>rfl,fun i hl=>?_,by simp,M,Z9b.refl w,fun i g' ⟨T,e,l,k1,k2⟩=>.inl ⟨T,e,l,(hbs _ _ _ _ k1).1,by rw [←(hbs _ _ _ _ k1).2.2]; exact k2⟩⟩⟩
 ·have hq:i≠id:=by intro h; simp [Mem.put,h] at hcap'
  rw [List.getElem?_set_ne (fun h=>hq h.symm)] at hL
  simp [Mem.put,hq] at hcap'
  obtain⟨us',rest',elem',lo',hi',h1,h2,h3,h4⟩:=hW.rows _ _ _ _ hL hcap'
  exact⟨us',rest',elem',lo',hi',by simpa [Mem.put,hq] using h1,Z0a.mono M _ _ h2,by simpa [Mem.put,hq] using h3,by simpa [Mem.put,hq] using h4⟩
 ·by_cases hq:i=id
  ·subst hq; simp [hlt] at hL; exact hL.1
  ·rw [List.getElem?_set_ne (fun h=>hq h.symm)] at hL
   simp [Mem.put,hq] at hcap'
   exact hW.nils _ _ _ _ hL hcap'
 ·have hi:i≠id:=by intro h; subst h; simp [hlt] at hL
  rw [List.getElem?_set_ne (fun h=>hi h.symm)] at hL
  simp only [Mem.put,hi,if_false]; exact hW.iters _ _ hL
 ·obtain⟨h1,h2,h3⟩:=hlive i hi
  obtain⟨k1,k2,k3⟩:=hlive j hj
  exact hW.inj i j h2 k2 (by omega)
 ·obtain⟨h1,h2,h3⟩:=hlive i hl
  rw [h3]; exact hW.freeo i h2
 ·obtain⟨h1,h2,h3⟩:=hlive i hl
  exact .inl ⟨h2,h3⟩
theorem Z47{w':World}(hW:Z0D m L w){id:Nat}{r r0:Raw}{ob:Obj}(h0:L[id]?=some (.raw r0))(hC:Chg w w' (m.blk id) ob)(hr:Z4s (m.blk id) r ob)(hnb:∀T e l,r≠.bld T e l:=by (intro _ _ _ h; cases h; done)) :
  Z0D m (L.set id (.raw r)) w'∧Ext m L w m (L.set id (.raw r)) w':=by
 have hlt:id<L.length:=(List.getElem?_eq_some_iff.1 h0).1
 have hlive0:Own m L id:=.inr ⟨_,h0⟩
 have M:Z4D m L m (L.set id (.raw r)):=by
  refine⟨fun _ _ h=>h,fun i cs' sz' v hL=>?_,fun i r' hL=>?_⟩
  ·have hi:i≠id:=by intro h; subst h; rw [h0] at hL; simp at hL
   exact⟨cs',v,by rw [List.getElem?_set_ne (fun h=>hi h.symm)]; exact hL,Nat.le_refl _,fun _=>⟨rfl,rfl,rfl⟩⟩
  ·by_cases hi:i=id
   ·subst hi; exact⟨r,by simp [hlt],rfl⟩
   ·exact⟨r',by rw [List.getElem?_set_ne (fun h=>hi h.symm)]; exact hL,rfl⟩
 have hlive:∀i,Own m (L.set id (.raw r)) i→Own m L i:=by
  intro i hi
  by_cases hii:i=id
  ·rw [hii]; exact hlive0
  ·unfold Own at *
   rwa [List.getElem?_set_ne (fun h=>hii h.symm)] at hi
 have hgne:∀i,Own m L i→i≠id→m.blk i≠m.blk id:=fun i hi hne he=>hne (hW.inj i id hi hlive0 he)
 have hbs:∀(i:Nat) T e l,(L.set id (Z0Q.raw r))[i]?=some (.raw (.bld T e l))→L[i]?=some (.raw (.bld T e l)):=by
  intro i T e l hL
  have hi:i≠id:=by
   intro h; subst h; simp [hlt] at hL; exact hnb _ _ _ hL
  rwa [List.getElem?_set_ne (fun h=>hi h.symm)] at hL
 have hHid:Z3H m (L.set id (.raw r)) w':=by
  refine hW.hid.keep (fun i T e l k=>⟨hbs i T e l k,rfl,rfl⟩) (fun i T e l k k'=>?_) (fun i g' k=>hC.other g' (fun e=>hW.hid.own i g' k id hlive0 e.symm) (hW.hid.lt k)) (fun i g' k=>hW.hid.free i g' k) (fun i g' k j hj=>hW.hid.own i g' k j (hlive j hj))
  have hi:i≠id:=by
   intro h; subst h; simp [hlt] at k'; exact hnb _ _ _ k'
  exact hC.other _ (hgne i (.inr ⟨_,k⟩) hi) (hW.blk_lt (.inr ⟨_,k⟩))
 refine⟨⟨hW.glob,fun g' o hpin=>?_,fun i cs' sz' v hL hcap=>?_,fun i cs' sz' v hL hcap=>?_,fun i r' hL=>?_,fun i j hi hj he=>hW.inj i j (hlive i hi) (hlive j hj) he,fun i hl=>hW.freeo i (hlive i hl),hHid⟩,⟨fun g' hg' hne _=>hC.other g' (fun h=>hne id hlive0 h.symm) hg',hC.size,fun _ _=>rfl,fun i hl=>.inl ⟨hlive i hl,rfl⟩,by simp,M,hC.same,fun i g' ⟨T,e,l,k1,k2⟩=>.inl ⟨T,e,l,hbs _ _ _ _ k1,k2⟩⟩⟩
 ·have hne:g'≠m.blk id:=by
   intro h; subst h
   rw [hW.freeo id hlive0] at hpin; cases hpin
  rw [hC.other g' hne (hW.pobj_lt hpin)]; exact hW.pobjs g' o hpin
 ·have hi:i≠id:=by intro h; subst h; simp [hlt] at hL
  rw [List.getElem?_set_ne (fun h=>hi h.symm)] at hL
  obtain⟨us',rest',elem',lo',hi',h1,h2,h3,h4⟩:=hW.rows _ _ _ _ hL hcap
  have hl:Own m L i:=.inl ⟨_,_,_,hL,hcap⟩
  exact⟨us',rest',elem',lo',hi',by rw [hC.other _ (hgne i hl hi) (hW.blk_lt hl)]; exact h1,Z0a.mono M _ _ h2,h3,h4⟩
 ·have hi:i≠id:=by intro h; subst h; simp [hlt] at hL
  rw [List.getElem?_set_ne (fun h=>hi h.symm)] at hL
  exact hW.nils _ _ _ _ hL hcap
 ·by_cases hi:i=id
  ·subst hi
   simp [hlt] at hL
   subst hL
   exact⟨ob,hC.at_,hr⟩
  ·rw [List.getElem?_set_ne (fun h=>hi h.symm)] at hL
   have hl:Own m L i:=.inr ⟨_,hL⟩
   rw [hC.other _ (hgne i hl hi) (hW.blk_lt hl)]; exact hW.iters _ _ hL
end
end Go.Eng
end
