/- Parts of the walk through directories. Conditions stand in each. -/
import Derived.Test.YtbnnhffkbcekcaaGreatDoorFc
import Derived.Below
import Derived.Still
import Derived.Laws.RangeAny
import Derived.ChangeArms
import Derived.DataReads
import Derived.WideShapes
import Derived.ChangeShapes
import Derived.OpenShut
import Derived.RowKit
import Derived.Carry
import Derived.ChangeOld
set_option linter.unusedVariables false
set_option linter.unusedSimpArgs false
section
namespace Go.Eng
open Go Go.RowKit
def ZkF(P:Program)(fr:List AV)(L:Z01):ResultVar→Rz
 | .tmp t=>⟨(fr.getD t .any).cond=true,(fr.getD t .any).bare,L⟩
 | .cell a t=>(Z8H P true L t (fr.getD a .any).bare).also ((fr.getD a .any).cond=true)
def Z3i(P:Program)(fr:List AV)(L:Z01):List ResultVar→Prop×List AV
 | []=>(True,[])
 | r::rs=>((ZkF P fr L r).pre∧(Z3i P fr L rs).1,(ZkF P fr L r).v::(Z3i P fr L rs).2)
def Zkg:List AV→AV
 | [x]=>x
 | xs=>.tup xs
def Z4X(xs:List AV)(n:Nat):List AV:=xs++List.replicate (n - xs.length) .any
def ZhK(P:Program)(rs:List ResultVar)(L0:Z01)(res:AV)(L':Z01)(fr:List AV)(L:Z01):Prop:=
 (Z3i P fr L rs).1∧Z0q L0 [Zkg (Z3i P fr L rs).2] L ([res],L')
def Z08(P:Program)(Γ:Env)(fn:Func)(xs:List AV)(L:Z01)(res:AV)(L':Z01):Prop:=
 ∀X:Cx,X.P=P→X.Γ=Γ→X.B.L=L→(X.fin=ZhK P fn.results.toList L res L'∧X.finR=X.fin∧X.R=none)→∃c,fn.body=some c∧Z02 X [.code c] (Z4X xs fn.ntmps) L
section
variable {P:Program} {Γ:Env}
theorem Z5x{m:Mem}{L:Z01}{w:World}(hW:Z0D m L w){fr:List AV}{tmps:Array Value}(h:Z0a m L fr tmps.toList):∀(rs:List ResultVar),(Z3i P fr L rs).1→
  ∃vs:List Value,(rs.mapM (m:=Sem) fun | .tmp t=>pure (tmps.getD t undef) | .cell a t=>do loadVar t (←asAddr (tmps.getD a undef))).run P w=.ok vs w∧Z0a m L (Z3i P fr L rs).2 vs
 | [],_=>⟨[],by simp,by simp [Z3i,Z0a]⟩
 | r::rs,hp=>by
  obtain⟨h1,h2⟩:=hp
  obtain⟨vs,hr,hc⟩:=Z5x hW h rs h2
  have hD:∀t,Z03 m L (fr.getD t .any) (tmps.getD t undef):=fun t=>by
   have:=h.getD t
   simpa [Array.getD_eq_getD_getElem?,List.getD_eq_getElem?_getD] using this
  cases r with
  | tmp t=>
   refine⟨tmps.getD t undef::vs,?_,?_⟩
   ·simp only [List.mapM_cons,Sem.run_bind,Sem.run_pure,Result.andThen_ok,hr]
   ·simp only [Z3i,ZkF]; exact Z0a.cons (Z3G (hD t) h1) hc
  | cell a t=>
   obtain⟨hcd,hl⟩:=h1
   have hb:=Z3G (hD a) hcd
   have hstep:∃v,(do loadVar t (←asAddr (tmps.getD a undef)):Sem Value).run P w=.ok v w∧Z03 m L (Z8H P true L t (fr.getD a .any).bare).v v:=by
    generalize hx:(fr.getD a .any).bare=X at *
    cases X <;> try exact hl.elim
    case ref id ver off=>
     obtain⟨hf,hle,ho⟩:=hl rfl
     obtain⟨cs,sz,hL,e1,e2⟩:=Z0H hf
     have hu:=Z3u hb hf
     obtain⟨us,hc',hcell,_⟩:=Z1E hW hL
     rw [e1] at ho hle
     obtain⟨q,hq,hv⟩:=Z2v (P:=P) (w:=w) (t:=t) (g:=m.blk id) (o:=off) (hc'.drop off) (fun j v hj=>by rw [List.getElem?_drop] at hj; exact hcell _ _ hj) (by simpa using ho)
     refine⟨q,by simp [hu,asAddr,hq],?_⟩
     simp only [Z8H,e1]; exact hv
    case ip cs=>
     simp only [Z03] at hb
     obtain⟨us,g,o,hu,hc',hpin⟩:=hb
     obtain⟨q,hq,hv⟩:=Z2v (P:=P) (w:=w) (t:=t) (g:=g) (o:=o) hc' (fun j v hj=>hW.pins _ _ _ (hpin j v hj)) (hl rfl)
     exact⟨q,by simp [hu,asAddr,hq],hv⟩
   obtain⟨v,hv1,hv2⟩:=hstep
   refine⟨v::vs,?_,?_⟩
   ·rw [List.mapM_cons,Sem.run_bind]
    erw [hv1]
    simp only [Result.andThen_ok,Sem.run_bind]
    erw [hr]
    rfl
   ·simp only [Z3i,ZkF,Rz.also]; exact Z0a.cons hv2 hc
theorem Z4O{m:Mem}{L:Z01}{w:World}(hW:Z0D m L w){fr:List AV}{tmps:Array Value}(h:Z0a m L fr tmps.toList)(fn:Func)(hp:(Z3i P fr L fn.results.toList).1) :
  ∃v,(results fn tmps).run P w=.ok v w∧Z03 m L (Zkg (Z3i P fr L fn.results.toList).2) v:=by
 obtain⟨vs,hr,hc⟩:=Z5x (P:=P) hW h fn.results.toList hp
 have hm:(fn.results.mapM (m:=Sem) fun | .tmp t=>pure (tmps.getD t undef) | .cell a t=>do loadVar t (←asAddr (tmps.getD a undef))).run P w=.ok vs.toArray w:=by
  rw [Array.mapM_eq_mapM_toList,Sem.run_map]
  erw [hr]
  rfl
 have hl:=hc.length
 unfold results
 simp only [Sem.run_bind]
 erw [hm]
 simp only [Result.andThen_ok,Sem.run_pure]
 refine⟨_,rfl,?_⟩
 match hx:(Z3i P fr L fn.results.toList).2,vs,hc,hl with
 | [x],[v],hc,_=>
  simp only [Z0a] at hc
  obtain⟨u,us',he,h1,_⟩:=hc
  cases he
  simpa [Zkg] using h1
 | [],[],hc,_=>simp only [Zkg,Z03]; exact⟨[],by simp,hc⟩
 | x::y::r,v::v'::r',hc,_=>simp only [Zkg,Z03]; exact⟨v::v'::r',by simp,hc⟩
 | [x],[],_,hl=>simp at hl
 | [x],_::_::_,_,hl=>simp at hl
 | [],_::_,_,hl=>simp at hl
 | _::_::_,[],_,hl=>simp at hl
 | _::_::_,[_],_,hl=>simp at hl
def ZfW(m:Mem)(L:Z01)(w:World)(res:AV)(L':Z01)(e:Ending)(w':World):Prop:=
 ∃v m',e=.returned v∧Z03 m' L' res v∧Z0D m' L' w'∧Ext m L w m' L' w'
theorem Z69(w:World)(D:Nat)(o:Obj):∀g,g≠D→(w.putObj D o).heap[g]?=w.heap[g]?:=fun g h=>World.putObj_heap_other h
theorem Z6l(fn:Func){m:Mem}{L:Z01}{w:World}{m₁:Mem}{L₁:Z01}{tmps:Array Value}{R:Ending→World→Prop}
  (hK:∀w₁,Z0D m₁ L₁ w₁→Ext m L w m₁ L₁ w₁→∃v,(results fn tmps).run P w₁=.ok v w₁∧R (.returned v) w₁) :
  ∀(ds:List Deferred) (w₁:World),Z0D m₁ L₁ w₁→Ext m L w m₁ L₁ w₁→Z43 w.heap.size m₁ L₁ w₁ ds→LeavesInM Fence.wide 0 P fn tmps R ds .returning w₁
 | [],w₁,hW,hE,_=>hK w₁ hW hE
 | d::ds,w₁,hW,hE,hM=>by
  obtain⟨D,rfl,h1,h2,h3,h4⟩:=hM.each _ (List.mem_cons_self ..)
  have hn:=List.nodup_cons.1 hM.nodup
  refine⟨by simp,.inl ⟨D,_,rfl,run_takeDeferred h3,Z6l fn hK ds _ (hW.foreign h4 (Z69 w₁ D _)) ?_ ⟨fun d hd=>?_,hn.2⟩⟩⟩
  ·exact⟨fun g hg ho hh=>by rw [Z69 w₁ D _ g (by omega)]; exact hE.frame g hg ho hh,by simpa using hE.size,hE.newobj,hE.blks,hE.len,hE.mono,hE.same.trans ⟨rfl,rfl,rfl⟩,hE.hnew⟩
  ·obtain⟨D',rfl,k1,k2,k3,k4⟩:=hM.each d (List.mem_cons_of_mem _ hd)
   have hne:D'≠D:=by rintro rfl; exact hn.1 hd
   exact⟨D',rfl,k1,by simpa using k2,by rw [Z69 w₁ D _ D' hne]; exact k3,k4⟩
theorem Z3F(hΓ:Z07 P Γ){f:FuncId}{fn:Func}(hf:P.funcs[f]?=some fn){xs:List AV}{L:Z01}{res:AV}{L':Z01}(hb:Z08 P Γ fn xs L res L')
  {m:Mem} {w:World} {vs:List Value} (hW:Z0D m L w) (hx:Z0a m L xs vs):Calls P f vs.toArray w (ZfW m L w res L'):=by
 have hend:∀fr L₁ m₁ (a₁:Act) w₁,ZhK P fn.results.toList L res L' fr L₁→Z0D m₁ L₁ w₁→Z0a m₁ L₁ fr a₁.tmps.toList→Ext m L w m₁ L₁ w₁→Z43 w.heap.size m₁ L₁ w₁ a₁.defers→LeavesInM Fence.wide 0 P fn a₁.tmps (ZfW m L w res L') a₁.defers .returning w₁:=by
  intro fr L₁ m₁ a₁ w₁ hfin hW1 hF1 hE1 hM1
  obtain⟨h1,hi⟩:=hfin
  exact Z6l (P:=P) fn (R:=ZfW m L w res L') (tmps:=a₁.tmps) (m:=m) (L:=L) (w:=w) (m₁:=m₁) (L₁:=L₁) (fun w₂ hW2 hE2=>by
   obtain⟨v,hv,hvr⟩:=Z4O (P:=P) hW2 hF1 fn h1
   obtain⟨m',k1,k2,k3⟩:=hi.sound hW2 (Z0a.cons hvr (Z0a.nil _ _)) hE2
   simp only [Z0a] at k2
   obtain⟨u,us',he,h2,_⟩:=k2
   cases he
   exact⟨v,hv,v,m',rfl,h2,k1,k3⟩) a₁.defers w₁ hW1 hE1 hM1
 obtain⟨c,hc,hH⟩:=hb
  {P,Γ,ok:=hΓ,B:=⟨m,L,w,[]⟩,Q:=bodyPostM Fence.wide 0 P fn (ZfW m L w res L'),fin:=ZhK P fn.results.toList L res L',n0:=w.heap.size,hn0:=Nat.le_refl _,hD:=Z43.nil
   hfin:=hend,finR:=ZhK P fn.results.toList L res L',hfinR:=hend
   ng:=fun _ _ _ h=>h }
  rfl rfl rfl ⟨rfl,rfl,rfl⟩
 refine (callsIn_wide (n:=0)).1 (callsIn_of_wp_marks hf hc trivial ?_)
 have hR:RS ⟨m,L,w,[]⟩ (Z4X xs fn.ntmps) L m { tmps:=vs.toArray++Array.replicate (fn.ntmps - vs.toArray.size) undef,defers:=[] } w:=by
  refine⟨hW,?_,Ext.refl,rfl⟩
  have hl:=hx.length
  have e:(vs.toArray++Array.replicate (fn.ntmps - vs.toArray.size) undef).toList=vs++List.replicate (fn.ntmps - xs.length) undef:=by simp [hl]
  simp only [Z4X,e]
  refine hx.append (Z0a.mk (by simp) fun i c u hc _=>?_)
  have:c=.any:=by
   have:=List.mem_of_getElem? hc
   exact (List.mem_replicate.1 this).2
  subst this
  simp [Z03]
 have:=hH m _ w hR
 simp only [W] at this
 exact Go.wpIn_mono this fun e a w q=>by simpa [W] using q
mutual
def Z27:AV→Bool
 | .agg xs=>Z0S xs
 | .tup xs=>Z0S xs
 | .ifc _ x=>Z27 x
 | .fn _ a b=>Z0S a && Z0S b
 | .sl ..=>false
 | .ip _=>false
 | .when ..=>false
 | .alt ..=>false
 | .mpr ..=>false
 | _=>true
def Z0S:List AV→Bool
 | []=>true
 | x::xs=>Z27 x && Z0S xs
end
def Z3v(x:AV):Bool:=Z27 x
def Z4a:Z0Q→Bool
 | .row cs _ _=>Z0S cs
 | _=>true
def Z0X(L:Z01)(keep:Nat→Bool)(sub:AV→AV):AV→AV
 | .msl id ver off n=>cond (keep id) (.msl id ver off n) (.sl ((((Z0L L id).drop (off*Z1K L id)).take (n*Z1K L id)).map sub) n)
 | .csl id ver off n=>cond (keep id) (.csl id ver off n) (.sl ((((Z0L L id).drop (off*Z1K L id)).take (n*Z1K L id)).map sub) n)
 | .ref id ver off=>cond (keep id || !isRow L id) (.ref id ver off) (.ip (((Z0L L id).drop off).map sub))
 | .mp id=>cond (keep id) (.mp id) (match L[id]? with | some (.raw (.map kd f))=>.mpr kd f | _=>.mp id)
 | .agg cs=>.agg (cs.map sub)
 | .ifc t x=>.ifc t (sub x)
 | .fn f a b=>.fn f (a.map sub) (b.map sub)
 | x=>x
def Z1n(L:Z01)(keep:Nat→Bool)(sub:AV→Prop):AV→Prop
 | .msl id ver off n=>cond (keep id) True (Z14 L id ver∧∀x∈((Z0L L id).drop (off*Z1K L id)).take (n*Z1K L id),sub x)
 | .csl id ver off n=>cond (keep id) True (Z14 L id ver∧∀x∈((Z0L L id).drop (off*Z1K L id)).take (n*Z1K L id),sub x)
 | .ref id ver off=>cond (keep id || !isRow L id) True (Z14 L id ver∧∀x∈(Z0L L id).drop off,sub x)
 | .agg cs=>∀x∈cs,sub x
 | .ifc _ x=>sub x
 | .fn _ a b=>(∀x∈a,sub x)∧∀x∈b,sub x
 | _=>True
def Z40(L:Z01)(keep:Nat→Bool)(sub:AV→Bool):AV→Bool
 | .msl id _ _ _=>!keep id
 | .csl id _ _ _=>!keep id
 | .ref id _ _=>!(keep id || !isRow L id)
 | .mp id=>!keep id
 | .agg cs=>cs.any sub
 | .ifc _ x=>sub x
 | .fn _ a b=>a.any sub || b.any sub
 | _=>false
def Z7j(x:AV):AV:=x
def ZdS(_:AV):Prop:=True
def Zmd(_:AV):Bool:=false
def d1(L:Z01)(keep:Nat→Bool):AV→AV:=Z0X L keep Z7j
def d2(L:Z01)(keep:Nat→Bool):AV→AV:=Z0X L keep (d1 L keep)
def d3(L:Z01)(keep:Nat→Bool):AV→AV:=Z0X L keep (d2 L keep)
def l1(L:Z01)(keep:Nat→Bool):AV→Prop:=Z1n L keep ZdS
def l2(L:Z01)(keep:Nat→Bool):AV→Prop:=Z1n L keep (l1 L keep)
def l3(L:Z01)(keep:Nat→Bool):AV→Prop:=Z1n L keep (l2 L keep)
def b1(L:Z01)(keep:Nat→Bool):AV→Bool:=Z40 L keep Zmd
def b2(L:Z01)(keep:Nat→Bool):AV→Bool:=Z40 L keep (b1 L keep)
def b3(L:Z01)(keep:Nat→Bool):AV→Bool:=Z40 L keep (b2 L keep)
def keep0(_:Nat):Bool:=false
def Z56(L:Z01):AV→AV:=Z0X L keep0 (d3 L keep0)
def lent(L:Z01):AV→Prop:=Z1n L keep0 (l3 L keep0)
def Z9S(L:Z01):AV→Bool:=Z40 L keep0 (b3 L keep0)
def Z6k(lpre:List AV→Prop)(lres:List AV→AV)(lnew:List AV→Z01)(q:Bool):Z0n where
 pre xs L:=(∀x∈xs,lent L x)∧Z1z 0 (xs.map (Z56 L))=true∧lpre (xs.map (Z56 L))∧
  (xs.any (Z9S L)=true→Z3v (lres (xs.map (Z56 L)))=true∧(lnew (xs.map (Z56 L))).all Z4a=true)
 res xs L:=ren (·+L.length) (lres (xs.map (Z56 L)))
 post xs L:=L++(lnew (xs.map (Z56 L))).map (Z1m (·+L.length))
 quiet:=q
mutual
theorem Z4v{m m':Mem}{L:Z01}(h1:m'.blk=m.blk)(h2:m'.cap=m.cap):∀(x:AV) (u:Value),Z27 x=true→Z03 m L x u→Z03 m' L x u
 | .agg xs,u,hp,h=>by
  simp only [Z03] at *; obtain⟨us,rfl,hc⟩:=h; exact⟨us,rfl,Z1w h1 h2 xs us hp hc⟩
 | .tup xs,u,hp,h=>by
  simp only [Z03] at *; obtain⟨us,rfl,hc⟩:=h; exact⟨us,rfl,Z1w h1 h2 xs us hp hc⟩
 | .ifc t x,u,hp,h=>by
  simp only [Z03] at *; obtain⟨v,rfl,h⟩:=h; exact⟨v,rfl,Z4v h1 h2 x v hp h⟩
 | .fn f a b,u,hp,h=>by
  simp only [Z03,Z27,Bool.and_eq_true] at *
  obtain⟨us,vs,rfl,k1,k2⟩:=h
  exact⟨us,vs,rfl,Z1w h1 h2 a us hp.1 k1,Z1w h1 h2 b vs hp.2 k2⟩
 | .sl ..,_,hp,_=>by simp [Z27] at hp
 | .ip _,_,hp,_=>by simp [Z27] at hp
 | .when ..,_,hp,_=>by simp [Z27] at hp
 | .alt ..,_,hp,_=>by simp [Z27] at hp
 | .mpr ..,_,hp,_=>by simp [Z27] at hp
 | .any,_,_,_=>by simp [Z03]
 | .int ..,_,_,h=>by simpa only [Z03] using h
 | .bool _,_,_,h=>by simpa only [Z03] using h
 | .str _,_,_,h=>by simpa only [Z03] using h
 | .lit _,_,_,h=>by simpa only [Z03] using h
 | .ub ..,_,_,h=>by simpa only [Z03] using h
 | .msl ..,_,_,h=>by simpa only [Z03,h1,h2] using h
 | .csl ..,_,_,h=>by simpa only [Z03,h1,h2] using h
 | .ref ..,_,_,h=>by simpa only [Z03,h1,h2] using h
 | .mp _,_,_,h=>by simpa only [Z03,h1,h2] using h
theorem Z1w{m m':Mem}{L:Z01}(h1:m'.blk=m.blk)(h2:m'.cap=m.cap):∀(xs:List AV) (us:List Value),Z0S xs=true→Z0a m L xs us→Z0a m' L xs us
 | [],us,_,h=>h
 | x::xs,us,hp,h=>by
  simp only [Z0S,Bool.and_eq_true] at hp
  simp only [Z0a] at *
  obtain⟨u,us',rfl,h3,h4⟩:=h
  exact⟨u,us',rfl,Z4v h1 h2 x u hp.1 h3,Z1w h1 h2 xs us' hp.2 h4⟩
end
theorem Z5y{m m':Mem}{L:Z01}(h1:m'.blk=m.blk)(h2:m'.cap=m.cap){x:AV}{u:Value}(hp:Z3v x=true)(h:Z03 m L x u):Z03 m' L x u:=Z4v h1 h2 x u hp h
def ZbW(m mb:Mem)(L:Z01)(full:Prop)(sub:AV→AV)(sl:AV→Prop)(sb:AV→Bool):Prop:=
 ∀x u,Z03 m L x u→sl x→(sb x=true→full)→Z03 mb L (sub x) u
theorem ZbW.list{m mb:Mem}{L:Z01}{full:Prop}{sub:AV→AV}{sl:AV→Prop}{sb:AV→Bool}(H:ZbW m mb L full sub sl sb):∀{xs:List AV} {us:List Value},Z0a m L xs us→(∀x∈xs,sl x)→(xs.any sb=true→full)→Z0a mb L (xs.map sub) us
 | [],us,h,_,_=>by simpa [Z0a] using h
 | x::xs,us,h,hl,hf=>by
  simp only [Z0a,List.map_cons,List.any_cons,Bool.or_eq_true] at *
  obtain⟨u,us',rfl,h1,h2⟩:=h
  exact⟨u,us',rfl,H x u h1 (hl x (by simp)) (fun h=>hf (.inl h)),H.list h2 (fun y hy=>hl y (by simp [hy])) (fun h=>hf (.inr h))⟩
theorem sub0{m mb:Mem}{L:Z01}{full:Prop}(M:Z4D m L mb L):ZbW m mb L full Z7j ZdS Zmd:=fun x u h _ _=>Z03.mono M x u h
theorem Zmv{m mb:Mem}{L:Z01}{w:World}(hW:Z0D m L w)(M:Z4D m L mb L){keep:Nat→Bool}{full:Prop}{sub:AV→AV}{sl:AV→Prop}{sb:AV→Bool}
    (hobj:full→∀g,(∀i,keep i=true→Own m L i→m.blk i≠g)→(∀i,keep i=true→¬Hid m L i g)→mb.pobj g=w.heap[g]?)
    (H:ZbW m mb L full sub sl sb):ZbW m mb L full (Z0X L keep sub) (Z1n L keep sl) (Z40 L keep sb):=by
  have row:∀{id ver},Z14 L id ver→keep id=false→full→∃us,Z0a m L (Z0L L id) us∧∀j v,us[j]?=some v→mb.pin (m.blk id) j=some v:=by
    intro id ver hf hk hfull
    obtain⟨cs,sz,hL,hr,hsz⟩:=Z0H hf
    obtain⟨us,hc,hcl,_⟩:=Z1E hW hL
    refine⟨us,by rw [hr]; exact hc,fun j v hj=>?_⟩
    have hcap:m.cap id≠0:=by
      intro h0
      have:=hW.nils _ _ _ _ hL h0
      subst this
      simp only [Z0a] at hc
      subst hc
      simp at hj
    refine Mem.pin_heap (hobj hfull _ (fun i hi ho he=>?_) (fun i hi hk'=>hW.hid.own i _ hk' id (.inl ⟨_,_,_,hL,hcap⟩) rfl)) (hcl _ _ hj)
    have:=hW.inj i id ho (.inl ⟨_,_,_,hL,hcap⟩) he
    subst this
    rw [hk] at hi; cases hi
  have slice:∀{id ver off n:Nat} {a:Option Addr} {c:Nat},Z14 L id ver→keep id=false→full→n≤c→(∀x∈((Z0L L id).drop (off*Z1K L id)).take (n*Z1K L id),sl x)→(n=0∨a=some ⟨m.blk id,off*Z1K L id,none⟩)→
      Z03 mb L (.sl ((((Z0L L id).drop (off*Z1K L id)).take (n*Z1K L id)).map sub) n) (.slice a n c):=by
    intro id ver off n a c hf hk hfull hle hl ha
    obtain⟨us,hc,hp⟩:=row hf hk hfull
    simp only [Z03]
    refine⟨a,c,rfl,hle,(us.drop (off*Z1K L id)).take (n*Z1K L id),H.list ((hc.drop _).take _) hl (fun _=>hfull),?_⟩
    rcases ha with ha | ha
    · left; simp [ha]
    · refine .inr ⟨m.blk id,off*Z1K L id,ha,fun i v hi=>hp _ _ ?_⟩
      rw [List.getElem?_take,List.getElem?_drop] at hi
      split at hi
      · exact hi
      · cases hi
  intro x u h hl hb
  cases x <;> simp only [Z0X,Z1n,Z40] at hl hb ⊢ <;> try exact Z03.mono M _ u h
  case agg cs=>
    simp only [Z03] at *
    obtain⟨us,rfl,hc⟩:=h
    exact⟨us,rfl,H.list hc hl hb⟩
  case ifc t x=>
    simp only [Z03] at *
    obtain⟨v,rfl,h⟩:=h
    exact⟨v,rfl,H x v h hl hb⟩
  case fn f a b=>
    simp only [Z03,Bool.or_eq_true] at *
    obtain⟨us,vs,rfl,h1,h2⟩:=h
    exact⟨us,vs,rfl,H.list h1 hl.1 (fun h=>hb (.inl h)),H.list h2 hl.2 (fun h=>hb (.inr h))⟩
  case msl id ver off n=>
    cases hk:keep id
    · simp only [hk,cond_false,Bool.not_false,forall_const] at hl hb ⊢
      obtain⟨k1,k2,a,rfl,ha⟩:=Z0N h hl.1
      exact slice hl.1 hk hb (by omega) hl.2 (by rcases ha with ha | ha; · left; omega
                                                 · exact .inr ha)
    · simp only [hk,cond_true]; exact Z03.mono M _ u h
  case csl id ver off n=>
    cases hk:keep id
    · simp only [hk,cond_false,Bool.not_false,forall_const] at hl hb ⊢
      obtain⟨k1,k2,a,rfl,ha⟩:=Z3Y h hl.1
      exact slice hl.1 hk hb (Nat.le_refl _) hl.2 ha
    · simp only [hk,cond_true]; exact Z03.mono M _ u h
  case ref id ver off=>
    cases hk:keep id || !isRow L id
    · simp only [hk,cond_false,Bool.not_false,forall_const] at hl hb ⊢
      have hk':keep id=false:=by simp at hk; exact hk.1
      have hu:=Z3u h hl.1
      obtain⟨us,hc,hp⟩:=row hl.1 hk' hb
      simp only [Z03]
      exact⟨us.drop off,m.blk id,off,hu,H.list (hc.drop off) hl.2 (fun _=>hb),fun i v hi=>hp _ _ (by rw [List.getElem?_drop] at hi; exact hi)⟩
    · simp only [hk,cond_true]; exact Z03.mono M _ u h
  case mp id=>
    cases hk:keep id
    · simp only [hk,cond_false,Bool.not_false,forall_const] at hb ⊢
      split
      · rename_i kd f hL
        simp only [Z03] at h ⊢
        obtain⟨r,hL',hu⟩:=h
        obtain⟨o,hbb,hr⟩:=hW.iters _ _ hL
        simp only [Z4s] at hr
        obtain⟨es,clock,rfl,hM⟩:=hr
        refine⟨m.blk id,es,clock,hu,?_,hM⟩
        rw [hobj hb,hbb]
        · intro i hi ho he
          have:=hW.inj i id ho (.inr ⟨_,hL⟩) he
          subst this
          rw [hk] at hi; cases hi
        · exact fun i hi hk'=>hW.hid.own i _ hk' id (.inr ⟨_,hL⟩) rfl
      · exact Z03.mono M _ u h
    · simp only [hk,cond_true]; exact Z03.mono M _ u h
theorem Zmw{m mb:Mem}{L:Z01}{w:World}(hW:Z0D m L w)(M:Z4D m L mb L){keep:Nat→Bool}{full:Prop}
  (hobj:full→∀g,(∀i,keep i=true→Own m L i→m.blk i≠g)→(∀i,keep i=true→¬Hid m L i g)→mb.pobj g=w.heap[g]?) :
  ZbW m mb L full (Z0X L keep (d3 L keep)) (Z1n L keep (l3 L keep)) (Z40 L keep (b3 L keep)):=
 Zmv hW M hobj (Zmv hW M hobj (Zmv hW M hobj (Zmv hW M hobj (sub0 M))))
structure Laid(m':Mem)(L':Z01)(ρ:Nat→Nat)(m2:Mem)(L2:Z01):Prop where
 pobj:∀g o,m'.pobj g=some o→m2.pobj g=some o
 obj:∀id o,L'[id]?=some o→L2[ρ id]?=some (Z1m ρ o)∧m2.blk (ρ id)=m'.blk id∧m2.cap (ρ id)=m'.cap id
theorem Laid.pin{m:Mem}{L:Z01}{ρ:Nat→Nat}{m':Mem}{L':Z01}(H:Laid m L ρ m' L')(g o:Nat)(v:Value)(h:m.pin g o=some v):m'.pin g o=some v:=by
 obtain⟨c,e,f,h1,h2⟩:=Mem.pin_some h
 exact Mem.pin_of (H.pobj _ _ h1) h2
mutual
theorem Z03.laid{m:Mem}{L:Z01}{ρ:Nat→Nat}{m':Mem}{L':Z01}(H:Laid m L ρ m' L'):∀(x:AV) (u:Value),Z03 m L x u→Z03 m' L' (ren ρ x) u
 | .any,_,_=>by simp [Z03,ren]
 | .int ..,_,h=>by simpa [Z03,ren] using h
 | .bool _,_,h=>by simpa [Z03,ren] using h
 | .str _,_,h=>by simpa [Z03,ren] using h
 | .lit _,_,h=>by simpa [Z03,ren] using h
 | .agg cs,u,h=>by
  simp only [Z03,ren] at *
  obtain⟨us,rfl,hc⟩:=h
  exact⟨us,rfl,Z0a.laid H cs us hc⟩
 | .tup cs,u,h=>by
  simp only [Z03,ren] at *
  obtain⟨us,rfl,hc⟩:=h
  exact⟨us,rfl,Z0a.laid H cs us hc⟩
 | .sl cs len,u,h=>by
  simp only [Z03,ren] at *
  obtain⟨a,cap,rfl,hl,us,hc,hp⟩:=h
  refine⟨a,cap,rfl,hl,us,Z0a.laid H cs us hc,?_⟩
  rcases hp with hp | ⟨g,o,ha,hp⟩
  ·exact .inl hp
  ·exact .inr ⟨g,o,ha,fun i v hv=>H.pin _ _ _ (hp i v hv)⟩
 | .msl id ver off len,u,h=>by
  simp only [Z03,ren] at *
  obtain⟨cs,sz,v,hL,hv,hsh,h⟩:=h
  obtain⟨h1,h2,h3⟩:=H.obj id _ hL
  refine⟨renL ρ cs,sz,v,h1,hv,hsh,fun e=>?_⟩
  rw [h2,h3,Z2m,List.length_map]
  exact h e
 | .ref id ver off,u,h=>by
  simp only [Z03,ren] at *
  rcases h with ⟨cs,sz,v,hL,hv,hsh,h⟩ | ⟨r,hL,h⟩
  ·obtain⟨h1,h2,h3⟩:=H.obj id _ hL
   exact .inl ⟨renL ρ cs,sz,v,h1,hv,hsh,fun e=>by rw [h2]; exact h e⟩
  ·obtain⟨h1,h2,h3⟩:=H.obj id _ hL
   exact .inr ⟨r,h1,by rw [h2]; exact h⟩
 | .ip cs,u,h=>by
  simp only [Z03,ren] at *
  obtain⟨us,g,o,rfl,hc,hp⟩:=h
  exact⟨us,g,o,rfl,Z0a.laid H cs us hc,fun i v hv=>H.pin _ _ _ (hp i v hv)⟩
 | .fn f first captured,u,h=>by
  simp only [Z03,ren] at *
  obtain⟨us,vs,rfl,h1,h2⟩:=h
  exact⟨us,vs,rfl,Z0a.laid H first us h1,Z0a.laid H captured vs h2⟩
 | .ifc t x,u,h=>by
  simp only [Z03,ren] at *
  obtain⟨v,rfl,h⟩:=h
  exact⟨v,rfl,Z03.laid H x v h⟩
 | .when c x,u,h=>by
  simp only [Z03,ren] at *
  exact⟨fun hc=>Z03.laid H x u (h.1 hc),h.2⟩
 | .alt c x y,u,h=>by
  simp only [Z03,ren] at *
  exact⟨fun hc=>Z03.laid H x u (h.1 hc),fun hc=>Z03.laid H y u (h.2 hc)⟩
 | .ub ..,_,h=>by simpa only [Z03,ren] using h
 | .csl id ver off len,u,h=>by
  simp only [Z03,ren] at *
  obtain⟨cs,sz,v,hL,hv,hsh,h⟩:=h
  obtain⟨h1,h2,h3⟩:=H.obj id _ hL
  refine⟨renL ρ cs,sz,v,h1,hv,hsh,fun e=>?_⟩
  rw [h2,h3,Z2m,List.length_map]
  exact h e
 | .mp id,u,h=>by
  simp only [Z03,ren] at *
  obtain⟨r,hL,h⟩:=h
  obtain⟨h1,h2,h3⟩:=H.obj id _ hL
  exact⟨r,h1,by rw [h2]; exact h⟩
 | .mpr kd f,u,h=>by
  simp only [Z03,ren] at *
  obtain⟨g,es,clock,hu,hp,hM⟩:=h
  exact⟨g,es,clock,hu,H.pobj _ _ hp,hM⟩
theorem Z0a.laid{m:Mem}{L:Z01}{ρ:Nat→Nat}{m':Mem}{L':Z01}(H:Laid m L ρ m' L'):∀(cs:List AV) (us:List Value),Z0a m L cs us→Z0a m' L' (renL ρ cs) us
 | [],_,h=>by simpa [Z0a,renL] using h
 | c::cs,us,h=>by
  simp only [Z0a,renL] at *
  obtain⟨u,us',rfl,h1,h2⟩:=h
  exact⟨u,us',rfl,Z03.laid H c u h1,Z0a.laid H cs us' h2⟩
end
theorem Z4x{m:Mem}{id:Nat}:¬Own m [] id:=by
 rintro (⟨_,_,_,h,_⟩ | ⟨_,h⟩) <;> simp at h
theorem Z9X{m:Mem}{id g:Nat}:¬Hid m [] id g:=by
 rintro⟨_,_,_,h,_⟩; simp at h
set_option maxHeartbeats 1000000 in
theorem Zdp{m mb:Mem}{L:Z01}{w:World}(hW:Z0D m L w)(borrowed:Bool)(hb:borrowed=false→mb=m){res:AV}{N:Z01}{e:Ending}{w':World}(h:ZfW mb [] w res N e w')
  (hfree:borrowed=true→Z3v res=true∧N.all Z4a=true):ZfW m L w (ren (·+L.length) res) (L++N.map (Z1m (·+L.length))) e w':=by
 obtain⟨v,m',rfl,hv,hW',hE⟩:=h
 have hold:∀g,g<w.heap.size→w'.heap[g]?=w.heap[g]?:=fun g hg=>hE.frame g hg (fun id ho=>absurd ho Z4x) (fun id=>Z9X)
 obtain⟨m2,hm2⟩:∃m2:Mem,m2={ pobj:=fun g=>if g<w.heap.size then m.pobj g else m'.pobj g,blk:=fun i=>if i<L.length then m.blk i else m'.blk (i - L.length),cap:=fun i=>if i<L.length then m.cap i else m'.cap (i - L.length) }:=⟨_,rfl⟩
 have hpin2:∀g,m2.pobj g=if g<w.heap.size then m.pobj g else m'.pobj g:=fun g=>by rw [hm2]
 have hblk1:∀i,i<L.length→m2.blk i=m.blk i:=fun i hi=>by rw [hm2]; simp [hi]
 have hcap1:∀i,i<L.length→m2.cap i=m.cap i:=fun i hi=>by rw [hm2]; simp [hi]
 have hblk2:∀i,m2.blk (i+L.length)=m'.blk i:=fun i=>by rw [hm2]; simp [show ¬i+L.length<L.length by omega]
 have hcap2:∀i,m2.cap (i+L.length)=m'.cap i:=fun i=>by rw [hm2]; simp [show ¬i+L.length<L.length by omega]
 obtain⟨m3,hm3⟩:∃m3:Mem,m3={ m' with pobj:=m2.pobj }:=⟨_,rfl⟩
 have heq:borrowed=false→m3=m':=by
  intro hbf
  have hmb:=hb hbf
  rw [hm3]
  have:m2.pobj=m'.pobj:=by
   funext g
   rw [hpin2]
   split
   ·rename_i hg; have:=hE.newobj g hg; rw [this,hmb]
   ·rfl
  rw [this]
 have hb3:m3.blk=m'.blk:=by rw [hm3]
 have hc3:m3.cap=m'.cap:=by rw [hm3]
 have hp3:m3.pobj=m2.pobj:=by rw [hm3]
 have hv3:Z03 m3 N res v:=by
  cases hbr:borrowed with
  | false=>rw [heq hbr]; exact hv
  | true=>exact Z5y hb3 hc3 (hfree hbr).1 hv
 have hrow3:∀(id:Nat) (cs:List AV) (sz ver:Nat) (us:List Value),N[id]?=some (Z0Q.row cs sz ver)→Z0a m' N cs us→Z0a m3 N cs us:=by
  intro id cs sz ver us hN hcr
  cases hbr:borrowed with
  | false=>rw [heq hbr]; exact hcr
  | true=>
   have:=(hfree hbr).2
   rw [List.all_eq_true] at this
   exact Z1w hb3 hc3 _ _ (this _ (List.mem_of_getElem? hN)) hcr
 have HL:Laid m3 N (·+L.length) m2 (L++N.map (Z1m (·+L.length))):=by
  refine⟨fun g o h=>by rw [←hp3]; exact h,fun id o ho=>⟨?_,?_,?_⟩⟩
  ·rw [List.getElem?_append_right (by omega)]; simp [ho]
  ·rw [hblk2,hb3]
  ·rw [hcap2,hc3]
 have HM:Z4D m L m2 (L++N.map (Z1m (·+L.length))):=by
  refine⟨fun g o h=>by rw [hpin2,if_pos (hW.pobj_lt h)]; exact h,fun id cs sz ver hL=>?_,fun id r hL=>?_⟩
  ·have hlt:=(List.getElem?_eq_some_iff.1 hL).1
   exact⟨cs,ver,by rw [List.getElem?_append_left hlt]; exact hL,Nat.le_refl _,fun _=>⟨rfl,hblk1 id hlt,hcap1 id hlt⟩⟩
  ·have hlt:=(List.getElem?_eq_some_iff.1 hL).1
   exact⟨r,by rw [List.getElem?_append_left hlt]; exact hL,hblk1 id hlt⟩
 have hcase:∀{id:Nat} {o:Z0Q},(L++N.map (Z1m (·+L.length)))[id]?=some o→(id<L.length∧L[id]?=some o)∨(∃j o',id=j+L.length∧N[j]?=some o'∧o=Z1m (·+L.length) o'):=by
  intro id o ho
  by_cases hlt:id<L.length
  ·rw [List.getElem?_append_left hlt] at ho; exact .inl ⟨hlt,ho⟩
  ·rw [List.getElem?_append_right (by omega)] at ho
   simp only [List.getElem?_map,Option.map_eq_some_iff] at ho
   obtain⟨o',h1,h2⟩:=ho
   exact .inr ⟨id - L.length,o',by omega,h1,h2.symm⟩
 have hown:∀{id:Nat},Own m2 (L++N.map (Z1m (·+L.length))) id→(Own m L id∧m2.blk id=m.blk id∧m.blk id<w.heap.size)∨(∃j,id=j+L.length∧Own m' N j∧m2.blk id=m'.blk j∧w.heap.size≤m'.blk j):=by
  intro id ho
  have hnew:∀j,Own m' N j→w.heap.size≤m'.blk j:=fun j hj=>by
   rcases hE.blks j hj with ⟨h1,_⟩ | h1
   ·exact absurd h1 Z4x
   ·exact h1
  rcases ho with ⟨cs,sz,ver,hL,hc⟩ | ⟨r,hL⟩
  ·rcases hcase hL with ⟨hlt,h1⟩ | ⟨j,o',rfl,h1,h2⟩
   ·have ho:Own m L id:=.inl ⟨_,_,_,h1,by rw [←hcap1 id hlt]; exact hc⟩
    exact .inl ⟨ho,hblk1 id hlt,hW.blk_lt ho⟩
   ·cases o' <;> simp only [Z1m,reduceCtorEq,Z0Q.row.injEq] at h2
    have ho:Own m' N j:=.inl ⟨_,_,_,h1,by rw [←hcap2 j]; exact hc⟩
    exact .inr ⟨j,rfl,ho,hblk2 j,hnew j ho⟩
  ·rcases hcase hL with ⟨hlt,h1⟩ | ⟨j,o',rfl,h1,h2⟩
   ·have ho:Own m L id:=.inr ⟨_,h1⟩
    exact .inl ⟨ho,hblk1 id hlt,hW.blk_lt ho⟩
   ·cases o' <;> simp only [Z1m,reduceCtorEq,Z0Q.raw.injEq] at h2
    have ho:Own m' N j:=.inr ⟨_,h1⟩
    exact .inr ⟨j,rfl,ho,hblk2 j,hnew j ho⟩
 have hhid:∀{id g:Nat},Hid m2 (L++N.map (Z1m (·+L.length))) id g→Hid m L id g∨(∃j,id=j+L.length∧Hid m' N j g∧w.heap.size≤g):=by
  rintro id g ⟨T,e,l,hL,hc⟩
  rcases hcase hL with ⟨hlt,h1⟩ | ⟨j,o',rfl,h1,h2⟩
  ·exact .inl ⟨T,e,l,h1,by rw [←hcap1 id hlt]; exact hc⟩
  ·cases o' <;> simp only [Z1m,reduceCtorEq,Z0Q.raw.injEq] at h2
   subst h2
   have hh:Hid m' N j g:=⟨T,e,l,h1,by rw [←hcap2 j]; exact hc⟩
   rcases hE.hnew j g hh with k | k
   ·exact absurd k Z9X
   ·exact .inr ⟨j,rfl,hh,k⟩
 have hHid:Z3H m2 (L++N.map (Z1m (·+L.length))) w':=by
  refine⟨fun id T e l hL=>?_,fun id g k=>?_,fun id g k j hj=>?_,fun i j g k1 k2=>?_⟩
  ·rcases hcase hL with ⟨hlt,h1⟩ | ⟨j,o',rfl,h1,h2⟩
   ·rw [hblk1 id hlt,hcap1 id hlt]
    exact (hW.hid.at_ _ _ _ _ h1).same (hold _ (hW.blk_lt (.inr ⟨_,h1⟩))) fun g hc=>hold _ (hW.hid.lt ⟨_,_,_,h1,hc⟩)
   ·cases o' <;> simp only [Z1m,reduceCtorEq,Z0Q.raw.injEq] at h2
    subst h2
    rw [hblk2,hcap2]; exact hW'.hid.at_ _ _ _ _ h1
  ·rw [hpin2]
   rcases hhid k with k | ⟨j,rfl,k,kg⟩
   ·rw [if_pos (hW.hid.lt k)]; exact hW.hid.free _ _ k
   ·rw [if_neg (by omega)]; exact hW'.hid.free _ _ k
  ·rcases hown hj with ⟨h1,h2,h3⟩ | ⟨i',rfl,h1,h2,h3⟩ <;> rcases hhid k with k | ⟨j',rfl,k,kg⟩
   ·rw [h2]; exact hW.hid.own _ _ k _ h1
   ·omega
   ·have:=hW.hid.lt k; omega
   ·rw [h2]; exact hW'.hid.own _ _ k _ h1
  ·rcases hhid k1 with k1 | ⟨i',rfl,k1,g1⟩ <;> rcases hhid k2 with k2 | ⟨j',rfl,k2,g2⟩
   ·exact hW.hid.inj _ _ _ k1 k2
   ·have:=hW.hid.lt k1; omega
   ·have:=hW.hid.lt k2; omega
   ·rw [hW'.hid.inj _ _ _ k1 k2]
 refine⟨v,m2,rfl,Z03.laid HL _ _ hv3,⟨hW.glob.mono fun g o h=>by rw [hpin2,if_pos (hW.pobj_lt h)]; exact h,fun g o hp=>?_,fun id cs sz ver hL hc=>?_,fun id cs sz ver hL hc=>?_,fun id r hL=>?_,fun i j hi hj he=>?_,fun id ho=>?_,hHid⟩,
  ⟨fun g hg _ _=>hold g hg,hE.size,fun g hg=>by rw [hpin2,if_pos hg],fun id ho=>?_,by simp,HM,hE.same,fun id g k=>by rcases hhid k with k | ⟨_,_,_,k⟩; exact .inl k; exact .inr k⟩⟩
 ·rw [hpin2] at hp
  split at hp
  ·rename_i hg
   rw [hold g hg]; exact hW.pobjs g o hp
  ·exact hW'.pobjs g o hp
 ·rcases hcase hL with ⟨hlt,h1⟩ | ⟨j,o',rfl,h1,h2⟩
  ·rw [hcap1 id hlt] at hc ⊢
   obtain⟨us,rest,elem,lo,hi,k1,k2,k3,k4⟩:=hW.rows _ _ _ _ h1 hc
   have hb':=hW.blk_lt (.inl ⟨_,_,_,h1,hc⟩)
   exact⟨us,rest,elem,lo,hi,by rw [hblk1 id hlt,hold _ hb']; exact k1,Z0a.mono HM _ _ k2,k3,k4⟩
  ·cases o' <;> simp only [Z1m,reduceCtorEq,Z0Q.row.injEq] at h2
   obtain⟨rfl,rfl,rfl⟩:=h2
   rw [hcap2] at hc ⊢
   obtain⟨us,rest,elem,lo,hi,k1,k2,k3,k4⟩:=hW'.rows _ _ _ _ h1 hc
   exact⟨us,rest,elem,lo,hi,by rw [hblk2]; exact k1,Z0a.laid HL _ _ (hrow3 _ _ _ _ _ h1 k2),k3,k4⟩
 ·rcases hcase hL with ⟨hlt,h1⟩ | ⟨j,o',rfl,h1,h2⟩
  ·rw [hcap1 id hlt] at hc; exact hW.nils _ _ _ _ h1 hc
  ·cases o' <;> simp only [Z1m,reduceCtorEq,Z0Q.row.injEq] at h2
   obtain⟨rfl,rfl,rfl⟩:=h2
   rw [hcap2] at hc
   have:=hW'.nils _ _ _ _ h1 hc
   rw [this]; rfl
 ·rcases hcase hL with ⟨hlt,h1⟩ | ⟨j,o',rfl,h1,h2⟩
  ·have hb':=hW.blk_lt (.inr ⟨_,h1⟩)
   rw [hblk1 id hlt,hold _ hb']; exact hW.iters _ _ h1
  ·cases o' <;> simp only [Z1m,reduceCtorEq,Z0Q.raw.injEq] at h2
   subst h2
   rw [hblk2]; exact hW'.iters _ _ h1
 ·rcases hown hi with ⟨h1,h2,h3⟩ | ⟨i',rfl,h1,h2,h3⟩ <;> rcases hown hj with ⟨k1,k2,k3⟩ | ⟨j',rfl,k1,k2,k3⟩
  ·exact hW.inj i j h1 k1 (by omega)
  ·omega
  ·omega
  ·have:=hW'.inj i' j' h1 k1 (by omega); omega
 ·rw [hpin2]
  rcases hown ho with ⟨h1,h2,h3⟩ | ⟨i',rfl,h1,h2,h3⟩
  ·rw [h2,if_pos h3]; exact hW.freeo id h1
  ·rw [h2,if_neg (by omega)]; exact hW'.freeo i' h1
 ·rcases hown ho with ⟨h1,h2,h3⟩ | ⟨i',rfl,h1,h2,h3⟩
  ·exact .inl ⟨h1,h2⟩
  ·exact .inr (by omega)
theorem Con.lift{f:FuncId} (hfn:∃fn,P.funcs[f]?=some fn∧fn.body.isNone=false∧(fn.name == "runtime.NumGoroutine")=false) {lpre:List AV→Prop} {lres:List AV→AV} {lnew:List AV→Z01} {q:Bool} (hq:q=true→∀xs,lnew xs=[])
  (h:∀(m:Mem) (w:World) (xs:List AV) (vs:List Value),Z0D m [] w→Z0a m [] xs vs→lpre xs→Calls P f vs.toArray w (ZfW m [] w (lres xs) (lnew xs))):Con P f (Z6k lpre lres lnew q) where
 quiet hq' xs L:=by simp only [Z6k] at hq' ⊢; rw [hq hq']; simp
 runs:=.inl ⟨hfn,fun m L w xs vs hW hx hp=>by
  obtain⟨h1,h2,h3,h4⟩:=hp
  obtain⟨mb,hmb⟩:∃mb:Mem,mb=if xs.any (Z9S L)=true then { m with pobj:=fun g=>w.heap[g]? } else m:=⟨_,rfl⟩
  have hpin:∀g o,m.pobj g=some o→mb.pobj g=some o:=by
   intro g o hv
   rw [hmb]
   split
   ·exact hW.pobjs g o hv
   ·exact hv
  have hblk:mb.blk=m.blk∧mb.cap=m.cap:=by rw [hmb]; split <;> exact⟨rfl,rfl⟩
  have M:Z4D m L mb L:=⟨hpin,fun id cs sz ver h=>⟨cs,ver,h,Nat.le_refl _,fun _=>⟨rfl,by rw [hblk.1],by rw [hblk.2]⟩⟩,fun id r h=>⟨r,h,by rw [hblk.1]⟩⟩
  have hWb:Z0D mb [] w:=by
   refine⟨hW.glob.mono hpin,fun g o hv=>?_,fun _ _ _ _ h=>by simp at h,fun _ _ _ _ h=>by simp at h,fun _ _ h=>by simp at h,fun i j hi=>absurd hi Z4x,fun id hi=>absurd hi Z4x,.nil⟩
   rw [hmb] at hv
   split at hv
   ·exact hv
   ·exact hW.pobjs g o hv
  have hxb:Z0a mb [] (xs.map (Z56 L)) vs:=Z4C ((Zmw hW M (keep:=keep0) (full:=xs.any (Z9S L)=true) fun hf g _ _=>by rw [hmb,if_pos hf]).list hx h1 (fun h=>h)) h2
  exact (h mb w _ vs hWb hxb h3).mono fun e w' hpost=>Zdp hW (xs.any (Z9S L)) (fun hf=>by rw [hmb,hf]; rfl) hpost h4⟩
theorem Con.ofExt{f:FuncId}{lpre:List AV→Prop}{lres:List AV→AV}(hr:∀xs,lpre xs→∃k n,lres xs=.int k n)
  (h:∀(m:Mem) (w:World) (xs:List AV) (vs:List Value),Z0a m [] xs vs→lpre xs→∃v,(callFunc f vs.toArray).run P w=.ok (.value v) w∧Z03 m [] (lres xs) v):Con P f (Z6k lpre lres (fun _=>[]) true) where
 quiet _ xs L:=by simp [Z6k]
 runs:=.inr fun m L w xs vs hW hx hp=>by
  obtain⟨h1,h2,h3,h4⟩:=hp
  obtain⟨mb,hmb⟩:∃mb:Mem,mb=if xs.any (Z9S L)=true then { m with pobj:=fun g=>w.heap[g]? } else m:=⟨_,rfl⟩
  have hpin:∀g o,m.pobj g=some o→mb.pobj g=some o:=by
   intro g o hv
   rw [hmb]
   split
   ·exact hW.pobjs g o hv
   ·exact hv
  have hblk:mb.blk=m.blk∧mb.cap=m.cap:=by rw [hmb]; split <;> exact⟨rfl,rfl⟩
  have M:Z4D m L mb L:=⟨hpin,fun id cs sz ver h=>⟨cs,ver,h,Nat.le_refl _,fun _=>⟨rfl,by rw [hblk.1],by rw [hblk.2]⟩⟩,fun id r h=>⟨r,h,by rw [hblk.1]⟩⟩
  have hxb:Z0a mb [] (xs.map (Z56 L)) vs:=Z4C ((Zmw hW M (keep:=keep0) (full:=xs.any (Z9S L)=true) fun hf g _ _=>by rw [hmb,if_pos hf]).list hx h1 (fun h=>h)) h2
  obtain⟨v,hv1,hv2⟩:=h mb w _ vs hxb h3
  obtain⟨k,n,e⟩:=hr _ h3
  rw [e] at hv2
  simp only [Z03] at hv2
  exact⟨v,hv1,by simp only [Z6k,e,ren,Z03]; exact hv2,by simp [Z6k]⟩
theorem Z08.weak{fn:Func}{xs:List AV}{L:Z01}{res res':AV}{L' L'':Z01}(h:Z08 P Γ fn xs L res L')(hi:Z0q L [res] L' ([res'],L'')):Z08 P Γ fn xs L res' L'':=by
 intro X h1 h2 h3 h4
 have:=h { X with fin:=ZhK P fn.results.toList L res L',hfin:=fun fr L₁ m₁ a₁ w₁ hf hR1 hR2 hR3 hR4=>X.hfin fr L₁ m₁ a₁ w₁ (by rw [h4.1]; exact⟨hf.1,hf.2.trans hi⟩) hR1 hR2 hR3 hR4,finR:=ZhK P fn.results.toList L res L',hfinR:=fun fr L₁ m₁ a₁ w₁ hf hR1 hR2 hR3 hR4=>X.hfinR fr L₁ m₁ a₁ w₁ (by rw [h4.2.1,h4.1]; exact⟨hf.1,hf.2.trans hi⟩) hR1 hR2 hR3 hR4 } h1 h2 h3 ⟨rfl,rfl,h4.2.2⟩
 obtain⟨c,hc,hH⟩:=this
 exact⟨c,hc,hH⟩
theorem Con.of_body(hΓ:Z07 P Γ){f:FuncId}{fn:Func}(hf:P.funcs[f]?=some fn)(hb:fn.body.isNone=false) (hn:(fn.name == "runtime.NumGoroutine")=false) {lpre:List AV→Prop} {lres:List AV→AV} {lnew:List AV→Z01} {q:Bool}
  (hq:q=true→∀xs,lnew xs=[]) (h:∀xs,lpre xs→Z08 P Γ fn xs [] (lres xs) (lnew xs)):Con P f (Z6k lpre lres lnew q):=
 Con.lift ⟨fn,hf,hb,hn⟩ hq fun m w xs vs hW hx hp=>Z3F hΓ hf (h xs hp) hW hx
theorem Z9P(hΓ:Z07 P Γ){f:FuncId}{fn:Func}(hf:P.funcs[f]?=some fn){xs:List AV}{vs:List Value}{m:Mem}{w:World}(hG:GOK m.pobj)(hpin:∀g o,m.pobj g=some o→w.heap[g]?=some o)(hx:Z0a m [] xs vs)
  {L':Z01} (hb:Z08 P Γ fn xs [] (.bool true) L'):Calls P f vs.toArray w fun e w'=>e=.returned (.bool true)∧Below w.heap.size w w':=by
 have hW:Z0D m [] w:=⟨hG,hpin,fun _ _ _ _ h=>by simp at h,fun _ _ _ _ h=>by simp at h,fun _ _ h=>by simp at h,fun i j hi=>absurd hi Z4x,fun id hi=>absurd hi Z4x,.nil⟩
 refine (Z3F hΓ hf hb hW hx).mono ?_
 rintro e w' ⟨v,m',rfl,hv,hW',hE⟩
 simp only [Z03] at hv
 subst hv
 exact⟨rfl,hE.same.1,hE.same.2.1,hE.same.2.2,hE.size,fun k hk=>hE.frame k hk (fun id ho=>absurd ho Z4x) (fun id=>Z9X)⟩
end
def Zgn(ids:List Nat)(n j:Nat):Nat:=if j<ids.length then ids.getD j 0 else n+(j - ids.length)
def Z2o:List Nat→List Z0Q→Z01→Z01
 | id::ids,o::os,L=>Z2o ids os (L.set id o)
 | _,_,L=>L
def Z8x(ids:List Nat)(L N:Z01):Z01:=Z2o ids ((N.take ids.length).map (Z1m (Zgn ids L.length))) L++(N.drop ids.length).map (Z1m (Zgn ids L.length))
theorem Z1h:∀(ids:List Nat) (os:List Z0Q) (L:Z01),(Z2o ids os L).length=L.length
 | [],_,_=>by simp [Z2o]
 | _::_,[],_=>by simp [Z2o]
 | id::ids,o::os,L=>by simp [Z2o,Z1h ids os]
theorem Z5f:∀(ids:List Nat) (os:List Z0Q) (L:Z01) (i:Nat),i∉ids→(Z2o ids os L)[i]?=L[i]?
 | [],_,_,_,_=>by simp [Z2o]
 | _::_,[],_,_,_=>by simp [Z2o]
 | id::ids,o::os,L,i,h=>by
  simp only [List.mem_cons,not_or] at h
  simp only [Z2o]
  rw [Z5f ids os _ i h.2,List.getElem?_set_ne (Ne.symm h.1)]
theorem Z6X:∀(ids:List Nat) (os:List Z0Q) (L:Z01) (j:Nat),ids.Nodup→ids.length=os.length→(∀i∈ids,i<L.length)→∀id,ids[j]?=some id→(Z2o ids os L)[id]?=os[j]?
 | [],_,_,_,_,_,_,_,h=>by simp at h
 | _::_,[],_,_,_,h,_,_,_=>by simp at h
 | i::ids,o::os,L,0,hn,hl,hb,id,h=>by
  simp at h; subst h
  simp only [Z2o]
  rw [Z5f _ _ _ _ (List.nodup_cons.1 hn).1]
  simp [hb i (by simp)]
 | i::ids,o::os,L,j+1,hn,hl,hb,id,h=>by
  simp only [Z2o]
  simp only [List.getElem?_cons_succ] at h ⊢
  exact Z6X ids os _ j (List.nodup_cons.1 hn).2 (by simpa using hl) (fun x hx=>by simpa using hb x (by simp [hx])) id h
section
variable {m mb:Mem} {L L0:Z01} {w:World} {ids:List Nat}
structure Za9(m mb:Mem)(L L0:Z01)(ids:List Nat):Prop where
 nodup:ids.Nodup
 obj:(ids.map fun i=>L[i]?)=L0.map fun o=>some (Z1m (fun j=>ids.getD j j) o)
 blk:∀j,j<ids.length→mb.blk j=m.blk (ids.getD j 0)
 cap:∀j,j<ids.length→mb.cap j=m.cap (ids.getD j 0)
 pobj:∀g o,m.pobj g=some o→mb.pobj g=some o
theorem Za9.len(H:Za9 m mb L L0 ids):ids.length=L0.length:=by simpa using congrArg List.length H.obj
theorem Za9.at(H:Za9 m mb L L0 ids){j:Nat}{o:Z0Q}(h:L0[j]?=some o):j<ids.length∧L[ids.getD j 0]?=some (Z1m (fun j=>ids.getD j j) o):=by
 have hlt:j<ids.length:=by rw [H.len]; exact (List.getElem?_eq_some_iff.1 h).1
 have:=congrArg (·[j]?) H.obj
 simp only [List.getElem?_map,h,Option.map_some] at this
 have hid:ids[j]?=some (ids.getD j 0):=by simp [List.getD,hlt]
 rw [hid] at this
 exact⟨hlt,by simpa using this⟩
theorem Za9.back(H:Za9 m mb L L0 ids){j:Nat}(hj:j<ids.length):∃o,L0[j]?=some o∧L[ids.getD j 0]?=some (Z1m (fun j=>ids.getD j j) o):=by
 have hlt:j<L0.length:=by rw [←H.len]; exact hj
 exact⟨L0[j],by simp,(H.at (by simp)).2⟩
theorem Za9.bound(H:Za9 m mb L L0 ids):∀i∈ids,i<L.length:=by
 intro i hi
 obtain⟨j,hj,rfl⟩:=List.mem_iff_getElem.1 hi
 obtain⟨o,_,h2⟩:=H.back hj
 have e:ids.getD j 0=ids[j]:=by simp [List.getD,hj]
 rw [e] at h2
 exact (List.getElem?_eq_some_iff.1 h2).1
theorem Za9.own(H:Za9 m mb L L0 ids){j:Nat}(h:Own mb L0 j):j<ids.length∧Own m L (ids.getD j 0)∧mb.blk j=m.blk (ids.getD j 0):=by
 rcases h with ⟨cs,sz,ver,hL,hc⟩ | ⟨r,hL⟩
 ·obtain⟨h1,h2⟩:=H.at hL
  exact⟨h1,.inl ⟨_,_,_,h2,by rw [←H.cap j h1]; exact hc⟩,H.blk j h1⟩
 ·obtain⟨h1,h2⟩:=H.at hL
  exact⟨h1,.inr ⟨_,h2⟩,H.blk j h1⟩
theorem Za9.hid(H:Za9 m mb L L0 ids){j g:Nat}(h:Hid mb L0 j g):j<ids.length∧Hid m L (ids.getD j 0) g:=by
 obtain⟨T,e,l,hL,hc⟩:=h
 obtain⟨h1,h2⟩:=H.at hL
 exact⟨h1,T,e,l,h2,by rw [←H.cap j h1]; exact hc⟩
theorem Z1o{j:Nat}(h:j<ids.length):ids.getD j 0∈ids:=by simp [List.getD,h]
theorem Z51(hn:ids.Nodup){i j:Nat}(hi:i<ids.length)(hj:j<ids.length)(he:ids.getD i 0=ids.getD j 0):i=j:=by
 simp only [List.getD,List.getElem?_eq_getElem hi,List.getElem?_eq_getElem hj,Option.getD_some] at he
 have hp:=List.pairwise_iff_getElem.1 hn
 rcases Nat.lt_trichotomy i j with h | h | h
 ·exact absurd he (hp i j hi hj h)
 ·exact h
 ·exact absurd he.symm (hp j i hj hi h)
theorem Zhn(hn:ids.Nodup){j:Nat}(hj:j<ids.length):ids.idxOf (ids.getD j 0)=j:=by
 have h1:ids.idxOf (ids.getD j 0)<ids.length:=List.idxOf_lt_length_of_mem (Z1o hj)
 refine Z51 hn h1 hj ?_
 have:ids[ids.idxOf (ids.getD j 0)]=ids.getD j 0:=List.getElem_idxOf h1
 rw [List.getD_eq_getElem?_getD (l:=ids) (i:=ids.idxOf (ids.getD j 0)),List.getElem?_eq_getElem h1,Option.getD_some]
 exact this
set_option maxHeartbeats 1000000 in
theorem Z73(hW:Z0D m L w)(H:Za9 m mb L L0 ids)(borrowed:Bool)(hb:borrowed=false→mb.pobj=m.pobj){res:AV}{N:Z01}{e:Ending}{w':World}(h:ZfW mb L0 w res N e w')
  (hfree:borrowed=true→Z3v res=true∧N.all Z4a=true):ZfW m L w (ren (Zgn ids L.length) res) (Z8x ids L N) e w':=by
 obtain⟨v,m',rfl,hv,hW',hE⟩:=h
 have hlen:=H.len
 have hNlen:ids.length≤N.length:=by rw [hlen]; exact hE.len
 have hold:∀g,g<w.heap.size→(∀id,id∈ids→Own m L id→m.blk id≠g)→(∀id,id∈ids→¬Hid m L id g)→w'.heap[g]?=w.heap[g]?:=fun g hg hno hnh=>hE.frame g hg (fun j hj=>by
  obtain⟨h1,h2,h3⟩:=H.own hj
  rw [h3]; exact hno _ (Z1o h1) h2) (fun j hj=>hnh _ (Z1o (H.hid hj).1) (H.hid hj).2)
 obtain⟨ρ,hρ⟩:∃ρ,ρ=Zgn ids L.length:=⟨_,rfl⟩
 have hρ1:∀j,j<ids.length→ρ j=ids.getD j 0:=fun j hj=>by rw [hρ]; simp [Zgn,hj]
 have hρ2:∀j,ids.length≤j→ρ j=L.length+(j - ids.length):=fun j hj=>by rw [hρ]; simp [Zgn,show ¬j<ids.length by omega]
 have hPL:Z8x ids L N=Z2o ids ((N.take ids.length).map (Z1m ρ)) L++(N.drop ids.length).map (Z1m ρ):=by rw [hρ]; rfl
 rw [←hρ,hPL]
 obtain⟨R,hR⟩:∃R,R=Z2o ids ((N.take ids.length).map (Z1m ρ)) L++(N.drop ids.length).map (Z1m ρ):=⟨_,rfl⟩
 have hol:ids.length=((N.take ids.length).map (Z1m ρ)).length:=by simp; omega
 have hRold:∀i,i<L.length→i∉ids→R[i]?=L[i]?:=fun i hi hn=>by
  rw [hR,List.getElem?_append_left (by rw [Z1h]; exact hi),Z5f _ _ _ _ hn]
 have hRids:∀j,j<ids.length→R[ids.getD j 0]?=(N[j]?).map (Z1m ρ):=fun j hj=>by
  have hlt:=H.bound _ (Z1o hj)
  rw [hR,List.getElem?_append_left (by rw [Z1h]; exact hlt),Z6X _ _ _ j H.nodup hol H.bound _ (by simp [List.getD,hj])]
  simp [List.getElem?_take,hj]
 have hRnew:∀j,ids.length≤j→R[L.length+(j - ids.length)]?=(N[j]?).map (Z1m ρ):=fun j hj=>by
  rw [hR,List.getElem?_append_right (by rw [Z1h]; omega),Z1h]
  simp only [List.getElem?_map,List.getElem?_drop]
  congr 2; omega
 have hRlen:L.length≤R.length:=by rw [hR,List.length_append,Z1h]; omega
 have hRend:R.length=L.length+(N.length - ids.length):=by rw [hR,List.length_append,Z1h]; simp
 have hRρ:∀j,j<N.length→R[ρ j]?=(N[j]?).map (Z1m ρ):=fun j hj=>by
  by_cases hj':j<ids.length
  ·rw [hρ1 j hj']; exact hRids j hj'
  ·rw [hρ2 j (by omega)]; exact hRnew j (by omega)
 rw [←hR]
 obtain⟨m2,hm2⟩:∃m2:Mem,m2={ pobj:=fun g=>if g<w.heap.size then m.pobj g else m'.pobj g,blk:=fun i=>if i<L.length then (if i∈ids then m'.blk (ids.idxOf i) else m.blk i) else m'.blk (i - L.length+ids.length),cap:=fun i=>if i<L.length then (if i∈ids then m'.cap (ids.idxOf i) else m.cap i) else m'.cap (i - L.length+ids.length) }:=⟨_,rfl⟩
 have hpin2:∀g,m2.pobj g=if g<w.heap.size then m.pobj g else m'.pobj g:=fun g=>by rw [hm2]
 have hold1:∀i,i<L.length→i∉ids→m2.blk i=m.blk i∧m2.cap i=m.cap i:=fun i hi hn=>by rw [hm2]; simp [hi,hn]
 have hnew1:∀j,m2.blk (ρ j)=m'.blk j∧m2.cap (ρ j)=m'.cap j:=fun j=>by
  by_cases hj:j<ids.length
  ·have hlt:=H.bound _ (Z1o hj)
   rw [hρ1 j hj,hm2]
   simp only [hlt,if_true,Z1o hj,Zhn H.nodup hj,and_self]
  ·rw [hρ2 j (by omega),hm2]
   simp only [show ¬L.length+(j - ids.length)<L.length by omega,if_false,show L.length+(j - ids.length) - L.length+ids.length=j by omega,and_self]
 obtain⟨m3,hm3⟩:∃m3:Mem,m3={ m' with pobj:=m2.pobj }:=⟨_,rfl⟩
 have heq:borrowed=false→m3=m':=by
  intro hbf
  have hmb:=hb hbf
  rw [hm3]
  have:m2.pobj=m'.pobj:=by
   funext g
   rw [hpin2]
   split
   ·rename_i hg; have:=hE.newobj g hg; rw [this,hmb]
   ·rfl
  rw [this]
 have hb3:m3.blk=m'.blk:=by rw [hm3]
 have hc3:m3.cap=m'.cap:=by rw [hm3]
 have hp3:m3.pobj=m2.pobj:=by rw [hm3]
 have hv3:Z03 m3 N res v:=by
  cases hbr:borrowed with
  | false=>rw [heq hbr]; exact hv
  | true=>exact Z5y hb3 hc3 (hfree hbr).1 hv
 have hrow3:∀(id:Nat) (cs:List AV) (sz ver:Nat) (us:List Value),N[id]?=some (Z0Q.row cs sz ver)→Z0a m' N cs us→Z0a m3 N cs us:=by
  intro id cs sz ver us hN hcr
  cases hbr:borrowed with
  | false=>rw [heq hbr]; exact hcr
  | true=>
   have:=(hfree hbr).2
   rw [List.all_eq_true] at this
   exact Z1w hb3 hc3 _ _ (this _ (List.mem_of_getElem? hN)) hcr
 have HL:Laid m3 N ρ m2 R:=by
  refine⟨fun g o h=>by rw [←hp3]; exact h,fun j o ho=>⟨?_,?_,?_⟩⟩
  ·rw [hRρ j (List.getElem?_eq_some_iff.1 ho).1,ho]; rfl
  ·rw [(hnew1 j).1,hb3]
  ·rw [(hnew1 j).2,hc3]
 have hinv:∀i∈ids,∃j,j<ids.length∧i=ids.getD j 0:=fun i hi=>by
  obtain⟨j,hj,rfl⟩:=List.mem_iff_getElem.1 hi
  exact⟨j,hj,by simp [List.getD,hj]⟩
 have HM:Z4D m L m2 R:=by
  refine⟨fun g o h=>by rw [hpin2,if_pos (hW.pobj_lt h)]; exact h,fun id cs sz ver hL=>?_,fun id r hL=>?_⟩
  ·have hlt:=(List.getElem?_eq_some_iff.1 hL).1
   by_cases hin:id∈ids
   ·obtain⟨j,hj,rfl⟩:=hinv id hin
    obtain⟨o,ho,h2⟩:=H.back hj
    rw [hL] at h2
    cases o <;> simp only [Z1m,reduceCtorEq,Option.some.injEq,Z0Q.row.injEq] at h2
    obtain⟨rfl,rfl,rfl⟩:=h2
    obtain⟨cs',ver',k1,k2,k3⟩:=hE.mono.row _ _ _ _ ho
    refine⟨renL ρ cs',ver',by rw [hRids j hj,k1]; rfl,k2,fun e=>?_⟩
    obtain⟨q1,q2,q3⟩:=k3 e
    rw [Z2m,Z2m,List.length_map,List.length_map]
    have:=hnew1 j
    rw [hρ1 j hj] at this
    exact⟨q1,by rw [this.1,q2,H.blk j hj],by rw [this.2,q3,H.cap j hj]⟩
   ·exact⟨cs,ver,by rw [hRold id hlt hin]; exact hL,Nat.le_refl _,fun _=>⟨rfl,hold1 id hlt hin⟩⟩
  ·have hlt:=(List.getElem?_eq_some_iff.1 hL).1
   by_cases hin:id∈ids
   ·obtain⟨j,hj,rfl⟩:=hinv id hin
    obtain⟨o,ho,h2⟩:=H.back hj
    rw [hL] at h2
    cases o <;> simp only [Z1m,reduceCtorEq,Option.some.injEq,Z0Q.raw.injEq] at h2
    subst h2
    obtain⟨r',k1,k2⟩:=hE.mono.iter _ _ ho
    have:=hnew1 j
    rw [hρ1 j hj] at this
    exact⟨r',by rw [hRids j hj,k1]; rfl,by rw [this.1,k2,H.blk j hj]⟩
   ·exact⟨r,by rw [hRold id hlt hin]; exact hL,(hold1 id hlt hin).1⟩
 have hcase:∀{id:Nat} {o:Z0Q},R[id]?=some o→(id<L.length∧id∉ids∧L[id]?=some o)∨(∃j o',id=ρ j∧N[j]?=some o'∧o=Z1m ρ o'):=by
  intro id o ho
  by_cases hlt:id<L.length
  ·by_cases hin:id∈ids
   ·obtain⟨j,hj,rfl⟩:=hinv id hin
    rw [hRids j hj,Option.map_eq_some_iff] at ho
    obtain⟨o',h1,h2⟩:=ho
    exact .inr ⟨j,o',(hρ1 j hj).symm,h1,h2.symm⟩
   ·rw [hRold id hlt hin] at ho; exact .inl ⟨hlt,hin,ho⟩
  ·have hidx:=(List.getElem?_eq_some_iff.1 ho).1
   have e:id=L.length+(id - L.length+ids.length - ids.length):=by omega
   rw [e,hRnew _ (by omega),Option.map_eq_some_iff] at ho
   obtain⟨o',h1,h2⟩:=ho
   exact .inr ⟨id - L.length+ids.length,o',by rw [hρ2 _ (by omega)]; omega,h1,h2.symm⟩
 have hown:∀{id:Nat},Own m2 R id→(id∉ids∧Own m L id∧m2.blk id=m.blk id∧m.blk id<w.heap.size)∨(∃j,id=ρ j∧Own m' N j∧m2.blk id=m'.blk j):=by
  intro id ho
  rcases ho with ⟨cs,sz,ver,hL,hc⟩ | ⟨r,hL⟩
  ·rcases hcase hL with ⟨hlt,hin,h1⟩ | ⟨j,o',rfl,h1,h2⟩
   ·have ho:Own m L id:=.inl ⟨_,_,_,h1,by rw [←(hold1 id hlt hin).2]; exact hc⟩
    exact .inl ⟨hin,ho,(hold1 id hlt hin).1,hW.blk_lt ho⟩
   ·cases o' <;> simp only [Z1m,reduceCtorEq,Z0Q.row.injEq] at h2
    exact .inr ⟨j,rfl,.inl ⟨_,_,_,h1,by rw [←(hnew1 j).2]; exact hc⟩,(hnew1 j).1⟩
  ·rcases hcase hL with ⟨hlt,hin,h1⟩ | ⟨j,o',rfl,h1,h2⟩
   ·have ho:Own m L id:=.inr ⟨_,h1⟩
    exact .inl ⟨hin,ho,(hold1 id hlt hin).1,hW.blk_lt ho⟩
   ·cases o' <;> simp only [Z1m,reduceCtorEq,Z0Q.raw.injEq] at h2
    exact .inr ⟨j,rfl,.inr ⟨_,h1⟩,(hnew1 j).1⟩
 have hwhere:∀j,Own m' N j→(j<ids.length∧Own m L (ids.getD j 0)∧m'.blk j=m.blk (ids.getD j 0))∨w.heap.size≤m'.blk j:=fun j hj=>by
  rcases hE.blks j hj with ⟨h1,h2⟩ | h1
  ·obtain⟨k1,k2,k3⟩:=H.own h1
   exact .inl ⟨k1,k2,by rw [h2,k3]⟩
  ·exact .inr h1
 have hkeep:∀id,id∉ids→Own m L id→w'.heap[m.blk id]?=w.heap[m.blk id]?:=fun id hin ho=>hold _ (hW.blk_lt ho) (fun i hi hoi he=>hin (by have:=hW.inj i id hoi ho he; rw [←this]; exact hi)) (fun i hi hk=>hW.hid.own i _ hk id ho rfl)
 have hhid:∀{id g:Nat},Hid m2 R id g→(id∉ids∧Hid m L id g)∨(∃j,id=ρ j∧Hid m' N j g):=by
  rintro id g ⟨T,e,l,hL,hc⟩
  rcases hcase hL with ⟨hlt,hin,h1⟩ | ⟨j,o',rfl,h1,h2⟩
  ·exact .inl ⟨hin,T,e,l,h1,by rw [←(hold1 id hlt hin).2]; exact hc⟩
  ·cases o' <;> simp only [Z1m,reduceCtorEq,Z0Q.raw.injEq] at h2
   subst h2
   exact .inr ⟨j,rfl,T,e,l,h1,by rw [←(hnew1 j).2]; exact hc⟩
 have hwhereH:∀j g,Hid m' N j g→(j<ids.length∧Hid m L (ids.getD j 0) g)∨w.heap.size≤g:=fun j g hj=>by
  rcases hE.hnew j g hj with h1 | h1
  ·exact .inl (H.hid h1)
  ·exact .inr h1
 have hHid:Z3H m2 R w':=by
  refine⟨fun id T e l hL=>?_,fun id g k=>?_,fun id g k j hj=>?_,fun i j g k1 k2=>?_⟩
  ·rcases hcase hL with ⟨hlt,hin,h1⟩ | ⟨j,o',rfl,h1,h2⟩
   ·rw [(hold1 id hlt hin).1,(hold1 id hlt hin).2]
    refine (hW.hid.at_ _ _ _ _ h1).same (hkeep id hin (.inr ⟨_,h1⟩)) fun g hc=>?_
    have hk:Hid m L id g:=⟨_,_,_,h1,hc⟩
    exact hold g (hW.hid.lt hk) (fun i hi ho he=>hW.hid.own id g hk i ho he) (fun i hi hk'=>hin (by have:=hW.hid.inj i id g hk' hk; rw [←this]; exact hi))
   ·cases o' <;> simp only [Z1m,reduceCtorEq,Z0Q.raw.injEq] at h2
    subst h2
    rw [(hnew1 j).1,(hnew1 j).2]; exact hW'.hid.at_ _ _ _ _ h1
  ·rw [hpin2]
   rcases hhid k with ⟨hin,q⟩ | ⟨j,rfl,q⟩
   ·rw [if_pos (hW.hid.lt q)]; exact hW.hid.free _ _ q
   ·split
    ·rcases hwhereH j g q with ⟨q1,q2⟩ | q1
     ·exact hW.hid.free _ _ q2
     ·omega
    ·exact hW'.hid.free _ _ q
  ·rcases hown hj with ⟨h0,h1,h2,h3⟩ | ⟨i',rfl,h1,h2⟩ <;> rcases hhid k with ⟨hin,q⟩ | ⟨j',rfl,q⟩
   ·rw [h2]; exact hW.hid.own _ _ q _ h1
   ·rcases hwhereH j' g q with ⟨q1,q2⟩ | q1
    ·rw [h2]; exact hW.hid.own _ _ q2 _ h1
    ·omega
   ·rcases hwhere i' h1 with ⟨q1,q2,q3⟩ | q1
    ·rw [h2,q3]; exact hW.hid.own _ _ q _ q2
    ·have:=hW.hid.lt q; omega
   ·rw [h2]; exact hW'.hid.own _ _ q _ h1
  ·rcases hhid k1 with ⟨n1,a1⟩ | ⟨i',rfl,a1⟩ <;> rcases hhid k2 with ⟨n2,a2⟩ | ⟨j',rfl,a2⟩
   ·exact hW.hid.inj _ _ _ a1 a2
   ·rcases hwhereH j' g a2 with ⟨q1,q2⟩ | q1
    ·exact absurd (by have:=hW.hid.inj _ _ _ a1 q2; rw [this]; exact Z1o q1) n1
    ·have:=hW.hid.lt a1; omega
   ·rcases hwhereH i' g a1 with ⟨q1,q2⟩ | q1
    ·exact absurd (by have:=hW.hid.inj _ _ _ a2 q2; rw [this]; exact Z1o q1) n2
    ·have:=hW.hid.lt a2; omega
   ·rw [hW'.hid.inj _ _ _ a1 a2]
 refine⟨v,m2,rfl,Z03.laid HL _ _ hv3,⟨hW.glob.mono fun g o h=>by rw [hpin2,if_pos (hW.pobj_lt h)]; exact h,fun g o hp=>?_,fun id cs sz ver hL hc=>?_,fun id cs sz ver hL hc=>?_,fun id r hL=>?_,fun i j hi hj he=>?_,fun id ho=>?_,hHid⟩,
  ⟨fun g hg hno hnh=>hold g hg (fun id _ ho=>hno id ho) (fun id _=>hnh id),hE.size,fun g hg=>by rw [hpin2,if_pos hg],fun id ho=>?_,hRlen,HM,hE.same,fun id g k=>?_⟩⟩
 ·rw [hpin2] at hp
  split at hp
  ·rename_i hg
   have hfr:w'.heap[g]?=w.heap[g]?:=hold g hg (fun id _ ho he=>by
    have:=hW.freeo id ho
    rw [he,hp] at this; cases this) (fun id _ hk=>by
    have:=hW.hid.free id g hk
    rw [hp] at this; cases this)
   rw [hfr]; exact hW.pobjs g o hp
  ·exact hW'.pobjs g o hp
 ·rcases hcase hL with ⟨hlt,hin,h1⟩ | ⟨j,o',rfl,h1,h2⟩
  ·rw [(hold1 id hlt hin).2] at hc ⊢
   obtain⟨us,rest,elem,lo,hi,k1,k2,k3,k4⟩:=hW.rows _ _ _ _ h1 hc
   exact⟨us,rest,elem,lo,hi,by rw [(hold1 id hlt hin).1,hkeep id hin (.inl ⟨_,_,_,h1,hc⟩)]; exact k1,Z0a.mono HM _ _ k2,k3,k4⟩
  ·cases o' <;> simp only [Z1m,reduceCtorEq,Z0Q.row.injEq] at h2
   obtain⟨rfl,rfl,rfl⟩:=h2
   rw [(hnew1 j).2] at hc ⊢
   obtain⟨us,rest,elem,lo,hi,k1,k2,k3,k4⟩:=hW'.rows _ _ _ _ h1 hc
   exact⟨us,rest,elem,lo,hi,by rw [(hnew1 j).1]; exact k1,Z0a.laid HL _ _ (hrow3 _ _ _ _ _ h1 k2),k3,k4⟩
 ·rcases hcase hL with ⟨hlt,hin,h1⟩ | ⟨j,o',rfl,h1,h2⟩
  ·rw [(hold1 id hlt hin).2] at hc; exact hW.nils _ _ _ _ h1 hc
  ·cases o' <;> simp only [Z1m,reduceCtorEq,Z0Q.row.injEq] at h2
   obtain⟨rfl,rfl,rfl⟩:=h2
   rw [(hnew1 j).2] at hc
   rw [hW'.nils _ _ _ _ h1 hc]; rfl
 ·rcases hcase hL with ⟨hlt,hin,h1⟩ | ⟨j,o',rfl,h1,h2⟩
  ·rw [(hold1 id hlt hin).1,hkeep id hin (.inr ⟨_,h1⟩)]; exact hW.iters _ _ h1
  ·cases o' <;> simp only [Z1m,reduceCtorEq,Z0Q.raw.injEq] at h2
   subst h2
   rw [(hnew1 j).1]; exact hW'.iters _ _ h1
 ·rcases hown hi with ⟨h0,h1,h2,h3⟩ | ⟨i',rfl,h1,h2⟩ <;> rcases hown hj with ⟨k0,k1,k2,k3⟩ | ⟨j',rfl,k1,k2⟩
  ·exact hW.inj i j h1 k1 (by omega)
  ·rcases hwhere j' k1 with ⟨q1,q2,q3⟩ | q1
   ·exact absurd (by have:=hW.inj i _ h1 q2 (by omega); rw [this]; exact Z1o q1) h0
   ·omega
  ·rcases hwhere i' h1 with ⟨q1,q2,q3⟩ | q1
   ·exact absurd (by have:=hW.inj j _ k1 q2 (by omega); rw [this]; exact Z1o q1) k0
   ·omega
  ·rw [hW'.inj i' j' h1 k1 (by omega)]
 ·rw [hpin2]
  rcases hown ho with ⟨h0,h1,h2,h3⟩ | ⟨j,rfl,h1,h2⟩
  ·rw [h2,if_pos h3]; exact hW.freeo id h1
  ·rw [h2]
   split
   ·rename_i hg
    rcases hwhere j h1 with ⟨q1,q2,q3⟩ | q1
    ·rw [q3]; exact hW.freeo _ q2
    ·omega
   ·exact hW'.freeo j h1
 ·rcases hown ho with ⟨h0,h1,h2,h3⟩ | ⟨j,rfl,h1,h2⟩
  ·exact .inl ⟨h1,h2⟩
  ·rcases hwhere j h1 with ⟨q1,q2,q3⟩ | q1
   ·exact .inl ⟨by rw [hρ1 j q1]; exact q2,by rw [h2,q3,hρ1 j q1]⟩
   ·exact .inr (by omega)
 ·rcases hhid k with ⟨_,q⟩ | ⟨j,rfl,q⟩
  ·exact .inl q
  ·rcases hwhereH j g q with ⟨q1,q2⟩ | q1
   ·exact .inl (by rw [hρ1 j q1]; exact q2)
   ·exact .inr q1
end
def Z3y(ids:List Nat)(i:Nat):Bool:=ids.contains i
def Z3W(L:Z01)(ids:List Nat):AV→AV:=Z0X L (Z3y ids) (d3 L (Z3y ids))
def Zhj(L:Z01)(ids:List Nat):AV→Prop:=Z1n L (Z3y ids) (l3 L (Z3y ids))
def Z4p(L:Z01)(ids:List Nat):AV→Bool:=Z40 L (Z3y ids) (b3 L (Z3y ids))
structure Zmu where
 ids:List AV→List Nat
 args:List AV→Z01→List AV
 start:List AV→Z01→Z01
 pre:List AV→Z01→Prop
 res:List AV→Z01→AV
 post:List AV→Z01→Z01
def liftG(g:Zmu):Z0n where
 pre xs L:=(∀x∈xs,Zhj L (g.ids xs) x)∧(g.ids xs).Nodup∧xs.map (Z3W L (g.ids xs))=renL (fun j=>(g.ids xs).getD j j) (g.args xs L)∧
  ((g.ids xs).map fun i=>L[i]?)=((g.start xs L).map fun o=>some (Z1m (fun j=>(g.ids xs).getD j j) o))∧Z1z (g.start xs L).length (g.args xs L)=true∧(g.start xs L).all (Z3s (g.start xs L).length)=true∧
  g.pre (g.args xs L) (g.start xs L)∧(xs.any (Z4p L (g.ids xs))=true→Z3v (g.res (g.args xs L) (g.start xs L))=true∧(g.post (g.args xs L) (g.start xs L)).all Z4a=true)
 res xs L:=ren (Zgn (g.ids xs) L.length) (g.res (g.args xs L) (g.start xs L))
 post xs L:=Z8x (g.ids xs) L (g.post (g.args xs L) (g.start xs L))
 quiet:=false
section
variable {P:Program} {Γ:Env}
theorem Z17:∀xs:List AV,leF xs xs
 | []=>trivial
 | x::xs=>by
  have h:=Z17 xs
  cases x <;> first | exact h | exact⟨rfl,h⟩
open Classical in
theorem Con.liftG{f:FuncId} (hfn:∃fn,P.funcs[f]?=some fn∧fn.body.isNone=false∧(fn.name == "runtime.NumGoroutine")=false) {g:Zmu}
  (h:∀(m:Mem) (L:Z01) (w:World) (xs:List AV) (vs:List Value),Z0D m L w→Z0a m L xs vs→g.pre xs L→Calls P f vs.toArray w (ZfW m L w (g.res xs L) (g.post xs L))):Con P f (Eng.liftG g) where
 quiet hq:=by cases hq
 runs:=.inl ⟨hfn,fun m L w xs vs hW hx hp=>by
  obtain⟨h1,h2,h3,h4,h5,h6,h7,h8⟩:=hp
  obtain⟨ids,hids⟩:∃ids,ids=g.ids xs:=⟨_,rfl⟩
  rw [←hids] at h1 h2 h3 h4 h8
  obtain⟨mp,hmp⟩:∃mp:Mem,mp=if xs.any (Z4p L ids)=true then { m with pobj:=fun g=>if (∃i∈ids,Own m L i∧m.blk i=g)∨(∃i∈ids,Hid m L i g) then none else w.heap[g]? } else m:=⟨_,rfl⟩
  have hpin:∀g o,m.pobj g=some o→mp.pobj g=some o:=by
   intro g o hv
   rw [hmp]
   split
   ·simp only
    rw [if_neg]
    ·exact hW.pobjs _ _ hv
    ·rintro (⟨i,hi,ho,rfl⟩ | ⟨i,hi,hk⟩)
     ·have:=hW.freeo i ho
      rw [hv] at this; cases this
     ·have:=hW.hid.free i _ hk
      rw [hv] at this; cases this
   ·exact hv
  have hblk:mp.blk=m.blk∧mp.cap=m.cap:=by rw [hmp]; split <;> exact⟨rfl,rfl⟩
  have hpins:∀g o,mp.pobj g=some o→w.heap[g]?=some o:=by
   intro g o hv
   rw [hmp] at hv
   split at hv
   ·simp only at hv
    split at hv
    ·cases hv
    ·exact hv
   ·exact hW.pobjs _ _ hv
  have hfree:∀i∈ids,Own m L i→mp.pobj (m.blk i)=none:=by
   intro i hi ho
   rw [hmp]
   split
   ·simp only
    rw [if_pos (.inl ⟨i,hi,ho,rfl⟩)]
   ·exact hW.freeo i ho
  have M:Z4D m L mp L:=⟨hpin,fun id cs sz ver h=>⟨cs,ver,h,Nat.le_refl _,fun _=>⟨rfl,by rw [hblk.1],by rw [hblk.2]⟩⟩,fun id r h=>⟨r,h,by rw [hblk.1]⟩⟩
  have hx':Z0a mp L (xs.map (Z3W L ids)) vs:=(Zmw hW M (keep:=Z3y ids) (full:=xs.any (Z4p L ids)=true) fun hf g hno hnh=>by
   rw [hmp,if_pos hf]
   simp only
   rw [if_neg]
   rintro (⟨i,hi,ho,he⟩ | ⟨i,hi,hk⟩)
   ·exact hno i (by simp [Z3y,hi]) ho he
   ·exact hnh i (by simp [Z3y,hi]) hk).list hx h1 (fun h=>h)
  have hw:Zc3 0 ids (xs.map (Z3W L ids)) L (g.args xs L) (g.start xs L):=⟨by rw [h3]; exact Z17 _,h4,h2,rfl,h5,h6⟩
  have H:=hw.renamed mp
  have hc0:=Z0a.ren H _ _ (by rw [←h3]; exact hx') h5
  obtain⟨mb,hmb⟩:∃mb:Mem,mb={ mp with blk:=fun i=>mp.blk (ids.getD i i),cap:=fun i=>mp.cap (ids.getD i i) }:=⟨_,rfl⟩
  rw [←hmb] at H hc0
  have hgd:∀j,j<ids.length→ids.getD j j=ids.getD j 0:=fun j hj=>by simp [List.getD,hj]
  have HL:Za9 m mb L (g.start xs L) ids:=⟨h2,h4,fun j hj=>by rw [hmb]; simp only [hblk.1,hgd j hj],fun j hj=>by rw [hmb]; simp only [hblk.2,hgd j hj],fun g o hv=>by rw [hmb]; exact hpin g o hv⟩
  have hfreeH:∀i∈ids,∀g,Hid m L i g→mp.pobj g=none:=by
   intro i hi g hk
   rw [hmp]
   split
   ·simp only
    rw [if_pos (.inr ⟨i,hi,hk⟩)]
   ·exact hW.hid.free i g hk
  have hW0:Z0D mb (g.start xs L) w:=by
   have hs':∀o∈g.start xs L,Z3s (g.start xs L).length o=true:=by simpa [List.all_eq_true] using h6
   refine⟨hW.glob.mono fun g o hv=>by rw [hmb]; exact hpin g o hv,fun g o hv=>hpins g o (by rw [hmb] at hv; exact hv),fun j cs sz ver hL hc=>?_,fun j cs sz ver hL hc=>?_,fun j r hL=>?_,fun i j hi hj he=>?_,fun j ho=>?_,⟨fun j T e l hL=>?_,fun j g k=>?_,fun j g k i hi=>?_,fun i j g k1 k2=>?_⟩⟩
   ·obtain⟨k1,k2⟩:=HL.at hL
    rw [HL.cap j k1] at hc ⊢
    obtain⟨us,rest,elem,lo,hi,q1,q2,q3,q4⟩:=hW.rows _ _ _ _ k2 hc
    have hscp:=hs' _ (List.mem_of_getElem? hL)
    exact⟨us,rest,elem,lo,hi,by rw [HL.blk j k1]; exact q1,Z0a.ren H _ _ (Z0a.mono M _ _ q2) (by simpa [Z3s] using hscp),q3,q4⟩
   ·obtain⟨k1,k2⟩:=HL.at hL
    rw [HL.cap j k1] at hc
    have:=hW.nils _ _ _ _ k2 hc
    rw [Z2m] at this
    simpa using this
   ·obtain⟨k1,k2⟩:=HL.at hL
    rw [HL.blk j k1]; exact hW.iters _ _ k2
   ·obtain⟨a1,a2,a3⟩:=HL.own hi
    obtain⟨b1,b2,b3⟩:=HL.own hj
    exact Z51 h2 a1 b1 (hW.inj _ _ a2 b2 (by omega))
   ·obtain⟨a1,a2,a3⟩:=HL.own ho
    rw [a3,hmb]
    exact hfree _ (Z1o a1) a2
   ·obtain⟨k1,k2⟩:=HL.at hL
    rw [HL.blk j k1,HL.cap j k1]; exact hW.hid.at_ _ _ _ _ k2
   ·obtain⟨a1,a2⟩:=HL.hid k
    rw [hmb]; exact hfreeH _ (Z1o a1) g a2
   ·obtain⟨a1,a2⟩:=HL.hid k
    obtain⟨b1,b2,b3⟩:=HL.own hi
    rw [b3]; exact hW.hid.own _ _ a2 _ b2
   ·obtain⟨a1,a2⟩:=HL.hid k1
    obtain⟨b1,b2⟩:=HL.hid k2
    exact Z51 h2 a1 b1 (hW.hid.inj _ _ _ a2 b2)
  have:=(h mb (g.start xs L) w (g.args xs L) vs hW0 hc0 h7).mono fun e w' hpost=>Z73 hW HL (xs.any (Z4p L ids)) (fun hf=>by rw [hmb,hmp,hf]; rfl) hpost h8
  rw [hids] at this
  exact this⟩
end
end Go.Eng
end
section
namespace Go.Eng
open Go
theorem Zj5{fr:List AV}{d:Nat}{x:AV}{y:Operand}(h:y≠.tmp d):opd (fr.set d x) y=opd fr y:=by
 cases y with
 | tmp t=>
  have:d≠t:=fun e=>h (by rw [e])
  simp [opd,List.getD,List.getElem?_set_ne this]
 | _=>rfl
theorem ZgY{fr:List AV}{dst:Option Tmp}{x:AV}{y:Operand}(h:∀d,dst=some d→y≠.tmp d):opd (Z1R fr dst x) y=opd fr y:=by
 cases dst with
 | none=>rfl
 | some d=>exact Zj5 (h d rfl)
theorem Zhw{P:Program}{Γ:Env}{c:Bool}{fr fr':List AV}{L:Z01}(op:Op)(h:∀y∈op.operands,opd fr y=opd fr' y):Z16 P Γ c fr L op=Z16 P Γ c fr' L op:=by
 have harr:∀xs:Array Operand,(∀y∈xs,opd fr y=opd fr' y)→xs.toList.map (opd fr)=xs.toList.map (opd fr')∧(xs.toList.map fun x=>(opd fr x).bare)=xs.toList.map fun x=>(opd fr' x).bare:=by
  intro xs hx
  have:∀y∈xs.toList,opd fr y=opd fr' y:=fun y hy=>hx y (by simpa using hy)
  exact⟨List.map_congr_left this,List.map_congr_left fun y hy=>by rw [this y hy]⟩
 have hparts:∀ps:Array (Nat×Operand),(∀y∈ps.map (·.2),opd fr y=opd fr' y)→Z32 fr ps=Z32 fr' ps∧(ps.toList.map fun p=>opd fr p.2)=ps.toList.map fun p=>opd fr' p.2:=by
  intro ps hp
  have:∀p∈ps.toList,opd fr p.2=opd fr' p.2:=fun p hm=>hp p.2 (by
   simp only [Array.mem_map]; exact⟨p,by simpa using hm,rfl⟩)
  exact⟨List.map_congr_left fun p hm=>by rw [this p hm],List.map_congr_left this⟩
 cases op <;> simp only [Op.operands] at h <;> simp only [Z16,ev]
 case pick q a b=>rw [h q (by simp),h a (by simp),h b (by simp)]
 case build t ps=>have h':=hparts ps fun y hy=>h y (by simpa using hy); rw [h'.1,h'.2]
 case buildSlice t n ps=>have h':=hparts ps fun y hy=>h y (by simpa using hy); rw [h'.1,h'.2]
 case makeFunc f a b=>
  obtain⟨h1,h2⟩:=harr a fun y hy=>h y (by simp [hy])
  obtain⟨h3,h4⟩:=harr b fun y hy=>h y (by simp [hy])
  rw [h1,h2,h3,h4]
 case call c=>
  obtain⟨callee,args,ts⟩:=c
  obtain⟨h1,h2⟩:=harr args fun y hy=>h y (by simp [Call.operands,hy])
  cases callee with
  | value f=>
   have hf:opd fr f=opd fr' f:=h f (by simp [Call.operands])
   simp only [Z16,ZfK]
   rw [hf,h1,h2]
  | invoke r n=>rfl
  | builtin b=>
   simp only [Z16,ev,Z4k]
   have:∀y∈args.toList,opd fr y=opd fr' y:=fun y hy=>h y (by simp [Call.operands] at hy ⊢; exact hy)
   revert this
   split <;> intro this
   ·rename_i x t heq _
    rw [this x (by rw [heq]; simp)]
   ·rename_i x y heq
    rw [this x (by rw [heq]; simp),this y (by rw [heq]; simp)]
   ·rename_i x y heq
    rw [this x (by rw [heq]; simp),this y (by rw [heq]; simp)]
   ·rename_i s x t tx heq _
    rw [this s (by rw [heq]; simp),this x (by rw [heq]; simp)]
   ·rename_i s x t tx heq _
    rw [this s (by rw [heq]; simp),this x (by rw [heq]; simp)]
   ·rename_i x k t ts' heq _
    rw [this x (by rw [heq]; simp),this k (by rw [heq]; simp)]
   ·rfl
 case makeMap t r=>
  have:ZaK fr r=ZaK fr' r∧Z5H c fr r=Z5H c fr' r:=by
   cases r with
   | none=>exact⟨rfl,rfl⟩
   | some y=>have:=h y (by simp); simp only [ZaK,Z5H]; rw [this]; exact⟨rfl,rfl⟩
  rw [this.1,this.2]
 case slice t x lo hi mx=>
  have hx:=h x (by simp)
  have ho:∀z:Option Operand,(∀y,z=some y→opd fr y=opd fr' y)→ZaK fr z=ZaK fr' z∧Z5H c fr z=Z5H c fr' z:=by
   intro z hz
   cases z with
   | none=>exact⟨rfl,rfl⟩
   | some y=>simp only [ZaK,Z5H]; rw [hz y rfl]; exact⟨rfl,rfl⟩
  obtain⟨a1,a2⟩:=ho lo fun y hy=>h y (by simp [hy])
  obtain⟨b1,b2⟩:=ho hi fun y hy=>h y (by simp [hy])
  obtain⟨c1,c2⟩:=ho mx fun y hy=>h y (by simp [hy])
  rw [hx,a1,a2,b1,b2,c1,c2]
 all_goals first
  | rfl
  | (simp only [List.mem_toArray,List.mem_cons,List.not_mem_nil,or_false,forall_eq_or_imp,forall_eq] at h; simp only [h])
section
variable {P:Program} {Γ:Env} {ops:Array Oper}
theorem Zb7{c:Bool}{fr:List AV}{L:Z01}{o:Oper}{dst:Option Tmp}{x:AV}(h:∀d,dst=some d→d∉o.looksAt ops):stepA P Γ ops.toList c (Z1R fr dst x) L o=stepA P Γ ops.toList c fr L o:=by
 have hop:∀y∈o.op.operands,opd (Z1R fr dst x) y=opd fr y:=fun y hy=>ZgY fun d hd hyd=>h d hd (by
  subst hyd
  exact List.mem_append_left _ (List.mem_filterMap.2 ⟨.tmp d,by simpa using hy,rfl⟩))
 rcases Z1M P Γ ops.toList o with hst | ⟨t,len,parts,ho,hst⟩
 ·rw [hst,hst]; exact Zhw o.op hop
 ·rw [hst,hst]
  rw [ho] at hop
  simp only [Op.operands] at hop
  have:∀p∈parts.toList,opd (Z1R fr dst x) p.2=opd fr p.2:=fun p hm=>hop p.2 (by
   have hm':p∈parts:=by simpa using hm
   have:p.2∈parts.map (·.2):=Array.mem_map.2 ⟨p,hm',rfl⟩
   simpa using this)
  have e1:Z32 (Z1R fr dst x) parts=Z32 fr parts:=List.map_congr_left fun p hm=>by rw [this p hm]
  have e2:(parts.toList.map fun p=>opd (Z1R fr dst x) p.2)=parts.toList.map fun p=>opd fr p.2:=List.map_congr_left this
  rw [e1,e2]
theorem Z4Z{fr:List AV}{o:Oper}{dst:Option Tmp}{x:AV}(h:∀d,dst=some d→d∉o.looksAt ops) :
  Z0f ops.toList (Z1R fr dst x) o.guard=Z0f ops.toList fr o.guard∧Z1D ops.toList (Z1R fr dst x) o.guard=Z1D ops.toList fr o.guard:=by
 cases dst with
 | none=>exact⟨rfl,rfl⟩
 | some d=>
  unfold Z0f Z1D
  cases hg:o.guard with
  | none=>exact⟨rfl,rfl⟩
  | some gw=>
   obtain⟨g,want⟩:=gw
   simp only
   have e:(ops.toList[g]?).bind (·.dst)=(ops[g]?).bind (·.dst):=by simp
   rw [e]
   cases ht:(ops[g]?).bind (·.dst) with
   | none=>exact⟨rfl,rfl⟩
   | some t=>
    have hne:d≠t:=fun e=>h d rfl (by subst e; simp [Oper.looksAt,hg,ht])
    have:(Z1R fr (some d) x).getD t .any=fr.getD t .any:=by simp [Z1R,List.getD,List.getElem?_set_ne hne]
    simp only [this,and_self]
theorem Z6a(fr:List AV){x y:Option Tmp}(v u:AV)(h:∀d,x=some d→y≠some d):Z1R (Z1R fr x v) y u=Z1R (Z1R fr y u) x v:=by
 cases x with
 | none=>rfl
 | some d=>
  cases y with
  | none=>rfl
  | some e=>
   have hne:d≠e:=fun he=>h d rfl (he▸rfl)
   simp only [Z1R]
   exact List.set_comm _ _ hne
def Yd(P:Program)(Γ:Env)(ops:Array Oper)(H:Z01→Prop)(mk:Bool)(o:Oper)(fr:List AV)(L:Z01)(v:AV)(L':Z01):Prop:=
 Z1D ops.toList fr o.guard∧
 if mk then (stepA P Γ ops.toList (Z0f ops.toList fr o.guard) fr L o).pre∧v=mkV o.guard (Z0f ops.toList fr o.guard) (stepA P Γ ops.toList (Z0f ops.toList fr o.guard) fr L o).v∧
   L'=(stepA P Γ ops.toList (Z0f ops.toList fr o.guard) fr L o).L∧H L'
 else L'=L∧((∀G,H G→(stepA P Γ ops.toList (Z0f ops.toList fr o.guard) fr G o).pre∧(stepA P Γ ops.toList (Z0f ops.toList fr o.guard) fr G o).L=G∧
   v=mkV o.guard (Z0f ops.toList fr o.guard) (stepA P Γ ops.toList (Z0f ops.toList fr o.guard) fr G o).v)∨(Z0f ops.toList fr o.guard=false∧v=.when false (.bool false)))
theorem Yd.swap{H:Z01→Prop}{mi mj:Bool}{oi oj:Oper}{fr:List AV}{L L1 L2:Z01}{v u:AV}(hL:H L)(hi:Yd P Γ ops H mi oi fr L v L1)(hj:Yd P Γ ops H mj oj (Z1R fr oi.dst v) L1 u L2)
  (hap:oi.apart ops oj=true) (hm:¬(mi=true∧mj=true)):∃L3,H L3∧Yd P Γ ops H mj oj fr L u L3∧Yd P Γ ops H mi oi (Z1R fr oj.dst u) L3 v L2:=by
 obtain⟨h1,h2,h3⟩:=Oper.apart_spec hap
 unfold Yd at hi hj ⊢
 have e1:∀c G,stepA P Γ ops.toList c (Z1R fr oi.dst v) G oj=stepA P Γ ops.toList c fr G oj:=fun c G=>Zb7 (o:=oj) h1
 have e2:∀c G,stepA P Γ ops.toList c (Z1R fr oj.dst u) G oi=stepA P Γ ops.toList c fr G oi:=fun c G=>Zb7 (o:=oi) h3
 obtain⟨g1,g2⟩:=Z4Z (fr:=fr) (o:=oj) (dst:=oi.dst) (x:=v) h1
 obtain⟨g3,g4⟩:=Z4Z (fr:=fr) (o:=oi) (dst:=oj.dst) (x:=u) h3
 rw [g1,g2] at hj
 simp only [e1] at hj
 obtain⟨hgi,hi⟩:=hi
 obtain⟨hgj,hj⟩:=hj
 cases mi <;> cases mj
 ·simp only [Bool.false_eq_true,if_false] at hi hj
  obtain⟨rfl,hi⟩:=hi
  obtain⟨rfl,hj⟩:=hj
  refine⟨L2,hL,?_⟩
  rw [g3,g4]
  simp only [Bool.false_eq_true,if_false,e2]
  exact⟨⟨hgj,trivial,hj⟩,hgi,trivial,hi⟩
 ·simp only [Bool.false_eq_true,if_false,if_true] at hi hj
  obtain⟨rfl,hi⟩:=hi
  refine⟨L2,hj.2.2.2,?_⟩
  rw [g3,g4]
  simp only [Bool.false_eq_true,if_false,if_true,e2]
  exact⟨⟨hgj,hj⟩,hgi,trivial,hi⟩
 ·simp only [Bool.false_eq_true,if_false,if_true] at hi hj
  obtain⟨rfl,hj⟩:=hj
  refine⟨L,hL,?_⟩
  rw [g3,g4]
  simp only [Bool.false_eq_true,if_false,if_true,e2]
  exact⟨⟨hgj,trivial,hj⟩,hgi,hi⟩
 ·exact absurd ⟨rfl,rfl⟩ hm
theorem Yd.keeps{H:Z01→Prop}{mk:Bool}{o:Oper}{fr:List AV}{L L':Z01}{v:AV}(hL:H L)(h:Yd P Γ ops H mk o fr L v L'):H L':=by
 unfold Yd at h
 cases mk
 ·simp only [Bool.false_eq_true,if_false] at h; rw [h.2.1]; exact hL
 ·simp only [if_true] at h; exact h.2.2.2.2
def opD(P:Program)(Γ:Env)(ops:Array Oper)(H:Z01→Prop)(mk:Nat→Bool)(i:Nat)(K:List AV→Z01→Prop)(fr:List AV)(L:Z01):Prop:=
 match ops[i]? with
 | none=>K fr L
 | some o=>∃v L',Yd P Γ ops H (mk i) o fr L v L'∧K (Z1R fr o.dst v) L'
def Zko(P:Program)(Γ:Env)(md:Region.Mode)(ops:Array Oper)(H:Z01→Prop)(mk:Nat→Bool)(K:List AV→Z01→Prop):Nat→Array Bool→List AV→Z01→Prop
 | 0,listed,fr,L=>Region.ready md ops listed=[]∧K fr L
 | fuel+1,listed,fr,L=>(Region.ready md ops listed=[]→K fr L)∧
  ∀i∈Region.ready md ops listed,opD P Γ ops H mk i (Zko P Γ md ops H mk K fuel (listed.setIfInBounds i true)) fr L
variable {md:Region.Mode}
def twB(ops:Array Oper)(md:Region.Mode)(ms:List Nat)(i:Nat):Nat→Nat→Bool
 | 0,_=>false
 | n+1,j=>match ops[j]? with
  | some o=>o.after.any fun e=>Region.binds md e && decide (e.on<j) && (e.on == i || twB ops md ms i n e.on)
  | none=>false
def TW(ops:Array Oper)(md:Region.Mode)(i j:Nat):Prop:=∃ms n,twB ops md ms i n j=true
theorem TW.step{ops:Array Oper}{md:Region.Mode}{i j:Nat}(h:TW ops md i j):∃o e,ops[j]?=some o∧e∈o.after∧Region.binds md e=true∧e.on<j∧(e.on=i∨TW ops md i e.on):=by
 obtain⟨ms,n,h⟩:=h
 cases n with
 | zero=>simp [twB] at h
 | succ n=>
  simp only [twB] at h
  split at h
  ·rename_i o ho
   obtain⟨e,he,hb⟩:=Array.any_eq_true'.1 h
   simp only [Bool.and_eq_true,Bool.or_eq_true,beq_iff_eq,decide_eq_true_eq] at hb
   obtain⟨⟨h1,h2⟩,h3⟩:=hb
   refine⟨o,e,ho,he,h1,h2,?_⟩
   rcases h3 with h3 | h3
   ·exact .inl h3
   ·exact .inr ⟨ms,n,h3⟩
  ·cases h
theorem TW.lt{ops:Array Oper}{md:Region.Mode}{i:Nat}:∀{j:Nat},TW ops md i j→i<j:=by
 intro j
 induction j using Nat.strongRecOn with
 | _ j ih=>
  intro h
  obtain⟨o,e,_,_,_,h1,h2⟩:=h.step
  rcases h2 with h2 | h2
  ·omega
  ·have:=ih e.on h1 h2; omega
def Zjz(ops:Array Oper)(md:Region.Mode)(mk:Nat→Bool)(listed:Array Bool)(i:Nat)(oi:Oper):Prop:=
 ∀j oj,ops[j]?=some oj→j≠i→listed.getD j true=false→(∀e∈oj.after,Region.binds md e=true→e.on≠i)→oi.apart ops oj=true∧(TW ops md i j∨¬(mk i=true∧mk j=true))
theorem Z4m{H:Z01→Prop}{mk:Nat→Bool}{K:List AV→Z01→Prop}{i:Nat}{oi:Oper}{v:AV}(hi:ops[i]?=some oi) :
  ∀(fuel:Nat) (listed:Array Bool) (fr:List AV) (L L1:Z01),Zjz ops md mk listed i oi→(∀j,TW ops md i j→listed.getD j true=false)→i∈Region.ready md ops listed→H L→Yd P Γ ops H (mk i) oi fr L v L1→
   Zko P Γ md ops H mk K fuel (listed.setIfInBounds i true) (Z1R fr oi.dst v) L1→Zko P Γ md ops H mk K (fuel+1) listed fr L:=by
 intro fuel
 induction fuel with
 | zero=>
  intro listed fr L L1 _ _ hr hL hy hH
  refine⟨fun h=>(by rw [h] at hr; cases hr),fun j hj=>?_⟩
  by_cases hji:j=i
  ·subst hji; unfold opD; rw [hi]; exact⟨v,L1,hy,hH⟩
  ·have:=ready_mono hj hji
   rw [hH.1] at this
   cases this
 | succ fuel ih=>
  intro listed fr L L1 hfree htw hr hL hy hH
  refine⟨fun h=>(by rw [h] at hr; cases hr),fun j hj=>?_⟩
  by_cases hji:j=i
  ·subst hji; unfold opD; rw [hi]; exact⟨v,L1,hy,hH⟩
  ·have h1:=hH.2 j (ready_mono hj hji)
   obtain⟨hjun,oj,hoj,hall⟩:=mem_ready.1 hj
   have hnot:∀e∈oj.after,Region.binds md e=true→e.on≠i:=fun e he hb heq=>by
    have h1:=hall e he hb
    have h0:=(mem_ready.1 hr).1
    rw [heq] at h1
    rcases Nat.lt_or_ge i listed.size with h' | h'
    ·simp [h'] at h0 h1; rw [h0] at h1; cases h1
    ·simp [Array.getElem?_eq_none h'] at h1
   obtain⟨hap,hmm⟩:=hfree j oj hoj hji hjun hnot
   have hntw:¬TW ops md i j:=by
    intro ht
    obtain⟨o',e,ho',he,hb,_,h3⟩:=ht.step
    rw [hoj] at ho'
    obtain rfl:=Option.some.inj ho'
    rcases h3 with h3 | h3
    ·exact hnot e he hb h3
    ·have h4:=htw _ h3
     have h5:=hall e he hb
     rcases Nat.lt_or_ge e.on listed.size with h' | h'
     ·simp [h'] at h4 h5; rw [h4] at h5; cases h5
     ·simp [Array.getElem?_eq_none h'] at h5
   have hmm:¬(mk i=true∧mk j=true):=hmm.resolve_left hntw
   have htw':∀k,TW ops md i k→(listed.setIfInBounds j true).getD k true=false:=fun k hk=>by
    have hjk:j≠k:=fun e=>hntw (e▸hk)
    rw [getD_set_ne true hjk]; exact htw k hk
   unfold opD at h1 ⊢
   rw [hoj] at h1 ⊢
   obtain⟨u,L2,hyj,h2⟩:=h1
   obtain⟨L3,hL3,k1,k2⟩:=hy.swap hL hyj hap hmm
   refine⟨u,L3,k1,?_⟩
   have hfree':Zjz ops md mk (listed.setIfInBounds j true) i oi:=fun k ok hk hki hun hno=>by
    refine hfree k ok hk hki ?_ hno
    by_cases hjk:j=k
    ·subst hjk; exact hjun
    ·rw [getD_set_ne true hjk] at hun; exact hun
   refine ih (listed.setIfInBounds j true) _ _ _ hfree' htw' (ready_mono hr (Ne.symm hji)) hL3 k2 ?_
   rw [Array.setIfInBounds_comm _ _ hji,←Z6a fr v u (Oper.apart_spec hap).2.1]
   exact h2
def Zl7(ops:Array Oper)(md:Region.Mode)(ms:List Nat):Bool:=ms.all fun i=>ms.all fun j=>decide (j≤i) || twB ops md ms i 5 j
theorem Zb3{ms:List Nat}(hm:Zl7 ops md ms=true){i:Nat}{oi:Oper}{listed:Array Bool}(hi:ops[i]?=some oi)(hl:∀j,j<i→listed.getD j true=true)(h:Region.free md ops listed i=true) :
  Zjz ops md (ms.contains ·) listed i oi:=by
 intro j oj hj hji hun hno
 refine⟨Region.free_spec hi h j oj hj hji hun hno,?_⟩
 by_cases hb:ms.contains i=true∧ms.contains j=true
 ·left
  obtain⟨h1,h2⟩:=hb
  simp only [List.contains_iff_mem] at h1 h2
  simp only [Zl7,List.all_eq_true,Bool.or_eq_true,decide_eq_true_eq] at hm
  rcases hm i h1 j h2 with h3 | h3
  ·have:=hl j (by omega); rw [this] at hun; cases hun
  ·exact⟨ms,5,h3⟩
 ·exact .inr hb
def qob(H:Z01→Prop)(f:Z01→Prop):Prop:=∀G,H G→f G
def Zkj(L:Z01):Z01→Prop:=fun G=>G=L
theorem Zde(L:Z01)(f:Z01→Prop):qob (Zkj L) f=f L:=by simp [qob,Zkj]
def evD(P:Program)(Γ:Env)(all:List Oper)(H:Z01→Prop)(ms:List Nat):Nat→List Oper→List AV→Z01→(List AV→Z01→Prop)→Prop
 | _,[],fr,L,K=>K fr L
 | k,o::r,fr,L,K=>
  Z1D all fr o.guard∧
  if ms.contains k then (stepA P Γ all (Z0f all fr o.guard) fr L o).pre∧H (stepA P Γ all (Z0f all fr o.guard) fr L o).L∧
   evD P Γ all H ms (k+1) r (Z1R fr o.dst (mkV o.guard (Z0f all fr o.guard) (stepA P Γ all (Z0f all fr o.guard) fr L o).v)) (stepA P Γ all (Z0f all fr o.guard) fr L o).L K
  else qob H (fun G=>(stepA P Γ all (Z0f all fr o.guard) fr G o).pre∧(stepA P Γ all (Z0f all fr o.guard) fr G o).L=G∧(stepA P Γ all (Z0f all fr o.guard) fr G o).v=(stepA P Γ all (Z0f all fr o.guard) fr L o).v)∧
   evD P Γ all H ms (k+1) r (Z1R fr o.dst (mkV o.guard (Z0f all fr o.guard) (stepA P Γ all (Z0f all fr o.guard) fr L o).v)) L K
theorem Z8c{H:Z01→Prop}{ms:List Nat}{K:List AV→Z01→Prop}(hm:Zl7 ops md ms=true):∀(l:List Oper) (k:Nat) (listed:Array Bool) (fr:List AV) (L:Z01),(∀j,l[j]?=ops[k+j]?)→(∀j,j<k→listed.getD j true=true)→(∀j o,k≤j→ops[j]?=some o→listed.getD j true=false)→
  Region.lexFrom md ops l.length k listed=true→H L→evD P Γ ops.toList H ms k l fr L K→Zko P Γ md ops H (ms.contains ·) K l.length listed fr L
 | [],_,_,_,_,_,_,_,hB,_,h=>⟨by simpa [Region.lexFrom] using hB,h⟩
 | o::l,k,listed,fr,L,hl,hk,hu,hB,hL,h=>by
  have h0:ops[k]?=some o:=by simpa using (hl 0).symm
  simp only [List.length_cons,Region.lexFrom,Bool.and_eq_true] at hB
  obtain⟨⟨hr,hf⟩,hB'⟩:=hB
  obtain⟨hg,h⟩:=h
  have hk':∀j,j<k+1→(listed.setIfInBounds k true).getD j true=true:=fun j hj=>by
   by_cases hjk:k=j
   ·subst hjk
    rcases Nat.lt_or_ge k listed.size with h' | h'
    ·simp [h']
    ·simp [Array.getElem?_eq_none h']
   ·rw [getD_set_ne true hjk]; exact hk j (by omega)
  have hu':∀j o,k+1≤j→ops[j]?=some o→(listed.setIfInBounds k true).getD j true=false:=fun j o' hj ho=>by
   rw [getD_set_ne true (show k≠j by omega)]; exact hu j o' (by omega) ho
  have htw:∀j,TW ops md k j→listed.getD j true=false:=fun j hj=>by
   obtain⟨o',e,ho',_⟩:=hj.step
   exact hu j o' (Nat.le_of_lt hj.lt) ho'
  have hl':∀j,l[j]?=ops[k+1+j]?:=fun j=>by have:=hl (j+1); simpa [Nat.add_assoc,Nat.add_comm 1 j] using this
  cases hmk:ms.contains k with
  | true=>
   rw [hmk] at h
   simp only [if_true] at h
   exact Z4m h0 l.length listed fr L _ (Zb3 hm h0 hk hf) htw (by simpa using hr) hL (by unfold Yd; rw [hmk]; exact⟨hg,by simp only [if_true]; exact⟨h.1,trivial,trivial,h.2.1⟩⟩)
    (Z8c hm l (k+1) _ _ _ hl' hk' hu' hB' h.2.1 h.2.2)
  | false=>
   rw [hmk] at h
   simp only [Bool.false_eq_true,if_false] at h
   exact Z4m h0 l.length listed fr L L (Zb3 hm h0 hk hf) htw (by simpa using hr) hL (by
     unfold Yd; rw [hmk]
     refine⟨hg,?_⟩
     simp only [Bool.false_eq_true,if_false,true_and]
     exact .inl fun G hG=>⟨(h.1 G hG).1,(h.1 G hG).2.1,by rw [(h.1 G hG).2.2]⟩)
    (Z8c hm l (k+1) _ _ _ hl' hk' hu' hB' hL h.2)
theorem Zdy{R:Option Nat}(hΓ:Z07 P Γ){B:Z8f}{H:Z01→Prop}{mk:Nat→Bool}{i:Nat}{K:List AV→Z01→Prop}{K':Act→World→Prop}{Q:Exit→Act→World→Prop}(hK:∀fr L m a w,H L→K fr L→RS B fr L m a w→K' a w)
  {fr:List AV} {L:Z01} {m:Mem} {a:Act} {w:World} (hL:H L) (h:opD P Γ ops H mk i K fr L) (hR:RS B fr L m a w):wpOpIn (Z1q R) 0 P ops Q i K' a w:=by
 unfold opD at h
 unfold wpOpIn
 split
 ·rename_i ho; rw [ho] at h; exact hK _ _ _ _ _ hL h hR
 ·rename_i o ho
  rw [ho] at h
  obtain⟨v,L',hy,h⟩:=h
  have hL':=hy.keeps hL
  unfold Yd at hy
  obtain⟨hg,hy⟩:=hy
  have hstep:((stepA P Γ ops.toList (Z0f ops.toList fr o.guard) fr L o).pre∧L'=(stepA P Γ ops.toList (Z0f ops.toList fr o.guard) fr L o).L∧v=mkV o.guard (Z0f ops.toList fr o.guard) (stepA P Γ ops.toList (Z0f ops.toList fr o.guard) fr L o).v)∨
    (Z0f ops.toList fr o.guard=false∧L'=L∧v=.when false (.bool false)):=by
   cases hm:mk i with
   | true=>rw [hm] at hy; simp only [if_true] at hy; exact .inl ⟨hy.1,hy.2.2.1,hy.2.1⟩
   | false=>
    rw [hm] at hy; simp only [Bool.false_eq_true,if_false] at hy
    obtain⟨hy0,hy | hy⟩:=hy
    ·obtain⟨h1,h2,h3⟩:=hy L hL
     exact .inl ⟨h1,by rw [h2]; exact hy0,h3⟩
    ·exact .inr ⟨hy.1,hy0,hy.2⟩
  rcases hstep with hstep | ⟨hgf,rfl,rfl⟩
  case inr=>
   rw [Z3V hR.frel ops o hg,hgf]
   simp only [Bool.false_eq_true,if_false]
   refine⟨fun _ _=>trivial,hK _ _ m _ _ hL' h ⟨hR.wrel,Z2n hR.frel o.dst (x:=.when false (.bool false)) (by simp [Z03]),hR.ext,?_⟩⟩
   cases o.dst <;> exact hR.defers
  obtain⟨hp,rfl,rfl⟩:=hstep
  have:=Z48 (P:=P) (Γ:=Γ) (R:=R) hΓ hR.wrel hR.frel ops o (next:=K') (Q:=Q) hg hp fun a' w' m' k1 k2 k3 k4=>hK _ _ _ _ _ hL' h ⟨k1,k2,hR.ext.trans k3,by rw [k4,hR.defers]⟩
  split
  ·rename_i hw; rw [if_pos hw] at this; exact this
  ·rename_i hw; rw [if_neg hw] at this; exact this
theorem Z5v{R:Option Nat}(hΓ:Z07 P Γ){B:Z8f}{H:Z01→Prop}{mk:Nat→Bool}{K:List AV→Z01→Prop}{Q:Exit→Act→World→Prop}(hK:∀fr L m a w,K fr L→RS B fr L m a w→Q .normal a w) :
  ∀(fuel:Nat) (listed:Array Bool) (fr:List AV) (L:Z01) (m:Mem) (a:Act) (w:World),H L→Zko P Γ md ops H mk K fuel listed fr L→RS B fr L m a w→wpAnyIn (Z1q R) 0 P md ops Q fuel listed a w
 | 0,_,_,_,_,_,_,_,h,hR=>⟨h.1,hK _ _ _ _ _ h.2 hR⟩
 | fuel+1,_,_,_,_,_,_,hL,h,hR=>⟨fun h0=>hK _ _ _ _ _ (h.1 h0) hR,fun i hi=>Zdy hΓ (fun fr' L' m' a' w' hL' h' hR'=>Z5v hΓ hK fuel _ fr' L' m' a' w' hL' h' hR') hL (h.2 i hi) hR⟩
end
theorem RS.drew{B:Z8f}{fr:List AV}{L:Z01}{m:Mem}{a:Act}{w:World}(h:RS B fr L m a w):RS B fr L m a { w with drawn:=w.drawn+1 } where
 wrel:=⟨h.wrel.glob,h.wrel.pobjs,h.wrel.rows,h.wrel.nils,h.wrel.iters,h.wrel.inj,h.wrel.freeo,h.wrel.hid.keep (fun _ _ _ _ h=>⟨h,rfl,rfl⟩) (fun _ _ _ _ _ _=>rfl) (fun _ _ _=>rfl) (fun _ _ k=>h.wrel.hid.free _ _ k) (fun _ _ k j hj=>h.wrel.hid.own _ _ k j hj)⟩
 frel:=h.frel
 ext:=⟨h.ext.frame,h.ext.size,h.ext.newobj,h.ext.blks,h.ext.len,h.ext.mono,h.ext.same,h.ext.hnew⟩
 defers:=h.defers
theorem Z02.drawn{X:Cx}{id:Nat}{ops:Array Oper}{k:List It}{fr:List AV}{L:Z01}(H:Z01→Prop)(ms:List Nat)(hm:X.P.follows .mixedOrders=true)(hB:Region.lexB .any ops=true)(ho:Zl7 ops .any ms=true)(hL:H L)
  (h:evD X.P X.Γ ops.toList H ms 0 ops.toList fr L (Z02 X k)):Z02 X (.code (.region id ops true)::k) fr L:=by
 intro m a w hR
 simp only [W]
 simp only [Region.lexB,Bool.and_eq_true] at hB
 refine wpIn_region_any hm ?_
 have hR':RS X.B fr L m a { w with drawn:=w.drawn+1 }:=hR.drew
 have:=Z8c (P:=X.P) (Γ:=X.Γ) (md:=.any) (ops:=ops) (K:=Z02 X k) ho ops.toList 0 (Array.replicate ops.size false) fr L (by simp) (fun j hj=>by omega) (fun j o hj ho=>by have:=(Array.getElem?_eq_some_iff.1 ho).1; simp [this]) (by simpa using hB.2) hL h
 have h2:=Z5v (R:=X.R) (md:=.any) (Q:=W X.P X.R X.B X.Q k) X.ok (fun fr L m a w hk hR=>hk m a w hR) _ _ fr L m a _ hL this hR'
 simpa using h2
def evQ(P:Program)(Γ:Env)(all:List Oper):List Oper→List AV→Z01→(List AV→Z01→Prop)→Prop
 | [],fr,L,K=>K fr L
 | o::r,fr,L,K=>
  Z1D all fr o.guard∧(stepA P Γ all (Z0f all fr o.guard) fr L o).pre∧(stepA P Γ all (Z0f all fr o.guard) fr L o).L=L∧
   evQ P Γ all r (Z1R fr o.dst (mkV o.guard (Z0f all fr o.guard) (stepA P Γ all (Z0f all fr o.guard) fr L o).v)) L K
theorem Z7i{P:Program}{Γ:Env}{all:List Oper}{L:Z01}{K:List AV→Z01→Prop}:∀(l:List Oper) (k:Nat) (fr:List AV),evQ P Γ all l fr L K→evD P Γ all (Zkj L) [] k l fr L K
 | [],_,_,h=>h
 | o::r,k,fr,h=>by
  obtain⟨h1,h2,h3,h4⟩:=h
  refine⟨h1,?_⟩
  simp only [List.contains_nil,Bool.false_eq_true,if_false]
  rw [Zde]
  exact⟨⟨h2,h3,rfl⟩,Z7i r (k+1) _ h4⟩
theorem Z02.drawnQ{X:Cx}{id:Nat}{ops:Array Oper}{k:List It}{fr:List AV}{L:Z01}(hm:X.P.follows .mixedOrders=true)(hB:Region.lexB .any ops=true)(h:evQ X.P X.Γ ops.toList ops.toList fr L (ex X 400 k)) :
  Z02 X (.code (.region id ops true)::k) fr L:=by
 refine Z02.drawn (Zkj L) [] hm hB rfl rfl (Z7i _ _ _ ?_)
 have mono:∀(l:List Oper) (fr:List AV) (L:Z01),evQ X.P X.Γ ops.toList l fr L (ex X 400 k)→evQ X.P X.Γ ops.toList l fr L (Z02 X k):=by
  intro l
  induction l with
  | nil=>intro fr L h; exact holds_of_ex X 400 k fr L h
  | cons o r ih=>intro fr L h; exact⟨h.1,h.2.1,h.2.2.1,ih _ _ h.2.2.2⟩
 exact mono _ _ _ h
def evK(P:Program)(Γ:Env)(all:List Oper)(sk:List Nat):Nat→List Oper→List AV→Z01→(List AV→Z01→Prop)→Prop
 | _,[],fr,L,K=>K fr L
 | k,o::r,fr,L,K=>Z1D all fr o.guard∧
  if sk.contains k then Z0f all fr o.guard=false∧evK P Γ all sk (k+1) r (Z1R fr o.dst (.when false (.bool false))) L K
  else (stepA P Γ all (Z0f all fr o.guard) fr L o).pre∧(stepA P Γ all (Z0f all fr o.guard) fr L o).L=L∧
   evK P Γ all sk (k+1) r (Z1R fr o.dst (mkV o.guard (Z0f all fr o.guard) (stepA P Γ all (Z0f all fr o.guard) fr L o).v)) L K
theorem Z6E{P:Program}{Γ:Env}{ops:Array Oper}{md:Region.Mode}{L0:Z01}{sk:List Nat}{K:List AV→Z01→Prop}:∀(l:List Oper) (k:Nat) (listed:Array Bool) (fr:List AV),(∀j,l[j]?=ops[k+j]?)→(∀j,j<k→listed.getD j true=true)→(∀j o,k≤j→ops[j]?=some o→listed.getD j true=false)→
  Region.lexFrom md ops l.length k listed=true→evK P Γ ops.toList sk k l fr L0 K→Zko P Γ md ops (Zkj L0) (([]:List Nat).contains ·) K l.length listed fr L0
 | [],_,_,_,_,_,_,hB,h=>⟨by simpa [Region.lexFrom] using hB,h⟩
 | o::l,k,listed,fr,hl,hk,hu,hB,h=>by
  have h0:ops[k]?=some o:=by simpa using (hl 0).symm
  simp only [List.length_cons,Region.lexFrom,Bool.and_eq_true] at hB
  obtain⟨⟨hr,hf⟩,hB'⟩:=hB
  obtain⟨hg,h⟩:=h
  have hk':∀j,j<k+1→(listed.setIfInBounds k true).getD j true=true:=fun j hj=>by
   by_cases hjk:k=j
   ·subst hjk
    rcases Nat.lt_or_ge k listed.size with h' | h'
    ·simp [h']
    ·simp [Array.getElem?_eq_none h']
   ·rw [getD_set_ne true hjk]; exact hk j (by omega)
  have hu':∀j o,k+1≤j→ops[j]?=some o→(listed.setIfInBounds k true).getD j true=false:=fun j o' hj ho=>by
   rw [getD_set_ne true (show k≠j by omega)]; exact hu j o' (by omega) ho
  have htw:∀j,TW ops md k j→listed.getD j true=false:=fun j hj=>by
   obtain⟨o',e,ho',_⟩:=hj.step
   exact hu j o' (Nat.le_of_lt hj.lt) ho'
  have hl':∀j,l[j]?=ops[k+1+j]?:=fun j=>by have:=hl (j+1); simpa [Nat.add_assoc,Nat.add_comm 1 j] using this
  have hno:Zl7 ops md []=true:=rfl
  cases hs:sk.contains k with
  | true=>
   rw [hs] at h
   simp only [if_true] at h
   exact Z4m h0 l.length listed fr L0 L0 (Zb3 hno h0 hk hf) htw (by simpa using hr) rfl (by
     unfold Yd
     refine⟨hg,?_⟩
     simp only [List.contains_nil,Bool.false_eq_true,if_false,true_and]
     exact .inr ⟨h.1,trivial⟩)
    (Z6E l (k+1) _ _ hl' hk' hu' hB' h.2)
  | false=>
   rw [hs] at h
   simp only [Bool.false_eq_true,if_false] at h
   exact Z4m h0 l.length listed fr L0 L0 (Zb3 hno h0 hk hf) htw (by simpa using hr) rfl (by
     unfold Yd
     refine⟨hg,?_⟩
     simp only [List.contains_nil,Bool.false_eq_true,if_false,true_and]
     refine .inl fun G hG=>?_
     cases hG
     exact⟨h.1,h.2.1,rfl⟩)
    (Z6E l (k+1) _ _ hl' hk' hu' hB' h.2.2)
theorem Z02.drawnK{X:Cx}{id:Nat}{ops:Array Oper}{k:List It}{fr:List AV}{L:Z01}(sk:List Nat)(hm:X.P.follows .mixedOrders=true)(hB:Region.lexB .any ops=true)(h:evK X.P X.Γ ops.toList sk 0 ops.toList fr L (Z02 X k)) :
  Z02 X (.code (.region id ops true)::k) fr L:=by
 intro m a w hR
 simp only [W]
 simp only [Region.lexB,Bool.and_eq_true] at hB
 refine wpIn_region_any hm ?_
 have hR':RS X.B fr L m a { w with drawn:=w.drawn+1 }:=hR.drew
 have:=Z6E (P:=X.P) (Γ:=X.Γ) (md:=.any) (ops:=ops) (K:=Z02 X k) ops.toList 0 (Array.replicate ops.size false) fr (by simp) (fun j hj=>by omega) (fun j o hj ho=>by have:=(Array.getElem?_eq_some_iff.1 ho).1; simp [this]) (by simpa using hB.2) h
 have h2:=Z5v (R:=X.R) (md:=.any) (H:=Zkj L) (K:=Z02 X k) (Q:=W X.P X.R X.B X.Q k) X.ok (fun fr L m a w hk hR=>hk m a w hR) _ _ fr L m a _ rfl this hR'
 simpa using h2
theorem Z7e(n i:Nat):(List.range n).getD i i=i:=by
 by_cases h:i<n
 ·simp [List.getD,h]
 ·simp [List.getD,h]
theorem ZiV(o:Z0Q):Z1m (fun i=>i) o=o:=by
 cases o <;> simp [Z1m,Z36]
theorem Z06.drop{L0:Z01}{fr:List AV}{L' G:Z01}{fr':List AV}(h:leF fr fr')(hs:Z1z L'.length fr'=true)(ho:L'.all (Z3s L'.length)=true)(hn:L0.length≤L'.length):Z06 L0 fr (L'++G) (fr',L'):=by
 refine Z0q.base (List.range L'.length) ⟨?_,?_,List.nodup_range,?_,hs,ho⟩ hn
 ·have:(fun i=>(List.range L'.length).getD i i)=fun i=>i:=by funext i; exact Z7e _ _
  rw [this,Z36]; exact h
 ·have:(fun i=>(List.range L'.length).getD i i)=fun i=>i:=by funext i; exact Z7e _ _
  simp only [this,ZiV]
  apply List.ext_getElem?
  intro i
  simp only [List.getElem?_map]
  by_cases hi:i<L'.length
  ·simp only [List.getElem?_range hi,Option.map_some,List.getElem?_append_left hi]
   simp [hi]
  ·simp [hi]
 ·rw [List.take_range]; congr 1; omega
theorem Z06.same{L0:Z01}{fr:List AV}{L:Z01}{fr':List AV}(h:leF fr fr')(hs:Z1z L.length fr'=true)(ho:L.all (Z3s L.length)=true)(hn:L0.length≤L.length):Z06 L0 fr L (fr',L):=by
 have:=Z06.drop (G:=[]) h hs ho hn
 rwa [List.append_nil] at this
theorem Z06.keep0{L0:Z01}{fr fr':List AV}{G:Z01}(h:leF fr fr')(hs:Z1z 0 fr'=true)(ho:([]:Z01).all (Z3s 0)=true)(hn:L0.length≤0):Z06 L0 fr (G) (fr',[]):=Z06.drop (L':=[]) (G:=G) h hs ho hn
theorem Z06.keep2{L0:Z01}{fr fr':List AV}{G:Z01}{o0 o1:Z0Q}(h:leF fr fr')(hs:Z1z 2 fr'=true)(ho:[o0,o1].all (Z3s 2)=true)(hn:L0.length≤2):Z06 L0 fr (o0::o1::G) (fr',[o0,o1]):=Z06.drop (L':=[o0,o1]) (G:=G) h hs ho hn
theorem Z06.keep3{L0:Z01}{fr fr':List AV}{G:Z01}{o0 o1 o2:Z0Q}(h:leF fr fr')(hs:Z1z 3 fr'=true)(ho:[o0,o1,o2].all (Z3s 3)=true)(hn:L0.length≤3):Z06 L0 fr (o0::o1::o2::G) (fr',[o0,o1,o2]):=Z06.drop (L':=[o0,o1,o2]) (G:=G) h hs ho hn
theorem Z06.keep4{L0:Z01}{fr fr':List AV}{G:Z01}{o0 o1 o2 o3:Z0Q}(h:leF fr fr')(hs:Z1z 4 fr'=true)(ho:[o0,o1,o2,o3].all (Z3s 4)=true)(hn:L0.length≤4):Z06 L0 fr (o0::o1::o2::o3::G) (fr',[o0,o1,o2,o3]):=Z06.drop (L':=[o0,o1,o2,o3]) (G:=G) h hs ho hn
theorem Z06.keep5{L0:Z01}{fr fr':List AV}{G:Z01}{o0 o1 o2 o3 o4:Z0Q}(h:leF fr fr')(hs:Z1z 5 fr'=true)(ho:[o0,o1,o2,o3,o4].all (Z3s 5)=true)(hn:L0.length≤5):Z06 L0 fr (o0::o1::o2::o3::o4::G) (fr',[o0,o1,o2,o3,o4]):=Z06.drop (L':=[o0,o1,o2,o3,o4]) (G:=G) h hs ho hn
theorem Z06.keep6{L0:Z01}{fr fr':List AV}{G:Z01}{o0 o1 o2 o3 o4 o5:Z0Q}(h:leF fr fr')(hs:Z1z 6 fr'=true)(ho:[o0,o1,o2,o3,o4,o5].all (Z3s 6)=true)(hn:L0.length≤6):Z06 L0 fr (o0::o1::o2::o3::o4::o5::G) (fr',[o0,o1,o2,o3,o4,o5]):=Z06.drop (L':=[o0,o1,o2,o3,o4,o5]) (G:=G) h hs ho hn
theorem Z06.keep7{L0:Z01}{fr fr':List AV}{G:Z01}{o0 o1 o2 o3 o4 o5 o6:Z0Q}(h:leF fr fr')(hs:Z1z 7 fr'=true)(ho:[o0,o1,o2,o3,o4,o5,o6].all (Z3s 7)=true)(hn:L0.length≤7):Z06 L0 fr (o0::o1::o2::o3::o4::o5::o6::G) (fr',[o0,o1,o2,o3,o4,o5,o6]):=Z06.drop (L':=[o0,o1,o2,o3,o4,o5,o6]) (G:=G) h hs ho hn
theorem Z06.flat{fr fr':List AV}(h:leF fr fr')(hs:Z1z 0 fr'=true):Z06 [] fr [] (fr',[]):=Z06.same h hs rfl (Nat.le_refl _)
theorem Z06.one{v res:AV}{G:Z01}(h:v=res)(hs:scp 0 res=true):Z06 [] [v] G ([res],[]):=Z06.drop (L':=[]) (G:=G) (by subst h; exact Z17 _) (by simp [Z1z,hs]) rfl (Nat.le_refl _)
theorem Z35{p q:UInt8→Bool}(h:(List.range 256).all (fun n=>!(p (UInt8.ofNat n)) || q (UInt8.ofNat n))=true)(c:UInt8):p c=true→q c=true:=by
 intro hp
 have:=List.all_eq_true.1 h c.toNat (List.mem_range.2 c.toNat_lt)
 rw [UInt8.ofNat_toNat,hp] at this
 simpa using this
theorem Zab(n:Int)(h:-9223372036854775808≤n∧n≤9223372036854775807):IntKind.i64.wrap n=n:=IntWalk.i64_in n h
def Zc0(w:World):Mem:=⟨fun g=>w.heap[g]?,fun _=>0,fun _=>0⟩
theorem ZgR(w:World)(g:Nat)(o:Obj)(h:(Zc0 w).pobj g=some o):w.heap[g]?=some o:=h
theorem ZiX(w:World):Z03 (Zc0 w) [] (.sl [] 0) (.slice none 0 0):=by
 simp only [Z03]
 exact⟨none,0,rfl,Nat.le_refl _,[],Z0a.nil _ _,.inl rfl⟩
theorem ZcC(w:World)(x:Addr)(len cap:Nat)(us:List Value)(cs:List AV)(hl:len≤cap)(hcr:Z0a (Zc0 w) [] cs us)(hcell:∀i v,us[i]?=some v→w.cell? (x.add i)=some v):Z03 (Zc0 w) [] (.sl cs len) (.slice (some x) len cap):=by
 simp only [Z03]
 refine⟨some x,cap,rfl,hl,us,hcr,?_⟩
 cases us with
 | nil=>exact .inl rfl
 | cons u us=>
  have h0:=hcell 0 u (by simp)
  obtain⟨b,off,spot⟩:=x
  have hs:spot=none:=by simpa [Addr.add] using World.cell?_spot h0
  subst hs
  exact .inr ⟨b,off,rfl,fun i v hi=>by
   have:=hcell i v hi
   refine Mem.pin_heap rfl ?_
   rw [←this]; congr 1; simp only [Addr.add]; split <;> simp_all⟩
def Z11(Γ:Env)(f:FuncId)(sp:Z0n):Env:=fun g=>if g=f then some sp else Γ g
def noE:Env:=fun _=>none
theorem Zlc(P:Program):Z07 P noE:=fun _ _ h=>by cases h
theorem Z07.add{P:Program}{Γ:Env}{f:FuncId}{sp:Z0n}(h:Z07 P Γ)(hc:Con P f sp):Z07 P (Z11 Γ f sp):=by
 intro g s hs
 unfold Z11 at hs
 split at hs
 ·rename_i e; subst e; obtain rfl:=Option.some.inj hs; exact hc
 ·exact h g s hs
theorem Z2Z{α:Type}(p:α→Bool)(d:α):∀(l:List α) (k:Nat),k≤l.length→(∀j,j<k→p (l.getD j d)=true)→(k=l.length∨p (l.getD k d)=false)→l.takeWhile p=l.take k
 | [],k,_,_,_=>by simp
 | c::l,0,_,_,hs=>by
  rcases hs with hs | hs
  ·simp at hs
  ·simp at hs; simp [List.takeWhile_cons,hs]
 | c::l,k+1,hk,h,hs=>by
  have h0:=h 0 (by omega)
  simp only [List.getD_cons_zero] at h0
  rw [List.takeWhile_cons,h0,List.take_succ_cons,Z2Z p d l k (by simpa using hk) (fun j hj=>by simpa using h (j+1) (by omega)) (by simpa using hs)]
  rfl
theorem Zhb(c:Bool):need c (.any)=True:=eq_true fun _=>rfl
theorem Zh8(c:Bool)(k:IntKind)(n:Int):need c (.int k n)=True:=eq_true fun _=>rfl
theorem ZdH(c:Bool)(b:Bool):need c (.bool b)=True:=eq_true fun _=>rfl
theorem Zh3(c:Bool)(l:List UInt8):need c (.str l)=True:=eq_true fun _=>rfl
theorem Zh7(c:Bool)(v:Value):need c (.lit v)=True:=eq_true fun _=>rfl
theorem Zhd(c:Bool)(cs:List AV):need c (.agg cs)=True:=eq_true fun _=>rfl
theorem Zh2(c:Bool)(vs:List AV):need c (.tup vs)=True:=eq_true fun _=>rfl
theorem Zj8(c:Bool)(cs:List AV)(n:Nat):need c (.sl cs n)=True:=eq_true fun _=>rfl
theorem Zh5(c:Bool)(a b d e:Nat):need c (.msl a b d e)=True:=eq_true fun _=>rfl
theorem Zh4(c:Bool)(a b d:Nat):need c (.ref a b d)=True:=eq_true fun _=>rfl
theorem Zja(c:Bool)(cs:List AV):need c (.ip cs)=True:=eq_true fun _=>rfl
theorem Zjb(c:Bool)(f:Fn)(a b:List AV):need c (.fn f a b)=True:=eq_true fun _=>rfl
theorem Zh9(c:Bool)(t:TypeId)(x:AV):need c (.ifc t x)=True:=eq_true fun _=>rfl
theorem Zhc(c:Bool)(b:Bool)(x y:AV):need c (.alt b x y)=True:=eq_true fun _=>rfl
theorem Zj7(c:Bool)(p q:Prop):need c (.ub p q)=True:=eq_true fun _=>rfl
theorem Zha(c:Bool)(a b d e:Nat):need c (.csl a b d e)=True:=eq_true fun _=>rfl
theorem Zh6(c:Bool)(k:Option IntKind)(f:Key→Option Value):need c (.mpr k f)=True:=eq_true fun _=>rfl
theorem Zj9(c:Bool)(i:Nat):need c (.mp i)=True:=eq_true fun _=>rfl
theorem Z39(l:List UInt8):Z0S (l.map Z05)=true:=by induction l <;> simp_all [Z0S,Z05,Z27]
theorem Z9h(L:Z01)(id v':Nat)(xs ys:List AV):Z5a L id v' (xs++ys)=Z5a L id v' xs++Z5a L id v' ys:=by induction xs <;> simp_all [Z5a]
theorem Z9x(ρ:Nat→Nat)(xs ys:List AV):renL ρ (xs++ys)=renL ρ xs++renL ρ ys:=by induction xs <;> simp_all [renL]
theorem Z9t(n:Nat)(xs ys:List AV):Z1z n (xs++ys)=(Z1z n xs && Z1z n ys):=by induction xs <;> simp_all [Z1z,Bool.and_assoc]
theorem Z3T(xs ys:List AV):Z0S (xs++ys)=(Z0S xs && Z0S ys):=by induction xs <;> simp_all [Z0S,Bool.and_assoc]
def flat:AV→Bool
 | .int ..=>true
 | .bool _=>true
 | .str _=>true
 | _=>false
theorem ZbP{x:AV}(h:flat x=true):(∃k n,x=.int k n)∨(∃b,x=.bool b)∨(∃l,x=.str l):=by
 cases x <;> simp_all [flat]
theorem Z8R{xs:List AV}(h:xs.all flat=true):Z0S xs=true:=by
 induction xs with
 | nil=>rfl
 | cons x xs ih=>
  rw [List.all_cons,Bool.and_eq_true] at h
  simp only [Z0S,ih h.2,Bool.and_true]
  rcases ZbP h.1 with ⟨_,_,rfl⟩ | ⟨_,rfl⟩ | ⟨_,rfl⟩ <;> rfl
theorem Zm7(L:Z01)(keep:Nat→Bool)(sub:AV→AV):Z0X L keep sub (.any)=.any:=rfl
theorem Zlv(L:Z01)(keep:Nat→Bool)(sub:AV→Prop):Z1n L keep sub (.any)=True:=rfl
theorem Zmn(L:Z01)(keep:Nat→Bool)(sub:AV→Bool):Z40 L keep sub (.any)=false:=rfl
theorem Zm4(L:Z01)(keep:Nat→Bool)(sub:AV→AV)(k:IntKind)(n:Int):Z0X L keep sub (.int k n)=.int k n:=rfl
theorem Zls(L:Z01)(keep:Nat→Bool)(sub:AV→Prop)(k:IntKind)(n:Int):Z1n L keep sub (.int k n)=True:=rfl
theorem Zmk(L:Z01)(keep:Nat→Bool)(sub:AV→Bool)(k:IntKind)(n:Int):Z40 L keep sub (.int k n)=false:=rfl
theorem Zk5(L:Z01)(keep:Nat→Bool)(sub:AV→AV)(b:Bool):Z0X L keep sub (.bool b)=.bool b:=rfl
theorem Zjn(L:Z01)(keep:Nat→Bool)(sub:AV→Prop)(b:Bool):Z1n L keep sub (.bool b)=True:=rfl
theorem Zkd(L:Z01)(keep:Nat→Bool)(sub:AV→Bool)(b:Bool):Z40 L keep sub (.bool b)=false:=rfl
theorem ZlZ(L:Z01)(keep:Nat→Bool)(sub:AV→AV)(l:List UInt8):Z0X L keep sub (.str l)=.str l:=rfl
theorem Zln(L:Z01)(keep:Nat→Bool)(sub:AV→Prop)(l:List UInt8):Z1n L keep sub (.str l)=True:=rfl
theorem Zmf(L:Z01)(keep:Nat→Bool)(sub:AV→Bool)(l:List UInt8):Z40 L keep sub (.str l)=false:=rfl
theorem Zm3(L:Z01)(keep:Nat→Bool)(sub:AV→AV)(v:Value):Z0X L keep sub (.lit v)=.lit v:=rfl
theorem Zlr(L:Z01)(keep:Nat→Bool)(sub:AV→Prop)(v:Value):Z1n L keep sub (.lit v)=True:=rfl
theorem Zmj(L:Z01)(keep:Nat→Bool)(sub:AV→Bool)(v:Value):Z40 L keep sub (.lit v)=false:=rfl
theorem ZlY(L:Z01)(keep:Nat→Bool)(sub:AV→AV)(vs:List AV):Z0X L keep sub (.tup vs)=.tup vs:=rfl
theorem Zlm(L:Z01)(keep:Nat→Bool)(sub:AV→Prop)(vs:List AV):Z1n L keep sub (.tup vs)=True:=rfl
theorem Zme(L:Z01)(keep:Nat→Bool)(sub:AV→Bool)(vs:List AV):Z40 L keep sub (.tup vs)=false:=rfl
theorem ZoQ(L:Z01)(keep:Nat→Bool)(sub:AV→AV)(cs:List AV)(n:Nat):Z0X L keep sub (.sl cs n)=.sl cs n:=rfl
theorem Zo2(L:Z01)(keep:Nat→Bool)(sub:AV→Prop)(cs:List AV)(n:Nat):Z1n L keep sub (.sl cs n)=True:=rfl
theorem Zp5(L:Z01)(keep:Nat→Bool)(sub:AV→Bool)(cs:List AV)(n:Nat):Z40 L keep sub (.sl cs n)=false:=rfl
theorem ZoS(L:Z01)(keep:Nat→Bool)(sub:AV→AV)(cs:List AV):Z0X L keep sub (.ip cs)=.ip cs:=rfl
theorem Zo4(L:Z01)(keep:Nat→Bool)(sub:AV→Prop)(cs:List AV):Z1n L keep sub (.ip cs)=True:=rfl
theorem Zp7(L:Z01)(keep:Nat→Bool)(sub:AV→Bool)(cs:List AV):Z40 L keep sub (.ip cs)=false:=rfl
theorem Zk4(L:Z01)(keep:Nat→Bool)(sub:AV→AV)(c:Bool)(x:AV):Z0X L keep sub (.when c x)=.when c x:=rfl
theorem Zjm(L:Z01)(keep:Nat→Bool)(sub:AV→Prop)(c:Bool)(x:AV):Z1n L keep sub (.when c x)=True:=rfl
theorem Zkc(L:Z01)(keep:Nat→Bool)(sub:AV→Bool)(c:Bool)(x:AV):Z40 L keep sub (.when c x)=false:=rfl
theorem Zm8(L:Z01)(keep:Nat→Bool)(sub:AV→AV)(c:Bool)(x y:AV):Z0X L keep sub (.alt c x y)=.alt c x y:=rfl
theorem Zlw(L:Z01)(keep:Nat→Bool)(sub:AV→Prop)(c:Bool)(x y:AV):Z1n L keep sub (.alt c x y)=True:=rfl
theorem Zmo(L:Z01)(keep:Nat→Bool)(sub:AV→Bool)(c:Bool)(x y:AV):Z40 L keep sub (.alt c x y)=false:=rfl
theorem ZoP(L:Z01)(keep:Nat→Bool)(sub:AV→AV)(p q:Prop):Z0X L keep sub (.ub p q)=.ub p q:=rfl
theorem Zo1(L:Z01)(keep:Nat→Bool)(sub:AV→Prop)(p q:Prop):Z1n L keep sub (.ub p q)=True:=rfl
theorem Zp4(L:Z01)(keep:Nat→Bool)(sub:AV→Bool)(p q:Prop):Z40 L keep sub (.ub p q)=false:=rfl
theorem ZoR(L:Z01)(keep:Nat→Bool)(sub:AV→AV)(i:Nat):Z0X L keep sub (.mp i)=cond (keep i) (.mp i) (match L[i]? with | some (.raw (.map kd f))=>.mpr kd f | _=>.mp i):=rfl
theorem Zm2(L:Z01)(keep:Nat→Bool)(sub:AV→AV)(k:Option IntKind)(f:Key→Option Value):Z0X L keep sub (.mpr k f)=.mpr k f:=rfl
theorem Zlq(L:Z01)(keep:Nat→Bool)(sub:AV→Prop)(k:Option IntKind)(f:Key→Option Value):Z1n L keep sub (.mpr k f)=True:=rfl
theorem Zmi(L:Z01)(keep:Nat→Bool)(sub:AV→Bool)(k:Option IntKind)(f:Key→Option Value):Z40 L keep sub (.mpr k f)=false:=rfl
theorem Zo3(L:Z01)(keep:Nat→Bool)(sub:AV→Prop)(i:Nat):Z1n L keep sub (.mp i)=True:=rfl
theorem Zp6(L:Z01)(keep:Nat→Bool)(sub:AV→Bool)(i:Nat):Z40 L keep sub (.mp i)=!keep i:=rfl
theorem Zm9(L:Z01)(keep:Nat→Bool)(sub:AV→AV)(cs:List AV):Z0X L keep sub (.agg cs)=.agg (cs.map sub):=rfl
theorem Zlx(L:Z01)(keep:Nat→Bool)(sub:AV→Prop)(cs:List AV):Z1n L keep sub (.agg cs)=(∀x∈cs,sub x):=rfl
theorem Zmp(L:Z01)(keep:Nat→Bool)(sub:AV→Bool)(cs:List AV):Z40 L keep sub (.agg cs)=cs.any sub:=rfl
theorem Zm5(L:Z01)(keep:Nat→Bool)(sub:AV→AV)(t:TypeId)(x:AV):Z0X L keep sub (.ifc t x)=.ifc t (sub x):=rfl
theorem Zlt(L:Z01)(keep:Nat→Bool)(sub:AV→Prop)(t:TypeId)(x:AV):Z1n L keep sub (.ifc t x)=sub x:=rfl
theorem Zml(L:Z01)(keep:Nat→Bool)(sub:AV→Bool)(t:TypeId)(x:AV):Z40 L keep sub (.ifc t x)=sub x:=rfl
theorem ZoT(L:Z01)(keep:Nat→Bool)(sub:AV→AV)(f:Fn)(a b:List AV):Z0X L keep sub (.fn f a b)=.fn f (a.map sub) (b.map sub):=rfl
theorem Zo5(L:Z01)(keep:Nat→Bool)(sub:AV→Prop)(f:Fn)(a b:List AV):Z1n L keep sub (.fn f a b)=((∀x∈a,sub x)∧∀x∈b,sub x):=rfl
theorem Zp8(L:Z01)(keep:Nat→Bool)(sub:AV→Bool)(f:Fn)(a b:List AV):Z40 L keep sub (.fn f a b)=(a.any sub || b.any sub):=rfl
theorem Zm1(L:Z01)(keep:Nat→Bool)(sub:AV→AV)(id ver off n:Nat):Z0X L keep sub (.msl id ver off n)=cond (keep id) (.msl id ver off n) (.sl ((((Z0L L id).drop (off*Z1K L id)).take (n*Z1K L id)).map sub) n):=rfl
theorem Zlp(L:Z01)(keep:Nat→Bool)(sub:AV→Prop)(id ver off n:Nat):Z1n L keep sub (.msl id ver off n)=cond (keep id) True (Z14 L id ver∧∀x∈((Z0L L id).drop (off*Z1K L id)).take (n*Z1K L id),sub x):=rfl
theorem Zmh(L:Z01)(keep:Nat→Bool)(sub:AV→Bool)(id ver off n:Nat):Z40 L keep sub (.msl id ver off n)=!keep id:=rfl
theorem Zm6(L:Z01)(keep:Nat→Bool)(sub:AV→AV)(id ver off n:Nat):Z0X L keep sub (.csl id ver off n)=cond (keep id) (.csl id ver off n) (.sl ((((Z0L L id).drop (off*Z1K L id)).take (n*Z1K L id)).map sub) n):=rfl
theorem Zlu(L:Z01)(keep:Nat→Bool)(sub:AV→Prop)(id ver off n:Nat):Z1n L keep sub (.csl id ver off n)=cond (keep id) True (Z14 L id ver∧∀x∈((Z0L L id).drop (off*Z1K L id)).take (n*Z1K L id),sub x):=rfl
theorem Zmm(L:Z01)(keep:Nat→Bool)(sub:AV→Bool)(id ver off n:Nat):Z40 L keep sub (.csl id ver off n)=!keep id:=rfl
theorem Zm0(L:Z01)(keep:Nat→Bool)(sub:AV→AV)(id ver off:Nat):Z0X L keep sub (.ref id ver off)=cond (keep id || !isRow L id) (.ref id ver off) (.ip (((Z0L L id).drop off).map sub)):=rfl
theorem Zlo(L:Z01)(keep:Nat→Bool)(sub:AV→Prop)(id ver off:Nat):Z1n L keep sub (.ref id ver off)=cond (keep id || !isRow L id) True (Z14 L id ver∧∀x∈(Z0L L id).drop off,sub x):=rfl
theorem Zmg(L:Z01)(keep:Nat→Bool)(sub:AV→Bool)(id ver off:Nat):Z40 L keep sub (.ref id ver off)=!(keep id || !isRow L id):=rfl
theorem ZoY(L:Z01)(k:Nat→Bool)(x:AV):d1 L k x=Z0X L k Z7j x:=rfl
theorem Zo9(L:Z01)(k:Nat→Bool)(x:AV):l1 L k x=Z1n L k ZdS x:=rfl
theorem Zpc(L:Z01)(k:Nat→Bool)(x:AV):b1 L k x=Z40 L k Zmd x:=rfl
theorem ZoX(L:Z01)(k:Nat→Bool)(x:AV):d2 L k x=Z0X L k (d1 L k) x:=rfl
theorem Zo8(L:Z01)(k:Nat→Bool)(x:AV):l2 L k x=Z1n L k (l1 L k) x:=rfl
theorem Zpb(L:Z01)(k:Nat→Bool)(x:AV):b2 L k x=Z40 L k (b1 L k) x:=rfl
theorem ZoW(L:Z01)(k:Nat→Bool)(x:AV):d3 L k x=Z0X L k (d2 L k) x:=rfl
theorem Zo7(L:Z01)(k:Nat→Bool)(x:AV):l3 L k x=Z1n L k (l2 L k) x:=rfl
theorem Zpa(L:Z01)(k:Nat→Bool)(x:AV):b3 L k x=Z40 L k (b2 L k) x:=rfl
theorem ZoZ(x:AV):Z7j x=x:=rfl
theorem Zoa(x:AV):ZdS x=True:=rfl
theorem Zpd(x:AV):Zmd x=false:=rfl
theorem ZoU(L:Z01)(x:AV):Z56 L x=Z0X L keep0 (d3 L keep0) x:=rfl
theorem Zo6(L:Z01)(x:AV):lent L x=Z1n L keep0 (l3 L keep0) x:=rfl
theorem Zp9(L:Z01)(x:AV):Z9S L x=Z40 L keep0 (b3 L keep0) x:=rfl
theorem ZoO(L:Z01)(ids:List Nat)(x:AV):Z3W L ids x=Z0X L (Z3y ids) (d3 L (Z3y ids)) x:=rfl
theorem Zo0(L:Z01)(ids:List Nat)(x:AV):Zhj L ids x=Z1n L (Z3y ids) (l3 L (Z3y ids)) x:=rfl
theorem Zp3(L:Z01)(ids:List Nat)(x:AV):Z4p L ids x=Z40 L (Z3y ids) (b3 L (Z3y ids)) x:=rfl
theorem k0_at(i:Nat):keep0 i=false:=rfl
theorem Zob(ids:List Nat)(i:Nat):Z3y ids i=ids.contains i:=rfl
theorem Zle(xs:List AV):xs.map Z7j=xs:=List.map_id xs
theorem ZlJ(x0 x1 x2 x3 x4 x5 x6 x7:AV)(l:List AV)(n:Nat)(d:AV):(x0::x1::x2::x3::x4::x5::x6::x7::l).getD (n+8) d=l.getD n d:=rfl
theorem ZmQ(x0 x1 x2 x3 x4 x5 x6 x7:AV)(l:List AV)(n:Nat)(d:AV):(x0::x1::x2::x3::x4::x5::x6::x7::l).set (n+8) d=x0::x1::x2::x3::x4::x5::x6::x7::l.set n d:=rfl
attribute [push_cast high] ZlJ ZmQ
attribute [push_cast] lkT tyB Zm7 Zlv Zmn Zm4 Zls Zmk Zk5 Zjn Zkd ZlZ Zln Zmf Zm3 Zlr Zmj ZlY Zlm Zme ZoQ Zo2 Zp5 ZoS Zo4 Zp7 Zk4 Zjm Zkc Zm8 Zlw Zmo ZoP Zo1 Zp4 Zo3 ZoR Zp6 Zm2 Zlq Zmi Zh6 Zm9 Zlx Zmp Zm5 Zlt Zml ZoT Zo5 Zp8 Zm1 Zlp Zmh Zm6 Zlu Zmm Zm0 Zlo Zmg ZoY Zo9 Zpc ZoX Zo8 Zpb ZoW Zo7 Zpa ZoZ Zoa Zpd ZoU Zo6 Zp9 ZoO Zo0 Zp3 k0_at Zob Zle Z79 ZbB Z70 Zal Z85 Z4V Z3a Z6f ZbI Key.kd exists_eq_left' List.all_cons List.all_nil List.nodup_cons List.nodup_nil Z3s Z2F Z2k Z9h Z9x Z9t Z3T Z4F Z5a ZiH Z6N Zj7 Zha Zj9 Z39 Zi7 Z8X eqFs Zhx Zik Z3b exU ZfY liftG Zgn Z2o Z8x Z3W Z4p Zhj evQ Nat.mul_one Nat.one_mul Nat.zero_mul Nat.mul_zero List.length_map List.length_drop List.length_take List.length_append Zb6 Z8V evD Zde Z4G Z4H Z5c Zki List.contains_nil List.contains_cons List.set_nil Z6k Z1z scp Z3v Z0S Z27 Z4a ren renL Z1m ZhK Z3i ZkF Zkg ex ZbQ stepA Zjh ZhP Z3t List.any_cons List.any_nil Bool.or_true Z16 ZfK ev opd ofV Z4o Z1D Z0f mkV Z1R Z2N Z5H ZaK AV.cond AV.bare AV.cells Zhb Zh8 ZdH Zh3 Zh7 Zhd Zh2 Zj8 Zh5 Zh4 Zja Zjb Zh9 Zhc ZdG ZbG Zdq Z6J ZkX ZnE Zkn ZmC Zmx unR ZfI Zkh Z7b Z2C Z8H Zam Z6F ZmG Z90 Z2T Z7h Z2D Z4i Z1C Z6P Z5q ZfG Zmr Z8g Z0B Z3J Z0l Z5r Z8r ZdD Z3n Z3m Z4k Z32 Rz.also bad Z4Y Z8w Z0L Z1K Z1t isRow Z14 Z3A Z2P Z6Q Z23 Z0b Z4X Z49 fillA reps Z4j List.getD_cons_zero List.getD_cons_succ List.set_cons_zero List.set_cons_succ List.getElem?_cons_zero List.getElem?_cons_succ List.length_cons List.length_nil List.replicate List.cons_append List.nil_append List.append_nil List.map_cons List.map_nil List.toList_toArray Option.bind_some Option.bind_none Option.map_some Option.map_none List.flatten_cons List.flatten_nil List.take_zero List.take_succ_cons List.drop_zero List.drop_succ_cons List.take_nil List.drop_nil List.getElem?_nil List.size_toArray List.getElem?_toArray true_and and_true ne_eq not_true_eq_false not_false_eq_true imp_self implies_true forall_const Bool.false_eq_true Bool.true_eq_false false_implies if_true if_false decide_true decide_false Bool.not_true Bool.not_false Bool.true_and Bool.and_true Bool.false_and Bool.and_false Bool.or_true Bool.true_or Bool.or_false Bool.false_or beq_self_eq_true List.not_mem_nil List.mem_cons or_false forall_eq forall_eq_or_imp List.any_cons List.any_nil beq_true beq_false Option.isSome_some Option.isSome_none Option.some.injEq eq_self TypeDesc.int.injEq exists_eq' exists_eq exists_eq_left and_self Option.isNone_some Option.isNone_none TypeDesc.slice.injEq Nat.add_zero Nat.zero_add Int.toNat_natCast false_or true_or or_self false_and and_false cond_true cond_false Bool.cond_self Z5h Z4w
theorem Z06.sameA{L0:Z01}{fr:List AV}{L:Z01}{fr':List AV}(h:leF fr fr':=by first | exact Z17 _ | (simp only [leF,true_and,and_true,and_self]; done) | (simp [leF]; done))(hs:Z1z L.length fr'=true:=by (simp only [push_cast,reduceCtorEq,Nat.reduceAdd,Nat.reduceMul,Nat.reduceSub,Nat.reduceBEq,Nat.reduceGT,Nat.reduceLT,Int.toNat_zero,Nat.reduceLeDiff,Int.reduceEq,Int.reduceLT,Int.reduceLE]; done))(ho:L.all (Z3s L.length)=true:=by (simp only [push_cast,reduceCtorEq,Nat.reduceAdd,Nat.reduceMul,Nat.reduceSub,Nat.reduceBEq,Nat.reduceGT,Nat.reduceLT,Int.toNat_zero,Nat.reduceLeDiff,Int.reduceEq,Int.reduceLT,Int.reduceLE]; done))(hn:L0.length≤L.length:=by first | decide | simp):Z06 L0 fr L (fr',L):=Z06.same h hs ho hn
theorem Z06.keep0A{L0:Z01}{fr fr':List AV}{G:Z01}(h:leF fr fr':=by first | exact Z17 _ | (simp only [leF,true_and,and_true,and_self]; done) | (simp [leF]; done))(hs:Z1z 0 fr'=true:=by (simp only [push_cast,reduceCtorEq,Nat.reduceAdd,Nat.reduceMul,Nat.reduceSub,Nat.reduceBEq,Nat.reduceGT,Nat.reduceLT,Int.toNat_zero,Nat.reduceLeDiff,Int.reduceEq,Int.reduceLT,Int.reduceLE]; done))(ho:([]:Z01).all (Z3s 0)=true:=by first | rfl | (simp only [push_cast,reduceCtorEq,Nat.reduceAdd,Nat.reduceMul,Nat.reduceSub,Nat.reduceBEq,Nat.reduceGT,Nat.reduceLT,Int.toNat_zero,Nat.reduceLeDiff,Int.reduceEq,Int.reduceLT,Int.reduceLE]; done))(hn:L0.length≤0:=by first | decide | simp):Z06 L0 fr (G) (fr',[]):=Z06.keep0 h hs ho hn
theorem Z06.keep2A{L0:Z01}{fr fr':List AV}{G:Z01}{o0 o1:Z0Q}(h:leF fr fr':=by first | exact Z17 _ | (simp only [leF,true_and,and_true,and_self]; done) | (simp [leF]; done))(hs:Z1z 2 fr'=true:=by (simp only [push_cast,reduceCtorEq,Nat.reduceAdd,Nat.reduceMul,Nat.reduceSub,Nat.reduceBEq,Nat.reduceGT,Nat.reduceLT,Int.toNat_zero,Nat.reduceLeDiff,Int.reduceEq,Int.reduceLT,Int.reduceLE]; done))(ho:[o0,o1].all (Z3s 2)=true:=by first | rfl | (simp only [push_cast,reduceCtorEq,Nat.reduceAdd,Nat.reduceMul,Nat.reduceSub,Nat.reduceBEq,Nat.reduceGT,Nat.reduceLT,Int.toNat_zero,Nat.reduceLeDiff,Int.reduceEq,Int.reduceLT,Int.reduceLE]; done))(hn:L0.length≤2:=by first | decide | simp):Z06 L0 fr (o0::o1::G) (fr',[o0,o1]):=Z06.keep2 h hs ho hn
theorem Z06.keep3A{L0:Z01}{fr fr':List AV}{G:Z01}{o0 o1 o2:Z0Q}(h:leF fr fr':=by first | exact Z17 _ | (simp only [leF,true_and,and_true,and_self]; done) | (simp [leF]; done))(hs:Z1z 3 fr'=true:=by (simp only [push_cast,reduceCtorEq,Nat.reduceAdd,Nat.reduceMul,Nat.reduceSub,Nat.reduceBEq,Nat.reduceGT,Nat.reduceLT,Int.toNat_zero,Nat.reduceLeDiff,Int.reduceEq,Int.reduceLT,Int.reduceLE]; done))(ho:[o0,o1,o2].all (Z3s 3)=true:=by first | rfl | (simp only [push_cast,reduceCtorEq,Nat.reduceAdd,Nat.reduceMul,Nat.reduceSub,Nat.reduceBEq,Nat.reduceGT,Nat.reduceLT,Int.toNat_zero,Nat.reduceLeDiff,Int.reduceEq,Int.reduceLT,Int.reduceLE]; done))(hn:L0.length≤3:=by first | decide | simp):Z06 L0 fr (o0::o1::o2::G) (fr',[o0,o1,o2]):=Z06.keep3 h hs ho hn
theorem Z06.keep4A{L0:Z01}{fr fr':List AV}{G:Z01}{o0 o1 o2 o3:Z0Q}(h:leF fr fr':=by first | exact Z17 _ | (simp only [leF,true_and,and_true,and_self]; done) | (simp [leF]; done))(hs:Z1z 4 fr'=true:=by (simp only [push_cast,reduceCtorEq,Nat.reduceAdd,Nat.reduceMul,Nat.reduceSub,Nat.reduceBEq,Nat.reduceGT,Nat.reduceLT,Int.toNat_zero,Nat.reduceLeDiff,Int.reduceEq,Int.reduceLT,Int.reduceLE]; done))(ho:[o0,o1,o2,o3].all (Z3s 4)=true:=by first | rfl | (simp only [push_cast,reduceCtorEq,Nat.reduceAdd,Nat.reduceMul,Nat.reduceSub,Nat.reduceBEq,Nat.reduceGT,Nat.reduceLT,Int.toNat_zero,Nat.reduceLeDiff,Int.reduceEq,Int.reduceLT,Int.reduceLE]; done))(hn:L0.length≤4:=by first | decide | simp):Z06 L0 fr (o0::o1::o2::o3::G) (fr',[o0,o1,o2,o3]):=Z06.keep4 h hs ho hn
theorem Z06.keep5A{L0:Z01}{fr fr':List AV}{G:Z01}{o0 o1 o2 o3 o4:Z0Q}(h:leF fr fr':=by first | exact Z17 _ | (simp only [leF,true_and,and_true,and_self]; done) | (simp [leF]; done))(hs:Z1z 5 fr'=true:=by (simp only [push_cast,reduceCtorEq,Nat.reduceAdd,Nat.reduceMul,Nat.reduceSub,Nat.reduceBEq,Nat.reduceGT,Nat.reduceLT,Int.toNat_zero,Nat.reduceLeDiff,Int.reduceEq,Int.reduceLT,Int.reduceLE]; done))(ho:[o0,o1,o2,o3,o4].all (Z3s 5)=true:=by first | rfl | (simp only [push_cast,reduceCtorEq,Nat.reduceAdd,Nat.reduceMul,Nat.reduceSub,Nat.reduceBEq,Nat.reduceGT,Nat.reduceLT,Int.toNat_zero,Nat.reduceLeDiff,Int.reduceEq,Int.reduceLT,Int.reduceLE]; done))(hn:L0.length≤5:=by first | decide | simp):Z06 L0 fr (o0::o1::o2::o3::o4::G) (fr',[o0,o1,o2,o3,o4]):=Z06.keep5 h hs ho hn
theorem Z06.keep6A{L0:Z01}{fr fr':List AV}{G:Z01}{o0 o1 o2 o3 o4 o5:Z0Q}(h:leF fr fr':=by first | exact Z17 _ | (simp only [leF,true_and,and_true,and_self]; done) | (simp [leF]; done))(hs:Z1z 6 fr'=true:=by (simp only [push_cast,reduceCtorEq,Nat.reduceAdd,Nat.reduceMul,Nat.reduceSub,Nat.reduceBEq,Nat.reduceGT,Nat.reduceLT,Int.toNat_zero,Nat.reduceLeDiff,Int.reduceEq,Int.reduceLT,Int.reduceLE]; done))(ho:[o0,o1,o2,o3,o4,o5].all (Z3s 6)=true:=by first | rfl | (simp only [push_cast,reduceCtorEq,Nat.reduceAdd,Nat.reduceMul,Nat.reduceSub,Nat.reduceBEq,Nat.reduceGT,Nat.reduceLT,Int.toNat_zero,Nat.reduceLeDiff,Int.reduceEq,Int.reduceLT,Int.reduceLE]; done))(hn:L0.length≤6:=by first | decide | simp):Z06 L0 fr (o0::o1::o2::o3::o4::o5::G) (fr',[o0,o1,o2,o3,o4,o5]):=Z06.keep6 h hs ho hn
theorem Z06.keep7A{L0:Z01}{fr fr':List AV}{G:Z01}{o0 o1 o2 o3 o4 o5 o6:Z0Q}(h:leF fr fr':=by first | exact Z17 _ | (simp only [leF,true_and,and_true,and_self]; done) | (simp [leF]; done))(hs:Z1z 7 fr'=true:=by (simp only [push_cast,reduceCtorEq,Nat.reduceAdd,Nat.reduceMul,Nat.reduceSub,Nat.reduceBEq,Nat.reduceGT,Nat.reduceLT,Int.toNat_zero,Nat.reduceLeDiff,Int.reduceEq,Int.reduceLT,Int.reduceLE]; done))(ho:[o0,o1,o2,o3,o4,o5,o6].all (Z3s 7)=true:=by first | rfl | (simp only [push_cast,reduceCtorEq,Nat.reduceAdd,Nat.reduceMul,Nat.reduceSub,Nat.reduceBEq,Nat.reduceGT,Nat.reduceLT,Int.toNat_zero,Nat.reduceLeDiff,Int.reduceEq,Int.reduceLT,Int.reduceLE]; done))(hn:L0.length≤7:=by first | decide | simp):Z06 L0 fr (o0::o1::o2::o3::o4::o5::o6::G) (fr',[o0,o1,o2,o3,o4,o5,o6]):=Z06.keep7 h hs ho hn
open Go.RowKit
inductive Sh where
 | int (k:IntKind)
 | bool
 | str
 | sl (s:Sh)
 | st (fs:List Sh)
mutual
def Sh.n:Sh→Nat
 | .st fs=>Sh.ns fs
 | .int _=>1
 | .bool=>1
 | .str=>1
 | .sl _=>1
def Sh.ns:List Sh→Nat
 | []=>0
 | f::fs=>f.n+Sh.ns fs
end
inductive Dv where
 | int (k:IntKind) (n:Int)
 | bool (b:Bool)
 | str (l:List UInt8)
 | sl (es:List Dv)
 | st (fs:List Dv)
 deriving Inhabited
mutual
def Dv.cells:Dv→List AV
 | .int k n=>[.int k n]
 | .bool b=>[.bool b]
 | .str l=>[.str l]
 | .sl es=>[.sl (Dv.cellsL es) es.length]
 | .st fs=>Dv.cellsL fs
def Dv.cellsL:List Dv→List AV
 | []=>[]
 | v::vs=>v.cells++Dv.cellsL vs
end
def Dv.av:Dv→AV
 | .st fs=>.agg (Dv.cellsL fs)
 | v=>v.cells.getD 0 .any
mutual
def Dv.vb:Dv→Nat
 | .int ..=>1
 | .bool _=>1
 | .str l=>l.length+1
 | .sl es=>Dv.vbL es+1
 | .st fs=>Dv.vbL fs+1
def Dv.vbL:List Dv→Nat
 | []=>0
 | v::vs=>v.vb+Dv.vbL vs
end
mutual
def Dv.has:Sh→Dv→Prop
 | .int k,.int k' n=>k'=k∧(Lit.int k n).wf=true
 | .bool,.bool _=>True
 | .str,.str l=>l.length≤maxLen
 | .sl s,.sl es=>es.length≤maxLen∧∀e∈es,Dv.has s e
 | .st ss,.st vs=>Dv.hasL ss vs
 | _,_=>False
def Dv.hasL:List Sh→List Dv→Prop
 | [],[]=>True
 | s::ss,v::vs=>Dv.has s v∧Dv.hasL ss vs
 | _,_=>False
end
mutual
def bk{H:Type}:DataW H→Nat
 | .lit (.string bytes)=>bytes.length+1
 | .lit _=>1
 | .nil=>1
 | .ptr d=>bk d+1
 | .slice elems spare=>bkL elems+bkL spare+1
 | .agg parts=>bkL parts+1
 | .iface _ d=>bk d+1
 | .map entries=>bkE entries+1
 | .held _=>1
def bkL{H:Type}:List (DataW H)→Nat
 | []=>0
 | d::r=>bk d+bkL r
def bkE{H:Type}:List (Lit×DataW H)→Nat
 | []=>0
 | x::r=>bk1 x+bkE r
def bk1{H:Type}:Lit×DataW H→Nat
 | (.string bytes,d)=>bytes.length+bk d+1
 | (_,d)=>bk d+1
end
def Z5m(P:Program)(ok:TypeId→Sh→Bool):Nat→List Field→List Sh→Bool
 | _,[],[]=>true
 | off,f::fs,s::ss=>f.offset == off && (P.cellsOf f.type == s.n && (ok f.type s && Z5m P ok (off+s.n) fs ss))
 | _,_,_=>false
def shOk(P:Program):Nat→TypeId→Sh→Bool
 | 0,_,_=>false
 | n+1,t,s=>match P.underlying t,s with
  | some (.int k),.int k'=>decide (k=k')
  | some .bool,.bool=>true
  | some .string,.str=>true
  | some (.slice e),.sl s=>P.cellsOf e == s.n && shOk P n e s
  | some (.struct fs),.st ss=>P.cellsOf t == Sh.ns ss && Z5m P (shOk P n) 0 fs.toList ss
  | _,_=>false
section
variable {H:Type} {enc:TypeId×Value→H} {P:Program} {w:World} {base:Nat} {spare:Nat→Bool} {held:Bool}
def ZfX(w:World)(s:Sh)(cs:List Value)(d:DataW H):Prop:=∃v,Dv.has s v∧Z0a (Zc0 w) [] v.cells cs∧v.vb≤bk d
theorem Z6d(ok:TypeId→Sh→Bool)(cs:List Value)(r:TypeId→List Value→Option (DataW H×List MemPlace))(hr:∀t s cs x,ok t s=true→r t cs=some x→ZfX w s cs x.1) :
  ∀(fs:List Field) (ss:List Sh) (off:Nat) (xs:List (DataW H×List MemPlace)),Z5m P ok off fs ss=true→xs.length=fs.length→off+Sh.ns ss≤cs.length→
   (∀(i:Nat) (f:Field),fs[i]?=some f→r f.type ((cs.drop f.offset).take (P.cellsOf f.type))=xs[i]?)→
   ∃vs,Dv.hasL ss vs∧Z0a (Zc0 w) [] (Dv.cellsL vs) ((cs.drop off).take (Sh.ns ss))∧Dv.vbL vs≤bkL (xs.map (·.1))
 | [],[],off,xs,_,_,_,_=>⟨[],by simp [Dv.hasL],by simp [Dv.cellsL,Sh.ns,Z0a],by simp [Dv.vbL]⟩
 | f::fs,s::ss,off,x::xs,hB,hl,hlen,h=>by
  simp only [Z5m,Bool.and_eq_true,beq_iff_eq] at hB
  obtain⟨h1,h2,h3,h4⟩:=hB
  simp only [Sh.ns] at hlen
  have h0:=h 0 f rfl
  simp only [List.getElem?_cons_zero,h1,h2] at h0
  obtain⟨v,k1,k2,k3⟩:=hr _ _ _ _ h3 h0
  obtain⟨vs,q1,q2,q3⟩:=Z6d ok cs r hr fs ss (off+s.n) xs h4 (by simpa using hl) (by omega) fun i f' hf=>by
   have:=h (i+1) f' (by simpa using hf)
   simpa using this
  refine⟨v::vs,⟨k1,q1⟩,?_,by simp only [Dv.vbL,List.map_cons,bkL]; omega⟩
  simp only [Dv.cellsL,Sh.ns]
  have e:(cs.drop off).take (s.n+Sh.ns ss)=(cs.drop off).take s.n++(cs.drop (off+s.n)).take (Sh.ns ss):=by
   rw [List.take_add,List.drop_drop]
  rw [e]
  exact Z0a.append k2 q2
 | [],_::_,_,_,hB,_,_,_=>by simp [Z5m] at hB
 | _::_,[],_,_,hB,_,_,_=>by simp [Z5m] at hB
 | _::_,_::_,_,[],_,hl,_,_=>by simp at hl
theorem Z97(a:Addr)(i j:Nat):(a.add i).add j=a.add (i+j):=by
 by_cases hi:i=0
 ·subst hi; simp [Addr.add]
 ·by_cases hj:j=0
  ·subst hj; simp [Addr.add]
  ·have:¬i+j=0:=by omega
   simp [Addr.add,hi,hj,Nat.add_assoc]
theorem Z76{s:Sh}{a:Addr}{sz:Nat}(hsz:sz=s.n):∀(es:List (DataW H×List MemPlace)) (k:Nat),
  (∀i,i<es.length→∃cs d,(w.cells? base (a.add ((k+i)*sz)) sz)=some cs∧es[i]?=some d∧ZfX w s cs d.1)→
  ∃(vs:List Dv) (us:List Value),vs.length=es.length∧(∀v∈vs,Dv.has s v)∧Z0a (Zc0 w) [] (Dv.cellsL vs) us∧us.length=es.length*sz∧Dv.vbL vs≤bkL (es.map (·.1))∧∀j v,us[j]?=some v→w.cell? (a.add (k*sz+j))=some v
 | [],k,_=>⟨[],[],rfl,by simp,by simp [Dv.cellsL,Z0a],by simp,by simp [Dv.vbL],by simp⟩
 | e::es,k,h=>by
  obtain⟨cs,d,h1,h2,v,k1,k2,k3⟩:=h 0 (by simp)
  simp only [List.getElem?_cons_zero,Option.some.injEq] at h2
  subst h2
  obtain⟨_,hcl,hcell⟩:=World.cells?_some h1
  obtain⟨vs,us,q1,q2,q3,q4,q5,q6⟩:=Z76 hsz es (k+1) fun i hi=>by
   obtain⟨cs,d,h1,h2,h3⟩:=h (i+1) (by simp; omega)
   exact⟨cs,d,by rw [show k+1+i=k+(i+1) by omega]; exact h1,by simpa using h2,h3⟩
  refine⟨v::vs,cs++us,by simp [q1],fun x hx=>?_,by simp only [Dv.cellsL]; exact Z0a.append k2 q3,by simp [hcl,q4,Nat.add_mul]; omega,by simp only [Dv.vbL,List.map_cons,bkL]; omega,fun j x hj=>?_⟩
  ·rcases List.mem_cons.1 hx with rfl | hx
   ·exact k1
   ·exact q2 x hx
  ·by_cases hjs:j<sz
   ·rw [List.getElem?_append_left (by omega)] at hj
    have:=hcell j hjs
    rw [hj,Nat.add_zero] at this
    rw [←this]
    rw [Z97]
   ·rw [List.getElem?_append_right (by omega),hcl] at hj
    have:=q6 _ _ hj
    rw [←this]
    congr 2
    rw [Nat.add_mul]; omega
theorem Zj4:∀(n fuel:Nat) (t:TypeId) (s:Sh) (cs:List Value) (x:DataW H×List MemPlace),shOk P n t s=true→DataW.trod enc P w base spare held fuel t cs=some x→ZfX w s cs x.1:=by
 intro n
 induction n with
 | zero=>intro fuel t s cs x h; simp [shOk] at h
 | succ n ih=>
  intro fuel t s cs x h ht
  simp only [shOk] at h
  split at h
  ·rename_i k k' hu
   obtain rfl:=of_decide_eq_true h
   obtain⟨m,rfl,rfl,hw⟩:=DataW.trod_int hu ht
   exact⟨.int k m,⟨rfl,hw⟩,by simp [Dv.cells,Z0a,Z03],by simp [Dv.vb,bk]⟩
  ·rename_i hu
   obtain⟨b,rfl,rfl⟩:=DataW.trod_bool hu ht
   exact⟨.bool b,trivial,by simp [Dv.cells,Z0a,Z03],by simp [Dv.vb,bk]⟩
  ·rename_i hu
   obtain⟨b,rfl,rfl,hw⟩:=DataW.trod_string hu ht
   exact⟨.str b.data.toList,by simp only [Dv.has,Array.length_toList]; exact hw,by simp [Dv.cells,Z0a,Z03],by simp [Dv.vb,bk]⟩
  ·rename_i e s hu
   simp only [Bool.and_eq_true,beq_iff_eq] at h
   rcases DataW.trod_slice hu ht with ⟨rfl,rfl⟩ | ⟨a,len,cap,elems,rest,m,_,rfl,rfl,hb,hl,hm,hlen,hel,_,_⟩
   ·exact⟨.sl [],by simp only [Dv.has]; exact⟨Nat.zero_le _,fun e h=>by cases h⟩,by simp only [Dv.cells,Dv.cellsL,Z0a]; exact⟨_,_,rfl,ZiX w,rfl⟩,by simp [Dv.vb,Dv.vbL,bk]⟩
   ·obtain⟨vs,us,q1,q2,q3,q4,q5,q6⟩:=Z76 (w:=w) (base:=base) (a:=a) (s:=s) h.1 elems 0 fun i hi=>by
     have:=hel i (by omega)
     have hd:elems[i]?=some elems[i]:=by simp [hi]
     rw [hd,Option.bind_eq_some_iff] at this
     obtain⟨cs,h1,h2⟩:=this
     exact⟨cs,elems[i],by simpa using h1,hd,ih _ _ _ _ _ h.2 h2⟩
    refine⟨.sl vs,⟨by omega,q2⟩,?_,by simp only [Dv.vb,bk]; omega⟩
    simp only [Dv.cells,Z0a]
    refine⟨_,_,rfl,?_,rfl⟩
    rw [show vs.length=len by omega]
    exact ZcC w a len cap us _ hl q3 fun i v hi=>by have:=q6 i v hi; simpa using this
  ·rename_i fs ss hu
   simp only [Bool.and_eq_true,beq_iff_eq] at h
   obtain⟨xs,m,_,rfl,hcl,hxl,hx⟩:=DataW.trod_struct hu ht
   obtain⟨vs,q1,q2,q3⟩:=Z6d (P:=P) (w:=w) (shOk P n) cs (DataW.trod enc P w base spare held m) (fun t s cs x hk hr=>ih _ _ _ _ _ hk hr) fs.toList ss 0 xs h.2 (by simpa using hxl) (by omega) fun i f hf=>hx i f (by simpa using hf)
   refine⟨.st vs,q1,?_,by simp only [Dv.vb,bk]; omega⟩
   simp only [List.drop_zero] at q2
   rw [List.take_of_length_le (by omega)] at q2
   exact q2
  ·cases h
theorem ZgX{n:Nat}{t:TypeId}{s:Sh}{v:Value}{d:DataW H}{ps:List MemPlace}{b0:Nat}(hs:shOk P n t s=true)(hv:Value.okWide P w .any b0 t v)(h:DataW.Trod enc P w base spare held t v d ps) :
  ∃x:Dv,Dv.has s x∧Z03 (Zc0 w) [] x.av v∧x.vb≤bk d:=by
 obtain⟨fuel,hf⟩:=h
 obtain⟨x,h1,h2,h3⟩:=Zj4 n fuel t s _ _ hs hf
 refine⟨x,h1,?_,h3⟩
 have one:v.cells=#[v]→x.av=x.cells.getD 0 .any→Z03 (Zc0 w) [] x.av v:=by
  intro hc he
  rw [hc] at h2
  rw [he]
  have:=h2.getD 0
  simpa using this
 cases n with
 | zero=>simp [shOk] at hs
 | succ n=>
  simp only [shOk] at hs
  split at hs
  ·rename_i hu
   obtain⟨_,rfl⟩:=WideShapes.okWide_int hu hv
   cases x <;> simp only [Dv.has] at h1
   exact one rfl rfl
  ·rename_i hu
   obtain⟨_,rfl⟩:=WideShapes.okWide_bool hu hv
   cases x <;> simp only [Dv.has] at h1
   exact one rfl rfl
  ·rename_i hu
   obtain⟨_,rfl⟩:=WideShapes.okWide_string hu hv
   cases x <;> simp only [Dv.has] at h1
   exact one rfl rfl
  ·rename_i hu
   obtain⟨_,_,_,rfl⟩:=WideShapes.okWide_slice hu hv
   cases x <;> simp only [Dv.has] at h1
   exact one rfl rfl
  ·rename_i hu
   obtain⟨cs,rfl,_⟩:=WideShapes.okWide_struct hu hv
   cases x <;> simp only [Dv.has] at h1
   simp only [Dv.av,Z03]
   exact⟨cs.toList,by simp,by simpa [Dv.cells,Value.cells] using h2⟩
  ·cases hs
def Z4q(P:Program):List TypeId→List Sh→Bool
 | [],[]=>true
 | t::ts,s::ss=>shOk P 12 t s && (P.readableRec t && (decide (t<P.types.size) && Z4q P ts ss))
 | _,_=>false
theorem Z8A{b0:Nat}:∀(ts:List TypeId) (ss:List Sh) (vs:List Value) (ds:List (DataW H)) (ps:List MemPlace),Z4q P ts ss=true→(∀(j:Nat) t v,ts[j]?=some t→vs[j]?=some v→Value.okWide P w .any b0 t v)→
  DataW.TrodAll enc P w base spare held ts vs ds ps→∃xs:List Dv,Dv.hasL ss xs∧Z0a (Zc0 w) [] (xs.map Dv.av) vs∧Dv.vbL xs≤bkL ds
 | [],[],vs,ds,ps,_,_,h=>by
  obtain⟨rfl,rfl,rfl⟩:=ChangeShapes.trodAll_nil h
  exact⟨[],by simp [Dv.hasL],by simp [Z0a],by simp [Dv.vbL]⟩
 | t::ts,s::ss,vs,ds,ps,hok,hv,h=>by
  simp only [Z4q,Bool.and_eq_true] at hok
  obtain⟨v,vs',d,ds',p,q,rfl,rfl,rfl,h1,h2⟩:=ChangeShapes.trodAll_cons h
  obtain⟨x,k1,k2,k3⟩:=ZgX hok.1 (hv 0 t v rfl rfl) h1
  obtain⟨xs,q1,q2,q3⟩:=Z8A ts ss vs' ds' q hok.2.2.2 (fun j t' v' hj hj'=>hv (j+1) t' v' (by simpa using hj) (by simpa using hj')) h2
  exact⟨x::xs,⟨k1,q1⟩,Z0a.cons k2 q2,by simp only [Dv.vbL,bkL]; omega⟩
 | [],_::_,_,_,_,h,_,_=>by simp [Z4q] at h
 | _::_,[],_,_,_,h,_,_=>by simp [Z4q] at h
end
theorem Z7m{H:Type}{enc:TypeId×Value→H}{P:Program}{W W':World}(hl:laidOutB P=true)(hb:Below W.heap.size W W'):∀(ts:List TypeId) (ss:List Sh) (vs:List Value) (ds:List (DataW H)) (ps:List MemPlace),Z4q P ts ss=true→
  DataW.TrodAll enc P W 0 (fun _=>true) true ts vs ds ps→∃qs,DataW.TrodAll enc P W' 0 (fun b=>decide (b<W.heap.size)) true ts vs ds qs
 | [],[],vs,ds,ps,_,h=>by
  obtain⟨rfl,rfl,rfl⟩:=ChangeShapes.trodAll_nil h
  exact⟨[],ChangeShapes.trodAll_mk0⟩
 | t::ts,s::ss,vs,ds,ps,hok,h=>by
  simp only [Z4q,Bool.and_eq_true,decide_eq_true_eq] at hok
  obtain⟨v,vs',d,ds',p,q,rfl,rfl,rfl,h1,h2⟩:=ChangeShapes.trodAll_cons h
  obtain⟨qs,h3⟩:=Z7m hl hb ts ss vs' ds' q hok.2.2.2 h2
  have hlt:∀x∈p,x.block<W.heap.size:=by obtain⟨m,hm⟩:=h1; exact DataW.trod_lt m _ _ _ hm
  exact⟨p++qs,trodAll_cons_mk (Below.trod hl hok.2.1 hok.2.2.1 h1 hb hlt) h3⟩
 | [],_::_,_,_,_,h,_=>by simp [Z4q] at h
 | _::_,[],_,_,_,h,_=>by simp [Z4q] at h
theorem Z8L{P:Program}{Γ:Env}(hΓ:Z07 P Γ){f:FuncId}{fn:Func}(hf:P.funcs[f]?=some fn)(hl:laidOutB P=true){s:ChangeSpec}(hsv:s.vars=[]){ss:List Sh}(hsh:Z4q P fn.params.toList ss=true)
  {tb:TypeId} (hres:fn.resultTypes=#[tb]) (htb:P.underlying tb=some .bool) (bound:Nat→Prop) (mono:∀a b,a≤b→bound b→bound a)
  (hbody:∀xs:List Dv,Dv.hasL ss xs→bound (Dv.vbL xs)→∃L',Z08 P Γ fn (xs.map Dv.av) [] (.bool true) L')
  {H:Type} {enc:TypeId×Value→H} {W:World} {base:Nat} {args:Array Value} {ds gs:List (DataW H)} {before:List MemPlace}
  (hspec:s.fn H (ds++gs)={ results:=[.lit (.bool true)],args:=ds })
  (hval:∀(j:Nat) t v,fn.params[j]?=some t→args[j]?=some v→Value.okWide P W .any base t v) (hW:DataW.Whole enc P fn.params.toList s.vars false W args.toList ds gs before) (hbk:bound (bkL ds)) (hG:GOK (Zc0 W).pobj:=by exact⟨(by intro g h; cases h),(by intro q h; cases h)⟩) :
  Calls P f args W fun e W'=>∃v,e=.returned v∧s.post enc P fn false true false false W args v W':=by
 have hW':=hW
 obtain⟨p,q,hA,hV,rfl,hfz,hnd⟩:=hW
 rw [hsv] at hV
 obtain⟨rfl,rfl⟩:=ChangeShapes.trodVars_none hV
 obtain⟨xs,h1,h2,h3⟩:=Z8A (P:=P) (w:=W) (b0:=base) _ ss _ _ _ hsh (fun j t v hj hj'=>hval j t v (by simpa using hj) (by simpa using hj')) hA
 obtain⟨L',hb⟩:=hbody xs h1 (mono _ _ h3 hbk)
 have:=Z9P hΓ hf hG (ZgR W) h2 hb
 simp only [Array.toArray_toList] at this
 refine this.mono fun e W' ⟨he,bel⟩=>?_
 subst he
 obtain⟨qs,hq⟩:=Z7m hl bel _ ss _ _ _ hsh hA
 refine⟨_,rfl,ds,[],_,[],qs,[],hW',?_,?_,?_,bel.frame _,fun h=>by cases h⟩
 ·rw [hspec,hres]
  exact ChangeShapes.trodAll_mk1 (RowKit.shut_bool htb true)
 ·rw [hspec]; exact hq
 ·rw [hspec,hsv]; rfl
theorem Z7Z{k:IntKind}{v:Dv}(h:Dv.has (.int k) v):∃n,v=.int k n∧k.min≤n∧n≤k.max:=by
 cases v <;> simp only [Dv.has] at h
 obtain⟨rfl,h⟩:=h
 simp only [Lit.wf,Bool.and_eq_true,decide_eq_true_eq] at h
 exact⟨_,rfl,h⟩
theorem Z9Y{v:Dv}(h:Dv.has .str v):∃l,v=.str l∧l.length≤maxLen:=by
 cases v <;> simp only [Dv.has] at h
 exact⟨_,rfl,h⟩
theorem ZlG{s:Sh}{v:Dv}(h:Dv.has (.sl s) v):∃es,v=.sl es∧es.length≤maxLen∧∀e∈es,Dv.has s e:=by
 cases v <;> simp only [Dv.has] at h
 exact⟨_,rfl,h⟩
theorem Zif{ss:List Sh}{v:Dv}(h:Dv.has (.st ss) v):∃vs,v=.st vs∧Dv.hasL ss vs:=by
 cases v <;> simp only [Dv.has] at h
 exact⟨_,rfl,h⟩
theorem Z2h{s:Sh}{ss:List Sh}{vs:List Dv}(h:Dv.hasL (s::ss) vs):∃x xs,vs=x::xs∧Dv.has s x∧Dv.hasL ss xs:=by
 cases vs <;> simp only [Dv.hasL] at h
 exact⟨_,_,rfl,h⟩
theorem Zb1{vs:List Dv}(h:Dv.hasL [] vs):vs=[]:=by
 cases vs with
 | nil=>rfl
 | cons=>simp only [Dv.hasL] at h
end Go.Eng
end
