/- The engine, part 11: a function's body gives its contract; a contract at an empty heap serves every heap; a law. -/
import Derived.Test.YtmomhjmaanagaaaGreatEng10
import Derived.Below
set_option linter.unusedVariables false
set_option linter.unusedSimpArgs false
namespace Go.Eng
open Go Go.RowKit
def Zid(P:Program)(fr:List AV)(L:Heap):ResultVar→Rz
 | .tmp t=>⟨(fr.getD t .any).cond=true,(fr.getD t .any).bare,L⟩
 | .cell a t=>(Z8c P true L t (fr.getD a .any).bare).also ((fr.getD a .any).cond=true)
def Z3k(P:Program)(fr:List AV)(L:Heap):List ResultVar→Prop×List AV
 | []=>(True,[])
 | r::rs=>((Zid P fr L r).pre∧(Z3k P fr L rs).1,(Zid P fr L r).v::(Z3k P fr L rs).2)
def ZhV:List AV→AV
 | [x]=>x
 | xs=>.tup xs
def Z7v(xs:List AV)(n:Nat):List AV:=xs++List.replicate (n - xs.length) .any
def ZhU(P:Program)(rs:List ResultVar)(L0:Heap)(res:AV)(L':Heap)(fr:List AV)(L:Heap):Prop:=
 (Z3k P fr L rs).1∧Z0k L0 [ZhV (Z3k P fr L rs).2] L ([res],L')
def Z0a(P:Program)(Γ:Env)(fn:Func)(xs:List AV)(L:Heap)(res:AV)(L':Heap):Prop:=
 ∀X:Cx,X.P=P→X.Γ=Γ→X.B.L=L→(X.fin=ZhU P fn.results.toList L res L'∧X.finR=X.fin∧X.R=none)→∃c,fn.body=some c∧Holds X [.code c] (Z7v xs fn.ntmps) L
section
variable {P:Program} {Γ:Env}
theorem Z5k{m:Mem}{L:Heap}{w:World}(hW:Z0O m L w){fr:List AV}{tmps:Array Value}(h:Z0e m L fr tmps.toList):∀(rs:List ResultVar),(Z3k P fr L rs).1→
  ∃vs:List Value,(rs.mapM (m:=Sem) fun | .tmp t=>pure (tmps.getD t undef) | .cell a t=>do loadVar t (←asAddr (tmps.getD a undef))).run P w=.ok vs w∧Z0e m L (Z3k P fr L rs).2 vs
 | [],_=>⟨[],by simp,by simp [Z3k,Z0e]⟩
 | r::rs,hp=>by
  obtain⟨h1,h2⟩:=hp
  obtain⟨vs,hr,hc⟩:=Z5k hW h rs h2
  have hD:∀t,Z05 m L (fr.getD t .any) (tmps.getD t undef):=fun t=>by
   have:=h.getD t
   simpa [Array.getD_eq_getD_getElem?,List.getD_eq_getElem?_getD] using this
  cases r with
  | tmp t=>
   refine⟨tmps.getD t undef::vs,?_,?_⟩
   ·simp only [List.mapM_cons,Sem.run_bind,Sem.run_pure,Result.andThen_ok,hr]
   ·simp only [Z3k,Zid]; exact Z0e.cons (Z3R (hD t) h1) hc
  | cell a t=>
   obtain⟨hcd,hl⟩:=h1
   have hb:=Z3R (hD a) hcd
   have hstep:∃v,(do loadVar t (←asAddr (tmps.getD a undef)):Sem Value).run P w=.ok v w∧Z05 m L (Z8c P true L t (fr.getD a .any).bare).v v:=by
    generalize hx:(fr.getD a .any).bare=X at *
    cases X <;> try exact hl.elim
    case ref id ver off=>
     obtain⟨hf,hle,ho⟩:=hl rfl
     obtain⟨cs,sz,hL,e1,e2⟩:=Z0N hf
     have hu:=Z3F hb hf
     obtain⟨us,hc',hcell,_⟩:=Z2d hW hL
     rw [e1] at ho hle
     obtain⟨q,hq,hv⟩:=Z2G (P:=P) (w:=w) (t:=t) (g:=m.blk id) (o:=off) (hc'.drop off) (fun j v hj=>by rw [List.getElem?_drop] at hj; exact hcell _ _ hj) (by simpa using ho)
     refine⟨q,by simp [hu,asAddr,hq],?_⟩
     simp only [Z8c,e1]; exact hv
    case ip cs=>
     simp only [Z05] at hb
     obtain⟨us,g,o,hu,hc',hpin⟩:=hb
     obtain⟨q,hq,hv⟩:=Z2G (P:=P) (w:=w) (t:=t) (g:=g) (o:=o) hc' (fun j v hj=>hW.pins _ _ _ (hpin j v hj)) (hl rfl)
     exact⟨q,by simp [hu,asAddr,hq],hv⟩
   obtain⟨v,hv1,hv2⟩:=hstep
   refine⟨v::vs,?_,?_⟩
   ·rw [List.mapM_cons,Sem.run_bind]
    erw [hv1]
    simp only [Result.andThen_ok,Sem.run_bind]
    erw [hr]
    rfl
   ·simp only [Z3k,Zid,Rz.also]; exact Z0e.cons hv2 hc
theorem Z7k{m:Mem}{L:Heap}{w:World}(hW:Z0O m L w){fr:List AV}{tmps:Array Value}(h:Z0e m L fr tmps.toList)(fn:Func)(hp:(Z3k P fr L fn.results.toList).1) :
  ∃v,(results fn tmps).run P w=.ok v w∧Z05 m L (ZhV (Z3k P fr L fn.results.toList).2) v:=by
 obtain⟨vs,hr,hc⟩:=Z5k (P:=P) hW h fn.results.toList hp
 have hm:(fn.results.mapM (m:=Sem) fun | .tmp t=>pure (tmps.getD t undef) | .cell a t=>do loadVar t (←asAddr (tmps.getD a undef))).run P w=.ok vs.toArray w:=by
  rw [Array.mapM_eq_mapM_toList,Sem.run_map]
  erw [hr]
  rfl
 have hl:=hc.length
 unfold results
 simp only [Sem.run_bind]
 erw [hm]
 simp only [Result.andThen_ok,Sem.run_pure]
 refine⟨_,rfl,?_⟩
 match hx:(Z3k P fr L fn.results.toList).2,vs,hc,hl with
 | [x],[v],hc,_=>
  simp only [Z0e] at hc
  obtain⟨u,us',he,h1,_⟩:=hc
  cases he
  simpa [ZhV] using h1
 | [],[],hc,_=>simp only [ZhV,Z05]; exact⟨[],by simp,hc⟩
 | x::y::r,v::v'::r',hc,_=>simp only [ZhV,Z05]; exact⟨v::v'::r',by simp,hc⟩
 | [x],[],_,hl=>simp at hl
 | [x],_::_::_,_,hl=>simp at hl
 | [],_::_,_,hl=>simp at hl
 | _::_::_,[],_,hl=>simp at hl
 | _::_::_,[_],_,hl=>simp at hl
def ZdT(m:Mem)(L:Heap)(w:World)(res:AV)(L':Heap)(e:Ending)(w':World):Prop:=
 ∃v m',e=.returned v∧Z05 m' L' res v∧Z0O m' L' w'∧Ext m L w m' L' w'
theorem Z5V(w:World)(D:Nat)(o:Obj):∀g,g≠D→(w.putObj D o).heap[g]?=w.heap[g]?:=fun g h=>World.putObj_heap_other h
theorem Z8f(fn:Func){m:Mem}{L:Heap}{w:World}{m₁:Mem}{L₁:Heap}{tmps:Array Value}{R:Ending→World→Prop}
  (hK:∀w₁,Z0O m₁ L₁ w₁→Ext m L w m₁ L₁ w₁→∃v,(results fn tmps).run P w₁=.ok v w₁∧R (.returned v) w₁) :
  ∀(ds:List Deferred) (w₁:World),Z0O m₁ L₁ w₁→Ext m L w m₁ L₁ w₁→Z6m w.heap.size m₁ L₁ w₁ ds→LeavesInM Fence.wide 0 P fn tmps R ds .returning w₁
 | [],w₁,hW,hE,_=>hK w₁ hW hE
 | d::ds,w₁,hW,hE,hM=>by
  obtain⟨D,rfl,h1,h2,h3,h4⟩:=hM.each _ (List.mem_cons_self ..)
  have hn:=List.nodup_cons.1 hM.nodup
  refine⟨by simp,.inl ⟨D,_,rfl,run_takeDeferred h3,Z8f fn hK ds _ (hW.foreign h4 (Z5V w₁ D _)) ?_ ⟨fun d hd=>?_,hn.2⟩⟩⟩
  ·exact⟨fun g hg ho hh=>by rw [Z5V w₁ D _ g (by omega)]; exact hE.frame g hg ho hh,by simpa using hE.size,hE.newobj,hE.blks,hE.len,hE.mono,hE.same.trans ⟨rfl,rfl,rfl⟩,hE.hnew⟩
  ·obtain⟨D',rfl,k1,k2,k3,k4⟩:=hM.each d (List.mem_cons_of_mem _ hd)
   have hne:D'≠D:=by rintro rfl; exact hn.1 hd
   exact⟨D',rfl,k1,by simpa using k2,by rw [Z5V w₁ D _ D' hne]; exact k3,k4⟩
theorem Z2k(hΓ:Z07 P Γ){f:FuncId}{fn:Func}(hf:P.funcs[f]?=some fn){xs:List AV}{L:Heap}{res:AV}{L':Heap}(hb:Z0a P Γ fn xs L res L')
  {m:Mem} {w:World} {vs:List Value} (hW:Z0O m L w) (hx:Z0e m L xs vs):Calls P f vs.toArray w (ZdT m L w res L'):=by
 have hend:∀fr L₁ m₁ (a₁:Act) w₁,ZhU P fn.results.toList L res L' fr L₁→Z0O m₁ L₁ w₁→Z0e m₁ L₁ fr a₁.tmps.toList→Ext m L w m₁ L₁ w₁→Z6m w.heap.size m₁ L₁ w₁ a₁.defers→LeavesInM Fence.wide 0 P fn a₁.tmps (ZdT m L w res L') a₁.defers .returning w₁:=by
  intro fr L₁ m₁ a₁ w₁ hfin hW1 hF1 hE1 hM1
  obtain⟨h1,hi⟩:=hfin
  exact Z8f (P:=P) fn (R:=ZdT m L w res L') (tmps:=a₁.tmps) (m:=m) (L:=L) (w:=w) (m₁:=m₁) (L₁:=L₁) (fun w₂ hW2 hE2=>by
   obtain⟨v,hv,hvr⟩:=Z7k (P:=P) hW2 hF1 fn h1
   obtain⟨m',k1,k2,k3⟩:=hi.sound hW2 (Z0e.cons hvr (Z0e.nil _ _)) hE2
   simp only [Z0e] at k2
   obtain⟨u,us',he,h2,_⟩:=k2
   cases he
   exact⟨v,hv,v,m',rfl,h2,k1,k3⟩) a₁.defers w₁ hW1 hE1 hM1
 obtain⟨c,hc,hH⟩:=hb
  {P,Γ,ok:=hΓ,B:=⟨m,L,w,[]⟩,Q:=bodyPostM Fence.wide 0 P fn (ZdT m L w res L'),fin:=ZhU P fn.results.toList L res L',n0:=w.heap.size,hn0:=Nat.le_refl _,hD:=Z6m.nil
   hfin:=hend,finR:=ZhU P fn.results.toList L res L',hfinR:=hend
   ng:=fun _ _ _ h=>h }
  rfl rfl rfl ⟨rfl,rfl,rfl⟩
 refine (callsIn_wide (n:=0)).1 (callsIn_of_wp_marks hf hc trivial ?_)
 have hR:RS ⟨m,L,w,[]⟩ (Z7v xs fn.ntmps) L m { tmps:=vs.toArray++Array.replicate (fn.ntmps - vs.toArray.size) undef,defers:=[] } w:=by
  refine⟨hW,?_,Ext.refl,rfl⟩
  have hl:=hx.length
  have e:(vs.toArray++Array.replicate (fn.ntmps - vs.toArray.size) undef).toList=vs++List.replicate (fn.ntmps - xs.length) undef:=by simp [hl]
  simp only [Z7v,e]
  refine hx.append (Z0e.mk (by simp) fun i c u hc _=>?_)
  have:c=.any:=by
   have:=List.mem_of_getElem? hc
   exact (List.mem_replicate.1 this).2
  subst this
  simp [Z05]
 have:=hH m _ w hR
 simp only [W] at this
 exact Go.wpIn_mono this fun e a w q=>by simpa [W] using q
mutual
def Z2B:AV→Bool
 | .agg xs=>Z1k xs
 | .tup xs=>Z1k xs
 | .ifc _ x=>Z2B x
 | .fn _ a b=>Z1k a && Z1k b
 | .sl ..=>false
 | .ip _=>false
 | .when ..=>false
 | .alt ..=>false
 | .mpr ..=>false
 | _=>true
def Z1k:List AV→Bool
 | []=>true
 | x::xs=>Z2B x && Z1k xs
end
def Z3I(x:AV):Bool:=Z2B x
def Z4g:Z0L→Bool
 | .row cs _ _=>Z1k cs
 | _=>true
def Z1b(L:Heap)(keep:Nat→Bool)(sub:AV→AV):AV→AV
 | .msl id ver off n=>cond (keep id) (.msl id ver off n) (.sl ((((Z0Q L id).drop (off*Z1S L id)).take (n*Z1S L id)).map sub) n)
 | .csl id ver off n=>cond (keep id) (.csl id ver off n) (.sl ((((Z0Q L id).drop (off*Z1S L id)).take (n*Z1S L id)).map sub) n)
 | .ref id ver off=>cond (keep id || !isRow L id) (.ref id ver off) (.ip (((Z0Q L id).drop off).map sub))
 | .mp id=>cond (keep id) (.mp id) (match L[id]? with | some (.raw (.map kd f))=>.mpr kd f | _=>.mp id)
 | .agg cs=>.agg (cs.map sub)
 | .ifc t x=>.ifc t (sub x)
 | .fn f a b=>.fn f (a.map sub) (b.map sub)
 | x=>x
def Z1z(L:Heap)(keep:Nat→Bool)(sub:AV→Prop):AV→Prop
 | .msl id ver off n=>cond (keep id) True (Z1q L id ver∧∀x∈((Z0Q L id).drop (off*Z1S L id)).take (n*Z1S L id),sub x)
 | .csl id ver off n=>cond (keep id) True (Z1q L id ver∧∀x∈((Z0Q L id).drop (off*Z1S L id)).take (n*Z1S L id),sub x)
 | .ref id ver off=>cond (keep id || !isRow L id) True (Z1q L id ver∧∀x∈(Z0Q L id).drop off,sub x)
 | .agg cs=>∀x∈cs,sub x
 | .ifc _ x=>sub x
 | .fn _ a b=>(∀x∈a,sub x)∧∀x∈b,sub x
 | _=>True
def Z4n(L:Heap)(keep:Nat→Bool)(sub:AV→Bool):AV→Bool
 | .msl id _ _ _=>!keep id
 | .csl id _ _ _=>!keep id
 | .ref id _ _=>!(keep id || !isRow L id)
 | .mp id=>!keep id
 | .agg cs=>cs.any sub
 | .ifc _ x=>sub x
 | .fn _ a b=>a.any sub || b.any sub
 | _=>false
def Z8r(x:AV):AV:=x
def Zat(_:AV):Prop:=True
def Zjb(_:AV):Bool:=false
def d1(L:Heap)(keep:Nat→Bool):AV→AV:=Z1b L keep Z8r
def d2(L:Heap)(keep:Nat→Bool):AV→AV:=Z1b L keep (d1 L keep)
def d3(L:Heap)(keep:Nat→Bool):AV→AV:=Z1b L keep (d2 L keep)
def l1(L:Heap)(keep:Nat→Bool):AV→Prop:=Z1z L keep Zat
def l2(L:Heap)(keep:Nat→Bool):AV→Prop:=Z1z L keep (l1 L keep)
def l3(L:Heap)(keep:Nat→Bool):AV→Prop:=Z1z L keep (l2 L keep)
def b1(L:Heap)(keep:Nat→Bool):AV→Bool:=Z4n L keep Zjb
def b2(L:Heap)(keep:Nat→Bool):AV→Bool:=Z4n L keep (b1 L keep)
def b3(L:Heap)(keep:Nat→Bool):AV→Bool:=Z4n L keep (b2 L keep)
def keep0(_:Nat):Bool:=false
def Z4T(L:Heap):AV→AV:=Z1b L keep0 (d3 L keep0)
def lent(L:Heap):AV→Prop:=Z1z L keep0 (l3 L keep0)
def Zcg(L:Heap):AV→Bool:=Z4n L keep0 (b3 L keep0)
def Z57(lpre:List AV→Prop)(lres:List AV→AV)(lnew:List AV→Heap)(q:Bool):Z0n where
 pre xs L:=(∀x∈xs,lent L x)∧Z0Z 0 (xs.map (Z4T L))=true∧lpre (xs.map (Z4T L))∧
  (xs.any (Zcg L)=true→Z3I (lres (xs.map (Z4T L)))=true∧(lnew (xs.map (Z4T L))).all Z4g=true)
 res xs L:=ren (·+L.length) (lres (xs.map (Z4T L)))
 post xs L:=L++(lnew (xs.map (Z4T L))).map (Z1C (·+L.length))
 quiet:=q
mutual
theorem Z4x{m m':Mem}{L:Heap}(h1:m'.blk=m.blk)(h2:m'.cap=m.cap):∀(x:AV) (u:Value),Z2B x=true→Z05 m L x u→Z05 m' L x u
 | .agg xs,u,hp,h=>by
  simp only [Z05] at *; obtain⟨us,rfl,hc⟩:=h; exact⟨us,rfl,Z1K h1 h2 xs us hp hc⟩
 | .tup xs,u,hp,h=>by
  simp only [Z05] at *; obtain⟨us,rfl,hc⟩:=h; exact⟨us,rfl,Z1K h1 h2 xs us hp hc⟩
 | .ifc t x,u,hp,h=>by
  simp only [Z05] at *; obtain⟨v,rfl,h⟩:=h; exact⟨v,rfl,Z4x h1 h2 x v hp h⟩
 | .fn f a b,u,hp,h=>by
  simp only [Z05,Z2B,Bool.and_eq_true] at *
  obtain⟨us,vs,rfl,k1,k2⟩:=h
  exact⟨us,vs,rfl,Z1K h1 h2 a us hp.1 k1,Z1K h1 h2 b vs hp.2 k2⟩
 | .sl ..,_,hp,_=>by simp [Z2B] at hp
 | .ip _,_,hp,_=>by simp [Z2B] at hp
 | .when ..,_,hp,_=>by simp [Z2B] at hp
 | .alt ..,_,hp,_=>by simp [Z2B] at hp
 | .mpr ..,_,hp,_=>by simp [Z2B] at hp
 | .any,_,_,_=>by simp [Z05]
 | .int ..,_,_,h=>by simpa only [Z05] using h
 | .bool _,_,_,h=>by simpa only [Z05] using h
 | .str _,_,_,h=>by simpa only [Z05] using h
 | .lit _,_,_,h=>by simpa only [Z05] using h
 | .ub ..,_,_,h=>by simpa only [Z05] using h
 | .msl ..,_,_,h=>by simpa only [Z05,h1,h2] using h
 | .csl ..,_,_,h=>by simpa only [Z05,h1,h2] using h
 | .ref ..,_,_,h=>by simpa only [Z05,h1,h2] using h
 | .mp _,_,_,h=>by simpa only [Z05,h1,h2] using h
theorem Z1K{m m':Mem}{L:Heap}(h1:m'.blk=m.blk)(h2:m'.cap=m.cap):∀(xs:List AV) (us:List Value),Z1k xs=true→Z0e m L xs us→Z0e m' L xs us
 | [],us,_,h=>h
 | x::xs,us,hp,h=>by
  simp only [Z1k,Bool.and_eq_true] at hp
  simp only [Z0e] at *
  obtain⟨u,us',rfl,h3,h4⟩:=h
  exact⟨u,us',rfl,Z4x h1 h2 x u hp.1 h3,Z1K h1 h2 xs us' hp.2 h4⟩
end
theorem Z5l{m m':Mem}{L:Heap}(h1:m'.blk=m.blk)(h2:m'.cap=m.cap){x:AV}{u:Value}(hp:Z3I x=true)(h:Z05 m L x u):Z05 m' L x u:=Z4x h1 h2 x u hp h
def ZaD(m mb:Mem)(L:Heap)(full:Prop)(sub:AV→AV)(sl:AV→Prop)(sb:AV→Bool):Prop:=
 ∀x u,Z05 m L x u→sl x→(sb x=true→full)→Z05 mb L (sub x) u
theorem ZaD.list{m mb:Mem}{L:Heap}{full:Prop}{sub:AV→AV}{sl:AV→Prop}{sb:AV→Bool}(H:ZaD m mb L full sub sl sb):∀{xs:List AV} {us:List Value},Z0e m L xs us→(∀x∈xs,sl x)→(xs.any sb=true→full)→Z0e mb L (xs.map sub) us
 | [],us,h,_,_=>by simpa [Z0e] using h
 | x::xs,us,h,hl,hf=>by
  simp only [Z0e,List.map_cons,List.any_cons,Bool.or_eq_true] at *
  obtain⟨u,us',rfl,h1,h2⟩:=h
  exact⟨u,us',rfl,H x u h1 (hl x (by simp)) (fun h=>hf (.inl h)),H.list h2 (fun y hy=>hl y (by simp [hy])) (fun h=>hf (.inr h))⟩
theorem sub0{m mb:Mem}{L:Heap}{full:Prop}(M:Z4G m L mb L):ZaD m mb L full Z8r Zat Zjb:=fun x u h _ _=>Z05.mono M x u h
theorem Zjs{m mb:Mem}{L:Heap}{w:World}(hW:Z0O m L w)(M:Z4G m L mb L){keep:Nat→Bool}{full:Prop}{sub:AV→AV}{sl:AV→Prop}{sb:AV→Bool}
    (hobj:full→∀g,(∀i,keep i=true→Own m L i→m.blk i≠g)→(∀i,keep i=true→¬Hid m L i g)→mb.pobj g=w.heap[g]?)
    (H:ZaD m mb L full sub sl sb):ZaD m mb L full (Z1b L keep sub) (Z1z L keep sl) (Z4n L keep sb):=by
  have row:∀{id ver},Z1q L id ver→keep id=false→full→∃us,Z0e m L (Z0Q L id) us∧∀j v,us[j]?=some v→mb.pin (m.blk id) j=some v:=by
    intro id ver hf hk hfull
    obtain⟨cs,sz,hL,hr,hsz⟩:=Z0N hf
    obtain⟨us,hc,hcl,_⟩:=Z2d hW hL
    refine⟨us,by rw [hr]; exact hc,fun j v hj=>?_⟩
    have hcap:m.cap id≠0:=by
      intro h0
      have:=hW.nils _ _ _ _ hL h0
      subst this
      simp only [Z0e] at hc
      subst hc
      simp at hj
    refine Mem.pin_heap (hobj hfull _ (fun i hi ho he=>?_) (fun i hi hk'=>hW.hid.own i _ hk' id (.inl ⟨_,_,_,hL,hcap⟩) rfl)) (hcl _ _ hj)
    have:=hW.inj i id ho (.inl ⟨_,_,_,hL,hcap⟩) he
    subst this
    rw [hk] at hi; cases hi
  have slice:∀{id ver off n:Nat} {a:Option Addr} {c:Nat},Z1q L id ver→keep id=false→full→n≤c→(∀x∈((Z0Q L id).drop (off*Z1S L id)).take (n*Z1S L id),sl x)→(n=0∨a=some ⟨m.blk id,off*Z1S L id,none⟩)→
      Z05 mb L (.sl ((((Z0Q L id).drop (off*Z1S L id)).take (n*Z1S L id)).map sub) n) (.slice a n c):=by
    intro id ver off n a c hf hk hfull hle hl ha
    obtain⟨us,hc,hp⟩:=row hf hk hfull
    simp only [Z05]
    refine⟨a,c,rfl,hle,(us.drop (off*Z1S L id)).take (n*Z1S L id),H.list ((hc.drop _).take _) hl (fun _=>hfull),?_⟩
    rcases ha with ha | ha
    · left; simp [ha]
    · refine .inr ⟨m.blk id,off*Z1S L id,ha,fun i v hi=>hp _ _ ?_⟩
      rw [List.getElem?_take,List.getElem?_drop] at hi
      split at hi
      · exact hi
      · cases hi
  intro x u h hl hb
  cases x <;> simp only [Z1b,Z1z,Z4n] at hl hb ⊢ <;> try exact Z05.mono M _ u h
  case agg cs=>
    simp only [Z05] at *
    obtain⟨us,rfl,hc⟩:=h
    exact⟨us,rfl,H.list hc hl hb⟩
  case ifc t x=>
    simp only [Z05] at *
    obtain⟨v,rfl,h⟩:=h
    exact⟨v,rfl,H x v h hl hb⟩
  case fn f a b=>
    simp only [Z05,Bool.or_eq_true] at *
    obtain⟨us,vs,rfl,h1,h2⟩:=h
    exact⟨us,vs,rfl,H.list h1 hl.1 (fun h=>hb (.inl h)),H.list h2 hl.2 (fun h=>hb (.inr h))⟩
  case msl id ver off n=>
    cases hk:keep id
    · simp only [hk,cond_false,Bool.not_false,forall_const] at hl hb ⊢
      obtain⟨k1,k2,a,rfl,ha⟩:=Z1e h hl.1
      exact slice hl.1 hk hb (by omega) hl.2 (by rcases ha with ha | ha; · left; omega
                                                 · exact .inr ha)
    · simp only [hk,cond_true]; exact Z05.mono M _ u h
  case csl id ver off n=>
    cases hk:keep id
    · simp only [hk,cond_false,Bool.not_false,forall_const] at hl hb ⊢
      obtain⟨k1,k2,a,rfl,ha⟩:=Z4a h hl.1
      exact slice hl.1 hk hb (Nat.le_refl _) hl.2 ha
    · simp only [hk,cond_true]; exact Z05.mono M _ u h
  case ref id ver off=>
    cases hk:keep id || !isRow L id
    · simp only [hk,cond_false,Bool.not_false,forall_const] at hl hb ⊢
      have hk':keep id=false:=by simp at hk; exact hk.1
      have hu:=Z3F h hl.1
      obtain⟨us,hc,hp⟩:=row hl.1 hk' hb
      simp only [Z05]
      exact⟨us.drop off,m.blk id,off,hu,H.list (hc.drop off) hl.2 (fun _=>hb),fun i v hi=>hp _ _ (by rw [List.getElem?_drop] at hi; exact hi)⟩
    · simp only [hk,cond_true]; exact Z05.mono M _ u h
  case mp id=>
    cases hk:keep id
    · simp only [hk,cond_false,Bool.not_false,forall_const] at hb ⊢
      split
      · rename_i kd f hL
        simp only [Z05] at h ⊢
        obtain⟨r,hL',hu⟩:=h
        obtain⟨o,hbb,hr⟩:=hW.iters _ _ hL
        simp only [Z4X] at hr
        obtain⟨es,clock,rfl,hM⟩:=hr
        refine⟨m.blk id,es,clock,hu,?_,hM⟩
        rw [hobj hb,hbb]
        · intro i hi ho he
          have:=hW.inj i id ho (.inr ⟨_,hL⟩) he
          subst this
          rw [hk] at hi; cases hi
        · exact fun i hi hk'=>hW.hid.own i _ hk' id (.inr ⟨_,hL⟩) rfl
      · exact Z05.mono M _ u h
    · simp only [hk,cond_true]; exact Z05.mono M _ u h
theorem ZjI{m mb:Mem}{L:Heap}{w:World}(hW:Z0O m L w)(M:Z4G m L mb L){keep:Nat→Bool}{full:Prop}
  (hobj:full→∀g,(∀i,keep i=true→Own m L i→m.blk i≠g)→(∀i,keep i=true→¬Hid m L i g)→mb.pobj g=w.heap[g]?) :
  ZaD m mb L full (Z1b L keep (d3 L keep)) (Z1z L keep (l3 L keep)) (Z4n L keep (b3 L keep)):=
 Zjs hW M hobj (Zjs hW M hobj (Zjs hW M hobj (Zjs hW M hobj (sub0 M))))
structure Laid(m':Mem)(L':Heap)(ρ:Nat→Nat)(m2:Mem)(L2:Heap):Prop where
 pobj:∀g o,m'.pobj g=some o→m2.pobj g=some o
 obj:∀id o,L'[id]?=some o→L2[ρ id]?=some (Z1C ρ o)∧m2.blk (ρ id)=m'.blk id∧m2.cap (ρ id)=m'.cap id
theorem Laid.pin{m:Mem}{L:Heap}{ρ:Nat→Nat}{m':Mem}{L':Heap}(H:Laid m L ρ m' L')(g o:Nat)(v:Value)(h:m.pin g o=some v):m'.pin g o=some v:=by
 obtain⟨c,e,f,h1,h2⟩:=Mem.pin_some h
 exact Mem.pin_of (H.pobj _ _ h1) h2
mutual
theorem Z05.laid{m:Mem}{L:Heap}{ρ:Nat→Nat}{m':Mem}{L':Heap}(H:Laid m L ρ m' L'):∀(x:AV) (u:Value),Z05 m L x u→Z05 m' L' (ren ρ x) u
 | .any,_,_=>by simp [Z05,ren]
 | .int ..,_,h=>by simpa [Z05,ren] using h
 | .bool _,_,h=>by simpa [Z05,ren] using h
 | .str _,_,h=>by simpa [Z05,ren] using h
 | .lit _,_,h=>by simpa [Z05,ren] using h
 | .agg cs,u,h=>by
  simp only [Z05,ren] at *
  obtain⟨us,rfl,hc⟩:=h
  exact⟨us,rfl,Z0e.laid H cs us hc⟩
 | .tup cs,u,h=>by
  simp only [Z05,ren] at *
  obtain⟨us,rfl,hc⟩:=h
  exact⟨us,rfl,Z0e.laid H cs us hc⟩
 | .sl cs len,u,h=>by
  simp only [Z05,ren] at *
  obtain⟨a,cap,rfl,hl,us,hc,hp⟩:=h
  refine⟨a,cap,rfl,hl,us,Z0e.laid H cs us hc,?_⟩
  rcases hp with hp | ⟨g,o,ha,hp⟩
  ·exact .inl hp
  ·exact .inr ⟨g,o,ha,fun i v hv=>H.pin _ _ _ (hp i v hv)⟩
 | .msl id ver off len,u,h=>by
  simp only [Z05,ren] at *
  obtain⟨cs,sz,v,hL,hv,hsh,h⟩:=h
  obtain⟨h1,h2,h3⟩:=H.obj id _ hL
  refine⟨Z2l ρ cs,sz,v,h1,hv,hsh,fun e=>?_⟩
  rw [h2,h3,Z2A,List.length_map]
  exact h e
 | .ref id ver off,u,h=>by
  simp only [Z05,ren] at *
  rcases h with ⟨cs,sz,v,hL,hv,hsh,h⟩ | ⟨r,hL,h⟩
  ·obtain⟨h1,h2,h3⟩:=H.obj id _ hL
   exact .inl ⟨Z2l ρ cs,sz,v,h1,hv,hsh,fun e=>by rw [h2]; exact h e⟩
  ·obtain⟨h1,h2,h3⟩:=H.obj id _ hL
   exact .inr ⟨r,h1,by rw [h2]; exact h⟩
 | .ip cs,u,h=>by
  simp only [Z05,ren] at *
  obtain⟨us,g,o,rfl,hc,hp⟩:=h
  exact⟨us,g,o,rfl,Z0e.laid H cs us hc,fun i v hv=>H.pin _ _ _ (hp i v hv)⟩
 | .fn f first captured,u,h=>by
  simp only [Z05,ren] at *
  obtain⟨us,vs,rfl,h1,h2⟩:=h
  exact⟨us,vs,rfl,Z0e.laid H first us h1,Z0e.laid H captured vs h2⟩
 | .ifc t x,u,h=>by
  simp only [Z05,ren] at *
  obtain⟨v,rfl,h⟩:=h
  exact⟨v,rfl,Z05.laid H x v h⟩
 | .when c x,u,h=>by
  simp only [Z05,ren] at *
  exact⟨fun hc=>Z05.laid H x u (h.1 hc),h.2⟩
 | .alt c x y,u,h=>by
  simp only [Z05,ren] at *
  exact⟨fun hc=>Z05.laid H x u (h.1 hc),fun hc=>Z05.laid H y u (h.2 hc)⟩
 | .ub ..,_,h=>by simpa only [Z05,ren] using h
 | .csl id ver off len,u,h=>by
  simp only [Z05,ren] at *
  obtain⟨cs,sz,v,hL,hv,hsh,h⟩:=h
  obtain⟨h1,h2,h3⟩:=H.obj id _ hL
  refine⟨Z2l ρ cs,sz,v,h1,hv,hsh,fun e=>?_⟩
  rw [h2,h3,Z2A,List.length_map]
  exact h e
 | .mp id,u,h=>by
  simp only [Z05,ren] at *
  obtain⟨r,hL,h⟩:=h
  obtain⟨h1,h2,h3⟩:=H.obj id _ hL
  exact⟨r,h1,by rw [h2]; exact h⟩
 | .mpr kd f,u,h=>by
  simp only [Z05,ren] at *
  obtain⟨g,es,clock,hu,hp,hM⟩:=h
  exact⟨g,es,clock,hu,H.pobj _ _ hp,hM⟩
theorem Z0e.laid{m:Mem}{L:Heap}{ρ:Nat→Nat}{m':Mem}{L':Heap}(H:Laid m L ρ m' L'):∀(cs:List AV) (us:List Value),Z0e m L cs us→Z0e m' L' (Z2l ρ cs) us
 | [],_,h=>by simpa [Z0e,Z2l] using h
 | c::cs,us,h=>by
  simp only [Z0e,Z2l] at *
  obtain⟨u,us',rfl,h1,h2⟩:=h
  exact⟨u,us',rfl,Z05.laid H c u h1,Z0e.laid H cs us' h2⟩
end
theorem Z4y{m:Mem}{id:Nat}:¬Own m [] id:=by
 rintro (⟨_,_,_,h,_⟩ | ⟨_,h⟩) <;> simp at h
theorem Z95{m:Mem}{id g:Nat}:¬Hid m [] id g:=by
 rintro⟨_,_,_,h,_⟩; simp at h
set_option maxHeartbeats 1000000 in
theorem ZbN{m mb:Mem}{L:Heap}{w:World}(hW:Z0O m L w)(borrowed:Bool)(hb:borrowed=false→mb=m){res:AV}{N:Heap}{e:Ending}{w':World}(h:ZdT mb [] w res N e w')
  (hfree:borrowed=true→Z3I res=true∧N.all Z4g=true):ZdT m L w (ren (·+L.length) res) (L++N.map (Z1C (·+L.length))) e w':=by
 obtain⟨v,m',rfl,hv,hW',hE⟩:=h
 have hold:∀g,g<w.heap.size→w'.heap[g]?=w.heap[g]?:=fun g hg=>hE.frame g hg (fun id ho=>absurd ho Z4y) (fun id=>Z95)
 obtain⟨m2,hm2⟩:∃m2:Mem,m2={ pobj:=fun g=>if g<w.heap.size then m.pobj g else m'.pobj g,blk:=fun i=>if i<L.length then m.blk i else m'.blk (i - L.length),cap:=fun i=>if i<L.length then m.cap i else m'.cap (i - L.length) }:=⟨_,rfl⟩
 have hpin2:∀g,m2.pobj g=if g<w.heap.size then m.pobj g else m'.pobj g:=fun g=>by rw [hm2]
 have hblk1:∀i,i<L.length→m2.blk i=m.blk i:=fun i hi=>by rw [hm2]; simp [hi]
 have hcap1:∀i,i<L.length→m2.cap i=m.cap i:=fun i hi=>by rw [hm2]; simp [hi]
 have hblk2:∀i,m2.blk (i+L.length)=m'.blk i:=fun i=>by rw [hm2]; simp [show ¬i+L.length<L.length by omega]
 have hcap2:∀i,m2.cap (i+L.length)=m'.cap i:=fun i=>by rw [hm2]; simp [show ¬i+L.length<L.length by omega]
 obtain⟨m3,hm3⟩:∃m3:Mem,m3={ m' with pobj:=m2.pobj }:=⟨_,rfl⟩
 have heq:borrowed=false→m3=m':=by
  intro hbf
  have hmb:=hb hbf
  rw [hm3]
  have:m2.pobj=m'.pobj:=by
   funext g
   rw [hpin2]
   split
   ·rename_i hg; have:=hE.newobj g hg; rw [this,hmb]
   ·rfl
  rw [this]
 have hb3:m3.blk=m'.blk:=by rw [hm3]
 have hc3:m3.cap=m'.cap:=by rw [hm3]
 have hp3:m3.pobj=m2.pobj:=by rw [hm3]
 have hv3:Z05 m3 N res v:=by
  cases hbr:borrowed with
  | false=>rw [heq hbr]; exact hv
  | true=>exact Z5l hb3 hc3 (hfree hbr).1 hv
 have hrow3:∀(id:Nat) (cs:List AV) (sz ver:Nat) (us:List Value),N[id]?=some (Z0L.row cs sz ver)→Z0e m' N cs us→Z0e m3 N cs us:=by
  intro id cs sz ver us hN hcr
  cases hbr:borrowed with
  | false=>rw [heq hbr]; exact hcr
  | true=>
   have:=(hfree hbr).2
   rw [List.all_eq_true] at this
   exact Z1K hb3 hc3 _ _ (this _ (List.mem_of_getElem? hN)) hcr
 have HL:Laid m3 N (·+L.length) m2 (L++N.map (Z1C (·+L.length))):=by
  refine⟨fun g o h=>by rw [←hp3]; exact h,fun id o ho=>⟨?_,?_,?_⟩⟩
  ·rw [List.getElem?_append_right (by omega)]; simp [ho]
  ·rw [hblk2,hb3]
  ·rw [hcap2,hc3]
 have HM:Z4G m L m2 (L++N.map (Z1C (·+L.length))):=by
  refine⟨fun g o h=>by rw [hpin2,if_pos (hW.pobj_lt h)]; exact h,fun id cs sz ver hL=>?_,fun id r hL=>?_⟩
  ·have hlt:=(List.getElem?_eq_some_iff.1 hL).1
   exact⟨cs,ver,by rw [List.getElem?_append_left hlt]; exact hL,Nat.le_refl _,fun _=>⟨rfl,hblk1 id hlt,hcap1 id hlt⟩⟩
  ·have hlt:=(List.getElem?_eq_some_iff.1 hL).1
   exact⟨r,by rw [List.getElem?_append_left hlt]; exact hL,hblk1 id hlt⟩
 have hcase:∀{id:Nat} {o:Z0L},(L++N.map (Z1C (·+L.length)))[id]?=some o→(id<L.length∧L[id]?=some o)∨(∃j o',id=j+L.length∧N[j]?=some o'∧o=Z1C (·+L.length) o'):=by
  intro id o ho
  by_cases hlt:id<L.length
  ·rw [List.getElem?_append_left hlt] at ho; exact .inl ⟨hlt,ho⟩
  ·rw [List.getElem?_append_right (by omega)] at ho
   simp only [List.getElem?_map,Option.map_eq_some_iff] at ho
   obtain⟨o',h1,h2⟩:=ho
   exact .inr ⟨id - L.length,o',by omega,h1,h2.symm⟩
 have hown:∀{id:Nat},Own m2 (L++N.map (Z1C (·+L.length))) id→(Own m L id∧m2.blk id=m.blk id∧m.blk id<w.heap.size)∨(∃j,id=j+L.length∧Own m' N j∧m2.blk id=m'.blk j∧w.heap.size≤m'.blk j):=by
  intro id ho
  have hnew:∀j,Own m' N j→w.heap.size≤m'.blk j:=fun j hj=>by
   rcases hE.blks j hj with ⟨h1,_⟩ | h1
   ·exact absurd h1 Z4y
   ·exact h1
  rcases ho with ⟨cs,sz,ver,hL,hc⟩ | ⟨r,hL⟩
  ·rcases hcase hL with ⟨hlt,h1⟩ | ⟨j,o',rfl,h1,h2⟩
   ·have ho:Own m L id:=.inl ⟨_,_,_,h1,by rw [←hcap1 id hlt]; exact hc⟩
    exact .inl ⟨ho,hblk1 id hlt,hW.blk_lt ho⟩
   ·cases o' <;> simp only [Z1C,reduceCtorEq,Z0L.row.injEq] at h2
    have ho:Own m' N j:=.inl ⟨_,_,_,h1,by rw [←hcap2 j]; exact hc⟩
    exact .inr ⟨j,rfl,ho,hblk2 j,hnew j ho⟩
  ·rcases hcase hL with ⟨hlt,h1⟩ | ⟨j,o',rfl,h1,h2⟩
   ·have ho:Own m L id:=.inr ⟨_,h1⟩
    exact .inl ⟨ho,hblk1 id hlt,hW.blk_lt ho⟩
   ·cases o' <;> simp only [Z1C,reduceCtorEq,Z0L.raw.injEq] at h2
    have ho:Own m' N j:=.inr ⟨_,h1⟩
    exact .inr ⟨j,rfl,ho,hblk2 j,hnew j ho⟩
 have hhid:∀{id g:Nat},Hid m2 (L++N.map (Z1C (·+L.length))) id g→Hid m L id g∨(∃j,id=j+L.length∧Hid m' N j g∧w.heap.size≤g):=by
  rintro id g ⟨T,e,l,hL,hc⟩
  rcases hcase hL with ⟨hlt,h1⟩ | ⟨j,o',rfl,h1,h2⟩
  ·exact .inl ⟨T,e,l,h1,by rw [←hcap1 id hlt]; exact hc⟩
  ·cases o' <;> simp only [Z1C,reduceCtorEq,Z0L.raw.injEq] at h2
   subst h2
   have hh:Hid m' N j g:=⟨T,e,l,h1,by rw [←hcap2 j]; exact hc⟩
   rcases hE.hnew j g hh with k | k
   ·exact absurd k Z95
   ·exact .inr ⟨j,rfl,hh,k⟩
 have hHid:Z3S m2 (L++N.map (Z1C (·+L.length))) w':=by
  refine⟨fun id T e l hL=>?_,fun id g k=>?_,fun id g k j hj=>?_,fun i j g k1 k2=>?_⟩
  ·rcases hcase hL with ⟨hlt,h1⟩ | ⟨j,o',rfl,h1,h2⟩
   ·rw [hblk1 id hlt,hcap1 id hlt]
    exact (hW.hid.at_ _ _ _ _ h1).same (hold _ (hW.blk_lt (.inr ⟨_,h1⟩))) fun g hc=>hold _ (hW.hid.lt ⟨_,_,_,h1,hc⟩)
   ·cases o' <;> simp only [Z1C,reduceCtorEq,Z0L.raw.injEq] at h2
    subst h2
    rw [hblk2,hcap2]; exact hW'.hid.at_ _ _ _ _ h1
  ·rw [hpin2]
   rcases hhid k with k | ⟨j,rfl,k,kg⟩
   ·rw [if_pos (hW.hid.lt k)]; exact hW.hid.free _ _ k
   ·rw [if_neg (by omega)]; exact hW'.hid.free _ _ k
  ·rcases hown hj with ⟨h1,h2,h3⟩ | ⟨i',rfl,h1,h2,h3⟩ <;> rcases hhid k with k | ⟨j',rfl,k,kg⟩
   ·rw [h2]; exact hW.hid.own _ _ k _ h1
   ·omega
   ·have:=hW.hid.lt k; omega
   ·rw [h2]; exact hW'.hid.own _ _ k _ h1
  ·rcases hhid k1 with k1 | ⟨i',rfl,k1,g1⟩ <;> rcases hhid k2 with k2 | ⟨j',rfl,k2,g2⟩
   ·exact hW.hid.inj _ _ _ k1 k2
   ·have:=hW.hid.lt k1; omega
   ·have:=hW.hid.lt k2; omega
   ·rw [hW'.hid.inj _ _ _ k1 k2]
 refine⟨v,m2,rfl,Z05.laid HL _ _ hv3,⟨hW.glob.mono fun g o h=>by rw [hpin2,if_pos (hW.pobj_lt h)]; exact h,fun g o hp=>?_,fun id cs sz ver hL hc=>?_,fun id cs sz ver hL hc=>?_,fun id r hL=>?_,fun i j hi hj he=>?_,fun id ho=>?_,hHid⟩,
  ⟨fun g hg _ _=>hold g hg,hE.size,fun g hg=>by rw [hpin2,if_pos hg],fun id ho=>?_,by simp,HM,hE.same,fun id g k=>by rcases hhid k with k | ⟨_,_,_,k⟩; exact .inl k; exact .inr k⟩⟩
 ·rw [hpin2] at hp
  split at hp
  ·rename_i hg
   rw [hold g hg]; exact hW.pobjs g o hp
  ·exact hW'.pobjs g o hp
 ·rcases hcase hL with ⟨hlt,h1⟩ | ⟨j,o',rfl,h1,h2⟩
  ·rw [hcap1 id hlt] at hc ⊢
   obtain⟨us,rest,elem,lo,hi,k1,k2,k3,k4⟩:=hW.rows _ _ _ _ h1 hc
   have hb':=hW.blk_lt (.inl ⟨_,_,_,h1,hc⟩)
   exact⟨us,rest,elem,lo,hi,by rw [hblk1 id hlt,hold _ hb']; exact k1,Z0e.mono HM _ _ k2,k3,k4⟩
  ·cases o' <;> simp only [Z1C,reduceCtorEq,Z0L.row.injEq] at h2
   obtain⟨rfl,rfl,rfl⟩:=h2
   rw [hcap2] at hc ⊢
   obtain⟨us,rest,elem,lo,hi,k1,k2,k3,k4⟩:=hW'.rows _ _ _ _ h1 hc
   exact⟨us,rest,elem,lo,hi,by rw [hblk2]; exact k1,Z0e.laid HL _ _ (hrow3 _ _ _ _ _ h1 k2),k3,k4⟩
 ·rcases hcase hL with ⟨hlt,h1⟩ | ⟨j,o',rfl,h1,h2⟩
  ·rw [hcap1 id hlt] at hc; exact hW.nils _ _ _ _ h1 hc
  ·cases o' <;> simp only [Z1C,reduceCtorEq,Z0L.row.injEq] at h2
   obtain⟨rfl,rfl,rfl⟩:=h2
   rw [hcap2] at hc
   have:=hW'.nils _ _ _ _ h1 hc
   rw [this]; rfl
 ·rcases hcase hL with ⟨hlt,h1⟩ | ⟨j,o',rfl,h1,h2⟩
  ·have hb':=hW.blk_lt (.inr ⟨_,h1⟩)
   rw [hblk1 id hlt,hold _ hb']; exact hW.iters _ _ h1
  ·cases o' <;> simp only [Z1C,reduceCtorEq,Z0L.raw.injEq] at h2
   subst h2
   rw [hblk2]; exact hW'.iters _ _ h1
 ·rcases hown hi with ⟨h1,h2,h3⟩ | ⟨i',rfl,h1,h2,h3⟩ <;> rcases hown hj with ⟨k1,k2,k3⟩ | ⟨j',rfl,k1,k2,k3⟩
  ·exact hW.inj i j h1 k1 (by omega)
  ·omega
  ·omega
  ·have:=hW'.inj i' j' h1 k1 (by omega); omega
 ·rw [hpin2]
  rcases hown ho with ⟨h1,h2,h3⟩ | ⟨i',rfl,h1,h2,h3⟩
  ·rw [h2,if_pos h3]; exact hW.freeo id h1
  ·rw [h2,if_neg (by omega)]; exact hW'.freeo i' h1
 ·rcases hown ho with ⟨h1,h2,h3⟩ | ⟨i',rfl,h1,h2,h3⟩
  ·exact .inl ⟨h1,h2⟩
  ·exact .inr (by omega)
theorem Con.lift{f:FuncId} (hfn:∃fn,P.funcs[f]?=some fn∧fn.body.isNone=false∧(fn.name == "runtime.NumGoroutine")=false) {lpre:List AV→Prop} {lres:List AV→AV} {lnew:List AV→Heap} {q:Bool} (hq:q=true→∀xs,lnew xs=[])
  (h:∀(m:Mem) (w:World) (xs:List AV) (vs:List Value),Z0O m [] w→Z0e m [] xs vs→lpre xs→Calls P f vs.toArray w (ZdT m [] w (lres xs) (lnew xs))):Con P f (Z57 lpre lres lnew q) where
 quiet hq' xs L:=by simp only [Z57] at hq' ⊢; rw [hq hq']; simp
 runs:=.inl ⟨hfn,fun m L w xs vs hW hx hp=>by
  obtain⟨h1,h2,h3,h4⟩:=hp
  obtain⟨mb,hmb⟩:∃mb:Mem,mb=if xs.any (Zcg L)=true then { m with pobj:=fun g=>w.heap[g]? } else m:=⟨_,rfl⟩
  have hpin:∀g o,m.pobj g=some o→mb.pobj g=some o:=by
   intro g o hv
   rw [hmb]
   split
   ·exact hW.pobjs g o hv
   ·exact hv
  have hblk:mb.blk=m.blk∧mb.cap=m.cap:=by rw [hmb]; split <;> exact⟨rfl,rfl⟩
  have M:Z4G m L mb L:=⟨hpin,fun id cs sz ver h=>⟨cs,ver,h,Nat.le_refl _,fun _=>⟨rfl,by rw [hblk.1],by rw [hblk.2]⟩⟩,fun id r h=>⟨r,h,by rw [hblk.1]⟩⟩
  have hWb:Z0O mb [] w:=by
   refine⟨hW.glob.mono hpin,fun g o hv=>?_,fun _ _ _ _ h=>by simp at h,fun _ _ _ _ h=>by simp at h,fun _ _ h=>by simp at h,fun i j hi=>absurd hi Z4y,fun id hi=>absurd hi Z4y,.nil⟩
   rw [hmb] at hv
   split at hv
   ·exact hv
   ·exact hW.pobjs g o hv
  have hxb:Z0e mb [] (xs.map (Z4T L)) vs:=Z6i ((ZjI hW M (keep:=keep0) (full:=xs.any (Zcg L)=true) fun hf g _ _=>by rw [hmb,if_pos hf]).list hx h1 (fun h=>h)) h2
  exact (h mb w _ vs hWb hxb h3).mono fun e w' hpost=>ZbN hW (xs.any (Zcg L)) (fun hf=>by rw [hmb,hf]; rfl) hpost h4⟩
theorem Z0a.weak{fn:Func}{xs:List AV}{L:Heap}{res res':AV}{L' L'':Heap}(h:Z0a P Γ fn xs L res L')(hi:Z0k L [res] L' ([res'],L'')):Z0a P Γ fn xs L res' L'':=by
 intro X h1 h2 h3 h4
 have:=h { X with fin:=ZhU P fn.results.toList L res L',hfin:=fun fr L₁ m₁ a₁ w₁ hf hR1 hR2 hR3 hR4=>X.hfin fr L₁ m₁ a₁ w₁ (by rw [h4.1]; exact⟨hf.1,hf.2.trans hi⟩) hR1 hR2 hR3 hR4,finR:=ZhU P fn.results.toList L res L',hfinR:=fun fr L₁ m₁ a₁ w₁ hf hR1 hR2 hR3 hR4=>X.hfinR fr L₁ m₁ a₁ w₁ (by rw [h4.2.1,h4.1]; exact⟨hf.1,hf.2.trans hi⟩) hR1 hR2 hR3 hR4 } h1 h2 h3 ⟨rfl,rfl,h4.2.2⟩
 obtain⟨c,hc,hH⟩:=this
 exact⟨c,hc,hH⟩
theorem Con.of_body(hΓ:Z07 P Γ){f:FuncId}{fn:Func}(hf:P.funcs[f]?=some fn)(hb:fn.body.isNone=false) (hn:(fn.name == "runtime.NumGoroutine")=false) {lpre:List AV→Prop} {lres:List AV→AV} {lnew:List AV→Heap} {q:Bool}
  (hq:q=true→∀xs,lnew xs=[]) (h:∀xs,lpre xs→Z0a P Γ fn xs [] (lres xs) (lnew xs)):Con P f (Z57 lpre lres lnew q):=
 Con.lift ⟨fn,hf,hb,hn⟩ hq fun m w xs vs hW hx hp=>Z2k hΓ hf (h xs hp) hW hx
theorem Z92(hΓ:Z07 P Γ){f:FuncId}{fn:Func}(hf:P.funcs[f]?=some fn){xs:List AV}{vs:List Value}{m:Mem}{w:World}(hG:GOK m.pobj)(hpin:∀g o,m.pobj g=some o→w.heap[g]?=some o)(hx:Z0e m [] xs vs)
  {L':Heap} (hb:Z0a P Γ fn xs [] (.bool true) L'):Calls P f vs.toArray w fun e w'=>e=.returned (.bool true)∧Below w.heap.size w w':=by
 have hW:Z0O m [] w:=⟨hG,hpin,fun _ _ _ _ h=>by simp at h,fun _ _ _ _ h=>by simp at h,fun _ _ h=>by simp at h,fun i j hi=>absurd hi Z4y,fun id hi=>absurd hi Z4y,.nil⟩
 refine (Z2k hΓ hf hb hW hx).mono ?_
 rintro e w' ⟨v,m',rfl,hv,hW',hE⟩
 simp only [Z05] at hv
 subst hv
 exact⟨rfl,hE.same.1,hE.same.2.1,hE.same.2.2,hE.size,fun k hk=>hE.frame k hk (fun id ho=>absurd ho Z4y) (fun id=>Z95)⟩
end
end Go.Eng