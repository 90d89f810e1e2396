/- The engine, part 20: contracts for functions that turn what their arguments lead to, over objects that lead to others; a nil cell of an own row becomes an own row; classes of heaps by a pattern. -/
import Derived.Test.YtmomhjmaanagaaaGreatEng19
import Derived.Test.YtmomhjmaanagaaaGreatEng14
import Derived.Test.YtmomhjmaanagaaaGreatEng16
set_option linter.unusedVariables false
set_option linter.unusedSimpArgs false
namespace Go.Eng
open Go
mutual
def Z3D:AV→AV
 | .lit (.slice none 0 0)=>.sl [] 0
 | .agg cs=>.agg (Z1T cs)
 | .tup cs=>.tup (Z1T cs)
 | x=>x
def Z1T:List AV→List AV
 | []=>[]
 | x::xs=>Z3D x::Z1T xs
end
mutual
theorem Z05.soft{m:Mem}{L:Heap}:∀(x:AV) (u:Value),Z05 m L x u→Z05 m L (Z3D x) u
 | .lit v,u,h=>by
  by_cases hv:v=.slice none 0 0
  ·subst hv
   simp only [Z05,Z3D] at *
   exact⟨none,0,h,Nat.le_refl _,[],Z0e.nil _ _,.inl rfl⟩
  ·have e:Z3D (.lit v)=.lit v:=by
    unfold Z3D
    split <;> simp_all
   rw [e]; exact h
 | .agg cs,u,h=>by
  simp only [Z05,Z3D] at *
  obtain⟨us,rfl,hc⟩:=h
  exact⟨us,rfl,Z0e.soft cs us hc⟩
 | .tup cs,u,h=>by
  simp only [Z05,Z3D] at *
  obtain⟨us,rfl,hc⟩:=h
  exact⟨us,rfl,Z0e.soft cs us hc⟩
 | .any,_,h=>h
 | .int ..,_,h=>h
 | .bool _,_,h=>h
 | .str _,_,h=>h
 | .sl ..,_,h=>h
 | .msl ..,_,h=>h
 | .ref ..,_,h=>h
 | .ip _,_,h=>h
 | .fn ..,_,h=>h
 | .ifc ..,_,h=>h
 | .when ..,_,h=>h
 | .alt ..,_,h=>h
 | .ub ..,_,h=>h
 | .csl ..,_,h=>h
 | .mp ..,_,h=>h
 | .mpr ..,_,h=>h
theorem Z0e.soft{m:Mem}{L:Heap}:∀(cs:List AV) (us:List Value),Z0e m L cs us→Z0e m L (Z1T cs) us
 | [],_,h=>by simpa only [Z1T] using h
 | c::cs,us,h=>by
  simp only [Z0e,Z1T] at *
  obtain⟨u,us',rfl,h1,h2⟩:=h
  exact⟨u,us',rfl,Z05.soft c u h1,Z0e.soft cs us' h2⟩
end
theorem Z5i:∀cs:List AV,(Z1T cs).length=cs.length
 | []=>by simp only [Z1T]
 | c::cs=>by simp only [Z1T,List.length_cons,Z5i cs]
theorem Zb1:Z3D (.lit (.slice none 0 0))=.sl [] 0:=by simp only [Z3D]
theorem Zb3(cs:List AV):Z3D (.agg cs)=.agg (Z1T cs):=by simp only [Z3D]
theorem ZaZ(cs:List AV):Z3D (.tup cs)=.tup (Z1T cs):=by simp only [Z3D]
theorem Zb2(k:IntKind)(n:Int):Z3D (.int k n)=.int k n:=by simp only [Z3D]
theorem Zb0(l:List UInt8):Z3D (.str l)=.str l:=by simp only [Z3D]
theorem Zb4:Z1T []=[]:=by simp only [Z1T]
theorem Za0(x:AV)(xs:List AV):Z1T (x::xs)=Z3D x::Z1T xs:=by simp only [Z1T]
theorem Z0k.soft{L0:Heap}{fr:List AV}{L:Heap}{S:List AV×Heap}(h:Z0k L0 (Z1T fr) L S):Z0k L0 fr L S:=.sem (fun m us=>Z0e.soft fr us) h
attribute [push_cast] Zb1 Zb3 ZaZ Zb2 Zb0 Zb4 Za0
theorem Holds.recell{X:Cx}{k:List It}{fr:List AV}{L:Heap}(id:Nat)(cs':List AV){cs:List AV}{sz v:Nat}(hL:L[id]?=some (.row cs sz v))(hl:cs'.length=cs.length)(hc:∀m us,Z0e m L cs us→Z0e m L cs' us)
  (h:Holds X k fr (L.set id (.row cs' sz v))):Holds X k fr L:=fun m a w hR=>
 h m a w ⟨hR.wrel.recell hL hl (hc m),Z0e.mono (Z2p hL hl) _ _ hR.frel,hR.ext.recell hL hl,hR.defers⟩
theorem Holds.nilH{X:Cx}{k:List It}{fr:List AV}{L:Heap}(id j sz':Nat){cs:List AV}{sz v:Nat}(hL:L[id]?=some (.row cs sz v))(hj:cs.getD j .any=.lit (.slice none 0 0))
  (h:Holds X k fr (L.set id (.row (cs.set j (.msl L.length 0 0 0)) sz v)++[.row [] sz' 0])):Holds X k fr L:=by
 intro m a w hR
 have hlt:=(List.getElem?_eq_some_iff.1 hL).1
 have hL1:(L++[Z0L.row [] sz' 0])[id]?=some (.row cs sz v):=by rw [List.getElem?_append_left hlt]; exact hL
 have e:L.set id (.row (cs.set j (.msl L.length 0 0 0)) sz v)++[Z0L.row [] sz' 0]=(L++[Z0L.row [] sz' 0]).set id (.row (cs.set j (.msl L.length 0 0 0)) sz v):=by
  rw [List.set_append_left _ _ hlt]
 rw [e] at h
 have hjl:j<cs.length:=by
  rcases Nat.lt_or_ge j cs.length with h' | h'
  ·exact h'
  ·simp [List.getD,List.getElem?_eq_none h'] at hj
 have hW1:=hR.wrel.nil (sz:=sz')
 have hE1:=hR.ext.nil (sz:=sz')
 have hc1:=Z0e.mono (Z4i (m:=m) (L:=L) (sz:=sz')) _ _ hR.frel
 have hv:Z05 (Z4Z m L.length) (L++[Z0L.row [] sz' 0]) (.msl L.length 0 0 0) (.slice none 0 0):=by
  simp only [Z05]
  exact⟨[],sz',0,by simp,Nat.le_refl _,⟨none,0,0,rfl⟩,fun _=>⟨by simp,by simp,none,by simp [Z4Z],.inl (by simp [Z4Z])⟩⟩
 have hcell:∀us,Z0e (Z4Z m L.length) (L++[Z0L.row [] sz' 0]) cs us→Z0e (Z4Z m L.length) (L++[Z0L.row [] sz' 0]) (cs.set j (.msl L.length 0 0 0)) us:=by
  intro us hcs
  refine Z0e.mk (by simp [hcs.length]) fun i c u hi hu=>?_
  rw [List.getElem?_set] at hi
  by_cases hij:j=i
  ·subst hij
   simp [hjl] at hi
   subst hi
   have:=hcs.getD j
   rw [hj] at this
   simp only [Z05] at this
   simp [List.getD,hu] at this
   rw [this]; exact hv
  ·simp [hij] at hi
   obtain⟨u1,hu1,hr1⟩:=hcs.get i c hi
   rw [hu] at hu1; obtain rfl:=Option.some.inj hu1; exact hr1
 exact h _ a w ⟨hW1.recell hL1 (by simp) hcell,Z0e.mono (Z2p hL1 (by simp)) _ _ hc1,hE1.recell hL1 (by simp),hR.defers⟩
inductive Pt where
 | fix (o:Z0L)
 | row (sz ver:Nat)
 | len (n sz ver:Nat)
 | any
def Z3c:List Pt→Heap→Prop
 | [],_=>True
 | .fix o::ps,G=>∃G',G=o::G'∧Z3c ps G'
 | .row sz v::ps,G=>∃cs G',G=.row cs sz v::G'∧Z3c ps G'
 | .len n sz v::ps,G=>∃cs G',cs.length=n∧G=.row cs sz v::G'∧Z3c ps G'
 | .any::ps,G=>∃o G',G=o::G'∧Z3c ps G'
theorem Zii(f:Heap→Prop):qob (Z3c []) f=∀A,f A:=propext ⟨fun h A=>h A trivial,fun h A _=>h A⟩
theorem Zih(o:Z0L)(ps:List Pt)(f:Heap→Prop):qob (Z3c (.fix o::ps)) f=qob (Z3c ps) (fun G=>f (o::G)):=propext ⟨fun h G hG=>h _ ⟨G,rfl,hG⟩,fun h G ⟨G',e,hG⟩=>e▸h G' hG⟩
theorem Zig(sz v:Nat)(ps:List Pt)(f:Heap→Prop):qob (Z3c (.row sz v::ps)) f=∀cs,qob (Z3c ps) (fun G=>f (.row cs sz v::G)):=propext ⟨fun h cs G hG=>h _ ⟨cs,G,rfl,hG⟩,fun h G ⟨cs,G',e,hG⟩=>e▸h cs G' hG⟩
theorem Zio(G:Heap):Z3c [] G=True:=rfl
theorem Zin(o:Z0L)(ps:List Pt)(G:Heap):Z3c (.fix o::ps) (o::G)=Z3c ps G:=by simp [Z3c]
theorem Zim(cs:List AV)(sz v:Nat)(ps:List Pt)(G:Heap):Z3c (.row sz v::ps) (.row cs sz v::G)=Z3c ps G:=propext ⟨fun ⟨_,_,h,h'⟩=>by cases h; exact h',fun h=>⟨_,_,rfl,h⟩⟩
theorem Z0M:∀(ps:List Pt) {G:Heap} (A:Heap),Z3c ps G→Z3c ps (G++A)
 | [],_,_,_=>trivial
 | .fix o::ps,_,A,⟨G',e,h⟩=>⟨G'++A,by rw [e]; rfl,Z0M ps A h⟩
 | .row sz v::ps,_,A,⟨cs,G',e,h⟩=>⟨cs,G'++A,by rw [e]; rfl,Z0M ps A h⟩
 | .len n sz v::ps,_,A,⟨cs,G',hl,e,h⟩=>⟨cs,G'++A,hl,by rw [e]; rfl,Z0M ps A h⟩
 | .any::ps,_,A,⟨o,G',e,h⟩=>⟨o,G'++A,by rw [e]; rfl,Z0M ps A h⟩
attribute [push_cast] Zii Zih Zig Zio Zin Zim
structure ZhT where
 ids:List AV→Heap→List Nat
 args:List AV→Heap→List AV
 start:List AV→Heap→Heap
 pre:List AV→Heap→Prop
 res:List AV→Heap→AV
 post:List AV→Heap→Heap
def liftH(g:ZhT):Z0n where
 pre xs L:=(∀x∈xs,ZeZ L (g.ids xs L) x)∧(g.ids xs L).Nodup∧xs.map (Z49 L (g.ids xs L))=Z2l (fun j=>(g.ids xs L).getD j j) (g.args xs L)∧
  ((g.ids xs L).map fun i=>L[i]?)=((g.start xs L).map fun o=>some (Z1C (fun j=>(g.ids xs L).getD j j) o))∧Z0Z (g.start xs L).length (g.args xs L)=true∧(g.start xs L).all (Z2H (g.start xs L).length)=true∧
  g.pre (g.args xs L) (g.start xs L)∧(xs.any (Z4q L (g.ids xs L))=true→Z3I (g.res (g.args xs L) (g.start xs L))=true∧(g.post (g.args xs L) (g.start xs L)).all Z4g=true)
 res xs L:=ren (Z6p (g.ids xs L) L.length) (g.res (g.args xs L) (g.start xs L))
 post xs L:=Z84 (g.ids xs L) L (g.post (g.args xs L) (g.start xs L))
 quiet:=false
section
variable {P:Program} {Γ:Env}
open Classical in
theorem Con.liftH{f:FuncId} (hfn:∃fn,P.funcs[f]?=some fn∧fn.body.isNone=false∧(fn.name == "runtime.NumGoroutine")=false) {g:ZhT}
  (h:∀(m:Mem) (L:Heap) (w:World) (xs:List AV) (vs:List Value),Z0O m L w→Z0e m L xs vs→g.pre xs L→Calls P f vs.toArray w (ZdT m L w (g.res xs L) (g.post xs L))):Con P f (Eng.liftH g) where
 quiet hq:=by cases hq
 runs:=.inl ⟨hfn,fun m L w xs vs hW hx hp=>by
  obtain⟨h1,h2,h3,h4,h5,h6,h7,h8⟩:=hp
  obtain⟨ids,hids⟩:∃ids,ids=g.ids xs L:=⟨_,rfl⟩
  rw [←hids] at h1 h2 h3 h4 h8
  obtain⟨mp,hmp⟩:∃mp:Mem,mp=if xs.any (Z4q L ids)=true then { m with pobj:=fun g=>if (∃i∈ids,Own m L i∧m.blk i=g)∨(∃i∈ids,Hid m L i g) then none else w.heap[g]? } else m:=⟨_,rfl⟩
  have hpin:∀g o,m.pobj g=some o→mp.pobj g=some o:=by
   intro g o hv
   rw [hmp]
   split
   ·simp only
    rw [if_neg]
    ·exact hW.pobjs _ _ hv
    ·rintro (⟨i,hi,ho,rfl⟩ | ⟨i,hi,hk⟩)
     ·have:=hW.freeo i ho
      rw [hv] at this; cases this
     ·have:=hW.hid.free i _ hk
      rw [hv] at this; cases this
   ·exact hv
  have hblk:mp.blk=m.blk∧mp.cap=m.cap:=by rw [hmp]; split <;> exact⟨rfl,rfl⟩
  have hpins:∀g o,mp.pobj g=some o→w.heap[g]?=some o:=by
   intro g o hv
   rw [hmp] at hv
   split at hv
   ·simp only at hv
    split at hv
    ·cases hv
    ·exact hv
   ·exact hW.pobjs _ _ hv
  have hfree:∀i∈ids,Own m L i→mp.pobj (m.blk i)=none:=by
   intro i hi ho
   rw [hmp]
   split
   ·simp only
    rw [if_pos (.inl ⟨i,hi,ho,rfl⟩)]
   ·exact hW.freeo i ho
  have M:Z4G m L mp L:=⟨hpin,fun id cs sz ver h=>⟨cs,ver,h,Nat.le_refl _,fun _=>⟨rfl,by rw [hblk.1],by rw [hblk.2]⟩⟩,fun id r h=>⟨r,h,by rw [hblk.1]⟩⟩
  have hx':Z0e mp L (xs.map (Z49 L ids)) vs:=(ZjI hW M (keep:=Z3L ids) (full:=xs.any (Z4q L ids)=true) fun hf g hno hnh=>by
   rw [hmp,if_pos hf]
   simp only
   rw [if_neg]
   rintro (⟨i,hi,ho,he⟩ | ⟨i,hi,hk⟩)
   ·exact hno i (by simp [Z3L,hi]) ho he
   ·exact hnh i (by simp [Z3L,hi]) hk).list hx h1 (fun h=>h)
  have hw:ZdS 0 ids (xs.map (Z49 L ids)) L (g.args xs L) (g.start xs L):=⟨by rw [h3]; exact Z0d _,h4,h2,rfl,h5,h6⟩
  have H:=hw.renamed mp
  have hc0:=Z0e.ren H _ _ (by rw [←h3]; exact hx') h5
  obtain⟨mb,hmb⟩:∃mb:Mem,mb={ mp with blk:=fun i=>mp.blk (ids.getD i i),cap:=fun i=>mp.cap (ids.getD i i) }:=⟨_,rfl⟩
  rw [←hmb] at H hc0
  have hgd:∀j,j<ids.length→ids.getD j j=ids.getD j 0:=fun j hj=>by simp [List.getD,hj]
  have HL:Z9i m mb L (g.start xs L) ids:=⟨h2,h4,fun j hj=>by rw [hmb]; simp only [hblk.1,hgd j hj],fun j hj=>by rw [hmb]; simp only [hblk.2,hgd j hj],fun g o hv=>by rw [hmb]; exact hpin g o hv⟩
  have hfreeH:∀i∈ids,∀g,Hid m L i g→mp.pobj g=none:=by
   intro i hi g hk
   rw [hmp]
   split
   ·simp only
    rw [if_pos (.inr ⟨i,hi,hk⟩)]
   ·exact hW.hid.free i g hk
  have hW0:Z0O mb (g.start xs L) w:=by
   have hs':∀o∈g.start xs L,Z2H (g.start xs L).length o=true:=by simpa [List.all_eq_true] using h6
   refine⟨hW.glob.mono fun g o hv=>by rw [hmb]; exact hpin g o hv,fun g o hv=>hpins g o (by rw [hmb] at hv; exact hv),fun j cs sz ver hL hc=>?_,fun j cs sz ver hL hc=>?_,fun j r hL=>?_,fun i j hi hj he=>?_,fun j ho=>?_,⟨fun j T e l hL=>?_,fun j g k=>?_,fun j g k i hi=>?_,fun i j g k1 k2=>?_⟩⟩
   ·obtain⟨k1,k2⟩:=HL.at hL
    rw [HL.cap j k1] at hc ⊢
    obtain⟨us,rest,elem,lo,hi,q1,q2,q3,q4⟩:=hW.rows _ _ _ _ k2 hc
    have hscp:=hs' _ (List.mem_of_getElem? hL)
    exact⟨us,rest,elem,lo,hi,by rw [HL.blk j k1]; exact q1,Z0e.ren H _ _ (Z0e.mono M _ _ q2) (by simpa [Z2H] using hscp),q3,q4⟩
   ·obtain⟨k1,k2⟩:=HL.at hL
    rw [HL.cap j k1] at hc
    have:=hW.nils _ _ _ _ k2 hc
    rw [Z2A] at this
    simpa using this
   ·obtain⟨k1,k2⟩:=HL.at hL
    rw [HL.blk j k1]; exact hW.iters _ _ k2
   ·obtain⟨a1,a2,a3⟩:=HL.own hi
    obtain⟨b1,b2,b3⟩:=HL.own hj
    exact Z4Q h2 a1 b1 (hW.inj _ _ a2 b2 (by omega))
   ·obtain⟨a1,a2,a3⟩:=HL.own ho
    rw [a3,hmb]
    exact hfree _ (Z1F a1) a2
   ·obtain⟨k1,k2⟩:=HL.at hL
    rw [HL.blk j k1,HL.cap j k1]; exact hW.hid.at_ _ _ _ _ k2
   ·obtain⟨a1,a2⟩:=HL.hid k
    rw [hmb]; exact hfreeH _ (Z1F a1) g a2
   ·obtain⟨a1,a2⟩:=HL.hid k
    obtain⟨b1,b2,b3⟩:=HL.own hi
    rw [b3]; exact hW.hid.own _ _ a2 _ b2
   ·obtain⟨a1,a2⟩:=HL.hid k1
    obtain⟨b1,b2⟩:=HL.hid k2
    exact Z4Q h2 a1 b1 (hW.hid.inj _ _ _ a2 b2)
  have:=(h mb (g.start xs L) w (g.args xs L) vs hW0 hc0 h7).mono fun e w' hpost=>Z6P hW HL (xs.any (Z4q L ids)) (fun hf=>by rw [hmb,hmp,hf]; rfl) hpost h8
  rw [hids] at this
  exact this⟩
theorem Con.liftH_of_body(hΓ:Z07 P Γ){f:FuncId}{fn:Func}(hf:P.funcs[f]?=some fn)(hb:fn.body.isNone=false) (hn:(fn.name == "runtime.NumGoroutine")=false) {g:ZhT}
  (h:∀xs L,g.pre xs L→Z0a P Γ fn xs L (g.res xs L) (g.post xs L)):Con P f (Eng.liftH g):=
 Con.liftH ⟨fn,hf,hb,hn⟩ fun m L w xs vs hW hx hp=>Z2k hΓ hf (h xs L hp) hW hx
end
mutual
def Z39:AV→List Nat
 | .ref id _ _=>[id]
 | .fn _ a b=>Z3l a++Z3l b
 | .agg cs=>Z3l cs
 | _=>[]
def Z3l:List AV→List Nat
 | []=>[]
 | x::xs=>Z39 x++Z3l xs
end
def Z2e:List AV→List Nat
 | []=>[]
 | .msl id _ _ _::xs=>id::Z2e xs
 | .ref id _ _::xs=>id::Z2e xs
 | .mp id::xs=>id::Z2e xs
 | _::xs=>Z2e xs
def Z41(deep:Bool)(L:Heap)(id:Nat):List Nat:=match L[id]? with
 | some (.row cs _ _)=>cond deep (Z2e cs) (Z3l cs)
 | _=>[]
def inL:List Nat→Nat→Bool
 | [],_=>false
 | i::is,j=>i == j || inL is j
def Z13:List Nat→List Nat→List Nat
 | is,[]=>is
 | is,j::js=>cond (inL is j) (Z13 is js) (Z13 (is++[j]) js)
def Z2f:List Nat→List Nat→List Nat
 | _,[]=>[]
 | is,j::js=>cond (inL is j) (Z2f is js) (j::Z2f is js)
def Zg0:List Nat→Nat→Nat
 | [],_=>0
 | i::is,j=>cond (i == j) 0 (Zg0 is j+1)
def Z2n(deep:Bool)(L:Heap):Nat→List Nat→List Nat→List Nat
 | 0,is,_=>is
 | _+1,is,[]=>is
 | n+1,is,q::qs=>Z2n deep L n (Z13 is (Z41 deep L q)) (qs++Z2f is (Z41 deep L q))
def Zai(deep:Bool)(xs:List AV)(L:Heap):List Nat:=Z2n deep L 9 (Z13 [] (Z3l xs)) (Z13 [] (Z3l xs))
theorem Zhn(j:Nat):inL [] j=false:=rfl
theorem Zf5(i j:Nat)(is:List Nat):inL (i::is) j=(i == j || inL is j):=rfl
theorem ZaC(is:List Nat):Z13 is []=is:=rfl
theorem Z9g(is js:List Nat)(j:Nat):Z13 is (j::js)=cond (inL is j) (Z13 is js) (Z13 (is++[j]) js):=rfl
theorem Zc3(is:List Nat):Z2f is []=[]:=rfl
theorem Zao(is js:List Nat)(j:Nat):Z2f is (j::js)=cond (inL is j) (Z2f is js) (j::Z2f is js):=rfl
theorem Zf7(j:Nat):Zg0 [] j=0:=rfl
theorem Zcj(i j:Nat)(is:List Nat):Zg0 (i::is) j=cond (i == j) 0 (Zg0 is j+1):=rfl
theorem Zep(deep:Bool)(xs:List AV)(L:Heap):Zai deep xs L=Z2n deep L 9 (Z13 [] (Z3l xs)) (Z13 [] (Z3l xs)):=rfl
theorem Zaa(deep:Bool)(L:Heap)(n:Nat)(is:List Nat):Z2n deep L n is []=is:=by cases n <;> rfl
theorem Zeq(deep:Bool)(L:Heap)(is qs:List Nat)(q:Nat):Z2n deep L 9 is (q::qs)=Z2n deep L 8 (Z13 is (Z41 deep L q)) (qs++Z2f is (Z41 deep L q)):=rfl
theorem Zer(deep:Bool)(L:Heap)(is qs:List Nat)(q:Nat):Z2n deep L 8 is (q::qs)=Z2n deep L 7 (Z13 is (Z41 deep L q)) (qs++Z2f is (Z41 deep L q)):=rfl
theorem Zes(deep:Bool)(L:Heap)(is qs:List Nat)(q:Nat):Z2n deep L 7 is (q::qs)=Z2n deep L 6 (Z13 is (Z41 deep L q)) (qs++Z2f is (Z41 deep L q)):=rfl
theorem Zet(deep:Bool)(L:Heap)(is qs:List Nat)(q:Nat):Z2n deep L 6 is (q::qs)=Z2n deep L 5 (Z13 is (Z41 deep L q)) (qs++Z2f is (Z41 deep L q)):=rfl
theorem Zeu(deep:Bool)(L:Heap)(is qs:List Nat)(q:Nat):Z2n deep L 5 is (q::qs)=Z2n deep L 4 (Z13 is (Z41 deep L q)) (qs++Z2f is (Z41 deep L q)):=rfl
theorem Zev(deep:Bool)(L:Heap)(is qs:List Nat)(q:Nat):Z2n deep L 4 is (q::qs)=Z2n deep L 3 (Z13 is (Z41 deep L q)) (qs++Z2f is (Z41 deep L q)):=rfl
theorem Zew(deep:Bool)(L:Heap)(is qs:List Nat)(q:Nat):Z2n deep L 3 is (q::qs)=Z2n deep L 2 (Z13 is (Z41 deep L q)) (qs++Z2f is (Z41 deep L q)):=rfl
theorem Zbn(id v o:Nat):Z39 (.ref id v o)=[id]:=rfl
theorem Zel(f:Fn)(a b:List AV):Z39 (.fn f a b)=Z3l a++Z3l b:=by simp only [Z39]
theorem Zbr(k:IntKind)(n:Int):Z39 (.int k n)=[]:=rfl
theorem Zbm(l:List UInt8):Z39 (.str l)=[]:=rfl
theorem Za6(b:Bool):Z39 (.bool b)=[]:=rfl
theorem Zbq(v:Value):Z39 (.lit v)=[]:=rfl
theorem Zej(cs:List AV)(n:Nat):Z39 (.sl cs n)=[]:=by simp only [Z39]
theorem Zbo(a b c d:Nat):Z39 (.msl a b c d)=[]:=rfl
theorem Zbp(k:Option IntKind)(f:Key→Option Value):Z39 (.mpr k f)=[]:=rfl
theorem Zek(id:Nat):Z39 (.mp id)=[]:=rfl
theorem Zbs:Z3l []=[]:=rfl
theorem Za7(x:AV)(xs:List AV):Z3l (x::xs)=Z39 x++Z3l xs:=by simp only [Z3l]
theorem Zbh:Z2e []=[]:=rfl
theorem Zbi(id v o n:Nat)(xs:List AV):Z2e (.msl id v o n::xs)=id::Z2e xs:=rfl
theorem Zbg(id v o:Nat)(xs:List AV):Z2e (.ref id v o::xs)=id::Z2e xs:=rfl
theorem Zeg(id:Nat)(xs:List AV):Z2e (.mp id::xs)=id::Z2e xs:=rfl
theorem Zbl(k:IntKind)(n:Int)(xs:List AV):Z2e (.int k n::xs)=Z2e xs:=rfl
theorem Zbf(l:List UInt8)(xs:List AV):Z2e (.str l::xs)=Z2e xs:=rfl
theorem Za5(b:Bool)(xs:List AV):Z2e (.bool b::xs)=Z2e xs:=rfl
theorem Zbk(v:Value)(xs:List AV):Z2e (.lit v::xs)=Z2e xs:=rfl
theorem Zef(cs:List AV)(n:Nat)(xs:List AV):Z2e (.sl cs n::xs)=Z2e xs:=rfl
theorem Zeh(cs:List AV)(xs:List AV):Z2e (.ip cs::xs)=Z2e xs:=rfl
mutual
theorem ZbM:∀x:AV,Z0H x=true→Z39 x=[]
 | .agg cs,h=>by simp only [Z0H,Z39] at *; exact Z2q cs h
 | .fn _ a b,h=>by simp only [Z0H,Z39,Bool.and_eq_true] at *; rw [Z2q a h.1,Z2q b h.2]; rfl
 | .tup _,_=>by simp only [Z39]
 | .sl ..,_=>by simp only [Z39]
 | .ip _,_=>by simp only [Z39]
 | .ifc ..,_=>by simp only [Z39]
 | .int ..,_=>rfl
 | .bool _,_=>rfl
 | .str _,_=>rfl
 | .lit _,_=>rfl
 | .mpr ..,_=>rfl
 | .any,h=>by simp [Z0H] at h
 | .msl ..,h=>by simp [Z0H] at h
 | .ref ..,h=>by simp [Z0H] at h
 | .when ..,h=>by simp [Z0H] at h
 | .alt ..,h=>by simp [Z0H] at h
 | .ub ..,h=>by simp [Z0H] at h
 | .csl ..,h=>by simp [Z0H] at h
 | .mp ..,h=>by simp [Z0H] at h
theorem Z2q:∀xs:List AV,Z1D xs=true→Z3l xs=[]
 | [],_=>rfl
 | x::xs,h=>by simp only [Z1D,Z3l,Bool.and_eq_true] at *; rw [ZbM x h.1,Z2q xs h.2]; rfl
end
theorem Z4e:∀xs:List AV,Z1D xs=true→Z2e xs=[]
 | [],_=>rfl
 | x::xs,h=>by
  simp only [Z1D,Bool.and_eq_true] at h
  have:=Z4e xs h.2
  cases x <;> simp only [Z2e,this] <;> simp [Z0H] at h
section
variable {α:Type} {f:α→AV} {g:α→List AV}
theorem Zbt[Z3x f](xs:List α):Z3l (xs.map f)=[]:=Z2q _ (Z1d xs)
theorem Zem[Z1t g](xs:List α):Z3l (xs.flatMap g)=[]:=Z2q _ (Z2u xs)
theorem ZgU[Z1t g](x:α):Z3l (g x)=[]:=Z2q _ (Z7q x)
theorem Zbj[Z3x f](xs:List α):Z2e (xs.map f)=[]:=Z4e _ (Z1d xs)
theorem Zei[Z1t g](xs:List α):Z2e (xs.flatMap g)=[]:=Z4e _ (Z2u xs)
theorem ZgT[Z1t g](x:α):Z2e (g x)=[]:=Z4e _ (Z7q x)
end
attribute [push_cast] Zhn Zf5 ZaC Z9g Zc3 Zao Zf7 Zcj Zep Zaa Zeq Zer Zes Zet Zeu Zev Zew Zbn Zel Zbr Zbm Za6 Zbq Zej Zbo Zbp Zek Zbs Za7 Zbh Zeg Zbi Zbg Zbl Zbf Za5 Zbk Zef Zeh Z41 Zbt Zem ZgU Zbj Zei ZgT
open Classical in
noncomputable def Z0A{α β κ:Type}(e:α→κ)(r:α→β)(d:β)(x:κ):β:=if h:∃a,x=e a then r h.choose else d
theorem Z09{α β κ:Type}{e:α→κ}(hi:∀a b,e a=e b→a=b)(r:α→β)(d:β)(a:α):Z0A e r d (e a)=r a:=by
 have h:∃b,e a=e b:=⟨a,rfl⟩
 unfold Z0A
 rw [dif_pos h,←hi _ _ h.choose_spec]
def Z1p{α κ:Type}(e:α→κ)(p:α→Prop)(x:κ):Prop:=∃a,x=e a∧p a
theorem Z0x{α κ:Type}{e:α→κ}(hi:∀a b,e a=e b→a=b)(p:α→Prop)(a:α):Z1p e p (e a)=p a:=
 propext ⟨fun ⟨b,h1,h2⟩=>by rw [hi _ _ h1]; exact h2,fun h=>⟨a,rfl,h⟩⟩
noncomputable def Z1I{α:Type}(deep:Bool)(e:α→List AV×Heap)(p:α→Prop)(r:α→AV)(h:α→Heap):Z0n:=liftH {
 ids:=Zai deep
 args:=fun xs L=>Z2l (fun j=>Zg0 (Zai deep xs L) j) (xs.map (Z49 L (Zai deep xs L)))
 start:=fun xs L=>(Zai deep xs L).map fun i=>Z1C (fun j=>Zg0 (Zai deep xs L) j) (L.getD i .dead)
 pre:=fun xs L=>Z1p e p (xs,L)
 res:=fun xs L=>Z0A e r .any (xs,L)
 post:=fun xs L=>Z0A e h [] (xs,L) }
attribute [push_cast] Z1I liftH
theorem Z0v{P:Program}{Γ:Env}(hΓ:Z07 P Γ){f:FuncId}{fn:Func}(hf:P.funcs[f]?=some fn)(hb:fn.body.isNone=false) (hn:(fn.name == "runtime.NumGoroutine")=false) {α:Type} {deep:Bool} {e:α→List AV×Heap} {p:α→Prop} {r:α→AV} {h:α→Heap}
  (hi:∀a b,e a=e b→a=b) (hh:∀a,p a→Z0a P Γ fn (e a).1 (e a).2 (r a) (h a)):Con P f (Z1I deep e p r h):=by
 refine Con.liftH_of_body hΓ hf hb hn fun xs L hx=>?_
 obtain⟨a,ha,hp⟩:=hx
 simp only
 rw [ha,Z09 hi,Z09 hi]
 have h1:xs=(e a).1:=by rw [←ha]
 have h2:L=(e a).2:=by rw [←ha]
 rw [h1,h2]
 exact hh a hp
end Go.Eng