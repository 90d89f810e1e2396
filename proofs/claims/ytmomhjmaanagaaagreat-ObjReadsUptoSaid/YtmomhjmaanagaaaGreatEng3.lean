/- The engine, part 3: the evaluator says of each operation what the model's run does: operations that change no memory. -/
import Derived.Test.YtmomhjmaanagaaaGreatEng2
import Derived.Laws.StructEq
import Derived.ChangeKeysEq
set_option linter.unusedVariables false
set_option linter.unusedSimpArgs false
namespace Go.Eng
open Go
theorem Zak(m:Mem)(L:Heap)(v:Value):Z05 m L (Z45 v) v:=by
 cases v <;> simp [Z45,Z05]
theorem Z2S(m:Mem)(L:Heap):∀vs:List Value,Z0e m L (vs.map Z45) vs
 | []=>by simp [Z0e]
 | v::vs=>by simp only [List.map_cons]; exact Z0e.cons (Zak m L v) (Z2S m L vs)
theorem Z44(m:Mem)(L:Heap)(v:Value):Z05 m L (ofV v) v:=by
 cases v with
 | agg cs=>simp only [ofV,Z05]; exact⟨cs.toList,by simp,Z2S m L _⟩
 | func f a b=>simp only [ofV,Z05]; exact⟨a.toList,b.toList,by simp,Z2S m L _,Z2S m L _⟩
 | _=>simp [ofV,Z45,Z05]
theorem Z4z{m:Mem}{L:Heap}{fr:List AV}{a:Act}(h:Z0e m L fr a.tmps.toList)(x:Operand):Z05 m L (opd fr x) (a.eval x):=by
 cases x with
 | tmp t=>
  have:=h.getD t
  simpa [opd,Act.eval,Array.getD_eq_getD_getElem?,List.getD_eq_getElem?_getD] using this
 | const v=>exact Z44 m L v
 | global g=>simp [opd,Act.eval,Z05]
 | func f=>simp [opd,Act.eval,Z05,Z0e]
theorem Z3R{m:Mem}{L:Heap}{x:AV}{u:Value}(h:Z05 m L x u)(hc:x.cond=true):Z05 m L x.bare u:=by
 cases x <;> first | exact h | (simp only [Z05,AV.bare,AV.cond] at *; exact h.1 hc)
def Z0l(P:Program)(m:Mem)(L:Heap)(w:World)(z:Rz)(s:Sem Next):Prop:=
 z.pre→∃n w' m',s.run P w=.ok n w'∧((∃u,n=.value u∧Z05 m' z.L z.v u)∨(n=.skip∧z.v=.lit undef))∧Z0O m' z.L w'∧Ext m L w m' z.L w'
def Z1B(s:Sem Value):Sem Next:=do pure (.value (←s))
theorem Z0l.pure{P:Program}{m:Mem}{L:Heap}{w:World}{pre:Prop}{v:AV}{s:Sem Value}(hW:Z0O m L w)(h:pre→∃u,s.run P w=.ok u w∧Z05 m L v u) :
  Z0l P m L w ⟨pre,v,L⟩ (Z1B s):=by
 intro hp
 obtain⟨u,hr,hv⟩:=h hp
 exact⟨.value u,w,m,by simp [Z1B,hr],.inl ⟨u,rfl,hv⟩,hW,Ext.refl⟩
theorem Z0l.also{P:Program}{m:Mem}{L:Heap}{w:World}{z:Rz}{s:Sem Next}{p:Prop}(h:p→Z0l P m L w z s):Z0l P m L w (z.also p) s:=
 fun hp=>h hp.1 hp.2
theorem Z0l.bad{P:Program}{m:Mem}{L:Heap}{w:World}{s:Sem Next}:Z0l P m L w (bad L) s:=fun h=>h.elim
section
variable {P:Program} {m:Mem} {L:Heap} {w:World}
theorem Zch(hW:Z0O m L w)(op:BinOp)(t:TypeId)(x y:Operand)(k k':IntKind)(a b:Int) :
  Z0l P m L w (Zjz true L op k a k' b) (Z1B (do eqGuard op t x y (.int k a) (.int k' b); binOp op t (.int k a) (.int k' b))):=by
 cases op <;> refine Z0l.pure hW fun hp=>?_ <;>
  first
  | (subst hp; simp [eqGuard,binOp,Op.intArith,Op.intBits,Op.intCmp,Z05,Z2x]; done)
  | (subst hp; simp [eqGuard,binOp,Op.intCmp,Z05]; cases h:decide (a=b) <;> simp_all; done)
  | (obtain⟨rfl,hb⟩:=hp; have hb:=hb rfl; simp [eqGuard,binOp,Op.intDiv,Z05,hb]; done)
  | (have hp:=hp rfl; simp [eqGuard,binOp,Op.shift,Z05,show ¬b<0 by omega]; done)
theorem ZaX(hW:Z0O m L w)(op:BinOp)(t:TypeId)(x y:Operand)(a b:List UInt8) :
    Z0l P m L w (Zjt true L op a b) (Z1B (do eqGuard op t x y (.string ⟨a.toArray⟩) (.string ⟨b.toArray⟩); binOp op t (.string ⟨a.toArray⟩) (.string ⟨b.toArray⟩))):=by
  cases op <;> first | exact fun h=>h.elim | refine Z0l.pure hW fun hp=>?_
  all_goals first
    | (simp [eqGuard,binOp,Op.stringOp,Z05,ByteArray.toList_mk]; done)
    | (have hp:=hp rfl
       have h0:¬(9223372036854775807<((⟨a.toArray⟩:ByteArray).size:Int)+((⟨b.toArray⟩:ByteArray).size:Int)):=by
        simp [ByteArray.size]; omega
       simp [eqGuard,binOp,Op.stringOp,Z05,h0]
       apply ByteArray.ext; simp)
theorem Z01{t:TypeId}{d:TypeDesc}(h:P.underlying t=some d):(underlying t).run P w=.ok d w:=by simp [underlying,h]
theorem Z6s{t:TypeId}(h:P.underlying t=some .bool)(a b:Bool):(Op.equal t (.bool a) (.bool b)).run P w=.ok (a == b) w:=by
 show (Op.equalIn (9999+1) t (.bool a) (.bool b)).run P w=_
 generalize 9999=d
 simp [Op.equalIn,Z01 h]
theorem Ze1(hW:Z0O m L w)(op:UnOp){X:AV}{u:Value}(hx:Z05 m L X u):Z0l P m L w (unR L op X) (Z1B (Op.unary op u)):=by
 cases op <;> cases X <;> first
  | exact fun h=>h.elim
  | (simp only [Z05] at hx; obtain⟨b,rfl,h1,h2⟩:=hx; refine Z0l.pure hW fun _=>?_; cases b <;> simp_all [Op.unary,Z05]; done)
  | (simp only [Z05] at hx; subst hx; refine Z0l.pure hW fun _=>?_; simp [Op.unary,Op.intArith,Op.intBits,Z05,Z2x])
theorem Z4L{t:TypeId}(h:(P.info? t).isSome=true):∃i,P.info? t=some i∧P.cellsOf t=i.size∧P.bytesOf t=i.bytes:=by
 obtain⟨i,hi⟩:=Option.isSome_iff_exists.1 h
 exact⟨i,hi,by simp [Program.cellsOf,hi],by simp [Program.bytesOf,hi]⟩
theorem Z0s{t:TypeId}(h:(P.info? t).isSome=true):(sizeOf t).run P w=.ok (P.cellsOf t) w:=by
 obtain⟨i,hi,hs,_⟩:=Z4L h
 simp [sizeOf,typeInfo,hi,hs]
theorem Z16(g o:Nat)(us:List Value)(n:Nat)(hn:n≤us.length)(h:∀j v,us[j]?=some v→w.cell? ⟨g,o+j,none⟩=some v) :
  (loadCells ⟨g,o,none⟩ n).run P w=.ok (us.take n).toArray w:=by
 have:=run_loadCells_list (P:=P) (w:=w) ⟨g,o,none⟩ (us.take n) fun j v hj=>by
  rw [Addr.add_lit]
  rw [List.getElem?_take] at hj
  split at hj
  ·exact h j v hj
  ·cases hj
 rwa [show (us.take n).length=n by simp; omega] at this
theorem Z2G{t:TypeId}{cs:List AV}{us:List Value}{g o:Nat}(hc:Z0e m L cs us)(h:∀j v,us[j]?=some v→w.cell? ⟨g,o+j,none⟩=some v)
  (ho:Z2U P t cs.length):∃u,(loadVar t ⟨g,o,none⟩).run P w=.ok u w∧Z05 m L (Z3M P t cs) u:=by
 unfold Z2U at ho
 have hl:=hc.length
 split at ho
 ·rename_i fs hu
  refine⟨.agg (us.take (P.cellsOf t)).toArray,?_,?_⟩
  ·have hld:=Z16 (P:=P) (w:=w) g o us (P.cellsOf t) (by omega) h
   simp [loadVar,isAgg,Z01 hu,Z0s ho.1,hld]
  ·simp only [Z3M,hu,Z05]; exact⟨_,rfl,hc.take _⟩
 ·rename_i n e hu
  refine⟨.agg (us.take (P.cellsOf t)).toArray,?_,?_⟩
  ·have hld:=Z16 (P:=P) (w:=w) g o us (P.cellsOf t) (by omega) h
   simp [loadVar,isAgg,Z01 hu,Z0s ho.1,hld]
  ·simp only [Z3M,hu,Z05]; exact⟨_,rfl,hc.take _⟩
 ·rename_i d hu1 hu2 hu
  obtain⟨c,hc0⟩:∃c,cs[0]?=some c:=⟨cs[0],by simp⟩
  obtain⟨u,hu0,hr⟩:=hc.get 0 c hc0
  have hcell:=h 0 u hu0
  rw [Nat.add_zero] at hcell
  refine⟨u,?_,?_⟩
  ·cases d <;> simp_all [loadVar,isAgg,Z01 hu]
  ·have:Z3M P t cs=cs.getD 0 (Z1u P t):=by unfold Z3M; rw [hu]; cases d <;> simp_all
   rw [this]; simpa [List.getD,hc0] using hr
 ·exact ho.elim
theorem Z2J{t:TypeId}{cs:List AV}{us:List Value}{o:Nat}(hc:Z0e m L cs us)(hi:(P.info? t).isSome=true)(ho:Z2U P t (cs.length - o))(hle:o≤cs.length) :
  ∃u,(part t us.toArray o).run P w=.ok u w∧Z05 m L (Z3M P t (cs.drop o)) u:=by
 have hl:=hc.length
 unfold Z2U at ho
 split at ho
 ·rename_i fs hu
  refine⟨.agg ((us.drop o).take (P.cellsOf t)).toArray,?_,?_⟩
  ·simp [part,isAgg,Z01 hu,Z0s hi,List.extract_eq_take_drop]
  ·simp only [Z3M,hu,Z05]; exact⟨_,rfl,(hc.drop o).take _⟩
 ·rename_i n e hu
  refine⟨.agg ((us.drop o).take (P.cellsOf t)).toArray,?_,?_⟩
  ·simp [part,isAgg,Z01 hu,Z0s hi,List.extract_eq_take_drop]
  ·simp only [Z3M,hu,Z05]; exact⟨_,rfl,(hc.drop o).take _⟩
 ·rename_i d hu1 hu2 hu
  obtain⟨c,hc0⟩:∃c,cs[o]?=some c:=⟨cs[o]'(by omega),by simp⟩
  obtain⟨u,hu0,hr⟩:=hc.get o c hc0
  refine⟨u,?_,?_⟩
  ·cases d <;> simp_all [part,isAgg,Z01 hu]
  ·have:Z3M P t (cs.drop o)=(cs.drop o).getD 0 (Z1u P t):=by unfold Z3M; rw [hu]; cases d <;> simp_all
   rw [this]; simpa [List.getD,hc0] using hr
 ·exact ho.elim
theorem Z2d(hW:Z0O m L w){id:Nat}{cs:List AV}{sz ver:Nat}(h:L[id]?=some (.row cs sz ver)):∃us,Z0e m L cs us∧(∀j v,us[j]?=some v→w.cell? ⟨m.blk id,j,none⟩=some v)∧∀j,j<us.length→w.frozen? ⟨m.blk id,j,none⟩=false:=by
 by_cases hcap:m.cap id=0
 ·have:=hW.nils _ _ _ _ h hcap
  subst this
  exact⟨[],Z0e.nil m L,fun j v hj=>by simp at hj,fun j hj=>by simp at hj⟩
 obtain⟨us,rest,elem,lo,hi,hb,hc,hl,hf⟩:=hW.rows _ _ _ _ h hcap
 refine⟨us,hc,fun j v hj=>?_,fun j hj=>?_⟩
 ·have:j<us.length:=(List.getElem?_eq_some_iff.1 hj).1
  simp [World.cell?,hb,List.getElem?_append_left this,hj]
 ·simp [World.frozen?,hb]; omega
theorem Z0N{id ver:Nat}(h:Z1q L id ver):∃cs sz,L[id]?=some (.row cs sz ver)∧Z0Q L id=cs∧Z1S L id=sz:=by
 obtain⟨h1,h2⟩:=h
 unfold isRow at h1
 split at h1
 ·rename_i cs sz v hL
  simp [Z1G,hL] at h2
  subst h2
  exact⟨cs,sz,hL,by simp [Z0Q,hL],by simp [Z1S,hL]⟩
 ·cases h1
theorem Z1e{id ver off len:Nat}{u:Value}(hv:Z05 m L (.msl id ver off len) u)(hf:Z1q L id ver) :
  (off+len)*Z1S L id≤(Z0Q L id).length∧off+len≤m.cap id∧∃a,u=.slice a len (m.cap id - off)∧(off=m.cap id∨a=some ⟨m.blk id,off*Z1S L id,none⟩):=by
 obtain⟨cs,sz,hL,h1,h2⟩:=Z0N hf
 simp only [Z05] at hv
 obtain⟨cs',sz',v',hL',hle,_,hv⟩:=hv
 rw [hL] at hL'
 simp only [Option.some.injEq,Z0L.row.injEq] at hL'
 obtain⟨rfl,rfl,rfl⟩:=hL'
 rw [h1,h2]
 exact hv rfl
theorem Z4a{id ver off len:Nat}{u:Value}(hv:Z05 m L (.csl id ver off len) u)(hf:Z1q L id ver) :
  (off+len)*Z1S L id≤(Z0Q L id).length∧off+len≤m.cap id∧∃a,u=.slice a len len∧(len=0∨a=some ⟨m.blk id,off*Z1S L id,none⟩):=by
 obtain⟨cs,sz,hL,h1,h2⟩:=Z0N hf
 simp only [Z05] at hv
 obtain⟨cs',sz',v',hL',hle,_,hv⟩:=hv
 rw [hL] at hL'
 simp only [Option.some.injEq,Z0L.row.injEq] at hL'
 obtain⟨rfl,rfl,rfl⟩:=hL'
 rw [h1,h2]
 exact hv rfl
theorem Z3F{id ver off:Nat}{u:Value}(hv:Z05 m L (.ref id ver off) u)(hf:Z1q L id ver):u=.pointer (some ⟨m.blk id,off,none⟩):=by
 obtain⟨cs,sz,hL,h1,h2⟩:=Z0N hf
 simp only [Z05] at hv
 rcases hv with ⟨cs',sz',v',hL',hle,_,hv⟩ | ⟨r,hL',_⟩
 ·rw [hL] at hL'
  simp only [Option.some.injEq,Z0L.row.injEq] at hL'
  obtain⟨rfl,rfl,rfl⟩:=hL'
  exact hv rfl
 ·rw [hL] at hL'; simp at hL'
theorem Zas(hW:Z0O m L w)(t:TypeId){X:AV}{u:Value}(hx:Z05 m L X u):Z0l P m L w (Z8c P true L t X) (Z1B (Instr.loadAt t u)):=by
 cases X <;> try exact fun h=>h.elim
 case ref id ver off=>
  refine Z0l.pure hW fun hp=>?_
  obtain⟨hf,hle,ho⟩:=hp rfl
  obtain⟨cs,sz,hL,h1,h2⟩:=Z0N hf
  have hu:=Z3F hx hf
  subst hu
  obtain⟨us,hc,hcell,_⟩:=Z2d hW hL
  rw [h1] at ho hle ⊢
  obtain⟨r,hr,hv⟩:=Z2G (P:=P) (w:=w) (t:=t) (g:=m.blk id) (o:=off) (hc.drop off) (fun j v hj=>by rw [List.getElem?_drop] at hj; exact hcell _ _ hj) (by simpa using ho)
  exact⟨r,by simp [Instr.loadAt,Instr.sureAddr,hr],hv⟩
 case ip cs=>
  refine Z0l.pure hW fun hp=>?_
  simp only [Z05] at hx
  obtain⟨us,g,o,rfl,hc,hpin⟩:=hx
  obtain⟨r,hr,hv⟩:=Z2G (P:=P) (w:=w) (t:=t) (g:=g) (o:=o) hc (fun j v hj=>hW.pins _ _ _ (hpin j v hj)) (hp rfl)
  exact⟨r,by simp [Instr.loadAt,Instr.sureAddr,hr],hv⟩
theorem Z98(hW:Z0O m L w)(t:TypeId)(f:Nat){X:AV}{u:Value}(hx:Z05 m L X u):Z0l P m L w (Z6Z P true L t X f) (Z1B (Instr.field t u f)):=by
 unfold Z6Z
 split
 ·rename_i fields cs hu
  simp only [Z05] at hx
  obtain⟨us,rfl,hc⟩:=hx
  split
  ·rename_i fd hfd
   refine Z0l.pure hW fun hp=>?_
   obtain⟨hi,hp⟩:=hp
   obtain⟨r,hr,hv⟩:=Z2J (P:=P) (w:=w) hc hi (hp rfl).1 (hp rfl).2
   exact⟨r,by simp [Instr.field,Z01 hu,hfd,asAgg,hr],hv⟩
  ·exact fun h=>h.elim
 ·exact fun h=>h.elim
theorem Z4h(x y:AV):Z5Y true x y=x:=by
 cases x <;> first | rfl | (cases y <;> rfl)
theorem Z3J(x y:AV):Z5Y false x y=y:=by
 cases x <;> first | rfl | (cases y <;> rfl)
theorem Z86{b:Bool}{x y:AV}{r:Value}(h1:b=true→Z05 m L x r)(h2:b=false→Z05 m L y r):Z05 m L (Z5Y b x y) r:=by
 cases b with
 | true=>rw [Z4h]; exact h1 rfl
 | false=>rw [Z3J]; exact h2 rfl
theorem Z7D(hW:Z0O m L w)(i:Nat){X:AV}{u:Value}(hx:Z05 m L X u):Z0l P m L w (Z4k true L X i) (Z1B (Instr.extract u i)):=by
 have key:∀(vs:List AV) (u:Value),Z05 m L (.tup vs) u→i<vs.length→∃r,(Instr.extract u i).run P w=.ok r w∧Z05 m L (vs.getD i .any) r:=by
  intro vs u hx hi
  simp only [Z05] at hx
  obtain⟨us,rfl,hc⟩:=hx
  obtain⟨r,hr,hv⟩:=hc.get i vs[i] (by simp [hi])
  exact⟨r,by simp [Instr.extract,hr],by simpa [List.getD,hi] using hv⟩
 unfold Z4k
 split
 ·refine Z0l.pure hW fun hp=>key _ _ hx (hp rfl)
 ·rename_i b vs ws
  refine Z0l.pure hW fun hp=>?_
  have hp:=hp rfl
  simp only [Z05] at hx
  have pv:∀(x y:AV) (r:Value),(b=true→Z05 m L x r)→(b=false→Z05 m L y r)→Z05 m L (Z5Y b x y) r:=fun x y r h1 h2=>Z86 h1 h2
  cases b with
  | true=>
   obtain⟨r,hr,hv⟩:=key vs u (by simpa [Z05] using hx.1 rfl) (hp.1 rfl)
   exact⟨r,hr,pv _ _ _ (fun _=>hv) (fun h=>by cases h)⟩
  | false=>
   obtain⟨r,hr,hv⟩:=key ws u (by simpa [Z05] using hx.2 rfl) (hp.2 rfl)
   exact⟨r,hr,pv _ _ _ (fun h=>by cases h) (fun _=>hv)⟩
 ·exact fun h=>h.elim
theorem Z5H{t:TypeId}{x y:Value}{b:Bool}(h:∀d:Nat,(Op.equalIn (d+1) t x y).run P w=.ok b w):(Op.equal t x y).run P w=.ok b w:=h 9999
def ZiG:Value→Bool
 | .slice none _ _=>true
 | .pointer none=>true
 | .nilIface=>true
 | .map none=>true
 | .nilFunc=>true
 | _=>false
theorem Z7E(op:BinOp)(t:TypeId)(x y:Operand)(h:(Z3b x || Z3b y)=true):(eqGuard op t x y .nilIface .nilIface).run P w=.ok () w:=by
 cases op <;> cases x <;> cases y <;> simp_all [eqGuard,Z3b]
theorem Z88(hW:Z0O m L w)(neq:Bool)(t:TypeId)(x y:Operand){X:AV}{u v:Value}(hx:Z05 m L X u) :
  Z0l P m L w (ZfX P L neq (Z3b x || Z3b y) t X v) (Z1B (do eqGuard (cond neq .neq .eql) t x y u v; binOp (cond neq .neq .eql) t u v)):=by
 have fin:∀{b:Bool} {pre:Prop} {V:AV},(pre→((eqGuard (cond neq .neq .eql) t x y u v).run P w=.ok () w)∧((∀d:Nat,(Op.equalIn (d+1) t u v).run P w=.ok b w))∧Z05 m L V (.bool (cond neq (!b) b))∧(ZiG v=true))→
   Z0l P m L w ⟨pre,V,L⟩ (Z1B (do eqGuard (cond neq .neq .eql) t x y u v; binOp (cond neq .neq .eql) t u v)):=by
  intro b pre V h
  refine Z0l.pure hW fun hp=>?_
  obtain⟨h0,h1,h2,h3⟩:=h hp
  refine⟨_,?_,h2⟩
  have h1:=Z5H h1
  cases neq <;> cases v <;> simp only [ZiG,Bool.false_eq_true] at h3 <;> simp_all [binOp]
 unfold ZfX
 split
 ·rename_i e n c n' c' hu
  simp only [Z05] at hx; subst hx
  refine fin (b:=true) fun _=>⟨by cases neq <;> simp [eqGuard],fun d=>by simp [Op.equalIn,Z01 hu],by cases neq <;> simp [Z05],rfl⟩
 ·rename_i e cs n n' c' hu
  simp only [Z05] at hx
  obtain⟨a,cap,rfl,hle,us,hc,hp⟩:=hx
  refine Z0l.pure hW fun _=>?_
  have hk:a=none→cs=[]:=by
   rintro rfl
   rcases hp with rfl | ⟨g,o,h,_⟩
   ·have:=hc.length
    exact List.eq_nil_of_length_eq_zero (by rw [←this]; rfl)
   ·cases h
  have he:(Op.equal t (.slice a n cap) (.slice none n' c')).run P w=.ok a.isNone w:=Z5H fun d=>by cases a <;> simp [Op.equalIn,Z01 hu]
  cases neq
  ·refine⟨.bool a.isNone,by simp [eqGuard,binOp,he],?_⟩
   simp only [cond_false,Z05]
   exact⟨_,rfl,fun h=>hk (by simpa using h),fun _=>trivial⟩
  ·refine⟨.bool (!a.isNone),by simp [eqGuard,binOp,he],?_⟩
   simp only [cond_true,Z05]
   exact⟨_,rfl,fun _=>trivial,fun h=>hk (by simpa using h)⟩
 ·rename_i e id ver off n n' c' hu
  refine Z0l.pure hW fun hf=>?_
  obtain⟨k1,k2,a,rfl,ha⟩:=Z1e hx hf
  have hk:a=none→n=0:=by
   rintro rfl
   rcases ha with ha | ha
   ·omega
   ·cases ha
  have he:(Op.equal t (.slice a n (m.cap id - off)) (.slice none n' c')).run P w=.ok a.isNone w:=Z5H fun d=>by cases a <;> simp [Op.equalIn,Z01 hu]
  cases neq
  ·refine⟨.bool a.isNone,by simp [eqGuard,binOp,he],?_⟩
   simp only [cond_false,Z05]
   exact⟨_,rfl,fun h=>hk (by simpa using h),fun _=>trivial⟩
  ·refine⟨.bool (!a.isNone),by simp [eqGuard,binOp,he],?_⟩
   simp only [cond_true,Z05]
   exact⟨_,rfl,fun _=>trivial,fun h=>hk (by simpa using h)⟩
 ·rename_i e hu
  simp only [Z05] at hx; subst hx
  exact fin (b:=true) fun _=>⟨by cases neq <;> simp [eqGuard],fun d=>by simp [Op.equalIn,Z01 hu],by cases neq <;> simp [Z05],rfl⟩
 ·rename_i e id ver off hu
  refine Z0l.pure hW fun hf=>?_
  have:=Z3F hx hf; subst this
  have he:(Op.equal t (.pointer (some ⟨m.blk id,off,none⟩)) (.pointer none)).run P w=.ok false w:=Z5H fun d=>by simp [Op.equalIn,Z01 hu]
  cases neq
  ·exact⟨.bool false,by simp [eqGuard,binOp,he],by simp [Z05]⟩
  ·exact⟨.bool true,by simp [eqGuard,binOp,he],by simp [Z05]⟩
 ·rename_i e cs hu
  simp only [Z05] at hx
  obtain⟨us,g,o,rfl,_⟩:=hx
  exact fin (b:=false) fun _=>⟨by cases neq <;> simp [eqGuard],fun d=>by simp [Op.equalIn,Z01 hu],by cases neq <;> simp [Z05],rfl⟩
 ·rename_i e hu
  simp only [Z05] at hx; subst hx
  exact fin (b:=true) fun h=>⟨Z7E _ _ _ _ h,fun d=>by simp [Op.equalIn,Z01 hu],by cases neq <;> simp [Z05],rfl⟩
 ·rename_i e ty z hu
  simp only [Z05] at hx
  obtain⟨z',rfl,_⟩:=hx
  exact fin (b:=false) fun _=>⟨by cases neq <;> simp [eqGuard],fun d=>by simp [Op.equalIn,Z01 hu],by cases neq <;> simp [Z05],rfl⟩
 ·rename_i k e hu
  simp only [Z05] at hx; subst hx
  exact fin (b:=true) fun _=>⟨by cases neq <;> simp [eqGuard],fun d=>by simp [Op.equalIn,Z01 hu],by cases neq <;> simp [Z05],rfl⟩
 ·rename_i k e id hu
  simp only [Z05] at hx
  obtain⟨r,_,rfl⟩:=hx
  exact fin (b:=false) fun _=>⟨by cases neq <;> simp [eqGuard],fun d=>by simp [Op.equalIn,Z01 hu],by cases neq <;> simp [Z05],rfl⟩
 ·rename_i k e kd f hu
  simp only [Z05] at hx
  obtain⟨g,es,clock,rfl,_⟩:=hx
  exact fin (b:=false) fun _=>⟨by cases neq <;> simp [eqGuard],fun d=>by simp [Op.equalIn,Z01 hu],by cases neq <;> simp [Z05],rfl⟩
 ·rename_i hu
  simp only [Z05] at hx; subst hx
  exact fin (b:=true) fun _=>⟨by cases neq <;> simp [eqGuard],fun d=>by simp [Op.equalIn,Z01 hu],by cases neq <;> simp [Z05],rfl⟩
 ·rename_i hu
  simp only [Z05] at hx
  obtain⟨us,vs,rfl,_⟩:=hx
  exact fin (b:=false) fun _=>⟨by cases neq <;> simp [eqGuard],fun d=>by simp [Op.equalIn,Z01 hu],by cases neq <;> simp [Z05],rfl⟩
 ·exact fun h=>h.elim
theorem Zct{t:TypeId}{X Y:AV}{u v:Value}{b:Bool}(ht:Zg2 P t X=true)(hx:Z05 m L X u)(hy:Z05 m L Y v)(h:Zfj X Y=some b)(d:Nat):(Op.equalIn (d+1) t u v).run P w=.ok b w:=by
 unfold Zfj at h
 split at h
 ·simp only [Z05] at hx hy; subst hx hy
  simp only [Zg2] at ht
  split at h
  ·rename_i hkk; subst hkk
   simp only [Option.some.injEq] at h; subst h
   split at ht
   ·rename_i h1
    rw [run_equalIn_int w d t _ _ _ _ h1]; congr 1
   ·cases ht
  ·cases h
 ·simp only [Z05] at hx hy; subst hx hy
  simp only [Zg2] at ht
  simp only [Option.some.injEq] at h; subst h
  split at ht
  ·rename_i h1
   rw [run_equalIn_string w d t _ _ h1]; simp [ByteArray.toList_mk]
  ·cases ht
 ·simp only [Z05] at hx hy; subst hx hy
  simp only [Zg2] at ht
  simp only [Option.some.injEq] at h; subst h
  split at ht
  ·rename_i h1
   rw [run_equalIn_bool w d t _ _ h1]
  ·cases ht
 ·cases h
theorem Zfk{cs ds:List AV}{us vs:List Value}(hc:Z0e m L cs us)(hd:Z0e m L ds vs)(d:Nat):∀(fs:List Field) (b:Bool),eqFs P cs ds fs=some b→(Op.eqFields (d+1) us.toArray vs.toArray fs).run P w=.ok b w:=by
 intro fs
 induction fs with
 | nil=>intro b h; simp [eqFs] at h; subst h; simp [Op.eqFields]
 | cons f fs ih=>
  intro b h
  simp only [eqFs] at h
  split at h
  ·rename_i hf
   obtain⟨h1,h2,h3,h4,h5⟩:=hf
   split at h
   ·rename_i b1 b2 hb1 hb2
    simp only [Option.some.injEq] at h
    subst h
    have hpl:∀n,0<n→Z2U P f.type n:=by
     intro n hn
     unfold Zg2 at h2
     unfold Z2U
     split at h2 <;> first | cases h2; done | skip
     all_goals split at h2 <;> first | cases h2; done | (rename_i hu; simp only [hu]; exact hn)
    have hv:∀cs':List AV,Z3M P f.type cs'=cs'.getD 0 (Z1u P f.type):=by
     intro cs'
     unfold Zg2 at h2
     unfold Z3M
     split at h2 <;> first | cases h2; done | skip
     all_goals split at h2 <;> first | cases h2; done | (rename_i hu; simp only [hu])
    obtain⟨u1,r1,q1⟩:=Z2J (P:=P) (w:=w) hc h3 (hpl _ (by omega)) (by omega:f.offset≤cs.length)
    obtain⟨u2,r2,q2⟩:=Z2J (P:=P) (w:=w) hd h3 (hpl _ (by omega)) (by omega:f.offset≤ds.length)
    rw [hv] at q1 q2
    have g1:(cs.drop f.offset).getD 0 (Z1u P f.type)=cs.getD f.offset .any:=by simp [List.getD,List.getElem?_drop,h4]
    have g2:(ds.drop f.offset).getD 0 (Z1u P f.type)=ds.getD f.offset .any:=by simp [List.getD,List.getElem?_drop,h5]
    rw [g1] at q1
    rw [g2] at q2
    have e:=Zct (P:=P) (w:=w) h2 q1 q2 hb1 d
    have:=ih _ hb2
    simp only [Op.eqFields,h1,if_true,Sem.run_bind,r1,r2,Result.andThen_ok,e,Sem.run_ite,ne_eq,not_false_eq_true]
    cases b1 <;> simp [this]
   ·cases h
  ·cases h
theorem ZdJ{cs:List AV}{us:List Value}(hc:Z0e m L cs us)(hb:Z21 cs=true){i:Nat}(hi:i<cs.length):Z05 m L (cs.getD i .any) (us.getD i undef)∧cs.getD i .any=Z03 ((Z0w cs).getD i 0):=by
 refine⟨hc.getD i,?_⟩
 have hm:cs[i]∈cs:=List.getElem_mem hi
 have h:=(List.all_eq_true.1 hb) _ hm
 have e1:cs.getD i .any=cs[i]:=by simp [List.getD,hi]
 have e2:(Z0w cs).getD i 0=Z6E cs[i]:=by simp [Z0w,List.getD,hi]
 rw [e1,e2]
 unfold Z6V at h
 split at h
 ·rename_i n hn
  rw [hn]
  have:=of_decide_eq_true h
  simp only [Z6E,Z03,AV.int.injEq,true_and,UInt8.toNat_ofNat']
  omega
 ·cases h
theorem Z4S{e:TypeId}(hu:P.underlying e=some (.int .u8))(hi:(P.info? e).isSome=true)(d:Nat){cs ds:List AV}{us vs:List Value}(hc:Z0e m L cs us)(hd:Z0e m L ds vs)(h1:Z21 cs=true)(h2:Z21 ds=true) :
  ∀is:List Nat,(∀i∈is,i<cs.length∧i<ds.length)→(Op.eqItems (d+1) e 1 us.toArray vs.toArray is).run P w=.ok (is.all fun i=>(Z0w cs).getD i 0 == (Z0w ds).getD i 0) w
 | [],_=>by simp [Op.eqItems]
 | i::is,h=>by
  obtain⟨a1,a2⟩:=h i (List.mem_cons_self ..)
  have ho:∀n,0<n→Z2U P e n:=fun n hn=>by unfold Z2U; simp only [hu]; exact hn
  have hv:∀cs':List AV,Z3M P e cs'=cs'.getD 0 (Z1u P e):=fun cs'=>by unfold Z3M; simp only [hu]
  obtain⟨u1,r1,q1⟩:=Z2J (P:=P) (w:=w) hc hi (ho _ (by omega)) (by omega:i≤cs.length)
  obtain⟨u2,r2,q2⟩:=Z2J (P:=P) (w:=w) hd hi (ho _ (by omega)) (by omega:i≤ds.length)
  rw [hv] at q1 q2
  have g1:(cs.drop i).getD 0 (Z1u P e)=cs.getD i .any:=by simp [List.getD,List.getElem?_drop,a1]
  have g2:(ds.drop i).getD 0 (Z1u P e)=ds.getD i .any:=by simp [List.getD,List.getElem?_drop,a2]
  rw [g1,(ZdJ hc h1 a1).2] at q1
  rw [g2,(ZdJ hd h2 a2).2] at q2
  simp only [Z03,Z05] at q1 q2
  subst q1 q2
  have ih:=Z4S hu hi d hc hd h1 h2 is fun j hj=>h j (List.mem_cons_of_mem _ hj)
  simp only [Op.eqItems,Sem.run_bind,Nat.mul_one,r1,r2,Result.andThen_ok,run_equalIn_int w d e _ _ _ _ hu,List.all_cons]
  have eb:((((Z0w cs).getD i 0).toNat:Int) == (((Z0w ds).getD i 0).toNat:Int))=((Z0w cs).getD i 0 == (Z0w ds).getD i 0):=by
   rw [Bool.eq_iff_iff]
   simp only [beq_iff_eq,Int.natCast_inj,UInt8.toNat_inj]
  rw [eb]
  cases ((Z0w cs).getD i 0 == (Z0w ds).getD i 0) <;> simp [ih]
theorem Z8x(hW:Z0O m L w)(neq:Bool)(t:TypeId)(x y:Operand){cs ds:List AV}{u v:Value}(hx:Z05 m L (.agg cs) u)(hy:Z05 m L (.agg ds) v) :
  Z0l P m L w (Z8o P true L neq t cs ds) (Z1B (do eqGuard (cond neq .neq .eql) t x y u v; binOp (cond neq .neq .eql) t u v)):=by
 simp only [Z05] at hx hy
 obtain⟨us,rfl,hc⟩:=hx
 obtain⟨vs,rfl,hd⟩:=hy
 unfold Z8o
 split
 ·rename_i fields hu
  split
  ·rename_i b hb
   refine Z0l.pure hW fun hp=>?_
   obtain⟨h1,h2⟩:=hp
   have hg:(eqGuard (cond neq .neq .eql) t x y (.agg us.toArray) (.agg vs.toArray)).run P w=.ok () w:=by
    cases neq <;> exact run_eqGuard_agg w _ _ _ _ _ _ h2
   have he:(Op.equal t (.agg us.toArray) (.agg vs.toArray)).run P w=.ok b w:=by
    have hf:P.fieldsOf t=fields:=by simp [Program.fieldsOf,hu]
    have:=run_equalIn_struct (P:=P) w 9999 t us.toArray vs.toArray (by rw [hf,hu]) h1
    rw [hf] at this
    show (Op.equalIn 10000 t _ _).run P w=_
    rw [this]
    exact Zfk hc hd 9998 _ _ hb
   cases neq
   ·simp only [cond_false] at hg
    exact⟨.bool b,by simp [hg,binOp,he],by simp [Z05]⟩
   ·simp only [cond_true] at hg
    exact⟨.bool !b,by simp [hg,binOp,he],by simp [Z05]⟩
  ·exact fun h=>by cases h
 ·rename_i n e hu
  refine Z0l.pure hW fun hp=>?_
  obtain⟨q1,q2,q3,q4,q5,q6,q7,q8⟩:=hp
  have hg:(eqGuard (cond neq .neq .eql) t x y (.agg us.toArray) (.agg vs.toArray)).run P w=.ok () w:=by
   cases neq <;> exact run_eqGuard_agg w _ _ _ _ _ _ q8
  have he:(Op.equal t (.agg us.toArray) (.agg vs.toArray)).run P w=.ok (decide (Z0w cs=Z0w ds)) w:=by
   obtain⟨i,hi⟩:=Option.isSome_iff_exists.1 q3
   show (Op.equalIn 10000 t _ _).run P w=_
   rw [run_equalIn_array w 9999 _ _ hu hi,q2,Z4S q1 q3 9998 hc hd q4 q5 _ (fun i hi=>by have:=List.mem_range.1 hi; omega)]
   congr 1
   rw [Bool.eq_iff_iff,List.all_eq_true,decide_eq_true_eq]
   constructor
   ·intro h
    refine List.ext_getElem (by simp only [Z0w,List.length_map]; omega) fun i h1 h2=>?_
    have:=h i (List.mem_range.2 (by simp only [Z0w,List.length_map] at h1; omega))
    simpa [List.getD,h1,h2] using this
   ·intro e i _
    rw [e]; simp
  cases neq
  ·simp only [cond_false] at hg
   exact⟨.bool (decide (Z0w cs=Z0w ds)),by simp [hg,binOp,he],by simp [Z05]⟩
  ·simp only [cond_true] at hg
   exact⟨.bool (!decide (Z0w cs=Z0w ds)),by simp [hg,binOp,he],by simp [Z05]⟩
 ·exact fun h=>h.elim
theorem ZdL(hW:Z0O m L w)(op:BinOp)(t:TypeId)(x y:Operand){X Y:AV}{u v:Value}(hx:Z05 m L X u)(hy:Z05 m L Y v) :
    Z0l P m L w (ZhZ P true L op t X Y (Z3b x || Z3b y)) (Z1B (do eqGuard op t x y u v; binOp op t u v)):=by
  unfold ZhZ
  split
  · simp only [Z05] at hx hy; subst hx hy; exact Zch hW _ _ _ _ _ _ _ _
  · simp only [Z05] at hx hy; subst hx hy; exact ZaX hW _ _ _ _ _ _
  · simp only [Z05] at hx hy; subst hx hy
    cases op <;> first
      | exact fun h=>h.elim
      | (refine Z0l.pure hW fun hp=>?_
         simp [eqGuard,binOp,Z6s hp,Z05])
  · split
    · exact Z8x hW false t x y hx hy
    · exact Z8x hW true t x y hx hy
    · exact fun h=>h.elim
  · simp only [Z05] at hy; subst hy
    split
    · exact Z88 hW false t x y hx
    · exact Z88 hW true t x y hx
    · exact fun h=>h.elim
  · exact fun h=>h.elim
end
end Go.Eng