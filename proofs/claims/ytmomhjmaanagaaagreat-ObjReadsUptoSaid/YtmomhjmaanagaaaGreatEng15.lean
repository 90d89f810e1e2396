/- The engine, part 15: arguments that came in are opened: what is read of them, as plain values, and how they lie in memory that only is read. -/
import Derived.Test.YtmomhjmaanagaaaGreatEng12
import Derived.ChangeArms
import Derived.DataReads
import Derived.WideShapes
import Derived.ChangeShapes
import Derived.OpenShut
import Derived.RowKit
import Derived.Carry
import Derived.ChangeOld
set_option linter.unusedVariables false
set_option linter.unusedSimpArgs false
namespace Go.Eng
open Go
open Go.RowKit
inductive Sh where
 | int (k:IntKind)
 | bool
 | str
 | sl (s:Sh)
 | st (fs:List Sh)
mutual
def Sh.n:Sh→Nat
 | .st fs=>Sh.ns fs
 | .int _=>1
 | .bool=>1
 | .str=>1
 | .sl _=>1
def Sh.ns:List Sh→Nat
 | []=>0
 | f::fs=>f.n+Sh.ns fs
end
inductive Dv where
 | int (k:IntKind) (n:Int)
 | bool (b:Bool)
 | str (l:List UInt8)
 | sl (es:List Dv)
 | st (fs:List Dv)
 deriving Inhabited
mutual
def Dv.cells:Dv→List AV
 | .int k n=>[.int k n]
 | .bool b=>[.bool b]
 | .str l=>[.str l]
 | .sl es=>[.sl (Dv.cellsL es) es.length]
 | .st fs=>Dv.cellsL fs
def Dv.cellsL:List Dv→List AV
 | []=>[]
 | v::vs=>v.cells++Dv.cellsL vs
end
def Dv.av:Dv→AV
 | .st fs=>.agg (Dv.cellsL fs)
 | v=>v.cells.getD 0 .any
mutual
def Dv.vb:Dv→Nat
 | .int ..=>1
 | .bool _=>1
 | .str l=>l.length+1
 | .sl es=>Dv.vbL es+1
 | .st fs=>Dv.vbL fs+1
def Dv.vbL:List Dv→Nat
 | []=>0
 | v::vs=>v.vb+Dv.vbL vs
end
mutual
def Dv.has:Sh→Dv→Prop
 | .int k,.int k' n=>k'=k∧(Lit.int k n).wf=true
 | .bool,.bool _=>True
 | .str,.str l=>l.length≤maxLen
 | .sl s,.sl es=>es.length≤maxLen∧∀e∈es,Dv.has s e
 | .st ss,.st vs=>Dv.hasL ss vs
 | _,_=>False
def Dv.hasL:List Sh→List Dv→Prop
 | [],[]=>True
 | s::ss,v::vs=>Dv.has s v∧Dv.hasL ss vs
 | _,_=>False
end
mutual
def bk{H:Type}:DataW H→Nat
 | .lit (.string bytes)=>bytes.length+1
 | .lit _=>1
 | .nil=>1
 | .ptr d=>bk d+1
 | .slice elems spare=>bkL elems+bkL spare+1
 | .agg parts=>bkL parts+1
 | .iface _ d=>bk d+1
 | .map entries=>bkE entries+1
 | .held _=>1
def bkL{H:Type}:List (DataW H)→Nat
 | []=>0
 | d::r=>bk d+bkL r
def bkE{H:Type}:List (Lit×DataW H)→Nat
 | []=>0
 | x::r=>bk1 x+bkE r
def bk1{H:Type}:Lit×DataW H→Nat
 | (.string bytes,d)=>bytes.length+bk d+1
 | (_,d)=>bk d+1
end
def Z59(P:Program)(ok:TypeId→Sh→Bool):Nat→List Field→List Sh→Bool
 | _,[],[]=>true
 | off,f::fs,s::ss=>f.offset == off && (P.cellsOf f.type == s.n && (ok f.type s && Z59 P ok (off+s.n) fs ss))
 | _,_,_=>false
def shOk(P:Program):Nat→TypeId→Sh→Bool
 | 0,_,_=>false
 | n+1,t,s=>match P.underlying t,s with
  | some (.int k),.int k'=>decide (k=k')
  | some .bool,.bool=>true
  | some .string,.str=>true
  | some (.slice e),.sl s=>P.cellsOf e == s.n && shOk P n e s
  | some (.struct fs),.st ss=>P.cellsOf t == Sh.ns ss && Z59 P (shOk P n) 0 fs.toList ss
  | _,_=>false
section
variable {H:Type} {enc:TypeId×Value→H} {P:Program} {w:World} {base:Nat} {spare:Nat→Bool} {held:Bool}
def ZdU(w:World)(s:Sh)(cs:List Value)(d:DataW H):Prop:=∃v,Dv.has s v∧Z0e (ZbO w) [] v.cells cs∧v.vb≤bk d
theorem Z5Z(ok:TypeId→Sh→Bool)(cs:List Value)(r:TypeId→List Value→Option (DataW H×List MemPlace))(hr:∀t s cs x,ok t s=true→r t cs=some x→ZdU w s cs x.1) :
  ∀(fs:List Field) (ss:List Sh) (off:Nat) (xs:List (DataW H×List MemPlace)),Z59 P ok off fs ss=true→xs.length=fs.length→off+Sh.ns ss≤cs.length→
   (∀(i:Nat) (f:Field),fs[i]?=some f→r f.type ((cs.drop f.offset).take (P.cellsOf f.type))=xs[i]?)→
   ∃vs,Dv.hasL ss vs∧Z0e (ZbO w) [] (Dv.cellsL vs) ((cs.drop off).take (Sh.ns ss))∧Dv.vbL vs≤bkL (xs.map (·.1))
 | [],[],off,xs,_,_,_,_=>⟨[],by simp [Dv.hasL],by simp [Dv.cellsL,Sh.ns,Z0e],by simp [Dv.vbL]⟩
 | f::fs,s::ss,off,x::xs,hB,hl,hlen,h=>by
  simp only [Z59,Bool.and_eq_true,beq_iff_eq] at hB
  obtain⟨h1,h2,h3,h4⟩:=hB
  simp only [Sh.ns] at hlen
  have h0:=h 0 f rfl
  simp only [List.getElem?_cons_zero,h1,h2] at h0
  obtain⟨v,k1,k2,k3⟩:=hr _ _ _ _ h3 h0
  obtain⟨vs,q1,q2,q3⟩:=Z5Z ok cs r hr fs ss (off+s.n) xs h4 (by simpa using hl) (by omega) fun i f' hf=>by
   have:=h (i+1) f' (by simpa using hf)
   simpa using this
  refine⟨v::vs,⟨k1,q1⟩,?_,by simp only [Dv.vbL,List.map_cons,bkL]; omega⟩
  simp only [Dv.cellsL,Sh.ns]
  have e:(cs.drop off).take (s.n+Sh.ns ss)=(cs.drop off).take s.n++(cs.drop (off+s.n)).take (Sh.ns ss):=by
   rw [List.take_add,List.drop_drop]
  rw [e]
  exact Z0e.append k2 q2
 | [],_::_,_,_,hB,_,_,_=>by simp [Z59] at hB
 | _::_,[],_,_,hB,_,_,_=>by simp [Z59] at hB
 | _::_,_::_,_,[],_,hl,_,_=>by simp at hl
theorem Z8y(a:Addr)(i j:Nat):(a.add i).add j=a.add (i+j):=by
 by_cases hi:i=0
 ·subst hi; simp [Addr.add]
 ·by_cases hj:j=0
  ·subst hj; simp [Addr.add]
  ·have:¬i+j=0:=by omega
   simp [Addr.add,hi,hj,Nat.add_assoc]
theorem Z6T{s:Sh}{a:Addr}{sz:Nat}(hsz:sz=s.n):∀(es:List (DataW H×List MemPlace)) (k:Nat),
  (∀i,i<es.length→∃cs d,(w.cells? base (a.add ((k+i)*sz)) sz)=some cs∧es[i]?=some d∧ZdU w s cs d.1)→
  ∃(vs:List Dv) (us:List Value),vs.length=es.length∧(∀v∈vs,Dv.has s v)∧Z0e (ZbO w) [] (Dv.cellsL vs) us∧us.length=es.length*sz∧Dv.vbL vs≤bkL (es.map (·.1))∧∀j v,us[j]?=some v→w.cell? (a.add (k*sz+j))=some v
 | [],k,_=>⟨[],[],rfl,by simp,by simp [Dv.cellsL,Z0e],by simp,by simp [Dv.vbL],by simp⟩
 | e::es,k,h=>by
  obtain⟨cs,d,h1,h2,v,k1,k2,k3⟩:=h 0 (by simp)
  simp only [List.getElem?_cons_zero,Option.some.injEq] at h2
  subst h2
  obtain⟨_,hcl,hcell⟩:=World.cells?_some h1
  obtain⟨vs,us,q1,q2,q3,q4,q5,q6⟩:=Z6T hsz es (k+1) fun i hi=>by
   obtain⟨cs,d,h1,h2,h3⟩:=h (i+1) (by simp; omega)
   exact⟨cs,d,by rw [show k+1+i=k+(i+1) by omega]; exact h1,by simpa using h2,h3⟩
  refine⟨v::vs,cs++us,by simp [q1],fun x hx=>?_,by simp only [Dv.cellsL]; exact Z0e.append k2 q3,by simp [hcl,q4,Nat.add_mul]; omega,by simp only [Dv.vbL,List.map_cons,bkL]; omega,fun j x hj=>?_⟩
  ·rcases List.mem_cons.1 hx with rfl | hx
   ·exact k1
   ·exact q2 x hx
  ·by_cases hjs:j<sz
   ·rw [List.getElem?_append_left (by omega)] at hj
    have:=hcell j hjs
    rw [hj,Nat.add_zero] at this
    rw [←this]
    rw [Z8y]
   ·rw [List.getElem?_append_right (by omega),hcl] at hj
    have:=q6 _ _ hj
    rw [←this]
    congr 2
    rw [Nat.add_mul]; omega
theorem Zh2:∀(n fuel:Nat) (t:TypeId) (s:Sh) (cs:List Value) (x:DataW H×List MemPlace),shOk P n t s=true→DataW.trod enc P w base spare held fuel t cs=some x→ZdU w s cs x.1:=by
 intro n
 induction n with
 | zero=>intro fuel t s cs x h; simp [shOk] at h
 | succ n ih=>
  intro fuel t s cs x h ht
  simp only [shOk] at h
  split at h
  ·rename_i k k' hu
   obtain rfl:=of_decide_eq_true h
   obtain⟨m,rfl,rfl,hw⟩:=DataW.trod_int hu ht
   exact⟨.int k m,⟨rfl,hw⟩,by simp [Dv.cells,Z0e,Z05],by simp [Dv.vb,bk]⟩
  ·rename_i hu
   obtain⟨b,rfl,rfl⟩:=DataW.trod_bool hu ht
   exact⟨.bool b,trivial,by simp [Dv.cells,Z0e,Z05],by simp [Dv.vb,bk]⟩
  ·rename_i hu
   obtain⟨b,rfl,rfl,hw⟩:=DataW.trod_string hu ht
   exact⟨.str b.data.toList,by simp only [Dv.has,Array.length_toList]; exact hw,by simp [Dv.cells,Z0e,Z05],by simp [Dv.vb,bk]⟩
  ·rename_i e s hu
   simp only [Bool.and_eq_true,beq_iff_eq] at h
   rcases DataW.trod_slice hu ht with ⟨rfl,rfl⟩ | ⟨a,len,cap,elems,rest,m,_,rfl,rfl,hb,hl,hm,hlen,hel,_,_⟩
   ·exact⟨.sl [],by simp only [Dv.has]; exact⟨Nat.zero_le _,fun e h=>by cases h⟩,by simp only [Dv.cells,Dv.cellsL,Z0e]; exact⟨_,_,rfl,ZgS w,rfl⟩,by simp [Dv.vb,Dv.vbL,bk]⟩
   ·obtain⟨vs,us,q1,q2,q3,q4,q5,q6⟩:=Z6T (w:=w) (base:=base) (a:=a) (s:=s) h.1 elems 0 fun i hi=>by
     have:=hel i (by omega)
     have hd:elems[i]?=some elems[i]:=by simp [hi]
     rw [hd,Option.bind_eq_some_iff] at this
     obtain⟨cs,h1,h2⟩:=this
     exact⟨cs,elems[i],by simpa using h1,hd,ih _ _ _ _ _ h.2 h2⟩
    refine⟨.sl vs,⟨by omega,q2⟩,?_,by simp only [Dv.vb,bk]; omega⟩
    simp only [Dv.cells,Z0e]
    refine⟨_,_,rfl,?_,rfl⟩
    rw [show vs.length=len by omega]
    exact Zbe w a len cap us _ hl q3 fun i v hi=>by have:=q6 i v hi; simpa using this
  ·rename_i fs ss hu
   simp only [Bool.and_eq_true,beq_iff_eq] at h
   obtain⟨xs,m,_,rfl,hcl,hxl,hx⟩:=DataW.trod_struct hu ht
   obtain⟨vs,q1,q2,q3⟩:=Z5Z (P:=P) (w:=w) (shOk P n) cs (DataW.trod enc P w base spare held m) (fun t s cs x hk hr=>ih _ _ _ _ _ hk hr) fs.toList ss 0 xs h.2 (by simpa using hxl) (by omega) fun i f hf=>hx i f (by simpa using hf)
   refine⟨.st vs,q1,?_,by simp only [Dv.vb,bk]; omega⟩
   simp only [List.drop_zero] at q2
   rw [List.take_of_length_le (by omega)] at q2
   exact q2
  ·cases h
theorem ZeG{n:Nat}{t:TypeId}{s:Sh}{v:Value}{d:DataW H}{ps:List MemPlace}{b0:Nat}(hs:shOk P n t s=true)(hv:Value.okWide P w .any b0 t v)(h:DataW.Trod enc P w base spare held t v d ps) :
  ∃x:Dv,Dv.has s x∧Z05 (ZbO w) [] x.av v∧x.vb≤bk d:=by
 obtain⟨fuel,hf⟩:=h
 obtain⟨x,h1,h2,h3⟩:=Zh2 n fuel t s _ _ hs hf
 refine⟨x,h1,?_,h3⟩
 have one:v.cells=#[v]→x.av=x.cells.getD 0 .any→Z05 (ZbO w) [] x.av v:=by
  intro hc he
  rw [hc] at h2
  rw [he]
  have:=h2.getD 0
  simpa using this
 cases n with
 | zero=>simp [shOk] at hs
 | succ n=>
  simp only [shOk] at hs
  split at hs
  ·rename_i hu
   obtain⟨_,rfl⟩:=WideShapes.okWide_int hu hv
   cases x <;> simp only [Dv.has] at h1
   exact one rfl rfl
  ·rename_i hu
   obtain⟨_,rfl⟩:=WideShapes.okWide_bool hu hv
   cases x <;> simp only [Dv.has] at h1
   exact one rfl rfl
  ·rename_i hu
   obtain⟨_,rfl⟩:=WideShapes.okWide_string hu hv
   cases x <;> simp only [Dv.has] at h1
   exact one rfl rfl
  ·rename_i hu
   obtain⟨_,_,_,rfl⟩:=WideShapes.okWide_slice hu hv
   cases x <;> simp only [Dv.has] at h1
   exact one rfl rfl
  ·rename_i hu
   obtain⟨cs,rfl,_⟩:=WideShapes.okWide_struct hu hv
   cases x <;> simp only [Dv.has] at h1
   simp only [Dv.av,Z05]
   exact⟨cs.toList,by simp,by simpa [Dv.cells,Value.cells] using h2⟩
  ·cases hs
def Z4r(P:Program):List TypeId→List Sh→Bool
 | [],[]=>true
 | t::ts,s::ss=>shOk P 12 t s && (P.readableRec t && (decide (t<P.types.size) && Z4r P ts ss))
 | _,_=>false
theorem Z87{b0:Nat}:∀(ts:List TypeId) (ss:List Sh) (vs:List Value) (ds:List (DataW H)) (ps:List MemPlace),Z4r P ts ss=true→(∀(j:Nat) t v,ts[j]?=some t→vs[j]?=some v→Value.okWide P w .any b0 t v)→
  DataW.TrodAll enc P w base spare held ts vs ds ps→∃xs:List Dv,Dv.hasL ss xs∧Z0e (ZbO w) [] (xs.map Dv.av) vs∧Dv.vbL xs≤bkL ds
 | [],[],vs,ds,ps,_,_,h=>by
  obtain⟨rfl,rfl,rfl⟩:=ChangeShapes.trodAll_nil h
  exact⟨[],by simp [Dv.hasL],by simp [Z0e],by simp [Dv.vbL]⟩
 | t::ts,s::ss,vs,ds,ps,hok,hv,h=>by
  simp only [Z4r,Bool.and_eq_true] at hok
  obtain⟨v,vs',d,ds',p,q,rfl,rfl,rfl,h1,h2⟩:=ChangeShapes.trodAll_cons h
  obtain⟨x,k1,k2,k3⟩:=ZeG hok.1 (hv 0 t v rfl rfl) h1
  obtain⟨xs,q1,q2,q3⟩:=Z87 ts ss vs' ds' q hok.2.2.2 (fun j t' v' hj hj'=>hv (j+1) t' v' (by simpa using hj) (by simpa using hj')) h2
  exact⟨x::xs,⟨k1,q1⟩,Z0e.cons k2 q2,by simp only [Dv.vbL,bkL]; omega⟩
 | [],_::_,_,_,_,h,_,_=>by simp [Z4r] at h
 | _::_,[],_,_,_,h,_,_=>by simp [Z4r] at h
end
theorem Z73{H:Type}{enc:TypeId×Value→H}{P:Program}{W W':World}(hl:laidOutB P=true)(hb:Below W.heap.size W W'):∀(ts:List TypeId) (ss:List Sh) (vs:List Value) (ds:List (DataW H)) (ps:List MemPlace),Z4r P ts ss=true→
  DataW.TrodAll enc P W 0 (fun _=>true) true ts vs ds ps→∃qs,DataW.TrodAll enc P W' 0 (fun b=>decide (b<W.heap.size)) true ts vs ds qs
 | [],[],vs,ds,ps,_,h=>by
  obtain⟨rfl,rfl,rfl⟩:=ChangeShapes.trodAll_nil h
  exact⟨[],ChangeShapes.trodAll_mk0⟩
 | t::ts,s::ss,vs,ds,ps,hok,h=>by
  simp only [Z4r,Bool.and_eq_true,decide_eq_true_eq] at hok
  obtain⟨v,vs',d,ds',p,q,rfl,rfl,rfl,h1,h2⟩:=ChangeShapes.trodAll_cons h
  obtain⟨qs,h3⟩:=Z73 hl hb ts ss vs' ds' q hok.2.2.2 h2
  have hlt:∀x∈p,x.block<W.heap.size:=by obtain⟨m,hm⟩:=h1; exact DataW.trod_lt m _ _ _ hm
  exact⟨p++qs,trodAll_cons_mk (Below.trod hl hok.2.1 hok.2.2.1 h1 hb hlt) h3⟩
 | [],_::_,_,_,_,h,_=>by simp [Z4r] at h
 | _::_,[],_,_,_,h,_=>by simp [Z4r] at h
theorem Z8h{P:Program}{Γ:Env}(hΓ:Z07 P Γ){f:FuncId}{fn:Func}(hf:P.funcs[f]?=some fn)(hl:laidOutB P=true){s:ChangeSpec}(hsv:s.vars=[]){ss:List Sh}(hsh:Z4r P fn.params.toList ss=true)
  {tb:TypeId} (hres:fn.resultTypes=#[tb]) (htb:P.underlying tb=some .bool) (bound:Nat→Prop) (mono:∀a b,a≤b→bound b→bound a)
  (hbody:∀xs:List Dv,Dv.hasL ss xs→bound (Dv.vbL xs)→∃L',Z0a P Γ fn (xs.map Dv.av) [] (.bool true) L')
  {H:Type} {enc:TypeId×Value→H} {W:World} {base:Nat} {args:Array Value} {ds gs:List (DataW H)} {before:List MemPlace}
  (hspec:s.fn H (ds++gs)={ results:=[.lit (.bool true)],args:=ds })
  (hval:∀(j:Nat) t v,fn.params[j]?=some t→args[j]?=some v→Value.okWide P W .any base t v) (hW:DataW.Whole enc P fn.params.toList s.vars false W args.toList ds gs before) (hbk:bound (bkL ds)) (hG:GOK (ZbO W).pobj:=by exact⟨(by intro g h; cases h),(by intro q h; cases h)⟩) :
  Calls P f args W fun e W'=>∃v,e=.returned v∧s.post enc P fn false true false false W args v W':=by
 have hW':=hW
 obtain⟨p,q,hA,hV,rfl,hfz,hnd⟩:=hW
 rw [hsv] at hV
 obtain⟨rfl,rfl⟩:=ChangeShapes.trodVars_none hV
 obtain⟨xs,h1,h2,h3⟩:=Z87 (P:=P) (w:=W) (b0:=base) _ ss _ _ _ hsh (fun j t v hj hj'=>hval j t v (by simpa using hj) (by simpa using hj')) hA
 obtain⟨L',hb⟩:=hbody xs h1 (mono _ _ h3 hbk)
 have:=Z92 hΓ hf hG (ZeC W) h2 hb
 simp only [Array.toArray_toList] at this
 refine this.mono fun e W' ⟨he,bel⟩=>?_
 subst he
 obtain⟨qs,hq⟩:=Z73 hl bel _ ss _ _ _ hsh hA
 refine⟨_,rfl,ds,[],_,[],qs,[],hW',?_,?_,?_,bel.frame _,fun h=>by cases h⟩
 ·rw [hspec,hres]
  exact ChangeShapes.trodAll_mk1 (RowKit.shut_bool htb true)
 ·rw [hspec]; exact hq
 ·rw [hspec,hsv]; rfl
theorem Zhu{k:IntKind}{v:Dv}(h:Dv.has (.int k) v):∃n,v=.int k n∧k.min≤n∧n≤k.max:=by
 cases v <;> simp only [Dv.has] at h
 obtain⟨rfl,h⟩:=h
 simp only [Lit.wf,Bool.and_eq_true,decide_eq_true_eq] at h
 exact⟨_,rfl,h⟩
theorem ZiK{s:Sh}{v:Dv}(h:Dv.has (.sl s) v):∃es,v=.sl es∧es.length≤maxLen∧∀e∈es,Dv.has s e:=by
 cases v <;> simp only [Dv.has] at h
 exact⟨_,rfl,h⟩
theorem Zcm{s:Sh}{ss:List Sh}{vs:List Dv}(h:Dv.hasL (s::ss) vs):∃x xs,vs=x::xs∧Dv.has s x∧Dv.hasL ss xs:=by
 cases vs <;> simp only [Dv.hasL] at h
 exact⟨_,_,rfl,h⟩
theorem Zf9{vs:List Dv}(h:Dv.hasL [] vs):vs=[]:=by
 cases vs with
 | nil=>rfl
 | cons=>simp only [Dv.hasL] at h
theorem Zi2(v:Dv):1≤v.vb:=by cases v <;> simp [Dv.vb]
theorem ZaO:∀vs:List Dv,vs.length≤Dv.vbL vs
 | []=>by simp [Dv.vbL]
 | v::vs=>by have:=Zi2 v; have:=ZaO vs; simp only [Dv.vbL,List.length_cons]; omega
theorem Zcl{v:Dv}(h:Dv.has (.sl (.int .u8)) v):∃l:List UInt8,v.av=.sl (l.map Z03) l.length∧l.length≤maxLen∧l.length≤v.vb:=by
 obtain⟨es,rfl,hl,he⟩:=ZiK h
 have key:∀es:List Dv,(∀e∈es,Dv.has (.int .u8) e)→∃l:List UInt8,Dv.cellsL es=l.map Z03∧es.length=l.length:=by
  intro es
  induction es with
  | nil=>intro _; exact⟨[],rfl,rfl⟩
  | cons e es ih=>
   intro he
   obtain⟨l,h1,h2⟩:=ih fun x hx=>he x (by simp [hx])
   obtain⟨n,rfl,h3,h4⟩:=Zhu (he e (by simp))
   refine⟨UInt8.ofNat n.toNat::l,?_,by simp [h2]⟩
   simp only [Dv.cellsL,Dv.cells,h1,List.map_cons,List.cons_append,List.nil_append,Z03]
   congr 2
   have h3:0≤n:=h3
   have h4:n≤255:=h4
   simp; omega
 obtain⟨l,h1,h2⟩:=key es he
 refine⟨l,?_,by omega,?_⟩
 ·simp only [Dv.av,Dv.cells,List.getD_cons_zero,h1,h2]
 ·simp only [Dv.vb]; have:=ZaO es; omega
end Go.Eng