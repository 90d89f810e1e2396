/- The engine, part 2: the evaluator: what each operation does to abstract values and heaps. -/
import Derived.Test.YtmomhjmaanagaaaGreatEng1
set_option linter.unusedVariables false
set_option linter.unusedSimpArgs false
namespace Go.Eng
open Go
structure Rz where
 pre:Prop
 v:AV
 L:Heap
def Z45:Value→AV
 | .int k n=>.int k n
 | .bool b=>.bool b
 | .string s=>.str s.data.toList
 | v=>.lit v
def ofV:Value→AV
 | .agg cs=>.agg (cs.toList.map Z45)
 | .func f first captured=>.fn f (first.toList.map Z45) (captured.toList.map Z45)
 | v=>Z45 v
def opd(fr:List AV):Operand→AV
 | .tmp t=>fr.getD t .any
 | .const v=>ofV v
 | .global g=>.lit (.pointer (some ⟨g,0,none⟩))
 | .func f=>.fn (.func f) [] []
def AV.cond:AV→Bool
 | .when c _=>c
 | _=>true
def AV.bare:AV→AV
 | .when _ x=>x
 | x=>x
def AV.cells:AV→List AV
 | .agg cs=>cs
 | x=>[x]
def need(c:Bool)(x:AV):Prop:=c=true→x.cond=true
theorem Zc4(c:Bool)(x:AV):need c (.when c x)=True:=eq_true fun h=>h
theorem Zap(x:AV):need false x=True:=by simp [need]
def pk(b p q:Bool):Bool:=bif b then p else q
theorem Zil(b p:Bool):pk b p false=(b && p):=by cases b <;> rfl
theorem Zkq(b q:Bool):pk b true q=(b || q):=by cases b <;> rfl
def Z5Y(b:Bool):AV→AV→AV
 | .bool p,.bool q=>.bool (pk b p q)
 | x,y=>bif b then x else y
def Z03(b:UInt8):AV:=.int .u8 b.toNat
def Z6V:AV→Bool
 | .int .u8 n=>decide (0≤n∧n<256)
 | _=>false
def Z6E:AV→UInt8
 | .int .u8 n=>UInt8.ofNat n.toNat
 | _=>0
def Z0w(cs:List AV):List UInt8:=cs.map Z6E
def Z21(cs:List AV):Bool:=cs.all Z6V
theorem Z12(l:List UInt8):Z0w (l.map Z03)=l:=by
 simp only [Z0w,List.map_map]
 conv=>rhs; rw [←List.map_id l]
 apply List.map_congr_left
 intro b _
 simp [Z6E,Z03]
theorem Z1N(l:List UInt8):Z21 (l.map Z03)=true:=by
 simp only [Z21,List.all_map,List.all_eq_true]
 intro b _
 have:=b.toNat_lt
 simp [Z6V,Z03]; omega
def Z2x(op:BinOp)(k:IntKind)(x y:Int):Int:=
 match op with
 | .and=>k.wrap (BitVec.ofInt k.bits x &&& BitVec.ofInt k.bits y).toNat
 | .or=>k.wrap (BitVec.ofInt k.bits x ||| BitVec.ofInt k.bits y).toNat
 | .xor=>k.wrap (BitVec.ofInt k.bits x ^^^ BitVec.ofInt k.bits y).toNat
 | _=>k.wrap (BitVec.ofInt k.bits x &&& ~~~(BitVec.ofInt k.bits y)).toNat
def Zjz(c:Bool)(L:Heap)(op:BinOp)(k:IntKind)(a:Int)(k':IntKind)(b:Int):Rz:=
 match op with
 | .add=>⟨k=k',.int k (k.wrap (a+b)),L⟩
 | .sub=>⟨k=k',.int k (k.wrap (a - b)),L⟩
 | .mul=>⟨k=k',.int k (k.wrap (a*b)),L⟩
 | .quo=>⟨k=k'∧(c=true→b≠0),.int k (k.wrap (a.tdiv b)),L⟩
 | .rem=>⟨k=k'∧(c=true→b≠0),.int k (a.tmod b),L⟩
 | .and=>⟨k=k',.int k (Z2x .and k a b),L⟩
 | .or=>⟨k=k',.int k (Z2x .or k a b),L⟩
 | .xor=>⟨k=k',.int k (Z2x .xor k a b),L⟩
 | .andNot=>⟨k=k',.int k (Z2x .andNot k a b),L⟩
 | .shl=>⟨c=true→0≤b,.int k (k.wrap (a*2 ^ (min b.toNat k.bits))),L⟩
 | .shr=>⟨c=true→0≤b,.int k (a.fdiv (2 ^ (min b.toNat k.bits))),L⟩
 | .eql=>⟨k=k',.bool (decide (a=b)),L⟩
 | .neq=>⟨k=k',.bool (!decide (a=b)),L⟩
 | .lss=>⟨k=k',.bool (decide (a<b)),L⟩
 | .leq=>⟨k=k',.bool (decide (a≤b)),L⟩
 | .gtr=>⟨k=k',.bool (decide (b<a)),L⟩
 | .geq=>⟨k=k',.bool (decide (b≤a)),L⟩
def Zjt(c:Bool)(L:Heap)(op:BinOp)(a b:List UInt8):Rz:=
 match op with
 | .add=>⟨c=true→a.length+b.length<9223372036854775808,.str (a++b),L⟩
 | .eql=>⟨True,.bool (a == b),L⟩
 | .neq=>⟨True,.bool (!(a == b)),L⟩
 | .lss=>⟨True,.bool (Op.bytesLess a b),L⟩
 | .leq=>⟨True,.bool (Op.bytesLess a b || a == b),L⟩
 | .gtr=>⟨True,.bool (!(Op.bytesLess a b || a == b)),L⟩
 | .geq=>⟨True,.bool (!Op.bytesLess a b),L⟩
 | _=>⟨False,.any,L⟩
def Z0Q(L:Heap)(id:Nat):List AV:=match L[id]? with | some (.row cs _ _)=>cs | _=>[]
def Z1S(L:Heap)(id:Nat):Nat:=match L[id]? with | some (.row _ sz _)=>sz | _=>0
def Z1G(L:Heap)(id:Nat):Nat:=match L[id]? with | some (.row _ _ v)=>v | _=>0
def isRow(L:Heap)(id:Nat):Bool:=match L[id]? with | some (.row ..)=>true | _=>false
def Z1q(L:Heap)(id ver:Nat):Prop:=isRow L id=true∧Z1G L id=ver
def ZfX(P:Program)(L:Heap)(neq k:Bool)(t:TypeId)(x:AV)(v:Value):Rz:=
 match P.underlying t,x,v with
 | some (.slice _),.lit (.slice none _ _),.slice none _ _=>⟨True,.bool (!neq),L⟩
 | some (.slice _),.sl cs n,.slice none _ _=>⟨True,cond neq (.ub True (cs=[])) (.ub (cs=[]) True),L⟩
 | some (.slice _),.msl id ver _ n,.slice none _ _=>⟨Z1q L id ver,cond neq (.ub True (n=0)) (.ub (n=0) True),L⟩
 | some (.pointer _),.lit (.pointer none),.pointer none=>⟨True,.bool (!neq),L⟩
 | some (.pointer _),.ref id ver _,.pointer none=>⟨Z1q L id ver,.bool neq,L⟩
 | some (.pointer _),.ip _,.pointer none=>⟨True,.bool neq,L⟩
 | some (.interface _),.lit .nilIface,.nilIface=>⟨k=true,.bool (!neq),L⟩
 | some (.interface _),.ifc _ _,.nilIface=>⟨True,.bool neq,L⟩
 | some (.map _ _),.lit (.map none),.map none=>⟨True,.bool (!neq),L⟩
 | some (.map _ _),.mp _,.map none=>⟨True,.bool neq,L⟩
 | some (.map _ _),.mpr _ _,.map none=>⟨True,.bool neq,L⟩
 | some (.func _ _ _),.lit .nilFunc,.nilFunc=>⟨True,.bool (!neq),L⟩
 | some (.func _ _ _),.fn _ _ _,.nilFunc=>⟨True,.bool neq,L⟩
 | _,_,_=>⟨False,.any,L⟩
def Zfj:AV→AV→Option Bool
 | .int k a,.int k' b=>if k=k' then some (decide (a=b)) else none
 | .str a,.str b=>some (a == b)
 | .bool a,.bool b=>some (a == b)
 | _,_=>none
def Zg2(P:Program)(t:TypeId)(x:AV):Bool:=match x with
 | .int _ _=>match P.underlying t with | some (.int _)=>true | _=>false
 | .str _=>match P.underlying t with | some .string=>true | _=>false
 | .bool _=>match P.underlying t with | some .bool=>true | _=>false
 | _=>false
def eqFs(P:Program)(cs ds:List AV):List Field→Option Bool
 | []=>some true
 | f::fs=>if f.name≠ "_"∧Zg2 P f.type (cs.getD f.offset .any)=true∧(P.info? f.type).isSome=true∧f.offset<cs.length∧f.offset<ds.length then
   match Zfj (cs.getD f.offset .any) (ds.getD f.offset .any),eqFs P cs ds fs with
   | some b,some c=>some (b && c)
   | _,_=>none
  else none
def Z8o(P:Program)(c:Bool)(L:Heap)(neq:Bool)(t:TypeId)(cs ds:List AV):Rz:=
 match P.underlying t with
 | some (.struct fields)=>match eqFs P cs ds fields.toList with
  | some b=>⟨P.stoodInHeld t=false∧P.eqGuardType P.depth t=false,.bool (cond neq (!b) b),L⟩
  | none=>⟨c=false,.any,L⟩
 | some (.array n e)=>⟨P.underlying e=some (.int .u8)∧P.cellsOf e=1∧(P.info? e).isSome=true∧Z21 cs=true∧Z21 ds=true∧cs.length=n∧ds.length=n∧P.eqGuardType P.depth t=false,.bool (cond neq (!decide (Z0w cs=Z0w ds)) (decide (Z0w cs=Z0w ds))),L⟩
 | _=>⟨False,.any,L⟩
def Z3b:Operand→Bool
 | .const _=>true
 | _=>false
def ZhZ(P:Program)(c:Bool)(L:Heap)(op:BinOp)(t:TypeId)(x y:AV)(k:Bool):Rz:=
 match x,y with
 | .int k a,.int k' b=>Zjz c L op k a k' b
 | .str a,.str b=>Zjt c L op a b
 | .bool a,.bool b=>match op with
  | .eql=>⟨P.underlying t=some .bool,.bool (a == b),L⟩
  | .neq=>⟨P.underlying t=some .bool,.bool (!(a == b)),L⟩
  | _=>⟨False,.any,L⟩
 | .agg cs,.agg ds=>match op with
  | .eql=>Z8o P c L false t cs ds
  | .neq=>Z8o P c L true t cs ds
  | _=>⟨False,.any,L⟩
 | x,.lit v=>match op with
  | .eql=>ZfX P L false k t x v
  | .neq=>ZfX P L true k t x v
  | _=>⟨False,.any,L⟩
 | _,_=>⟨False,.any,L⟩
def unR(L:Heap)(op:UnOp)(x:AV):Rz:=
 match op,x with
 | .not,.bool b=>⟨True,.bool (!b),L⟩
 | .not,.ub p q=>⟨True,.ub q p,L⟩
 | .neg,.int k n=>⟨True,.int k (k.wrap (0 - n)),L⟩
 | .xor,.int k n=>⟨True,.int k (Z2x .xor k (if k.signed then -1 else k.max) n),L⟩
 | _,_=>⟨False,.any,L⟩
def Z4l(P:Program)(t:TypeId):Prop:=∃e,P.underlying t=some (.slice e)∧P.underlying e=some (.int .u8)
def ZdD(P:Program)(c:Bool)(L:Heap)(src dst:TypeId)(x:AV):Rz:=
 match x with
 | .int _ n=>match P.underlying dst with
  | some (.int k)=>⟨(P.underlying src).isSome=true,.int k (k.wrap n),L⟩
  | _=>⟨False,.any,L⟩
 | .str l=>match P.underlying dst with
  | some .string=>⟨P.underlying src=some .string,.str l,L⟩
  | some (.slice e)=>⟨c=true∧P.underlying src=some .string∧P.underlying e=some (.int .u8)∧l.length<9223372036854775808,.msl L.length 0 0 l.length,L++[.row (l.map Z03) 1 0]⟩
  | _=>⟨False,.any,L⟩
 | .sl cs n=>⟨P.underlying dst=some .string∧Z4l P src∧(c=true→Z21 cs=true∧cs.length=n),.str (Z0w cs),L⟩
 | .msl id ver off n=>match P.underlying dst with
  | some (.slice e)=>⟨src=dst∧P.underlying e=some (.int .u8)∧(c=true→0<n∧Z1q L id ver∧Z1S L id=1),.msl id ver off n,L⟩
  | _=>⟨P.underlying dst=some .string∧Z4l P src∧(c=true→Z21 (((Z0Q L id).drop off).take n)=true∧Z1S L id=1∧Z1q L id ver),.str (Z0w (((Z0Q L id).drop off).take n)),L⟩
 | .lit (.slice none _ _)=>⟨P.underlying dst=some .string∧Z4l P src,.str [],L⟩
 | _=>⟨False,.any,L⟩
open Classical in
noncomputable def ZdH(f:Key→Option Value):Nat:=if h:∃l:List Key,l.Nodup∧∀k,k∈l↔(f k).isSome=true then h.choose.length else 0
theorem Zft{f:Key→Option Value}{l:List Key}(hn:l.Nodup)(hl:∀k,k∈l↔(f k).isSome=true):ZdH f=l.length:=by
 have h:∃l:List Key,l.Nodup∧∀k,k∈l↔(f k).isSome=true:=⟨l,hn,hl⟩
 rw [ZdH,dif_pos h]
 obtain⟨h1,h2⟩:=h.choose_spec
 have a:∀(xs ys:List Key),xs.Nodup→(∀k∈xs,k∈ys)→xs.length≤ys.length:=by
  intro xs
  induction xs with
  | nil=>intro ys _ _; exact Nat.zero_le _
  | cons x xs ih=>
   intro ys hx hy
   have hxy:=hy x (by simp)
   rw [List.nodup_cons] at hx
   have:=ih (ys.erase x) hx.2 fun k hk=>by
    have:k≠x:=fun e=>hx.1 (e▸hk)
    exact (List.mem_erase_of_ne this).2 (hy k (by simp [hk]))
   rw [List.length_erase_of_mem hxy] at this
   have:=List.length_pos_of_mem hxy
   simp only [List.length_cons]; omega
 exact Nat.le_antisymm (a _ _ h1 fun k hk=>(hl k).2 ((h2 k).1 hk)) (a _ _ hn fun k hk=>(h2 k).2 ((hl k).1 hk))
noncomputable def ZhX(P:Program)(L:Heap)(t:TypeId)(x:AV):Rz:=
 match x with
 | .str l=>⟨P.underlying t=some .string,.int .i64 l.length,L⟩
 | .sl _ n=>⟨∃e,P.underlying t=some (.slice e),.int .i64 n,L⟩
 | .msl id ver _ n=>⟨(∃e,P.underlying t=some (.slice e))∧Z1q L id ver,.int .i64 n,L⟩
 | .csl id ver _ n=>⟨(∃e,P.underlying t=some (.slice e))∧Z1q L id ver,.int .i64 n,L⟩
 | .lit (.slice _ n _)=>⟨∃e,P.underlying t=some (.slice e),.int .i64 n,L⟩
 | .mp id=>match L[id]? with
  | some (.raw (.map _ f))=>⟨∃k e,P.underlying t=some (.map k e),.int .i64 (ZdH f),L⟩
  | _=>⟨False,.any,L⟩
 | .mpr _ f=>⟨∃k e,P.underlying t=some (.map k e),.int .i64 (ZdH f),L⟩
 | _=>⟨False,.any,L⟩
def Z1u(P:Program)(t:TypeId):AV:=match (P.info? t).bind (·.zero) with | some v=>ofV v | none=>.any
def Z3M(P:Program)(t:TypeId)(cs:List AV):AV:=
 match P.underlying t with
 | some (.struct _)=>.agg (cs.take (P.cellsOf t))
 | some (.array ..)=>.agg (cs.take (P.cellsOf t))
 | _=>cs.getD 0 (Z1u P t)
def Z2U(P:Program)(t:TypeId)(n:Nat):Prop:=
 match P.underlying t with
 | some (.struct _)=>(P.info? t).isSome=true∧P.cellsOf t≤n
 | some (.array ..)=>(P.info? t).isSome=true∧P.cellsOf t≤n
 | some _=>0<n
 | none=>False
def Z6W(P:Program)(c:Bool)(L:Heap)(t:TypeId)(x i:AV):Rz:=
 match x,i with
 | .str l,.int _ i=>⟨P.underlying t=some .string∧(c=true→0≤i∧i<l.length),.int .u8 (l.getD i.toNat 0).toNat,L⟩
 | .agg cs,.int _ i=>match P.underlying t with
  | some (.array n e)=>⟨(P.info? e).isSome=true∧Z2U P e (cs.length - i.toNat*P.cellsOf e)∧(c=true→0≤i∧i<n),Z3M P e (cs.drop (i.toNat*P.cellsOf e)),L⟩
  | _=>⟨False,.any,L⟩
 | _,_=>⟨False,.any,L⟩
def ZeY:List (Nat×List Value)→Nat→Option (List AV)
 | [],_=>none
 | (k,l)::r,g=>if k=g then some (l.map ofV) else ZeY r g
theorem Z8d:∀{T:List (Nat×List Value)} {g:Nat} {cs:List AV},ZeY T g=some cs→∃l,(g,l)∈T∧cs=l.map ofV
 | [],_,_,h=>by cases h
 | (k,l)::r,g,cs,h=>by
  simp only [ZeY] at h
  split at h
  ·rename_i e; cases h; subst e; exact⟨l,by simp,rfl⟩
  ·obtain⟨l',h1,h2⟩:=Z8d h; exact⟨l',by simp [h1],h2⟩
def Z2K(P:Program)(c:Bool)(L:Heap)(t:TypeId)(x i:AV):Rz:=
 match P.underlying t,x,i with
 | some (.slice e),.sl cs n,.int _ i=>⟨(P.info? e).isSome=true∧cs.length=n*P.cellsOf e∧0<P.cellsOf e∧(c=true→0≤i∧i<n),.ip (cs.drop (i.toNat*P.cellsOf e)),L⟩
 | some (.slice e),.msl id ver off n,.int _ i=>⟨(P.info? e).isSome=true∧0<P.cellsOf e∧(c=true→Z1q L id ver∧Z1S L id=P.cellsOf e∧0≤i∧i<n),.ref id ver ((off+i.toNat)*P.cellsOf e),L⟩
 | some (.slice e),.csl id ver off n,.int _ i=>⟨(P.info? e).isSome=true∧0<P.cellsOf e∧(c=true→Z1q L id ver∧Z1S L id=P.cellsOf e∧0≤i∧i<n),.ref id ver ((off+i.toNat)*P.cellsOf e),L⟩
 | some (.array n e),.ref id ver off,.int _ i=>⟨(P.info? e).isSome=true∧1<n∧(c=true→Z1q L id ver∧0≤i∧i<n),.ref id ver (off+i.toNat*P.cellsOf e),L⟩
 | some (.array n e),.ip cs,.int _ i=>⟨(P.info? e).isSome=true∧1<n∧(c=true→0≤i∧i<n),.ip (cs.drop (i.toNat*P.cellsOf e)),L⟩
 | some (.array n e),.lit (.pointer (some ⟨g,0,none⟩)),.int _ i=>match ZeY gTab g with
  | some cs=>⟨(P.info? e).isSome=true∧1<n∧(c=true→0≤i∧i<n),.ip (cs.drop (i.toNat*P.cellsOf e)),L⟩
  | none=>⟨False,.any,L⟩
 | _,_,_=>⟨False,.any,L⟩
def Z8c(P:Program)(c:Bool)(L:Heap)(t:TypeId)(x:AV):Rz:=
 match x with
 | .ip cs=>⟨c=true→Z2U P t cs.length,Z3M P t cs,L⟩
 | .ref id ver off=>⟨c=true→Z1q L id ver∧off≤(Z0Q L id).length∧Z2U P t ((Z0Q L id).length - off),Z3M P t ((Z0Q L id).drop off),L⟩
 | _=>⟨False,.any,L⟩
def Z2m(cs:List AV)(off:Nat)(ds:List AV):List AV:=cs.take off++ds++cs.drop (off+ds.length)
def Z6I(L:Heap)(id:Nat)(cs:List AV):Heap:=match L[id]? with | some (.row _ sz v)=>L.set id (.row cs sz v) | _=>L
def Z0m:List AV→Bool
 | []=>true
 | .agg _::_=>false
 | .tup _::_=>false
 | .any::_=>false
 | .when _ _::_=>false
 | .alt _ _ _::_=>false
 | .lit v::cs=>v.oneCell' && Z0m cs
 | _::cs=>Z0m cs
def Z9p(P:Program)(c:Bool)(L:Heap)(t:TypeId)(x y:AV):Rz:=
 match x with
 | .ref id ver off=>⟨c=true∧Z1q L id ver∧(P.info? t).isSome=true∧y.cells.length=P.cellsOf t∧0<y.cells.length∧off+y.cells.length≤(Z0Q L id).length∧Z0m y.cells=true,.lit undef,
   Z6I L id (Z2m (Z0Q L id) off y.cells)⟩
 | _=>⟨False,.any,L⟩
def Z1U(P:Program)(t:TypeId):Prop:=((P.info? t).bind (·.zero)).isSome=true
def Z6l(P:Program)(c:Bool)(L:Heap)(t:TypeId):Rz:=
 match lkT tyB t with
 | some e=>⟨c=true∧Z1U P t∧Z1u P t=.agg [.lit (.pointer none),.lit (.slice none 0 0)],.ref L.length 0 0,L++[.raw (.bld t e [])]⟩
 | none=>⟨c=true∧Z1U P t,.ref L.length 0 0,L++[.row (Z1u P t).cells (Z1u P t).cells.length 0]⟩
def ZjC(c:Bool)(L:Heap)(x:AV):Rz:=
 ⟨c=true∧Z0m x.cells=true,.ref L.length 0 0,L++[.row x.cells x.cells.length 0]⟩
def fillA(place:Nat→Option (Nat×Nat))(cells:List AV):List (Nat×AV)→Option (List AV)
 | []=>some cells
 | (i,x)::rest=>match place i with
  | none=>none
  | some (off,size)=>if x.cells.length≠size∨off+x.cells.length > cells.length then none
   else fillA place (Z2m cells off x.cells) rest
def Z4f(P:Program)(fields:Array Field):List (Nat×Nat):=fields.toList.map fun f=>(f.offset,P.cellsOf f.type)
def Z7C(P:Program)(fields:Array Field):Prop:=∀f∈fields.toList,(P.info? f.type).isSome=true
def Z34(fr:List AV)(parts:Array (Nat×Operand)):List (Nat×AV):=parts.toList.map fun p=>(p.1,(opd fr p.2).bare)
def Z2T(c:Bool)(xs:List AV):Prop:=∀x∈xs,need c x
def Z8t(P:Program)(c:Bool)(L:Heap)(t:TypeId)(parts:List (Nat×AV)):Rz:=
 match P.underlying t with
 | some (.struct fields)=>match fillA (fun i=>(Z4f P fields)[i]?) (Z1u P t).cells parts with
  | some cs=>⟨Z1U P t∧Z7C P fields∧(c=true→∀p∈parts,Z0m p.2.cells=true),.agg cs,L⟩
  | none=>⟨False,.any,L⟩
 | some (.array _ e)=>match fillA (fun i=>some (i*P.cellsOf e,P.cellsOf e)) (Z1u P t).cells parts with
  | some cs=>⟨Z1U P t∧(P.info? e).isSome=true∧(c=true→∀p∈parts,Z0m p.2.cells=true),.agg cs,L⟩
  | none=>⟨False,.any,L⟩
 | _=>⟨False,.any,L⟩
def Z8B(n:Nat)(cs:List AV):List AV:=(List.replicate n cs).flatten
def Z2Z(P:Program)(c:Bool)(L:Heap)(t:TypeId)(len:Nat)(parts:List (Nat×AV)):Rz:=
 match P.underlying t with
 | some (.slice e)=>match fillA (fun i=>some (i*P.cellsOf e,P.cellsOf e)) (Z8B len (Z1u P e).cells) parts with
  | some cs=>⟨c=true∧Z1U P e∧(Z1u P e).cells.length=P.cellsOf e∧0<P.cellsOf e∧len*P.cellsOf e≤16777216∧(∀p∈parts,Z0m p.2.cells=true)∧Z0m cs=true,
    .msl L.length 0 0 len,L++[.row cs (P.cellsOf e) 0]⟩
  | none=>⟨False,.any,L⟩
 | _=>⟨False,.any,L⟩
def Z3E(P:Program)(c:Bool)(L:Heap)(t:TypeId)(len:Nat)(parts:List (Nat×AV)):Rz:=
 match P.underlying t with
 | some (.slice e)=>match fillA (fun i=>some (i*P.cellsOf e,P.cellsOf e)) (Z8B len (Z1u P e).cells) parts with
  | some cs=>⟨Z1U P e∧(Z1u P e).cells.length=P.cellsOf e∧0<P.cellsOf e∧len*P.cellsOf e≤16777216∧(∀p∈parts,Z0m p.2.cells=true)∧Z0m cs=true,.sl cs len,L⟩
  | none=>⟨False,.any,L⟩
 | _=>⟨False,.any,L⟩
def ZfC(d:Tmp)(o:Oper):Bool:=match o.op with
 | .call { callee:=.builtin .append,args:=args,argTypes:=_ }=>(match args.toList with
  | [_,.tmp e]=>e == d
  | _=>false)
 | _=>false
def Zhf(all:List Oper)(o:Oper):Bool:=match o.op,o.dst with
 | .buildSlice _ _ _,some d=>all.any (ZfC d)
 | _,_=>false
def Z6Z(P:Program)(c:Bool)(L:Heap)(t:TypeId)(x:AV)(f:Nat):Rz:=
 match P.underlying t,x with
 | some (.struct fields),.agg cs=>match fields[f]? with
  | some fd=>⟨(P.info? fd.type).isSome=true∧(c=true→Z2U P fd.type (cs.length - fd.offset)∧fd.offset≤cs.length),Z3M P fd.type (cs.drop fd.offset),L⟩
  | none=>⟨False,.any,L⟩
 | _,_=>⟨False,.any,L⟩
def Z2L(P:Program)(c:Bool)(L:Heap)(t:TypeId)(x:AV)(f:Nat):Rz:=
 match P.underlying t with
 | some (.struct fields)=>match fields[f]? with
  | some fd=>match x with
   | .ip cs=>⟨(P.info? fd.type).isSome=true∧P.cellsOf fd.type≠0,.ip (cs.drop fd.offset),L⟩
   | .ref id ver off=>⟨(P.info? fd.type).isSome=true∧P.cellsOf fd.type≠0∧(c=true→Z1q L id ver),.ref id ver (off+fd.offset),L⟩
   | _=>⟨False,.any,L⟩
  | none=>⟨False,.any,L⟩
 | _=>⟨False,.any,L⟩
def Z4k(c:Bool)(L:Heap)(x:AV)(i:Nat):Rz:=
 match x with
 | .tup vs=>⟨c=true→i<vs.length,vs.getD i .any,L⟩
 | .alt b (.tup vs) (.tup ws)=>⟨c=true→(b=true→i<vs.length)∧(b=false→i<ws.length),Z5Y b (vs.getD i .any) (ws.getD i .any),L⟩
 | _=>⟨False,.any,L⟩
def Z1P(d:Nat):Option AV→Option Int
 | none=>some d
 | some (.int _ i)=>some i
 | some _=>none
def Z6H(P:Program)(c:Bool)(L:Heap)(t:TypeId)(x:AV)(lo hi mx:Option AV):Rz:=
 match P.underlying t,x with
 | some .string,.str l=>match Z1P 0 lo,Z1P l.length hi,mx with
  | some i,some j,none=>⟨c=true→0≤i∧i≤j∧j≤l.length,.str ((l.take j.toNat).drop i.toNat),L⟩
  | _,_,_=>⟨False,.any,L⟩
 | some (.slice e),.sl cs n=>match Z1P 0 lo,Z1P n hi,Z1P n mx with
  | some i,some j,some k=>⟨(P.info? e).isSome=true∧(mx.isSome=true→hi.isSome=true)∧cs.length=n*P.cellsOf e∧(c=true→0≤i∧i≤j∧j≤k∧k≤n),.sl ((cs.take (j.toNat*P.cellsOf e)).drop (i.toNat*P.cellsOf e)) (j.toNat - i.toNat),L⟩
  | _,_,_=>⟨False,.any,L⟩
 | some (.slice e),.msl id ver off n=>match Z1P 0 lo,Z1P n hi,mx with
  | some i,some j,none=>⟨(P.info? e).isSome=true∧0<P.cellsOf e∧(c=true→Z1q L id ver∧Z1S L id=P.cellsOf e∧0≤i∧i≤j∧(off+j.toNat)*P.cellsOf e≤(Z0Q L id).length),.msl id ver (off+i.toNat) (j.toNat - i.toNat),L⟩
  | some i,some j,some mx'=>match Z1P n (some mx') with
   | some k=>⟨hi.isSome=true∧(P.info? e).isSome=true∧0<P.cellsOf e∧(c=true→k=j∧Z1q L id ver∧Z1S L id=P.cellsOf e∧0≤i∧i≤j∧(off+j.toNat)*P.cellsOf e≤(Z0Q L id).length),.csl id ver (off+i.toNat) (j.toNat - i.toNat),L⟩
   | none=>⟨False,.any,L⟩
  | _,_,_=>⟨False,.any,L⟩
 | some (.array n e),.ip cs=>match lo,hi,mx with
  | none,none,none=>⟨(P.info? e).isSome=true∧n*P.cellsOf e≤cs.length,.sl (cs.take (n*P.cellsOf e)) n,L⟩
  | _,_,_=>⟨False,.any,L⟩
 | _,_=>⟨False,.any,L⟩
def Z5d(P:Program)(c:Bool)(L:Heap)(t:TypeId)(x:AV):Rz:=
 match P.underlying t,x with
 | some (.array n _),.sl cs k=>⟨c=true→0<n∧n≤k∧0<cs.length,.ip cs,L⟩
 | some (.array n _),.msl id ver off k=>⟨c=true→Z1q L id ver∧0<n∧n≤k,.ref id ver (off*Z1S L id),L⟩
 | _,_=>⟨False,.any,L⟩
def Z0B(L:Heap)(sz:Nat):AV→List AV
 | .sl cs _=>cs
 | .msl id _ off n=>((Z0Q L id).drop (off*sz)).take (n*sz)
 | .str l=>l.map Z03
 | _=>[]
def Z3T(L:Heap)(sz:Nat):AV→Prop
 | .sl cs n=>cs.length=n*sz
 | .msl id ver _ _=>Z1q L id ver∧Z1S L id=sz
 | .str _=>sz=1
 | .lit (.slice none 0 0)=>True
 | _=>False
def Z0p:AV→Nat
 | .sl _ n=>n
 | .msl _ _ _ n=>n
 | .str l=>l.length
 | _=>0
def Z3w(P:Program)(e:TypeId):Bool:=((P.info? e).bind (·.zero)).isSome && ((Z1u P e).cells.length == P.cellsOf e && (decide (0<P.cellsOf e) && decide (0<P.bytesOf e)))
def Z6r(P:Program)(t:TypeId):Bool:=match P.underlying t with
 | some (.int _)=>false
 | some _=>true
 | none=>false
def Z5e(P:Program)(c:Bool)(L:Heap)(t tx:TypeId)(s x:AV):Rz:=
 match P.underlying t with
 | some (.slice e)=>
  match s with
  | .lit (.slice none 0 0)=>⟨c=true∧Z3w P e=true∧Z6r P tx=true∧Z3T L (P.cellsOf e) x∧Z0m (Z0B L (P.cellsOf e) x)=true∧Z0p x*P.bytesOf e≤140737488355328,
    .msl L.length 0 0 (Z0p x),L++[.row (Z0B L (P.cellsOf e) x) (P.cellsOf e) 0]⟩
  | .msl id ver off n=>⟨c=true∧Z3w P e=true∧Z6r P tx=true∧Z3T L (P.cellsOf e) x∧Z0m (Z0B L (P.cellsOf e) x)=true∧
    Z1q L id ver∧Z1S L id=P.cellsOf e∧off=0∧(Z0Q L id).length=n*P.cellsOf e∧(n+Z0p x)*P.bytesOf e≤140737488355328,
    .msl id (ver+1) 0 (n+Z0p x),L.set id (.row (Z0Q L id++Z0B L (P.cellsOf e) x) (P.cellsOf e) (ver+1))⟩
  | .csl id ver off n=>⟨c=true∧Z3w P e=true∧Z6r P tx=true∧Z3T L (P.cellsOf e) x∧Z0m (Z0B L (P.cellsOf e) x)=true∧
    Z1q L id ver∧Z1S L id=P.cellsOf e∧0<Z0p x∧(n+Z0p x)*P.bytesOf e≤140737488355328,
    .msl L.length 0 0 (n+Z0p x),L++[.row (((Z0Q L id).drop (off*P.cellsOf e)).take (n*P.cellsOf e)++Z0B L (P.cellsOf e) x) (P.cellsOf e) 0]⟩
  | _=>⟨False,.any,L⟩
 | _=>⟨False,.any,L⟩
def Z7M(P:Program)(c:Bool)(L:Heap)(t tx:TypeId)(s:AV)(q:Int):Rz:=
 match P.underlying t,P.underlying tx,s with
 | some (.slice e),some (.int _),.msl id ver off n=>⟨c=true∧Z3w P e=true∧Z0m (Z1u P e).cells=true∧0≤q∧Z1q L id ver∧Z1S L id=P.cellsOf e∧off=0∧(Z0Q L id).length=n*P.cellsOf e∧(n+q.toNat)*P.bytesOf e≤140737488355328,
   .msl id (ver+1) 0 (n+q.toNat),L.set id (.row (Z0Q L id++Z8B q.toNat (Z1u P e).cells) (P.cellsOf e) (ver+1))⟩
 | _,_,_=>⟨False,.any,L⟩
def Zjp(P:Program)(c:Bool)(L:Heap)(t tx:TypeId)(s x:AV):Rz:=
 match x with
 | .int _ q=>Z7M P c L t tx s q
 | y=>Z5e P c L t tx s y
def ZdB(P:Program)(c:Bool)(L:Heap)(t:TypeId)(s x:AV):Rz:=
 match P.underlying t,s with
 | some (.slice e),.msl id ver off n=>⟨c=true∧(P.info? e).isSome=true∧0<P.cellsOf e∧Z3T L (P.cellsOf e) x∧Z0m ((Z0B L (P.cellsOf e) x).take (min (Z0p x) n*P.cellsOf e))=true∧Z1q L id ver∧Z1S L id=P.cellsOf e∧(off+n)*P.cellsOf e≤(Z0Q L id).length,
   .int .i64 ((min (Z0p x) n:Nat):Int),L.set id (.row (Z2m (Z0Q L id) (off*P.cellsOf e) ((Z0B L (P.cellsOf e) x).take (min (Z0p x) n*P.cellsOf e))) (P.cellsOf e) ver)⟩
 | _,_=>⟨False,.any,L⟩
def Z7Z(P:Program)(c:Bool)(L:Heap)(t:TypeId)(x:AV):Rz:=
 match x with
 | .str l=>⟨c=true∧P.underlying t=some .string,.ref L.length 0 0,L++[.raw (.iter l 0)]⟩
 | _=>⟨False,.any,L⟩
def Z3s(P:Program)(c:Bool)(L:Heap)(t:TypeId)(l k:AV):Rz:=
 match P.underlying t,l,k with
 | some (.slice e),.int _ l,.int _ k=>⟨c=true∧Z3w P e=true∧0≤l∧l≤k∧k*P.bytesOf e≤281474976710656,.msl L.length 0 0 l.toNat,L++[.row (Z8B l.toNat (Z1u P e).cells) (P.cellsOf e) 0]⟩
 | _,_,_=>⟨False,.any,L⟩
def Z3r(c:Bool)(L:Heap)(x:AV):Rz:=
 match x with
 | .ref id ver off=>⟨c=true→Z1q L id ver,.ref id ver off,L⟩
 | .ip cs=>⟨True,.ip cs,L⟩
 | .fn (.func f) a b=>⟨True,.fn (.func f) a b,L⟩
 | _=>⟨False,.any,L⟩
def Z7w(P:Program)(t:TypeId):Bool:=match P.underlying t with
 | some (.interface _)=>true
 | some _=>false
 | none=>true
def Z3h(l:List UInt8)(p:Nat):Nat×Nat:=Utf8.decode ⟨l.toArray⟩ p
def nextR(c:Bool)(L:Heap)(x:AV)(isString:Bool):Rz:=
 match x with
 | .ref id _ _=>match L[id]? with
  | some (.raw (.iter s p))=>⟨c=true∧isString=true,
    .alt (decide (p<s.length)) (.tup [.bool true,.int .i64 p,.int .i32 (Z3h s p).1]) (.tup [.bool false]),
    L.set id (.raw (.iter s (if p<s.length then p+(Z3h s p).2 else p)))⟩
  | _=>⟨False,.any,L⟩
 | _=>⟨False,.any,L⟩
def Z6U:AV→Option Key
 | .int k n=>some (.i k n)
 | .str l=>some (.s l)
 | _=>none
def Z1l(P:Program)(kt:TypeId):Option (Option IntKind):=match P.underlying kt with
 | some (.int k)=>some (some k)
 | some .string=>some none
 | _=>none
def Zaj:AV→Option Value
 | .int k n=>some (.int k n)
 | .bool b=>some (.bool b)
 | .str l=>some (.string ⟨l.toArray⟩)
 | .fn f first captured=>match first,captured with
  | [],[]=>some (.func f #[] #[])
  | _,_=>none
 | _=>none
def Z6O:List AV→Option (List Value)
 | []=>some []
 | x::xs=>match Zaj x,Z6O xs with
  | some v,some vs=>some (v::vs)
  | _,_=>none
def Z9o:AV→Option Value
 | .agg cs=>(Z6O cs).map fun vs=>.agg vs.toArray
 | x=>Zaj x
def Z8A(f:Key→Option Value)(k:Key)(v:Value):Key→Option Value:=fun k'=>if k'=k then some v else f k'
def noK:Key→Option Value:=fun _=>none
def Z4M(P:Program)(c:Bool)(L:Heap)(t:TypeId)(r:Option AV):Rz:=
 match P.underlying t,r with
 | some (.map kt _),none=>match Z1l P kt with
  | some kd=>⟨c=true,.mp L.length,L++[.raw (.map kd noK)]⟩
  | none=>⟨False,.any,L⟩
 | some (.map kt _),some (.int _ _)=>match Z1l P kt with
  | some kd=>⟨c=true,.mp L.length,L++[.raw (.map kd noK)]⟩
  | none=>⟨False,.any,L⟩
 | _,_=>⟨False,.any,L⟩
def Z3a(P:Program)(c:Bool)(L:Heap)(t:TypeId)(x k v:AV):Rz:=
 match P.underlying t,x,Z6U k,Z9o v with
 | some (.map kt _),.mp id,some key,some val=>match L[id]? with
  | some (.raw (.map kd f))=>⟨c=true∧Z1l P kt=some kd∧key.kd=kd,.lit undef,L.set id (.raw (.map kd (Z8A f key val)))⟩
  | _=>⟨False,.any,L⟩
 | _,_,_,_=>⟨False,.any,L⟩
def Z9J(f:Key→Option Value)(k:Key):Key→Option Value:=fun k'=>if k'=k then none else f k'
def Z64(P:Program)(c:Bool)(L:Heap)(t:TypeId)(x k:AV):Rz:=
 match P.underlying t,x,Z6U k with
 | some (.map kt _),.mp id,some key=>match L[id]? with
  | some (.raw (.map kd f))=>⟨c=true∧Z1l P kt=some kd∧key.kd=kd,.tup [],L.set id (.raw (.map kd (Z9J f key)))⟩
  | _=>⟨False,.any,L⟩
 | _,_,_=>⟨False,.any,L⟩
def Zar(P:Program)(L:Heap)(t:TypeId)(x k:AV)(ok:Bool):Rz:=
  match P.underlying t,x,Z6U k with
  | some (.map kt et),.mp id,some key=>match L[id]? with
    | some (.raw (.map kd f))=>⟨Z1U P et∧Z1l P kt=some kd∧key.kd=kd,
        cond ok (.alt (f key).isSome (.tup [ofV ((f key).getD undef),.bool true]) (.tup [Z1u P et,.bool false])) (Z5Y (f key).isSome (ofV ((f key).getD undef)) (Z1u P et)),L⟩
    | _=>⟨False,.any,L⟩
  | some (.map kt et),.mpr kd f,some key=>⟨Z1U P et∧Z1l P kt=some kd∧key.kd=kd,
        cond ok (.alt (f key).isSome (.tup [ofV ((f key).getD undef),.bool true]) (.tup [Z1u P et,.bool false])) (Z5Y (f key).isSome (ofV ((f key).getD undef)) (Z1u P et)),L⟩
  | _,_,_=>⟨False,.any,L⟩
def Rz.also(z:Rz)(p:Prop):Rz:=⟨p∧z.pre,z.v,z.L⟩
def bad(L:Heap):Rz:=⟨False,.any,L⟩
def ZbP(c:Bool)(L:Heap)(q a b:AV):Rz:=
 match q.bare with
 | .bool t=>⟨need c q∧need (c && t) a∧need (c && !t) b,Z5Y t a.bare b.bare,L⟩
 | _=>bad L
def Z9y(fr:List AV):Option Operand→Option AV
 | none=>none
 | some x=>some (opd fr x).bare
def Z5w(c:Bool)(fr:List AV):Option Operand→Prop
 | none=>True
 | some x=>need c (opd fr x)
def ZdV(L:Heap)(low:Bool)(x y:AV):Rz:=
 match x,y with
 | .int k a,.int _ b=>⟨True,.int k (cond low (min a b) (max a b)),L⟩
 | _,_=>bad L
noncomputable def Z4m(P:Program)(c:Bool)(fr:List AV)(L:Heap)(b:Builtin)(args:List Operand)(ts:List TypeId):Rz:=
 match b,args,ts with
 | .len,[x],[t]=>(ZhX P L t (opd fr x).bare).also (need c (opd fr x))
 | .min,[x,y],_=>(ZdV L true (opd fr x).bare (opd fr y).bare).also (need c (opd fr x)∧need c (opd fr y))
 | .max,[x,y],_=>(ZdV L false (opd fr x).bare (opd fr y).bare).also (need c (opd fr x)∧need c (opd fr y))
 | .append,[s,x],[t,tx]=>(Zjp P c L t tx (opd fr s).bare (opd fr x).bare).also (need c (opd fr s)∧need c (opd fr x))
 | .copy,[s,x],[t,_]=>(ZdB P c L t (opd fr s).bare (opd fr x).bare).also (need c (opd fr s)∧need c (opd fr x))
 | .delete,[x,k],t::_=>(Z64 P c L t (opd fr x).bare (opd fr k).bare).also (need c (opd fr x)∧need c (opd fr k))
 | _,_,_=>bad L
noncomputable def ev(P:Program)(c:Bool)(fr:List AV)(L:Heap):Op→Rz
 | .move x=>⟨need c (opd fr x),(opd fr x).bare,L⟩
 | .assign x=>⟨need c (opd fr x),(opd fr x).bare,L⟩
 | .pick q a b=>ZbP c L (opd fr q) (opd fr a) (opd fr b)
 | .binOp op t x y _=>(ZhZ P c L op t (opd fr x).bare (opd fr y).bare (Z3b x || Z3b y)).also (need c (opd fr x)∧need c (opd fr y))
 | .unOp op _ x=>(unR L op (opd fr x).bare).also (need c (opd fr x))
 | .convert src dst x=>(ZdD P c L src dst (opd fr x).bare).also (need c (opd fr x))
 | .index t x i=>(Z6W P c L t (opd fr x).bare (opd fr i).bare).also (need c (opd fr x)∧need c (opd fr i))
 | .indexAddr t x i=>(Z2K P c L t (opd fr x).bare (opd fr i).bare).also (need c (opd fr x)∧need c (opd fr i))
 | .load t x=>(Z8c P c L t (opd fr x).bare).also (need c (opd fr x))
 | .store t x y=>(Z9p P c L t (opd fr x).bare (opd fr y).bare).also (need c (opd fr x)∧need c (opd fr y))
 | .alloc t=>Z6l P c L t
 | .box _ x=>(ZjC c L (opd fr x).bare).also (need c (opd fr x))
 | .build t parts=>(Z8t P c L t (Z34 fr parts)).also (Z2T c (parts.toList.map fun p=>opd fr p.2))
 | .buildSlice t len parts=>(Z2Z P c L t len (Z34 fr parts)).also (Z2T c (parts.toList.map fun p=>opd fr p.2))
 | .field t x f=>(Z6Z P c L t (opd fr x).bare f).also (need c (opd fr x))
 | .fieldAddr t x f=>(Z2L P c L t (opd fr x).bare f).also (need c (opd fr x))
 | .extract x i=>(Z4k c L (opd fr x).bare i).also (need c (opd fr x))
 | .slice t x lo hi mx=>(Z6H P c L t (opd fr x).bare (Z9y fr lo) (Z9y fr hi) (Z9y fr mx)).also (need c (opd fr x)∧Z5w c fr lo∧Z5w c fr hi∧Z5w c fr mx)
 | .sliceToArrayPointer t x=>(Z5d P c L t (opd fr x).bare).also (need c (opd fr x))
 | .range t x=>(Z7Z P c L t (opd fr x).bare).also (need c (opd fr x))
 | .next x b=>(nextR c L (opd fr x).bare b).also (need c (opd fr x))
 | .nilCheck x=>(Z3r c L (opd fr x).bare).also (need c (opd fr x))
 | .makeInterface t x=>⟨need c (opd fr x)∧Z7w P t=false,.ifc t (opd fr x).bare,L⟩
 | .makeFunc f first captured=>⟨Z2T c (first.toList.map (opd fr))∧Z2T c (captured.toList.map (opd fr)),.fn f (first.toList.map fun x=>(opd fr x).bare) (captured.toList.map fun x=>(opd fr x).bare),L⟩
 | .makeSlice t l k=>(Z3s P c L t (opd fr l).bare (opd fr k).bare).also (need c (opd fr l)∧need c (opd fr k))
 | .makeMap t r=>(Z4M P c L t (Z9y fr r)).also (Z5w c fr r)
 | .insert t x k v=>(Z3a P c L t (opd fr x).bare (opd fr k).bare (opd fr v).bare).also (need c (opd fr x)∧need c (opd fr k)∧need c (opd fr v))
 | .mapUpdate t x k v=>(Z3a P c L t (opd fr x).bare (opd fr k).bare (opd fr v).bare).also (need c (opd fr x)∧need c (opd fr k)∧need c (opd fr v))
 | .lookup t x k ok=>(Zar P L t (opd fr x).bare (opd fr k).bare ok).also (need c (opd fr x)∧need c (opd fr k))
 | .call { callee:=.builtin b,args:=args,argTypes:=ts }=>Z4m P c fr L b args.toList ts.toList
 | _=>bad L
end Go.Eng