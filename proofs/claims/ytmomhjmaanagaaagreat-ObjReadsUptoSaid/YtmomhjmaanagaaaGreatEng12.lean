/- The engine, part 12: small lemmas for its use. -/
import Derived.Test.YtmomhjmaanagaaaGreatEng14
import Derived.Test.YtmomhjmaanagaaaGreatEng13
import Derived.Laws.RangeAny
set_option linter.unusedVariables false
set_option linter.unusedSimpArgs false
namespace Go.Eng
open Go
theorem Z6X(n i:Nat):(List.range n).getD i i=i:=by
 by_cases h:i<n
 ·simp [List.getD,h]
 ·simp [List.getD,h]
theorem ZgR(o:Z0L):Z1C (fun i=>i) o=o:=by
 cases o <;> simp [Z1C,Z38]
theorem Z06.drop{L0:Heap}{fr:List AV}{L' G:Heap}{fr':List AV}(h:leF fr fr')(hs:Z0Z L'.length fr'=true)(ho:L'.all (Z2H L'.length)=true)(hn:L0.length≤L'.length):Z06 L0 fr (L'++G) (fr',L'):=by
 refine Z0k.base (List.range L'.length) ⟨?_,?_,List.nodup_range,?_,hs,ho⟩ hn
 ·have:(fun i=>(List.range L'.length).getD i i)=fun i=>i:=by funext i; exact Z6X _ _
  rw [this,Z38]; exact h
 ·have:(fun i=>(List.range L'.length).getD i i)=fun i=>i:=by funext i; exact Z6X _ _
  simp only [this,ZgR]
  apply List.ext_getElem?
  intro i
  simp only [List.getElem?_map]
  by_cases hi:i<L'.length
  ·simp only [List.getElem?_range hi,Option.map_some,List.getElem?_append_left hi]
   simp [hi]
  ·simp [hi]
 ·rw [List.take_range]; congr 1; omega
theorem Z06.same{L0:Heap}{fr:List AV}{L:Heap}{fr':List AV}(h:leF fr fr')(hs:Z0Z L.length fr'=true)(ho:L.all (Z2H L.length)=true)(hn:L0.length≤L.length):Z06 L0 fr L (fr',L):=by
 have:=Z06.drop (G:=[]) h hs ho hn
 rwa [List.append_nil] at this
theorem Z06.keep0{L0:Heap}{fr fr':List AV}{G:Heap}(h:leF fr fr')(hs:Z0Z 0 fr'=true)(ho:([]:Heap).all (Z2H 0)=true)(hn:L0.length≤0):Z06 L0 fr (G) (fr',[]):=Z06.drop (L':=[]) (G:=G) h hs ho hn
theorem Z06.keep1{L0:Heap}{fr fr':List AV}{G:Heap}{o0:Z0L}(h:leF fr fr')(hs:Z0Z 1 fr'=true)(ho:[o0].all (Z2H 1)=true)(hn:L0.length≤1):Z06 L0 fr (o0::G) (fr',[o0]):=Z06.drop (L':=[o0]) (G:=G) h hs ho hn
theorem Z06.keep2{L0:Heap}{fr fr':List AV}{G:Heap}{o0 o1:Z0L}(h:leF fr fr')(hs:Z0Z 2 fr'=true)(ho:[o0,o1].all (Z2H 2)=true)(hn:L0.length≤2):Z06 L0 fr (o0::o1::G) (fr',[o0,o1]):=Z06.drop (L':=[o0,o1]) (G:=G) h hs ho hn
theorem Z06.keep3{L0:Heap}{fr fr':List AV}{G:Heap}{o0 o1 o2:Z0L}(h:leF fr fr')(hs:Z0Z 3 fr'=true)(ho:[o0,o1,o2].all (Z2H 3)=true)(hn:L0.length≤3):Z06 L0 fr (o0::o1::o2::G) (fr',[o0,o1,o2]):=Z06.drop (L':=[o0,o1,o2]) (G:=G) h hs ho hn
theorem Z06.keep4{L0:Heap}{fr fr':List AV}{G:Heap}{o0 o1 o2 o3:Z0L}(h:leF fr fr')(hs:Z0Z 4 fr'=true)(ho:[o0,o1,o2,o3].all (Z2H 4)=true)(hn:L0.length≤4):Z06 L0 fr (o0::o1::o2::o3::G) (fr',[o0,o1,o2,o3]):=Z06.drop (L':=[o0,o1,o2,o3]) (G:=G) h hs ho hn
theorem Z06.keep5{L0:Heap}{fr fr':List AV}{G:Heap}{o0 o1 o2 o3 o4:Z0L}(h:leF fr fr')(hs:Z0Z 5 fr'=true)(ho:[o0,o1,o2,o3,o4].all (Z2H 5)=true)(hn:L0.length≤5):Z06 L0 fr (o0::o1::o2::o3::o4::G) (fr',[o0,o1,o2,o3,o4]):=Z06.drop (L':=[o0,o1,o2,o3,o4]) (G:=G) h hs ho hn
theorem Z06.flat{fr fr':List AV}(h:leF fr fr')(hs:Z0Z 0 fr'=true):Z06 [] fr [] (fr',[]):=Z06.same h hs rfl (Nat.le_refl _)
theorem Z06.one{v res:AV}{G:Heap}(h:v=res)(hs:scp 0 res=true):Z06 [] [v] G ([res],[]):=Z06.drop (L':=[]) (G:=G) (by subst h; exact Z0d _) (by simp [Z0Z,hs]) rfl (Nat.le_refl _)
theorem ZhO{α:Type}[BEq α][LawfulBEq α]{p q:UInt8→α}(h:(List.range 256).all (fun n=>p (UInt8.ofNat n) == q (UInt8.ofNat n))=true)(c:UInt8):p c=q c:=by
 have:=List.all_eq_true.1 h c.toNat (List.mem_range.2 c.toNat_lt)
 rw [UInt8.ofNat_toNat] at this
 exact eq_of_beq this
theorem Z11(n:Int)(h:-9223372036854775808≤n∧n≤9223372036854775807):IntKind.i64.wrap n=n:=IntWalk.i64_in n h
def ZbO(w:World):Mem:=⟨fun g=>w.heap[g]?,fun _=>0,fun _=>0⟩
theorem ZeC(w:World)(g:Nat)(o:Obj)(h:(ZbO w).pobj g=some o):w.heap[g]?=some o:=h
theorem ZgS(w:World):Z05 (ZbO w) [] (.sl [] 0) (.slice none 0 0):=by
 simp only [Z05]
 exact⟨none,0,rfl,Nat.le_refl _,[],Z0e.nil _ _,.inl rfl⟩
theorem Zbe(w:World)(x:Addr)(len cap:Nat)(us:List Value)(cs:List AV)(hl:len≤cap)(hcr:Z0e (ZbO w) [] cs us)(hcell:∀i v,us[i]?=some v→w.cell? (x.add i)=some v):Z05 (ZbO w) [] (.sl cs len) (.slice (some x) len cap):=by
 simp only [Z05]
 refine⟨some x,cap,rfl,hl,us,hcr,?_⟩
 cases us with
 | nil=>exact .inl rfl
 | cons u us=>
  have h0:=hcell 0 u (by simp)
  obtain⟨b,off,spot⟩:=x
  have hs:spot=none:=by simpa [Addr.add] using World.cell?_spot h0
  subst hs
  exact .inr ⟨b,off,rfl,fun i v hi=>by
   have:=hcell i v hi
   refine Mem.pin_heap rfl ?_
   rw [←this]; congr 1; simp only [Addr.add]; split <;> simp_all⟩
def Z14(Γ:Env)(f:FuncId)(sp:Z0n):Env:=fun g=>if g=f then some sp else Γ g
def noE:Env:=fun _=>none
theorem Zc0(P:Program):Z07 P noE:=fun _ _ h=>by cases h
theorem Z07.add{P:Program}{Γ:Env}{f:FuncId}{sp:Z0n}(h:Z07 P Γ)(hc:Con P f sp):Z07 P (Z14 Γ f sp):=by
 intro g s hs
 unfold Z14 at hs
 split at hs
 ·rename_i e; subst e; obtain rfl:=Option.some.inj hs; exact hc
 ·exact h g s hs
theorem ZeV(c:Bool):need c (.any)=True:=eq_true fun _=>rfl
theorem ZeS(c:Bool)(k:IntKind)(n:Int):need c (.int k n)=True:=eq_true fun _=>rfl
theorem Zc5(c:Bool)(b:Bool):need c (.bool b)=True:=eq_true fun _=>rfl
theorem ZeN(c:Bool)(l:List UInt8):need c (.str l)=True:=eq_true fun _=>rfl
theorem ZeR(c:Bool)(v:Value):need c (.lit v)=True:=eq_true fun _=>rfl
theorem ZeX(c:Bool)(cs:List AV):need c (.agg cs)=True:=eq_true fun _=>rfl
theorem ZeM(c:Bool)(vs:List AV):need c (.tup vs)=True:=eq_true fun _=>rfl
theorem Zh6(c:Bool)(cs:List AV)(n:Nat):need c (.sl cs n)=True:=eq_true fun _=>rfl
theorem ZeP(c:Bool)(a b d e:Nat):need c (.msl a b d e)=True:=eq_true fun _=>rfl
theorem ZeO(c:Bool)(a b d:Nat):need c (.ref a b d)=True:=eq_true fun _=>rfl
theorem Zh8(c:Bool)(cs:List AV):need c (.ip cs)=True:=eq_true fun _=>rfl
theorem Zh9(c:Bool)(f:Fn)(a b:List AV):need c (.fn f a b)=True:=eq_true fun _=>rfl
theorem ZeT(c:Bool)(t:TypeId)(x:AV):need c (.ifc t x)=True:=eq_true fun _=>rfl
theorem ZeW(c:Bool)(b:Bool)(x y:AV):need c (.alt b x y)=True:=eq_true fun _=>rfl
theorem Zh5(c:Bool)(p q:Prop):need c (.ub p q)=True:=eq_true fun _=>rfl
theorem ZeU(c:Bool)(a b d e:Nat):need c (.csl a b d e)=True:=eq_true fun _=>rfl
theorem ZeQ(c:Bool)(k:Option IntKind)(f:Key→Option Value):need c (.mpr k f)=True:=eq_true fun _=>rfl
theorem Zh7(c:Bool)(i:Nat):need c (.mp i)=True:=eq_true fun _=>rfl
theorem Za2(n:Nat)(l:List UInt8):Z0Z n (l.map Z03)=true:=by rw [Z9s]; simp [List.all_eq_true,Z03,scp]
theorem Za4(ρ:Nat→Nat)(l:List UInt8):Z2l ρ (l.map Z03)=l.map Z03:=by rw [Z2A]; simp [Z03,ren]
theorem Z6u(l:List UInt8):Z1k (l.map Z03)=true:=by induction l <;> simp_all [Z1k,Z03,Z2B]
theorem Z6w(l:List UInt8):Z0m (l.map Z03)=true:=by induction l <;> simp_all [Z0m,Z03]
theorem Z9T(L:Heap)(id v':Nat)(l:List UInt8):Z3V L id v' (l.map Z03)=l.map Z03:=by induction l <;> simp_all [Z3V,Z4p,Z03]
theorem Z8G(L:Heap)(id v':Nat)(xs ys:List AV):Z3V L id v' (xs++ys)=Z3V L id v' xs++Z3V L id v' ys:=by induction xs <;> simp_all [Z3V]
theorem Z8V(ρ:Nat→Nat)(xs ys:List AV):Z2l ρ (xs++ys)=Z2l ρ xs++Z2l ρ ys:=by induction xs <;> simp_all [Z2l]
theorem Z8T(n:Nat)(xs ys:List AV):Z0Z n (xs++ys)=(Z0Z n xs && Z0Z n ys):=by induction xs <;> simp_all [Z0Z,Bool.and_assoc]
theorem Z5X(xs ys:List AV):Z1k (xs++ys)=(Z1k xs && Z1k ys):=by induction xs <;> simp_all [Z1k,Bool.and_assoc]
def flat:AV→Bool
 | .int ..=>true
 | .bool _=>true
 | .str _=>true
 | _=>false
theorem Zav{x:AV}(h:flat x=true):(∃k n,x=.int k n)∨(∃b,x=.bool b)∨(∃l,x=.str l):=by
 cases x <;> simp_all [flat]
theorem Z8m{xs:List AV}(h:xs.all flat=true):Z1k xs=true:=by
 induction xs with
 | nil=>rfl
 | cons x xs ih=>
  rw [List.all_cons,Bool.and_eq_true] at h
  simp only [Z1k,ih h.2,Bool.and_true]
  rcases Zav h.1 with ⟨_,_,rfl⟩ | ⟨_,rfl⟩ | ⟨_,rfl⟩ <;> rfl
theorem Zj7(L:Heap)(keep:Nat→Bool)(sub:AV→AV):Z1b L keep sub (.any)=.any:=rfl
theorem ZiC(L:Heap)(keep:Nat→Bool)(sub:AV→Prop):Z1z L keep sub (.any)=True:=rfl
theorem Zjm(L:Heap)(keep:Nat→Bool)(sub:AV→Bool):Z4n L keep sub (.any)=false:=rfl
theorem Zj4(L:Heap)(keep:Nat→Bool)(sub:AV→AV)(k:IntKind)(n:Int):Z1b L keep sub (.int k n)=.int k n:=rfl
theorem Ziz(L:Heap)(keep:Nat→Bool)(sub:AV→Prop)(k:IntKind)(n:Int):Z1z L keep sub (.int k n)=True:=rfl
theorem Zjj(L:Heap)(keep:Nat→Bool)(sub:AV→Bool)(k:IntKind)(n:Int):Z4n L keep sub (.int k n)=false:=rfl
theorem ZhK(L:Heap)(keep:Nat→Bool)(sub:AV→AV)(b:Bool):Z1b L keep sub (.bool b)=.bool b:=rfl
theorem Zhl(L:Heap)(keep:Nat→Bool)(sub:AV→Prop)(b:Bool):Z1z L keep sub (.bool b)=True:=rfl
theorem ZhQ(L:Heap)(keep:Nat→Bool)(sub:AV→Bool)(b:Bool):Z4n L keep sub (.bool b)=false:=rfl
theorem ZiZ(L:Heap)(keep:Nat→Bool)(sub:AV→AV)(l:List UInt8):Z1b L keep sub (.str l)=.str l:=rfl
theorem Ziu(L:Heap)(keep:Nat→Bool)(sub:AV→Prop)(l:List UInt8):Z1z L keep sub (.str l)=True:=rfl
theorem Zje(L:Heap)(keep:Nat→Bool)(sub:AV→Bool)(l:List UInt8):Z4n L keep sub (.str l)=false:=rfl
theorem Zj3(L:Heap)(keep:Nat→Bool)(sub:AV→AV)(v:Value):Z1b L keep sub (.lit v)=.lit v:=rfl
theorem Ziy(L:Heap)(keep:Nat→Bool)(sub:AV→Prop)(v:Value):Z1z L keep sub (.lit v)=True:=rfl
theorem Zji(L:Heap)(keep:Nat→Bool)(sub:AV→Bool)(v:Value):Z4n L keep sub (.lit v)=false:=rfl
theorem ZiY(L:Heap)(keep:Nat→Bool)(sub:AV→AV)(vs:List AV):Z1b L keep sub (.tup vs)=.tup vs:=rfl
theorem Zit(L:Heap)(keep:Nat→Bool)(sub:AV→Prop)(vs:List AV):Z1z L keep sub (.tup vs)=True:=rfl
theorem Zjd(L:Heap)(keep:Nat→Bool)(sub:AV→Bool)(vs:List AV):Z4n L keep sub (.tup vs)=false:=rfl
theorem Zl1(L:Heap)(keep:Nat→Bool)(sub:AV→AV)(cs:List AV)(n:Nat):Z1b L keep sub (.sl cs n)=.sl cs n:=rfl
theorem Zkw(L:Heap)(keep:Nat→Bool)(sub:AV→Prop)(cs:List AV)(n:Nat):Z1z L keep sub (.sl cs n)=True:=rfl
theorem Zlc(L:Heap)(keep:Nat→Bool)(sub:AV→Bool)(cs:List AV)(n:Nat):Z4n L keep sub (.sl cs n)=false:=rfl
theorem Zl3(L:Heap)(keep:Nat→Bool)(sub:AV→AV)(cs:List AV):Z1b L keep sub (.ip cs)=.ip cs:=rfl
theorem Zky(L:Heap)(keep:Nat→Bool)(sub:AV→Prop)(cs:List AV):Z1z L keep sub (.ip cs)=True:=rfl
theorem Zle(L:Heap)(keep:Nat→Bool)(sub:AV→Bool)(cs:List AV):Z4n L keep sub (.ip cs)=false:=rfl
theorem ZhJ(L:Heap)(keep:Nat→Bool)(sub:AV→AV)(c:Bool)(x:AV):Z1b L keep sub (.when c x)=.when c x:=rfl
theorem Zhk(L:Heap)(keep:Nat→Bool)(sub:AV→Prop)(c:Bool)(x:AV):Z1z L keep sub (.when c x)=True:=rfl
theorem ZhP(L:Heap)(keep:Nat→Bool)(sub:AV→Bool)(c:Bool)(x:AV):Z4n L keep sub (.when c x)=false:=rfl
theorem Zj8(L:Heap)(keep:Nat→Bool)(sub:AV→AV)(c:Bool)(x y:AV):Z1b L keep sub (.alt c x y)=.alt c x y:=rfl
theorem ZiD(L:Heap)(keep:Nat→Bool)(sub:AV→Prop)(c:Bool)(x y:AV):Z1z L keep sub (.alt c x y)=True:=rfl
theorem Zjn(L:Heap)(keep:Nat→Bool)(sub:AV→Bool)(c:Bool)(x y:AV):Z4n L keep sub (.alt c x y)=false:=rfl
theorem Zl0(L:Heap)(keep:Nat→Bool)(sub:AV→AV)(p q:Prop):Z1b L keep sub (.ub p q)=.ub p q:=rfl
theorem Zkv(L:Heap)(keep:Nat→Bool)(sub:AV→Prop)(p q:Prop):Z1z L keep sub (.ub p q)=True:=rfl
theorem Zlb(L:Heap)(keep:Nat→Bool)(sub:AV→Bool)(p q:Prop):Z4n L keep sub (.ub p q)=false:=rfl
theorem Zl2(L:Heap)(keep:Nat→Bool)(sub:AV→AV)(i:Nat):Z1b L keep sub (.mp i)=cond (keep i) (.mp i) (match L[i]? with | some (.raw (.map kd f))=>.mpr kd f | _=>.mp i):=rfl
theorem Zj2(L:Heap)(keep:Nat→Bool)(sub:AV→AV)(k:Option IntKind)(f:Key→Option Value):Z1b L keep sub (.mpr k f)=.mpr k f:=rfl
theorem Zix(L:Heap)(keep:Nat→Bool)(sub:AV→Prop)(k:Option IntKind)(f:Key→Option Value):Z1z L keep sub (.mpr k f)=True:=rfl
theorem Zjh(L:Heap)(keep:Nat→Bool)(sub:AV→Bool)(k:Option IntKind)(f:Key→Option Value):Z4n L keep sub (.mpr k f)=false:=rfl
theorem Zkx(L:Heap)(keep:Nat→Bool)(sub:AV→Prop)(i:Nat):Z1z L keep sub (.mp i)=True:=rfl
theorem Zld(L:Heap)(keep:Nat→Bool)(sub:AV→Bool)(i:Nat):Z4n L keep sub (.mp i)=!keep i:=rfl
theorem Zj9(L:Heap)(keep:Nat→Bool)(sub:AV→AV)(cs:List AV):Z1b L keep sub (.agg cs)=.agg (cs.map sub):=rfl
theorem ZiE(L:Heap)(keep:Nat→Bool)(sub:AV→Prop)(cs:List AV):Z1z L keep sub (.agg cs)=(∀x∈cs,sub x):=rfl
theorem Zjo(L:Heap)(keep:Nat→Bool)(sub:AV→Bool)(cs:List AV):Z4n L keep sub (.agg cs)=cs.any sub:=rfl
theorem Zj5(L:Heap)(keep:Nat→Bool)(sub:AV→AV)(t:TypeId)(x:AV):Z1b L keep sub (.ifc t x)=.ifc t (sub x):=rfl
theorem ZiA(L:Heap)(keep:Nat→Bool)(sub:AV→Prop)(t:TypeId)(x:AV):Z1z L keep sub (.ifc t x)=sub x:=rfl
theorem Zjk(L:Heap)(keep:Nat→Bool)(sub:AV→Bool)(t:TypeId)(x:AV):Z4n L keep sub (.ifc t x)=sub x:=rfl
theorem Zl4(L:Heap)(keep:Nat→Bool)(sub:AV→AV)(f:Fn)(a b:List AV):Z1b L keep sub (.fn f a b)=.fn f (a.map sub) (b.map sub):=rfl
theorem Zkz(L:Heap)(keep:Nat→Bool)(sub:AV→Prop)(f:Fn)(a b:List AV):Z1z L keep sub (.fn f a b)=((∀x∈a,sub x)∧∀x∈b,sub x):=rfl
theorem Zlf(L:Heap)(keep:Nat→Bool)(sub:AV→Bool)(f:Fn)(a b:List AV):Z4n L keep sub (.fn f a b)=(a.any sub || b.any sub):=rfl
theorem Zj1(L:Heap)(keep:Nat→Bool)(sub:AV→AV)(id ver off n:Nat):Z1b L keep sub (.msl id ver off n)=cond (keep id) (.msl id ver off n) (.sl ((((Z0Q L id).drop (off*Z1S L id)).take (n*Z1S L id)).map sub) n):=rfl
theorem Ziw(L:Heap)(keep:Nat→Bool)(sub:AV→Prop)(id ver off n:Nat):Z1z L keep sub (.msl id ver off n)=cond (keep id) True (Z1q L id ver∧∀x∈((Z0Q L id).drop (off*Z1S L id)).take (n*Z1S L id),sub x):=rfl
theorem Zjg(L:Heap)(keep:Nat→Bool)(sub:AV→Bool)(id ver off n:Nat):Z4n L keep sub (.msl id ver off n)=!keep id:=rfl
theorem Zj6(L:Heap)(keep:Nat→Bool)(sub:AV→AV)(id ver off n:Nat):Z1b L keep sub (.csl id ver off n)=cond (keep id) (.csl id ver off n) (.sl ((((Z0Q L id).drop (off*Z1S L id)).take (n*Z1S L id)).map sub) n):=rfl
theorem ZiB(L:Heap)(keep:Nat→Bool)(sub:AV→Prop)(id ver off n:Nat):Z1z L keep sub (.csl id ver off n)=cond (keep id) True (Z1q L id ver∧∀x∈((Z0Q L id).drop (off*Z1S L id)).take (n*Z1S L id),sub x):=rfl
theorem Zjl(L:Heap)(keep:Nat→Bool)(sub:AV→Bool)(id ver off n:Nat):Z4n L keep sub (.csl id ver off n)=!keep id:=rfl
theorem Zj0(L:Heap)(keep:Nat→Bool)(sub:AV→AV)(id ver off:Nat):Z1b L keep sub (.ref id ver off)=cond (keep id || !isRow L id) (.ref id ver off) (.ip (((Z0Q L id).drop off).map sub)):=rfl
theorem Ziv(L:Heap)(keep:Nat→Bool)(sub:AV→Prop)(id ver off:Nat):Z1z L keep sub (.ref id ver off)=cond (keep id || !isRow L id) True (Z1q L id ver∧∀x∈(Z0Q L id).drop off,sub x):=rfl
theorem Zjf(L:Heap)(keep:Nat→Bool)(sub:AV→Bool)(id ver off:Nat):Z4n L keep sub (.ref id ver off)=!(keep id || !isRow L id):=rfl
theorem Zl8(L:Heap)(k:Nat→Bool)(x:AV):d1 L k x=Z1b L k Z8r x:=rfl
theorem ZkD(L:Heap)(k:Nat→Bool)(x:AV):l1 L k x=Z1z L k Zat x:=rfl
theorem Zlj(L:Heap)(k:Nat→Bool)(x:AV):b1 L k x=Z4n L k Zjb x:=rfl
theorem Zl7(L:Heap)(k:Nat→Bool)(x:AV):d2 L k x=Z1b L k (d1 L k) x:=rfl
theorem ZkC(L:Heap)(k:Nat→Bool)(x:AV):l2 L k x=Z1z L k (l1 L k) x:=rfl
theorem Zli(L:Heap)(k:Nat→Bool)(x:AV):b2 L k x=Z4n L k (b1 L k) x:=rfl
theorem Zl6(L:Heap)(k:Nat→Bool)(x:AV):d3 L k x=Z1b L k (d2 L k) x:=rfl
theorem ZkB(L:Heap)(k:Nat→Bool)(x:AV):l3 L k x=Z1z L k (l2 L k) x:=rfl
theorem Zlh(L:Heap)(k:Nat→Bool)(x:AV):b3 L k x=Z4n L k (b2 L k) x:=rfl
theorem Zl9(x:AV):Z8r x=x:=rfl
theorem ZkE(x:AV):Zat x=True:=rfl
theorem Zlk(x:AV):Zjb x=false:=rfl
theorem Zl5(L:Heap)(x:AV):Z4T L x=Z1b L keep0 (d3 L keep0) x:=rfl
theorem ZkA(L:Heap)(x:AV):lent L x=Z1z L keep0 (l3 L keep0) x:=rfl
theorem Zlg(L:Heap)(x:AV):Zcg L x=Z4n L keep0 (b3 L keep0) x:=rfl
theorem ZkZ(L:Heap)(ids:List Nat)(x:AV):Z49 L ids x=Z1b L (Z3L ids) (d3 L (Z3L ids)) x:=rfl
theorem Zku(L:Heap)(ids:List Nat)(x:AV):ZeZ L ids x=Z1z L (Z3L ids) (l3 L (Z3L ids)) x:=rfl
theorem Zla(L:Heap)(ids:List Nat)(x:AV):Z4q L ids x=Z4n L (Z3L ids) (b3 L (Z3L ids)) x:=rfl
theorem k0_at(i:Nat):keep0 i=false:=rfl
theorem ZkF(ids:List Nat)(i:Nat):Z3L ids i=ids.contains i:=rfl
theorem ZiL(x0 x1 x2 x3 x4 x5 x6 x7:AV)(l:List AV)(n:Nat)(d:AV):(x0::x1::x2::x3::x4::x5::x6::x7::l).getD (n+8) d=l.getD n d:=rfl
theorem ZjJ(x0 x1 x2 x3 x4 x5 x6 x7:AV)(l:List AV)(n:Nat)(d:AV):(x0::x1::x2::x3::x4::x5::x6::x7::l).set (n+8) d=x0::x1::x2::x3::x4::x5::x6::x7::l.set n d:=rfl
attribute [push_cast high] ZiL ZjJ
attribute [push_cast] lkT tyB Zj7 ZiC Zjm Zj4 Ziz Zjj ZhK Zhl ZhQ ZiZ Ziu Zje Zj3 Ziy Zji ZiY Zit Zjd Zl1 Zkw Zlc Zl3 Zky Zle ZhJ Zhk ZhP Zj8 ZiD Zjn Zl0 Zkv Zlb Zkx Zl2 Zld Zj2 Zix Zjh ZeQ Zj9 ZiE Zjo Zj5 ZiA Zjk Zl4 Zkz Zlf Zj1 Ziw Zjg Zj6 ZiB Zjl Zj0 Ziv Zjf Zl8 ZkD Zlj Zl7 ZkC Zli Zl6 ZkB Zlh Zl9 ZkE Zlk Zl5 ZkA Zlg ZkZ Zku Zla k0_at ZkF Z6U Zaj Z6O Z9o Z7C Z4M Z3a Z64 Zar Key.kd exists_eq_left' List.all_cons List.all_nil List.nodup_cons List.nodup_nil Z2H Z12 Z1N Z9T Z8G Z8V Z8T Z5X Z4p Z3V ZdZ Z6D Zh5 ZeU Zh7 Za2 Za4 Z6u Z6w ZfX Z8o eqFs Zfj Zg2 Z3b exU ZdV liftG Z6p Z2D Z84 Z49 Z4q ZeZ evQ Nat.mul_one Nat.one_mul Nat.zero_mul Nat.mul_zero List.length_map List.length_drop List.length_take List.length_append Zff Zcs evD ZbK ZgW Z4F Z5G Z6y ZhY List.contains_nil List.contains_cons List.set_nil Z57 Z0Z scp Z3I Z1k Z2B Z4g ren Z2l Z1C ZhU Z3k Zid ZhV ex Zfi stepA Zhf ZfC Z3E List.any_cons List.any_nil Bool.or_true Z1n ZdI ev opd ofV Z45 Z2t Z0o mkV Z3y Z2T Z5w Z9y AV.cond AV.bare AV.cells ZeV ZeS Zc5 ZeN ZeR ZeX ZeM Zh6 ZeP ZeO Zh8 Zh9 ZeT ZeW Zc4 Zap ZbP Z5Y Zil Zkq ZhZ Zjz Zjt unR ZdD ZhX Z6W Z2K Z8c Z9p Z6l ZjC Z8t Z2Z Z6Z Z2L Z4k Z1P Z6H Z5d ZdB Zjp Z7M Z0B Z3T Z0p Z5e Z7Z nextR Z3s Z3r Z4m Z34 Rz.also bad Z4O Z83 Z0Q Z1S Z1G isRow Z1q Z3M Z2U Z6I Z2m Z0m Z7v Z4f fillA Z8B Z4l List.getD_cons_zero List.getD_cons_succ List.set_cons_zero List.set_cons_succ List.getElem?_cons_zero List.getElem?_cons_succ List.length_cons List.length_nil List.replicate List.cons_append List.nil_append List.append_nil List.map_cons List.map_nil List.toList_toArray Option.bind_some Option.bind_none Option.map_some Option.map_none List.flatten_cons List.flatten_nil List.take_zero List.take_succ_cons List.drop_zero List.drop_succ_cons List.take_nil List.drop_nil List.getElem?_nil List.size_toArray List.getElem?_toArray true_and and_true ne_eq not_true_eq_false not_false_eq_true imp_self implies_true forall_const Bool.false_eq_true Bool.true_eq_false false_implies if_true if_false decide_true decide_false Bool.not_true Bool.not_false Bool.true_and Bool.and_true Bool.false_and Bool.and_false Bool.or_true Bool.true_or Bool.or_false Bool.false_or beq_self_eq_true List.not_mem_nil List.mem_cons or_false forall_eq forall_eq_or_imp List.any_cons List.any_nil beq_true beq_false Option.isSome_some Option.isSome_none Option.some.injEq eq_self TypeDesc.int.injEq exists_eq' exists_eq exists_eq_left and_self Option.isNone_some Option.isNone_none TypeDesc.slice.injEq Nat.add_zero Nat.zero_add Int.toNat_natCast false_or true_or or_self false_and and_false cond_true cond_false Bool.cond_self Z4h Z3J
theorem Z06.sameA{L0:Heap}{fr:List AV}{L:Heap}{fr':List AV}(h:leF fr fr':=by first | exact Z0d _ | (simp only [leF,true_and,and_true,and_self]; done) | (simp [leF]; done))(hs:Z0Z L.length fr'=true:=by (simp only [push_cast,reduceCtorEq,Nat.reduceAdd,Nat.reduceMul,Nat.reduceSub,Nat.reduceBEq,Nat.reduceGT,Nat.reduceLT,Int.toNat_zero,Nat.reduceLeDiff,Int.reduceEq,Int.reduceLT,Int.reduceLE]; done))(ho:L.all (Z2H L.length)=true:=by (simp only [push_cast,reduceCtorEq,Nat.reduceAdd,Nat.reduceMul,Nat.reduceSub,Nat.reduceBEq,Nat.reduceGT,Nat.reduceLT,Int.toNat_zero,Nat.reduceLeDiff,Int.reduceEq,Int.reduceLT,Int.reduceLE]; done))(hn:L0.length≤L.length:=by first | decide | simp):Z06 L0 fr L (fr',L):=Z06.same h hs ho hn
theorem Z06.keep0A{L0:Heap}{fr fr':List AV}{G:Heap}(h:leF fr fr':=by first | exact Z0d _ | (simp only [leF,true_and,and_true,and_self]; done) | (simp [leF]; done))(hs:Z0Z 0 fr'=true:=by (simp only [push_cast,reduceCtorEq,Nat.reduceAdd,Nat.reduceMul,Nat.reduceSub,Nat.reduceBEq,Nat.reduceGT,Nat.reduceLT,Int.toNat_zero,Nat.reduceLeDiff,Int.reduceEq,Int.reduceLT,Int.reduceLE]; done))(ho:([]:Heap).all (Z2H 0)=true:=by first | rfl | (simp only [push_cast,reduceCtorEq,Nat.reduceAdd,Nat.reduceMul,Nat.reduceSub,Nat.reduceBEq,Nat.reduceGT,Nat.reduceLT,Int.toNat_zero,Nat.reduceLeDiff,Int.reduceEq,Int.reduceLT,Int.reduceLE]; done))(hn:L0.length≤0:=by first | decide | simp):Z06 L0 fr (G) (fr',[]):=Z06.keep0 h hs ho hn
theorem Z06.keep1A{L0:Heap}{fr fr':List AV}{G:Heap}{o0:Z0L}(h:leF fr fr':=by first | exact Z0d _ | (simp only [leF,true_and,and_true,and_self]; done) | (simp [leF]; done))(hs:Z0Z 1 fr'=true:=by (simp only [push_cast,reduceCtorEq,Nat.reduceAdd,Nat.reduceMul,Nat.reduceSub,Nat.reduceBEq,Nat.reduceGT,Nat.reduceLT,Int.toNat_zero,Nat.reduceLeDiff,Int.reduceEq,Int.reduceLT,Int.reduceLE]; done))(ho:[o0].all (Z2H 1)=true:=by first | rfl | (simp only [push_cast,reduceCtorEq,Nat.reduceAdd,Nat.reduceMul,Nat.reduceSub,Nat.reduceBEq,Nat.reduceGT,Nat.reduceLT,Int.toNat_zero,Nat.reduceLeDiff,Int.reduceEq,Int.reduceLT,Int.reduceLE]; done))(hn:L0.length≤1:=by first | decide | simp):Z06 L0 fr (o0::G) (fr',[o0]):=Z06.keep1 h hs ho hn
theorem Z06.keep2A{L0:Heap}{fr fr':List AV}{G:Heap}{o0 o1:Z0L}(h:leF fr fr':=by first | exact Z0d _ | (simp only [leF,true_and,and_true,and_self]; done) | (simp [leF]; done))(hs:Z0Z 2 fr'=true:=by (simp only [push_cast,reduceCtorEq,Nat.reduceAdd,Nat.reduceMul,Nat.reduceSub,Nat.reduceBEq,Nat.reduceGT,Nat.reduceLT,Int.toNat_zero,Nat.reduceLeDiff,Int.reduceEq,Int.reduceLT,Int.reduceLE]; done))(ho:[o0,o1].all (Z2H 2)=true:=by first | rfl | (simp only [push_cast,reduceCtorEq,Nat.reduceAdd,Nat.reduceMul,Nat.reduceSub,Nat.reduceBEq,Nat.reduceGT,Nat.reduceLT,Int.toNat_zero,Nat.reduceLeDiff,Int.reduceEq,Int.reduceLT,Int.reduceLE]; done))(hn:L0.length≤2:=by first | decide | simp):Z06 L0 fr (o0::o1::G) (fr',[o0,o1]):=Z06.keep2 h hs ho hn
theorem Z06.keep3A{L0:Heap}{fr fr':List AV}{G:Heap}{o0 o1 o2:Z0L}(h:leF fr fr':=by first | exact Z0d _ | (simp only [leF,true_and,and_true,and_self]; done) | (simp [leF]; done))(hs:Z0Z 3 fr'=true:=by (simp only [push_cast,reduceCtorEq,Nat.reduceAdd,Nat.reduceMul,Nat.reduceSub,Nat.reduceBEq,Nat.reduceGT,Nat.reduceLT,Int.toNat_zero,Nat.reduceLeDiff,Int.reduceEq,Int.reduceLT,Int.reduceLE]; done))(ho:[o0,o1,o2].all (Z2H 3)=true:=by first | rfl | (simp only [push_cast,reduceCtorEq,Nat.reduceAdd,Nat.reduceMul,Nat.reduceSub,Nat.reduceBEq,Nat.reduceGT,Nat.reduceLT,Int.toNat_zero,Nat.reduceLeDiff,Int.reduceEq,Int.reduceLT,Int.reduceLE]; done))(hn:L0.length≤3:=by first | decide | simp):Z06 L0 fr (o0::o1::o2::G) (fr',[o0,o1,o2]):=Z06.keep3 h hs ho hn
theorem Z06.keep4A{L0:Heap}{fr fr':List AV}{G:Heap}{o0 o1 o2 o3:Z0L}(h:leF fr fr':=by first | exact Z0d _ | (simp only [leF,true_and,and_true,and_self]; done) | (simp [leF]; done))(hs:Z0Z 4 fr'=true:=by (simp only [push_cast,reduceCtorEq,Nat.reduceAdd,Nat.reduceMul,Nat.reduceSub,Nat.reduceBEq,Nat.reduceGT,Nat.reduceLT,Int.toNat_zero,Nat.reduceLeDiff,Int.reduceEq,Int.reduceLT,Int.reduceLE]; done))(ho:[o0,o1,o2,o3].all (Z2H 4)=true:=by first | rfl | (simp only [push_cast,reduceCtorEq,Nat.reduceAdd,Nat.reduceMul,Nat.reduceSub,Nat.reduceBEq,Nat.reduceGT,Nat.reduceLT,Int.toNat_zero,Nat.reduceLeDiff,Int.reduceEq,Int.reduceLT,Int.reduceLE]; done))(hn:L0.length≤4:=by first | decide | simp):Z06 L0 fr (o0::o1::o2::o3::G) (fr',[o0,o1,o2,o3]):=Z06.keep4 h hs ho hn
theorem Z06.keep5A{L0:Heap}{fr fr':List AV}{G:Heap}{o0 o1 o2 o3 o4:Z0L}(h:leF fr fr':=by first | exact Z0d _ | (simp only [leF,true_and,and_true,and_self]; done) | (simp [leF]; done))(hs:Z0Z 5 fr'=true:=by (simp only [push_cast,reduceCtorEq,Nat.reduceAdd,Nat.reduceMul,Nat.reduceSub,Nat.reduceBEq,Nat.reduceGT,Nat.reduceLT,Int.toNat_zero,Nat.reduceLeDiff,Int.reduceEq,Int.reduceLT,Int.reduceLE]; done))(ho:[o0,o1,o2,o3,o4].all (Z2H 5)=true:=by first | rfl | (simp only [push_cast,reduceCtorEq,Nat.reduceAdd,Nat.reduceMul,Nat.reduceSub,Nat.reduceBEq,Nat.reduceGT,Nat.reduceLT,Int.toNat_zero,Nat.reduceLeDiff,Int.reduceEq,Int.reduceLT,Int.reduceLE]; done))(hn:L0.length≤5:=by first | decide | simp):Z06 L0 fr (o0::o1::o2::o3::o4::G) (fr',[o0,o1,o2,o3,o4]):=Z06.keep5 h hs ho hn
end Go.Eng