/- The engine, part 21: contracts for functions that turn all that their arguments lead to: own rows, objects and maps, as deep as they go. -/
import Derived.Test.YtmomhjmaanagaaaGreatEng20
set_option linter.unusedVariables false
set_option linter.unusedSimpArgs false
namespace Go.Eng
open Go
mutual
def Z53:AV→List Nat
 | .ref id _ _=>[id]
 | .msl id _ _ _=>[id]
 | .csl id _ _ _=>[id]
 | .mp id=>[id]
 | .fn _ a b=>Z32 a++Z32 b
 | .agg cs=>Z32 cs
 | .tup cs=>Z32 cs
 | .ifc _ x=>Z53 x
 | _=>[]
def Z32:List AV→List Nat
 | []=>[]
 | x::xs=>Z53 x++Z32 xs
end
def Z1j(L:Heap)(id:Nat):List Nat:=match L[id]? with
 | some (.row cs _ _)=>Z32 cs
 | _=>[]
def Z0U(L:Heap):Nat→List Nat→List Nat→List Nat
 | 0,is,_=>is
 | _+1,is,[]=>is
 | n+1,is,q::qs=>Z0U L n (Z13 is (Z1j L q)) (qs++Z2f is (Z1j L q))
def Z6L(xs:List AV)(L:Heap):List Nat:=Z0U L 16 (Z13 [] (Z32 xs)) (Z13 [] (Z32 xs))
theorem ZbC(xs:List AV)(L:Heap):Z6L xs L=Z0U L 16 (Z13 [] (Z32 xs)) (Z13 [] (Z32 xs)):=rfl
theorem Z8X(L:Heap)(n:Nat)(is:List Nat):Z0U L n is []=is:=by cases n <;> rfl
theorem Zab(L:Heap)(is qs:List Nat)(q:Nat):Z0U L 16 is (q::qs)=Z0U L 15 (Z13 is (Z1j L q)) (qs++Z2f is (Z1j L q)):=rfl
theorem Zac(L:Heap)(is qs:List Nat)(q:Nat):Z0U L 15 is (q::qs)=Z0U L 14 (Z13 is (Z1j L q)) (qs++Z2f is (Z1j L q)):=rfl
theorem Zad(L:Heap)(is qs:List Nat)(q:Nat):Z0U L 14 is (q::qs)=Z0U L 13 (Z13 is (Z1j L q)) (qs++Z2f is (Z1j L q)):=rfl
theorem Zae(L:Heap)(is qs:List Nat)(q:Nat):Z0U L 13 is (q::qs)=Z0U L 12 (Z13 is (Z1j L q)) (qs++Z2f is (Z1j L q)):=rfl
theorem Zaf(L:Heap)(is qs:List Nat)(q:Nat):Z0U L 12 is (q::qs)=Z0U L 11 (Z13 is (Z1j L q)) (qs++Z2f is (Z1j L q)):=rfl
theorem Zag(L:Heap)(is qs:List Nat)(q:Nat):Z0U L 11 is (q::qs)=Z0U L 10 (Z13 is (Z1j L q)) (qs++Z2f is (Z1j L q)):=rfl
theorem Zah(L:Heap)(is qs:List Nat)(q:Nat):Z0U L 10 is (q::qs)=Z0U L 9 (Z13 is (Z1j L q)) (qs++Z2f is (Z1j L q)):=rfl
theorem ZbD(L:Heap)(is qs:List Nat)(q:Nat):Z0U L 9 is (q::qs)=Z0U L 8 (Z13 is (Z1j L q)) (qs++Z2f is (Z1j L q)):=rfl
theorem ZbE(L:Heap)(is qs:List Nat)(q:Nat):Z0U L 8 is (q::qs)=Z0U L 7 (Z13 is (Z1j L q)) (qs++Z2f is (Z1j L q)):=rfl
theorem ZbF(L:Heap)(is qs:List Nat)(q:Nat):Z0U L 7 is (q::qs)=Z0U L 6 (Z13 is (Z1j L q)) (qs++Z2f is (Z1j L q)):=rfl
theorem ZbG(L:Heap)(is qs:List Nat)(q:Nat):Z0U L 6 is (q::qs)=Z0U L 5 (Z13 is (Z1j L q)) (qs++Z2f is (Z1j L q)):=rfl
theorem ZbH(L:Heap)(is qs:List Nat)(q:Nat):Z0U L 5 is (q::qs)=Z0U L 4 (Z13 is (Z1j L q)) (qs++Z2f is (Z1j L q)):=rfl
theorem ZbI(L:Heap)(is qs:List Nat)(q:Nat):Z0U L 4 is (q::qs)=Z0U L 3 (Z13 is (Z1j L q)) (qs++Z2f is (Z1j L q)):=rfl
theorem ZbJ(L:Heap)(is qs:List Nat)(q:Nat):Z0U L 3 is (q::qs)=Z0U L 2 (Z13 is (Z1j L q)) (qs++Z2f is (Z1j L q)):=rfl
theorem Zbv(id v o:Nat):Z53 (.ref id v o)=[id]:=rfl
theorem Zbw(a b c d:Nat):Z53 (.msl a b c d)=[a]:=rfl
theorem ZbA(a b c d:Nat):Z53 (.csl a b c d)=[a]:=rfl
theorem Zen(id:Nat):Z53 (.mp id)=[id]:=rfl
theorem Zbz(k:IntKind)(n:Int):Z53 (.int k n)=[]:=rfl
theorem Zbu(l:List UInt8):Z53 (.str l)=[]:=rfl
theorem Za8(b:Bool):Z53 (.bool b)=[]:=rfl
theorem Zby(v:Value):Z53 (.lit v)=[]:=rfl
theorem ZbB:Z53 .any=[]:=rfl
theorem Zbx(k:Option IntKind)(f:Key→Option Value):Z53 (.mpr k f)=[]:=rfl
theorem Za9:Z32 []=[]:=rfl
theorem Z8W(x:AV)(xs:List AV):Z32 (x::xs)=Z53 x++Z32 xs:=by simp only [Z32]
section
variable {α:Type} {f:α→AV} {g:α→List AV}
end
attribute [push_cast] ZbC Z8X Zab Zac Zad Zae Zaf Zag Zah ZbD ZbE ZbF ZbG ZbH ZbI ZbJ Zbv Zbw ZbA Zen Zbz Zbu Za8 Zby ZbB Zbx Za9 Z8W Z1j
noncomputable def Zhs{α:Type}(e:α→List AV×Heap)(p:α→Prop)(r:α→AV)(h:α→Heap):Z0n:=liftH {
 ids:=Z6L
 args:=fun xs L=>Z2l (fun j=>Zg0 (Z6L xs L) j) (xs.map (Z49 L (Z6L xs L)))
 start:=fun xs L=>(Z6L xs L).map fun i=>Z1C (fun j=>Zg0 (Z6L xs L) j) (L.getD i .dead)
 pre:=fun xs L=>Z1p e p (xs,L)
 res:=fun xs L=>Z0A e r .any (xs,L)
 post:=fun xs L=>Z0A e h [] (xs,L) }
attribute [push_cast] Zhs
theorem Zck{P:Program}{Γ:Env}(hΓ:Z07 P Γ){f:FuncId}{fn:Func}(hf:P.funcs[f]?=some fn)(hb:fn.body.isNone=false) (hn:(fn.name == "runtime.NumGoroutine")=false) {α:Type} {e:α→List AV×Heap} {p:α→Prop} {r:α→AV} {h:α→Heap}
  (hi:∀a b,e a=e b→a=b) (hh:∀a,p a→Z0a P Γ fn (e a).1 (e a).2 (r a) (h a)):Con P f (Zhs e p r h):=by
 refine Con.liftH_of_body hΓ hf hb hn fun xs L hx=>?_
 obtain⟨a,ha,hp⟩:=hx
 simp only
 rw [ha,Z09 hi,Z09 hi]
 have h1:xs=(e a).1:=by rw [←ha]
 have h2:L=(e a).2:=by rw [←ha]
 rw [h1,h2]
 exact hh a hp
theorem Z5j:∀xs ys:List AV,Z1T (xs++ys)=Z1T xs++Z1T ys
 | [],ys=>by simp only [Z1T,List.nil_append]
 | x::xs,ys=>by simp only [List.cons_append,Z1T,Z5j xs ys]
theorem Z7T:∀n:Nat,Z1T (List.replicate n .any)=List.replicate n .any
 | 0=>by simp only [List.replicate_zero,Z1T]
 | n+1=>by simp only [List.replicate_succ,Z1T,Z7T n,Z3D]
theorem Z0a.soft{P:Program}{Γ:Env}{fn:Func}{xs:List AV}{L L':Heap}{res:AV}(h:Z0a P Γ fn (Z1T xs) L res L'):Z0a P Γ fn xs L res L':=by
 intro X h1 h2 h3 h4
 obtain⟨c,hc,hh⟩:=h X h1 h2 h3 h4
 have e:Z7v (Z1T xs) fn.ntmps=Z1T (Z7v xs fn.ntmps):=by
  simp only [Z7v,Z5j,Z7T,Z5i]
 rw [e] at hh
 exact⟨c,hc,Holds.weak (S:=(Z1T (Z7v xs fn.ntmps),L)) (.soft (.refl (Z1T (Z7v xs fn.ntmps),L))) hh⟩
theorem Holds.frz{X:Cx}{k:List It}{fr:List AV}{L:Heap}(id:Nat)(hn:X.B.L.length≤id)(hok:Z15 L id)(h:Holds X k (Z5G L id fr) (Z6y L id)):Holds X k fr L:=
 Holds.weak (S:=(Z5G L id fr,Z6y L id)) (.frz id hn hok (.refl (Z5G L id fr,Z6y L id))) h
theorem Holds.soft{X:Cx}{k:List It}{fr:List AV}{L:Heap}(h:Holds X k (Z1T fr) L):Holds X k fr L:=
 Holds.weak (S:=(Z1T fr,L)) (.soft (.refl (Z1T fr,L))) h
end Go.Eng