/- Parts of the walk through directories. Conditions stand in each. -/
import Derived.Test.YtbnnhffkbcekcaaGreatDoorFd
import Derived.RowKit2
set_option linter.unusedVariables false
set_option linter.unusedSimpArgs false
section
namespace Go.Eng
open Go
def ZmM(ws:List Nat)(fr:List AV):List AV:=ws.foldl (fun f i=>f.set i .any) fr
def Zg7(us:List (Nat×AV))(fr:List AV):List AV:=us.foldl (fun f p=>f.set p.1 p.2) fr
theorem Zg4(fr:List AV):ZmM [] fr=fr:=rfl
theorem Zc5(i:Nat)(ws:List Nat)(fr:List AV):ZmM (i::ws) fr=ZmM ws (fr.set i .any):=rfl
theorem Zg6(fr:List AV):Zg7 [] fr=fr:=rfl
theorem Zc8(p:Nat×AV)(us:List (Nat×AV))(fr:List AV):Zg7 (p::us) fr=Zg7 us (fr.set p.1 p.2):=rfl
def Z5l:List Bool→List AV→List AV
 | true::bs,x::xs=>x::Z5l bs xs
 | false::bs,_::xs=>.any::Z5l bs xs
 | _,_=>[]
theorem Zjc(bs:List Bool)(x:AV)(xs:List AV):Z5l (true::bs) (x::xs)=x::Z5l bs xs:=rfl
theorem Zjd(bs:List Bool)(x:AV)(xs:List AV):Z5l (false::bs) (x::xs)=.any::Z5l bs xs:=rfl
theorem ZdL:Z5l [] []=[]:=rfl
theorem Z02.loopM{X:Cx}{b:Code}{k:List It}{fr:List AV}{L:Z01}{ι:Type}(ms:List Bool)(us:ι→List (Nat×AV))(Lf:ι→Z01)(μ:ι→Nat)(i0:ι)
  (h0:Z06 X.B.L fr L (Zg7 (us i0) (Z5l ms fr),Lf i0))
  (h:∀i,Z02 X (.code b::.chk (fun fr' L'=>∃j,μ j<μ i∧Z06 X.B.L fr' L' (Zg7 (us j) (Z5l ms fr),Lf j))::k) (Zg7 (us i) (Z5l ms fr)) (Lf i)):Z02 X (.code (.loop b)::k) fr L:=
 Z02.loop (fun i=>(Zg7 (us i) (Z5l ms fr),Lf i)) μ i0 h0 h
mutual
def Z0s:AV→Bool
 | .agg cs=>Z1G cs
 | .tup cs=>Z1G cs
 | .sl cs _=>Z1G cs
 | .ip cs=>Z1G cs
 | .fn _ a b=>Z1G a && Z1G b
 | .ifc _ x=>Z0s x
 | .int ..=>true
 | .bool _=>true
 | .str _=>true
 | .lit _=>true
 | .mpr ..=>true
 | _=>false
def Z1G:List AV→Bool
 | []=>true
 | x::xs=>Z0s x && Z1G xs
end
theorem Z3R:∀xs:List AV,Z1G xs=xs.all Z0s
 | []=>rfl
 | x::xs=>by simp only [Z1G,List.all_cons,Z3R xs]
mutual
theorem ZaC(n:Nat):∀x:AV,Z0s x=true→scp n x=true
 | .agg cs,h=>by simp only [Z0s,scp] at *; exact Z0Y n cs h
 | .tup cs,h=>by simp only [Z0s,scp] at *; exact Z0Y n cs h
 | .sl cs _,h=>by simp only [Z0s,scp] at *; exact Z0Y n cs h
 | .ip cs,h=>by simp only [Z0s,scp] at *; exact Z0Y n cs h
 | .fn _ a b,h=>by simp only [Z0s,scp,Bool.and_eq_true] at *; exact⟨Z0Y n a h.1,Z0Y n b h.2⟩
 | .ifc _ x,h=>by simp only [Z0s,scp] at *; exact ZaC n x h
 | .int ..,_=>rfl
 | .bool _,_=>rfl
 | .str _,_=>rfl
 | .lit _,_=>rfl
 | .mpr ..,_=>rfl
 | .any,h=>by simp [Z0s] at h
 | .msl ..,h=>by simp [Z0s] at h
 | .ref ..,h=>by simp [Z0s] at h
 | .when ..,h=>by simp [Z0s] at h
 | .alt ..,h=>by simp [Z0s] at h
 | .ub ..,h=>by simp [Z0s] at h
 | .csl ..,h=>by simp [Z0s] at h
 | .mp ..,h=>by simp [Z0s] at h
theorem Z0Y(n:Nat):∀xs:List AV,Z1G xs=true→Z1z n xs=true
 | [],_=>rfl
 | x::xs,h=>by simp only [Z1G,Z1z,Bool.and_eq_true] at *; exact⟨ZaC n x h.1,Z0Y n xs h.2⟩
end
mutual
theorem ZaD(ρ:Nat→Nat):∀x:AV,Z0s x=true→ren ρ x=x
 | .agg cs,h=>by simp only [Z0s,ren] at *; rw [Z1F ρ cs h]
 | .tup cs,h=>by simp only [Z0s,ren] at *; rw [Z1F ρ cs h]
 | .sl cs _,h=>by simp only [Z0s,ren] at *; rw [Z1F ρ cs h]
 | .ip cs,h=>by simp only [Z0s,ren] at *; rw [Z1F ρ cs h]
 | .fn _ a b,h=>by simp only [Z0s,ren,Bool.and_eq_true] at *; rw [Z1F ρ a h.1,Z1F ρ b h.2]
 | .ifc _ x,h=>by simp only [Z0s,ren] at *; rw [ZaD ρ x h]
 | .int ..,_=>rfl
 | .bool _,_=>rfl
 | .str _,_=>rfl
 | .lit _,_=>rfl
 | .mpr ..,_=>rfl
 | .any,h=>by simp [Z0s] at h
 | .msl ..,h=>by simp [Z0s] at h
 | .ref ..,h=>by simp [Z0s] at h
 | .when ..,h=>by simp [Z0s] at h
 | .alt ..,h=>by simp [Z0s] at h
 | .ub ..,h=>by simp [Z0s] at h
 | .csl ..,h=>by simp [Z0s] at h
 | .mp ..,h=>by simp [Z0s] at h
theorem Z1F(ρ:Nat→Nat):∀xs:List AV,Z1G xs=true→renL ρ xs=xs
 | [],_=>rfl
 | x::xs,h=>by simp only [Z1G,renL,Bool.and_eq_true] at *; rw [ZaD ρ x h.1,Z1F ρ xs h.2]
end
mutual
theorem ZaB(L:Z01)(id v:Nat):∀x:AV,Z0s x=true→Z4F L id v x=x
 | .agg cs,h=>by simp only [Z0s,Z4F] at *; rw [Z2b L id v cs h]
 | .tup cs,h=>by simp only [Z0s,Z4F] at *; rw [Z2b L id v cs h]
 | .sl cs _,h=>by simp only [Z0s,Z4F] at *; rw [Z0Y 0 cs h]; rfl
 | .ip cs,h=>by simp only [Z0s,Z4F] at *; rw [Z0Y 0 cs h]; rfl
 | .fn _ a b,h=>by simp only [Z0s,Z4F,Bool.and_eq_true] at *; rw [Z2b L id v a h.1,Z2b L id v b h.2]
 | .ifc _ x,h=>by simp only [Z0s,Z4F] at *; rw [ZaB L id v x h]
 | .int ..,_=>rfl
 | .bool _,_=>rfl
 | .str _,_=>rfl
 | .lit _,_=>rfl
 | .mpr ..,_=>rfl
 | .any,h=>by simp [Z0s] at h
 | .msl ..,h=>by simp [Z0s] at h
 | .ref ..,h=>by simp [Z0s] at h
 | .when ..,h=>by simp [Z0s] at h
 | .alt ..,h=>by simp [Z0s] at h
 | .ub ..,h=>by simp [Z0s] at h
 | .csl ..,h=>by simp [Z0s] at h
 | .mp ..,h=>by simp [Z0s] at h
theorem Z2b(L:Z01)(id v:Nat):∀xs:List AV,Z1G xs=true→Z5a L id v xs=xs
 | [],_=>rfl
 | x::xs,h=>by simp only [Z1G,Z5a,Bool.and_eq_true] at *; rw [ZaB L id v x h.1,Z2b L id v xs h.2]
end
mutual
theorem ZaE(L:Z01)(id:Nat):∀x:AV,Z0s x=true→Z4G L id x=x
 | .agg cs,h=>by simp only [Z0s,Z4G] at *; rw [Z3k L id cs h]
 | .tup cs,h=>by simp only [Z0s,Z4G] at *; rw [Z3k L id cs h]
 | .sl cs _,h=>by simp only [Z0s,Z4G] at *; rw [Z0Y 0 cs h]; rfl
 | .ip cs,h=>by simp only [Z0s,Z4G] at *; rw [Z0Y 0 cs h]; rfl
 | .fn _ a b,h=>by simp only [Z0s,Z4G,Bool.and_eq_true] at *; rw [Z0Y 0 a h.1,Z0Y 0 b h.2]; rfl
 | .ifc _ x,h=>by simp only [Z0s,Z4G] at *; rw [ZaE L id x h]
 | .int ..,_=>rfl
 | .bool _,_=>rfl
 | .str _,_=>rfl
 | .lit _,_=>rfl
 | .mpr ..,_=>rfl
 | .any,h=>by simp [Z0s] at h
 | .msl ..,h=>by simp [Z0s] at h
 | .ref ..,h=>by simp [Z0s] at h
 | .when ..,h=>by simp [Z0s] at h
 | .alt ..,h=>by simp [Z0s] at h
 | .ub ..,h=>by simp [Z0s] at h
 | .csl ..,h=>by simp [Z0s] at h
 | .mp ..,h=>by simp [Z0s] at h
theorem Z3k(L:Z01)(id:Nat):∀xs:List AV,Z1G xs=true→Z4H L id xs=xs
 | [],_=>rfl
 | x::xs,h=>by simp only [Z1G,Z4H,Bool.and_eq_true] at *; rw [ZaE L id x h.1,Z3k L id xs h.2]
end
def Z2V(L:Z01)(sub:AV→AV)(sl:AV→Prop)(sb:AV→Bool):Prop:=∀x,Z0s x=true→sub x=x∧sl x∧sb x=false
theorem Z2V.zero(L:Z01):Z2V L Z7j ZdS Zmd:=fun x _=>⟨rfl,trivial,rfl⟩
theorem Z2V.list{L:Z01}{sub:AV→AV}{sl:AV→Prop}{sb:AV→Bool}(H:Z2V L sub sl sb){xs:List AV}(h:Z1G xs=true):xs.map sub=xs∧(∀x∈xs,sl x)∧xs.any sb=false:=by
 rw [Z3R,List.all_eq_true] at h
 refine⟨?_,fun x hx=>(H x (h x hx)).2.1,?_⟩
 ·conv=>rhs; rw [←List.map_id xs]
  exact List.map_congr_left fun x hx=>(H x (h x hx)).1
 ·rw [List.any_eq_false]; intro x hx; rw [(H x (h x hx)).2.2]; simp
theorem Z2V.succ{L:Z01}{keep:Nat→Bool}{sub:AV→AV}{sl:AV→Prop}{sb:AV→Bool}(H:Z2V L sub sl sb):Z2V L (Z0X L keep sub) (Z1n L keep sl) (Z40 L keep sb):=by
 intro x hx
 cases x <;> simp only [Z0s,Z0X,Z1n,Z40,Bool.and_eq_true,Bool.false_eq_true] at * <;> try exact⟨trivial,trivial,trivial⟩
 case agg cs=>obtain⟨h1,h2,h3⟩:=H.list hx; exact⟨by rw [h1],h2,h3⟩
 case ifc t x=>obtain⟨h1,h2,h3⟩:=H x hx; exact⟨by rw [h1],h2,h3⟩
 case fn f a b=>
  obtain⟨h1,h2,h3⟩:=H.list hx.1
  obtain⟨k1,k2,k3⟩:=H.list hx.2
  exact⟨by rw [h1,k1],⟨h2,k2⟩,by rw [h3,k3]; rfl⟩
theorem Z2V.d1(L:Z01)(k:Nat→Bool):Z2V L (d1 L k) (l1 L k) (b1 L k):=(Z2V.zero L).succ
theorem Z2V.d2(L:Z01)(k:Nat→Bool):Z2V L (d2 L k) (l2 L k) (b2 L k):=(Z2V.d1 L k).succ
theorem Z2V.d3(L:Z01)(k:Nat→Bool):Z2V L (d3 L k) (l3 L k) (b3 L k):=(Z2V.d2 L k).succ
theorem Z2V.d4(L:Z01)(k:Nat→Bool):Z2V L (Z0X L k (Eng.d3 L k)) (Z1n L k (l3 L k)) (Z40 L k (b3 L k)):=(Z2V.d3 L k).succ
class Z42{α:Type}(f:α→AV):Prop where
 pure:∀x,Z0s (f x)=true
 one:∀x,Z0b [f x]=true
class Z1U{α:Type}(g:α→List AV):Prop where
 pure:∀x,Z1G (g x)=true
 one:∀x,Z0b (g x)=true
class ZbY{α:Type}(f:α→AV):Prop where
 flat:∀x,flat (f x)=true
instance:Z42 AV.str:=⟨fun _=>rfl,fun _=>rfl⟩
instance:Z42 AV.bool:=⟨fun _=>rfl,fun _=>rfl⟩
instance (k:IntKind):Z42 (AV.int k):=⟨fun _=>rfl,fun _=>rfl⟩
instance:Z42 Z05:=⟨fun _=>rfl,fun _=>rfl⟩
instance:ZbY AV.str:=⟨fun _=>rfl⟩
instance:ZbY AV.bool:=⟨fun _=>rfl⟩
instance (k:IntKind):ZbY (AV.int k):=⟨fun _=>rfl⟩
instance:ZbY Z05:=⟨fun _=>rfl⟩
section
variable {α:Type} {f:α→AV} {g:α→List AV}
theorem Z1Z:∀xs ys:List AV,Z0b xs=true→Z0b ys=true→Z0b (xs++ys)=true
 | [],ys,_,h=>h
 | x::xs,ys,h1,h2=>by
  cases x <;> simp only [Z0b,List.cons_append,Bool.and_eq_true,Bool.false_eq_true] at * <;> first | exact Z1Z xs ys h1 h2 | exact⟨h1.1,Z1Z xs ys h1.2 h2⟩
theorem Z1a[Z42 f](xs:List α):Z1G (xs.map f)=true:=by rw [Z3R]; simp [Z42.pure]
theorem Z28[Z1U g](xs:List α):Z1G (xs.flatMap g)=true:=by
 rw [Z3R,List.all_eq_true]; intro x hx
 obtain⟨a,_,ha⟩:=List.mem_flatMap.1 hx
 have:=Z1U.pure (g:=g) a
 rw [Z3R,List.all_eq_true] at this
 exact this x ha
theorem Zgj[Z42 f](n:Nat)(xs:List α):Z1z n (xs.map f)=true:=Z0Y n _ (Z1a xs)
theorem Zgq[Z42 f](ρ:Nat→Nat)(xs:List α):renL ρ (xs.map f)=xs.map f:=Z1F ρ _ (Z1a xs)
theorem Zg5[Z42 f](L:Z01)(id v:Nat)(xs:List α):Z5a L id v (xs.map f)=xs.map f:=Z2b L id v _ (Z1a xs)
theorem Zhu[Z42 f](L:Z01)(id:Nat)(xs:List α):Z4H L id (xs.map f)=xs.map f:=Z3k L id _ (Z1a xs)
theorem Z4y[Z42 f]:∀xs:List α,Z0b (xs.map f)=true
 | []=>rfl
 | x::xs=>by
  have h1:=Z42.one (f:=f) x
  exact Z1Z [f x] (xs.map f) h1 (Z4y xs)
theorem Zma[Z42 f](L:Z01)(k:Nat→Bool)(xs:List α):(xs.map f).map (d3 L k)=xs.map f:=((Z2V.d3 L k).list (Z1a xs)).1
theorem ZoV[Z1U g](L:Z01)(k:Nat→Bool)(xs:List α):(xs.flatMap g).map (d3 L k)=xs.flatMap g:=((Z2V.d3 L k).list (Z28 xs)).1
theorem Zlf[Z42 f](L:Z01)(k:Nat→Bool)(xs:List α):(∀y∈xs.map f,Z1n L k (l2 L k) y)=True:=eq_true ((Z2V.d3 L k).list (Z1a xs)).2.1
theorem ZnZ[Z1U g](L:Z01)(k:Nat→Bool)(xs:List α):(∀y∈xs.flatMap g,Z1n L k (l2 L k) y)=True:=eq_true ((Z2V.d3 L k).list (Z28 xs)).2.1
theorem ZiO[Z1U g](n:Nat)(xs:List α):Z1z n (xs.flatMap g)=true:=Z0Y n _ (Z28 xs)
theorem ZiW[Z1U g](ρ:Nat→Nat)(xs:List α):renL ρ (xs.flatMap g)=xs.flatMap g:=Z1F ρ _ (Z28 xs)
theorem ZiI[Z1U g](L:Z01)(id v:Nat)(xs:List α):Z5a L id v (xs.flatMap g)=xs.flatMap g:=Z2b L id v _ (Z28 xs)
theorem Zjy[Z1U g](L:Z01)(id:Nat)(xs:List α):Z4H L id (xs.flatMap g)=xs.flatMap g:=Z3k L id _ (Z28 xs)
theorem Z2L[Z1U g]:∀xs:List α,Z0b (xs.flatMap g)=true
 | []=>rfl
 | x::xs=>by rw [List.flatMap_cons]; exact Z1Z (g x) _ (Z1U.one x) (Z2L xs)
theorem Zkw[Z1U g](n:Nat)(x:α):Z1z n (g x)=true:=Z0Y n _ (Z1U.pure x)
theorem ZkI[Z1U g](ρ:Nat→Nat)(x:α):renL ρ (g x)=g x:=Z1F ρ _ (Z1U.pure x)
theorem Zkr[Z1U g](L:Z01)(id v:Nat)(x:α):Z5a L id v (g x)=g x:=Z2b L id v _ (Z1U.pure x)
theorem ZlN[Z1U g](L:Z01)(id:Nat)(x:α):Z4H L id (g x)=g x:=Z3k L id _ (Z1U.pure x)
theorem ZnY[Z1U g](x:α):Z0b (g x)=true:=Z1U.one x
theorem Z8y[ZbY f](xs:List α):Z0S (xs.map f)=true:=Z8R (by simp [ZbY.flat])
end
theorem ZbO(xs:List AV)(n j:Nat)(d:AV):(xs.drop n).getD j d=xs.getD (n+j) d:=by simp [List.getD]
class Z22{α:Type}(g:α→List AV)(n:outParam Nat):Prop where
 len:∀x,(g x).length=n
theorem Zjx{k:IntKind}(xs:List Int)(i:Nat):(xs.map (AV.int k)).getD i (.int k 0)=.int k (xs.getD i default):=by
 by_cases h:i<xs.length <;> simp [List.getD,h]
theorem Zjw(xs:List UInt8)(i:Nat):(xs.map Z05).getD i (.int .u8 0)=.int .u8 (xs.getD i 0).toNat:=by
 by_cases h:i<xs.length <;> simp [List.getD,h,Z05]
theorem Zji{α:Type}{g:α→List AV}{n:Nat}[Z22 g n](x:α):(g x).length=n:=Z22.len x
theorem Zks{α:Type}{g:α→List AV}{n:Nat}[Z22 g n](x:α):(g x).take n=g x:=List.take_of_length_le (by rw [Zji (g:=g) x]; exact Nat.le_refl _)
theorem ZlV{α:Type}{g:α→List AV}{n:Nat}[Z22 g n](x:α):(g x).drop n=[]:=List.drop_eq_nil_of_le (by rw [Zji (g:=g) x]; exact Nat.le_refl _)
theorem Z2d{α:Type}{g:α→List AV}{n:Nat}[Z22 g n](xs:List α):(xs.flatMap g).length=xs.length*n:=by
 induction xs with
 | nil=>simp
 | cons x xs ih=>rw [List.flatMap_cons,List.length_append,ih,Z22.len (g:=g) x,List.length_cons,Nat.succ_mul]; omega
theorem Z1d{α:Type}{g:α→List AV}{n:Nat}[Z22 g n](xs:List α)(i:Nat):(xs.flatMap g).drop (i*n)=(xs.drop i).flatMap g:=by
 induction xs generalizing i with
 | nil=>simp
 | cons x xs ih=>
  cases i with
  | zero=>simp
  | succ i=>
   rw [List.flatMap_cons,Nat.succ_mul,Nat.add_comm,List.drop_succ_cons,←ih i,←Z22.len (g:=g) x,List.drop_append,List.drop_eq_nil_of_le (by omega)]
   simp
theorem Z1W{α:Type}{g:α→List AV}{n:Nat}[Z22 g n](xs:List α)(i:Nat):(xs.flatMap g).take (i*n)=(xs.take i).flatMap g:=by
 induction xs generalizing i with
 | nil=>simp
 | cons x xs ih=>
  cases i with
  | zero=>simp
  | succ i=>
   have hx:=Z22.len (g:=g) x
   rw [List.flatMap_cons,Nat.succ_mul,List.take_succ_cons,List.flatMap_cons,←ih i,List.take_append,List.take_of_length_le (by omega)]
   congr 2; omega
theorem ZfB{α:Type}{xs:List α}{i:Nat}(h:i<xs.length)(d:α):xs.drop i=xs.getD i d::xs.drop (i+1):=by
 rw [List.drop_eq_getElem_cons h]; simp [List.getD,h]
theorem Zjs{α:Type}{g:α→List AV}{n:Nat}[Z22 g n](xs:List α)(i:Nat)(h:i<xs.length)(d:α):((xs.flatMap g).drop (i*n)).take n=g (xs.getD i d):=by
 rw [Z1d,ZfB h d,List.flatMap_cons]
 have hx:=Z22.len (g:=g) (xs.getD i d)
 rw [List.take_append,List.take_of_length_le (by omega),hx,Nat.sub_self,List.take_zero,List.append_nil]
attribute [push_cast] Zjc Zjd ZdL Zg4 Zc5 Zg6 Zc8 Z1a Z28 Zgj Zgq Zg5 Zhu Z4y Zma ZoV ZiO ZiW ZiI Zjy Z2L Zkw ZkI Zkr ZlN ZnY Z8y ZbO Zlf ZnZ Z2d Zji Zks ZlV Zjx Zjw
theorem Z0t(n:Int)(h:-9223372036854775808≤n∧n≤9223372036854775807):IntKind.i64.wrap n=n:=IntWalk.i64_in n h
theorem Z3z{α:Type}[Inhabited α]{g:α→List AV}{n:Nat}[Z22 g n](xs:List α)(i:Nat)(h:i<xs.length):((xs.flatMap g).drop (i*n)).take n=g (xs.getD i default):=Zjs xs i h default
theorem Z3C{α:Type}[Inhabited α]{g:α→List AV}{n:Nat}[Z22 g n](xs:List α)(i j:Nat)(d:AV)(h:i<xs.length)(hj:j<n):(xs.flatMap g).getD (i*n+j) d=(g (xs.getD i default)).getD j d:=by
 have hx:=Z22.len (g:=g) (xs.getD i default)
 have e:(xs.flatMap g).getD (i*n+j) d=((xs.flatMap g).drop (i*n)).getD j d:=by simp [List.getD]
 rw [e,Z1d,ZfB h default,List.flatMap_cons]
 simp only [List.getD]
 rw [List.getElem?_append_left (by simp only [List.getD] at hx; omega)]
theorem Z4e{α:Type}[Inhabited α]{g:α→List AV}{n:Nat}[Z22 g n](xs:List α)(i:Nat)(d:AV)(h:i<xs.length)(hj:0<n):(xs.flatMap g).getD (i*n) d=(g (xs.getD i default)).getD 0 d:=Z3C xs i 0 d h hj
theorem Zbh(a:Nat):((a:Int)+1).toNat=a+1:=by omega
section
variable {α β:Type}
def Z5P(e:α→List AV)(p:α→Prop)(xs:List AV):Prop:=∃a,xs=e a∧p a
open Classical in
noncomputable def Z2s(e:α→List AV)(r:α→β)(d:β)(xs:List AV):β:=if h:∃a,xs=e a then r h.choose else d
theorem Z13{e:α→List AV}(hi:∀a b,e a=e b→a=b)(p:α→Prop)(a:α):Z5P e p (e a)=p a:=
 propext ⟨fun ⟨b,h1,h2⟩=>by rw [hi _ _ h1]; exact h2,fun h=>⟨a,rfl,h⟩⟩
theorem Z0u{e:α→List AV}(hi:∀a b,e a=e b→a=b)(r:α→β)(d:β)(a:α):Z2s e r d (e a)=r a:=by
 have h:∃b,e a=e b:=⟨a,rfl⟩
 unfold Z2s
 rw [dif_pos h,←hi _ _ h.choose_spec]
noncomputable def Z5S(e:α→List AV)(p:α→Prop)(r:α→AV)(h:α→Z01)(q:Bool):Z0n:=Z6k (Z5P e p) (Z2s e r .any) (Z2s e h []) q
theorem Z0V{P:Program}{Γ:Env}(hΓ:Z07 P Γ){f:FuncId}{fn:Func}(hf:P.funcs[f]?=some fn)(hb:fn.body.isNone=false) (hn:(fn.name == "runtime.NumGoroutine")=false) {e:α→List AV} {p:α→Prop} {r:α→AV} {h:α→Z01} {q:Bool}
  (hi:∀a b,e a=e b→a=b) (hq:q=true→∀a,h a=[]) (hh:∀a,p a→Z08 P Γ fn (e a) [] (r a) (h a)):Con P f (Z5S e p r h q):=by
 refine Con.of_body hΓ hf hb hn (fun hq' xs=>?_) fun xs hx=>?_
 ·unfold Z2s
  split
  ·exact hq hq' _
  ·rfl
 ·obtain⟨a,rfl,ha⟩:=hx
  rw [Z0u hi,Z0u hi]
  exact hh a ha
end
attribute [push_cast] Z5S
def Z2G:Op→Bool
 | .move _=>true
 | .assign _=>true
 | .pick ..=>true
 | .binOp ..=>true
 | .unOp ..=>true
 | .index ..=>true
 | .indexAddr ..=>true
 | .load ..=>true
 | .field ..=>true
 | .fieldAddr ..=>true
 | .extract ..=>true
 | .nilCheck _=>true
 | .sliceToArrayPointer _ _=>true
 | .slice ..=>true
 | .lookup ..=>true
 | .call { callee:=.builtin .len,args:=_,argTypes:=_ }=>true
 | _=>false
theorem ZfR(z:Rz)(p:Prop):(z.also p).L=z.L:=rfl
theorem Z7w{P:Program}{Γ:Env}{all:List Oper}{c:Bool}{fr:List AV}{L:Z01}{o:Oper}(h:Z2G o.op=true):(stepA P Γ all c fr L o).L=L:=by
  rcases Z1M P Γ all o with hst | ⟨t,len,parts,ho,hst⟩
  · rw [hst]
    obtain⟨dst,op,ty,pos,after,guard⟩:=o
    simp only at h ⊢
    cases op <;> simp only [Z2G,Bool.false_eq_true] at h <;> simp only [Z16,ev,ZfR]
    case pick=>unfold Zdq; split <;> rfl
    case binOp=>
      unfold Zkn; repeat' split
      all_goals first | rfl | (unfold ZmC; split <;> rfl) | (unfold Zmx; split <;> rfl) | (unfold Zi7; split <;> rfl) | (unfold Z8X; repeat' split) | skip
      all_goals first | rfl | skip
    case unOp=>unfold unR; split <;> rfl
    case index => unfold Z7b; repeat' split
                  all_goals rfl
    case indexAddr => unfold Z2C; repeat' split
                      all_goals rfl
    case load => unfold Z8H; repeat' split
                 all_goals rfl
    case field => unfold Z7h; repeat' split
                  all_goals rfl
    case fieldAddr => unfold Z2D; repeat' split
                      all_goals rfl
    case extract => unfold Z4i; repeat' split
                    all_goals rfl
    case nilCheck => unfold Z3m; repeat' split
                     all_goals rfl
    case sliceToArrayPointer => unfold Z5q; repeat' split
                                all_goals rfl
    case slice => unfold Z6P; repeat' split
                  all_goals rfl
    case lookup => unfold ZbI; repeat' split
                   all_goals rfl
    case call c=>
      obtain⟨callee,args,ts⟩:=c
      cases callee with
      | value f=>simp [Z2G] at h
      | invoke r n=>simp [Z2G] at h
      | builtin b=>
        cases b <;> simp only [Z2G,Bool.false_eq_true] at h
        simp only [Z16,ev,Z4k]
        split <;> first | rfl | (rw [ZfR]; unfold Zkh; repeat' split) | (rw [ZfR]; unfold ZfY; repeat' split) | contradiction | skip
        all_goals first | rfl | contradiction | skip
  · rw [ho] at h; simp [Z2G] at h
section
variable {P:Program} {Γ:Env} {ops:Array Oper}
def Zlz(o:Oper):Bool:=match o.op,o.guard with
 | .alloc _,none=>true
 | _,_=>false
theorem Zke{o:Oper}(h:Zlz o=true):∃ob q,∀fr L,stepA P Γ ops.toList (Z0f ops.toList fr o.guard) fr L o=⟨q,.ref L.length 0 0,L++[ob]⟩∧(∀c,mkV o.guard c (.ref L.length 0 0)=.ref L.length 0 0):=by
 obtain⟨dst,op,ty,pos,after,guard⟩:=o
 unfold Zlz at h
 simp only at h
 split at h
 ·rename_i t
  cases hb:lkT tyB t with
  | none=>
   refine⟨.row (zeroA P t).cells (zeroA P t).cells.length 0,true=true∧Z1b P t,fun fr L=>?_⟩
   rcases Z1M P Γ ops.toList ⟨dst,.alloc t,ty,pos,after,none⟩ with hst | ⟨t',len,parts,ho,hst⟩
   ·rw [hst]; exact⟨by simp only [Z16,ev,Z6F,hb,Z0f],fun _=>rfl⟩
   ·cases ho
  | some e=>
   refine⟨.raw (.bld t e []),true=true∧Z1b P t∧zeroA P t=.agg [.lit (.pointer none),.lit (.slice none 0 0)],fun fr L=>?_⟩
   rcases Z1M P Γ ops.toList ⟨dst,.alloc t,ty,pos,after,none⟩ with hst | ⟨t',len,parts,ho,hst⟩
   ·rw [hst]; exact⟨by simp only [Z16,ev,Z6F,hb,Z0f],fun _=>rfl⟩
   ·cases ho
 ·cases h
def Z7y(P:Program)(Γ:Env)(all:List Oper)(c:Bool)(fr:List AV)(L:Z01)(o:Oper):Prop:=(stepA P Γ all c fr L o).L.length=L.length∧
 ∀A,(stepA P Γ all c fr (L++A) o).pre∧(stepA P Γ all c fr (L++A) o).v=(stepA P Γ all c fr L o).v∧(stepA P Γ all c fr (L++A) o).L=(stepA P Γ all c fr L o).L++A
def Ye(P:Program)(Γ:Env)(ops:Array Oper)(H:Z01→Prop)(mk la al st:Bool)(o:Oper)(fr:List AV)(L:Z01)(v:AV)(L':Z01):Prop:=
 Z1D ops.toList fr o.guard∧
 if al then Zlz o=true∧(stepA P Γ ops.toList (Z0f ops.toList fr o.guard) fr L o).pre∧v=mkV o.guard (Z0f ops.toList fr o.guard) (stepA P Γ ops.toList (Z0f ops.toList fr o.guard) fr L o).v∧
   L'=(stepA P Γ ops.toList (Z0f ops.toList fr o.guard) fr L o).L∧H L'
 else if mk then (stepA P Γ ops.toList (Z0f ops.toList fr o.guard) fr L o).pre∧v=mkV o.guard (Z0f ops.toList fr o.guard) (stepA P Γ ops.toList (Z0f ops.toList fr o.guard) fr L o).v∧
   L'=(stepA P Γ ops.toList (Z0f ops.toList fr o.guard) fr L o).L∧(la=false→H L')∧(st=true→Z7y P Γ ops.toList (Z0f ops.toList fr o.guard) fr L o)
 else L'=L∧∀G,H G→(stepA P Γ ops.toList (Z0f ops.toList fr o.guard) fr G o).pre∧(stepA P Γ ops.toList (Z0f ops.toList fr o.guard) fr G o).L=G∧
   v=mkV o.guard (Z0f ops.toList fr o.guard) (stepA P Γ ops.toList (Z0f ops.toList fr o.guard) fr G o).v
theorem Ye.swap{H:Z01→Prop}{mi mj ai aj si sj:Bool}{oi oj:Oper}{fr:List AV}{L L1 L2:Z01}{v u:AV}(hH:aj=true→∀G A,H G→H (G++A))(hL:H L)(hi:Ye P Γ ops H mi false ai si oi fr L v L1)(hj:Ye P Γ ops H mj false aj sj oj (Z1R fr oi.dst v) L1 u L2)
  (hap:oi.apart ops oj=true) (hm:(ai=false∧aj=false∧(¬(mi=true∧mj=true)∨(Z2G oi.op=true∧Z2G oj.op=true)))∨(ai=false∧aj=true∧(mi=true→si=true))∨(ai=true∧aj=false∧mj=false)) :
  ∃L3,H L3∧Ye P Γ ops H mj false aj sj oj fr L u L3∧Ye P Γ ops H mi false ai si oi (Z1R fr oj.dst u) L3 v L2:=by
 obtain⟨h1,h2,h3⟩:=Oper.apart_spec hap
 unfold Ye at hi hj ⊢
 have e1:∀c G,stepA P Γ ops.toList c (Z1R fr oi.dst v) G oj=stepA P Γ ops.toList c fr G oj:=fun c G=>Zb7 (o:=oj) h1
 have e2:∀c G,stepA P Γ ops.toList c (Z1R fr oj.dst u) G oi=stepA P Γ ops.toList c fr G oi:=fun c G=>Zb7 (o:=oi) h3
 obtain⟨g1,g2⟩:=Z4Z (fr:=fr) (o:=oj) (dst:=oi.dst) (x:=v) h1
 obtain⟨g3,g4⟩:=Z4Z (fr:=fr) (o:=oi) (dst:=oj.dst) (x:=u) h3
 have s1:∀c G,Z7y P Γ ops.toList c (Z1R fr oi.dst v) G oj=Z7y P Γ ops.toList c fr G oj:=fun c G=>by unfold Z7y; simp only [e1]
 have s2:∀c G,Z7y P Γ ops.toList c (Z1R fr oj.dst u) G oi=Z7y P Γ ops.toList c fr G oi:=fun c G=>by unfold Z7y; simp only [e2]
 rw [g1,g2] at hj
 simp only [e1,s1] at hj
 rw [g3,g4]
 simp only [e2,s2]
 obtain⟨hgi,hi⟩:=hi
 obtain⟨hgj,hj⟩:=hj
 rcases hm with ⟨rfl,rfl,hm⟩ | ⟨rfl,rfl,hm⟩ | ⟨rfl,rfl,rfl⟩
 ·simp only [Bool.false_eq_true,if_false] at hi hj ⊢
  cases mi <;> cases mj
  ·simp only [Bool.false_eq_true,if_false] at hi hj
   obtain⟨rfl,hi⟩:=hi
   obtain⟨rfl,hj⟩:=hj
   refine⟨L2,hL,?_⟩
   simp only [Bool.false_eq_true,if_false]
   exact⟨⟨hgj,trivial,hj⟩,hgi,trivial,hi⟩
  ·simp only [Bool.false_eq_true,if_false,if_true] at hi hj
   obtain⟨rfl,hi⟩:=hi
   refine⟨L2,hj.2.2.2.1 trivial,?_⟩
   simp only [Bool.false_eq_true,if_false,if_true]
   exact⟨⟨hgj,hj⟩,hgi,trivial,hi⟩
  ·simp only [Bool.false_eq_true,if_false,if_true] at hi hj
   obtain⟨rfl,hj⟩:=hj
   refine⟨L,hL,?_⟩
   simp only [Bool.false_eq_true,if_false,if_true]
   exact⟨⟨hgj,trivial,hj⟩,hgi,hi⟩
  ·rcases hm with hm | ⟨q1,q2⟩
   ·exact absurd ⟨rfl,rfl⟩ hm
   simp only [if_true,Z7w q1,Z7w q2] at hi hj
   obtain⟨a1,a2,rfl,a3,a4⟩:=hi
   obtain⟨b1,b2,rfl,b3,b4⟩:=hj
   refine⟨L2,hL,?_⟩
   simp only [if_true,Z7w q1,Z7w q2]
   exact⟨⟨hgj,b1,b2,trivial,b3,b4⟩,hgi,a1,a2,trivial,a3,a4⟩
 ·simp only [Bool.false_eq_true,if_false,if_true] at hi hj ⊢
  obtain⟨b0,b1,b2,rfl,b3⟩:=hj
  obtain⟨ob,q,hal⟩:=Zke (P:=P) (Γ:=Γ) (ops:=ops) b0
  cases mi with
  | false=>
   simp only [Bool.false_eq_true,if_false] at hi ⊢
   obtain⟨rfl,hi⟩:=hi
   exact⟨_,b3,⟨hgj,b0,b1,b2,rfl,b3⟩,hgi,rfl,hi⟩
  | true=>
   simp only [if_true] at hi ⊢
   obtain⟨a1,a2,rfl,a3,a4⟩:=hi
   have hst:=a4 (hm rfl)
   obtain⟨t1,t2⟩:=hst
   have q1:=fun L=>(hal fr L).1
   have q2:=fun L=>(hal fr L).2
   simp only [q1,q2] at b1 b2 b3 ⊢
   rw [t1] at b2
   refine⟨L++[ob],hH rfl _ _ hL,⟨hgj,b0,b1,b2,rfl,hH rfl _ _ hL⟩,?_⟩
   ·obtain⟨t3,t4,t5⟩:=t2 [ob]
    refine⟨hgi,t3,by rw [t4]; exact a2,t5.symm,fun _=>b3,fun _=>?_⟩
    refine⟨by rw [t5]; simp [t1],fun A=>?_⟩
    obtain⟨r3,r4,r5⟩:=t2 ([ob]++A)
    rw [←List.append_assoc] at r3 r4 r5
    exact⟨r3,by rw [r4,t4],by rw [r5,t5,List.append_assoc]⟩
 ·simp only [Bool.false_eq_true,if_false,if_true] at hi hj ⊢
  obtain⟨rfl,hj⟩:=hj
  exact⟨L,hL,⟨hgj,rfl,hj⟩,hgi,hi⟩
theorem Ye.keeps{H:Z01→Prop}{mk al st:Bool}{o:Oper}{fr:List AV}{L L':Z01}{v:AV}(hL:H L)(h:Ye P Γ ops H mk false al st o fr L v L'):H L':=by
 unfold Ye at h
 cases al
 ·cases mk
  ·simp only [Bool.false_eq_true,if_false] at h; rw [h.2.1]; exact hL
  ·simp only [Bool.false_eq_true,if_false,if_true] at h; exact h.2.2.2.2.1 trivial
 ·simp only [if_true] at h; exact h.2.2.2.2.2
variable {md:Region.Mode}
def opE(P:Program)(Γ:Env)(ops:Array Oper)(H:Z01→Prop)(mk la al st:Nat→Bool)(i:Nat)(nd:Prop)(K:List AV→Z01→Prop)(fr:List AV)(L:Z01):Prop:=
 match ops[i]? with
 | none=>K fr L
 | some o=>∃v L',Ye P Γ ops H (mk i) (la i) (al i) (st i) o fr L v L'∧(la i=true→nd)∧K (Z1R fr o.dst v) L'
def Zmt(P:Program)(Γ:Env)(md:Region.Mode)(ops:Array Oper)(H:Z01→Prop)(mk la al st:Nat→Bool)(K:List AV→Z01→Prop):Nat→Array Bool→List AV→Z01→Prop
 | 0,listed,fr,L=>Region.ready md ops listed=[]∧K fr L
 | fuel+1,listed,fr,L=>(Region.ready md ops listed=[]→K fr L)∧
  ∀i∈Region.ready md ops listed,opE P Γ ops H mk la al st i (Region.ready md ops (listed.setIfInBounds i true)=[]) (Zmt P Γ md ops H mk la al st K fuel (listed.setIfInBounds i true)) fr L
def Zl4(mk al st:Nat→Bool)(i j:Nat)(oi oj:Oper):Prop:=(al i=false∧al j=false∧(¬(mk i=true∧mk j=true)∨(Z2G oi.op=true∧Z2G oj.op=true)))∨(al i=false∧al j=true∧(mk i=true→st i=true))∨(al i=true∧al j=false∧mk j=false)
def Ze7(ops:Array Oper)(md:Region.Mode)(mk al st:Nat→Bool)(listed:Array Bool)(i:Nat)(oi:Oper):Prop:=
 ∀j oj,ops[j]?=some oj→j≠i→listed.getD j true=false→(∀e∈oj.after,Region.binds md e=true→e.on≠i)→oi.apart ops oj=true∧(TW ops md i j∨Zl4 mk al st i j oi oj)
def Z44(ops:Array Oper)(md:Region.Mode)(listed:Array Bool):Prop:=∀j k,listed.getD j true=false→TW ops md j k→listed.getD k true=false
theorem Z44.set{listed:Array Bool}(h:Z44 ops md listed){j:Nat}(hj:j∈Region.ready md ops listed):Z44 ops md (listed.setIfInBounds j true):=by
 obtain⟨hjun,oj,hoj,hall⟩:=mem_ready.1 hj
 intro a b ha hab
 have haj:j≠a:=by
  intro e; subst e
  rcases Nat.lt_or_ge j listed.size with h' | h'
  ·simp [h'] at ha
  ·simp [Array.getElem?_eq_none h'] at ha
 rw [getD_set_ne true haj] at ha
 by_cases hbj:j=b
 ·subst hbj
  obtain⟨o',e,ho',he,hb,hlt,h3⟩:=hab.step
  rw [hoj] at ho'
  obtain rfl:=Option.some.inj ho'
  have h5:=hall e he hb
  have hlt':e.on<listed.size:=by
   rcases Nat.lt_or_ge j listed.size with h' | h'
   ·omega
   ·simp [Array.getElem?_eq_none h'] at hjun
  rcases h3 with h3 | h3
  ·rw [h3] at h5 hlt'; simp [hlt'] at h5 ha; rw [ha] at h5; cases h5
  ·have h6:=h _ _ ha h3
   simp [hlt'] at h5 h6; rw [h6] at h5; cases h5
 ·rw [getD_set_ne true hbj]; exact h _ _ ha hab
theorem Z44.late{listed:Array Bool}(h:Z44 ops md listed){i j:Nat}(hi:listed.getD i true=false)(hij:TW ops md i j):j∉Region.ready md ops listed:=by
 intro hj
 obtain⟨hjun,oj,hoj,hall⟩:=mem_ready.1 hj
 obtain⟨o',e,ho',he,hb,hlt,h3⟩:=hij.step
 rw [hoj] at ho'
 obtain rfl:=Option.some.inj ho'
 have h5:=hall e he hb
 have hlt':e.on<listed.size:=by
  rcases Nat.lt_or_ge j listed.size with h' | h'
  ·omega
  ·simp [Array.getElem?_eq_none h'] at hjun
 rcases h3 with h3 | h3
 ·rw [h3] at h5 hlt'; simp [hlt'] at h5 hi; rw [hi] at h5; cases h5
 ·have h6:=h _ _ hi h3
  simp [hlt'] at h5 h6; rw [h6] at h5; cases h5
def Zi9(ops:Array Oper)(md:Region.Mode)(la:Nat→Bool):Prop:=∀i,la i=true→∀j,j<ops.size→j≠i→TW ops md j i
theorem Z5u{H:Z01→Prop}{mk la al st:Nat→Bool}{K:List AV→Z01→Prop}(hla:Zi9 ops md la)(hHa:(∃i,al i=true)→∀G A,H G→H (G++A)){i:Nat}{oi:Oper}{v:AV}(hi:ops[i]?=some oi) :
  ∀(fuel:Nat) (listed:Array Bool) (fr:List AV) (L L1:Z01),Ze7 ops md mk al st listed i oi→Z44 ops md listed→i∈Region.ready md ops listed→H L→Ye P Γ ops H (mk i) (la i) (al i) (st i) oi fr L v L1→
   (la i=true→Region.ready md ops (listed.setIfInBounds i true)=[])→
   Zmt P Γ md ops H mk la al st K fuel (listed.setIfInBounds i true) (Z1R fr oi.dst v) L1→Zmt P Γ md ops H mk la al st K (fuel+1) listed fr L:=by
 intro fuel
 induction fuel with
 | zero=>
  intro listed fr L L1 _ _ hr hL hy hnd hH
  refine⟨fun h=>(by rw [h] at hr; cases hr),fun j hj=>?_⟩
  by_cases hji:j=i
  ·subst hji; unfold opE; rw [hi]; exact⟨v,L1,hy,hnd,hH⟩
  ·have:=ready_mono hj hji
   rw [hH.1] at this
   cases this
 | succ fuel ih=>
  intro listed fr L L1 hfree hcl hr hL hy hnd hH
  refine⟨fun h=>(by rw [h] at hr; cases hr),fun j hj=>?_⟩
  by_cases hji:j=i
  ·subst hji; unfold opE; rw [hi]; exact⟨v,L1,hy,hnd,hH⟩
  ·have h1:=hH.2 j (ready_mono hj hji)
   obtain⟨hjun,oj,hoj,hall⟩:=mem_ready.1 hj
   have hiun:=(mem_ready.1 hr).1
   have hjs:j<ops.size:=(Array.getElem?_eq_some_iff.1 hoj).1
   have his:i<ops.size:=(Array.getElem?_eq_some_iff.1 hi).1
   have hntw:¬TW ops md i j:=fun ht=>hcl.late hiun ht hj
   have hntw':¬TW ops md j i:=fun ht=>hcl.late hjun ht hr
   have hli:la i=false:=by
    cases h:la i with
    | false=>rfl
    | true=>exact absurd (hla i h j hjs hji) hntw'
   have hlj:la j=false:=by
    cases h:la j with
    | false=>rfl
    | true=>exact absurd (hla j h i his (Ne.symm hji)) hntw
   have hnot:∀e∈oj.after,Region.binds md e=true→e.on≠i:=fun e he hb heq=>by
    have h1:=hall e he hb
    rw [heq] at h1
    rcases Nat.lt_or_ge i listed.size with h' | h'
    ·simp [h'] at hiun h1; rw [hiun] at h1; cases h1
    ·simp [Array.getElem?_eq_none h'] at h1
   obtain⟨hap,hmm⟩:=hfree j oj hoj hji hjun hnot
   have hmm:=hmm.resolve_left hntw
   unfold opE at h1 ⊢
   rw [hoj] at h1 ⊢
   obtain⟨u,L2,hyj,hndj,h2⟩:=h1
   rw [hli] at hy
   rw [hlj] at hyj
   obtain⟨L3,hL3,k1,k2⟩:=hy.swap (fun h=>hHa ⟨j,h⟩) hL hyj hap hmm
   refine⟨u,L3,by rw [hlj]; exact k1,fun h=>(by rw [hlj] at h; cases h),?_⟩
   have hfree':Ze7 ops md mk al st (listed.setIfInBounds j true) i oi:=fun k ok hk hki hun hno=>by
    refine hfree k ok hk hki ?_ hno
    by_cases hjk:j=k
    ·subst hjk; exact hjun
    ·rw [getD_set_ne true hjk] at hun; exact hun
   refine ih (listed.setIfInBounds j true) _ _ _ hfree' (hcl.set hj) (ready_mono hr (Ne.symm hji)) hL3 (by rw [hli]; exact k2) (fun h=>by rw [hli] at h; cases h) ?_
   rw [Array.setIfInBounds_comm _ _ hji,←Z6a fr v u (Oper.apart_spec hap).2.1]
   exact h2
def Z5e(ops:Array Oper)(i:Nat):Bool:=match ops[i]? with | some o=>Z2G o.op | none=>false
def Zj3(ops:Array Oper)(md:Region.Mode)(ms as ss:List Nat):Bool:=(ms++as).all fun i=>(ms++as).all fun j=>decide (j≤i) || (!as.contains i && !as.contains j && (Z5e ops i && Z5e ops j)) || (!as.contains i && as.contains j && ss.contains i) || twB ops md ms i 12 j
def ZbK(ops:Array Oper)(md:Region.Mode)(lst:Bool):Bool:=!lst || (List.range (ops.size - 1)).all fun j=>twB ops md [] j 12 (ops.size - 1)
def laF(ops:Array Oper)(lst:Bool)(i:Nat):Bool:=lst && decide (i+1=ops.size)
theorem Z9Q{lst:Bool}(h:ZbK ops md lst=true):Zi9 ops md (laF ops lst):=by
 intro i hi j hj hji
 simp only [laF,Bool.and_eq_true,decide_eq_true_eq] at hi
 obtain⟨rfl,hi⟩:=hi
 simp only [ZbK,Bool.not_true,Bool.false_or,List.all_eq_true,List.mem_range] at h
 have:=h j (by omega)
 rw [show ops.size - 1=i by omega] at this
 exact⟨[],12,this⟩
theorem Z7f{ms as ss:List Nat}(hm:Zj3 ops md ms as ss=true){i:Nat}{oi:Oper}{listed:Array Bool}(hi:ops[i]?=some oi)(hl:∀j,j<i→listed.getD j true=true)(h:Region.free md ops listed i=true) :
  Ze7 ops md (ms.contains ·) (as.contains ·) (ss.contains ·) listed i oi:=by
 intro j oj hj hji hun hno
 refine⟨Region.free_spec hi h j oj hj hji hun hno,?_⟩
 have hlt:¬j≤i:=fun hle=>by have:=hl j (by omega); rw [this] at hun; cases hun
 have key:i∈ms++as→j∈ms++as→(as.contains i=false∧as.contains j=false∧Z5e ops i=true∧Z5e ops j=true)∨(as.contains i=false∧as.contains j=true∧ss.contains i=true)∨TW ops md i j:=by
  intro h1 h2
  simp only [Zj3,List.all_eq_true,Bool.or_eq_true,decide_eq_true_eq,Bool.and_eq_true,Bool.not_eq_true'] at hm
  rcases hm i h1 j h2 with ((h3 | h3) | h3) | h3
  ·exact absurd h3 hlt
  ·exact .inl ⟨h3.1.1,h3.1.2,h3.2.1,h3.2.2⟩
  ·exact .inr (.inl ⟨h3.1.1,h3.1.2,h3.2⟩)
  ·exact .inr (.inr ⟨ms,12,h3⟩)
 have hmem:∀k,(ms.contains k=true∨as.contains k=true)→k∈ms++as:=fun k hk=>by simpa [List.contains_iff_mem] using hk
 unfold Zl4
 have ff:∀{b:Bool},b=true→b=false→False:=fun h1 h2=>by rw [h1] at h2; cases h2
 cases hai:as.contains i <;> cases haj:as.contains j
 ·by_cases hmm:ms.contains i=true∧ms.contains j=true
  ·rcases key (hmem i (.inl hmm.1)) (hmem j (.inl hmm.2)) with k | k | k
   ·exact .inr (.inl ⟨hai,haj,.inr ⟨by simpa [Z5e,hi] using k.2.2.1,by simpa [Z5e,hj] using k.2.2.2⟩⟩)
   ·exact (ff k.2.1 haj).elim
   ·exact .inl k
  ·exact .inr (.inl ⟨hai,haj,.inl hmm⟩)
 ·by_cases hmi:ms.contains i=true
  ·rcases key (hmem i (.inl hmi)) (hmem j (.inr haj)) with k | k | k
   ·exact (ff haj k.2.1).elim
   ·exact .inr (.inr (.inl ⟨hai,haj,fun _=>k.2.2⟩))
   ·exact .inl k
  ·exact .inr (.inr (.inl ⟨hai,haj,fun h=>absurd h hmi⟩))
 ·by_cases hmj:ms.contains j=true
  ·rcases key (hmem i (.inr hai)) (hmem j (.inl hmj)) with k | k | k
   ·exact (ff hai k.1).elim
   ·exact (ff hai k.1).elim
   ·exact .inl k
  ·exact .inr (.inr (.inr ⟨hai,haj,by simpa using hmj⟩))
 ·rcases key (hmem i (.inr hai)) (hmem j (.inr haj)) with k | k | k
  ·exact (ff hai k.1).elim
  ·exact (ff hai k.1).elim
  ·exact .inl k
def Z75(lst:Bool)(r:List Oper)(p:Prop):Prop:=match lst,r with
 | true,[]=>True
 | _,_=>p
theorem ZaJ(r:List Oper)(p:Prop):Z75 false r p=p:=by cases r <;> rfl
theorem ZgW(l:Bool)(o:Oper)(r:List Oper)(p:Prop):Z75 l (o::r) p=p:=by cases l <;> rfl
theorem ZgV(p:Prop):Z75 true [] p=True:=rfl
theorem Z74{l:Bool}{r:List Oper}{p:Prop}(h:Z75 l r p):(l && r.isEmpty)=false→p:=by
 cases l <;> cases r <;> simp_all [Z75]
def evE(P:Program)(Γ:Env)(all:List Oper)(H:Z01→Prop)(ms as ss:List Nat)(lst:Bool):Nat→List Oper→List AV→Z01→(List AV→Z01→Prop)→Prop
 | _,[],fr,L,K=>K fr L
 | k,o::r,fr,L,K=>
  Z1D all fr o.guard∧
  if as.contains k then Zlz o=true∧(stepA P Γ all (Z0f all fr o.guard) fr L o).pre∧H (stepA P Γ all (Z0f all fr o.guard) fr L o).L∧
   evE P Γ all H ms as ss lst (k+1) r (Z1R fr o.dst (mkV o.guard (Z0f all fr o.guard) (stepA P Γ all (Z0f all fr o.guard) fr L o).v)) (stepA P Γ all (Z0f all fr o.guard) fr L o).L K
  else if ms.contains k then (stepA P Γ all (Z0f all fr o.guard) fr L o).pre∧(if ss.contains k then Z7y P Γ all (Z0f all fr o.guard) fr L o else True)∧Z75 lst r (H (stepA P Γ all (Z0f all fr o.guard) fr L o).L)∧
   evE P Γ all H ms as ss lst (k+1) r (Z1R fr o.dst (mkV o.guard (Z0f all fr o.guard) (stepA P Γ all (Z0f all fr o.guard) fr L o).v)) (stepA P Γ all (Z0f all fr o.guard) fr L o).L K
  else qob H (fun G=>(stepA P Γ all (Z0f all fr o.guard) fr G o).pre∧(stepA P Γ all (Z0f all fr o.guard) fr G o).L=G∧(stepA P Γ all (Z0f all fr o.guard) fr G o).v=(stepA P Γ all (Z0f all fr o.guard) fr L o).v)∧
   evE P Γ all H ms as ss lst (k+1) r (Z1R fr o.dst (mkV o.guard (Z0f all fr o.guard) (stepA P Γ all (Z0f all fr o.guard) fr L o).v)) L K
theorem Z58{H:Z01→Prop}{ms as ss:List Nat}{lst:Bool}{K:List AV→Z01→Prop}(hH:(∃i,as.contains i=true)→∀G A,H G→H (G++A))(hm:Zj3 ops md ms as ss=true)(hla:ZbK ops md lst=true):∀(l:List Oper) (k:Nat) (listed:Array Bool) (fr:List AV) (L:Z01),(∀j,l[j]?=ops[k+j]?)→k+l.length=ops.size→(∀j,j<k→listed.getD j true=true)→(∀j o,k≤j→ops[j]?=some o→listed.getD j true=false)→
  Region.lexFrom md ops l.length k listed=true→(l=[]∨H L)→evE P Γ ops.toList H ms as ss lst k l fr L K→Zmt P Γ md ops H (ms.contains ·) (laF ops lst) (as.contains ·) (ss.contains ·) K l.length listed fr L
 | [],_,_,_,_,_,_,_,_,hB,_,h=>⟨by simpa [Region.lexFrom] using hB,h⟩
 | o::l,k,listed,fr,L,hl,hn,hk,hu,hB,hL,h=>by
  have hL:H L:=by rcases hL with hL | hL; cases hL; exact hL
  have h0:ops[k]?=some o:=by simpa using (hl 0).symm
  simp only [List.length_cons,Region.lexFrom,Bool.and_eq_true] at hB
  obtain⟨⟨hr,hf⟩,hB'⟩:=hB
  obtain⟨hg,h⟩:=h
  have hk':∀j,j<k+1→(listed.setIfInBounds k true).getD j true=true:=fun j hj=>by
   by_cases hjk:k=j
   ·subst hjk
    rcases Nat.lt_or_ge k listed.size with h' | h'
    ·simp [h']
    ·simp [Array.getElem?_eq_none h']
   ·rw [getD_set_ne true hjk]; exact hk j (by omega)
  have hu':∀j o,k+1≤j→ops[j]?=some o→(listed.setIfInBounds k true).getD j true=false:=fun j o' hj ho=>by
   rw [getD_set_ne true (show k≠j by omega)]; exact hu j o' (by omega) ho
  have hcl:Z44 ops md listed:=fun a b ha hab=>by
   obtain⟨o',e,ho',_⟩:=hab.step
   refine hu b o' ?_ ho'
   rcases Nat.lt_or_ge a k with h' | h'
   ·rw [hk a h'] at ha; cases ha
   ·have:=hab.lt; omega
  have hl':∀j,l[j]?=ops[k+1+j]?:=fun j=>by have:=hl (j+1); simpa [Nat.add_assoc,Nat.add_comm 1 j] using this
  have hn':k+1+l.length=ops.size:=by simp only [List.length_cons] at hn; omega
  have hlk:laF ops lst k=(lst && l.isEmpty):=by
   unfold laF
   cases l with
   | nil=>simp only [List.length_nil] at hn'; simp [show k+1=ops.size by omega]
   | cons a l=>simp only [List.length_cons] at hn'; simp [show ¬k+1=ops.size by omega]
  have hnd:laF ops lst k=true→Region.ready md ops (listed.setIfInBounds k true)=[]:=fun hlast=>by
   rw [hlk,Bool.and_eq_true] at hlast
   obtain rfl:l=[]:=by simpa using hlast.2
   simpa [Region.lexFrom] using hB'
  cases hak:as.contains k with
  | true=>
   rw [hak] at h
   simp only [if_true] at h
   have hlk':laF ops lst k=true→l=[]:=fun hh=>by
    rw [hlk,Bool.and_eq_true] at hh; simpa using hh.2
   exact Z5u (Z9Q hla) hH h0 l.length listed fr L _ (Z7f hm h0 hk hf) hcl (by simpa using hr) hL (by unfold Ye; rw [hak]; exact⟨hg,by simp only [if_true]; exact⟨h.1,h.2.1,trivial,trivial,h.2.2.1⟩⟩) hnd
    (Z58 hH hm hla l (k+1) _ _ _ hl' hn' hk' hu' hB' (.inr h.2.2.1) h.2.2.2)
  | false=>
   rw [hak] at h
   simp only [Bool.false_eq_true,if_false] at h
   cases hmk:ms.contains k with
   | true=>
    rw [hmk] at h
    simp only [if_true] at h
    refine Z5u (Z9Q hla) hH h0 l.length listed fr L _ (Z7f hm h0 hk hf) hcl (by simpa using hr) hL (by
      unfold Ye; rw [hmk,hlk,hak]
      refine⟨hg,?_⟩
      simp only [Bool.false_eq_true,if_false,if_true]
      exact⟨h.1,trivial,trivial,Z74 h.2.2.1,fun hs=>by have:=h.2.1; rw [hs] at this; simpa using this⟩) hnd
     (Z58 hH hm hla l (k+1) _ _ _ hl' hn' hk' hu' hB' ?_ h.2.2.2)
    cases l with
    | nil=>exact .inl rfl
    | cons a l=>exact .inr (Z74 h.2.2.1 (by simp))
   | false=>
    rw [hmk] at h
    simp only [Bool.false_eq_true,if_false] at h
    exact Z5u (Z9Q hla) hH h0 l.length listed fr L L (Z7f hm h0 hk hf) hcl (by simpa using hr) hL (by
      unfold Ye; rw [hmk,hak]
      refine⟨hg,?_⟩
      simp only [Bool.false_eq_true,if_false,true_and]
      exact fun G hG=>⟨(h.1 G hG).1,(h.1 G hG).2.1,by rw [(h.1 G hG).2.2]⟩) hnd
     (Z58 hH hm hla l (k+1) _ _ _ hl' hn' hk' hu' hB' (.inr hL) h.2)
theorem Z8B{R:Option Nat}(hΓ:Z07 P Γ){B:Z8f}{H:Z01→Prop}{mk la al st:Nat→Bool}{i:Nat}{nd:Prop}{K:List AV→Z01→Prop}{K':Act→World→Prop}{Q:Exit→Act→World→Prop}(hK:∀fr L m a w,H L∨nd→K fr L→RS B fr L m a w→K' a w)
  {fr:List AV} {L:Z01} {m:Mem} {a:Act} {w:World} (hL:H L) (h:opE P Γ ops H mk la al st i nd K fr L) (hR:RS B fr L m a w):wpOpIn (Z1q R) 0 P ops Q i K' a w:=by
 unfold opE at h
 unfold wpOpIn
 split
 ·rename_i ho; rw [ho] at h; exact hK _ _ _ _ _ (.inl hL) h hR
 ·rename_i o ho
  rw [ho] at h
  obtain⟨v,L',hy,hnd,h⟩:=h
  have hL':H L'∨nd:=by
   cases hl:la i with
   | true=>exact .inr (hnd hl)
   | false=>rw [hl] at hy; exact .inl (hy.keeps hL)
  unfold Ye at hy
  obtain⟨hg,hy⟩:=hy
  have hstep:(stepA P Γ ops.toList (Z0f ops.toList fr o.guard) fr L o).pre∧L'=(stepA P Γ ops.toList (Z0f ops.toList fr o.guard) fr L o).L∧v=mkV o.guard (Z0f ops.toList fr o.guard) (stepA P Γ ops.toList (Z0f ops.toList fr o.guard) fr L o).v:=by
   cases ha:al i with
   | true=>rw [ha] at hy; simp only [if_true] at hy; exact⟨hy.2.1,hy.2.2.2.1,hy.2.2.1⟩
   | false=>
    rw [ha] at hy; simp only [Bool.false_eq_true,if_false] at hy
    cases hm:mk i with
    | true=>rw [hm] at hy; simp only [if_true] at hy; exact⟨hy.1,hy.2.2.1,hy.2.1⟩
    | false=>
     rw [hm] at hy; simp only [Bool.false_eq_true,if_false] at hy
     obtain⟨h1,h2,h3⟩:=hy.2 L hL
     exact⟨h1,by rw [h2]; exact hy.1,h3⟩
  obtain⟨hp,rfl,rfl⟩:=hstep
  have:=Z48 (P:=P) (Γ:=Γ) (R:=R) hΓ hR.wrel hR.frel ops o (next:=K') (Q:=Q) hg hp fun a' w' m' k1 k2 k3 k4=>hK _ _ _ _ _ hL' h ⟨k1,k2,hR.ext.trans k3,by rw [k4,hR.defers]⟩
  split
  ·rename_i hw; rw [if_pos hw] at this; exact this
  ·rename_i hw; rw [if_neg hw] at this; exact this
theorem Z5t{R:Option Nat}(hΓ:Z07 P Γ){B:Z8f}{H:Z01→Prop}{mk la al st:Nat→Bool}{K:List AV→Z01→Prop}{Q:Exit→Act→World→Prop}(hK:∀fr L m a w,K fr L→RS B fr L m a w→Q .normal a w) :
  ∀(fuel:Nat) (listed:Array Bool) (fr:List AV) (L:Z01) (m:Mem) (a:Act) (w:World),H L∨Region.ready md ops listed=[]→Zmt P Γ md ops H mk la al st K fuel listed fr L→RS B fr L m a w→wpAnyIn (Z1q R) 0 P md ops Q fuel listed a w
 | 0,_,_,_,_,_,_,_,h,hR=>⟨h.1,hK _ _ _ _ _ h.2 hR⟩
 | fuel+1,listed,_,L,_,_,_,hL,h,hR=>by
  refine⟨fun h0=>hK _ _ _ _ _ (h.1 h0) hR,fun i hi=>?_⟩
  rcases hL with hL | hL
  ·exact Z8B hΓ (fun fr' L' m' a' w' hL' h' hR'=>Z5t hΓ hK fuel _ fr' L' m' a' w' hL' h' hR') hL (h.2 i hi) hR
  ·rw [hL] at hi; cases hi
end
theorem Z02.drawnE{X:Cx}{id:Nat}{ops:Array Oper}{k:List It}{fr:List AV}{L:Z01}(H:Z01→Prop)(ms as ss:List Nat)(lst:Bool)(hm:X.P.follows .mixedOrders=true)(hB:Region.lexB .any ops=true)(ho:Zj3 ops .any ms as ss=true)(hla:ZbK ops .any lst=true)(hH:as=[]∨∀G A,H G→H (G++A))(hL:H L)
  (h:evE X.P X.Γ ops.toList H ms as ss lst 0 ops.toList fr L (Z02 X k)):Z02 X (.code (.region id ops true)::k) fr L:=by
 intro m a w hR
 simp only [W]
 simp only [Region.lexB,Bool.and_eq_true] at hB
 refine wpIn_region_any hm ?_
 have hR':RS X.B fr L m a { w with drawn:=w.drawn+1 }:=hR.drew
 have:=Z58 (P:=X.P) (Γ:=X.Γ) (md:=.any) (ops:=ops) (K:=Z02 X k) (fun ⟨i,hi⟩=>by rcases hH with hH | hH; subst hH; simp at hi; exact hH) ho hla ops.toList 0 (Array.replicate ops.size false) fr L (by simp) (by simp) (fun j hj=>by omega) (fun j o hj ho=>by have:=(Array.getElem?_eq_some_iff.1 ho).1; simp [this]) (by simpa using hB.2) (.inr hL) h
 have h2:=Z5t (R:=X.R) (md:=.any) (Q:=W X.P X.R X.B X.Q k) X.ok (fun fr L m a w hk hR=>hk m a w hR) _ _ fr L m a _ (.inl hL) this hR'
 simpa using h2
attribute [push_cast] evE Z7y Zlz ZaJ ZgW ZgV
mutual
def Z3q:AV→AV
 | .lit (.slice none 0 0)=>.sl [] 0
 | .agg cs=>.agg (Z1e cs)
 | .tup cs=>.tup (Z1e cs)
 | x=>x
def Z1e:List AV→List AV
 | []=>[]
 | x::xs=>Z3q x::Z1e xs
end
mutual
theorem Z03.soft{m:Mem}{L:Z01}:∀(x:AV) (u:Value),Z03 m L x u→Z03 m L (Z3q x) u
 | .lit v,u,h=>by
  by_cases hv:v=.slice none 0 0
  ·subst hv
   simp only [Z03,Z3q] at *
   exact⟨none,0,h,Nat.le_refl _,[],Z0a.nil _ _,.inl rfl⟩
  ·have e:Z3q (.lit v)=.lit v:=by
    unfold Z3q
    split <;> simp_all
   rw [e]; exact h
 | .agg cs,u,h=>by
  simp only [Z03,Z3q] at *
  obtain⟨us,rfl,hc⟩:=h
  exact⟨us,rfl,Z0a.soft cs us hc⟩
 | .tup cs,u,h=>by
  simp only [Z03,Z3q] at *
  obtain⟨us,rfl,hc⟩:=h
  exact⟨us,rfl,Z0a.soft cs us hc⟩
 | .any,_,h=>h
 | .int ..,_,h=>h
 | .bool _,_,h=>h
 | .str _,_,h=>h
 | .sl ..,_,h=>h
 | .msl ..,_,h=>h
 | .ref ..,_,h=>h
 | .ip _,_,h=>h
 | .fn ..,_,h=>h
 | .ifc ..,_,h=>h
 | .when ..,_,h=>h
 | .alt ..,_,h=>h
 | .ub ..,_,h=>h
 | .csl ..,_,h=>h
 | .mp ..,_,h=>h
 | .mpr ..,_,h=>h
theorem Z0a.soft{m:Mem}{L:Z01}:∀(cs:List AV) (us:List Value),Z0a m L cs us→Z0a m L (Z1e cs) us
 | [],_,h=>by simpa only [Z1e] using h
 | c::cs,us,h=>by
  simp only [Z0a,Z1e] at *
  obtain⟨u,us',rfl,h1,h2⟩:=h
  exact⟨u,us',rfl,Z03.soft c u h1,Z0a.soft cs us' h2⟩
end
theorem Z3O:∀cs:List AV,(Z1e cs).length=cs.length
 | []=>by simp only [Z1e]
 | c::cs=>by simp only [Z1e,List.length_cons,Z3O cs]
theorem Zcn:Z3q (.lit (.slice none 0 0))=.sl [] 0:=by simp only [Z3q]
theorem Zcm(cs:List AV):Z3q (.tup cs)=.tup (Z1e cs):=by simp only [Z3q]
theorem Zco(k:IntKind)(n:Int):Z3q (.int k n)=.int k n:=by simp only [Z3q]
theorem Zcp:Z1e []=[]:=by simp only [Z1e]
theorem Zbk(x:AV)(xs:List AV):Z1e (x::xs)=Z3q x::Z1e xs:=by simp only [Z1e]
theorem Z0q.soft{L0:Z01}{fr:List AV}{L:Z01}{S:List AV×Z01}(h:Z0q L0 (Z1e fr) L S):Z0q L0 fr L S:=.sem (fun m us=>Z0a.soft fr us) h
theorem Z0q.softH{L0:Z01}{fr:List AV}{L:Z01}{S:List AV×Z01}(id:Nat){cs:List AV}{sz v:Nat}(hL:L[id]?=some (.row cs sz v))(h:Z0q L0 fr (L.set id (.row (Z1e cs) sz v)) S):Z0q L0 fr L S:=.recell id (Z1e cs) hL (Z3O cs) (fun m us=>Z0a.soft cs us) h
attribute [push_cast] Zcn Zcm Zco Zcp Zbk
theorem Z02.recell{X:Cx}{k:List It}{fr:List AV}{L:Z01}(id:Nat)(cs':List AV){cs:List AV}{sz v:Nat}(hL:L[id]?=some (.row cs sz v))(hl:cs'.length=cs.length)(hc:∀m us,Z0a m L cs us→Z0a m L cs' us)
  (h:Z02 X k fr (L.set id (.row cs' sz v))):Z02 X k fr L:=fun m a w hR=>
 h m a w ⟨hR.wrel.recell hL hl (hc m),Z0a.mono (Z25 hL hl) _ _ hR.frel,hR.ext.recell hL hl,hR.defers⟩
theorem Z02.nilH{X:Cx}{k:List It}{fr:List AV}{L:Z01}(id j sz':Nat){cs:List AV}{sz v:Nat}(hL:L[id]?=some (.row cs sz v))(hj:cs.getD j .any=.lit (.slice none 0 0))
  (h:Z02 X k fr (L.set id (.row (cs.set j (.msl L.length 0 0 0)) sz v)++[.row [] sz' 0])):Z02 X k fr L:=by
 intro m a w hR
 have hlt:=(List.getElem?_eq_some_iff.1 hL).1
 have hL1:(L++[Z0Q.row [] sz' 0])[id]?=some (.row cs sz v):=by rw [List.getElem?_append_left hlt]; exact hL
 have e:L.set id (.row (cs.set j (.msl L.length 0 0 0)) sz v)++[Z0Q.row [] sz' 0]=(L++[Z0Q.row [] sz' 0]).set id (.row (cs.set j (.msl L.length 0 0 0)) sz v):=by
  rw [List.set_append_left _ _ hlt]
 rw [e] at h
 have hjl:j<cs.length:=by
  rcases Nat.lt_or_ge j cs.length with h' | h'
  ·exact h'
  ·simp [List.getD,List.getElem?_eq_none h'] at hj
 have hW1:=hR.wrel.nil (sz:=sz')
 have hE1:=hR.ext.nil (sz:=sz')
 have hc1:=Z0a.mono (Z4c (m:=m) (L:=L) (sz:=sz')) _ _ hR.frel
 have hv:Z03 (Z5b m L.length) (L++[Z0Q.row [] sz' 0]) (.msl L.length 0 0 0) (.slice none 0 0):=by
  simp only [Z03]
  exact⟨[],sz',0,by simp,Nat.le_refl _,⟨none,0,0,rfl⟩,fun _=>⟨by simp,by simp,none,by simp [Z5b],.inl (by simp [Z5b])⟩⟩
 have hcell:∀us,Z0a (Z5b m L.length) (L++[Z0Q.row [] sz' 0]) cs us→Z0a (Z5b m L.length) (L++[Z0Q.row [] sz' 0]) (cs.set j (.msl L.length 0 0 0)) us:=by
  intro us hcs
  refine Z0a.mk (by simp [hcs.length]) fun i c u hi hu=>?_
  rw [List.getElem?_set] at hi
  by_cases hij:j=i
  ·subst hij
   simp [hjl] at hi
   subst hi
   have:=hcs.getD j
   rw [hj] at this
   simp only [Z03] at this
   simp [List.getD,hu] at this
   rw [this]; exact hv
  ·simp [hij] at hi
   obtain⟨u1,hu1,hr1⟩:=hcs.get i c hi
   rw [hu] at hu1; obtain rfl:=Option.some.inj hu1; exact hr1
 exact h _ a w ⟨hW1.recell hL1 (by simp) hcell,Z0a.mono (Z25 hL1 (by simp)) _ _ hc1,hE1.recell hL1 (by simp),hR.defers⟩
inductive Pt where
 | fix (o:Z0Q)
 | row (sz ver:Nat)
 | len (n sz ver:Nat)
 | any
def Z1s:List Pt→Z01→Prop
 | [],_=>True
 | .fix o::ps,G=>∃G',G=o::G'∧Z1s ps G'
 | .row sz v::ps,G=>∃cs G',G=.row cs sz v::G'∧Z1s ps G'
 | .len n sz v::ps,G=>∃cs G',cs.length=n∧G=.row cs sz v::G'∧Z1s ps G'
 | .any::ps,G=>∃o G',G=o::G'∧Z1s ps G'
theorem ZkR(f:Z01→Prop):qob (Z1s []) f=∀A,f A:=propext ⟨fun h A=>h A trivial,fun h A _=>h A⟩
theorem ZkQ(o:Z0Q)(ps:List Pt)(f:Z01→Prop):qob (Z1s (.fix o::ps)) f=qob (Z1s ps) (fun G=>f (o::G)):=propext ⟨fun h G hG=>h _ ⟨G,rfl,hG⟩,fun h G ⟨G',e,hG⟩=>e▸h G' hG⟩
theorem ZkP(sz v:Nat)(ps:List Pt)(f:Z01→Prop):qob (Z1s (.row sz v::ps)) f=∀cs,qob (Z1s ps) (fun G=>f (.row cs sz v::G)):=propext ⟨fun h cs G hG=>h _ ⟨cs,G,rfl,hG⟩,fun h G ⟨cs,G',e,hG⟩=>e▸h cs G' hG⟩
theorem ZkO(ps:List Pt)(f:Z01→Prop):qob (Z1s (.any::ps)) f=∀o,qob (Z1s ps) (fun G=>f (o::G)):=propext ⟨fun h o G hG=>h _ ⟨o,G,rfl,hG⟩,fun h G ⟨o,G',e,hG⟩=>e▸h o G' hG⟩
theorem ZkZ(o:Z0Q)(ps:List Pt)(G:Z01):Z1s (.any::ps) (o::G)=Z1s ps G:=propext ⟨fun ⟨_,_,h,h'⟩=>by cases h; exact h',fun h=>⟨_,_,rfl,h⟩⟩
theorem Zl3(G:Z01):Z1s [] G=True:=rfl
theorem Zl2(o:Z0Q)(ps:List Pt)(G:Z01):Z1s (.fix o::ps) (o::G)=Z1s ps G:=by simp [Z1s]
theorem Zl1(cs:List AV)(sz v:Nat)(ps:List Pt)(G:Z01):Z1s (.row sz v::ps) (.row cs sz v::G)=Z1s ps G:=propext ⟨fun ⟨_,_,h,h'⟩=>by cases h; exact h',fun h=>⟨_,_,rfl,h⟩⟩
theorem Zl0(n:Nat)(cs:List AV)(sz v:Nat)(ps:List Pt)(G:Z01):Z1s (.len n sz v::ps) (.row cs sz v::G)=(cs.length=n∧Z1s ps G):=propext ⟨fun ⟨_,_,hl,h,h'⟩=>by cases h; exact⟨hl,h'⟩,fun h=>⟨_,_,h.1,rfl,h.2⟩⟩
theorem Z4b:∀(ps:List Pt) {G:Z01} (A:Z01),Z1s ps G→Z1s ps (G++A)
 | [],_,_,_=>trivial
 | .fix o::ps,_,A,⟨G',e,h⟩=>⟨G'++A,by rw [e]; rfl,Z4b ps A h⟩
 | .row sz v::ps,_,A,⟨cs,G',e,h⟩=>⟨cs,G'++A,by rw [e]; rfl,Z4b ps A h⟩
 | .len n sz v::ps,_,A,⟨cs,G',hl,e,h⟩=>⟨cs,G'++A,hl,by rw [e]; rfl,Z4b ps A h⟩
 | .any::ps,_,A,⟨o,G',e,h⟩=>⟨o,G'++A,by rw [e]; rfl,Z4b ps A h⟩
attribute [push_cast] ZkR ZkQ ZkP ZkO Zl3 Zl2 Zl1 Zl0 ZkZ
structure Zkf where
 ids:List AV→Z01→List Nat
 args:List AV→Z01→List AV
 start:List AV→Z01→Z01
 pre:List AV→Z01→Prop
 res:List AV→Z01→AV
 post:List AV→Z01→Z01
def liftH(g:Zkf):Z0n where
 pre xs L:=(∀x∈xs,Zhj L (g.ids xs L) x)∧(g.ids xs L).Nodup∧xs.map (Z3W L (g.ids xs L))=renL (fun j=>(g.ids xs L).getD j j) (g.args xs L)∧
  ((g.ids xs L).map fun i=>L[i]?)=((g.start xs L).map fun o=>some (Z1m (fun j=>(g.ids xs L).getD j j) o))∧Z1z (g.start xs L).length (g.args xs L)=true∧(g.start xs L).all (Z3s (g.start xs L).length)=true∧
  g.pre (g.args xs L) (g.start xs L)∧(xs.any (Z4p L (g.ids xs L))=true→Z3v (g.res (g.args xs L) (g.start xs L))=true∧(g.post (g.args xs L) (g.start xs L)).all Z4a=true)
 res xs L:=ren (Zgn (g.ids xs L) L.length) (g.res (g.args xs L) (g.start xs L))
 post xs L:=Z8x (g.ids xs L) L (g.post (g.args xs L) (g.start xs L))
 quiet:=false
section
variable {P:Program} {Γ:Env}
open Classical in
theorem Con.liftH{f:FuncId} (hfn:∃fn,P.funcs[f]?=some fn∧fn.body.isNone=false∧(fn.name == "runtime.NumGoroutine")=false) {g:Zkf}
  (h:∀(m:Mem) (L:Z01) (w:World) (xs:List AV) (vs:List Value),Z0D m L w→Z0a m L xs vs→g.pre xs L→Calls P f vs.toArray w (ZfW m L w (g.res xs L) (g.post xs L))):Con P f (Eng.liftH g) where
 quiet hq:=by cases hq
 runs:=.inl ⟨hfn,fun m L w xs vs hW hx hp=>by
  obtain⟨h1,h2,h3,h4,h5,h6,h7,h8⟩:=hp
  obtain⟨ids,hids⟩:∃ids,ids=g.ids xs L:=⟨_,rfl⟩
  rw [←hids] at h1 h2 h3 h4 h8
  obtain⟨mp,hmp⟩:∃mp:Mem,mp=if xs.any (Z4p L ids)=true then { m with pobj:=fun g=>if (∃i∈ids,Own m L i∧m.blk i=g)∨(∃i∈ids,Hid m L i g) then none else w.heap[g]? } else m:=⟨_,rfl⟩
  have hpin:∀g o,m.pobj g=some o→mp.pobj g=some o:=by
   intro g o hv
   rw [hmp]
   split
   ·simp only
    rw [if_neg]
    ·exact hW.pobjs _ _ hv
    ·rintro (⟨i,hi,ho,rfl⟩ | ⟨i,hi,hk⟩)
     ·have:=hW.freeo i ho
      rw [hv] at this; cases this
     ·have:=hW.hid.free i _ hk
      rw [hv] at this; cases this
   ·exact hv
  have hblk:mp.blk=m.blk∧mp.cap=m.cap:=by rw [hmp]; split <;> exact⟨rfl,rfl⟩
  have hpins:∀g o,mp.pobj g=some o→w.heap[g]?=some o:=by
   intro g o hv
   rw [hmp] at hv
   split at hv
   ·simp only at hv
    split at hv
    ·cases hv
    ·exact hv
   ·exact hW.pobjs _ _ hv
  have hfree:∀i∈ids,Own m L i→mp.pobj (m.blk i)=none:=by
   intro i hi ho
   rw [hmp]
   split
   ·simp only
    rw [if_pos (.inl ⟨i,hi,ho,rfl⟩)]
   ·exact hW.freeo i ho
  have M:Z4D m L mp L:=⟨hpin,fun id cs sz ver h=>⟨cs,ver,h,Nat.le_refl _,fun _=>⟨rfl,by rw [hblk.1],by rw [hblk.2]⟩⟩,fun id r h=>⟨r,h,by rw [hblk.1]⟩⟩
  have hx':Z0a mp L (xs.map (Z3W L ids)) vs:=(Zmw hW M (keep:=Z3y ids) (full:=xs.any (Z4p L ids)=true) fun hf g hno hnh=>by
   rw [hmp,if_pos hf]
   simp only
   rw [if_neg]
   rintro (⟨i,hi,ho,he⟩ | ⟨i,hi,hk⟩)
   ·exact hno i (by simp [Z3y,hi]) ho he
   ·exact hnh i (by simp [Z3y,hi]) hk).list hx h1 (fun h=>h)
  have hw:Zc3 0 ids (xs.map (Z3W L ids)) L (g.args xs L) (g.start xs L):=⟨by rw [h3]; exact Z17 _,h4,h2,rfl,h5,h6⟩
  have H:=hw.renamed mp
  have hc0:=Z0a.ren H _ _ (by rw [←h3]; exact hx') h5
  obtain⟨mb,hmb⟩:∃mb:Mem,mb={ mp with blk:=fun i=>mp.blk (ids.getD i i),cap:=fun i=>mp.cap (ids.getD i i) }:=⟨_,rfl⟩
  rw [←hmb] at H hc0
  have hgd:∀j,j<ids.length→ids.getD j j=ids.getD j 0:=fun j hj=>by simp [List.getD,hj]
  have HL:Za9 m mb L (g.start xs L) ids:=⟨h2,h4,fun j hj=>by rw [hmb]; simp only [hblk.1,hgd j hj],fun j hj=>by rw [hmb]; simp only [hblk.2,hgd j hj],fun g o hv=>by rw [hmb]; exact hpin g o hv⟩
  have hfreeH:∀i∈ids,∀g,Hid m L i g→mp.pobj g=none:=by
   intro i hi g hk
   rw [hmp]
   split
   ·simp only
    rw [if_pos (.inr ⟨i,hi,hk⟩)]
   ·exact hW.hid.free i g hk
  have hW0:Z0D mb (g.start xs L) w:=by
   have hs':∀o∈g.start xs L,Z3s (g.start xs L).length o=true:=by simpa [List.all_eq_true] using h6
   refine⟨hW.glob.mono fun g o hv=>by rw [hmb]; exact hpin g o hv,fun g o hv=>hpins g o (by rw [hmb] at hv; exact hv),fun j cs sz ver hL hc=>?_,fun j cs sz ver hL hc=>?_,fun j r hL=>?_,fun i j hi hj he=>?_,fun j ho=>?_,⟨fun j T e l hL=>?_,fun j g k=>?_,fun j g k i hi=>?_,fun i j g k1 k2=>?_⟩⟩
   ·obtain⟨k1,k2⟩:=HL.at hL
    rw [HL.cap j k1] at hc ⊢
    obtain⟨us,rest,elem,lo,hi,q1,q2,q3,q4⟩:=hW.rows _ _ _ _ k2 hc
    have hscp:=hs' _ (List.mem_of_getElem? hL)
    exact⟨us,rest,elem,lo,hi,by rw [HL.blk j k1]; exact q1,Z0a.ren H _ _ (Z0a.mono M _ _ q2) (by simpa [Z3s] using hscp),q3,q4⟩
   ·obtain⟨k1,k2⟩:=HL.at hL
    rw [HL.cap j k1] at hc
    have:=hW.nils _ _ _ _ k2 hc
    rw [Z2m] at this
    simpa using this
   ·obtain⟨k1,k2⟩:=HL.at hL
    rw [HL.blk j k1]; exact hW.iters _ _ k2
   ·obtain⟨a1,a2,a3⟩:=HL.own hi
    obtain⟨b1,b2,b3⟩:=HL.own hj
    exact Z51 h2 a1 b1 (hW.inj _ _ a2 b2 (by omega))
   ·obtain⟨a1,a2,a3⟩:=HL.own ho
    rw [a3,hmb]
    exact hfree _ (Z1o a1) a2
   ·obtain⟨k1,k2⟩:=HL.at hL
    rw [HL.blk j k1,HL.cap j k1]; exact hW.hid.at_ _ _ _ _ k2
   ·obtain⟨a1,a2⟩:=HL.hid k
    rw [hmb]; exact hfreeH _ (Z1o a1) g a2
   ·obtain⟨a1,a2⟩:=HL.hid k
    obtain⟨b1,b2,b3⟩:=HL.own hi
    rw [b3]; exact hW.hid.own _ _ a2 _ b2
   ·obtain⟨a1,a2⟩:=HL.hid k1
    obtain⟨b1,b2⟩:=HL.hid k2
    exact Z51 h2 a1 b1 (hW.hid.inj _ _ _ a2 b2)
  have:=(h mb (g.start xs L) w (g.args xs L) vs hW0 hc0 h7).mono fun e w' hpost=>Z73 hW HL (xs.any (Z4p L ids)) (fun hf=>by rw [hmb,hmp,hf]; rfl) hpost h8
  rw [hids] at this
  exact this⟩
theorem Con.liftH_of_body(hΓ:Z07 P Γ){f:FuncId}{fn:Func}(hf:P.funcs[f]?=some fn)(hb:fn.body.isNone=false) (hn:(fn.name == "runtime.NumGoroutine")=false) {g:Zkf}
  (h:∀xs L,g.pre xs L→Z08 P Γ fn xs L (g.res xs L) (g.post xs L)):Con P f (Eng.liftH g):=
 Con.liftH ⟨fn,hf,hb,hn⟩ fun m L w xs vs hW hx hp=>Z3F hΓ hf (h xs L hp) hW hx
end
mutual
def Z37:AV→List Nat
 | .ref id _ _=>[id]
 | .fn _ a b=>Z3K a++Z3K b
 | .agg cs=>Z3K cs
 | _=>[]
def Z3K:List AV→List Nat
 | []=>[]
 | x::xs=>Z37 x++Z3K xs
end
def Z21:List AV→List Nat
 | []=>[]
 | .msl id _ _ _::xs=>id::Z21 xs
 | .ref id _ _::xs=>id::Z21 xs
 | .mp id::xs=>id::Z21 xs
 | _::xs=>Z21 xs
def Z38(deep:Bool)(L:Z01)(id:Nat):List Nat:=match L[id]? with
 | some (.row cs _ _)=>cond deep (Z21 cs) (Z3K cs)
 | _=>[]
def inL:List Nat→Nat→Bool
 | [],_=>false
 | i::is,j=>i == j || inL is j
def Z0T:List Nat→List Nat→List Nat
 | is,[]=>is
 | is,j::js=>cond (inL is j) (Z0T is js) (Z0T (is++[j]) js)
def Z1Q:List Nat→List Nat→List Nat
 | _,[]=>[]
 | is,j::js=>cond (inL is j) (Z1Q is js) (j::Z1Q is js)
def ZfZ:List Nat→Nat→Nat
 | [],_=>0
 | i::is,j=>cond (i == j) 0 (ZfZ is j+1)
def Z1v(deep:Bool)(L:Z01):Nat→List Nat→List Nat→List Nat
 | 0,is,_=>is
 | _+1,is,[]=>is
 | n+1,is,q::qs=>Z1v deep L n (Z0T is (Z38 deep L q)) (qs++Z1Q is (Z38 deep L q))
def Z68(deep:Bool)(xs:List AV)(L:Z01):List Nat:=Z1v deep L 9 (Z0T [] (Z3K xs)) (Z0T [] (Z3K xs))
theorem Zjo(j:Nat):inL [] j=false:=rfl
theorem Zhm(i j:Nat)(is:List Nat):inL (i::is) j=(i == j || inL is j):=rfl
theorem ZbV(is:List Nat):Z0T is []=is:=rfl
theorem Za7(is js:List Nat)(j:Nat):Z0T is (j::js)=cond (inL is j) (Z0T is js) (Z0T (is++[j]) js):=rfl
theorem ZdF(is:List Nat):Z1Q is []=[]:=rfl
theorem ZbF(is js:List Nat)(j:Nat):Z1Q is (j::js)=cond (inL is j) (Z1Q is js) (j::Z1Q is js):=rfl
theorem Zho(j:Nat):ZfZ [] j=0:=rfl
theorem ZdW(i j:Nat)(is:List Nat):ZfZ (i::is) j=cond (i == j) 0 (ZfZ is j+1):=rfl
theorem ZgB(deep:Bool)(xs:List AV)(L:Z01):Z68 deep xs L=Z1v deep L 9 (Z0T [] (Z3K xs)) (Z0T [] (Z3K xs)):=rfl
theorem Zbr(deep:Bool)(L:Z01)(n:Nat)(is:List Nat):Z1v deep L n is []=is:=by cases n <;> rfl
theorem ZgC(deep:Bool)(L:Z01)(is qs:List Nat)(q:Nat):Z1v deep L 9 is (q::qs)=Z1v deep L 8 (Z0T is (Z38 deep L q)) (qs++Z1Q is (Z38 deep L q)):=rfl
theorem ZgD(deep:Bool)(L:Z01)(is qs:List Nat)(q:Nat):Z1v deep L 8 is (q::qs)=Z1v deep L 7 (Z0T is (Z38 deep L q)) (qs++Z1Q is (Z38 deep L q)):=rfl
theorem ZgE(deep:Bool)(L:Z01)(is qs:List Nat)(q:Nat):Z1v deep L 7 is (q::qs)=Z1v deep L 6 (Z0T is (Z38 deep L q)) (qs++Z1Q is (Z38 deep L q)):=rfl
theorem ZgF(deep:Bool)(L:Z01)(is qs:List Nat)(q:Nat):Z1v deep L 6 is (q::qs)=Z1v deep L 5 (Z0T is (Z38 deep L q)) (qs++Z1Q is (Z38 deep L q)):=rfl
theorem ZgG(deep:Bool)(L:Z01)(is qs:List Nat)(q:Nat):Z1v deep L 5 is (q::qs)=Z1v deep L 4 (Z0T is (Z38 deep L q)) (qs++Z1Q is (Z38 deep L q)):=rfl
theorem ZgH(deep:Bool)(L:Z01)(is qs:List Nat)(q:Nat):Z1v deep L 4 is (q::qs)=Z1v deep L 3 (Z0T is (Z38 deep L q)) (qs++Z1Q is (Z38 deep L q)):=rfl
theorem ZgI(deep:Bool)(L:Z01)(is qs:List Nat)(q:Nat):Z1v deep L 3 is (q::qs)=Z1v deep L 2 (Z0T is (Z38 deep L q)) (qs++Z1Q is (Z38 deep L q)):=rfl
theorem ZcL(id v o:Nat):Z37 (.ref id v o)=[id]:=rfl
theorem ZcQ(cs:List AV):Z37 (.agg cs)=Z3K cs:=by simp only [Z37]
theorem ZcP(k:IntKind)(n:Int):Z37 (.int k n)=[]:=rfl
theorem ZcK(l:List UInt8):Z37 (.str l)=[]:=rfl
theorem Zbm(b:Bool):Z37 (.bool b)=[]:=rfl
theorem ZcO(v:Value):Z37 (.lit v)=[]:=rfl
theorem Zgv(cs:List AV)(n:Nat):Z37 (.sl cs n)=[]:=by simp only [Z37]
theorem ZcM(a b c d:Nat):Z37 (.msl a b c d)=[]:=rfl
theorem ZcN(k:Option IntKind)(f:Key→Option Value):Z37 (.mpr k f)=[]:=rfl
theorem Zgw(id:Nat):Z37 (.mp id)=[]:=rfl
theorem ZcR:Z3K []=[]:=rfl
theorem Zbn(x:AV)(xs:List AV):Z3K (x::xs)=Z37 x++Z3K xs:=by simp only [Z3K]
theorem ZcF:Z21 []=[]:=rfl
theorem ZcG(id v o n:Nat)(xs:List AV):Z21 (.msl id v o n::xs)=id::Z21 xs:=rfl
theorem ZcE(id v o:Nat)(xs:List AV):Z21 (.ref id v o::xs)=id::Z21 xs:=rfl
theorem Zgs(id:Nat)(xs:List AV):Z21 (.mp id::xs)=id::Z21 xs:=rfl
theorem ZcJ(k:IntKind)(n:Int)(xs:List AV):Z21 (.int k n::xs)=Z21 xs:=rfl
theorem ZcD(l:List UInt8)(xs:List AV):Z21 (.str l::xs)=Z21 xs:=rfl
theorem Zbl(b:Bool)(xs:List AV):Z21 (.bool b::xs)=Z21 xs:=rfl
theorem ZcI(v:Value)(xs:List AV):Z21 (.lit v::xs)=Z21 xs:=rfl
theorem Zgr(cs:List AV)(n:Nat)(xs:List AV):Z21 (.sl cs n::xs)=Z21 xs:=rfl
theorem Zgt(cs:List AV)(xs:List AV):Z21 (.ip cs::xs)=Z21 xs:=rfl
mutual
theorem Zdi:∀x:AV,Z0s x=true→Z37 x=[]
 | .agg cs,h=>by simp only [Z0s,Z37] at *; exact Z2A cs h
 | .fn _ a b,h=>by simp only [Z0s,Z37,Bool.and_eq_true] at *; rw [Z2A a h.1,Z2A b h.2]; rfl
 | .tup _,_=>by simp only [Z37]
 | .sl ..,_=>by simp only [Z37]
 | .ip _,_=>by simp only [Z37]
 | .ifc ..,_=>by simp only [Z37]
 | .int ..,_=>rfl
 | .bool _,_=>rfl
 | .str _,_=>rfl
 | .lit _,_=>rfl
 | .mpr ..,_=>rfl
 | .any,h=>by simp [Z0s] at h
 | .msl ..,h=>by simp [Z0s] at h
 | .ref ..,h=>by simp [Z0s] at h
 | .when ..,h=>by simp [Z0s] at h
 | .alt ..,h=>by simp [Z0s] at h
 | .ub ..,h=>by simp [Z0s] at h
 | .csl ..,h=>by simp [Z0s] at h
 | .mp ..,h=>by simp [Z0s] at h
theorem Z2A:∀xs:List AV,Z1G xs=true→Z3K xs=[]
 | [],_=>rfl
 | x::xs,h=>by simp only [Z1G,Z3K,Bool.and_eq_true] at *; rw [Zdi x h.1,Z2A xs h.2]; rfl
end
theorem Z5g:∀xs:List AV,Z1G xs=true→Z21 xs=[]
 | [],_=>rfl
 | x::xs,h=>by
  simp only [Z1G,Bool.and_eq_true] at h
  have:=Z5g xs h.2
  cases x <;> simp only [Z21,this] <;> simp [Z0s] at h
section
variable {α:Type} {f:α→AV} {g:α→List AV}
theorem ZcS[Z42 f](xs:List α):Z3K (xs.map f)=[]:=Z2A _ (Z1a xs)
theorem Zgx[Z1U g](xs:List α):Z3K (xs.flatMap g)=[]:=Z2A _ (Z28 xs)
theorem ZcH[Z42 f](xs:List α):Z21 (xs.map f)=[]:=Z5g _ (Z1a xs)
theorem Zgu[Z1U g](xs:List α):Z21 (xs.flatMap g)=[]:=Z5g _ (Z28 xs)
end
attribute [push_cast] Zjo Zhm ZbV Za7 ZdF ZbF Zho ZdW ZgB Zbr ZgC ZgD ZgE ZgF ZgG ZgH ZgI ZcL ZcQ ZcP ZcK Zbm ZcO Zgv ZcM ZcN Zgw ZcR Zbn ZcF Zgs ZcG ZcE ZcJ ZcD Zbl ZcI Zgr Zgt Z38 ZcS Zgx ZcH Zgu
open Classical in
noncomputable def Z0U{α β κ:Type}(e:α→κ)(r:α→β)(d:β)(x:κ):β:=if h:∃a,x=e a then r h.choose else d
theorem Z0d{α β κ:Type}{e:α→κ}(hi:∀a b,e a=e b→a=b)(r:α→β)(d:β)(a:α):Z0U e r d (e a)=r a:=by
 have h:∃b,e a=e b:=⟨a,rfl⟩
 unfold Z0U
 rw [dif_pos h,←hi _ _ h.choose_spec]
def Z1Y{α κ:Type}(e:α→κ)(p:α→Prop)(x:κ):Prop:=∃a,x=e a∧p a
theorem Z0J{α κ:Type}{e:α→κ}(hi:∀a b,e a=e b→a=b)(p:α→Prop)(a:α):Z1Y e p (e a)=p a:=
 propext ⟨fun ⟨b,h1,h2⟩=>by rw [hi _ _ h1]; exact h2,fun h=>⟨a,rfl,h⟩⟩
noncomputable def Z7X{α:Type}(deep:Bool)(e:α→List AV×Z01)(p:α→Prop)(r:α→AV)(h:α→Z01):Z0n:=liftH {
 ids:=Z68 deep
 args:=fun xs L=>renL (fun j=>ZfZ (Z68 deep xs L) j) (xs.map (Z3W L (Z68 deep xs L)))
 start:=fun xs L=>(Z68 deep xs L).map fun i=>Z1m (fun j=>ZfZ (Z68 deep xs L) j) (L.getD i .dead)
 pre:=fun xs L=>Z1Y e p (xs,L)
 res:=fun xs L=>Z0U e r .any (xs,L)
 post:=fun xs L=>Z0U e h [] (xs,L) }
attribute [push_cast] Z7X liftH
theorem Z2g{P:Program}{Γ:Env}(hΓ:Z07 P Γ){f:FuncId}{fn:Func}(hf:P.funcs[f]?=some fn)(hb:fn.body.isNone=false) (hn:(fn.name == "runtime.NumGoroutine")=false) {α:Type} {deep:Bool} {e:α→List AV×Z01} {p:α→Prop} {r:α→AV} {h:α→Z01}
  (hi:∀a b,e a=e b→a=b) (hh:∀a,p a→Z08 P Γ fn (e a).1 (e a).2 (r a) (h a)):Con P f (Z7X deep e p r h):=by
 refine Con.liftH_of_body hΓ hf hb hn fun xs L hx=>?_
 obtain⟨a,ha,hp⟩:=hx
 simp only
 rw [ha,Z0d hi,Z0d hi]
 have h1:xs=(e a).1:=by rw [←ha]
 have h2:L=(e a).2:=by rw [←ha]
 rw [h1,h2]
 exact hh a hp
mutual
def Z2X:AV→List Nat
 | .ref id _ _=>[id]
 | .msl id _ _ _=>[id]
 | .csl id _ _ _=>[id]
 | .mp id=>[id]
 | .fn _ a b=>Z1B a++Z1B b
 | .agg cs=>Z1B cs
 | .tup cs=>Z1B cs
 | .ifc _ x=>Z2X x
 | _=>[]
def Z1B:List AV→List Nat
 | []=>[]
 | x::xs=>Z2X x++Z1B xs
end
def Z12(L:Z01)(id:Nat):List Nat:=match L[id]? with
 | some (.row cs _ _)=>Z1B cs
 | _=>[]
def Z0M(L:Z01):Nat→List Nat→List Nat→List Nat
 | 0,is,_=>is
 | _+1,is,[]=>is
 | n+1,is,q::qs=>Z0M L n (Z0T is (Z12 L q)) (qs++Z1Q is (Z12 L q))
def Z6W(xs:List AV)(L:Z01):List Nat:=Z0M L 16 (Z0T [] (Z1B xs)) (Z0T [] (Z1B xs))
theorem Zd2(xs:List AV)(L:Z01):Z6W xs L=Z0M L 16 (Z0T [] (Z1B xs)) (Z0T [] (Z1B xs)):=rfl
theorem Z9z(L:Z01)(n:Nat)(is:List Nat):Z0M L n is []=is:=by cases n <;> rfl
theorem Zbs(L:Z01)(is qs:List Nat)(q:Nat):Z0M L 16 is (q::qs)=Z0M L 15 (Z0T is (Z12 L q)) (qs++Z1Q is (Z12 L q)):=rfl
theorem Zbt(L:Z01)(is qs:List Nat)(q:Nat):Z0M L 15 is (q::qs)=Z0M L 14 (Z0T is (Z12 L q)) (qs++Z1Q is (Z12 L q)):=rfl
theorem Zbu(L:Z01)(is qs:List Nat)(q:Nat):Z0M L 14 is (q::qs)=Z0M L 13 (Z0T is (Z12 L q)) (qs++Z1Q is (Z12 L q)):=rfl
theorem Zbv(L:Z01)(is qs:List Nat)(q:Nat):Z0M L 13 is (q::qs)=Z0M L 12 (Z0T is (Z12 L q)) (qs++Z1Q is (Z12 L q)):=rfl
theorem Zbw(L:Z01)(is qs:List Nat)(q:Nat):Z0M L 12 is (q::qs)=Z0M L 11 (Z0T is (Z12 L q)) (qs++Z1Q is (Z12 L q)):=rfl
theorem Zbx(L:Z01)(is qs:List Nat)(q:Nat):Z0M L 11 is (q::qs)=Z0M L 10 (Z0T is (Z12 L q)) (qs++Z1Q is (Z12 L q)):=rfl
theorem Zby(L:Z01)(is qs:List Nat)(q:Nat):Z0M L 10 is (q::qs)=Z0M L 9 (Z0T is (Z12 L q)) (qs++Z1Q is (Z12 L q)):=rfl
theorem Zd3(L:Z01)(is qs:List Nat)(q:Nat):Z0M L 9 is (q::qs)=Z0M L 8 (Z0T is (Z12 L q)) (qs++Z1Q is (Z12 L q)):=rfl
theorem Zd4(L:Z01)(is qs:List Nat)(q:Nat):Z0M L 8 is (q::qs)=Z0M L 7 (Z0T is (Z12 L q)) (qs++Z1Q is (Z12 L q)):=rfl
theorem Zd5(L:Z01)(is qs:List Nat)(q:Nat):Z0M L 7 is (q::qs)=Z0M L 6 (Z0T is (Z12 L q)) (qs++Z1Q is (Z12 L q)):=rfl
theorem Zd6(L:Z01)(is qs:List Nat)(q:Nat):Z0M L 6 is (q::qs)=Z0M L 5 (Z0T is (Z12 L q)) (qs++Z1Q is (Z12 L q)):=rfl
theorem Zd7(L:Z01)(is qs:List Nat)(q:Nat):Z0M L 5 is (q::qs)=Z0M L 4 (Z0T is (Z12 L q)) (qs++Z1Q is (Z12 L q)):=rfl
theorem Zd8(L:Z01)(is qs:List Nat)(q:Nat):Z0M L 4 is (q::qs)=Z0M L 3 (Z0T is (Z12 L q)) (qs++Z1Q is (Z12 L q)):=rfl
theorem Zd9(L:Z01)(is qs:List Nat)(q:Nat):Z0M L 3 is (q::qs)=Z0M L 2 (Z0T is (Z12 L q)) (qs++Z1Q is (Z12 L q)):=rfl
theorem ZcU(id v o:Nat):Z2X (.ref id v o)=[id]:=rfl
theorem ZcV(a b c d:Nat):Z2X (.msl a b c d)=[a]:=rfl
theorem ZcZ(a b c d:Nat):Z2X (.csl a b c d)=[a]:=rfl
theorem Zgz(id:Nat):Z2X (.mp id)=[id]:=rfl
theorem ZcY(k:IntKind)(n:Int):Z2X (.int k n)=[]:=rfl
theorem ZcT(l:List UInt8):Z2X (.str l)=[]:=rfl
theorem Zbo(b:Bool):Z2X (.bool b)=[]:=rfl
theorem ZcX(v:Value):Z2X (.lit v)=[]:=rfl
theorem Zd0:Z2X .any=[]:=rfl
theorem Zgy(cs:List AV)(n:Nat):Z2X (.sl cs n)=[]:=by simp only [Z2X]
theorem ZcW(k:Option IntKind)(f:Key→Option Value):Z2X (.mpr k f)=[]:=rfl
theorem Zbp:Z1B []=[]:=rfl
theorem Z9y(x:AV)(xs:List AV):Z1B (x::xs)=Z2X x++Z1B xs:=by simp only [Z1B]
theorem Z4Q:∀xs ys:List AV,Z1B (xs++ys)=Z1B xs++Z1B ys
 | [],ys=>rfl
 | x::xs,ys=>by simp only [List.cons_append,Z1B,Z4Q xs ys,List.append_assoc]
mutual
theorem Z6Y:∀x:AV,Z0s x=true→Z2X x=[]
 | .agg cs,h=>by simp only [Z0s,Z2X] at *; exact Z1O cs h
 | .tup cs,h=>by simp only [Z0s,Z2X] at *; exact Z1O cs h
 | .fn _ a b,h=>by simp only [Z0s,Z2X,Bool.and_eq_true] at *; rw [Z1O a h.1,Z1O b h.2]; rfl
 | .ifc _ x,h=>by simp only [Z0s,Z2X] at *; exact Z6Y x h
 | .sl ..,_=>by simp only [Z2X]
 | .ip _,_=>by simp only [Z2X]
 | .int ..,_=>rfl
 | .bool _,_=>rfl
 | .str _,_=>rfl
 | .lit _,_=>rfl
 | .mpr ..,_=>rfl
 | .any,h=>by simp [Z0s] at h
 | .msl ..,h=>by simp [Z0s] at h
 | .ref ..,h=>by simp [Z0s] at h
 | .when ..,h=>by simp [Z0s] at h
 | .alt ..,h=>by simp [Z0s] at h
 | .ub ..,h=>by simp [Z0s] at h
 | .csl ..,h=>by simp [Z0s] at h
 | .mp ..,h=>by simp [Z0s] at h
theorem Z1O:∀xs:List AV,Z1G xs=true→Z1B xs=[]
 | [],_=>rfl
 | x::xs,h=>by simp only [Z1G,Z1B,Bool.and_eq_true] at *; rw [Z6Y x h.1,Z1O xs h.2]; rfl
end
section
variable {α:Type} {f:α→AV} {g:α→List AV}
theorem Zbq[Z42 f](xs:List α):Z1B (xs.map f)=[]:=Z1O _ (Z1a xs)
theorem Zd1[Z1U g](xs:List α):Z1B (xs.flatMap g)=[]:=Z1O _ (Z28 xs)
end
attribute [push_cast] Zd2 Z9z Zbs Zbt Zbu Zbv Zbw Zbx Zby Zd3 Zd4 Zd5 Zd6 Zd7 Zd8 Zd9 ZcU ZcV ZcZ Zgz ZcY ZcT Zbo ZcX Zd0 Zgy ZcW Zbp Z9y Z4Q Z12 Zbq Zd1
noncomputable def Z6L{α:Type}(e:α→List AV×Z01)(p:α→Prop)(r:α→AV)(h:α→Z01):Z0n:=liftH {
 ids:=Z6W
 args:=fun xs L=>renL (fun j=>ZfZ (Z6W xs L) j) (xs.map (Z3W L (Z6W xs L)))
 start:=fun xs L=>(Z6W xs L).map fun i=>Z1m (fun j=>ZfZ (Z6W xs L) j) (L.getD i .dead)
 pre:=fun xs L=>Z1Y e p (xs,L)
 res:=fun xs L=>Z0U e r .any (xs,L)
 post:=fun xs L=>Z0U e h [] (xs,L) }
attribute [push_cast] Z6L
theorem Z2f{P:Program}{Γ:Env}(hΓ:Z07 P Γ){f:FuncId}{fn:Func}(hf:P.funcs[f]?=some fn)(hb:fn.body.isNone=false) (hn:(fn.name == "runtime.NumGoroutine")=false) {α:Type} {e:α→List AV×Z01} {p:α→Prop} {r:α→AV} {h:α→Z01}
  (hi:∀a b,e a=e b→a=b) (hh:∀a,p a→Z08 P Γ fn (e a).1 (e a).2 (r a) (h a)):Con P f (Z6L e p r h):=by
 refine Con.liftH_of_body hΓ hf hb hn fun xs L hx=>?_
 obtain⟨a,ha,hp⟩:=hx
 simp only
 rw [ha,Z0d hi,Z0d hi]
 have h1:xs=(e a).1:=by rw [←ha]
 have h2:L=(e a).2:=by rw [←ha]
 rw [h1,h2]
 exact hh a hp
theorem Z1u:∀xs ys:List AV,Z1e (xs++ys)=Z1e xs++Z1e ys
 | [],ys=>by simp only [Z1e,List.nil_append]
 | x::xs,ys=>by simp only [List.cons_append,Z1e,Z1u xs ys]
theorem Z8k:∀n:Nat,Z1e (List.replicate n .any)=List.replicate n .any
 | 0=>by simp only [List.replicate_zero,Z1e]
 | n+1=>by simp only [List.replicate_succ,Z1e,Z8k n,Z3q]
theorem Z08.soft{P:Program}{Γ:Env}{fn:Func}{xs:List AV}{L L':Z01}{res:AV}(h:Z08 P Γ fn (Z1e xs) L res L'):Z08 P Γ fn xs L res L':=by
 intro X h1 h2 h3 h4
 obtain⟨c,hc,hh⟩:=h X h1 h2 h3 h4
 have e:Z4X (Z1e xs) fn.ntmps=Z1e (Z4X xs fn.ntmps):=by
  simp only [Z4X,Z1u,Z8k,Z3O]
 rw [e] at hh
 exact⟨c,hc,Z02.weak (S:=(Z1e (Z4X xs fn.ntmps),L)) (.soft (.refl (Z1e (Z4X xs fn.ntmps),L))) hh⟩
theorem Z02.frz{X:Cx}{k:List It}{fr:List AV}{L:Z01}(id:Nat)(hn:X.B.L.length≤id)(hok:Z2Q L id)(h:Z02 X k (Z4H L id fr) (Z5c L id)):Z02 X k fr L:=
 Z02.weak (S:=(Z4H L id fr,Z5c L id)) (.frz id hn hok (.refl (Z4H L id fr,Z5c L id))) h
theorem Z02.soft{X:Cx}{k:List It}{fr:List AV}{L:Z01}(h:Z02 X k (Z1e fr) L):Z02 X k fr L:=
 Z02.weak (S:=(Z1e fr,L)) (.soft (.refl (Z1e fr,L))) h
end Go.Eng
end
section
namespace Go.Eng
open Go Go.RowKit
end Go.Eng
end
