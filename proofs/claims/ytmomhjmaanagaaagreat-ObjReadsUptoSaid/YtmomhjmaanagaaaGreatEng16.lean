/- The engine, part 16: loops by the slots they turn; values that lead to no own row, and rows of them. -/
import Derived.Test.YtmomhjmaanagaaaGreatEng15
set_option linter.unusedVariables false
set_option linter.unusedSimpArgs false
namespace Go.Eng
open Go
def ZjD(ws:List Nat)(fr:List AV):List AV:=ws.foldl (fun f i=>f.set i .any) fr
def Zgz(us:List (Nat×AV))(fr:List AV):List AV:=us.foldl (fun f p=>f.set p.1 p.2) fr
theorem ZdY(fr:List AV):ZjD [] fr=fr:=rfl
theorem ZaN(i:Nat)(ws:List Nat)(fr:List AV):ZjD (i::ws) fr=ZjD ws (fr.set i .any):=rfl
theorem Ze0(fr:List AV):Zgz [] fr=fr:=rfl
theorem ZaP(p:Nat×AV)(us:List (Nat×AV))(fr:List AV):Zgz (p::us) fr=Zgz us (fr.set p.1 p.2):=rfl
def Z62:List Bool→List AV→List AV
 | true::bs,x::xs=>x::Z62 bs xs
 | false::bs,_::xs=>.any::Z62 bs xs
 | _,_=>[]
theorem Zhd(bs:List Bool)(x:AV)(xs:List AV):Z62 (true::bs) (x::xs)=x::Z62 bs xs:=rfl
theorem Zhe(bs:List Bool)(x:AV)(xs:List AV):Z62 (false::bs) (x::xs)=.any::Z62 bs xs:=rfl
theorem Zca:Z62 [] []=[]:=rfl
theorem Holds.loopM{X:Cx}{b:Code}{k:List It}{fr:List AV}{L:Heap}{ι:Type}(ms:List Bool)(us:ι→List (Nat×AV))(Lf:ι→Heap)(μ:ι→Nat)(i0:ι)
  (h0:Z06 X.B.L fr L (Zgz (us i0) (Z62 ms fr),Lf i0))
  (h:∀i,Holds X (.code b::.chk (fun fr' L'=>∃j,μ j<μ i∧Z06 X.B.L fr' L' (Zgz (us j) (Z62 ms fr),Lf j))::k) (Zgz (us i) (Z62 ms fr)) (Lf i)):Holds X (.code (.loop b)::k) fr L:=
 Holds.loop (fun i=>(Zgz (us i) (Z62 ms fr),Lf i)) μ i0 h0 h
mutual
def Z0H:AV→Bool
 | .agg cs=>Z1D cs
 | .tup cs=>Z1D cs
 | .sl cs _=>Z1D cs
 | .ip cs=>Z1D cs
 | .fn _ a b=>Z1D a && Z1D b
 | .ifc _ x=>Z0H x
 | .int ..=>true
 | .bool _=>true
 | .str _=>true
 | .lit _=>true
 | .mpr ..=>true
 | _=>false
def Z1D:List AV→Bool
 | []=>true
 | x::xs=>Z0H x && Z1D xs
end
theorem Z43:∀xs:List AV,Z1D xs=xs.all Z0H
 | []=>rfl
 | x::xs=>by simp only [Z1D,List.all_cons,Z43 xs]
mutual
theorem Z9v(n:Nat):∀x:AV,Z0H x=true→scp n x=true
 | .agg cs,h=>by simp only [Z0H,scp] at *; exact Z0X n cs h
 | .tup cs,h=>by simp only [Z0H,scp] at *; exact Z0X n cs h
 | .sl cs _,h=>by simp only [Z0H,scp] at *; exact Z0X n cs h
 | .ip cs,h=>by simp only [Z0H,scp] at *; exact Z0X n cs h
 | .fn _ a b,h=>by simp only [Z0H,scp,Bool.and_eq_true] at *; exact⟨Z0X n a h.1,Z0X n b h.2⟩
 | .ifc _ x,h=>by simp only [Z0H,scp] at *; exact Z9v n x h
 | .int ..,_=>rfl
 | .bool _,_=>rfl
 | .str _,_=>rfl
 | .lit _,_=>rfl
 | .mpr ..,_=>rfl
 | .any,h=>by simp [Z0H] at h
 | .msl ..,h=>by simp [Z0H] at h
 | .ref ..,h=>by simp [Z0H] at h
 | .when ..,h=>by simp [Z0H] at h
 | .alt ..,h=>by simp [Z0H] at h
 | .ub ..,h=>by simp [Z0H] at h
 | .csl ..,h=>by simp [Z0H] at h
 | .mp ..,h=>by simp [Z0H] at h
theorem Z0X(n:Nat):∀xs:List AV,Z1D xs=true→Z0Z n xs=true
 | [],_=>rfl
 | x::xs,h=>by simp only [Z1D,Z0Z,Bool.and_eq_true] at *; exact⟨Z9v n x h.1,Z0X n xs h.2⟩
end
mutual
theorem Z9w(ρ:Nat→Nat):∀x:AV,Z0H x=true→ren ρ x=x
 | .agg cs,h=>by simp only [Z0H,ren] at *; rw [Z1V ρ cs h]
 | .tup cs,h=>by simp only [Z0H,ren] at *; rw [Z1V ρ cs h]
 | .sl cs _,h=>by simp only [Z0H,ren] at *; rw [Z1V ρ cs h]
 | .ip cs,h=>by simp only [Z0H,ren] at *; rw [Z1V ρ cs h]
 | .fn _ a b,h=>by simp only [Z0H,ren,Bool.and_eq_true] at *; rw [Z1V ρ a h.1,Z1V ρ b h.2]
 | .ifc _ x,h=>by simp only [Z0H,ren] at *; rw [Z9w ρ x h]
 | .int ..,_=>rfl
 | .bool _,_=>rfl
 | .str _,_=>rfl
 | .lit _,_=>rfl
 | .mpr ..,_=>rfl
 | .any,h=>by simp [Z0H] at h
 | .msl ..,h=>by simp [Z0H] at h
 | .ref ..,h=>by simp [Z0H] at h
 | .when ..,h=>by simp [Z0H] at h
 | .alt ..,h=>by simp [Z0H] at h
 | .ub ..,h=>by simp [Z0H] at h
 | .csl ..,h=>by simp [Z0H] at h
 | .mp ..,h=>by simp [Z0H] at h
theorem Z1V(ρ:Nat→Nat):∀xs:List AV,Z1D xs=true→Z2l ρ xs=xs
 | [],_=>rfl
 | x::xs,h=>by simp only [Z1D,Z2l,Bool.and_eq_true] at *; rw [Z9w ρ x h.1,Z1V ρ xs h.2]
end
mutual
theorem Z9u(L:Heap)(id v:Nat):∀x:AV,Z0H x=true→Z4p L id v x=x
 | .agg cs,h=>by simp only [Z0H,Z4p] at *; rw [Z2v L id v cs h]
 | .tup cs,h=>by simp only [Z0H,Z4p] at *; rw [Z2v L id v cs h]
 | .sl cs _,h=>by simp only [Z0H,Z4p] at *; rw [Z0X 0 cs h]; rfl
 | .ip cs,h=>by simp only [Z0H,Z4p] at *; rw [Z0X 0 cs h]; rfl
 | .fn _ a b,h=>by simp only [Z0H,Z4p,Bool.and_eq_true] at *; rw [Z2v L id v a h.1,Z2v L id v b h.2]
 | .ifc _ x,h=>by simp only [Z0H,Z4p] at *; rw [Z9u L id v x h]
 | .int ..,_=>rfl
 | .bool _,_=>rfl
 | .str _,_=>rfl
 | .lit _,_=>rfl
 | .mpr ..,_=>rfl
 | .any,h=>by simp [Z0H] at h
 | .msl ..,h=>by simp [Z0H] at h
 | .ref ..,h=>by simp [Z0H] at h
 | .when ..,h=>by simp [Z0H] at h
 | .alt ..,h=>by simp [Z0H] at h
 | .ub ..,h=>by simp [Z0H] at h
 | .csl ..,h=>by simp [Z0H] at h
 | .mp ..,h=>by simp [Z0H] at h
theorem Z2v(L:Heap)(id v:Nat):∀xs:List AV,Z1D xs=true→Z3V L id v xs=xs
 | [],_=>rfl
 | x::xs,h=>by simp only [Z1D,Z3V,Bool.and_eq_true] at *; rw [Z9u L id v x h.1,Z2v L id v xs h.2]
end
mutual
theorem Z9x(L:Heap)(id:Nat):∀x:AV,Z0H x=true→Z4F L id x=x
 | .agg cs,h=>by simp only [Z0H,Z4F] at *; rw [Z3n L id cs h]
 | .tup cs,h=>by simp only [Z0H,Z4F] at *; rw [Z3n L id cs h]
 | .sl cs _,h=>by simp only [Z0H,Z4F] at *; rw [Z0X 0 cs h]; rfl
 | .ip cs,h=>by simp only [Z0H,Z4F] at *; rw [Z0X 0 cs h]; rfl
 | .fn _ a b,h=>by simp only [Z0H,Z4F,Bool.and_eq_true] at *; rw [Z0X 0 a h.1,Z0X 0 b h.2]; rfl
 | .ifc _ x,h=>by simp only [Z0H,Z4F] at *; rw [Z9x L id x h]
 | .int ..,_=>rfl
 | .bool _,_=>rfl
 | .str _,_=>rfl
 | .lit _,_=>rfl
 | .mpr ..,_=>rfl
 | .any,h=>by simp [Z0H] at h
 | .msl ..,h=>by simp [Z0H] at h
 | .ref ..,h=>by simp [Z0H] at h
 | .when ..,h=>by simp [Z0H] at h
 | .alt ..,h=>by simp [Z0H] at h
 | .ub ..,h=>by simp [Z0H] at h
 | .csl ..,h=>by simp [Z0H] at h
 | .mp ..,h=>by simp [Z0H] at h
theorem Z3n(L:Heap)(id:Nat):∀xs:List AV,Z1D xs=true→Z5G L id xs=xs
 | [],_=>rfl
 | x::xs,h=>by simp only [Z1D,Z5G,Bool.and_eq_true] at *; rw [Z9x L id x h.1,Z3n L id xs h.2]
end
def Z25(L:Heap)(sub:AV→AV)(sl:AV→Prop)(sb:AV→Bool):Prop:=∀x,Z0H x=true→sub x=x∧sl x∧sb x=false
theorem Z25.zero(L:Heap):Z25 L Z8r Zat Zjb:=fun x _=>⟨rfl,trivial,rfl⟩
theorem Z25.list{L:Heap}{sub:AV→AV}{sl:AV→Prop}{sb:AV→Bool}(H:Z25 L sub sl sb){xs:List AV}(h:Z1D xs=true):xs.map sub=xs∧(∀x∈xs,sl x)∧xs.any sb=false:=by
 rw [Z43,List.all_eq_true] at h
 refine⟨?_,fun x hx=>(H x (h x hx)).2.1,?_⟩
 ·conv=>rhs; rw [←List.map_id xs]
  exact List.map_congr_left fun x hx=>(H x (h x hx)).1
 ·rw [List.any_eq_false]; intro x hx; rw [(H x (h x hx)).2.2]; simp
theorem Z25.succ{L:Heap}{keep:Nat→Bool}{sub:AV→AV}{sl:AV→Prop}{sb:AV→Bool}(H:Z25 L sub sl sb):Z25 L (Z1b L keep sub) (Z1z L keep sl) (Z4n L keep sb):=by
 intro x hx
 cases x <;> simp only [Z0H,Z1b,Z1z,Z4n,Bool.and_eq_true,Bool.false_eq_true] at * <;> try exact⟨trivial,trivial,trivial⟩
 case agg cs=>obtain⟨h1,h2,h3⟩:=H.list hx; exact⟨by rw [h1],h2,h3⟩
 case ifc t x=>obtain⟨h1,h2,h3⟩:=H x hx; exact⟨by rw [h1],h2,h3⟩
 case fn f a b=>
  obtain⟨h1,h2,h3⟩:=H.list hx.1
  obtain⟨k1,k2,k3⟩:=H.list hx.2
  exact⟨by rw [h1,k1],⟨h2,k2⟩,by rw [h3,k3]; rfl⟩
theorem Z25.d1(L:Heap)(k:Nat→Bool):Z25 L (d1 L k) (l1 L k) (b1 L k):=(Z25.zero L).succ
theorem Z25.d2(L:Heap)(k:Nat→Bool):Z25 L (d2 L k) (l2 L k) (b2 L k):=(Z25.d1 L k).succ
theorem Z25.d3(L:Heap)(k:Nat→Bool):Z25 L (d3 L k) (l3 L k) (b3 L k):=(Z25.d2 L k).succ
class Z3x{α:Type}(f:α→AV):Prop where
 pure:∀x,Z0H (f x)=true
 one:∀x,Z0m [f x]=true
class Z1t{α:Type}(g:α→List AV):Prop where
 pure:∀x,Z1D (g x)=true
 one:∀x,Z0m (g x)=true
class ZaF{α:Type}(f:α→AV):Prop where
 flat:∀x,flat (f x)=true
instance:Z3x AV.str:=⟨fun _=>rfl,fun _=>rfl⟩
instance:Z3x AV.bool:=⟨fun _=>rfl,fun _=>rfl⟩
instance (k:IntKind):Z3x (AV.int k):=⟨fun _=>rfl,fun _=>rfl⟩
instance:Z3x Z03:=⟨fun _=>rfl,fun _=>rfl⟩
instance:ZaF AV.str:=⟨fun _=>rfl⟩
instance:ZaF AV.bool:=⟨fun _=>rfl⟩
instance (k:IntKind):ZaF (AV.int k):=⟨fun _=>rfl⟩
instance:ZaF Z03:=⟨fun _=>rfl⟩
section
variable {α:Type} {f:α→AV} {g:α→List AV}
theorem Z2R:∀xs ys:List AV,Z0m xs=true→Z0m ys=true→Z0m (xs++ys)=true
 | [],ys,_,h=>h
 | x::xs,ys,h1,h2=>by
  cases x <;> simp only [Z0m,List.cons_append,Bool.and_eq_true,Bool.false_eq_true] at * <;> first | exact Z2R xs ys h1 h2 | exact⟨h1.1,Z2R xs ys h1.2 h2⟩
theorem Z1d[Z3x f](xs:List α):Z1D (xs.map f)=true:=by rw [Z43]; simp [Z3x.pure]
theorem Z2u[Z1t g](xs:List α):Z1D (xs.flatMap g)=true:=by
 rw [Z43,List.all_eq_true]; intro x hx
 obtain⟨a,_,ha⟩:=List.mem_flatMap.1 hx
 have:=Z1t.pure (g:=g) a
 rw [Z43,List.all_eq_true] at this
 exact this x ha
theorem Z7q[Z1t g](x:α):Z1D (g x)=true:=Z1t.pure x
theorem Z1o[Z3x f](n:Nat)(xs:List α):Z0Z n (xs.map f)=true:=Z0X n _ (Z1d xs)
theorem Z7l[Z3x f](ρ:Nat→Nat)(xs:List α):Z2l ρ (xs.map f)=xs.map f:=Z1V ρ _ (Z1d xs)
theorem Z9l[Z3x f](L:Heap)(id v:Nat)(xs:List α):Z3V L id v (xs.map f)=xs.map f:=Z2v L id v _ (Z1d xs)
theorem Zfb[Z3x f](L:Heap)(id:Nat)(xs:List α):Z5G L id (xs.map f)=xs.map f:=Z3n L id _ (Z1d xs)
theorem ZbW[Z3x f]:∀xs:List α,Z0m (xs.map f)=true
 | []=>rfl
 | x::xs=>by
  have h1:=Z3x.one (f:=f) x
  exact Z2R [f x] (xs.map f) h1 (ZbW xs)
theorem Zgt[Z3x f](L:Heap)(k:Nat→Bool)(xs:List α):(xs.map f).map (d1 L k)=xs.map f:=((Z25.d1 L k).list (Z1d xs)).1
theorem Z5u[Z3x f](L:Heap)(k:Nat→Bool)(xs:List α):(xs.map f).map (d2 L k)=xs.map f:=((Z25.d2 L k).list (Z1d xs)).1
theorem Zja[Z3x f](L:Heap)(k:Nat→Bool)(xs:List α):(xs.map f).map (d3 L k)=xs.map f:=((Z25.d3 L k).list (Z1d xs)).1
theorem ZfZ[Z3x f](L:Heap)(k:Nat→Bool)(xs:List α):(∀x∈xs.map f,l1 L k x)=True:=eq_true ((Z25.d1 L k).list (Z1d xs)).2.1
theorem Z5n[Z3x f](L:Heap)(k:Nat→Bool)(xs:List α):(∀x∈xs.map f,l2 L k x)=True:=eq_true ((Z25.d2 L k).list (Z1d xs)).2.1
theorem ZhL[Z1t g](L:Heap)(k:Nat→Bool)(xs:List α):(xs.flatMap g).map (d2 L k)=xs.flatMap g:=((Z25.d2 L k).list (Z2u xs)).1
theorem Zhm[Z1t g](L:Heap)(k:Nat→Bool)(xs:List α):(∀x∈xs.flatMap g,l2 L k x)=True:=eq_true ((Z25.d2 L k).list (Z2u xs)).2.1
theorem d1_c[Z1t g](L:Heap)(k:Nat→Bool)(x:α):(g x).map (d1 L k)=g x:=((Z25.d1 L k).list (Z1t.pure x)).1
theorem d2_c[Z1t g](L:Heap)(k:Nat→Bool)(x:α):(g x).map (d2 L k)=g x:=((Z25.d2 L k).list (Z1t.pure x)).1
theorem d3_c[Z1t g](L:Heap)(k:Nat→Bool)(x:α):(g x).map (d3 L k)=g x:=((Z25.d3 L k).list (Z1t.pure x)).1
theorem b3_c[Z1t g](L:Heap)(k:Nat→Bool)(x:α):(g x).any (b3 L k)=false:=((Z25.d3 L k).list (Z1t.pure x)).2.2
theorem m1_c[Z1t g](L:Heap)(k:Nat→Bool)(x:α):(∀y∈g x,Z1z L k Zat y)=True:=eq_true ((Z25.d1 L k).list (Z1t.pure x)).2.1
theorem m2_c[Z1t g](L:Heap)(k:Nat→Bool)(x:α):(∀y∈g x,Z1z L k (l1 L k) y)=True:=eq_true ((Z25.d2 L k).list (Z1t.pure x)).2.1
theorem m3_c[Z1t g](L:Heap)(k:Nat→Bool)(x:α):(∀y∈g x,Z1z L k (l2 L k) y)=True:=eq_true ((Z25.d3 L k).list (Z1t.pure x)).2.1
theorem Zis[Z3x f](L:Heap)(k:Nat→Bool)(xs:List α):(∀y∈xs.map f,Z1z L k (l2 L k) y)=True:=eq_true ((Z25.d3 L k).list (Z1d xs)).2.1
theorem Z52[Z1t g](n:Nat)(xs:List α):Z0Z n (xs.flatMap g)=true:=Z0X n _ (Z2u xs)
theorem Zbd[Z1t g](ρ:Nat→Nat)(xs:List α):Z2l ρ (xs.flatMap g)=xs.flatMap g:=Z1V ρ _ (Z2u xs)
theorem Zgy[Z1t g](L:Heap)(id v:Nat)(xs:List α):Z3V L id v (xs.flatMap g)=xs.flatMap g:=Z2v L id v _ (Z2u xs)
theorem Zhz[Z1t g](L:Heap)(id:Nat)(xs:List α):Z5G L id (xs.flatMap g)=xs.flatMap g:=Z3n L id _ (Z2u xs)
theorem Zi8[Z1t g](n:Nat)(x:α):Z0Z n (g x)=true:=Z0X n _ (Z1t.pure x)
theorem Zie[Z1t g](ρ:Nat→Nat)(x:α):Z2l ρ (g x)=g x:=Z1V ρ _ (Z1t.pure x)
theorem Zi1[Z1t g](L:Heap)(id v:Nat)(x:α):Z3V L id v (g x)=g x:=Z2v L id v _ (Z1t.pure x)
theorem ZiO[Z1t g](L:Heap)(id:Nat)(x:α):Z5G L id (g x)=g x:=Z3n L id _ (Z1t.pure x)
theorem Zkt[Z1t g](x:α):Z0m (g x)=true:=Z1t.one x
theorem Z85[ZaF f](xs:List α):Z1k (xs.map f)=true:=Z8m (by simp [ZaF.flat])
end
theorem Zau(xs:List AV)(n j:Nat)(d:AV):(xs.drop n).getD j d=xs.getD (n+j) d:=by simp [List.getD]
class Z2C{α:Type}(g:α→List AV)(n:outParam Nat):Prop where
 len:∀x,(g x).length=n
theorem Zhx{k:IntKind}(xs:List Int)(i:Nat):(xs.map (AV.int k)).getD i (.int k 0)=.int k (xs.getD i default):=by
 by_cases h:i<xs.length <;> simp [List.getD,h]
theorem Zhw(xs:List (List UInt8))(i:Nat):(xs.map AV.str).getD i (.str [])=.str (xs.getD i default):=by
 by_cases h:i<xs.length <;> simp [List.getD,h]
 rfl
theorem Zhy(xs:List Bool)(i:Nat):(xs.map AV.bool).getD i (.bool false)=.bool (xs.getD i default):=by
 by_cases h:i<xs.length <;> simp [List.getD,h]
theorem Zhv(xs:List UInt8)(i:Nat):(xs.map Z03).getD i (.int .u8 0)=.int .u8 (xs.getD i 0).toNat:=by
 by_cases h:i<xs.length <;> simp [List.getD,h,Z03]
theorem Zhg{α:Type}{g:α→List AV}{n:Nat}[Z2C g n](x:α):(g x).length=n:=Z2C.len x
theorem Zi4{α:Type}{g:α→List AV}{n:Nat}[Z2C g n](x:α):(g x).take n=g x:=List.take_of_length_le (by rw [Zhg (g:=g) x]; exact Nat.le_refl _)
theorem ZiV{α:Type}{g:α→List AV}{n:Nat}[Z2C g n](x:α):(g x).drop n=[]:=List.drop_eq_nil_of_le (by rw [Zhg (g:=g) x]; exact Nat.le_refl _)
theorem Z46{α:Type}{g:α→List AV}{n:Nat}[Z2C g n](xs:List α):(xs.flatMap g).length=xs.length*n:=by
 induction xs with
 | nil=>simp
 | cons x xs ih=>rw [List.flatMap_cons,List.length_append,ih,Z2C.len (g:=g) x,List.length_cons,Nat.succ_mul]; omega
theorem Zdy{α:Type}{g:α→List AV}{n:Nat}[Z2C g n](xs:List α)(i:Nat):(xs.flatMap g).drop (i*n)=(xs.drop i).flatMap g:=by
 induction xs generalizing i with
 | nil=>simp
 | cons x xs ih=>
  cases i with
  | zero=>simp
  | succ i=>
   rw [List.flatMap_cons,Nat.succ_mul,Nat.add_comm,List.drop_succ_cons,←ih i,←Z2C.len (g:=g) x,List.drop_append,List.drop_eq_nil_of_le (by omega)]
   simp
theorem Zdz{α:Type}{xs:List α}{i:Nat}(h:i<xs.length)(d:α):xs.drop i=xs.getD i d::xs.drop (i+1):=by
 rw [List.drop_eq_getElem_cons h]; simp [List.getD,h]
theorem Zht{α:Type}{g:α→List AV}{n:Nat}[Z2C g n](xs:List α)(i:Nat)(h:i<xs.length)(d:α):((xs.flatMap g).drop (i*n)).take n=g (xs.getD i d):=by
 rw [Zdy,Zdz h d,List.flatMap_cons]
 have hx:=Z2C.len (g:=g) (xs.getD i d)
 rw [List.take_append,List.take_of_length_le (by omega),hx,Nat.sub_self,List.take_zero,List.append_nil]
attribute [push_cast] Zhd Zhe Zca ZdY ZaN Ze0 ZaP Z1d Z2u Z7q Z1o Z7l Z9l Zfb ZbW Zgt Z5u Zja ZfZ Z5n ZhL Zhm d1_c d2_c d3_c b3_c Z52 Zbd Zgy Zhz Zi8 Zie Zi1 ZiO Zkt Z85 Zau m1_c m2_c m3_c Zis Z46 Zhg Zi4 ZiV Zhx Zhw Zhy Zhv
theorem Z0c(n:Int)(h:-9223372036854775808≤n∧n≤9223372036854775807):IntKind.i64.wrap n=n:=IntWalk.i64_in n h
theorem Zf8{α:Type}[Inhabited α]{g:α→List AV}{n:Nat}[Z2C g n](xs:List α)(i:Nat)(h:i<xs.length):((xs.flatMap g).drop (i*n)).take n=g (xs.getD i default):=Zht xs i h default
theorem Zco{α:Type}[Inhabited α]{g:α→List AV}{n:Nat}[Z2C g n](xs:List α)(i j:Nat)(d:AV)(h:i<xs.length)(hj:j<n):(xs.flatMap g).getD (i*n+j) d=(g (xs.getD i default)).getD j d:=by
 have hx:=Z2C.len (g:=g) (xs.getD i default)
 have e:(xs.flatMap g).getD (i*n+j) d=((xs.flatMap g).drop (i*n)).getD j d:=by simp [List.getD]
 rw [e,Zdy,Zdz h default,List.flatMap_cons]
 simp only [List.getD]
 rw [List.getElem?_append_left (by simp only [List.getD] at hx; omega)]
theorem Zfa{α:Type}[Inhabited α]{g:α→List AV}{n:Nat}[Z2C g n](xs:List α)(i:Nat)(d:AV)(h:i<xs.length)(hj:0<n):(xs.flatMap g).getD (i*n) d=(g (xs.getD i default)).getD 0 d:=Zco xs i 0 d h hj
theorem Z9U(a:Nat):((a:Int) - 1).toNat=a - 1:=by omega
section
variable {α β:Type}
def Z1J(e:α→List AV)(p:α→Prop)(xs:List AV):Prop:=∃a,xs=e a∧p a
open Classical in
noncomputable def Z10(e:α→List AV)(r:α→β)(d:β)(xs:List AV):β:=if h:∃a,xs=e a then r h.choose else d
theorem Z0j{e:α→List AV}(hi:∀a b,e a=e b→a=b)(p:α→Prop)(a:α):Z1J e p (e a)=p a:=
 propext ⟨fun ⟨b,h1,h2⟩=>by rw [hi _ _ h1]; exact h2,fun h=>⟨a,rfl,h⟩⟩
theorem Z08{e:α→List AV}(hi:∀a b,e a=e b→a=b)(r:α→β)(d:β)(a:α):Z10 e r d (e a)=r a:=by
 have h:∃b,e a=e b:=⟨a,rfl⟩
 unfold Z10
 rw [dif_pos h,←hi _ _ h.choose_spec]
noncomputable def Z2V(e:α→List AV)(p:α→Prop)(r:α→AV)(h:α→Heap)(q:Bool):Z0n:=Z57 (Z1J e p) (Z10 e r .any) (Z10 e h []) q
theorem Z0t{P:Program}{Γ:Env}(hΓ:Z07 P Γ){f:FuncId}{fn:Func}(hf:P.funcs[f]?=some fn)(hb:fn.body.isNone=false) (hn:(fn.name == "runtime.NumGoroutine")=false) {e:α→List AV} {p:α→Prop} {r:α→AV} {h:α→Heap} {q:Bool}
  (hi:∀a b,e a=e b→a=b) (hq:q=true→∀a,h a=[]) (hh:∀a,p a→Z0a P Γ fn (e a) [] (r a) (h a)):Con P f (Z2V e p r h q):=by
 refine Con.of_body hΓ hf hb hn (fun hq' xs=>?_) fun xs hx=>?_
 ·unfold Z10
  split
  ·exact hq hq' _
  ·rfl
 ·obtain⟨a,rfl,ha⟩:=hx
  rw [Z08 hi,Z08 hi]
  exact hh a ha
end
attribute [push_cast] Z2V
def Zhb(T:Heap):Heap→Prop:=fun G=>∃o A,G=o::(T++A)
theorem ZgV(T:Heap)(f:Heap→Prop):qob (Zhb T) f=∀o A,f (o::(T++A)):=propext ⟨fun h o A=>h _ ⟨o,A,rfl⟩,fun h G ⟨o,A,hA⟩=>hA▸h o A⟩
theorem Zha(T G:Heap)(o:Z0L):Zhb T (o::G)=Zg3 T G:=propext ⟨fun ⟨o',A,h⟩=>by cases h; exact⟨A,rfl⟩,fun ⟨A,h⟩=>⟨o,A,by rw [h]⟩⟩
theorem Zfe(L:Heap):Zg3 [] L=True:=by simp [Zg3]
theorem Zcr(o:Z0L)(L L':Heap):Zg3 (o::L) (o::L')=Zg3 L L':=by simp [Zg3]
attribute [push_cast] ZgV Zha Zfe Zcr
theorem Z06.pick1{fr fr':List AV}{a o:Z0L}{G:Heap}(h:leF fr (Z2l (fun i=>[1].getD i i) fr'))(ho:Z1C (fun i=>[1].getD i i) o=o)(hs:Z0Z 1 fr'=true)(hc:Z2H 1 o=true):Z06 [] fr (a::o::G) (fr',[o]):=
 Z0k.base [1] ⟨h,by simpa using ho.symm,by simp,by simp,hs,by simp [hc]⟩ (by simp)
theorem Z06.pick2{fr fr':List AV}{a b o:Z0L}{G:Heap}(h:leF fr (Z2l (fun i=>[2].getD i i) fr'))(ho:Z1C (fun i=>[2].getD i i) o=o)(hs:Z0Z 1 fr'=true)(hc:Z2H 1 o=true):Z06 [] fr (a::b::o::G) (fr',[o]):=
 Z0k.base [2] ⟨h,by simpa using ho.symm,by simp,by simp,hs,by simp [hc]⟩ (by simp)
theorem own_row(l:List UInt8):∃l':List UInt8,l.map Z03=l'.map Z03∧l.length=l'.length:=⟨l,rfl,rfl⟩
theorem Z17{cs:List AV}{n:Nat}(l:List UInt8)(h1:cs=l.map Z03)(h2:n=l.length):∃l':List UInt8,cs=l'.map Z03∧n=l'.length:=⟨l,h1,h2⟩
end Go.Eng