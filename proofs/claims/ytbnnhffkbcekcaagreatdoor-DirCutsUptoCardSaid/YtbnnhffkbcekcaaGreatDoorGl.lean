/- Parts of the walk through directories. Conditions stand in each. -/
import Derived.Test.YtbnnhffkbcekcaaGreatDoorGk
import Derived.Test.YtbnnhffkbcekcaaGreatDoorFg
set_option linter.unusedVariables false
set_option linter.unusedSimpArgs false
section
namespace Go.Proofs.YtbnnhffkbcekcaaGreatDoor.dirDone
open Go Go.Eng Go.Proofs Go.Lib
def mks(U:List Int)(was:Int)(l:List Int):Prop:=∀n∈l,0≤n∧n<U.length∧U.getD n.toNat default=was
theorem Z0p{U:List Int}{was:Int}{l:List Int}:tOk U was l↔mks U was l∧l.Nodup:=by
 have hg:∀i (hi:i<l.length),l.getD i default=l[i]:=fun i hi=>by rw [List.getD_eq_getElem?_getD,List.getElem?_eq_getElem hi]; rfl
 constructor
 ·intro h
  refine⟨fun n hn=>?_,?_⟩
  ·obtain⟨i,hi,rfl⟩:=List.mem_iff_getElem.1 hn
   have:=h i hi
   unfold tAt at this
   rw [hg i hi] at this
   exact⟨this.1,this.2.1,this.2.2.1⟩
  ·refine List.pairwise_iff_getElem.2 fun i j hi hj hij e=>?_
   have:=(h j hj).2.2.2
   rw [hg j hj] at this
   exact this (List.mem_take_iff_getElem.2 ⟨i,by omega,e⟩)
 ·rintro⟨hm,hn⟩ i hi
  obtain⟨h1,h2,h3⟩:=hm _ (List.getElem_mem hi)
  unfold tAt
  rw [hg i hi]
  refine⟨h1,h2,h3,fun ht=>?_⟩
  obtain⟨j,hj,e⟩:=List.mem_take_iff_getElem.1 ht
  exact List.pairwise_iff_getElem.1 hn j i (by omega) hi (by omega) e
theorem Z15(now:Int):∀(l U:List Int) (k:Nat),(∀n∈l,0≤n)→k<U.length→(tSet U now l).getD k default=if (k:Int)∈l then now else U.getD k default
 | [],U,k,_,_=>by simp [tSet]
 | n::l,U,k,hl,hk=>by
  have h0:=hl n (List.mem_cons_self ..)
  show (tSet (U.set n.toNat now) now l).getD k default=_
  rw [Z15 now l _ k (fun m hm=>hl m (List.mem_cons_of_mem _ hm)) (by rw [List.length_set]; exact hk)]
  by_cases c:(k:Int)∈l
  ·rw [if_pos c,if_pos (List.mem_cons_of_mem _ c)]
  ·rw [if_neg c]
   by_cases e:(k:Int)=n
   ·rw [if_pos (by rw [e]; exact List.mem_cons_self ..)]
    have:n.toNat=k:=by omega
    rw [this,Z1J _ _ _ _ hk]
   ·rw [if_neg (by rw [List.mem_cons]; exact fun h=>h.elim e c),Z1c _ _ _ _ _ (by omega)]
theorem Zb5{A B:List Int}(hl:A.length=B.length)(h:∀k,k<A.length→A.getD k default=B.getD k default):A=B:=by
 refine List.ext_getElem hl fun k h1 h2=>?_
 have:=h k h1
 rw [List.getD_eq_getElem?_getD,List.getElem?_eq_getElem h1,List.getD_eq_getElem?_getD,List.getElem?_eq_getElem h2] at this
 exact this
theorem Z1I{U:List Int}{w:Int}{l:List Int}(h:mks U w l):∀n∈l,0≤n:=fun n hn=>(h n hn).1
theorem Z1x{U:List Int}{w x:Int}{l m:List Int}(h:mks U w l)(hd:∀n∈l,n∉m)(hm:∀n∈m,0≤n):mks (tSet U x m) w l:=by
 intro n hn
 obtain⟨a,b,c⟩:=h n hn
 refine⟨a,by rw [Z0w]; exact b,?_⟩
 rw [Z15 _ _ _ _ hm (by omega),if_neg (by rw [Int.toNat_of_nonneg a]; exact hd n hn)]
 exact c
theorem Z4U{U:List Int}{w x:Int}{m:List Int}(h:mks U w m):mks (tSet U x m) x m:=by
 intro n hn
 obtain⟨a,b,c⟩:=h n hn
 refine⟨a,by rw [Z0w]; exact b,?_⟩
 rw [Z15 _ _ _ _ (Z1I h) (by omega),if_pos (by rw [Int.toNat_of_nonneg a]; exact hn)]
theorem Z1i{U:List Int}{a b:Int}{l m:List Int}(h:mks U a l)(h':mks U b m)(hne:a≠b):∀n∈l,n∉m:=fun n hn hm=>hne (by rw [←(h n hn).2.2,(h' n hm).2.2])
theorem Z3x{U:List Int}{w:Int}{l m:List Int}:mks U w (l++m)↔mks U w l∧mks U w m:=List.forall_mem_append
theorem Zah(U:List Int)(x:Int)(l m:List Int):tSet U x (l++m)=tSet (tSet U x l) x m:=List.foldl_append
theorem Zcf{U:List Int}{a b:Int}{l m:List Int}(hl:∀n∈l,0≤n)(hm:∀n∈m,0≤n)(hd:∀n∈l,n∉m):tSet (tSet U a l) b m=tSet (tSet U b m) a l:=by
 have h1:(tSet (tSet U a l) b m).length=U.length:=by rw [Z0w,Z0w]
 refine Zb5 (by rw [h1,Z0w,Z0w]) fun k hk=>?_
 rw [h1] at hk
 rw [Z15 _ _ _ _ hm (by rw [Z0w]; exact hk),Z15 _ _ _ _ hl hk,Z15 _ _ _ _ hl (by rw [Z0w]; exact hk),Z15 _ _ _ _ hm hk]
 by_cases c:(k:Int)∈l
 ·rw [if_neg (hd _ c),if_pos c,if_pos c]
 ·rw [if_neg c,if_neg c]
theorem ZaR{U Lv old gone rest own now:List Int}(h:tOk U 1 (Lv++old))(hp:old.Perm (gone++rest))(hn:tOk U 0 now)(ho:tOk U 2 own) :
  ∃C:List Int,C.length=U.length∧tRes (tRes (tRes (tSet U 2 now) 2 1 now) 1 0 (Lv++gone)) 2 1 own=C∧
   (uGo 1 0 gone (uGo 2 1 own (uGo 1 0 Lv (uGo 2 1 now (tSet U 2 now)).1).1).1).1=C∧
   (∀new:List Int,new.Perm (own++rest)→tOk C 1 (now++new))∧
   (∀k:Nat,k<U.length→C.getD k default=if (k:Int)∈own then 1 else if (k:Int)∈Lv++gone then 0 else if (k:Int)∈now then 1 else U.getD k default):=by
 obtain⟨hm,hd⟩:=Z0p.1 h
 obtain⟨nm,nd⟩:=Z0p.1 hn
 obtain⟨om,od⟩:=Z0p.1 ho
 obtain⟨hLv,hold⟩:=Z3x.1 hm
 obtain⟨dLv,dold,dx⟩:=List.nodup_append.1 hd
 have hgr:mks U 1 (gone++rest):=fun n hn=>hold n (hp.mem_iff.2 hn)
 have dgr:(gone++rest).Nodup:=hp.nodup_iff.1 dold
 obtain⟨hg,hr⟩:=Z3x.1 hgr
 obtain⟨dg,dr,dgx⟩:=List.nodup_append.1 dgr
 have LvG:mks U 1 (Lv++gone):=Z3x.2 ⟨hLv,hg⟩
 have dLvG:(Lv++gone).Nodup:=List.nodup_append.2 ⟨dLv,dg,fun a ha b hb=>dx a ha b (hp.mem_iff.2 (List.mem_append_left _ hb))⟩
 have nnow:=Z1I nm
 have nown:=Z1I om
 have nLv:=Z1I hLv
 have ng:=Z1I hg
 have nLvG:=Z1I LvG
 have nr:=Z1I hr
 have a1:mks (tSet U 2 now) 2 now:=Z4U nm
 have A2:mks (tSet (tSet U 2 now) 1 now) 2 own:=Z1x (Z1x om (Z1i om nm (by decide)) nnow) (Z1i om nm (by decide)) nnow
 have A1:∀l,mks U 1 l→mks (tSet (tSet U 2 now) 1 now) 1 l:=fun l hl=>Z1x (Z1x hl (Z1i hl nm (by decide)) nnow) (Z1i hl nm (by decide)) nnow
 have An:mks (tSet (tSet U 2 now) 1 now) 1 now:=Z4U a1
 have e1:tRes (tSet U 2 now) 2 1 now=tSet (tSet U 2 now) 1 now:=by unfold tRes; rw [if_pos (Z0p.2 ⟨a1,nd⟩)]
 have f1:(uGo 2 1 now (tSet U 2 now)).1=tSet (tSet U 2 now) 1 now:=(Z3M (by decide) _ _).2 (Z0p.2 ⟨a1,nd⟩)
 have lA:(tSet (tSet U 2 now) 1 now).length=U.length:=by rw [Z0w,Z0w]
 have gA:∀k:Nat,k<U.length→(tSet (tSet U 2 now) 1 now).getD k default=if (k:Int)∈now then 1 else U.getD k default:=fun k hk=>by
  rw [Z15 _ _ _ _ nnow (by rw [Z0w]; exact hk),Z15 _ _ _ _ nnow hk]
  split <;> rfl
 rw [e1,f1]
 generalize tSet (tSet U 2 now) 1 now=A at *
 have oL:∀n∈own,n∉Lv++gone:=Z1i om LvG (by decide)
 have B2:mks (tSet A 0 (Lv++gone)) 2 own:=Z1x A2 oL nLvG
 have e2:tRes A 1 0 (Lv++gone)=tSet A 0 (Lv++gone):=by unfold tRes; rw [if_pos (Z0p.2 ⟨A1 _ LvG,dLvG⟩)]
 have e3:tRes (tSet A 0 (Lv++gone)) 2 1 own=tSet (tSet A 0 (Lv++gone)) 1 own:=by unfold tRes; rw [if_pos (Z0p.2 ⟨B2,od⟩)]
 have oLv:∀n∈own,n∉Lv:=fun n hn hx=>oL n hn (List.mem_append_left _ hx)
 have og:∀n∈own,n∉gone:=fun n hn hx=>oL n hn (List.mem_append_right _ hx)
 have gLv:∀n∈gone,n∉Lv:=fun n hn hx=>dx n hx n (hp.mem_iff.2 (List.mem_append_left _ hn)) rfl
 have f2:(uGo 1 0 Lv A).1=tSet A 0 Lv:=(Z3M (by decide) _ _).2 (Z0p.2 ⟨A1 _ hLv,dLv⟩)
 have f3:(uGo 2 1 own (tSet A 0 Lv)).1=tSet (tSet A 0 Lv) 1 own:=(Z3M (by decide) _ _).2 (Z0p.2 ⟨Z1x A2 oLv nLv,od⟩)
 have f4:(uGo 1 0 gone (tSet (tSet A 0 Lv) 1 own)).1=tSet (tSet (tSet A 0 Lv) 1 own) 0 gone:=
  (Z3M (by decide) _ _).2 (Z0p.2 ⟨Z1x (Z1x (A1 _ hg) gLv nLv) (fun n hn hx=>og n hx hn) nown,dg⟩)
 have gC:∀k:Nat,k<U.length→(tSet (tSet A 0 (Lv++gone)) 1 own).getD k default=if (k:Int)∈own then 1 else if (k:Int)∈Lv++gone then 0 else if (k:Int)∈now then 1 else U.getD k default:=fun k hk=>by
  rw [Z15 _ _ _ _ nown (by rw [Z0w,lA]; exact hk),Z15 _ _ _ _ nLvG (by rw [lA]; exact hk),gA k hk]
 refine⟨tSet (tSet A 0 (Lv++gone)) 1 own,by rw [Z0w,Z0w,lA],by rw [e2,e3],?_,?_,gC⟩
 ·rw [f2,f3,f4,Zcf nown ng og,←Zah]
 ·intro new hnew
  refine Z0p.2 ⟨Z3x.2 ⟨?_,?_⟩,?_⟩
  ·exact Z1x (Z1x An (fun n hn hx=>Z1i nm LvG (by decide) n hn hx) nLvG) (Z1i nm om (by decide)) nown
  ·intro n hn
   rcases List.mem_append.1 (hnew.mem_iff.1 hn) with hx | hx
   ·exact Z4U B2 n hx
   ·have rx:∀n∈rest,n∉Lv++gone:=fun n hn hx=>by
     rcases List.mem_append.1 hx with hy | hy
     ·exact dx n hy n (hp.mem_iff.2 (List.mem_append_right _ hn)) rfl
     ·exact dgx n hy n hn rfl
    exact Z1x (Z1x (A1 _ hr) rx nLvG) (Z1i hr om (by decide)) nown n hx
  ·have dnew:new.Nodup:=hnew.nodup_iff.2 (List.nodup_append.2 ⟨od,dr,fun a ha b hb e=>Z1i om hr (by decide) a ha (e▸hb)⟩)
   refine List.nodup_append.2 ⟨nd,dnew,fun a ha b hb e=>?_⟩
   subst e
   rcases List.mem_append.1 (hnew.mem_iff.1 hb) with hx | hx
   ·exact Z1i nm om (by decide) a ha hx
   ·exact Z1i nm hr (by decide) a ha hx
theorem Z7O(L:List Fl)(S:List Sec)(W:List Wr)(U:List Int):∀q,q≤U.count 0→tOk U 0 (lyK L S W U q).now∧(lyK L S W U q).U=tSet U 2 (lyK L S W U q).now
 | 0,_=>⟨fun i hi=>absurd hi (Nat.not_lt_zero i),rfl⟩
 | q+1,hq=>by
  obtain⟨h1,h2⟩:=Z7O L S W U q (by omega)
  obtain⟨k1,k2,k3,k4,k5⟩:=Z2O L S W U q (by omega)
  have hc:0<(lyK L S W U q).U.count 0:=by omega
  have hm:(0:Int)∈(lyK L S W U q).U:=List.count_pos_iff.1 hc
  obtain⟨a,ha,hal,hag⟩:=Z2x hm
  have hu:(lyK L S W U (q+1)).U=tkU (lyK L S W U q).U:=rfl
  have hn:(lyK L S W U (q+1)).now=(lyK L S W U q).now++[Z2e (lyK L S W U q).U 0]:=rfl
  have ht:tkU (lyK L S W U q).U=(lyK L S W U q).U.set a 2:=by unfold tkU; rw [ha,if_neg (by omega),Int.toNat_natCast]
  rw [hu,hn,ht,ha]
  obtain⟨m1,d1⟩:=Z0p.1 h1
  rw [h2] at hal hag ⊢
  rw [Z0w] at hal
  rw [Z15 _ _ _ _ (Z1I m1) hal] at hag
  generalize (lyK L S W U q).now=now at *
  have c:(a:Int)∉now:=fun hx=>by rw [if_pos hx] at hag; exact absurd hag (by decide)
  rw [if_neg c] at hag
  refine⟨Z0p.2 ⟨Z3x.2 ⟨m1,fun n hx=>?_⟩,?_⟩,?_⟩
  ·obtain rfl:=List.mem_singleton.1 hx
   exact⟨by omega,by omega,by rw [Int.toNat_natCast]; exact hag⟩
  ·refine List.nodup_append.2 ⟨d1,by simp,fun x hx y hy e=>?_⟩
   obtain rfl:=List.mem_singleton.1 hy
   exact c (e▸hx)
  ·rw [Zah]; rfl
def wGo(p:List Sec×List Wr)(w:Wr):List Sec×List Wr:=(stW p.1 w,p.2++[(w.1,p.1.getD w.1.toNat default)])
def wOf(N:Nat)(R:List Wr):List Wr:=(R.foldl wGo (List.replicate N default,[])).2
theorem Zc7:∀(R:List Wr) (p:List Sec×List Wr),(R.foldl wGo p).1=R.foldl stW p.1
 | [],p=>rfl
 | w::R,p=>by rw [List.foldl_cons,List.foldl_cons]; exact Zc7 R (wGo p w)
theorem Z7q(N:Nat)(R:List Wr)(w:Wr):wOf N (R++[w])=wOf N R++[(w.1,(sOf N R).getD w.1.toNat default)]:=by
 unfold wOf
 rw [List.foldl_append,List.foldl_cons,List.foldl_nil]
 show (R.foldl wGo _).2++[(w.1,(R.foldl wGo _).1.getD w.1.toNat default)]=_
 rw [Zc7]; rfl
theorem Z0F(N:Nat):∀R:List Wr,(wOf N R).length=R.length:=by
 have:∀(R:List Wr) (p:List Sec×List Wr),(R.foldl wGo p).2.length=p.2.length+R.length:=by
  intro R
  induction R with
  | nil=>intro p; rfl
  | cons w R ih=>intro p; rw [List.foldl_cons,ih]; show (_++[_]).length+_=_; simp only [List.length_append,List.length_cons,List.length_nil]; omega
 intro R
 have:=this R (List.replicate N default,[])
 unfold wOf
 rw [this]
 exact Nat.zero_add _
theorem ZiG{S:List Sec}{W V:List Wr}(h:W.length=V.length)(n:Int)(b:List UInt8):wrE S W n b=wrE S V n b:=by unfold wrE; rw [h]
theorem Z5d(N:Nat)(R:List Wr)(n:Int)(b:List UInt8):wrE (sOf N R) (wOf N R) n b=wrE (sOf N R) R n b∧wrS (sOf N R) (wOf N R) n b=sOf N (rwW N R n b)∧wrW (sOf N R) (wOf N R) n b=wOf N (rwW N R n b):=by
 have e:=ZiG (S:=sOf N R) (Z0F N R) n b
 unfold wrS wrW rwW
 rw [e]
 by_cases h:wrE (sOf N R) R n b=0
 ·rw [if_pos h,if_pos h,if_pos h,Z4N,Z7q]
  refine⟨rfl,?_,rfl⟩
  unfold stW
  rw [if_pos]
  unfold wrE at h
  by_cases c:0≤n∧n<(sOf N R).length
  ·exact c.1
  ·rw [if_pos c] at h; exact absurd h (by decide)
 ·rw [if_neg h,if_neg h,if_neg h]
  exact⟨rfl,rfl,rfl⟩
theorem Zlg(L:List Fl)(N:Nat)(R:List Wr)(U:List Int):∀q,(lyK L (sOf N R) (wOf N R) U q).S=sOf N (ryK L N R U q).R∧(lyK L (sOf N R) (wOf N R) U q).W=wOf N (ryK L N R U q).R∧(ryK L N R U q).U=(lyK L (sOf N R) (wOf N R) U q).U∧(ryK L N R U q).now=(lyK L (sOf N R) (wOf N R) U q).now∧(ryK L N R U q).root=(lyK L (sOf N R) (wOf N R) U q).root
 | 0=>⟨rfl,rfl,rfl,rfl,rfl⟩
 | q+1=>by
  obtain⟨h1,h2,h3,h4,h5⟩:=Zlg L N R U q
  refine⟨?_,?_,?_,?_,?_⟩
  ·show wrS _ _ _ _=sOf N (rwW N _ _ _)
   rw [h1,h2,h3]
   exact (Z5d N _ _ _).2.1
  ·show wrW _ _ _ _=wOf N (rwW N _ _ _)
   rw [h1,h2,h3]
   exact (Z5d N _ _ _).2.2
  ·show tkU _=tkU _; rw [h3]
  ·show _++[_]=_++[_]; rw [h3,h4]
  ·show _++leW _=_++leW _; rw [h3,h5]
theorem Z33{L:List Fl}{W V:List Wr}(h:W.length=V.length)(U:List Int):Z2l L W U↔Z2l L V U:=by unfold Z2l; rw [h]
theorem Z6h{L:List Fl}{N:Nat}{R:List Wr}{U:List Int}(h:Z2l L R U):lyS L (sOf N R) (wOf N R) U=sOf N (ryR L N R U)∧lyW L (sOf N R) (wOf N R) U=wOf N (ryR L N R U)∧(ryE L N R U).now=(lyE L (sOf N R) (wOf N R) U).now∧(ryE L N R U).U=(lyE L (sOf N R) (wOf N R) U).U:=by
 obtain⟨h1,h2,h3,h4,h5⟩:=Zlg L N R U (lvN L.length)
 have hk:=(Z33 (L:=L) (Z0F N R) U).2 h
 unfold lyS lyW ryR
 rw [if_pos hk,if_pos hk]
 unfold lyE ryE
 rw [h1,h2,h5]
 exact⟨(Z5d N _ _ _).2.1,(Z5d N _ _ _).2.2,h4,h3⟩
theorem Z5U:∀(F:List Fl) (nm:List UInt8),(∀q,q<fiN F nm→Op.bytesLess (F.getD q default).nm nm=true)∧(fiN F nm<F.length→Op.bytesLess (F.getD (fiN F nm) default).nm nm=false)
 | [],nm=>⟨fun q h=>absurd h (Nat.not_lt_zero q),fun h=>absurd h (Nat.not_lt_zero _)⟩
 | f::F,nm=>by
  obtain⟨h1,h2⟩:=Z5U F nm
  unfold fiN
  by_cases c:Op.bytesLess f.nm nm=true
  ·rw [if_pos c]
   refine⟨fun q hq=>?_,fun h=>?_⟩
   ·rcases q with _ | q
    ·exact c
    ·exact h1 q (by omega)
   ·exact h2 (by simpa using h)
  ·rw [if_neg c]
   exact⟨fun q h=>absurd h (Nat.not_lt_zero q),fun _=>by simpa using c⟩
theorem Z0m{α:Type}[Inhabited α]{l:List α}{i:Nat}(h:i<l.length):l.getD i default=l[i]:=by rw [List.getD_eq_getElem?_getD,List.getElem?_eq_getElem h]; rfl
theorem Z9p{F:List Fl}{i:Nat}{x:Fl}(hs:srt F)(hi:i≤F.length)(h1:∀q,q<i→Op.bytesLess (F.getD q default).nm x.nm=true)(h2:∀q,i≤q→q<F.length→Op.bytesLess x.nm (F.getD q default).nm=true):srt (insF F i x):=by
 unfold srt insF
 have hs':=hs
 unfold srt at hs
 rw [←List.take_append_drop i F,List.pairwise_append] at hs
 obtain⟨a,b,c⟩:=hs
 have ht:∀f∈F.take i,Op.bytesLess f.nm x.nm=true:=fun f hf=>by
  obtain⟨j,hj,e⟩:=List.mem_take_iff_getElem.1 hf
  have:=h1 j (by omega)
  rw [Z0m (by omega),e] at this
  exact this
 have hd:∀f∈F.drop i,Op.bytesLess x.nm f.nm=true:=fun f hf=>by
  obtain⟨j,hj,e⟩:=List.mem_iff_getElem.1 hf
  rw [List.length_drop] at hj
  have:=h2 (i+j) (by omega) (by omega)
  rw [Z0m (by omega)] at this
  rw [List.getElem_drop] at e
  rw [e] at this
  exact this
 rw [List.pairwise_append,List.pairwise_cons]
 refine⟨a,⟨hd,b⟩,fun f hf g hg=>?_⟩
 rcases List.mem_cons.1 hg with rfl | hg
 ·exact ht f hf
 ·exact c f hf g hg
theorem Zcj{F:List Fl}{i:Nat}{x:Fl}(hs:srt F)(h:(F.getD i default).nm=x.nm):srt (F.set i x):=by
 unfold srt at *
 have e:∀G:List Fl,G.Pairwise (fun a b=>Op.bytesLess a.nm b.nm=true)↔(G.map Fl.nm).Pairwise (fun a b=>Op.bytesLess a b=true):=fun G=>(List.pairwise_map (f:=Fl.nm) (R:=fun a b=>Op.bytesLess a b=true)).symm
 rw [e] at hs ⊢
 rw [List.map_set]
 have:(F.map Fl.nm).set i x.nm=F.map Fl.nm:=by
  refine List.ext_getElem (by rw [List.length_set]) fun k h1 h2=>?_
  rw [List.getElem_set]
  split
  ·rename_i hk
   subst hk
   rw [List.length_map] at h2
   rw [List.getElem_map,←h,Z0m h2]
  ·rfl
 rw [this]
 exact hs
def seL(F:List Fl):List Int:=F.flatMap Fl.se
theorem Z6n(F:List Fl)(i:Nat)(x:Fl):(seL (insF F i x)).Perm (x.se++seL F):=by
 have h:(insF F i x).Perm (x::F):=by
  unfold insF
  refine List.perm_middle.trans ?_
  rw [List.take_append_drop]
 exact (h.flatMap_right Fl.se).trans (by rw [List.flatMap_cons]; exact List.Perm.refl _)
def wo(F:List Fl)(i:Nat):List Fl:=F.take i++F.drop (i+1)
theorem Z2E{F:List Fl}{i:Nat}(h:i<F.length):(seL F).Perm ((F.getD i default).se++seL (wo F i)):=by
 have h:F.Perm (F.getD i default::wo F i):=by
  unfold wo
  rw [Z0m h]
  refine List.Perm.trans ?_ List.perm_middle
  rw [←List.drop_eq_getElem_cons h,List.take_append_drop]
 exact (h.flatMap_right Fl.se).trans (by rw [List.flatMap_cons]; exact List.Perm.refl _)
theorem Z30{F:List Fl}{i:Nat}{x:Fl}(h:i<F.length):(seL (F.set i x)).Perm (x.se++seL (wo F i)):=by
 have h:(F.set i x).Perm (x::wo F i):=by
  rw [List.set_eq_take_append_cons_drop,if_pos h]
  exact List.perm_middle
 exact (h.flatMap_right Fl.se).trans (by rw [List.flatMap_cons]; exact List.Perm.refl _)
structure St where
 F:List Fl
 Lv:List Int
 U:List Int
 R:List Wr
 deriving Inhabited
def inv(N:Nat)(s:St):Prop:=srt s.F∧s.F.length≤200∧(∀f∈s.F,Z1p f∧f.se.length≤251)∧s.Lv.length≤7∧s.U.length=N∧s.R.length≤4096∧tOk s.U 1 (s.Lv++seL s.F)
def Z78(N:Nat)(s:St)(L:List Fl)(gone own:List Int):St:=
 ⟨L,(lyE L (sOf N s.R) (wOf N s.R) s.U).now,tRes (lyU L s.Lv gone (sOf N s.R) (wOf N s.R) s.U) 2 1 own,ryR L N s.R s.U⟩
theorem Zkx{L:List Fl}{N:Nat}{R:List Wr}{U:List Int}(hR:R.length≤4096)(h:Z2l L R U):(ryR L N R U).length≤4096:=Z2J _ _ _ _ (Z2I L N R U hR _ h.1).1
theorem Z9O{N:Nat}{s:St}{L:List Fl}{gone own rest:List Int}(hi:inv N s)(hp:(seL s.F).Perm (gone++rest))(ho:tOk s.U 2 own)(hL:srt L)(hL2:L.length≤200)(hf:∀f∈L,Z1p f∧f.se.length≤251)(hn:(seL L).Perm (own++rest))(hk:Z2l L s.R s.U) :
  inv N (Z78 N s L gone own)∧(uGo 1 0 gone (uGo 2 1 own (ryU L s.Lv N s.R s.U)).1).1=(Z78 N s L gone own).U:=by
 obtain⟨i1,i2,i3,i4,i5,i6,i7⟩:=hi
 have hk':=(Z33 (L:=L) (Z0F N s.R) s.U).2 hk
 obtain⟨n1,n2⟩:=Z7O L (sOf N s.R) (wOf N s.R) s.U (lvN L.length) hk.1
 obtain⟨b1,b2,b3,b4⟩:=Z6h (N:=N) hk
 obtain⟨C,c1,c2,c3,c4,c5⟩:=ZaR i7 hp n1 ho
 have e1:(lyE L (sOf N s.R) (wOf N s.R) s.U).U=tSet s.U 2 (lyE L (sOf N s.R) (wOf N s.R) s.U).now:=n2
 have eU:(Z78 N s L gone own).U=C:=by
  show tRes (lyU L s.Lv gone (sOf N s.R) (wOf N s.R) s.U) 2 1 own=C
  unfold lyU
  rw [if_pos hk',e1]
  exact c2
 refine⟨⟨hL,hL2,hf,?_,by rw [eU,c1,i5],Zkx i6 hk,?_⟩,?_⟩
 ·show (lyE L (sOf N s.R) (wOf N s.R) s.U).now.length≤7
  rw [Z6i _ _ _ _ hk']
  unfold lvN; omega
 ·rw [eU]; exact c4 _ hn
 ·rw [eU]
  unfold ryU
  rw [b3,b4,e1]
  exact c3
theorem Z2w{l:List UInt8}(h:Z34 l=true):l.length≤23:=by
 unfold Z34 at h
 exact (of_decide_eq_true h).2.2
def insS(N:Nat)(s:St)(nm:List UInt8)(h ln:Int):St:=
 if inR s.F s.U (sOf N s.R) (wOf N s.R) nm h ln=0 then Z78 N s (inL s.F (sOf N s.R) nm h ln) (inG s.F nm) (Z2K (sOf N s.R) h ln) else s
theorem Z6q{F:List Fl}{U:List Int}{S:List Sec}{W V:List Wr}(h:W.length=V.length)(nm:List UInt8)(hd ln:Int):inR F U S W nm hd ln=inR F U S V nm hd ln:=by
 unfold inR
 have:=Z33 (L:=inL F S nm hd ln) h U
 by_cases c:Z2l (inL F S nm hd ln) V U
 ·rw [if_pos c,if_pos (this.2 c)]
 ·rw [if_neg c,if_neg (fun h=>c (this.1 h))]
theorem Z5Q{F:List Fl}{U:List Int}{S:List Sec}{W:List Wr}{nm:List UInt8}{hd ln:Int}(h:inR F U S W nm hd ln=0):Z34 nm=true∧inA U S hd ln∧(inL F S nm hd ln).length≤200∧Z2l (inL F S nm hd ln) W U:=by
 unfold inR at h
 split at h
 ·rename_i h1
  split at h
  ·rename_i h2
   split at h
   ·rename_i h3
    split at h
    ·rename_i h4
     exact⟨h1,h2,h3,h4⟩
    ·exact absurd h (by decide)
   ·exact absurd h (by decide)
  ·exact absurd h (by decide)
 ·exact absurd h (by decide)
theorem Z7K{S:List Sec}{h ln:Int}(hk:Z6t S h ln):(Z2K S h ln).length≤251:=by
 unfold Z2K
 rw [Z3B]
 have:=hk.1.2.2.1
 unfold hdN
 omega
theorem ZiN{F:List Fl}{nm:List UInt8}{x:Fl}(hs:srt F)(hx:x.nm=nm):srt (inF F nm x):=by
 unfold inF
 split
 ·rename_i h
  have:=of_decide_eq_true h
  exact Zcj hs (by rw [hx]; exact this.2)
 ·rename_i h
  obtain⟨h1,h2⟩:=Z5U F nm
  refine Z9p hs (Z6z F nm) (by rw [hx]; exact h1) fun q hq hl=>?_
  rw [hx]
  have h0:fiN F nm<F.length:=by omega
  have hne:(F.getD (fiN F nm) default).nm≠nm:=fun e=>h (decide_eq_true ⟨h0,e⟩)
  have hlt:Op.bytesLess nm (F.getD (fiN F nm) default).nm=true:=by
   rcases Z92 (F.getD (fiN F nm) default).nm nm with c | c | c
   ·rw [h2 h0] at c; exact absurd c (by decide)
   ·exact absurd c hne
   ·exact c
  rcases Nat.lt_or_ge (fiN F nm) q with c | c
  ·exact Z2y hlt (Z60 hs c hl)
  ·obtain rfl:q=fiN F nm:=by omega
   exact hlt
theorem Z7T{F:List Fl}{nm:List UInt8}{x f:Fl}(h:f∈inF F nm x):f=x∨f∈F:=by
 unfold inF at h
 split at h
 ·rcases List.mem_or_eq_of_mem_set h with h | h
  ·exact .inr h
  ·exact .inl h
 ·unfold insF at h
  rcases List.mem_append.1 h with h | h
  ·exact .inr (List.mem_of_mem_take h)
  ·rcases List.mem_cons.1 h with h | h
   ·exact .inl h
   ·exact .inr (List.mem_of_mem_drop h)
theorem Z5R{N:Nat}{R:List Wr}{h ln:Int}(hN:N≤4096)(hk:Z6t (sOf N R) h ln):(0≤h∧h<4294967296)∧0≤ln∧ln<4294967296:=by
 have h1:=hk.1.1
 have h2:=hk.1.2.1
 have h3:=hk.1.2.2.1
 rw [Z0r] at h1
 omega
theorem Z4W{N:Nat}{s:St}{nm:List UInt8}{h ln:Int}(hN:N≤4096)(hi:inv N s) :
  inv N (insS N s nm h ln)∧(inR s.F s.U (sOf N s.R) (wOf N s.R) nm h ln=0→(uGo 1 0 (inG s.F nm) (uGo 2 1 (Z2K (sOf N s.R) h ln) (ryU (inL s.F (sOf N s.R) nm h ln) s.Lv N s.R s.U)).1).1=(insS N s nm h ln).U):=by
 unfold insS
 by_cases c:inR s.F s.U (sOf N s.R) (wOf N s.R) nm h ln=0
 case neg=>
  rw [if_neg c]
  exact⟨hi,fun h=>absurd h c⟩
 rw [if_pos c]
 obtain⟨h1,⟨h2,h2'⟩,h3,h4⟩:=Z5Q c
 have hk:=(Z33 (Z0F N s.R) s.U).1 h4
 have hx:Z1p ⟨nm,h,ln,Z2K (sOf N s.R) h ln⟩∧(Z2K (sOf N s.R) h ln).length≤251:=⟨⟨Z2w h1,Z5R hN h2⟩,Z7K h2⟩
 have hf:∀f∈inL s.F (sOf N s.R) nm h ln,Z1p f∧f.se.length≤251:=fun f hf=>by
  rcases Z7T hf with rfl | hf
  ·exact hx
  ·exact hi.2.2.1 f hf
 have hs:srt (inL s.F (sOf N s.R) nm h ln):=ZiN hi.1 rfl
 have hp:∃rest,(seL s.F).Perm (inG s.F nm++rest)∧(seL (inL s.F (sOf N s.R) nm h ln)).Perm (Z2K (sOf N s.R) h ln++rest):=by
  unfold inL inF inG
  by_cases d:fiB s.F nm=true
  ·have:=(of_decide_eq_true d).1
   exact⟨seL (wo s.F (fiN s.F nm)),by rw [if_pos d]; exact Z2E this,by rw [if_pos d]; exact Z30 this⟩
  ·refine⟨seL s.F,?_,?_⟩
   ·rw [if_neg d]; exact List.Perm.refl _
   ·rw [if_neg d]; exact Z6n _ _ _
 obtain⟨rest,p1,p2⟩:=hp
 have:=Z9O hi p1 h2' hs h3 hf p2 hk
 exact⟨this.1,fun _=>this.2⟩
theorem Zgg{F:List Fl}{x:Fl}(hs:srt F)(h:F.length=0∨Op.bytesLess (F.getD (F.length - 1) default).nm x.nm=true):srt (F++[x]):=by
 have e:F++[x]=insF F F.length x:=by unfold insF; rw [List.take_length,List.drop_length]
 rw [e]
 refine Z9p hs (Nat.le_refl _) (fun q hq=>?_) (fun q h1 h2=>absurd h2 (by omega))
 rcases h with h | h
 ·omega
 ·rcases Nat.lt_or_ge q (F.length - 1) with c | c
  ·exact Z2y (Z60 hs c (by omega)) h
  ·obtain rfl:q=F.length - 1:=by omega
   exact h
def okF(F:List Fl):Prop:=srt F∧F.length≤200∧∀f∈F,Z1p f∧f.se=[]
theorem Zlj(b:List UInt8)(i:Nat)(h:Zhz b i=true):Z1p (lfE b i)∧(lfE b i).se=[]:=by
 unfold Zhz at h
 rw [Bool.and_eq_true] at h
 have h1:=Z20 b (4*((8+32*i+24) / 4))
 have h2:=Z20 b (4*((8+32*i+24) / 4+1))
 refine⟨⟨Z2w h.1,?_,?_⟩,rfl⟩
 ·show 0≤enH b i∧enH b i<_; unfold enH; omega
 ·show 0≤enL b i∧enL b i<_; unfold enL; omega
theorem ZdQ(b:List UInt8):∀(n i:Nat) (F:List Fl),okF F→okF (Z3L b n i F).1
 | 0,_,_,h=>h
 | n+1,i,F,h=>by
  unfold Z3L
  by_cases c:ZdP b i F
  ·rw [if_pos c]
   obtain⟨h1,h2,h3⟩:=h
   have he:=Zlj b i c.1
   refine ZdQ b n (i+1) _ ⟨Zgg h1 c.2.2,?_,fun f hf=>?_⟩
   ·rw [List.length_append]; have:=c.2.1; simp only [List.length_singleton]; omega
   ·rcases List.mem_append.1 hf with hf | hf
    ·exact h3 f hf
    ·rw [List.mem_singleton.1 hf]; exact he
  ·rw [if_neg c]; exact h
def okL(N i:Nat)(d:D3):Prop:=okF d.F∧d.Lv.length≤i∧d.U.length=N∧tOk d.U 1 d.Lv
theorem Zaj{U Lv:List Int}{x:List Int}(h:tOk U 1 Lv)(hx:tOk U 0 x):tOk (tSet U 1 x) 1 (Lv++x):=by
 obtain⟨a,b⟩:=Z0p.1 h
 obtain⟨c,d⟩:=Z0p.1 hx
 have dis:=Z1i a c (by decide)
 exact Z0p.2 ⟨Z3x.2 ⟨Z1x a dis (Z1I c),Z4U c⟩,List.nodup_append.2 ⟨b,d,fun x hx y hy e=>dis x hx (e▸hy)⟩⟩
theorem ZiY{N n i:Nat}{S:List Sec}{d:D3}(h:okL N i d)(hb:rdB S n i d=true):okL N (i+1) (Z4R S n i d):=by
 unfold rdB lfB at hb
 split at hb
 case isFalse=>exact absurd hb (by decide)
 rename_i hp
 obtain⟨h1,h2,h3,h4⟩:=h
 have ht:=hp.1.2.1
 have eF:(Z4R S n i d).F=(Z3L (secB S (rdAt S i)) (lfN S (rdAt S i)) 0 d.F).1:=by show lfF _ _ _ _ _=_; unfold lfF; rw [if_pos hp]
 have eL:(Z4R S n i d).Lv=d.Lv++[rdAt S i]:=by show lfL _ _ _ _ _=_; unfold lfL; rw [if_pos hp]
 have eU:(Z4R S n i d).U=tSet d.U 1 [rdAt S i]:=by show lfU _ _ _=_; unfold lfU tRes; rw [if_pos hp.1.1,if_pos ht]
 refine⟨?_,?_,?_,?_⟩
 ·rw [eF]; exact ZdQ _ _ _ _ h1
 ·rw [eL,List.length_append]; simp only [List.length_singleton]; omega
 ·rw [eU,Z0w]; exact h3
 ·rw [eU,eL]; exact Zaj h4 ht
theorem Zdc(N:Nat)(S:List Sec)(n:Nat):∀(k i:Nat) (d:D3),okL N i d→(rdL S n k i d).2=true→okL N (i+k) (rdL S n k i d).1
 | 0,i,d,h,_=>h
 | k+1,i,d,h,hb=>by
  unfold rdL at hb ⊢
  by_cases c:rdB S n i d=true
  ·rw [if_pos c] at hb ⊢
   have:=Zdc N S n k (i+1) _ (ZiY h c) hb
   rw [show i+(k+1)=i+1+k by omega]
   exact this
  ·rw [if_neg c] at hb; exact absurd hb (by simp)
def okH(N i:Nat)(Lv:List Int)(d:D3):Prop:=srt d.F∧d.F.length≤200∧(∀f∈d.F,Z1p f∧f.se.length≤251)∧d.Lv=Lv∧d.U.length=N∧tOk d.U 1 (d.Lv++seL d.F)∧∀j,i≤j→j<d.F.length→(d.F.getD j default).se=[]
theorem Ze3{S:List Sec}{f:Fl}(h:Z6t S f.hd f.ln):(hdAll S f).length≤251:=Z7K h
theorem Zjt{N i:Nat}{Lv:List Int}{S:List Sec}{d:D3}(hi:i<d.F.length)(h:okH N i Lv d)(hp:hdP S i d):okH N (i+1) Lv (Z98 S i d):=by
 obtain⟨h1,h2,h3,h4,h5,h6,h7⟩:=h
 obtain⟨p1,p2⟩:=hp
 have hl:=Ze3 p1
 have hm:d.F.getD i default∈d.F:=by rw [Z0m hi]; exact List.getElem_mem hi
 have he:=h7 i (Nat.le_refl _) hi
 unfold Z98
 generalize hdAll S (d.F.getD i default)=l at *
 refine⟨Zcj h1 rfl,by rw [List.length_set]; exact h2,fun f hf=>?_,h4,by show (tSet _ _ _).length=N; rw [Z0w]; exact h5,?_,fun j hj hjl=>?_⟩
 ·rcases List.mem_or_eq_of_mem_set hf with hf | rfl
  ·exact h3 f hf
  ·exact⟨(h3 _ hm).1,hl⟩
 ·dsimp only
  obtain⟨a,b⟩:=Z0p.1 (Zaj h6 p2)
  have w:=Z2E hi
  rw [he,List.nil_append] at w
  have p:(d.Lv++seL (d.F.set i { d.F.getD i default with se:=l })).Perm ((d.Lv++seL d.F)++l):=by
   rw [List.append_assoc]
   refine List.Perm.append_left _ ((Z30 hi).trans (List.Perm.trans (List.Perm.append_left _ w.symm) List.perm_append_comm))
  exact Z0p.2 ⟨fun n hn=>a n (p.mem_iff.1 hn),p.nodup_iff.2 b⟩
 ·dsimp only at *
  rw [List.length_set] at hjl
  rw [Z1c _ _ _ _ _ (by omega)]
  exact h7 j (by omega) hjl
theorem Zi1(N:Nat)(Lv:List Int)(S:List Sec):∀(k i:Nat) (d:D3),i+k=d.F.length→okH N i Lv d→(rdH S k i d).2=true→okH N (i+k) Lv (rdH S k i d).1
 | 0,i,d,_,h,_=>h
 | k+1,i,d,hl,h,hb=>by
  unfold rdH at hb ⊢
  by_cases c:hdP S i d
  ·rw [if_pos c] at hb ⊢
   have:=Zi1 N Lv S k (i+1) _ (by show i+1+k=(List.set _ _ _).length; rw [List.length_set]; omega) (Zjt (by omega) h c) hb
   rw [show i+(k+1)=i+1+k by omega]
   exact this
  ·rw [if_neg c] at hb; exact absurd hb (by simp)
def opS(N:Nat)(R:List Wr):St:=⟨(opn (sOf N R)).1.F,(opn (sOf N R)).1.Lv,(opn (sOf N R)).1.U,R⟩
theorem Z9s:∀F:List Fl,(∀f∈F,f.se=[])→seL F=[]
 | [],_=>rfl
 | f::F,h=>by
  show f.se++seL F=[]
  rw [h f (List.mem_cons_self ..),Z9s F (fun g hg=>h g (List.mem_cons_of_mem _ hg))]; rfl
theorem opn_inv{N:Nat}{R:List Wr}(hR:R.length≤4096)(h:(opn (sOf N R)).2=true):inv N (opS N R):=by
 unfold opS
 have hS:=Z0r N R
 generalize sOf N R=S at *
 unfold opn rdA3 at h ⊢
 by_cases h0:rd0 S
 case neg=>rw [if_neg h0] at h; exact absurd h (by simp)
 rw [if_pos h0] at h ⊢
 unfold ZbA at h ⊢
 by_cases h1:(rdL S (rdN S) (rdN S) 0 ⟨[],[],(List.replicate S.length 0).set 0 1⟩).2=true
 case neg=>rw [if_neg h1] at h; exact absurd h h1
 rw [if_pos h1] at h ⊢
 have hL:okL N (0+rdN S) (rdL S (rdN S) (rdN S) 0 ⟨[],[],(List.replicate S.length 0).set 0 1⟩).1:=
  Zdc N S _ _ _ _ ⟨⟨List.Pairwise.nil,Nat.zero_le _,fun f hf=>absurd hf (List.not_mem_nil)⟩,Nat.zero_le _,by rw [List.length_set,List.length_replicate]; exact hS,fun i hi=>absurd hi (Nat.not_lt_zero i)⟩ h1
 clear h1
 generalize (rdL S (rdN S) (rdN S) 0 ⟨[],[],(List.replicate S.length 0).set 0 1⟩).1=d at *
 obtain⟨⟨a1,a2,a3⟩,b,c,e⟩:=hL
 have hH:=Zi1 N d.Lv S d.F.length 0 d (Nat.zero_add _) ⟨a1,a2,fun f hf=>⟨(a3 f hf).1,by rw [(a3 f hf).2]; exact Nat.zero_le _⟩,rfl,c,by rw [Z9s d.F (fun f hf=>(a3 f hf).2),List.append_nil]; exact e,fun j _ hj=>by rw [Z0m hj]; exact (a3 _ (List.getElem_mem hj)).2⟩ h
 obtain⟨k1,k2,k3,k4,k5,k6,_⟩:=hH
 refine⟨k1,k2,k3,?_,k5,hR,k6⟩
 dsimp only
 rw [k4]
 have:=h0.2
 omega
theorem Ze9{N:Nat}{R:List Wr}(hN:0<N)(hR:R.length<4096):fmtR N R=R++[(0,Z2p (padP (leW markR)))]:=by
 have hpl:(padP (leW markR)).length=1024:=Z29 (by decide)
 unfold fmtR
 generalize padP (leW markR)=p at *
 unfold rwW
 rw [if_pos (Zg3 ⟨Int.le_refl _,by omega⟩ hpl hR)]
theorem Z7L{N:Nat}{R:List Wr}(hN:0<N)(hR:R.length<4096):opn (sOf N (fmtR N R))=(⟨[],[],(List.replicate N 0).set 0 1⟩,true):=by
 have hpl:(padP (leW markR)).length=1024:=Z29 (by decide)
 have e:=Ze9 hN hR
 have k1:getW (padP (leW markR)) 0=827475011:=by decide +kernel
 have k2:getW (padP (leW markR)) 4=0:=by decide +kernel
 generalize padP (leW markR)=p at *
 have hb:secB (sOf N (fmtR N R)) 0=p:=by
  rw [e,Z4N]
  unfold stW secB
  rw [if_pos (Int.le_refl _),Z1J _ _ _ _ (by rw [Z0r]; exact hN)]
  exact Z4L hpl
 have hS:=Z0r N (fmtR N R)
 generalize sOf N (fmtR N R)=S at *
 have h0:rdN S=0:=by unfold rdN; rw [hb]; exact k2
 have h1:rd0 S:=⟨by rw [hb]; exact k1,by rw [h0]; exact Nat.zero_le _⟩
 unfold opn rdA3
 rw [if_pos h1]
 unfold ZbA
 rw [h0,hS]
 rfl
end Go.Proofs.YtbnnhffkbcekcaaGreatDoor.dirDone
end
