/- Parts of the walk through directories. Conditions stand in each. -/
import Derived.Test.YtbnnhffkbcekcaaGreatDoorGr
import Derived.Test.YtbnnhffkbcekcaaGreatDoorFg
set_option linter.unusedVariables false
set_option linter.unusedSimpArgs false
set_option maxRecDepth 100000
section
namespace Go.Proofs.YtbnnhffkbcekcaaGreatDoor.dirDone
open Go Go.Eng Go.Proofs Go.Lib
def mk1(N:Nat)(s:St):Prop:=(∀k:Nat,k<N→s.U.getD k default=0∨s.U.getD k default=1∨s.U.getD k default=2)∧(∀k:Nat,k<N→(s.U.getD k default=1↔((k:Int)=0∨(k:Int)∈s.Lv++seL s.F)))∧(0:Int)∉s.Lv++seL s.F∧s.Lv.length=lvN s.F.length∧∀f∈s.F,f.se.length=hdN f.ln+1
theorem Z8F{N:Nat}{s:St}(h0:0<N)(hU:s.U.length=N)(hm:mk1 N s){w:Int}{l:List Int}(hw:w≠1)(hl:mks s.U w l):(0:Int)∉l:=fun h=>by
 have h1:=(hl 0 h).2.2
 have h2:=(hm.2.1 0 h0).2 (.inl rfl)
 exact hw (by rw [←h1,←h2]; rfl)
theorem ZdU{N:Nat}{s:St}{L:List Fl}{gone own rest:List Int}(h0:0<N)(hi:inv N s)(hm:mk1 N s)(hp:(seL s.F).Perm (gone++rest))(ho:tOk s.U 2 own)(hn:(seL L).Perm (own++rest))(hk:Z2l L s.R s.U)(hse:∀f∈L,f.se.length=hdN f.ln+1):mk1 N (Z78 N s L gone own):=by
 obtain⟨i1,i2,i3,i4,i5,i6,i7⟩:=hi
 have hk':=(Z33 (L:=L) (Z0F N s.R) s.U).2 hk
 obtain⟨n1,n2⟩:=Z7O L (sOf N s.R) (wOf N s.R) s.U (lvN L.length) hk.1
 obtain⟨C,c1,c2,c3,c4,c5⟩:=ZaR i7 hp n1 ho
 have e1:(lyE L (sOf N s.R) (wOf N s.R) s.U).U=tSet s.U 2 (lyE L (sOf N s.R) (wOf N s.R) s.U).now:=n2
 have eU:(Z78 N s L gone own).U=C:=by
  show tRes (lyU L s.Lv gone (sOf N s.R) (wOf N s.R) s.U) 2 1 own=C
  unfold lyU
  rw [if_pos hk',e1]
  exact c2
 have eL:(Z78 N s L gone own).Lv=(lyE L (sOf N s.R) (wOf N s.R) s.U).now:=rfl
 have eF:(Z78 N s L gone own).F=L:=rfl
 have en:=Z6i L (sOf N s.R) (wOf N s.R) s.U hk'
 have n1':tOk s.U 0 (lyE L (sOf N s.R) (wOf N s.R) s.U).now:=n1
 have c5':∀k:Nat,k<s.U.length→C.getD k default=if (k:Int)∈own then 1 else if (k:Int)∈s.Lv++gone then 0 else if (k:Int)∈(lyE L (sOf N s.R) (wOf N s.R) s.U).now then 1 else s.U.getD k default:=c5
 unfold mk1
 rw [eU,eL,eF]
 generalize (lyE L (sOf N s.R) (wOf N s.R) s.U).now=now at *
 clear n1 n2 c2 c3 c4 c5 e1 eU eL eF
 obtain⟨nm,nd⟩:=Z0p.1 n1'
 obtain⟨om,od⟩:=Z0p.1 ho
 obtain⟨um,ud⟩:=Z0p.1 i7
 obtain⟨hLv,hold⟩:=Z3x.1 um
 obtain⟨dLv,dold,dx⟩:=List.nodup_append.1 ud
 have hgr:mks s.U 1 (gone++rest):=fun n hn=>hold n (hp.mem_iff.2 hn)
 obtain⟨hg,hr⟩:=Z3x.1 hgr
 obtain⟨dg,dr,dgx⟩:=List.nodup_append.1 (hp.nodup_iff.1 dold)
 obtain⟨m1,m2,m3,m4,m5⟩:=hm
 have z1:(0:Int)∉own:=Z8F h0 i5 ⟨m1,m2,m3,m4,m5⟩ (by decide) om
 have z2:(0:Int)∉now:=Z8F h0 i5 ⟨m1,m2,m3,m4,m5⟩ (by decide) nm
 have z3:(0:Int)∉gone++rest:=fun h=>m3 (List.mem_append_right _ (hp.mem_iff.2 h))
 have mL:∀n,n∈seL L↔n∈own∨n∈rest:=fun n=>by rw [hn.mem_iff,List.mem_append]
 have mF:∀n,n∈seL s.F↔n∈gone∨n∈rest:=fun n=>by rw [hp.mem_iff,List.mem_append]
 have lvg:mks s.U 1 (s.Lv++gone):=Z3x.2 ⟨hLv,hg⟩
 refine⟨fun k hk=>?_,fun k hk=>?_,?_,en,hse⟩
 ·rw [c5' k (by omega)]
  split
  ·exact .inr (.inl rfl)
  split
  ·exact .inl rfl
  split
  ·exact .inr (.inl rfl)
  exact m1 k hk
 ·rw [c5' k (by omega)]
  by_cases a:(k:Int)∈own
  ·rw [if_pos a]
   exact⟨fun _=>.inr (List.mem_append_right _ ((mL _).2 (.inl a))),fun _=>rfl⟩
  rw [if_neg a]
  by_cases b:(k:Int)∈s.Lv++gone
  ·rw [if_pos b]
   refine⟨fun h=>absurd h (by decide),fun h=>?_⟩
   rcases h with h | h
   ·rw [h] at b
    rcases List.mem_append.1 b with b | b
    ·exact absurd (List.mem_append_left _ b) m3
    ·exact absurd (List.mem_append_left _ b) z3
   ·rcases List.mem_append.1 h with h | h
    ·exact absurd b (Z1i nm lvg (by decide) _ h)
    ·rcases (mL _).1 h with h | h
     ·exact absurd h a
     ·rcases List.mem_append.1 b with b | b
      ·exact absurd rfl (dx _ b _ ((mF _).2 (.inr h)))
      ·exact absurd rfl (dgx _ b _ h)
  rw [if_neg b]
  by_cases c:(k:Int)∈now
  ·rw [if_pos c]
   exact⟨fun _=>.inr (List.mem_append_left _ c),fun _=>rfl⟩
  rw [if_neg c,m2 k hk]
  constructor
  ·rintro (h | h)
   ·exact .inl h
   ·rcases List.mem_append.1 h with h | h
    ·exact absurd (List.mem_append_left _ h) b
    ·rcases (mF _).1 h with h | h
     ·exact absurd (List.mem_append_right _ h) b
     ·exact .inr (List.mem_append_right _ ((mL _).2 (.inr h)))
  ·rintro (h | h)
   ·exact .inl h
   ·rcases List.mem_append.1 h with h | h
    ·exact absurd h c
    ·rcases (mL _).1 h with h | h
     ·exact absurd h a
     ·exact .inr (List.mem_append_right _ ((mF _).2 (.inr h)))
 ·intro h
  rcases List.mem_append.1 h with h | h
  ·exact z2 h
  ·rcases (mL _).1 h with h | h
   ·exact z1 h
   ·exact z3 (List.mem_append_right _ h)
theorem Zb0(b:List UInt8)(h:Int)(k:Nat):(hdL b h k).length=k+1:=by unfold hdL; rw [List.length_cons,List.length_map,List.length_range]
theorem Zib{N:Nat}{s:St}{nm:List UInt8}{h ln:Int}(h0:0<N)(hi:inv N s)(hm:mk1 N s):mk1 N (insS N s nm h ln):=by
 unfold insS
 by_cases c:inR s.F s.U (sOf N s.R) (wOf N s.R) nm h ln=0
 case neg=>rw [if_neg c]; exact hm
 rw [if_pos c]
 obtain⟨h1,⟨h2,h2'⟩,h3,h4⟩:=Z5Q c
 have hk:=(Z33 (Z0F N s.R) s.U).1 h4
 have hf:∀f∈inL s.F (sOf N s.R) nm h ln,f.se.length=hdN f.ln+1:=fun f hf=>by
  rcases Z7T hf with rfl | hf
  ·exact Zb0 _ _ _
  ·exact hm.2.2.2.2 f hf
 have hp:∃rest,(seL s.F).Perm (inG s.F nm++rest)∧(seL (inL s.F (sOf N s.R) nm h ln)).Perm (Z2K (sOf N s.R) h ln++rest):=by
  unfold inL inF inG
  by_cases d:fiB s.F nm=true
  ·have:=(of_decide_eq_true d).1
   exact⟨seL (wo s.F (fiN s.F nm)),by rw [if_pos d]; exact Z2E this,by rw [if_pos d]; exact Z30 this⟩
  ·refine⟨seL s.F,?_,?_⟩
   ·rw [if_neg d]; exact List.Perm.refl _
   ·rw [if_neg d]; exact Z6n _ _ _
 obtain⟨rest,p1,p2⟩:=hp
 exact ZdU h0 hi hm p1 h2' p2 hk hf
theorem ZlW{N:Nat}{s:St}{nm:List UInt8}(h0:0<N)(hi:inv N s)(hm:mk1 N s):mk1 N (delS N s nm):=by
 unfold delS
 by_cases c:delR s.F s.U s.R nm=0
 case neg=>rw [if_neg c]; exact hm
 rw [if_pos c]
 obtain⟨h1,h2⟩:=Z3X.1 c
 exact ZdU (own:=[]) (rest:=seL (delL s.F nm)) h0 hi hm (Z2E (Z54 h1)) (fun i h=>absurd h (Nat.not_lt_zero i)) (List.Perm.refl _) h2 fun f hf=>hm.2.2.2.2 f (Z4K hf)
theorem ZkG{N:Nat}{s:St}{a b:List UInt8}(h0:0<N)(hi:inv N s)(hm:mk1 N s):mk1 N (renS N s a b):=by
 unfold renS
 by_cases c:renR s.F s.U s.R a b=0
 case neg=>rw [if_neg c]; exact hm
 rw [if_pos c]
 obtain⟨h1,h2,h3,h4⟩:=Z3Q.1 c
 have hl:=Z54 h2
 have hp:(seL (renL s.F a b)).Perm (seL s.F):=((Z2t hl).flatMap_right Fl.se).trans ((Z30 hl).trans (Z2E hl).symm)
 refine ZdU (gone:=[]) (own:=[]) (rest:=seL s.F) h0 hi hm (List.Perm.refl _) (fun i h=>absurd h (Nat.not_lt_zero i)) hp h4 fun f hf=>?_
 rcases List.mem_or_eq_of_mem_set ((Z2t hl).mem_iff.1 hf) with h | rfl
 ·exact hm.2.2.2.2 f h
 ·show (s.F.getD (fiN s.F a) default).se.length=hdN (s.F.getD (fiN s.F a) default).ln+1
  exact hm.2.2.2.2 _ (by rw [Z0m hl]; exact List.getElem_mem hl)
theorem Zao{N:Nat}{s:St}{l:List Int}{w x:Int}(h0:0<N)(hi:inv N s)(hm:mk1 N s)(hl:mks s.U w l)(hw:w≠1)(hx:x=0∨x=2)(R:List Wr):mk1 N ⟨s.F,s.Lv,tSet s.U x l,R⟩:=by
 obtain⟨m1,m2,m3,m4,m5⟩:=hm
 have i5:s.U.length=N:=hi.2.2.2.2.1
 refine⟨fun k hk=>?_,fun k hk=>?_,m3,m4,m5⟩
 ·show (tSet s.U x l).getD k default=0∨_
  rw [Z15 _ _ _ _ (Z1I hl) (by omega)]
  split
  ·rcases hx with rfl | rfl
   ·exact .inl rfl
   ·exact .inr (.inr rfl)
  ·exact m1 k hk
 ·show (tSet s.U x l).getD k default=1↔_
  rw [Z15 _ _ _ _ (Z1I hl) (by omega)]
  split
  ·rename_i h
   have h1:=(hl _ h).2.2
   rw [Int.toNat_natCast] at h1
   refine⟨fun e=>?_,fun e=>?_⟩
   ·rcases hx with rfl | rfl
    ·exact absurd e (by decide)
    ·exact absurd e (by decide)
   ·exact absurd (h1.symm.trans ((m2 k hk).2 e)) hw
  ·exact m2 k hk
theorem ZmO{N:Nat}{s:St}(h0:0<N)(hi:inv N s)(hm:mk1 N s):mk1 N ⟨s.F,s.Lv,tkU s.U,s.R⟩:=by
 by_cases c:(0:Int)∈s.U
 ·obtain⟨a,ha,hal,hag⟩:=Z2x c
  have e:tkU s.U=tSet s.U 2 [(a:Int)]:=by rw [Zce ha]; show _=s.U.set ((a:Int)).toNat 2; rw [Int.toNat_natCast]
  rw [e]
  exact Zao h0 hi hm (Z0p.1 (ZhN hal hag)).1 (by decide) (.inr rfl) s.R
 ·have:tkU s.U=s.U:=by unfold tkU; rw [if_pos]; unfold Z2e; rw [if_neg c]; decide
  rw [this]; exact hm
theorem Zos{N:Nat}{s:St}{n:Int}(h0:0<N)(hi:inv N s)(hm:mk1 N s):mk1 N ⟨s.F,s.Lv,tRes s.U 2 0 [n],s.R⟩:=by
 unfold tRes
 split
 ·rename_i h
  exact Zao h0 hi hm (Z0p.1 h).1 (by decide) (.inl rfl) s.R
 ·exact hm
theorem ZjD{N:Nat}{s:St}{nm:List UInt8}{len:Int}(h0:0<N)(hi:inv N s)(hm:mk1 N s):mk1 N (fileS N s nm len):=by
 unfold fileS
 split
 ·obtain⟨_,h2,_⟩:=Z7t s.U (cuM len+1)
  exact Zib h0 (Z6y hi) (Zao h0 hi hm (Z0p.1 h2).1 (by decide) (.inr rfl) _)
 ·exact hm
def uOf(N:Nat)(U l:List Int):Prop:=(∀k:Nat,k<N→U.getD k default=if (k:Int)=0∨(k:Int)∈l then 1 else 0)∧(0:Int)∉l
theorem Z7s{N:Nat}{U l x l':List Int}(hU:U.length=N)(h:uOf N U l)(h0:0<N)(hx:tOk U 0 x)(hl:∀n,n∈l'↔n∈l∨n∈x):uOf N (tSet U 1 x) l':=by
 obtain⟨m,d⟩:=Z0p.1 hx
 obtain⟨h1,h2⟩:=h
 have z:(0:Int)∉x:=fun hz=>by
  have a:=(m 0 hz).2.2
  have b:=h1 0 h0
  rw [if_pos (.inl rfl)] at b
  exact absurd (a.symm.trans b) (by decide)
 refine⟨fun k hk=>?_,fun hz=>((hl 0).1 hz).elim h2 z⟩
 rw [Z15 _ _ _ _ (Z1I m) (by omega),h1 k hk]
 by_cases a:(k:Int)∈x
 ·rw [if_pos a,if_pos (.inr ((hl _).2 (.inr a)))]
 ·rw [if_neg a]
  by_cases b:(k:Int)=0∨(k:Int)∈l
  ·rw [if_pos b,if_pos (b.imp id fun h=>(hl _).2 (.inl h))]
  ·rw [if_neg b,if_neg (fun h=>h.elim (fun h=>b (.inl h)) fun h=>((hl _).1 h).elim (fun h=>b (.inr h)) a)]
theorem Z8J(b:List UInt8):∀(n i:Nat) (F:List Fl),(Z3L b n i F).2=true→(Z3L b n i F).1.length=F.length+n
 | 0,_,_,_=>rfl
 | n+1,i,F,h=>by
  unfold Z3L at h ⊢
  by_cases c:ZdP b i F
  ·rw [if_pos c] at h ⊢
   rw [Z8J b n (i+1) _ h,List.length_append]
   simp only [List.length_singleton]
   omega
  ·rw [if_neg c] at h; exact absurd h (by simp)
def okN(n i:Nat)(l:Nat):Prop:=(i<n∨i=0→l=31*i)∧(i=n→lvN l=n)
theorem ZiZ{N n i:Nat}{S:List Sec}{d:D3}(h0:0<N)(hin:i<n)(hS:S.length=N)(hU:d.U.length=N)(h:uOf N d.U d.Lv)(hl:okN n i d.F.length)(hb:rdB S n i d=true) :
  (Z4R S n i d).U.length=N∧uOf N (Z4R S n i d).U (Z4R S n i d).Lv∧okN n (i+1) (Z4R S n i d).F.length:=by
 unfold rdB lfB at hb
 split at hb
 case isFalse=>exact absurd hb (by decide)
 rename_i hp
 have ht:=hp.1.2.1
 have eF:(Z4R S n i d).F=(Z3L (secB S (rdAt S i)) (lfN S (rdAt S i)) 0 d.F).1:=by show lfF _ _ _ _ _=_; unfold lfF; rw [if_pos hp]
 have eL:(Z4R S n i d).Lv=d.Lv++[rdAt S i]:=by show lfL _ _ _ _ _=_; unfold lfL; rw [if_pos hp]
 have eU:(Z4R S n i d).U=tSet d.U 1 [rdAt S i]:=by show lfU _ _ _=_; unfold lfU tRes; rw [if_pos hp.1.1,if_pos ht]
 rw [eF,eL,eU,Z8J _ _ _ _ hb,Z0w]
 refine⟨hU,Z7s hU h h0 ht fun n=>List.mem_append,?_⟩
 obtain⟨h1,h2,h3⟩:=hp.2
 have h3':i+1=n∨lfN S (rdAt S i)=31:=h3.imp (fun h=>of_decide_eq_true h) id
 have:=hl.1 (.inl hin)
 unfold okN lvN
 omega
theorem ZhZ(N:Nat)(S:List Sec)(n:Nat)(h0:0<N)(hS:S.length=N):∀(k i:Nat) (d:D3),i+k=n→d.U.length=N→uOf N d.U d.Lv→okN n i d.F.length→(rdL S n k i d).2=true→(rdL S n k i d).1.U.length=N∧uOf N (rdL S n k i d).1.U (rdL S n k i d).1.Lv∧okN n n (rdL S n k i d).1.F.length
 | 0,i,d,e,h1,h2,h3,_=>by obtain rfl:i=n:=e; exact⟨h1,h2,h3⟩
 | k+1,i,d,e,h1,h2,h3,hb=>by
  unfold rdL at hb ⊢
  by_cases c:rdB S n i d=true
  ·rw [if_pos c] at hb ⊢
   obtain⟨a,b,f⟩:=ZiZ h0 (by omega) hS h1 h2 h3 c
   exact ZhZ N S n h0 hS k (i+1) _ (by omega) a b f hb
  ·rw [if_neg c] at hb; exact absurd hb (by simp)
def ZmB(N i:Nat)(d:D3):Prop:=d.U.length=N∧uOf N d.U (d.Lv++seL d.F)∧(∀j,i≤j→j<d.F.length→(d.F.getD j default).se=[])∧∀j,j<i→(d.F.getD j default).se.length=hdN (d.F.getD j default).ln+1
theorem Zju{N i:Nat}{S:List Sec}{d:D3}(h0:0<N)(hi:i<d.F.length)(h:ZmB N i d)(hp:hdP S i d):ZmB N (i+1) (Z98 S i d):=by
 obtain⟨h1,h2,h3,h4⟩:=h
 obtain⟨p1,p2⟩:=hp
 have he:=h3 i (Nat.le_refl _) hi
 have hln:(hdAll S (d.F.getD i default)).length=hdN (d.F.getD i default).ln+1:=Zb0 _ _ _
 unfold Z98
 generalize hdAll S (d.F.getD i default)=l at *
 have g:∀j,(d.F.set i { d.F.getD i default with se:=l }).getD j default=if j=i then { d.F.getD i default with se:=l } else d.F.getD j default:=fun j=>by
  by_cases c:j=i
  ·subst c; rw [if_pos rfl,Z1J _ _ _ _ hi]
  ·rw [if_neg c,Z1c _ _ _ _ _ (fun e=>c e.symm)]
 refine⟨by show (tSet _ _ _).length=N; rw [Z0w]; exact h1,?_,fun j hj hjl=>?_,fun j hj=>?_⟩
 ·refine Z7s h1 h2 h0 p2 fun n=>?_
  have w:=Z2E hi
  rw [he,List.nil_append] at w
  have p:(seL (d.F.set i { d.F.getD i default with se:=l })).Perm (l++seL d.F):=(Z30 hi).trans (List.Perm.append_left _ w.symm)
  show n∈d.Lv++seL _↔_
  rw [List.mem_append,p.mem_iff,List.mem_append,List.mem_append]
  constructor
  ·rintro (h | h | h)
   ·exact .inl (.inl h)
   ·exact .inr h
   ·exact .inl (.inr h)
  ·rintro ((h | h) | h)
   ·exact .inl h
   ·exact .inr (.inr h)
   ·exact .inr (.inl h)
 ·dsimp only at *
  rw [List.length_set] at hjl
  rw [g,if_neg (by omega)]
  exact h3 j (by omega) hjl
 ·dsimp only at *
  rw [g]
  by_cases c:j=i
  ·rw [if_pos c]; exact hln
  ·rw [if_neg c]; exact h4 j (by omega)
theorem Zi3(N:Nat)(S:List Sec)(h0:0<N):∀(k i:Nat) (d:D3),i+k=d.F.length→ZmB N i d→(rdH S k i d).2=true→ZmB N (i+k) (rdH S k i d).1∧(rdH S k i d).1.F.length=d.F.length∧(rdH S k i d).1.Lv=d.Lv
 | 0,i,d,_,h,_=>⟨h,rfl,rfl⟩
 | k+1,i,d,hl,h,hb=>by
  unfold rdH at hb ⊢
  by_cases c:hdP S i d
  ·rw [if_pos c] at hb ⊢
   have e:(Z98 S i d).F.length=d.F.length:=by show (List.set _ _ _).length=_; rw [List.length_set]
   obtain⟨a,b,f⟩:=Zi3 N S h0 k (i+1) _ (by rw [e]; omega) (Zju h0 (by omega) h c) hb
   rw [show i+(k+1)=i+1+k by omega]
   exact⟨a,b.trans e,f⟩
  ·rw [if_neg c] at hb; exact absurd hb (by simp)
theorem Zi0(S:List Sec)(n:Nat):∀(k i:Nat) (d:D3),(rdL S n k i d).2=true→(rdL S n k i d).1.Lv.length=d.Lv.length+k
 | 0,_,_,_=>rfl
 | k+1,i,d,hb=>by
  unfold rdL at hb ⊢
  by_cases c:rdB S n i d=true
  ·rw [if_pos c] at hb ⊢
   rw [Zi0 S n k (i+1) _ hb]
   have:(Z4R S n i d).Lv=d.Lv++[rdAt S i]:=by
    show lfL _ _ _ _ _=_
    unfold lfL
    unfold rdB lfB at c
    split at c
    ·rename_i hp; rw [if_pos hp]
    ·exact absurd c (by decide)
   rw [this,List.length_append]
   simp only [List.length_singleton]
   omega
  ·rw [if_neg c] at hb; exact absurd hb (by simp)
theorem opn_mk{N:Nat}{R:List Wr}(h0:0<N)(hR:R.length≤4096)(h:(opn (sOf N R)).2=true):mk1 N (opS N R):=by
 have iv:=opn_inv hR h
 unfold opS at *
 have hS:=Z0r N R
 generalize sOf N R=S at *
 unfold opn rdA3 at h ⊢
 by_cases hr:rd0 S
 case neg=>rw [if_neg hr] at h; exact absurd h (by simp)
 rw [if_pos hr] at h ⊢
 unfold ZbA at h ⊢
 by_cases h1:(rdL S (rdN S) (rdN S) 0 ⟨[],[],(List.replicate S.length 0).set 0 1⟩).2=true
 case neg=>rw [if_neg h1] at h; exact absurd h h1
 rw [if_pos h1] at h ⊢
 have hu:uOf N ((List.replicate S.length (0:Int)).set 0 1) []:=by
  refine⟨fun k hk=>?_,List.not_mem_nil⟩
  by_cases c:k=0
  ·subst c
   rw [Z1J _ _ _ _ (by rw [List.length_replicate]; omega),if_pos (.inl rfl)]
  ·rw [Z1c _ _ _ _ _ (fun e=>c e.symm),if_neg (by simp; omega),List.getD_eq_getElem?_getD,List.getElem?_replicate,if_pos (by omega)]; rfl
 have hk0:okN (rdN S) 0 ([]:List Fl).length:=⟨fun _=>rfl,fun e=>by rw [←e]; decide⟩
 obtain⟨a,b,c⟩:=ZhZ N S (rdN S) h0 hS _ 0 ⟨[],[],(List.replicate S.length 0).set 0 1⟩ (Nat.zero_add _) (by rw [List.length_set,List.length_replicate]; exact hS) hu hk0 h1
 have hv:=Zi0 S _ _ _ _ h1
 have hok:okF (rdL S (rdN S) (rdN S) 0 ⟨[],[],(List.replicate S.length 0).set 0 1⟩).1.F:=(Zdc N S (rdN S) (rdN S) 0 ⟨[],[],(List.replicate S.length 0).set 0 1⟩ ⟨⟨List.Pairwise.nil,Nat.zero_le _,fun f hf=>absurd hf (List.not_mem_nil)⟩,Nat.zero_le _,by rw [List.length_set,List.length_replicate]; exact hS,fun i hi=>absurd hi (Nat.not_lt_zero i)⟩ h1).1
 clear h1
 generalize (rdL S (rdN S) (rdN S) 0 ⟨[],[],(List.replicate S.length 0).set 0 1⟩).1=d at *
 obtain⟨⟨u1,u2,u3,u4⟩,e1,e2⟩:=Zi3 N S h0 d.F.length 0 d (Nat.zero_add _) ⟨a,by rw [Z9s d.F (fun f hf=>(hok.2.2 f hf).2),List.append_nil]; exact b,fun j _ hj=>by rw [Z0m hj]; exact (hok.2.2 _ (List.getElem_mem hj)).2,fun j hj=>absurd hj (Nat.not_lt_zero j)⟩ h
 generalize (rdH S d.F.length 0 d).1=g at *
 refine⟨fun k hk=>?_,fun k hk=>?_,u2.2,?_,fun f hf=>?_⟩
 ·show g.U.getD k default=0∨_
  rw [u2.1 k hk]
  split
  ·exact .inr (.inl rfl)
  ·exact .inl rfl
 ·show g.U.getD k default=1↔_
  rw [u2.1 k hk]
  split
  ·rename_i h; exact⟨fun _=>h,fun _=>rfl⟩
  ·rename_i h; exact⟨fun e=>absurd e (by decide),fun e=>absurd e h⟩
 ·show g.Lv.length=lvN g.F.length
  rw [e1,e2,c.2 rfl,hv]
  exact Nat.zero_add _
 ·obtain⟨j,hj,rfl⟩:=List.mem_iff_getElem.1 hf
  have hj':j<g.F.length:=hj
  have:=u4 j (by omega)
  rw [Z0m hj] at this
  exact this
theorem Zi6{N:Nat}{s:St}{R:List Wr}(h0:0<N)(hR:R.length≤4096)(hm:mk1 N s):mk1 N (opT N s R):=by
 unfold opT
 split
 ·rename_i h
  unfold opK
  split
  ·rename_i h'; exact opn_mk h0 hR h'
  ·rename_i h'
   exact opn_mk h0 (Z2J _ _ _ _ hR) (Z4T h0 (h.resolve_left h'))
 ·exact hm
theorem Zgd{N:Nat}{s:St}{t:Stp}(h0:0<N)(hi:inv N s)(hm:mk1 N s):mk1 N (stepS N s t):=by
 have h6:s.R.length≤4096:=hi.2.2.2.2.2.1
 unfold stepS
 split
 ·exact ZjD h0 hi hm
 split
 ·exact Zib h0 hi hm
 split
 ·exact ZlW h0 hi hm
 split
 ·exact ZkG h0 hi hm
 split
 ·exact ZmO h0 hi hm
 split
 ·exact Zos h0 hi hm
 split
 ·exact Zi6 h0 h6 hm
 split
 ·split
  ·exact Zi6 h0 (Z2J _ _ _ _ h6) hm
  ·exact hm
 ·exact hm
theorem Zjk(w:Nat)(h:w<4294967296):leV (leW w)=w:=by
 simp only [leV,leW,UInt8.toNat_ofNat',q8,q16,q24]
 omega
theorem Z4A(p r:List UInt8)(w:Nat)(h:w<4294967296)(i:Nat)(hi:i=p.length):getW (p++(leW w++r)) i=w:=by
 subst hi
 unfold getW
 rw [List.take_append,List.take_of_length_le (by omega),show p.length+4 - p.length=4 by omega,List.take_append,List.take_of_length_le (by rw [Z0O]; omega),Z0O,List.take_zero,List.append_nil,List.drop_left]
 exact Zjk w h
theorem ZaU:∀(l:List UInt8) (k:Nat),(∀c∈l,c≠0)→0<k→indexByte (l++List.replicate k 0) 0=l.length
 | [],k+1,_,_=>by simp [indexByte,List.replicate_succ]
 | [],0,_,h=>absurd h (Nat.lt_irrefl 0)
 | b::l,k,h,hk=>by
  have ih:=ZaU l k (fun c hc=>h c (List.mem_cons_of_mem _ hc)) hk
  have hb:=h b (List.mem_cons_self ..)
  rw [List.cons_append,indexByte,if_neg (by simpa using hb),ih,if_neg (by simp)]
  simp
theorem Zld{l:List UInt8}(h:Z34 l=true):∀c∈l,c≠0:=by
 intro c hc e
 subst e
 obtain⟨i,hi,e⟩:=List.mem_iff_getElem.1 hc
 have:=(of_decide_eq_true h).1 i hi
 rw [List.getD_eq_getElem?_getD,List.getElem?_eq_getElem hi,Option.getD_some,e] at this
 revert this
 cases decide (i=0) <;> decide
theorem Zhh{P:List Fl}{i:Nat}(hi:i<P.length):padP (lfW P)=(leW 827081795++leW P.length++(P.take i).flatMap enW)++(enW (P.getD i default)++((P.drop (i+1)).flatMap enW++List.replicate (1024 - (lfW P).length) 0)):=by
 have e:P=P.take i++(P.getD i default::P.drop (i+1)):=by rw [Z0m hi,←List.drop_eq_getElem_cons hi,List.take_append_drop]
 unfold padP lfW
 conv=>lhs; arg 1; rw [e]
 rw [List.flatMap_append,List.flatMap_cons]
 have el:(P.take i++(P.getD i default::P.drop (i+1))).length=P.length:=by rw [←e]
 rw [el]
 simp only [List.append_assoc]
theorem Zli{P:List Fl}(hP:∀f∈P,Z1p f){i:Nat}(hi:i≤P.length):(leW 827081795++leW P.length++(P.take i).flatMap enW).length=8+32*i:=by
 rw [List.length_append,List.length_append,Z0O,Z0O,Z4h _ (fun f hf=>hP f (List.mem_of_mem_take hf)),List.length_take]
 omega
theorem Zhi{P:List Fl}(hP:∀f∈P,Z1p f){i:Nat}(hi:i<P.length)(hn:Z34 (P.getD i default).nm=true) :
  Zhz (padP (lfW P)) i=true∧lfE (padP (lfW P)) i={ P.getD i default with se:=[] }:=by
 obtain⟨f,hf⟩:∃f,P.getD i default=f:=⟨_,rfl⟩
 have hfm:f∈P:=by rw [←hf,Z0m hi]; exact List.getElem_mem hi
 obtain⟨o1,o2,o3⟩:=hP f hfm
 have hs:=Zhh hi
 have hp:=Zli hP (Nat.le_of_lt hi)
 rw [hf] at hs hn ⊢
 generalize leW 827081795++leW P.length++(P.take i).flatMap enW=A at *
 generalize (P.drop (i+1)).flatMap enW++List.replicate (1024 - (lfW P).length) 0=B at *
 generalize padP (lfW P)=b at *
 subst hs
 have hB:enB (A++(enW f++B)) i=f.nm++List.replicate (24 - f.nm.length) 0:=by
  unfold enB enW
  rw [←hp,List.drop_left]
  simp only [List.append_assoc]
  rw [←List.append_assoc f.nm,List.take_append,List.take_of_length_le (by rw [List.length_append,List.length_replicate]; omega)]
  have:24 - (f.nm++List.replicate (24 - f.nm.length) (0:UInt8)).length=0:=by rw [List.length_append,List.length_replicate]; omega
  rw [this,List.take_zero,List.append_nil]
 have hx:=ZaU f.nm (24 - f.nm.length) (Zld hn) (by omega)
 have hN:enN (A++(enW f++B)) i=f.nm:=by
  unfold enN Z99
  rw [hB,hx,if_neg (by omega),Int.toNat_natCast,List.take_left]
 have hR:(Z3d 0 (Z2W 0 (enR (A++(enW f++B)) i)) == [])=true:=by
  rw [Zae]
  unfold enR Za3
  rw [hB,hx,if_neg (by omega),Int.toNat_natCast,List.drop_append,List.drop_of_length_le (by omega),List.nil_append,List.all_eq_true]
  intro c hc
  have:=List.mem_of_mem_drop hc
  rw [List.mem_replicate] at this
  simp [this.2]
 have hH:enH (A++(enW f++B)) i=f.hd:=by
  unfold enH enW
  have:=Z4A (A++(f.nm++List.replicate (24 - f.nm.length) 0)) (leW f.ln.toNat++B) f.hd.toNat (by omega) (4*((8+32*i+24) / 4)) (by rw [List.length_append,List.length_append,List.length_replicate,hp]; omega)
  simp only [List.append_assoc] at this ⊢
  rw [this]
  omega
 have hL:enL (A++(enW f++B)) i=f.ln:=by
  unfold enL enW
  have:=Z4A (A++(f.nm++List.replicate (24 - f.nm.length) 0++leW f.hd.toNat)) B f.ln.toNat (by omega) (4*((8+32*i+24) / 4+1)) (by rw [List.length_append,List.length_append,List.length_append,List.length_replicate,Z0O,hp]; omega)
  simp only [List.append_assoc] at this ⊢
  rw [this]
  omega
 refine⟨?_,?_⟩
 ·unfold Zhz; rw [hN,hR,hn]; rfl
 ·unfold lfE; rw [hN,hH,hL]
theorem Zje(P:List Fl)(h:P.length<4294967296):getW (padP (lfW P)) 0=827081795∧getW (padP (lfW P)) 4=P.length:=by
 unfold padP
 generalize List.replicate (1024 - (lfW P).length) (0:UInt8)=Z
 unfold lfW
 obtain⟨m,hm⟩:∃m:Nat,m=827081795:=⟨_,rfl⟩
 rw [←hm]
 have h1:=Z4A [] (leW P.length++(P.flatMap enW++Z)) m (by omega) 0 rfl
 have h2:=Z4A (leW m) (P.flatMap enW++Z) P.length h 4 (Z0O m).symm
 rw [List.nil_append] at h1
 simp only [List.append_assoc]
 exact⟨h1,h2⟩
def Z6B(S:List Sec)(F:List Fl)(Lv:List Int):Prop:=
 (getW (secB S 0) 0=827475011∧rdN S=Lv.length∧∀i,i<Lv.length→rdAt S i=Lv.getD i default)∧
 (∀i,i<Lv.length→secB S (Lv.getD i default)=padP (lfW (chk F i)))∧
 ∀f∈F,Z34 f.nm=true∧Z6t S f.hd f.ln∧hdAll S f=f.se
def no(f:Fl):Fl:={ f with se:=[] }
theorem ZdB{F:List Fl}{i:Nat}(h:i<F.length):(F.map no).getD i default=no (F.getD i default):=by
 rw [Z0m (by rw [List.length_map]; exact h),List.getElem_map,Z0m h]
theorem Z3e{α:Type}[Inhabited α]{l:List α}{i:Nat}(h:i<l.length):l.take (i+1)=l.take i++[l.getD i default]:=by rw [List.take_succ_eq_append_getElem h,Z0m h]
theorem ZdR{F:List Fl}(hs:srt F)(hF:F.length≤200)(hok:∀f∈F,Z1p f∧Z34 f.nm=true)(i:Nat):∀(m j:Nat),j+m=(chk F i).length→31*i+(chk F i).length≤F.length→
  Z3L (padP (lfW (chk F i))) m j ((F.map no).take (31*i+j))=((F.map no).take (31*i+(chk F i).length),true)
 | 0,j,e,_=>by rw [←e]; rfl
 | m+1,j,e,hl=>by
  have hj:j<(chk F i).length:=by omega
  have hk:31*i+j<F.length:=by omega
  have hP:∀f∈chk F i,Z1p f:=fun f hf=>(hok f (Z89 hf)).1
  have hc:(chk F i).getD j default=F.getD (31*i+j) default:=by
   have:=Z5p F i
   unfold chk
   rw [List.getD_eq_getElem?_getD,List.getElem?_take,if_pos (by omega),List.getElem?_drop,←List.getD_eq_getElem?_getD]
  have hfm:(chk F i).getD j default∈F:=by rw [hc,Z0m hk]; exact List.getElem_mem hk
  obtain⟨a,b⟩:=Zhi hP hj (hok _ hfm).2
  have hN:enN (padP (lfW (chk F i))) j=((chk F i).getD j default).nm:=congrArg Fl.nm b
  have hlen:((F.map no).take (31*i+j)).length=31*i+j:=by rw [List.length_take,List.length_map]; omega
  unfold Z3L
  rw [if_pos]
  ·rw [b,hc]
   have:(F.map no).take (31*i+j)++[{ F.getD (31*i+j) default with se:=[] }]=(F.map no).take (31*i+(j+1)):=by
    rw [show 31*i+(j+1)=31*i+j+1 by omega,Z3e (by rw [List.length_map]; exact hk),ZdB hk]; rfl
   rw [this]
   exact ZdR hs hF hok i m (j+1) (by omega) hl
  ·refine⟨a,by rw [hlen]; omega,?_⟩
   rw [hlen]
   rcases Nat.eq_zero_or_pos (31*i+j) with h | h
   ·exact .inl h
   ·right
    rw [hN,hc]
    have e2:((F.map no).take (31*i+j)).getD (31*i+j - 1) default=no (F.getD (31*i+j - 1) default):=by
     rw [←ZdB (by omega),List.getD_eq_getElem?_getD,List.getElem?_take,if_pos (by omega),←List.getD_eq_getElem?_getD]
    rw [e2]
    exact Z60 hs (show 31*i+j - 1<31*i+j by omega) hk
theorem ZhY{N:Nat}{S:List Sec}{F:List Fl}{Lv:List Int}(h0:0<N)(hS:S.length=N)(hd:Z6B S F Lv)(hs:srt F)(hF:F.length≤200)(hok:∀f∈F,Z1p f∧Z34 f.nm=true)(hn:Lv.length=lvN F.length)(hlv:Lv.Nodup)(hr:∀n∈Lv,0<n∧n<N) :
  ∀(k i:Nat) (U:List Int),i+k=Lv.length→U.length=N→uOf N U (Lv.take i)→∃U',rdL S Lv.length k i ⟨(F.map no).take (31*i),Lv.take i,U⟩=(⟨F.map no,Lv,U'⟩,true)∧U'.length=N∧uOf N U' Lv
 | 0,i,U,e,hU,hu=>by
  obtain rfl:i=Lv.length:=e
  refine⟨U,?_,hU,by rw [List.take_length] at hu; exact hu⟩
  unfold rdL
  rw [List.take_length,List.take_of_length_le (by rw [List.length_map,hn]; unfold lvN; omega)]
 | k+1,i,U,e,hU,hu=>by
  have hi:i<Lv.length:=by omega
  obtain⟨⟨d1,d2,d3⟩,d4,d5⟩:=hd
  have hat:=d3 i hi
  have hb:=d4 i hi
  have hm:Lv.getD i default∈Lv:=by rw [Z0m hi]; exact List.getElem_mem hi
  obtain⟨r1,r2⟩:=hr _ hm
  have hcl:=Z5p F i
  have hiF:31*i<F.length:=by rw [hn] at hi; unfold lvN at hi; omega
  obtain⟨w1,w2⟩:=Zje (chk F i) (by omega)
  have hx:tOk U 0 [Lv.getD i default]:=by
   refine Z0p.2 ⟨fun n hn'=>?_,by simp⟩
   obtain rfl:=List.mem_singleton.1 hn'
   refine⟨by omega,by omega,?_⟩
   rw [hu.1 _ (by omega),Int.toNat_of_nonneg (by omega),if_neg]
   rintro (h | h)
   ·omega
   ·obtain⟨j,hj,ej⟩:=List.mem_take_iff_getElem.1 h
    rw [Z0m hi] at ej
    exact List.pairwise_iff_getElem.1 (List.nodup_iff_pairwise_ne.1 hlv) j i (by omega) hi (by omega) ej
  have hp:lfP S U (rdAt S i) (rdLast Lv.length i):=by
   rw [hat]
   refine⟨⟨⟨by omega,by omega⟩,hx,by rw [hb]; exact w1⟩,?_⟩
   unfold lf1 lfN
   rw [hb,w2]
   refine⟨by omega,by omega,?_⟩
   by_cases c:i+1=Lv.length
   ·exact .inl (decide_eq_true c)
   ·right
    have:i+1<lvN F.length:=by omega
    unfold lvN at this
    omega
  have hg:=ZdR hs hF hok i (chk F i).length 0 (Nat.zero_add _) (by omega)
  have eN:lfN S (Lv.getD i default)=(chk F i).length:=by unfold lfN; rw [hb,w2]
  rw [Nat.add_zero] at hg
  have e31:(F.map no).take (31*i+(chk F i).length)=(F.map no).take (31*(i+1)):=by
   rcases Nat.lt_or_ge F.length (31*(i+1)) with h | h
   ·rw [List.take_of_length_le (by rw [List.length_map]; omega),List.take_of_length_le (by rw [List.length_map]; omega)]
   ·rw [hcl,show 31*i+min 31 (F.length - 31*i)=31*(i+1) by omega]
  have hB:rdB S Lv.length i ⟨(F.map no).take (31*i),Lv.take i,U⟩=true:=by
   show lfB _ S U _ _=true
   unfold lfB
   rw [if_pos hp,hat,hb,eN,hg]
  have hSt:Z4R S Lv.length i ⟨(F.map no).take (31*i),Lv.take i,U⟩=⟨(F.map no).take (31*(i+1)),Lv.take (i+1),tSet U 1 [Lv.getD i default]⟩:=by
   unfold Z4R lfF lfL lfU tRes
   dsimp only
   rw [if_pos hp,if_pos hp,if_pos hp.1.1,hat,hb,eN,hg,if_pos hx,e31,←Z3e hi]
  unfold rdL
  rw [if_pos hB,hSt]
  exact ZhY h0 hS ⟨⟨d1,d2,d3⟩,d4,d5⟩ hs hF hok hn hlv hr k (i+1) _ (by omega) (by rw [Z0w]; exact hU) (Z7s hU hu h0 hx fun n=>by rw [Z3e hi,List.mem_append])
theorem Zi2{N:Nat}{S:List Sec}{F:List Fl}{Lv:List Int}(h0:0<N)(hd:∀f∈F,Z6t S f.hd f.ln∧hdAll S f=f.se)(ht:∀n∈Lv++seL F,0<n∧n<N)(hnd:(Lv++seL F).Nodup) :
  ∀(k i:Nat) (U:List Int),i+k=F.length→U.length=N→uOf N U (Lv++seL (F.take i))→∃U',rdH S k i ⟨F.take i++(F.map no).drop i,Lv,U⟩=(⟨F,Lv,U'⟩,true)∧U'.length=N∧uOf N U' (Lv++seL F)
 | 0,i,U,e,hU,hu=>by
  obtain rfl:i=F.length:=e
  rw [List.take_length] at hu
  refine⟨U,?_,hU,hu⟩
  unfold rdH
  rw [List.take_length,List.drop_of_length_le (by rw [List.length_map]; exact Nat.le_refl _),List.append_nil]
 | k+1,i,U,e,hU,hu=>by
  have hi:i<F.length:=by omega
  obtain⟨f,hf⟩:∃f,F.getD i default=f:=⟨_,rfl⟩
  have hfm:f∈F:=by rw [←hf,Z0m hi]; exact List.getElem_mem hi
  obtain⟨h1,h2⟩:=hd f hfm
  have hl:(F.take i).length=i:=by rw [List.length_take]; omega
  have hg:(F.take i++(F.map no).drop i).getD i default=no f:=by
   rw [List.drop_eq_getElem_cons (by rw [List.length_map]; exact hi),List.getD_eq_getElem?_getD,List.getElem?_append_right (by omega),hl,Nat.sub_self,List.getElem?_cons_zero,Option.getD_some,List.getElem_map,←Z0m hi,hf]
  have e1:F.take (i+1)=F.take i++[f]:=by rw [Z3e hi,hf]
  have es:seL (F.take (i+1))=seL (F.take i)++f.se:=by
   rw [e1]; unfold seL; rw [List.flatMap_append,List.flatMap_cons,List.flatMap_nil,List.append_nil]
  have eF:seL F=seL (F.take (i+1))++seL (F.drop (i+1)):=by unfold seL; rw [←List.flatMap_append,List.take_append_drop]
  have hx:tOk U 0 f.se:=by
   rw [eF,es] at hnd ht
   have hnd':=hnd
   simp only [List.append_assoc] at hnd ht
   obtain⟨_,q2,q3⟩:=List.nodup_append.1 hnd
   obtain⟨_,q5,q6⟩:=List.nodup_append.1 q2
   obtain⟨q7,_,_⟩:=List.nodup_append.1 q5
   refine Z0p.2 ⟨fun n hn=>?_,q7⟩
   obtain⟨r1,r2⟩:=ht n (by simp only [List.mem_append]; exact .inr (.inr (.inl hn)))
   refine⟨by omega,by omega,?_⟩
   rw [hu.1 _ (by omega),Int.toNat_of_nonneg (by omega),if_neg]
   rintro (h | h)
   ·omega
   ·rcases List.mem_append.1 h with h | h
    ·exact q3 n h n (by simp only [List.mem_append]; exact .inr (.inl hn)) rfl
    ·exact q6 n h n (by simp only [List.mem_append]; exact .inl hn) rfl
  have hp:hdP S i ⟨F.take i++(F.map no).drop i,Lv,U⟩:=by
   unfold hdP
   dsimp only
   rw [hg]
   exact⟨h1,by rw [show hdAll S (no f)=hdAll S f from rfl,h2]; exact hx⟩
  have hSt:Z98 S i ⟨F.take i++(F.map no).drop i,Lv,U⟩=⟨F.take (i+1)++(F.map no).drop (i+1),Lv,tSet U 1 f.se⟩:=by
   unfold Z98
   dsimp only
   rw [hg,show hdAll S (no f)=hdAll S f from rfl,h2]
   have:(F.take i++(F.map no).drop i).set i { no f with se:=f.se }=F.take (i+1)++(F.map no).drop (i+1):=by
    rw [List.drop_eq_getElem_cons (by rw [List.length_map]; exact hi),List.set_append_right _ _ (by omega),hl,Nat.sub_self,List.set_cons_zero,e1,List.append_assoc]
    rfl
   rw [this]
  unfold rdH
  rw [if_pos hp,hSt]
  exact Zi2 h0 hd ht hnd k (i+1) _ (by omega) (by rw [Z0w]; exact hU) (Z7s hU hu h0 hx fun n=>by rw [es,←List.append_assoc,List.mem_append])
theorem Zca{N:Nat}(h0:0<N):uOf N ((List.replicate N (0:Int)).set 0 1) []:=by
 refine⟨fun k hk=>?_,List.not_mem_nil⟩
 by_cases c:k=0
 ·subst c
  rw [Z1J _ _ _ _ (by rw [List.length_replicate]; omega),if_pos (.inl rfl)]
 ·rw [Z1c _ _ _ _ _ (fun e=>c e.symm),if_neg (by simp; omega),List.getD_eq_getElem?_getD,List.getElem?_replicate,if_pos (by omega)]; rfl
theorem Zdv{N:Nat}{s:St}{S:List Sec}(h0:0<N)(hi:inv N s)(hm:mk1 N s)(hS:S.length=N)(hd:Z6B S s.F s.Lv):∃U1,opn S=(⟨s.F,s.Lv,U1⟩,true)∧U1.length=N∧uOf N U1 (s.Lv++seL s.F):=by
 obtain⟨i1,i2,i3,i4,i5,i6,i7⟩:=hi
 obtain⟨m1,m2,m3,m4,m5⟩:=hm
 obtain⟨um,ud⟩:=Z0p.1 i7
 have ht:∀n∈s.Lv++seL s.F,0<n∧n<(N:Int):=fun n hn=>by
  obtain⟨a,b,_⟩:=um n hn
  have:n≠0:=fun e=>m3 (e▸hn)
  omega
 obtain⟨U',e1,e2,e3⟩:=ZhY h0 hS hd i1 i2 (fun f hf=>⟨(i3 f hf).1,(hd.2.2 f hf).1⟩) m4 (List.nodup_append.1 ud).1 (fun n hn=>ht n (List.mem_append_left _ hn)) s.Lv.length 0 ((List.replicate N (0:Int)).set 0 1) (Nat.zero_add _) (by rw [List.length_set,List.length_replicate]) (Zca h0)
 obtain⟨U2,f1,f2,f3⟩:=Zi2 h0 (fun f hf=>(hd.2.2 f hf).2) ht ud s.F.length 0 U' (Nat.zero_add _) e2 (by rw [List.take_zero]; show uOf N U' (s.Lv++[]); rw [List.append_nil]; exact e3)
 refine⟨U2,?_,f2,f3⟩
 rw [List.take_zero,List.drop_zero,List.nil_append] at f1
 rw [Nat.mul_zero,List.take_zero,List.take_zero] at e1
 unfold opn rdA3
 rw [if_pos ⟨hd.1.1,by rw [hd.1.2.1]; exact i4⟩,hS]
 unfold ZbA
 rw [hd.1.2.1,e1,if_pos rfl,List.length_map]
 exact f1
theorem Z7B{S:List Sec}{a:Nat}{x:Sec}{n:Int}(h:n.toNat≠a):secB (S.set a x) n=secB S n:=by unfold secB; rw [Z1c _ _ _ _ _ (fun e=>h e.symm)]
theorem Zie{S:List Sec}{f:Fl}(h:hdAll S f=f.se):f.hd∈f.se:=by rw [←h]; exact List.mem_cons_self ..
theorem ZfD{S:List Sec}{F:List Fl}{Lv:List Int}{a:Int}{x:Sec}(hd:Z6B S F Lv)(ha:0<a)(hn:a∉Lv++seL F)(nn:∀n∈Lv++seL F,0≤n):Z6B (S.set a.toNat x) F Lv:=by
 obtain⟨⟨d1,d2,d3⟩,d4,d5⟩:=hd
 have e0:secB (S.set a.toNat x) 0=secB S 0:=Z7B (by show 0≠a.toNat; omega)
 have en:∀n∈Lv++seL F,secB (S.set a.toNat x) n=secB S n:=fun n h=>Z7B (by
  have h1:=nn n h
  have h2:n≠a:=fun e=>hn (e▸h)
  omega)
 refine⟨⟨by rw [e0]; exact d1,by unfold rdN; rw [e0]; exact d2,fun i hi=>by unfold rdAt; rw [e0]; exact d3 i hi⟩,fun i hi=>?_,fun f hf=>?_⟩
 ·rw [en _ (List.mem_append_left _ (by rw [Z0m hi]; exact List.getElem_mem hi))]; exact d4 i hi
 ·obtain⟨h1,h2,h3⟩:=d5 f hf
  have ef:=en f.hd (List.mem_append_right _ (List.mem_flatMap.2 ⟨f,hf,Zie h3⟩))
  refine⟨h1,?_,?_⟩
  ·unfold Z6t hd0 at h2 ⊢
   rw [ef,List.length_set]; exact h2
  ·unfold hdAll at h3 ⊢
   rw [ef]; exact h3
theorem Z9v(N:Nat)(R ws:List Wr):sOf N (R++ws)=ws.foldl stW (sOf N R):=by unfold sOf; rw [List.foldl_append]
theorem Z5n{F:List Fl}{Lv:List Int}(nn:∀n∈Lv++seL F,0≤n):∀(ws:List Wr) (S:List Sec),Z6B S F Lv→(∀w∈ws,0<w.1∧w.1∉Lv++seL F)→Z6B (ws.foldl stW S) F Lv
 | [],_,h,_=>h
 | w::ws,S,h,hw=>by
  obtain⟨h1,h2⟩:=hw w (List.mem_cons_self ..)
  refine Z5n nn ws _ ?_ fun w' hw'=>hw w' (List.mem_cons_of_mem _ hw')
  unfold stW
  rw [if_pos (by omega)]
  exact ZfD h h1 h2 nn
theorem Z82{n:Int}(hn:0≤n):∀(ws:List Wr) (S:List Sec),(∀w∈ws,0≤w.1∧w.1≠n)→secB (ws.foldl stW S) n=secB S n
 | [],_,_=>rfl
 | w::ws,S,h=>by
  obtain⟨h1,h2⟩:=h w (List.mem_cons_self ..)
  rw [List.foldl_cons,Z82 hn ws _ fun w' hw'=>h w' (List.mem_cons_of_mem _ hw')]
  unfold stW
  rw [if_pos h1]
  exact Z7B (by omega)
theorem Ze8{ws A B:List Wr}{w:Wr}{S:List Sec}(e:ws=A++w::B)(h0:0≤w.1∧w.1<S.length)(hB:∀v∈B,0≤v.1∧v.1≠w.1):secB (ws.foldl stW S) w.1=w.2.1:=by
 rw [e,List.foldl_append,List.foldl_cons,Z82 h0.1 B _ hB]
 have hl:=Z83 A S
 generalize A.foldl stW S=T at *
 unfold stW
 rw [if_pos h0.1]
 unfold secB
 rw [Z1J _ _ _ _ (by omega)]
def lvW(L:List Fl)(now:List Int):List Wr:=(List.range now.length).map fun j=>(now.getD j default,Z2p (padP (lfW (chk L j))))
theorem Zb2{α:Type}[Inhabited α](l m:List α)(i:Nat)(h:i<l.length):(l++m).getD i default=l.getD i default:=by rw [List.getD_eq_getElem?_getD,List.getElem?_append_left h,←List.getD_eq_getElem?_getD]
theorem Zhf(L:List Fl)(now:List Int)(a:Int):lvW L (now++[a])=lvW L now++[(a,Z2p (padP (lfW (chk L now.length))))]:=by
 unfold lvW
 rw [List.length_append,List.length_singleton,List.range_succ,List.map_append,List.map_cons,List.map_nil]
 congr 1
 ·refine List.map_congr_left fun j hj=>?_
  rw [Zb2 _ _ _ (List.mem_range.1 hj)]
 ·rw [List.getD_eq_getElem?_getD,List.getElem?_append_right (Nat.le_refl _),Nat.sub_self]; rfl
def rtB(m:Nat)(now:List Int):List UInt8:=leW markR++leW m++now.flatMap fun n=>leW n.toNat
theorem ZlA{U:List Int}(h:0<U.count 0):0≤Z2e U 0∧Z2e U 0<U.length:=by
 obtain⟨a,ha,hal,_⟩:=Z2x (List.count_pos_iff.1 h)
 rw [ha]; omega
theorem Ziz{L:List Fl}(hL:∀f∈L,Z1p f)(q:Nat):(padP (lfW (chk L q))).length=1024:=by
 have h1:=Z9M (chk L q) (fun f hf=>hL f (Z89 hf))
 have h2:=Z5p L q
 exact Z29 (by omega)
theorem ZhR{L:List Fl}{N:Nat}{R:List Wr}{U:List Int}(hL:∀f∈L,Z1p f)(hU:U.length=N)(hR:R.length+lvN L.length+1≤4096)(hc:lvN L.length≤U.count 0):∀q,q≤lvN L.length→(ryK L N R U q).R=R++lvW L (ryK L N R U q).now∧(ryK L N R U q).root=rtB (lvN L.length) (ryK L N R U q).now
 | 0,_=>⟨(List.append_nil R).symm,(List.append_nil _).symm⟩
 | q+1,hq=>by
  obtain⟨h1,h2⟩:=ZhR hL hU hR hc q (by omega)
  obtain⟨k1,k2,k3,k4,k5⟩:=Z2I L N R U (by omega) q (by omega)
  have ha:=ZlA (U:=(ryK L N R U q).U) (by omega)
  have hl:(lvW L (ryK L N R U q).now).length=q:=by unfold lvW; rw [List.length_map,List.length_range,k3]
  refine⟨?_,?_⟩
  ·show rwW N (ryK L N R U q).R (Z2e (ryK L N R U q).U 0) (padP (lfW (chk L q)))=R++lvW L ((ryK L N R U q).now++[Z2e (ryK L N R U q).U 0])
   unfold rwW
   rw [if_pos (Zg3 ⟨ha.1,by omega⟩ (Ziz hL q) (by rw [h1,List.length_append,hl]; omega)),Zhf,k3,←List.append_assoc,←h1]
  ·show (ryK L N R U q).root++leW (Z2e (ryK L N R U q).U 0).toNat=rtB (lvN L.length) ((ryK L N R U q).now++[Z2e (ryK L N R U q).U 0])
   rw [h2]
   unfold rtB
   rw [List.flatMap_append,List.flatMap_cons,List.flatMap_nil,List.append_nil,List.append_assoc]
theorem Zea(now:List Int):(now.flatMap fun n=>leW n.toNat).length=4*now.length:=by
 induction now with
 | nil=>rfl
 | cons a l ih=>rw [List.flatMap_cons,List.length_append,Z0O,ih,List.length_cons]; omega
theorem ZiP{m:Nat}{now:List Int}(hm:m<4294967296)(hn:∀n∈now,0≤n∧n<4294967296):getW (padP (rtB m now)) 0=827475011∧getW (padP (rtB m now)) 4=m∧∀i,i<now.length→(getW (padP (rtB m now)) (4*(2+i)):Int)=now.getD i default:=by
 unfold padP
 generalize List.replicate (1024 - (rtB m now).length) (0:UInt8)=Z
 unfold rtB
 have e:markR=827475011:=rfl
 have hk:markR<4294967296:=by rw [e]; decide
 rw [←e]
 generalize markR=k at *
 have h1:=Z4A [] (leW m++((now.flatMap fun n=>leW n.toNat)++Z)) k hk 0 rfl
 have h2:=Z4A (leW k) ((now.flatMap fun n=>leW n.toNat)++Z) m hm 4 (Z0O k).symm
 rw [List.nil_append] at h1
 refine⟨by simp only [List.append_assoc]; exact h1,by simp only [List.append_assoc]; exact h2,fun i hi=>?_⟩
 have hs:(now.flatMap fun n=>leW n.toNat)=((now.take i).flatMap fun n=>leW n.toNat)++(leW (now.getD i default).toNat++((now.drop (i+1)).flatMap fun n=>leW n.toNat)):=by
  conv=>lhs; rw [←List.take_append_drop i now,List.drop_eq_getElem_cons hi,List.flatMap_append,List.flatMap_cons]
  rw [Z0m hi]
 have hb:=hn _ (by rw [Z0m hi]; exact List.getElem_mem hi:now.getD i default∈now)
 have h3:=Z4A (leW k++leW m++((now.take i).flatMap fun n=>leW n.toNat)) (((now.drop (i+1)).flatMap fun n=>leW n.toNat)++Z) (now.getD i default).toNat (by omega) (4*(2+i)) (by rw [List.length_append,List.length_append,Z0O,Z0O,Zea,List.length_take]; omega)
 rw [hs]
 simp only [List.append_assoc] at h3 ⊢
 rw [h3]
 omega
def Zk6(N:Nat)(s:St)(R':List Wr):Prop:=∃ws,R'=s.R++ws∧∀q,q<ws.length→Z6B (sOf N (s.R++ws.take q)) s.F s.Lv
theorem Z4B(N:Nat)(s:St):Zk6 N s s.R:=⟨[],(List.append_nil _).symm,fun q h=>absurd h (Nat.not_lt_zero q)⟩
def dsk(N:Nat)(s:St):Prop:=Z6B (sOf N s.R) s.F s.Lv
theorem Z7Q{N:Nat}{s:St}{L:List Fl}{gone own rest:List Int}(h0:0<N)(hN:N≤4096)(hi:inv N s)(hm:mk1 N s)(hd:dsk N s)(hp:(seL s.F).Perm (gone++rest))(ho:tOk s.U 2 own)(hn:(seL L).Perm (own++rest))(hk:Z2l L s.R s.U)(hL2:L.length≤200)
  (hL:∀f∈L,Z1p f∧Z34 f.nm=true∧Z6t (sOf N s.R) f.hd f.ln∧hdAll (sOf N s.R) f=f.se):dsk N (Z78 N s L gone own)∧Zk6 N s (Z78 N s L gone own).R:=by
 obtain⟨i1,i2,i3,i4,i5,i6,i7⟩:=id hi
 obtain⟨um,ud⟩:=Z0p.1 i7
 obtain⟨b1,b2,b3,b4⟩:=Z6h (N:=N) hk
 obtain⟨n1,n2⟩:=Z7O L (sOf N s.R) (wOf N s.R) s.U (lvN L.length) hk.1
 obtain⟨r1,r2⟩:=ZhR (fun f hf=>(hL f hf).1) i5 (by have:=hk.2; omega) hk.1 (lvN L.length) (Nat.le_refl _)
 obtain⟨_,_,k3,_,_⟩:=Z2I L N s.R s.U i6 (lvN L.length) hk.1
 have n1':tOk s.U 0 (lyE L (sOf N s.R) (wOf N s.R) s.U).now:=n1
 rw [←b3] at n1'
 have eLv:(Z78 N s L gone own).Lv=(ryE L N s.R s.U).now:=b3.symm
 have eR:(Z78 N s L gone own).R=ryR L N s.R s.U:=rfl
 have eF:(Z78 N s L gone own).F=L:=rfl
 have r1':(ryE L N s.R s.U).R=s.R++lvW L (ryE L N s.R s.U).now:=r1
 have r2':(ryE L N s.R s.U).root=rtB (lvN L.length) (ryE L N s.R s.U).now:=r2
 have k3':(ryE L N s.R s.U).now.length=lvN L.length:=k3
 have hl7:lvN L.length≤7:=by unfold lvN; omega
 unfold dsk
 rw [eLv,eR,eF]
 unfold ryR rwW
 rw [r1',r2']
 generalize (ryE L N s.R s.U).now=now at *
 clear b1 b2 b3 b4 n1 n2 r1 r2 r1' r2' k3 eLv eR eF
 obtain⟨nm,nd⟩:=Z0p.1 n1'
 have z2:(0:Int)∉now:=Z8F h0 i5 hm (by decide) nm
 have nb:∀n∈now,0<n∧n<(N:Int):=fun n h=>by
  obtain⟨a,b,_⟩:=nm n h
  have:n≠0:=fun e=>z2 (e▸h)
  omega
 have nu:∀n∈now,n∉s.Lv++seL s.F:=Z1i nm um (by decide)
 have nn:∀n∈s.Lv++seL s.F,0≤n:=Z1I um
 have lW:(lvW L now).length=now.length:=by unfold lvW; rw [List.length_map,List.length_range]
 have mW:∀w∈lvW L now,w.1∈now:=fun w hw=>by
  unfold lvW at hw
  obtain⟨j,hj,rfl⟩:=List.mem_map.1 hw
  have:=List.mem_range.1 hj
  dsimp only
  rw [Z0m this]
  exact List.getElem_mem this
 have hrl:(padP (rtB (lvN L.length) now)).length=1024:=Z29 (by unfold rtB; rw [List.length_append,List.length_append,Z0O,Z0O,Zea]; omega)
 have hrd:=ZiP (m:=lvN L.length) (by omega) (fun n h=>⟨by have:=nb n h; omega,by have:=nb n h; omega⟩)
 rw [if_pos (Zg3 ⟨Int.le_refl _,by omega⟩ hrl (by rw [List.length_append,lW]; have:=hk.2; omega)),List.append_assoc]
 have hlv:∀j,j<now.length→(padP (lfW (chk L j))).length=1024:=fun j _=>Ziz (fun f hf=>(hL f hf).1) j
 generalize hroot:padP (rtB (lvN L.length) now)=root at *
 obtain⟨om,od⟩:=Z0p.1 ho
 have z1:(0:Int)∉own:=Z8F h0 i5 hm (by decide) om
 refine⟨?_,lvW L now++[(0,Z2p root)],rfl,fun q hq=>?_⟩
 ·rw [Z9v]
  have hS:=Z0r N s.R
  generalize sOf N s.R=S at *
  have e0:secB ((lvW L now++[(0,Z2p root)]).foldl stW S) 0=root:=by
   rw [Ze8 (A:=lvW L now) (B:=[]) (w:=(0,Z2p root)) rfl ⟨Int.le_refl _,by dsimp only; omega⟩ (fun v hv=>absurd hv (List.not_mem_nil))]
   exact Z4L hrl
  refine⟨⟨by rw [e0]; exact hrd.1,?_,fun i hi=>by unfold rdAt; rw [e0]; exact hrd.2.2 i hi⟩,fun j hj=>?_,fun f hf=>?_⟩
  ·unfold rdN; rw [e0,hrd.2.1,k3']
  ·have hw:(lvW L now)[j]'(by omega)=(now.getD j default,Z2p (padP (lfW (chk L j)))):=by unfold lvW; rw [List.getElem_map,List.getElem_range]
   have hjm:now.getD j default∈now:=by rw [Z0m hj]; exact List.getElem_mem hj
   have he:lvW L now++[(0,Z2p root)]=(lvW L now).take j++(now.getD j default,Z2p (padP (lfW (chk L j))))::((lvW L now).drop (j+1)++[(0,Z2p root)]):=by
    conv=>lhs; rw [←List.take_append_drop j (lvW L now),List.drop_eq_getElem_cons (by omega),hw]
    rw [List.append_assoc,List.cons_append]
   have:=Ze8 he (S:=S) ⟨by have:=nb _ hjm; dsimp only; omega,by have:=nb _ hjm; dsimp only; omega⟩ (fun v hv=>by
    dsimp only
    rcases List.mem_append.1 hv with h | h
    ·obtain⟨i,hi,e⟩:=List.mem_iff_getElem.1 h
     rw [List.length_drop] at hi
     rw [List.getElem_drop] at e
     have e1:v.1=now.getD (j+1+i) default:=by
      rw [←e]; unfold lvW; rw [List.getElem_map,List.getElem_range]
     rw [e1]
     refine⟨by have:=nb _ (by rw [Z0m (by omega)]; exact List.getElem_mem (by omega):now.getD (j+1+i) default∈now); omega,fun e2=>?_⟩
     rw [Z0m (by omega),Z0m hj] at e2
     exact List.pairwise_iff_getElem.1 (List.nodup_iff_pairwise_ne.1 nd) j (j+1+i) hj (by omega) (by omega) e2.symm
    ·obtain rfl:=List.mem_singleton.1 h
     refine⟨Int.le_refl _,fun e2=>?_⟩
     have:=nb _ hjm
     rw [←e2] at this
     omega)
   rw [this]
   exact Z4L (hlv j hj)
  ·obtain⟨f1,f2,f3,f4⟩:=hL f hf
   have hfm:f.hd∈own++rest:=hn.mem_iff.1 (List.mem_flatMap.2 ⟨f,hf,Zie f4⟩)
   have hx:f.hd∉now∧0<f.hd:=by
    rcases List.mem_append.1 hfm with h | h
    ·refine⟨fun h'=>Z1i om nm (by decide) _ h h',?_⟩
     have:=Z1I om _ h
     have:f.hd≠0:=fun e=>z1 (e▸h)
     omega
    ·have hF:f.hd∈s.Lv++seL s.F:=List.mem_append_right _ (hp.mem_iff.2 (List.mem_append_right _ h))
     refine⟨fun h'=>nu _ h' hF,?_⟩
     have:=nn _ hF
     have:f.hd≠0:=fun e=>hm.2.2.1 (e▸hF)
     omega
   have ef:secB ((lvW L now++[(0,Z2p root)]).foldl stW S) f.hd=secB S f.hd:=Z82 (by omega) _ _ fun w hw=>by
    rcases List.mem_append.1 hw with h | h
    ·have:=mW w h
     refine⟨by have:=nb _ this; omega,fun e=>hx.1 (e▸this)⟩
    ·obtain rfl:=List.mem_singleton.1 h
     exact⟨Int.le_refl _,fun e=>by dsimp only at e; omega⟩
   have el:=Z83 (lvW L now++[(0,Z2p root)]) S
   refine⟨f2,?_,?_⟩
   ·unfold Z6t hd0 at f3 ⊢
    rw [ef,el]; exact f3
   ·unfold hdAll at f4 ⊢
    rw [ef]; exact f4
 ·rw [List.length_append,List.length_singleton] at hq
  rw [Z9v,List.take_append_of_le_length (by omega)]
  exact Z5n nn _ _ hd fun w hw=>by
   have:=mW w (List.mem_of_mem_take hw)
   exact⟨(nb _ this).1,nu _ this⟩
theorem ZaS{N:Nat}{s:St}{nm:List UInt8}{h ln:Int}(h0:0<N)(hN:N≤4096)(hi:inv N s)(hm:mk1 N s)(hd:dsk N s):dsk N (insS N s nm h ln)∧Zk6 N s (insS N s nm h ln).R:=by
 unfold insS
 by_cases c:inR s.F s.U (sOf N s.R) (wOf N s.R) nm h ln=0
 case neg=>rw [if_neg c]; exact⟨hd,Z4B N s⟩
 rw [if_pos c]
 obtain⟨h1,⟨h2,h2'⟩,h3,h4⟩:=Z5Q c
 have hk:=(Z33 (Z0F N s.R) s.U).1 h4
 have hf:∀f∈inL s.F (sOf N s.R) nm h ln,Z1p f∧Z34 f.nm=true∧Z6t (sOf N s.R) f.hd f.ln∧hdAll (sOf N s.R) f=f.se:=fun f hf=>by
  rcases Z7T hf with rfl | hf
  ·exact⟨⟨Z2w h1,Z5R hN h2⟩,h1,h2,rfl⟩
  ·exact⟨(hi.2.2.1 f hf).1,hd.2.2 f hf⟩
 have hp:∃rest,(seL s.F).Perm (inG s.F nm++rest)∧(seL (inL s.F (sOf N s.R) nm h ln)).Perm (Z2K (sOf N s.R) h ln++rest):=by
  unfold inL inF inG
  by_cases d:fiB s.F nm=true
  ·have:=(of_decide_eq_true d).1
   exact⟨seL (wo s.F (fiN s.F nm)),by rw [if_pos d]; exact Z2E this,by rw [if_pos d]; exact Z30 this⟩
  ·refine⟨seL s.F,?_,?_⟩
   ·rw [if_neg d]; exact List.Perm.refl _
   ·rw [if_neg d]; exact Z6n _ _ _
 obtain⟨rest,p1,p2⟩:=hp
 exact Z7Q h0 hN hi hm hd p1 h2' p2 hk h3 hf
theorem ZhA{N:Nat}{s:St}{nm:List UInt8}(h0:0<N)(hN:N≤4096)(hi:inv N s)(hm:mk1 N s)(hd:dsk N s):dsk N (delS N s nm)∧Zk6 N s (delS N s nm).R:=by
 unfold delS
 by_cases c:delR s.F s.U s.R nm=0
 case neg=>rw [if_neg c]; exact⟨hd,Z4B N s⟩
 rw [if_pos c]
 obtain⟨h1,h2⟩:=Z3X.1 c
 have hl:=Z54 h1
 exact Z7Q (own:=[]) (rest:=seL (delL s.F nm)) h0 hN hi hm hd (Z2E hl) (fun i h=>absurd h (Nat.not_lt_zero i)) (List.Perm.refl _) h2
  (by have:=Z6M hl; have:=hi.2.1; unfold delL; omega) fun f hf=>⟨(hi.2.2.1 f (Z4K hf)).1,hd.2.2 f (Z4K hf)⟩
theorem Zgp{N:Nat}{s:St}{a b:List UInt8}(h0:0<N)(hN:N≤4096)(hi:inv N s)(hm:mk1 N s)(hd:dsk N s):dsk N (renS N s a b)∧Zk6 N s (renS N s a b).R:=by
 unfold renS
 by_cases c:renR s.F s.U s.R a b=0
 case neg=>rw [if_neg c]; exact⟨hd,Z4B N s⟩
 rw [if_pos c]
 obtain⟨h1,h2,h3,h4⟩:=Z3Q.1 c
 have hl:=Z54 h2
 have hp:(seL (renL s.F a b)).Perm (seL s.F):=((Z2t hl).flatMap_right Fl.se).trans ((Z30 hl).trans (Z2E hl).symm)
 refine Z7Q (gone:=[]) (own:=[]) (rest:=seL s.F) h0 hN hi hm hd (List.Perm.refl _) (fun i h=>absurd h (Nat.not_lt_zero i)) hp h4 (by have:=Z4P b hl; have:=hi.2.1; omega) fun f hf=>?_
 rcases List.mem_or_eq_of_mem_set ((Z2t hl).mem_iff.1 hf) with h | rfl
 ·exact⟨(hi.2.2.1 f h).1,hd.2.2 f h⟩
 ·have hx:s.F.getD (fiN s.F a) default∈s.F:=by rw [Z0m hl]; exact List.getElem_mem hl
  have hk:=(hi.2.2.1 _ hx).1
  obtain⟨_,k2,k3⟩:=hd.2.2 _ hx
  exact⟨⟨Z2w h1,hk.2⟩,h1,k2,k3⟩
theorem Zeb{N:Nat}{s:St}{nm:List UInt8}{len:Int}(h0:0<N)(hN:N≤4096)(hi:inv N s)(hm:mk1 N s)(hd:dsk N s):dsk N (fileS N s nm len)∧Zk6 N s (fileS N s nm len).R:=by
 obtain⟨t1,h2,_⟩:=Z7t s.U (cuM len+1)
 obtain⟨om,od⟩:=Z0p.1 h2
 obtain⟨um,ud⟩:=Z0p.1 hi.2.2.2.2.2.2
 have hm2:mk1 N (fiS N s len):=Zao h0 hi hm om (by decide) (.inr rfl) _
 have hw:∃ws,fiR N s.U s.R len=s.R++ws∧ws.length≤1∧∀w∈ws,0<w.1∧w.1∉s.Lv++seL s.F:=by
  unfold fiR
  split
  case isFalse=>exact⟨[],(List.append_nil _).symm,Nat.zero_le _,fun w hw=>absurd hw (List.not_mem_nil)⟩
  rename_i hf
  unfold rwW
  split
  case isFalse=>exact⟨[],(List.append_nil _).symm,Nat.zero_le _,fun w hw=>absurd hw (List.not_mem_nil)⟩
  refine⟨_,rfl,Nat.le_refl _,fun w hw=>?_⟩
  obtain rfl:=List.mem_singleton.1 hw
  have hx:fiH s.U len∈tkL s.U (cuM len+1):=by
   have hl:0<(tkL s.U (cuM len+1)).length:=by
    have:(tkL s.U (cuM len+1)).length=cuM len+1:=hf
    omega
   unfold fiH fiL
   rw [Z0m hl]
   exact List.getElem_mem hl
  dsimp only
  refine⟨?_,Z1i om um (by decide) _ hx⟩
  have a:=Z1I om _ hx
  have b:=Z8F h0 hi.2.2.2.2.1 hm (by decide) om
  have:fiH s.U len≠0:=fun e=>b (e▸hx)
  omega
 obtain⟨ws,e,hl,hw⟩:=hw
 have nn:=Z1I um
 have hd2:∀q,Z6B (sOf N (s.R++ws.take q)) s.F s.Lv:=fun q=>by
  rw [Z9v]
  exact Z5n nn _ _ hd fun w h=>hw w (List.mem_of_mem_take h)
 have hall:Z6B (sOf N (fiR N s.U s.R len)) s.F s.Lv:=by
  have:=hd2 ws.length
  rw [List.take_length,←e] at this
  exact this
 unfold fileS
 split
 ·obtain⟨a,ws2,e2,c2⟩:=ZaS (nm:=nm) (h:=fiH s.U len) (ln:=(cut5 len:Int)) h0 hN (Z6y hi) hm2 (show dsk N (fiS N s len) from hall)
  refine⟨a,ws++ws2,by rw [e2]; show fiR N s.U s.R len++ws2=_; rw [e,List.append_assoc],fun q hq=>?_⟩
  rcases Nat.lt_or_ge q ws.length with h | h
  ·rw [List.take_append_of_le_length (by omega)]
   exact hd2 q
  ·rw [List.length_append] at hq
   have:=c2 (q - ws.length) (by omega)
   rw [List.take_append,List.take_of_length_le h,←List.append_assoc,←e]
   exact this
 ·exact⟨hall,ws,e,fun q _=>hd2 q⟩
theorem Zdw{N:Nat}{s:St}(h0:0<N)(hi:inv N s)(hm:mk1 N s)(hd:dsk N s):∃U1,opn (sOf N s.R)=(⟨s.F,s.Lv,U1⟩,true)∧opT N s s.R=⟨s.F,s.Lv,U1,s.R⟩∧U1.length=N∧uOf N U1 (s.Lv++seL s.F):=by
 obtain⟨U1,e,l,u⟩:=Zdv h0 hi hm (Z0r N s.R) hd
 refine⟨U1,e,?_,l,u⟩
 have ht:(opn (sOf N s.R)).2=true:=by rw [e]
 have hc:opC N s.R:=.inl ht
 unfold opT
 rw [if_pos hc]
 unfold opK
 rw [if_pos ht]
 unfold opS
 rw [e]
theorem Zbj{N:Nat}{s:St}{t:Stp}(h0:0<N)(hN:N≤4096)(h9:t.kd≠9)(hi:inv N s)(hm:mk1 N s)(hd:dsk N s):dsk N (stepS N s t)∧Zk6 N s (stepS N s t).R:=by
 unfold stepS
 split
 ·exact Zeb h0 hN hi hm hd
 split
 ·exact ZaS h0 hN hi hm hd
 split
 ·exact ZhA h0 hN hi hm hd
 split
 ·exact Zgp h0 hN hi hm hd
 split
 ·exact⟨hd,Z4B N s⟩
 split
 ·exact⟨hd,Z4B N s⟩
 split
 ·obtain⟨U1,e,e2,_⟩:=Zdw h0 hi hm hd
  rw [e2]
  exact⟨hd,Z4B N s⟩
 exact⟨hd,Z4B N s⟩
theorem Zge{N:Nat}(h0:0<N):dsk N (st0 N):=by
 have e:=Z7L (R:=[]) h0 (by decide)
 have hf:=Ze9 (R:=[]) h0 (by decide)
 unfold dsk st0 opS
 dsimp only
 rw [e]
 dsimp only
 have hpl:(padP (leW markR)).length=1024:=Z29 (by decide)
 have hb:secB (sOf N (fmtR N [])) 0=padP (leW markR):=by
  rw [hf,Z4N]
  unfold stW secB
  rw [if_pos (Int.le_refl _),Z1J _ _ _ _ (by rw [Z0r]; exact h0)]
  exact Z4L hpl
 refine⟨⟨by rw [hb]; decide +kernel,by unfold rdN; rw [hb]; decide +kernel,fun i hi=>absurd hi (Nat.not_lt_zero i)⟩,fun i hi=>absurd hi (Nat.not_lt_zero i),fun f hf=>absurd hf (List.not_mem_nil)⟩
end Go.Proofs.YtbnnhffkbcekcaaGreatDoor.dirDone
end
