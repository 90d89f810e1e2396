/- Parts of the walk through directories. Conditions stand in each. -/
import Derived.Test.YtbnnhffkbcekcaaGreatDoorGo
import Derived.Test.YtbnnhffkbcekcaaGreatDoorFg
import Derived.Test.YtbnnhffkbcekcaaGreatDoorGq
import Derived.Test.YtbnnhffkbcekcaaGreatDoorGm
import Derived.Test.YtbnnhffkbcekcaaGreatDoorGl
set_option linter.unusedVariables false
set_option linter.unusedSimpArgs false
set_option maxRecDepth 100000
set_option maxHeartbeats 4000000
section
namespace Go.Proofs.YtbnnhffkbcekcaaGreatDoor.dirDone
open Go Go.Eng Go.Proofs Go.Lib
theorem ZdN{L F:List Fl}{Lv gone U:List Int}{S:List Sec}{W:List Wr}(h:Z2l L W U):lyZ L F Lv gone U S W=Zc2 L Lv gone (lyE L S W U).now (lyU L Lv gone S W U) (lyS L S W U) (lyW L S W U):=by
 unfold lyZ Zc2
 rw [if_pos h,Z6i L S W U h,Z9K,Z9L]
theorem Zai(U:List Int):tRes U 2 1 []=U:=by unfold tRes; split <;> rfl
theorem Z3X{F:List Fl}{U:List Int}{W:List Wr}{nm:List UInt8}:delR F U W nm=0↔fiB F nm=true∧Z2l (delL F nm) W U:=by
 unfold delR
 constructor
 ·intro h
  split at h
  ·rename_i h1
   split at h
   ·rename_i h2; exact⟨h1,h2⟩
   ·exact absurd h (by decide)
  ·exact absurd h (by decide)
 ·rintro⟨h1,h2⟩; rw [if_pos h1,if_pos h2]
theorem Z3Q{F:List Fl}{U:List Int}{W:List Wr}{a b:List UInt8}:renR F U W a b=0↔Z34 b=true∧fiB F a=true∧(¬fiB F b=true)∧Z2l (renL F a b) W U:=by
 unfold renR
 constructor
 ·intro h
  split at h
  ·rename_i h1
   split at h
   ·rename_i h2
    split at h
    ·exact absurd h (by decide)
    ·rename_i h3
     split at h
     ·rename_i h4; exact⟨h1,h2,h3,h4⟩
     ·exact absurd h (by decide)
   ·exact absurd h (by decide)
  ·exact absurd h (by decide)
 ·rintro⟨h1,h2,h3,h4⟩; rw [if_pos h1,if_pos h2,if_neg h3,if_pos h4]
def delS(N:Nat)(s:St)(nm:List UInt8):St:=if delR s.F s.U s.R nm=0 then Z78 N s (delL s.F nm) (delG s.F nm) [] else s
def renS(N:Nat)(s:St)(a b:List UInt8):St:=if renR s.F s.U s.R a b=0 then Z78 N s (renL s.F a b) [] [] else s
theorem Z77{L:List Fl}{N:Nat}{R:List Wr}{U:List Int}:Z2l L (wOf N R) U=Z2l L R U:=propext (Z33 (Z0F N R) U)
theorem ZlX(F:List Fl)(N:Nat)(R:List Wr)(U:List Int)(nm:List UInt8):delR F U (wOf N R) nm=delR F U R nm:=by unfold delR; simp only [Z77]
theorem ZkH(F:List Fl)(N:Nat)(R:List Wr)(U:List Int)(a b:List UInt8):renR F U (wOf N R) a b=renR F U R a b:=by unfold renR; simp only [Z77]
theorem Z88{N:Nat}{s:St}{nm:List UInt8}(hi:inv N s):inv N (delS N s nm)∧(delR s.F s.U s.R nm=0→(uGo 1 0 (delG s.F nm) (ryU (delL s.F nm) s.Lv N s.R s.U)).1=(delS N s nm).U):=by
 unfold delS
 by_cases c:delR s.F s.U s.R nm=0
 case neg=>rw [if_neg c]; exact⟨hi,fun h=>absurd h c⟩
 rw [if_pos c]
 obtain⟨h1,h2⟩:=Z3X.1 c
 have hl:=Z54 h1
 have:=Z9O (L:=delL s.F nm) (gone:=delG s.F nm) (own:=[]) (rest:=seL (delL s.F nm)) hi (Z2E hl) (fun i h=>absurd h (Nat.not_lt_zero i)) (ZhO hi.1)
  (by have:=Z6M hl; have:=hi.2.1; unfold delL; omega) (fun f hf=>hi.2.2.1 f (Z4K hf)) (List.Perm.refl _) h2
 exact⟨this.1,fun _=>this.2⟩
theorem Z7F{N:Nat}{s:St}{a b:List UInt8}(hi:inv N s):inv N (renS N s a b)∧(renR s.F s.U s.R a b=0→ryU (renL s.F a b) s.Lv N s.R s.U=(renS N s a b).U):=by
 unfold renS
 by_cases c:renR s.F s.U s.R a b=0
 case neg=>rw [if_neg c]; exact⟨hi,fun h=>absurd h c⟩
 rw [if_pos c]
 obtain⟨h1,h2,h3,h4⟩:=Z3Q.1 c
 have hl:=Z54 h2
 have hp:(seL (renL s.F a b)).Perm (seL s.F):=((Z2t hl).flatMap_right Fl.se).trans ((Z30 hl).trans (Z2E hl).symm)
 have hm:∀f∈renL s.F a b,Z1p f∧f.se.length≤251:=fun f hf=>by
  rcases List.mem_or_eq_of_mem_set ((Z2t hl).mem_iff.1 hf) with h | rfl
  ·exact hi.2.2.1 f h
  ·have hk:=hi.2.2.1 _ (by rw [Z0m hl]; exact List.getElem_mem hl:s.F.getD (fiN s.F a) default∈s.F)
   exact⟨⟨Z2w h1,hk.1.2⟩,hk.2⟩
 have:=Z9O (L:=renL s.F a b) (gone:=[]) (own:=[]) (rest:=seL s.F) hi (List.Perm.refl _) (fun i h=>absurd h (Nat.not_lt_zero i)) (Z9o hi.1 h3)
  (by have:=Z4P b hl; have:=hi.2.1; omega) hm hp h4
 exact⟨this.1,fun _=>this.2⟩
theorem ZfE{N:Nat}{s:St}{nm:List UInt8}(hi:inv N s)(hc:delR s.F s.U s.R nm=0) :
  deZ s.F s.Lv s.U (sOf N s.R) (wOf N s.R) nm=Zc2 (delS N s nm).F s.Lv (delG s.F nm) (delS N s nm).Lv (delS N s nm).U (sOf N (delS N s nm).R) (wOf N (delS N s nm).R)∧
   Zix s.F s.Lv s.U N s.R nm=Z0y (delS N s nm).F (delS N s nm).Lv (delS N s nm).U N (delS N s nm).R:=by
 have hb:=(Z88 (nm:=nm) hi).2 hc
 obtain⟨h1,h2⟩:=Z3X.1 hc
 obtain⟨b1,b2,b3,_⟩:=Z6h (N:=N) h2
 have e:delS N s nm=Z78 N s (delL s.F nm) (delG s.F nm) []:=by unfold delS; rw [if_pos hc]
 rw [e] at hb ⊢
 unfold deZ Zix
 rw [if_pos h1,if_pos hc,hb,ZdN (by rw [Z77]; exact h2),b1,b2,b3]
 unfold Z78
 rw [Zai]
 exact⟨rfl,rfl⟩
theorem Z8Y{N:Nat}{s:St}{nm:List UInt8}(hc:delR s.F s.U s.R nm≠0) :
  deZ s.F s.Lv s.U (sOf N s.R) (wOf N s.R) nm=Z0z s.F s.Lv s.U (sOf N s.R) (wOf N s.R)∧Zix s.F s.Lv s.U N s.R nm=Z0y s.F s.Lv s.U N s.R:=by
 unfold deZ Zix
 refine⟨?_,if_neg hc⟩
 split
 ·rename_i h
  unfold lyZ
  rw [if_neg]
  rw [Z77]
  exact fun h2=>hc (Z3X.2 ⟨h,h2⟩)
 ·rfl
theorem ZcB{N:Nat}{s:St}{a b:List UInt8}(hi:inv N s)(hc:renR s.F s.U s.R a b=0) :
  rnZ s.F s.Lv s.U (sOf N s.R) (wOf N s.R) a b=Zc2 (renS N s a b).F s.Lv [] (renS N s a b).Lv (renS N s a b).U (sOf N (renS N s a b).R) (wOf N (renS N s a b).R)∧
   ZhX s.F s.Lv s.U N s.R a b=Z0y (renS N s a b).F (renS N s a b).Lv (renS N s a b).U N (renS N s a b).R:=by
 have hb:=(Z7F (a:=a) (b:=b) hi).2 hc
 obtain⟨h1,h2,h3,h4⟩:=Z3Q.1 hc
 obtain⟨b1,b2,b3,_⟩:=Z6h (N:=N) h4
 have e:renS N s a b=Z78 N s (renL s.F a b) [] []:=by unfold renS; rw [if_pos hc]
 rw [e] at hb ⊢
 unfold rnZ ZhX
 rw [if_pos ⟨h1,h2,h3⟩,if_pos hc,hb,ZdN (by rw [Z77]; exact h4),b1,b2,b3]
 unfold Z78
 rw [Zai]
 exact⟨rfl,rfl⟩
theorem Z8q{N:Nat}{s:St}{a b:List UInt8}(hc:renR s.F s.U s.R a b≠0) :
  rnZ s.F s.Lv s.U (sOf N s.R) (wOf N s.R) a b=Z0z s.F s.Lv s.U (sOf N s.R) (wOf N s.R)∧ZhX s.F s.Lv s.U N s.R a b=Z0y s.F s.Lv s.U N s.R:=by
 unfold rnZ ZhX
 refine⟨?_,if_neg hc⟩
 split
 ·rename_i h
  unfold lyZ
  rw [if_neg]
  rw [Z77]
  exact fun h2=>hc (Z3Q.2 ⟨h.1,h.2.1,h.2.2,h2⟩)
 ·rfl
theorem body27d(Γ:Env)(h35:Γ 35=some S35)(h69:Γ 69=some S69)(F:List Fl)(Lv U:List Int)(N:Nat)(R:List Wr)(nm to:List UInt8)(n len:Int)(r:List UInt8)(hi:inv N ⟨F,Lv,U,R⟩)(hN0:0<N)(hN:N≤1024)(hnm:nm.length≤1048576)(hto:to.length≤1048576)(hr:r.length≤1048576) :
  Z08 Tryz.prog Γ Tryz.f27 [.ref 0 0 0,.agg [.int .i64 3,.str nm,.str to,.int .i64 n,.int .i64 len,.str r]] (bK F Lv U (sOf N R) (wOf N R) N R) (.bool true) (if delR F U R nm=0 then bIH N (delS N ⟨F,Lv,U,R⟩ nm) (Lv++delG F nm) (Lv.length+1) else bK F Lv U (sOf N R) (wOf N R) N R):=by
 obtain⟨i1,i2,i3,i4,i5,i6,i7⟩:=id hi
 replace i1:srt F:=i1
 replace i2:F.length≤200:=i2
 replace i3:∀f∈F,Z1p f∧f.se.length≤251:=i3
 replace i4:Lv.length≤7:=i4
 replace i5:U.length=N:=i5
 replace i6:R.length≤4096:=i6
 have k3:∀f∈F,Z1p f∧f.se.length≤1000000:=fun f hf=>⟨(i3 f hf).1,by have:=(i3 f hf).2; omega⟩
 have hS:=Z0r N R
 have hW:=Z0F N R
 have ⟨p35,r35,g35⟩:=ks35 F Lv U (sOf N R) (wOf N R) nm
 have ⟨p69,r69,g69⟩:=ks69 F Lv U N R nm
 rw [ZlX] at r35
 by_cases hC:delR F U R nm=0
 ·obtain⟨z1,z2⟩:=ZfE (s:=⟨F,Lv,U,R⟩) hi hC
  dsimp only at z1 z2
  rw [z1] at g35
  rw [z2] at g69
  rw [hC] at r35 r69
  rw [if_pos hC]
  have j:=(Z88 (nm:=nm) hi).1
  clear z1 z2
  generalize delS N ⟨F,Lv,U,R⟩ nm=s2 at *
  obtain⟨F2,Lv2,U2,R2⟩:=s2
  dsimp only at *
  unfold bIH bI
  dsimp only
  generalize sOf N R2=S2 at *
  generalize wOf N R2=W2 at *
  generalize sOf N R=S at *
  generalize wOf N R=W at *
  unfold bK
  unfold Z0z at p35 r35 g35
  unfold Zc2 at g35
  unfold Z0y at p69 r69 g69
  refine stt 164 [.tmp 4] fun X hP hΓ hL hfin=>?_; refine Z0G ?_
  refine Z02.dE (Z1s [.fix (.row [.ref 1 0 0,.ref 2 0 0,.ref 3 0 0,.ref 4 0 0] 4 0),.any,.any,.any,.any,.any,.any,.any,.any,.any,.any,.fix (.row [.int .i64 3,.str nm,.str to,.int .i64 n,.int .i64 len,.str r] 6 0)]) [0,1,2,3,4,5,6,7] [] [] false (gyq (cj4 h35 p35 r35 g35) ?_)
  refine⟨⟨by decide,i2,i1,k3,by omega,by omega,by omega,by omega⟩,?_⟩
  refine Z02.dE (Z1s [.fix (.row [.ref 1 0 0,.ref 2 0 0,.ref 3 0 0,.ref 4 0 0] 4 0),.any,.any,.any,.any,.any,.any,.any,.any,.any,.any,.fix (.row [.int .i64 3,.str nm,.str to,.int .i64 n,.int .i64 len,.str r] 6 0)]) [0,1,2,3,4,5,6,7] [] [] false (gyq (cj4 h69 p69 r69 g69) ?_)
  refine⟨⟨by decide,i2,i3,by omega,by omega,by omega,i6⟩,?_⟩
  refine Z0G ?_
  exact Z0q.base [0,1,2,3,4,5,6,7,8,9,10,12] ⟨sml,smr,(by decide),(by first | rfl | decide),sm,sm⟩ smd
 ·obtain⟨z1,z2⟩:=Z8Y (s:=⟨F,Lv,U,R⟩) hC
  dsimp only at z1 z2
  rw [z1] at g35
  rw [z2] at g69
  rw [if_neg hC]
  clear z1 z2
  generalize delR F U R nm=cd at *
  generalize sOf N R=S at *
  generalize wOf N R=W at *
  unfold bK
  unfold Z0z at p35 r35 g35
  unfold Z0y at p69 r69 g69
  refine stt 164 [.tmp 4] fun X hP hΓ hL hfin=>?_; refine Z0G ?_
  refine Z02.dE (Z1s [.fix (.row [.ref 1 0 0,.ref 2 0 0,.ref 3 0 0,.ref 4 0 0] 4 0),.any,.any,.any,.any,.any,.any,.any,.any,.any,.any,.fix (.row [.int .i64 3,.str nm,.str to,.int .i64 n,.int .i64 len,.str r] 6 0)]) [0,1,2,3,4,5,6,7] [] [] false (gyq (cj4 h35 p35 r35 g35) ?_)
  refine⟨⟨by decide,i2,i1,k3,by omega,by omega,by omega,by omega⟩,?_⟩
  refine Z02.dE (Z1s [.fix (.row [.ref 1 0 0,.ref 2 0 0,.ref 3 0 0,.ref 4 0 0] 4 0),.any,.any,.any,.any,.any,.any,.any,.any,.any,.any,.fix (.row [.int .i64 3,.str nm,.str to,.int .i64 n,.int .i64 len,.str r] 6 0)]) [0,1,2,3,4,5,6,7] [] [] false (gyq (cj4 h69 p69 r69 g69) ?_)
  refine⟨⟨by decide,i2,i3,by omega,by omega,by omega,i6⟩,?_⟩
  refine Z0G ?_
  exact Z06.keep11A
theorem body27n(Γ:Env)(h36:Γ 36=some S36)(h70:Γ 70=some S70)(F:List Fl)(Lv U:List Int)(N:Nat)(R:List Wr)(nm to:List UInt8)(n len:Int)(r:List UInt8)(hi:inv N ⟨F,Lv,U,R⟩)(hN0:0<N)(hN:N≤1024)(hnm:nm.length≤1048576)(hto:to.length≤1048576)(hr:r.length≤1048576) :
  Z08 Tryz.prog Γ Tryz.f27 [.ref 0 0 0,.agg [.int .i64 4,.str nm,.str to,.int .i64 n,.int .i64 len,.str r]] (bK F Lv U (sOf N R) (wOf N R) N R) (.bool true) (if renR F U R nm to=0 then bIH N (renS N ⟨F,Lv,U,R⟩ nm to) (Lv++[]) (Lv.length+1) else bK F Lv U (sOf N R) (wOf N R) N R):=by
 obtain⟨i1,i2,i3,i4,i5,i6,i7⟩:=id hi
 replace i1:srt F:=i1
 replace i2:F.length≤200:=i2
 replace i3:∀f∈F,Z1p f∧f.se.length≤251:=i3
 replace i4:Lv.length≤7:=i4
 replace i5:U.length=N:=i5
 replace i6:R.length≤4096:=i6
 have k3:∀f∈F,Z1p f∧f.se.length≤1000000:=fun f hf=>⟨(i3 f hf).1,by have:=(i3 f hf).2; omega⟩
 have hS:=Z0r N R
 have hW:=Z0F N R
 have ⟨p36,r36,g36⟩:=ks36 F Lv U (sOf N R) (wOf N R) nm to
 have ⟨p70,r70,g70⟩:=ks70 F Lv U N R nm to
 rw [ZkH] at r36
 by_cases hC:renR F U R nm to=0
 ·obtain⟨z1,z2⟩:=ZcB (s:=⟨F,Lv,U,R⟩) hi hC
  dsimp only at z1 z2
  rw [z1] at g36
  rw [z2] at g70
  rw [hC] at r36 r70
  rw [if_pos hC]
  have j:=(Z7F (a:=nm) (b:=to) hi).1
  clear z1 z2
  generalize renS N ⟨F,Lv,U,R⟩ nm to=s2 at *
  obtain⟨F2,Lv2,U2,R2⟩:=s2
  dsimp only at *
  unfold bIH bI
  dsimp only
  generalize sOf N R2=S2 at *
  generalize wOf N R2=W2 at *
  generalize sOf N R=S at *
  generalize wOf N R=W at *
  unfold bK
  unfold Z0z at p36 r36 g36
  unfold Zc2 at g36
  unfold Z0y at p70 r70 g70
  refine stt 164 [.tmp 4] fun X hP hΓ hL hfin=>?_; refine Z0G ?_
  refine Z02.dE (Z1s [.fix (.row [.ref 1 0 0,.ref 2 0 0,.ref 3 0 0,.ref 4 0 0] 4 0),.any,.any,.any,.any,.any,.any,.any,.any,.any,.any,.fix (.row [.int .i64 4,.str nm,.str to,.int .i64 n,.int .i64 len,.str r] 6 0)]) [0,1,2,3,4,5,6,7,8,9] [] [] false (gyq (cj4 h36 p36 r36 g36) ?_)
  refine⟨⟨by decide,i2,i1,k3,by omega,by omega,by omega,by omega,hto⟩,?_⟩
  refine Z02.dE (Z1s [.fix (.row [.ref 1 0 0,.ref 2 0 0,.ref 3 0 0,.ref 4 0 0] 4 0),.any,.any,.any,.any,.any,.any,.any,.any,.any,.any,.fix (.row [.int .i64 4,.str nm,.str to,.int .i64 n,.int .i64 len,.str r] 6 0)]) [0,1,2,3,4,5,6,7,8,9] [] [] false (gyq (cj4 h70 p70 r70 g70) ?_)
  refine⟨⟨by decide,i2,i3,by omega,by omega,by omega,i6,hto⟩,?_⟩
  refine Z0G ?_
  exact Z0q.base [0,1,2,3,4,5,6,7,8,9,10,12] ⟨sml,smr,(by decide),(by first | rfl | decide),sm,sm⟩ smd
 ·obtain⟨z1,z2⟩:=Z8q (s:=⟨F,Lv,U,R⟩) hC
  dsimp only at z1 z2
  rw [z1] at g36
  rw [z2] at g70
  rw [if_neg hC]
  clear z1 z2
  generalize renR F U R nm to=cd at *
  generalize sOf N R=S at *
  generalize wOf N R=W at *
  unfold bK
  unfold Z0z at p36 r36 g36
  unfold Z0y at p70 r70 g70
  refine stt 164 [.tmp 4] fun X hP hΓ hL hfin=>?_; refine Z0G ?_
  refine Z02.dE (Z1s [.fix (.row [.ref 1 0 0,.ref 2 0 0,.ref 3 0 0,.ref 4 0 0] 4 0),.any,.any,.any,.any,.any,.any,.any,.any,.any,.any,.fix (.row [.int .i64 4,.str nm,.str to,.int .i64 n,.int .i64 len,.str r] 6 0)]) [0,1,2,3,4,5,6,7,8,9] [] [] false (gyq (cj4 h36 p36 r36 g36) ?_)
  refine⟨⟨by decide,i2,i1,k3,by omega,by omega,by omega,by omega,hto⟩,?_⟩
  refine Z02.dE (Z1s [.fix (.row [.ref 1 0 0,.ref 2 0 0,.ref 3 0 0,.ref 4 0 0] 4 0),.any,.any,.any,.any,.any,.any,.any,.any,.any,.any,.fix (.row [.int .i64 4,.str nm,.str to,.int .i64 n,.int .i64 len,.str r] 6 0)]) [0,1,2,3,4,5,6,7,8,9] [] [] false (gyq (cj4 h70 p70 r70 g70) ?_)
  refine⟨⟨by decide,i2,i3,by omega,by omega,by omega,i6,hto⟩,?_⟩
  refine Z0G ?_
  exact Z06.keep11A
theorem body27i(Γ:Env)(h34:Γ 34=some S34)(h68:Γ 68=some S68)(F:List Fl)(Lv U:List Int)(N:Nat)(R:List Wr)(nm to:List UInt8)(n len:Int)(r:List UInt8)(hi:inv N ⟨F,Lv,U,R⟩)(hN0:0<N)(hN:N≤1024)(hnm:nm.length≤1048576)(hto:to.length≤1048576)(hr:r.length≤1048576) :
  Z08 Tryz.prog Γ Tryz.f27 [.ref 0 0 0,.agg [.int .i64 2,.str nm,.str to,.int .i64 n,.int .i64 len,.str r]] (bK F Lv U (sOf N R) (wOf N R) N R) (.bool true) (if inR F U (sOf N R) (wOf N R) nm n len=0 then bIH N (insS N ⟨F,Lv,U,R⟩ nm n len) (Lv++inG F nm) (Lv.length+1) else bK F Lv U (sOf N R) (wOf N R) N R):=by
 obtain⟨i1,i2,i3,i4,i5,i6,i7⟩:=id hi
 replace i1:srt F:=i1
 replace i2:F.length≤200:=i2
 replace i3:∀f∈F,Z1p f∧f.se.length≤251:=i3
 replace i4:Lv.length≤7:=i4
 replace i5:U.length=N:=i5
 replace i6:R.length≤4096:=i6
 have k3:∀f∈F,Z1p f∧f.se.length≤1000000:=fun f hf=>⟨(i3 f hf).1,by have:=(i3 f hf).2; omega⟩
 have hS:=Z0r N R
 have hW:=Z0F N R
 have ⟨p34,r34,g34⟩:=ks34 F Lv U (sOf N R) (wOf N R) nm n len
 have ⟨p68,r68,g68⟩:=ks68 F Lv U N R nm n len
 rw [←Z6q (Z0F N R)] at r68
 by_cases hC:inR F U (sOf N R) (wOf N R) nm n len=0
 ·obtain⟨z1,z2⟩:=Z8M (s:=⟨F,Lv,U,R⟩) (show N≤4096 by omega) hi hC
  dsimp only at z1 z2
  rw [z1] at g34
  rw [z2] at g68
  rw [hC] at r34 r68
  rw [if_pos hC]
  have j:=(Z4W (nm:=nm) (h:=n) (ln:=len) (show N≤4096 by omega) hi).1
  clear z1 z2
  generalize insS N ⟨F,Lv,U,R⟩ nm n len=s2 at *
  obtain⟨F2,Lv2,U2,R2⟩:=s2
  dsimp only at *
  unfold bIH bI
  dsimp only
  generalize sOf N R2=S2 at *
  generalize wOf N R2=W2 at *
  generalize sOf N R=S at *
  generalize wOf N R=W at *
  unfold bK
  unfold Z0z at p34 r34 g34
  unfold Zc2 at g34
  unfold Z0y at p68 r68 g68
  refine stt 164 [.tmp 4] fun X hP hΓ hL hfin=>?_; refine Z0G ?_
  refine Z02.dE (Z1s [.fix (.row [.ref 1 0 0,.ref 2 0 0,.ref 3 0 0,.ref 4 0 0] 4 0),.any,.any,.any,.any,.any,.any,.any,.any,.any,.any,.fix (.row [.int .i64 2,.str nm,.str to,.int .i64 n,.int .i64 len,.str r] 6 0),.fix (.row [.str nm,.int .i64 n,.int .i64 len] 3 0)]) [0,1,2,3,4,5,6] [] [] false (gyq (cj4 h34 p34 r34 g34) ?_)
  refine⟨⟨by decide,i2,i1,k3,by omega,by omega,by omega,by omega,hnm⟩,?_⟩
  refine Z02.dE (Z1s [.fix (.row [.ref 1 0 0,.ref 2 0 0,.ref 3 0 0,.ref 4 0 0] 4 0),.any,.any,.any,.any,.any,.any,.any,.any,.any,.any,.fix (.row [.int .i64 2,.str nm,.str to,.int .i64 n,.int .i64 len,.str r] 6 0),.fix (.row [.str nm,.int .i64 n,.int .i64 len] 3 0)]) [0,1,2,3,4,5,6] [] [] false (gyq (cj4 h68 p68 r68 g68) ?_)
  refine⟨⟨by decide,i2,i3,by omega,i5,by omega,i6,hnm⟩,?_⟩
  refine Z0G ?_
  exact Z0q.base [0,1,2,3,4,5,6,7,8,9,10,13] ⟨sml,smr,(by decide),(by first | rfl | decide),sm,sm⟩ smd
 ·obtain⟨z1,z2⟩:=Z5B (s:=⟨F,Lv,U,R⟩) hC
  dsimp only at z1 z2
  rw [z1] at g34
  rw [z2] at g68
  rw [if_neg hC]
  clear z1 z2
  generalize inR F U (sOf N R) (wOf N R) nm n len=cd at *
  generalize sOf N R=S at *
  generalize wOf N R=W at *
  unfold bK
  unfold Z0z at p34 r34 g34
  unfold Z0y at p68 r68 g68
  refine stt 164 [.tmp 4] fun X hP hΓ hL hfin=>?_; refine Z0G ?_
  refine Z02.dE (Z1s [.fix (.row [.ref 1 0 0,.ref 2 0 0,.ref 3 0 0,.ref 4 0 0] 4 0),.any,.any,.any,.any,.any,.any,.any,.any,.any,.any,.fix (.row [.int .i64 2,.str nm,.str to,.int .i64 n,.int .i64 len,.str r] 6 0),.fix (.row [.str nm,.int .i64 n,.int .i64 len] 3 0)]) [0,1,2,3,4,5,6] [] [] false (gyq (cj4 h34 p34 r34 g34) ?_)
  refine⟨⟨by decide,i2,i1,k3,by omega,by omega,by omega,by omega,hnm⟩,?_⟩
  refine Z02.dE (Z1s [.fix (.row [.ref 1 0 0,.ref 2 0 0,.ref 3 0 0,.ref 4 0 0] 4 0),.any,.any,.any,.any,.any,.any,.any,.any,.any,.any,.fix (.row [.int .i64 2,.str nm,.str to,.int .i64 n,.int .i64 len,.str r] 6 0),.fix (.row [.str nm,.int .i64 n,.int .i64 len] 3 0)]) [0,1,2,3,4,5,6] [] [] false (gyq (cj4 h68 p68 r68 g68) ?_)
  refine⟨⟨by decide,i2,i3,by omega,i5,by omega,i6,hnm⟩,?_⟩
  refine Z0G ?_
  exact Z06.keep11A
theorem body27f(Γ:Env)(h67:Γ 67=some S67)(F:List Fl)(Lv U:List Int)(N:Nat)(R:List Wr)(nm to:List UInt8)(n len:Int)(r:List UInt8)(hi:inv N ⟨F,Lv,U,R⟩)(hN0:0<N)(hN:N≤1024)(hnm:nm.length≤1048576) :
  Z08 Tryz.prog Γ Tryz.f27 [.ref 0 0 0,.agg [.int .i64 1,.str nm,.str to,.int .i64 n,.int .i64 len,.str r]] (bK F Lv U (sOf N R) (wOf N R) N R) (.bool true) (Z84 N ⟨F,Lv,U,R⟩ nm len):=by
 have ⟨p1,r1,g1⟩:=ks67 F Lv U N R 1 nm to n len r
 have hU:U.length=N:=hi.2.2.2.2.1
 have i2:=Z8T (nm:=nm) (len:=len) (show N≤4096 by omega) hi
 unfold Z84 at *
 by_cases hC:fiC N ⟨F,Lv,U,R⟩ nm len
 ·rw [if_pos hC] at g1 ⊢
  unfold bIH bI at *
  generalize fileS N ⟨F,Lv,U,R⟩ nm len=s2 at *
  obtain⟨F2,Lv2,U2,R2⟩:=s2
  have hU2:U2.length=N:=i2.2.2.2.2.1
  dsimp only at *
  generalize sOf N R2=S2 at *
  generalize wOf N R2=W2 at *
  generalize sOf N R=S at *
  generalize wOf N R=W at *
  unfold bK at *
  refine stt 164 [.tmp 4] fun X hP hΓ hL hfin=>?_; refine gxq (cj4 h67 p1 r1 g1) ?_
  refine⟨⟨by decide,hi,hN,hnm⟩,?_⟩
  exact Z0q.base [0,1,2,3,4,5,6,7,8,9,10,12] ⟨sml,smr,(by decide),(by first | rfl | decide),sm,sm⟩ smd
 ·rw [if_neg hC] at g1 ⊢
  unfold bH at *
  generalize fileS N ⟨F,Lv,U,R⟩ nm len=s2 at *
  obtain⟨F2,Lv2,U2,R2⟩:=s2
  dsimp only at *
  generalize sOf N R2=S2 at *
  generalize wOf N R2=W2 at *
  generalize sOf N R=S at *
  generalize wOf N R=W at *
  unfold bK at *
  refine stt 164 [.tmp 4] fun X hP hΓ hL hfin=>?_; refine gxq (cj4 h67 p1 r1 g1) ?_
  refine⟨⟨by decide,hi,hN,hnm⟩,?_⟩
  exact Z06.keep11A
theorem body27r(Γ:Env)(h75:Γ 75=some S75)(F:List Fl)(Lv U:List Int)(N:Nat)(R:List Wr)(nm to:List UInt8)(n len:Int)(r:List UInt8)(hi:inv N ⟨F,Lv,U,R⟩)(hN0:0<N)(hN:N≤1024)(hr:r.length≤1048576) :
  Z08 Tryz.prog Γ Tryz.f27 [.ref 0 0 0,.agg [.int .i64 9,.str nm,.str to,.int .i64 n,.int .i64 len,.str r]] (bK F Lv U (sOf N R) (wOf N R) N R) (.bool true) (Zj0 F Lv U N R n len r):=by
 have ⟨p1,r1,g1⟩:=ks75 F Lv U N R 9 nm to n len r
 have hR:R.length≤4096:=hi.2.2.2.2.2.1
 unfold Zj0 at *
 by_cases c1:0≤n∧n<N
 case neg=>
  rw [if_neg c1] at g1 ⊢
  generalize sOf N R=S at *
  generalize wOf N R=W at *
  unfold bK at *
  refine stt 164 [.tmp 4] fun X hP hΓ hL hfin=>?_; refine gxq (cj4 h75 p1 r1 g1) ?_
  refine⟨⟨by decide,hR,hN,hN0,hr⟩,?_⟩
  exact Z06.keep11A
 rw [if_pos c1] at g1 ⊢
 generalize rawR N R n len r=R1 at *
 unfold opZ at *
 by_cases c2:opC N R1
 ·rw [if_pos c2] at g1 ⊢
  unfold bN at *
  generalize (opn (sOf N (opK N R1))).1=d at *
  obtain⟨F2,Lv2,U2⟩:=d
  dsimp only at *
  generalize sOf N (opK N R1)=S2 at *
  generalize wOf N (opK N R1)=W2 at *
  generalize sOf N R=S at *
  generalize wOf N R=W at *
  unfold bO at *
  unfold bK at *
  refine stt 164 [.tmp 4] fun X hP hΓ hL hfin=>?_; refine gxq (cj4 h75 p1 r1 g1) ?_
  refine⟨⟨by decide,hR,hN,hN0,hr⟩,?_⟩
  exact Z0q.base [0,1,2,3,4,5,6,7,8,9,10,12,13,14,15,16] ⟨sml,smr,(by decide),(by first | rfl | decide),sm,sm⟩ smd
 ·rw [if_neg c2] at g1 ⊢
  generalize sOf N R1=S2 at *
  generalize wOf N R1=W2 at *
  generalize sOf N R=S at *
  generalize wOf N R=W at *
  unfold bK at *
  refine stt 164 [.tmp 4] fun X hP hΓ hL hfin=>?_; refine gxq (cj4 h75 p1 r1 g1) ?_
  refine⟨⟨by decide,hR,hN,hN0,hr⟩,?_⟩
  exact Z06.keep11A
theorem body27t(Γ:Env)(h33:Γ 33=some S33)(h71:Γ 71=some S71)(F:List Fl)(Lv U:List Int)(N:Nat)(R:List Wr)(nm to:List UInt8)(n len:Int)(r:List UInt8)(hi:inv N ⟨F,Lv,U,R⟩)(hN0:0<N)(hN:N≤1024)(hnm:nm.length≤1048576)(hto:to.length≤1048576)(hr:r.length≤1048576) :
  Z08 Tryz.prog Γ Tryz.f27 [.ref 0 0 0,.agg [.int .i64 5,.str nm,.str to,.int .i64 n,.int .i64 len,.str r]] (bK F Lv U (sOf N R) (wOf N R) N R) (.bool true) (bK F Lv (tkU U) (sOf N R) (wOf N R) N R):=by
 obtain⟨i1,i2,i3,i4,i5,i6,i7⟩:=id hi
 replace i1:srt F:=i1
 replace i2:F.length≤200:=i2
 replace i3:∀f∈F,Z1p f∧f.se.length≤251:=i3
 replace i4:Lv.length≤7:=i4
 replace i5:U.length=N:=i5
 replace i6:R.length≤4096:=i6
 have k3:∀f∈F,Z1p f∧f.se.length≤1000000:=fun f hf=>⟨(i3 f hf).1,by have:=(i3 f hf).2; omega⟩
 have hS:=Z0r N R
 have hW:=Z0F N R
 have hl:=Z3N U
 have ⟨p33,r33,g33⟩:=ks33 F Lv U (sOf N R) (wOf N R)
 have ⟨p71,r71,g71⟩:=ks71 F Lv U N R
 have e:∃a b,tkR U=.tup [.int .i64 a,.int .i64 b]:=by unfold tkR; split <;> exact⟨_,_,rfl⟩
 obtain⟨a,b,e⟩:=e
 rw [e] at r33 r71
 generalize tkU U=V at *
 generalize sOf N R=S at *
 generalize wOf N R=W at *
 unfold bK Z0z Z0y at *
 rw [hl] at g33 g71 ⊢
 refine stt 164 [.tmp 4] fun X hP hΓ hL hfin=>?_; refine gxq (cj8 h33 p33 r33 g33 h71 p71 r71 g71) ?_
 refine⟨⟨by decide,by omega⟩,⟨by decide,by omega⟩,?_⟩
 exact Z06.keep11A
theorem body27g(Γ:Env)(h32:Γ 32=some S32)(h72:Γ 72=some S72)(F:List Fl)(Lv U:List Int)(N:Nat)(R:List Wr)(nm to:List UInt8)(n len:Int)(r:List UInt8)(hi:inv N ⟨F,Lv,U,R⟩)(hN0:0<N)(hN:N≤1024)(hnm:nm.length≤1048576)(hto:to.length≤1048576)(hr:r.length≤1048576) :
  Z08 Tryz.prog Γ Tryz.f27 [.ref 0 0 0,.agg [.int .i64 6,.str nm,.str to,.int .i64 n,.int .i64 len,.str r]] (bK F Lv U (sOf N R) (wOf N R) N R) (.bool true) (bK F Lv (tRes U 2 0 [n]) (sOf N R) (wOf N R) N R):=by
 obtain⟨i1,i2,i3,i4,i5,i6,i7⟩:=id hi
 replace i1:srt F:=i1
 replace i2:F.length≤200:=i2
 replace i3:∀f∈F,Z1p f∧f.se.length≤251:=i3
 replace i4:Lv.length≤7:=i4
 replace i5:U.length=N:=i5
 replace i6:R.length≤4096:=i6
 have k3:∀f∈F,Z1p f∧f.se.length≤1000000:=fun f hf=>⟨(i3 f hf).1,by have:=(i3 f hf).2; omega⟩
 have hS:=Z0r N R
 have hW:=Z0F N R
 have hl:=Z2q U 2 0 [n]
 have ⟨p32,r32,g32⟩:=ks32 F Lv U (sOf N R) (wOf N R) n
 have ⟨p72,r72,g72⟩:=ks72 F Lv U N R n
 generalize (if tOk U 2 [n] then (0:Int) else 2)=cd at *
 generalize tRes U 2 0 [n]=V at *
 generalize sOf N R=S at *
 generalize wOf N R=W at *
 unfold bK Z0z Z0y at *
 rw [hl] at g32 g72 ⊢
 refine stt 164 [.tmp 4] fun X hP hΓ hL hfin=>?_; refine Z0G ?_
 refine Z02.dE (Z1s [.fix (.row [.ref 1 0 0,.ref 2 0 0,.ref 3 0 0,.ref 4 0 0] 4 0),.any,.any,.any,.any,.any,.any,.any,.any,.any,.any,.fix (.row [.int .i64 6,.str nm,.str to,.int .i64 n,.int .i64 len,.str r] 6 0)]) [0,1,2,3,4,5,6,7] [] [] false (gyq (cj4 h32 p32 r32 g32) ?_)
 refine⟨⟨by decide,by omega⟩,?_⟩
 refine Z02.dE (Z1s [.fix (.row [.ref 1 0 0,.ref 2 0 0,.ref 3 0 0,.ref 4 0 0] 4 0),.any,.any,.any,.any,.any,.any,.any,.any,.any,.any,.fix (.row [.int .i64 6,.str nm,.str to,.int .i64 n,.int .i64 len,.str r] 6 0)]) [0,1,2,3,4,5,6,7] [] [] false (gyq (cj4 h72 p72 r72 g72) ?_)
 refine⟨⟨by decide,by omega⟩,?_⟩
 refine Z0G ?_
 exact Z06.keep11A
theorem body27s(Γ:Env)(h30:Γ 30=some S30)(h73:Γ 73=some S73)(F:List Fl)(Lv U:List Int)(N:Nat)(R:List Wr)(nm to:List UInt8)(n len:Int)(r:List UInt8)(hi:inv N ⟨F,Lv,U,R⟩)(hN0:0<N)(hN:N≤1024)(hnm:nm.length≤1048576)(hto:to.length≤1048576)(hr:r.length≤1048576) :
  Z08 Tryz.prog Γ Tryz.f27 [.ref 0 0 0,.agg [.int .i64 7,.str nm,.str to,.int .i64 n,.int .i64 len,.str r]] (bK F Lv U (sOf N R) (wOf N R) N R) (.bool true) (bK F Lv U (sOf N R) (wOf N R) N R):=by
 obtain⟨i1,i2,i3,i4,i5,i6,i7⟩:=id hi
 replace i1:srt F:=i1
 replace i2:F.length≤200:=i2
 replace i3:∀f∈F,Z1p f∧f.se.length≤251:=i3
 replace i4:Lv.length≤7:=i4
 replace i5:U.length=N:=i5
 replace i6:R.length≤4096:=i6
 have k3:∀f∈F,Z1p f∧f.se.length≤1000000:=fun f hf=>⟨(i3 f hf).1,by have:=(i3 f hf).2; omega⟩
 have hS:=Z0r N R
 have hW:=Z0F N R
 have ⟨p30,r30,g30⟩:=ks30 F Lv U (sOf N R) (wOf N R) nm
 have ⟨p73,r73,g73⟩:=ks73 F Lv U N R nm
 have e:∃a b c,fdE F nm=.agg [.str a,.int .i64 b,.int .i64 c]:=by unfold fdE; split <;> exact⟨_,_,_,rfl⟩
 obtain⟨a,b,c,e⟩:=e
 rw [e] at r30 r73
 generalize fdC F nm=cd at *
 generalize sOf N R=S at *
 generalize wOf N R=W at *
 unfold bK Z0z Z0y at *
 refine stt 164 [.tmp 4] fun X hP hΓ hL hfin=>?_; refine Z0G ?_
 refine Z02.dE (Z1s [.fix (.row [.ref 1 0 0,.ref 2 0 0,.ref 3 0 0,.ref 4 0 0] 4 0),.any,.any,.any,.any,.any,.any,.any,.any,.any,.any,.fix (.row [.int .i64 7,.str nm,.str to,.int .i64 n,.int .i64 len,.str r] 6 0)]) [6,11] [10] [6] false (gyq (cj4 h30 p30 r30 g30) ?_)
 refine⟨⟨by decide,by omega,i1⟩,⟨by decide,by omega,i1⟩,?_⟩
 refine Z02.peel ?_
 refine Z02.dE (Z1s [.fix (.row [.ref 1 0 0,.ref 2 0 0,.ref 3 0 0,.ref 4 0 0] 4 0),.any,.any,.any,.any,.any,.any,.any,.any,.any,.any,.fix (.row [.int .i64 7,.str nm,.str to,.int .i64 n,.int .i64 len,.str r] 6 0)]) [6,11] [10] [6] false (gyq (cj4 h73 p73 r73 g73) ?_)
 refine⟨⟨by decide,by omega⟩,⟨by decide,by omega⟩,?_⟩
 refine Z0G ?_
 exact Z06.keep11A
theorem body27o(Γ:Env)(h74:Γ 74=some S74)(F:List Fl)(Lv U:List Int)(N:Nat)(R:List Wr)(nm to:List UInt8)(n len:Int)(r:List UInt8)(hi:inv N ⟨F,Lv,U,R⟩)(hN0:0<N)(hN:N≤1024)(hnm:nm.length≤1048576)(hto:to.length≤1048576)(hr:r.length≤1048576) :
  Z08 Tryz.prog Γ Tryz.f27 [.ref 0 0 0,.agg [.int .i64 8,.str nm,.str to,.int .i64 n,.int .i64 len,.str r]] (bK F Lv U (sOf N R) (wOf N R) N R) (.bool true) (opZ F Lv U N R):=by
 obtain⟨i1,i2,i3,i4,i5,i6,i7⟩:=id hi
 replace i1:srt F:=i1
 replace i2:F.length≤200:=i2
 replace i3:∀f∈F,Z1p f∧f.se.length≤251:=i3
 replace i4:Lv.length≤7:=i4
 replace i5:U.length=N:=i5
 replace i6:R.length≤4096:=i6
 have k3:∀f∈F,Z1p f∧f.se.length≤1000000:=fun f hf=>⟨(i3 f hf).1,by have:=(i3 f hf).2; omega⟩
 have hS:=Z0r N R
 have hW:=Z0F N R
 have ⟨p1,r1,g1⟩:=ks74 F Lv U N R
 unfold opZ at *
 by_cases c2:opC N R
 ·rw [if_pos c2] at g1 ⊢
  unfold bN at *
  generalize (opn (sOf N (opK N R))).1=d at *
  obtain⟨F2,Lv2,U2⟩:=d
  dsimp only at *
  generalize sOf N (opK N R)=S2 at *
  generalize wOf N (opK N R)=W2 at *
  generalize sOf N R=S at *
  generalize wOf N R=W at *
  unfold bO at *
  unfold bK at *
  refine stt 164 [.tmp 4] fun X hP hΓ hL hfin=>?_; refine gxq (cj4 h74 p1 r1 g1) ?_
  refine⟨⟨by decide,i6,hN,hN0⟩,?_⟩
  exact Z0q.base [0,1,2,3,4,5,6,7,8,9,10,12,13,14,15,16] ⟨sml,smr,(by decide),(by first | rfl | decide),sm,sm⟩ smd
 ·rw [if_neg c2] at g1 ⊢
  generalize sOf N R=S at *
  generalize wOf N R=W at *
  unfold bK at *
  refine stt 164 [.tmp 4] fun X hP hΓ hL hfin=>?_; refine gxq (cj4 h74 p1 r1 g1) ?_
  refine⟨⟨by decide,i6,hN,hN0⟩,?_⟩
  exact Z06.keep11A
theorem body27z(Γ:Env)(kd:Int)(d1:decide (kd=1)=false)(d2:decide (kd=2)=false)(d3:decide (kd=3)=false)(d4:decide (kd=4)=false)(d5:decide (kd=5)=false)(d6:decide (kd=6)=false)(d7:decide (kd=7)=false)(d8:decide (kd=8)=false)(d9:decide (kd=9)=false)(F:List Fl)(Lv U:List Int)(N:Nat)(R:List Wr)(nm to:List UInt8)(n len:Int)(r:List UInt8)(hi:inv N ⟨F,Lv,U,R⟩)(hN0:0<N)(hN:N≤1024)(hnm:nm.length≤1048576)(hto:to.length≤1048576)(hr:r.length≤1048576) :
  Z08 Tryz.prog Γ Tryz.f27 [.ref 0 0 0,.agg [.int .i64 kd,.str nm,.str to,.int .i64 n,.int .i64 len,.str r]] (bK F Lv U (sOf N R) (wOf N R) N R) (.bool true) (bK F Lv U (sOf N R) (wOf N R) N R):=by
 generalize sOf N R=S at *
 generalize wOf N R=W at *
 unfold bK at *
 refine stt 164 [.tmp 4] fun X hP hΓ hL hfin=>?_; refine gxq (cj9 d1 d2 d3 d4 d5 d6 d7 d8 d9) ?_
 exact Z06.keep11A
structure Stp where
 kd:Int
 nm:List UInt8
 to:List UInt8
 n:Int
 len:Int
 r:List UInt8
 deriving Inhabited
def stC(s:Stp):List AV:=[.int .i64 s.kd,.str s.nm,.str s.to,.int .i64 s.n,.int .i64 s.len,.str s.r]
instance:Z22 stC 6:=⟨fun _=>rfl⟩
instance:Z1U stC:=⟨fun x=>by simp only [stC,Z1G,Z0s,Bool.and_self],fun x=>rfl⟩
def ZiL:Sh:=.st [.int .i64,.str,.str,.int .i64,.int .i64,.str]
theorem Zhr{v:Dv}(h:Dv.has ZiL v):∃s:Stp,v.av=.agg (stC s)∧Dv.cells v=stC s∧s.nm.length≤v.vb∧s.to.length≤v.vb∧s.r.length≤v.vb:=by
 obtain⟨vs,rfl,hv⟩:=Zif h
 obtain⟨x1,vs,rfl,h1,hv⟩:=Z2h hv
 obtain⟨x2,vs,rfl,h2,hv⟩:=Z2h hv
 obtain⟨x3,vs,rfl,h3,hv⟩:=Z2h hv
 obtain⟨x4,vs,rfl,h4,hv⟩:=Z2h hv
 obtain⟨x5,vs,rfl,h5,hv⟩:=Z2h hv
 obtain⟨x6,vs,rfl,h6,hv⟩:=Z2h hv
 obtain rfl:=Zb1 hv
 obtain⟨kd,rfl,_,_⟩:=Z7Z h1
 obtain⟨nm,rfl,_⟩:=Z9Y h2
 obtain⟨to,rfl,_⟩:=Z9Y h3
 obtain⟨n,rfl,_,_⟩:=Z7Z h4
 obtain⟨len,rfl,_,_⟩:=Z7Z h5
 obtain⟨r,rfl,_⟩:=Z9Y h6
 refine⟨⟨kd,nm,to,n,len,r⟩,rfl,rfl,?_,?_,?_⟩ <;> simp only [Dv.vb,Dv.vbL] <;> omega
theorem Ze4{v:Dv}(h:Dv.has (.sl ZiL) v):∃l:List Stp,v.av=.sl (l.flatMap stC) l.length∧l.length≤v.vb∧∀s∈l,s.nm.length≤v.vb∧s.to.length≤v.vb∧s.r.length≤v.vb:=by
 obtain⟨es,rfl,hl,he⟩:=ZlG h
 have key:∀es:List Dv,(∀e∈es,Dv.has ZiL e)→∃l:List Stp,Dv.cellsL es=l.flatMap stC∧es.length=l.length∧l.length≤Dv.vbL es∧∀s∈l,s.nm.length≤Dv.vbL es∧s.to.length≤Dv.vbL es∧s.r.length≤Dv.vbL es:=by
  intro es
  induction es with
  | nil=>intro _; exact⟨[],rfl,rfl,Nat.zero_le _,by simp⟩
  | cons e es ih=>
   intro he
   obtain⟨l,h1,h2,h3,h4⟩:=ih fun x hx=>he x (by simp [hx])
   obtain⟨s,k1,k2,k3,k4,k5⟩:=Zhr (he e (by simp))
   have hvb:1≤e.vb:=by
    obtain⟨vs,rfl,_⟩:=Zif (he e (by simp))
    simp only [Dv.vb]; omega
   refine⟨s::l,by simp only [Dv.cellsL,h1,k2,List.flatMap_cons],by simp [h2],?_,fun x hx=>?_⟩
   ·simp only [Dv.vbL,List.length_cons]; omega
   ·simp only [Dv.vbL]
    rcases List.mem_cons.1 hx with rfl | hx
    ·omega
    ·have:=h4 x hx; omega
 obtain⟨l,h1,h2,h3,h4⟩:=key es he
 refine⟨l,?_,?_,fun s hs=>?_⟩
 ·simp only [Dv.av,Dv.cells,List.getD_cons_zero,h1,h2]
 ·simp only [Dv.vb]; omega
 ·simp only [Dv.vb]; have:=h4 s hs; omega
def opT(N:Nat)(s:St)(R:List Wr):St:=if opC N R then opS N (opK N R) else ⟨s.F,s.Lv,s.U,R⟩
def stepS(N:Nat)(s:St)(t:Stp):St:=
 if t.kd=1 then fileS N s t.nm t.len else if t.kd=2 then insS N s t.nm t.n t.len else if t.kd=3 then delS N s t.nm else if t.kd=4 then renS N s t.nm t.to
 else if t.kd=5 then ⟨s.F,s.Lv,tkU s.U,s.R⟩ else if t.kd=6 then ⟨s.F,s.Lv,tRes s.U 2 0 [t.n],s.R⟩ else if t.kd=8 then opT N s s.R
 else if t.kd=9 then (if 0≤t.n∧t.n<N then opT N s (rawR N s.R t.n t.len t.r) else s) else s
def Zll(N:Nat)(s:St)(t:Stp):Prop:=(t.kd=1∧fiC N s t.nm t.len)∨(t.kd=2∧inR s.F s.U (sOf N s.R) (wOf N s.R) t.nm t.n t.len=0)∨(t.kd=3∧delR s.F s.U s.R t.nm=0)∨(t.kd=4∧renR s.F s.U s.R t.nm t.to=0)
def Zlk(N:Nat)(s:St)(t:Stp):Prop:=(t.kd=8∧opC N s.R)∨(t.kd=9∧(0≤t.n∧t.n<N)∧opC N (rawR N s.R t.n t.len t.r))
instance (N:Nat) (s:St) (t:Stp):Decidable (Zll N s t):=by unfold Zll; infer_instance
instance (N:Nat) (s:St) (t:Stp):Decidable (Zlk N s t):=by unfold Zlk; infer_instance
def rubL(s:St)(t:Stp):List Int:=if t.kd=3 then s.Lv++delG s.F t.nm else if t.kd=4 then s.Lv++[] else s.Lv++inG s.F t.nm
def bOH(N:Nat)(s s':St):Z01:=bO s.F s.Lv s.U s'.F s'.Lv s'.U (sOf N s'.R) (wOf N s'.R) N s'.R
def ZfC(N:Nat)(s:St)(t:Stp):Z01:=if Zll N s t then bIH N (stepS N s t) (rubL s t) (s.Lv.length+1) else if Zlk N s t then bOH N s (stepS N s t) else bH N (stepS N s t)
theorem ZiJ{N:Nat}{s:St}(hi:inv N s):inv N ⟨s.F,s.Lv,tkU s.U,s.R⟩:=by
 obtain⟨i1,i2,i3,i4,i5,i6,i7⟩:=hi
 refine⟨i1,i2,i3,i4,by rw [Z3N]; exact i5,i6,?_⟩
 by_cases c:(0:Int)∈s.U
 ·obtain⟨a,ha,hal,hag⟩:=Z2x c
  obtain⟨m,d⟩:=Z0p.1 i7
  have o:=(Z0p.1 (ZhN hal hag)).1
  show tOk (tkU s.U) 1 (s.Lv++seL s.F)
  rw [Zce ha]
  have e:s.U.set a 2=tSet s.U 2 [(a:Int)]:=by show _=s.U.set ((a:Int)).toNat 2; rw [Int.toNat_natCast]
  rw [e]
  exact Z0p.2 ⟨Z1x m (Z1i m o (by decide)) (Z1I o),d⟩
 ·have:tkU s.U=s.U:=by unfold tkU; rw [if_pos]; unfold Z2e; rw [if_neg c]; decide
  rw [this]; exact i7
theorem Zga{N:Nat}{s:St}{n:Int}(hi:inv N s):inv N ⟨s.F,s.Lv,tRes s.U 2 0 [n],s.R⟩:=by
 obtain⟨i1,i2,i3,i4,i5,i6,i7⟩:=hi
 refine⟨i1,i2,i3,i4,by rw [Z2q]; exact i5,i6,?_⟩
 show tOk (tRes s.U 2 0 [n]) 1 (s.Lv++seL s.F)
 unfold tRes
 split
 ·rename_i h
  obtain⟨m,d⟩:=Z0p.1 i7
  have o:=(Z0p.1 h).1
  exact Z0p.2 ⟨Z1x m (Z1i m o (by decide)) (Z1I o),d⟩
 ·exact i7
theorem Zdx{N:Nat}{s:St}{R:List Wr}(hN0:0<N)(hR:R.length≤4096)(hi:inv N s):inv N (opT N s R):=by
 unfold opT
 split
 ·rename_i h
  unfold opK
  split
  ·rename_i h'; exact opn_inv hR h'
  ·rename_i h'
   exact opn_inv (Z2J _ _ _ _ hR) (Z4T (by omega) (h.resolve_left h'))
 ·obtain⟨i1,i2,i3,i4,i5,i6,i7⟩:=hi
  exact⟨i1,i2,i3,i4,i5,hR,i7⟩
theorem Zci{N:Nat}{s:St}{t:Stp}(hN0:0<N)(hN:N≤1024)(hi:inv N s):inv N (stepS N s t):=by
 have h6:s.R.length≤4096:=hi.2.2.2.2.2.1
 unfold stepS
 split
 ·exact Z8T (by omega) hi
 split
 ·exact (Z4W (by omega) hi).1
 split
 ·exact (Z88 hi).1
 split
 ·exact (Z7F hi).1
 split
 ·exact ZiJ hi
 split
 ·exact Zga hi
 split
 ·exact Zdx hN0 h6 hi
 split
 ·split
  ·exact Zdx hN0 (Z2J _ _ _ _ h6) hi
  ·exact hi
 ·exact hi
def k27:List Fl×List Int×List Int×Nat×List Wr×Int×List UInt8×List UInt8×Int×Int×List UInt8→Ct:=fun (F,Lv,U,N,R,kd,nm,to,n,len,r)=>⟨([.ref 0 0 0,.agg [.int .i64 kd,.str nm,.str to,.int .i64 n,.int .i64 len,.str r]],bK F Lv U (sOf N R) (wOf N R) N R),inv N ⟨F,Lv,U,R⟩∧0<N∧N≤1024∧nm.length≤1048576∧to.length≤1048576∧r.length≤1048576,.bool true,ZfC N ⟨F,Lv,U,R⟩ ⟨kd,nm,to,n,len,r⟩⟩
theorem inj27:∀a b,(k27 a).a=(k27 b).a→a=b:=by
 rintro⟨F,Lv,U,N,R,kd,nm,to,n,len,r⟩ ⟨F',Lv',U',N',R',kd',nm',to',n',len',r'⟩ h
 simp only [k27,Z0g,Z0h,Z0k,Z0j,UInt8.toNat_inj,Z09,Z0c,Z0x,Z0o,Z1g,Z19,Z1L,Z0z,Z0E,Z0P,Z0I,Z0y,Z2R,Z4n,bK,Int.reduceEq,Z0A,List.cons.injEq] at h
 simp_all only
noncomputable def S27:Z0n:=Z0W true k27
theorem ks27(F:List Fl)(Lv U:List Int)(N:Nat)(R:List Wr)(kd:Int)(nm to:List UInt8)(n len:Int)(r:List UInt8):KS k27 ([.ref 0 0 0,.agg [.int .i64 kd,.str nm,.str to,.int .i64 n,.int .i64 len,.str r]],bK F Lv U (sOf N R) (wOf N R) N R) (inv N ⟨F,Lv,U,R⟩∧0<N∧N≤1024∧nm.length≤1048576∧to.length≤1048576∧r.length≤1048576) (.bool true) (ZfC N ⟨F,Lv,U,R⟩ ⟨kd,nm,to,n,len,r⟩):=kat inj27 (F,Lv,U,N,R,kd,nm,to,n,len,r)
attribute [push_cast] S27 ks27
theorem body27(Γ:Env)(h67:Γ 67=some S67)(h75:Γ 75=some S75)(h34:Γ 34=some S34)(h68:Γ 68=some S68)(h35:Γ 35=some S35)(h69:Γ 69=some S69)(h36:Γ 36=some S36)(h70:Γ 70=some S70)(h33:Γ 33=some S33)(h71:Γ 71=some S71)(h32:Γ 32=some S32)(h72:Γ 72=some S72)(h30:Γ 30=some S30)(h73:Γ 73=some S73)(h74:Γ 74=some S74)(F:List Fl)(Lv U:List Int)(N:Nat)(R:List Wr)(kd:Int)(nm to:List UInt8)(n len:Int)(r:List UInt8)(hi:inv N ⟨F,Lv,U,R⟩)(hN0:0<N)(hN:N≤1024)(hnm:nm.length≤1048576)(hto:to.length≤1048576)(hr:r.length≤1048576) :
  Z08 Tryz.prog Γ Tryz.f27 [.ref 0 0 0,.agg [.int .i64 kd,.str nm,.str to,.int .i64 n,.int .i64 len,.str r]] (bK F Lv U (sOf N R) (wOf N R) N R) (.bool true) (ZfC N ⟨F,Lv,U,R⟩ ⟨kd,nm,to,n,len,r⟩):=by
 unfold ZfC Zll Zlk stepS rubL
 dsimp only
 by_cases d1:kd=1
 ·subst d1
  simp only [Int.reduceEq,true_and,false_and,false_or,or_false,if_true,if_false,reduceCtorEq]
  have:=body27f Γ h67 F Lv U N R nm to n len r hi hN0 hN hnm
  unfold Z84 at this
  exact this
 by_cases d2:kd=2
 ·subst d2
  simp only [Int.reduceEq,true_and,false_and,false_or,or_false,if_true,if_false,reduceCtorEq]
  have:=body27i Γ h34 h68 F Lv U N R nm to n len r hi hN0 hN hnm hto hr
  by_cases c:inR F U (sOf N R) (wOf N R) nm n len=0
  ·rw [if_pos c] at this ⊢
   exact this
  ·rw [if_neg c] at this ⊢
   have e:insS N ⟨F,Lv,U,R⟩ nm n len=⟨F,Lv,U,R⟩:=by unfold insS; rw [if_neg c]
   rw [e]
   exact this
 by_cases d3:kd=3
 ·subst d3
  simp only [Int.reduceEq,true_and,false_and,false_or,or_false,if_true,if_false,reduceCtorEq]
  have:=body27d Γ h35 h69 F Lv U N R nm to n len r hi hN0 hN hnm hto hr
  by_cases c:delR F U R nm=0
  ·rw [if_pos c] at this ⊢
   exact this
  ·rw [if_neg c] at this ⊢
   have e:delS N ⟨F,Lv,U,R⟩ nm=⟨F,Lv,U,R⟩:=by unfold delS; rw [if_neg c]
   rw [e]
   exact this
 by_cases d4:kd=4
 ·subst d4
  simp only [Int.reduceEq,true_and,false_and,false_or,or_false,if_true,if_false,reduceCtorEq]
  have:=body27n Γ h36 h70 F Lv U N R nm to n len r hi hN0 hN hnm hto hr
  by_cases c:renR F U R nm to=0
  ·rw [if_pos c] at this ⊢
   exact this
  ·rw [if_neg c] at this ⊢
   have e:renS N ⟨F,Lv,U,R⟩ nm to=⟨F,Lv,U,R⟩:=by unfold renS; rw [if_neg c]
   rw [e]
   exact this
 by_cases d5:kd=5
 ·subst d5
  simp only [Int.reduceEq,true_and,false_and,false_or,or_false,if_true,if_false,reduceCtorEq]
  exact body27t Γ h33 h71 F Lv U N R nm to n len r hi hN0 hN hnm hto hr
 by_cases d6:kd=6
 ·subst d6
  simp only [Int.reduceEq,true_and,false_and,false_or,or_false,if_true,if_false,reduceCtorEq]
  exact body27g Γ h32 h72 F Lv U N R nm to n len r hi hN0 hN hnm hto hr
 by_cases d7:kd=7
 ·subst d7
  simp only [Int.reduceEq,true_and,false_and,false_or,or_false,if_true,if_false,reduceCtorEq]
  exact body27s Γ h30 h73 F Lv U N R nm to n len r hi hN0 hN hnm hto hr
 by_cases d8:kd=8
 ·subst d8
  simp only [Int.reduceEq,true_and,false_and,false_or,or_false,if_true,if_false,reduceCtorEq]
  have:=body27o Γ h74 F Lv U N R nm to n len r hi hN0 hN hnm hto hr
  unfold opZ at this
  unfold opT
  by_cases c:opC N R
  ·rw [if_pos c] at this
   simp only [if_pos c]
   exact this
  ·rw [if_neg c] at this
   simp only [if_neg c]
   exact this
 by_cases d9:kd=9
 ·subst d9
  simp only [Int.reduceEq,true_and,false_and,false_or,or_false,if_true,if_false,reduceCtorEq]
  have:=body27r Γ h75 F Lv U N R nm to n len r hi hN0 hN hr
  unfold Zj0 opZ at this
  unfold opT
  by_cases c0:0≤n∧n<N
  ·rw [if_pos c0] at this
   simp only [if_pos c0]
   by_cases c:opC N (rawR N R n len r)
   ·rw [if_pos c] at this
    simp only [if_pos c,if_pos (And.intro c0 c)]
    exact this
   ·rw [if_neg c] at this
    simp only [if_neg c,if_neg (fun h:(0≤n∧n<(N:Int))∧opC N (rawR N R n len r)=>c h.2)]
    exact this
  ·rw [if_neg c0] at this
   simp only [if_neg c0,if_neg (fun h:(0≤n∧n<(N:Int))∧opC N (rawR N R n len r)=>c0 h.1)]
   exact this
 simp only [d1,d2,d3,d4,d5,d6,d7,d8,d9,false_and,false_or,or_false,if_false]
 exact body27z Γ kd (decide_eq_false d1) (decide_eq_false d2) (decide_eq_false d3) (decide_eq_false d4) (decide_eq_false d5) (decide_eq_false d6) (decide_eq_false d7) (decide_eq_false d8) (decide_eq_false d9) F Lv U N R nm to n len r hi hN0 hN hnm hto hr
theorem con27{Γ:Env}(h:Z07 Tryz.prog Γ)(h67:Γ 67=some S67)(h75:Γ 75=some S75)(h34:Γ 34=some S34)(h68:Γ 68=some S68)(h35:Γ 35=some S35)(h69:Γ 69=some S69)(h36:Γ 36=some S36)(h70:Γ 70=some S70)(h33:Γ 33=some S33)(h71:Γ 71=some S71)(h32:Γ 32=some S32)(h72:Γ 72=some S72)(h30:Γ 30=some S30)(h73:Γ 73=some S73)(h74:Γ 74=some S74):Con Tryz.prog 27 S27:=
 kcn h (fn:=Tryz.f27) inj27 fun ⟨F,Lv,U,N,R,kd,nm,to,n,len,r⟩ ⟨h1,h2,h3,h4,h5,h6⟩=>body27 Γ h67 h75 h34 h68 h35 h69 h36 h70 h33 h71 h32 h72 h30 h73 h74 F Lv U N R kd nm to n len r h1 h2 h3 h4 h5 h6
end Go.Proofs.YtbnnhffkbcekcaaGreatDoor.dirDone
end
