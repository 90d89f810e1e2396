/- Parts of the walk through directories. Conditions stand in each. -/
import Derived.Test.YtbnnhffkbcekcaaGreatDoorGf
import Derived.Test.YtbnnhffkbcekcaaGreatDoorFg
set_option linter.unusedVariables false
set_option linter.unusedSimpArgs false
set_option maxRecDepth 100000
set_option maxHeartbeats 4000000
section
namespace Go.Proofs.YtbnnhffkbcekcaaGreatDoor.dirDone
open Go Go.Eng Go.Proofs Go.Lib
def k83:List Fl→Ct:=fun F=>⟨([.sl (F.flatMap flC) F.length],[]),F.length≤4194304,.msl 0 0 0 F.length,[.row (F.flatMap flC) 4 0]⟩
theorem inj83:∀a b,(k83 a).a=(k83 b).a→a=b:=by
 rintro F F' h
 simp only [k83,Z0g,Z0h,Z0k,Z0j,UInt8.toNat_inj,Z09,Z0c,Z0x,Z0o,Z1g,Z19,Z1L,Z0z,Z0A,List.cons.injEq] at h
 simp_all only
noncomputable def S83:Z0n:=Z0W true k83
theorem ks83(F:List Fl):KS k83 ([.sl (F.flatMap flC) F.length],[]) (F.length≤4194304) (.msl 0 0 0 F.length) ([.row (F.flatMap flC) 4 0]):=kat inj83 F
attribute [push_cast] S83 ks83
theorem body83(Γ:Env)(F:List Fl)(hF:F.length≤4194304):Z08 Tryz.prog Γ Tryz.f83 [.sl (F.flatMap flC) F.length] [] (.msl 0 0 0 F.length) [.row (F.flatMap flC) 4 0]:=by
 refine stt 8 [.tmp 2] fun X hP hΓ hL hfin=>?_; refine Z0G ?_
 refine⟨fun h=>?_,by omega,?_⟩
 ·cases F with
  | cons f F=>simp [flC] at h
  | nil=>
   simp only [List.flatMap_nil,List.length_nil]
   refine Z0q.nil 0  4 rfl (gsq ?_)
   exact Z06.sameA
 ·refine Z0q.ver 0  0 sm smv (gsq ?_)
  exact Z06.sameA
theorem con83{Γ:Env}(h:Z07 Tryz.prog Γ):Con Tryz.prog 83 S83:=
 kcn h (fn:=Tryz.f83) inj83 fun F h=>body83 Γ F h
def insF(F:List Fl)(i:Nat)(x:Fl):List Fl:=F.take i++x::F.drop i
theorem Z7S(F:List Fl)(i:Nat)(x:Fl)(h:i≤F.length):(insF F i x).length=F.length+1:=by
 unfold insF; rw [List.length_append,List.length_take,List.length_cons,List.length_drop]; omega
theorem Z8N(F:List Fl)(i:Nat)(x:Fl):(insF F i x).flatMap flC=(F.flatMap flC).take (i*4)++flC x++(F.flatMap flC).drop (i*4):=by
 unfold insF; rw [List.flatMap_append,List.flatMap_cons,Z1W,Z1d,List.append_assoc]
theorem Zhl{C x R Z Z1:List AV}{n i a b c:Nat}(hC:C.length=n*4)(hx:x.length=4)(hi:i<n)(hZ:C.take (i*4)++R=Z)(hz:Z.length=(n+1)*4)(hZ1:Z.take (i*4)++x.take 4++Z.drop (i*4+4)=Z1)(hz1:Z1.length=(n+1)*4)
  (ha:a=(n - i)*4) (hb:(n - i)*4≤b) (hc:(n+1)*4≤c):Z1.take ((i+1)*4)++List.take a (List.take b (List.drop (i*4) C))++Z1.drop c=C.take (i*4)++x++C.drop (i*4):=by
 have e1:Z.take (i*4)=C.take (i*4):=by rw [←hZ,List.take_append_of_le_length (by rw [List.length_take]; omega),List.take_take,Nat.min_self]
 have e2:Z1.take ((i+1)*4)=C.take (i*4)++x:=by
  rw [←hZ1,e1,List.take_of_length_le (l:=x) (by omega),List.take_append_of_le_length (by rw [List.length_append,List.length_take]; omega),List.take_of_length_le (by rw [List.length_append,List.length_take]; omega)]
 rw [e2,List.drop_of_length_le (i:=c) (l:=Z1) (by omega),List.append_nil,List.take_of_length_le (l:=List.drop (i*4) C) (i:=b) (by rw [List.length_drop]; omega),List.take_of_length_le (l:=List.drop (i*4) C) (i:=a) (by rw [List.length_drop]; omega)]
theorem Zhk{C x R Z Z2:List AV}{n i a b c d:Nat}(hC:C.length=n*4)(hx:x.length=4)(hi:i<n)(hR:R.length=4)(hZ:C++R=Z)(hZ2:Z.take ((i+1)*4)++List.take a (List.take b (Z.drop (i*4)))++Z.drop c=Z2)
  (ha:a=(n - i)*4) (hb:(n - i)*4≤b) (hc:(n+1)*4≤c) (hd:d=i*4+4):Z2.take (i*4)++x.take 4++Z2.drop d=C.take (i*4)++x++C.drop (i*4):=by
 have hz:Z.length=(n+1)*4:=by rw [←hZ,List.length_append]; omega
 have e1:Z.take (i*4)=C.take (i*4):=by rw [←hZ,List.take_append_of_le_length (by omega)]
 have e2:List.take a (List.take b (Z.drop (i*4)))=C.drop (i*4):=by
  rw [List.take_take,Nat.min_eq_left (by omega),←hZ,List.drop_append_of_le_length (by omega),List.take_append_of_le_length (by rw [List.length_drop]; omega),List.take_of_length_le (by rw [List.length_drop]; omega)]
 rw [e2,List.drop_of_length_le (i:=c) (l:=Z) (by omega),List.append_nil] at hZ2
 rw [←hZ2,hd,List.take_append_of_le_length (by rw [List.length_take]; omega),List.take_take,Nat.min_eq_left (by omega),e1,List.take_of_length_le (l:=x) (by omega),List.drop_append,List.drop_of_length_le (i:=i*4+4) (l:=Z.take ((i+1)*4)) (by rw [List.length_take]; omega),List.nil_append,List.length_take]
 rw [show i*4+4 - min ((i+1)*4) Z.length=0 by omega,List.drop_zero]
theorem body84(Γ:Env)(F:List Fl)(v i:Nat)(x:Fl)(hF:F.length≤1000000)(hi:i≤F.length):Z08 Tryz.prog Γ Tryz.f84 [.msl 0 v 0 F.length,.int .i64 i,.msl 1 0 0 1] [.row (F.flatMap flC) 4 v,.row (flC x) 4 0]
  (.msl 0 (v+1) 0 (F.length+1)) [.row ((insF F i x).flatMap flC) 4 (v+1),.row (flC x) 4 0]:=by
 have w1:IntKind.i64.wrap ((F.length:Int)+1)=((F.length:Int)+1):=wrq
 by_cases he:i=F.length
 ·subst he
  have e1:(insF F F.length x).flatMap flC=F.flatMap flC++flC x:=by
   unfold insF
   rw [List.take_length,List.drop_length,List.flatMap_append,List.flatMap_singleton]
  have d0:decide ((F.length:Int)=(F.length:Int))=true:=decide_eq_true rfl
  rw [e1]
  refine stt 95 [.tmp 6] fun X hP hΓ hL hfin=>?_; refine gxq d0 ?_
  refine⟨⟨Int.le_refl _,Nat.le_refl _⟩,by omega,?_⟩
  exact Z06.sameA
 obtain⟨q,hq⟩:∃q,q=F.length+1 - i:=⟨_,rfl⟩
 have w2:IntKind.i64.wrap ((F.length:Int)+1 - (i:Int))=(q:Int):=by
  rw [show (F.length:Int)+1 - (i:Int)=(q:Int) by omega]; exact Z0t _ (by constructor <;> omega)
 have w3:IntKind.i64.wrap ((i:Int)+1)=((i:Int)+1):=wrq
 have d0:decide ((i:Int)=(F.length:Int))=false:=decide_eq_false (by omega)
 refine stt 95 [.tmp 6] fun X hP hΓ hL hfin=>?_; refine gmq 20 (cj3 d0 @Int.zero_add w1) ?_
 refine⟨⟨by omega,Nat.le_refl _⟩,?_⟩
 refine Z02.reg ?_
 refine Z04.ev 4 (gzq (cj2 @Int.zero_add w1) ?_)
 refine Z04.op rfl (Zj2 rfl (by rw [hP]; exact Tryz.underlying96) rfl rfl (by rw [hL]; rfl)) (fun vv L' h=>?_)
 obtain⟨rfl,rfl,hnc⟩:=h
 obtain⟨c,hc⟩:∃c,c=X.B.m.cap 0:=⟨_,rfl⟩
 rw [←hc] at hnc ⊢
 simp only [Z1R,List.set_cons_succ,List.set_cons_zero]
 refine Z04.ev 1 (gzq w1 ?_)
 refine Z04.nil ?_
 by_cases hcap:c<F.length+1
 ·have g0:decide ((c:Int)<(F.length:Int)+1)=true:=decide_eq_true (by omega)
  simp only [g0]
  refine gnq 2 (cj2 g0 @Int.zero_add) ?_
  refine Z02.reg ?_
  refine Z04.ev 8 (gzq (cj2 w1 w2) ?_)
  refine⟨by omega,?_⟩
  refine Z04.op rfl (ZgU rfl (by rw [hP]; exact Tryz.underlying96) (by rw [hP]; exact Tryz.underlying3) smp smp rfl rfl rfl (by rw [hL]; rfl) smp (by omega) (by rw [hP,show Tryz.prog.bytesOf 134=56 by kernel_rfl]; omega)) (fun vv L' h=>?_)
  obtain⟨rfl,rfl⟩:=h
  simp only [Z1R,List.set_cons_succ,List.set_cons_zero,Nat.sub_zero,hP,List.length_cons,List.length_nil]
  have q1:i+q=F.length+1:=by omega
  rw [q1]
  have hz:((F.flatMap flC).take (i*4)++reps q (zeroA Tryz.prog 134).cells).length=(F.length+1)*4:=by
   have:(zeroA Tryz.prog 134).cells.length=4:=by kernel_rfl
   rw [List.length_append,List.length_take,Z2d (n:=4),Z1N,this]; omega
  generalize hZ:(F.flatMap flC).take (i*4)++reps q (zeroA Tryz.prog 134).cells=Z at *
  refine Z04.ev 1 (gzq (cj2 w1 w2) ?_)
  refine Z04.nil ?_
  refine gnq 4 (cj2 w3 @Int.zero_add) ?_
  have hox:∀k,Z0b (List.take k (flC x))=true:=fun k=>by rcases k with _ | _ | _ | _ | k <;> first | rfl | (rw [flC]; simp [Z0b])
  refine⟨⟨by omega,by omega⟩,⟨hox _,by omega⟩,?_⟩
  have m1:min 1 (F.length+1 - i)=1:=by omega
  simp only [m1,Nat.one_mul,Nat.min_self]
  have hx4:(flC x).length=4:=rfl
  have hz1:(List.take (i*4) Z++List.take 4 (flC x)++List.drop (i*4+4) Z).length=(F.length+1)*4:=by
   rw [List.length_append,List.length_append,List.length_take,List.length_take,List.length_drop,hx4]; omega
  generalize hZ1:List.take (i*4) Z++List.take 4 (flC x)++List.drop (i*4+4) Z=Z1 at *
  refine Z02.dE (Z1s [.fix (.row (F.flatMap flC) 4 v),.any,.len ((F.length+1)*4) 4 0]) [0,1,2,3,4,5,6,7,8] [] [] true (gyq (cj2 w3 @Int.zero_add) ?_)
  have hone:∀k,Z0b (List.take (k*4) (List.take ((F.length - i)*4) (List.drop (i*4) (List.flatMap flC F))))=true:=fun k=>by rw [Z1d,Z1W,Z1W]; exact Z2L _
  refine⟨hz1,hz1,hz1,hz1,⟨by omega,by omega,by omega⟩,hz1,hz1,hz1,⟨by omega,Nat.le_refl _⟩,hz1,⟨hone _,by omega⟩,?_⟩
  rw [Zhl (Z2d (n:=4) F) hx4 (by omega) hZ hz hZ1 hz1 (by rw [Nat.min_eq_left (by omega)]) (Nat.le_refl _) (by rw [Nat.min_eq_left (by omega)]; omega),←Z8N]
  refine Z50 2 ?_
  refine Z02.weak (Z0q.ver 2 (v+1) rfl (by rw [hL]; exact .inr (Nat.le_refl _)) (Z0q.refl (_,_))) ?_
  simp only [push_cast]
  refine Z02.moved [2,1] 0 (fr':=(List.replicate 95 AV.any).set 6 (.msl 0 (v+1) 0 (F.length+1))) (L':=[.row ((insF F i x).flatMap flC) 4 (v+1),.row (flC x) 4 0]) (by simp only [push_cast,reduceCtorEq,Nat.reduceAdd,Nat.reduceMul,Nat.reduceSub,Nat.reduceBEq,Nat.reduceGT,Nat.reduceLT,Int.toNat_zero,Nat.reduceLeDiff,Int.reduceEq,Int.reduceLT,Int.reduceLE,leF,List.replicate]; done) (by simp only [push_cast,reduceCtorEq,Nat.reduceAdd,Nat.reduceMul,Nat.reduceSub,Nat.reduceBEq,Nat.reduceGT,Nat.reduceLT,Int.toNat_zero,Nat.reduceLeDiff,Int.reduceEq,Int.reduceLT,Int.reduceLE,leF,Z1m]; done) (by decide) (by rw [hL]; rintro (_ | _ | j) h1 h2 <;> first | rfl | (exact absurd rfl h2) | (simp at h1)) (by rw [hL]; exact Nat.le_refl _) (by simp only [push_cast,reduceCtorEq,Nat.reduceAdd,Nat.reduceMul,Nat.reduceSub,Nat.reduceBEq,Nat.reduceGT,Nat.reduceLT,Int.toNat_zero,Nat.reduceLeDiff,Int.reduceEq,Int.reduceLT,Int.reduceLE,List.replicate]; done) (by simp only [push_cast,reduceCtorEq,Nat.reduceAdd,Nat.reduceMul,Nat.reduceSub,Nat.reduceBEq,Nat.reduceGT,Nat.reduceLT,Int.toNat_zero,Nat.reduceLeDiff,Int.reduceEq,Int.reduceLT,Int.reduceLE]; done) (by rw [hL]; exact Nat.le_refl _) (by rw [hL]; rfl) rfl (Nat.lt_succ_self _) (by decide) ?_
  simp only [List.replicate,List.set_cons_succ,List.set_cons_zero]
  refine Z0G ?_
  exact Z06.sameA
 ·have g0:decide ((c:Int)<(F.length:Int)+1)=false:=decide_eq_false (by omega)
  refine gnq 3 (cj2 g0 @Int.zero_add) ?_
  refine Z02.reg ?_
  refine Z04.ev 4 (gzq (cj2 w1 w2) ?_)
  refine Z04.op rfl (ZgS (j:=F.length+1) rfl (by rw [hP]; exact Tryz.underlying96) (by rw [hP]; rfl) rfl rfl rfl (by rw [hL]; rfl) smp (by decide) (Z2d (n:=4) F) (by omega) (by omega) (by omega)) (fun vv L' h=>?_)
  obtain⟨rfl,rfl⟩:=h
  simp only [Z1R,List.set_cons_succ,List.set_cons_zero]
  have e4:(F.length+1 - F.length)*4=4:=by omega
  rw [e4]
  obtain⟨Z,hZ⟩:∃Z,F.flatMap flC++List.replicate 4 AV.any=Z:=⟨_,rfl⟩
  have hz:Z.length=(F.length+1)*4:=by rw [←hZ,List.length_append,Z2d (n:=4),List.length_replicate]; omega
  rw [hZ]
  refine Z04.ev 1 (gzq (cj2 w1 w2) ?_)
  refine Z04.nil ?_
  refine gnq 2 @Int.zero_add ?_
  refine Z02.reg ?_
  refine Z04.ev 6 (gzq (cj2 w3 @Int.zero_add) ?_)
  refine⟨⟨by omega,by omega,by omega⟩,?_⟩
  refine Z04.op rfl (Zdt (tS:=96) (tR:=4) rfl (fun args w=>by rw [hP]; exact run_callFunc_extern Tryz.func127 (by kernel_rfl) (by kernel_rfl) (by kernel_rfl) (e:=Extern.SlicesOverlaps.overlaps #[96,96] #[4]) (by kernel_rfl) args w) (by rw [hP]; exact Tryz.underlying96) (by rw [hP]; rfl) rfl rfl rfl rfl (by decide) (by decide) (by decide) (by omega)) (fun vv L' h=>?_)
  obtain⟨rfl,rfl⟩:=h
  simp only [Z1R,List.set_cons_succ,List.set_cons_zero]
  refine Z04.ev 1 (gzq (cj2 w1 w2) ?_)
  refine Z04.nil ?_
  refine gnq 3 @Int.zero_add ?_
  refine Z02.dE (Z1s [.len ((F.length+1)*4) 4 (v+1),.any]) [0,1,2,3,4,5,6,7,8] [] [] true (gyq (cj2 w3 @Int.zero_add) ?_)
  have hx4:(flC x).length=4:=rfl
  have hox:∀k,Z0b (List.take k (flC x))=true:=fun k=>by rcases k with _ | _ | _ | _ | k <;> first | rfl | (rw [flC]; simp [Z0b])
  have hone:Z0b (List.take (min (F.length+1 - i) (F.length+1 - (i+1))*4) (List.take ((F.length+1 - i)*4) (List.drop (i*4) Z)))=true:=by
   rw [List.take_take,←hZ,List.drop_append_of_le_length (by rw [Z2d (n:=4)]; omega),List.take_append_of_le_length (by rw [List.length_drop,Z2d (n:=4)]; omega),Z1d,Nat.min_eq_left (by omega),Z1W]
   exact Z2L _
  refine⟨hz,hz,hz,hz,⟨by omega,by omega,by omega⟩,hz,hz,hz,⟨by omega,by omega⟩,hz,⟨hone,by omega⟩,?_⟩
  have m2:min (F.length+1 - i) (F.length+1 - (i+1))=F.length - i:=by omega
  simp only [m2]
  obtain⟨Z2,hZ2⟩:∃Z2,List.take ((i+1)*4) Z++List.take ((F.length - i)*4) (List.take ((F.length+1 - i)*4) (List.drop (i*4) Z))++List.drop ((i+1)*4+min ((F.length - i)*4) (min ((F.length+1 - i)*4) (Z.length - i*4))) Z=Z2:=⟨_,rfl⟩
  have hz2:Z2.length=(F.length+1)*4:=by
   rw [←hZ2]
   simp only [List.length_append,List.length_take,List.length_drop]
   omega
  rw [hZ2]
  refine gnq 3 @Int.zero_add ?_
  have m1:min 1 (F.length+1 - i)=1:=by omega
  refine⟨⟨by omega,by omega⟩,⟨hox _,by omega⟩,?_⟩
  simp only [m1,Nat.one_mul,Nat.min_self]
  rw [Zhk (Z2d (n:=4) F) hx4 (by omega) List.length_replicate hZ hZ2 rfl (Nat.mul_le_mul_right _ (by omega)) (by omega) rfl,←Z8N]
  refine Z0G ?_
  exact Z06.sameA
theorem Z0E{a b:Fl}:flC a=flC b↔a=b:=⟨fun h=>by
 have:[a].flatMap flC=[b].flatMap flC:=by rw [List.flatMap_singleton,List.flatMap_singleton,h]
 have:=Z0x.1 this
 simpa using this,fun h=>by rw [h]⟩
def e84:List Fl×Nat×Nat×(Fl)→List AV×Z01:=fun (F,v,i,x)=>([.msl 0 v 0 F.length,.int .i64 i,.msl 1 0 0 1],[.row (F.flatMap flC) 4 v,.row (flC x) 4 0])
def p84:List Fl×Nat×Nat×(Fl)→Prop:=fun (F,v,i,x)=>F.length≤1000000∧i≤F.length
def r84:List Fl×Nat×Nat×(Fl)→AV:=fun (F,v,i,x)=>.msl 0 (v+1) 0 (F.length+1)
def g84:List Fl×Nat×Nat×(Fl)→Z01:=fun (F,v,i,x)=>[.row ((insF F i x).flatMap flC) 4 (v+1),.row (flC x) 4 0]
theorem inj84:∀a b,e84 a=e84 b→a=b:=by
 rintro⟨F,v,i,x⟩ ⟨F',v',i',x'⟩ h
 simp only [e84,Z0g,Z0h,Z0k,Z0j,UInt8.toNat_inj,Z09,Z0c,Z0x,Z0o,Z1g,Z19,Z1L,Z0z,Z0E,Z0A,List.cons.injEq] at h
 simp_all only
noncomputable def S84:Z0n:=Z6L e84 p84 r84 g84
theorem ps84(F:List Fl)(v i:Nat)(x:Fl):Z1Y e84 p84 ([.msl 0 v 0 F.length,.int .i64 i,.msl 1 0 0 1],[.row (F.flatMap flC) 4 v,.row (flC x) 4 0])=(F.length≤1000000∧i≤F.length):=Z0J inj84 p84 (F,v,i,x)
theorem rs84(F:List Fl)(v i:Nat)(x:Fl):Z0U e84 r84 .any ([.msl 0 v 0 F.length,.int .i64 i,.msl 1 0 0 1],[.row (F.flatMap flC) 4 v,.row (flC x) 4 0])=(.msl 0 (v+1) 0 (F.length+1)):=Z0d inj84 r84 .any (F,v,i,x)
theorem hs84(F:List Fl)(v i:Nat)(x:Fl):Z0U e84 g84 [] ([.msl 0 v 0 F.length,.int .i64 i,.msl 1 0 0 1],[.row (F.flatMap flC) 4 v,.row (flC x) 4 0])=([.row ((insF F i x).flatMap flC) 4 (v+1),.row (flC x) 4 0]):=Z0d inj84 g84 [] (F,v,i,x)
attribute [push_cast] S84 ps84 rs84 hs84
theorem con84{Γ:Env}(h:Z07 Tryz.prog Γ):Con Tryz.prog 84 S84:=
 Z2f h (fn:=Tryz.f84) (by kernel_rfl) rfl (by kernel_rfl) inj84 fun ⟨F,v,i,x⟩ h=>body84 Γ F v i x h.1 h.2
def Z2K(S:List Sec)(h ln:Int):List Int:=hdL (secB S h) h (hdN ln)
def inF(F:List Fl)(nm:List UInt8)(x:Fl):List Fl:=if fiB F nm=true then F.set (fiN F nm) x else insF F (fiN F nm) x
def inL(F:List Fl)(S:List Sec)(nm:List UInt8)(h ln:Int):List Fl:=inF F nm ⟨nm,h,ln,Z2K S h ln⟩
def inG(F:List Fl)(nm:List UInt8):List Int:=if fiB F nm=true then (F.getD (fiN F nm) default).se else []
def inA(U:List Int)(S:List Sec)(h ln:Int):Prop:=Z6t S h ln∧tOk U 2 (Z2K S h ln)
instance (U:List Int) (S:List Sec) (h ln:Int):Decidable (inA U S h ln):=by unfold inA; infer_instance
def inR(F:List Fl)(U:List Int)(S:List Sec)(W:List Wr)(nm:List UInt8)(h ln:Int):Int:=
 if Z34 nm=true then (if inA U S h ln then (if (inL F S nm h ln).length≤200 then (if Z2l (inL F S nm h ln) W U then 0 else 174) else 173) else 2) else 171
def inU(F:List Fl)(Lv U:List Int)(S:List Sec)(W:List Wr)(nm:List UInt8)(h ln:Int):List Int:=tRes (lyU (inL F S nm h ln) Lv (inG F nm) S W U) 2 1 (Z2K S h ln)
def Zc2(L:List Fl)(Lv gone now U:List Int)(S:List Sec)(W:List Wr):Z01:=[.row [.ref 1 0 0,.sl (L.flatMap flC) L.length,.msl 6 now.length 0 now.length,.msl 3 0 0 U.length] 4 0,.row [.msl 4 0 0 S.length,.msl 5 W.length 0 W.length] 2 0,.row ((Lv++gone).map (AV.int .i64)) 1 (Lv.length+1),.row (U.map (AV.int .i64)) 1 0,.row (S.flatMap Z1T) 1024 0,.row (W.flatMap wrC) 1025 W.length,.row (now.map (AV.int .i64)) 1 now.length]
theorem Z9K(L:List Fl)(Lv gone:List Int)(S:List Sec)(W:List Wr)(U:List Int):(lyU L Lv gone S W U).length=U.length:=by
 unfold lyU
 split
 ·rename_i h
  rw [Z2q,Z2q]
  exact (Z2O L S W U _ h.1).2.2.1
 ·rfl
theorem Z9L(L:List Fl)(S:List Sec)(W:List Wr)(U:List Int):(lyS L S W U).length=S.length:=by
 unfold lyS
 split
 ·rename_i h
  rw [Z9d]
  exact (Z2O L S W U _ h.1).1
 ·rfl
theorem Z6i(L:List Fl)(S:List Sec)(W:List Wr)(U:List Int)(h:Z2l L W U):(lyE L S W U).now.length=lvN L.length:=(Z2O L S W U _ h.1).2.2.2.1
def inZ(F:List Fl)(Lv U:List Int)(S:List Sec)(W:List Wr)(nm:List UInt8)(h ln:Int):Z01:=
 if inR F U S W nm h ln=0 then Zc2 (inL F S nm h ln) Lv (inG F nm) (lyE (inL F S nm h ln) S W U).now (inU F Lv U S W nm h ln) (lyS (inL F S nm h ln) S W U) (lyW (inL F S nm h ln) S W U) else Z0z F Lv U S W
theorem body34(Γ:Env)(h56:Γ 56=some S56)(h77:Γ 77=some S77)(h78:Γ 78=some S78)(h80:Γ 80=some S80)(h81:Γ 81=some S81)(h82:Γ 82=some S82)(h83:Γ 83=some S83)(h84:Γ 84=some S84)(h85:Γ 85=some S85)(F:List Fl)(Lv U:List Int)(S:List Sec)(W:List Wr)(nm:List UInt8)(h ln:Int)
  (hF:F.length≤200) (hs:srt F) (ho:∀f∈F,Z1p f∧f.se.length≤1000000) (hLv:Lv.length≤1000) (hU:U.length≤1048576) (hS:S.length≤4096) (hW:W.length≤4096) (hn:nm.length≤1048576) :
  Z08 Tryz.prog Γ Tryz.f34 [.ref 0 0 0,.agg [.str nm,.int .i64 h,.int .i64 ln]] (Z0z F Lv U S W) (.int .i64 (inR F U S W nm h ln)) (inZ F Lv U S W nm h ln):=by
 have p56:nm.length≤9223372036854775807:=by omega
 unfold inZ inR
 by_cases c1:Z34 nm=true
 case neg=>
  have c1':Z34 nm=false:=by simpa using c1
  rw [if_neg c1]
  simp only [show ¬((171:Int)=0) by decide,if_false]
  unfold Z0z
  refine stt 87 [.tmp 4] fun X hP hΓ hL hfin=>?_; refine gxq (cj2 h56 c1') ?_
  refine⟨p56,?_⟩
  exact Z06.keep6A
 rw [if_pos c1]
 by_cases c2:Z6t S h ln
 case neg=>
  rw [if_neg (fun hc=>c2 hc.1)]
  simp only [show ¬((2:Int)=0) by decide,if_false]
  have a80:hdA S h ln=_:=if_neg c2
  have ⟨p80,r80,g80⟩:=ks80 S W h ln
  unfold Z0z Z0o at *
  refine stt 87 [.tmp 4] fun X hP hΓ hL hfin=>?_; refine gmq 16 (cj2 h56 c1) ?_
  refine⟨p56,?_⟩
  refine Z02.drawnK [] smp (by kernel_rfl) (gyq (cj6 h80 p80 r80 g80 a80 c2) ?_)
  refine⟨⟨by decide,by omega⟩,?_⟩
  refine Z50 2 ?_
  refine Z02.reg ?_
  refine Z04.ev 3 (Z1S ?_)
  refine Z04.skips 6 (Z1S ?_)
  refine Z04.ev 1 (Z1S ?_)
  refine Z04.nil ?_
  refine Z0G ?_
  exact Z06.keep6A
 have a80:hdA S h ln=_:=if_pos c2
 have hown:(hdL (secB S h) h (hdN ln)).length≤251:=by
  rw [hdL,List.length_cons,List.length_map,List.length_range]
  have:=c2.1.2.2.1
  unfold hdN
  omega
 have ⟨p80,r80,g80⟩:=ks80 S W h ln
 by_cases c3:tOk U 2 (Z2K S h ln)
 case neg=>
  rw [if_neg (fun hc=>c3 hc.2)]
  simp only [show ¬((2:Int)=0) by decide,if_false]
  have e3:¬(alK U 2 (Z2K S h ln) (Z2K S h ln).length=Z2K S h ln):=fun h=>c3 ((ZfS _ _ _).1 h)
  unfold Z2K at *
  have ⟨p82,r82,g82⟩:=ks82 F Lv U S W (hdL (secB S h) h (hdN ln)) 2
  unfold Z0z Z0o at *
  generalize hdL (secB S h) h (hdN ln)=own at *
  refine stt 87 [.tmp 4] fun X hP hΓ hL hfin=>?_; refine gmq 16 (cj2 h56 c1) ?_
  refine⟨p56,?_⟩
  refine Z02.drawnK [] smp (by kernel_rfl) (gyq (cj6 h80 p80 r80 g80 a80 c2) ?_)
  refine⟨⟨by decide,by omega⟩,?_⟩
  refine gxq (cj6 h82 p82 r82 g82 h81 e3) ?_
  refine⟨⟨by decide,by omega,by omega⟩,⟨by have:=Z8d U 2 own own.length; omega,by omega⟩,?_⟩
  exact Z06.keep6A
 have hA:inA U S h ln:=⟨c2,c3⟩
 rw [if_pos hA]
 have e3:alK U 2 (Z2K S h ln) (Z2K S h ln).length=Z2K S h ln:=(ZfS _ _ _).2 c3
 have hfi:=Z6z F nm
 have ⟨p77,r77,g77⟩:=ks77 F Lv U S W nm
 have p83:=(ks83 F).1
 have nmb:nm.length≤23:=by simp only [Z34,decide_eq_true_eq] at c1; exact c1.2.2
 have hx:Z1p ⟨nm,h,ln,Z2K S h ln⟩:=⟨nmb,⟨c2.1.1.1,by have:=c2.1.1.2; dsimp only; omega⟩,c2.1.2.1,by have:=c2.1.2.2.1; dsimp only; omega⟩
 by_cases c4:fiB F nm=true
 ·have hlt:fiN F nm<F.length:=by simp only [fiB,decide_eq_true_eq] at c4; exact c4.1
  have eL:inL F S nm h ln=F.set (fiN F nm) ⟨nm,h,ln,Z2K S h ln⟩:=by unfold inL inF; rw [if_pos c4]
  have eG:inG F nm=(F.getD (fiN F nm) default).se:=by unfold inG; rw [if_pos c4]
  have eU:inU F Lv U S W nm h ln=tRes (lyU (F.set (fiN F nm) ⟨nm,h,ln,Z2K S h ln⟩) Lv (F.getD (fiN F nm) default).se S W U) 2 1 (Z2K S h ln):=by unfold inU; rw [eL,eG]
  rw [eU,eL,eG]
  have lL:(F.set (fiN F nm) ⟨nm,h,ln,Z2K S h ln⟩).length=F.length:=List.length_set ..
  rw [if_pos (by rw [lL]; exact hF)]
  have ⟨p82,r82,g82⟩:=ks82 F Lv U S W (Z2K S h ln) 2
  unfold Z0z Z0o at *
  unfold Z2K at *
  generalize hdL (secB S h) h (hdN ln)=own at *
  refine stt 87 [.tmp 4] fun X hP hΓ hL hfin=>?_; refine gmq 16 (cj2 h56 c1) ?_
  refine⟨p56,?_⟩
  refine Z02.drawnK [] smp (by kernel_rfl) (gyq (cj6 h80 p80 r80 g80 a80 c2) ?_)
  refine⟨⟨by decide,by omega⟩,?_⟩
  have hc:decide ((200:Int)<(F.length:Int))=false:=decide_eq_false (by omega)
  have eC:(List.flatMap flC F).getD (fiN F nm*4+3) (AV.lit (Value.slice none 0 0))=.sl ((F.getD (fiN F nm) default).se.map (AV.int .i64)) (F.getD (fiN F nm) default).se.length:=by
   rw [Z3C (n:=4) F (fiN F nm) 3 _ (by omega) (by decide)]; rfl
  have eS:List.take (fiN F nm*4) (List.flatMap flC F)++[AV.str nm,AV.int IntKind.i64 h,AV.int IntKind.i64 ln,AV.sl (List.map (AV.int IntKind.i64) own) own.length]++List.drop (fiN F nm*4+4) (List.flatMap flC F)=(F.set (fiN F nm) ⟨nm,h,ln,own⟩).flatMap flC:=by
   rw [←Z3f (n:=4) F (fiN F nm) ⟨nm,h,ln,own⟩ (by omega)]; rfl
  refine gnq 24 (Zk8 h82 p82 r82 g82 h81 e3 h77 p77 r77 g77 h83 c4 hc eC eS) ?_
  refine⟨⟨by decide,by omega,by omega⟩,by omega,⟨by decide,by omega,hs⟩,by omega,by omega,⟨by omega,by omega⟩,by omega,by omega,?_⟩
  refine Z02.frz 7 (by rw [hL]; simp) smf (gsq ?_)
  have p85:=Zdl (F.set (fiN F nm) ⟨nm,h,ln,own⟩) F Lv (F.getD (fiN F nm) default).se U S W
  have r85:=Zcv (F.set (fiN F nm) ⟨nm,h,ln,own⟩) F Lv (F.getD (fiN F nm) default).se U S W
  have g85:=ZdZ (F.set (fiN F nm) ⟨nm,h,ln,own⟩) F Lv (F.getD (fiN F nm) default).se U S W
  have hall:∀f∈F.set (fiN F nm) ⟨nm,h,ln,own⟩,Z1p f:=fun f hf=>by
   rcases List.mem_or_eq_of_mem_set hf with h | rfl
   ·exact (ho f h).1
   ·exact hx
  generalize hLs:F.set (fiN F nm) ⟨nm,h,ln,own⟩=L at *
  have hgo:(F.getD (fiN F nm) default).se.length≤1000000:=by
   have hm:F.getD (fiN F nm) default∈F:=by rw [List.getD_eq_getElem?_getD,List.getElem?_eq_getElem hlt]; exact List.getElem_mem hlt
   exact (ho _ hm).2
  generalize (F.getD (fiN F nm) default).se=gone at *
  have tkL:List.take (F.length*4) (List.flatMap flC L)=List.flatMap flC L:=by rw [←lL]; exact Z2i L
  rw [tkL]
  have lU:=Z9K L Lv gone S W U
  have p78:=ZaG (lyU L Lv gone S W U) 0 own 2 1
  have r78:=Zaq (lyU L Lv gone S W U) 0 own 2 1
  have g78:=ZaW (lyU L Lv gone S W U) 0 own 2 1
  rw [lU] at p78 r78 g78
  by_cases c5:Z2l L W U
  ·have lnow:=Z6i L S W U c5
   unfold lyZ at g85
   rw [if_pos c5] at r85 g85
   unfold Z0z at p85 r85 g85
   rw [lL] at p85 r85 g85
   rw [lL] at lnow
   have lU2:(tRes (lyU L Lv gone S W U) 2 1 own).length=U.length:=by rw [Z2q,lU]
   have lS:=Z9L L S W U
   ((first | with_reducible refine holds_of_ex X 400 _ _ _ ?_ | skip); simp (maxSteps:=1000000) only [push_cast,reduceCtorEq,Nat.reduceAdd,Nat.reduceMul,Nat.reduceSub,Nat.reduceBEq,Nat.reduceGT,Nat.reduceLT,Int.toNat_zero,Nat.reduceLeDiff,Int.reduceEq,Int.reduceLT,Int.reduceLE,hP,hΓ,hL,hfin,String.reduceEq,Int.toNat_one,Bool.not_not,h85,p85,r85,g85,h78,p78,r78,g78,c5,if_true,Zc2,lnow,lL,lU2,lS])
   refine⟨⟨by decide,⟨hF,hall⟩,hLv,hgo,hU,hS,hW⟩,⟨by omega,by omega⟩,?_⟩
   exact Z0q.base [0,1,2,3,4,5,8] ⟨sml,smr,(by decide),(by first | rfl | decide),sm,sm⟩ smd
  ·rw [if_neg c5] at r85
   unfold lyZ at g85
   rw [if_neg c5] at g85
   unfold Z0z at p85 r85 g85
   rw [lL] at p85 r85 g85
   ((first | with_reducible refine holds_of_ex X 400 _ _ _ ?_ | skip); simp (maxSteps:=1000000) only [push_cast,reduceCtorEq,Nat.reduceAdd,Nat.reduceMul,Nat.reduceSub,Nat.reduceBEq,Nat.reduceGT,Nat.reduceLT,Int.toNat_zero,Nat.reduceLeDiff,Int.reduceEq,Int.reduceLT,Int.reduceLE,hP,hΓ,hL,hfin,String.reduceEq,Int.toNat_one,Bool.not_not,h85,p85,r85,g85,c5,if_false,if_true])
   refine⟨⟨by decide,⟨hF,hall⟩,hLv,hgo,hU,hS,hW⟩,?_⟩
   exact Z06.keep6A
 ·have c4':fiB F nm=false:=by simpa using c4
  have eL:inL F S nm h ln=insF F (fiN F nm) ⟨nm,h,ln,Z2K S h ln⟩:=by unfold inL inF; rw [if_neg c4]
  have eG:inG F nm=[]:=by unfold inG; rw [if_neg c4]
  have eU:inU F Lv U S W nm h ln=tRes (lyU (insF F (fiN F nm) ⟨nm,h,ln,Z2K S h ln⟩) Lv [] S W U) 2 1 (Z2K S h ln):=by unfold inU; rw [eL,eG]
  rw [eU,eL,eG]
  have lL:(insF F (fiN F nm) ⟨nm,h,ln,Z2K S h ln⟩).length=F.length+1:=Z7S F _ _ hfi
  have ⟨p82,r82,g82⟩:=ks82 F Lv U S W (Z2K S h ln) 2
  have p84:=ps84 F 0 (fiN F nm) ⟨nm,h,ln,Z2K S h ln⟩
  have r84:=rs84 F 0 (fiN F nm) ⟨nm,h,ln,Z2K S h ln⟩
  have g84:=hs84 F 0 (fiN F nm) ⟨nm,h,ln,Z2K S h ln⟩
  by_cases c6:F.length+1≤200
  case neg=>
   rw [if_neg (by rw [lL]; exact c6)]
   simp only [show ¬((173:Int)=0) by decide,if_false]
   have hc:decide ((200:Int)<(F.length:Int)+1)=true:=decide_eq_true (by omega)
   unfold Z0z Z0o at *
   unfold Z2K at *
   generalize hdL (secB S h) h (hdN ln)=own at *
   rw [show flC ⟨nm,h,ln,own⟩=[AV.str nm,AV.int .i64 h,AV.int .i64 ln,AV.sl (List.map (AV.int .i64) own) own.length] from rfl] at p84 r84 g84
   refine stt 87 [.tmp 4] fun X hP hΓ hL hfin=>?_; refine gmq 16 (cj2 h56 c1) ?_
   refine⟨p56,?_⟩
   refine Z02.drawnK [] smp (by kernel_rfl) (gyq (cj6 h80 p80 r80 g80 a80 c2) ?_)
   refine⟨⟨by decide,by omega⟩,?_⟩
   refine gnq 20 (ZmF h82 p82 r82 g82 h81 e3 h77 p77 r77 g77 h83 c4' hc h84 p84 r84 g84) ?_
   refine⟨⟨by decide,by omega,by omega⟩,by omega,⟨by decide,by omega,hs⟩,by omega,⟨by decide,by omega,hfi⟩,?_⟩
   refine Z0G ?_
   exact Z06.keep6A
  rw [if_pos (by rw [lL]; exact c6)]
  have hc:decide ((200:Int)<(F.length:Int)+1)=false:=decide_eq_false (by omega)
  unfold Z0z Z0o at *
  unfold Z2K at *
  generalize hdL (secB S h) h (hdN ln)=own at *
  rw [show flC ⟨nm,h,ln,own⟩=[AV.str nm,AV.int .i64 h,AV.int .i64 ln,AV.sl (List.map (AV.int .i64) own) own.length] from rfl] at p84 r84 g84
  refine stt 87 [.tmp 4] fun X hP hΓ hL hfin=>?_; refine gmq 16 (cj2 h56 c1) ?_
  refine⟨p56,?_⟩
  refine Z02.drawnK [] smp (by kernel_rfl) (gyq (cj6 h80 p80 r80 g80 a80 c2) ?_)
  refine⟨⟨by decide,by omega⟩,?_⟩
  refine gnq 22 (ZmF h82 p82 r82 g82 h81 e3 h77 p77 r77 g77 h83 c4' hc h84 p84 r84 g84) ?_
  refine⟨⟨by decide,by omega,by omega⟩,by omega,⟨by decide,by omega,hs⟩,by omega,⟨by decide,by omega,hfi⟩,?_⟩
  have p85:=Zdk (insF F (fiN F nm) ⟨nm,h,ln,own⟩) F Lv U S W
  have r85:=Zcu (insF F (fiN F nm) ⟨nm,h,ln,own⟩) F Lv U S W
  have g85:=ZdY (insF F (fiN F nm) ⟨nm,h,ln,own⟩) F Lv U S W
  have hall:∀f∈insF F (fiN F nm) ⟨nm,h,ln,own⟩,Z1p f:=fun f hf=>by
   unfold insF at hf
   rcases List.mem_append.1 hf with h | h
   ·exact (ho f (List.mem_of_mem_take h)).1
   ·rcases List.mem_cons.1 h with rfl | h
    ·exact hx
    ·exact (ho f (List.mem_of_mem_drop h)).1
  refine Z02.frz 7 (by rw [hL]; simp) smf (gsq ?_)
  generalize hLs:insF F (fiN F nm) ⟨nm,h,ln,own⟩=L at *
  have tkL:List.take ((F.length+1)*4) (List.flatMap flC L)=List.flatMap flC L:=by rw [←lL]; exact Z2i L
  rw [tkL]
  have lU:=Z9K L Lv [] S W U
  have p78:=ZaG (lyU L Lv [] S W U) 0 own 2 1
  have r78:=Zaq (lyU L Lv [] S W U) 0 own 2 1
  have g78:=ZaW (lyU L Lv [] S W U) 0 own 2 1
  rw [lU] at p78 r78 g78
  by_cases c5:Z2l L W U
  ·have lnow:=Z6i L S W U c5
   unfold lyZ at g85
   rw [if_pos c5] at r85 g85
   unfold Z0z at p85 r85 g85
   rw [lL] at p85 r85 g85
   rw [lL] at lnow
   have lU2:(tRes (lyU L Lv [] S W U) 2 1 own).length=U.length:=by rw [Z2q,lU]
   have lS:=Z9L L S W U
   ((first | with_reducible refine holds_of_ex X 400 _ _ _ ?_ | skip); simp (maxSteps:=1000000) only [push_cast,reduceCtorEq,Nat.reduceAdd,Nat.reduceMul,Nat.reduceSub,Nat.reduceBEq,Nat.reduceGT,Nat.reduceLT,Int.toNat_zero,Nat.reduceLeDiff,Int.reduceEq,Int.reduceLT,Int.reduceLE,hP,hΓ,hL,hfin,String.reduceEq,Int.toNat_one,Bool.not_not,h85,p85,r85,g85,h78,p78,r78,g78,c5,if_true,Zc2,lnow,lL,lU2,lS])
   refine⟨⟨by decide,⟨by omega,hall⟩,hLv,hU,hS,hW⟩,⟨by omega,by omega⟩,?_⟩
   exact Z0q.base [0,1,2,3,4,5,9] ⟨sml,smr,(by decide),(by first | rfl | decide),sm,sm⟩ smd
  ·rw [if_neg c5] at r85
   unfold lyZ at g85
   rw [if_neg c5] at g85
   unfold Z0z at p85 r85 g85
   rw [lL] at p85 r85 g85
   ((first | with_reducible refine holds_of_ex X 400 _ _ _ ?_ | skip); simp (maxSteps:=1000000) only [push_cast,reduceCtorEq,Nat.reduceAdd,Nat.reduceMul,Nat.reduceSub,Nat.reduceBEq,Nat.reduceGT,Nat.reduceLT,Int.toNat_zero,Nat.reduceLeDiff,Int.reduceEq,Int.reduceLT,Int.reduceLE,hP,hΓ,hL,hfin,String.reduceEq,Int.toNat_one,Bool.not_not,h85,p85,r85,g85,c5,if_false,if_true])
   refine⟨⟨by decide,⟨by omega,hall⟩,hLv,hU,hS,hW⟩,?_⟩
   exact Z06.keep6A
def k34:List Fl×List Int×List Int×List Sec×List Wr×List UInt8×Int×Int→Ct:=fun (F,Lv,U,S,W,nm,h,ln)=>⟨([.ref 0 0 0,.agg [.str nm,.int .i64 h,.int .i64 ln]],Z0z F Lv U S W),F.length≤200∧srt F∧(∀f∈F,Z1p f∧f.se.length≤1000000)∧Lv.length≤1000∧U.length≤1048576∧S.length≤4096∧W.length≤4096∧nm.length≤1048576,.int .i64 (inR F U S W nm h ln),inZ F Lv U S W nm h ln⟩
theorem inj34:∀a b,(k34 a).a=(k34 b).a→a=b:=by
 rintro⟨F,Lv,U,S,W,nm,h,ln⟩ ⟨F',Lv',U',S',W',nm',h',ln'⟩ h
 simp only [k34,Z0g,Z0h,Z0k,Z0j,UInt8.toNat_inj,Z09,Z0c,Z0x,Z0o,Z1g,Z19,Z1L,Z0z,Z0E,Z0A,List.cons.injEq] at h
 simp_all only
noncomputable def S34:Z0n:=Z0W true k34
theorem ks34(F:List Fl)(Lv U:List Int)(S:List Sec)(W:List Wr)(nm:List UInt8)(h ln:Int):KS k34 ([.ref 0 0 0,.agg [.str nm,.int .i64 h,.int .i64 ln]],Z0z F Lv U S W) (F.length≤200∧srt F∧(∀f∈F,Z1p f∧f.se.length≤1000000)∧Lv.length≤1000∧U.length≤1048576∧S.length≤4096∧W.length≤4096∧nm.length≤1048576) (.int .i64 (inR F U S W nm h ln)) (inZ F Lv U S W nm h ln):=kat inj34 (F,Lv,U,S,W,nm,h,ln)
attribute [push_cast] S34 ks34
theorem con34{Γ:Env}(h:Z07 Tryz.prog Γ)(h56:Γ 56=some S56)(h77:Γ 77=some S77)(h78:Γ 78=some S78)(h80:Γ 80=some S80)(h81:Γ 81=some S81)(h82:Γ 82=some S82)(h83:Γ 83=some S83)(h84:Γ 84=some S84)(h85:Γ 85=some S85):Con Tryz.prog 34 S34:=
 kcn h (fn:=Tryz.f34) inj34 fun ⟨F,Lv,U,S,W,nm,h,ln⟩ ⟨hF,hs,ho,hLv,hU,hS,hW,hn⟩=>body34 Γ h56 h77 h78 h80 h81 h82 h83 h84 h85 F Lv U S W nm h ln hF hs ho hLv hU hS hW hn
end Go.Proofs.YtbnnhffkbcekcaaGreatDoor.dirDone
end
