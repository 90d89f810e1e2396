/- Of objects: Decode. Conditions stand in each. -/
import Derived.Test.YtmomhjmaanagaaaGreatMb
import Derived.Test.YtmomhjmaanagaaaGreatPE
import Derived.Test.YtmomhjmaanagaaaGreatOW
set_option linter.unusedVariables false
set_option linter.unusedSimpArgs false
set_option maxRecDepth 100000
set_option maxHeartbeats 4000000
namespace Go.Proofs.YtmomhjmaanagaaaGreat.objDone
open Go Go.Eng Go.Proofs
open Go.Proofs.YtmomhjmaanagaaaGreat.objNumbersDone (Z1r okR valR okT Z8z Z4B)
def Ob.zero:Ob:=⟨[],0,[],[],[],[],[],0,[],[],[],[],[]⟩
def Z8j(b:Z04):Bool:=decide (b.length≤1048576) && decide (8≤b.length) && (b.take 4 == [67,82,79,49])
def Z9F(b:Z04):Ob×Rd:=
 let x:=objM ⟨b.take (b.length - 4),4,-1⟩
 (x.1,(tookM x.2 x.2.at_ (decide (x.2.at_=(b.length:Int) - 4))).2)
def Z1L(b:Z04):Ob×Int×Int:=
 if Z8j b=false then (.zero,0,71)
 else if Z6q b ((b.length:Int) - 4)≠Z4Y (b.take (b.length - 4)) then (.zero,(b.length:Int) - 4,72)
 else if 0≤(Z9F b).2.bad then (.zero,(Z9F b).2.bad,71)
 else if okB (Z9F b).1=false then (.zero,0,70) else ((Z9F b).1,0,0)
theorem ZbZ{r:Rd}(hr:r.ok):(objM r).2.ok∧(objM r).2.b=r.b:=by
 have h1:=Z1i hr 20
 have h2:=Z1Q h1.1
 have h3:=Z0K (one:=Z0y) (fun r hr=>Z1X hr) 16 h2.1
 have h4:=Z0K (one:=Z0T) (fun r hr=>Z1Q hr) 65536 h3.1
 have h5:=Z0K (one:=Z0I) (fun r hr=>Z3H hr) 100 h4.1
 have h6:=Z1M h5.1
 have h7:=Z0K (one:=Z20) (fun r hr=>Z1M hr) 200 h6.1
 have h8:=Z0K (one:=Z20) (fun r hr=>Z1M hr) 200 h7.1
 have h9:=Z0K (one:=fun r=>Z0R r 200) (fun r hr=>Z1i hr 200) 200 h8.1
 have h10:=Z0K (one:=Z0W) (fun r hr=>Z3Q hr) 200 h9.1
 have h11:=Z0K (one:=Z3P) (fun r hr=>Z8n hr) 65536 h10.1
 refine⟨h11.1,?_⟩
 exact h11.2.trans (h10.2.trans (h9.2.trans (h8.2.trans (h7.2.trans (h6.2.trans (h5.2.trans (h4.2.trans (h3.2.trans (h2.2.trans h1.2)))))))))
theorem Z7X{α:Type}(one:Rd→α×Rd):∀(n:Nat) (r:Rd),(Z3j one n r).1.length≤n
 | 0,r=>by simp [Z3j]
 | n+1,r=>by
  rw [Z3j]
  split
  ·simp only [List.length_cons]; have:=Z7X one n (one r).2; omega
  ·simp
theorem Z5U{α:Type}(one:Rd→α×Rd)(m:Int)(hm:0≤m)(r:Rd):((Z0b one m r).1.length:Int)≤m:=by
 have h1:=Z7X one (Z1m r m).1.toNat (Z1m r m).2
 have h2:=Z3q r m hm
 have h3:=(Z2r r m).1
 rw [Z0b]; omega
theorem Z7Y{α:Type}(one:Rd→α×Rd){p:α→Prop}(hp:∀r:Rd,r.ok→p (one r).1)(ho:∀r:Rd,r.ok→(one r).2.ok):∀(n:Nat) (r:Rd),r.ok→∀x∈(Z3j one n r).1,p x
 | 0,r,_=>by simp [Z3j]
 | n+1,r,hr=>by
  rw [Z3j]
  split
  ·intro x hx
   rcases List.mem_cons.1 hx with rfl | hx
   ·exact hp r hr
   ·exact Z7Y one hp ho n _ (ho r hr) x hx
  ·simp
theorem Z3i{α:Type}(one:Rd→α×Rd){p:α→Prop}(hp:∀r:Rd,r.ok→p (one r).1)(ho:∀r:Rd,r.ok→(one r).2.ok){m:Int}{r:Rd}(hr:r.ok):∀x∈(Z0b one m r).1,p x:=
 Z7Y one hp ho _ _ (Z0S hr m).1
theorem Z5E(r:Rd)(m:Int)(hm:0≤m):((Z0R r m).1.length:Int)≤m:=by
 unfold Z0R
 simp only
 split
 ·rename_i h
  obtain⟨_,hk,_⟩:=Z8I h
  simp only [okT,Bool.and_eq_true,decide_eq_true_eq] at hk
  obtain⟨_,hk,_⟩:=hk
  have hv:=Z7P (Z1r r.b r.at_)
  unfold Z8z
  split
  ·rw [List.length_drop,List.length_take]; omega
  ·simp; omega
 ·simp; omega
theorem ZaM{r:Rd}(hr:r.ok):0≤(Z0T r).1∧(Z0T r).1<4294967296:=by
 unfold Z0T
 simp only
 split
 ·unfold Z6q
  split
  ·rename_i hk
   simp only [Z7x,decide_eq_true_eq] at hk
   have:=Z8g ((r.b.take (r.at_+4).toNat).drop r.at_.toNat)
   rw [List.length_drop,List.length_take,show min (r.at_+4).toNat r.b.length - r.at_.toNat=4 by omega] at this
   omega
  ·omega
 ·omega
theorem Z9A{r:Rd}(hr:r.ok):(objM r).1.ok∧(objM r).1.u32s:=by
 have hSM:SM=1048576:=rfl
 have h1:=Z1i hr 20
 have h2:=Z1Q h1.1
 have h3:=Z0K (one:=Z0y) (fun r hr=>Z1X hr) 16 h2.1
 have h4:=Z0K (one:=Z0T) (fun r hr=>Z1Q hr) 65536 h3.1
 have h5:=Z0K (one:=Z0I) (fun r hr=>Z3H hr) 100 h4.1
 have h6:=Z1M h5.1
 have h7:=Z0K (one:=Z20) (fun r hr=>Z1M hr) 200 h6.1
 have h8:=Z0K (one:=Z20) (fun r hr=>Z1M hr) 200 h7.1
 have h9:=Z0K (one:=fun r=>Z0R r 200) (fun r hr=>Z1i hr 200) 200 h8.1
 have h10:=Z0K (one:=Z0W) (fun r hr=>Z3Q hr) 200 h9.1
 have l3:=Z5U Z0y 16 (by omega) (Z0T (Z0R r 20).2).2
 have l4:=Z5U Z0T 65536 (by omega) (Z0b Z0y 16 (Z0T (Z0R r 20).2).2).2
 have l1:=Z5E r 20 (by omega)
 have key:∀{α:Type} (one:Rd→α×Rd) (m:Int) (r:Rd),0≤m→m≤65536→(Z0b one m r).1.length≤1048576:=fun one m r h1 h2=>by
  have:=Z5U one m h1 r; omega
 constructor
 ·constructor <;> simp only [objM,hSM,List.length_map]
  ·omega
  all_goals first | exact key _ _ _ (by omega) (by omega) | skip
  ·exact Z3i Z0y (p:=fun x=>x.name.length≤1048576) (fun r hr=>by have:=Z5E r 20 (by omega); simp only [Z0y]; omega) (fun r hr=>(Z1X hr).1) h2.1
  ·intro x hx
   obtain⟨y,hy,rfl⟩:=List.mem_map.1 hx
   exact Z3i Z0I (p:=fun x=>x.2.1.length≤1048576) (fun r hr=>by have:=Z5E (Z20 r).2 20 (by omega); simp only [Z0I]; omega) (fun r hr=>(Z3H hr).1) h4.1 y hy
  ·exact Z3i (fun r=>Z0R r 200) (p:=fun x=>x.length≤1048576) (fun r hr=>by have:=Z5E r 200 (by omega); omega) (fun r hr=>(Z1i hr 200).1) h8.1
  ·exact Z3i Z0W (p:=fun x=>x.tags.length≤1048576) (fun r hr=>key _ _ _ (by omega) (by omega)) (fun r hr=>(Z3Q hr).1) h9.1
 ·refine⟨ZaM h1.1,?_,?_⟩
  ·exact Z3i Z0T (fun r hr=>ZaM hr) (fun r hr=>(Z1Q hr).1) h3.1
  ·exact Z3i Z0y (fun r hr=>ZaM (Z1i hr 20).1) (fun r hr=>(Z1X hr).1) h2.1
def e21:(Z04)×(Nat)→List AV:=fun (b,n)=>[.sl (b.map Z03) n]
def p21:(Z04)×(Nat)→Prop:=fun (b,n)=>n=b.length∧b.length≤4194304
def r21:(Z04)×(Nat)→AV:=fun (b,n)=>.tup [.agg (Z1L b).1.c,.int .i64 (Z1L b).2.1,.int .i64 (Z1L b).2.2]
def g21:(Z04)×(Nat)→Heap:=fun (b,n)=>[]
theorem inj21:∀a b,e21 a=e21 b→a=b:=by
 rintro⟨b,n⟩ ⟨b',n'⟩ h
 simp only [e21,Z0f,Z0h,Z0i,Z0g,Z0V,Z0u,List.cons.injEq,AV.int.injEq,AV.str.injEq,AV.bool.injEq,AV.sl.injEq,AV.agg.injEq,AV.ip.injEq,AV.fn.injEq,AV.ifc.injEq,AV.mpr.injEq,Int.natCast_inj,and_true,true_and] at h
 simp_all only
noncomputable def S21:Z0n:=Z2V e21 p21 r21 g21 false
theorem Zik(b:(Z04))(n:(Nat)):Z1J e21 p21 [.sl (b.map Z03) n]=(n=b.length∧b.length≤4194304):=Z0j inj21 p21 (b,n)
theorem Zia(b:(Z04))(n:(Nat)):Z10 e21 r21 .any [.sl (b.map Z03) n]=(.tup [.agg (Z1L b).1.c,.int .i64 (Z1L b).2.1,.int .i64 (Z1L b).2.2]):=Z08 inj21 r21 .any (b,n)
theorem ZiJ(b:(Z04))(n:(Nat)):Z10 e21 g21 [] [.sl (b.map Z03) n]=([]):=Z08 inj21 g21 [] (b,n)
attribute [push_cast] S21 Zik Zia ZiJ
theorem body21(Γ:Env)(h47:Γ 12=some S47)(h42:Γ 13=some S42)(h48:Γ 14=some S48)(h49:Γ 15=some S49)(h17:Γ 16=some S17)(b:Z04)(hb:b.length≤4194304) :
  Z0a Tryz.prog Γ Tryz.f6 (e21 (b,b.length)) [] (.tup [.agg (Z1L b).1.c,.int .i64 (Z1L b).2.1,.int .i64 (Z1L b).2.2]) []:=by
 have hE:∀h:8≤b.length,(⟨b.take (b.length - 4),4,-1⟩:Rd).ok:=fun h=>⟨by simp; omega,by simp,by simp; omega⟩
 (intro X hP hΓ hL hfin; refine⟨_,rfl,?_⟩; rw [show Tryz.f6.ntmps=78 from rfl]; rw [show Tryz.f6.results.toList=[.cell 2 33,.tmp 3,.tmp 4] from rfl] at hfin; apply holds_of_ex X 400; simp (maxSteps:=1000000) only [push_cast,reduceCtorEq,Nat.reduceAdd,Nat.reduceMul,Nat.reduceSub,Nat.reduceBEq,Nat.reduceGT,Nat.reduceLT,Int.toNat_zero,Nat.reduceLeDiff,Int.reduceEq,Int.reduceLT,Int.reduceLE,hP,hΓ,hL,hfin,↓Z00,String.reduceEq,not_false_eq_true,if_true,e21])
 refine⟨fun h=>?_,fun h=>?_,?_⟩
 ·simp only [Bool.not_eq_true',Bool.or_eq_false_iff,decide_eq_false_iff_not] at h; omega
 ·simp only [Bool.not_eq_true',Bool.or_eq_false_iff,decide_eq_false_iff_not] at h
  refine⟨by rw [←List.map_take]; exact Z1N _,by simp; omega⟩
 rw [←List.map_take,Z12]
 refine Z02 (fun h=>?_) (fun h=>?_)
 ·have hh:Z8j b=false:=by
   rw [←Bool.not_eq_true]
   intro hc
   simp only [Z8j,Bool.and_eq_true,decide_eq_true_eq,beq_iff_eq] at hc
   simp only [Bool.or_eq_true,decide_eq_true_eq,Bool.not_eq_true',beq_eq_false_iff_ne] at h
   rcases h with h | h
   ·omega
   ·exact h (by simpa using hc.2)
  ((first | with_reducible refine holds_of_ex X 400 _ _ _ ?_ | skip); simp (maxSteps:=1000000) only [push_cast,reduceCtorEq,Nat.reduceAdd,Nat.reduceMul,Nat.reduceSub,Nat.reduceBEq,Nat.reduceGT,Nat.reduceLT,Int.toNat_zero,Nat.reduceLeDiff,Int.reduceEq,Int.reduceLT,Int.reduceLE,hP,hΓ,hL,hfin,↓Z00,String.reduceEq,not_false_eq_true,if_true])
  rw [show Z1L b=(.zero,0,71) by rw [Z1L,if_pos hh]]
  refine Z0k.soft ?_
  simp only [push_cast,Ob.zero,Ob.c,List.map_nil,List.flatMap_nil,List.length_nil]
  exact Z06.keep0A
 have hh:Z8j b=true:=by
  simp only [Bool.or_eq_false_iff,decide_eq_false_iff_not,Bool.not_eq_false',beq_iff_eq] at h
  simp only [Z8j,Bool.and_eq_true,decide_eq_true_eq,beq_iff_eq]
  exact⟨by omega,by simpa using h.2⟩
 have h8:8≤b.length:=by
  simp only [Z8j,Bool.and_eq_true,decide_eq_true_eq] at hh; omega
 ((first | with_reducible refine holds_of_ex X 400 _ _ _ ?_ | skip); simp (maxSteps:=1000000) only [push_cast,reduceCtorEq,Nat.reduceAdd,Nat.reduceMul,Nat.reduceSub,Nat.reduceBEq,Nat.reduceGT,Nat.reduceLT,Int.toNat_zero,Nat.reduceLeDiff,Int.reduceEq,Int.reduceLT,Int.reduceLE,hP,hΓ,hL,hfin,↓Z00,String.reduceEq,not_false_eq_true,if_true,h47,h42,Z0c ((b.length:Int) - 4) (by constructor <;> omega),←List.map_take])
 have hB:(objNumbersDone.BIG:Nat)=140737488355328:=rfl
 have hn:((b.length:Int) - 4).toNat=b.length - 4:=by omega
 rw [hn]
 refine⟨hb,⟨by omega,by omega,by omega⟩,⟨by omega,by omega⟩,?_⟩
 refine Z02 (fun h2=>?_) (fun h2=>?_)
 ·((first | with_reducible refine holds_of_ex X 400 _ _ _ ?_ | skip); simp (maxSteps:=1000000) only [push_cast,reduceCtorEq,Nat.reduceAdd,Nat.reduceMul,Nat.reduceSub,Nat.reduceBEq,Nat.reduceGT,Nat.reduceLT,Int.toNat_zero,Nat.reduceLeDiff,Int.reduceEq,Int.reduceLT,Int.reduceLE,hP,hΓ,hL,hfin,↓Z00,String.reduceEq,not_false_eq_true,if_true])
  rw [show Z1L b=(.zero,(b.length:Int) - 4,72) by rw [Z1L,if_neg (by rw [hh]; decide),if_pos (by simpa using h2)]]
  refine Z0k.soft ?_
  simp only [push_cast,Ob.zero,Ob.c,List.map_nil,List.flatMap_nil,List.length_nil]
  exact Z06.keep0A
 have h2':¬Z6q b ((b.length:Int) - 4)≠Z4Y (b.take (b.length - 4)):=by simpa using h2
 have hlt:(b.take (b.length - 4)).length=b.length - 4:=by simp
 obtain⟨r0,hr0⟩:∃r0:Rd,r0=⟨b.take (b.length - 4),4,-1⟩:=⟨_,rfl⟩
 have hc:[AV.sl ((b.take (b.length - 4)).map Z03) (b.length - 4 - 0),AV.int .i64 4,AV.int .i64 (-1)]=r0.c:=by
  rw [hr0,Rd.c,hlt]; rfl
 have hro:r0.ok:=by rw [hr0]; exact hE h8
 have hex:Z9F b=((objM r0).1,(tookM (objM r0).2 (objM r0).2.at_ (decide ((objM r0).2.at_=(b.length:Int) - 4))).2):=by rw [Z9F,hr0]
 ((first | with_reducible refine holds_of_ex X 400 _ _ _ ?_ | skip); simp (maxSteps:=1000000) only [push_cast,reduceCtorEq,Nat.reduceAdd,Nat.reduceMul,Nat.reduceSub,Nat.reduceBEq,Nat.reduceGT,Nat.reduceLT,Int.toNat_zero,Nat.reduceLeDiff,Int.reduceEq,Int.reduceLT,Int.reduceLE,hP,hΓ,hL,hfin,↓Z00,String.reduceEq,not_false_eq_true,if_true,h48,hn,←List.map_take,hc])
 refine⟨by omega,fun x hx _=>?_,hro,?_⟩
 ·simp only [Rd.c,List.mem_cons,List.not_mem_nil,or_false] at hx
  rcases hx with rfl | rfl | rfl <;> rfl
 have hk:=Z9A hro
 have hbb:=(ZbZ hro).1
 generalize objM r0=x at hex hk hbb ⊢
 obtain⟨o,r⟩:=x
 simp only at hex hk hbb ⊢
 (refine Holds.drawnE (Z3c [.row 13 0,.fix (.row r.c 3 0)]) [0,1,2,3,4,5,6,7,8,9,10,11] [] [] true (by rw [hP]; kernel_rfl) (by kernel_rfl) (by kernel_rfl) (by kernel_rfl) (by first | exact .inl rfl | exact .inr fun _ _ h=>Z0M _ _ h) (by first | (simp only [push_cast]; done) | (simp only [push_cast,and_true]; omega)) ?_; simp (maxSteps:=1000000) only [↓reduceIte,Option.getD_some,push_cast,reduceCtorEq,Nat.reduceAdd,Nat.reduceMul,Nat.reduceSub,Nat.reduceBEq,Nat.reduceGT,Nat.reduceLT,Int.toNat_zero,Nat.reduceLeDiff,Int.reduceEq,Int.reduceLT,Int.reduceLE,hP,hΓ,hL,hfin,↓Z00,String.reduceEq,not_false_eq_true,if_true,h49])
 generalize (tookM r r.at_ (decide (r.at_=(b.length:Int) - 4))).2=r2 at hex ⊢
 ((first | with_reducible refine holds_of_ex X 400 _ _ _ ?_ | skip); simp (maxSteps:=1000000) only [push_cast,reduceCtorEq,Nat.reduceAdd,Nat.reduceMul,Nat.reduceSub,Nat.reduceBEq,Nat.reduceGT,Nat.reduceLT,Int.toNat_zero,Nat.reduceLeDiff,Int.reduceEq,Int.reduceLT,Int.reduceLE,hP,hΓ,hL,hfin,↓Z00,String.reduceEq,not_false_eq_true,if_true])
 refine Z02 (fun h3=>?_) (fun h3=>?_)
 ·have hd:Z1L b=(.zero,r2.bad,71):=by rw [Z1L,if_neg (by rw [hh]; decide),if_neg h2',hex,if_pos (by simpa using h3)]
  (refine Holds.drawnE (Z3c [.row 13 0,.fix (.row r2.c 3 0)]) [5] [] [] false (by rw [hP]; kernel_rfl) (by kernel_rfl) (by kernel_rfl) (by kernel_rfl) (by first | exact .inl rfl | exact .inr fun _ _ h=>Z0M _ _ h) (by first | (simp only [push_cast]; done) | (simp only [push_cast,and_true]; omega)) ?_; simp (maxSteps:=1000000) only [↓reduceIte,Option.getD_some,push_cast,reduceCtorEq,Nat.reduceAdd,Nat.reduceMul,Nat.reduceSub,Nat.reduceBEq,Nat.reduceGT,Nat.reduceLT,Int.toNat_zero,Nat.reduceLeDiff,Int.reduceEq,Int.reduceLT,Int.reduceLE,hP,hΓ,hL,hfin,↓Z00,String.reduceEq,not_false_eq_true,if_true,h49])
  ((first | with_reducible refine holds_of_ex X 400 _ _ _ ?_ | skip); simp (maxSteps:=1000000) only [push_cast,reduceCtorEq,Nat.reduceAdd,Nat.reduceMul,Nat.reduceSub,Nat.reduceBEq,Nat.reduceGT,Nat.reduceLT,Int.toNat_zero,Nat.reduceLeDiff,Int.reduceEq,Int.reduceLT,Int.reduceLE,hP,hΓ,hL,hfin,↓Z00,String.reduceEq,not_false_eq_true,if_true])
  rw [hd]
  refine Z0k.soft ?_
  simp only [push_cast,Ob.zero,Ob.c,List.map_nil,List.flatMap_nil,List.length_nil]
  exact Z06.keep0A
 have h3':¬0≤r2.bad:=by simpa using h3
 ((first | with_reducible refine holds_of_ex X 400 _ _ _ ?_ | skip); simp (maxSteps:=1000000) only [push_cast,reduceCtorEq,Nat.reduceAdd,Nat.reduceMul,Nat.reduceSub,Nat.reduceBEq,Nat.reduceGT,Nat.reduceLT,Int.toNat_zero,Nat.reduceLeDiff,Int.reduceEq,Int.reduceLT,Int.reduceLE,hP,hΓ,hL,hfin,↓Z00,String.reduceEq,not_false_eq_true,if_true,h17])
 refine⟨hk.1,?_⟩
 refine Z02 (fun h4=>?_) (fun h4=>?_)
 ·have hd:Z1L b=(.zero,0,70):=by rw [Z1L,if_neg (by rw [hh]; decide),if_neg h2',hex,if_neg h3',if_pos (by simpa using h4)]
  ((first | with_reducible refine holds_of_ex X 400 _ _ _ ?_ | skip); simp (maxSteps:=1000000) only [push_cast,reduceCtorEq,Nat.reduceAdd,Nat.reduceMul,Nat.reduceSub,Nat.reduceBEq,Nat.reduceGT,Nat.reduceLT,Int.toNat_zero,Nat.reduceLeDiff,Int.reduceEq,Int.reduceLT,Int.reduceLE,hP,hΓ,hL,hfin,↓Z00,String.reduceEq,not_false_eq_true,if_true])
  rw [hd]
  refine Z0k.soft ?_
  simp only [push_cast,Ob.zero,Ob.c,List.map_nil,List.flatMap_nil,List.length_nil]
  exact Z06.keep0A
 have hd:Z1L b=(o,0,0):=by rw [Z1L,if_neg (by rw [hh]; decide),if_neg h2',hex,if_neg h3',if_neg (by simpa using h4)]
 ((first | with_reducible refine holds_of_ex X 400 _ _ _ ?_ | skip); simp (maxSteps:=1000000) only [push_cast,reduceCtorEq,Nat.reduceAdd,Nat.reduceMul,Nat.reduceSub,Nat.reduceBEq,Nat.reduceGT,Nat.reduceLT,Int.toNat_zero,Nat.reduceLeDiff,Int.reduceEq,Int.reduceLT,Int.reduceLE,hP,hΓ,hL,hfin,↓Z00,String.reduceEq,not_false_eq_true,if_true])
 rw [hd]
 exact Z06.keep0A
theorem con21{Γ:Env}(h:Z07 Tryz.prog Γ)(h47:Γ 12=some S47)(h42:Γ 13=some S42)(h48:Γ 14=some S48)(h49:Γ 15=some S49)(h17:Γ 16=some S17):Con Tryz.prog 6 S21:=
 Z0t h (fn:=Tryz.f6) (by kernel_rfl) rfl (by kernel_rfl) inj21 (by first | (intro h; cases h; done) | exact fun _ _=>rfl) fun ⟨b,n⟩ h=>by obtain⟨rfl,h⟩:=h; exact body21 Γ h47 h42 h48 h49 h17 b h
end Go.Proofs.YtmomhjmaanagaaaGreat.objDone