/- Of objects: the bytes that the program lays, all of them. Conditions stand in each. -/
import Derived.Test.YtmomhjmaanagaaaGreatOW
set_option linter.unusedVariables false
set_option linter.unusedSimpArgs false
set_option maxRecDepth 100000
set_option maxHeartbeats 4000000
namespace Go.Proofs.YtmomhjmaanagaaaGreat.objDone
open Go Go.Eng Go.Proofs
open Go.Proofs.YtmomhjmaanagaaaGreat.objNumbersDone (enc hi7 lo7 q7 Z2X m32 BIG Z7L)
def stS(h:Int)(c:UInt8):Int:=IntKind.u32.wrap (Z2x .xor .u32 h (c.toNat:Int)*16777619)
def Z4Y(l:Z04):Int:=l.foldl stS 2166136261
theorem ZaW(l:Z04)(k:Nat)(h:k<l.length):Z4Y (l.take (k+1))=stS (Z4Y (l.take k)) (l.getD k 0):=by
 have e:l.take (k+1)=l.take k++[l.getD k 0]:=by rw [List.take_add_one]; simp [List.getD,h]
 rw [Z4Y,e,List.foldl_append]; rfl
theorem Zi0(c:UInt8):IntKind.u32.wrap (c.toNat:Int)=(c.toNat:Int):=by
 have:=c.toNat_lt
 simp [IntKind.wrap,IntKind.bits,IntKind.signed]; omega
def e42:(Z04)×(Nat)→List AV:=fun (l,n)=>[.sl (l.map Z03) n]
def p42:(Z04)×(Nat)→Prop:=fun (l,n)=>n=l.length∧l.length≤BIG
def r42:(Z04)×(Nat)→AV:=fun (l,n)=>.int .u32 (Z4Y l)
def g42:(Z04)×(Nat)→Heap:=fun (l,n)=>[]
theorem inj42:∀a b,e42 a=e42 b→a=b:=by
 rintro⟨l,n⟩ ⟨l',n'⟩ h
 simp only [e42,Z0f,Z0h,Z0i,Z0g,Z0u,Z0F,Z0E,Z0z,Z0G,Z0D,Z0C,Z0J,List.cons.injEq,AV.int.injEq,AV.str.injEq,AV.bool.injEq,AV.sl.injEq,AV.agg.injEq,AV.ip.injEq,AV.fn.injEq,AV.ifc.injEq,AV.mpr.injEq,Int.natCast_inj,and_true,true_and] at h
 simp_all only
noncomputable def S42:Z0n:=Z2V e42 p42 r42 g42 true
theorem ps42(l:(Z04))(n:(Nat)):Z1J e42 p42 [.sl (l.map Z03) n]=(n=l.length∧l.length≤BIG):=Z0j inj42 p42 (l,n)
theorem rs42(l:(Z04))(n:(Nat)):Z10 e42 r42 .any [.sl (l.map Z03) n]=(.int .u32 (Z4Y l)):=Z08 inj42 r42 .any (l,n)
theorem hs42(l:(Z04))(n:(Nat)):Z10 e42 g42 [] [.sl (l.map Z03) n]=([]):=Z08 inj42 g42 [] (l,n)
attribute [push_cast] S42 ps42 rs42 hs42
theorem body42(Γ:Env)(l:Z04)(hl:l.length≤BIG):Z0a Tryz.prog Γ Tryz.f13 (e42 (l,l.length)) [] (.int .u32 (Z4Y l)) []:=by
 have hB:(BIG:Nat)=140737488355328:=rfl
 (intro X hP hΓ hL hfin; refine⟨_,rfl,?_⟩; rw [show Tryz.f13.ntmps=19 from rfl]; rw [show Tryz.f13.results.toList=[.tmp 2] from rfl] at hfin; apply holds_of_ex X 400; simp (maxSteps:=1000000) only [push_cast,reduceCtorEq,Nat.reduceAdd,Nat.reduceMul,Nat.reduceSub,Nat.reduceBEq,Nat.reduceGT,Nat.reduceLT,Int.toNat_zero,Nat.reduceLeDiff,Int.reduceEq,Int.reduceLT,Int.reduceLE,hP,hΓ,hL,hfin,↓Z00,e42])
 refine Holds.loopM (ι:={k:Nat // k≤l.length}) [false,false,true,false,false,false,true,true,false,false,false,false,false,false,false,false,false,false,false] (fun i=>[(3,.int .u32 (Z4Y (l.take i.1))),(8,.int .i64 i.1)]) (fun i=>[]) (fun i=>l.length - i.1) ⟨0,Nat.zero_le _⟩ ?_ ?_
 ·(rw [hL]; simp only [push_cast,Int.natCast_zero,List.take_zero,Z4Y,List.foldl_nil]; exact Z06.sameA)
 rintro⟨k,hk⟩
 ((first | with_reducible refine holds_of_ex X 400 _ _ _ ?_ | skip); simp (maxSteps:=1000000) only [push_cast,reduceCtorEq,Nat.reduceAdd,Nat.reduceMul,Nat.reduceSub,Nat.reduceBEq,Nat.reduceGT,Nat.reduceLT,Int.toNat_zero,Nat.reduceLeDiff,Int.reduceEq,Int.reduceLT,Int.reduceLE,hP,hΓ,hL,hfin,↓Z00])
 ((with_reducible refine Z02 (fun h=>?_) (fun h=>?_)) <;> (try simp only [decide_eq_true_eq,decide_eq_false_iff_not,Bool.and_eq_true,Bool.or_eq_true,Bool.and_eq_false_iff,Bool.or_eq_false_iff,Bool.not_eq_true',Bool.not_eq_false',Bool.not_eq_true,Bool.not_eq_false,Int.not_lt,Int.not_le,beq_iff_eq,beq_eq_false_iff_ne,ne_eq,win_t,win_f] at h))
 ·have hk':k<l.length:=by omega
  ((first | with_reducible refine holds_of_ex X 400 _ _ _ ?_ | skip); simp (maxSteps:=1000000) only [push_cast,reduceCtorEq,Nat.reduceAdd,Nat.reduceMul,Nat.reduceSub,Nat.reduceBEq,Nat.reduceGT,Nat.reduceLT,Int.toNat_zero,Nat.reduceLeDiff,Int.reduceEq,Int.reduceLT,Int.reduceLE,hP,hΓ,hL,hfin,↓Z00,Z0c ((k:Int)+1) (by constructor <;> omega),hk',Zi0])
  (repeat (refine And.intro (by first | exact True.intro | omega | assumption | exact own_row _ | (simp only [List.length_append]; omega) | (intro hg; (try simp only [decide_eq_true_eq,decide_eq_false_iff_not,Bool.and_eq_true,Bool.or_eq_true,Bool.and_eq_false_iff,Bool.or_eq_false_iff,Bool.not_eq_true',Bool.not_eq_false',Bool.not_eq_true,Bool.not_eq_false,Int.not_lt,Int.not_le,beq_iff_eq,beq_eq_false_iff_ne,ne_eq,win_t,win_f] at hg); omega)) ?_))
  rw [show IntKind.u32.wrap (Z2x .xor .u32 (Z4Y (l.take k)) ((l.getD k 0).toNat:Int)*16777619)=Z4Y (l.take (k+1)) from (ZaW l k hk').symm]
  (refine⟨⟨k+1,hk'⟩,by (try simp only [List.length_cons,List.length_append,List.length_nil]); omega,?_⟩; (try rw [hL]); (try simp only [push_cast,Int.natCast_zero]); first | (exact Z06.sameA) | (exact Z06.keep0A) | (exact Z06.keep1A) | (exact Z06.keep2A) | (exact Z06.keep3A))
 ·obtain rfl:k=l.length:=by omega
  ((first | with_reducible refine holds_of_ex X 400 _ _ _ ?_ | skip); simp (maxSteps:=1000000) only [push_cast,reduceCtorEq,Nat.reduceAdd,Nat.reduceMul,Nat.reduceSub,Nat.reduceBEq,Nat.reduceGT,Nat.reduceLT,Int.toNat_zero,Nat.reduceLeDiff,Int.reduceEq,Int.reduceLT,Int.reduceLE,hP,hΓ,hL,hfin,↓Z00])
  exact Z06.one (by rw [List.take_length]) rfl
theorem con42{Γ:Env}(h:Z07 Tryz.prog Γ):Con Tryz.prog 13 S42:=
 Z0t h (fn:=Tryz.f13) (by kernel_rfl) rfl (by kernel_rfl) inj42 (by first | (intro h; cases h; done) | exact fun _ _=>rfl) fun ⟨l,n⟩ h=>by obtain⟨rfl,h⟩:=h; exact body42 Γ l h
theorem Z7A{o:Ob}(h:Z1A o=true):o.imps.length≤16∧o.code.length≤65536∧o.procs.length≤100∧o.names.length=o.procs.length∧o.exps.length=o.procs.length∧o.vars.length≤200∧o.shown.length≤200∧o.strs.length≤200∧o.descs.length≤200∧o.fixes.length≤65536:=by
 simp only [Z1A,Bool.and_eq_true,Bool.not_eq_true',Bool.or_eq_false_iff,decide_eq_false_iff_not,Bool.not_eq_false',win_t,decide_eq_true_eq] at h
 omega
theorem ZhR{α:Type}[Inhabited α]{p:Nat→α→Bool}{xs:List α}{n:Nat}(h:Z24 p xs n=true){i:Nat}(hi:i<n):p i (xs.getD i default)=true:=by
 simp only [Z24,List.all_eq_true,List.mem_range] at h
 exact h i hi
theorem Z6Y{o:Ob}(h:Z1A o=true):∀x∈o.fixes,x.m≤1000000000∧-1000000000≤x.m:=by
 have hb:=Z7A h
 intro x hx
 obtain⟨i,hi,rfl⟩:=List.mem_iff_getElem.1 hx
 simp only [Z1A,Bool.and_eq_true] at h
 have:=ZhR h.2.2 hi
 simp only [q64,Z7B,Bool.and_eq_true,win_t] at this
 have e:o.fixes.getD i default=o.fixes[i]:=by simp [List.getD,hi]
 rw [e] at this
 omega
def Z3t:Z04:=[67,82,79,49]
def Z6k(o:Ob):Z04:=Z3t++txt o.name++le4 o.key++rI o.imps++rW o.code++Z8p o o.procs++num o.init++Z5a o.vars++Z5a o.shown++rS o.strs++rD o.descs++rF o.fixes
def Z35(o:Ob):Z04:=Z6k o++le4 (Z4Y (Z6k o))
def okB(o:Ob):Bool:=Z1A o && decide ((Z35 o).length≤1048576)
def Z5I(o:Ob):Z04:=if okB o then Z35 o else []
def Z6z(o:Ob):Int:=if okB o then 0 else 70
def e18:(Ob)→List AV:=fun o=>[.agg o.c]
def p18:(Ob)→Prop:=fun o=>o.ok
def r18:(Ob)→AV:=fun o=>.tup [.msl 0 0 0 (Z5I o).length,.int .i64 (Z6z o)]
def g18:(Ob)→Heap:=fun o=>[.row ((Z5I o).map Z03) 1 0]
theorem inj18:∀a b,e18 a=e18 b→a=b:=by
 rintro o o' h
 simp only [e18,Z0f,Z0h,Z0i,Z0g,Z0u,Z0F,Z0E,Z0z,Z0G,Z0D,Z0C,Z0J,List.cons.injEq,AV.int.injEq,AV.str.injEq,AV.bool.injEq,AV.sl.injEq,AV.agg.injEq,AV.ip.injEq,AV.fn.injEq,AV.ifc.injEq,AV.mpr.injEq,Int.natCast_inj,and_true,true_and] at h
 simp_all only
noncomputable def S18:Z0n:=Z2V e18 p18 r18 g18 false
theorem ps18(o:(Ob)):Z1J e18 p18 [.agg o.c]=(o.ok):=Z0j inj18 p18 o
theorem rs18(o:(Ob)):Z10 e18 r18 .any [.agg o.c]=(.tup [.msl 0 0 0 (Z5I o).length,.int .i64 (Z6z o)]):=Z08 inj18 r18 .any o
theorem hs18(o:(Ob)):Z10 e18 g18 [] [.agg o.c]=([.row ((Z5I o).map Z03) 1 0]):=Z08 inj18 g18 [] o
attribute [push_cast] S18 ps18 rs18 hs18
theorem body18(Γ:Env)(h23:Γ 27=some S23)(h25:Γ 55=some S25)(h27:Γ 53=some S27)(h28:Γ 54=some S28)(h29:Γ 56=some S29)(h31:Γ 58=some S31)(h33:Γ 60=some S33)(h36:Γ 63=some S36)(h38:Γ 65=some S38)(h40:Γ 67=some S40)(h42:Γ 13=some S42)
  (o:Ob) (ho:o.ok):Z0a Tryz.prog Γ Tryz.f46 (e18 o) [] (.tup [.msl 0 0 0 (Z5I o).length,.int .i64 (Z6z o)]) [.row ((Z5I o).map Z03) 1 0]:=by
 have hB:(BIG:Nat)=140737488355328:=rfl
 have hSM:SM=1048576:=rfl
 (intro X hP hΓ hL hfin; refine⟨_,rfl,?_⟩; rw [show Tryz.f46.ntmps=62 from rfl]; rw [show Tryz.f46.results.toList=[.tmp 2,.tmp 3] from rfl] at hfin; apply holds_of_ex X 400; simp (maxSteps:=1000000) only [push_cast,reduceCtorEq,Nat.reduceAdd,Nat.reduceMul,Nat.reduceSub,Nat.reduceBEq,Nat.reduceGT,Nat.reduceLT,Int.toNat_zero,Nat.reduceLeDiff,Int.reduceEq,Int.reduceLT,Int.reduceLE,hP,hΓ,hL,hfin,↓Z00,e18,h27])
 refine⟨ho,?_⟩
 refine Z02 (fun h=>?_) (fun h=>?_)
 ·have hf:Z1A o=false:=by simpa using h
  have hk:okB o=false:=by rw [okB,hf]; rfl
  ((first | with_reducible refine holds_of_ex X 400 _ _ _ ?_ | skip); simp (maxSteps:=1000000) only [push_cast,reduceCtorEq,Nat.reduceAdd,Nat.reduceMul,Nat.reduceSub,Nat.reduceBEq,Nat.reduceGT,Nat.reduceLT,Int.toNat_zero,Nat.reduceLeDiff,Int.reduceEq,Int.reduceLT,Int.reduceLE,hP,hΓ,hL,hfin,↓Z00])
  rw [show Z5I o=[] by rw [Z5I,hk]; rfl,show Z6z o=70 by rw [Z6z,hk]; rfl]
  refine Z0k.nilT 0 0 1 _ rfl rfl ?_
  exact Z06.pick1 (by simp [leF,Z2l,ren]) (by simp only [push_cast]) (by simp [scp,Z0Z]) (by simp only [push_cast])
 have hf:Z1A o=true:=by simpa using h
 have hb:=Z7A hf
 have hx:=Z6Y hf
 have ht:=Z2a o.name
 have hn:=ho.name
 ((first | with_reducible refine holds_of_ex X 400 _ _ _ ?_ | skip); simp (maxSteps:=1000000) only [push_cast,reduceCtorEq,Nat.reduceAdd,Nat.reduceMul,Nat.reduceSub,Nat.reduceBEq,Nat.reduceGT,Nat.reduceLT,Int.toNat_zero,Nat.reduceLeDiff,Int.reduceEq,Int.reduceLT,Int.reduceLE,hP,hΓ,hL,hfin,↓Z00])
 (refine Holds.drawn (Zg3 [.row o.c 13 0]) [0,1,4,7] (by rw [hP]; kernel_rfl) (by kernel_rfl) (by kernel_rfl) (by first | exact⟨_,[],rfl⟩ | exact⟨_,_,rfl⟩ | (simp only [push_cast]; done) | exact⟨[],by simp⟩) ?_; simp (maxSteps:=1000000) only [↓reduceIte,Option.getD_some,push_cast,reduceCtorEq,Nat.reduceAdd,Nat.reduceMul,Nat.reduceSub,Nat.reduceBEq,Nat.reduceGT,Nat.reduceLT,Int.toNat_zero,Nat.reduceLeDiff,Int.reduceEq,Int.reduceLT,Int.reduceLE,hP,hΓ,hL,hfin,↓Z00,h25,h28])
 refine⟨⟨Z17 Z3t rfl rfl,by omega⟩,⟨Z17 (Z3t++txt o.name) (by simp [Z3t,Z03]) (by simp [Z3t]; omega),by omega⟩,?_⟩
 obtain⟨q,hq⟩:∃q,q=Z3t++txt o.name++le4 o.key:=⟨_,rfl⟩
 have eb:AV.int .u8 67::AV.int .u8 82::AV.int .u8 79::AV.int .u8 49::(List.map Z03 (txt o.name)++List.map Z03 (le4 o.key))=q.map Z03:=by rw [hq]; simp [Z3t,Z03]
 have en:4+(txt o.name).length+(le4 o.key).length=q.length:=by rw [hq]; simp [Z3t]; omega
 have hql:q.length≤1048600:=by rw [hq]; simp [Z3t,le4]; omega
 rw [eb,en]
 have hbo:Z6k o=q++rI o.imps++rW o.code++Z8p o o.procs++num o.init++Z5a o.vars++Z5a o.shown++rS o.strs++rD o.descs++rF o.fixes:=by rw [hq]; rfl
 clear hq eb en
 have bI:(rI o.imps).length≤5+o.imps.length*1048600:=by
  have h1:=Z0q o.imps.length
  have h2:=Z0Y (fun _ x=>Z8q x) o.imps 1048600 o.imps.length fun i hi=>by
   have:=ho.imp _ (at_mem hi); have:=Z2a (o.imps.getD i default).name; simp only [Z8q,le4,List.length_append,List.length_cons,List.length_nil]; omega
  simp only [rI,List.length_append]; omega
 have bW:(rW o.code).length≤5+o.code.length*4:=by
  have h1:=Z0q o.code.length
  have h2:=Z0Y (fun _ x=>le4 x) o.code 4 o.code.length fun i hi=>by simp [le4]
  simp only [rW,List.length_append]; omega
 have bP:(Z8p o o.procs).length≤5+o.procs.length*1048600:=by
  have h1:=Z0q o.procs.length
  have h2:=Z0Y (Z6e o) o.procs 1048600 o.procs.length fun i hi=>Z7F ho i _ (by omega)
  simp only [Z8p,List.length_append]; omega
 have bN:=Z0q o.init
 have bV:=Z47 o.vars
 have bH:=Z47 o.shown
 have bS:(rS o.strs).length≤5+o.strs.length*1048600:=by
  have h1:=Z0q o.strs.length
  have h2:=Z0Y (fun _ x=>txt x) o.strs 1048600 o.strs.length fun i hi=>by have:=ho.str _ (at_mem hi); have:=Z2a (o.strs.getD i default); omega
  simp only [rS,List.length_append]; omega
 have bD:(rD o.descs).length≤5+o.descs.length*5242900:=by
  have h1:=Z0q o.descs.length
  have h2:=Z0Y (fun _ x=>Z99 x) o.descs 5242900 o.descs.length fun i hi=>by
   have:=ho.des _ (at_mem hi); have:=Z47 (o.descs.getD i default).tags; have:=Z0q (o.descs.getD i default).ty; have:=Z0q (o.descs.getD i default).size; simp only [Z99,List.length_append]; omega
  simp only [rD,List.length_append]; omega
 have bF:(rF o.fixes).length≤5+o.fixes.length*16:=by
  have h1:=Z0q o.fixes.length
  have h2:=Z0Y (fun _ x=>Z5s x) o.fixes 16 o.fixes.length fun i hi=>by
   have:=Z0q (o.fixes.getD i default).at_; have:=Z0q ((o.fixes.getD i default).m+1); have:=Z0q (o.fixes.getD i default).n; simp only [Z5s,List.length_append,List.length_cons,List.length_nil]; omega
  simp only [rF,List.length_append]; omega
 ((first | with_reducible refine holds_of_ex X 400 _ _ _ ?_ | skip); simp (maxSteps:=1000000) only [push_cast,reduceCtorEq,Nat.reduceAdd,Nat.reduceMul,Nat.reduceSub,Nat.reduceBEq,Nat.reduceGT,Nat.reduceLT,Int.toNat_zero,Nat.reduceLeDiff,Int.reduceEq,Int.reduceLT,Int.reduceLE,hP,hΓ,hL,hfin,↓Z00,h23,h28,h29,h31,h33,h36,h38,h40,h42,Z7O,←List.map_append,List.take_of_length_le,Nat.le_refl])
 rw [show enc (u32 o.init)=num o.init from rfl]
 refine⟨⟨own_row _,?_,ho.imps,ho.imp⟩,⟨Z17 _ rfl (by simp only [List.length_append]),?_,ho.code⟩,⟨Z17 _ rfl (by simp only [List.length_append]),?_,by omega,by omega,ho⟩,⟨Z17 _ rfl (by simp only [List.length_append]),Z3e _,?_⟩,
  ⟨Z17 _ rfl (by simp only [List.length_append]),?_,ho.vars⟩,⟨Z17 _ rfl (by simp only [List.length_append]),?_,ho.shown⟩,⟨Z17 _ rfl (by simp only [List.length_append]),?_,ho.strs,ho.str⟩,⟨Z17 _ rfl (by simp only [List.length_append]),?_,ho.descs,ho.des⟩,⟨Z17 _ rfl (by simp only [List.length_append]),?_,ho.fixes,hx⟩,?_⟩
 iterate 9 (· omega)
 have hlen:(Z35 o).length=(Z6k o).length+4:=by rw [Z35,List.length_append]; rfl
 have hlb:(Z6k o).length=q.length+(rI o.imps).length+(rW o.code).length+(Z8p o o.procs).length+(num o.init).length+(Z5a o.vars).length+(Z5a o.shown).length+(rS o.strs).length+(rD o.descs).length+(rF o.fixes).length:=by rw [hbo]; simp only [List.length_append]
 have hl4:∀w,(le4 w).length=4:=fun w=>rfl
 rw [←hbo]
 refine⟨by omega,⟨Z17 _ rfl (by rw [hlb]),by omega⟩,?_⟩
 refine Z02 (fun h=>?_) (fun h=>?_)
 ·have hk:okB o=false:=by
   have:=of_decide_eq_true h
   rw [hl4] at this
   rw [okB,hf,Bool.true_and,decide_eq_false_iff_not]; omega
  ((first | with_reducible refine holds_of_ex X 400 _ _ _ ?_ | skip); simp (maxSteps:=1000000) only [push_cast,reduceCtorEq,Nat.reduceAdd,Nat.reduceMul,Nat.reduceSub,Nat.reduceBEq,Nat.reduceGT,Nat.reduceLT,Int.toNat_zero,Nat.reduceLeDiff,Int.reduceEq,Int.reduceLT,Int.reduceLE,hP,hΓ,hL,hfin,↓Z00])
  rw [show Z5I o=[] by rw [Z5I,hk]; rfl,show Z6z o=70 by rw [Z6z,hk]; rfl]
  refine Z0k.nilT 0 0 1 _ rfl rfl ?_
  exact Z06.pick2 (by simp [leF,Z2l,ren]) (by simp only [push_cast]) (by simp [scp,Z0Z]) (by simp only [push_cast])
 ·have hk:okB o=true:=by
   have:=of_decide_eq_false h
   rw [hl4] at this
   rw [okB,hf,Bool.true_and,decide_eq_true_eq]; omega
  ((first | with_reducible refine holds_of_ex X 400 _ _ _ ?_ | skip); simp (maxSteps:=1000000) only [push_cast,reduceCtorEq,Nat.reduceAdd,Nat.reduceMul,Nat.reduceSub,Nat.reduceBEq,Nat.reduceGT,Nat.reduceLT,Int.toNat_zero,Nat.reduceLeDiff,Int.reduceEq,Int.reduceLT,Int.reduceLE,hP,hΓ,hL,hfin,↓Z00])
  rw [show Z5I o=Z35 o by rw [Z5I,hk]; rfl,show Z6z o=0 by rw [Z6z,hk]; rfl]
  rw [hl4,←hlb,←hlen,show Z6k o++le4 (Z4Y (Z6k o))=Z35 o from rfl]
  (refine Z0k.ver 1  0 (by simp only [push_cast,reduceCtorEq,Nat.reduceAdd,Nat.reduceMul,Nat.reduceSub,Nat.reduceBEq,Nat.reduceGT,Nat.reduceLT,Int.toNat_zero,Nat.reduceLeDiff,Int.reduceEq,Int.reduceLT,Int.reduceLE]) (by first | exact .inr (Nat.zero_le _) | (left; simp only [push_cast,reduceCtorEq,Nat.reduceAdd,Nat.reduceMul,Nat.reduceSub,Nat.reduceBEq,Nat.reduceGT,Nat.reduceLT,Int.toNat_zero,Nat.reduceLeDiff,Int.reduceEq,Int.reduceLT,Int.reduceLE]; first | done | omega) | (right; simp only [push_cast,reduceCtorEq,Nat.reduceAdd,Nat.reduceMul,Nat.reduceSub,Nat.reduceBEq,Nat.reduceGT,Nat.reduceLT,Int.toNat_zero,Nat.reduceLeDiff,Int.reduceEq,Int.reduceLT,Int.reduceLE]; first | done | omega)) ?_; simp only [push_cast,reduceCtorEq,Nat.reduceAdd,Nat.reduceMul,Nat.reduceSub,Nat.reduceBEq,Nat.reduceGT,Nat.reduceLT,Int.toNat_zero,Nat.reduceLeDiff,Int.reduceEq,Int.reduceLT,Int.reduceLE])
  exact Z06.pick1 (by simp [leF,Z2l,ren]) (by simp only [push_cast]) (by simp [scp,Z0Z]) (by simp only [push_cast])
theorem con18{Γ:Env}(h:Z07 Tryz.prog Γ)(h23:Γ 27=some S23)(h25:Γ 55=some S25)(h27:Γ 53=some S27)(h28:Γ 54=some S28)(h29:Γ 56=some S29)(h31:Γ 58=some S31)(h33:Γ 60=some S33)(h36:Γ 63=some S36)(h38:Γ 65=some S38)(h40:Γ 67=some S40)(h42:Γ 13=some S42):Con Tryz.prog 46 S18:=
 Z0t h (fn:=Tryz.f46) (by kernel_rfl) rfl (by kernel_rfl) inj18 (by first | (intro h; cases h; done) | exact fun _ _=>rfl) fun o ho=>body18 Γ h23 h25 h27 h28 h29 h31 h33 h36 h38 h40 h42 o ho
def e17:(Ob)→List AV:=fun o=>[.agg o.c]
def p17:(Ob)→Prop:=fun o=>o.ok
def r17:(Ob)→AV:=fun o=>.bool (okB o)
def g17:(Ob)→Heap:=fun o=>[]
theorem inj17:∀a b,e17 a=e17 b→a=b:=by
 rintro o o' h
 simp only [e17,Z0f,Z0h,Z0i,Z0g,Z0u,Z0F,Z0E,Z0z,Z0G,Z0D,Z0C,Z0J,List.cons.injEq,AV.int.injEq,AV.str.injEq,AV.bool.injEq,AV.sl.injEq,AV.agg.injEq,AV.ip.injEq,AV.fn.injEq,AV.ifc.injEq,AV.mpr.injEq,Int.natCast_inj,and_true,true_and] at h
 simp_all only
noncomputable def S17:Z0n:=Z2V e17 p17 r17 g17 true
theorem Zkn(o:(Ob)):Z1J e17 p17 [.agg o.c]=(o.ok):=Z0j inj17 p17 o
theorem ZjZ(o:(Ob)):Z10 e17 r17 .any [.agg o.c]=(.bool (okB o)):=Z08 inj17 r17 .any o
theorem ZkT(o:(Ob)):Z10 e17 g17 [] [.agg o.c]=([]):=Z08 inj17 g17 [] o
attribute [push_cast] S17 Zkn ZjZ ZkT
theorem body17(Γ:Env)(h18:Γ 46=some S18)(o:Ob)(ho:o.ok):Z0a Tryz.prog Γ Tryz.f16 (e17 o) [] (.bool (okB o)) []:=by
 (intro X hP hΓ hL hfin; refine⟨_,rfl,?_⟩; rw [show Tryz.f16.ntmps=12 from rfl]; rw [show Tryz.f16.results.toList=[.tmp 2] from rfl] at hfin; apply holds_of_ex X 400; simp (maxSteps:=1000000) only [push_cast,reduceCtorEq,Nat.reduceAdd,Nat.reduceMul,Nat.reduceSub,Nat.reduceBEq,Nat.reduceGT,Nat.reduceLT,Int.toNat_zero,Nat.reduceLeDiff,Int.reduceEq,Int.reduceLT,Int.reduceLE,hP,hΓ,hL,hfin,↓Z00,e17,h18])
 refine⟨ho,Z06.one ?_ rfl⟩
 rw [Z6z]
 cases okB o <;> rfl
theorem con17{Γ:Env}(h:Z07 Tryz.prog Γ)(h18:Γ 46=some S18):Con Tryz.prog 16 S17:=
 Z0t h (fn:=Tryz.f16) (by kernel_rfl) rfl (by kernel_rfl) inj17 (by first | (intro h; cases h; done) | exact fun _ _=>rfl) fun o ho=>body17 Γ h18 o ho
end Go.Proofs.YtmomhjmaanagaaaGreat.objDone