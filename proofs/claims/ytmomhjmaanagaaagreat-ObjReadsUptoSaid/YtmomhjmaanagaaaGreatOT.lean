/- Of objects: names, no two the same: by the program. Conditions stand in each. -/
import Derived.Test.YtmomhjmaanagaaaGreatMd
import Derived.Test.YtmomhjmaanagaaaGreatEng18
import Derived.Test.YtmomhjmaanagaaaGreatIter
set_option linter.unusedVariables false
set_option linter.unusedSimpArgs false
set_option maxRecDepth 100000
set_option maxHeartbeats 4000000
namespace Go.Proofs.YtmomhjmaanagaaaGreat.objDone
open Go Go.Eng Go.Proofs
theorem con92:Con Tryz.prog 95 Z8Q:=Con.sort ⟨Tryz.f95,by kernel_rfl,rfl,by kernel_rfl⟩ Tryz.slices_Sort_string (fun p cap w=>AnyM.slices_Sort_string_none Tryz.laysSlM6_f95 p cap w)
theorem con96:Con Tryz.prog 99 Z9c:=Con.compact ⟨Tryz.f99,by kernel_rfl,rfl,by kernel_rfl⟩ Tryz.slices_Compact_string Tryz.slices_Compact_string_empty
def e91:(List Z04)→List AV:=fun xs=>[.sl (xs.map .str) xs.length]
def p91:(List Z04)→Prop:=fun xs=>xs.length≤SM
def r91:(List Z04)→AV:=fun xs=>.msl 0 0 0 xs.length
def g91:(List Z04)→Heap:=fun xs=>[.row (xs.map .str) 1 0]
theorem inj91:∀a b,e91 a=e91 b→a=b:=by
 rintro xs xs' h
 simp only [e91,Z0f,Z0h,Z0i,Z0g,Z0u,Z0F,Z0E,Z0z,Z0G,Z0D,Z0C,Z0J,List.cons.injEq,AV.int.injEq,AV.str.injEq,AV.bool.injEq,AV.sl.injEq,AV.agg.injEq,AV.ip.injEq,AV.fn.injEq,AV.ifc.injEq,AV.mpr.injEq,Int.natCast_inj,and_true,true_and] at h
 simp_all only
noncomputable def S91:Z0n:=Z2V e91 p91 r91 g91 false
theorem ps91(xs:(List Z04)):Z1J e91 p91 [.sl (xs.map .str) xs.length]=(xs.length≤SM):=Z0j inj91 p91 xs
theorem rs91(xs:(List Z04)):Z10 e91 r91 .any [.sl (xs.map .str) xs.length]=(.msl 0 0 0 xs.length):=Z08 inj91 r91 .any xs
theorem hs91(xs:(List Z04)):Z10 e91 g91 [] [.sl (xs.map .str) xs.length]=([.row (xs.map .str) 1 0]):=Z08 inj91 g91 [] xs
attribute [push_cast] S91 ps91 rs91 hs91
theorem body91(Γ:Env)(xs:List Z04)(hl:xs.length≤SM):Z0a Tryz.prog Γ Tryz.f94 (e91 xs) [] (.msl 0 0 0 xs.length) [.row (xs.map .str) 1 0]:=by
 have hSM:SM=1048576:=rfl
 (intro X hP hΓ hL hfin; refine⟨_,rfl,?_⟩; rw [show Tryz.f94.ntmps=8 from rfl]; rw [show Tryz.f94.results.toList=[.tmp 2] from rfl] at hfin; apply holds_of_ex X 400; simp (maxSteps:=1000000) only [push_cast,reduceCtorEq,Nat.reduceAdd,Nat.reduceMul,Nat.reduceSub,Nat.reduceBEq,Nat.reduceGT,Nat.reduceLT,Int.toNat_zero,Nat.reduceLeDiff,Int.reduceEq,Int.reduceLT,Int.reduceLE,hP,hΓ,hL,hfin,↓Z00,e91])
 refine⟨fun h=>?_,by omega,?_⟩
 ·obtain rfl:xs=[]:=by simpa using h
  (refine Z0k.nil 0  1 rfl ?_; simp only [push_cast,reduceCtorEq,Nat.reduceAdd,Nat.reduceMul,Nat.reduceSub,Nat.reduceBEq,Nat.reduceGT,Nat.reduceLT,Int.toNat_zero,Nat.reduceLeDiff,Int.reduceEq,Int.reduceLT,Int.reduceLE])
  exact Z06.sameA
 ·(refine Z0k.ver 0  0 (by simp only [push_cast,reduceCtorEq,Nat.reduceAdd,Nat.reduceMul,Nat.reduceSub,Nat.reduceBEq,Nat.reduceGT,Nat.reduceLT,Int.toNat_zero,Nat.reduceLeDiff,Int.reduceEq,Int.reduceLT,Int.reduceLE]) (by first | exact .inr (Nat.zero_le _) | (left; simp only [push_cast,reduceCtorEq,Nat.reduceAdd,Nat.reduceMul,Nat.reduceSub,Nat.reduceBEq,Nat.reduceGT,Nat.reduceLT,Int.toNat_zero,Nat.reduceLeDiff,Int.reduceEq,Int.reduceLT,Int.reduceLE]; first | done | omega) | (right; simp only [push_cast,reduceCtorEq,Nat.reduceAdd,Nat.reduceMul,Nat.reduceSub,Nat.reduceBEq,Nat.reduceGT,Nat.reduceLT,Int.toNat_zero,Nat.reduceLeDiff,Int.reduceEq,Int.reduceLT,Int.reduceLE]; first | done | omega)) ?_; simp only [push_cast,reduceCtorEq,Nat.reduceAdd,Nat.reduceMul,Nat.reduceSub,Nat.reduceBEq,Nat.reduceGT,Nat.reduceLT,Int.toNat_zero,Nat.reduceLeDiff,Int.reduceEq,Int.reduceLT,Int.reduceLE])
  exact Z06.sameA
theorem con91{Γ:Env}(h:Z07 Tryz.prog Γ):Con Tryz.prog 94 S91:=
 Z0t h (fn:=Tryz.f94) (by kernel_rfl) rfl (by kernel_rfl) inj91 (by first | (intro h; cases h; done) | exact fun _ _=>rfl) fun xs hx=>body91 Γ xs hx
def Zhp(xs:List Z04):Int:=match xs.findIdx? (fun s=>!Z1g s) with
 | some i=>i
 | none=>-1
theorem Zho(xs:List Z04):decide (0≤Zhp xs)=!xs.all Z1g:=by
 unfold Zhp
 cases h:xs.findIdx? (fun s=>!Z1g s) with
 | none=>
  rw [List.findIdx?_eq_none_iff] at h
  have:xs.all Z1g=true:=List.all_eq_true.2 fun x hx=>by simpa using h x hx
  simp [this]
 | some i=>
  have:=List.findIdx?_eq_some_iff_getElem.1 h
  obtain⟨hi,h1,_⟩:=this
  have:xs.all Z1g=false:=List.all_eq_false.2 ⟨xs[i],List.getElem_mem _,by simpa using h1⟩
  simp [this]
def Zfm:(List Z04)→List AV:=fun xs=>[.sl (xs.map .str) xs.length,.fn (.func 97) [] []]
def Zks:(List Z04)→Prop:=fun xs=>xs.length≤SM∧∀s∈xs,s.length≤SM
def Zk3:(List Z04)→AV:=fun xs=>.int .i64 (Zhp xs)
def ZkX:(List Z04)→Heap:=fun xs=>[]
theorem inj102:∀a b,Zfm a=Zfm b→a=b:=by
 rintro xs xs' h
 simp only [Zfm,Z0f,Z0h,Z0i,Z0g,Z0u,Z0F,Z0E,Z0z,Z0G,Z0D,Z0C,Z0J,List.cons.injEq,AV.int.injEq,AV.str.injEq,AV.bool.injEq,AV.sl.injEq,AV.agg.injEq,AV.ip.injEq,AV.fn.injEq,AV.ifc.injEq,AV.mpr.injEq,Int.natCast_inj,and_true,true_and] at h
 simp_all only
noncomputable def S102:Z0n:=Z2V Zfm Zks Zk3 ZkX true
theorem Zkp(xs:(List Z04)):Z1J Zfm Zks [.sl (xs.map .str) xs.length,.fn (.func 97) [] []]=(xs.length≤SM∧∀s∈xs,s.length≤SM):=Z0j inj102 Zks xs
theorem Zk1(xs:(List Z04)):Z10 Zfm Zk3 .any [.sl (xs.map .str) xs.length,.fn (.func 97) [] []]=(.int .i64 (Zhp xs)):=Z08 inj102 Zk3 .any xs
theorem ZkV(xs:(List Z04)):Z10 Zfm ZkX [] [.sl (xs.map .str) xs.length,.fn (.func 97) [] []]=([]):=Z08 inj102 ZkX [] xs
attribute [push_cast] S102 Zkp Zk1 ZkV
theorem body102(Γ:Env)(h94:Γ 97=some S94)(xs:List Z04)(hl:xs.length≤SM)(hs:∀s∈xs,s.length≤SM):Z0a Tryz.prog Γ Tryz.f105 (Zfm xs) [] (.int .i64 (Zhp xs)) []:=by
 have hSM:SM=1048576:=rfl
 (intro X hP hΓ hL hfin; refine⟨_,rfl,?_⟩; rw [show Tryz.f105.ntmps=19 from rfl]; rw [show Tryz.f105.results.toList=[.tmp 4] from rfl] at hfin; apply holds_of_ex X 400; simp (maxSteps:=1000000) only [push_cast,reduceCtorEq,Nat.reduceAdd,Nat.reduceMul,Nat.reduceSub,Nat.reduceBEq,Nat.reduceGT,Nat.reduceLT,Int.toNat_zero,Nat.reduceLeDiff,Int.reduceEq,Int.reduceLT,Int.reduceLE,hP,hΓ,hL,hfin,↓Z00,Zfm])
 refine Holds.loopM (ι:={k:Nat // k≤xs.length∧∀j<k,Z1g (xs.getD j default)=true}) [true,true,false,false,false,false,false,true,false,false,false,false,false,false,false,false,false,false,false] (fun i=>[(8,.int .i64 i.1)]) (fun i=>[]) (fun i=>xs.length - i.1) ⟨0,Nat.zero_le _,fun j hj=>absurd hj (Nat.not_lt_zero _)⟩ ?_ ?_
 ·(rw [hL]; simp only [push_cast,Int.natCast_zero]; exact Z06.sameA)
 rintro⟨k,hk,ha⟩
 ((first | with_reducible refine holds_of_ex X 400 _ _ _ ?_ | skip); simp (maxSteps:=1000000) only [push_cast,reduceCtorEq,Nat.reduceAdd,Nat.reduceMul,Nat.reduceSub,Nat.reduceBEq,Nat.reduceGT,Nat.reduceLT,Int.toNat_zero,Nat.reduceLeDiff,Int.reduceEq,Int.reduceLT,Int.reduceLE,hP,hΓ,hL,hfin,↓Z00])
 ((with_reducible refine Z02 (fun h=>?_) (fun h=>?_)) <;> (try simp only [decide_eq_true_eq,decide_eq_false_iff_not,Bool.and_eq_true,Bool.or_eq_true,Bool.and_eq_false_iff,Bool.or_eq_false_iff,Bool.not_eq_true',Bool.not_eq_false',Bool.not_eq_true,Bool.not_eq_false,Int.not_lt,Int.not_le,beq_iff_eq,beq_eq_false_iff_ne,ne_eq,win_t,win_f] at h))
 ·have hk':k<xs.length:=by omega
  have hm:xs.getD k default∈xs:=by simp [List.getD,hk']
  ((first | with_reducible refine holds_of_ex X 400 _ _ _ ?_ | skip); simp (maxSteps:=1000000) only [push_cast,reduceCtorEq,Nat.reduceAdd,Nat.reduceMul,Nat.reduceSub,Nat.reduceBEq,Nat.reduceGT,Nat.reduceLT,Int.toNat_zero,Nat.reduceLeDiff,Int.reduceEq,Int.reduceLT,Int.reduceLE,hP,hΓ,hL,hfin,↓Z00,h94])
  refine⟨by omega,by omega,hs _ hm,?_⟩
  ((with_reducible refine Z02 (fun h=>?_) (fun h=>?_)) <;> (try simp only [decide_eq_true_eq,decide_eq_false_iff_not,Bool.and_eq_true,Bool.or_eq_true,Bool.and_eq_false_iff,Bool.or_eq_false_iff,Bool.not_eq_true',Bool.not_eq_false',Bool.not_eq_true,Bool.not_eq_false,Int.not_lt,Int.not_le,beq_iff_eq,beq_eq_false_iff_ne,ne_eq,win_t,win_f] at h))
  ·((first | with_reducible refine holds_of_ex X 400 _ _ _ ?_ | skip); simp (maxSteps:=1000000) only [push_cast,reduceCtorEq,Nat.reduceAdd,Nat.reduceMul,Nat.reduceSub,Nat.reduceBEq,Nat.reduceGT,Nat.reduceLT,Int.toNat_zero,Nat.reduceLeDiff,Int.reduceEq,Int.reduceLT,Int.reduceLE,hP,hΓ,hL,hfin,↓Z00])
   refine Z06.one ?_ rfl
   have:xs.findIdx? (fun s=>!Z1g s)=some k:=by
    rw [List.findIdx?_eq_some_iff_getElem]
    refine⟨hk',?_,fun j hj=>?_⟩
    ·simpa [List.getD,hk'] using h
    ·have:=ha j hj
     simpa [List.getD,show j<xs.length by omega] using this
   rw [Zhp,this]
  ·((first | with_reducible refine holds_of_ex X 400 _ _ _ ?_ | skip); simp (maxSteps:=1000000) only [push_cast,reduceCtorEq,Nat.reduceAdd,Nat.reduceMul,Nat.reduceSub,Nat.reduceBEq,Nat.reduceGT,Nat.reduceLT,Int.toNat_zero,Nat.reduceLeDiff,Int.reduceEq,Int.reduceLT,Int.reduceLE,hP,hΓ,hL,hfin,↓Z00,Z0c ((k:Int)+1) (by constructor <;> omega)])
   (refine⟨⟨k+1,by omega,fun j hj=>(Nat.lt_succ_iff_lt_or_eq.1 hj).elim (ha j) (fun e=>e▸h)⟩,by (try simp only [List.length_cons,List.length_append,List.length_nil]); omega,?_⟩; (try rw [hL]); (try simp only [push_cast,Int.natCast_zero]); first | (exact Z06.sameA) | (exact Z06.keep0A) | (exact Z06.keep1A) | (exact Z06.keep2A) | (exact Z06.keep3A))
 ·((first | with_reducible refine holds_of_ex X 400 _ _ _ ?_ | skip); simp (maxSteps:=1000000) only [push_cast,reduceCtorEq,Nat.reduceAdd,Nat.reduceMul,Nat.reduceSub,Nat.reduceBEq,Nat.reduceGT,Nat.reduceLT,Int.toNat_zero,Nat.reduceLeDiff,Int.reduceEq,Int.reduceLT,Int.reduceLE,hP,hΓ,hL,hfin,↓Z00])
  obtain rfl:k=xs.length:=by omega
  refine Z06.one ?_ rfl
  have:xs.findIdx? (fun s=>!Z1g s)=none:=by
   rw [List.findIdx?_eq_none_iff]
   intro x hx
   obtain⟨i,hi,rfl⟩:=List.mem_iff_getElem.1 hx
   have:=ha i hi
   simpa [List.getD,hi] using this
  rw [Zhp,this]
theorem con102{Γ:Env}(h:Z07 Tryz.prog Γ)(h94:Γ 97=some S94):Con Tryz.prog 105 S102:=
 Z0t h (fn:=Tryz.f105) (by kernel_rfl) rfl (by kernel_rfl) inj102 (by first | (intro h; cases h; done) | exact fun _ _=>rfl) fun xs hx=>body102 Γ h94 xs hx.1 hx.2
def e93:(List Z04)×(Nat)→List AV:=fun (xs,n)=>[.sl (xs.map .str) n,.fn (.func 97) [] []]
def p93:(List Z04)×(Nat)→Prop:=fun (xs,n)=>n=xs.length∧xs.length≤SM∧∀s∈xs,s.length≤SM
def r93:(List Z04)×(Nat)→AV:=fun (xs,n)=>.bool (!xs.all Z1g)
def g93:(List Z04)×(Nat)→Heap:=fun (xs,n)=>[]
theorem inj93:∀a b,e93 a=e93 b→a=b:=by
 rintro⟨xs,n⟩ ⟨xs',n'⟩ h
 simp only [e93,Z0f,Z0h,Z0i,Z0g,Z0u,Z0F,Z0E,Z0z,Z0G,Z0D,Z0C,Z0J,List.cons.injEq,AV.int.injEq,AV.str.injEq,AV.bool.injEq,AV.sl.injEq,AV.agg.injEq,AV.ip.injEq,AV.fn.injEq,AV.ifc.injEq,AV.mpr.injEq,Int.natCast_inj,and_true,true_and] at h
 simp_all only
noncomputable def S93:Z0n:=Z2V e93 p93 r93 g93 true
theorem ps93(xs:(List Z04))(n:(Nat)):Z1J e93 p93 [.sl (xs.map .str) n,.fn (.func 97) [] []]=(n=xs.length∧xs.length≤SM∧∀s∈xs,s.length≤SM):=Z0j inj93 p93 (xs,n)
theorem rs93(xs:(List Z04))(n:(Nat)):Z10 e93 r93 .any [.sl (xs.map .str) n,.fn (.func 97) [] []]=(.bool (!xs.all Z1g)):=Z08 inj93 r93 .any (xs,n)
theorem hs93(xs:(List Z04))(n:(Nat)):Z10 e93 g93 [] [.sl (xs.map .str) n,.fn (.func 97) [] []]=([]):=Z08 inj93 g93 [] (xs,n)
attribute [push_cast] S93 ps93 rs93 hs93
theorem body93(Γ:Env)(h102:Γ 105=some S102)(xs:List Z04)(hl:xs.length≤SM)(hs:∀s∈xs,s.length≤SM):Z0a Tryz.prog Γ Tryz.f96 (e93 (xs,xs.length)) [] (.bool (!xs.all Z1g)) []:=by
 (intro X hP hΓ hL hfin; refine⟨_,rfl,?_⟩; rw [show Tryz.f96.ntmps=9 from rfl]; rw [show Tryz.f96.results.toList=[.tmp 4] from rfl] at hfin; apply holds_of_ex X 400; simp (maxSteps:=1000000) only [push_cast,reduceCtorEq,Nat.reduceAdd,Nat.reduceMul,Nat.reduceSub,Nat.reduceBEq,Nat.reduceGT,Nat.reduceLT,Int.toNat_zero,Nat.reduceLeDiff,Int.reduceEq,Int.reduceLT,Int.reduceLE,hP,hΓ,hL,hfin,↓Z00,e93,h102])
 exact⟨⟨hl,hs⟩,Z06.one (by rw [Zho]) rfl⟩
theorem con93{Γ:Env}(h:Z07 Tryz.prog Γ)(h102:Γ 105=some S102):Con Tryz.prog 96 S93:=
 Z0t h (fn:=Tryz.f96) (by kernel_rfl) rfl (by kernel_rfl) inj93 (by first | (intro h; cases h; done) | exact fun _ _=>rfl) fun ⟨xs,n⟩ hx=>by obtain⟨rfl,h1,h2⟩:=hx; exact body93 Γ h102 xs h1 h2
def Z2g(xs:List Z04):Bool:=xs.all Z1g && decide xs.Nodup
theorem Zfx(xs:List Z04):(Z3U xs).all Z1g=xs.all Z1g:=by
 rw [Bool.eq_iff_iff,List.all_eq_true,List.all_eq_true]
 exact⟨fun h x hx=>h x ((Z3g xs).mem_iff.2 hx),fun h x hx=>h x ((Z3g xs).mem_iff.1 hx)⟩
def e53:(List Z04)×(Nat)→List AV:=fun (xs,n)=>[.sl (xs.map .str) n]
def p53:(List Z04)×(Nat)→Prop:=fun (xs,n)=>n=xs.length∧xs.length≤SM∧∀s∈xs,s.length≤SM
def r53:(List Z04)×(Nat)→AV:=fun (xs,n)=>.bool (Z2g xs)
def g53:(List Z04)×(Nat)→Heap:=fun (xs,n)=>[]
theorem inj53:∀a b,e53 a=e53 b→a=b:=by
 rintro⟨xs,n⟩ ⟨xs',n'⟩ h
 simp only [e53,Z0f,Z0h,Z0i,Z0g,Z0u,Z0F,Z0E,Z0z,Z0G,Z0D,Z0C,Z0J,List.cons.injEq,AV.int.injEq,AV.str.injEq,AV.bool.injEq,AV.sl.injEq,AV.agg.injEq,AV.ip.injEq,AV.fn.injEq,AV.ifc.injEq,AV.mpr.injEq,Int.natCast_inj,and_true,true_and] at h
 simp_all only
noncomputable def S53:Z0n:=Z2V e53 p53 r53 g53 true
theorem ps53(xs:(List Z04))(n:(Nat)):Z1J e53 p53 [.sl (xs.map .str) n]=(n=xs.length∧xs.length≤SM∧∀s∈xs,s.length≤SM):=Z0j inj53 p53 (xs,n)
theorem rs53(xs:(List Z04))(n:(Nat)):Z10 e53 r53 .any [.sl (xs.map .str) n]=(.bool (Z2g xs)):=Z08 inj53 r53 .any (xs,n)
theorem hs53(xs:(List Z04))(n:(Nat)):Z10 e53 g53 [] [.sl (xs.map .str) n]=([]):=Z08 inj53 g53 [] (xs,n)
attribute [push_cast] S53 ps53 rs53 hs53
theorem body53(Γ:Env)(h91:Γ 94=some S91)(h92:Γ 95=some Z8Q)(h93:Γ 96=some S93)(h96:Γ 99=some Z9c)(xs:List Z04)(hl:xs.length≤SM)(hs:∀s∈xs,s.length≤SM):Z0a Tryz.prog Γ Tryz.f74 (e53 (xs,xs.length)) [] (.bool (Z2g xs)) []:=by
 have hSM:SM=1048576:=rfl
 have hll:=Z4K xs
 have ht:List.take xs.length ((Z3U xs).map AV.str)=(Z3U xs).map AV.str:=List.take_of_length_le (by simp [hll])
 have hm:∀s∈Z3U xs,s.length≤SM:=fun s h=>hs s ((Z3g xs).mem_iff.1 h)
 have hc:=ZdE xs
 have hq:=Zfx xs
 cases ha:(Z3U xs).all Z1g with
 | false=>
  (intro X hP hΓ hL hfin; refine⟨_,rfl,?_⟩; rw [show Tryz.f74.ntmps=18 from rfl]; rw [show Tryz.f74.results.toList=[.tmp 2] from rfl] at hfin; apply holds_of_ex X 400; simp (maxSteps:=1000000) only [push_cast,reduceCtorEq,Nat.reduceAdd,Nat.reduceMul,Nat.reduceSub,Nat.reduceBEq,Nat.reduceGT,Nat.reduceLT,Int.toNat_zero,Nat.reduceLeDiff,Int.reduceEq,Int.reduceLT,Int.reduceLE,hP,hΓ,hL,hfin,↓Z00,e53,h91,h92,h93,h96,ht,ha])
  exact⟨hl,⟨by omega,xs,rfl,rfl⟩,⟨hll.symm,by omega,hm⟩,Z06.one (by rw [Z2g,←hq,ha]; rfl) rfl⟩
 | true=>
  (intro X hP hΓ hL hfin; refine⟨_,rfl,?_⟩; rw [show Tryz.f74.ntmps=18 from rfl]; rw [show Tryz.f74.results.toList=[.tmp 2] from rfl] at hfin; apply holds_of_ex X 400; simp (maxSteps:=1000000) only [push_cast,reduceCtorEq,Nat.reduceAdd,Nat.reduceMul,Nat.reduceSub,Nat.reduceBEq,Nat.reduceGT,Nat.reduceLT,Int.toNat_zero,Nat.reduceLeDiff,Int.reduceEq,Int.reduceLT,Int.reduceLE,hP,hΓ,hL,hfin,↓Z00,e53,h91,h92,h93,h96,ht,ha])
  refine⟨hl,⟨by omega,xs,rfl,rfl⟩,⟨hll.symm,by omega,hm⟩,⟨by omega,Z3U xs,rfl,hll.symm⟩,Z06.one ?_ rfl⟩
  rw [Z2g,←hq,ha,Bool.true_and]
  congr 1
  exact decide_eq_decide.2 (by rw [←hc,hll]; omega)
theorem con53{Γ:Env}(h:Z07 Tryz.prog Γ)(h91:Γ 94=some S91)(h92:Γ 95=some Z8Q)(h93:Γ 96=some S93)(h96:Γ 99=some Z9c):Con Tryz.prog 74 S53:=
 Z0t h (fn:=Tryz.f74) (by kernel_rfl) rfl (by kernel_rfl) inj53 (by first | (intro h; cases h; done) | exact fun _ _=>rfl) fun ⟨xs,n⟩ hx=>by obtain⟨rfl,h1,h2⟩:=hx; exact body53 Γ h91 h92 h93 h96 xs h1 h2
end Go.Proofs.YtmomhjmaanagaaaGreat.objDone