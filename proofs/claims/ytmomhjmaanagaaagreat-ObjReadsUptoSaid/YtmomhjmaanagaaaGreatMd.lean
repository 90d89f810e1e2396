/- Parts of the walk through objects. Conditions stand in each. -/
import Derived.Test.YtmomhjmaanagaaaGreatOS
set_option linter.unusedVariables false
set_option linter.unusedSimpArgs false
set_option maxRecDepth 100000
set_option maxHeartbeats 4000000
section
namespace Go.Proofs.YtmomhjmaanagaaaGreat.objDone
open Go Go.Eng Go.Proofs
def SM:Nat:=1048576
def e52:(Int)×(Int)×(Int)→List AV:=fun (n,a,b)=>[.int .i64 n,.int .i64 a,.int .i64 b]
def p52:(Int)×(Int)×(Int)→Prop:=fun (n,a,b)=>True
def r52:(Int)×(Int)×(Int)→AV:=fun (n,a,b)=>.bool (win n a b)
def g52:(Int)×(Int)×(Int)→Heap:=fun (n,a,b)=>[]
theorem inj52:∀a b,e52 a=e52 b→a=b:=by
 rintro⟨n,a,b⟩ ⟨n',a',b'⟩ h
 simp only [e52,Z0f,Z0h,Z0i,Z0g,Z0u,Z0F,Z0E,Z0z,Z0G,Z0D,Z0C,Z0J,List.cons.injEq,AV.int.injEq,AV.str.injEq,AV.bool.injEq,AV.sl.injEq,AV.agg.injEq,AV.ip.injEq,AV.fn.injEq,AV.ifc.injEq,AV.mpr.injEq,Int.natCast_inj,and_true,true_and] at h
 simp_all only
noncomputable def S52:Z0n:=Z2V e52 p52 r52 g52 true
theorem ps52(n:(Int))(a:(Int))(b:(Int)):Z1J e52 p52 [.int .i64 n,.int .i64 a,.int .i64 b]=(True):=Z0j inj52 p52 (n,a,b)
theorem rs52(n:(Int))(a:(Int))(b:(Int)):Z10 e52 r52 .any [.int .i64 n,.int .i64 a,.int .i64 b]=(.bool (win n a b)):=Z08 inj52 r52 .any (n,a,b)
theorem hs52(n:(Int))(a:(Int))(b:(Int)):Z10 e52 g52 [] [.int .i64 n,.int .i64 a,.int .i64 b]=([]):=Z08 inj52 g52 [] (n,a,b)
attribute [push_cast] S52 ps52 rs52 hs52
theorem body52(Γ:Env)(n a b:Int):Z0a Tryz.prog Γ Tryz.f73 (e52 (n,a,b)) [] (.bool (win n a b)) []:=by
 (intro X hP hΓ hL hfin; refine⟨_,rfl,?_⟩; rw [show Tryz.f73.ntmps=15 from rfl]; rw [show Tryz.f73.results.toList=[.tmp 6] from rfl] at hfin; apply holds_of_ex X 400; simp (maxSteps:=1000000) only [push_cast,reduceCtorEq,Nat.reduceAdd,Nat.reduceMul,Nat.reduceSub,Nat.reduceBEq,Nat.reduceGT,Nat.reduceLT,Int.toNat_zero,Nat.reduceLeDiff,Int.reduceEq,Int.reduceLT,Int.reduceLE,hP,hΓ,hL,hfin,↓Z00,e52])
 exact Z06.one rfl rfl
theorem con52{Γ:Env}(h:Z07 Tryz.prog Γ):Con Tryz.prog 73 S52:=
 Z0t h (fn:=Tryz.f73) (by kernel_rfl) rfl (by kernel_rfl) inj52 (by first | (intro h; cases h; done) | exact fun _ _=>rfl) fun ⟨n,a,b⟩ _=>body52 Γ n a b
theorem Zc8(i:Nat)(c:UInt8):(!(decide (97≤Z2x .or .u8 (c.toNat:Int) 32) && decide (Z2x .or .u8 (c.toNat:Int) 32≤122)) && (decide ((i:Int)=0) || decide ((c.toNat:Int)<48) || decide (57<(c.toNat:Int))))=!may i c:=by
 have h1:(decide (97≤Z2x .or .u8 (c.toNat:Int) 32) && decide (Z2x .or .u8 (c.toNat:Int) 32≤122))=Z8e c:=
  ZhO (p:=fun c=>decide (97≤Z2x .or .u8 (c.toNat:Int) 32) && decide (Z2x .or .u8 (c.toNat:Int) 32≤122)) (q:=Z8e) (by kernel_rfl) c
 rw [h1,may,ZhH]
 cases Z8e c <;> simp
 by_cases h:i=0 <;> simp [h]
 rw [Bool.eq_iff_iff]; simp; omega
def e95:(Z04)→List AV:=fun s=>[.str s]
def p95:(Z04)→Prop:=fun s=>s.length≤SM
def r95:(Z04)→AV:=fun s=>.bool (Z1g s)
def g95:(Z04)→Heap:=fun s=>[]
theorem inj95:∀a b,e95 a=e95 b→a=b:=by
 rintro s s' h
 simp only [e95,Z0f,Z0h,Z0i,Z0g,Z0u,Z0F,Z0E,Z0z,Z0G,Z0D,Z0C,Z0J,List.cons.injEq,AV.int.injEq,AV.str.injEq,AV.bool.injEq,AV.sl.injEq,AV.agg.injEq,AV.ip.injEq,AV.fn.injEq,AV.ifc.injEq,AV.mpr.injEq,Int.natCast_inj,and_true,true_and] at h
 simp_all only
noncomputable def S95:Z0n:=Z2V e95 p95 r95 g95 true
theorem ps95(s:(Z04)):Z1J e95 p95 [.str s]=(s.length≤SM):=Z0j inj95 p95 s
theorem rs95(s:(Z04)):Z10 e95 r95 .any [.str s]=(.bool (Z1g s)):=Z08 inj95 r95 .any s
theorem hs95(s:(Z04)):Z10 e95 g95 [] [.str s]=([]):=Z08 inj95 g95 [] s
attribute [push_cast] S95 ps95 rs95 hs95
theorem body95(Γ:Env)(s:Z04)(hs:s.length≤SM):Z0a Tryz.prog Γ Tryz.f98 (e95 s) [] (.bool (Z1g s)) []:=by
 have hSM:SM=1048576:=rfl
 (intro X hP hΓ hL hfin; refine⟨_,rfl,?_⟩; rw [show Tryz.f98.ntmps=44 from rfl]; rw [show Tryz.f98.results.toList=[.tmp 2] from rfl] at hfin; apply holds_of_ex X 400; simp (maxSteps:=1000000) only [push_cast,reduceCtorEq,Nat.reduceAdd,Nat.reduceMul,Nat.reduceSub,Nat.reduceBEq,Nat.reduceGT,Nat.reduceLT,Int.toNat_zero,Nat.reduceLeDiff,Int.reduceEq,Int.reduceLT,Int.reduceLE,hP,hΓ,hL,hfin,↓Z00,e95])
 refine Holds.loopM (ι:={k:Nat // k≤s.length∧Z24 may s k=true}) [true,false,false,false,false,false,false,true,false,false,false,false,false,false,false,false,false,false,false,false,false,false,false,false,false,false,false,false,false,false,false,false,false,false,false,false,false,false,false,false,false,false,false,false] (fun i=>[(8,.int .i64 i.1)]) (fun i=>[]) (fun i=>s.length - i.1) ⟨0,Nat.zero_le _,rfl⟩ ?_ ?_
 ·(rw [hL]; simp only [push_cast,Int.natCast_zero]; exact Z06.sameA)
 rintro⟨k,hk,ha⟩
 ((first | with_reducible refine holds_of_ex X 400 _ _ _ ?_ | skip); simp (maxSteps:=1000000) only [push_cast,reduceCtorEq,Nat.reduceAdd,Nat.reduceMul,Nat.reduceSub,Nat.reduceBEq,Nat.reduceGT,Nat.reduceLT,Int.toNat_zero,Nat.reduceLeDiff,Int.reduceEq,Int.reduceLT,Int.reduceLE,hP,hΓ,hL,hfin,↓Z00])
 ((with_reducible refine Z02 (fun h=>?_) (fun h=>?_)) <;> (try simp only [decide_eq_true_eq,decide_eq_false_iff_not,Bool.and_eq_true,Bool.or_eq_true,Bool.and_eq_false_iff,Bool.or_eq_false_iff,Bool.not_eq_true',Bool.not_eq_false',Bool.not_eq_true,Bool.not_eq_false,Int.not_lt,Int.not_le,beq_iff_eq,beq_eq_false_iff_ne,ne_eq,win_t,win_f] at h))
 ·((first | with_reducible refine holds_of_ex X 400 _ _ _ ?_ | skip); simp (maxSteps:=1000000) only [push_cast,reduceCtorEq,Nat.reduceAdd,Nat.reduceMul,Nat.reduceSub,Nat.reduceBEq,Nat.reduceGT,Nat.reduceLT,Int.toNat_zero,Nat.reduceLeDiff,Int.reduceEq,Int.reduceLT,Int.reduceLE,hP,hΓ,hL,hfin,↓Z00])
  (repeat (refine And.intro (by first | exact True.intro | omega | assumption | exact own_row _ | (simp only [List.length_append]; omega) | (intro hg; (try simp only [decide_eq_true_eq,decide_eq_false_iff_not,Bool.and_eq_true,Bool.or_eq_true,Bool.and_eq_false_iff,Bool.or_eq_false_iff,Bool.not_eq_true',Bool.not_eq_false',Bool.not_eq_true,Bool.not_eq_false,Int.not_lt,Int.not_le,beq_iff_eq,beq_eq_false_iff_ne,ne_eq,win_t,win_f] at hg); omega)) ?_))
  rw [Zc8]
  ((with_reducible refine Z02 (fun h=>?_) (fun h=>?_)) <;> (try simp only [decide_eq_true_eq,decide_eq_false_iff_not,Bool.and_eq_true,Bool.or_eq_true,Bool.and_eq_false_iff,Bool.or_eq_false_iff,Bool.not_eq_true',Bool.not_eq_false',Bool.not_eq_true,Bool.not_eq_false,Int.not_lt,Int.not_le,beq_iff_eq,beq_eq_false_iff_ne,ne_eq,win_t,win_f] at h))
  ·((first | with_reducible refine holds_of_ex X 400 _ _ _ ?_ | skip); simp (maxSteps:=1000000) only [push_cast,reduceCtorEq,Nat.reduceAdd,Nat.reduceMul,Nat.reduceSub,Nat.reduceBEq,Nat.reduceGT,Nat.reduceLT,Int.toNat_zero,Nat.reduceLeDiff,Int.reduceEq,Int.reduceLT,Int.reduceLE,hP,hΓ,hL,hfin,↓Z00])
   exact Z06.one (by rw [Z1g,Z1h (k:=k) (by omega) h]; rfl) rfl
  ·((first | with_reducible refine holds_of_ex X 400 _ _ _ ?_ | skip); simp (maxSteps:=1000000) only [push_cast,reduceCtorEq,Nat.reduceAdd,Nat.reduceMul,Nat.reduceSub,Nat.reduceBEq,Nat.reduceGT,Nat.reduceLT,Int.toNat_zero,Nat.reduceLeDiff,Int.reduceEq,Int.reduceLT,Int.reduceLE,hP,hΓ,hL,hfin,↓Z00,Z0c ((k:Int)+1) (by constructor <;> omega)])
   (refine⟨⟨k+1,by omega,by rw [Z1w,ha,Bool.true_and]; exact h⟩,by (try simp only [List.length_cons,List.length_append,List.length_nil]); omega,?_⟩; (try rw [hL]); (try simp only [push_cast,Int.natCast_zero]); first | (exact Z06.sameA) | (exact Z06.keep0A) | (exact Z06.keep1A) | (exact Z06.keep2A) | (exact Z06.keep3A))
 ·((first | with_reducible refine holds_of_ex X 400 _ _ _ ?_ | skip); simp (maxSteps:=1000000) only [push_cast,reduceCtorEq,Nat.reduceAdd,Nat.reduceMul,Nat.reduceSub,Nat.reduceBEq,Nat.reduceGT,Nat.reduceLT,Int.toNat_zero,Nat.reduceLeDiff,Int.reduceEq,Int.reduceLT,Int.reduceLE,hP,hΓ,hL,hfin,↓Z00])
  obtain rfl:k=s.length:=by omega
  refine Z06.one ?_ rfl
  rw [Z1g,ha,Bool.true_and]
  congr 1
  rw [Bool.eq_iff_iff]; simp; intro _; omega
theorem con95{Γ:Env}(h:Z07 Tryz.prog Γ):Con Tryz.prog 98 S95:=
 Z0t h (fn:=Tryz.f98) (by kernel_rfl) rfl (by kernel_rfl) inj95 (by first | (intro h; cases h; done) | exact fun _ _=>rfl) fun s hs=>body95 Γ s hs
def e94:(Z04)→List AV:=fun s=>[.str s]
def p94:(Z04)→Prop:=fun s=>s.length≤SM
def r94:(Z04)→AV:=fun s=>.bool (!Z1g s)
def g94:(Z04)→Heap:=fun s=>[]
theorem inj94:∀a b,e94 a=e94 b→a=b:=by
 rintro s s' h
 simp only [e94,Z0f,Z0h,Z0i,Z0g,Z0u,Z0F,Z0E,Z0z,Z0G,Z0D,Z0C,Z0J,List.cons.injEq,AV.int.injEq,AV.str.injEq,AV.bool.injEq,AV.sl.injEq,AV.agg.injEq,AV.ip.injEq,AV.fn.injEq,AV.ifc.injEq,AV.mpr.injEq,Int.natCast_inj,and_true,true_and] at h
 simp_all only
noncomputable def S94:Z0n:=Z2V e94 p94 r94 g94 true
theorem ps94(s:(Z04)):Z1J e94 p94 [.str s]=(s.length≤SM):=Z0j inj94 p94 s
theorem rs94(s:(Z04)):Z10 e94 r94 .any [.str s]=(.bool (!Z1g s)):=Z08 inj94 r94 .any s
theorem hs94(s:(Z04)):Z10 e94 g94 [] [.str s]=([]):=Z08 inj94 g94 [] s
attribute [push_cast] S94 ps94 rs94 hs94
theorem body94(Γ:Env)(h95:Γ 98=some S95)(s:Z04)(hs:s.length≤SM):Z0a Tryz.prog Γ Tryz.f97 (e94 s) [] (.bool (!Z1g s)) []:=by
 (intro X hP hΓ hL hfin; refine⟨_,rfl,?_⟩; rw [show Tryz.f97.ntmps=6 from rfl]; rw [show Tryz.f97.results.toList=[.tmp 2] from rfl] at hfin; apply holds_of_ex X 400; simp (maxSteps:=1000000) only [push_cast,reduceCtorEq,Nat.reduceAdd,Nat.reduceMul,Nat.reduceSub,Nat.reduceBEq,Nat.reduceGT,Nat.reduceLT,Int.toNat_zero,Nat.reduceLeDiff,Int.reduceEq,Int.reduceLT,Int.reduceLE,hP,hΓ,hL,hfin,↓Z00,e94,h95])
 exact⟨hs,Z06.one rfl rfl⟩
theorem con94{Γ:Env}(h:Z07 Tryz.prog Γ)(h95:Γ 98=some S95):Con Tryz.prog 97 S94:=
 Z0t h (fn:=Tryz.f97) (by kernel_rfl) rfl (by kernel_rfl) inj94 (by first | (intro h; cases h; done) | exact fun _ _=>rfl) fun s hs=>body94 Γ h95 s hs
structure Ob.ok(o:Ob):Prop where
 name:o.name.length≤SM
 imps:o.imps.length≤SM
 code:o.code.length≤SM
 procs:o.procs.length≤SM
 names:o.names.length≤SM
 exps:o.exps.length≤SM
 vars:o.vars.length≤SM
 shown:o.shown.length≤SM
 strs:o.strs.length≤SM
 descs:o.descs.length≤SM
 fixes:o.fixes.length≤SM
 imp:∀x∈o.imps,x.name.length≤SM
 nam:∀x∈o.names,x.length≤SM
 str:∀x∈o.strs,x.length≤SM
 des:∀x∈o.descs,x.tags.length≤SM
def q55(o:Ob)(i:Nat)(v:Int):Bool:=win v 0 ((o.code.length:Int) - 1)
def q56(i:Nat)(v:Int):Bool:=win v 1 16384
def q57(o:Ob)(i:Nat)(v:Int):Bool:=win v 0 ((o.vars.length:Int) - 1) && (decide (i=0) || decide (o.shown.getD (i - 1) default<v))
def q59(i:Nat)(s:Z04):Bool:=decide (s.length≤200)
def q62(f:Int→Option Int)(i:Nat)(t:Int):Bool:=decide (0<(f t).getD 0)
def q61(o:Ob)(f:Int→Option Int)(i:Nat)(d:Ds):Bool:=(decide (i=0) || decide ((o.descs.getD (i - 1) default).ty<d.ty)) && win d.ty 8 199 && win d.size 0 16384 && decide (d.size.tmod 4=0) && win d.tags.length 1 4 &&
 decide (d.tags.getD (d.tags.length - 1) default=d.ty) && Z24 (q62 f) d.tags d.tags.length
def e55:(Nat)×(Int)×(Ob)→List AV:=fun (i,v,o)=>[.int .i64 i,.int .i64 v,.ip o.c]
def p55:(Nat)×(Int)×(Ob)→Prop:=fun (i,v,o)=>o.ok
def r55:(Nat)×(Int)×(Ob)→AV:=fun (i,v,o)=>.bool (q55 o i v)
def g55:(Nat)×(Int)×(Ob)→Heap:=fun (i,v,o)=>[]
theorem inj55:∀a b,e55 a=e55 b→a=b:=by
 rintro⟨i,v,o⟩ ⟨i',v',o'⟩ h
 simp only [e55,Z0f,Z0h,Z0i,Z0g,Z0u,Z0F,Z0E,Z0z,Z0G,Z0D,Z0C,Z0J,List.cons.injEq,AV.int.injEq,AV.str.injEq,AV.bool.injEq,AV.sl.injEq,AV.agg.injEq,AV.ip.injEq,AV.fn.injEq,AV.ifc.injEq,AV.mpr.injEq,Int.natCast_inj,and_true,true_and] at h
 simp_all only
noncomputable def S55:Z0n:=Z2V e55 p55 r55 g55 true
theorem ps55(i:(Nat))(v:(Int))(o:(Ob)):Z1J e55 p55 [.int .i64 i,.int .i64 v,.ip o.c]=(o.ok):=Z0j inj55 p55 (i,v,o)
theorem rs55(i:(Nat))(v:(Int))(o:(Ob)):Z10 e55 r55 .any [.int .i64 i,.int .i64 v,.ip o.c]=(.bool (q55 o i v)):=Z08 inj55 r55 .any (i,v,o)
theorem hs55(i:(Nat))(v:(Int))(o:(Ob)):Z10 e55 g55 [] [.int .i64 i,.int .i64 v,.ip o.c]=([]):=Z08 inj55 g55 [] (i,v,o)
attribute [push_cast] S55 ps55 rs55 hs55
theorem body55(Γ:Env)(h52:Γ 73=some S52)(i:Nat)(v:Int)(o:Ob)(ho:o.ok):Z0a Tryz.prog Γ Tryz.f76 (e55 (i,v,o)) [] (.bool (q55 o i v)) []:=by
 have hSM:SM=1048576:=rfl
 have:=ho.code
 (intro X hP hΓ hL hfin; refine⟨_,rfl,?_⟩; rw [show Tryz.f76.ntmps=12 from rfl]; rw [show Tryz.f76.results.toList=[.tmp 5] from rfl] at hfin; apply holds_of_ex X 400; simp (maxSteps:=1000000) only [push_cast,reduceCtorEq,Nat.reduceAdd,Nat.reduceMul,Nat.reduceSub,Nat.reduceBEq,Nat.reduceGT,Nat.reduceLT,Int.toNat_zero,Nat.reduceLeDiff,Int.reduceEq,Int.reduceLT,Int.reduceLE,hP,hΓ,hL,hfin,↓Z00,e55,h52,Z0c ((o.code.length:Int) - 1) (by constructor <;> omega)])
 exact Z06.one rfl rfl
theorem con55{Γ:Env}(h:Z07 Tryz.prog Γ)(h52:Γ 73=some S52):Con Tryz.prog 76 S55:=
 Z0t h (fn:=Tryz.f76) (by kernel_rfl) rfl (by kernel_rfl) inj55 (by first | (intro h; cases h; done) | exact fun _ _=>rfl) fun ⟨i,v,o⟩ ho=>body55 Γ h52 i v o ho
def e56:(Nat)×(Int)→List AV:=fun (i,v)=>[.int .i64 i,.int .i64 v]
def p56:(Nat)×(Int)→Prop:=fun (i,v)=>True
def r56:(Nat)×(Int)→AV:=fun (i,v)=>.bool (q56 i v)
def g56:(Nat)×(Int)→Heap:=fun (i,v)=>[]
theorem inj56:∀a b,e56 a=e56 b→a=b:=by
 rintro⟨i,v⟩ ⟨i',v'⟩ h
 simp only [e56,Z0f,Z0h,Z0i,Z0g,Z0u,Z0F,Z0E,Z0z,Z0G,Z0D,Z0C,Z0J,List.cons.injEq,AV.int.injEq,AV.str.injEq,AV.bool.injEq,AV.sl.injEq,AV.agg.injEq,AV.ip.injEq,AV.fn.injEq,AV.ifc.injEq,AV.mpr.injEq,Int.natCast_inj,and_true,true_and] at h
 simp_all only
noncomputable def S56:Z0n:=Z2V e56 p56 r56 g56 true
theorem ps56(i:(Nat))(v:(Int)):Z1J e56 p56 [.int .i64 i,.int .i64 v]=(True):=Z0j inj56 p56 (i,v)
theorem rs56(i:(Nat))(v:(Int)):Z10 e56 r56 .any [.int .i64 i,.int .i64 v]=(.bool (q56 i v)):=Z08 inj56 r56 .any (i,v)
theorem hs56(i:(Nat))(v:(Int)):Z10 e56 g56 [] [.int .i64 i,.int .i64 v]=([]):=Z08 inj56 g56 [] (i,v)
attribute [push_cast] S56 ps56 rs56 hs56
theorem body56(Γ:Env)(h52:Γ 73=some S52)(i:Nat)(v:Int):Z0a Tryz.prog Γ Tryz.f77 (e56 (i,v)) [] (.bool (q56 i v)) []:=by
 (intro X hP hΓ hL hfin; refine⟨_,rfl,?_⟩; rw [show Tryz.f77.ntmps=7 from rfl]; rw [show Tryz.f77.results.toList=[.tmp 4] from rfl] at hfin; apply holds_of_ex X 400; simp (maxSteps:=1000000) only [push_cast,reduceCtorEq,Nat.reduceAdd,Nat.reduceMul,Nat.reduceSub,Nat.reduceBEq,Nat.reduceGT,Nat.reduceLT,Int.toNat_zero,Nat.reduceLeDiff,Int.reduceEq,Int.reduceLT,Int.reduceLE,hP,hΓ,hL,hfin,↓Z00,e56,h52])
 exact Z06.one rfl rfl
theorem con56{Γ:Env}(h:Z07 Tryz.prog Γ)(h52:Γ 73=some S52):Con Tryz.prog 77 S56:=
 Z0t h (fn:=Tryz.f77) (by kernel_rfl) rfl (by kernel_rfl) inj56 (by first | (intro h; cases h; done) | exact fun _ _=>rfl) fun ⟨i,v⟩ ho=>body56 Γ h52 i v
def e57:(Nat)×(Int)×(Ob)→List AV:=fun (i,v,o)=>[.int .i64 i,.int .i64 v,.ip o.c]
def p57:(Nat)×(Int)×(Ob)→Prop:=fun (i,v,o)=>o.ok∧i<o.shown.length
def r57:(Nat)×(Int)×(Ob)→AV:=fun (i,v,o)=>.bool (q57 o i v)
def g57:(Nat)×(Int)×(Ob)→Heap:=fun (i,v,o)=>[]
theorem inj57:∀a b,e57 a=e57 b→a=b:=by
 rintro⟨i,v,o⟩ ⟨i',v',o'⟩ h
 simp only [e57,Z0f,Z0h,Z0i,Z0g,Z0u,Z0F,Z0E,Z0z,Z0G,Z0D,Z0C,Z0J,List.cons.injEq,AV.int.injEq,AV.str.injEq,AV.bool.injEq,AV.sl.injEq,AV.agg.injEq,AV.ip.injEq,AV.fn.injEq,AV.ifc.injEq,AV.mpr.injEq,Int.natCast_inj,and_true,true_and] at h
 simp_all only
noncomputable def S57:Z0n:=Z2V e57 p57 r57 g57 true
theorem ps57(i:(Nat))(v:(Int))(o:(Ob)):Z1J e57 p57 [.int .i64 i,.int .i64 v,.ip o.c]=(o.ok∧i<o.shown.length):=Z0j inj57 p57 (i,v,o)
theorem rs57(i:(Nat))(v:(Int))(o:(Ob)):Z10 e57 r57 .any [.int .i64 i,.int .i64 v,.ip o.c]=(.bool (q57 o i v)):=Z08 inj57 r57 .any (i,v,o)
theorem hs57(i:(Nat))(v:(Int))(o:(Ob)):Z10 e57 g57 [] [.int .i64 i,.int .i64 v,.ip o.c]=([]):=Z08 inj57 g57 [] (i,v,o)
attribute [push_cast] S57 ps57 rs57 hs57
set_option maxRecDepth 10000 in
theorem body57(Γ:Env)(h52:Γ 73=some S52)(i:Nat)(v:Int)(o:Ob)(ho:o.ok)(hi:i<o.shown.length):Z0a Tryz.prog Γ Tryz.f78 (e57 (i,v,o)) [] (.bool (q57 o i v)) []:=by
 have hSM:SM=1048576:=rfl
 have h1:=ho.vars
 have h2:=ho.shown
 have hz:((i:Int)=0)=(i=0):=by simp
 (intro X hP hΓ hL hfin; refine⟨_,rfl,?_⟩; rw [show Tryz.f78.ntmps=26 from rfl]; rw [show Tryz.f78.results.toList=[.tmp 5] from rfl] at hfin; apply holds_of_ex X 400; simp (maxSteps:=1000000) only [push_cast,reduceCtorEq,Nat.reduceAdd,Nat.reduceMul,Nat.reduceSub,Nat.reduceBEq,Nat.reduceGT,Nat.reduceLT,Int.toNat_zero,Nat.reduceLeDiff,Int.reduceEq,Int.reduceLT,Int.reduceLE,hP,hΓ,hL,hfin,↓Z00,e57,h52,hz,Z0c ((o.vars.length:Int) - 1) (by constructor <;> omega),Z0c ((i:Int) - 1) (by constructor <;> omega),(show i - 1<o.shown.length by omega)])
 (repeat (refine And.intro (by first | exact True.intro | omega | assumption | exact own_row _ | (simp only [List.length_append]; omega) | (intro hg; (try simp only [decide_eq_true_eq,decide_eq_false_iff_not,Bool.and_eq_true,Bool.or_eq_true,Bool.and_eq_false_iff,Bool.or_eq_false_iff,Bool.not_eq_true',Bool.not_eq_false',Bool.not_eq_true,Bool.not_eq_false,Int.not_lt,Int.not_le,beq_iff_eq,beq_eq_false_iff_ne,ne_eq,win_t,win_f] at hg); omega)) ?_))
 exact Z06.one rfl rfl
theorem con57{Γ:Env}(h:Z07 Tryz.prog Γ)(h52:Γ 73=some S52):Con Tryz.prog 78 S57:=
 Z0t h (fn:=Tryz.f78) (by kernel_rfl) rfl (by kernel_rfl) inj57 (by first | (intro h; cases h; done) | exact fun _ _=>rfl) fun ⟨i,v,o⟩ ho=>body57 Γ h52 i v o ho.1 ho.2
def e59:(Nat)×(Z04)→List AV:=fun (i,s)=>[.int .i64 i,.str s]
def p59:(Nat)×(Z04)→Prop:=fun (i,s)=>True
def r59:(Nat)×(Z04)→AV:=fun (i,s)=>.bool (q59 i s)
def g59:(Nat)×(Z04)→Heap:=fun (i,s)=>[]
theorem inj59:∀a b,e59 a=e59 b→a=b:=by
 rintro⟨i,s⟩ ⟨i',s'⟩ h
 simp only [e59,Z0f,Z0h,Z0i,Z0g,Z0u,Z0F,Z0E,Z0z,Z0G,Z0D,Z0C,Z0J,List.cons.injEq,AV.int.injEq,AV.str.injEq,AV.bool.injEq,AV.sl.injEq,AV.agg.injEq,AV.ip.injEq,AV.fn.injEq,AV.ifc.injEq,AV.mpr.injEq,Int.natCast_inj,and_true,true_and] at h
 simp_all only
noncomputable def S59:Z0n:=Z2V e59 p59 r59 g59 true
theorem ps59(i:(Nat))(s:(Z04)):Z1J e59 p59 [.int .i64 i,.str s]=(True):=Z0j inj59 p59 (i,s)
theorem rs59(i:(Nat))(s:(Z04)):Z10 e59 r59 .any [.int .i64 i,.str s]=(.bool (q59 i s)):=Z08 inj59 r59 .any (i,s)
theorem hs59(i:(Nat))(s:(Z04)):Z10 e59 g59 [] [.int .i64 i,.str s]=([]):=Z08 inj59 g59 [] (i,s)
attribute [push_cast] S59 ps59 rs59 hs59
theorem body59(Γ:Env)(i:Nat)(s:Z04):Z0a Tryz.prog Γ Tryz.f80 (e59 (i,s)) [] (.bool (q59 i s)) []:=by
 (intro X hP hΓ hL hfin; refine⟨_,rfl,?_⟩; rw [show Tryz.f80.ntmps=8 from rfl]; rw [show Tryz.f80.results.toList=[.tmp 4] from rfl] at hfin; apply holds_of_ex X 400; simp (maxSteps:=1000000) only [push_cast,reduceCtorEq,Nat.reduceAdd,Nat.reduceMul,Nat.reduceSub,Nat.reduceBEq,Nat.reduceGT,Nat.reduceLT,Int.toNat_zero,Nat.reduceLeDiff,Int.reduceEq,Int.reduceLT,Int.reduceLE,hP,hΓ,hL,hfin,↓Z00,e59])
 exact Z06.one (by rw [q59]; congr 1; (rw [Bool.eq_iff_iff]; simp only [decide_eq_true_eq,decide_eq_false_iff_not,Bool.and_eq_true,Bool.or_eq_true,Bool.and_eq_false_iff,Bool.or_eq_false_iff,Bool.not_eq_true',Bool.not_eq_false',Bool.not_eq_true,Bool.not_eq_false,Int.not_lt,Int.not_le,beq_iff_eq,beq_eq_false_iff_ne,ne_eq,win_t,win_f]; omega)) rfl
theorem con59{Γ:Env}(h:Z07 Tryz.prog Γ):Con Tryz.prog 80 S59:=
 Z0t h (fn:=Tryz.f80) (by kernel_rfl) rfl (by kernel_rfl) inj59 (by first | (intro h; cases h; done) | exact fun _ _=>rfl) fun ⟨i,s⟩ ho=>body59 Γ i s
def e62:(Nat)×(Int)×(Int→Option Int)→List AV:=fun (i,t,f)=>[.int .i64 i,.int .i64 t,.ip [.mpr (some .i64) (tm f)]]
def p62:(Nat)×(Int)×(Int→Option Int)→Prop:=fun (i,t,f)=>True
def r62:(Nat)×(Int)×(Int→Option Int)→AV:=fun (i,t,f)=>.bool (q62 f i t)
def g62:(Nat)×(Int)×(Int→Option Int)→Heap:=fun (i,t,f)=>[]
theorem inj62:∀a b,e62 a=e62 b→a=b:=by
 rintro⟨i,t,f⟩ ⟨i',t',f'⟩ h
 simp only [e62,Z0f,Z0h,Z0i,Z0g,Z0u,Z0F,Z0E,Z0z,Z0G,Z0D,Z0C,Z0J,List.cons.injEq,AV.int.injEq,AV.str.injEq,AV.bool.injEq,AV.sl.injEq,AV.agg.injEq,AV.ip.injEq,AV.fn.injEq,AV.ifc.injEq,AV.mpr.injEq,Int.natCast_inj,and_true,true_and] at h
 simp_all only
noncomputable def S62:Z0n:=Z2V e62 p62 r62 g62 true
theorem ps62(i:(Nat))(t:(Int))(f:(Int→Option Int)):Z1J e62 p62 [.int .i64 i,.int .i64 t,.ip [.mpr (some .i64) (tm f)]]=(True):=Z0j inj62 p62 (i,t,f)
theorem rs62(i:(Nat))(t:(Int))(f:(Int→Option Int)):Z10 e62 r62 .any [.int .i64 i,.int .i64 t,.ip [.mpr (some .i64) (tm f)]]=(.bool (q62 f i t)):=Z08 inj62 r62 .any (i,t,f)
theorem hs62(i:(Nat))(t:(Int))(f:(Int→Option Int)):Z10 e62 g62 [] [.int .i64 i,.int .i64 t,.ip [.mpr (some .i64) (tm f)]]=([]):=Z08 inj62 g62 [] (i,t,f)
attribute [push_cast] S62 ps62 rs62 hs62
theorem body62(Γ:Env)(i:Nat)(t:Int)(f:Int→Option Int):Z0a Tryz.prog Γ Tryz.f83 (e62 (i,t,f)) [] (.bool (q62 f i t)) []:=by
 (intro X hP hΓ hL hfin; refine⟨_,rfl,?_⟩; rw [show Tryz.f83.ntmps=10 from rfl]; rw [show Tryz.f83.results.toList=[.tmp 5] from rfl] at hfin; apply holds_of_ex X 400; simp (maxSteps:=1000000) only [push_cast,reduceCtorEq,Nat.reduceAdd,Nat.reduceMul,Nat.reduceSub,Nat.reduceBEq,Nat.reduceGT,Nat.reduceLT,Int.toNat_zero,Nat.reduceLeDiff,Int.reduceEq,Int.reduceLT,Int.reduceLE,hP,hΓ,hL,hfin,↓Z00,e62])
 exact Z06.one rfl rfl
theorem con62{Γ:Env}(h:Z07 Tryz.prog Γ):Con Tryz.prog 83 S62:=
 Z0t h (fn:=Tryz.f83) (by kernel_rfl) rfl (by kernel_rfl) inj62 (by first | (intro h; cases h; done) | exact fun _ _=>rfl) fun ⟨i,t,f⟩ ho=>body62 Γ i t f
theorem Z4W(Γ:Env)(g:FuncId)(sp:Z0n)(hg:Γ g=some sp)(hq:sp.quiet=true)(caps:List AV)(hc:Z1D caps=true)(xs:List Int)(p:Nat→Int→Bool)
  (hsp:∀i L,i<xs.length→sp.pre (.int .i64 i::(.int .i64 (xs.getD i default))::caps) L∧sp.res (.int .i64 i::(.int .i64 (xs.getD i default))::caps) L=.bool (p i (xs.getD i default))∧sp.post (.int .i64 i::(.int .i64 (xs.getD i default))::caps) L=L)
  (hl:xs.length≤SM):Z0a Tryz.prog Γ Tryz.f75 [.sl (xs.map (.int .i64)) xs.length,.fn (.func g) [] caps] [] (.bool (Z24 p xs xs.length)) []:=by
 have hcs:=Z0X 0 caps hc
 have hSM:SM=1048576:=rfl
 (intro X hP hΓ hL hfin; refine⟨_,rfl,?_⟩; rw [show Tryz.f75.ntmps=20 from rfl]; rw [show Tryz.f75.results.toList=[.tmp 4] from rfl] at hfin; apply holds_of_ex X 400; simp only [push_cast,reduceCtorEq,Nat.reduceAdd,Nat.reduceMul,Nat.reduceSub,Nat.reduceBEq,Nat.reduceGT,Nat.reduceLT,Int.toNat_zero,Nat.reduceLeDiff,Int.reduceEq,Int.reduceLT,Int.reduceLE,hP,hΓ,hL,hfin])
 refine Holds.loopM (ι:={k:Nat // k≤xs.length∧Z24 p xs k=true}) [false,true,false,false,false,false,false,true,true,false,false,false,false,false,false,false,false,false,false,false] (fun i=>[(9,.int .i64 i.1)]) (fun i=>[]) (fun i=>xs.length - i.1) ⟨0,Nat.zero_le _,rfl⟩ ?_ ?_
 ·(rw [hL]; simp only [push_cast,Int.natCast_zero]; exact Z06.same (by first | exact Z0d _ | (simp only [leF,true_and,and_true,and_self]; done) | (simp [leF]; done)) (by first | (simp only [push_cast,reduceCtorEq,Nat.reduceAdd,Nat.reduceMul,Nat.reduceSub,Nat.reduceBEq,Nat.reduceGT,Nat.reduceLT,Int.toNat_zero,Nat.reduceLeDiff,Int.reduceEq,Int.reduceLT,Int.reduceLE]; done) | simp only [push_cast,reduceCtorEq,Nat.reduceAdd,Nat.reduceMul,Nat.reduceSub,Nat.reduceBEq,Nat.reduceGT,Nat.reduceLT,Int.toNat_zero,Nat.reduceLeDiff,Int.reduceEq,Int.reduceLT,Int.reduceLE,hcs]) (by first | (simp only [push_cast,reduceCtorEq,Nat.reduceAdd,Nat.reduceMul,Nat.reduceSub,Nat.reduceBEq,Nat.reduceGT,Nat.reduceLT,Int.toNat_zero,Nat.reduceLeDiff,Int.reduceEq,Int.reduceLT,Int.reduceLE]; done) | simp only [push_cast,reduceCtorEq,Nat.reduceAdd,Nat.reduceMul,Nat.reduceSub,Nat.reduceBEq,Nat.reduceGT,Nat.reduceLT,Int.toNat_zero,Nat.reduceLeDiff,Int.reduceEq,Int.reduceLT,Int.reduceLE,hcs]) (by first | decide | simp))
 rintro⟨k,hk,ha⟩
 ((first | with_reducible refine holds_of_ex X 400 _ _ _ ?_ | skip); simp (maxSteps:=1000000) only [push_cast,reduceCtorEq,Nat.reduceAdd,Nat.reduceMul,Nat.reduceSub,Nat.reduceBEq,Nat.reduceGT,Nat.reduceLT,Int.toNat_zero,Nat.reduceLeDiff,Int.reduceEq,Int.reduceLT,Int.reduceLE,hP,hΓ,hL,hfin,↓Z00])
 ((with_reducible refine Z02 (fun h=>?_) (fun h=>?_)) <;> (try simp only [decide_eq_true_eq,decide_eq_false_iff_not,Bool.and_eq_true,Bool.or_eq_true,Bool.and_eq_false_iff,Bool.or_eq_false_iff,Bool.not_eq_true',Bool.not_eq_false',Bool.not_eq_true,Bool.not_eq_false,Int.not_lt,Int.not_le,beq_iff_eq,beq_eq_false_iff_ne,ne_eq,win_t,win_f] at h))
 ·have e:=fun L=>hsp k L (by omega)
  skip
  ((first | with_reducible refine holds_of_ex X 400 _ _ _ ?_ | skip); simp (maxSteps:=1000000) only [push_cast,reduceCtorEq,Nat.reduceAdd,Nat.reduceMul,Nat.reduceSub,Nat.reduceBEq,Nat.reduceGT,Nat.reduceLT,Int.toNat_zero,Nat.reduceLeDiff,Int.reduceEq,Int.reduceLT,Int.reduceLE,hP,hΓ,hL,hfin,↓Z00,hg,(e _).2.1,(e _).2.2,(e _).1,hq,(show k<xs.length by omega)])
  (repeat (refine And.intro (by first | exact True.intro | omega | assumption | exact own_row _ | (simp only [List.length_append]; omega) | (intro hg; (try simp only [decide_eq_true_eq,decide_eq_false_iff_not,Bool.and_eq_true,Bool.or_eq_true,Bool.and_eq_false_iff,Bool.or_eq_false_iff,Bool.not_eq_true',Bool.not_eq_false',Bool.not_eq_true,Bool.not_eq_false,Int.not_lt,Int.not_le,beq_iff_eq,beq_eq_false_iff_ne,ne_eq,win_t,win_f] at hg); omega)) ?_))
  ((with_reducible refine Z02 (fun h=>?_) (fun h=>?_)) <;> (try simp only [decide_eq_true_eq,decide_eq_false_iff_not,Bool.and_eq_true,Bool.or_eq_true,Bool.and_eq_false_iff,Bool.or_eq_false_iff,Bool.not_eq_true',Bool.not_eq_false',Bool.not_eq_true,Bool.not_eq_false,Int.not_lt,Int.not_le,beq_iff_eq,beq_eq_false_iff_ne,ne_eq,win_t,win_f] at h))
  ·((first | with_reducible refine holds_of_ex X 400 _ _ _ ?_ | skip); simp (maxSteps:=1000000) only [push_cast,reduceCtorEq,Nat.reduceAdd,Nat.reduceMul,Nat.reduceSub,Nat.reduceBEq,Nat.reduceGT,Nat.reduceLT,Int.toNat_zero,Nat.reduceLeDiff,Int.reduceEq,Int.reduceLT,Int.reduceLE,hP,hΓ,hL,hfin,↓Z00])
   exact Z06.one (by rw [Z1h (by omega) h]) rfl
  ·((first | with_reducible refine holds_of_ex X 400 _ _ _ ?_ | skip); simp (maxSteps:=1000000) only [push_cast,reduceCtorEq,Nat.reduceAdd,Nat.reduceMul,Nat.reduceSub,Nat.reduceBEq,Nat.reduceGT,Nat.reduceLT,Int.toNat_zero,Nat.reduceLeDiff,Int.reduceEq,Int.reduceLT,Int.reduceLE,hP,hΓ,hL,hfin,↓Z00,Z0c ((k:Int)+1) (by constructor <;> omega)])
   (refine⟨⟨k+1,by omega,by rw [Z1w,ha,h]; rfl⟩,by (try simp only [List.length_cons,List.length_append,List.length_nil]); omega,?_⟩; (try rw [hL]); (try simp only [push_cast,Int.natCast_zero]); first | (exact Z06.same (by first | exact Z0d _ | (simp only [leF,true_and,and_true,and_self]; done) | (simp [leF]; done)) (by first | (simp only [push_cast,reduceCtorEq,Nat.reduceAdd,Nat.reduceMul,Nat.reduceSub,Nat.reduceBEq,Nat.reduceGT,Nat.reduceLT,Int.toNat_zero,Nat.reduceLeDiff,Int.reduceEq,Int.reduceLT,Int.reduceLE]; done) | simp only [push_cast,reduceCtorEq,Nat.reduceAdd,Nat.reduceMul,Nat.reduceSub,Nat.reduceBEq,Nat.reduceGT,Nat.reduceLT,Int.toNat_zero,Nat.reduceLeDiff,Int.reduceEq,Int.reduceLT,Int.reduceLE,hcs]) (by first | (simp only [push_cast,reduceCtorEq,Nat.reduceAdd,Nat.reduceMul,Nat.reduceSub,Nat.reduceBEq,Nat.reduceGT,Nat.reduceLT,Int.toNat_zero,Nat.reduceLeDiff,Int.reduceEq,Int.reduceLT,Int.reduceLE]; done) | simp only [push_cast,reduceCtorEq,Nat.reduceAdd,Nat.reduceMul,Nat.reduceSub,Nat.reduceBEq,Nat.reduceGT,Nat.reduceLT,Int.toNat_zero,Nat.reduceLeDiff,Int.reduceEq,Int.reduceLT,Int.reduceLE,hcs]) (by first | decide | simp)) | ((refine Z06.keep0 (by first | exact Z0d _ | (simp only [leF,true_and,and_true,and_self]; done) | (simp [leF]; done)) (by first | (simp only [push_cast,reduceCtorEq,Nat.reduceAdd,Nat.reduceMul,Nat.reduceSub,Nat.reduceBEq,Nat.reduceGT,Nat.reduceLT,Int.toNat_zero,Nat.reduceLeDiff,Int.reduceEq,Int.reduceLT,Int.reduceLE]; done) | simp only [push_cast,reduceCtorEq,Nat.reduceAdd,Nat.reduceMul,Nat.reduceSub,Nat.reduceBEq,Nat.reduceGT,Nat.reduceLT,Int.toNat_zero,Nat.reduceLeDiff,Int.reduceEq,Int.reduceLT,Int.reduceLE,hcs]) (by first | rfl | (first | (simp only [push_cast,reduceCtorEq,Nat.reduceAdd,Nat.reduceMul,Nat.reduceSub,Nat.reduceBEq,Nat.reduceGT,Nat.reduceLT,Int.toNat_zero,Nat.reduceLeDiff,Int.reduceEq,Int.reduceLT,Int.reduceLE]; done) | simp only [push_cast,reduceCtorEq,Nat.reduceAdd,Nat.reduceMul,Nat.reduceSub,Nat.reduceBEq,Nat.reduceGT,Nat.reduceLT,Int.toNat_zero,Nat.reduceLeDiff,Int.reduceEq,Int.reduceLT,Int.reduceLE,hcs])) (by first | decide | simp))) | ((refine Z06.keep1 (by first | exact Z0d _ | (simp only [leF,true_and,and_true,and_self]; done) | (simp [leF]; done)) (by first | (simp only [push_cast,reduceCtorEq,Nat.reduceAdd,Nat.reduceMul,Nat.reduceSub,Nat.reduceBEq,Nat.reduceGT,Nat.reduceLT,Int.toNat_zero,Nat.reduceLeDiff,Int.reduceEq,Int.reduceLT,Int.reduceLE]; done) | simp only [push_cast,reduceCtorEq,Nat.reduceAdd,Nat.reduceMul,Nat.reduceSub,Nat.reduceBEq,Nat.reduceGT,Nat.reduceLT,Int.toNat_zero,Nat.reduceLeDiff,Int.reduceEq,Int.reduceLT,Int.reduceLE,hcs]) (by first | rfl | (first | (simp only [push_cast,reduceCtorEq,Nat.reduceAdd,Nat.reduceMul,Nat.reduceSub,Nat.reduceBEq,Nat.reduceGT,Nat.reduceLT,Int.toNat_zero,Nat.reduceLeDiff,Int.reduceEq,Int.reduceLT,Int.reduceLE]; done) | simp only [push_cast,reduceCtorEq,Nat.reduceAdd,Nat.reduceMul,Nat.reduceSub,Nat.reduceBEq,Nat.reduceGT,Nat.reduceLT,Int.toNat_zero,Nat.reduceLeDiff,Int.reduceEq,Int.reduceLT,Int.reduceLE,hcs])) (by first | decide | simp))) | ((refine Z06.keep2 (by first | exact Z0d _ | (simp only [leF,true_and,and_true,and_self]; done) | (simp [leF]; done)) (by first | (simp only [push_cast,reduceCtorEq,Nat.reduceAdd,Nat.reduceMul,Nat.reduceSub,Nat.reduceBEq,Nat.reduceGT,Nat.reduceLT,Int.toNat_zero,Nat.reduceLeDiff,Int.reduceEq,Int.reduceLT,Int.reduceLE]; done) | simp only [push_cast,reduceCtorEq,Nat.reduceAdd,Nat.reduceMul,Nat.reduceSub,Nat.reduceBEq,Nat.reduceGT,Nat.reduceLT,Int.toNat_zero,Nat.reduceLeDiff,Int.reduceEq,Int.reduceLT,Int.reduceLE,hcs]) (by first | rfl | (first | (simp only [push_cast,reduceCtorEq,Nat.reduceAdd,Nat.reduceMul,Nat.reduceSub,Nat.reduceBEq,Nat.reduceGT,Nat.reduceLT,Int.toNat_zero,Nat.reduceLeDiff,Int.reduceEq,Int.reduceLT,Int.reduceLE]; done) | simp only [push_cast,reduceCtorEq,Nat.reduceAdd,Nat.reduceMul,Nat.reduceSub,Nat.reduceBEq,Nat.reduceGT,Nat.reduceLT,Int.toNat_zero,Nat.reduceLeDiff,Int.reduceEq,Int.reduceLT,Int.reduceLE,hcs])) (by first | decide | simp))) | ((refine Z06.keep3 (by first | exact Z0d _ | (simp only [leF,true_and,and_true,and_self]; done) | (simp [leF]; done)) (by first | (simp only [push_cast,reduceCtorEq,Nat.reduceAdd,Nat.reduceMul,Nat.reduceSub,Nat.reduceBEq,Nat.reduceGT,Nat.reduceLT,Int.toNat_zero,Nat.reduceLeDiff,Int.reduceEq,Int.reduceLT,Int.reduceLE]; done) | simp only [push_cast,reduceCtorEq,Nat.reduceAdd,Nat.reduceMul,Nat.reduceSub,Nat.reduceBEq,Nat.reduceGT,Nat.reduceLT,Int.toNat_zero,Nat.reduceLeDiff,Int.reduceEq,Int.reduceLT,Int.reduceLE,hcs]) (by first | rfl | (first | (simp only [push_cast,reduceCtorEq,Nat.reduceAdd,Nat.reduceMul,Nat.reduceSub,Nat.reduceBEq,Nat.reduceGT,Nat.reduceLT,Int.toNat_zero,Nat.reduceLeDiff,Int.reduceEq,Int.reduceLT,Int.reduceLE]; done) | simp only [push_cast,reduceCtorEq,Nat.reduceAdd,Nat.reduceMul,Nat.reduceSub,Nat.reduceBEq,Nat.reduceGT,Nat.reduceLT,Int.toNat_zero,Nat.reduceLeDiff,Int.reduceEq,Int.reduceLT,Int.reduceLE,hcs])) (by first | decide | simp))))
 ·((first | with_reducible refine holds_of_ex X 400 _ _ _ ?_ | skip); simp (maxSteps:=1000000) only [push_cast,reduceCtorEq,Nat.reduceAdd,Nat.reduceMul,Nat.reduceSub,Nat.reduceBEq,Nat.reduceGT,Nat.reduceLT,Int.toNat_zero,Nat.reduceLeDiff,Int.reduceEq,Int.reduceLT,Int.reduceLE,hP,hΓ,hL,hfin,↓Z00])
  obtain rfl:k=xs.length:=by omega
  exact Z06.one (by rw [ha]) rfl
theorem ZdO(Γ:Env)(g:FuncId)(sp:Z0n)(hg:Γ g=some sp)(hq:sp.quiet=true)(caps:List AV)(hc:Z1D caps=true)(xs:List Z04)(p:Nat→Z04→Bool)
  (hsp:∀i L,i<xs.length→sp.pre (.int .i64 i::(.str (xs.getD i default))::caps) L∧sp.res (.int .i64 i::(.str (xs.getD i default))::caps) L=.bool (p i (xs.getD i default))∧sp.post (.int .i64 i::(.str (xs.getD i default))::caps) L=L)
  (hl:xs.length≤SM):Z0a Tryz.prog Γ Tryz.f79 [.sl (xs.map .str) xs.length,.fn (.func g) [] caps] [] (.bool (Z24 p xs xs.length)) []:=by
 have hcs:=Z0X 0 caps hc
 have hSM:SM=1048576:=rfl
 (intro X hP hΓ hL hfin; refine⟨_,rfl,?_⟩; rw [show Tryz.f79.ntmps=20 from rfl]; rw [show Tryz.f79.results.toList=[.tmp 4] from rfl] at hfin; apply holds_of_ex X 400; simp only [push_cast,reduceCtorEq,Nat.reduceAdd,Nat.reduceMul,Nat.reduceSub,Nat.reduceBEq,Nat.reduceGT,Nat.reduceLT,Int.toNat_zero,Nat.reduceLeDiff,Int.reduceEq,Int.reduceLT,Int.reduceLE,hP,hΓ,hL,hfin])
 refine Holds.loopM (ι:={k:Nat // k≤xs.length∧Z24 p xs k=true}) [false,true,false,false,false,false,false,true,true,false,false,false,false,false,false,false,false,false,false,false] (fun i=>[(9,.int .i64 i.1)]) (fun i=>[]) (fun i=>xs.length - i.1) ⟨0,Nat.zero_le _,rfl⟩ ?_ ?_
 ·(rw [hL]; simp only [push_cast,Int.natCast_zero]; exact Z06.same (by first | exact Z0d _ | (simp only [leF,true_and,and_true,and_self]; done) | (simp [leF]; done)) (by first | (simp only [push_cast,reduceCtorEq,Nat.reduceAdd,Nat.reduceMul,Nat.reduceSub,Nat.reduceBEq,Nat.reduceGT,Nat.reduceLT,Int.toNat_zero,Nat.reduceLeDiff,Int.reduceEq,Int.reduceLT,Int.reduceLE]; done) | simp only [push_cast,reduceCtorEq,Nat.reduceAdd,Nat.reduceMul,Nat.reduceSub,Nat.reduceBEq,Nat.reduceGT,Nat.reduceLT,Int.toNat_zero,Nat.reduceLeDiff,Int.reduceEq,Int.reduceLT,Int.reduceLE,hcs]) (by first | (simp only [push_cast,reduceCtorEq,Nat.reduceAdd,Nat.reduceMul,Nat.reduceSub,Nat.reduceBEq,Nat.reduceGT,Nat.reduceLT,Int.toNat_zero,Nat.reduceLeDiff,Int.reduceEq,Int.reduceLT,Int.reduceLE]; done) | simp only [push_cast,reduceCtorEq,Nat.reduceAdd,Nat.reduceMul,Nat.reduceSub,Nat.reduceBEq,Nat.reduceGT,Nat.reduceLT,Int.toNat_zero,Nat.reduceLeDiff,Int.reduceEq,Int.reduceLT,Int.reduceLE,hcs]) (by first | decide | simp))
 rintro⟨k,hk,ha⟩
 ((first | with_reducible refine holds_of_ex X 400 _ _ _ ?_ | skip); simp (maxSteps:=1000000) only [push_cast,reduceCtorEq,Nat.reduceAdd,Nat.reduceMul,Nat.reduceSub,Nat.reduceBEq,Nat.reduceGT,Nat.reduceLT,Int.toNat_zero,Nat.reduceLeDiff,Int.reduceEq,Int.reduceLT,Int.reduceLE,hP,hΓ,hL,hfin,↓Z00])
 ((with_reducible refine Z02 (fun h=>?_) (fun h=>?_)) <;> (try simp only [decide_eq_true_eq,decide_eq_false_iff_not,Bool.and_eq_true,Bool.or_eq_true,Bool.and_eq_false_iff,Bool.or_eq_false_iff,Bool.not_eq_true',Bool.not_eq_false',Bool.not_eq_true,Bool.not_eq_false,Int.not_lt,Int.not_le,beq_iff_eq,beq_eq_false_iff_ne,ne_eq,win_t,win_f] at h))
 ·have e:=fun L=>hsp k L (by omega)
  skip
  ((first | with_reducible refine holds_of_ex X 400 _ _ _ ?_ | skip); simp (maxSteps:=1000000) only [push_cast,reduceCtorEq,Nat.reduceAdd,Nat.reduceMul,Nat.reduceSub,Nat.reduceBEq,Nat.reduceGT,Nat.reduceLT,Int.toNat_zero,Nat.reduceLeDiff,Int.reduceEq,Int.reduceLT,Int.reduceLE,hP,hΓ,hL,hfin,↓Z00,hg,(e _).2.1,(e _).2.2,(e _).1,hq,(show k<xs.length by omega)])
  (repeat (refine And.intro (by first | exact True.intro | omega | assumption | exact own_row _ | (simp only [List.length_append]; omega) | (intro hg; (try simp only [decide_eq_true_eq,decide_eq_false_iff_not,Bool.and_eq_true,Bool.or_eq_true,Bool.and_eq_false_iff,Bool.or_eq_false_iff,Bool.not_eq_true',Bool.not_eq_false',Bool.not_eq_true,Bool.not_eq_false,Int.not_lt,Int.not_le,beq_iff_eq,beq_eq_false_iff_ne,ne_eq,win_t,win_f] at hg); omega)) ?_))
  ((with_reducible refine Z02 (fun h=>?_) (fun h=>?_)) <;> (try simp only [decide_eq_true_eq,decide_eq_false_iff_not,Bool.and_eq_true,Bool.or_eq_true,Bool.and_eq_false_iff,Bool.or_eq_false_iff,Bool.not_eq_true',Bool.not_eq_false',Bool.not_eq_true,Bool.not_eq_false,Int.not_lt,Int.not_le,beq_iff_eq,beq_eq_false_iff_ne,ne_eq,win_t,win_f] at h))
  ·((first | with_reducible refine holds_of_ex X 400 _ _ _ ?_ | skip); simp (maxSteps:=1000000) only [push_cast,reduceCtorEq,Nat.reduceAdd,Nat.reduceMul,Nat.reduceSub,Nat.reduceBEq,Nat.reduceGT,Nat.reduceLT,Int.toNat_zero,Nat.reduceLeDiff,Int.reduceEq,Int.reduceLT,Int.reduceLE,hP,hΓ,hL,hfin,↓Z00])
   exact Z06.one (by rw [Z1h (by omega) h]) rfl
  ·((first | with_reducible refine holds_of_ex X 400 _ _ _ ?_ | skip); simp (maxSteps:=1000000) only [push_cast,reduceCtorEq,Nat.reduceAdd,Nat.reduceMul,Nat.reduceSub,Nat.reduceBEq,Nat.reduceGT,Nat.reduceLT,Int.toNat_zero,Nat.reduceLeDiff,Int.reduceEq,Int.reduceLT,Int.reduceLE,hP,hΓ,hL,hfin,↓Z00,Z0c ((k:Int)+1) (by constructor <;> omega)])
   (refine⟨⟨k+1,by omega,by rw [Z1w,ha,h]; rfl⟩,by (try simp only [List.length_cons,List.length_append,List.length_nil]); omega,?_⟩; (try rw [hL]); (try simp only [push_cast,Int.natCast_zero]); first | (exact Z06.same (by first | exact Z0d _ | (simp only [leF,true_and,and_true,and_self]; done) | (simp [leF]; done)) (by first | (simp only [push_cast,reduceCtorEq,Nat.reduceAdd,Nat.reduceMul,Nat.reduceSub,Nat.reduceBEq,Nat.reduceGT,Nat.reduceLT,Int.toNat_zero,Nat.reduceLeDiff,Int.reduceEq,Int.reduceLT,Int.reduceLE]; done) | simp only [push_cast,reduceCtorEq,Nat.reduceAdd,Nat.reduceMul,Nat.reduceSub,Nat.reduceBEq,Nat.reduceGT,Nat.reduceLT,Int.toNat_zero,Nat.reduceLeDiff,Int.reduceEq,Int.reduceLT,Int.reduceLE,hcs]) (by first | (simp only [push_cast,reduceCtorEq,Nat.reduceAdd,Nat.reduceMul,Nat.reduceSub,Nat.reduceBEq,Nat.reduceGT,Nat.reduceLT,Int.toNat_zero,Nat.reduceLeDiff,Int.reduceEq,Int.reduceLT,Int.reduceLE]; done) | simp only [push_cast,reduceCtorEq,Nat.reduceAdd,Nat.reduceMul,Nat.reduceSub,Nat.reduceBEq,Nat.reduceGT,Nat.reduceLT,Int.toNat_zero,Nat.reduceLeDiff,Int.reduceEq,Int.reduceLT,Int.reduceLE,hcs]) (by first | decide | simp)) | ((refine Z06.keep0 (by first | exact Z0d _ | (simp only [leF,true_and,and_true,and_self]; done) | (simp [leF]; done)) (by first | (simp only [push_cast,reduceCtorEq,Nat.reduceAdd,Nat.reduceMul,Nat.reduceSub,Nat.reduceBEq,Nat.reduceGT,Nat.reduceLT,Int.toNat_zero,Nat.reduceLeDiff,Int.reduceEq,Int.reduceLT,Int.reduceLE]; done) | simp only [push_cast,reduceCtorEq,Nat.reduceAdd,Nat.reduceMul,Nat.reduceSub,Nat.reduceBEq,Nat.reduceGT,Nat.reduceLT,Int.toNat_zero,Nat.reduceLeDiff,Int.reduceEq,Int.reduceLT,Int.reduceLE,hcs]) (by first | rfl | (first | (simp only [push_cast,reduceCtorEq,Nat.reduceAdd,Nat.reduceMul,Nat.reduceSub,Nat.reduceBEq,Nat.reduceGT,Nat.reduceLT,Int.toNat_zero,Nat.reduceLeDiff,Int.reduceEq,Int.reduceLT,Int.reduceLE]; done) | simp only [push_cast,reduceCtorEq,Nat.reduceAdd,Nat.reduceMul,Nat.reduceSub,Nat.reduceBEq,Nat.reduceGT,Nat.reduceLT,Int.toNat_zero,Nat.reduceLeDiff,Int.reduceEq,Int.reduceLT,Int.reduceLE,hcs])) (by first | decide | simp))) | ((refine Z06.keep1 (by first | exact Z0d _ | (simp only [leF,true_and,and_true,and_self]; done) | (simp [leF]; done)) (by first | (simp only [push_cast,reduceCtorEq,Nat.reduceAdd,Nat.reduceMul,Nat.reduceSub,Nat.reduceBEq,Nat.reduceGT,Nat.reduceLT,Int.toNat_zero,Nat.reduceLeDiff,Int.reduceEq,Int.reduceLT,Int.reduceLE]; done) | simp only [push_cast,reduceCtorEq,Nat.reduceAdd,Nat.reduceMul,Nat.reduceSub,Nat.reduceBEq,Nat.reduceGT,Nat.reduceLT,Int.toNat_zero,Nat.reduceLeDiff,Int.reduceEq,Int.reduceLT,Int.reduceLE,hcs]) (by first | rfl | (first | (simp only [push_cast,reduceCtorEq,Nat.reduceAdd,Nat.reduceMul,Nat.reduceSub,Nat.reduceBEq,Nat.reduceGT,Nat.reduceLT,Int.toNat_zero,Nat.reduceLeDiff,Int.reduceEq,Int.reduceLT,Int.reduceLE]; done) | simp only [push_cast,reduceCtorEq,Nat.reduceAdd,Nat.reduceMul,Nat.reduceSub,Nat.reduceBEq,Nat.reduceGT,Nat.reduceLT,Int.toNat_zero,Nat.reduceLeDiff,Int.reduceEq,Int.reduceLT,Int.reduceLE,hcs])) (by first | decide | simp))) | ((refine Z06.keep2 (by first | exact Z0d _ | (simp only [leF,true_and,and_true,and_self]; done) | (simp [leF]; done)) (by first | (simp only [push_cast,reduceCtorEq,Nat.reduceAdd,Nat.reduceMul,Nat.reduceSub,Nat.reduceBEq,Nat.reduceGT,Nat.reduceLT,Int.toNat_zero,Nat.reduceLeDiff,Int.reduceEq,Int.reduceLT,Int.reduceLE]; done) | simp only [push_cast,reduceCtorEq,Nat.reduceAdd,Nat.reduceMul,Nat.reduceSub,Nat.reduceBEq,Nat.reduceGT,Nat.reduceLT,Int.toNat_zero,Nat.reduceLeDiff,Int.reduceEq,Int.reduceLT,Int.reduceLE,hcs]) (by first | rfl | (first | (simp only [push_cast,reduceCtorEq,Nat.reduceAdd,Nat.reduceMul,Nat.reduceSub,Nat.reduceBEq,Nat.reduceGT,Nat.reduceLT,Int.toNat_zero,Nat.reduceLeDiff,Int.reduceEq,Int.reduceLT,Int.reduceLE]; done) | simp only [push_cast,reduceCtorEq,Nat.reduceAdd,Nat.reduceMul,Nat.reduceSub,Nat.reduceBEq,Nat.reduceGT,Nat.reduceLT,Int.toNat_zero,Nat.reduceLeDiff,Int.reduceEq,Int.reduceLT,Int.reduceLE,hcs])) (by first | decide | simp))) | ((refine Z06.keep3 (by first | exact Z0d _ | (simp only [leF,true_and,and_true,and_self]; done) | (simp [leF]; done)) (by first | (simp only [push_cast,reduceCtorEq,Nat.reduceAdd,Nat.reduceMul,Nat.reduceSub,Nat.reduceBEq,Nat.reduceGT,Nat.reduceLT,Int.toNat_zero,Nat.reduceLeDiff,Int.reduceEq,Int.reduceLT,Int.reduceLE]; done) | simp only [push_cast,reduceCtorEq,Nat.reduceAdd,Nat.reduceMul,Nat.reduceSub,Nat.reduceBEq,Nat.reduceGT,Nat.reduceLT,Int.toNat_zero,Nat.reduceLeDiff,Int.reduceEq,Int.reduceLT,Int.reduceLE,hcs]) (by first | rfl | (first | (simp only [push_cast,reduceCtorEq,Nat.reduceAdd,Nat.reduceMul,Nat.reduceSub,Nat.reduceBEq,Nat.reduceGT,Nat.reduceLT,Int.toNat_zero,Nat.reduceLeDiff,Int.reduceEq,Int.reduceLT,Int.reduceLE]; done) | simp only [push_cast,reduceCtorEq,Nat.reduceAdd,Nat.reduceMul,Nat.reduceSub,Nat.reduceBEq,Nat.reduceGT,Nat.reduceLT,Int.toNat_zero,Nat.reduceLeDiff,Int.reduceEq,Int.reduceLT,Int.reduceLE,hcs])) (by first | decide | simp))))
 ·((first | with_reducible refine holds_of_ex X 400 _ _ _ ?_ | skip); simp (maxSteps:=1000000) only [push_cast,reduceCtorEq,Nat.reduceAdd,Nat.reduceMul,Nat.reduceSub,Nat.reduceBEq,Nat.reduceGT,Nat.reduceLT,Int.toNat_zero,Nat.reduceLeDiff,Int.reduceEq,Int.reduceLT,Int.reduceLE,hP,hΓ,hL,hfin,↓Z00])
  obtain rfl:k=xs.length:=by omega
  exact Z06.one (by rw [ha]) rfl
theorem ZdQ(Γ:Env)(g:FuncId)(sp:Z0n)(hg:Γ g=some sp)(hq:sp.quiet=true)(caps:List AV)(hc:Z1D caps=true)(xs:List Ds)(p:Nat→Ds→Bool)
  (hsp:∀i L,i<xs.length→sp.pre (.int .i64 i::(.agg <| Ds.c (xs.getD i default))::caps) L∧sp.res (.int .i64 i::(.agg <| Ds.c (xs.getD i default))::caps) L=.bool (p i (xs.getD i default))∧sp.post (.int .i64 i::(.agg <| Ds.c (xs.getD i default))::caps) L=L)
  (hl:xs.length≤SM):Z0a Tryz.prog Γ Tryz.f81 [.sl (xs.flatMap Ds.c) xs.length,.fn (.func g) [] caps] [] (.bool (Z24 p xs xs.length)) []:=by
 have hcs:=Z0X 0 caps hc
 have hSM:SM=1048576:=rfl
 (intro X hP hΓ hL hfin; refine⟨_,rfl,?_⟩; rw [show Tryz.f81.ntmps=20 from rfl]; rw [show Tryz.f81.results.toList=[.tmp 4] from rfl] at hfin; apply holds_of_ex X 400; simp only [push_cast,reduceCtorEq,Nat.reduceAdd,Nat.reduceMul,Nat.reduceSub,Nat.reduceBEq,Nat.reduceGT,Nat.reduceLT,Int.toNat_zero,Nat.reduceLeDiff,Int.reduceEq,Int.reduceLT,Int.reduceLE,hP,hΓ,hL,hfin])
 refine Holds.loopM (ι:={k:Nat // k≤xs.length∧Z24 p xs k=true}) [false,true,false,false,false,false,false,true,true,false,false,false,false,false,false,false,false,false,false,false] (fun i=>[(9,.int .i64 i.1)]) (fun i=>[]) (fun i=>xs.length - i.1) ⟨0,Nat.zero_le _,rfl⟩ ?_ ?_
 ·(rw [hL]; simp only [push_cast,Int.natCast_zero]; exact Z06.same (by first | exact Z0d _ | (simp only [leF,true_and,and_true,and_self]; done) | (simp [leF]; done)) (by first | (simp only [push_cast,reduceCtorEq,Nat.reduceAdd,Nat.reduceMul,Nat.reduceSub,Nat.reduceBEq,Nat.reduceGT,Nat.reduceLT,Int.toNat_zero,Nat.reduceLeDiff,Int.reduceEq,Int.reduceLT,Int.reduceLE]; done) | simp only [push_cast,reduceCtorEq,Nat.reduceAdd,Nat.reduceMul,Nat.reduceSub,Nat.reduceBEq,Nat.reduceGT,Nat.reduceLT,Int.toNat_zero,Nat.reduceLeDiff,Int.reduceEq,Int.reduceLT,Int.reduceLE,hcs]) (by first | (simp only [push_cast,reduceCtorEq,Nat.reduceAdd,Nat.reduceMul,Nat.reduceSub,Nat.reduceBEq,Nat.reduceGT,Nat.reduceLT,Int.toNat_zero,Nat.reduceLeDiff,Int.reduceEq,Int.reduceLT,Int.reduceLE]; done) | simp only [push_cast,reduceCtorEq,Nat.reduceAdd,Nat.reduceMul,Nat.reduceSub,Nat.reduceBEq,Nat.reduceGT,Nat.reduceLT,Int.toNat_zero,Nat.reduceLeDiff,Int.reduceEq,Int.reduceLT,Int.reduceLE,hcs]) (by first | decide | simp))
 rintro⟨k,hk,ha⟩
 ((first | with_reducible refine holds_of_ex X 400 _ _ _ ?_ | skip); simp (maxSteps:=1000000) only [push_cast,reduceCtorEq,Nat.reduceAdd,Nat.reduceMul,Nat.reduceSub,Nat.reduceBEq,Nat.reduceGT,Nat.reduceLT,Int.toNat_zero,Nat.reduceLeDiff,Int.reduceEq,Int.reduceLT,Int.reduceLE,hP,hΓ,hL,hfin,↓Z00])
 ((with_reducible refine Z02 (fun h=>?_) (fun h=>?_)) <;> (try simp only [decide_eq_true_eq,decide_eq_false_iff_not,Bool.and_eq_true,Bool.or_eq_true,Bool.and_eq_false_iff,Bool.or_eq_false_iff,Bool.not_eq_true',Bool.not_eq_false',Bool.not_eq_true,Bool.not_eq_false,Int.not_lt,Int.not_le,beq_iff_eq,beq_eq_false_iff_ne,ne_eq,win_t,win_f] at h))
 ·have e:=fun L=>hsp k L (by omega)
  skip
  ((first | with_reducible refine holds_of_ex X 400 _ _ _ ?_ | skip); simp (maxSteps:=1000000) only [push_cast,reduceCtorEq,Nat.reduceAdd,Nat.reduceMul,Nat.reduceSub,Nat.reduceBEq,Nat.reduceGT,Nat.reduceLT,Int.toNat_zero,Nat.reduceLeDiff,Int.reduceEq,Int.reduceLT,Int.reduceLE,hP,hΓ,hL,hfin,↓Z00,hg,(e _).2.1,(e _).2.2,(e _).1,hq,(show k<xs.length by omega)])
  (repeat (refine And.intro (by first | exact True.intro | omega | assumption | exact own_row _ | (simp only [List.length_append]; omega) | (intro hg; (try simp only [decide_eq_true_eq,decide_eq_false_iff_not,Bool.and_eq_true,Bool.or_eq_true,Bool.and_eq_false_iff,Bool.or_eq_false_iff,Bool.not_eq_true',Bool.not_eq_false',Bool.not_eq_true,Bool.not_eq_false,Int.not_lt,Int.not_le,beq_iff_eq,beq_eq_false_iff_ne,ne_eq,win_t,win_f] at hg); omega)) ?_))
  ((with_reducible refine Z02 (fun h=>?_) (fun h=>?_)) <;> (try simp only [decide_eq_true_eq,decide_eq_false_iff_not,Bool.and_eq_true,Bool.or_eq_true,Bool.and_eq_false_iff,Bool.or_eq_false_iff,Bool.not_eq_true',Bool.not_eq_false',Bool.not_eq_true,Bool.not_eq_false,Int.not_lt,Int.not_le,beq_iff_eq,beq_eq_false_iff_ne,ne_eq,win_t,win_f] at h))
  ·((first | with_reducible refine holds_of_ex X 400 _ _ _ ?_ | skip); simp (maxSteps:=1000000) only [push_cast,reduceCtorEq,Nat.reduceAdd,Nat.reduceMul,Nat.reduceSub,Nat.reduceBEq,Nat.reduceGT,Nat.reduceLT,Int.toNat_zero,Nat.reduceLeDiff,Int.reduceEq,Int.reduceLT,Int.reduceLE,hP,hΓ,hL,hfin,↓Z00])
   exact Z06.one (by rw [Z1h (by omega) h]) rfl
  ·((first | with_reducible refine holds_of_ex X 400 _ _ _ ?_ | skip); simp (maxSteps:=1000000) only [push_cast,reduceCtorEq,Nat.reduceAdd,Nat.reduceMul,Nat.reduceSub,Nat.reduceBEq,Nat.reduceGT,Nat.reduceLT,Int.toNat_zero,Nat.reduceLeDiff,Int.reduceEq,Int.reduceLT,Int.reduceLE,hP,hΓ,hL,hfin,↓Z00,Z0c ((k:Int)+1) (by constructor <;> omega)])
   (refine⟨⟨k+1,by omega,by rw [Z1w,ha,h]; rfl⟩,by (try simp only [List.length_cons,List.length_append,List.length_nil]); omega,?_⟩; (try rw [hL]); (try simp only [push_cast,Int.natCast_zero]); first | (exact Z06.same (by first | exact Z0d _ | (simp only [leF,true_and,and_true,and_self]; done) | (simp [leF]; done)) (by first | (simp only [push_cast,reduceCtorEq,Nat.reduceAdd,Nat.reduceMul,Nat.reduceSub,Nat.reduceBEq,Nat.reduceGT,Nat.reduceLT,Int.toNat_zero,Nat.reduceLeDiff,Int.reduceEq,Int.reduceLT,Int.reduceLE]; done) | simp only [push_cast,reduceCtorEq,Nat.reduceAdd,Nat.reduceMul,Nat.reduceSub,Nat.reduceBEq,Nat.reduceGT,Nat.reduceLT,Int.toNat_zero,Nat.reduceLeDiff,Int.reduceEq,Int.reduceLT,Int.reduceLE,hcs]) (by first | (simp only [push_cast,reduceCtorEq,Nat.reduceAdd,Nat.reduceMul,Nat.reduceSub,Nat.reduceBEq,Nat.reduceGT,Nat.reduceLT,Int.toNat_zero,Nat.reduceLeDiff,Int.reduceEq,Int.reduceLT,Int.reduceLE]; done) | simp only [push_cast,reduceCtorEq,Nat.reduceAdd,Nat.reduceMul,Nat.reduceSub,Nat.reduceBEq,Nat.reduceGT,Nat.reduceLT,Int.toNat_zero,Nat.reduceLeDiff,Int.reduceEq,Int.reduceLT,Int.reduceLE,hcs]) (by first | decide | simp)) | ((refine Z06.keep0 (by first | exact Z0d _ | (simp only [leF,true_and,and_true,and_self]; done) | (simp [leF]; done)) (by first | (simp only [push_cast,reduceCtorEq,Nat.reduceAdd,Nat.reduceMul,Nat.reduceSub,Nat.reduceBEq,Nat.reduceGT,Nat.reduceLT,Int.toNat_zero,Nat.reduceLeDiff,Int.reduceEq,Int.reduceLT,Int.reduceLE]; done) | simp only [push_cast,reduceCtorEq,Nat.reduceAdd,Nat.reduceMul,Nat.reduceSub,Nat.reduceBEq,Nat.reduceGT,Nat.reduceLT,Int.toNat_zero,Nat.reduceLeDiff,Int.reduceEq,Int.reduceLT,Int.reduceLE,hcs]) (by first | rfl | (first | (simp only [push_cast,reduceCtorEq,Nat.reduceAdd,Nat.reduceMul,Nat.reduceSub,Nat.reduceBEq,Nat.reduceGT,Nat.reduceLT,Int.toNat_zero,Nat.reduceLeDiff,Int.reduceEq,Int.reduceLT,Int.reduceLE]; done) | simp only [push_cast,reduceCtorEq,Nat.reduceAdd,Nat.reduceMul,Nat.reduceSub,Nat.reduceBEq,Nat.reduceGT,Nat.reduceLT,Int.toNat_zero,Nat.reduceLeDiff,Int.reduceEq,Int.reduceLT,Int.reduceLE,hcs])) (by first | decide | simp))) | ((refine Z06.keep1 (by first | exact Z0d _ | (simp only [leF,true_and,and_true,and_self]; done) | (simp [leF]; done)) (by first | (simp only [push_cast,reduceCtorEq,Nat.reduceAdd,Nat.reduceMul,Nat.reduceSub,Nat.reduceBEq,Nat.reduceGT,Nat.reduceLT,Int.toNat_zero,Nat.reduceLeDiff,Int.reduceEq,Int.reduceLT,Int.reduceLE]; done) | simp only [push_cast,reduceCtorEq,Nat.reduceAdd,Nat.reduceMul,Nat.reduceSub,Nat.reduceBEq,Nat.reduceGT,Nat.reduceLT,Int.toNat_zero,Nat.reduceLeDiff,Int.reduceEq,Int.reduceLT,Int.reduceLE,hcs]) (by first | rfl | (first | (simp only [push_cast,reduceCtorEq,Nat.reduceAdd,Nat.reduceMul,Nat.reduceSub,Nat.reduceBEq,Nat.reduceGT,Nat.reduceLT,Int.toNat_zero,Nat.reduceLeDiff,Int.reduceEq,Int.reduceLT,Int.reduceLE]; done) | simp only [push_cast,reduceCtorEq,Nat.reduceAdd,Nat.reduceMul,Nat.reduceSub,Nat.reduceBEq,Nat.reduceGT,Nat.reduceLT,Int.toNat_zero,Nat.reduceLeDiff,Int.reduceEq,Int.reduceLT,Int.reduceLE,hcs])) (by first | decide | simp))) | ((refine Z06.keep2 (by first | exact Z0d _ | (simp only [leF,true_and,and_true,and_self]; done) | (simp [leF]; done)) (by first | (simp only [push_cast,reduceCtorEq,Nat.reduceAdd,Nat.reduceMul,Nat.reduceSub,Nat.reduceBEq,Nat.reduceGT,Nat.reduceLT,Int.toNat_zero,Nat.reduceLeDiff,Int.reduceEq,Int.reduceLT,Int.reduceLE]; done) | simp only [push_cast,reduceCtorEq,Nat.reduceAdd,Nat.reduceMul,Nat.reduceSub,Nat.reduceBEq,Nat.reduceGT,Nat.reduceLT,Int.toNat_zero,Nat.reduceLeDiff,Int.reduceEq,Int.reduceLT,Int.reduceLE,hcs]) (by first | rfl | (first | (simp only [push_cast,reduceCtorEq,Nat.reduceAdd,Nat.reduceMul,Nat.reduceSub,Nat.reduceBEq,Nat.reduceGT,Nat.reduceLT,Int.toNat_zero,Nat.reduceLeDiff,Int.reduceEq,Int.reduceLT,Int.reduceLE]; done) | simp only [push_cast,reduceCtorEq,Nat.reduceAdd,Nat.reduceMul,Nat.reduceSub,Nat.reduceBEq,Nat.reduceGT,Nat.reduceLT,Int.toNat_zero,Nat.reduceLeDiff,Int.reduceEq,Int.reduceLT,Int.reduceLE,hcs])) (by first | decide | simp))) | ((refine Z06.keep3 (by first | exact Z0d _ | (simp only [leF,true_and,and_true,and_self]; done) | (simp [leF]; done)) (by first | (simp only [push_cast,reduceCtorEq,Nat.reduceAdd,Nat.reduceMul,Nat.reduceSub,Nat.reduceBEq,Nat.reduceGT,Nat.reduceLT,Int.toNat_zero,Nat.reduceLeDiff,Int.reduceEq,Int.reduceLT,Int.reduceLE]; done) | simp only [push_cast,reduceCtorEq,Nat.reduceAdd,Nat.reduceMul,Nat.reduceSub,Nat.reduceBEq,Nat.reduceGT,Nat.reduceLT,Int.toNat_zero,Nat.reduceLeDiff,Int.reduceEq,Int.reduceLT,Int.reduceLE,hcs]) (by first | rfl | (first | (simp only [push_cast,reduceCtorEq,Nat.reduceAdd,Nat.reduceMul,Nat.reduceSub,Nat.reduceBEq,Nat.reduceGT,Nat.reduceLT,Int.toNat_zero,Nat.reduceLeDiff,Int.reduceEq,Int.reduceLT,Int.reduceLE]; done) | simp only [push_cast,reduceCtorEq,Nat.reduceAdd,Nat.reduceMul,Nat.reduceSub,Nat.reduceBEq,Nat.reduceGT,Nat.reduceLT,Int.toNat_zero,Nat.reduceLeDiff,Int.reduceEq,Int.reduceLT,Int.reduceLE,hcs])) (by first | decide | simp))))
 ·((first | with_reducible refine holds_of_ex X 400 _ _ _ ?_ | skip); simp (maxSteps:=1000000) only [push_cast,reduceCtorEq,Nat.reduceAdd,Nat.reduceMul,Nat.reduceSub,Nat.reduceBEq,Nat.reduceGT,Nat.reduceLT,Int.toNat_zero,Nat.reduceLeDiff,Int.reduceEq,Int.reduceLT,Int.reduceLE,hP,hΓ,hL,hfin,↓Z00])
  obtain rfl:k=xs.length:=by omega
  exact Z06.one (by rw [ha]) rfl
theorem ZdP(Γ:Env)(g:FuncId)(sp:Z0n)(hg:Γ g=some sp)(hq:sp.quiet=true)(caps:List AV)(hc:Z1D caps=true)(xs:List Fx)(p:Nat→Fx→Bool)
  (hsp:∀i L,i<xs.length→sp.pre (.int .i64 i::(.agg <| Fx.c (xs.getD i default))::caps) L∧sp.res (.int .i64 i::(.agg <| Fx.c (xs.getD i default))::caps) L=.bool (p i (xs.getD i default))∧sp.post (.int .i64 i::(.agg <| Fx.c (xs.getD i default))::caps) L=L)
  (hl:xs.length≤SM):Z0a Tryz.prog Γ Tryz.f84 [.sl (xs.flatMap Fx.c) xs.length,.fn (.func g) [] caps] [] (.bool (Z24 p xs xs.length)) []:=by
 have hcs:=Z0X 0 caps hc
 have hSM:SM=1048576:=rfl
 (intro X hP hΓ hL hfin; refine⟨_,rfl,?_⟩; rw [show Tryz.f84.ntmps=20 from rfl]; rw [show Tryz.f84.results.toList=[.tmp 4] from rfl] at hfin; apply holds_of_ex X 400; simp only [push_cast,reduceCtorEq,Nat.reduceAdd,Nat.reduceMul,Nat.reduceSub,Nat.reduceBEq,Nat.reduceGT,Nat.reduceLT,Int.toNat_zero,Nat.reduceLeDiff,Int.reduceEq,Int.reduceLT,Int.reduceLE,hP,hΓ,hL,hfin])
 refine Holds.loopM (ι:={k:Nat // k≤xs.length∧Z24 p xs k=true}) [false,true,false,false,false,false,false,true,true,false,false,false,false,false,false,false,false,false,false,false] (fun i=>[(9,.int .i64 i.1)]) (fun i=>[]) (fun i=>xs.length - i.1) ⟨0,Nat.zero_le _,rfl⟩ ?_ ?_
 ·(rw [hL]; simp only [push_cast,Int.natCast_zero]; exact Z06.same (by first | exact Z0d _ | (simp only [leF,true_and,and_true,and_self]; done) | (simp [leF]; done)) (by first | (simp only [push_cast,reduceCtorEq,Nat.reduceAdd,Nat.reduceMul,Nat.reduceSub,Nat.reduceBEq,Nat.reduceGT,Nat.reduceLT,Int.toNat_zero,Nat.reduceLeDiff,Int.reduceEq,Int.reduceLT,Int.reduceLE]; done) | simp only [push_cast,reduceCtorEq,Nat.reduceAdd,Nat.reduceMul,Nat.reduceSub,Nat.reduceBEq,Nat.reduceGT,Nat.reduceLT,Int.toNat_zero,Nat.reduceLeDiff,Int.reduceEq,Int.reduceLT,Int.reduceLE,hcs]) (by first | (simp only [push_cast,reduceCtorEq,Nat.reduceAdd,Nat.reduceMul,Nat.reduceSub,Nat.reduceBEq,Nat.reduceGT,Nat.reduceLT,Int.toNat_zero,Nat.reduceLeDiff,Int.reduceEq,Int.reduceLT,Int.reduceLE]; done) | simp only [push_cast,reduceCtorEq,Nat.reduceAdd,Nat.reduceMul,Nat.reduceSub,Nat.reduceBEq,Nat.reduceGT,Nat.reduceLT,Int.toNat_zero,Nat.reduceLeDiff,Int.reduceEq,Int.reduceLT,Int.reduceLE,hcs]) (by first | decide | simp))
 rintro⟨k,hk,ha⟩
 ((first | with_reducible refine holds_of_ex X 400 _ _ _ ?_ | skip); simp (maxSteps:=1000000) only [push_cast,reduceCtorEq,Nat.reduceAdd,Nat.reduceMul,Nat.reduceSub,Nat.reduceBEq,Nat.reduceGT,Nat.reduceLT,Int.toNat_zero,Nat.reduceLeDiff,Int.reduceEq,Int.reduceLT,Int.reduceLE,hP,hΓ,hL,hfin,↓Z00])
 ((with_reducible refine Z02 (fun h=>?_) (fun h=>?_)) <;> (try simp only [decide_eq_true_eq,decide_eq_false_iff_not,Bool.and_eq_true,Bool.or_eq_true,Bool.and_eq_false_iff,Bool.or_eq_false_iff,Bool.not_eq_true',Bool.not_eq_false',Bool.not_eq_true,Bool.not_eq_false,Int.not_lt,Int.not_le,beq_iff_eq,beq_eq_false_iff_ne,ne_eq,win_t,win_f] at h))
 ·have e:=fun L=>hsp k L (by omega)
  skip
  ((first | with_reducible refine holds_of_ex X 400 _ _ _ ?_ | skip); simp (maxSteps:=1000000) only [push_cast,reduceCtorEq,Nat.reduceAdd,Nat.reduceMul,Nat.reduceSub,Nat.reduceBEq,Nat.reduceGT,Nat.reduceLT,Int.toNat_zero,Nat.reduceLeDiff,Int.reduceEq,Int.reduceLT,Int.reduceLE,hP,hΓ,hL,hfin,↓Z00,hg,(e _).2.1,(e _).2.2,(e _).1,hq,(show k<xs.length by omega)])
  (repeat (refine And.intro (by first | exact True.intro | omega | assumption | exact own_row _ | (simp only [List.length_append]; omega) | (intro hg; (try simp only [decide_eq_true_eq,decide_eq_false_iff_not,Bool.and_eq_true,Bool.or_eq_true,Bool.and_eq_false_iff,Bool.or_eq_false_iff,Bool.not_eq_true',Bool.not_eq_false',Bool.not_eq_true,Bool.not_eq_false,Int.not_lt,Int.not_le,beq_iff_eq,beq_eq_false_iff_ne,ne_eq,win_t,win_f] at hg); omega)) ?_))
  ((with_reducible refine Z02 (fun h=>?_) (fun h=>?_)) <;> (try simp only [decide_eq_true_eq,decide_eq_false_iff_not,Bool.and_eq_true,Bool.or_eq_true,Bool.and_eq_false_iff,Bool.or_eq_false_iff,Bool.not_eq_true',Bool.not_eq_false',Bool.not_eq_true,Bool.not_eq_false,Int.not_lt,Int.not_le,beq_iff_eq,beq_eq_false_iff_ne,ne_eq,win_t,win_f] at h))
  ·((first | with_reducible refine holds_of_ex X 400 _ _ _ ?_ | skip); simp (maxSteps:=1000000) only [push_cast,reduceCtorEq,Nat.reduceAdd,Nat.reduceMul,Nat.reduceSub,Nat.reduceBEq,Nat.reduceGT,Nat.reduceLT,Int.toNat_zero,Nat.reduceLeDiff,Int.reduceEq,Int.reduceLT,Int.reduceLE,hP,hΓ,hL,hfin,↓Z00])
   exact Z06.one (by rw [Z1h (by omega) h]) rfl
  ·((first | with_reducible refine holds_of_ex X 400 _ _ _ ?_ | skip); simp (maxSteps:=1000000) only [push_cast,reduceCtorEq,Nat.reduceAdd,Nat.reduceMul,Nat.reduceSub,Nat.reduceBEq,Nat.reduceGT,Nat.reduceLT,Int.toNat_zero,Nat.reduceLeDiff,Int.reduceEq,Int.reduceLT,Int.reduceLE,hP,hΓ,hL,hfin,↓Z00,Z0c ((k:Int)+1) (by constructor <;> omega)])
   (refine⟨⟨k+1,by omega,by rw [Z1w,ha,h]; rfl⟩,by (try simp only [List.length_cons,List.length_append,List.length_nil]); omega,?_⟩; (try rw [hL]); (try simp only [push_cast,Int.natCast_zero]); first | (exact Z06.same (by first | exact Z0d _ | (simp only [leF,true_and,and_true,and_self]; done) | (simp [leF]; done)) (by first | (simp only [push_cast,reduceCtorEq,Nat.reduceAdd,Nat.reduceMul,Nat.reduceSub,Nat.reduceBEq,Nat.reduceGT,Nat.reduceLT,Int.toNat_zero,Nat.reduceLeDiff,Int.reduceEq,Int.reduceLT,Int.reduceLE]; done) | simp only [push_cast,reduceCtorEq,Nat.reduceAdd,Nat.reduceMul,Nat.reduceSub,Nat.reduceBEq,Nat.reduceGT,Nat.reduceLT,Int.toNat_zero,Nat.reduceLeDiff,Int.reduceEq,Int.reduceLT,Int.reduceLE,hcs]) (by first | (simp only [push_cast,reduceCtorEq,Nat.reduceAdd,Nat.reduceMul,Nat.reduceSub,Nat.reduceBEq,Nat.reduceGT,Nat.reduceLT,Int.toNat_zero,Nat.reduceLeDiff,Int.reduceEq,Int.reduceLT,Int.reduceLE]; done) | simp only [push_cast,reduceCtorEq,Nat.reduceAdd,Nat.reduceMul,Nat.reduceSub,Nat.reduceBEq,Nat.reduceGT,Nat.reduceLT,Int.toNat_zero,Nat.reduceLeDiff,Int.reduceEq,Int.reduceLT,Int.reduceLE,hcs]) (by first | decide | simp)) | ((refine Z06.keep0 (by first | exact Z0d _ | (simp only [leF,true_and,and_true,and_self]; done) | (simp [leF]; done)) (by first | (simp only [push_cast,reduceCtorEq,Nat.reduceAdd,Nat.reduceMul,Nat.reduceSub,Nat.reduceBEq,Nat.reduceGT,Nat.reduceLT,Int.toNat_zero,Nat.reduceLeDiff,Int.reduceEq,Int.reduceLT,Int.reduceLE]; done) | simp only [push_cast,reduceCtorEq,Nat.reduceAdd,Nat.reduceMul,Nat.reduceSub,Nat.reduceBEq,Nat.reduceGT,Nat.reduceLT,Int.toNat_zero,Nat.reduceLeDiff,Int.reduceEq,Int.reduceLT,Int.reduceLE,hcs]) (by first | rfl | (first | (simp only [push_cast,reduceCtorEq,Nat.reduceAdd,Nat.reduceMul,Nat.reduceSub,Nat.reduceBEq,Nat.reduceGT,Nat.reduceLT,Int.toNat_zero,Nat.reduceLeDiff,Int.reduceEq,Int.reduceLT,Int.reduceLE]; done) | simp only [push_cast,reduceCtorEq,Nat.reduceAdd,Nat.reduceMul,Nat.reduceSub,Nat.reduceBEq,Nat.reduceGT,Nat.reduceLT,Int.toNat_zero,Nat.reduceLeDiff,Int.reduceEq,Int.reduceLT,Int.reduceLE,hcs])) (by first | decide | simp))) | ((refine Z06.keep1 (by first | exact Z0d _ | (simp only [leF,true_and,and_true,and_self]; done) | (simp [leF]; done)) (by first | (simp only [push_cast,reduceCtorEq,Nat.reduceAdd,Nat.reduceMul,Nat.reduceSub,Nat.reduceBEq,Nat.reduceGT,Nat.reduceLT,Int.toNat_zero,Nat.reduceLeDiff,Int.reduceEq,Int.reduceLT,Int.reduceLE]; done) | simp only [push_cast,reduceCtorEq,Nat.reduceAdd,Nat.reduceMul,Nat.reduceSub,Nat.reduceBEq,Nat.reduceGT,Nat.reduceLT,Int.toNat_zero,Nat.reduceLeDiff,Int.reduceEq,Int.reduceLT,Int.reduceLE,hcs]) (by first | rfl | (first | (simp only [push_cast,reduceCtorEq,Nat.reduceAdd,Nat.reduceMul,Nat.reduceSub,Nat.reduceBEq,Nat.reduceGT,Nat.reduceLT,Int.toNat_zero,Nat.reduceLeDiff,Int.reduceEq,Int.reduceLT,Int.reduceLE]; done) | simp only [push_cast,reduceCtorEq,Nat.reduceAdd,Nat.reduceMul,Nat.reduceSub,Nat.reduceBEq,Nat.reduceGT,Nat.reduceLT,Int.toNat_zero,Nat.reduceLeDiff,Int.reduceEq,Int.reduceLT,Int.reduceLE,hcs])) (by first | decide | simp))) | ((refine Z06.keep2 (by first | exact Z0d _ | (simp only [leF,true_and,and_true,and_self]; done) | (simp [leF]; done)) (by first | (simp only [push_cast,reduceCtorEq,Nat.reduceAdd,Nat.reduceMul,Nat.reduceSub,Nat.reduceBEq,Nat.reduceGT,Nat.reduceLT,Int.toNat_zero,Nat.reduceLeDiff,Int.reduceEq,Int.reduceLT,Int.reduceLE]; done) | simp only [push_cast,reduceCtorEq,Nat.reduceAdd,Nat.reduceMul,Nat.reduceSub,Nat.reduceBEq,Nat.reduceGT,Nat.reduceLT,Int.toNat_zero,Nat.reduceLeDiff,Int.reduceEq,Int.reduceLT,Int.reduceLE,hcs]) (by first | rfl | (first | (simp only [push_cast,reduceCtorEq,Nat.reduceAdd,Nat.reduceMul,Nat.reduceSub,Nat.reduceBEq,Nat.reduceGT,Nat.reduceLT,Int.toNat_zero,Nat.reduceLeDiff,Int.reduceEq,Int.reduceLT,Int.reduceLE]; done) | simp only [push_cast,reduceCtorEq,Nat.reduceAdd,Nat.reduceMul,Nat.reduceSub,Nat.reduceBEq,Nat.reduceGT,Nat.reduceLT,Int.toNat_zero,Nat.reduceLeDiff,Int.reduceEq,Int.reduceLT,Int.reduceLE,hcs])) (by first | decide | simp))) | ((refine Z06.keep3 (by first | exact Z0d _ | (simp only [leF,true_and,and_true,and_self]; done) | (simp [leF]; done)) (by first | (simp only [push_cast,reduceCtorEq,Nat.reduceAdd,Nat.reduceMul,Nat.reduceSub,Nat.reduceBEq,Nat.reduceGT,Nat.reduceLT,Int.toNat_zero,Nat.reduceLeDiff,Int.reduceEq,Int.reduceLT,Int.reduceLE]; done) | simp only [push_cast,reduceCtorEq,Nat.reduceAdd,Nat.reduceMul,Nat.reduceSub,Nat.reduceBEq,Nat.reduceGT,Nat.reduceLT,Int.toNat_zero,Nat.reduceLeDiff,Int.reduceEq,Int.reduceLT,Int.reduceLE,hcs]) (by first | rfl | (first | (simp only [push_cast,reduceCtorEq,Nat.reduceAdd,Nat.reduceMul,Nat.reduceSub,Nat.reduceBEq,Nat.reduceGT,Nat.reduceLT,Int.toNat_zero,Nat.reduceLeDiff,Int.reduceEq,Int.reduceLT,Int.reduceLE]; done) | simp only [push_cast,reduceCtorEq,Nat.reduceAdd,Nat.reduceMul,Nat.reduceSub,Nat.reduceBEq,Nat.reduceGT,Nat.reduceLT,Int.toNat_zero,Nat.reduceLeDiff,Int.reduceEq,Int.reduceLT,Int.reduceLE,hcs])) (by first | decide | simp))))
 ·((first | with_reducible refine holds_of_ex X 400 _ _ _ ?_ | skip); simp (maxSteps:=1000000) only [push_cast,reduceCtorEq,Nat.reduceAdd,Nat.reduceMul,Nat.reduceSub,Nat.reduceBEq,Nat.reduceGT,Nat.reduceLT,Int.toNat_zero,Nat.reduceLeDiff,Int.reduceEq,Int.reduceLT,Int.reduceLE,hP,hΓ,hL,hfin,↓Z00])
  obtain rfl:k=xs.length:=by omega
  exact Z06.one (by rw [ha]) rfl
inductive A54 where
 | a (xs:List Int) (o:Ob)
 | b (xs:List Int)
 | c (xs:List Int) (o:Ob)
 | d (xs:List Int) (f:Int→Option Int)
def e54:A54→List AV
 | .a xs o=>[.sl (xs.map (.int .i64)) xs.length,.fn (.func 76) [] [.ip o.c]]
 | .b xs=>[.sl (xs.map (.int .i64)) xs.length,.fn (.func 77) [] []]
 | .c xs o=>[.sl (xs.map (.int .i64)) xs.length,.fn (.func 78) [] [.ip o.c]]
 | .d xs f=>[.sl (xs.map (.int .i64)) xs.length,.fn (.func 83) [] [.ip [.mpr (some .i64) (tm f)]]]
def p54:A54→Prop
 | .a xs o=>xs.length≤SM∧o.ok
 | .b xs=>xs.length≤SM
 | .c xs o=>xs.length≤o.shown.length∧o.ok
 | .d xs f=>xs.length≤SM
def r54:A54→AV
 | .a xs o=>.bool (Z24 (q55 o) xs xs.length)
 | .b xs=>.bool (Z24 q56 xs xs.length)
 | .c xs o=>.bool (Z24 (q57 o) xs xs.length)
 | .d xs f=>.bool (Z24 (q62 f) xs xs.length)
theorem inj54:∀a b,e54 a=e54 b→a=b:=by
 intro a b h
 cases a <;> cases b <;> simp only [e54,Z0f,Z0z,Z0J,List.cons.injEq,AV.sl.injEq,AV.fn.injEq,Fn.func.injEq,AV.ip.injEq,AV.mpr.injEq,and_true,true_and,reduceCtorEq,false_and,and_false,Nat.reduceEqDiff] at h <;> simp_all only
noncomputable def S54:Z0n:=Z2V e54 p54 r54 (fun _=>[]) true
theorem Zkf(xs:List Int)(o:Ob):Z1J e54 p54 [.sl (xs.map (.int .i64)) xs.length,.fn (.func 76) [] [.ip o.c]]=p54 (.a xs o):=Z0j inj54 p54 (.a xs o)
theorem ZjU(xs:List Int)(o:Ob):Z10 e54 r54 .any [.sl (xs.map (.int .i64)) xs.length,.fn (.func 76) [] [.ip o.c]]=r54 (.a xs o):=Z08 inj54 r54 .any (.a xs o)
theorem Zke(xs:List Int):Z1J e54 p54 [.sl (xs.map (.int .i64)) xs.length,.fn (.func 77) [] []]=p54 (.b xs):=Z0j inj54 p54 (.b xs)
theorem ZjT(xs:List Int):Z10 e54 r54 .any [.sl (xs.map (.int .i64)) xs.length,.fn (.func 77) [] []]=r54 (.b xs):=Z08 inj54 r54 .any (.b xs)
theorem Zkd(xs:List Int)(o:Ob):Z1J e54 p54 [.sl (xs.map (.int .i64)) xs.length,.fn (.func 78) [] [.ip o.c]]=p54 (.c xs o):=Z0j inj54 p54 (.c xs o)
theorem ZjS(xs:List Int)(o:Ob):Z10 e54 r54 .any [.sl (xs.map (.int .i64)) xs.length,.fn (.func 78) [] [.ip o.c]]=r54 (.c xs o):=Z08 inj54 r54 .any (.c xs o)
theorem Zkc(xs:List Int)(f:Int→Option Int):Z1J e54 p54 [.sl (xs.map (.int .i64)) xs.length,.fn (.func 83) [] [.ip [.mpr (some .i64) (tm f)]]]=p54 (.d xs f):=Z0j inj54 p54 (.d xs f)
theorem ZjR(xs:List Int)(f:Int→Option Int):Z10 e54 r54 .any [.sl (xs.map (.int .i64)) xs.length,.fn (.func 83) [] [.ip [.mpr (some .i64) (tm f)]]]=r54 (.d xs f):=Z08 inj54 r54 .any (.d xs f)
attribute [push_cast] S54 Zkf Zke Zkd Zkc ZjU ZjT ZjS ZjR p54 r54
theorem hs54(xs:List AV):Z10 e54 (fun _=>([]:Heap)) [] xs=[]:=by unfold Z10; split <;> rfl
attribute [push_cast] hs54
theorem con54{Γ:Env}(h:Z07 Tryz.prog Γ)(h55:Γ 76=some S55)(h56:Γ 77=some S56)(h57:Γ 78=some S57)(h62:Γ 83=some S62):Con Tryz.prog 75 S54:=
 Z0t h (fn:=Tryz.f75) (by kernel_rfl) rfl (by kernel_rfl) inj54 (fun _ _=>rfl) fun a ha=>by
  cases a with
  | a xs o=>
   refine Z4W Γ 76 S55 h55 rfl [.ip o.c] (by simp only [Z1D,Z0H,push_cast]) xs (q55 o) (fun i L hi=>?_) ha.1
   simp only [push_cast,reduceCtorEq,Nat.reduceAdd,Nat.reduceMul,Nat.reduceSub,Nat.reduceBEq,Nat.reduceGT,Nat.reduceLT,Int.toNat_zero,Nat.reduceLeDiff,Int.reduceEq,Int.reduceLT,Int.reduceLE]
   exact ha.2
  | b xs=>
   refine Z4W Γ 77 S56 h56 rfl [] rfl xs q56 (fun i L hi=>?_) ha
   simp only [push_cast,reduceCtorEq,Nat.reduceAdd,Nat.reduceMul,Nat.reduceSub,Nat.reduceBEq,Nat.reduceGT,Nat.reduceLT,Int.toNat_zero,Nat.reduceLeDiff,Int.reduceEq,Int.reduceLT,Int.reduceLE]
  | c xs o=>
   refine Z4W Γ 78 S57 h57 rfl [.ip o.c] (by simp only [Z1D,Z0H,push_cast]) xs (q57 o) (fun i L hi=>?_) (Nat.le_trans ha.1 ha.2.shown)
   simp only [push_cast,reduceCtorEq,Nat.reduceAdd,Nat.reduceMul,Nat.reduceSub,Nat.reduceBEq,Nat.reduceGT,Nat.reduceLT,Int.toNat_zero,Nat.reduceLeDiff,Int.reduceEq,Int.reduceLT,Int.reduceLE]
   exact⟨ha.2,Nat.lt_of_lt_of_le hi ha.1⟩
  | d xs f=>
   refine Z4W Γ 83 S62 h62 rfl [.ip [.mpr (some .i64) (tm f)]] rfl xs (q62 f) (fun i L hi=>?_) ha
   simp only [push_cast,reduceCtorEq,Nat.reduceAdd,Nat.reduceMul,Nat.reduceSub,Nat.reduceBEq,Nat.reduceGT,Nat.reduceLT,Int.toNat_zero,Nat.reduceLeDiff,Int.reduceEq,Int.reduceLT,Int.reduceLE]
def Z7B(o:Ob)(f:Int→Option Int)(x:Fx):Bool:=
  win x.at_ 0 ((o.code.length:Int) - 1 - (if x.kind=1 then 0 else 1)) && win x.m (-1) ((o.imps.length:Int) - 1) && decide (0≤x.n) &&
  (if x.kind=1∨x.kind=5 then decide (x.m<0∧x.n<o.procs.length∨0≤x.m∧x.n<100)
   else if x.kind=2 then decide (x.m<0∧x.n<o.vars.length∨0≤x.m∧x.n<200)
   else if x.kind=3 then decide (x.m<0∧x.n<o.strs.length)
   else if x.kind=4 then decide (x.m<0∧0<(f x.n).getD 0)
   else false)
def e65:(Ob)×(Int→Option Int)×(Fx)→List AV:=fun (o,f,x)=>[.agg o.c,.mpr (some .i64) (tm f),.agg x.c]
def p65:(Ob)×(Int→Option Int)×(Fx)→Prop:=fun (o,f,x)=>o.ok
def r65:(Ob)×(Int→Option Int)×(Fx)→AV:=fun (o,f,x)=>.bool (Z7B o f x)
def g65:(Ob)×(Int→Option Int)×(Fx)→Heap:=fun (o,f,x)=>[]
theorem inj65:∀a b,e65 a=e65 b→a=b:=by
 rintro⟨o,f,x⟩ ⟨o',f',x'⟩ h
 simp only [e65,Z0f,Z0h,Z0i,Z0g,Z0u,Z0F,Z0E,Z0z,Z0G,Z0D,Z0C,Z0J,List.cons.injEq,AV.int.injEq,AV.str.injEq,AV.bool.injEq,AV.sl.injEq,AV.agg.injEq,AV.ip.injEq,AV.fn.injEq,AV.ifc.injEq,AV.mpr.injEq,Int.natCast_inj,and_true,true_and] at h
 simp_all only
noncomputable def S65:Z0n:=Z2V e65 p65 r65 g65 true
theorem ps65(o:(Ob))(f:(Int→Option Int))(x:(Fx)):Z1J e65 p65 [.agg o.c,.mpr (some .i64) (tm f),.agg x.c]=(o.ok):=Z0j inj65 p65 (o,f,x)
theorem rs65(o:(Ob))(f:(Int→Option Int))(x:(Fx)):Z10 e65 r65 .any [.agg o.c,.mpr (some .i64) (tm f),.agg x.c]=(.bool (Z7B o f x)):=Z08 inj65 r65 .any (o,f,x)
theorem hs65(o:(Ob))(f:(Int→Option Int))(x:(Fx)):Z10 e65 g65 [] [.agg o.c,.mpr (some .i64) (tm f),.agg x.c]=([]):=Z08 inj65 g65 [] (o,f,x)
attribute [push_cast] S65 ps65 rs65 hs65
theorem body65(Γ:Env)(h52:Γ 73=some S52)(o:Ob)(f:Int→Option Int)(x:Fx)(ho:o.ok):Z0a Tryz.prog Γ Tryz.f86 (e65 (o,f,x)) [] (.bool (Z7B o f x)) []:=by
 have hSM:SM=1048576:=rfl
 have h1:=ho.code; have h2:=ho.imps; have h3:=ho.procs; have h4:=ho.vars; have h5:=ho.strs
 have w1:IntKind.i64.wrap ((o.code.length:Int) - 1)=(o.code.length:Int) - 1:=Z0c ((o.code.length:Int) - 1) (by constructor <;> omega)
 have w2:IntKind.i64.wrap ((o.imps.length:Int) - 1)=(o.imps.length:Int) - 1:=Z0c ((o.imps.length:Int) - 1) (by constructor <;> omega)
 have w3:IntKind.i64.wrap ((o.code.length:Int) - 1 - 1)=(o.code.length:Int) - 1 - 1:=Z0c ((o.code.length:Int) - 1 - 1) (by constructor <;> omega)
 (intro X hP hΓ hL hfin; refine⟨_,rfl,?_⟩; rw [show Tryz.f86.ntmps=105 from rfl]; rw [show Tryz.f86.results.toList=[.tmp 6] from rfl] at hfin; apply holds_of_ex X 400; simp (maxSteps:=1000000) only [push_cast,reduceCtorEq,Nat.reduceAdd,Nat.reduceMul,Nat.reduceSub,Nat.reduceBEq,Nat.reduceGT,Nat.reduceLT,Int.toNat_zero,Nat.reduceLeDiff,Int.reduceEq,Int.reduceLT,Int.reduceLE,hP,hΓ,hL,hfin,↓Z00,e65,h52,w1,w2,w3])
 (iterate 18 (all_goals (first | ((with_reducible refine Z06.one ?_ rfl); (congr 1; rw [Bool.eq_iff_iff]; simp only [Z7B]; (repeat' split) <;> (try simp only [decide_eq_true_eq,decide_eq_false_iff_not,Bool.and_eq_true,Bool.or_eq_true,Bool.and_eq_false_iff,Bool.or_eq_false_iff,Bool.not_eq_true',Bool.not_eq_false',Bool.not_eq_true,Bool.not_eq_false,Int.not_lt,Int.not_le,beq_iff_eq,beq_eq_false_iff_ne,ne_eq,win_t,win_f,Bool.false_eq_true,and_false,false_and,and_true,true_and,not_false_eq_true,iff_self,false_iff,iff_false,true_iff,iff_true]) <;> (first | done | omega))) | ((with_reducible refine Z02 (fun h=>?_) (fun h=>?_)) <;> (try simp only [decide_eq_true_eq,decide_eq_false_iff_not,Bool.and_eq_true,Bool.or_eq_true,Bool.and_eq_false_iff,Bool.or_eq_false_iff,Bool.not_eq_true',Bool.not_eq_false',Bool.not_eq_true,Bool.not_eq_false,Int.not_lt,Int.not_le,beq_iff_eq,beq_eq_false_iff_ne,ne_eq,win_t,win_f] at h)) | ((first | with_reducible refine holds_of_ex X 400 _ _ _ ?_ | skip); simp (maxSteps:=1000000) only [push_cast,reduceCtorEq,Nat.reduceAdd,Nat.reduceMul,Nat.reduceSub,Nat.reduceBEq,Nat.reduceGT,Nat.reduceLT,Int.toNat_zero,Nat.reduceLeDiff,Int.reduceEq,Int.reduceLT,Int.reduceLE,hP,hΓ,hL,hfin,↓Z00,h52,w1,w2,w3]) | skip)))
theorem con65{Γ:Env}(h:Z07 Tryz.prog Γ)(h52:Γ 73=some S52):Con Tryz.prog 86 S65:=
 Z0t h (fn:=Tryz.f86) (by kernel_rfl) rfl (by kernel_rfl) inj65 (by first | (intro h; cases h; done) | exact fun _ _=>rfl) fun ⟨o,f,x⟩ ho=>body65 Γ h52 o f x ho
def e61:(Nat)×(Ds)×(Ob)×(Int→Option Int)→List AV:=fun (i,d,o,f)=>[.int .i64 i,.agg d.c,.ip o.c,.ip [.mpr (some .i64) (tm f)]]
def p61:(Nat)×(Ds)×(Ob)×(Int→Option Int)→Prop:=fun (i,d,o,f)=>o.ok∧i<o.descs.length∧d.tags.length≤SM
def r61:(Nat)×(Ds)×(Ob)×(Int→Option Int)→AV:=fun (i,d,o,f)=>.bool (q61 o f i d)
def g61:(Nat)×(Ds)×(Ob)×(Int→Option Int)→Heap:=fun (i,d,o,f)=>[]
theorem inj61:∀a b,e61 a=e61 b→a=b:=by
 rintro⟨i,d,o,f⟩ ⟨i',d',o',f'⟩ h
 simp only [e61,Z0f,Z0h,Z0i,Z0g,Z0u,Z0F,Z0E,Z0z,Z0G,Z0D,Z0C,Z0J,List.cons.injEq,AV.int.injEq,AV.str.injEq,AV.bool.injEq,AV.sl.injEq,AV.agg.injEq,AV.ip.injEq,AV.fn.injEq,AV.ifc.injEq,AV.mpr.injEq,Int.natCast_inj,and_true,true_and] at h
 simp_all only
noncomputable def S61:Z0n:=Z2V e61 p61 r61 g61 true
theorem ps61(i:(Nat))(d:(Ds))(o:(Ob))(f:(Int→Option Int)):Z1J e61 p61 [.int .i64 i,.agg d.c,.ip o.c,.ip [.mpr (some .i64) (tm f)]]=(o.ok∧i<o.descs.length∧d.tags.length≤SM):=Z0j inj61 p61 (i,d,o,f)
theorem rs61(i:(Nat))(d:(Ds))(o:(Ob))(f:(Int→Option Int)):Z10 e61 r61 .any [.int .i64 i,.agg d.c,.ip o.c,.ip [.mpr (some .i64) (tm f)]]=(.bool (q61 o f i d)):=Z08 inj61 r61 .any (i,d,o,f)
theorem hs61(i:(Nat))(d:(Ds))(o:(Ob))(f:(Int→Option Int)):Z10 e61 g61 [] [.int .i64 i,.agg d.c,.ip o.c,.ip [.mpr (some .i64) (tm f)]]=([]):=Z08 inj61 g61 [] (i,d,o,f)
attribute [push_cast] S61 ps61 rs61 hs61
theorem body61(Γ:Env)(h52:Γ 73=some S52)(h54:Γ 75=some S54)(i:Nat)(d:Ds)(o:Ob)(f:Int→Option Int)(ho:o.ok)(hi:i<o.descs.length)(hd:d.tags.length≤SM):Z0a Tryz.prog Γ Tryz.f82 (e61 (i,d,o,f)) [] (.bool (q61 o f i d)) []:=by
 have hSM:SM=1048576:=rfl
 have h1:=ho.descs
 have hz:((i:Int)=0)=(i=0):=by simp
 (intro X hP hΓ hL hfin; refine⟨_,rfl,?_⟩; rw [show Tryz.f82.ntmps=64 from rfl]; rw [show Tryz.f82.results.toList=[.tmp 6] from rfl] at hfin; apply holds_of_ex X 400; simp (maxSteps:=1000000) only [push_cast,reduceCtorEq,Nat.reduceAdd,Nat.reduceMul,Nat.reduceSub,Nat.reduceBEq,Nat.reduceGT,Nat.reduceLT,Int.toNat_zero,Nat.reduceLeDiff,Int.reduceEq,Int.reduceLT,Int.reduceLE,hP,hΓ,hL,hfin,↓Z00,e61,h52,hz])
 (refine Holds.drawnQ (by rw [hP]; kernel_rfl) (by kernel_rfl) ?_; simp (maxSteps:=1000000) only [push_cast,reduceCtorEq,Nat.reduceAdd,Nat.reduceMul,Nat.reduceSub,Nat.reduceBEq,Nat.reduceGT,Nat.reduceLT,Int.toNat_zero,Nat.reduceLeDiff,Int.reduceEq,Int.reduceLT,Int.reduceLE,hP,hΓ,hL,hfin,↓Z00,h52,hz,Z0c ((i:Int) - 1) (by constructor <;> omega),(show i - 1<o.descs.length by omega)])
 (repeat (refine And.intro (by first | exact True.intro | omega | assumption | exact own_row _ | (simp only [List.length_append]; omega) | (intro hg; (try simp only [decide_eq_true_eq,decide_eq_false_iff_not,Bool.and_eq_true,Bool.or_eq_true,Bool.and_eq_false_iff,Bool.or_eq_false_iff,Bool.not_eq_true',Bool.not_eq_false',Bool.not_eq_true,Bool.not_eq_false,Int.not_lt,Int.not_le,beq_iff_eq,beq_eq_false_iff_ne,ne_eq,win_t,win_f] at hg); omega)) ?_))
 (refine Holds.drawnQ (by rw [hP]; kernel_rfl) (by kernel_rfl) ?_; simp (maxSteps:=1000000) only [push_cast,reduceCtorEq,Nat.reduceAdd,Nat.reduceMul,Nat.reduceSub,Nat.reduceBEq,Nat.reduceGT,Nat.reduceLT,Int.toNat_zero,Nat.reduceLeDiff,Int.reduceEq,Int.reduceLT,Int.reduceLE,hP,hΓ,hL,hfin,↓Z00,h52,h54,hz,Z0c ((d.tags.length:Int) - 1) (by constructor <;> omega)])
 (repeat (refine And.intro (by first | exact True.intro | omega | assumption | exact own_row _ | (simp only [List.length_append]; omega) | (intro hg; (try simp only [decide_eq_true_eq,decide_eq_false_iff_not,Bool.and_eq_true,Bool.or_eq_true,Bool.and_eq_false_iff,Bool.or_eq_false_iff,Bool.not_eq_true',Bool.not_eq_false',Bool.not_eq_true,Bool.not_eq_false,Int.not_lt,Int.not_le,beq_iff_eq,beq_eq_false_iff_ne,ne_eq,win_t,win_f] at hg); omega)) ?_))
 exact Z06.one rfl rfl
theorem con61{Γ:Env}(h:Z07 Tryz.prog Γ)(h52:Γ 73=some S52)(h54:Γ 75=some S54):Con Tryz.prog 82 S61:=
 Z0t h (fn:=Tryz.f82) (by kernel_rfl) rfl (by kernel_rfl) inj61 (by first | (intro h; cases h; done) | exact fun _ _=>rfl) fun ⟨i,d,o,f⟩ h=>body61 Γ h52 h54 i d o f h.1 h.2.1 h.2.2
def e64:(Nat)×(Fx)×(Ob)×(Int→Option Int)→List AV:=fun (i,x,o,f)=>[.int .i64 i,.agg x.c,.ip o.c,.ip [.mpr (some .i64) (tm f)]]
def p64:(Nat)×(Fx)×(Ob)×(Int→Option Int)→Prop:=fun (i,x,o,f)=>o.ok∧i<o.fixes.length
def r64:(Nat)×(Fx)×(Ob)×(Int→Option Int)→AV:=fun (i,x,o,f)=>.bool ((decide (i=0) || decide ((o.fixes.getD (i - 1) default).at_<x.at_)) && Z7B o f x)
def g64:(Nat)×(Fx)×(Ob)×(Int→Option Int)→Heap:=fun (i,x,o,f)=>[]
theorem inj64:∀a b,e64 a=e64 b→a=b:=by
 rintro⟨i,x,o,f⟩ ⟨i',x',o',f'⟩ h
 simp only [e64,Z0f,Z0h,Z0i,Z0g,Z0u,Z0F,Z0E,Z0z,Z0G,Z0D,Z0C,Z0J,List.cons.injEq,AV.int.injEq,AV.str.injEq,AV.bool.injEq,AV.sl.injEq,AV.agg.injEq,AV.ip.injEq,AV.fn.injEq,AV.ifc.injEq,AV.mpr.injEq,Int.natCast_inj,and_true,true_and] at h
 simp_all only
noncomputable def S64:Z0n:=Z2V e64 p64 r64 g64 true
theorem ps64(i:(Nat))(x:(Fx))(o:(Ob))(f:(Int→Option Int)):Z1J e64 p64 [.int .i64 i,.agg x.c,.ip o.c,.ip [.mpr (some .i64) (tm f)]]=(o.ok∧i<o.fixes.length):=Z0j inj64 p64 (i,x,o,f)
theorem rs64(i:(Nat))(x:(Fx))(o:(Ob))(f:(Int→Option Int)):Z10 e64 r64 .any [.int .i64 i,.agg x.c,.ip o.c,.ip [.mpr (some .i64) (tm f)]]=(.bool ((decide (i=0) || decide ((o.fixes.getD (i - 1) default).at_<x.at_)) && Z7B o f x)):=Z08 inj64 r64 .any (i,x,o,f)
theorem hs64(i:(Nat))(x:(Fx))(o:(Ob))(f:(Int→Option Int)):Z10 e64 g64 [] [.int .i64 i,.agg x.c,.ip o.c,.ip [.mpr (some .i64) (tm f)]]=([]):=Z08 inj64 g64 [] (i,x,o,f)
attribute [push_cast] S64 ps64 rs64 hs64
theorem body64(Γ:Env)(h65:Γ 86=some S65)(i:Nat)(x:Fx)(o:Ob)(f:Int→Option Int)(ho:o.ok)(hi:i<o.fixes.length):Z0a Tryz.prog Γ Tryz.f85 (e64 (i,x,o,f)) [] (.bool ((decide (i=0) || decide ((o.fixes.getD (i - 1) default).at_<x.at_)) && Z7B o f x)) []:=by
 have hSM:SM=1048576:=rfl
 have h1:=ho.fixes
 have hz:((i:Int)=0)=(i=0):=by simp
 (intro X hP hΓ hL hfin; refine⟨_,rfl,?_⟩; rw [show Tryz.f85.ntmps=27 from rfl]; rw [show Tryz.f85.results.toList=[.tmp 6] from rfl] at hfin; apply holds_of_ex X 400; simp (maxSteps:=1000000) only [push_cast,reduceCtorEq,Nat.reduceAdd,Nat.reduceMul,Nat.reduceSub,Nat.reduceBEq,Nat.reduceGT,Nat.reduceLT,Int.toNat_zero,Nat.reduceLeDiff,Int.reduceEq,Int.reduceLT,Int.reduceLE,hP,hΓ,hL,hfin,↓Z00,e64,hz])
 (refine Holds.drawnQ (by rw [hP]; kernel_rfl) (by kernel_rfl) ?_; simp (maxSteps:=1000000) only [push_cast,reduceCtorEq,Nat.reduceAdd,Nat.reduceMul,Nat.reduceSub,Nat.reduceBEq,Nat.reduceGT,Nat.reduceLT,Int.toNat_zero,Nat.reduceLeDiff,Int.reduceEq,Int.reduceLT,Int.reduceLE,hP,hΓ,hL,hfin,↓Z00,h65,hz,Z0c ((i:Int) - 1) (by constructor <;> omega),(show i - 1<o.fixes.length by omega)])
 (repeat (refine And.intro (by first | exact True.intro | omega | assumption | exact own_row _ | (simp only [List.length_append]; omega) | (intro hg; (try simp only [decide_eq_true_eq,decide_eq_false_iff_not,Bool.and_eq_true,Bool.or_eq_true,Bool.and_eq_false_iff,Bool.or_eq_false_iff,Bool.not_eq_true',Bool.not_eq_false',Bool.not_eq_true,Bool.not_eq_false,Int.not_lt,Int.not_le,beq_iff_eq,beq_eq_false_iff_ne,ne_eq,win_t,win_f] at hg); omega)) ?_))
 exact Z06.one rfl rfl
theorem con64{Γ:Env}(h:Z07 Tryz.prog Γ)(h65:Γ 86=some S65):Con Tryz.prog 85 S64:=
 Z0t h (fn:=Tryz.f85) (by kernel_rfl) rfl (by kernel_rfl) inj64 (by first | (intro h; cases h; done) | exact fun _ _=>rfl) fun ⟨i,x,o,f⟩ h=>body64 Γ h65 i x o f h.1 h.2
def q64(o:Ob)(f:Int→Option Int)(i:Nat)(x:Fx):Bool:=(decide (i=0) || decide ((o.fixes.getD (i - 1) default).at_<x.at_)) && Z7B o f x
def e58:(List Z04)→List AV:=fun xs=>[.sl (xs.map .str) xs.length,.fn (.func 80) [] []]
def p58:(List Z04)→Prop:=fun xs=>xs.length≤SM
def r58:(List Z04)→AV:=fun xs=>.bool (Z24 q59 xs xs.length)
def g58:(List Z04)→Heap:=fun xs=>[]
theorem inj58:∀a b,e58 a=e58 b→a=b:=by
 rintro xs xs' h
 simp only [e58,Z0f,Z0h,Z0i,Z0g,Z0u,Z0F,Z0E,Z0z,Z0G,Z0D,Z0C,Z0J,List.cons.injEq,AV.int.injEq,AV.str.injEq,AV.bool.injEq,AV.sl.injEq,AV.agg.injEq,AV.ip.injEq,AV.fn.injEq,AV.ifc.injEq,AV.mpr.injEq,Int.natCast_inj,and_true,true_and] at h
 simp_all only
noncomputable def S58:Z0n:=Z2V e58 p58 r58 g58 true
theorem ps58(xs:(List Z04)):Z1J e58 p58 [.sl (xs.map .str) xs.length,.fn (.func 80) [] []]=(xs.length≤SM):=Z0j inj58 p58 xs
theorem rs58(xs:(List Z04)):Z10 e58 r58 .any [.sl (xs.map .str) xs.length,.fn (.func 80) [] []]=(.bool (Z24 q59 xs xs.length)):=Z08 inj58 r58 .any xs
theorem hs58(xs:(List Z04)):Z10 e58 g58 [] [.sl (xs.map .str) xs.length,.fn (.func 80) [] []]=([]):=Z08 inj58 g58 [] xs
attribute [push_cast] S58 ps58 rs58 hs58
theorem con58{Γ:Env}(h:Z07 Tryz.prog Γ)(h59:Γ 80=some S59):Con Tryz.prog 79 S58:=
 Z0t h (fn:=Tryz.f79) (by kernel_rfl) rfl (by kernel_rfl) inj58 (fun _ _=>rfl) fun xs hx=>ZdO Γ 80 S59 h59 rfl [] rfl xs q59 (fun i L hi=>by simp only [push_cast,reduceCtorEq,Nat.reduceAdd,Nat.reduceMul,Nat.reduceSub,Nat.reduceBEq,Nat.reduceGT,Nat.reduceLT,Int.toNat_zero,Nat.reduceLeDiff,Int.reduceEq,Int.reduceLT,Int.reduceLE]) hx
def e60:(List Ds)×(Ob)×(Int→Option Int)→List AV:=fun (xs,o,f)=>[.sl (xs.flatMap Ds.c) xs.length,.fn (.func 82) [] [.ip o.c,.ip [.mpr (some .i64) (tm f)]]]
def p60:(List Ds)×(Ob)×(Int→Option Int)→Prop:=fun (xs,o,f)=>o.ok∧xs=o.descs
def r60:(List Ds)×(Ob)×(Int→Option Int)→AV:=fun (xs,o,f)=>.bool (Z24 (q61 o f) xs xs.length)
def g60:(List Ds)×(Ob)×(Int→Option Int)→Heap:=fun (xs,o,f)=>[]
theorem inj60:∀a b,e60 a=e60 b→a=b:=by
 rintro⟨xs,o,f⟩ ⟨xs',o',f'⟩ h
 simp only [e60,Z0f,Z0h,Z0i,Z0g,Z0u,Z0F,Z0E,Z0z,Z0G,Z0D,Z0C,Z0J,List.cons.injEq,AV.int.injEq,AV.str.injEq,AV.bool.injEq,AV.sl.injEq,AV.agg.injEq,AV.ip.injEq,AV.fn.injEq,AV.ifc.injEq,AV.mpr.injEq,Int.natCast_inj,and_true,true_and] at h
 simp_all only
noncomputable def S60:Z0n:=Z2V e60 p60 r60 g60 true
theorem ps60(xs:(List Ds))(o:(Ob))(f:(Int→Option Int)):Z1J e60 p60 [.sl (xs.flatMap Ds.c) xs.length,.fn (.func 82) [] [.ip o.c,.ip [.mpr (some .i64) (tm f)]]]=(o.ok∧xs=o.descs):=Z0j inj60 p60 (xs,o,f)
theorem rs60(xs:(List Ds))(o:(Ob))(f:(Int→Option Int)):Z10 e60 r60 .any [.sl (xs.flatMap Ds.c) xs.length,.fn (.func 82) [] [.ip o.c,.ip [.mpr (some .i64) (tm f)]]]=(.bool (Z24 (q61 o f) xs xs.length)):=Z08 inj60 r60 .any (xs,o,f)
theorem hs60(xs:(List Ds))(o:(Ob))(f:(Int→Option Int)):Z10 e60 g60 [] [.sl (xs.flatMap Ds.c) xs.length,.fn (.func 82) [] [.ip o.c,.ip [.mpr (some .i64) (tm f)]]]=([]):=Z08 inj60 g60 [] (xs,o,f)
attribute [push_cast] S60 ps60 rs60 hs60
theorem ZkY{o:Ob}(ho:o.ok)(i:Nat)(hi:i<o.descs.length):(o.descs.getD i default).tags.length≤SM:=ho.des _ (by simp [List.getD,hi])
theorem con60{Γ:Env}(h:Z07 Tryz.prog Γ)(h61:Γ 82=some S61):Con Tryz.prog 81 S60:=
 Z0t h (fn:=Tryz.f81) (by kernel_rfl) rfl (by kernel_rfl) inj60 (fun _ _=>rfl) fun ⟨xs,o,f⟩ hx=>by
  obtain⟨ho,rfl⟩:=hx
  refine ZdQ Γ 82 S61 h61 rfl [.ip o.c,.ip [.mpr (some .i64) (tm f)]] (by simp only [Z1D,Z0H,push_cast,Bool.and_self]) o.descs (q61 o f) (fun i L hi=>?_) ho.descs
  simp only [push_cast,reduceCtorEq,Nat.reduceAdd,Nat.reduceMul,Nat.reduceSub,Nat.reduceBEq,Nat.reduceGT,Nat.reduceLT,Int.toNat_zero,Nat.reduceLeDiff,Int.reduceEq,Int.reduceLT,Int.reduceLE]
  exact⟨ho,hi,ZkY ho i hi⟩
def e63:(List Fx)×(Ob)×(Int→Option Int)→List AV:=fun (xs,o,f)=>[.sl (xs.flatMap Fx.c) xs.length,.fn (.func 85) [] [.ip o.c,.ip [.mpr (some .i64) (tm f)]]]
def p63:(List Fx)×(Ob)×(Int→Option Int)→Prop:=fun (xs,o,f)=>o.ok∧xs=o.fixes
def r63:(List Fx)×(Ob)×(Int→Option Int)→AV:=fun (xs,o,f)=>.bool (Z24 (q64 o f) xs xs.length)
def g63:(List Fx)×(Ob)×(Int→Option Int)→Heap:=fun (xs,o,f)=>[]
theorem inj63:∀a b,e63 a=e63 b→a=b:=by
 rintro⟨xs,o,f⟩ ⟨xs',o',f'⟩ h
 simp only [e63,Z0f,Z0h,Z0i,Z0g,Z0u,Z0F,Z0E,Z0z,Z0G,Z0D,Z0C,Z0J,List.cons.injEq,AV.int.injEq,AV.str.injEq,AV.bool.injEq,AV.sl.injEq,AV.agg.injEq,AV.ip.injEq,AV.fn.injEq,AV.ifc.injEq,AV.mpr.injEq,Int.natCast_inj,and_true,true_and] at h
 simp_all only
noncomputable def S63:Z0n:=Z2V e63 p63 r63 g63 true
theorem ps63(xs:(List Fx))(o:(Ob))(f:(Int→Option Int)):Z1J e63 p63 [.sl (xs.flatMap Fx.c) xs.length,.fn (.func 85) [] [.ip o.c,.ip [.mpr (some .i64) (tm f)]]]=(o.ok∧xs=o.fixes):=Z0j inj63 p63 (xs,o,f)
theorem rs63(xs:(List Fx))(o:(Ob))(f:(Int→Option Int)):Z10 e63 r63 .any [.sl (xs.flatMap Fx.c) xs.length,.fn (.func 85) [] [.ip o.c,.ip [.mpr (some .i64) (tm f)]]]=(.bool (Z24 (q64 o f) xs xs.length)):=Z08 inj63 r63 .any (xs,o,f)
theorem hs63(xs:(List Fx))(o:(Ob))(f:(Int→Option Int)):Z10 e63 g63 [] [.sl (xs.flatMap Fx.c) xs.length,.fn (.func 85) [] [.ip o.c,.ip [.mpr (some .i64) (tm f)]]]=([]):=Z08 inj63 g63 [] (xs,o,f)
attribute [push_cast] S63 ps63 rs63 hs63
theorem con63{Γ:Env}(h:Z07 Tryz.prog Γ)(h64:Γ 85=some S64):Con Tryz.prog 84 S63:=
 Z0t h (fn:=Tryz.f84) (by kernel_rfl) rfl (by kernel_rfl) inj63 (fun _ _=>rfl) fun ⟨xs,o,f⟩ hx=>by
  obtain⟨ho,rfl⟩:=hx
  refine ZdP Γ 85 S64 h64 rfl [.ip o.c,.ip [.mpr (some .i64) (tm f)]] (by simp only [Z1D,Z0H,push_cast,Bool.and_self]) o.fixes (q64 o f) (fun i L hi=>?_) ho.fixes
  simp only [push_cast,reduceCtorEq,Nat.reduceAdd,Nat.reduceMul,Nat.reduceSub,Nat.reduceBEq,Nat.reduceGT,Nat.reduceLT,Int.toNat_zero,Nat.reduceLeDiff,Int.reduceEq,Int.reduceLT,Int.reduceLE,q64]
  exact⟨ho,hi⟩
end Go.Proofs.YtmomhjmaanagaaaGreat.objDone
end
