/- Of objects: how the program lays their parts. Conditions stand in each. -/
import Derived.Test.YtmomhjmaanagaaaGreatOU
set_option linter.unusedVariables false
set_option linter.unusedSimpArgs false
set_option maxRecDepth 100000
set_option maxHeartbeats 4000000
namespace Go.Proofs.YtmomhjmaanagaaaGreat.objDone
open Go Go.Eng Go.Proofs
open Go.Proofs.YtmomhjmaanagaaaGreat.objNumbersDone (enc hi7 lo7 q7 Z2X m32 BIG Z7L Z4V ZaH ZgD Zjy Ze9 Zjx Ze8 Z29 Z4A Z5R)
section
variable {α:Type}
noncomputable def Z6B(e:α→List AV)(p:Nat→α→Prop)(k:α→List UInt8):Z0n:=liftG (Z7L (Z10 e k []) (fun r n=>Z1J e (p n) r))
theorem Z1f{Γ:Env}(h:Z07 Tryz.prog Γ){f:FuncId}{fn:Func}(hf:Tryz.prog.funcs[f]?=some fn)(hb:fn.body.isNone=false) (hn:(fn.name == "runtime.NumGoroutine")=false) {e:α→List AV} {p:Nat→α→Prop} {k:α→List UInt8}
  (hi:∀a b,e a=e b→a=b)
  (hh:∀(a:α) (l:List UInt8) (v:Nat),p l.length a→Z0a Tryz.prog Γ fn (.msl 0 v 0 l.length::e a) [.row (l.map Z03) 1 v] (.msl 0 (v+1) 0 (l++k a).length) [.row ((l++k a).map Z03) 1 (v+1)]):Con Tryz.prog f (Z6B e p k):=by
 refine Z4V h hf hb hn fun l v r hp=>?_
 obtain⟨a,rfl,ha⟩:=hp
 rw [Z08 hi]
 exact hh a l v ha
end
attribute [push_cast] Z6B
theorem Z06.app{l k:List UInt8}{v v':Nat}{cs:List AV}{n:Nat}{G:Heap}(hcs:cs=(l++k).map Z03)(hn:n=l.length+k.length)(hv:v+1≤v') :
  Z0k [.row (l.map Z03) 1 v] [.msl 0 v' 0 n] (.row cs 1 v'::G) ([.msl 0 (v+1) 0 (l.length+k.length)],[.row ((l++k).map Z03) 1 (v+1)]):=by
 subst hcs; subst hn
 (refine Z0k.ver 0  (v+1) (by simp only [push_cast,reduceCtorEq,Nat.reduceAdd,Nat.reduceMul,Nat.reduceSub,Nat.reduceBEq,Nat.reduceGT,Nat.reduceLT,Int.toNat_zero,Nat.reduceLeDiff,Int.reduceEq,Int.reduceLT,Int.reduceLE]) (by first | exact .inr (Nat.zero_le _) | (left; simp only [push_cast,reduceCtorEq,Nat.reduceAdd,Nat.reduceMul,Nat.reduceSub,Nat.reduceBEq,Nat.reduceGT,Nat.reduceLT,Int.toNat_zero,Nat.reduceLeDiff,Int.reduceEq,Int.reduceLT,Int.reduceLE]; first | done | omega) | (right; simp only [push_cast,reduceCtorEq,Nat.reduceAdd,Nat.reduceMul,Nat.reduceSub,Nat.reduceBEq,Nat.reduceGT,Nat.reduceLT,Int.toNat_zero,Nat.reduceLeDiff,Int.reduceEq,Int.reduceLT,Int.reduceLE]; first | done | omega)) ?_; simp only [push_cast,reduceCtorEq,Nat.reduceAdd,Nat.reduceMul,Nat.reduceSub,Nat.reduceBEq,Nat.reduceGT,Nat.reduceLT,Int.toNat_zero,Nat.reduceLeDiff,Int.reduceEq,Int.reduceLT,Int.reduceLE])
 (refine Z06.keep1 (by first | exact Z0d _ | (simp only [leF,true_and,and_true,and_self]; done) | (simp [leF]; done)) (by first | (simp only [push_cast,reduceCtorEq,Nat.reduceAdd,Nat.reduceMul,Nat.reduceSub,Nat.reduceBEq,Nat.reduceGT,Nat.reduceLT,Int.toNat_zero,Nat.reduceLeDiff,Int.reduceEq,Int.reduceLT,Int.reduceLE]; done) | simp only [push_cast,reduceCtorEq,Nat.reduceAdd,Nat.reduceMul,Nat.reduceSub,Nat.reduceBEq,Nat.reduceGT,Nat.reduceLT,Int.toNat_zero,Nat.reduceLeDiff,Int.reduceEq,Int.reduceLT,Int.reduceLE,hcs]) (by first | rfl | (first | (simp only [push_cast,reduceCtorEq,Nat.reduceAdd,Nat.reduceMul,Nat.reduceSub,Nat.reduceBEq,Nat.reduceGT,Nat.reduceLT,Int.toNat_zero,Nat.reduceLeDiff,Int.reduceEq,Int.reduceLT,Int.reduceLE]; done) | simp only [push_cast,reduceCtorEq,Nat.reduceAdd,Nat.reduceMul,Nat.reduceSub,Nat.reduceBEq,Nat.reduceGT,Nat.reduceLT,Int.toNat_zero,Nat.reduceLeDiff,Int.reduceEq,Int.reduceLT,Int.reduceLE,hcs])) (by first | decide | simp))
def u32(n:Int):Nat:=(n % 4294967296).toNat
theorem Z3e(n:Int):u32 n<2 ^ 32:=by unfold u32; omega
theorem Z7O(n:Int):IntKind.u32.wrap n=(u32 n:Int):=by simp [IntKind.wrap,IntKind.bits,IntKind.signed,u32]; omega
def num(n:Int):Z04:=enc (u32 n)
theorem Z0q(n:Int):(num n).length≤5:=Z2X 4 _ (by have:=Z3e n; omega)
def txt(s:Z04):Z04:=enc (m32 s.length)++s
theorem Z2a(s:Z04):(txt s).length≤5+s.length:=by
 have:m32 s.length<2 ^ 32:=Nat.mod_lt _ (by omega)
 have:=Z2X 4 (m32 s.length) (by omega)
 simp [txt]; omega
def by8(z:Int):UInt8:=UInt8.ofNat (z % 256).toNat
theorem Z7N(z:Int):IntKind.u8.wrap z=((by8 z).toNat:Int):=by
 have:(z % 256).toNat<256:=by omega
 simp [IntKind.wrap,IntKind.bits,IntKind.signed,by8,Nat.mod_eq_of_lt this]; omega
def le4(w:Int):Z04:=[by8 w,by8 (w.fdiv 256),by8 (w.fdiv 65536),by8 (w.fdiv 16777216)]
theorem sh8(w:Int):w.fdiv (2 ^ min (Int.toNat 8) IntKind.u32.bits)=w.fdiv 256:=rfl
theorem sh16(w:Int):w.fdiv (2 ^ min (Int.toNat 16) IntKind.u32.bits)=w.fdiv 65536:=rfl
theorem sh24(w:Int):w.fdiv (2 ^ min (Int.toNat 24) IntKind.u32.bits)=w.fdiv 16777216:=rfl
def e28:(Int)→List AV:=fun w=>[.int .u32 w]
def p28:Nat→(Int)→Prop:=fun n w=>n+4≤BIG
def k28:(Int)→List UInt8:=fun w=>le4 w
theorem inj28:∀a b,e28 a=e28 b→a=b:=by
 rintro w w' h
 simp only [e28,Z0f,Z0h,Z0i,Z0g,Z0u,Z0F,Z0E,Z0z,Z0G,Z0D,Z0C,Z0J,List.cons.injEq,AV.int.injEq,AV.str.injEq,AV.bool.injEq,AV.sl.injEq,AV.agg.injEq,AV.ip.injEq,AV.fn.injEq,AV.ifc.injEq,AV.mpr.injEq,Int.natCast_inj,and_true,true_and] at h
 simp_all only
noncomputable def S28:Z0n:=Z6B e28 p28 k28
theorem ps28(n:Nat)(w:(Int)):Z1J e28 (p28 n) [.int .u32 w]=(n+4≤BIG):=Z0j inj28 (p28 n) w
theorem ks28(w:(Int)):Z10 e28 k28 [] [.int .u32 w]=(le4 w):=Z08 inj28 k28 [] w
attribute [push_cast] S28 ps28 ks28
theorem body28(Γ:Env)(l:List UInt8)(v:Nat)(w:Int)(hl:l.length+4≤BIG):Z0a Tryz.prog Γ Tryz.f54 (.msl 0 v 0 l.length::e28 w) [.row (l.map Z03) 1 v] (.msl 0 (v+1) 0 (l++k28 w).length) [.row ((l++k28 w).map Z03) 1 (v+1)]:=by
 have hB:(BIG:Nat)=140737488355328:=rfl
 (intro X hP hΓ hL hfin; refine⟨_,rfl,?_⟩; rw [show Tryz.f54.ntmps=19 from rfl]; rw [show Tryz.f54.results.toList=[.tmp 4] from rfl] at hfin; apply holds_of_ex X 400; simp (maxSteps:=1000000) only [push_cast,reduceCtorEq,Nat.reduceAdd,Nat.reduceMul,Nat.reduceSub,Nat.reduceBEq,Nat.reduceGT,Nat.reduceLT,Int.toNat_zero,Nat.reduceLeDiff,Int.reduceEq,Int.reduceLT,Int.reduceLE,hP,hΓ,hL,hfin,↓Z00,e28,Z7N,sh8,sh16,sh24])
 exact⟨by omega,Z06.app (by simp [k28,le4,Z03]) rfl (by omega)⟩
theorem con28{Γ:Env}(h:Z07 Tryz.prog Γ):Con Tryz.prog 54 S28:=
 Z1f h (fn:=Tryz.f54) (by kernel_rfl) rfl (by kernel_rfl) inj28 fun w l v h=>body28 Γ l v w h
def e23:(Nat)→List AV:=fun m=>[.int .u32 (m:Int)]
def p23:Nat→(Nat)→Prop:=fun n m=>m<2 ^ 32∧n+5≤BIG
def k23:(Nat)→List UInt8:=fun m=>enc m
theorem inj23:∀a b,e23 a=e23 b→a=b:=by
 rintro m m' h
 simp only [e23,Z0f,Z0h,Z0i,Z0g,Z0u,Z0F,Z0E,Z0z,Z0G,Z0D,Z0C,Z0J,List.cons.injEq,AV.int.injEq,AV.str.injEq,AV.bool.injEq,AV.sl.injEq,AV.agg.injEq,AV.ip.injEq,AV.fn.injEq,AV.ifc.injEq,AV.mpr.injEq,Int.natCast_inj,and_true,true_and] at h
 simp_all only
noncomputable def S23:Z0n:=Z6B e23 p23 k23
theorem Zkj(n:Nat)(m:(Nat)):Z1J e23 (p23 n) [.int .u32 (m:Int)]=(m<2 ^ 32∧n+5≤BIG):=Z0j inj23 (p23 n) m
theorem ks23(m:(Nat)):Z10 e23 k23 [] [.int .u32 (m:Int)]=(enc m):=Z08 inj23 k23 [] m
attribute [push_cast] S23 Zkj ks23
theorem con23{Γ:Env}(h:Z07 Tryz.prog Γ):Con Tryz.prog 27 S23:=
 Z1f h (fn:=Tryz.f27) (by kernel_rfl) rfl (by kernel_rfl) inj23 fun m l v h=>Z4A Γ l v m h.1 h.2
def e25:(Z04)→List AV:=fun s=>[.str s]
def p25:Nat→(Z04)→Prop:=fun n s=>n+5+s.length≤BIG
def k25:(Z04)→List UInt8:=fun s=>txt s
theorem inj25:∀a b,e25 a=e25 b→a=b:=by
 rintro s s' h
 simp only [e25,Z0f,Z0h,Z0i,Z0g,Z0u,Z0F,Z0E,Z0z,Z0G,Z0D,Z0C,Z0J,List.cons.injEq,AV.int.injEq,AV.str.injEq,AV.bool.injEq,AV.sl.injEq,AV.agg.injEq,AV.ip.injEq,AV.fn.injEq,AV.ifc.injEq,AV.mpr.injEq,Int.natCast_inj,and_true,true_and] at h
 simp_all only
noncomputable def S25:Z0n:=Z6B e25 p25 k25
theorem ps25(n:Nat)(s:(Z04)):Z1J e25 (p25 n) [.str s]=(n+5+s.length≤BIG):=Z0j inj25 (p25 n) s
theorem ks25(s:(Z04)):Z10 e25 k25 [] [.str s]=(txt s):=Z08 inj25 k25 [] s
attribute [push_cast] S25 ps25 ks25
theorem con25{Γ:Env}(h:Z07 Tryz.prog Γ)(h23:Γ 27=some ZaH):Con Tryz.prog 55 S25:=
 Z1f h (fn:=Tryz.f55) (by kernel_rfl) rfl (by kernel_rfl) inj25 fun s l v h=>Z5R Γ h23 l v s h
def e35:(Int)×(Int)→List AV:=fun (i,x)=>[.int .i64 i,.int .i64 x]
def p35:Nat→(Int)×(Int)→Prop:=fun n (i,x)=>n+5≤BIG
def k35:(Int)×(Int)→List UInt8:=fun (i,x)=>num x
theorem inj35:∀a b,e35 a=e35 b→a=b:=by
 rintro⟨i,x⟩ ⟨i',x'⟩ h
 simp only [e35,Z0f,Z0h,Z0i,Z0g,Z0u,Z0F,Z0E,Z0z,Z0G,Z0D,Z0C,Z0J,List.cons.injEq,AV.int.injEq,AV.str.injEq,AV.bool.injEq,AV.sl.injEq,AV.agg.injEq,AV.ip.injEq,AV.fn.injEq,AV.ifc.injEq,AV.mpr.injEq,Int.natCast_inj,and_true,true_and] at h
 simp_all only
noncomputable def S35:Z0n:=Z6B e35 p35 k35
theorem ps35(n:Nat)(i:(Int))(x:(Int)):Z1J e35 (p35 n) [.int .i64 i,.int .i64 x]=(n+5≤BIG):=Z0j inj35 (p35 n) (i,x)
theorem ks35(i:(Int))(x:(Int)):Z10 e35 k35 [] [.int .i64 i,.int .i64 x]=(num x):=Z08 inj35 k35 [] (i,x)
attribute [push_cast] S35 ps35 ks35
theorem body35(Γ:Env)(h23:Γ 27=some S23)(l:List UInt8)(v:Nat)(i:Int)(x:Int)(hl:p35 l.length (i,x)):Z0a Tryz.prog Γ Tryz.f62 (.msl 0 v 0 l.length::e35 (i,x)) [.row (l.map Z03) 1 v] (.msl 0 (v+1) 0 (l++k35 (i,x)).length) [.row ((l++k35 (i,x)).map Z03) 1 (v+1)]:=by
 have hB:(BIG:Nat)=140737488355328:=rfl
 simp only [p35] at hl
 (intro X hP hΓ hL hfin; refine⟨_,rfl,?_⟩; rw [show Tryz.f62.ntmps=11 from rfl]; rw [show Tryz.f62.results.toList=[.tmp 6] from rfl] at hfin; apply holds_of_ex X 400; simp (maxSteps:=1000000) only [push_cast,reduceCtorEq,Nat.reduceAdd,Nat.reduceMul,Nat.reduceSub,Nat.reduceBEq,Nat.reduceGT,Nat.reduceLT,Int.toNat_zero,Nat.reduceLeDiff,Int.reduceEq,Int.reduceLT,Int.reduceLE,hP,hΓ,hL,hfin,↓Z00,e35,h23,Z7O])
 refine⟨⟨own_row l,by first | omega | exact⟨Z3e _,by omega⟩⟩,Z06.app (by simp [k35,num]) rfl (by omega)⟩
theorem con35{Γ:Env}(h:Z07 Tryz.prog Γ)(h23:Γ 27=some S23):Con Tryz.prog 62 S35:=
 Z1f h (fn:=Tryz.f62) (by kernel_rfl) rfl (by kernel_rfl) inj35 fun ⟨i,x⟩ l v h=>body35 Γ h23 l v i x h
def e32:(Int)×(Int)→List AV:=fun (i,w)=>[.int .i64 i,.int .u32 w]
def p32:Nat→(Int)×(Int)→Prop:=fun n (i,w)=>n+4≤BIG
def k32:(Int)×(Int)→List UInt8:=fun (i,w)=>le4 w
theorem inj32:∀a b,e32 a=e32 b→a=b:=by
 rintro⟨i,w⟩ ⟨i',w'⟩ h
 simp only [e32,Z0f,Z0h,Z0i,Z0g,Z0u,Z0F,Z0E,Z0z,Z0G,Z0D,Z0C,Z0J,List.cons.injEq,AV.int.injEq,AV.str.injEq,AV.bool.injEq,AV.sl.injEq,AV.agg.injEq,AV.ip.injEq,AV.fn.injEq,AV.ifc.injEq,AV.mpr.injEq,Int.natCast_inj,and_true,true_and] at h
 simp_all only
noncomputable def S32:Z0n:=Z6B e32 p32 k32
theorem ps32(n:Nat)(i:(Int))(w:(Int)):Z1J e32 (p32 n) [.int .i64 i,.int .u32 w]=(n+4≤BIG):=Z0j inj32 (p32 n) (i,w)
theorem ks32(i:(Int))(w:(Int)):Z10 e32 k32 [] [.int .i64 i,.int .u32 w]=(le4 w):=Z08 inj32 k32 [] (i,w)
attribute [push_cast] S32 ps32 ks32
theorem body32(Γ:Env)(h28:Γ 54=some S28)(l:List UInt8)(v:Nat)(i:Int)(w:Int)(hl:p32 l.length (i,w)):Z0a Tryz.prog Γ Tryz.f59 (.msl 0 v 0 l.length::e32 (i,w)) [.row (l.map Z03) 1 v] (.msl 0 (v+1) 0 (l++k32 (i,w)).length) [.row ((l++k32 (i,w)).map Z03) 1 (v+1)]:=by
 have hB:(BIG:Nat)=140737488355328:=rfl
 simp only [p32] at hl
 (intro X hP hΓ hL hfin; refine⟨_,rfl,?_⟩; rw [show Tryz.f59.ntmps=10 from rfl]; rw [show Tryz.f59.results.toList=[.tmp 6] from rfl] at hfin; apply holds_of_ex X 400; simp (maxSteps:=1000000) only [push_cast,reduceCtorEq,Nat.reduceAdd,Nat.reduceMul,Nat.reduceSub,Nat.reduceBEq,Nat.reduceGT,Nat.reduceLT,Int.toNat_zero,Nat.reduceLeDiff,Int.reduceEq,Int.reduceLT,Int.reduceLE,hP,hΓ,hL,hfin,↓Z00,e32,h28])
 refine⟨⟨own_row l,by first | omega | exact⟨Z3e _,by omega⟩⟩,Z06.app (by simp [k32,num]) rfl (by omega)⟩
theorem con32{Γ:Env}(h:Z07 Tryz.prog Γ)(h28:Γ 54=some S28):Con Tryz.prog 59 S32:=
 Z1f h (fn:=Tryz.f59) (by kernel_rfl) rfl (by kernel_rfl) inj32 fun ⟨i,x⟩ l v h=>body32 Γ h28 l v i x h
def e37:(Int)×(Z04)→List AV:=fun (i,s)=>[.int .i64 i,.str s]
def p37:Nat→(Int)×(Z04)→Prop:=fun n (i,s)=>n+5+s.length≤BIG
def k37:(Int)×(Z04)→List UInt8:=fun (i,s)=>txt s
theorem inj37:∀a b,e37 a=e37 b→a=b:=by
 rintro⟨i,s⟩ ⟨i',s'⟩ h
 simp only [e37,Z0f,Z0h,Z0i,Z0g,Z0u,Z0F,Z0E,Z0z,Z0G,Z0D,Z0C,Z0J,List.cons.injEq,AV.int.injEq,AV.str.injEq,AV.bool.injEq,AV.sl.injEq,AV.agg.injEq,AV.ip.injEq,AV.fn.injEq,AV.ifc.injEq,AV.mpr.injEq,Int.natCast_inj,and_true,true_and] at h
 simp_all only
noncomputable def S37:Z0n:=Z6B e37 p37 k37
theorem ps37(n:Nat)(i:(Int))(s:(Z04)):Z1J e37 (p37 n) [.int .i64 i,.str s]=(n+5+s.length≤BIG):=Z0j inj37 (p37 n) (i,s)
theorem ks37(i:(Int))(s:(Z04)):Z10 e37 k37 [] [.int .i64 i,.str s]=(txt s):=Z08 inj37 k37 [] (i,s)
attribute [push_cast] S37 ps37 ks37
theorem body37(Γ:Env)(h25:Γ 55=some S25)(l:List UInt8)(v:Nat)(i:Int)(s:Z04)(hl:p37 l.length (i,s)):Z0a Tryz.prog Γ Tryz.f64 (.msl 0 v 0 l.length::e37 (i,s)) [.row (l.map Z03) 1 v] (.msl 0 (v+1) 0 (l++k37 (i,s)).length) [.row ((l++k37 (i,s)).map Z03) 1 (v+1)]:=by
 have hB:(BIG:Nat)=140737488355328:=rfl
 simp only [p37] at hl
 (intro X hP hΓ hL hfin; refine⟨_,rfl,?_⟩; rw [show Tryz.f64.ntmps=10 from rfl]; rw [show Tryz.f64.results.toList=[.tmp 6] from rfl] at hfin; apply holds_of_ex X 400; simp (maxSteps:=1000000) only [push_cast,reduceCtorEq,Nat.reduceAdd,Nat.reduceMul,Nat.reduceSub,Nat.reduceBEq,Nat.reduceGT,Nat.reduceLT,Int.toNat_zero,Nat.reduceLeDiff,Int.reduceEq,Int.reduceLT,Int.reduceLE,hP,hΓ,hL,hfin,↓Z00,e37,h25])
 refine⟨⟨own_row l,by first | omega | exact⟨Z3e _,by omega⟩⟩,Z06.app (by simp [k37,num]) rfl (by omega)⟩
theorem con37{Γ:Env}(h:Z07 Tryz.prog Γ)(h25:Γ 55=some S25):Con Tryz.prog 64 S37:=
 Z1f h (fn:=Tryz.f64) (by kernel_rfl) rfl (by kernel_rfl) inj37 fun ⟨i,x⟩ l v h=>body37 Γ h25 l v i x h
def e30:(Int)×(Im)→List AV:=fun (i,x)=>[.int .i64 i,.agg x.c]
def p30:Nat→(Int)×(Im)→Prop:=fun n (i,x)=>n+9+x.name.length≤BIG
def k30:(Int)×(Im)→List UInt8:=fun (i,x)=>txt x.name++le4 x.key
theorem inj30:∀a b,e30 a=e30 b→a=b:=by
 rintro⟨i,x⟩ ⟨i',x'⟩ h
 simp only [e30,Z0f,Z0h,Z0i,Z0g,Z0u,Z0F,Z0E,Z0z,Z0G,Z0D,Z0C,Z0J,List.cons.injEq,AV.int.injEq,AV.str.injEq,AV.bool.injEq,AV.sl.injEq,AV.agg.injEq,AV.ip.injEq,AV.fn.injEq,AV.ifc.injEq,AV.mpr.injEq,Int.natCast_inj,and_true,true_and] at h
 simp_all only
noncomputable def S30:Z0n:=Z6B e30 p30 k30
theorem ps30(n:Nat)(i:(Int))(x:(Im)):Z1J e30 (p30 n) [.int .i64 i,.agg x.c]=(n+9+x.name.length≤BIG):=Z0j inj30 (p30 n) (i,x)
theorem ks30(i:(Int))(x:(Im)):Z10 e30 k30 [] [.int .i64 i,.agg x.c]=(txt x.name++le4 x.key):=Z08 inj30 k30 [] (i,x)
attribute [push_cast] S30 ps30 ks30
theorem body30(Γ:Env)(h25:Γ 55=some S25)(h28:Γ 54=some S28)(l:List UInt8)(v:Nat)(i:Int)(x:Im)(hl:l.length+9+x.name.length≤BIG):Z0a Tryz.prog Γ Tryz.f57 (.msl 0 v 0 l.length::e30 (i,x)) [.row (l.map Z03) 1 v] (.msl 0 (v+1) 0 (l++k30 (i,x)).length) [.row ((l++k30 (i,x)).map Z03) 1 (v+1)]:=by
 have hB:(BIG:Nat)=140737488355328:=rfl
 have ht:=Z2a x.name
 (intro X hP hΓ hL hfin; refine⟨_,rfl,?_⟩; rw [show Tryz.f57.ntmps=14 from rfl]; rw [show Tryz.f57.results.toList=[.tmp 6] from rfl] at hfin; apply holds_of_ex X 400; simp (maxSteps:=1000000) only [push_cast,reduceCtorEq,Nat.reduceAdd,Nat.reduceMul,Nat.reduceSub,Nat.reduceBEq,Nat.reduceGT,Nat.reduceLT,Int.toNat_zero,Nat.reduceLeDiff,Int.reduceEq,Int.reduceLT,Int.reduceLE,hP,hΓ,hL,hfin,↓Z00,e30])
 (refine Holds.drawn (Zhb [.row x.c 2 0]) [3,6] (by rw [hP]; kernel_rfl) (by kernel_rfl) (by kernel_rfl) (by first | exact⟨_,[],rfl⟩ | exact⟨_,_,rfl⟩ | (simp only [push_cast]; done) | exact⟨[],by simp⟩) ?_; simp (maxSteps:=1000000) only [↓reduceIte,Option.getD_some,push_cast,reduceCtorEq,Nat.reduceAdd,Nat.reduceMul,Nat.reduceSub,Nat.reduceBEq,Nat.reduceGT,Nat.reduceLT,Int.toNat_zero,Nat.reduceLeDiff,Int.reduceEq,Int.reduceLT,Int.reduceLE,hP,hΓ,hL,hfin,↓Z00,h25,h28])
 refine⟨⟨own_row l,by omega⟩,⟨Z17 (l++txt x.name) (by simp) (by simp),by omega⟩,?_⟩
 ((first | with_reducible refine holds_of_ex X 400 _ _ _ ?_ | skip); simp (maxSteps:=1000000) only [push_cast,reduceCtorEq,Nat.reduceAdd,Nat.reduceMul,Nat.reduceSub,Nat.reduceBEq,Nat.reduceGT,Nat.reduceLT,Int.toNat_zero,Nat.reduceLeDiff,Int.reduceEq,Int.reduceLT,Int.reduceLE,hP,hΓ,hL,hfin,↓Z00])
 exact Z06.app (by simp [k30]) (by simp [k30,Nat.add_assoc]) (by omega)
theorem con30{Γ:Env}(h:Z07 Tryz.prog Γ)(h25:Γ 55=some S25)(h28:Γ 54=some S28):Con Tryz.prog 57 S30:=
 Z1f h (fn:=Tryz.f57) (by kernel_rfl) rfl (by kernel_rfl) inj30 fun ⟨i,x⟩ l v h=>body30 Γ h25 h28 l v i x h
def Z6e(o:Ob)(i:Nat)(at_:Int):Z04:=num at_++txt (o.names.getD i default)++[if o.exps.getD i default then 1 else 0]
def e34:(Nat)×(Int)×(Ob)→List AV:=fun (i,x,o)=>[.int .i64 i,.int .i64 x,.ip o.c]
def p34:Nat→(Nat)×(Int)×(Ob)→Prop:=fun n (i,x,o)=>n+11+SM≤BIG∧i<o.names.length∧i<o.exps.length∧o.ok
def k34:(Nat)×(Int)×(Ob)→List UInt8:=fun (i,x,o)=>Z6e o i x
theorem inj34:∀a b,e34 a=e34 b→a=b:=by
 rintro⟨i,x,o⟩ ⟨i',x',o'⟩ h
 simp only [e34,Z0f,Z0h,Z0i,Z0g,Z0u,Z0F,Z0E,Z0z,Z0G,Z0D,Z0C,Z0J,List.cons.injEq,AV.int.injEq,AV.str.injEq,AV.bool.injEq,AV.sl.injEq,AV.agg.injEq,AV.ip.injEq,AV.fn.injEq,AV.ifc.injEq,AV.mpr.injEq,Int.natCast_inj,and_true,true_and] at h
 simp_all only
noncomputable def S34:Z0n:=Z6B e34 p34 k34
theorem ps34(n:Nat)(i:(Nat))(x:(Int))(o:(Ob)):Z1J e34 (p34 n) [.int .i64 i,.int .i64 x,.ip o.c]=(n+11+SM≤BIG∧i<o.names.length∧i<o.exps.length∧o.ok):=Z0j inj34 (p34 n) (i,x,o)
theorem ks34(i:(Nat))(x:(Int))(o:(Ob)):Z10 e34 k34 [] [.int .i64 i,.int .i64 x,.ip o.c]=(Z6e o i x):=Z08 inj34 k34 [] (i,x,o)
attribute [push_cast] S34 ps34 ks34
theorem body34(Γ:Env)(h25:Γ 55=some S25)(h35:Γ 62=some S35)(l:List UInt8)(v:Nat)(i:Nat)(x:Int)(o:Ob)(hl:l.length+11+SM≤BIG)(hn:i<o.names.length)(he:i<o.exps.length)(ho:o.ok):Z0a Tryz.prog Γ Tryz.f61 (.msl 0 v 0 l.length::e34 (i,x,o)) [.row (l.map Z03) 1 v] (.msl 0 (v+1) 0 (l++k34 (i,x,o)).length) [.row ((l++k34 (i,x,o)).map Z03) 1 (v+1)]:=by
 have hB:(BIG:Nat)=140737488355328:=rfl
 have ht:=Z2a (o.names.getD i default)
 have hnm:=ho.nam (o.names.getD i default) (by simp [List.getD,hn])
 have hx:=Z0q x
 (intro X hP hΓ hL hfin; refine⟨_,rfl,?_⟩; rw [show Tryz.f61.ntmps=29 from rfl]; rw [show Tryz.f61.results.toList=[.tmp 7] from rfl] at hfin; apply holds_of_ex X 400; simp (maxSteps:=1000000) only [push_cast,reduceCtorEq,Nat.reduceAdd,Nat.reduceMul,Nat.reduceSub,Nat.reduceBEq,Nat.reduceGT,Nat.reduceLT,Int.toNat_zero,Nat.reduceLeDiff,Int.reduceEq,Int.reduceLT,Int.reduceLE,hP,hΓ,hL,hfin,↓Z00,e34])
 (refine Holds.drawn (Zhb []) [3,9] (by rw [hP]; kernel_rfl) (by kernel_rfl) (by kernel_rfl) (by first | exact⟨_,[],rfl⟩ | exact⟨_,_,rfl⟩ | (simp only [push_cast]; done) | exact⟨[],by simp⟩) ?_; simp (maxSteps:=1000000) only [↓reduceIte,Option.getD_some,push_cast,reduceCtorEq,Nat.reduceAdd,Nat.reduceMul,Nat.reduceSub,Nat.reduceBEq,Nat.reduceGT,Nat.reduceLT,Int.toNat_zero,Nat.reduceLeDiff,Int.reduceEq,Int.reduceLT,Int.reduceLE,hP,hΓ,hL,hfin,↓Z00,h25,h35])
 refine⟨⟨own_row l,by omega⟩,by omega,by omega,⟨Z17 (l++num x) (by simp) (by simp),by omega⟩,?_⟩
 ((first | with_reducible refine holds_of_ex X 400 _ _ _ ?_ | skip); simp (maxSteps:=1000000) only [push_cast,reduceCtorEq,Nat.reduceAdd,Nat.reduceMul,Nat.reduceSub,Nat.reduceBEq,Nat.reduceGT,Nat.reduceLT,Int.toNat_zero,Nat.reduceLeDiff,Int.reduceEq,Int.reduceLT,Int.reduceLE,hP,hΓ,hL,hfin,↓Z00])
 refine⟨by omega,by omega,?_⟩
 refine Z02 (fun h=>?_) (fun h=>?_)
 ·((first | with_reducible refine holds_of_ex X 400 _ _ _ ?_ | skip); simp (maxSteps:=1000000) only [push_cast,reduceCtorEq,Nat.reduceAdd,Nat.reduceMul,Nat.reduceSub,Nat.reduceBEq,Nat.reduceGT,Nat.reduceLT,Int.toNat_zero,Nat.reduceLeDiff,Int.reduceEq,Int.reduceLT,Int.reduceLE,hP,hΓ,hL,hfin,↓Z00])
  exact⟨by omega,Z06.app (by simp only [k34,Z6e,h,if_true]; simp [Z03]) (by simp only [k34,Z6e]; simp; omega) (by omega)⟩
 ·((first | with_reducible refine holds_of_ex X 400 _ _ _ ?_ | skip); simp (maxSteps:=1000000) only [push_cast,reduceCtorEq,Nat.reduceAdd,Nat.reduceMul,Nat.reduceSub,Nat.reduceBEq,Nat.reduceGT,Nat.reduceLT,Int.toNat_zero,Nat.reduceLeDiff,Int.reduceEq,Int.reduceLT,Int.reduceLE,hP,hΓ,hL,hfin,↓Z00])
  exact⟨by omega,Z06.app (by simp only [k34,Z6e,h,Bool.false_eq_true,if_false]; simp [Z03]) (by simp only [k34,Z6e]; simp; omega) (by omega)⟩
theorem con34{Γ:Env}(h:Z07 Tryz.prog Γ)(h25:Γ 55=some S25)(h35:Γ 62=some S35):Con Tryz.prog 61 S34:=
 Z1f h (fn:=Tryz.f61) (by kernel_rfl) rfl (by kernel_rfl) inj34 fun ⟨i,x,o⟩ l v h=>body34 Γ h25 h35 l v i x o h.1 h.2.1 h.2.2.1 h.2.2.2
def Z1H{α:Type}[Inhabited α](f:Nat→α→Z04)(xs:List α)(k:Nat):Z04:=(List.range k).flatMap fun i=>f i (xs.getD i default)
theorem Z1a{α:Type}[Inhabited α](f:Nat→α→Z04)(xs:List α)(k:Nat):Z1H f xs (k+1)=Z1H f xs k++f k (xs.getD k default):=by simp [Z1H,List.range_succ]
theorem Z0Y{α:Type}[Inhabited α](f:Nat→α→Z04)(xs:List α)(M:Nat):∀k,(∀i,i<k→(f i (xs.getD i default)).length≤M)→(Z1H f xs k).length≤k*M
 | 0,_=>by simp [Z1H]
 | k+1,h=>by
  have:=Z0Y f xs M k (fun i hi=>h i (by omega))
  have:=h k (by omega)
  rw [Z1a,List.length_append,Nat.succ_mul]; omega
theorem Z5L(n:Nat):IntKind.u32.wrap (n:Int)=(u32 (n:Int):Int):=Z7O n
theorem Zba(Γ:Env)(h23:Γ 27=some S23)(g:FuncId)(kk:List AV→Z04)(pp:List AV→Nat→Prop)(hg:Γ g=some (liftG (Z7L kk pp)))(xs:List Int)(f:Nat→Int→Z04)(M:Nat)
  (hpp:∀i n,i<xs.length→n+M≤BIG→pp [.int .i64 i,(.int .i64 (xs.getD i default)),] n) (hkk:∀i,i<xs.length→kk [.int .i64 i,(.int .i64 (xs.getD i default)),]=f i (xs.getD i default))
  (hM:∀i,i<xs.length→(f i (xs.getD i default)).length≤M) (hl:xs.length≤SM) (l:Z04) (v:Nat) (hN:l.length+5+(xs.length+1)*M≤BIG) :
  Z0a Tryz.prog Γ Tryz.f60 (.msl 0 v 0 l.length::[.sl (xs.map (.int .i64)) xs.length,.fn (.func g) [] []]) [.row (l.map Z03) 1 v] (.msl 0 (v+1) 0 (l++(num xs.length++Z1H f xs xs.length)).length) [.row ((l++(num xs.length++Z1H f xs xs.length)).map Z03) 1 (v+1)]:=by
 have hB:(BIG:Nat)=140737488355328:=rfl
 have hSM:SM=1048576:=rfl
 have hn:=Z0q xs.length
 rw [Nat.succ_mul] at hN
 (intro X hP hΓ hL hfin; refine⟨_,rfl,?_⟩; rw [show Tryz.f60.ntmps=28 from rfl]; rw [show Tryz.f60.results.toList=[.tmp 6] from rfl] at hfin; apply holds_of_ex X 400; simp only [push_cast,reduceCtorEq,Nat.reduceAdd,Nat.reduceMul,Nat.reduceSub,Nat.reduceBEq,Nat.reduceGT,Nat.reduceLT,Int.toNat_zero,Nat.reduceLeDiff,Int.reduceEq,Int.reduceLT,Int.reduceLE,hP,hΓ,hL,hfin])
 ((first | with_reducible refine holds_of_ex X 400 _ _ _ ?_ | skip); simp (maxSteps:=1000000) only [push_cast,reduceCtorEq,Nat.reduceAdd,Nat.reduceMul,Nat.reduceSub,Nat.reduceBEq,Nat.reduceGT,Nat.reduceLT,Int.toNat_zero,Nat.reduceLeDiff,Int.reduceEq,Int.reduceLT,Int.reduceLE,hP,hΓ,hL,hfin,↓Z00,h23,Z5L])
 obtain⟨Q,hQ⟩:∃Q:Nat→Z04,Q=fun k=>l++(num xs.length++Z1H f xs k):=⟨_,rfl⟩
 have hQ0:l++enc (u32 xs.length)=Q 0:=by rw [hQ]; simp [Z1H,num]
 have hQ1:∀k,Q k++f k (xs.getD k default)=Q (k+1):=fun k=>by simp only [hQ]; rw [Z1a]; simp
 have hQl:∀k,k≤xs.length→(Q k).length≤l.length+5+xs.length*M:=fun k hk=>by
  have h1:=Z0Y f xs M k (fun i hi=>hM i (by omega))
  have h2:k*M≤xs.length*M:=Nat.mul_le_mul_right _ hk
  rw [hQ]; simp; omega
 have hQn:l++(num xs.length++Z1H f xs xs.length)=Q xs.length:=by rw [hQ]
 simp only [←List.length_append,←List.map_append,hQ0,hQn] at hfin ⊢
 refine⟨⟨own_row l,Z3e _,by omega⟩,?_⟩
 refine Holds.loopM (ι:={k:Nat // k≤xs.length}) [false,false,true,false,false,false,true,false,false,false,false,false,false,false,true,true,false,false,false,false,false,false,false,false,false,false,false,false] (fun i=>[(0,.msl 0 (v+1) 0 (Q i.1).length),(16,.int .i64 i.1)]) (fun i=>[.row ((Q i.1).map Z03) 1 (v+1)]) (fun i=>xs.length - i.1) ⟨0,Nat.zero_le _⟩ ?_ ?_
 ·(rw [hL]; simp only [push_cast,Int.natCast_zero]; exact Z06.sameA)
 rintro⟨k,hk⟩
 have hq:=hQl k hk
 ((first | with_reducible refine holds_of_ex X 400 _ _ _ ?_ | skip); simp (maxSteps:=1000000) only [push_cast,reduceCtorEq,Nat.reduceAdd,Nat.reduceMul,Nat.reduceSub,Nat.reduceBEq,Nat.reduceGT,Nat.reduceLT,Int.toNat_zero,Nat.reduceLeDiff,Int.reduceEq,Int.reduceLT,Int.reduceLE,hP,hΓ,hL,hfin,↓Z00])
 ((with_reducible refine Z02 (fun h=>?_) (fun h=>?_)) <;> (try simp only [decide_eq_true_eq,decide_eq_false_iff_not,Bool.and_eq_true,Bool.or_eq_true,Bool.and_eq_false_iff,Bool.or_eq_false_iff,Bool.not_eq_true',Bool.not_eq_false',Bool.not_eq_true,Bool.not_eq_false,Int.not_lt,Int.not_le,beq_iff_eq,beq_eq_false_iff_ne,ne_eq,win_t,win_f] at h))
 ·have hk':k<xs.length:=by omega
  have e1:=hkk k hk'
  have e2:=hpp k (Q k).length hk' (by omega)
  ((first | with_reducible refine holds_of_ex X 400 _ _ _ ?_ | skip); simp (maxSteps:=1000000) only [push_cast,reduceCtorEq,Nat.reduceAdd,Nat.reduceMul,Nat.reduceSub,Nat.reduceBEq,Nat.reduceGT,Nat.reduceLT,Int.toNat_zero,Nat.reduceLeDiff,Int.reduceEq,Int.reduceLT,Int.reduceLE,hP,hΓ,hL,hfin,↓Z00,hg,hk',Z0c ((k:Int)+1) (by constructor <;> omega),e1,e2])
  simp only [←List.length_append,←List.map_append,hQ1]
  (repeat (refine And.intro (by first | exact True.intro | omega | assumption | exact own_row _ | (simp only [List.length_append]; omega) | (intro hg; (try simp only [decide_eq_true_eq,decide_eq_false_iff_not,Bool.and_eq_true,Bool.or_eq_true,Bool.and_eq_false_iff,Bool.or_eq_false_iff,Bool.not_eq_true',Bool.not_eq_false',Bool.not_eq_true,Bool.not_eq_false,Int.not_lt,Int.not_le,beq_iff_eq,beq_eq_false_iff_ne,ne_eq,win_t,win_f] at hg); omega)) ?_))
  refine⟨⟨k+1,hk'⟩,by simp only; omega,?_⟩
  (refine Z0k.ver 0  (v+1) (by simp only [push_cast,reduceCtorEq,Nat.reduceAdd,Nat.reduceMul,Nat.reduceSub,Nat.reduceBEq,Nat.reduceGT,Nat.reduceLT,Int.toNat_zero,Nat.reduceLeDiff,Int.reduceEq,Int.reduceLT,Int.reduceLE]) (by first | exact .inr (Nat.zero_le _) | (left; simp only [push_cast,reduceCtorEq,Nat.reduceAdd,Nat.reduceMul,Nat.reduceSub,Nat.reduceBEq,Nat.reduceGT,Nat.reduceLT,Int.toNat_zero,Nat.reduceLeDiff,Int.reduceEq,Int.reduceLT,Int.reduceLE]; first | done | omega) | (right; simp only [push_cast,reduceCtorEq,Nat.reduceAdd,Nat.reduceMul,Nat.reduceSub,Nat.reduceBEq,Nat.reduceGT,Nat.reduceLT,Int.toNat_zero,Nat.reduceLeDiff,Int.reduceEq,Int.reduceLT,Int.reduceLE]; first | done | omega)) ?_; simp only [push_cast,reduceCtorEq,Nat.reduceAdd,Nat.reduceMul,Nat.reduceSub,Nat.reduceBEq,Nat.reduceGT,Nat.reduceLT,Int.toNat_zero,Nat.reduceLeDiff,Int.reduceEq,Int.reduceLT,Int.reduceLE])
  exact Z06.keep1A
 ·obtain rfl:k=xs.length:=by omega
  ((first | with_reducible refine holds_of_ex X 400 _ _ _ ?_ | skip); simp (maxSteps:=1000000) only [push_cast,reduceCtorEq,Nat.reduceAdd,Nat.reduceMul,Nat.reduceSub,Nat.reduceBEq,Nat.reduceGT,Nat.reduceLT,Int.toNat_zero,Nat.reduceLeDiff,Int.reduceEq,Int.reduceLT,Int.reduceLE,hP,hΓ,hL,hfin,↓Z00])
  exact Z06.keep1A
theorem Za3(Γ:Env)(h23:Γ 27=some S23)(o:Ob)(g:FuncId)(kk:List AV→Z04)(pp:List AV→Nat→Prop)(hg:Γ g=some (liftG (Z7L kk pp)))(xs:List Int)(f:Nat→Int→Z04)(M:Nat)
  (hpp:∀i n,i<xs.length→n+M≤BIG→pp [.int .i64 i,(.int .i64 (xs.getD i default)),.ip o.c] n) (hkk:∀i,i<xs.length→kk [.int .i64 i,(.int .i64 (xs.getD i default)),.ip o.c]=f i (xs.getD i default))
  (hM:∀i,i<xs.length→(f i (xs.getD i default)).length≤M) (hl:xs.length≤SM) (l:Z04) (v:Nat) (hN:l.length+5+(xs.length+1)*M≤BIG) :
  Z0a Tryz.prog Γ Tryz.f60 (.msl 0 v 0 l.length::[.sl (xs.map (.int .i64)) xs.length,.fn (.func g) [] [.ip o.c]]) [.row (l.map Z03) 1 v] (.msl 0 (v+1) 0 (l++(num xs.length++Z1H f xs xs.length)).length) [.row ((l++(num xs.length++Z1H f xs xs.length)).map Z03) 1 (v+1)]:=by
 have hB:(BIG:Nat)=140737488355328:=rfl
 have hSM:SM=1048576:=rfl
 have hn:=Z0q xs.length
 rw [Nat.succ_mul] at hN
 (intro X hP hΓ hL hfin; refine⟨_,rfl,?_⟩; rw [show Tryz.f60.ntmps=28 from rfl]; rw [show Tryz.f60.results.toList=[.tmp 6] from rfl] at hfin; apply holds_of_ex X 400; simp only [push_cast,reduceCtorEq,Nat.reduceAdd,Nat.reduceMul,Nat.reduceSub,Nat.reduceBEq,Nat.reduceGT,Nat.reduceLT,Int.toNat_zero,Nat.reduceLeDiff,Int.reduceEq,Int.reduceLT,Int.reduceLE,hP,hΓ,hL,hfin])
 ((first | with_reducible refine holds_of_ex X 400 _ _ _ ?_ | skip); simp (maxSteps:=1000000) only [push_cast,reduceCtorEq,Nat.reduceAdd,Nat.reduceMul,Nat.reduceSub,Nat.reduceBEq,Nat.reduceGT,Nat.reduceLT,Int.toNat_zero,Nat.reduceLeDiff,Int.reduceEq,Int.reduceLT,Int.reduceLE,hP,hΓ,hL,hfin,↓Z00,h23,Z5L])
 obtain⟨Q,hQ⟩:∃Q:Nat→Z04,Q=fun k=>l++(num xs.length++Z1H f xs k):=⟨_,rfl⟩
 have hQ0:l++enc (u32 xs.length)=Q 0:=by rw [hQ]; simp [Z1H,num]
 have hQ1:∀k,Q k++f k (xs.getD k default)=Q (k+1):=fun k=>by simp only [hQ]; rw [Z1a]; simp
 have hQl:∀k,k≤xs.length→(Q k).length≤l.length+5+xs.length*M:=fun k hk=>by
  have h1:=Z0Y f xs M k (fun i hi=>hM i (by omega))
  have h2:k*M≤xs.length*M:=Nat.mul_le_mul_right _ hk
  rw [hQ]; simp; omega
 have hQn:l++(num xs.length++Z1H f xs xs.length)=Q xs.length:=by rw [hQ]
 simp only [←List.length_append,←List.map_append,hQ0,hQn] at hfin ⊢
 refine⟨⟨own_row l,Z3e _,by omega⟩,?_⟩
 refine Holds.loopM (ι:={k:Nat // k≤xs.length}) [false,false,true,false,false,false,true,false,false,false,false,false,false,false,true,true,false,false,false,false,false,false,false,false,false,false,false,false] (fun i=>[(0,.msl 0 (v+1) 0 (Q i.1).length),(16,.int .i64 i.1)]) (fun i=>[.row ((Q i.1).map Z03) 1 (v+1)]) (fun i=>xs.length - i.1) ⟨0,Nat.zero_le _⟩ ?_ ?_
 ·(rw [hL]; simp only [push_cast,Int.natCast_zero]; exact Z06.sameA)
 rintro⟨k,hk⟩
 have hq:=hQl k hk
 ((first | with_reducible refine holds_of_ex X 400 _ _ _ ?_ | skip); simp (maxSteps:=1000000) only [push_cast,reduceCtorEq,Nat.reduceAdd,Nat.reduceMul,Nat.reduceSub,Nat.reduceBEq,Nat.reduceGT,Nat.reduceLT,Int.toNat_zero,Nat.reduceLeDiff,Int.reduceEq,Int.reduceLT,Int.reduceLE,hP,hΓ,hL,hfin,↓Z00])
 ((with_reducible refine Z02 (fun h=>?_) (fun h=>?_)) <;> (try simp only [decide_eq_true_eq,decide_eq_false_iff_not,Bool.and_eq_true,Bool.or_eq_true,Bool.and_eq_false_iff,Bool.or_eq_false_iff,Bool.not_eq_true',Bool.not_eq_false',Bool.not_eq_true,Bool.not_eq_false,Int.not_lt,Int.not_le,beq_iff_eq,beq_eq_false_iff_ne,ne_eq,win_t,win_f] at h))
 ·have hk':k<xs.length:=by omega
  have e1:=hkk k hk'
  have e2:=hpp k (Q k).length hk' (by omega)
  ((first | with_reducible refine holds_of_ex X 400 _ _ _ ?_ | skip); simp (maxSteps:=1000000) only [push_cast,reduceCtorEq,Nat.reduceAdd,Nat.reduceMul,Nat.reduceSub,Nat.reduceBEq,Nat.reduceGT,Nat.reduceLT,Int.toNat_zero,Nat.reduceLeDiff,Int.reduceEq,Int.reduceLT,Int.reduceLE,hP,hΓ,hL,hfin,↓Z00,hg,hk',Z0c ((k:Int)+1) (by constructor <;> omega),e1,e2])
  simp only [←List.length_append,←List.map_append,hQ1]
  (repeat (refine And.intro (by first | exact True.intro | omega | assumption | exact own_row _ | (simp only [List.length_append]; omega) | (intro hg; (try simp only [decide_eq_true_eq,decide_eq_false_iff_not,Bool.and_eq_true,Bool.or_eq_true,Bool.and_eq_false_iff,Bool.or_eq_false_iff,Bool.not_eq_true',Bool.not_eq_false',Bool.not_eq_true,Bool.not_eq_false,Int.not_lt,Int.not_le,beq_iff_eq,beq_eq_false_iff_ne,ne_eq,win_t,win_f] at hg); omega)) ?_))
  refine⟨⟨k+1,hk'⟩,by simp only; omega,?_⟩
  (refine Z0k.ver 0  (v+1) (by simp only [push_cast,reduceCtorEq,Nat.reduceAdd,Nat.reduceMul,Nat.reduceSub,Nat.reduceBEq,Nat.reduceGT,Nat.reduceLT,Int.toNat_zero,Nat.reduceLeDiff,Int.reduceEq,Int.reduceLT,Int.reduceLE]) (by first | exact .inr (Nat.zero_le _) | (left; simp only [push_cast,reduceCtorEq,Nat.reduceAdd,Nat.reduceMul,Nat.reduceSub,Nat.reduceBEq,Nat.reduceGT,Nat.reduceLT,Int.toNat_zero,Nat.reduceLeDiff,Int.reduceEq,Int.reduceLT,Int.reduceLE]; first | done | omega) | (right; simp only [push_cast,reduceCtorEq,Nat.reduceAdd,Nat.reduceMul,Nat.reduceSub,Nat.reduceBEq,Nat.reduceGT,Nat.reduceLT,Int.toNat_zero,Nat.reduceLeDiff,Int.reduceEq,Int.reduceLT,Int.reduceLE]; first | done | omega)) ?_; simp only [push_cast,reduceCtorEq,Nat.reduceAdd,Nat.reduceMul,Nat.reduceSub,Nat.reduceBEq,Nat.reduceGT,Nat.reduceLT,Int.toNat_zero,Nat.reduceLeDiff,Int.reduceEq,Int.reduceLT,Int.reduceLE])
  exact Z06.keep1A
 ·obtain rfl:k=xs.length:=by omega
  ((first | with_reducible refine holds_of_ex X 400 _ _ _ ?_ | skip); simp (maxSteps:=1000000) only [push_cast,reduceCtorEq,Nat.reduceAdd,Nat.reduceMul,Nat.reduceSub,Nat.reduceBEq,Nat.reduceGT,Nat.reduceLT,Int.toNat_zero,Nat.reduceLeDiff,Int.reduceEq,Int.reduceLT,Int.reduceLE,hP,hΓ,hL,hfin,↓Z00])
  exact Z06.keep1A
theorem Zb7(Γ:Env)(h23:Γ 27=some S23)(g:FuncId)(kk:List AV→Z04)(pp:List AV→Nat→Prop)(hg:Γ g=some (liftG (Z7L kk pp)))(xs:List Int)(f:Nat→Int→Z04)(M:Nat)
  (hpp:∀i n,i<xs.length→n+M≤BIG→pp [.int .i64 i,(.int .u32 (xs.getD i default)),] n) (hkk:∀i,i<xs.length→kk [.int .i64 i,(.int .u32 (xs.getD i default)),]=f i (xs.getD i default))
  (hM:∀i,i<xs.length→(f i (xs.getD i default)).length≤M) (hl:xs.length≤SM) (l:Z04) (v:Nat) (hN:l.length+5+(xs.length+1)*M≤BIG) :
  Z0a Tryz.prog Γ Tryz.f58 (.msl 0 v 0 l.length::[.sl (xs.map (.int .u32)) xs.length,.fn (.func g) [] []]) [.row (l.map Z03) 1 v] (.msl 0 (v+1) 0 (l++(num xs.length++Z1H f xs xs.length)).length) [.row ((l++(num xs.length++Z1H f xs xs.length)).map Z03) 1 (v+1)]:=by
 have hB:(BIG:Nat)=140737488355328:=rfl
 have hSM:SM=1048576:=rfl
 have hn:=Z0q xs.length
 rw [Nat.succ_mul] at hN
 (intro X hP hΓ hL hfin; refine⟨_,rfl,?_⟩; rw [show Tryz.f58.ntmps=28 from rfl]; rw [show Tryz.f58.results.toList=[.tmp 6] from rfl] at hfin; apply holds_of_ex X 400; simp only [push_cast,reduceCtorEq,Nat.reduceAdd,Nat.reduceMul,Nat.reduceSub,Nat.reduceBEq,Nat.reduceGT,Nat.reduceLT,Int.toNat_zero,Nat.reduceLeDiff,Int.reduceEq,Int.reduceLT,Int.reduceLE,hP,hΓ,hL,hfin])
 ((first | with_reducible refine holds_of_ex X 400 _ _ _ ?_ | skip); simp (maxSteps:=1000000) only [push_cast,reduceCtorEq,Nat.reduceAdd,Nat.reduceMul,Nat.reduceSub,Nat.reduceBEq,Nat.reduceGT,Nat.reduceLT,Int.toNat_zero,Nat.reduceLeDiff,Int.reduceEq,Int.reduceLT,Int.reduceLE,hP,hΓ,hL,hfin,↓Z00,h23,Z5L])
 obtain⟨Q,hQ⟩:∃Q:Nat→Z04,Q=fun k=>l++(num xs.length++Z1H f xs k):=⟨_,rfl⟩
 have hQ0:l++enc (u32 xs.length)=Q 0:=by rw [hQ]; simp [Z1H,num]
 have hQ1:∀k,Q k++f k (xs.getD k default)=Q (k+1):=fun k=>by simp only [hQ]; rw [Z1a]; simp
 have hQl:∀k,k≤xs.length→(Q k).length≤l.length+5+xs.length*M:=fun k hk=>by
  have h1:=Z0Y f xs M k (fun i hi=>hM i (by omega))
  have h2:k*M≤xs.length*M:=Nat.mul_le_mul_right _ hk
  rw [hQ]; simp; omega
 have hQn:l++(num xs.length++Z1H f xs xs.length)=Q xs.length:=by rw [hQ]
 simp only [←List.length_append,←List.map_append,hQ0,hQn] at hfin ⊢
 refine⟨⟨own_row l,Z3e _,by omega⟩,?_⟩
 refine Holds.loopM (ι:={k:Nat // k≤xs.length}) [false,false,true,false,false,false,true,false,false,false,false,false,false,false,true,true,false,false,false,false,false,false,false,false,false,false,false,false] (fun i=>[(0,.msl 0 (v+1) 0 (Q i.1).length),(16,.int .i64 i.1)]) (fun i=>[.row ((Q i.1).map Z03) 1 (v+1)]) (fun i=>xs.length - i.1) ⟨0,Nat.zero_le _⟩ ?_ ?_
 ·(rw [hL]; simp only [push_cast,Int.natCast_zero]; exact Z06.sameA)
 rintro⟨k,hk⟩
 have hq:=hQl k hk
 ((first | with_reducible refine holds_of_ex X 400 _ _ _ ?_ | skip); simp (maxSteps:=1000000) only [push_cast,reduceCtorEq,Nat.reduceAdd,Nat.reduceMul,Nat.reduceSub,Nat.reduceBEq,Nat.reduceGT,Nat.reduceLT,Int.toNat_zero,Nat.reduceLeDiff,Int.reduceEq,Int.reduceLT,Int.reduceLE,hP,hΓ,hL,hfin,↓Z00])
 ((with_reducible refine Z02 (fun h=>?_) (fun h=>?_)) <;> (try simp only [decide_eq_true_eq,decide_eq_false_iff_not,Bool.and_eq_true,Bool.or_eq_true,Bool.and_eq_false_iff,Bool.or_eq_false_iff,Bool.not_eq_true',Bool.not_eq_false',Bool.not_eq_true,Bool.not_eq_false,Int.not_lt,Int.not_le,beq_iff_eq,beq_eq_false_iff_ne,ne_eq,win_t,win_f] at h))
 ·have hk':k<xs.length:=by omega
  have e1:=hkk k hk'
  have e2:=hpp k (Q k).length hk' (by omega)
  ((first | with_reducible refine holds_of_ex X 400 _ _ _ ?_ | skip); simp (maxSteps:=1000000) only [push_cast,reduceCtorEq,Nat.reduceAdd,Nat.reduceMul,Nat.reduceSub,Nat.reduceBEq,Nat.reduceGT,Nat.reduceLT,Int.toNat_zero,Nat.reduceLeDiff,Int.reduceEq,Int.reduceLT,Int.reduceLE,hP,hΓ,hL,hfin,↓Z00,hg,hk',Z0c ((k:Int)+1) (by constructor <;> omega),e1,e2])
  simp only [←List.length_append,←List.map_append,hQ1]
  (repeat (refine And.intro (by first | exact True.intro | omega | assumption | exact own_row _ | (simp only [List.length_append]; omega) | (intro hg; (try simp only [decide_eq_true_eq,decide_eq_false_iff_not,Bool.and_eq_true,Bool.or_eq_true,Bool.and_eq_false_iff,Bool.or_eq_false_iff,Bool.not_eq_true',Bool.not_eq_false',Bool.not_eq_true,Bool.not_eq_false,Int.not_lt,Int.not_le,beq_iff_eq,beq_eq_false_iff_ne,ne_eq,win_t,win_f] at hg); omega)) ?_))
  refine⟨⟨k+1,hk'⟩,by simp only; omega,?_⟩
  (refine Z0k.ver 0  (v+1) (by simp only [push_cast,reduceCtorEq,Nat.reduceAdd,Nat.reduceMul,Nat.reduceSub,Nat.reduceBEq,Nat.reduceGT,Nat.reduceLT,Int.toNat_zero,Nat.reduceLeDiff,Int.reduceEq,Int.reduceLT,Int.reduceLE]) (by first | exact .inr (Nat.zero_le _) | (left; simp only [push_cast,reduceCtorEq,Nat.reduceAdd,Nat.reduceMul,Nat.reduceSub,Nat.reduceBEq,Nat.reduceGT,Nat.reduceLT,Int.toNat_zero,Nat.reduceLeDiff,Int.reduceEq,Int.reduceLT,Int.reduceLE]; first | done | omega) | (right; simp only [push_cast,reduceCtorEq,Nat.reduceAdd,Nat.reduceMul,Nat.reduceSub,Nat.reduceBEq,Nat.reduceGT,Nat.reduceLT,Int.toNat_zero,Nat.reduceLeDiff,Int.reduceEq,Int.reduceLT,Int.reduceLE]; first | done | omega)) ?_; simp only [push_cast,reduceCtorEq,Nat.reduceAdd,Nat.reduceMul,Nat.reduceSub,Nat.reduceBEq,Nat.reduceGT,Nat.reduceLT,Int.toNat_zero,Nat.reduceLeDiff,Int.reduceEq,Int.reduceLT,Int.reduceLE])
  exact Z06.keep1A
 ·obtain rfl:k=xs.length:=by omega
  ((first | with_reducible refine holds_of_ex X 400 _ _ _ ?_ | skip); simp (maxSteps:=1000000) only [push_cast,reduceCtorEq,Nat.reduceAdd,Nat.reduceMul,Nat.reduceSub,Nat.reduceBEq,Nat.reduceGT,Nat.reduceLT,Int.toNat_zero,Nat.reduceLeDiff,Int.reduceEq,Int.reduceLT,Int.reduceLE,hP,hΓ,hL,hfin,↓Z00])
  exact Z06.keep1A
theorem Zb8(Γ:Env)(h23:Γ 27=some S23)(g:FuncId)(kk:List AV→Z04)(pp:List AV→Nat→Prop)(hg:Γ g=some (liftG (Z7L kk pp)))(xs:List Z04)(f:Nat→Z04→Z04)(M:Nat)
  (hpp:∀i n,i<xs.length→n+M≤BIG→pp [.int .i64 i,(.str (xs.getD i default)),] n) (hkk:∀i,i<xs.length→kk [.int .i64 i,(.str (xs.getD i default)),]=f i (xs.getD i default))
  (hM:∀i,i<xs.length→(f i (xs.getD i default)).length≤M) (hl:xs.length≤SM) (l:Z04) (v:Nat) (hN:l.length+5+(xs.length+1)*M≤BIG) :
  Z0a Tryz.prog Γ Tryz.f63 (.msl 0 v 0 l.length::[.sl (xs.map .str) xs.length,.fn (.func g) [] []]) [.row (l.map Z03) 1 v] (.msl 0 (v+1) 0 (l++(num xs.length++Z1H f xs xs.length)).length) [.row ((l++(num xs.length++Z1H f xs xs.length)).map Z03) 1 (v+1)]:=by
 have hB:(BIG:Nat)=140737488355328:=rfl
 have hSM:SM=1048576:=rfl
 have hn:=Z0q xs.length
 rw [Nat.succ_mul] at hN
 (intro X hP hΓ hL hfin; refine⟨_,rfl,?_⟩; rw [show Tryz.f63.ntmps=28 from rfl]; rw [show Tryz.f63.results.toList=[.tmp 6] from rfl] at hfin; apply holds_of_ex X 400; simp only [push_cast,reduceCtorEq,Nat.reduceAdd,Nat.reduceMul,Nat.reduceSub,Nat.reduceBEq,Nat.reduceGT,Nat.reduceLT,Int.toNat_zero,Nat.reduceLeDiff,Int.reduceEq,Int.reduceLT,Int.reduceLE,hP,hΓ,hL,hfin])
 ((first | with_reducible refine holds_of_ex X 400 _ _ _ ?_ | skip); simp (maxSteps:=1000000) only [push_cast,reduceCtorEq,Nat.reduceAdd,Nat.reduceMul,Nat.reduceSub,Nat.reduceBEq,Nat.reduceGT,Nat.reduceLT,Int.toNat_zero,Nat.reduceLeDiff,Int.reduceEq,Int.reduceLT,Int.reduceLE,hP,hΓ,hL,hfin,↓Z00,h23,Z5L])
 obtain⟨Q,hQ⟩:∃Q:Nat→Z04,Q=fun k=>l++(num xs.length++Z1H f xs k):=⟨_,rfl⟩
 have hQ0:l++enc (u32 xs.length)=Q 0:=by rw [hQ]; simp [Z1H,num]
 have hQ1:∀k,Q k++f k (xs.getD k default)=Q (k+1):=fun k=>by simp only [hQ]; rw [Z1a]; simp
 have hQl:∀k,k≤xs.length→(Q k).length≤l.length+5+xs.length*M:=fun k hk=>by
  have h1:=Z0Y f xs M k (fun i hi=>hM i (by omega))
  have h2:k*M≤xs.length*M:=Nat.mul_le_mul_right _ hk
  rw [hQ]; simp; omega
 have hQn:l++(num xs.length++Z1H f xs xs.length)=Q xs.length:=by rw [hQ]
 simp only [←List.length_append,←List.map_append,hQ0,hQn] at hfin ⊢
 refine⟨⟨own_row l,Z3e _,by omega⟩,?_⟩
 refine Holds.loopM (ι:={k:Nat // k≤xs.length}) [false,false,true,false,false,false,true,false,false,false,false,false,false,false,true,true,false,false,false,false,false,false,false,false,false,false,false,false] (fun i=>[(0,.msl 0 (v+1) 0 (Q i.1).length),(16,.int .i64 i.1)]) (fun i=>[.row ((Q i.1).map Z03) 1 (v+1)]) (fun i=>xs.length - i.1) ⟨0,Nat.zero_le _⟩ ?_ ?_
 ·(rw [hL]; simp only [push_cast,Int.natCast_zero]; exact Z06.sameA)
 rintro⟨k,hk⟩
 have hq:=hQl k hk
 ((first | with_reducible refine holds_of_ex X 400 _ _ _ ?_ | skip); simp (maxSteps:=1000000) only [push_cast,reduceCtorEq,Nat.reduceAdd,Nat.reduceMul,Nat.reduceSub,Nat.reduceBEq,Nat.reduceGT,Nat.reduceLT,Int.toNat_zero,Nat.reduceLeDiff,Int.reduceEq,Int.reduceLT,Int.reduceLE,hP,hΓ,hL,hfin,↓Z00])
 ((with_reducible refine Z02 (fun h=>?_) (fun h=>?_)) <;> (try simp only [decide_eq_true_eq,decide_eq_false_iff_not,Bool.and_eq_true,Bool.or_eq_true,Bool.and_eq_false_iff,Bool.or_eq_false_iff,Bool.not_eq_true',Bool.not_eq_false',Bool.not_eq_true,Bool.not_eq_false,Int.not_lt,Int.not_le,beq_iff_eq,beq_eq_false_iff_ne,ne_eq,win_t,win_f] at h))
 ·have hk':k<xs.length:=by omega
  have e1:=hkk k hk'
  have e2:=hpp k (Q k).length hk' (by omega)
  ((first | with_reducible refine holds_of_ex X 400 _ _ _ ?_ | skip); simp (maxSteps:=1000000) only [push_cast,reduceCtorEq,Nat.reduceAdd,Nat.reduceMul,Nat.reduceSub,Nat.reduceBEq,Nat.reduceGT,Nat.reduceLT,Int.toNat_zero,Nat.reduceLeDiff,Int.reduceEq,Int.reduceLT,Int.reduceLE,hP,hΓ,hL,hfin,↓Z00,hg,hk',Z0c ((k:Int)+1) (by constructor <;> omega),e1,e2])
  simp only [←List.length_append,←List.map_append,hQ1]
  (repeat (refine And.intro (by first | exact True.intro | omega | assumption | exact own_row _ | (simp only [List.length_append]; omega) | (intro hg; (try simp only [decide_eq_true_eq,decide_eq_false_iff_not,Bool.and_eq_true,Bool.or_eq_true,Bool.and_eq_false_iff,Bool.or_eq_false_iff,Bool.not_eq_true',Bool.not_eq_false',Bool.not_eq_true,Bool.not_eq_false,Int.not_lt,Int.not_le,beq_iff_eq,beq_eq_false_iff_ne,ne_eq,win_t,win_f] at hg); omega)) ?_))
  refine⟨⟨k+1,hk'⟩,by simp only; omega,?_⟩
  (refine Z0k.ver 0  (v+1) (by simp only [push_cast,reduceCtorEq,Nat.reduceAdd,Nat.reduceMul,Nat.reduceSub,Nat.reduceBEq,Nat.reduceGT,Nat.reduceLT,Int.toNat_zero,Nat.reduceLeDiff,Int.reduceEq,Int.reduceLT,Int.reduceLE]) (by first | exact .inr (Nat.zero_le _) | (left; simp only [push_cast,reduceCtorEq,Nat.reduceAdd,Nat.reduceMul,Nat.reduceSub,Nat.reduceBEq,Nat.reduceGT,Nat.reduceLT,Int.toNat_zero,Nat.reduceLeDiff,Int.reduceEq,Int.reduceLT,Int.reduceLE]; first | done | omega) | (right; simp only [push_cast,reduceCtorEq,Nat.reduceAdd,Nat.reduceMul,Nat.reduceSub,Nat.reduceBEq,Nat.reduceGT,Nat.reduceLT,Int.toNat_zero,Nat.reduceLeDiff,Int.reduceEq,Int.reduceLT,Int.reduceLE]; first | done | omega)) ?_; simp only [push_cast,reduceCtorEq,Nat.reduceAdd,Nat.reduceMul,Nat.reduceSub,Nat.reduceBEq,Nat.reduceGT,Nat.reduceLT,Int.toNat_zero,Nat.reduceLeDiff,Int.reduceEq,Int.reduceLT,Int.reduceLE])
  exact Z06.keep1A
 ·obtain rfl:k=xs.length:=by omega
  ((first | with_reducible refine holds_of_ex X 400 _ _ _ ?_ | skip); simp (maxSteps:=1000000) only [push_cast,reduceCtorEq,Nat.reduceAdd,Nat.reduceMul,Nat.reduceSub,Nat.reduceBEq,Nat.reduceGT,Nat.reduceLT,Int.toNat_zero,Nat.reduceLeDiff,Int.reduceEq,Int.reduceLT,Int.reduceLE,hP,hΓ,hL,hfin,↓Z00])
  exact Z06.keep1A
theorem Zb9(Γ:Env)(h23:Γ 27=some S23)(g:FuncId)(kk:List AV→Z04)(pp:List AV→Nat→Prop)(hg:Γ g=some (liftG (Z7L kk pp)))(xs:List Im)(f:Nat→Im→Z04)(M:Nat)
  (hpp:∀i n,i<xs.length→n+M≤BIG→pp [.int .i64 i,(.agg <| Im.c (xs.getD i default)),] n) (hkk:∀i,i<xs.length→kk [.int .i64 i,(.agg <| Im.c (xs.getD i default)),]=f i (xs.getD i default))
  (hM:∀i,i<xs.length→(f i (xs.getD i default)).length≤M) (hl:xs.length≤SM) (l:Z04) (v:Nat) (hN:l.length+5+(xs.length+1)*M≤BIG) :
  Z0a Tryz.prog Γ Tryz.f56 (.msl 0 v 0 l.length::[.sl (xs.flatMap Im.c) xs.length,.fn (.func g) [] []]) [.row (l.map Z03) 1 v] (.msl 0 (v+1) 0 (l++(num xs.length++Z1H f xs xs.length)).length) [.row ((l++(num xs.length++Z1H f xs xs.length)).map Z03) 1 (v+1)]:=by
 have hB:(BIG:Nat)=140737488355328:=rfl
 have hSM:SM=1048576:=rfl
 have hn:=Z0q xs.length
 rw [Nat.succ_mul] at hN
 (intro X hP hΓ hL hfin; refine⟨_,rfl,?_⟩; rw [show Tryz.f56.ntmps=28 from rfl]; rw [show Tryz.f56.results.toList=[.tmp 6] from rfl] at hfin; apply holds_of_ex X 400; simp only [push_cast,reduceCtorEq,Nat.reduceAdd,Nat.reduceMul,Nat.reduceSub,Nat.reduceBEq,Nat.reduceGT,Nat.reduceLT,Int.toNat_zero,Nat.reduceLeDiff,Int.reduceEq,Int.reduceLT,Int.reduceLE,hP,hΓ,hL,hfin])
 ((first | with_reducible refine holds_of_ex X 400 _ _ _ ?_ | skip); simp (maxSteps:=1000000) only [push_cast,reduceCtorEq,Nat.reduceAdd,Nat.reduceMul,Nat.reduceSub,Nat.reduceBEq,Nat.reduceGT,Nat.reduceLT,Int.toNat_zero,Nat.reduceLeDiff,Int.reduceEq,Int.reduceLT,Int.reduceLE,hP,hΓ,hL,hfin,↓Z00,h23,Z5L])
 obtain⟨Q,hQ⟩:∃Q:Nat→Z04,Q=fun k=>l++(num xs.length++Z1H f xs k):=⟨_,rfl⟩
 have hQ0:l++enc (u32 xs.length)=Q 0:=by rw [hQ]; simp [Z1H,num]
 have hQ1:∀k,Q k++f k (xs.getD k default)=Q (k+1):=fun k=>by simp only [hQ]; rw [Z1a]; simp
 have hQl:∀k,k≤xs.length→(Q k).length≤l.length+5+xs.length*M:=fun k hk=>by
  have h1:=Z0Y f xs M k (fun i hi=>hM i (by omega))
  have h2:k*M≤xs.length*M:=Nat.mul_le_mul_right _ hk
  rw [hQ]; simp; omega
 have hQn:l++(num xs.length++Z1H f xs xs.length)=Q xs.length:=by rw [hQ]
 simp only [←List.length_append,←List.map_append,hQ0,hQn] at hfin ⊢
 refine⟨⟨own_row l,Z3e _,by omega⟩,?_⟩
 refine Holds.loopM (ι:={k:Nat // k≤xs.length}) [false,false,true,false,false,false,true,false,false,false,false,false,false,false,true,true,false,false,false,false,false,false,false,false,false,false,false,false] (fun i=>[(0,.msl 0 (v+1) 0 (Q i.1).length),(16,.int .i64 i.1)]) (fun i=>[.row ((Q i.1).map Z03) 1 (v+1)]) (fun i=>xs.length - i.1) ⟨0,Nat.zero_le _⟩ ?_ ?_
 ·(rw [hL]; simp only [push_cast,Int.natCast_zero]; exact Z06.sameA)
 rintro⟨k,hk⟩
 have hq:=hQl k hk
 ((first | with_reducible refine holds_of_ex X 400 _ _ _ ?_ | skip); simp (maxSteps:=1000000) only [push_cast,reduceCtorEq,Nat.reduceAdd,Nat.reduceMul,Nat.reduceSub,Nat.reduceBEq,Nat.reduceGT,Nat.reduceLT,Int.toNat_zero,Nat.reduceLeDiff,Int.reduceEq,Int.reduceLT,Int.reduceLE,hP,hΓ,hL,hfin,↓Z00])
 ((with_reducible refine Z02 (fun h=>?_) (fun h=>?_)) <;> (try simp only [decide_eq_true_eq,decide_eq_false_iff_not,Bool.and_eq_true,Bool.or_eq_true,Bool.and_eq_false_iff,Bool.or_eq_false_iff,Bool.not_eq_true',Bool.not_eq_false',Bool.not_eq_true,Bool.not_eq_false,Int.not_lt,Int.not_le,beq_iff_eq,beq_eq_false_iff_ne,ne_eq,win_t,win_f] at h))
 ·have hk':k<xs.length:=by omega
  have e1:=hkk k hk'
  have e2:=hpp k (Q k).length hk' (by omega)
  ((first | with_reducible refine holds_of_ex X 400 _ _ _ ?_ | skip); simp (maxSteps:=1000000) only [push_cast,reduceCtorEq,Nat.reduceAdd,Nat.reduceMul,Nat.reduceSub,Nat.reduceBEq,Nat.reduceGT,Nat.reduceLT,Int.toNat_zero,Nat.reduceLeDiff,Int.reduceEq,Int.reduceLT,Int.reduceLE,hP,hΓ,hL,hfin,↓Z00,hg,hk',Z0c ((k:Int)+1) (by constructor <;> omega),e1,e2])
  simp only [←List.length_append,←List.map_append,hQ1]
  (repeat (refine And.intro (by first | exact True.intro | omega | assumption | exact own_row _ | (simp only [List.length_append]; omega) | (intro hg; (try simp only [decide_eq_true_eq,decide_eq_false_iff_not,Bool.and_eq_true,Bool.or_eq_true,Bool.and_eq_false_iff,Bool.or_eq_false_iff,Bool.not_eq_true',Bool.not_eq_false',Bool.not_eq_true,Bool.not_eq_false,Int.not_lt,Int.not_le,beq_iff_eq,beq_eq_false_iff_ne,ne_eq,win_t,win_f] at hg); omega)) ?_))
  refine⟨⟨k+1,hk'⟩,by simp only; omega,?_⟩
  (refine Z0k.ver 0  (v+1) (by simp only [push_cast,reduceCtorEq,Nat.reduceAdd,Nat.reduceMul,Nat.reduceSub,Nat.reduceBEq,Nat.reduceGT,Nat.reduceLT,Int.toNat_zero,Nat.reduceLeDiff,Int.reduceEq,Int.reduceLT,Int.reduceLE]) (by first | exact .inr (Nat.zero_le _) | (left; simp only [push_cast,reduceCtorEq,Nat.reduceAdd,Nat.reduceMul,Nat.reduceSub,Nat.reduceBEq,Nat.reduceGT,Nat.reduceLT,Int.toNat_zero,Nat.reduceLeDiff,Int.reduceEq,Int.reduceLT,Int.reduceLE]; first | done | omega) | (right; simp only [push_cast,reduceCtorEq,Nat.reduceAdd,Nat.reduceMul,Nat.reduceSub,Nat.reduceBEq,Nat.reduceGT,Nat.reduceLT,Int.toNat_zero,Nat.reduceLeDiff,Int.reduceEq,Int.reduceLT,Int.reduceLE]; first | done | omega)) ?_; simp only [push_cast,reduceCtorEq,Nat.reduceAdd,Nat.reduceMul,Nat.reduceSub,Nat.reduceBEq,Nat.reduceGT,Nat.reduceLT,Int.toNat_zero,Nat.reduceLeDiff,Int.reduceEq,Int.reduceLT,Int.reduceLE])
  exact Z06.keep1A
 ·obtain rfl:k=xs.length:=by omega
  ((first | with_reducible refine holds_of_ex X 400 _ _ _ ?_ | skip); simp (maxSteps:=1000000) only [push_cast,reduceCtorEq,Nat.reduceAdd,Nat.reduceMul,Nat.reduceSub,Nat.reduceBEq,Nat.reduceGT,Nat.reduceLT,Int.toNat_zero,Nat.reduceLeDiff,Int.reduceEq,Int.reduceLT,Int.reduceLE,hP,hΓ,hL,hfin,↓Z00])
  exact Z06.keep1A
theorem Zbc(Γ:Env)(h23:Γ 27=some S23)(g:FuncId)(kk:List AV→Z04)(pp:List AV→Nat→Prop)(hg:Γ g=some (liftG (Z7L kk pp)))(xs:List Ds)(f:Nat→Ds→Z04)(M:Nat)
  (hpp:∀i n,i<xs.length→n+M≤BIG→pp [.int .i64 i,(.agg <| Ds.c (xs.getD i default)),] n) (hkk:∀i,i<xs.length→kk [.int .i64 i,(.agg <| Ds.c (xs.getD i default)),]=f i (xs.getD i default))
  (hM:∀i,i<xs.length→(f i (xs.getD i default)).length≤M) (hl:xs.length≤SM) (l:Z04) (v:Nat) (hN:l.length+5+(xs.length+1)*M≤BIG) :
  Z0a Tryz.prog Γ Tryz.f65 (.msl 0 v 0 l.length::[.sl (xs.flatMap Ds.c) xs.length,.fn (.func g) [] []]) [.row (l.map Z03) 1 v] (.msl 0 (v+1) 0 (l++(num xs.length++Z1H f xs xs.length)).length) [.row ((l++(num xs.length++Z1H f xs xs.length)).map Z03) 1 (v+1)]:=by
 have hB:(BIG:Nat)=140737488355328:=rfl
 have hSM:SM=1048576:=rfl
 have hn:=Z0q xs.length
 rw [Nat.succ_mul] at hN
 (intro X hP hΓ hL hfin; refine⟨_,rfl,?_⟩; rw [show Tryz.f65.ntmps=28 from rfl]; rw [show Tryz.f65.results.toList=[.tmp 6] from rfl] at hfin; apply holds_of_ex X 400; simp only [push_cast,reduceCtorEq,Nat.reduceAdd,Nat.reduceMul,Nat.reduceSub,Nat.reduceBEq,Nat.reduceGT,Nat.reduceLT,Int.toNat_zero,Nat.reduceLeDiff,Int.reduceEq,Int.reduceLT,Int.reduceLE,hP,hΓ,hL,hfin])
 ((first | with_reducible refine holds_of_ex X 400 _ _ _ ?_ | skip); simp (maxSteps:=1000000) only [push_cast,reduceCtorEq,Nat.reduceAdd,Nat.reduceMul,Nat.reduceSub,Nat.reduceBEq,Nat.reduceGT,Nat.reduceLT,Int.toNat_zero,Nat.reduceLeDiff,Int.reduceEq,Int.reduceLT,Int.reduceLE,hP,hΓ,hL,hfin,↓Z00,h23,Z5L])
 obtain⟨Q,hQ⟩:∃Q:Nat→Z04,Q=fun k=>l++(num xs.length++Z1H f xs k):=⟨_,rfl⟩
 have hQ0:l++enc (u32 xs.length)=Q 0:=by rw [hQ]; simp [Z1H,num]
 have hQ1:∀k,Q k++f k (xs.getD k default)=Q (k+1):=fun k=>by simp only [hQ]; rw [Z1a]; simp
 have hQl:∀k,k≤xs.length→(Q k).length≤l.length+5+xs.length*M:=fun k hk=>by
  have h1:=Z0Y f xs M k (fun i hi=>hM i (by omega))
  have h2:k*M≤xs.length*M:=Nat.mul_le_mul_right _ hk
  rw [hQ]; simp; omega
 have hQn:l++(num xs.length++Z1H f xs xs.length)=Q xs.length:=by rw [hQ]
 simp only [←List.length_append,←List.map_append,hQ0,hQn] at hfin ⊢
 refine⟨⟨own_row l,Z3e _,by omega⟩,?_⟩
 refine Holds.loopM (ι:={k:Nat // k≤xs.length}) [false,false,true,false,false,false,true,false,false,false,false,false,false,false,true,true,false,false,false,false,false,false,false,false,false,false,false,false] (fun i=>[(0,.msl 0 (v+1) 0 (Q i.1).length),(16,.int .i64 i.1)]) (fun i=>[.row ((Q i.1).map Z03) 1 (v+1)]) (fun i=>xs.length - i.1) ⟨0,Nat.zero_le _⟩ ?_ ?_
 ·(rw [hL]; simp only [push_cast,Int.natCast_zero]; exact Z06.sameA)
 rintro⟨k,hk⟩
 have hq:=hQl k hk
 ((first | with_reducible refine holds_of_ex X 400 _ _ _ ?_ | skip); simp (maxSteps:=1000000) only [push_cast,reduceCtorEq,Nat.reduceAdd,Nat.reduceMul,Nat.reduceSub,Nat.reduceBEq,Nat.reduceGT,Nat.reduceLT,Int.toNat_zero,Nat.reduceLeDiff,Int.reduceEq,Int.reduceLT,Int.reduceLE,hP,hΓ,hL,hfin,↓Z00])
 ((with_reducible refine Z02 (fun h=>?_) (fun h=>?_)) <;> (try simp only [decide_eq_true_eq,decide_eq_false_iff_not,Bool.and_eq_true,Bool.or_eq_true,Bool.and_eq_false_iff,Bool.or_eq_false_iff,Bool.not_eq_true',Bool.not_eq_false',Bool.not_eq_true,Bool.not_eq_false,Int.not_lt,Int.not_le,beq_iff_eq,beq_eq_false_iff_ne,ne_eq,win_t,win_f] at h))
 ·have hk':k<xs.length:=by omega
  have e1:=hkk k hk'
  have e2:=hpp k (Q k).length hk' (by omega)
  ((first | with_reducible refine holds_of_ex X 400 _ _ _ ?_ | skip); simp (maxSteps:=1000000) only [push_cast,reduceCtorEq,Nat.reduceAdd,Nat.reduceMul,Nat.reduceSub,Nat.reduceBEq,Nat.reduceGT,Nat.reduceLT,Int.toNat_zero,Nat.reduceLeDiff,Int.reduceEq,Int.reduceLT,Int.reduceLE,hP,hΓ,hL,hfin,↓Z00,hg,hk',Z0c ((k:Int)+1) (by constructor <;> omega),e1,e2])
  simp only [←List.length_append,←List.map_append,hQ1]
  (repeat (refine And.intro (by first | exact True.intro | omega | assumption | exact own_row _ | (simp only [List.length_append]; omega) | (intro hg; (try simp only [decide_eq_true_eq,decide_eq_false_iff_not,Bool.and_eq_true,Bool.or_eq_true,Bool.and_eq_false_iff,Bool.or_eq_false_iff,Bool.not_eq_true',Bool.not_eq_false',Bool.not_eq_true,Bool.not_eq_false,Int.not_lt,Int.not_le,beq_iff_eq,beq_eq_false_iff_ne,ne_eq,win_t,win_f] at hg); omega)) ?_))
  refine⟨⟨k+1,hk'⟩,by simp only; omega,?_⟩
  (refine Z0k.ver 0  (v+1) (by simp only [push_cast,reduceCtorEq,Nat.reduceAdd,Nat.reduceMul,Nat.reduceSub,Nat.reduceBEq,Nat.reduceGT,Nat.reduceLT,Int.toNat_zero,Nat.reduceLeDiff,Int.reduceEq,Int.reduceLT,Int.reduceLE]) (by first | exact .inr (Nat.zero_le _) | (left; simp only [push_cast,reduceCtorEq,Nat.reduceAdd,Nat.reduceMul,Nat.reduceSub,Nat.reduceBEq,Nat.reduceGT,Nat.reduceLT,Int.toNat_zero,Nat.reduceLeDiff,Int.reduceEq,Int.reduceLT,Int.reduceLE]; first | done | omega) | (right; simp only [push_cast,reduceCtorEq,Nat.reduceAdd,Nat.reduceMul,Nat.reduceSub,Nat.reduceBEq,Nat.reduceGT,Nat.reduceLT,Int.toNat_zero,Nat.reduceLeDiff,Int.reduceEq,Int.reduceLT,Int.reduceLE]; first | done | omega)) ?_; simp only [push_cast,reduceCtorEq,Nat.reduceAdd,Nat.reduceMul,Nat.reduceSub,Nat.reduceBEq,Nat.reduceGT,Nat.reduceLT,Int.toNat_zero,Nat.reduceLeDiff,Int.reduceEq,Int.reduceLT,Int.reduceLE])
  exact Z06.keep1A
 ·obtain rfl:k=xs.length:=by omega
  ((first | with_reducible refine holds_of_ex X 400 _ _ _ ?_ | skip); simp (maxSteps:=1000000) only [push_cast,reduceCtorEq,Nat.reduceAdd,Nat.reduceMul,Nat.reduceSub,Nat.reduceBEq,Nat.reduceGT,Nat.reduceLT,Int.toNat_zero,Nat.reduceLeDiff,Int.reduceEq,Int.reduceLT,Int.reduceLE,hP,hΓ,hL,hfin,↓Z00])
  exact Z06.keep1A
theorem Zbb(Γ:Env)(h23:Γ 27=some S23)(g:FuncId)(kk:List AV→Z04)(pp:List AV→Nat→Prop)(hg:Γ g=some (liftG (Z7L kk pp)))(xs:List Fx)(f:Nat→Fx→Z04)(M:Nat)
  (hpp:∀i n,i<xs.length→n+M≤BIG→pp [.int .i64 i,(.agg <| Fx.c (xs.getD i default)),] n) (hkk:∀i,i<xs.length→kk [.int .i64 i,(.agg <| Fx.c (xs.getD i default)),]=f i (xs.getD i default))
  (hM:∀i,i<xs.length→(f i (xs.getD i default)).length≤M) (hl:xs.length≤SM) (l:Z04) (v:Nat) (hN:l.length+5+(xs.length+1)*M≤BIG) :
  Z0a Tryz.prog Γ Tryz.f67 (.msl 0 v 0 l.length::[.sl (xs.flatMap Fx.c) xs.length,.fn (.func g) [] []]) [.row (l.map Z03) 1 v] (.msl 0 (v+1) 0 (l++(num xs.length++Z1H f xs xs.length)).length) [.row ((l++(num xs.length++Z1H f xs xs.length)).map Z03) 1 (v+1)]:=by
 have hB:(BIG:Nat)=140737488355328:=rfl
 have hSM:SM=1048576:=rfl
 have hn:=Z0q xs.length
 rw [Nat.succ_mul] at hN
 (intro X hP hΓ hL hfin; refine⟨_,rfl,?_⟩; rw [show Tryz.f67.ntmps=28 from rfl]; rw [show Tryz.f67.results.toList=[.tmp 6] from rfl] at hfin; apply holds_of_ex X 400; simp only [push_cast,reduceCtorEq,Nat.reduceAdd,Nat.reduceMul,Nat.reduceSub,Nat.reduceBEq,Nat.reduceGT,Nat.reduceLT,Int.toNat_zero,Nat.reduceLeDiff,Int.reduceEq,Int.reduceLT,Int.reduceLE,hP,hΓ,hL,hfin])
 ((first | with_reducible refine holds_of_ex X 400 _ _ _ ?_ | skip); simp (maxSteps:=1000000) only [push_cast,reduceCtorEq,Nat.reduceAdd,Nat.reduceMul,Nat.reduceSub,Nat.reduceBEq,Nat.reduceGT,Nat.reduceLT,Int.toNat_zero,Nat.reduceLeDiff,Int.reduceEq,Int.reduceLT,Int.reduceLE,hP,hΓ,hL,hfin,↓Z00,h23,Z5L])
 obtain⟨Q,hQ⟩:∃Q:Nat→Z04,Q=fun k=>l++(num xs.length++Z1H f xs k):=⟨_,rfl⟩
 have hQ0:l++enc (u32 xs.length)=Q 0:=by rw [hQ]; simp [Z1H,num]
 have hQ1:∀k,Q k++f k (xs.getD k default)=Q (k+1):=fun k=>by simp only [hQ]; rw [Z1a]; simp
 have hQl:∀k,k≤xs.length→(Q k).length≤l.length+5+xs.length*M:=fun k hk=>by
  have h1:=Z0Y f xs M k (fun i hi=>hM i (by omega))
  have h2:k*M≤xs.length*M:=Nat.mul_le_mul_right _ hk
  rw [hQ]; simp; omega
 have hQn:l++(num xs.length++Z1H f xs xs.length)=Q xs.length:=by rw [hQ]
 simp only [←List.length_append,←List.map_append,hQ0,hQn] at hfin ⊢
 refine⟨⟨own_row l,Z3e _,by omega⟩,?_⟩
 refine Holds.loopM (ι:={k:Nat // k≤xs.length}) [false,false,true,false,false,false,true,false,false,false,false,false,false,false,true,true,false,false,false,false,false,false,false,false,false,false,false,false] (fun i=>[(0,.msl 0 (v+1) 0 (Q i.1).length),(16,.int .i64 i.1)]) (fun i=>[.row ((Q i.1).map Z03) 1 (v+1)]) (fun i=>xs.length - i.1) ⟨0,Nat.zero_le _⟩ ?_ ?_
 ·(rw [hL]; simp only [push_cast,Int.natCast_zero]; exact Z06.sameA)
 rintro⟨k,hk⟩
 have hq:=hQl k hk
 ((first | with_reducible refine holds_of_ex X 400 _ _ _ ?_ | skip); simp (maxSteps:=1000000) only [push_cast,reduceCtorEq,Nat.reduceAdd,Nat.reduceMul,Nat.reduceSub,Nat.reduceBEq,Nat.reduceGT,Nat.reduceLT,Int.toNat_zero,Nat.reduceLeDiff,Int.reduceEq,Int.reduceLT,Int.reduceLE,hP,hΓ,hL,hfin,↓Z00])
 ((with_reducible refine Z02 (fun h=>?_) (fun h=>?_)) <;> (try simp only [decide_eq_true_eq,decide_eq_false_iff_not,Bool.and_eq_true,Bool.or_eq_true,Bool.and_eq_false_iff,Bool.or_eq_false_iff,Bool.not_eq_true',Bool.not_eq_false',Bool.not_eq_true,Bool.not_eq_false,Int.not_lt,Int.not_le,beq_iff_eq,beq_eq_false_iff_ne,ne_eq,win_t,win_f] at h))
 ·have hk':k<xs.length:=by omega
  have e1:=hkk k hk'
  have e2:=hpp k (Q k).length hk' (by omega)
  ((first | with_reducible refine holds_of_ex X 400 _ _ _ ?_ | skip); simp (maxSteps:=1000000) only [push_cast,reduceCtorEq,Nat.reduceAdd,Nat.reduceMul,Nat.reduceSub,Nat.reduceBEq,Nat.reduceGT,Nat.reduceLT,Int.toNat_zero,Nat.reduceLeDiff,Int.reduceEq,Int.reduceLT,Int.reduceLE,hP,hΓ,hL,hfin,↓Z00,hg,hk',Z0c ((k:Int)+1) (by constructor <;> omega),e1,e2])
  simp only [←List.length_append,←List.map_append,hQ1]
  (repeat (refine And.intro (by first | exact True.intro | omega | assumption | exact own_row _ | (simp only [List.length_append]; omega) | (intro hg; (try simp only [decide_eq_true_eq,decide_eq_false_iff_not,Bool.and_eq_true,Bool.or_eq_true,Bool.and_eq_false_iff,Bool.or_eq_false_iff,Bool.not_eq_true',Bool.not_eq_false',Bool.not_eq_true,Bool.not_eq_false,Int.not_lt,Int.not_le,beq_iff_eq,beq_eq_false_iff_ne,ne_eq,win_t,win_f] at hg); omega)) ?_))
  refine⟨⟨k+1,hk'⟩,by simp only; omega,?_⟩
  (refine Z0k.ver 0  (v+1) (by simp only [push_cast,reduceCtorEq,Nat.reduceAdd,Nat.reduceMul,Nat.reduceSub,Nat.reduceBEq,Nat.reduceGT,Nat.reduceLT,Int.toNat_zero,Nat.reduceLeDiff,Int.reduceEq,Int.reduceLT,Int.reduceLE]) (by first | exact .inr (Nat.zero_le _) | (left; simp only [push_cast,reduceCtorEq,Nat.reduceAdd,Nat.reduceMul,Nat.reduceSub,Nat.reduceBEq,Nat.reduceGT,Nat.reduceLT,Int.toNat_zero,Nat.reduceLeDiff,Int.reduceEq,Int.reduceLT,Int.reduceLE]; first | done | omega) | (right; simp only [push_cast,reduceCtorEq,Nat.reduceAdd,Nat.reduceMul,Nat.reduceSub,Nat.reduceBEq,Nat.reduceGT,Nat.reduceLT,Int.toNat_zero,Nat.reduceLeDiff,Int.reduceEq,Int.reduceLT,Int.reduceLE]; first | done | omega)) ?_; simp only [push_cast,reduceCtorEq,Nat.reduceAdd,Nat.reduceMul,Nat.reduceSub,Nat.reduceBEq,Nat.reduceGT,Nat.reduceLT,Int.toNat_zero,Nat.reduceLeDiff,Int.reduceEq,Int.reduceLT,Int.reduceLE])
  exact Z06.keep1A
 ·obtain rfl:k=xs.length:=by omega
  ((first | with_reducible refine holds_of_ex X 400 _ _ _ ?_ | skip); simp (maxSteps:=1000000) only [push_cast,reduceCtorEq,Nat.reduceAdd,Nat.reduceMul,Nat.reduceSub,Nat.reduceBEq,Nat.reduceGT,Nat.reduceLT,Int.toNat_zero,Nat.reduceLeDiff,Int.reduceEq,Int.reduceLT,Int.reduceLE,hP,hΓ,hL,hfin,↓Z00])
  exact Z06.keep1A
end Go.Proofs.YtmomhjmaanagaaaGreat.objDone