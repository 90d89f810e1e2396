/- Parts of the walk through directories. Conditions stand in each. -/
import Derived.Test.YtbnnhffkbcekcaaGreatDoorGa
import Derived.Test.YtbnnhffkbcekcaaGreatDoorFg
set_option linter.unusedVariables false
set_option linter.unusedSimpArgs false
set_option maxRecDepth 100000
set_option maxHeartbeats 4000000
section
namespace Go.Proofs.YtbnnhffkbcekcaaGreatDoor.dirDone
open Go Go.Eng Go.Proofs
def Z2e(l:List Int)(n:Int):Int:=if n∈l then (l.idxOf n:Nat) else -1
theorem Z9V{l:List Int}{n:Int}{k:Nat}(h:k<l.length)(h0:n∉l.take k)(h1:l.getD k default=n):Z2e l n=k:=by
 have hg:l[k]=n:=by simpa [List.getD,h] using h1
 have hm:n∈l:=hg▸List.getElem_mem h
 have e:l=l.take k++l.drop k:=(List.take_append_drop k l).symm
 unfold Z2e
 rw [if_pos hm]
 congr 1
 rw [e,List.idxOf_append,if_neg h0,List.drop_eq_getElem_cons h,hg,List.idxOf_cons_self,List.length_take]
 omega
theorem Z7u{l:List Int}{n:Int}{k:Nat}(h:k<l.length)(h0:n∉l.take k)(h1:¬n=l.getD k default):n∉l.take (k+1):=by
 rw [List.take_succ_eq_append_getElem h,List.mem_append]
 rintro (h' | h')
 ·exact h0 h'
 ·rw [List.mem_singleton] at h'
  exact h1 (by rw [h']; simp [List.getD,h])
def ZjM:List Int×Int→List AV:=fun (l,n)=>[.sl (l.map (AV.int .i64)) l.length,.int .i64 n]
def ZnM:List Int×Int→Prop:=fun (l,n)=>l.length≤4194304
def Znd:List Int×Int→AV:=fun (l,n)=>.int .i64 (Z2e l n)
def ZoA:List Int×Int→Z01:=fun (l,n)=>[]
theorem inj141:∀a b,ZjM a=ZjM b→a=b:=by
 rintro⟨l,n⟩ ⟨l',n'⟩ h
 simp only [ZjM,Z0g,Z0h,Z0k,Z0j,UInt8.toNat_inj,Z09,Z0c,Z0o,Z1g,Z0A,List.cons.injEq] at h
 simp_all only
noncomputable def S141:Z0n:=Z5S ZjM ZnM Znd ZoA true
theorem Znw(l:List Int)(n:Int):Z5P ZjM ZnM [.sl (l.map (AV.int .i64)) l.length,.int .i64 n]=(l.length≤4194304):=Z13 inj141 ZnM (l,n)
theorem ZmY(l:List Int)(n:Int):Z2s ZjM Znd .any [.sl (l.map (AV.int .i64)) l.length,.int .i64 n]=(.int .i64 (Z2e l n)):=Z0u inj141 Znd .any (l,n)
theorem Zoj(l:List Int)(n:Int):Z2s ZjM ZoA [] [.sl (l.map (AV.int .i64)) l.length,.int .i64 n]=([]):=Z0u inj141 ZoA [] (l,n)
attribute [push_cast] S141 Znw ZmY Zoj
theorem body141(Γ:Env)(l:List Int)(n:Int)(hl:l.length≤4194304):Z08 Tryz.prog Γ Tryz.f141 [.sl (l.map (AV.int .i64)) l.length,.int .i64 n] [] (.int .i64 (Z2e l n)) []:=by
 refine stt 19 [.tmp 4] fun X hP hΓ hL hfin=>?_; refine Z0G ?_
 refine Z02.loopM (ι:={k:Nat // k≤l.length∧n∉l.take k}) [tt,tt,ff,ff,ff,ff,ff,tt,ff,ff,ff,ff,ff,ff,ff,ff,ff,ff,ff] (fun i=>[(8,.int .i64 i.1)]) (fun i=>[]) (fun i=>l.length - i.1) ⟨0,Nat.zero_le _,by simp⟩ ?_ ?_
 ·(rw [hL]; simp only [push_cast,Int.natCast_zero,]; exact Z06.sameA)
 rintro⟨k,hk,hn⟩
 refine Z0G ?_
 ((with_reducible refine Z0v (fun h=>?_) fun h=>?_) <;> try simp only [fkl,beq_iff_eq,beq_eq_false_iff_ne,ne_eq] at h)
 ·have hk':k<l.length:=by omega
  refine gxq hk' ?_
  refine⟨by omega,by omega,?_⟩
  ((with_reducible refine Z0v (fun h=>?_) fun h=>?_) <;> try simp only [fkl,beq_iff_eq,beq_eq_false_iff_ne,ne_eq] at h)
  ·have e:=Z9V hk' hn h.symm
   refine gxq e ?_
   exact Z06.one rfl rfl
  ·refine Z0G ?_
   refine⟨⟨k+1,hk',Z7u hk' hn h⟩,by simp only; omega,?_⟩
   dsimp only
   rw [Z0t ((k:Int)+1) (by constructor <;> omega)]
   exact Z06.sameA
 ·obtain rfl:k=l.length:=by omega
  rw [List.take_length] at hn
  have e:Z2e l n=-1:=by unfold Z2e; rw [if_neg hn]
  refine gxq e ?_
  exact Z06.one rfl rfl
theorem con141{Γ:Env}(h:Z07 Tryz.prog Γ):Con Tryz.prog 141 S141:=
 Z0V h (fn:=Tryz.f141) (by kernel_rfl) rfl (by kernel_rfl) inj141 (by first | (intro h; cases h; done) | exact fun _ _=>rfl) fun ⟨l,n⟩ h=>body141 Γ l n h
def e79:List Int×Int→List AV:=fun (l,n)=>[.sl (l.map (AV.int .i64)) l.length,.int .i64 n]
def p79:List Int×Int→Prop:=fun (l,n)=>l.length≤4194304
def r79:List Int×Int→AV:=fun (l,n)=>.int .i64 (Z2e l n)
def g79:List Int×Int→Z01:=fun (l,n)=>[]
theorem inj79:∀a b,e79 a=e79 b→a=b:=by
 rintro⟨l,n⟩ ⟨l',n'⟩ h
 simp only [e79,Z0g,Z0h,Z0k,Z0j,UInt8.toNat_inj,Z09,Z0c,Z0o,Z1g,Z0A,List.cons.injEq] at h
 simp_all only
noncomputable def S79:Z0n:=Z5S e79 p79 r79 g79 true
theorem ps79(l:List Int)(n:Int):Z5P e79 p79 [.sl (l.map (AV.int .i64)) l.length,.int .i64 n]=(l.length≤4194304):=Z13 inj79 p79 (l,n)
theorem rs79(l:List Int)(n:Int):Z2s e79 r79 .any [.sl (l.map (AV.int .i64)) l.length,.int .i64 n]=(.int .i64 (Z2e l n)):=Z0u inj79 r79 .any (l,n)
theorem hs79(l:List Int)(n:Int):Z2s e79 g79 [] [.sl (l.map (AV.int .i64)) l.length,.int .i64 n]=([]):=Z0u inj79 g79 [] (l,n)
attribute [push_cast] S79 ps79 rs79 hs79
theorem body79(Γ:Env)(l:List Int)(n:Int)(hl:l.length≤4194304):Z08 Tryz.prog Γ Tryz.f79 [.sl (l.map (AV.int .i64)) l.length,.int .i64 n] [] (.int .i64 (Z2e l n)) []:=by
 refine stt 19 [.tmp 4] fun X hP hΓ hL hfin=>?_; refine Z0G ?_
 refine Z02.loopM (ι:={k:Nat // k≤l.length∧n∉l.take k}) [tt,tt,ff,ff,ff,ff,ff,tt,ff,ff,ff,ff,ff,ff,ff,ff,ff,ff,ff] (fun i=>[(8,.int .i64 i.1)]) (fun i=>[]) (fun i=>l.length - i.1) ⟨0,Nat.zero_le _,by simp⟩ ?_ ?_
 ·(rw [hL]; simp only [push_cast,Int.natCast_zero,]; exact Z06.sameA)
 rintro⟨k,hk,hn⟩
 refine Z0G ?_
 ((with_reducible refine Z0v (fun h=>?_) fun h=>?_) <;> try simp only [fkl,beq_iff_eq,beq_eq_false_iff_ne,ne_eq] at h)
 ·have hk':k<l.length:=by omega
  refine gxq hk' ?_
  refine⟨by omega,by omega,?_⟩
  ((with_reducible refine Z0v (fun h=>?_) fun h=>?_) <;> try simp only [fkl,beq_iff_eq,beq_eq_false_iff_ne,ne_eq] at h)
  ·have e:=Z9V hk' hn h.symm
   refine gxq e ?_
   exact Z06.one rfl rfl
  ·refine Z0G ?_
   refine⟨⟨k+1,hk',Z7u hk' hn h⟩,by simp only; omega,?_⟩
   dsimp only
   rw [Z0t ((k:Int)+1) (by constructor <;> omega)]
   exact Z06.sameA
 ·obtain rfl:k=l.length:=by omega
  rw [List.take_length] at hn
  have e:Z2e l n=-1:=by unfold Z2e; rw [if_neg hn]
  refine gxq e ?_
  exact Z06.one rfl rfl
theorem con79{Γ:Env}(h:Z07 Tryz.prog Γ):Con Tryz.prog 79 S79:=
 Z0V h (fn:=Tryz.f79) (by kernel_rfl) rfl (by kernel_rfl) inj79 (by first | (intro h; cases h; done) | exact fun _ _=>rfl) fun ⟨l,n⟩ h=>body79 Γ l n h
theorem ZlB(l:List Int)(n:Int):decide (0≤Z2e l n)=decide (n∈l):=by
 unfold Z2e; split <;> simp_all
def ZjQ:List Int×Int→List AV:=fun (l,n)=>[.sl (l.map (AV.int .i64)) l.length,.int .i64 n]
def ZnQ:List Int×Int→Prop:=fun (l,n)=>l.length≤4194304
def Znh:List Int×Int→AV:=fun (l,n)=>.bool (decide (n∈l))
def ZoE:List Int×Int→Z01:=fun (l,n)=>[]
theorem inj126:∀a b,ZjQ a=ZjQ b→a=b:=by
 rintro⟨l,n⟩ ⟨l',n'⟩ h
 simp only [ZjQ,Z0g,Z0h,Z0k,Z0j,UInt8.toNat_inj,Z09,Z0c,Z0o,Z1g,Z0A,List.cons.injEq] at h
 simp_all only
noncomputable def S126:Z0n:=Z5S ZjQ ZnQ Znh ZoE true
theorem ZgO(l:List Int)(n:Int):Z5P ZjQ ZnQ [.sl (l.map (AV.int .i64)) l.length,.int .i64 n]=(l.length≤4194304):=Z13 inj126 ZnQ (l,n)
theorem Zgk(l:List Int)(n:Int):Z2s ZjQ Znh .any [.sl (l.map (AV.int .i64)) l.length,.int .i64 n]=(.bool (decide (n∈l))):=Z0u inj126 Znh .any (l,n)
theorem Zhp(l:List Int)(n:Int):Z2s ZjQ ZoE [] [.sl (l.map (AV.int .i64)) l.length,.int .i64 n]=([]):=Z0u inj126 ZoE [] (l,n)
attribute [push_cast] S126 ZgO Zgk Zhp
theorem body126(Γ:Env)(h141:Γ 141=some S141)(l:List Int)(n:Int)(hl:l.length≤4194304):Z08 Tryz.prog Γ Tryz.f126 [.sl (l.map (AV.int .i64)) l.length,.int .i64 n] [] (.bool (decide (n∈l))) []:=by
 have e:=ZlB l n
 refine stt 9 [.tmp 4] fun X hP hΓ hL hfin=>?_; refine gxq (cj3 h141 hl e) ?_
 exact Z06.one rfl rfl
theorem con126{Γ:Env}(h:Z07 Tryz.prog Γ)(h141:Γ 141=some S141):Con Tryz.prog 126 S126:=
 Z0V h (fn:=Tryz.f126) (by kernel_rfl) rfl (by kernel_rfl) inj126 (by first | (intro h; cases h; done) | exact fun _ _=>rfl) fun ⟨l,n⟩ h=>body126 Γ h141 l n h
def tAt(U:List Int)(was:Int)(l:List Int)(i:Nat):Prop:=0≤l.getD i default∧l.getD i default<U.length∧U.getD (l.getD i default).toNat default=was∧l.getD i default∉l.take i
instance (U:List Int) (was:Int) (l:List Int) (i:Nat):Decidable (tAt U was l i):=by unfold tAt; infer_instance
def tOk(U:List Int)(was:Int)(l:List Int):Prop:=∀i,i<l.length→tAt U was l i
instance (U:List Int) (was:Int) (l:List Int):Decidable (tOk U was l):=by unfold tOk; infer_instance
def tSet(U:List Int)(now:Int)(l:List Int):List Int:=l.foldl (fun U n=>U.set n.toNat now) U
theorem Z0w(now:Int):∀(l U:List Int),(tSet U now l).length=U.length
 | [],U=>rfl
 | n::l,U=>by
  show (tSet (U.set n.toNat now) now l).length=_
  rw [Z0w now l,List.length_set]
theorem Z5Z(U:List Int)(now:Int)(l:List Int)(k:Nat)(h:k<l.length):tSet U now (l.take (k+1))=(tSet U now (l.take k)).set (l.getD k default).toNat now:=by
 rw [List.take_succ_eq_append_getElem h]
 unfold tSet
 rw [List.foldl_append]
 simp [List.getD,h]
theorem Z4u(U:List Int)(m:Nat)(now:Int)(h:m<U.length):(U.map (AV.int .i64)).take m++[.int .i64 now]++(U.map (AV.int .i64)).drop (m+1)=(U.set m now).map (AV.int .i64):=by
 rw [List.map_set,List.set_eq_take_append_cons_drop,if_pos (by rw [List.length_map]; exact h),List.append_assoc,List.singleton_append]
def tRes(U:List Int)(was now:Int)(l:List Int):List Int:=if tOk U was l then tSet U now l else U
inductive A78 where
 | c0 (U:List Int) (v:Nat) (l:List Int) (was:Int) (now:Int)
 | c1 (U:List Int) (v:Nat) (l:List Int) (u:Nat) (was:Int) (now:Int)
def e78:A78→List AV×Z01
 | .c0 U v l was now=>([.msl 0 v 0 U.length,.sl (l.map (AV.int .i64)) l.length,.int .i64 was,.int .i64 now],[.row (U.map (AV.int .i64)) 1 v])
 | .c1 U v l u was now=>([.msl 0 v 0 U.length,.msl 1 u 0 l.length,.int .i64 was,.int .i64 now],[.row (U.map (AV.int .i64)) 1 v,.row (l.map (AV.int .i64)) 1 u])
def p78:A78→Prop
 | .c0 U v l was now=>l.length≤4194304∧U.length≤4194304
 | .c1 U v l u was now=>l.length≤4194304∧U.length≤4194304
def r78:A78→AV
 | .c0 U v l was now=>.bool (decide (tOk U was l))
 | .c1 U v l u was now=>.bool (decide (tOk U was l))
def g78:A78→Z01
 | .c0 U v l was now=>[.row ((tRes U was now l).map (AV.int .i64)) 1 v]
 | .c1 U v l u was now=>[.row ((tRes U was now l).map (AV.int .i64)) 1 v,.row (l.map (AV.int .i64)) 1 u]
theorem inj78:∀a b,e78 a=e78 b→a=b:=by
 intro a b h
 cases a <;> cases b <;> simp only [e78,Z0g,Z0h,Z0k,Z0j,UInt8.toNat_inj,Z09,Z0c,Z0o,Z1g,Z0A,List.cons.injEq,Fn.func.injEq,reduceCtorEq,Nat.reduceEqDiff,false_and,and_false,List.cons_ne_nil] at h <;> simp_all only
noncomputable def S78:Z0n:=Z6L e78 p78 r78 g78
theorem ZaG(U:List Int)(v:Nat)(l:List Int)(was now:Int):Z1Y e78 p78 ([.msl 0 v 0 U.length,.sl (l.map (AV.int .i64)) l.length,.int .i64 was,.int .i64 now],[.row (U.map (AV.int .i64)) 1 v])=(l.length≤4194304∧U.length≤4194304):=Z0J inj78 p78 (.c0 U v l was now)
theorem Zaq(U:List Int)(v:Nat)(l:List Int)(was now:Int):Z0U e78 r78 .any ([.msl 0 v 0 U.length,.sl (l.map (AV.int .i64)) l.length,.int .i64 was,.int .i64 now],[.row (U.map (AV.int .i64)) 1 v])=(.bool (decide (tOk U was l))):=Z0d inj78 r78 .any (.c0 U v l was now)
theorem ZaW(U:List Int)(v:Nat)(l:List Int)(was now:Int):Z0U e78 g78 [] ([.msl 0 v 0 U.length,.sl (l.map (AV.int .i64)) l.length,.int .i64 was,.int .i64 now],[.row (U.map (AV.int .i64)) 1 v])=([.row ((tRes U was now l).map (AV.int .i64)) 1 v]):=Z0d inj78 g78 [] (.c0 U v l was now)
theorem Z8v(U:List Int)(v:Nat)(l:List Int)(u:Nat)(was now:Int):Z1Y e78 p78 ([.msl 0 v 0 U.length,.msl 1 u 0 l.length,.int .i64 was,.int .i64 now],[.row (U.map (AV.int .i64)) 1 v,.row (l.map (AV.int .i64)) 1 u])=(l.length≤4194304∧U.length≤4194304):=Z0J inj78 p78 (.c1 U v l u was now)
theorem Z8p(U:List Int)(v:Nat)(l:List Int)(u:Nat)(was now:Int):Z0U e78 r78 .any ([.msl 0 v 0 U.length,.msl 1 u 0 l.length,.int .i64 was,.int .i64 now],[.row (U.map (AV.int .i64)) 1 v,.row (l.map (AV.int .i64)) 1 u])=(.bool (decide (tOk U was l))):=Z0d inj78 r78 .any (.c1 U v l u was now)
theorem Z8O(U:List Int)(v:Nat)(l:List Int)(u:Nat)(was now:Int):Z0U e78 g78 [] ([.msl 0 v 0 U.length,.msl 1 u 0 l.length,.int .i64 was,.int .i64 now],[.row (U.map (AV.int .i64)) 1 v,.row (l.map (AV.int .i64)) 1 u])=([.row ((tRes U was now l).map (AV.int .i64)) 1 v,.row (l.map (AV.int .i64)) 1 u]):=Z0d inj78 g78 [] (.c1 U v l u was now)
attribute [push_cast] S78 ZaG Zaq ZaW Z8v Z8p Z8O
theorem body78a(Γ:Env)(h126:Γ 126=some S126)(U:List Int)(v:Nat)(l:List Int)(was:Int)(now:Int)(hl:l.length≤4194304)(hU:U.length≤4194304):Z08 Tryz.prog Γ Tryz.f78 [.msl 0 v 0 U.length,.sl (l.map (AV.int .i64)) l.length,.int .i64 was,.int .i64 now] [.row (U.map (AV.int .i64)) 1 v] (.bool (decide (tOk U was l))) [.row ((tRes U was now l).map (AV.int .i64)) 1 v]:=by
 refine stt 55 [.tmp 8] fun X hP hΓ hL hfin=>?_; refine Z0G ?_
 refine Z02.loopM (ι:={k:Nat // k≤l.length∧∀i,i<k→tAt U was l i}) [tt,tt,tt,tt,ff,ff,ff,ff,ff,ff,ff,ff,tt,tt,tt,ff,ff,ff,ff,ff,ff,ff,ff,ff,ff,ff,ff,ff,ff,ff,ff,ff,ff,ff,ff,ff,ff,ff,ff,ff,ff,ff,ff,ff,tt,tt,tt,ff,ff,ff,ff,ff,ff,ff,ff] (fun i=>[(15,.int .i64 i.1)]) (fun i=>[.row (U.map (AV.int .i64)) 1 v]) (fun i=>l.length - i.1) ⟨0,Nat.zero_le _,fun i h=>absurd h (Nat.not_lt_zero i)⟩ ?_ ?_
 ·(rw [hL]; simp only [push_cast,Int.natCast_zero,]; exact Z06.sameA)
 rintro⟨k,hk,hn⟩
 refine Z0G ?_
 ((with_reducible refine Z0v (fun h=>?_) fun h=>?_) <;> try simp only [fkl,beq_iff_eq,beq_eq_false_iff_ne,ne_eq] at h)
 ·have hk':k<l.length:=by omega
  have hkl:(l.take k).length=k:=by rw [List.length_take]; omega
  have htk:List.take k (l.map (AV.int .i64))=(l.take k).map (AV.int .i64):=by rw [List.map_take]
  have hks:k - 0=k:=Nat.sub_zero k
  have hno:¬tAt U was l k→decide (tOk U was l)=false∧tRes U was now l=U:=fun hx=>by
   have hx2:¬tOk U was l:=fun hh=>hx (hh k hk')
   exact⟨decide_eq_false hx2,by unfold tRes; rw [if_neg hx2]⟩
  have ps:=fun q:Int=>ZgO (l.take k) q
  have rs:=fun q:Int=>Zgk (l.take k) q
  have gs:=fun q:Int=>Zhp (l.take k) q
  rw [hkl] at ps rs gs
  have hl5:k≤4194304:=by omega
  by_cases c1:l.getD k default<0
  ·obtain⟨e1,e2⟩:=hno (fun hx=>by have:=hx.1; omega)
   refine gxq (Ziy hk' c1 h126 htk hks hl5 ps rs gs e1 e2) ?_
   refine⟨by omega,by omega,?_⟩
   exact Z06.sameA
  obtain⟨m,hm⟩:=Int.eq_ofNat_of_zero_le (show 0≤l.getD k default by omega)
  have d0:decide ((m:Int)<0)=false:=decide_eq_false (by omega)
  by_cases c2:m<U.length
  case neg=>
   have d1:decide ((U.length:Int)≤m)=true:=decide_eq_true (by omega)
   obtain⟨e1,e2⟩:=hno (fun hx=>by have:=hx.2.1; omega)
   refine gxq (ZhD hk' hm d0 d1 h126 htk hks hl5 ps rs gs e1 e2) ?_
   refine⟨by omega,by omega,?_⟩
   exact Z06.sameA
  have d1:decide ((U.length:Int)≤m)=false:=decide_eq_false (by omega)
  by_cases c3:U.getD m default=was
  case neg=>
   have d2:decide (U.getD m default=was)=false:=decide_eq_false c3
   obtain⟨e1,e2⟩:=hno (fun hx=>c3 (by have:=hx.2.2.1; rw [hm] at this; exact this))
   refine gxq (Zk8 hk' hm d0 d1 d2 c2 h126 htk hks hl5 ps rs gs e1 e2) ?_
   refine⟨by omega,by omega,by omega,by omega,?_⟩
   exact Z06.sameA
  have d2:decide (U.getD m default=was)=true:=decide_eq_true c3
  by_cases c4:(m:Int)∈l.take k
  ·obtain⟨e1,e2⟩:=hno (fun hx=>hx.2.2.2 (hm▸c4))
   have d3:decide ((m:Int)∈l.take k)=true:=decide_eq_true c4
   refine gxq (Zk7 hk' hm d0 d1 d2 d3 c2 h126 htk hks hl5 ps rs gs e1 e2) ?_
   refine⟨by omega,by omega,by omega,by omega,by omega,?_⟩
   exact Z06.sameA
  ·have d3:decide ((m:Int)∈l.take k)=false:=decide_eq_false c4
   refine gxq (ZhC hk' hm d0 d1 d2 d3 c2 h126 htk hks hl5 ps rs gs) ?_
   have hkt:tAt U was l k:=⟨by omega,by omega,by rw [hm]; exact c3,by rw [hm]; exact c4⟩
   refine⟨by omega,by omega,by omega,by omega,by omega,⟨k+1,hk',fun i hi=>?_⟩,by simp only; omega,?_⟩
   ·rcases Nat.lt_succ_iff_lt_or_eq.1 hi with h' | rfl
    ·exact hn i h'
    ·exact hkt
   dsimp only
   rw [Z0t ((k:Int)+1) (by constructor <;> omega)]
   exact Z06.sameA
 ·obtain rfl:k=l.length:=by omega
  have hok:tOk U was l:=hn
  have e1:decide (tOk U was l)=true:=decide_eq_true hok
  have e2:tRes U was now l=tSet U now l:=by unfold tRes; rw [if_pos hok]
  rw [e1,e2] at hfin
  refine Z0G ?_
  refine Z02.loopM (ι:={k:Nat // k≤l.length}) [tt,ff,ff,tt,ff,ff,ff,ff,tt,ff,ff,ff,ff,ff,ff,ff,ff,ff,ff,ff,ff,ff,ff,ff,ff,ff,ff,ff,ff,ff,ff,ff,ff,ff,ff,ff,ff,ff,ff,ff,ff,ff,ff,ff,tt,tt,ff,ff,ff,ff,ff,ff,ff,ff,ff] (fun i=>[(46,.int .i64 i.1),(45,.int .i64 l.length),(44,.sl (l.map (AV.int .i64)) l.length)]) (fun i=>[.row ((tSet U now (l.take i.1)).map (AV.int .i64)) 1 v]) (fun i=>l.length - i.1) ⟨0,Nat.zero_le _⟩ ?_ ?_
  ·(rw [hL]; simp only [push_cast,Int.natCast_zero,show tSet U now []=U from rfl]; exact Z06.sameA)
  rintro⟨k,hk⟩
  refine Z0G ?_
  ((with_reducible refine Z0v (fun h=>?_) fun h=>?_) <;> try simp only [fkl,beq_iff_eq,beq_eq_false_iff_ne,ne_eq] at h)
  ·have hk':k<l.length:=by omega
   have ht:=hok k hk'
   obtain⟨m,hm⟩:=Int.eq_ofNat_of_zero_le ht.1
   have hm2:m<U.length:=by have:=ht.2.1; omega
   have e4:=Z5Z U now l k hk'
   have hln:=Z0w now (l.take k) U
   rw [hm] at e4
   rw [show (m:Int).toNat=m from rfl] at e4
   refine gxq (cj2 hk' hm) ?_
   refine⟨by omega,by omega,by omega,by omega,⟨k+1,hk'⟩,by simp only; omega,?_⟩
   dsimp only
   rw [Z0t ((k:Int)+1) (by constructor <;> omega),Z4u _ _ _ (by omega),e4]
   exact Z06.sameA
  ·obtain rfl:k=l.length:=by omega
   rw [List.take_length]
   refine Z0G ?_
   exact Z06.sameA
theorem body78b(Γ:Env)(h126:Γ 126=some S126)(U:List Int)(v:Nat)(l:List Int)(u:Nat)(was:Int)(now:Int)(hl:l.length≤4194304)(hU:U.length≤4194304):Z08 Tryz.prog Γ Tryz.f78 [.msl 0 v 0 U.length,.msl 1 u 0 l.length,.int .i64 was,.int .i64 now] [.row (U.map (AV.int .i64)) 1 v,.row (l.map (AV.int .i64)) 1 u] (.bool (decide (tOk U was l))) [.row ((tRes U was now l).map (AV.int .i64)) 1 v,.row (l.map (AV.int .i64)) 1 u]:=by
 refine stt 55 [.tmp 8] fun X hP hΓ hL hfin=>?_; refine Z0G ?_
 refine Z02.loopM (ι:={k:Nat // k≤l.length∧∀i,i<k→tAt U was l i}) [tt,tt,tt,tt,ff,ff,ff,ff,ff,ff,ff,ff,tt,tt,tt,ff,ff,ff,ff,ff,ff,ff,ff,ff,ff,ff,ff,ff,ff,ff,ff,ff,ff,ff,ff,ff,ff,ff,ff,ff,ff,ff,ff,ff,tt,tt,tt,ff,ff,ff,ff,ff,ff,ff,ff] (fun i=>[(15,.int .i64 i.1)]) (fun i=>[.row (U.map (AV.int .i64)) 1 v,.row (l.map (AV.int .i64)) 1 u]) (fun i=>l.length - i.1) ⟨0,Nat.zero_le _,fun i h=>absurd h (Nat.not_lt_zero i)⟩ ?_ ?_
 ·(rw [hL]; simp only [push_cast,Int.natCast_zero,]; exact Z06.sameA)
 rintro⟨k,hk,hn⟩
 refine Z0G ?_
 ((with_reducible refine Z0v (fun h=>?_) fun h=>?_) <;> try simp only [fkl,beq_iff_eq,beq_eq_false_iff_ne,ne_eq] at h)
 ·have hk':k<l.length:=by omega
  have hkl:(l.take k).length=k:=by rw [List.length_take]; omega
  have htk:List.take k (l.map (AV.int .i64))=(l.take k).map (AV.int .i64):=by rw [List.map_take]
  have hks:k - 0=k:=Nat.sub_zero k
  have hno:¬tAt U was l k→decide (tOk U was l)=false∧tRes U was now l=U:=fun hx=>by
   have hx2:¬tOk U was l:=fun hh=>hx (hh k hk')
   exact⟨decide_eq_false hx2,by unfold tRes; rw [if_neg hx2]⟩
  have ps:=fun q:Int=>ZgO (l.take k) q
  have rs:=fun q:Int=>Zgk (l.take k) q
  have gs:=fun q:Int=>Zhp (l.take k) q
  rw [hkl] at ps rs gs
  have hl5:k≤4194304:=by omega
  by_cases c1:l.getD k default<0
  ·obtain⟨e1,e2⟩:=hno (fun hx=>by have:=hx.1; omega)
   refine gxq (Ziy hk' c1 h126 htk hks hl5 ps rs gs e1 e2) ?_
   refine⟨by omega,by omega,?_⟩
   exact Z06.sameA
  obtain⟨m,hm⟩:=Int.eq_ofNat_of_zero_le (show 0≤l.getD k default by omega)
  have d0:decide ((m:Int)<0)=false:=decide_eq_false (by omega)
  by_cases c2:m<U.length
  case neg=>
   have d1:decide ((U.length:Int)≤m)=true:=decide_eq_true (by omega)
   obtain⟨e1,e2⟩:=hno (fun hx=>by have:=hx.2.1; omega)
   refine gxq (ZhD hk' hm d0 d1 h126 htk hks hl5 ps rs gs e1 e2) ?_
   refine⟨by omega,by omega,?_⟩
   exact Z06.sameA
  have d1:decide ((U.length:Int)≤m)=false:=decide_eq_false (by omega)
  by_cases c3:U.getD m default=was
  case neg=>
   have d2:decide (U.getD m default=was)=false:=decide_eq_false c3
   obtain⟨e1,e2⟩:=hno (fun hx=>c3 (by have:=hx.2.2.1; rw [hm] at this; exact this))
   refine gxq (Zk8 hk' hm d0 d1 d2 c2 h126 htk hks hl5 ps rs gs e1 e2) ?_
   refine⟨by omega,by omega,by omega,by omega,?_⟩
   exact Z06.sameA
  have d2:decide (U.getD m default=was)=true:=decide_eq_true c3
  by_cases c4:(m:Int)∈l.take k
  ·obtain⟨e1,e2⟩:=hno (fun hx=>hx.2.2.2 (hm▸c4))
   have d3:decide ((m:Int)∈l.take k)=true:=decide_eq_true c4
   refine gxq (Zk7 hk' hm d0 d1 d2 d3 c2 h126 htk hks hl5 ps rs gs e1 e2) ?_
   refine⟨by omega,by omega,by omega,by omega,by omega,?_⟩
   exact Z06.sameA
  ·have d3:decide ((m:Int)∈l.take k)=false:=decide_eq_false c4
   refine gxq (ZhC hk' hm d0 d1 d2 d3 c2 h126 htk hks hl5 ps rs gs) ?_
   have hkt:tAt U was l k:=⟨by omega,by omega,by rw [hm]; exact c3,by rw [hm]; exact c4⟩
   refine⟨by omega,by omega,by omega,by omega,by omega,⟨k+1,hk',fun i hi=>?_⟩,by simp only; omega,?_⟩
   ·rcases Nat.lt_succ_iff_lt_or_eq.1 hi with h' | rfl
    ·exact hn i h'
    ·exact hkt
   dsimp only
   rw [Z0t ((k:Int)+1) (by constructor <;> omega)]
   exact Z06.sameA
 ·obtain rfl:k=l.length:=by omega
  have hok:tOk U was l:=hn
  have e1:decide (tOk U was l)=true:=decide_eq_true hok
  have e2:tRes U was now l=tSet U now l:=by unfold tRes; rw [if_pos hok]
  rw [e1,e2] at hfin
  refine Z0G ?_
  refine Z02.loopM (ι:={k:Nat // k≤l.length}) [tt,ff,ff,tt,ff,ff,ff,ff,tt,ff,ff,ff,ff,ff,ff,ff,ff,ff,ff,ff,ff,ff,ff,ff,ff,ff,ff,ff,ff,ff,ff,ff,ff,ff,ff,ff,ff,ff,ff,ff,ff,ff,ff,ff,tt,tt,ff,ff,ff,ff,ff,ff,ff,ff,ff] (fun i=>[(46,.int .i64 i.1),(45,.int .i64 l.length),(44,.msl 1 u 0 l.length)]) (fun i=>[.row ((tSet U now (l.take i.1)).map (AV.int .i64)) 1 v,.row (l.map (AV.int .i64)) 1 u]) (fun i=>l.length - i.1) ⟨0,Nat.zero_le _⟩ ?_ ?_
  ·(rw [hL]; simp only [push_cast,Int.natCast_zero,show tSet U now []=U from rfl]; exact Z06.sameA)
  rintro⟨k,hk⟩
  refine Z0G ?_
  ((with_reducible refine Z0v (fun h=>?_) fun h=>?_) <;> try simp only [fkl,beq_iff_eq,beq_eq_false_iff_ne,ne_eq] at h)
  ·have hk':k<l.length:=by omega
   have ht:=hok k hk'
   obtain⟨m,hm⟩:=Int.eq_ofNat_of_zero_le ht.1
   have hm2:m<U.length:=by have:=ht.2.1; omega
   have e4:=Z5Z U now l k hk'
   have hln:=Z0w now (l.take k) U
   rw [hm] at e4
   rw [show (m:Int).toNat=m from rfl] at e4
   refine gxq (cj2 hk' hm) ?_
   refine⟨by omega,by omega,by omega,by omega,⟨k+1,hk'⟩,by simp only; omega,?_⟩
   dsimp only
   rw [Z0t ((k:Int)+1) (by constructor <;> omega),Z4u _ _ _ (by omega),e4]
   exact Z06.sameA
  ·obtain rfl:k=l.length:=by omega
   rw [List.take_length]
   refine Z0G ?_
   exact Z06.sameA
theorem con78{Γ:Env}(h:Z07 Tryz.prog Γ)(h126:Γ 126=some S126):Con Tryz.prog 78 S78:=
 Z2f h (fn:=Tryz.f78) (by kernel_rfl) rfl (by kernel_rfl) inj78 fun a h=>match a,h with | .c0 U v l was now,h=>body78a Γ h126 U v l was now h.1 h.2 | .c1 U v l u was now,h=>body78b Γ h126 U v l u was now h.1 h.2
def secB(S:List Sec)(at_:Int):List UInt8:=(S.getD at_.toNat default).1
theorem Z3r(S:List Sec)(at_:Int):(secB S at_).length=1024:=(S.getD at_.toNat default).2
def hdN(len:Int):Nat:=((len+1023) / 1024).toNat
def hdW(b:List UInt8)(i:Nat):Nat:=getW b (4*(2+i))
def hdL(b:List UInt8)(at_:Int)(k:Nat):List Int:=at_::(List.range k).map fun i=>(hdW b i:Int)
theorem Z3B(b:List UInt8)(at_:Int)(k:Nat):(hdL b at_ k).length=k+1:=by simp [hdL]
theorem ZaZ(b:List UInt8)(at_:Int)(k:Nat):hdL b at_ (k+1)=hdL b at_ k++[(hdW b k:Int)]:=by simp [hdL,List.range_succ]
def hd0(S:List Sec)(at_ len:Int):Prop:=(0≤at_∧at_<S.length)∧0≤len∧len≤256000∧getW (secB S at_) 0=826820163∧(getW (secB S at_) 4:Int)=len
instance (S:List Sec) (at_ len:Int):Decidable (hd0 S at_ len):=by unfold hd0; infer_instance
def Z6t(S:List Sec)(at_ len:Int):Prop:=hd0 S at_ len∧∀i,i<hdN len→hdW (secB S at_) i<S.length
instance (S:List Sec) (at_ len:Int):Decidable (Z6t S at_ len):=by unfold Z6t; infer_instance
def hdA(S:List Sec)(at_ len:Int):AV:=if Z6t S at_ len then .tup [.sl ((hdL (secB S at_) at_ (hdN len)).map (AV.int .i64)) (hdL (secB S at_) at_ (hdN len)).length,.bool true] else .tup [.lit (.slice none 0 0),.bool false]
def k80:List Sec×List Wr×Int×Int→Ct:=fun (S,W,at_,len)=>⟨([.ref 0 0 0,.int .i64 at_,.int .i64 len],Z0o S W),S.length≤1048576,hdA S at_ len,Z0o S W⟩
theorem inj80:∀a b,(k80 a).a=(k80 b).a→a=b:=by
 rintro⟨S,W,at_,len⟩ ⟨S',W',at_',len'⟩ h
 simp only [k80,Z0g,Z0h,Z0k,Z0j,UInt8.toNat_inj,Z09,Z0c,Z0o,Z1g,Z0A,List.cons.injEq] at h
 simp_all only
noncomputable def S80:Z0n:=Z0W true k80
theorem ks80(S:List Sec)(W:List Wr)(at_ len:Int):KS k80 ([.ref 0 0 0,.int .i64 at_,.int .i64 len],Z0o S W) (S.length≤1048576) (hdA S at_ len) (Z0o S W):=kat inj80 (S,W,at_,len)
attribute [push_cast] S80 ks80
theorem body80(Γ:Env)(h62:Γ 62=some S62)(h113:Γ 113=some S113)(h31:Γ 31=some S31)(S:List Sec)(W:List Wr)(at_ len:Int)(hS:S.length≤1048576):Z08 Tryz.prog Γ Tryz.f80 [.ref 0 0 0,.int .i64 at_,.int .i64 len] (Z0o S W) (hdA S at_ len) (Z0o S W):=by
 have ⟨ps,rs,hs⟩:=ks62 S W at_
 have ⟨p2,r2,g2⟩:=ks31 S W
 by_cases c0:0≤at_∧at_<S.length
 case neg=>
  have e:hdA S at_ len=.tup [.lit (.slice none 0 0),.bool false]:=by unfold hdA; rw [if_neg (fun h=>c0 h.1.1)]
  rw [e]
  have e1:rdA S at_=.tup [.sl [] 0,.int .i64 31]:=by unfold rdA; rw [if_neg c0]
  rw [e1] at rs
  have rE:=fun k:Int=>ZkC [] k
  simp only [List.map_nil,List.length_nil] at rE
  unfold Z0o at *
  refine stt 65 [.tmp 6,.tmp 7] fun X hP hΓ hL hfin=>?_; refine gxq (cj6 h62 h113 ps rs hs rE) ?_
  refine⟨by decide,?_⟩
  exact Z06.sameA
 have e1:rdA S at_=.tup [.sl ((secB S at_).map Z05) (secB S at_).length,.int .i64 0]:=by unfold rdA; rw [if_pos c0]; rfl
 rw [e1] at rs
 have hl:=Z3r S at_
 have u32c:IntKind.u32.wrap len=len∨len<0∨256000<len:=by rcases (by omega:len<0∨256000<len∨(0≤len∧len<4294967296)) with h | h | h <;> first | exact .inr (.inl h) | exact .inr (.inr h) | exact .inl (Z5G len h)
 by_cases c1:len<0
 ·have e:hdA S at_ len=.tup [.lit (.slice none 0 0),.bool false]:=by unfold hdA; rw [if_neg (fun h=>by have:=h.1.2.1; omega)]
  rw [e]
  have d1:decide (len<0)=true:=decide_eq_true c1
  unfold Z0o at *
  refine stt 65 [.tmp 6,.tmp 7] fun X hP hΓ hL hfin=>?_; refine gxq (cj6 h62 h113 ps rs hs d1) ?_
  refine⟨by decide,?_⟩
  exact Z06.sameA
 have d1:decide (len<0)=false:=decide_eq_false c1
 by_cases c2:256000<len
 ·have e:hdA S at_ len=.tup [.lit (.slice none 0 0),.bool false]:=by unfold hdA; rw [if_neg (fun h=>by have:=h.1.2.2.1; omega)]
  rw [e]
  have d2:decide (256000<len)=true:=decide_eq_true c2
  unfold Z0o at *
  refine stt 65 [.tmp 6,.tmp 7] fun X hP hΓ hL hfin=>?_; refine gxq (cj7 h62 h113 ps rs hs d1 d2) ?_
  refine⟨by decide,?_⟩
  exact Z06.sameA
 have d2:decide (256000<len)=false:=decide_eq_false c2
 have uw:IntKind.u32.wrap len=len:=Z5G len (by omega)
 have f0:((getW (secB S at_) (4*0:Int).toNat:Nat):Int)=((getW (secB S at_) 0:Nat):Int):=rfl
 have f1:((getW (secB S at_) (4*1:Int).toNat:Nat):Int)=((getW (secB S at_) 4:Nat):Int):=rfl
 by_cases c3:getW (secB S at_) 0=826820163
 case neg=>
  have e:hdA S at_ len=.tup [.lit (.slice none 0 0),.bool false]:=by unfold hdA; rw [if_neg (fun h=>c3 h.1.2.2.2.1)]
  rw [e]
  have d3:decide (((getW (secB S at_) 0:Nat):Int)=826820163)=false:=decide_eq_false (by omega)
  unfold Z0o at *
  refine stt 65 [.tmp 6,.tmp 7] fun X hP hΓ hL hfin=>?_; refine gxq (Ziy h62 h113 ps rs hs d1 d2 uw f0 f1 d3) ?_
  refine⟨by decide,by omega,?_⟩
  exact Z06.sameA
 have d3:decide (((getW (secB S at_) 0:Nat):Int)=826820163)=true:=decide_eq_true (by omega)
 by_cases c4:(getW (secB S at_) 4:Int)=len
 case neg=>
  have e:hdA S at_ len=.tup [.lit (.slice none 0 0),.bool false]:=by unfold hdA; rw [if_neg (fun h=>c4 h.1.2.2.2.2)]
  rw [e]
  have d4:decide (((getW (secB S at_) 4:Nat):Int)=len)=false:=decide_eq_false c4
  unfold Z0o at *
  refine stt 65 [.tmp 6,.tmp 7] fun X hP hΓ hL hfin=>?_; refine gxq (Z9a h62 h113 ps rs hs d1 d2 uw f0 f1 d3 d4) ?_
  refine⟨by decide,by omega,by omega,?_⟩
  exact Z06.sameA
 have d4:decide (((getW (secB S at_) 4:Nat):Int)=len)=true:=decide_eq_true c4
 have hz:hd0 S at_ len:=⟨c0,by omega,by omega,c3,c4⟩
 have hn:hdN len≤251:=by unfold hdN; omega
 unfold Z0o at *
 refine stt 65 [.tmp 6,.tmp 7] fun X hP hΓ hL hfin=>?_; refine gxq (Z9a h62 h113 ps rs hs d1 d2 uw f0 f1 d3 d4) ?_
 refine⟨by decide,by omega,by omega,?_⟩
 have w1:IntKind.i64.wrap (len+1024)=len+1024:=wrq
 have w2:IntKind.i64.wrap (len+1024 - 1)=len+1023:=by rw [Z0t _ (by constructor <;> omega)]; omega
 have w3:(len+1023).tdiv 1024=(hdN len:Int):=by unfold hdN; rw [Int.tdiv_eq_ediv_of_nonneg (by omega)]; omega
 refine Z02.loopM (ι:={k:Nat // k≤hdN len∧∀i,i<k→hdW (secB S at_) i<S.length}) [tt,ff,ff,ff,ff,ff,ff,ff,tt,ff,ff,ff,ff,ff,ff,ff,ff,ff,ff,ff,ff,ff,ff,ff,ff,ff,ff,ff,ff,ff,ff,ff,ff,ff,ff,ff,ff,ff,ff,ff,ff,ff,ff,ff,ff,ff,tt,ff,ff,ff,ff,ff,ff,ff,ff,ff,ff,ff,ff,ff,ff,ff,ff,ff,ff] (fun i=>[(46,.int .i64 (hdN len)),(47,.int .i64 i.1),(10,.msl 3 i.1 0 (i.1+1))]) (fun i=>[.row [.msl 1 0 0 S.length,.msl 2 W.length 0 W.length] 2 0,.row (S.flatMap Z1T) 1024 0,.row (W.flatMap wrC) 1025 W.length,.row ((hdL (secB S at_) at_ i.1).map (AV.int .i64)) 1 i.1]) (fun i=>hdN len - i.1) ⟨0,Nat.zero_le _,fun i h=>absurd h (Nat.not_lt_zero i)⟩ ?_ ?_
 ·rw [hL]
  simp only [push_cast,w1,w2,w3,Z0t (hdN len:Int) (by constructor <;> omega)]
  exact Z06.sameA
 rintro⟨k,hk,hkn⟩
 refine Z0G ?_
 ((with_reducible refine Z0v (fun h=>?_) fun h=>?_) <;> try simp only [fkl,beq_iff_eq,beq_eq_false_iff_ne,ne_eq] at h)
 ·have hk':k<hdN len:=by omega
  have w4:IntKind.i64.wrap (2+(k:Int))=2+(k:Int):=wrq
  have f2:((getW (secB S at_) (4*(2+(k:Int))).toNat:Nat):Int)=(hdW (secB S at_) k:Int):=by unfold hdW; rw [show (4*(2+(k:Int))).toNat=4*(2+k) by omega]
  have hlt:hdW (secB S at_) k<4294967296:=Z20 _ _
  have f3:IntKind.i64.wrap ((hdW (secB S at_) k:Nat):Int)=(hdW (secB S at_) k:Int):=wrq
  have c5:(0:Int)≤2+(k:Int):=by omega
  refine gxq (cj9 w4 h113 h31 p2 r2 g2 f2 f3 c5) ?_
  refine⟨by omega,by decide,?_⟩
  ((with_reducible refine Z0v (fun h=>?_) fun h=>?_) <;> try simp only [fkl,beq_iff_eq,beq_eq_false_iff_ne,ne_eq] at h)
  ·have e:hdA S at_ len=.tup [.lit (.slice none 0 0),.bool false]:=by unfold hdA; rw [if_neg (fun h'=>by have:=h'.2 k hk'; omega)]
   refine gxq e ?_
   exact Z06.keep3A
  ·refine Z0G ?_
   refine⟨⟨Z3B _ _ _,by omega⟩,⟨k+1,hk',fun i hi=>?_⟩,by simp only; omega,?_⟩
   ·rcases Nat.lt_succ_iff_lt_or_eq.1 hi with h' | rfl
    ·exact hkn i h'
    ·omega
   dsimp only
   rw [Z0t ((k:Int)+1) (by constructor <;> omega),ZaZ,List.map_append]
   exact Z06.sameA
 ·obtain rfl:k=hdN len:=by omega
  have e:hdA S at_ len=.tup [.sl ((hdL (secB S at_) at_ (hdN len)).map (AV.int .i64)) (hdL (secB S at_) at_ (hdN len)).length,.bool true]:=by unfold hdA; rw [if_pos ⟨hz,hkn⟩]
  refine gxq e ?_
  refine Z0q.frz 3 smo smf (gsq ?_)
  rw [←Z3B (secB S at_) at_ (hdN len),Zag]
  exact Z06.keep3A
theorem con80{Γ:Env}(h:Z07 Tryz.prog Γ)(h62:Γ 62=some S62)(h113:Γ 113=some S113)(h31:Γ 31=some S31):Con Tryz.prog 80 S80:=
 kcn h (fn:=Tryz.f80) inj80 fun ⟨S,W,a,n⟩ h=>body80 Γ h62 h113 h31 S W a n h
end Go.Proofs.YtbnnhffkbcekcaaGreatDoor.dirDone
end
