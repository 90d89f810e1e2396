/- Of object numbers: bytes laid behind others, and the contracts of the functions that lay them. Conditions stand in each. -/
import Derived.Test.YtmomhjmaanagaaaGreatTy
import Derived.Test.YtmomhjmaanagaaaGreatRows
import Derived.Test.YtmomhjmaanagaaaGreatAr
set_option linter.unusedVariables false
set_option linter.unusedSimpArgs false
set_option maxRecDepth 100000
namespace Go.Proofs.YtmomhjmaanagaaaGreat.objNumbersDone
open Go Go.Eng Go.Proofs
def BIG:Nat:=140737488355328
theorem ZaA(Γ:Env)(l:List UInt8)(hl:l.length≤BIG):Z0a Tryz.prog Γ Tryz.f28 [.sl (l.map Z03) l.length] [] (.msl 0 0 0 l.length) [.row (l.map Z03) 1 0]:=by
 (intro X hP hΓ hL hfin; refine⟨_,rfl,?_⟩; rw [show Tryz.f28.ntmps=8 from rfl]; rw [show Tryz.f28.results.toList=[.tmp 2] from rfl] at hfin; apply holds_of_ex X 400; simp only [push_cast,reduceCtorEq,Nat.reduceAdd,Nat.reduceMul,Nat.reduceSub,Nat.reduceBEq,Nat.reduceGT,Nat.reduceLT,Int.toNat_zero,Nat.reduceLeDiff,Int.reduceEq,Int.reduceLT,Int.reduceLE,hP,hΓ,hL,hfin])
 have hB:(BIG:Nat)=140737488355328:=rfl
 refine⟨fun h=>?_,by omega,?_⟩
 ·obtain rfl:l=[]:=by simpa using h
  (refine Z0k.nil 0  1 rfl ?_; simp only [push_cast,reduceCtorEq,Nat.reduceAdd,Nat.reduceMul,Nat.reduceSub,Nat.reduceBEq,Nat.reduceGT,Nat.reduceLT,Int.toNat_zero,Nat.reduceLeDiff,Int.reduceEq,Int.reduceLT,Int.reduceLE])
  exact Z06.sameA
 ·(refine Z0k.ver 0  0 (by simp only [push_cast,reduceCtorEq,Nat.reduceAdd,Nat.reduceMul,Nat.reduceSub,Nat.reduceBEq,Nat.reduceGT,Nat.reduceLT,Int.toNat_zero,Nat.reduceLeDiff,Int.reduceEq,Int.reduceLT,Int.reduceLE]) (by first | exact .inr (Nat.zero_le _) | (left; simp only [push_cast,reduceCtorEq,Nat.reduceAdd,Nat.reduceMul,Nat.reduceSub,Nat.reduceBEq,Nat.reduceGT,Nat.reduceLT,Int.toNat_zero,Nat.reduceLeDiff,Int.reduceEq,Int.reduceLT,Int.reduceLE]; first | done | omega) | (right; simp only [push_cast,reduceCtorEq,Nat.reduceAdd,Nat.reduceMul,Nat.reduceSub,Nat.reduceBEq,Nat.reduceGT,Nat.reduceLT,Int.toNat_zero,Nat.reduceLeDiff,Int.reduceEq,Int.reduceLT,Int.reduceLE]; first | done | omega)) ?_; simp only [push_cast,reduceCtorEq,Nat.reduceAdd,Nat.reduceMul,Nat.reduceSub,Nat.reduceBEq,Nat.reduceGT,Nat.reduceLT,Int.toNat_zero,Nat.reduceLeDiff,Int.reduceEq,Int.reduceLT,Int.reduceLE])
  exact Z06.sameA
def hi7(n:Nat):UInt8:=UInt8.ofNat (n % 128+128)
def lo7(n:Nat):UInt8:=UInt8.ofNat n
def q7(n:Nat):Nat:=n / 128
def enc(n:Nat):List UInt8:=if n<128 then [lo7 n] else hi7 n::enc (q7 n)
termination_by n
decreasing_by simp only [q7]; omega
theorem Z2X:∀(k n:Nat),n<128 ^ (k+1)→(enc n).length≤k+1:=by
 intro k
 induction k with
 | zero=>intro n h; rw [enc,if_pos (by omega)]; simp
 | succ k ih=>
  intro n h
  rw [enc]
  split
  ·simp
  ·have:=ih (q7 n) (by rw [Nat.pow_succ] at h; simp only [q7]; omega)
   simp; omega
theorem Z5K(n:Nat):IntKind.u8.wrap (n:Int)=((n % 256:Nat):Int):=by simp [IntKind.wrap,IntKind.bits,IntKind.signed]
theorem ZhN(n:Nat):Z2x .or .u8 (IntKind.u8.wrap ↑n) 128=((hi7 n).toNat:Int):=by
 rw [Z5K,hi7,show n % 128=n % 256 % 128 by omega]
 have h:=Zjc (fun r=>Z2x .or .u8 ↑r 128 == (UInt8.ofNat (r % 128+128)).toNat) 256 (by kernel_rfl) (n % 256) (by omega)
 exact eq_of_beq h
theorem Z9d(n:Nat)(h:n<128):IntKind.u8.wrap ↑n=((lo7 n).toNat:Int):=by
 rw [Z5K,lo7]; congr 1
theorem ZgL(n s:Nat):(n:Int).fdiv (2 ^ s)=((n / 2 ^ s:Nat):Int):=by
 rw [Int.fdiv_eq_ediv_of_nonneg _ (by exact Int.le_of_lt (Int.pow_pos (by omega)))]
 simp
theorem shr7(n:Nat):(n:Int).fdiv (2 ^ min (Int.toNat 7) IntKind.u32.bits)=(q7 n:Int):=ZgL n 7
theorem Z4A(Γ:Env)(l:List UInt8)(v:Nat)(n:Nat)(hn:n<2 ^ 32)(hl:l.length+5≤BIG) :
  Z0a Tryz.prog Γ Tryz.f27 [.msl 0 v 0 l.length,.int .u32 n] [.row (l.map Z03) 1 v] (.msl 0 (v+1) 0 (l++enc n).length) [.row ((l++enc n).map Z03) 1 (v+1)]:=by
 (intro X hP hΓ hL hfin; refine⟨_,rfl,?_⟩; rw [show Tryz.f27.ntmps=20 from rfl]; rw [show Tryz.f27.results.toList=[.tmp 4] from rfl] at hfin; apply holds_of_ex X 400; simp only [push_cast,reduceCtorEq,Nat.reduceAdd,Nat.reduceMul,Nat.reduceSub,Nat.reduceBEq,Nat.reduceGT,Nat.reduceLT,Int.toNat_zero,Nat.reduceLeDiff,Int.reduceEq,Int.reduceLT,Int.reduceLE,hP,hΓ,hL,hfin])
 refine Holds.loop (ι:={ p:List UInt8×Nat // p.1++enc p.2=enc n∧p.2≤n }) (fun i=>([.msl 0 (v+1) 0 (l++i.1.1).length,.int .u32 i.1.2,.any,.any,.any,.any,.any,.any,.any,.any,.any,.any,.any,.any,.any,.any,.any,.any,.any,.any],[.row ((l++i.1.1).map Z03) 1 (v+1)])) (fun i=>i.1.2) ⟨([],n),by simp,Nat.le_refl _⟩ ?_ ?_
 ·rw [hL]
  (refine Z0k.ver 0  (v+1) (by simp only [push_cast,reduceCtorEq,Nat.reduceAdd,Nat.reduceMul,Nat.reduceSub,Nat.reduceBEq,Nat.reduceGT,Nat.reduceLT,Int.toNat_zero,Nat.reduceLeDiff,Int.reduceEq,Int.reduceLT,Int.reduceLE]) (by first | exact .inr (Nat.zero_le _) | (left; simp only [push_cast,reduceCtorEq,Nat.reduceAdd,Nat.reduceMul,Nat.reduceSub,Nat.reduceBEq,Nat.reduceGT,Nat.reduceLT,Int.toNat_zero,Nat.reduceLeDiff,Int.reduceEq,Int.reduceLT,Int.reduceLE]; first | done | omega) | (right; simp only [push_cast,reduceCtorEq,Nat.reduceAdd,Nat.reduceMul,Nat.reduceSub,Nat.reduceBEq,Nat.reduceGT,Nat.reduceLT,Int.toNat_zero,Nat.reduceLeDiff,Int.reduceEq,Int.reduceLT,Int.reduceLE]; first | done | omega)) ?_; simp only [push_cast,reduceCtorEq,Nat.reduceAdd,Nat.reduceMul,Nat.reduceSub,Nat.reduceBEq,Nat.reduceGT,Nat.reduceLT,Int.toNat_zero,Nat.reduceLeDiff,Int.reduceEq,Int.reduceLT,Int.reduceLE])
  exact Z06.sameA
 rintro⟨⟨p,n'⟩,hp,hle⟩
 simp only at hp hle
 have hlen:=Z2X 4 n (by omega)
 rw [←hp,List.length_append] at hlen
 ((first | with_reducible refine holds_of_ex X 400 _ _ _ ?_ | skip); simp only [push_cast,reduceCtorEq,Nat.reduceAdd,Nat.reduceMul,Nat.reduceSub,Nat.reduceBEq,Nat.reduceGT,Nat.reduceLT,Int.toNat_zero,Nat.reduceLeDiff,Int.reduceEq,Int.reduceLT,Int.reduceLE,hP,hΓ,hL,hfin])
 refine Z02 (fun h=>?_) (fun h=>?_)
 ·have hn':128≤n':=by have:=of_decide_eq_true h; omega
  have he:enc n'=hi7 n'::enc (q7 n'):=by rw [enc,if_neg (by omega)]
  have hq:(p++[hi7 n'])++enc (q7 n')=enc n:=by rw [←hp,he]; simp
  rw [he,List.length_cons] at hlen
  ((first | with_reducible refine holds_of_ex X 400 _ _ _ ?_ | skip); simp only [push_cast,reduceCtorEq,Nat.reduceAdd,Nat.reduceMul,Nat.reduceSub,Nat.reduceBEq,Nat.reduceGT,Nat.reduceLT,Int.toNat_zero,Nat.reduceLeDiff,Int.reduceEq,Int.reduceLT,Int.reduceLE,hP,hΓ,hL,hfin,ZhN,shr7])
  have hB:(BIG:Nat)=140737488355328:=rfl
  refine⟨by omega,⟨(p++[hi7 n'],q7 n'),hq,by simp only [q7]; omega⟩,by simp only [q7]; omega,?_⟩
  (refine Z0k.ver 0  (v+1) (by simp only [push_cast,reduceCtorEq,Nat.reduceAdd,Nat.reduceMul,Nat.reduceSub,Nat.reduceBEq,Nat.reduceGT,Nat.reduceLT,Int.toNat_zero,Nat.reduceLeDiff,Int.reduceEq,Int.reduceLT,Int.reduceLE]) (by first | exact .inr (Nat.zero_le _) | (left; simp only [push_cast,reduceCtorEq,Nat.reduceAdd,Nat.reduceMul,Nat.reduceSub,Nat.reduceBEq,Nat.reduceGT,Nat.reduceLT,Int.toNat_zero,Nat.reduceLeDiff,Int.reduceEq,Int.reduceLT,Int.reduceLE]; first | done | omega) | (right; simp only [push_cast,reduceCtorEq,Nat.reduceAdd,Nat.reduceMul,Nat.reduceSub,Nat.reduceBEq,Nat.reduceGT,Nat.reduceLT,Int.toNat_zero,Nat.reduceLeDiff,Int.reduceEq,Int.reduceLT,Int.reduceLE]; first | done | omega)) ?_; simp only [push_cast,reduceCtorEq,Nat.reduceAdd,Nat.reduceMul,Nat.reduceSub,Nat.reduceBEq,Nat.reduceGT,Nat.reduceLT,Int.toNat_zero,Nat.reduceLeDiff,Int.reduceEq,Int.reduceLT,Int.reduceLE])
  (try simp only [List.map_append,List.append_assoc,List.map_cons,List.map_nil,List.length_append,List.length_cons,List.length_nil,Z03,Nat.add_assoc,Nat.reduceAdd,Nat.zero_add,Nat.add_zero,List.append_nil,List.cons_append,List.nil_append])
  exact Z06.keep1A
 ·have hn':n'<128:=by have:=of_decide_eq_false h; omega
  have he:enc n'=[lo7 n']:=by rw [enc,if_pos hn']
  rw [he] at hlen hp
  simp only [List.length_cons,List.length_nil] at hlen
  ((first | with_reducible refine holds_of_ex X 400 _ _ _ ?_ | skip); simp only [push_cast,reduceCtorEq,Nat.reduceAdd,Nat.reduceMul,Nat.reduceSub,Nat.reduceBEq,Nat.reduceGT,Nat.reduceLT,Int.toNat_zero,Nat.reduceLeDiff,Int.reduceEq,Int.reduceLT,Int.reduceLE,hP,hΓ,hL,hfin,Z9d n' hn'])
  have hB:(BIG:Nat)=140737488355328:=rfl
  refine⟨by omega,?_⟩
  rw [←hp]
  (refine Z0k.ver 0  (v+1) (by simp only [push_cast,reduceCtorEq,Nat.reduceAdd,Nat.reduceMul,Nat.reduceSub,Nat.reduceBEq,Nat.reduceGT,Nat.reduceLT,Int.toNat_zero,Nat.reduceLeDiff,Int.reduceEq,Int.reduceLT,Int.reduceLE]) (by first | exact .inr (Nat.zero_le _) | (left; simp only [push_cast,reduceCtorEq,Nat.reduceAdd,Nat.reduceMul,Nat.reduceSub,Nat.reduceBEq,Nat.reduceGT,Nat.reduceLT,Int.toNat_zero,Nat.reduceLeDiff,Int.reduceEq,Int.reduceLT,Int.reduceLE]; first | done | omega) | (right; simp only [push_cast,reduceCtorEq,Nat.reduceAdd,Nat.reduceMul,Nat.reduceSub,Nat.reduceBEq,Nat.reduceGT,Nat.reduceLT,Int.toNat_zero,Nat.reduceLeDiff,Int.reduceEq,Int.reduceLT,Int.reduceLE]; first | done | omega)) ?_; simp only [push_cast,reduceCtorEq,Nat.reduceAdd,Nat.reduceMul,Nat.reduceSub,Nat.reduceBEq,Nat.reduceGT,Nat.reduceLT,Int.toNat_zero,Nat.reduceLeDiff,Int.reduceEq,Int.reduceLT,Int.reduceLE])
  (try simp only [List.map_append,List.append_assoc,List.map_cons,List.map_nil,List.length_append,List.length_cons,List.length_nil,Z03,Nat.add_assoc,Nat.reduceAdd,Nat.zero_add,Nat.add_zero,List.append_nil,List.cons_append,List.nil_append])
  exact Z06.keep1A
def Z7L(k:List AV→List UInt8)(p:List AV→Nat→Prop):ZfA where
 ids xs:=match xs with
  | .msl id _ _ _::_=>[id]
  | _=>[]
 args xs L:=match xs with
  | .msl id v o n::r=>.msl 0 v o n::r.map (Z49 L [id])
  | _=>[]
 start xs L:=match xs with
  | .msl id _ _ _::_=>(match L[id]? with | some o=>[o] | none=>[])
  | _=>[]
 pre xs L:=match xs,L with
  | .msl id v o n::r,[.row cs sz v']=>id=0∧o=0∧sz=1∧v'=v∧(∃l:List UInt8,cs=l.map Z03∧n=l.length)∧p r n
  | _,_=>False
 res xs L:=match xs with
  | .msl id v o n::r=>.msl 0 (v+1) 0 (n+(k r).length)
  | _=>.any
 post xs L:=match xs,L with
  | .msl id v o n::r,[.row cs sz v']=>[.row (cs++(k r).map Z03) 1 (v+1)]
  | _,_=>[]
theorem Z4V{Γ:Env}(h:Z07 Tryz.prog Γ){f:FuncId}{fn:Func}(hf:Tryz.prog.funcs[f]?=some fn)(hb:fn.body.isNone=false) (hn:(fn.name == "runtime.NumGoroutine")=false) {k:List AV→List UInt8} {p:List AV→Nat→Prop}
  (hh:∀(l:List UInt8) (v:Nat) (r:List AV),p r l.length→Z0a Tryz.prog Γ fn (.msl 0 v 0 l.length::r) [.row (l.map Z03) 1 v] (.msl 0 (v+1) 0 (l++k r).length) [.row ((l++k r).map Z03) 1 (v+1)]):Con Tryz.prog f (liftG (Z7L k p)):=by
 refine Con.liftG_of_body h hf hb hn fun xs L hx=>?_
 simp only [Z7L] at hx ⊢
 split at hx
 ·obtain⟨rfl,rfl,rfl,rfl,⟨l,rfl,rfl⟩,hp⟩:=hx
  rename_i r v
  have:=hh l v r hp
  rw [List.length_append,List.map_append] at this
  exact this
 ·exact hx.elim
def Zjy(r:List AV):List UInt8:=match r with
 | [.int _ x]=>enc x.toNat
 | _=>[]
def Zjx(r:List AV)(n:Nat):Prop:=match r with
 | [.int k x]=>k=.u32∧(∃m:Nat,x=m∧m<2 ^ 32)∧n+5≤BIG
 | _=>False
def ZaH:Z0n:=liftG (Z7L Zjy Zjx)
def m32(n:Nat):Nat:=n % 2 ^ 32
theorem Z29(n:Nat):IntKind.u32.wrap (n:Int)=(m32 n:Int):=by simp [IntKind.wrap,IntKind.bits,IntKind.signed,m32]
theorem con23{Γ:Env}(h:Z07 Tryz.prog Γ):Con Tryz.prog 27 ZaH:=by
 refine Z4V h (fn:=Tryz.f27) (by kernel_rfl) rfl (by kernel_rfl) fun l v r hp=>?_
 unfold Zjx at hp
 split at hp
 ·obtain⟨rfl,⟨m,rfl,hm⟩,hl⟩:=hp
  rw [show Zjy [.int .u32 ↑m]=enc m from rfl]
  exact Z4A Γ l v m hm hl
 ·exact hp.elim
def Ze9(r:List AV):List UInt8:=match r with
 | [.str s]=>enc (m32 s.length)++s
 | _=>[]
def Ze8(r:List AV)(n:Nat):Prop:=match r with
 | [.str s]=>n+5+s.length≤BIG
 | _=>False
def ZgD:Z0n:=liftG (Z7L Ze9 Ze8)
attribute [push_cast] ZaH ZgD Z7L Zjy Zjx Ze9 Ze8
theorem Z5R(Γ:Env)(h23:Γ 27=some ZaH)(l:List UInt8)(v:Nat)(s:List UInt8)(hl:l.length+5+s.length≤BIG) :
  Z0a Tryz.prog Γ Tryz.f55 [.msl 0 v 0 l.length,.str s] [.row (l.map Z03) 1 v] (.msl 0 (v+1) 0 (l++(enc (m32 s.length)++s)).length) [.row ((l++(enc (m32 s.length)++s)).map Z03) 1 (v+1)]:=by
 (intro X hP hΓ hL hfin; refine⟨_,rfl,?_⟩; rw [show Tryz.f55.ntmps=12 from rfl]; rw [show Tryz.f55.results.toList=[.tmp 4] from rfl] at hfin; apply holds_of_ex X 400; simp only [push_cast,reduceCtorEq,Nat.reduceAdd,Nat.reduceMul,Nat.reduceSub,Nat.reduceBEq,Nat.reduceGT,Nat.reduceLT,Int.toNat_zero,Nat.reduceLeDiff,Int.reduceEq,Int.reduceLT,Int.reduceLE,hP,hΓ,hL,hfin,h23,Z29])
 have hm:m32 s.length<2 ^ 32:=Nat.mod_lt _ (by omega)
 have he:=Z2X 4 _ (show m32 s.length<128 ^ 5 by omega)
 have hB:(BIG:Nat)=140737488355328:=rfl
 refine⟨⟨⟨l,rfl,rfl⟩,⟨_,rfl,hm⟩,by omega⟩,by omega,?_⟩
 (refine Z0k.ver 0  (v+1) (by simp only [push_cast,reduceCtorEq,Nat.reduceAdd,Nat.reduceMul,Nat.reduceSub,Nat.reduceBEq,Nat.reduceGT,Nat.reduceLT,Int.toNat_zero,Nat.reduceLeDiff,Int.reduceEq,Int.reduceLT,Int.reduceLE]) (by first | exact .inr (Nat.zero_le _) | (left; simp only [push_cast,reduceCtorEq,Nat.reduceAdd,Nat.reduceMul,Nat.reduceSub,Nat.reduceBEq,Nat.reduceGT,Nat.reduceLT,Int.toNat_zero,Nat.reduceLeDiff,Int.reduceEq,Int.reduceLT,Int.reduceLE]; first | done | omega) | (right; simp only [push_cast,reduceCtorEq,Nat.reduceAdd,Nat.reduceMul,Nat.reduceSub,Nat.reduceBEq,Nat.reduceGT,Nat.reduceLT,Int.toNat_zero,Nat.reduceLeDiff,Int.reduceEq,Int.reduceLT,Int.reduceLE]; first | done | omega)) ?_; simp only [push_cast,reduceCtorEq,Nat.reduceAdd,Nat.reduceMul,Nat.reduceSub,Nat.reduceBEq,Nat.reduceGT,Nat.reduceLT,Int.toNat_zero,Nat.reduceLeDiff,Int.reduceEq,Int.reduceLT,Int.reduceLE])
 (try simp only [List.map_append,List.append_assoc,List.map_cons,List.map_nil,List.length_append,List.length_cons,List.length_nil,Z03,Nat.add_assoc,Nat.reduceAdd,Nat.zero_add,Nat.add_zero,List.append_nil,List.cons_append,List.nil_append])
 exact Z06.keep1A
theorem con25{Γ:Env}(h:Z07 Tryz.prog Γ)(h23:Γ 27=some ZaH):Con Tryz.prog 55 ZgD:=by
 refine Z4V h (fn:=Tryz.f55) (by kernel_rfl) rfl (by kernel_rfl) fun l v r hp=>?_
 unfold Ze8 at hp
 split at hp
 ·rename_i s
  rw [show Ze9 [.str s]=enc (m32 s.length)++s from rfl]
  exact Z5R Γ h23 l v s hp
 ·exact hp.elim
def Z5v:Z0n:=Z57 (fun xs=>match xs with | [.sl cs n]=>(∃l:List UInt8,cs=l.map Z03∧n=l.length)∧n≤BIG | _=>False) (fun xs=>match xs with | [.sl _ n]=>.msl 0 0 0 n | _=>.any) (fun xs=>match xs with | [.sl cs _]=>[.row cs 1 0] | _=>[]) false
theorem con24{Γ:Env}(h:Z07 Tryz.prog Γ):Con Tryz.prog 28 Z5v:=by
 refine Con.of_body h (fn:=Tryz.f28) (by kernel_rfl) rfl (by kernel_rfl) (fun h=>by cases h) fun xs hx=>?_
 split at hx
 ·obtain⟨⟨l,rfl,rfl⟩,hl⟩:=hx
  exact ZaA Γ l hl
 ·exact hx.elim
def ZeL(p:List AV→Prop)(k:List AV→List UInt8):Z0n:=Z57 p (fun xs=>.msl 0 0 0 (k xs).length) (fun xs=>[.row ((k xs).map Z03) 1 0]) false
def Z1E(xs:List AV):List UInt8:=match xs with
 | [.sl cs _,.int _ x]=>Z0w cs++enc x.toNat
 | _=>[]
def Z1Z(xs:List AV):Prop:=match xs with
 | [.sl cs n,.int k x]=>(∃l:List UInt8,cs=l.map Z03∧n=l.length)∧n+5≤BIG∧k=.u32∧∃m:Nat,x=m∧m<2 ^ 32
 | _=>False
attribute [push_cast] Z5v ZeL Z1E Z1Z
theorem Z80(Γ:Env)(h23:Γ 27=some ZaH)(h24:Γ 28=some Z5v)(l:List UInt8)(n:Nat)(hn:n<2 ^ 32)(hl:l.length+5≤BIG) :
  Z0a Tryz.prog Γ Tryz.f11 [.sl (l.map Z03) l.length,.int .u32 n] [] (.msl 0 0 0 (l++enc n).length) [.row ((l++enc n).map Z03) 1 0]:=by
 (intro X hP hΓ hL hfin; refine⟨_,rfl,?_⟩; rw [show Tryz.f11.ntmps=9 from rfl]; rw [show Tryz.f11.results.toList=[.tmp 4] from rfl] at hfin; apply holds_of_ex X 400; simp only [push_cast,reduceCtorEq,Nat.reduceAdd,Nat.reduceMul,Nat.reduceSub,Nat.reduceBEq,Nat.reduceGT,Nat.reduceLT,Int.toNat_zero,Nat.reduceLeDiff,Int.reduceEq,Int.reduceLT,Int.reduceLE,hP,hΓ,hL,hfin,h23,h24])
 refine⟨⟨⟨l,rfl,rfl⟩,by omega⟩,⟨⟨l,rfl,rfl⟩,⟨n,rfl,hn⟩,hl⟩,?_⟩
 (refine Z0k.ver 0  0 (by simp only [push_cast,reduceCtorEq,Nat.reduceAdd,Nat.reduceMul,Nat.reduceSub,Nat.reduceBEq,Nat.reduceGT,Nat.reduceLT,Int.toNat_zero,Nat.reduceLeDiff,Int.reduceEq,Int.reduceLT,Int.reduceLE]) (by first | exact .inr (Nat.zero_le _) | (left; simp only [push_cast,reduceCtorEq,Nat.reduceAdd,Nat.reduceMul,Nat.reduceSub,Nat.reduceBEq,Nat.reduceGT,Nat.reduceLT,Int.toNat_zero,Nat.reduceLeDiff,Int.reduceEq,Int.reduceLT,Int.reduceLE]; first | done | omega) | (right; simp only [push_cast,reduceCtorEq,Nat.reduceAdd,Nat.reduceMul,Nat.reduceSub,Nat.reduceBEq,Nat.reduceGT,Nat.reduceLT,Int.toNat_zero,Nat.reduceLeDiff,Int.reduceEq,Int.reduceLT,Int.reduceLE]; first | done | omega)) ?_; simp only [push_cast,reduceCtorEq,Nat.reduceAdd,Nat.reduceMul,Nat.reduceSub,Nat.reduceBEq,Nat.reduceGT,Nat.reduceLT,Int.toNat_zero,Nat.reduceLeDiff,Int.reduceEq,Int.reduceLT,Int.reduceLE])
 (try simp only [List.map_append,List.append_assoc,List.map_cons,List.map_nil,List.length_append,List.length_cons,List.length_nil,Z03,Nat.add_assoc,Nat.reduceAdd,Nat.zero_add,Nat.add_zero,List.append_nil,List.cons_append,List.nil_append])
 exact Z06.sameA
theorem Z4w(n m:Nat):(n:Int).tmod m=((n % m:Nat):Int):=by
 exact (Int.ofNat_tmod n m).symm
theorem Z7m(n:Nat):IntKind.u8.wrap (IntKind.u32.wrap ((n:Int).tmod 128+128))=((hi7 n).toNat:Int):=by
 rw [show (128:Int)=((128:Nat):Int) from rfl,Z4w,←Int.natCast_add,Z29,Z5K,hi7,m32]
 simp
theorem Zif(n:Nat)(h:n<2 ^ 32):IntKind.u32.wrap ((n:Int).tdiv 128)=(q7 n:Int):=by
 rw [show (128:Int)=((128:Nat):Int) from rfl,show (n:Int).tdiv ((128:Nat):Int)=((n / 128:Nat):Int) from rfl,Z29,q7,m32]
 congr 1; omega
def newQ(p:List AV→Prop)(k:List AV→List UInt8):Z0n:=Z57 p (fun xs=>.sl ((k xs).map Z03) (k xs).length) (fun _=>[]) true
def Zez(xs:List AV):List UInt8:=match xs with
 | [.sl cs _,.str s]=>Z0w cs++(enc (m32 s.length)++s)
 | _=>[]
def Zey(xs:List AV):Prop:=match xs with
 | [.sl cs n,.str s]=>(∃l:List UInt8,cs=l.map Z03∧n=l.length)∧n+5+s.length≤BIG
 | _=>False
attribute [push_cast] newQ Zez Zey
theorem Zk4{Γ:Env}{fn:Func}{xs:List AV}{l:List UInt8}(h:Z0a Tryz.prog Γ fn xs [] (.msl 0 0 0 l.length) [.row (l.map Z03) 1 0]):Z0a Tryz.prog Γ fn xs [] (.sl (l.map Z03) l.length) []:=by
 refine Z0a.weak h ?_
 (refine Z0k.frz 0 (by simp only [push_cast,reduceCtorEq,Nat.reduceAdd,Nat.reduceMul,Nat.reduceSub,Nat.reduceBEq,Nat.reduceGT,Nat.reduceLT,Int.toNat_zero,Nat.reduceLeDiff,Int.reduceEq,Int.reduceLT,Int.reduceLE]; first | done | decide | omega) (by simp only [Z15,Z28,Z27,or_true,true_or,push_cast,reduceCtorEq,Nat.reduceAdd,Nat.reduceMul,Nat.reduceSub,Nat.reduceBEq,Nat.reduceGT,Nat.reduceLT,Int.toNat_zero,Nat.reduceLeDiff,Int.reduceEq,Int.reduceLT,Int.reduceLE]) ?_; simp only [push_cast,reduceCtorEq,Nat.reduceAdd,Nat.reduceMul,Nat.reduceSub,Nat.reduceBEq,Nat.reduceGT,Nat.reduceLT,Int.toNat_zero,Nat.reduceLeDiff,Int.reduceEq,Int.reduceLT,Int.reduceLE])
 rw [List.take_of_length_le (by simp)]
 exact Z06.keep0 (Z0d _) (by simp only [push_cast,reduceCtorEq,Nat.reduceAdd,Nat.reduceMul,Nat.reduceSub,Nat.reduceBEq,Nat.reduceGT,Nat.reduceLT,Int.toNat_zero,Nat.reduceLeDiff,Int.reduceEq,Int.reduceLT,Int.reduceLE]) rfl (Nat.le_refl _)
theorem Zfr{Γ:Env}(h:Z07 Tryz.prog Γ){f:FuncId}{fn:Func}(hf:Tryz.prog.funcs[f]?=some fn)(hb:fn.body.isNone=false) (hn:(fn.name == "runtime.NumGoroutine")=false)
  (hh:∀(l:List UInt8) (n:Nat),n<2 ^ 32→l.length+5≤BIG→Z0a Tryz.prog Γ fn [.sl (l.map Z03) l.length,.int .u32 n] [] (.msl 0 0 0 (l++enc n).length) [.row ((l++enc n).map Z03) 1 0]) :
  Con Tryz.prog f (ZeL Z1Z Z1E)∧Con Tryz.prog f (newQ Z1Z Z1E):=by
 constructor
 ·refine Con.of_body h hf hb hn (fun h=>by cases h) fun xs hx=>?_
  unfold Z1Z at hx
  split at hx
  ·obtain⟨⟨l,rfl,rfl⟩,hl,rfl,m,rfl,hm⟩:=hx
   rw [show Z1E [.sl (l.map Z03) l.length,.int .u32 ↑m]=l++enc m by simp only [Z1E,Z12,Int.toNat_natCast]]
   exact hh l m hm hl
  ·exact hx.elim
 ·refine Con.of_body h hf hb hn (fun _ _=>rfl) fun xs hx=>?_
  unfold Z1Z at hx
  split at hx
  ·obtain⟨⟨l,rfl,rfl⟩,hl,rfl,m,rfl,hm⟩:=hx
   rw [show Z1E [.sl (l.map Z03) l.length,.int .u32 ↑m]=l++enc m by simp only [Z1E,Z12,Int.toNat_natCast]]
   exact Zk4 (hh l m hm hl)
  ·exact hx.elim
theorem con8{Γ:Env}(h:Z07 Tryz.prog Γ)(h23:Γ 27=some ZaH)(h24:Γ 28=some Z5v):Con Tryz.prog 11 (ZeL Z1Z Z1E):=
 (Zfr h (fn:=Tryz.f11) (by kernel_rfl) rfl (by kernel_rfl) fun l n hn hl=>Z80 Γ h23 h24 l n hn hl).1
end Go.Proofs.YtmomhjmaanagaaaGreat.objNumbersDone