/- Of objects: how the document lays numbers, texts, words, and sums bytes. Conditions stand in each. -/
import Derived.Test.YtmomhjmaanagaaaGreatPC
import Derived.Test.YtmomhjmaanagaaaGreatOY
set_option linter.unusedVariables false
set_option linter.unusedSimpArgs false
set_option maxRecDepth 100000
set_option maxHeartbeats 4000000
namespace Go.Proofs.YtmomhjmaanagaaaGreat.objDone
open Go Go.Eng Go.Proofs
open Go.Proofs.YtmomhjmaanagaaaGreat.objNumbersDone (enc hi7 lo7 q7 Z2X m32 BIG Z7L Z4V Z9d Z7m Zif Z4w Z29 Z5K)
def e72:(Int)→List AV:=fun x=>[.int .i64 x]
def p72:Nat→(Int)→Prop:=fun n x=>n+5≤BIG
def k72:(Int)→List UInt8:=fun x=>num x
theorem inj72:∀a b,e72 a=e72 b→a=b:=by
 rintro x x' h
 simp only [e72,Z0f,Z0h,Z0i,Z0g,Z0u,Z0F,Z0E,Z0z,Z0G,Z0D,Z0C,Z0J,List.cons.injEq,AV.int.injEq,AV.str.injEq,AV.bool.injEq,AV.sl.injEq,AV.agg.injEq,AV.ip.injEq,AV.fn.injEq,AV.ifc.injEq,AV.mpr.injEq,Int.natCast_inj,and_true,true_and] at h
 simp_all only
noncomputable def S72:Z0n:=Z6B e72 p72 k72
theorem ps72(n:Nat)(x:(Int)):Z1J e72 (p72 n) [.int .i64 x]=(n+5≤BIG):=Z0j inj72 (p72 n) x
theorem ks72(x:(Int)):Z10 e72 k72 [] [.int .i64 x]=(num x):=Z08 inj72 k72 [] x
attribute [push_cast] S72 ps72 ks72
theorem body72(Γ:Env)(l:List UInt8)(v:Nat)(x:Int)(hl:l.length+5≤BIG):Z0a Tryz.prog Γ Tryz.f93 (.msl 0 v 0 l.length::e72 x) [.row (l.map Z03) 1 v] (.msl 0 (v+1) 0 (l++k72 x).length) [.row ((l++k72 x).map Z03) 1 (v+1)]:=by
 have hB:(BIG:Nat)=140737488355328:=rfl
 obtain⟨n,hn⟩:∃n,u32 x=n:=⟨_,rfl⟩
 have hk:k72 x=enc n:=by rw [←hn]; rfl
 have hu:n<2 ^ 32:=by rw [←hn]; exact Z3e x
 rw [hk]
 (intro X hP hΓ hL hfin; refine⟨_,rfl,?_⟩; rw [show Tryz.f93.ntmps=24 from rfl]; rw [show Tryz.f93.results.toList=[.tmp 4] from rfl] at hfin; apply holds_of_ex X 400; simp (maxSteps:=1000000) only [push_cast,reduceCtorEq,Nat.reduceAdd,Nat.reduceMul,Nat.reduceSub,Nat.reduceBEq,Nat.reduceGT,Nat.reduceLT,Int.toNat_zero,Nat.reduceLeDiff,Int.reduceEq,Int.reduceLT,Int.reduceLE,hP,hΓ,hL,hfin,↓Z00,e72,Z7O,hn])
 refine Holds.loopM (ι:={p:List UInt8×Nat // p.1++enc p.2=enc n∧p.2≤n}) [false,false,false,false,true,false,false,false,false,false,false,false,false,false,false,false,false,false,false,false,false,false,false,false] (fun i=>[(0,.msl 0 (v+1) 0 (l++i.1.1).length),(5,.int .u32 i.1.2)]) (fun i=>[.row ((l++i.1.1).map Z03) 1 (v+1)]) (fun i=>i.1.2) ⟨([],n),by simp,Nat.le_refl _⟩ ?_ ?_
 ·rw [hL]
  simp only [List.append_nil]
  (refine Z0k.ver 0  (v+1) (by simp only [push_cast,reduceCtorEq,Nat.reduceAdd,Nat.reduceMul,Nat.reduceSub,Nat.reduceBEq,Nat.reduceGT,Nat.reduceLT,Int.toNat_zero,Nat.reduceLeDiff,Int.reduceEq,Int.reduceLT,Int.reduceLE]) (by first | exact .inr (Nat.zero_le _) | (left; simp only [push_cast,reduceCtorEq,Nat.reduceAdd,Nat.reduceMul,Nat.reduceSub,Nat.reduceBEq,Nat.reduceGT,Nat.reduceLT,Int.toNat_zero,Nat.reduceLeDiff,Int.reduceEq,Int.reduceLT,Int.reduceLE]; first | done | omega) | (right; simp only [push_cast,reduceCtorEq,Nat.reduceAdd,Nat.reduceMul,Nat.reduceSub,Nat.reduceBEq,Nat.reduceGT,Nat.reduceLT,Int.toNat_zero,Nat.reduceLeDiff,Int.reduceEq,Int.reduceLT,Int.reduceLE]; first | done | omega)) ?_; simp only [push_cast,reduceCtorEq,Nat.reduceAdd,Nat.reduceMul,Nat.reduceSub,Nat.reduceBEq,Nat.reduceGT,Nat.reduceLT,Int.toNat_zero,Nat.reduceLeDiff,Int.reduceEq,Int.reduceLT,Int.reduceLE])
  exact Z06.sameA
 rintro⟨⟨p,n'⟩,hp,hle⟩
 simp only at hp hle
 have hlen:=Z2X 4 n (by omega)
 rw [←hp,List.length_append] at hlen
 ((first | with_reducible refine holds_of_ex X 400 _ _ _ ?_ | skip); simp (maxSteps:=1000000) only [push_cast,reduceCtorEq,Nat.reduceAdd,Nat.reduceMul,Nat.reduceSub,Nat.reduceBEq,Nat.reduceGT,Nat.reduceLT,Int.toNat_zero,Nat.reduceLeDiff,Int.reduceEq,Int.reduceLT,Int.reduceLE,hP,hΓ,hL,hfin,↓Z00])
 refine Z02 (fun h=>?_) (fun h=>?_)
 ·have hn':128≤n':=by have:=of_decide_eq_true h; omega
  have he:enc n'=hi7 n'::enc (q7 n'):=by rw [enc,if_neg (by omega)]
  have hq:(p++[hi7 n'])++enc (q7 n')=enc n:=by rw [←hp,he]; simp
  rw [he,List.length_cons] at hlen
  have r1:=Z7m n'
  rw [Z7O,Z7N] at r1
  ((first | with_reducible refine holds_of_ex X 400 _ _ _ ?_ | skip); simp (maxSteps:=1000000) only [push_cast,reduceCtorEq,Nat.reduceAdd,Nat.reduceMul,Nat.reduceSub,Nat.reduceBEq,Nat.reduceGT,Nat.reduceLT,Int.toNat_zero,Nat.reduceLeDiff,Int.reduceEq,Int.reduceLT,Int.reduceLE,hP,hΓ,hL,hfin,↓Z00,Z7m,Zif n' (by omega)])
  refine⟨by omega,⟨(p++[hi7 n'],q7 n'),hq,by simp only [q7]; omega⟩,by simp only [q7]; omega,?_⟩
  (refine Z0k.ver 0  (v+1) (by simp only [push_cast,reduceCtorEq,Nat.reduceAdd,Nat.reduceMul,Nat.reduceSub,Nat.reduceBEq,Nat.reduceGT,Nat.reduceLT,Int.toNat_zero,Nat.reduceLeDiff,Int.reduceEq,Int.reduceLT,Int.reduceLE]) (by first | exact .inr (Nat.zero_le _) | (left; simp only [push_cast,reduceCtorEq,Nat.reduceAdd,Nat.reduceMul,Nat.reduceSub,Nat.reduceBEq,Nat.reduceGT,Nat.reduceLT,Int.toNat_zero,Nat.reduceLeDiff,Int.reduceEq,Int.reduceLT,Int.reduceLE]; first | done | omega) | (right; simp only [push_cast,reduceCtorEq,Nat.reduceAdd,Nat.reduceMul,Nat.reduceSub,Nat.reduceBEq,Nat.reduceGT,Nat.reduceLT,Int.toNat_zero,Nat.reduceLeDiff,Int.reduceEq,Int.reduceLT,Int.reduceLE]; first | done | omega)) ?_; simp only [push_cast,reduceCtorEq,Nat.reduceAdd,Nat.reduceMul,Nat.reduceSub,Nat.reduceBEq,Nat.reduceGT,Nat.reduceLT,Int.toNat_zero,Nat.reduceLeDiff,Int.reduceEq,Int.reduceLT,Int.reduceLE])
  (try simp only [List.map_append,List.append_assoc,List.map_cons,List.map_nil,List.length_append,List.length_cons,List.length_nil,Z03,Nat.add_assoc,Nat.reduceAdd,Nat.zero_add,Nat.add_zero,List.append_nil,List.cons_append,List.nil_append])
  exact Z06.keep1A
 ·have hn':n'<128:=by have:=of_decide_eq_false h; omega
  have he:enc n'=[lo7 n']:=by rw [enc,if_pos hn']
  rw [he] at hlen hp
  simp only [List.length_cons,List.length_nil] at hlen
  ((first | with_reducible refine holds_of_ex X 400 _ _ _ ?_ | skip); simp (maxSteps:=1000000) only [push_cast,reduceCtorEq,Nat.reduceAdd,Nat.reduceMul,Nat.reduceSub,Nat.reduceBEq,Nat.reduceGT,Nat.reduceLT,Int.toNat_zero,Nat.reduceLeDiff,Int.reduceEq,Int.reduceLT,Int.reduceLE,hP,hΓ,hL,hfin,↓Z00,Z9d n' hn'])
  refine⟨by omega,?_⟩
  rw [←hp]
  (refine Z0k.ver 0  (v+1) (by simp only [push_cast,reduceCtorEq,Nat.reduceAdd,Nat.reduceMul,Nat.reduceSub,Nat.reduceBEq,Nat.reduceGT,Nat.reduceLT,Int.toNat_zero,Nat.reduceLeDiff,Int.reduceEq,Int.reduceLT,Int.reduceLE]) (by first | exact .inr (Nat.zero_le _) | (left; simp only [push_cast,reduceCtorEq,Nat.reduceAdd,Nat.reduceMul,Nat.reduceSub,Nat.reduceBEq,Nat.reduceGT,Nat.reduceLT,Int.toNat_zero,Nat.reduceLeDiff,Int.reduceEq,Int.reduceLT,Int.reduceLE]; first | done | omega) | (right; simp only [push_cast,reduceCtorEq,Nat.reduceAdd,Nat.reduceMul,Nat.reduceSub,Nat.reduceBEq,Nat.reduceGT,Nat.reduceLT,Int.toNat_zero,Nat.reduceLeDiff,Int.reduceEq,Int.reduceLT,Int.reduceLE]; first | done | omega)) ?_; simp only [push_cast,reduceCtorEq,Nat.reduceAdd,Nat.reduceMul,Nat.reduceSub,Nat.reduceBEq,Nat.reduceGT,Nat.reduceLT,Int.toNat_zero,Nat.reduceLeDiff,Int.reduceEq,Int.reduceLT,Int.reduceLE])
  (try simp only [List.map_append,List.append_assoc,List.map_cons,List.map_nil,List.length_append,List.length_cons,List.length_nil,Z03,Nat.add_assoc,Nat.reduceAdd,Nat.zero_add,Nat.add_zero,List.append_nil,List.cons_append,List.nil_append])
  exact Z06.keep1A
theorem con72{Γ:Env}(h:Z07 Tryz.prog Γ):Con Tryz.prog 93 S72:=
 Z1f h (fn:=Tryz.f93) (by kernel_rfl) rfl (by kernel_rfl) inj72 fun x l v h=>body72 Γ l v x h
theorem Zfw(n k:Nat):by8 ((n:Int).fdiv ((256 ^ k:Nat):Int))=UInt8.ofNat (n / 256 ^ k % 256):=by
 rw [by8,Int.fdiv_eq_ediv_of_nonneg _ (Int.natCast_nonneg _),show ((n:Int) / ((256 ^ k:Nat):Int))=((n / 256 ^ k:Nat):Int) from rfl]
 congr 1
theorem Zhh(n:Nat):le4 n=(List.range 4).map fun k=>UInt8.ofNat (n / 256 ^ k % 256):=by
 have h0:=Zfw n 0; have h1:=Zfw n 1; have h2:=Zfw n 2; have h3:=Zfw n 3
 simp only [Nat.pow_zero,Nat.pow_one,Nat.reducePow] at h0 h1 h2 h3
 simp only [le4,List.range,List.range.loop,List.map_cons,List.map_nil,Nat.pow_zero,Nat.pow_one,Nat.reducePow]
 rw [←h0,←h1,←h2,←h3]
 congr 2
 simp [by8,Int.fdiv_one]
def wq(n k:Nat):Nat:=n / 256 ^ k
theorem Zgw(n k:Nat)(h:n<2 ^ 32):IntKind.u32.wrap ((wq n k:Int).tdiv 256)=(wq n (k+1):Int):=by
 rw [show ((wq n k:Int).tdiv 256)=((wq n k / 256:Nat):Int) from rfl,Z29,m32]
 have e:wq n k / 256=wq n (k+1):=by rw [wq,wq,Nat.div_div_eq_div_mul,←Nat.pow_succ]
 rw [e]
 congr 1
 exact Nat.mod_eq_of_lt (Nat.lt_of_le_of_lt (Nat.div_le_self _ _) h)
theorem Zgx(n k:Nat)(hk:k<4):IntKind.u8.wrap ((wq n k:Int).tmod 256)=(((le4 n).getD k 0).toNat:Int):=by
 rw [show (256:Int)=((256:Nat):Int) from rfl,Z4w,Z5K,Zhh]
 have:((List.range 4).map fun k=>UInt8.ofNat (n / 256 ^ k % 256)).getD k 0=UInt8.ofNat (n / 256 ^ k % 256):=by simp [List.getD,hk]
 rw [this,wq]
 simp
def e99:(Nat)→List AV:=fun n=>[.int .u32 (n:Int)]
def p99:(Nat)→Prop:=fun n=>n<2 ^ 32
def r99:(Nat)→AV:=fun n=>.sl ((le4 n).map Z03) 4
def g99:(Nat)→Heap:=fun n=>[]
theorem inj99:∀a b,e99 a=e99 b→a=b:=by
 rintro n n' h
 simp only [e99,Z0f,Z0h,Z0i,Z0g,Z0u,Z0F,Z0E,Z0z,Z0G,Z0D,Z0C,Z0J,List.cons.injEq,AV.int.injEq,AV.str.injEq,AV.bool.injEq,AV.sl.injEq,AV.agg.injEq,AV.ip.injEq,AV.fn.injEq,AV.ifc.injEq,AV.mpr.injEq,Int.natCast_inj,and_true,true_and] at h
 simp_all only
noncomputable def S99:Z0n:=Z2V e99 p99 r99 g99 true
theorem ps99(n:(Nat)):Z1J e99 p99 [.int .u32 (n:Int)]=(n<2 ^ 32):=Z0j inj99 p99 n
theorem rs99(n:(Nat)):Z10 e99 r99 .any [.int .u32 (n:Int)]=(.sl ((le4 n).map Z03) 4):=Z08 inj99 r99 .any n
theorem hs99(n:(Nat)):Z10 e99 g99 [] [.int .u32 (n:Int)]=([]):=Z08 inj99 g99 [] n
attribute [push_cast] S99 ps99 rs99 hs99
theorem body99(Γ:Env)(n:Nat)(hn:n<2 ^ 32):Z0a Tryz.prog Γ Tryz.f102 (e99 n) [] (.sl ((le4 n).map Z03) 4) []:=by
 have hl4:(le4 n).length=4:=rfl
 (intro X hP hΓ hL hfin; refine⟨_,rfl,?_⟩; rw [show Tryz.f102.ntmps=18 from rfl]; rw [show Tryz.f102.results.toList=[.tmp 2] from rfl] at hfin; apply holds_of_ex X 400; simp (maxSteps:=1000000) only [push_cast,reduceCtorEq,Nat.reduceAdd,Nat.reduceMul,Nat.reduceSub,Nat.reduceBEq,Nat.reduceGT,Nat.reduceLT,Int.toNat_zero,Nat.reduceLeDiff,Int.reduceEq,Int.reduceLT,Int.reduceLE,hP,hΓ,hL,hfin,↓Z00,e99])
 refine Holds.loopM (ι:={k:Nat // k≤4}) [false,false,true,false,false,false,false,false,false,false,false,false,false,false,false,false,false,false] (fun i=>[(0,.int .u32 (wq n i.1)),(3,.msl 0 0 0 i.1),(4,.int .i64 i.1)]) (fun i=>[.row (((le4 n).take i.1).map Z03) 1 0]) (fun i=>4 - i.1) ⟨0,Nat.zero_le _⟩ ?_ ?_
 ·rw [hL]
  (refine Z0k.nil 3  1 rfl ?_; simp only [push_cast,reduceCtorEq,Nat.reduceAdd,Nat.reduceMul,Nat.reduceSub,Nat.reduceBEq,Nat.reduceGT,Nat.reduceLT,Int.toNat_zero,Nat.reduceLeDiff,Int.reduceEq,Int.reduceLT,Int.reduceLE])
  rw [show (n:Int)=(wq n 0:Int) by simp [wq]]
  exact Z06.sameA
 rintro⟨k,hk⟩
 ((first | with_reducible refine holds_of_ex X 400 _ _ _ ?_ | skip); simp (maxSteps:=1000000) only [push_cast,reduceCtorEq,Nat.reduceAdd,Nat.reduceMul,Nat.reduceSub,Nat.reduceBEq,Nat.reduceGT,Nat.reduceLT,Int.toNat_zero,Nat.reduceLeDiff,Int.reduceEq,Int.reduceLT,Int.reduceLE,hP,hΓ,hL,hfin,↓Z00])
 ((with_reducible refine Z02 (fun h=>?_) (fun h=>?_)) <;> (try simp only [decide_eq_true_eq,decide_eq_false_iff_not,Bool.and_eq_true,Bool.or_eq_true,Bool.and_eq_false_iff,Bool.or_eq_false_iff,Bool.not_eq_true',Bool.not_eq_false',Bool.not_eq_true,Bool.not_eq_false,Int.not_lt,Int.not_le,beq_iff_eq,beq_eq_false_iff_ne,ne_eq,win_t,win_f] at h))
 ·have hk':k<4:=by omega
  ((first | with_reducible refine holds_of_ex X 400 _ _ _ ?_ | skip); simp (maxSteps:=1000000) only [push_cast,reduceCtorEq,Nat.reduceAdd,Nat.reduceMul,Nat.reduceSub,Nat.reduceBEq,Nat.reduceGT,Nat.reduceLT,Int.toNat_zero,Nat.reduceLeDiff,Int.reduceEq,Int.reduceLT,Int.reduceLE,hP,hΓ,hL,hfin,↓Z00,Z0c ((k:Int)+1) (by constructor <;> omega),Zgw n k hn,Zgx n k hk'])
  have e:List.map Z03 (List.take k (le4 n))++[AV.int .u8 (((le4 n).getD k 0).toNat:Int)]=(List.take (k+1) (le4 n)).map Z03:=by
   rw [List.take_add_one,List.map_append]
   congr 1
   simp [List.getD,hl4,hk',Z03]
  rw [e]
  refine⟨⟨by rw [hl4]; omega,by omega⟩,⟨k+1,hk'⟩,by simp only; omega,?_⟩
  (refine Z0k.ver 0  0 (by simp only [push_cast,reduceCtorEq,Nat.reduceAdd,Nat.reduceMul,Nat.reduceSub,Nat.reduceBEq,Nat.reduceGT,Nat.reduceLT,Int.toNat_zero,Nat.reduceLeDiff,Int.reduceEq,Int.reduceLT,Int.reduceLE]) (by first | exact .inr (Nat.zero_le _) | (left; simp only [push_cast,reduceCtorEq,Nat.reduceAdd,Nat.reduceMul,Nat.reduceSub,Nat.reduceBEq,Nat.reduceGT,Nat.reduceLT,Int.toNat_zero,Nat.reduceLeDiff,Int.reduceEq,Int.reduceLT,Int.reduceLE]; first | done | omega) | (right; simp only [push_cast,reduceCtorEq,Nat.reduceAdd,Nat.reduceMul,Nat.reduceSub,Nat.reduceBEq,Nat.reduceGT,Nat.reduceLT,Int.toNat_zero,Nat.reduceLeDiff,Int.reduceEq,Int.reduceLT,Int.reduceLE]; first | done | omega)) ?_; simp only [push_cast,reduceCtorEq,Nat.reduceAdd,Nat.reduceMul,Nat.reduceSub,Nat.reduceBEq,Nat.reduceGT,Nat.reduceLT,Int.toNat_zero,Nat.reduceLeDiff,Int.reduceEq,Int.reduceLT,Int.reduceLE])
  exact Z06.keep1A
 obtain rfl:k=4:=by omega
 ((first | with_reducible refine holds_of_ex X 400 _ _ _ ?_ | skip); simp (maxSteps:=1000000) only [push_cast,reduceCtorEq,Nat.reduceAdd,Nat.reduceMul,Nat.reduceSub,Nat.reduceBEq,Nat.reduceGT,Nat.reduceLT,Int.toNat_zero,Nat.reduceLeDiff,Int.reduceEq,Int.reduceLT,Int.reduceLE,hP,hΓ,hL,hfin,↓Z00])
 rw [show List.take 4 (le4 n)=le4 n from rfl]
 (refine Z0k.frz 0 (by simp only [push_cast,reduceCtorEq,Nat.reduceAdd,Nat.reduceMul,Nat.reduceSub,Nat.reduceBEq,Nat.reduceGT,Nat.reduceLT,Int.toNat_zero,Nat.reduceLeDiff,Int.reduceEq,Int.reduceLT,Int.reduceLE]; first | done | decide | omega) (by simp only [Z15,Z28,Z27,or_true,true_or,push_cast,reduceCtorEq,Nat.reduceAdd,Nat.reduceMul,Nat.reduceSub,Nat.reduceBEq,Nat.reduceGT,Nat.reduceLT,Int.toNat_zero,Nat.reduceLeDiff,Int.reduceEq,Int.reduceLT,Int.reduceLE]) ?_; simp only [push_cast,reduceCtorEq,Nat.reduceAdd,Nat.reduceMul,Nat.reduceSub,Nat.reduceBEq,Nat.reduceGT,Nat.reduceLT,Int.toNat_zero,Nat.reduceLeDiff,Int.reduceEq,Int.reduceLT,Int.reduceLE])
 rw [List.take_of_length_le (by simp [hl4])]
 exact Z06.keep0A
theorem con99{Γ:Env}(h:Z07 Tryz.prog Γ):Con Tryz.prog 102 S99:=
 Z0t h (fn:=Tryz.f102) (by kernel_rfl) rfl (by kernel_rfl) inj99 (by first | (intro h; cases h; done) | exact fun _ _=>rfl) fun n h=>body99 Γ n h
theorem ZaL(h c:Nat)(hc:c<256):h ^^^ c=h / 256*256+(h % 256 ^^^ c):=by
 have h1:(h ^^^ c) / 256=h / 256:=by
  rw [show 256=2 ^ 8 from rfl,Nat.xor_div_two_pow,Nat.div_eq_of_lt (show c<2 ^ 8 from hc),Nat.xor_zero]
 have h2:(h ^^^ c) % 256=(h % 256 ^^^ c):=by
  rw [show 256=2 ^ 8 from rfl,Nat.xor_mod_two_pow,Nat.mod_eq_of_lt (show c<2 ^ 8 from hc)]
 rw [←h1,←h2]
 exact (Nat.div_add_mod' (h ^^^ c) 256).symm
theorem ix32(a b:Nat)(ha:a<2 ^ 32)(hb:b<2 ^ 32):Z2x .xor .u32 (a:Int) (b:Int)=((a ^^^ b:Nat):Int):=by
 have h:=Nat.xor_lt_two_pow ha hb
 have e:(BitVec.ofInt 32 (a:Int) ^^^ BitVec.ofInt 32 (b:Int)).toNat=a ^^^ b:=by
  rw [BitVec.toNat_xor,show BitVec.ofInt 32 (a:Int)=BitVec.ofNat 32 a by simp,show BitVec.ofInt 32 (b:Int)=BitVec.ofNat 32 b by simp,BitVec.toNat_ofNat,BitVec.toNat_ofNat,Nat.mod_eq_of_lt ha,Nat.mod_eq_of_lt hb]
 show IntKind.u32.wrap ((BitVec.ofInt 32 (a:Int) ^^^ BitVec.ofInt 32 (b:Int)).toNat:Int)=_
 rw [e,Z29,m32,Nat.mod_eq_of_lt h]
theorem Z6C(n:Nat)(h:n<2 ^ 64):IntKind.u64.wrap (n:Int)=n:=by
 simp [IntKind.wrap,IntKind.bits,IntKind.signed]; omega
theorem ix64(a b:Nat)(ha:a<2 ^ 64)(hb:b<2 ^ 64):Z2x .xor .u64 (a:Int) (b:Int)=((a ^^^ b:Nat):Int):=by
 have h:=Nat.xor_lt_two_pow ha hb
 have e:(BitVec.ofInt 64 (a:Int) ^^^ BitVec.ofInt 64 (b:Int)).toNat=a ^^^ b:=by
  rw [BitVec.toNat_xor,show BitVec.ofInt 64 (a:Int)=BitVec.ofNat 64 a by simp,show BitVec.ofInt 64 (b:Int)=BitVec.ofNat 64 b by simp,BitVec.toNat_ofNat,BitVec.toNat_ofNat,Nat.mod_eq_of_lt ha,Nat.mod_eq_of_lt hb]
 show IntKind.u64.wrap ((BitVec.ofInt 64 (a:Int) ^^^ BitVec.ofInt 64 (b:Int)).toNat:Int)=_
 rw [e,Z6C _ h]
def stN(h:Nat)(c:UInt8):Nat:=(h ^^^ c.toNat)*16777619 % 4294967296
theorem stS_nat(h:Nat)(hh:h<2 ^ 32)(c:UInt8):stS (h:Int) c=(stN h c:Int):=by
 rw [stS,ix32 h c.toNat hh (by have:=c.toNat_lt; omega),show (((h ^^^ c.toNat:Nat):Int)*16777619)=(((h ^^^ c.toNat)*16777619:Nat):Int) by simp,Z29,m32,stN]
def sumN(l:Z04):Nat:=l.foldl stN 2166136261
theorem stN_lt(h:Nat)(c:UInt8):stN h c<2 ^ 32:=Nat.mod_lt _ (by decide)
theorem Z8J(l:Z04):sumN l<2 ^ 32:=by
 have:∀(l:Z04) (h:Nat),h<2 ^ 32→l.foldl stN h<2 ^ 32:=by
  intro l
  induction l with
  | nil=>intro h hh; exact hh
  | cons c l ih=>intro h _; exact ih _ (stN_lt h c)
 exact this l _ (by decide)
theorem Z9n(l:Z04):Z4Y l=(sumN l:Int):=by
 have:∀(l:Z04) (h:Nat),h<2 ^ 32→l.foldl stS (h:Int)=((l.foldl stN h:Nat):Int):=by
  intro l
  induction l with
  | nil=>intro h _; rfl
  | cons c l ih=>intro h hh; rw [List.foldl_cons,List.foldl_cons,stS_nat h hh,ih _ (stN_lt h c)]
 exact this l 2166136261 (by decide)
theorem ZaV(l:Z04)(k:Nat)(h:k<l.length):sumN (l.take (k+1))=stN (sumN (l.take k)) (l.getD k 0):=by
 have e:l.take (k+1)=l.take k++[l.getD k 0]:=by rw [List.take_add_one]; simp [List.getD,h]
 rw [sumN,e,List.foldl_append,List.foldl_cons,List.foldl_nil,sumN]
theorem ZjH(l:Z04):((sumN (List.take 0 l):Nat):Int)=2166136261:=by
 rw [List.take_zero,sumN,List.foldl_nil]; rfl
theorem Zeo(h:Nat)(hh:h<2 ^ 32)(c:UInt8):(IntKind.u64.wrap (IntKind.u64.wrap (IntKind.u64.wrap (IntKind.u64.wrap ((h:Int).tdiv 256)*256)+Z2x .xor .u64 ((h:Int).tmod 256) (IntKind.u64.wrap (c.toNat:Int)))*16777619)).tmod 4294967296=(stN h c:Int):=by
 have hc:=c.toNat_lt
 have hx:(h % 256 ^^^ c.toNat)<2 ^ 8:=Nat.xor_lt_two_pow (by omega) (by omega)
 have a1:((h:Int).tdiv 256)=((h / 256:Nat):Int):=rfl
 have a2:(((h / 256:Nat):Int)*256)=((h / 256*256:Nat):Int):=by simp
 have a3:((h:Int).tmod 256)=((h % 256:Nat):Int):=Z4w h 256
 have a4:(((h / 256*256+(h % 256 ^^^ c.toNat):Nat):Int)*16777619)=(((h / 256*256+(h % 256 ^^^ c.toNat))*16777619:Nat):Int):=by simp
 rw [a1,Z6C _ (by omega),a2,Z6C _ (by omega),a3,Z6C c.toNat (by omega),ix64 _ _ (by omega) (by omega),←Int.natCast_add,Z6C _ (by omega),a4,Z6C _ (by omega),stN,ZaL h c.toNat (by omega)]
 exact Z4w _ 4294967296
def e73:(Z04)×(Nat)→List AV:=fun (l,n)=>[.sl (l.map Z03) n]
def p73:(Z04)×(Nat)→Prop:=fun (l,n)=>n=l.length∧l.length≤BIG
def r73:(Z04)×(Nat)→AV:=fun (l,n)=>.int .u32 (Z4Y l)
def g73:(Z04)×(Nat)→Heap:=fun (l,n)=>[]
theorem inj73:∀a b,e73 a=e73 b→a=b:=by
 rintro⟨l,n⟩ ⟨l',n'⟩ h
 simp only [e73,Z0f,Z0h,Z0i,Z0g,Z0u,Z0F,Z0E,Z0z,Z0G,Z0D,Z0C,Z0J,List.cons.injEq,AV.int.injEq,AV.str.injEq,AV.bool.injEq,AV.sl.injEq,AV.agg.injEq,AV.ip.injEq,AV.fn.injEq,AV.ifc.injEq,AV.mpr.injEq,Int.natCast_inj,and_true,true_and] at h
 simp_all only
noncomputable def S73:Z0n:=Z2V e73 p73 r73 g73 true
theorem ps73(l:(Z04))(n:(Nat)):Z1J e73 p73 [.sl (l.map Z03) n]=(n=l.length∧l.length≤BIG):=Z0j inj73 p73 (l,n)
theorem rs73(l:(Z04))(n:(Nat)):Z10 e73 r73 .any [.sl (l.map Z03) n]=(.int .u32 (Z4Y l)):=Z08 inj73 r73 .any (l,n)
theorem hs73(l:(Z04))(n:(Nat)):Z10 e73 g73 [] [.sl (l.map Z03) n]=([]):=Z08 inj73 g73 [] (l,n)
attribute [push_cast] S73 ps73 rs73 hs73
theorem body73(Γ:Env)(l:Z04)(hl:l.length≤BIG):Z0a Tryz.prog Γ Tryz.f18 (e73 (l,l.length)) [] (.int .u32 (Z4Y l)) []:=by
 have hB:(BIG:Nat)=140737488355328:=rfl
 (intro X hP hΓ hL hfin; refine⟨_,rfl,?_⟩; rw [show Tryz.f18.ntmps=29 from rfl]; rw [show Tryz.f18.results.toList=[.tmp 2] from rfl] at hfin; apply holds_of_ex X 400; simp (maxSteps:=1000000) only [push_cast,reduceCtorEq,Nat.reduceAdd,Nat.reduceMul,Nat.reduceSub,Nat.reduceBEq,Nat.reduceGT,Nat.reduceLT,Int.toNat_zero,Nat.reduceLeDiff,Int.reduceEq,Int.reduceLT,Int.reduceLE,hP,hΓ,hL,hfin,↓Z00,e73])
 refine Holds.loopM (ι:={k:Nat // k≤l.length}) [true,false,true,false,false,false,false,false,false,false,false,false,false,false,false,false,false,false,false,false,false,false,false,false,false,false,false,false,false] (fun i=>[(3,.int .u64 (sumN (l.take i.1):Nat)),(4,.int .i64 i.1)]) (fun i=>[]) (fun i=>l.length - i.1) ⟨0,Nat.zero_le _⟩ ?_ ?_
 ·(rw [hL]; simp only [push_cast,Int.natCast_zero,ZjH]; exact Z06.sameA)
 rintro⟨k,hk⟩
 ((first | with_reducible refine holds_of_ex X 400 _ _ _ ?_ | skip); simp (maxSteps:=1000000) only [push_cast,reduceCtorEq,Nat.reduceAdd,Nat.reduceMul,Nat.reduceSub,Nat.reduceBEq,Nat.reduceGT,Nat.reduceLT,Int.toNat_zero,Nat.reduceLeDiff,Int.reduceEq,Int.reduceLT,Int.reduceLE,hP,hΓ,hL,hfin,↓Z00])
 ((with_reducible refine Z02 (fun h=>?_) (fun h=>?_)) <;> (try simp only [decide_eq_true_eq,decide_eq_false_iff_not,Bool.and_eq_true,Bool.or_eq_true,Bool.and_eq_false_iff,Bool.or_eq_false_iff,Bool.not_eq_true',Bool.not_eq_false',Bool.not_eq_true,Bool.not_eq_false,Int.not_lt,Int.not_le,beq_iff_eq,beq_eq_false_iff_ne,ne_eq,win_t,win_f] at h))
 ·have hk':k<l.length:=by omega
  ((first | with_reducible refine holds_of_ex X 400 _ _ _ ?_ | skip); simp (maxSteps:=1000000) only [push_cast,reduceCtorEq,Nat.reduceAdd,Nat.reduceMul,Nat.reduceSub,Nat.reduceBEq,Nat.reduceGT,Nat.reduceLT,Int.toNat_zero,Nat.reduceLeDiff,Int.reduceEq,Int.reduceLT,Int.reduceLE,hP,hΓ,hL,hfin,↓Z00,Z0c ((k:Int)+1) (by constructor <;> omega),hk',Zeo _ (Z8J _)])
  (repeat (refine And.intro (by first | exact True.intro | omega | assumption | exact own_row _ | (simp only [List.length_append]; omega) | (intro hg; (try simp only [decide_eq_true_eq,decide_eq_false_iff_not,Bool.and_eq_true,Bool.or_eq_true,Bool.and_eq_false_iff,Bool.or_eq_false_iff,Bool.not_eq_true',Bool.not_eq_false',Bool.not_eq_true,Bool.not_eq_false,Int.not_lt,Int.not_le,beq_iff_eq,beq_eq_false_iff_ne,ne_eq,win_t,win_f] at hg); omega)) ?_))
  rw [←ZaV l k hk']
  (refine⟨⟨k+1,hk'⟩,by (try simp only [List.length_cons,List.length_append,List.length_nil]); omega,?_⟩; (try rw [hL]); (try simp only [push_cast,Int.natCast_zero]); first | (exact Z06.sameA) | (exact Z06.keep0A) | (exact Z06.keep1A) | (exact Z06.keep2A) | (exact Z06.keep3A))
 ·obtain rfl:k=l.length:=by omega
  ((first | with_reducible refine holds_of_ex X 400 _ _ _ ?_ | skip); simp (maxSteps:=1000000) only [push_cast,reduceCtorEq,Nat.reduceAdd,Nat.reduceMul,Nat.reduceSub,Nat.reduceBEq,Nat.reduceGT,Nat.reduceLT,Int.toNat_zero,Nat.reduceLeDiff,Int.reduceEq,Int.reduceLT,Int.reduceLE,hP,hΓ,hL,hfin,↓Z00])
  refine Z06.one ?_ rfl
  rw [List.take_length,Z9n,Z29,m32,Nat.mod_eq_of_lt (Z8J l)]
theorem con73{Γ:Env}(h:Z07 Tryz.prog Γ):Con Tryz.prog 18 S73:=
 Z0t h (fn:=Tryz.f18) (by kernel_rfl) rfl (by kernel_rfl) inj73 (by first | (intro h; cases h; done) | exact fun _ _=>rfl) fun ⟨l,n⟩ h=>by obtain⟨rfl,h⟩:=h; exact body73 Γ l h
def e70:(Z04)→List AV:=fun s=>[.str s]
def p70:Nat→(Z04)→Prop:=fun n s=>n+5+s.length≤BIG∧s.length≤SM
def k70:(Z04)→List UInt8:=fun s=>txt s
theorem inj70:∀a b,e70 a=e70 b→a=b:=by
 rintro s s' h
 simp only [e70,Z0f,Z0h,Z0i,Z0g,Z0u,Z0F,Z0E,Z0z,Z0G,Z0D,Z0C,Z0J,List.cons.injEq,AV.int.injEq,AV.str.injEq,AV.bool.injEq,AV.sl.injEq,AV.agg.injEq,AV.ip.injEq,AV.fn.injEq,AV.ifc.injEq,AV.mpr.injEq,Int.natCast_inj,and_true,true_and] at h
 simp_all only
noncomputable def S70:Z0n:=Z6B e70 p70 k70
theorem ps70(n:Nat)(s:(Z04)):Z1J e70 (p70 n) [.str s]=(n+5+s.length≤BIG∧s.length≤SM):=Z0j inj70 (p70 n) s
theorem ks70(s:(Z04)):Z10 e70 k70 [] [.str s]=(txt s):=Z08 inj70 k70 [] s
attribute [push_cast] S70 ps70 ks70
theorem body70(Γ:Env)(h72:Γ 93=some S72)(l:List UInt8)(v:Nat)(s:Z04)(hl:l.length+5+s.length≤BIG)(hs:s.length≤SM):Z0a Tryz.prog Γ Tryz.f91 (.msl 0 v 0 l.length::e70 s) [.row (l.map Z03) 1 v] (.msl 0 (v+1) 0 (l++k70 s).length) [.row ((l++k70 s).map Z03) 1 (v+1)]:=by
 have hB:(BIG:Nat)=140737488355328:=rfl
 have hSM:SM=1048576:=rfl
 have h1:=Z0q s.length
 have hm:num s.length=enc (m32 s.length):=by rw [num,u32,m32]; congr 1
 (intro X hP hΓ hL hfin; refine⟨_,rfl,?_⟩; rw [show Tryz.f91.ntmps=12 from rfl]; rw [show Tryz.f91.results.toList=[.tmp 4] from rfl] at hfin; apply holds_of_ex X 400; simp (maxSteps:=1000000) only [push_cast,reduceCtorEq,Nat.reduceAdd,Nat.reduceMul,Nat.reduceSub,Nat.reduceBEq,Nat.reduceGT,Nat.reduceLT,Int.toNat_zero,Nat.reduceLeDiff,Int.reduceEq,Int.reduceLT,Int.reduceLE,hP,hΓ,hL,hfin,↓Z00,e70,h72])
 have hk:k70 s=num s.length++s:=by rw [hm]; rfl
 refine⟨⟨own_row l,by omega⟩,by omega,Z06.app ?_ ?_ (by omega)⟩
 ·rw [hk]; simp only [List.map_append,List.append_assoc]
 ·rw [hk]; simp only [List.length_append]; omega
theorem con70{Γ:Env}(h:Z07 Tryz.prog Γ)(h72:Γ 93=some S72):Con Tryz.prog 91 S70:=
 Z1f h (fn:=Tryz.f91) (by kernel_rfl) rfl (by kernel_rfl) inj70 fun s l v h=>body70 Γ h72 l v s h.1 h.2
def e71:(Int)→List AV:=fun w=>[.int .u32 w]
def p71:Nat→(Int)→Prop:=fun n w=>n+4≤BIG∧0≤w∧w<4294967296
def k71:(Int)→List UInt8:=fun w=>le4 w
theorem inj71:∀a b,e71 a=e71 b→a=b:=by
 rintro w w' h
 simp only [e71,Z0f,Z0h,Z0i,Z0g,Z0u,Z0F,Z0E,Z0z,Z0G,Z0D,Z0C,Z0J,List.cons.injEq,AV.int.injEq,AV.str.injEq,AV.bool.injEq,AV.sl.injEq,AV.agg.injEq,AV.ip.injEq,AV.fn.injEq,AV.ifc.injEq,AV.mpr.injEq,Int.natCast_inj,and_true,true_and] at h
 simp_all only
noncomputable def S71:Z0n:=Z6B e71 p71 k71
theorem ps71(n:Nat)(w:(Int)):Z1J e71 (p71 n) [.int .u32 w]=(n+4≤BIG∧0≤w∧w<4294967296):=Z0j inj71 (p71 n) w
theorem ks71(w:(Int)):Z10 e71 k71 [] [.int .u32 w]=(le4 w):=Z08 inj71 k71 [] w
attribute [push_cast] S71 ps71 ks71
theorem body71(Γ:Env)(h99:Γ 102=some S99)(l:List UInt8)(v:Nat)(w:Int)(hl:l.length+4≤BIG)(h0:0≤w)(hw:w<4294967296):Z0a Tryz.prog Γ Tryz.f92 (.msl 0 v 0 l.length::e71 w) [.row (l.map Z03) 1 v] (.msl 0 (v+1) 0 (l++k71 w).length) [.row ((l++k71 w).map Z03) 1 (v+1)]:=by
 have hB:(BIG:Nat)=140737488355328:=rfl
 obtain⟨w,rfl⟩:=Int.eq_ofNat_of_zero_le h0
 have hl4:(le4 w).length=4:=rfl
 (intro X hP hΓ hL hfin; refine⟨_,rfl,?_⟩; rw [show Tryz.f92.ntmps=9 from rfl]; rw [show Tryz.f92.results.toList=[.tmp 4] from rfl] at hfin; apply holds_of_ex X 400; simp (maxSteps:=1000000) only [push_cast,reduceCtorEq,Nat.reduceAdd,Nat.reduceMul,Nat.reduceSub,Nat.reduceBEq,Nat.reduceGT,Nat.reduceLT,Int.toNat_zero,Nat.reduceLeDiff,Int.reduceEq,Int.reduceLT,Int.reduceLE,hP,hΓ,hL,hfin,↓Z00,e71,h99])
 exact⟨by omega,⟨hl4,by omega⟩,Z06.app (by simp only [k71,List.map_append]) rfl (by omega)⟩
theorem con71{Γ:Env}(h:Z07 Tryz.prog Γ)(h99:Γ 102=some S99):Con Tryz.prog 92 S71:=
 Z1f h (fn:=Tryz.f92) (by kernel_rfl) rfl (by kernel_rfl) inj71 fun w l v h=>body71 Γ h99 l v w h.1 h.2.1 h.2.2
end Go.Proofs.YtmomhjmaanagaaaGreat.objDone