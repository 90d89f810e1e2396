/- Of object numbers: what is read at a place of some bytes, by the program and by the document. Conditions stand in each. -/
import Derived.Test.YtmomhjmaanagaaaGreatOBA
set_option linter.unusedVariables false
set_option linter.unusedSimpArgs false
namespace Go.Proofs.YtmomhjmaanagaaaGreat.objNumbersDone
open Go Go.Eng Go.Proofs
def duR(i acc:Nat):List UInt8→Option (Nat×Nat)
 | []=>none
 | c::r=>if 5≤i∨0<i∧c.toNat=0 then none else if c.toNat<128 then some (accU acc c i,i+1) else duR (i+1) (accU acc c i) r
def Z1r(l:List UInt8)(a:Int):Option (Nat×Nat):=if 0≤a∧a≤l.length then duR 0 0 (l.drop a.toNat) else none
def okR(r:Option (Nat×Nat)):Bool:=match r with
 | some (n,_)=>decide (n<2 ^ 32)
 | none=>false
def valR(r:Option (Nat×Nat)):Int:=match r with
 | some (n,_)=>if n<2 ^ 32 then n else 0
 | none=>0
def nextR(a:Int)(r:Option (Nat×Nat)):Int:=match r with
 | some (n,k)=>if n<2 ^ 32 then a+k else 0
 | none=>0
theorem ZiT:∀(r:List UInt8) (i acc:Nat),duR i acc (r.take (5 - i))=duR i acc r:=by
 intro r
 induction r with
 | nil=>intro i acc; simp
 | cons c r ih=>
  intro i acc
  by_cases hi:5≤i
  ·rw [show 5 - i=0 by omega]; simp [duR,hi]
  ·rw [show 5 - i=(5 - (i+1))+1 by omega,List.take_succ_cons,duR,duR,ih]
theorem ZdR(acc:Nat)(c:UInt8)(i:Nat)(h:acc<128 ^ i):accU acc c i<128 ^ (i+1):=by
 have:c.toNat % 128*128 ^ i≤127*128 ^ i:=Nat.mul_le_mul_right _ (by omega)
 rw [accU,Nat.pow_succ]; omega
theorem ZaQ(Γ:Env)(l:List UInt8)(a:Int)(hl:l.length≤BIG) :
  Z0a Tryz.prog Γ Tryz.f52 [.sl (l.map Z03) l.length,.int .i64 a] [] (.tup [.int .u32 (valR (Z1r l a)),.int .i64 (nextR a (Z1r l a)),.bool (okR (Z1r l a))]) []:=by
 have hB:(BIG:Nat)=140737488355328:=rfl
 (intro X hP hΓ hL hfin; refine⟨_,rfl,?_⟩; rw [show Tryz.f52.ntmps=59 from rfl]; rw [show Tryz.f52.results.toList=[.tmp 4,.tmp 5,.tmp 6] from rfl] at hfin; apply holds_of_ex X 400; simp only [push_cast,reduceCtorEq,Nat.reduceAdd,Nat.reduceMul,Nat.reduceSub,Nat.reduceBEq,Nat.reduceGT,Nat.reduceLT,Int.toNat_zero,Nat.reduceLeDiff,Int.reduceEq,Int.reduceLT,Int.reduceLE,hP,hΓ,hL,hfin])
 refine Z02 (fun h=>?_) (fun h=>?_)
 ·((first | with_reducible refine holds_of_ex X 400 _ _ _ ?_ | skip); simp only [push_cast,reduceCtorEq,Nat.reduceAdd,Nat.reduceMul,Nat.reduceSub,Nat.reduceBEq,Nat.reduceGT,Nat.reduceLT,Int.toNat_zero,Nat.reduceLeDiff,Int.reduceEq,Int.reduceLT,Int.reduceLE,hP,hΓ,hL,hfin])
  have:Z1r l a=none:=by rw [Z1r,if_neg]; simp at h; omega
  rw [this]
  exact Z06.one rfl rfl
 have hk:0≤a∧a≤l.length:=by simp at h; omega
 obtain⟨k,rfl⟩:=Int.eq_ofNat_of_zero_le hk.1
 have hraw:Z1r l k=duR 0 0 ((l.drop k).take 5):=by rw [Z1r,if_pos hk,Int.toNat_natCast]; exact (ZiT _ 0 0).symm
 rw [hraw] at hfin
 obtain⟨W,hW⟩:∃W,W=(l.drop k).take 5:=⟨_,rfl⟩
 rw [←hW] at hfin
 have hWl:W.length=min 5 (l.length - k):=by rw [hW]; simp
 have e1:IntKind.i64.wrap (↑k+5)=↑k+5:=Z11 _ (by omega)
 have e2:min ((k:Int)+5) ↑l.length=(k:Int)+W.length:=by omega
 have e3:List.drop k (List.take (k+W.length) (l.map Z03))=W.map Z03:=by
  rw [←List.map_take,←List.map_drop,List.drop_take,Nat.add_sub_cancel_left,hW]; congr 1
  simp [List.take_eq_take_iff]
 have e4:k+W.length - k=W.length:=by omega
 have e5:((k:Int)+W.length).toNat=k+W.length:=by omega
 have e6:((k:Int)≤(k:Int)+W.length)=True:=eq_true (by omega)
 have e7:((k:Int)+W.length≤l.length)=True:=eq_true (by omega)
 have e8:((0:Int)≤(k:Int))=True:=eq_true (by omega)
 ((first | with_reducible refine holds_of_ex X 400 _ _ _ ?_ | skip); simp only [push_cast,reduceCtorEq,Nat.reduceAdd,Nat.reduceMul,Nat.reduceSub,Nat.reduceBEq,Nat.reduceGT,Nat.reduceLT,Int.toNat_zero,Nat.reduceLeDiff,Int.reduceEq,Int.reduceLT,Int.reduceLE,hP,hΓ,hL,hfin,e1,e2,e3,e4,e5,e6,e7,e8,Int.le_refl])
 refine Holds.loop (ι:={ p:Nat×Nat // p.1≤W.length∧p.2<128 ^ p.1∧duR 0 0 W=duR p.1 p.2 (W.drop p.1) }) (fun i=>([.any,.int .i64 k,.any,.any,.any,.any,.any,.int .u64 i.1.2,.any,.any,.any,.any,.any,.any,.any,.any,.any,.any,.any,.any,.any,.any,.any,.any,.any,.sl (W.map Z03) W.length,.int .i64 W.length,.int .i64 i.1.1,.any,.any,.any,.any,.any,.any,.any,.any,.any,.any,.any,.any,.any,.any,.any,.any,.any,.any,.any,.any,.any,.any,.any,.any,.any,.any,.any,.any,.any,.any,.any],[])) (fun i=>W.length - i.1.1) ⟨(0,0),by simp⟩ ?_ ?_
 ·rw [hL]
  simp only [Int.natCast_zero]
  exact Z06.sameA
 rintro⟨⟨i,acc⟩,hi,hacc,hd⟩
 simp only at hi hacc hd
 ((first | with_reducible refine holds_of_ex X 400 _ _ _ ?_ | skip); simp only [push_cast,reduceCtorEq,Nat.reduceAdd,Nat.reduceMul,Nat.reduceSub,Nat.reduceBEq,Nat.reduceGT,Nat.reduceLT,Int.toNat_zero,Nat.reduceLeDiff,Int.reduceEq,Int.reduceLT,Int.reduceLE,hP,hΓ,hL,hfin])
 refine Z02 (fun h=>?_) (fun h=>?_)
 ·have hi':i<W.length:=by have:=of_decide_eq_true h; omega
  have hc:W.drop i=W.getD i 0::W.drop (i+1):=by rw [List.drop_eq_getElem_cons hi']; simp [List.getD,hi']
  generalize hcc:W.getD i 0=c at hc
  have e9:((0:Int)≤IntKind.i64.wrap (7*↑i))=True:=eq_true (by rw [Z11 _ (by omega)]; omega)
  ((first | with_reducible refine holds_of_ex X 400 _ _ _ ?_ | skip); simp only [push_cast,reduceCtorEq,Nat.reduceAdd,Nat.reduceMul,Nat.reduceSub,Nat.reduceBEq,Nat.reduceGT,Nat.reduceLT,Int.toNat_zero,Nat.reduceLeDiff,Int.reduceEq,Int.reduceLT,Int.reduceLE,hP,hΓ,hL,hfin,Z71 hi',hcc,ZkH,Zh1 acc c i hacc (by omega),e9])
  refine⟨⟨by omega,by omega⟩,by omega,Z02 (fun h=>?_) (fun h=>?_)⟩
  ·have hn:i+1≤W.length∧accU acc c i<128 ^ (i+1)∧duR 0 0 W=duR (i+1) (accU acc c i) (W.drop (i+1)):=by
    refine⟨hi',ZdR _ _ _ hacc,?_⟩
    have:=of_decide_eq_true h
    rw [hd,hc,duR,if_neg (by omega),if_neg (by omega)]
   ((first | with_reducible refine holds_of_ex X 400 _ _ _ ?_ | skip); simp only [push_cast,reduceCtorEq,Nat.reduceAdd,Nat.reduceMul,Nat.reduceSub,Nat.reduceBEq,Nat.reduceGT,Nat.reduceLT,Int.toNat_zero,Nat.reduceLeDiff,Int.reduceEq,Int.reduceLT,Int.reduceLE,hP,hΓ,hL,hfin])
   rw [Z11 _ (by omega)]
   exact⟨⟨(i+1,accU acc c i),hn⟩,by simp only; omega,by exact Z06.sameA⟩
  have h0:=of_decide_eq_false h
  ((first | with_reducible refine holds_of_ex X 400 _ _ _ ?_ | skip); simp only [push_cast,reduceCtorEq,Nat.reduceAdd,Nat.reduceMul,Nat.reduceSub,Nat.reduceBEq,Nat.reduceGT,Nat.reduceLT,Int.toNat_zero,Nat.reduceLeDiff,Int.reduceEq,Int.reduceLT,Int.reduceLE,hP,hΓ,hL,hfin])
  refine Z02 (fun h=>?_) (fun h=>?_)
  ·have hx:okR (duR 0 0 W)=false∧valR (duR 0 0 W)=0∧nextR k (duR 0 0 W)=0:=by
    rw [hd,hc,duR]
    simp at h
    by_cases hz:5≤i∨0<i∧c.toNat=0
    ·rw [if_pos hz]; exact⟨rfl,rfl,rfl⟩
    ·rw [if_neg hz,if_pos (by omega)]
     have:¬accU acc c i<2 ^ 32:=by omega
     simp [okR,valR,nextR]; omega
   ((first | with_reducible refine holds_of_ex X 400 _ _ _ ?_ | skip); simp only [push_cast,reduceCtorEq,Nat.reduceAdd,Nat.reduceMul,Nat.reduceSub,Nat.reduceBEq,Nat.reduceGT,Nat.reduceLT,Int.toNat_zero,Nat.reduceLeDiff,Int.reduceEq,Int.reduceLT,Int.reduceLE,hP,hΓ,hL,hfin])
   rw [hx.1,hx.2.1,hx.2.2]
   exact Z06.one rfl rfl
  ·have hx:duR 0 0 W=some (accU acc c i,i+1)∧accU acc c i<2 ^ 32:=by
    simp at h
    rw [hd,hc,duR,if_neg (by omega),if_pos (by omega)]
    exact⟨rfl,by omega⟩
   have e10:IntKind.u32.wrap ↑(accU acc c i)=↑(accU acc c i):=by rw [Z29,m32,Nat.mod_eq_of_lt hx.2]
   have e11:IntKind.i64.wrap (IntKind.i64.wrap (↑k+↑i)+1)=↑k+((i+1:Nat):Int):=by rw [Z11 (↑k+↑i) (by omega),Z11 _ (by omega)]; omega
   ((first | with_reducible refine holds_of_ex X 400 _ _ _ ?_ | skip); simp only [push_cast,reduceCtorEq,Nat.reduceAdd,Nat.reduceMul,Nat.reduceSub,Nat.reduceBEq,Nat.reduceGT,Nat.reduceLT,Int.toNat_zero,Nat.reduceLeDiff,Int.reduceEq,Int.reduceLT,Int.reduceLE,hP,hΓ,hL,hfin,e10,e11])
   refine Z06.one ?_ rfl
   rw [hx.1]
   simp [valR,nextR,okR,hx.2]
 ·((first | with_reducible refine holds_of_ex X 400 _ _ _ ?_ | skip); simp only [push_cast,reduceCtorEq,Nat.reduceAdd,Nat.reduceMul,Nat.reduceSub,Nat.reduceBEq,Nat.reduceGT,Nat.reduceLT,Int.toNat_zero,Nat.reduceLeDiff,Int.reduceEq,Int.reduceLT,Int.reduceLE,hP,hΓ,hL,hfin])
  have hi':i=W.length:=by have:=of_decide_eq_false h; omega
  rw [hd,hi',List.drop_length]
  exact Z06.one rfl rfl
def p128(i:Nat):Nat:=128 ^ i
def xR(r:Option (Nat×Nat)):Int:=match r with
 | some (n,_)=>(n % 2 ^ 32:Nat)
 | none=>0
def yR(a:Int)(r:Option (Nat×Nat)):Int:=match r with
 | some (_,k)=>a+k
 | none=>0
theorem Ze2(Γ:Env)(l:List UInt8)(a:Int)(hl:l.length≤BIG) :
  Z0a Tryz.prog Γ Tryz.f70 [.sl (l.map Z03) l.length,.int .i64 a] [] (.tup [.int .u32 (xR (Z1r l a)),.int .i64 (yR a (Z1r l a)),.bool (okR (Z1r l a))]) []:=by
 have hB:(BIG:Nat)=140737488355328:=rfl
 (intro X hP hΓ hL hfin; refine⟨_,rfl,?_⟩; rw [show Tryz.f70.ntmps=69 from rfl]; rw [show Tryz.f70.results.toList=[.tmp 4,.tmp 5,.tmp 6] from rfl] at hfin; apply holds_of_ex X 400; simp only [push_cast,reduceCtorEq,Nat.reduceAdd,Nat.reduceMul,Nat.reduceSub,Nat.reduceBEq,Nat.reduceGT,Nat.reduceLT,Int.toNat_zero,Nat.reduceLeDiff,Int.reduceEq,Int.reduceLT,Int.reduceLE,hP,hΓ,hL,hfin])
 refine Z02 (fun h=>?_) (fun h=>?_)
 ·have:Z1r l a=none:=by rw [Z1r,if_neg]; simp at h; omega
  ((first | with_reducible refine holds_of_ex X 400 _ _ _ ?_ | skip); simp only [push_cast,reduceCtorEq,Nat.reduceAdd,Nat.reduceMul,Nat.reduceSub,Nat.reduceBEq,Nat.reduceGT,Nat.reduceLT,Int.toNat_zero,Nat.reduceLeDiff,Int.reduceEq,Int.reduceLT,Int.reduceLE,hP,hΓ,hL,hfin])
  rw [this]
  exact Z06.one rfl rfl
 have hk:0≤a∧a≤l.length:=by simp at h; omega
 obtain⟨k,rfl⟩:=Int.eq_ofNat_of_zero_le hk.1
 have hraw:Z1r l k=duR 0 0 (l.drop k):=by rw [Z1r,if_pos hk,Int.toNat_natCast]
 rw [hraw] at hfin
 ((first | with_reducible refine holds_of_ex X 400 _ _ _ ?_ | skip); simp only [push_cast,reduceCtorEq,Nat.reduceAdd,Nat.reduceMul,Nat.reduceSub,Nat.reduceBEq,Nat.reduceGT,Nat.reduceLT,Int.toNat_zero,Nat.reduceLeDiff,Int.reduceEq,Int.reduceLT,Int.reduceLE,hP,hΓ,hL,hfin])
 have hWl:(l.drop k).length=l.length - k:=by simp
 refine Holds.loop (ι:={ p:Nat×Nat // p.1≤(l.drop k).length∧p.1≤5∧p.2<128 ^ p.1∧duR 0 0 (l.drop k)=duR p.1 p.2 ((l.drop k).drop p.1) }) (fun i=>([.sl (l.map Z03) l.length,.int .i64 k,.any,.any,.any,.any,.any,.int .u64 i.1.2,.int .u64 (p128 i.1.1),.int .i64 i.1.1,.any,.any,.any,.any,.any,.any,.any,.any,.any,.any,.any,.any,.any,.any,.any,.any,.any,.any,.any,.any,.any,.any,.any,.any,.any,.any,.any,.any,.any,.any,.any,.any,.any,.any,.any,.any,.any,.any,.any,.any,.any,.any,.any,.any,.any,.any,.any,.any,.any,.any,.any,.any,.any,.any,.any,.any,.any,.any,.any],[])) (fun i=>5 - i.1.1) ⟨(0,0),by simp⟩ ?_ ?_
 ·rw [hL]
  simp only [Int.natCast_zero,p128,Nat.pow_zero]
  exact Z06.sameA
 rintro⟨⟨i,acc⟩,hi,hi5,hacc,hd⟩
 simp only at hi hacc hd hi5
 ((first | with_reducible refine holds_of_ex X 400 _ _ _ ?_ | skip); simp only [push_cast,reduceCtorEq,Nat.reduceAdd,Nat.reduceMul,Nat.reduceSub,Nat.reduceBEq,Nat.reduceGT,Nat.reduceLT,Int.toNat_zero,Nat.reduceLeDiff,Int.reduceEq,Int.reduceLT,Int.reduceLE,hP,hΓ,hL,hfin])
 refine Z02 (fun h=>?_) (fun h=>?_)
 ·have hi':i<5:=by have:=of_decide_eq_true h; omega
  have f1:IntKind.i64.wrap (↑l.length - ↑k)=((l.length - k:Nat):Int):=by rw [Z11 _ (by omega)]; omega
  ((first | with_reducible refine holds_of_ex X 400 _ _ _ ?_ | skip); simp only [push_cast,reduceCtorEq,Nat.reduceAdd,Nat.reduceMul,Nat.reduceSub,Nat.reduceBEq,Nat.reduceGT,Nat.reduceLT,Int.toNat_zero,Nat.reduceLeDiff,Int.reduceEq,Int.reduceLT,Int.reduceLE,hP,hΓ,hL,hfin,f1])
  refine Z02 (fun h=>?_) (fun h=>?_)
  ·have hx:l.length - k≤i:=by have:=of_decide_eq_true h; omega
   ((first | with_reducible refine holds_of_ex X 400 _ _ _ ?_ | skip); simp only [push_cast,reduceCtorEq,Nat.reduceAdd,Nat.reduceMul,Nat.reduceSub,Nat.reduceBEq,Nat.reduceGT,Nat.reduceLT,Int.toNat_zero,Nat.reduceLeDiff,Int.reduceEq,Int.reduceLT,Int.reduceLE,hP,hΓ,hL,hfin])
   rw [hd,List.drop_eq_nil_of_le (by omega)]
   exact Z06.one rfl rfl
  ·have hx:k+i<l.length:=by have:=of_decide_eq_false h; omega
   have hc:(l.drop k).drop i=l.getD (k+i) 0::(l.drop k).drop (i+1):=by rw [List.drop_drop,List.drop_drop,List.drop_eq_getElem_cons hx]; simp [List.getD,hx,Nat.add_assoc]
   generalize hcc:l.getD (k+i) 0=c at hc
   have f2:IntKind.i64.wrap (↑k+↑i)=((k+i:Nat):Int):=by rw [Z11 _ (by omega)]; simp
   have f3:((k:Int)+(i:Int)).toNat=k+i:=by omega
   have f4:IntKind.u64.wrap (c.toNat:Int)=c.toNat:=Z31 _ (by have:=c.toNat_lt; omega)
   have f5:((c.toNat:Nat):Int).tmod 128=(low7 c:Int):=by rw [low7]; exact Z4w _ 128
   have hle:128 ^ i≤128 ^ 4:=Nat.pow_le_pow_right (by omega) (by omega)
   have hmul:c.toNat % 128*128 ^ i≤127*128 ^ 4:=Nat.mul_le_mul (by omega) hle
   have f6:IntKind.u64.wrap (↑acc+IntKind.u64.wrap (↑(low7 c)*↑(p128 i)))=(accU acc c i:Int):=by
    rw [show ((low7 c:Int)*(p128 i:Int))=((c.toNat % 128*128 ^ i:Nat):Int) by simp [low7,p128],Z31 _ (by omega),←Int.natCast_add,Z31 _ (by omega),accU]
   have f7:IntKind.u64.wrap (↑(p128 i)*128)=(p128 (i+1):Int):=by
    rw [show ((p128 i:Int)*128)=((128 ^ i*128:Nat):Int) by simp [p128],Z31 _ (by omega),p128,Nat.pow_succ]
   have f8:((0:Int)≤(k:Int)+(i:Int)∧(k:Int)+(i:Int)<(l.length:Int))=True:=eq_true (by omega)
   ((first | with_reducible refine holds_of_ex X 400 _ _ _ ?_ | skip); simp only [push_cast,reduceCtorEq,Nat.reduceAdd,Nat.reduceMul,Nat.reduceSub,Nat.reduceBEq,Nat.reduceGT,Nat.reduceLT,Int.toNat_zero,Nat.reduceLeDiff,Int.reduceEq,Int.reduceLT,Int.reduceLE,hP,hΓ,hL,hfin,f2,f3,f4,f5,Z71 hx,hcc,f8])
   refine⟨by omega,Z02 (fun h=>?_) (fun h=>?_)⟩
   ·have hz:duR 0 0 (l.drop k)=none:=by
     rw [hd,hc,duR,if_pos]
     simp at h; omega
    ((first | with_reducible refine holds_of_ex X 400 _ _ _ ?_ | skip); simp only [push_cast,reduceCtorEq,Nat.reduceAdd,Nat.reduceMul,Nat.reduceSub,Nat.reduceBEq,Nat.reduceGT,Nat.reduceLT,Int.toNat_zero,Nat.reduceLeDiff,Int.reduceEq,Int.reduceLT,Int.reduceLE,hP,hΓ,hL,hfin])
    rw [hz]
    exact Z06.one rfl rfl
   ·have hz:¬(5≤i∨0<i∧c.toNat=0):=by simp at h; omega
    ((first | with_reducible refine holds_of_ex X 400 _ _ _ ?_ | skip); simp only [push_cast,reduceCtorEq,Nat.reduceAdd,Nat.reduceMul,Nat.reduceSub,Nat.reduceBEq,Nat.reduceGT,Nat.reduceLT,Int.toNat_zero,Nat.reduceLeDiff,Int.reduceEq,Int.reduceLT,Int.reduceLE,hP,hΓ,hL,hfin,f5,f6,f7])
    refine Z02 (fun h=>?_) (fun h=>?_)
    ·have hx2:duR 0 0 (l.drop k)=some (accU acc c i,i+1):=by
      have:=of_decide_eq_true h
      rw [hd,hc,duR,if_neg hz,if_pos (by omega)]
     have hlt:=of_decide_eq_true h
     ((first | with_reducible refine holds_of_ex X 400 _ _ _ ?_ | skip); simp only [push_cast,reduceCtorEq,Nat.reduceAdd,Nat.reduceMul,Nat.reduceSub,Nat.reduceBEq,Nat.reduceGT,Nat.reduceLT,Int.toNat_zero,Nat.reduceLeDiff,Int.reduceEq,Int.reduceLT,Int.reduceLE,hP,hΓ,hL,hfin])
     refine Z06.one ?_ rfl
     have hpos:0<accU acc c i∨i=0:=by
      by_cases h0:i=0
      ·exact .inr h0
      ·left
       have:0<c.toNat % 128*128 ^ i:=Nat.mul_pos (by omega) (Nat.pow_pos (by omega))
       rw [accU]; omega
     have q1:IntKind.u32.wrap ((accU acc c i:Int).tmod 4294967296)=xR (some (accU acc c i,i+1)):=by
      rw [show (4294967296:Int)=((4294967296:Nat):Int) from rfl,Z4w,Z29,m32]; simp only [xR]; omega
     have q2:(k:Int)+(i:Int)+1=yR k (some (accU acc c i,i+1)):=by simp only [yR]; omega
     have q3:(decide ((accU acc c i:Int)<4294967296) && (decide (0<(accU acc c i:Int)) || decide ((i:Int)=0)))=okR (some (accU acc c i,i+1)):=by
      simp only [okR]
      rw [Bool.eq_iff_iff]
      simp only [Bool.and_eq_true,Bool.or_eq_true,decide_eq_true_eq]
      omega
     rw [hx2,q1,q3,Z11 (↑k+↑i) (by omega),Z11 _ (by omega),q2]
    ·have hx2:duR 0 0 (l.drop k)=duR (i+1) (accU acc c i) ((l.drop k).drop (i+1)):=by
      have:=of_decide_eq_false h
      rw [hd,hc,duR,if_neg hz,if_neg (by omega)]
     ((first | with_reducible refine holds_of_ex X 400 _ _ _ ?_ | skip); simp only [push_cast,reduceCtorEq,Nat.reduceAdd,Nat.reduceMul,Nat.reduceSub,Nat.reduceBEq,Nat.reduceGT,Nat.reduceLT,Int.toNat_zero,Nat.reduceLeDiff,Int.reduceEq,Int.reduceLT,Int.reduceLE,hP,hΓ,hL,hfin])
     rw [Z11 _ (by omega)]
     exact⟨⟨(i+1,accU acc c i),by simp only; omega,by simp only; omega,ZdR _ _ _ hacc,hx2⟩,by simp only; omega,by exact Z06.sameA⟩
 ·have hi':i=5:=by have:=of_decide_eq_false h; omega
  have hz:duR 0 0 (l.drop k)=none:=by
   rw [hd,hi']; cases List.drop 5 (List.drop k l) <;> simp [duR]
  ((first | with_reducible refine holds_of_ex X 400 _ _ _ ?_ | skip); simp only [push_cast,reduceCtorEq,Nat.reduceAdd,Nat.reduceMul,Nat.reduceSub,Nat.reduceBEq,Nat.reduceGT,Nat.reduceLT,Int.toNat_zero,Nat.reduceLeDiff,Int.reduceEq,Int.reduceLT,Int.reduceLE,hP,hΓ,hL,hfin])
  rw [hz]
  exact Z06.one rfl rfl
def Z7b(xs:List AV):Prop:=match xs with
 | [.sl cs n,.int k _]=>(∃l:List UInt8,cs=l.map Z03∧n=l.length)∧n≤BIG∧k=.i64
 | _=>False
def Z7Q(xs:List AV):AV:=match xs with
 | [.sl cs _,.int _ a]=>.tup [.int .u32 (valR (Z1r (Z0w cs) a)),.int .i64 (nextR a (Z1r (Z0w cs) a)),.bool (okR (Z1r (Z0w cs) a))]
 | _=>.any
def Z3d:Z0n:=Z57 Z7b Z7Q (fun _=>[]) true
def ZaR(xs:List AV):AV:=match xs with
 | [.sl cs _,.int _ a]=>.tup [.int .u32 (xR (Z1r (Z0w cs) a)),.int .i64 (yR a (Z1r (Z0w cs) a)),.bool (okR (Z1r (Z0w cs) a))]
 | _=>.any
def Z5g:Z0n:=Z57 Z7b ZaR (fun _=>[]) true
attribute [push_cast] Z7b Z7Q Z3d ZaR Z5g
theorem Z9b{Γ:Env}(h:Z07 Tryz.prog Γ){f:FuncId}{fn:Func}(hf:Tryz.prog.funcs[f]?=some fn)(hb:fn.body.isNone=false) (hn:(fn.name == "runtime.NumGoroutine")=false) {K:List AV→AV}
  (hh:∀(l:List UInt8) (a:Int),l.length≤BIG→Z0a Tryz.prog Γ fn [.sl (l.map Z03) l.length,.int .i64 a] [] (K [.sl (l.map Z03) l.length,.int .i64 a]) []):Con Tryz.prog f (Z57 Z7b K (fun _=>[]) true):=by
 refine Con.of_body h hf hb hn (fun _ _=>rfl) fun xs hx=>?_
 unfold Z7b at hx
 split at hx
 ·obtain⟨⟨l,rfl,rfl⟩,hl,rfl⟩:=hx
  exact hh l _ hl
 ·exact hx.elim
theorem con10{Γ:Env}(h:Z07 Tryz.prog Γ):Con Tryz.prog 52 Z3d:=
 Z9b h (fn:=Tryz.f52) (by kernel_rfl) rfl (by kernel_rfl) fun l a hl=>by rw [Z7Q,Z12]; exact ZaQ Γ l a hl
theorem con51{Γ:Env}(h:Z07 Tryz.prog Γ):Con Tryz.prog 70 Z5g:=
 Z9b h (fn:=Tryz.f70) (by kernel_rfl) rfl (by kernel_rfl) fun l a hl=>by rw [ZaR,Z12]; exact Ze2 Γ l a hl
theorem Zam(Γ:Env)(h51:Γ 70=some Z5g)(l:List UInt8)(a:Int)(hl:l.length≤BIG) :
  Z0a Tryz.prog Γ Tryz.f49 [.sl (l.map Z03) l.length,.int .i64 a] [] (.tup [.int .u32 (valR (Z1r l a)),.int .i64 (nextR a (Z1r l a)),.bool (okR (Z1r l a))]) []:=by
 (intro X hP hΓ hL hfin; refine⟨_,rfl,?_⟩; rw [show Tryz.f49.ntmps=21 from rfl]; rw [show Tryz.f49.results.toList=[.tmp 4,.tmp 5,.tmp 6] from rfl] at hfin; apply holds_of_ex X 400; simp only [push_cast,reduceCtorEq,Nat.reduceAdd,Nat.reduceMul,Nat.reduceSub,Nat.reduceBEq,Nat.reduceGT,Nat.reduceLT,Int.toNat_zero,Nat.reduceLeDiff,Int.reduceEq,Int.reduceLT,Int.reduceLE,hP,hΓ,hL,hfin,h51])
 refine⟨⟨⟨l,rfl,rfl⟩,hl⟩,Z02 (fun h=>?_) (fun h=>?_)⟩
 ·((first | with_reducible refine holds_of_ex X 400 _ _ _ ?_ | skip); simp only [push_cast,reduceCtorEq,Nat.reduceAdd,Nat.reduceMul,Nat.reduceSub,Nat.reduceBEq,Nat.reduceGT,Nat.reduceLT,Int.toNat_zero,Nat.reduceLeDiff,Int.reduceEq,Int.reduceLT,Int.reduceLE,hP,hΓ,hL,hfin])
  have:okR (Z1r l a)=false:=by simpa using h
  refine Z06.one ?_ rfl
  revert this
  cases Z1r l a with
  | none=>intro; rfl
  | some p=>intro h; simp only [okR,decide_eq_false_iff_not] at h; simp [valR,nextR,okR,h]
 ·((first | with_reducible refine holds_of_ex X 400 _ _ _ ?_ | skip); simp only [push_cast,reduceCtorEq,Nat.reduceAdd,Nat.reduceMul,Nat.reduceSub,Nat.reduceBEq,Nat.reduceGT,Nat.reduceLT,Int.toNat_zero,Nat.reduceLeDiff,Int.reduceEq,Int.reduceLT,Int.reduceLE,hP,hΓ,hL,hfin])
  have:okR (Z1r l a)=true:=by simpa using h
  refine Z06.one ?_ rfl
  revert this
  cases Z1r l a with
  | none=>intro h; simp [okR] at h
  | some p=>intro h; simp only [okR,decide_eq_true_eq] at h; simp [valR,nextR,okR,xR,yR,h,Nat.mod_eq_of_lt h]
theorem con26{Γ:Env}(h:Z07 Tryz.prog Γ)(h51:Γ 70=some Z5g):Con Tryz.prog 49 Z3d:=
 Z9b h (fn:=Tryz.f49) (by kernel_rfl) rfl (by kernel_rfl) fun l a hl=>by rw [Z7Q,Z12]; exact Zam Γ h51 l a hl
def okT(l:List UInt8)(a most:Int):Bool:=okR (Z1r l a) && decide (0≤most∧valR (Z1r l a)≤most∧nextR a (Z1r l a)+valR (Z1r l a)≤l.length)
def Z8z(l:List UInt8)(a most:Int):List UInt8:=if okT l a most=true then (l.take (nextR a (Z1r l a)+valR (Z1r l a)).toNat).drop (nextR a (Z1r l a)).toNat else []
def Z4B(l:List UInt8)(a most:Int):Int:=if okT l a most=true then nextR a (Z1r l a)+valR (Z1r l a) else 0
theorem duR_len:∀(r:List UInt8) (i acc n k:Nat),duR i acc r=some (n,k)→i<k∧k≤i+r.length
 | [],i,acc,n,k,h=>by simp [duR] at h
 | c::r,i,acc,n,k,h=>by
  simp only [duR] at h
  split at h
  ·cases h
  ·split at h
   ·simp at h; simp; omega
   ·have:=duR_len r _ _ _ _ h; simp; omega
theorem Z7n(l:List UInt8)(a:Int)(h:okR (Z1r l a)=true):0≤a∧0≤valR (Z1r l a)∧valR (Z1r l a)<2 ^ 32∧a<nextR a (Z1r l a)∧nextR a (Z1r l a)≤l.length:=by
 unfold Z1r at *
 split at h
 ·rename_i ha
  cases hd:duR 0 0 (l.drop a.toNat) with
  | none=>rw [hd] at h; simp [okR] at h
  | some p=>
   obtain⟨n,k⟩:=p
   rw [hd] at h
   simp only [okR,decide_eq_true_eq] at h
   have:=duR_len _ _ _ _ _ hd
   simp only [List.length_drop] at this
   obtain⟨ha1,ha2⟩:=ha
   simp only [ha1,ha2,and_self,if_true,hd,valR,nextR,h]
   refine⟨trivial,by omega,by omega,by omega,by omega⟩
 ·simp [okR] at h
theorem ZaG(n:Int)(h0:0≤n)(h:n<18446744073709551616):IntKind.u64.wrap n=n:=by
 obtain⟨m,rfl⟩:=Int.eq_ofNat_of_zero_le h0
 exact Z31 m (by omega)
theorem ZgC(Γ:Env)(h10:Γ 52=some Z3d)(l:List UInt8)(a most:Int)(hl:l.length≤BIG)(hm:-9223372036854775808≤most∧most≤9223372036854775807) :
  Z0a Tryz.prog Γ Tryz.f51 [.sl (l.map Z03) l.length,.int .i64 a,.int .i64 most] [] (.tup [.str (Z8z l a most),.int .i64 (Z4B l a most),.bool (okT l a most)]) []:=by
 have hB:(BIG:Nat)=140737488355328:=rfl
 (intro X hP hΓ hL hfin; refine⟨_,rfl,?_⟩; rw [show Tryz.f51.ntmps=52 from rfl]; rw [show Tryz.f51.results.toList=[.tmp 6,.tmp 7,.tmp 8] from rfl] at hfin; apply holds_of_ex X 400; simp only [push_cast,reduceCtorEq,Nat.reduceAdd,Nat.reduceMul,Nat.reduceSub,Nat.reduceBEq,Nat.reduceGT,Nat.reduceLT,Int.toNat_zero,Nat.reduceLeDiff,Int.reduceEq,Int.reduceLT,Int.reduceLE,hP,hΓ,hL,hfin,h10])
 refine⟨⟨⟨l,rfl,rfl⟩,hl⟩,Z02 (fun h=>?_) (fun h=>?_)⟩
 ·have hT:okT l a most=false:=by
   cases hT:okT l a most with
   | false=>rfl
   | true=>
    simp only [okT,Bool.and_eq_true,decide_eq_true_eq] at hT
    have:=Z7n l a hT.1
    rw [hT.1,ZaG _ (by omega) (by omega),ZaG _ (by omega) (by omega)] at h
    rw [Z11 (↑l.length - _) (by omega)] at h
    first
    | rw [Z11 (valR _) (by omega)] at h
    | rw [ZaG _ (by omega) (by omega)] at h
    simp at h; omega
  ((first | with_reducible refine holds_of_ex X 400 _ _ _ ?_ | skip); simp only [push_cast,reduceCtorEq,Nat.reduceAdd,Nat.reduceMul,Nat.reduceSub,Nat.reduceBEq,Nat.reduceGT,Nat.reduceLT,Int.toNat_zero,Nat.reduceLeDiff,Int.reduceEq,Int.reduceLT,Int.reduceLE,hP,hΓ,hL,hfin])
  refine Z06.one ?_ rfl
  simp [Z8z,Z4B,hT]
 ·have hR:okR (Z1r l a)=true:=by simp at h; exact h.1.1.1
  have hq:=Z7n l a hR
  have hT:okT l a most=true:=by
   have h0:0≤most:=by simp at h; omega
   rw [hR,ZaG _ (by omega) (by omega),ZaG _ (by omega) (by omega)] at h
   rw [Z11 (↑l.length - _) (by omega)] at h
   first
   | rw [Z11 (valR _) (by omega)] at h
   | rw [ZaG _ (by omega) (by omega)] at h
   simp only [okT,hR,Bool.true_and,decide_eq_true_eq]
   simp at h; omega
  have hT2:0≤most∧valR (Z1r l a)≤most∧nextR a (Z1r l a)+valR (Z1r l a)≤l.length:=by simpa [okT,hR] using hT
  have g1:IntKind.i64.wrap (valR (Z1r l a))=valR (Z1r l a):=Z11 _ (by omega)
  have g2:IntKind.i64.wrap (nextR a (Z1r l a)+valR (Z1r l a))=nextR a (Z1r l a)+valR (Z1r l a):=Z11 _ (by omega)
  ((first | with_reducible refine holds_of_ex X 400 _ _ _ ?_ | skip); simp only [push_cast,reduceCtorEq,Nat.reduceAdd,Nat.reduceMul,Nat.reduceSub,Nat.reduceBEq,Nat.reduceGT,Nat.reduceLT,Int.toNat_zero,Nat.reduceLeDiff,Int.reduceEq,Int.reduceLT,Int.reduceLE,hP,hΓ,hL,hfin,g1,g2])
  refine⟨⟨by omega,by omega,by omega,by omega⟩,⟨by rw [←List.map_take,←List.map_drop]; exact Z1N _,by first | omega | (simp; omega)⟩,Z06.one ?_ rfl⟩
  rw [hT,←List.map_take,←List.map_drop,Z12]
  simp [Z8z,Z4B,hT]
theorem Ze7(Γ:Env)(h26:Γ 49=some Z3d)(l:List UInt8)(a most:Int)(hl:l.length≤BIG)(hm:-9223372036854775808≤most∧most≤9223372036854775807) :
  Z0a Tryz.prog Γ Tryz.f69 [.sl (l.map Z03) l.length,.int .i64 a,.int .i64 most] [] (.tup [.str (Z8z l a most),.int .i64 (Z4B l a most),.bool (okT l a most)]) []:=by
 have hB:(BIG:Nat)=140737488355328:=rfl
 (intro X hP hΓ hL hfin; refine⟨_,rfl,?_⟩; rw [show Tryz.f69.ntmps=53 from rfl]; rw [show Tryz.f69.results.toList=[.tmp 6,.tmp 7,.tmp 8] from rfl] at hfin; apply holds_of_ex X 400; simp only [push_cast,reduceCtorEq,Nat.reduceAdd,Nat.reduceMul,Nat.reduceSub,Nat.reduceBEq,Nat.reduceGT,Nat.reduceLT,Int.toNat_zero,Nat.reduceLeDiff,Int.reduceEq,Int.reduceLT,Int.reduceLE,hP,hΓ,hL,hfin,h26])
 refine⟨⟨⟨l,rfl,rfl⟩,hl⟩,Z02 (fun h=>?_) (fun h=>?_)⟩
 ·have hT:okT l a most=false:=by
   cases hT:okT l a most with
   | false=>rfl
   | true=>
    simp only [okT,Bool.and_eq_true,decide_eq_true_eq] at hT
    have:=Z7n l a hT.1
    rw [hT.1,ZaG _ (by omega) (by omega),ZaG _ (by omega) (by omega)] at h
    rw [Z11 (↑l.length - _) (by omega)] at h
    first
    | rw [Z11 (valR _) (by omega)] at h
    | rw [ZaG _ (by omega) (by omega)] at h
    simp at h; omega
  ((first | with_reducible refine holds_of_ex X 400 _ _ _ ?_ | skip); simp only [push_cast,reduceCtorEq,Nat.reduceAdd,Nat.reduceMul,Nat.reduceSub,Nat.reduceBEq,Nat.reduceGT,Nat.reduceLT,Int.toNat_zero,Nat.reduceLeDiff,Int.reduceEq,Int.reduceLT,Int.reduceLE,hP,hΓ,hL,hfin])
  refine Z06.one ?_ rfl
  simp [Z8z,Z4B,hT]
 ·have hR:okR (Z1r l a)=true:=by simp at h; exact h.1.1.1
  have hq:=Z7n l a hR
  have hT:okT l a most=true:=by
   have h0:0≤most:=by simp at h; omega
   rw [hR,ZaG _ (by omega) (by omega),ZaG _ (by omega) (by omega)] at h
   rw [Z11 (↑l.length - _) (by omega)] at h
   first
   | rw [Z11 (valR _) (by omega)] at h
   | rw [ZaG _ (by omega) (by omega)] at h
   simp only [okT,hR,Bool.true_and,decide_eq_true_eq]
   simp at h; omega
  have hT2:0≤most∧valR (Z1r l a)≤most∧nextR a (Z1r l a)+valR (Z1r l a)≤l.length:=by simpa [okT,hR] using hT
  have g1:IntKind.i64.wrap (valR (Z1r l a))=valR (Z1r l a):=Z11 _ (by omega)
  have g2:IntKind.i64.wrap (nextR a (Z1r l a)+valR (Z1r l a))=nextR a (Z1r l a)+valR (Z1r l a):=Z11 _ (by omega)
  ((first | with_reducible refine holds_of_ex X 400 _ _ _ ?_ | skip); simp only [push_cast,reduceCtorEq,Nat.reduceAdd,Nat.reduceMul,Nat.reduceSub,Nat.reduceBEq,Nat.reduceGT,Nat.reduceLT,Int.toNat_zero,Nat.reduceLeDiff,Int.reduceEq,Int.reduceLT,Int.reduceLE,hP,hΓ,hL,hfin,g1,g2])
  refine⟨⟨by omega,by omega,by omega,by omega⟩,⟨by rw [←List.map_take,←List.map_drop]; exact Z1N _,by first | omega | (simp; omega)⟩,Z06.one ?_ rfl⟩
  rw [hT,←List.map_take,←List.map_drop,Z12]
  simp [Z8z,Z4B,hT]
def Z3X(xs:List AV):Prop:=match xs with
 | [.sl cs n,.int k _,.int k' most]=>(∃l:List UInt8,cs=l.map Z03∧n=l.length)∧n≤BIG∧k=.i64∧k'=.i64∧-9223372036854775808≤most∧most≤9223372036854775807
 | _=>False
def Z3Y(xs:List AV):AV:=match xs with
 | [.sl cs _,.int _ a,.int _ most]=>.tup [.str (Z8z (Z0w cs) a most),.int .i64 (Z4B (Z0w cs) a most),.bool (okT (Z0w cs) a most)]
 | _=>.any
def Z1R:Z0n:=Z57 Z3X Z3Y (fun _=>[]) true
attribute [push_cast] Z3X Z3Y Z1R
theorem con12{Γ:Env}(h:Z07 Tryz.prog Γ)(h10:Γ 52=some Z3d):Con Tryz.prog 51 Z1R:=by
 refine Con.of_body h (fn:=Tryz.f51) (by kernel_rfl) rfl (by kernel_rfl) (fun _ _=>rfl) fun xs hx=>?_
 unfold Z3X at hx
 split at hx
 ·obtain⟨⟨l,rfl,rfl⟩,hl,rfl,rfl,hm⟩:=hx
  rw [Z3Y,Z12]
  exact ZgC Γ h10 l _ _ hl hm
 ·exact hx.elim
theorem con13{Γ:Env}(h:Z07 Tryz.prog Γ)(h26:Γ 49=some Z3d):Con Tryz.prog 69 Z1R:=by
 refine Con.of_body h (fn:=Tryz.f69) (by kernel_rfl) rfl (by kernel_rfl) (fun _ _=>rfl) fun xs hx=>?_
 unfold Z3X at hx
 split at hx
 ·obtain⟨⟨l,rfl,rfl⟩,hl,rfl,rfl,hm⟩:=hx
  rw [Z3Y,Z12]
  exact Ze7 Γ h26 l _ _ hl hm
 ·exact hx.elim
end Go.Proofs.YtmomhjmaanagaaaGreat.objNumbersDone