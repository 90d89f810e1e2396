/- Parts of the walk through directories. Conditions stand in each. -/
import Derived.Test.YtbnnhffkbcekcaaGreatDoorGn
import Derived.Test.YtbnnhffkbcekcaaGreatDoorFg
import Derived.Test.YtbnnhffkbcekcaaGreatDoorFf
import Derived.Test.YtbnnhffkbcekcaaGreatDoorFi
set_option linter.unusedVariables false
set_option linter.unusedSimpArgs false
set_option maxRecDepth 100000
set_option maxHeartbeats 4000000
section
namespace Go.Eng
open Go
section
variable {P:Program} {m:Mem} {L:Z01} {w:World}
theorem Z7M(hW:Z0D m L w)(t tx ty:TypeId)(k:IntKind)(q:Int){e:TypeId}{k0:IntKind}(hu:P.underlying t=some (.slice e))(hux:P.underlying tx=some (.int k0))
  (hek:Z2j P e=true) (hzo:Z0b (zeroA P e).cells=true) (h0:0<q) (hroom:q.toNat*P.bytesOf e≤140737488355328) :
  ∃u' w' m',(Builtin.append_ #[t,tx] ty #[.slice none 0 0,.int k q]).run P w=.ok u' w'∧Z03 m' (L++[.row (reps q.toNat (zeroA P e).cells) (P.cellsOf e) 0]) (.msl L.length 0 0 q.toNat) u'∧
   Z0D m' (L++[.row (reps q.toNat (zeroA P e).cells) (P.cellsOf e) 0]) w'∧Ext m L w m' (L++[.row (reps q.toNat (zeroA P e).cells) (P.cellsOf e) 0]) w':=by
 obtain⟨hz,hzl,hs,hb⟩:=Z1f hek
 obtain⟨z,i,hi,hzi,hza,hzr⟩:=Z0K (w:=w) hz
 obtain⟨z',i',hi',hzi',hza',hzr'⟩:=Z0K (w:=w.drew) hz
 have hzz:z'=z:=by rw [hi] at hi'; cases hi'; rw [hzi] at hzi'; exact (Option.some.inj hzi').symm
 subst hzz
 have hzc:Z0a m L (zeroA P e).cells z'.cells.toList:=by rw [hza]; exact Z1l z'
 have hzcl:=hzc.length
 have hzs:z'.cells.size=P.cellsOf e:=by simp at hzcl; omega
 have hrel:=Z3c hzc q.toNat (by omega)
 rw [hzl] at hrel
 have hzc2:(Builtin.zeroCells z'.cells q.toNat).toList=((Array.range (q.toNat*P.cellsOf e)).map (z'.cells[· % z'.cells.size]!)).toList:=by rw [Builtin.zeroCells,hzs]
 have hvl:((Array.range (q.toNat*P.cellsOf e)).map (z'.cells[· % z'.cells.size]!)).toList.length=q.toNat*P.cellsOf e:=by simp
 have hqr:q≤140737488355328:=by
  have:q.toNat*1≤q.toNat*P.bytesOf e:=Nat.mul_le_mul_left _ hb
  omega
 have hwq:IntKind.i64.wrap q=q:=IntWalk.i64_in q (by omega)
 have hsz2:=Z0e (P:=P) (w:=w) (t:=e) (by rw [hi]; rfl)
 obtain⟨i2,hie,hcs,hby⟩:=Z3h (P:=P) (t:=e) (by rw [hi]; rfl)
 rw [hi] at hie; obtain rfl:=Option.some.inj hie
 have hti:(typeInfo e).run P w=.ok i w:=by simp [typeInfo,hi]
 have hti':(typeInfo e).run P w.drew=.ok i w.drew:=by simp [typeInfo,hi]
 have hb0:i.bytes≠0:=by rw [←hby]; omega
 have hqb:¬(281474976710656:Int)<q*i.bytes:=by
  have h2:(q.toNat:Int)=q:=by omega
  have h5:((q.toNat*P.bytesOf e:Nat):Int)=q*i.bytes:=by rw [Int.natCast_mul,h2,hby]
  rw [←h5]
  omega
 have hqb2:¬(281474976710656:Int)<q*(P.bytesOf e:Int):=by rw [hby]; exact hqb
 have hbig:¬(9223372036854775807:Int)<max q 0:=by omega
 obtain⟨c,hc2⟩:∃c,c=(Question.appendCap q.toNat 0 e).cut (w.tape w.drawn (.appendCap q.toNat 0 e)):=⟨_,rfl⟩
 have hn:q.toNat<2 ^ 63:=by omega
 have hle:q.toNat≤c:=by rw [hc2]; exact Z7k _ _ _ _ hn
 have hold:(Builtin.firstCells (P.cellsOf e) 0 (.slice none 0 0)).run P w.drew=.ok (#[]:Array Value) w.drew:=by
  simp [Builtin.firstCells]
 obtain⟨vs,hvs⟩:∃vs,vs=((Array.range (q.toNat*P.cellsOf e)).map (z'.cells[· % z'.cells.size]!)).toList:=⟨_,rfl⟩
 rw [←hvs] at hrel hvl hzc2
 have hP:Z18 w (w.drew.alloc (.cells ((#[]:Array Value)++vs.toArray++Builtin.zeroCells z'.cells (c - q.toNat)) e)) (.cells (vs++(Builtin.zeroCells z'.cells (c - q.toNat)).toList).toArray e (0,0)):=by
  have:((#[]:Array Value)++vs.toArray++Builtin.zeroCells z'.cells (c - q.toNat))=(vs++(Builtin.zeroCells z'.cells (c - q.toNat)).toList).toArray:=by simp
  rw [this]; exact⟨rfl,rfl,rfl,rfl⟩
 have hlen:vs.length+(Builtin.zeroCells z'.cells (c - q.toNat)).toList.length=c*P.cellsOf e:=by
  rw [Z1k,hzs,hvl,←Nat.add_mul]; congr 1; omega
 have hfits:=growslice_fits (need:=q.toNat) (old:=0) (bytes:=P.bytesOf e) (by omega) hroom
 have hva:vs.toArray=Builtin.zeroCells z'.cells q.toNat:=by rw [←hzc2]
 refine⟨.slice (some ⟨w.heap.size,0,none⟩) q.toNat c,_,m.put L.length w.heap.size c,?_,?_,Z2u hW hP hrel hlen (.inl rfl),Z1r _ _ hP.keep⟩
 ·rw [hva,hc2]
  have hq0:¬q.toNat=0:=by omega
  have hqc:¬q.toNat*P.cellsOf e=0:=Nat.mul_ne_zero hq0 (by omega)
  simp [Builtin.append_,Z00 hu,hsz2,Z00 hux,asInt,asIntOf,hwq,show ¬q<0 by omega,show ¬q≤0 by omega,hti,hti',hqb,hqb2,hbig,hb0,←hby,show ¬281474976710656<Builtin.nextslicecap q.toNat 0*P.bytesOf e by omega,Question.forced,hzr',hold,newRow,hqc,hq0]
 ·have hcl:=hrel.length
  rw [hvl] at hcl
  exact Z4z _ _ _ _ _ (by rw [←hcl]; exact Nat.le_refl _) hle
end
section
variable {X:Cx} {k:List It} {fr:List AV} {L:Z01}
theorem ZgT{o:Oper}{x y:Operand}{t e:TypeId}(ho:o.op=.slice t x none (some y) none)(ht:X.P.underlying t=some (.slice e))(hie:(X.P.info? e).isSome=true){id ver n j sz:Nat}{cs:List AV}(hx:opd fr x=.msl id ver 0 n)
  (hy:opd fr y=.int .i64 ((j:Nat):Int)) (hL:L[id]?=some (.row cs sz ver)) (hsz:sz=X.P.cellsOf e) (hs0:0<sz) (hcs:cs.length=n*sz) (hjn:j≤n) (hn0:0<n) :
  Z8e X fr L o fun v L'=>v=.msl id (ver+1) 0 j∧L'=L.set id (.row (cs.take (j*sz)) sz (ver+1)):=by
 intro m a w hR
 have hlt:id<L.length:=(List.getElem?_eq_some_iff.1 hL).1
 have hu:=Z0Z hR.frel x
 rw [hx] at hu
 obtain⟨k1,k2,b,hub,hbb⟩:=Z0N hu (Z4f hL)
 rw [Nat.sub_zero] at hub
 have hcap:m.cap id≠0:=by omega
 have hb:b=some ⟨m.blk id,0,none⟩:=by
  rcases hbb with h | h
  ·omega
  ·rw [h,Nat.zero_mul]
 subst hb
 have hyv:a.eval y=.int .i64 ((j:Nat):Int):=by
  have:=Z0Z hR.frel y
  rw [hy] at this
  simpa only [Z03] using this
 have hbd:(Instr.sliceBounds true n (m.cap id) none (some (.int .i64 ((j:Nat):Int))) none).run X.P w=.ok (0,j,m.cap id) w:=by
  simp [Instr.sliceBounds,Instr.sliceBound,asIntOf,show ¬m.cap id<j by omega]
 obtain⟨us,rest,elem,lo,hi,hblk,hcr,hlen,hfz⟩:=hR.wrel.rows _ _ _ _ hL hcap
 have hul:=hcr.length
 have hmul:j*sz≤n*sz:=Nat.mul_le_mul_right _ hjn
 have hsplit:us++rest=us.take (j*sz)++(us.drop (j*sz)++rest):=by rw [←List.append_assoc,List.take_append_drop]
 have hCh:Chg w w (m.blk id) (.cells (us.take (j*sz)++(us.drop (j*sz)++rest)).toArray elem (lo,hi)):=by rw [←hsplit]; exact Z7C w _ hblk
 obtain⟨t1,t2⟩:=Z2Y hR.wrel hL (cs:=cs.take (j*sz)) (ver':=ver+1) (g:=m.blk id) (c:=m.cap id) (.inl ⟨rfl,hcap⟩) hCh (hcr.take _) (by simp; omega) hfz hcap (.inr rfl)
 refine⟨.msl id (ver+1) 0 j,L.set id (.row (cs.take (j*sz)) sz (ver+1)),.slice (some ⟨m.blk id,0,none⟩) j (m.cap id),w,m.put id (m.blk id) (m.cap id),?_,?_,t1,t2,rfl,rfl⟩
 ·have hsd:slicedAt (⟨m.blk id,0,none⟩:Addr) 0 j (m.cap id) (X.P.cellsOf e)=.slice (some ⟨m.blk id,0,none⟩) j (m.cap id):=by
   unfold slicedAt; split <;> simp [Addr.add]
  simp [execOp,ho,Instr.sliceAt,Z00 ht,Instr.slice,hub,hyv,hbd,Z0e hie,hcap,Addr.add]
 ·simp only [Z03]
  refine⟨cs.take (j*sz),sz,ver+1,by simp [hlt],Nat.le_refl _,⟨_,_,_,rfl⟩,fun _=>⟨by simp; omega,by simp [Mem.put]; omega,some ⟨m.blk id,0,none⟩,by simp [Mem.put],.inr (by simp [Mem.put])⟩⟩
theorem Z5j{o:Oper}{x:Operand}{t e:TypeId}(ho:o.op=.call { callee:=.builtin .cap,args:=#[x],argTypes:=#[t] })(ht:X.P.underlying t=some (.slice e))(hx:opd fr x=.lit (.slice none 0 0)) :
  Z8e X fr L o fun v L'=>v=.int .i64 0∧L'=L:=by
 intro m a w hR
 have hu:=Z0Z hR.frel x
 rw [hx] at hu
 simp only [Z03] at hu
 refine⟨.int .i64 0,L,.int .i64 0,w,m,?_,by simp [Z03],hR.wrel,Ext.refl,rfl,rfl⟩
 simp [execOp,ho,resolve,invoke,builtin,Builtin.cap_,Z00 ht,hu,goInt]
theorem ZbC{o:Oper}{x y:Operand}{t e:TypeId}(ho:o.op=.slice t x none (some y) none)(ht:X.P.underlying t=some (.slice e))(hie:(X.P.info? e).isSome=true)(hx:opd fr x=.lit (.slice none 0 0))(hy:opd fr y=.int .i64 0) :
  Z8e X fr L o fun v L'=>v=.lit (.slice none 0 0)∧L'=L:=by
 intro m a w hR
 have hu:=Z0Z hR.frel x
 rw [hx] at hu
 simp only [Z03] at hu
 have hyv:=Z0Z hR.frel y
 rw [hy] at hyv
 simp only [Z03] at hyv
 refine⟨.lit (.slice none 0 0),L,.slice none 0 0,w,m,?_,by simp [Z03],hR.wrel,Ext.refl,rfl,rfl⟩
 simp [execOp,ho,Instr.sliceAt,Z00 ht,Instr.slice,hu,hyv,Instr.sliceBounds,Instr.sliceBound,asIntOf,Z0e hie]
theorem Z9G{o:Oper}{x y:Operand}{t tx e:TypeId}{k0:IntKind}(ho:o.op=.call { callee:=.builtin .append,args:=#[x,y],argTypes:=#[t,tx] })(ht:X.P.underlying t=some (.slice e))(htx:X.P.underlying tx=some (.int k0))
  (hek:Z2j X.P e=true) (hzo:Z0b (zeroA X.P e).cells=true) {q:Nat} (hx:opd fr x=.lit (.slice none 0 0)) (hy:opd fr y=.int .i64 ((q:Nat):Int)) (hq:0<q) (hroom:q*X.P.bytesOf e≤140737488355328) :
  Z8e X fr L o fun v L'=>v=.msl L.length 0 0 q∧L'=L++[.row (reps q (zeroA X.P e).cells) (X.P.cellsOf e) 0]:=by
 intro m a w hR
 have hu:=Z0Z hR.frel x
 rw [hx] at hu
 simp only [Z03] at hu
 have hyv:a.eval y=.int .i64 ((q:Nat):Int):=by
  have:=Z0Z hR.frel y
  rw [hy] at this
  simpa only [Z03] using this
 obtain⟨u',w',m',h1,h2,h3,h4⟩:=Z7M (P:=X.P) hR.wrel t tx o.type .i64 ((q:Nat):Int) ht htx hek hzo (by omega) (by rw [Int.toNat_natCast]; exact hroom)
 rw [Int.toNat_natCast] at h2 h3 h4
 refine⟨_,_,u',w',m',?_,h2,h3,h4,rfl,rfl⟩
 simp [execOp,ho,resolve,invoke,builtin,hyv,hu,h1]
end
end Go.Eng
namespace Go.Proofs.YtbnnhffkbcekcaaGreatDoor.dirDone
open Go Go.Eng Go.Proofs Go.Lib
def k131:Nat→Ct:=fun n=>⟨([.lit (.slice none 0 0),.int .i64 n],[]),n≤1000000,.msl 0 0 0 0,[.row [] 4 0]⟩
theorem inj131:∀a b,(k131 a).a=(k131 b).a→a=b:=by
 rintro n n' h
 simp only [k131,Z0g,Z0h,Z0A,List.cons.injEq] at h
 simp_all only
noncomputable def S131:Z0n:=Z0W true k131
theorem ks131(n:Nat):KS k131 ([.lit (.slice none 0 0),.int .i64 n],[]) (n≤1000000) (.msl 0 0 0 0) ([.row [] 4 0]):=kat inj131 n
attribute [push_cast] S131 ks131
theorem body131(Γ:Env)(n:Nat)(hn:n≤1000000)(h0:0<n):Z08 Tryz.prog Γ Tryz.f131 [.lit (.slice none 0 0),.int .i64 n] [] (.msl 0 0 0 0) [.row [] 4 0]:=by
 have d0:decide ((n:Int)<0)=false:=decide_eq_false (by omega)
 have w1:IntKind.i64.wrap (n:Int)=(n:Int):=wrq
 have d1:decide ((0:Int)<(n:Int))=true:=decide_eq_true (by omega)
 refine stt 27 [.tmp 4] fun X hP hΓ hL hfin=>?_; refine gmq 9 d0 ?_
 refine Z02.reg ?_
 refine Z04.ev 2 (Z1S ?_)
 refine Z04.op rfl (Z5j rfl (by rw [hP]; exact Tryz.underlying96) rfl) (fun vv L' h=>?_)
 obtain⟨rfl,rfl⟩:=h
 simp only [Z1R,List.set_cons_succ,List.set_cons_zero]
 have w0:IntKind.i64.wrap 0=0:=by decide
 refine Z04.ev 5 (gzq (cj3 w0 w1 @Int.sub_zero) ?_)
 refine Z04.nil ?_
 refine gnq 3 d1 ?_
 refine Z02.reg ?_
 refine Z04.ev 2 (Z1S ?_)
 refine Z04.op rfl (Z5j rfl (by rw [hP]; exact Tryz.underlying96) rfl) (fun vv L' h=>?_)
 obtain⟨rfl,rfl⟩:=h
 simp only [Z1R,List.set_cons_succ,List.set_cons_zero]
 refine Z04.op rfl (ZbC rfl (by rw [hP]; exact Tryz.underlying96) smp rfl rfl) (fun vv L' h=>?_)
 obtain⟨rfl,rfl⟩:=h
 simp only [Z1R,List.set_cons_succ,List.set_cons_zero]
 refine Z04.ev 1 (Z1S ?_)
 refine Z04.op rfl (Z9G rfl (by rw [hP]; exact Tryz.underlying96) (by rw [hP]; exact Tryz.underlying3) smp smp rfl rfl h0 (by rw [hP,show Tryz.prog.bytesOf 134=56 by kernel_rfl]; omega)) (fun vv L' h=>?_)
 obtain⟨rfl,rfl⟩:=h
 simp only [Z1R,List.set_cons_succ,List.set_cons_zero,hP,hL]
 have hz:(reps n (zeroA Tryz.prog 134).cells).length=n*4:=by rw [Z1N,show (zeroA Tryz.prog 134).cells.length=4 by kernel_rfl]
 rw [show Tryz.prog.cellsOf 134=4 by kernel_rfl]
 generalize reps n (zeroA Tryz.prog 134).cells=Z at *
 refine Z04.ev 2 (Z1S ?_)
 refine Z04.op rfl (ZgT (j:=0) (sz:=4) rfl (by rw [hP]; exact Tryz.underlying96) smp rfl rfl rfl smp (by decide) hz (Nat.zero_le _) h0) (fun vv L' h=>?_)
 obtain⟨rfl,rfl⟩:=h
 simp only [Z1R,List.set_cons_succ,List.set_cons_zero,Nat.zero_mul,List.take_zero]
 refine Z04.ev 1 (Z1S ?_)
 refine Z04.nil ?_
 refine Z0G ?_
 refine Z0q.ver 0  0 sm smv (gsq ?_)
 exact Z06.sameA
theorem body131n(Γ:Env):Z08 Tryz.prog Γ Tryz.f131 [.lit (.slice none 0 0),.int .i64 (0:Nat)] [] (.msl 0 0 0 0) [.row [] 4 0]:=by
 rw [Int.natCast_zero]
 have w0:IntKind.i64.wrap 0=0:=by decide
 have w1:IntKind.i64.wrap (0 - 0)=0:=by decide
 refine stt 27 [.tmp 4] fun X hP hΓ hL hfin=>?_; refine ZlH 9 ?_
 refine Z02.reg ?_
 refine Z04.ev 2 (Z1S ?_)
 refine Z04.op rfl (Z5j rfl (by rw [hP]; exact Tryz.underlying96) rfl) (fun vv L' h=>?_)
 obtain⟨rfl,rfl⟩:=h
 simp only [Z1R,List.set_cons_succ,List.set_cons_zero]
 refine Z04.ev 5 (gzq (cj3 w0 w1 @Int.sub_zero) ?_)
 refine Z04.nil ?_
 refine Z0G ?_
 refine Z0q.nil 0  4 rfl (gsq ?_)
 exact Z06.sameA
theorem con131{Γ:Env}(h:Z07 Tryz.prog Γ):Con Tryz.prog 131 S131:=
 kcn h (fn:=Tryz.f131) inj131 fun n h=>(Nat.eq_zero_or_pos n).elim (fun e=>by subst e; exact body131n Γ) (body131 Γ n h)
def cc1(a n:Nat):Nat→Int | 0=>0 | 1=>(a:Int) | _=>(n:Int)
def cc2(A B:List Fl):Nat→List Fl | 0=>[] | 1=>A | _=>A++B
theorem Zka(A B:List Fl):cc2 A B 0=[]:=rfl
theorem Zk9(A B:List Fl):cc2 A B 1=A:=rfl
theorem ZhE(A B:List Fl):cc2 A B 2=A++B:=rfl
theorem ZhH(a n:Nat):cc1 a n 0=0:=rfl
theorem ZhG(a n:Nat):cc1 a n 1=a:=rfl
theorem ZhF(a n:Nat):cc1 a n 2=n:=rfl
def e86:List Fl×List Fl→List AV×Z01:=fun (A,B)=>([.msl 0 0 0 2],[.row [.sl (A.flatMap flC) A.length,.sl (B.flatMap flC) B.length] 1 0])
def p86:List Fl×List Fl→Prop:=fun (A,B)=>A.length+B.length≤1000000
def r86:List Fl×List Fl→AV:=fun (A,B)=>.msl 1 0 0 (A.length+B.length)
def g86:List Fl×List Fl→Z01:=fun (A,B)=>[.row [.sl (A.flatMap flC) A.length,.sl (B.flatMap flC) B.length] 1 0,.row ((A++B).flatMap flC) 4 0]
theorem inj86:∀a b,e86 a=e86 b→a=b:=by
 rintro⟨A,B⟩ ⟨A',B'⟩ h
 simp only [e86,Z0g,Z0h,Z0x,Z0A,List.cons.injEq] at h
 simp_all only
noncomputable def S86:Z0n:=Z6L e86 p86 r86 g86
theorem ps86(A B:List Fl):Z1Y e86 p86 ([.msl 0 0 0 2],[.row [.sl (A.flatMap flC) A.length,.sl (B.flatMap flC) B.length] 1 0])=(A.length+B.length≤1000000):=Z0J inj86 p86 (A,B)
theorem rs86(A B:List Fl):Z0U e86 r86 .any ([.msl 0 0 0 2],[.row [.sl (A.flatMap flC) A.length,.sl (B.flatMap flC) B.length] 1 0])=(.msl 1 0 0 (A.length+B.length)):=Z0d inj86 r86 .any (A,B)
theorem hs86(A B:List Fl):Z0U e86 g86 [] ([.msl 0 0 0 2],[.row [.sl (A.flatMap flC) A.length,.sl (B.flatMap flC) B.length] 1 0])=([.row [.sl (A.flatMap flC) A.length,.sl (B.flatMap flC) B.length] 1 0,.row ((A++B).flatMap flC) 4 0]):=Z0d inj86 g86 [] (A,B)
attribute [push_cast] S86 ps86 rs86 hs86
theorem body86(Γ:Env)(h131:Γ 131=some S131)(A B:List Fl)(hl:A.length+B.length≤1000000):Z08 Tryz.prog Γ Tryz.f86 [.msl 0 0 0 2] [.row [.sl (A.flatMap flC) A.length,.sl (B.flatMap flC) B.length] 1 0] (.msl 1 0 0 (A.length+B.length)) [.row [.sl (A.flatMap flC) A.length,.sl (B.flatMap flC) B.length] 1 0,.row ((A++B).flatMap flC) 4 0]:=by
 obtain⟨n,hn⟩:∃n,A.length+B.length=n:=⟨_,rfl⟩
 have wa:IntKind.i64.wrap (A.length:Int)=(A.length:Int):=wrq
 have wb:IntKind.i64.wrap ((A.length:Int)+(B.length:Int))=(n:Int):=by rw [show (A.length:Int)+(B.length:Int)=(n:Int) by omega]; exact Z0t _ (by constructor <;> omega)
 have dA:decide ((A.length:Int)<0)=false:=decide_eq_false (by omega)
 have dN:decide ((n:Int)<0)=false:=decide_eq_false (by omega)
 rw [hn]
 refine stt 36 [.tmp 2] fun X hP hΓ hL hfin=>?_; refine gxq (cj3 wa wb @Int.zero_add) ?_
 refine Z02.loopM (ι:={k:Nat // k≤2}) [tt,ff,tt,ff,ff,ff,tt,ff,tt,tt,tt,ff,ff,ff,ff,ff,ff,ff,ff,ff,ff,ff,ff,ff,ff,tt,tt,tt,ff,ff,ff,ff,ff,ff,ff,ff] (fun i=>[(3,.int .i64 (cc1 A.length n i.1)),(11,.int .i64 i.1)]) (fun i=>[.row [.sl (A.flatMap flC) A.length,.sl (B.flatMap flC) B.length] 1 0]) (fun i=>2 - i.1) ⟨0,by omega⟩ ?_ ?_
 ·(rw [hL]; simp only [push_cast,Int.natCast_zero,ZhH]; exact Z06.sameA)
 rintro⟨k,hk⟩
 dsimp only
 have w1:IntKind.i64.wrap 1=1:=by decide
 have w2:IntKind.i64.wrap (1+1)=2:=by decide
 have d0:decide ((0:Int)<1+1)=true:=by decide
 have d1:decide ((1:Int)<1+1)=true:=by decide
 have d2:decide ((1+1:Int)<1+1)=false:=by decide
 rcases k with _ | _ | _ | k
 ·refine gxq (Z9a wa wb @Int.zero_add @ZhH @ZhG @ZhF dA dN d0 d1 d2 w1) ?_
  refine⟨by omega,⟨1,by omega⟩,by simp only; omega,?_⟩
  rw [ZhG]
  exact Z06.sameA
 ·refine gxq (Z9a wa wb @Int.zero_add @ZhH @ZhG @ZhF dA dN d0 d1 d2 w2) ?_
  refine⟨by omega,⟨2,by omega⟩,by simp only; omega,?_⟩
  rw [ZhF]
  exact Z06.sameA
 ·have ⟨p1,r1,g1⟩:=ks131 n
  refine gxq (Zk8 wa wb @Int.zero_add @ZhH @ZhG @ZhF dA dN d0 d1 d2 h131 p1 r1 g1) ?_
  refine⟨by omega,?_⟩
  refine Z02.loopM (ι:={k:Nat // k≤2}) [ff,ff,tt,ff,ff,ff,ff,ff,ff,ff,ff,ff,ff,ff,ff,ff,ff,ff,ff,ff,ff,ff,ff,ff,ff,tt,tt,ff,ff,ff,ff,ff,ff,ff,ff,ff] (fun i=>[(6,.msl 1 i.1 0 (cc2 A B i.1).length),(27,.int .i64 i.1)]) (fun i=>[.row [.sl (A.flatMap flC) A.length,.sl (B.flatMap flC) B.length] 1 0,.row ((cc2 A B i.1).flatMap flC) 4 i.1]) (fun i=>2 - i.1) ⟨0,by omega⟩ ?_ ?_
  ·(rw [hL]; simp only [push_cast,Int.natCast_zero,Zka,List.length_nil,List.flatMap_nil]; exact Z06.sameA)
  rintro⟨k,hk⟩
  dsimp only
  rcases k with _ | _ | _ | k
  ·refine gxq (cj8 d0 d1 d2 @Int.zero_add @Zka @Zk9 @ZhE w1) ?_
   refine⟨by omega,by omega,⟨1,by omega⟩,by simp only; omega,?_⟩
   simp only [Zk9,List.flatMap_nil,List.nil_append]
   exact Z06.sameA
  ·refine gxq (cj8 d0 d1 d2 @Int.zero_add @Zka @Zk9 @ZhE w2) ?_
   refine⟨by omega,by omega,⟨2,by omega⟩,by simp only; omega,?_⟩
   simp only [ZhE,List.length_append,List.flatMap_append]
   exact Z06.sameA
  ·rw [ZhE]
   have hl2:(A++B).length=n:=by rw [List.length_append,hn]
   generalize A++B=C at *
   rw [hl2]
   refine gxq (cj2 d2 @Int.zero_add) ?_
   refine Z0q.ver 1  0 sm smv (gsq ?_)
   exact Z06.sameA
  ·omega
 ·omega
theorem con86{Γ:Env}(h:Z07 Tryz.prog Γ)(h131:Γ 131=some S131):Con Tryz.prog 86 S86:=
 Z2f h (fn:=Tryz.f86) (by kernel_rfl) rfl (by kernel_rfl) inj86 fun ⟨A,B⟩ h=>body86 Γ h131 A B h
def deZ(F:List Fl)(Lv U:List Int)(S:List Sec)(W:List Wr)(nm:List UInt8):Z01:=if fiB F nm=true then lyZ (delL F nm) F Lv (delG F nm) U S W else Z0z F Lv U S W
def k35:List Fl×List Int×List Int×List Sec×List Wr×List UInt8→Ct:=fun (F,Lv,U,S,W,nm)=>⟨([.ref 0 0 0,.str nm],Z0z F Lv U S W),F.length≤200∧srt F∧(∀f∈F,Z1p f∧f.se.length≤1000000)∧Lv.length≤1000∧U.length≤1048576∧S.length≤4096∧W.length≤4096,.int .i64 (delR F U W nm),deZ F Lv U S W nm⟩
theorem inj35:∀a b,(k35 a).a=(k35 b).a→a=b:=by
 rintro⟨F,Lv,U,S,W,nm⟩ ⟨F',Lv',U',S',W',nm'⟩ h
 simp only [k35,Z0g,Z0h,Z0k,Z0j,UInt8.toNat_inj,Z09,Z0c,Z0x,Z0o,Z1g,Z19,Z1L,Z0z,Z0E,Z0A,List.cons.injEq] at h
 simp_all only
noncomputable def S35:Z0n:=Z0W true k35
theorem ks35(F:List Fl)(Lv U:List Int)(S:List Sec)(W:List Wr)(nm:List UInt8):KS k35 ([.ref 0 0 0,.str nm],Z0z F Lv U S W) (F.length≤200∧srt F∧(∀f∈F,Z1p f∧f.se.length≤1000000)∧Lv.length≤1000∧U.length≤1048576∧S.length≤4096∧W.length≤4096) (.int .i64 (delR F U W nm)) (deZ F Lv U S W nm):=kat inj35 (F,Lv,U,S,W,nm)
attribute [push_cast] S35 ks35
theorem body35(Γ:Env)(h77:Γ 77=some S77)(h85:Γ 85=some S85)(h86:Γ 86=some S86)(F:List Fl)(Lv U:List Int)(S:List Sec)(W:List Wr)(nm:List UInt8)
  (hF:F.length≤200) (hs:srt F) (ho:∀f∈F,Z1p f∧f.se.length≤1000000) (hLv:Lv.length≤1000) (hU:U.length≤1048576) (hS:S.length≤4096) (hW:W.length≤4096) :
  Z08 Tryz.prog Γ Tryz.f35 [.ref 0 0 0,.str nm] (Z0z F Lv U S W) (.int .i64 (delR F U W nm)) (deZ F Lv U S W nm):=by
 have ⟨p77,r77,g77⟩:=ks77 F Lv U S W nm
 unfold delR deZ
 by_cases c1:fiB F nm=true
 case neg=>
  have c1':fiB F nm=false:=by simpa using c1
  rw [if_neg c1,if_neg c1]
  rw [c1'] at r77
  unfold Z0z at *
  refine stt 42 [.tmp 4] fun X hP hΓ hL hfin=>?_; refine gxq (cj4 h77 p77 r77 g77) ?_
  refine⟨⟨by decide,by omega,hs⟩,?_⟩
  exact Z06.keep6A
 rw [if_pos c1,if_pos c1]
 rw [c1] at r77
 have hi:=Z54 c1
 obtain⟨A,hA⟩:∃A,A=F.take (fiN F nm):=⟨_,rfl⟩
 obtain⟨B,hB⟩:∃B,B=F.drop (fiN F nm+1):=⟨_,rfl⟩
 have hL:delL F nm=A++B:=by rw [hA,hB]; rfl
 have lA:A.length=fiN F nm:=by rw [hA,List.length_take]; omega
 have lB:B.length=F.length - (fiN F nm+1):=by rw [hB,List.length_drop]
 have fA:List.take (fiN F nm*4) (F.flatMap flC)=A.flatMap flC:=by rw [hA]; exact Z1W (n:=4) F _
 have fB:List.drop ((fiN F nm+1)*4) (F.flatMap flC)=B.flatMap flC:=by rw [hB]; exact Z1d (n:=4) F _
 have fF:=Z2i F
 have gse:=fun d=>ZjB F (fiN F nm) d hi
 have hall:∀f∈delL F nm,Z1p f:=fun f hf=>(ho f (Z4K hf)).1
 have hgo:(delG F nm).length≤1000000:=by unfold delG; exact (ho _ (by rw [Z0m hi]; exact List.getElem_mem hi)).2
 rw [show (F.getD (fiN F nm) default).se=delG F nm from rfl] at gse
 have p85:=Zdl (delL F nm) F Lv (delG F nm) U S W
 have r85:=Zcv (delL F nm) F Lv (delG F nm) U S W
 have g85:=ZdZ (delL F nm) F Lv (delG F nm) U S W
 have p86:=ps86 A B
 have r86:=rs86 A B
 have g86:=hs86 A B
 rw [hL] at p85 r85 g85 hall ⊢
 rw [List.length_append] at p85 r85 g85
 rw [lA,lB] at p85 r85 g85 p86 r86 g86
 have wi:IntKind.i64.wrap ((fiN F nm:Int)+1)=((fiN F nm+1:Nat):Int):=by rw [Z0t _ (by constructor <;> omega)]; rfl
 generalize fiN F nm=i at *
 generalize delG F nm=gone at *
 have s0:=Nat.sub_zero i
 have lL:(A++B).length=i+(F.length - (i+1)):=by rw [List.length_append,lA,lB]
 clear hL hA hB
 generalize hn:i+(F.length - (i+1))=n at *
 generalize A++B=L at *
 have fL:List.take (n*4) (L.flatMap flC)=L.flatMap flC:=by rw [←lL]; exact Z2i L
 unfold Z0z at *
 refine stt 42 [.tmp 4] fun X hP hΓ hL hfin=>?_; refine gxq (cj4 h77 p77 r77 g77) ?_
 refine⟨⟨by decide,by omega,hs⟩,?_⟩
 refine Z02.drawnF 24 7 (Z1s [.fix (.row [.ref 1 0 0,.sl (F.flatMap flC) F.length,.msl 2 Lv.length 0 Lv.length,.msl 3 0 0 U.length] 4 0)]) [1,2,3,4,5,6,7,8,9,10,11,12,13,14,15,24,25] [] [] (Z1s []) false smp (by kernel_rfl) (by kernel_rfl) (by kernel_rfl) (by kernel_rfl) (by decide) smh smh sms ?_; simp (maxSteps:=1000000) only [↓reduceIte,Z2Q,Za1,Z9T,or_true,true_or,Option.getD_some,List.take_succ_cons,List.take_zero,List.drop_succ_cons,List.drop_zero,push_cast,reduceCtorEq,Nat.reduceAdd,Nat.reduceMul,Nat.reduceSub,Nat.reduceBEq,Nat.reduceGT,Nat.reduceLT,Int.toNat_zero,Nat.reduceLeDiff,Int.reduceEq,Int.reduceLT,Int.reduceLE,hP,hΓ,hL,hfin,String.reduceEq,Int.toNat_one,Bool.not_not,s0,wi,fA,fB,fF,fL,h86,p86,r86,g86,gse,h85,p85,r85,g85]
 refine⟨⟨by omega,by omega⟩,⟨by omega,by omega,by omega⟩,by omega,by omega,by omega,⟨by decide,⟨by omega,hall⟩,hLv,hgo,hU,hS,hW⟩,?_⟩
 unfold lyZ at hfin ⊢
 by_cases c5:Z2l L W U
 ·simp only [if_pos c5] at hfin ⊢
  refine Z0G ?_
  exact Z0q.base [0,1,2,3,4,5,8] ⟨sml,smr,(by decide),(by first | rfl | decide),sm,sm⟩ smd
 ·simp only [if_neg c5] at hfin ⊢
  unfold Z0z at hfin ⊢
  refine Z0G ?_
  exact Z06.keep6A
theorem con35{Γ:Env}(h:Z07 Tryz.prog Γ)(h77:Γ 77=some S77)(h85:Γ 85=some S85)(h86:Γ 86=some S86):Con Tryz.prog 35 S35:=
 kcn h (fn:=Tryz.f35) inj35 fun ⟨F,Lv,U,S,W,nm⟩ ⟨hF,hs,ho,hLv,hU,hS,hW⟩=>body35 Γ h77 h85 h86 F Lv U S W nm hF hs ho hLv hU hS hW
end Go.Proofs.YtbnnhffkbcekcaaGreatDoor.dirDone
end
section
namespace Go.Proofs.YtbnnhffkbcekcaaGreatDoor.dirDone
open Go Go.Eng Go.Proofs Go.Lib Go.Shelf Go.RowKit Go.Sort
theorem Zp1(a b:ByteArray)(x1 x2 x3 y1 y2 y3:Value)(W:World):Calls Tryz.prog 88 #[.agg #[.string a,x1,x2,x3],.agg #[.string b,y1,y2,y3]] W fun e w'=>e=.returned (.int .i64 (Lib.compareBytes a.data.toList b.data.toList))∧∃q os',w'=grow (W.drewN q) os':=by
 have hcon:=fun W'=>Any.strings_Compare Tryz.lays106 a b W'
 change ∀W',Calls Tryz.prog 89 _ _ _ at hcon
 generalize Lib.compareBytes a.data.toList b.data.toList=r at hcon ⊢
 go_enter Tryz.func88,Tryz.ntmps88
 go_wp2_with (go_at_call 89; refine (hcon _).mono ?_; rintro e w' ⟨rfl,rfl⟩)
 go_ret
 exact⟨rfl,0,_,by rw [alloc_eq_grow,alloc_eq_grow,grow_grow]; rfl⟩
structure Qe(m:Mem)(L:Z01) where
 f:Fl
 us:List Value
 rel:Z0a m L (flC f) us
section
variable {m:Mem} {L:Z01}
theorem Qe.at(q:Qe m L):∃x1 x2 x3,q.us=[.string ⟨q.f.nm.toArray⟩,x1,x2,x3]∧x1.oneCell'=true∧x2.oneCell'=true∧x3.oneCell'=true:=by
 have h:=q.rel
 simp only [flC,Z0a,Z03] at h
 obtain⟨_,_,e,rfl,_,_,rfl,rfl,_,_,rfl,rfl,_,_,rfl,⟨a,c,rfl,_⟩,rfl⟩:=h
 exact⟨_,_,_,e,rfl,rfl,rfl⟩
theorem Qe.len(q:Qe m L):q.us.length=4:=by obtain⟨_,_,_,e,_⟩:=q.at; rw [e]; rfl
theorem Qe.one(q:Qe m L):∀v∈q.us,v.oneCell'=true:=by
 obtain⟨x1,x2,x3,e,h1,h2,h3⟩:=q.at
 rw [e]
 intro v hv
 simp only [List.mem_cons,List.not_mem_nil,or_false] at hv
 rcases hv with rfl | rfl | rfl | rfl
 ·rfl
 ·exact h1
 ·exact h2
 ·exact h3
theorem ZkS:∀(F:List Fl) (us:List Value),Z0a m L (F.flatMap flC) us→∃Q:List (Qe m L),Q.map Qe.f=F∧Q.flatMap Qe.us=us
 | [],us,h=>⟨[],rfl,(List.eq_nil_of_length_eq_zero (by simpa using h.length)).symm⟩
 | f::F,us,h=>by
  rw [List.flatMap_cons] at h
  obtain⟨Q,h1,h2⟩:=ZkS F (us.drop 4) (h.drop 4)
  exact⟨⟨f,us.take 4,h.take 4⟩::Q,by rw [List.map_cons,h1],by rw [List.flatMap_cons,h2]; exact List.take_append_drop 4 us⟩
theorem Zdf:∀Q:List (Qe m L),Z0a m L ((Q.map Qe.f).flatMap flC) (Q.flatMap Qe.us)
 | []=>Z0a.nil _ _
 | q::Q=>by rw [List.map_cons,List.flatMap_cons,List.flatMap_cons]; exact q.rel.append (Zdf Q)
theorem Z8S[Inhabited (Qe m L)]:∀Q:List (Qe m L),(List.range (Q.length*4)).map (fun t=>(Qe.us Q.toArray[t / 4]!)[t % 4]!)=Q.flatMap Qe.us
 | []=>rfl
 | q::Q=>by
  obtain⟨x1,x2,x3,e,_⟩:=q.at
  rw [List.length_cons,Nat.add_mul,Nat.add_comm,Nat.one_mul,List.range_add,List.map_append,List.flatMap_cons,←Z8S Q,List.map_map]
  congr 1
  ·rw [e]
   simp [List.range,List.range.loop,e]
  ·refine List.map_congr_left fun t _=>?_
   simp only [Function.comp_apply,show (4+t) / 4=t / 4+1 by omega,show (4+t) % 4=t % 4 by omega]
   congr 2
   simp
theorem Z7g[Inhabited (Qe m L)](Q:List (Qe m L)):flatK Qe.us 4 Q.toArray=(Q.flatMap Qe.us).toArray:=by
 rw [←Z8S Q]
 apply Array.ext'
 simp [flatK,Array.toList_range]
end
theorem Z9D(us vs rest:List Value)(h:vs.length=us.length):Sort.putCells id 0 vs.toArray (us++rest).toArray=(vs++rest).toArray:=by
 apply Array.ext'
 simp only [Sort.putCells]
 apply List.ext_getElem?
 intro j
 simp only [Array.toList_mapIdx,List.getElem?_mapIdx,List.size_toArray]
 by_cases hj:j<vs.length
 ·have hj':j<us.length:=by omega
  rw [List.getElem?_append_left (by omega),List.getElem?_append_left (by omega)]
  simp [hj,hj']
 ·rw [List.getElem?_append_right (by omega),List.getElem?_append_right (by omega)]
  simp only [h]
  cases hr:rest[j - us.length]? with
  | none=>rfl
  | some x=>simp [show ¬j<vs.length from hj]; omega
theorem Zgf{A B:List Fl}(hA:srt A)(hB:srt B)(h:A.Perm B):A=B:=
 h.eq_of_pairwise (fun a b _ _ h1 h2=>by have:=Z2y h1 h2; rw [Z93] at this; cases this) hA hB
open Classical in
noncomputable def sortF(F:List Fl):List Fl:=if h:∃G,srt G∧G.Perm F then Classical.choose h else F
theorem Zan{F G:List Fl}(h1:srt G)(h2:G.Perm F):sortF F=G:=by
 have h:∃G,srt G∧G.Perm F:=⟨G,h1,h2⟩
 unfold sortF
 rw [dif_pos h]
 have:=Classical.choose_spec h
 exact Zgf this.1 h1 (this.2.trans h2.symm)
def ZmD:AV→Int
 | .int _ n=>n
 | _=>0
def unF:List AV→List Fl
 | .str a::.int _ h::.int _ n::.sl cs _::r=>⟨a,h,n,cs.map ZmD⟩::unF r
 | _=>[]
theorem Zc9:∀F:List Fl,unF (F.flatMap flC)=F
 | []=>rfl
 | f::F=>by
  rw [List.flatMap_cons]
  show (⟨f.nm,f.hd,f.ln,(f.se.map (AV.int .i64)).map ZmD⟩:Fl)::unF (F.flatMap flC)=_
  rw [Zc9 F,List.map_map]
  have:f.se.map (ZmD∘AV.int .i64)=f.se:=by rw [show (ZmD∘AV.int .i64)=id from rfl,List.map_id]
  rw [this]
noncomputable def Z6O:Z0n where
 pre xs L:=match xs with
  | [.msl id v o n,.fn (.func 88) [] []]=>o=0∧0<n∧n≤1048576∧∃F:List Fl,L[id]?=some (.row (F.flatMap flC) 4 v)∧n=F.length∧(F.map Fl.nm).Nodup
  | _=>False
 res _ _:=.tup []
 post xs L:=match xs with
  | [.msl id v o n,.fn (.func 88) [] []]=>L.set id (.row ((sortF (unF (Z0L L id))).flatMap flC) 4 v)
  | _=>L
 quiet:=false
theorem Zku{m:Mem}{L:Z01}[Inhabited (Qe m L)]{d:Array (Qe m L)}(h:SortedIn (ltOf fun x y:Qe m L=>Lib.compareBytes x.f.nm y.f.nm) 0 d.size d)(hd:((d.toList.map Qe.f).map Fl.nm).Nodup):srt (d.toList.map Qe.f):=by
 unfold srt
 rw [List.pairwise_map,List.pairwise_iff_getElem]
 intro i j hi hj hij
 have:=h i j (Nat.zero_le _) hij (by simpa using hj)
 rw [ltOf,decide_eq_false_iff_not,getElem!_pos d j (by simpa using hj),getElem!_pos d i (by simpa using hi)] at this
 rw [Array.getElem_toList,Array.getElem_toList]
 have e:=Z5o d[j].f.nm d[i].f.nm
 rcases Z92 d[i].f.nm d[j].f.nm with c | c | c
 ·exact c
 ·rw [List.nodup_iff_pairwise_ne,List.pairwise_map,List.pairwise_map,List.pairwise_iff_getElem] at hd
  exact absurd c (by have:=hd i j hi hj hij; rwa [Array.getElem_toList,Array.getElem_toList] at this)
 ·exact absurd (e.2 c) this
theorem con87:Con Tryz.prog 87 Z6O where
 quiet h:=by cases h
 runs:=.inl ⟨⟨Tryz.f87,by kernel_rfl,rfl,by kernel_rfl⟩,fun m L w xs vs hW hx hp=>by
  simp only [Z6O] at hp ⊢
  split at hp
  ·rename_i id v o n
   obtain⟨rfl,hn0,hn,F,hL,rfl,hnd⟩:=hp
   have hrow:Z0L L id=F.flatMap flC:=by simp [Z0L,hL]
   have hsz:Z1K L id=4:=by simp [Z1K,hL]
   simp only [Z0a] at hx
   obtain⟨u,_,rfl,hu,u2,_,rfl,hu2,rfl⟩:=hx
   simp only [Z03,Z0a] at hu2
   obtain⟨_,_,rfl,rfl,rfl⟩:=hu2
   have hf:Z14 L id v:=⟨by simp [isRow,hL],by simp [Z1t,hL]⟩
   obtain⟨k1,k2,a,rfl,ha⟩:=Z0N hu hf
   simp only [hrow,Zc9]
   have hcap:m.cap id≠0:=by omega
   have ha':a=some ⟨m.blk id,0,none⟩:=by
    rcases ha with ha | ha
    ·omega
    ·simpa using ha
   subst ha'
   obtain⟨us,rest,elem,lo,hi,hb,hc,hl,hfz⟩:=hW.rows _ _ _ _ hL hcap
   obtain⟨Q,q1,q2⟩:=ZkS F us hc
   subst q1 q2
   rw [List.length_map] at *
   have hblk:m.blk id<w.heap.size:=hW.blk_lt (.inl ⟨_,_,_,hL,hcap⟩)
   haveI:Inhabited (Qe m L):=⟨Q[0]⟩
   have hfl:=Z7g Q
   have hlen:∀Q:List (Qe m L),(Q.flatMap Qe.us).length=Q.length*4:=fun Q=>by
    have:=(Zdf Q).length
    rw [Z2d (n:=4),List.length_map] at this
    exact this
   have hH:HoldsK Qe.us 4 w (m.blk id) 0 Q.toArray:=by
    unfold HoldsK
    rw [hfl]
    intro j hj
    have hj':j<(Q.flatMap Qe.us).length:=by simpa using hj
    refine⟨?_,?_⟩
    ·rw [getElem!_pos _ j hj]
     simp [World.cell?,hb,List.getElem?_append_left hj',hj']
    ·have:¬(lo≤0+j∧0+j<hi):=by omega
     simp [World.frozen?,hb]; omega
   have key:=AnyQ.slices_SortFunc Tryz.sortF 4 Tryz.isAgg134 Tryz.sizeOf134 Qe.us Qe.len Qe.one (fun x y:Qe m L=>Lib.compareBytes x.f.nm y.f.nm)
    {irrefl:=fun x=>by
      have:=Z5o x.f.nm x.f.nm
      rw [Z93] at this
      simpa [ltOf] using this
     trans:=fun x y z h1 h2=>by
      simp only [ltOf,decide_eq_true_eq,Z5o] at *
      exact Z2y h1 h2
     ntrans:=fun x y z h1 h2=>by
      simp only [ltOf,decide_eq_false_iff_not,Z5o] at *
      intro h
      rcases Z92 x.f.nm y.f.nm with c | c | c
      ·exact h1 c
      ·exact h2 (c▸h)
      ·exact h2 (Z2y c h) }
    88 #[] (m.blk id) 0 (m.cap id - 0) Q.toArray w (enters_of Tryz.func88 (by kernel_rfl) rfl)
    (fun m' os dk _ x y=>by
     obtain⟨x1,x2,x3,ex,_⟩:=x.at
     obtain⟨y1,y2,y3,ey,_⟩:=y.at
     rw [ex,ey]
     exact Zp1 _ _ x1 x2 x3 y1 y2 y3 _)
    hH hblk (by simp; omega)
   change Calls Tryz.prog 87 _ _ _ at key
   rw [List.size_toArray] at key
   refine key.mono ?_
   rintro e w' ⟨rfl,d',nn,os,hp,hs,rfl⟩
   obtain⟨p1,_,p3⟩:=hp
   have hd2:d'.toList.Perm Q:=by
    have p1':d'.size=Q.length:=by simpa using p1
    have e1:d'.extract 0 Q.length=d':=by rw [←p1']; exact Array.extract_size
    have e2:Q.toArray.extract 0 Q.length=Q.toArray:=by have:=Array.extract_size (xs:=Q.toArray); rwa [List.size_toArray] at this
    rwa [e1,e2] at p3
   replace p1:d'.size=Q.length:=by simpa using p1
   rw [←p1] at hs
   have hsr:=Zku hs ((hd2.map Qe.f).map Fl.nm |>.nodup_iff.2 hnd)
   have hsf:=Zan hsr (hd2.map Qe.f)
   rw [hsf]
   obtain⟨us2,hu2⟩:∃us2,us2=d'.toList.flatMap Qe.us:=⟨_,rfl⟩
   have hl2:us2.length=(Q.flatMap Qe.us).length:=by rw [hu2,hlen,hlen,hd2.length_eq]
   have hfl2:flatK Qe.us 4 d'=us2.toArray:=by rw [hu2]; exact Z7g d'.toList
   have hC:Chg w (sortWorldK Qe.us 4 w (m.blk id) 0 nn d' os) (m.blk id) (.cells (us2++rest).toArray elem (lo,hi)):=by
    have hz:(putRowK Qe.us 4 (Sort.ahead w nn) (m.blk id) 0 d').heap.size=w.heap.size:=by simp [putRowK,Sort.putRow,Sort.mapBlock,Sort.ahead]
    unfold sortWorldK
    refine⟨?_,fun g' hg hlt=>?_,?_,rfl,rfl,rfl⟩
    ·simp only [Sort.grow]
     rw [Array.getElem?_append_left (by omega)]
     simp only [putRowK,hfl2,Sort.putRow,Sort.mapBlock,Sort.ahead,Array.getElem?_modify,if_true,hb,Option.map_some,Sort.onCells]
     rw [Z9D _ _ _ hl2]
    ·simp only [Sort.grow]
     rw [Array.getElem?_append_left (by omega)]
     simp only [putRowK,Sort.putRow,Sort.mapBlock,Sort.ahead,Array.getElem?_modify,if_neg (Ne.symm hg)]
    ·simp only [Sort.grow,Array.size_append]; omega
   have hc2:Z0a m L ((d'.toList.map Qe.f).flatMap flC) us2:=by rw [hu2]; exact Zdf _
   obtain⟨t1,t2⟩:=Z2Y hW hL (cs:=(d'.toList.map Qe.f).flatMap flC) (ver':=v) (g:=m.blk id) (c:=m.cap id) (.inl ⟨rfl,hcap⟩) hC hc2 (by rw [hl2]; exact hl) hfz hcap (.inl ⟨rfl,by rw [Z2d (n:=4),Z2d (n:=4),List.length_map,List.length_map,hd2.length_eq],rfl,rfl⟩)
   exact⟨_,_,rfl,by simp only [Z03]; exact⟨[],rfl,Z0a.nil _ _⟩,t1,t2⟩
  ·exact hp.elim⟩
attribute [push_cast] Z6O Zc9
end Go.Proofs.YtbnnhffkbcekcaaGreatDoor.dirDone
end
section
namespace Go.Proofs.YtbnnhffkbcekcaaGreatDoor.dirDone
open Go Go.Eng Go.Proofs Go.Lib
theorem Z2t{F:List Fl}{a b:List UInt8}(h:fiN F a<F.length):(renL F a b).Perm (F.set (fiN F a) (renF F a b)):=by
 have h1:(renL F a b).Perm (renF F a b::wo F (fiN F a)):=by
  unfold renL insF
  refine List.perm_middle.trans ?_
  rw [List.take_append_drop]
 refine h1.trans ?_
 rw [List.set_eq_take_append_cons_drop,if_pos h]
 exact List.perm_middle.symm
theorem ZhO{F:List Fl}{i:Nat}(h:srt F):srt (wo F i):=by
 have e:wo F i=F.eraseIdx i:=(List.eraseIdx_eq_take_drop_succ F i).symm
 rw [e]
 exact List.Pairwise.sublist (List.eraseIdx_sublist F i) h
theorem Zgh{F:List Fl}{x:Fl}(hs:srt F)(hn:∀f∈F,f.nm≠x.nm):srt (insF F (fiN F x.nm) x):=by
 obtain⟨h1,h2⟩:=Z5U F x.nm
 refine Z9p hs (Z6z F x.nm) h1 fun q hq hl=>?_
 have h0:fiN F x.nm<F.length:=by omega
 have hlt:Op.bytesLess x.nm (F.getD (fiN F x.nm) default).nm=true:=by
  rcases Z92 (F.getD (fiN F x.nm) default).nm x.nm with c | c | c
  ·rw [h2 h0] at c; exact absurd c (by decide)
  ·exact absurd c (hn _ (by rw [Z0m h0]; exact List.getElem_mem h0))
  ·exact c
 rcases Nat.lt_or_ge (fiN F x.nm) q with c | c
 ·exact Z2y hlt (Z60 hs c hl)
 ·obtain rfl:q=fiN F x.nm:=by omega
  exact hlt
theorem ZlQ{F:List Fl}{b:List UInt8}(hs:srt F)(h:¬fiB F b=true):∀f∈F,f.nm≠b:=by
 intro f hf e
 obtain⟨i,hi,rfl⟩:=List.mem_iff_getElem.1 hf
 obtain⟨h1,h2⟩:=Z5U F b
 have e':(F.getD i default).nm=b:=by rw [Z0m hi]; exact e
 rcases Nat.lt_trichotomy (fiN F b) i with c | c | c
 ·have:=Z60 hs c hi
  rw [e'] at this
  have h3:=h2 (by omega)
  rw [this] at h3
  cases h3
 ·exact h (decide_eq_true ⟨by omega,by rw [c]; exact e'⟩)
 ·have:=h1 i c
  rw [e',Z93] at this
  cases this
theorem Z9o{F:List Fl}{a b:List UInt8}(hs:srt F)(h:¬fiB F b=true):srt (renL F a b):=
 Zgh (x:=renF F a b) (ZhO hs) fun f hf=>ZlQ hs h f (Z4K hf)
theorem Zck{F:List Fl}(hs:srt F):(F.map Fl.nm).Nodup:=by
 rw [List.nodup_iff_pairwise_ne,List.pairwise_map]
 exact hs.imp fun h e=>by rw [e,Z93] at h; cases h
theorem Zgo{F:List Fl}{a b:List UInt8}(hs:srt F)(h:fiN F a<F.length)(hb:¬fiB F b=true):sortF (F.set (fiN F a) (renF F a b))=renL F a b∧((F.set (fiN F a) (renF F a b)).map Fl.nm).Nodup:=
 ⟨Zan (Z9o hs hb) (Z2t h),((Z2t h).map Fl.nm).nodup_iff.1 (Zck (Z9o hs hb))⟩
def rnZ(F:List Fl)(Lv U:List Int)(S:List Sec)(W:List Wr)(a b:List UInt8):Z01:=if Z34 b=true∧fiB F a=true∧¬fiB F b=true then lyZ (renL F a b) F Lv [] U S W else Z0z F Lv U S W
def k36:List Fl×List Int×List Int×List Sec×List Wr×List UInt8×List UInt8→Ct:=fun (F,Lv,U,S,W,a,b)=>⟨([.ref 0 0 0,.str a,.str b],Z0z F Lv U S W),F.length≤200∧srt F∧(∀f∈F,Z1p f∧f.se.length≤1000000)∧Lv.length≤1000∧U.length≤1048576∧S.length≤4096∧W.length≤4096∧b.length≤1048576,.int .i64 (renR F U W a b),rnZ F Lv U S W a b⟩
theorem inj36:∀a b,(k36 a).a=(k36 b).a→a=b:=by
 rintro⟨F,Lv,U,S,W,a,b⟩ ⟨F',Lv',U',S',W',a',b'⟩ h
 simp only [k36,Z0g,Z0h,Z0k,Z0j,UInt8.toNat_inj,Z09,Z0c,Z0x,Z0o,Z1g,Z19,Z1L,Z0z,Z0E,Z0A,List.cons.injEq] at h
 simp_all only
noncomputable def S36:Z0n:=Z0W true k36
theorem ks36(F:List Fl)(Lv U:List Int)(S:List Sec)(W:List Wr)(a b:List UInt8):KS k36 ([.ref 0 0 0,.str a,.str b],Z0z F Lv U S W) (F.length≤200∧srt F∧(∀f∈F,Z1p f∧f.se.length≤1000000)∧Lv.length≤1000∧U.length≤1048576∧S.length≤4096∧W.length≤4096∧b.length≤1048576) (.int .i64 (renR F U W a b)) (rnZ F Lv U S W a b):=kat inj36 (F,Lv,U,S,W,a,b)
attribute [push_cast] S36 ks36
theorem body36(Γ:Env)(h56:Γ 56=some S56)(h77:Γ 77=some S77)(h83:Γ 83=some S83)(h85:Γ 85=some S85)(h87:Γ 87=some Z6O)(F:List Fl)(Lv U:List Int)(S:List Sec)(W:List Wr)(a b:List UInt8)
  (hF:F.length≤200) (hs:srt F) (ho:∀f∈F,Z1p f∧f.se.length≤1000000) (hLv:Lv.length≤1000) (hU:U.length≤1048576) (hS:S.length≤4096) (hW:W.length≤4096) (hb:b.length≤1048576) :
  Z08 Tryz.prog Γ Tryz.f36 [.ref 0 0 0,.str a,.str b] (Z0z F Lv U S W) (.int .i64 (renR F U W a b)) (rnZ F Lv U S W a b):=by
 have ⟨p1,r1,g1⟩:=ks77 F Lv U S W a
 have ⟨p2,r2,g2⟩:=ks77 F Lv U S W b
 have pb:b.length≤9223372036854775807:=by omega
 have pF:F.length≤4194304:=by omega
 unfold renR rnZ
 by_cases c1:Z34 b=true
 case neg=>
  have c1':Z34 b=false:=by simpa using c1
  rw [if_neg c1,if_neg (fun h=>c1 h.1)]
  unfold Z0z at *
  refine stt 50 [.tmp 6] fun X hP hΓ hL hfin=>?_; refine gxq (cj2 h56 c1') ?_
  refine⟨pb,?_⟩
  exact Z06.keep6A
 rw [if_pos c1]
 by_cases c2:fiB F a=true
 case neg=>
  rw [if_neg c2,if_neg (fun h=>c2 h.2.1)]
  rw [show fiB F a=false by simpa using c2] at r1
  unfold Z0z at *
  refine stt 50 [.tmp 6] fun X hP hΓ hL hfin=>?_; refine gxq (cj9 h56 c1 h77 p1 r1 g1 p2 r2 g2) ?_
  refine⟨pb,⟨by decide,pF,hs⟩,⟨by decide,pF,hs⟩,?_⟩
  exact Z06.keep6A
 rw [if_pos c2]
 rw [c2] at r1
 by_cases c3:fiB F b=true
 case pos=>
  rw [if_pos c3,if_neg (fun h=>h.2.2 c3)]
  rw [c3] at r2
  unfold Z0z at *
  refine stt 50 [.tmp 6] fun X hP hΓ hL hfin=>?_; refine gxq (cj9 h56 c1 h77 p1 r1 g1 p2 r2 g2) ?_
  refine⟨pb,⟨by decide,pF,hs⟩,⟨by decide,pF,hs⟩,?_⟩
  exact Z06.keep6A
 rw [if_neg c3,if_pos (show Z34 b=true∧fiB F a=true∧¬fiB F b=true from ⟨c1,c2,c3⟩)]
 rw [show fiB F b=false by simpa using c3] at r2
 have hi:=Z54 c2
 obtain⟨e1,e2⟩:=Zgo (a:=a) hs hi c3
 have p83:=(ks83 F).1
 have eS:List.take (fiN F a*4) (List.flatMap flC F)++[AV.str b]++List.drop (fiN F a*4+1) (List.flatMap flC F)=(F.set (fiN F a) (renF F a b)).flatMap flC:=by
  have e:List.drop (fiN F a*4+1) (List.flatMap flC F)=List.drop 1 (flC (renF F a b))++List.drop (fiN F a*4+4) (List.flatMap flC F):=by
   rw [show fiN F a*4+4=(fiN F a+1)*4 by omega,Z1d (n:=4),←List.drop_drop,Z1d (n:=4),List.drop_eq_getElem_cons hi,List.flatMap_cons,←Z0m hi]
   rfl
  rw [e,←Z3f (n:=4) F (fiN F a) (renF F a b) hi,List.append_assoc,List.append_assoc]
  rfl
 have lL:=Z4P b hi
 have hall:∀f∈renL F a b,Z1p f:=fun f hf=>by
  have hf:=(Z2t hi).mem_iff.1 hf
  rcases List.mem_or_eq_of_mem_set hf with h | rfl
  ·exact (ho f h).1
  ·have hk:=(ho _ (by rw [Z0m hi]; exact List.getElem_mem hi:F.getD (fiN F a) default∈F)).1
   exact⟨Z2w c1,hk.2⟩
 have p85:=Zdk (renL F a b) F Lv U S W
 have r85:=Zcu (renL F a b) F Lv U S W
 have g85:=ZdY (renL F a b) F Lv U S W
 have lS:(F.set (fiN F a) (renF F a b)).length=F.length:=List.length_set
 generalize F.set (fiN F a) (renF F a b)=G at *
 generalize renL F a b=L at *
 generalize fiN F a=i at *
 unfold Z0z at *
 rw [lL] at p85 r85 g85
 refine stt 50 [.tmp 6] fun X hP hΓ hL hfin=>?_; refine gmq 32 (ZhC h56 c1 h77 p1 r1 g1 p2 r2 g2 h83 p83 eS h87 e1) ?_
 refine⟨pb,⟨by decide,pF,hs⟩,⟨by decide,pF,hs⟩,pF,by omega,by omega,⟨by omega,by omega,G,rfl,lS.symm,e2⟩,?_⟩
 refine Z02.frz 6 (by rw [hL]; simp) smf (gsq ?_)
 have tL:List.take (F.length*4) (L.flatMap flC)=L.flatMap flC:=by rw [←lL]; exact Z2i L
 rw [tL]
 unfold lyZ at hfin g85
 by_cases c5:Z2l L W U
 ·simp only [if_pos c5] at hfin g85 r85
  refine gxq (cj4 h85 p85 r85 g85) ?_
  refine⟨⟨by decide,⟨by omega,hall⟩,hLv,hU,hS,hW⟩,?_⟩
  exact Z0q.base [0,1,2,3,4,5,7] ⟨sml,smr,(by decide),(by first | rfl | decide),sm,sm⟩ smd
 ·simp only [if_neg c5] at hfin g85 r85
  unfold Z0z at hfin g85
  refine gxq (cj4 h85 p85 r85 g85) ?_
  refine⟨⟨by decide,⟨by omega,hall⟩,hLv,hU,hS,hW⟩,?_⟩
  exact Z06.keep6A
theorem con36{Γ:Env}(h:Z07 Tryz.prog Γ)(h56:Γ 56=some S56)(h77:Γ 77=some S77)(h83:Γ 83=some S83)(h85:Γ 85=some S85)(h87:Γ 87=some Z6O):Con Tryz.prog 36 S36:=
 kcn h (fn:=Tryz.f36) inj36 fun ⟨F,Lv,U,S,W,a,b⟩ ⟨hF,hs,ho,hLv,hU,hS,hW,hb⟩=>body36 Γ h56 h77 h83 h85 h87 F Lv U S W a b hF hs ho hLv hU hS hW hb
end Go.Proofs.YtbnnhffkbcekcaaGreatDoor.dirDone
end
