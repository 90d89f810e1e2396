/- The engine, part 18: neighbours that are the same struck out of an own row of texts, in place; sorted rows. -/
import Derived.Test.YtmomhjmaanagaaaGreatEng17
import Derived.Lib.SlicesCompact
set_option linter.unusedVariables false
set_option linter.unusedSimpArgs false
namespace Go.Eng
open Go
def Z4D(ss:List (List UInt8)):List (List UInt8):=Go.Lib.compact ss
theorem Zfs(ss:List (List UInt8)):(Z4D ss).length≤ss.length:=by
 unfold Z4D Go.Lib.compact Go.Lib.compactUpTo
 rw [List.length_map]
 exact Nat.le_trans (List.length_filter_le _ _) (by simp)
def Z9c:Z0n where
 pre xs L:=match xs with
  | [.msl id v o n]=>o=0∧n≤1048576∧∃ss:List (List UInt8),L[id]?=some (.row (ss.map .str) 1 v)∧n=ss.length
  | _=>False
 res xs L:=match xs with
  | [.msl id v o n]=>.msl id v 0 (Z4D ((Z0Q L id).map Z6F)).length
  | _=>.any
 post xs L:=match xs with
  | [.msl id v o n]=>L.set id (.row ((Z4D ((Z0Q L id).map Z6F)++List.replicate (n - (Z4D ((Z0Q L id).map Z6F)).length) []).map .str) 1 v)
  | _=>L
 quiet:=false
theorem Con.compact{P:Program}{f:FuncId} (hfn:∃fn,P.funcs[f]?=some fn∧fn.body.isNone=false∧(fn.name == "runtime.NumGoroutine")=false)
  (hs:∀(blk off cap:Nat) (zs:List (List UInt8)) (w:World),Sort.Holds Go.Proofs.encStr w blk off zs.toArray→zs.length≤9223372036854775807→zs.length≤cap→
   Calls P f #[.slice (some ⟨blk,off,none⟩) zs.length cap] w fun e w'=>e=.returned (.slice (some ⟨blk,off,none⟩) (Go.Lib.compact zs).length cap)∧
    ∃q,w'=Sort.putRow Go.Proofs.encStr (Sort.ahead w q) blk off (Go.Lib.compact zs++List.replicate (zs.length - (Go.Lib.compact zs).length) []).toArray)
  (h0:∀(a:Option Addr) (cap:Nat) (w:World),Calls P f #[.slice a 0 cap] w fun e w'=>e=.returned (.slice a 0 cap)∧w'=w):Con P f Z9c where
 quiet h:=by cases h
 runs:=.inl ⟨hfn,fun m L w xs vs hW hx hp=>by
  simp only [Z9c] at hp ⊢
  split at hp
  ·rename_i id v o n
   obtain⟨rfl,hn,ss,hL,rfl⟩:=hp
   have hrow:Z0Q L id=ss.map .str:=by simp [Z0Q,hL]
   have hsz:Z1S L id=1:=by simp [Z1S,hL]
   have hlt:id<L.length:=(List.getElem?_eq_some_iff.1 hL).1
   simp only [Z0e] at hx
   obtain⟨u,us',rfl,hu,rfl⟩:=hx
   have hf:Z1q L id v:=⟨by simp [isRow,hL],by simp [Z1G,hL]⟩
   obtain⟨k1,k2,a,rfl,ha⟩:=Z1e hu hf
   simp only [hrow,Z63]
   have hcl:=Zfs ss
   by_cases hz:ss.length=0
   ·have hnil:ss=[]:=List.eq_nil_of_length_eq_zero hz
    subst hnil
    refine (h0 a _ w).mono ?_
    rintro e w' ⟨rfl,rfl⟩
    have e1:Z4D []=[]:=by simp [Z4D,Go.Lib.compact,Go.Lib.compactUpTo]
    rw [e1,Z7U (by simpa using hL)]
    refine⟨_,m,rfl,?_,hW,Ext.refl⟩
    simp only [Z05]
    exact⟨[],1,v,by simpa using hL,Nat.le_refl _,⟨_,_,_,rfl⟩,fun _=>⟨by simp,by simp,a,by simp,by rw [hsz] at ha; simpa using ha⟩⟩
   ·have hcap:m.cap id≠0:=by omega
    have ha':a=some ⟨m.blk id,0,none⟩:=by
     rcases ha with ha | ha
     ·omega
     ·simpa using ha
    subst ha'
    obtain⟨us,rest,elem,lo,hi,hb,hc,hl,hfz⟩:=hW.rows _ _ _ _ hL hcap
    have hus:=Z7H hc
    subst hus
    have hblk:m.blk id<w.heap.size:=hW.blk_lt (.inl ⟨_,_,_,hL,hcap⟩)
    have hH:Sort.Holds Go.Proofs.encStr w (m.blk id) 0 ss.toArray:=by
     intro j hj
     have hj':j<ss.length:=by simpa using hj
     refine⟨?_,?_⟩
     ·simp [World.cell?,hb,hj',List.getElem?_append_left]
     ·simp only [List.length_map] at hl
      have:¬(lo≤0+j∧0+j<hi):=by omega
      simp [World.frozen?,hb]; omega
    refine (hs (m.blk id) 0 (m.cap id - 0) ss w hH (by omega) (by omega)).mono ?_
    rintro e w' ⟨rfl,nn,rfl⟩
    obtain⟨ts,hts⟩:∃ts,ts=Z4D ss++List.replicate (ss.length - (Z4D ss).length) []:=⟨_,rfl⟩
    have htl:ts.length=ss.length:=by rw [hts]; simp; omega
    rw [show Go.Lib.compact ss=Z4D ss from rfl,←hts]
    have hC:Chg w (Sort.putRow Go.Proofs.encStr (Sort.ahead w nn) (m.blk id) 0 ts.toArray) (m.blk id) (.cells (ts.map Go.Proofs.encStr++rest).toArray elem (lo,hi)):=by
     refine⟨?_,fun g' hg hlt=>?_,?_,rfl,rfl,rfl⟩
     ·simp only [Sort.putRow,Sort.mapBlock,Sort.ahead,Array.getElem?_modify,if_true,hb,Option.map_some,Sort.onCells]
      rw [Z5W ss ts rest htl]
     ·simp only [Sort.putRow,Sort.mapBlock,Sort.ahead,Array.getElem?_modify,if_neg (Ne.symm hg)]
     ·simp [Sort.putRow,Sort.mapBlock,Sort.ahead]
    obtain⟨t1,t2⟩:=Z3A hW hL (cs:=ts.map .str) (ver':=v) (g:=m.blk id) (c:=m.cap id) (.inl ⟨rfl,hcap⟩) hC (Z6g m L _) (by simp only [List.length_map,htl] at hl ⊢; exact hl) hfz hcap (.inl ⟨rfl,by simp [htl],rfl,rfl⟩)
    refine⟨_,_,rfl,?_,t1,t2⟩
    simp only [Z05]
    exact⟨ts.map .str,1,v,by simp [hlt],Nat.le_refl _,⟨_,_,_,rfl⟩,fun _=>⟨by simp [htl]; omega,by simp [Mem.put]; omega,some ⟨m.blk id,0,none⟩,by simp [Mem.put],.inr (by simp [Mem.put])⟩⟩
  ·exact hp.elim⟩
attribute [push_cast] Z9c
theorem Zec(ss:List (List UInt8)):(Z3U ss).Pairwise (·≤·):=by
 have:=List.pairwise_mergeSort (le:=fun (x y:List UInt8)=>decide (x≤y)) (fun a b c h1 h2=>decide_eq_true (List.le_trans (of_decide_eq_true h1) (of_decide_eq_true h2)))
  (fun a b=>by simp only [Bool.or_eq_true,decide_eq_true_eq]; exact List.le_total a b) ss
 exact this.imp fun h=>of_decide_eq_true h
theorem Z7u(zs:List (List UInt8)):(Z4D zs).length=zs.length↔∀j,j<zs.length→j=0∨zs.getD j []≠zs.getD (j - 1) []:=by
 have e:(Z4D zs).length=((List.range zs.length).filter (Go.Lib.keeps zs.toArray)).length:=by simp [Z4D,Go.Lib.compact,Go.Lib.compactUpTo]
 have hk:∀j,j<zs.length→(Go.Lib.keeps zs.toArray j=true↔(j=0∨zs.getD j []≠zs.getD (j - 1) [])):=by
  intro j hj
  have h1:zs.toArray[j]! = zs.getD j []:=by simp [List.getD,hj]
  have h2:zs.toArray[j - 1]! = zs.getD (j - 1) []:=by simp [List.getD,show j - 1<zs.length by omega]
  rw [Go.Lib.keeps,decide_eq_true_eq,h1,h2]
 rw [e]
 constructor
 ·intro h j hj
  have hall:=(List.length_filter_eq_length_iff (l:=List.range zs.length) (p:=Go.Lib.keeps zs.toArray)).1 (by rw [h]; simp)
  exact (hk j hj).1 (hall j (List.mem_range.2 hj))
 ·intro h
  have:(List.range zs.length).filter (Go.Lib.keeps zs.toArray)=List.range zs.length:=List.filter_eq_self.2 fun j hj=>(hk j (List.mem_range.1 hj)).2 (h j (List.mem_range.1 hj))
  rw [this]; simp
theorem Zaz{zs:List (List UInt8)}(h:zs.Pairwise (·≤·)):(Z4D zs).length=zs.length↔zs.Nodup:=by
 rw [Z7u]
 constructor
 ·intro hk
  rw [List.nodup_iff_pairwise_ne,List.pairwise_iff_getElem]
  intro i j hi hj hij e
  have hp:=List.pairwise_iff_getElem.1 h
  have h1:=hk j hj
  have e1:zs.getD j []=zs[j]:=by simp [List.getD,hj]
  have e2:zs.getD (j - 1) []=zs[j - 1]:=by simp [List.getD,show j - 1<zs.length by omega]
  rw [e1,e2] at h1
  rcases h1 with h1 | h1
  ·omega
  ·apply h1
   have a1:zs[j - 1]≤zs[j]:=hp (j - 1) j (by omega) hj (by omega)
   have a2:zs[i]≤zs[j - 1]:=by
    by_cases hc:i=j - 1
    ·subst hc; exact List.le_refl _
    ·exact hp i (j - 1) hi (by omega) (by omega)
   rw [e] at a2
   exact List.le_antisymm a2 a1
 ·intro hn j hj
  by_cases h0:j=0
  ·exact .inl h0
  ·right
   have e1:zs.getD j []=zs[j]:=by simp [List.getD,hj]
   have e2:zs.getD (j - 1) []=zs[j - 1]:=by simp [List.getD,show j - 1<zs.length by omega]
   rw [e1,e2]
   intro e
   exact List.pairwise_iff_getElem.1 (List.nodup_iff_pairwise_ne.1 hn) (j - 1) j (by omega) hj (by omega) e.symm
theorem ZdE(ss:List (List UInt8)):((Z4D (Z3U ss)).length=(Z3U ss).length)↔ss.Nodup:=by
 rw [Zaz (Zec ss)]
 exact (Z3g ss).nodup_iff
end Go.Eng