/- The engine, part 17: a sort in place, of an own row of texts. -/
import Derived.Test.YtmomhjmaanagaaaGreatEng16
import Derived.Sort.Row
import Derived.Sort.Grow
import Derived.Sort.EncStr
set_option linter.unusedVariables false
set_option linter.unusedSimpArgs false
namespace Go.Eng
open Go
def Z6F:AV→List UInt8
 | .str l=>l
 | _=>[]
def Z3U(ss:List (List UInt8)):List (List UInt8):=ss.mergeSort fun x y=>decide (x≤y)
theorem Z3g(ss:List (List UInt8)):(Z3U ss).Perm ss:=List.mergeSort_perm ss _
theorem Z4K(ss:List (List UInt8)):(Z3U ss).length=ss.length:=(Z3g ss).length_eq
def Z8Q:Z0n where
 pre xs L:=match xs with
  | [.msl id v o n]=>o=0∧n≤1048576∧∃ss:List (List UInt8),L[id]?=some (.row (ss.map .str) 1 v)∧n=ss.length
  | _=>False
 res _ _:=.tup []
 post xs L:=match xs with
  | [.msl id v o n]=>L.set id (.row ((Z3U ((Z0Q L id).map Z6F)).map .str) 1 v)
  | _=>L
 quiet:=false
theorem Z63(ss:List (List UInt8)):(ss.map AV.str).map Z6F=ss:=by simp [Z6F,Function.comp_def]
theorem Z7H{m:Mem}{L:Heap}:∀{ss:List (List UInt8)} {us:List Value},Z0e m L (ss.map .str) us→us=ss.map Go.Proofs.encStr
 | [],us,h=>by simpa [Z0e] using h
 | s::ss,us,h=>by
  simp only [List.map_cons,Z0e,Z05] at h
  obtain⟨u,us',rfl,rfl,h⟩:=h
  rw [Z7H h]; rfl
theorem Z6g(m:Mem)(L:Heap):∀ss:List (List UInt8),Z0e m L (ss.map .str) (ss.map Go.Proofs.encStr)
 | []=>Z0e.nil _ _
 | s::ss=>Z0e.cons (by simp [Z05,Go.Proofs.encStr]) (Z6g m L ss)
theorem Z7U{L:Heap}{id:Nat}{o:Z0L}(h:L[id]?=some o):L.set id o=L:=by
 apply List.ext_getElem?
 intro j
 rw [List.getElem?_set]
 split
 ·rename_i e; subst e
  split
  ·exact h.symm
  ·rw [List.getElem?_eq_none (by omega)]
 ·rfl
theorem Z5W(ss ts:List (List UInt8))(rest:List Value)(h:ts.length=ss.length):Sort.putCells Go.Proofs.encStr 0 ts.toArray (ss.map Go.Proofs.encStr++rest).toArray=(ts.map Go.Proofs.encStr++rest).toArray:=by
 apply Array.ext'
 simp only [Sort.putCells]
 apply List.ext_getElem?
 intro j
 simp only [Array.toList_mapIdx,List.getElem?_mapIdx,List.size_toArray]
 by_cases hj:j<ts.length
 ·have hj':j<ss.length:=by omega
  rw [List.getElem?_append_left (by simp; omega),List.getElem?_append_left (by simp; omega)]
  simp [hj,hj']
 ·rw [List.getElem?_append_right (by simp; omega),List.getElem?_append_right (by simp; omega)]
  simp only [List.length_map,h]
  cases hr:rest[j - ss.length]? with
  | none=>rfl
  | some x=>simp [show ¬j<ts.length from hj]; omega
theorem Con.sort{P:Program}{f:FuncId} (hfn:∃fn,P.funcs[f]?=some fn∧fn.body.isNone=false∧(fn.name == "runtime.NumGoroutine")=false)
  (hs:∀(blk off cap:Nat) (ss:List (List UInt8)) (w:World),Sort.Holds Go.Proofs.encStr w blk off ss.toArray→blk<w.heap.size→ss.length<4611686018427387904→
   Calls P f #[.slice (some ⟨blk,off,none⟩) ss.length cap] w fun e w'=>e=.returned (.tuple #[])∧∃n os,w'=Sort.grow (Sort.putRow Go.Proofs.encStr (Sort.ahead w n) blk off (ss.mergeSort fun x y=>decide (x≤y)).toArray) os)
  (h0:∀(p:Option Addr) (cap:Nat) (w:World),Calls P f #[.slice p 0 cap] w fun e w'=>e=.returned (.tuple #[])∧w'=w):Con P f Z8Q where
 quiet h:=by cases h
 runs:=.inl ⟨hfn,fun m L w xs vs hW hx hp=>by
  simp only [Z8Q] at hp ⊢
  split at hp
  ·rename_i id v o n
   obtain⟨rfl,hn,ss,hL,rfl⟩:=hp
   have hrow:Z0Q L id=ss.map .str:=by simp [Z0Q,hL]
   simp only [Z0e] at hx
   obtain⟨u,us',rfl,hu,rfl⟩:=hx
   have hf:Z1q L id v:=⟨by simp [isRow,hL],by simp [Z1G,hL]⟩
   obtain⟨k1,k2,a,rfl,ha⟩:=Z1e hu hf
   simp only [hrow,Z63]
   by_cases hz:ss.length=0
   ·have hnil:ss=[]:=List.eq_nil_of_length_eq_zero hz
    subst hnil
    refine (h0 a _ w).mono ?_
    rintro e w' ⟨rfl,rfl⟩
    have e1:Z3U []=[]:=by simp [Z3U]
    rw [e1,Z7U (by simpa using hL)]
    exact⟨_,m,rfl,by simp only [Z05]; exact⟨[],rfl,Z0e.nil _ _⟩,hW,Ext.refl⟩
   ·have hcap:m.cap id≠0:=by omega
    have ha':a=some ⟨m.blk id,0,none⟩:=by
     rcases ha with ha | ha
     ·omega
     ·simpa using ha
    subst ha'
    obtain⟨us,rest,elem,lo,hi,hb,hc,hl,hfz⟩:=hW.rows _ _ _ _ hL hcap
    have hus:=Z7H hc
    subst hus
    have hblk:m.blk id<w.heap.size:=hW.blk_lt (.inl ⟨_,_,_,hL,hcap⟩)
    have hH:Sort.Holds Go.Proofs.encStr w (m.blk id) 0 ss.toArray:=by
     intro j hj
     have hj':j<ss.length:=by simpa using hj
     refine⟨?_,?_⟩
     ·skip
      simp [World.cell?,hb,hj',List.getElem?_append_left]
     ·simp only [List.length_map] at hl
      have:¬(lo≤0+j∧0+j<hi):=by omega
      simp [World.frozen?,hb]; omega
    refine (hs (m.blk id) 0 _ ss w hH hblk (by omega)).mono ?_
    rintro e w' ⟨rfl,nn,os,rfl⟩
    have hC:Chg w (Sort.grow (Sort.putRow Go.Proofs.encStr (Sort.ahead w nn) (m.blk id) 0 (ss.mergeSort fun x y=>decide (x≤y)).toArray) os) (m.blk id) (.cells ((Z3U ss).map Go.Proofs.encStr++rest).toArray elem (lo,hi)):=by
     have hsz:(Sort.putRow Go.Proofs.encStr (Sort.ahead w nn) (m.blk id) 0 (ss.mergeSort fun x y=>decide (x≤y)).toArray).heap.size=w.heap.size:=by simp [Sort.putRow,Sort.mapBlock,Sort.ahead]
     refine⟨?_,fun g' hg hlt=>?_,?_,rfl,rfl,rfl⟩
     ·simp only [Sort.grow]
      rw [Array.getElem?_append_left (by omega)]
      simp only [Sort.putRow,Sort.mapBlock,Sort.ahead,Array.getElem?_modify,if_true,hb,Option.map_some,Sort.onCells]
      rw [show (ss.mergeSort fun x y=>decide (x≤y))=Z3U ss from rfl,Z5W ss (Z3U ss) rest (Z4K ss)]
     ·simp only [Sort.grow]
      rw [Array.getElem?_append_left (by omega)]
      simp only [Sort.putRow,Sort.mapBlock,Sort.ahead,Array.getElem?_modify,if_neg (Ne.symm hg)]
     ·simp only [Sort.grow,Array.size_append]; omega
    obtain⟨t1,t2⟩:=Z3A hW hL (cs:=(Z3U ss).map .str) (ver':=v) (g:=m.blk id) (c:=m.cap id) (.inl ⟨rfl,hcap⟩) hC (Z6g m L _) (by simp only [List.length_map,Z4K] at hl ⊢; exact hl) hfz hcap (.inl ⟨rfl,by simp [Z4K],rfl,rfl⟩)
    exact⟨_,_,rfl,by simp only [Z05]; exact⟨[],rfl,Z0e.nil _ _⟩,t1,t2⟩
  ·exact hp.elim⟩
attribute [push_cast] Z8Q Z63
end Go.Eng