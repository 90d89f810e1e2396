/- The engine, part 14: a contract at a small heap serves a caller's heap in which those objects lie. The engine, part 12: small lemmas for its use. The engine, part 15: arguments that came in are opened: what is read of them, as plain values, and how they lie in memory that only is read. The engine, part 16: loops by the slots they turn; values that lead to no own row, and rows of them. -/
import Derived.Test.YtgemeilncdmapaaGreatDoorEC
import Derived.Laws.RangeAny
import Derived.ChangeArms
import Derived.DataReads
import Derived.WideShapes
import Derived.ChangeShapes
import Derived.OpenShut
import Derived.RowKit
import Derived.Carry
import Derived.ChangeOld
section
namespace Go.Eng
open Go Go.RowKit
set_option linter.unusedVariables false
set_option linter.unusedSimpArgs false

/-- the callee's numbers as the caller's -/
def rhoG (ids : List Nat) (n j : Nat) : Nat := if j < ids.length then ids.getD j 0 else n + (j - ids.length)
def putAll : List Nat → List AObj → Heap → Heap
  | id :: ids, o :: os, L => putAll ids os (L.set id o)
  | _, _, L => L
def placeG (ids : List Nat) (L N : Heap) : Heap := putAll ids ((N.take ids.length).map (renO (rhoG ids L.length))) L ++ (N.drop ids.length).map (renO (rhoG ids L.length))

theorem putAll_length : ∀ (ids : List Nat) (os : List AObj) (L : Heap), (putAll ids os L).length = L.length
  | [], _, _ => by simp [putAll]
  | _ :: _, [], _ => by simp [putAll]
  | id :: ids, o :: os, L => by simp [putAll, putAll_length ids os]
theorem putAll_not : ∀ (ids : List Nat) (os : List AObj) (L : Heap) (i : Nat), i ∉ ids → (putAll ids os L)[i]? = L[i]?
  | [], _, _, _, _ => by simp [putAll]
  | _ :: _, [], _, _, _ => by simp [putAll]
  | id :: ids, o :: os, L, i, h => by
    simp only [List.mem_cons, not_or] at h
    simp only [putAll]
    rw [putAll_not ids os _ i h.2, List.getElem?_set_ne (Ne.symm h.1)]
theorem putAll_mem : ∀ (ids : List Nat) (os : List AObj) (L : Heap) (j : Nat), ids.Nodup → ids.length = os.length → (∀ i ∈ ids, i < L.length) → ∀ id, ids[j]? = some id → (putAll ids os L)[id]? = os[j]?
  | [], _, _, _, _, _, _, _, h => by simp at h
  | _ :: _, [], _, _, _, h, _, _, _ => by simp at h
  | i :: ids, o :: os, L, 0, hn, hl, hb, id, h => by
    simp at h; subst h
    simp only [putAll]
    rw [putAll_not _ _ _ _ (List.nodup_cons.1 hn).1]
    simp [hb i (by simp)]
  | i :: ids, o :: os, L, j + 1, hn, hl, hb, id, h => by
    simp only [putAll]
    simp only [List.getElem?_cons_succ] at h ⊢
    exact putAll_mem ids os _ j (List.nodup_cons.1 hn).2 (by simpa using hl) (fun x hx => by simpa using hb x (by simp [hx])) id h

section
variable {m mb : Mem} {L L0 : Heap} {w : World} {ids : List Nat}

/-- the callee's first objects are the caller's at 'ids' -/
structure Lent (m mb : Mem) (L L0 : Heap) (ids : List Nat) : Prop where
  nodup : ids.Nodup
  obj : (ids.map fun i => L[i]?) = L0.map fun o => some (renO (fun j => ids.getD j j) o)
  blk : ∀ j, j < ids.length → mb.blk j = m.blk (ids.getD j 0)
  cap : ∀ j, j < ids.length → mb.cap j = m.cap (ids.getD j 0)
  pobj : ∀ g o, m.pobj g = some o → mb.pobj g = some o

theorem Lent.len (H : Lent m mb L L0 ids) : ids.length = L0.length := by simpa using congrArg List.length H.obj
theorem Lent.at (H : Lent m mb L L0 ids) {j : Nat} {o : AObj} (h : L0[j]? = some o) : j < ids.length ∧ L[ids.getD j 0]? = some (renO (fun j => ids.getD j j) o) := by
  have hlt : j < ids.length := by rw [H.len]; exact (List.getElem?_eq_some_iff.1 h).1
  have := congrArg (·[j]?) H.obj
  simp only [List.getElem?_map, h, Option.map_some] at this
  have hid : ids[j]? = some (ids.getD j 0) := by simp [List.getD, hlt]
  rw [hid] at this
  exact ⟨hlt, by simpa using this⟩
theorem Lent.back (H : Lent m mb L L0 ids) {j : Nat} (hj : j < ids.length) : ∃ o, L0[j]? = some o ∧ L[ids.getD j 0]? = some (renO (fun j => ids.getD j j) o) := by
  have hlt : j < L0.length := by rw [← H.len]; exact hj
  exact ⟨L0[j], by simp, (H.at (by simp)).2⟩
theorem Lent.bound (H : Lent m mb L L0 ids) : ∀ i ∈ ids, i < L.length := by
  intro i hi
  obtain ⟨j, hj, rfl⟩ := List.mem_iff_getElem.1 hi
  obtain ⟨o, _, h2⟩ := H.back hj
  have e : ids.getD j 0 = ids[j] := by simp [List.getD, hj]
  rw [e] at h2
  exact (List.getElem?_eq_some_iff.1 h2).1
theorem Lent.own (H : Lent m mb L L0 ids) {j : Nat} (h : Own mb L0 j) : j < ids.length ∧ Own m L (ids.getD j 0) ∧ mb.blk j = m.blk (ids.getD j 0) := by
  rcases h with ⟨cs, sz, ver, hL, hc⟩ | ⟨r, hL⟩
  · obtain ⟨h1, h2⟩ := H.at hL
    exact ⟨h1, .inl ⟨_, _, _, h2, by rw [← H.cap j h1]; exact hc⟩, H.blk j h1⟩
  · obtain ⟨h1, h2⟩ := H.at hL
    exact ⟨h1, .inr ⟨_, h2⟩, H.blk j h1⟩
theorem Lent.hid (H : Lent m mb L L0 ids) {j g : Nat} (h : Hid mb L0 j g) : j < ids.length ∧ Hid m L (ids.getD j 0) g := by
  obtain ⟨T, e, l, hL, hc⟩ := h
  obtain ⟨h1, h2⟩ := H.at hL
  exact ⟨h1, T, e, l, h2, by rw [← H.cap j h1]; exact hc⟩
theorem getD_mem {j : Nat} (h : j < ids.length) : ids.getD j 0 ∈ ids := by simp [List.getD, h]
theorem getD_inj (hn : ids.Nodup) {i j : Nat} (hi : i < ids.length) (hj : j < ids.length) (he : ids.getD i 0 = ids.getD j 0) : i = j := by
  simp only [List.getD, List.getElem?_eq_getElem hi, List.getElem?_eq_getElem hj, Option.getD_some] at he
  have hp := List.pairwise_iff_getElem.1 hn
  rcases Nat.lt_trichotomy i j with h | h | h
  · exact absurd he (hp i j hi hj h)
  · exact h
  · exact absurd he.symm (hp j i hj hi h)
theorem idx_getD (hn : ids.Nodup) {j : Nat} (hj : j < ids.length) : ids.idxOf (ids.getD j 0) = j := by
  have h1 : ids.idxOf (ids.getD j 0) < ids.length := List.idxOf_lt_length_of_mem (getD_mem hj)
  refine getD_inj hn h1 hj ?_
  have : ids[ids.idxOf (ids.getD j 0)] = ids.getD j 0 := List.getElem_idxOf h1
  rw [List.getD_eq_getElem?_getD (l := ids) (i := ids.idxOf (ids.getD j 0)), List.getElem?_eq_getElem h1, Option.getD_some]
  exact this

set_option maxHeartbeats 1000000 in
theorem post_place (hW : WRel m L w) (H : Lent m mb L L0 ids) (borrowed : Bool) (hb : borrowed = false → mb.pobj = m.pobj) {res : AV} {N : Heap} {e : Ending} {w' : World} (h : Post mb L0 w res N e w')
    (hfree : borrowed = true → pinfreeT res = true ∧ N.all pinfreeO = true) : Post m L w (ren (rhoG ids L.length) res) (placeG ids L N) e w' := by
  obtain ⟨v, m', rfl, hv, hW', hE⟩ := h
  have hlen := H.len
  have hNlen : ids.length ≤ N.length := by rw [hlen]; exact hE.len
  have hold : ∀ g, g < w.heap.size → (∀ id, id ∈ ids → Own m L id → m.blk id ≠ g) → (∀ id, id ∈ ids → ¬ Hid m L id g) → w'.heap[g]? = w.heap[g]? := fun g hg hno hnh => hE.frame g hg (fun j hj => by
    obtain ⟨h1, h2, h3⟩ := H.own hj
    rw [h3]; exact hno _ (getD_mem h1) h2) (fun j hj => hnh _ (getD_mem (H.hid hj).1) (H.hid hj).2)
  obtain ⟨ρ, hρ⟩ : ∃ ρ, ρ = rhoG ids L.length := ⟨_, rfl⟩
  have hρ1 : ∀ j, j < ids.length → ρ j = ids.getD j 0 := fun j hj => by rw [hρ]; simp [rhoG, hj]
  have hρ2 : ∀ j, ids.length ≤ j → ρ j = L.length + (j - ids.length) := fun j hj => by rw [hρ]; simp [rhoG, show ¬ j < ids.length by omega]
  have hPL : placeG ids L N = putAll ids ((N.take ids.length).map (renO ρ)) L ++ (N.drop ids.length).map (renO ρ) := by rw [hρ]; rfl
  rw [← hρ, hPL]
  obtain ⟨R, hR⟩ : ∃ R, R = putAll ids ((N.take ids.length).map (renO ρ)) L ++ (N.drop ids.length).map (renO ρ) := ⟨_, rfl⟩
  have hol : ids.length = ((N.take ids.length).map (renO ρ)).length := by simp; omega
  have hRold : ∀ i, i < L.length → i ∉ ids → R[i]? = L[i]? := fun i hi hn => by
    rw [hR, List.getElem?_append_left (by rw [putAll_length]; exact hi), putAll_not _ _ _ _ hn]
  have hRids : ∀ j, j < ids.length → R[ids.getD j 0]? = (N[j]?).map (renO ρ) := fun j hj => by
    have hlt := H.bound _ (getD_mem hj)
    rw [hR, List.getElem?_append_left (by rw [putAll_length]; exact hlt), putAll_mem _ _ _ j H.nodup hol H.bound _ (by simp [List.getD, hj])]
    simp [List.getElem?_take, hj]
  have hRnew : ∀ j, ids.length ≤ j → R[L.length + (j - ids.length)]? = (N[j]?).map (renO ρ) := fun j hj => by
    rw [hR, List.getElem?_append_right (by rw [putAll_length]; omega), putAll_length]
    simp only [List.getElem?_map, List.getElem?_drop]
    congr 2; omega
  have hRlen : L.length ≤ R.length := by rw [hR, List.length_append, putAll_length]; omega
  have hRend : R.length = L.length + (N.length - ids.length) := by rw [hR, List.length_append, putAll_length]; simp
  have hRρ : ∀ j, j < N.length → R[ρ j]? = (N[j]?).map (renO ρ) := fun j hj => by
    by_cases hj' : j < ids.length
    · rw [hρ1 j hj']; exact hRids j hj'
    · rw [hρ2 j (by omega)]; exact hRnew j (by omega)
  rw [← hR]
  obtain ⟨m2, hm2⟩ : ∃ m2 : Mem, m2 = { pobj := fun g => if g < w.heap.size then m.pobj g else m'.pobj g, blk := fun i => if i < L.length then (if i ∈ ids then m'.blk (ids.idxOf i) else m.blk i) else m'.blk (i - L.length + ids.length), cap := fun i => if i < L.length then (if i ∈ ids then m'.cap (ids.idxOf i) else m.cap i) else m'.cap (i - L.length + ids.length) } := ⟨_, rfl⟩
  have hpin2 : ∀ g, m2.pobj g = if g < w.heap.size then m.pobj g else m'.pobj g := fun g => by rw [hm2]
  have hold1 : ∀ i, i < L.length → i ∉ ids → m2.blk i = m.blk i ∧ m2.cap i = m.cap i := fun i hi hn => by rw [hm2]; simp [hi, hn]
  have hnew1 : ∀ j, m2.blk (ρ j) = m'.blk j ∧ m2.cap (ρ j) = m'.cap j := fun j => by
    by_cases hj : j < ids.length
    · have hlt := H.bound _ (getD_mem hj)
      rw [hρ1 j hj, hm2]
      simp only [hlt, if_true, getD_mem hj, idx_getD H.nodup hj, and_self]
    · rw [hρ2 j (by omega), hm2]
      simp only [show ¬ L.length + (j - ids.length) < L.length by omega, if_false, show L.length + (j - ids.length) - L.length + ids.length = j by omega, and_self]
  obtain ⟨m3, hm3⟩ : ∃ m3 : Mem, m3 = { m' with pobj := m2.pobj } := ⟨_, rfl⟩
  have heq : borrowed = false → m3 = m' := by
    intro hbf
    have hmb := hb hbf
    rw [hm3]
    have : m2.pobj = m'.pobj := by
      funext g
      rw [hpin2]
      split
      · rename_i hg; have := hE.newobj g hg; rw [this, hmb]
      · rfl
    rw [this]
  have hb3 : m3.blk = m'.blk := by rw [hm3]
  have hc3 : m3.cap = m'.cap := by rw [hm3]
  have hp3 : m3.pobj = m2.pobj := by rw [hm3]
  have hv3 : VRel m3 N res v := by
    cases hbr : borrowed with
    | false => rw [heq hbr]; exact hv
    | true => exact pinfreeT_rel hb3 hc3 (hfree hbr).1 hv
  have hrow3 : ∀ (id : Nat) (cs : List AV) (sz ver : Nat) (us : List Value), N[id]? = some (AObj.row cs sz ver) → CRel m' N cs us → CRel m3 N cs us := by
    intro id cs sz ver us hN hcr
    cases hbr : borrowed with
    | false => rw [heq hbr]; exact hcr
    | true =>
      have := (hfree hbr).2
      rw [List.all_eq_true] at this
      exact pinfreeL_rel hb3 hc3 _ _ (this _ (List.mem_of_getElem? hN)) hcr
  have HL : Laid m3 N ρ m2 R := by
    refine ⟨fun g o h => by rw [← hp3]; exact h, fun j o ho => ⟨?_, ?_, ?_⟩⟩
    · rw [hRρ j (List.getElem?_eq_some_iff.1 ho).1, ho]; rfl
    · rw [(hnew1 j).1, hb3]
    · rw [(hnew1 j).2, hc3]
  have hinv : ∀ i ∈ ids, ∃ j, j < ids.length ∧ i = ids.getD j 0 := fun i hi => by
    obtain ⟨j, hj, rfl⟩ := List.mem_iff_getElem.1 hi
    exact ⟨j, hj, by simp [List.getD, hj]⟩
  have HM : Mono m L m2 R := by
    refine ⟨fun g o h => by rw [hpin2, if_pos (hW.pobj_lt h)]; exact h, fun id cs sz ver hL => ?_, fun id r hL => ?_⟩
    · have hlt := (List.getElem?_eq_some_iff.1 hL).1
      by_cases hin : id ∈ ids
      · obtain ⟨j, hj, rfl⟩ := hinv id hin
        obtain ⟨o, ho, h2⟩ := H.back hj
        rw [hL] at h2
        cases o <;> simp only [renO, reduceCtorEq, Option.some.injEq, AObj.row.injEq] at h2
        obtain ⟨rfl, rfl, rfl⟩ := h2
        obtain ⟨cs', ver', k1, k2, k3⟩ := hE.mono.row _ _ _ _ ho
        refine ⟨renL ρ cs', ver', by rw [hRids j hj, k1]; rfl, k2, fun e => ?_⟩
        obtain ⟨q1, q2, q3⟩ := k3 e
        rw [renL_eq, renL_eq, List.length_map, List.length_map]
        have := hnew1 j
        rw [hρ1 j hj] at this
        exact ⟨q1, by rw [this.1, q2, H.blk j hj], by rw [this.2, q3, H.cap j hj]⟩
      · exact ⟨cs, ver, by rw [hRold id hlt hin]; exact hL, Nat.le_refl _, fun _ => ⟨rfl, hold1 id hlt hin⟩⟩
    · have hlt := (List.getElem?_eq_some_iff.1 hL).1
      by_cases hin : id ∈ ids
      · obtain ⟨j, hj, rfl⟩ := hinv id hin
        obtain ⟨o, ho, h2⟩ := H.back hj
        rw [hL] at h2
        cases o <;> simp only [renO, reduceCtorEq, Option.some.injEq, AObj.raw.injEq] at h2
        subst h2
        obtain ⟨r', k1, k2⟩ := hE.mono.iter _ _ ho
        have := hnew1 j
        rw [hρ1 j hj] at this
        exact ⟨r', by rw [hRids j hj, k1]; rfl, by rw [this.1, k2, H.blk j hj]⟩
      · exact ⟨r, by rw [hRold id hlt hin]; exact hL, (hold1 id hlt hin).1⟩
  have hcase : ∀ {id : Nat} {o : AObj}, R[id]? = some o → (id < L.length ∧ id ∉ ids ∧ L[id]? = some o) ∨ (∃ j o', id = ρ j ∧ N[j]? = some o' ∧ o = renO ρ o') := by
    intro id o ho
    by_cases hlt : id < L.length
    · by_cases hin : id ∈ ids
      · obtain ⟨j, hj, rfl⟩ := hinv id hin
        rw [hRids j hj, Option.map_eq_some_iff] at ho
        obtain ⟨o', h1, h2⟩ := ho
        exact .inr ⟨j, o', (hρ1 j hj).symm, h1, h2.symm⟩
      · rw [hRold id hlt hin] at ho; exact .inl ⟨hlt, hin, ho⟩
    · have hidx := (List.getElem?_eq_some_iff.1 ho).1
      have e : id = L.length + (id - L.length + ids.length - ids.length) := by omega
      rw [e, hRnew _ (by omega), Option.map_eq_some_iff] at ho
      obtain ⟨o', h1, h2⟩ := ho
      exact .inr ⟨id - L.length + ids.length, o', by rw [hρ2 _ (by omega)]; omega, h1, h2.symm⟩
  have hown : ∀ {id : Nat}, Own m2 R id → (id ∉ ids ∧ Own m L id ∧ m2.blk id = m.blk id ∧ m.blk id < w.heap.size) ∨ (∃ j, id = ρ j ∧ Own m' N j ∧ m2.blk id = m'.blk j) := by
    intro id ho
    rcases ho with ⟨cs, sz, ver, hL, hc⟩ | ⟨r, hL⟩
    · rcases hcase hL with ⟨hlt, hin, h1⟩ | ⟨j, o', rfl, h1, h2⟩
      · have ho : Own m L id := .inl ⟨_, _, _, h1, by rw [← (hold1 id hlt hin).2]; exact hc⟩
        exact .inl ⟨hin, ho, (hold1 id hlt hin).1, hW.blk_lt ho⟩
      · cases o' <;> simp only [renO, reduceCtorEq, AObj.row.injEq] at h2
        exact .inr ⟨j, rfl, .inl ⟨_, _, _, h1, by rw [← (hnew1 j).2]; exact hc⟩, (hnew1 j).1⟩
    · rcases hcase hL with ⟨hlt, hin, h1⟩ | ⟨j, o', rfl, h1, h2⟩
      · have ho : Own m L id := .inr ⟨_, h1⟩
        exact .inl ⟨hin, ho, (hold1 id hlt hin).1, hW.blk_lt ho⟩
      · cases o' <;> simp only [renO, reduceCtorEq, AObj.raw.injEq] at h2
        exact .inr ⟨j, rfl, .inr ⟨_, h1⟩, (hnew1 j).1⟩
  -- where a callee's object lies
  have hwhere : ∀ j, Own m' N j → (j < ids.length ∧ Own m L (ids.getD j 0) ∧ m'.blk j = m.blk (ids.getD j 0)) ∨ w.heap.size ≤ m'.blk j := fun j hj => by
    rcases hE.blks j hj with ⟨h1, h2⟩ | h1
    · obtain ⟨k1, k2, k3⟩ := H.own h1
      exact .inl ⟨k1, k2, by rw [h2, k3]⟩
    · exact .inr h1
  have hkeep : ∀ id, id ∉ ids → Own m L id → w'.heap[m.blk id]? = w.heap[m.blk id]? := fun id hin ho => hold _ (hW.blk_lt ho) (fun i hi hoi he => hin (by have := hW.inj i id hoi ho he; rw [← this]; exact hi)) (fun i hi hk => hW.hid.own i _ hk id ho rfl)
  have hhid : ∀ {id g : Nat}, Hid m2 R id g → (id ∉ ids ∧ Hid m L id g) ∨ (∃ j, id = ρ j ∧ Hid m' N j g) := by
    rintro id g ⟨T, e, l, hL, hc⟩
    rcases hcase hL with ⟨hlt, hin, h1⟩ | ⟨j, o', rfl, h1, h2⟩
    · exact .inl ⟨hin, T, e, l, h1, by rw [← (hold1 id hlt hin).2]; exact hc⟩
    · cases o' <;> simp only [renO, reduceCtorEq, AObj.raw.injEq] at h2
      subst h2
      exact .inr ⟨j, rfl, T, e, l, h1, by rw [← (hnew1 j).2]; exact hc⟩
  have hwhereH : ∀ j g, Hid m' N j g → (j < ids.length ∧ Hid m L (ids.getD j 0) g) ∨ w.heap.size ≤ g := fun j g hj => by
    rcases hE.hnew j g hj with h1 | h1
    · exact .inl (H.hid h1)
    · exact .inr h1
  have hHid : HidOk m2 R w' := by
    refine ⟨fun id T e l hL => ?_, fun id g k => ?_, fun id g k j hj => ?_, fun i j g k1 k2 => ?_⟩
    · rcases hcase hL with ⟨hlt, hin, h1⟩ | ⟨j, o', rfl, h1, h2⟩
      · rw [(hold1 id hlt hin).1, (hold1 id hlt hin).2]
        refine (hW.hid.at_ _ _ _ _ h1).same (hkeep id hin (.inr ⟨_, h1⟩)) fun g hc => ?_
        have hk : Hid m L id g := ⟨_, _, _, h1, hc⟩
        exact hold g (hW.hid.lt hk) (fun i hi ho he => hW.hid.own id g hk i ho he) (fun i hi hk' => hin (by have := hW.hid.inj i id g hk' hk; rw [← this]; exact hi))
      · cases o' <;> simp only [renO, reduceCtorEq, AObj.raw.injEq] at h2
        subst h2
        rw [(hnew1 j).1, (hnew1 j).2]; exact hW'.hid.at_ _ _ _ _ h1
    · rw [hpin2]
      rcases hhid k with ⟨hin, q⟩ | ⟨j, rfl, q⟩
      · rw [if_pos (hW.hid.lt q)]; exact hW.hid.free _ _ q
      · split
        · rcases hwhereH j g q with ⟨q1, q2⟩ | q1
          · exact hW.hid.free _ _ q2
          · omega
        · exact hW'.hid.free _ _ q
    · rcases hown hj with ⟨h0, h1, h2, h3⟩ | ⟨i', rfl, h1, h2⟩ <;> rcases hhid k with ⟨hin, q⟩ | ⟨j', rfl, q⟩
      · rw [h2]; exact hW.hid.own _ _ q _ h1
      · rcases hwhereH j' g q with ⟨q1, q2⟩ | q1
        · rw [h2]; exact hW.hid.own _ _ q2 _ h1
        · omega
      · rcases hwhere i' h1 with ⟨q1, q2, q3⟩ | q1
        · rw [h2, q3]; exact hW.hid.own _ _ q _ q2
        · have := hW.hid.lt q; omega
      · rw [h2]; exact hW'.hid.own _ _ q _ h1
    · rcases hhid k1 with ⟨n1, a1⟩ | ⟨i', rfl, a1⟩ <;> rcases hhid k2 with ⟨n2, a2⟩ | ⟨j', rfl, a2⟩
      · exact hW.hid.inj _ _ _ a1 a2
      · rcases hwhereH j' g a2 with ⟨q1, q2⟩ | q1
        · exact absurd (by have := hW.hid.inj _ _ _ a1 q2; rw [this]; exact getD_mem q1) n1
        · have := hW.hid.lt a1; omega
      · rcases hwhereH i' g a1 with ⟨q1, q2⟩ | q1
        · exact absurd (by have := hW.hid.inj _ _ _ a2 q2; rw [this]; exact getD_mem q1) n2
        · have := hW.hid.lt a2; omega
      · rw [hW'.hid.inj _ _ _ a1 a2]
  refine ⟨v, m2, rfl, VRel.laid HL _ _ hv3, ⟨hW.glob.mono fun g o h => by rw [hpin2, if_pos (hW.pobj_lt h)]; exact h, fun g o hp => ?_, fun id cs sz ver hL hc => ?_, fun id cs sz ver hL hc => ?_, fun id r hL => ?_, fun i j hi hj he => ?_, fun id ho => ?_, hHid⟩,
    ⟨fun g hg hno hnh => hold g hg (fun id _ ho => hno id ho) (fun id _ => hnh id), hE.size, fun g hg => by rw [hpin2, if_pos hg], fun id ho => ?_, hRlen, HM, hE.same, fun id g k => ?_⟩⟩
  · rw [hpin2] at hp
    split at hp
    · rename_i hg
      have hfr : w'.heap[g]? = w.heap[g]? := hold g hg (fun id _ ho he => by
        have := hW.freeo id ho
        rw [he, hp] at this; cases this) (fun id _ hk => by
        have := hW.hid.free id g hk
        rw [hp] at this; cases this)
      rw [hfr]; exact hW.pobjs g o hp
    · exact hW'.pobjs g o hp
  · rcases hcase hL with ⟨hlt, hin, h1⟩ | ⟨j, o', rfl, h1, h2⟩
    · rw [(hold1 id hlt hin).2] at hc ⊢
      obtain ⟨us, rest, elem, lo, hi, k1, k2, k3, k4⟩ := hW.rows _ _ _ _ h1 hc
      exact ⟨us, rest, elem, lo, hi, by rw [(hold1 id hlt hin).1, hkeep id hin (.inl ⟨_, _, _, h1, hc⟩)]; exact k1, CRel.mono HM _ _ k2, k3, k4⟩
    · cases o' <;> simp only [renO, reduceCtorEq, AObj.row.injEq] at h2
      obtain ⟨rfl, rfl, rfl⟩ := h2
      rw [(hnew1 j).2] at hc ⊢
      obtain ⟨us, rest, elem, lo, hi, k1, k2, k3, k4⟩ := hW'.rows _ _ _ _ h1 hc
      exact ⟨us, rest, elem, lo, hi, by rw [(hnew1 j).1]; exact k1, CRel.laid HL _ _ (hrow3 _ _ _ _ _ h1 k2), k3, k4⟩
  · rcases hcase hL with ⟨hlt, hin, h1⟩ | ⟨j, o', rfl, h1, h2⟩
    · rw [(hold1 id hlt hin).2] at hc; exact hW.nils _ _ _ _ h1 hc
    · cases o' <;> simp only [renO, reduceCtorEq, AObj.row.injEq] at h2
      obtain ⟨rfl, rfl, rfl⟩ := h2
      rw [(hnew1 j).2] at hc
      rw [hW'.nils _ _ _ _ h1 hc]; rfl
  · rcases hcase hL with ⟨hlt, hin, h1⟩ | ⟨j, o', rfl, h1, h2⟩
    · rw [(hold1 id hlt hin).1, hkeep id hin (.inr ⟨_, h1⟩)]; exact hW.iters _ _ h1
    · cases o' <;> simp only [renO, reduceCtorEq, AObj.raw.injEq] at h2
      subst h2
      rw [(hnew1 j).1]; exact hW'.iters _ _ h1
  · rcases hown hi with ⟨h0, h1, h2, h3⟩ | ⟨i', rfl, h1, h2⟩ <;> rcases hown hj with ⟨k0, k1, k2, k3⟩ | ⟨j', rfl, k1, k2⟩
    · exact hW.inj i j h1 k1 (by omega)
    · rcases hwhere j' k1 with ⟨q1, q2, q3⟩ | q1
      · exact absurd (by have := hW.inj i _ h1 q2 (by omega); rw [this]; exact getD_mem q1) h0
      · omega
    · rcases hwhere i' h1 with ⟨q1, q2, q3⟩ | q1
      · exact absurd (by have := hW.inj j _ k1 q2 (by omega); rw [this]; exact getD_mem q1) k0
      · omega
    · rw [hW'.inj i' j' h1 k1 (by omega)]
  · rw [hpin2]
    rcases hown ho with ⟨h0, h1, h2, h3⟩ | ⟨j, rfl, h1, h2⟩
    · rw [h2, if_pos h3]; exact hW.freeo id h1
    · rw [h2]
      split
      · rename_i hg
        rcases hwhere j h1 with ⟨q1, q2, q3⟩ | q1
        · rw [q3]; exact hW.freeo _ q2
        · omega
      · exact hW'.freeo j h1
  · rcases hown ho with ⟨h0, h1, h2, h3⟩ | ⟨j, rfl, h1, h2⟩
    · exact .inl ⟨h1, h2⟩
    · rcases hwhere j h1 with ⟨q1, q2, q3⟩ | q1
      · exact .inl ⟨by rw [hρ1 j q1]; exact q2, by rw [h2, q3, hρ1 j q1]⟩
      · exact .inr (by omega)
  · rcases hhid k with ⟨_, q⟩ | ⟨j, rfl, q⟩
    · exact .inl q
    · rcases hwhereH j g q with ⟨q1, q2⟩ | q1
      · exact .inl (by rw [hρ1 j q1]; exact q2)
      · exact .inr q1

end

/-! ### The contract -/

def keepG (ids : List Nat) (i : Nat) : Bool := ids.contains i
/-- own rows that are not lent are read as values -/
def derefG (L : Heap) (ids : List Nat) : AV → AV := derefC L (keepG ids) (d3 L (keepG ids))
def lentG (L : Heap) (ids : List Nat) : AV → Prop := lentC L (keepG ids) (l3 L (keepG ids))
def isMslG (L : Heap) (ids : List Nat) : AV → Bool := borC L (keepG ids) (b3 L (keepG ids))

/-- a function that may turn the objects that its arguments lead to: 'ids' tells them, 'args' and 'start' how the callee sees them -/
structure GSpec where
  ids : List AV → List Nat
  args : List AV → Heap → List AV
  start : List AV → Heap → Heap
  pre : List AV → Heap → Prop
  res : List AV → Heap → AV
  post : List AV → Heap → Heap

def liftG (g : GSpec) : FSpec where
  pre xs L := (∀ x ∈ xs, lentG L (g.ids xs) x) ∧ (g.ids xs).Nodup ∧ xs.map (derefG L (g.ids xs)) = renL (fun j => (g.ids xs).getD j j) (g.args xs L) ∧
    ((g.ids xs).map fun i => L[i]?) = ((g.start xs L).map fun o => some (renO (fun j => (g.ids xs).getD j j) o)) ∧ scpL (g.start xs L).length (g.args xs L) = true ∧ (g.start xs L).all (scpO (g.start xs L).length) = true ∧
    g.pre (g.args xs L) (g.start xs L) ∧ (xs.any (isMslG L (g.ids xs)) = true → pinfreeT (g.res (g.args xs L) (g.start xs L)) = true ∧ (g.post (g.args xs L) (g.start xs L)).all pinfreeO = true)
  res xs L := ren (rhoG (g.ids xs) L.length) (g.res (g.args xs L) (g.start xs L))
  post xs L := placeG (g.ids xs) L (g.post (g.args xs L) (g.start xs L))
  quiet := false

section
variable {P : Program} {Γ : Env}

theorem leF_refl : ∀ xs : List AV, leF xs xs
  | [] => trivial
  | x :: xs => by
    have h := leF_refl xs
    cases x <;> first | exact h | exact ⟨rfl, h⟩

open Classical in
/-- A CONTRACT AT A SMALL HEAP SERVES EVERY HEAP -/
theorem Con.liftG {f : FuncId} (hfn : ∃ fn, P.funcs[f]? = some fn ∧ fn.body.isNone = false ∧ (fn.name == "runtime.NumGoroutine") = false) {g : GSpec}
    (h : ∀ (m : Mem) (L : Heap) (w : World) (xs : List AV) (vs : List Value), WRel m L w → CRel m L xs vs → g.pre xs L → Calls P f vs.toArray w (Post m L w (g.res xs L) (g.post xs L))) : Con P f (Eng.liftG g) where
  quiet hq := by cases hq
  runs := .inl ⟨hfn, fun m L w xs vs hW hx hp => by
    obtain ⟨h1, h2, h3, h4, h5, h6, h7, h8⟩ := hp
    obtain ⟨ids, hids⟩ : ∃ ids, ids = g.ids xs := ⟨_, rfl⟩
    rw [← hids] at h1 h2 h3 h4 h8
    obtain ⟨mp, hmp⟩ : ∃ mp : Mem, mp = if xs.any (isMslG L ids) = true then { m with pobj := fun g => if (∃ i ∈ ids, Own m L i ∧ m.blk i = g) ∨ (∃ i ∈ ids, Hid m L i g) then none else w.heap[g]? } else m := ⟨_, rfl⟩
    have hpin : ∀ g o, m.pobj g = some o → mp.pobj g = some o := by
      intro g o hv
      rw [hmp]
      split
      · simp only
        rw [if_neg]
        · exact hW.pobjs _ _ hv
        · rintro (⟨i, hi, ho, rfl⟩ | ⟨i, hi, hk⟩)
          · have := hW.freeo i ho
            rw [hv] at this; cases this
          · have := hW.hid.free i _ hk
            rw [hv] at this; cases this
      · exact hv
    have hblk : mp.blk = m.blk ∧ mp.cap = m.cap := by rw [hmp]; split <;> exact ⟨rfl, rfl⟩
    have hpins : ∀ g o, mp.pobj g = some o → w.heap[g]? = some o := by
      intro g o hv
      rw [hmp] at hv
      split at hv
      · simp only at hv
        split at hv
        · cases hv
        · exact hv
      · exact hW.pobjs _ _ hv
    have hfree : ∀ i ∈ ids, Own m L i → mp.pobj (m.blk i) = none := by
      intro i hi ho
      rw [hmp]
      split
      · simp only
        rw [if_pos (.inl ⟨i, hi, ho, rfl⟩)]
      · exact hW.freeo i ho
    have M : Mono m L mp L := ⟨hpin, fun id cs sz ver h => ⟨cs, ver, h, Nat.le_refl _, fun _ => ⟨rfl, by rw [hblk.1], by rw [hblk.2]⟩⟩, fun id r h => ⟨r, h, by rw [hblk.1]⟩⟩
    have hx' : CRel mp L (xs.map (derefG L ids)) vs := (subA hW M (keep := keepG ids) (full := xs.any (isMslG L ids) = true) fun hf g hno hnh => by
      rw [hmp, if_pos hf]
      simp only
      rw [if_neg]
      rintro (⟨i, hi, ho, he⟩ | ⟨i, hi, hk⟩)
      · exact hno i (by simp [keepG, hi]) ho he
      · exact hnh i (by simp [keepG, hi]) hk).list hx h1 (fun h => h)
    have hw : Weak 0 ids (xs.map (derefG L ids)) L (g.args xs L) (g.start xs L) := ⟨by rw [h3]; exact leF_refl _, h4, h2, rfl, h5, h6⟩
    have H := hw.renamed mp
    have hc0 := CRel.ren H _ _ (by rw [← h3]; exact hx') h5
    obtain ⟨mb, hmb⟩ : ∃ mb : Mem, mb = { mp with blk := fun i => mp.blk (ids.getD i i), cap := fun i => mp.cap (ids.getD i i) } := ⟨_, rfl⟩
    rw [← hmb] at H hc0
    have hgd : ∀ j, j < ids.length → ids.getD j j = ids.getD j 0 := fun j hj => by simp [List.getD, hj]
    have HL : Lent m mb L (g.start xs L) ids := ⟨h2, h4, fun j hj => by rw [hmb]; simp only [hblk.1, hgd j hj], fun j hj => by rw [hmb]; simp only [hblk.2, hgd j hj], fun g o hv => by rw [hmb]; exact hpin g o hv⟩
    have hfreeH : ∀ i ∈ ids, ∀ g, Hid m L i g → mp.pobj g = none := by
      intro i hi g hk
      rw [hmp]
      split
      · simp only
        rw [if_pos (.inr ⟨i, hi, hk⟩)]
      · exact hW.hid.free i g hk
    have hW0 : WRel mb (g.start xs L) w := by
      have hs' : ∀ o ∈ g.start xs L, scpO (g.start xs L).length o = true := by simpa [List.all_eq_true] using h6
      refine ⟨hW.glob.mono fun g o hv => by rw [hmb]; exact hpin g o hv, fun g o hv => hpins g o (by rw [hmb] at hv; exact hv), fun j cs sz ver hL hc => ?_, fun j cs sz ver hL hc => ?_, fun j r hL => ?_, fun i j hi hj he => ?_, fun j ho => ?_, ⟨fun j T e l hL => ?_, fun j g k => ?_, fun j g k i hi => ?_, fun i j g k1 k2 => ?_⟩⟩
      · obtain ⟨k1, k2⟩ := HL.at hL
        rw [HL.cap j k1] at hc ⊢
        obtain ⟨us, rest, elem, lo, hi, q1, q2, q3, q4⟩ := hW.rows _ _ _ _ k2 hc
        have hscp := hs' _ (List.mem_of_getElem? hL)
        exact ⟨us, rest, elem, lo, hi, by rw [HL.blk j k1]; exact q1, CRel.ren H _ _ (CRel.mono M _ _ q2) (by simpa [scpO] using hscp), q3, q4⟩
      · obtain ⟨k1, k2⟩ := HL.at hL
        rw [HL.cap j k1] at hc
        have := hW.nils _ _ _ _ k2 hc
        rw [renL_eq] at this
        simpa using this
      · obtain ⟨k1, k2⟩ := HL.at hL
        rw [HL.blk j k1]; exact hW.iters _ _ k2
      · obtain ⟨a1, a2, a3⟩ := HL.own hi
        obtain ⟨b1, b2, b3⟩ := HL.own hj
        exact getD_inj h2 a1 b1 (hW.inj _ _ a2 b2 (by omega))
      · obtain ⟨a1, a2, a3⟩ := HL.own ho
        rw [a3, hmb]
        exact hfree _ (getD_mem a1) a2
      · obtain ⟨k1, k2⟩ := HL.at hL
        rw [HL.blk j k1, HL.cap j k1]; exact hW.hid.at_ _ _ _ _ k2
      · obtain ⟨a1, a2⟩ := HL.hid k
        rw [hmb]; exact hfreeH _ (getD_mem a1) g a2
      · obtain ⟨a1, a2⟩ := HL.hid k
        obtain ⟨b1, b2, b3⟩ := HL.own hi
        rw [b3]; exact hW.hid.own _ _ a2 _ b2
      · obtain ⟨a1, a2⟩ := HL.hid k1
        obtain ⟨b1, b2⟩ := HL.hid k2
        exact getD_inj h2 a1 b1 (hW.hid.inj _ _ _ a2 b2)
    have := (h mb (g.start xs L) w (g.args xs L) vs hW0 hc0 h7).mono fun e w' hpost => post_place hW HL (xs.any (isMslG L ids)) (fun hf => by rw [hmb, hmp, hf]; rfl) hpost h8
    rw [hids] at this
    exact this⟩

/-- THE SAME, off the body -/
theorem Con.liftG_of_body (hΓ : EnvOk P Γ) {f : FuncId} {fn : Func} (hf : P.funcs[f]? = some fn) (hb : fn.body.isNone = false) (hn : (fn.name == "runtime.NumGoroutine") = false) {g : GSpec}
    (h : ∀ xs L, g.pre xs L → BodyOk P Γ fn xs L (g.res xs L) (g.post xs L)) : Con P f (Eng.liftG g) :=
  Con.liftG ⟨fn, hf, hb, hn⟩ fun m L w xs vs hW hx hp => calls_of_body hΓ hf (h xs L hp) hW hx

end
end Go.Eng
end
section
namespace Go.Eng
open Go
set_option linter.unusedVariables false
set_option linter.unusedSimpArgs false

theorem getD_range (n i : Nat) : (List.range n).getD i i = i := by
  by_cases h : i < n
  · simp [List.getD, h]
  · simp [List.getD, h]

theorem renO_id (o : AObj) : renO (fun i => i) o = o := by
  cases o <;> simp [renO, renL_id]

/-- the heap's first objects stay, what lies behind them is dropped -/
theorem Into.drop {L0 : Heap} {fr : List AV} {L' G : Heap} {fr' : List AV} (h : leF fr fr') (hs : scpL L'.length fr' = true) (ho : L'.all (scpO L'.length) = true) (hn : L0.length ≤ L'.length) : Into L0 fr (L' ++ G) (fr', L') := by
  refine IntoF.base (List.range L'.length) ⟨?_, ?_, List.nodup_range, ?_, hs, ho⟩ hn
  · have : (fun i => (List.range L'.length).getD i i) = fun i => i := by funext i; exact getD_range _ _
    rw [this, renL_id]; exact h
  · have : (fun i => (List.range L'.length).getD i i) = fun i => i := by funext i; exact getD_range _ _
    simp only [this, renO_id]
    apply List.ext_getElem?
    intro i
    simp only [List.getElem?_map]
    by_cases hi : i < L'.length
    · simp only [List.getElem?_range hi, Option.map_some, List.getElem?_append_left hi]
      simp [hi]
    · simp [hi]
  · rw [List.take_range]; congr 1; omega

theorem Into.same {L0 : Heap} {fr : List AV} {L : Heap} {fr' : List AV} (h : leF fr fr') (hs : scpL L.length fr' = true) (ho : L.all (scpO L.length) = true) (hn : L0.length ≤ L.length) : Into L0 fr L (fr', L) := by
  have := Into.drop (G := []) h hs ho hn
  rwa [List.append_nil] at this

theorem Into.keep0 {L0 : Heap} {fr fr' : List AV} {G : Heap} (h : leF fr fr') (hs : scpL 0 fr' = true) (ho : ([] : Heap).all (scpO 0) = true) (hn : L0.length ≤ 0) : Into L0 fr (G) (fr', []) := Into.drop (L' := []) (G := G) h hs ho hn
theorem Into.keep1 {L0 : Heap} {fr fr' : List AV} {G : Heap} {o0 : AObj} (h : leF fr fr') (hs : scpL 1 fr' = true) (ho : [o0].all (scpO 1) = true) (hn : L0.length ≤ 1) : Into L0 fr (o0 :: G) (fr', [o0]) := Into.drop (L' := [o0]) (G := G) h hs ho hn
theorem Into.keep2 {L0 : Heap} {fr fr' : List AV} {G : Heap} {o0 o1 : AObj} (h : leF fr fr') (hs : scpL 2 fr' = true) (ho : [o0, o1].all (scpO 2) = true) (hn : L0.length ≤ 2) : Into L0 fr (o0 :: o1 :: G) (fr', [o0, o1]) := Into.drop (L' := [o0, o1]) (G := G) h hs ho hn
theorem Into.keep3 {L0 : Heap} {fr fr' : List AV} {G : Heap} {o0 o1 o2 : AObj} (h : leF fr fr') (hs : scpL 3 fr' = true) (ho : [o0, o1, o2].all (scpO 3) = true) (hn : L0.length ≤ 3) : Into L0 fr (o0 :: o1 :: o2 :: G) (fr', [o0, o1, o2]) := Into.drop (L' := [o0, o1, o2]) (G := G) h hs ho hn
theorem Into.keep4 {L0 : Heap} {fr fr' : List AV} {G : Heap} {o0 o1 o2 o3 : AObj} (h : leF fr fr') (hs : scpL 4 fr' = true) (ho : [o0, o1, o2, o3].all (scpO 4) = true) (hn : L0.length ≤ 4) : Into L0 fr (o0 :: o1 :: o2 :: o3 :: G) (fr', [o0, o1, o2, o3]) := Into.drop (L' := [o0, o1, o2, o3]) (G := G) h hs ho hn
theorem Into.keep5 {L0 : Heap} {fr fr' : List AV} {G : Heap} {o0 o1 o2 o3 o4 : AObj} (h : leF fr fr') (hs : scpL 5 fr' = true) (ho : [o0, o1, o2, o3, o4].all (scpO 5) = true) (hn : L0.length ≤ 5) : Into L0 fr (o0 :: o1 :: o2 :: o3 :: o4 :: G) (fr', [o0, o1, o2, o3, o4]) := Into.drop (L' := [o0, o1, o2, o3, o4]) (G := G) h hs ho hn
theorem Into.keep6 {L0 : Heap} {fr fr' : List AV} {G : Heap} {o0 o1 o2 o3 o4 o5 : AObj} (h : leF fr fr') (hs : scpL 6 fr' = true) (ho : [o0, o1, o2, o3, o4, o5].all (scpO 6) = true) (hn : L0.length ≤ 6) : Into L0 fr (o0 :: o1 :: o2 :: o3 :: o4 :: o5 :: G) (fr', [o0, o1, o2, o3, o4, o5]) := Into.drop (L' := [o0, o1, o2, o3, o4, o5]) (G := G) h hs ho hn
theorem Into.keep7 {L0 : Heap} {fr fr' : List AV} {G : Heap} {o0 o1 o2 o3 o4 o5 o6 : AObj} (h : leF fr fr') (hs : scpL 7 fr' = true) (ho : [o0, o1, o2, o3, o4, o5, o6].all (scpO 7) = true) (hn : L0.length ≤ 7) : Into L0 fr (o0 :: o1 :: o2 :: o3 :: o4 :: o5 :: o6 :: G) (fr', [o0, o1, o2, o3, o4, o5, o6]) := Into.drop (L' := [o0, o1, o2, o3, o4, o5, o6]) (G := G) h hs ho hn
theorem Into.keep8 {L0 : Heap} {fr fr' : List AV} {G : Heap} {o0 o1 o2 o3 o4 o5 o6 o7 : AObj} (h : leF fr fr') (hs : scpL 8 fr' = true) (ho : [o0, o1, o2, o3, o4, o5, o6, o7].all (scpO 8) = true) (hn : L0.length ≤ 8) : Into L0 fr (o0 :: o1 :: o2 :: o3 :: o4 :: o5 :: o6 :: o7 :: G) (fr', [o0, o1, o2, o3, o4, o5, o6, o7]) := Into.drop (L' := [o0, o1, o2, o3, o4, o5, o6, o7]) (G := G) h hs ho hn
theorem Into.flat {fr fr' : List AV} (h : leF fr fr') (hs : scpL 0 fr' = true) : Into [] fr [] (fr', []) := Into.same h hs rfl (Nat.le_refl _)

theorem Into.one {v res : AV} {G : Heap} (h : v = res) (hs : scp 0 res = true) : Into [] [v] G ([res], []) := Into.drop (L' := []) (G := G) (by subst h; exact leF_refl _) (by simp [scpL, hs]) rfl (Nat.le_refl _)

theorem byte_imp {p q : UInt8 → Bool} (h : (List.range 256).all (fun n => !(p (UInt8.ofNat n)) || q (UInt8.ofNat n)) = true) (c : UInt8) : p c = true → q c = true := by
  intro hp
  have := List.all_eq_true.1 h c.toNat (List.mem_range.2 c.toNat_lt)
  rw [UInt8.ofNat_toNat, hp] at this
  simpa using this
theorem byte_eq {α : Type} [BEq α] [LawfulBEq α] {p q : UInt8 → α} (h : (List.range 256).all (fun n => p (UInt8.ofNat n) == q (UInt8.ofNat n)) = true) (c : UInt8) : p c = q c := by
  have := List.all_eq_true.1 h c.toNat (List.mem_range.2 c.toNat_lt)
  rw [UInt8.ofNat_toNat] at this
  exact eq_of_beq this

theorem wrap_i64 (n : Int) (h : -9223372036854775808 ≤ n ∧ n ≤ 9223372036854775807) : IntKind.i64.wrap n = n := IntWalk.i64_in n h

/-- all that a world's cells hold, as memory that is only read -/
def pinW (w : World) : Mem := ⟨fun g => w.heap[g]?, fun _ => 0, fun _ => 0⟩
theorem pinW_pin (w : World) (g : Nat) (o : Obj) (h : (pinW w).pobj g = some o) : w.heap[g]? = some o := h
theorem rel_nil (w : World) : VRel (pinW w) [] (.sl [] 0) (.slice none 0 0) := by
  simp only [VRel]
  exact ⟨none, 0, rfl, Nat.le_refl _, [], CRel.nil _ _, .inl rfl⟩
/-- a slice of one-cell elements that came in -/
theorem rel_slice (w : World) (x : Addr) (len cap : Nat) (us : List Value) (cs : List AV) (hl : len ≤ cap) (hcr : CRel (pinW w) [] cs us) (hcell : ∀ i v, us[i]? = some v → w.cell? (x.add i) = some v) : VRel (pinW w) [] (.sl cs len) (.slice (some x) len cap) := by
  simp only [VRel]
  refine ⟨some x, cap, rfl, hl, us, hcr, ?_⟩
  cases us with
  | nil => exact .inl rfl
  | cons u us =>
    have h0 := hcell 0 u (by simp)
    obtain ⟨b, off, spot⟩ := x
    have hs : spot = none := by simpa [Addr.add] using World.cell?_spot h0
    subst hs
    exact .inr ⟨b, off, rfl, fun i v hi => by
      have := hcell i v hi
      refine Mem.pin_heap rfl ?_
      rw [← this]; congr 1; simp only [Addr.add]; split <;> simp_all⟩
theorem crel_strs (m : Mem) (L : Heap) : ∀ ss : List ByteArray, CRel m L ((ss.map (·.data.toList)).map .str) (ss.map .string)
  | [] => CRel.nil _ _
  | s :: ss => CRel.cons (by simp [VRel]) (crel_strs m L ss)

/-- an environment, one function more -/
def addE (Γ : Env) (f : FuncId) (sp : FSpec) : Env := fun g => if g = f then some sp else Γ g
def noE : Env := fun _ => none
theorem noE_ok (P : Program) : EnvOk P noE := fun _ _ h => by cases h
theorem EnvOk.add {P : Program} {Γ : Env} {f : FuncId} {sp : FSpec} (h : EnvOk P Γ) (hc : Con P f sp) : EnvOk P (addE Γ f sp) := by
  intro g s hs
  unfold addE at hs
  split at hs
  · rename_i e; subst e; obtain rfl := Option.some.inj hs; exact hc
  · exact h g s hs

theorem scpL_str (n : Nat) : ∀ ss : List (List UInt8), scpL n (ss.map .str) = true
  | [] => rfl
  | s :: ss => by simp only [List.map_cons, scpL, scp, scpL_str n ss, Bool.and_self]
theorem drop_str {ss : List (List UInt8)} {k : Nat} (h : k < ss.length) {d : AV} : ((ss.map AV.str).drop k).getD 0 d = .str (ss.getD k []) := by
  simp [List.getD, List.getElem?_drop, h]
theorem renL_closed (ρ : Nat → Nat) (ss : List (List UInt8)) : renL ρ (ss.map .str) = ss.map .str := by
  induction ss with
  | nil => rfl
  | cons s ss ih => simp only [List.map_cons, renL, ren, ih]
theorem pinfreeL_str : ∀ ss : List (List UInt8), pinfreeL (ss.map .str) = true
  | [] => rfl
  | s :: ss => by simp only [List.map_cons, pinfreeL, pinfree, pinfreeL_str ss, Bool.and_self]
theorem oneCells_str : ∀ ss : List (List UInt8), oneCells (ss.map .str) = true
  | [] => rfl
  | s :: ss => by simp only [List.map_cons, oneCells, oneCells_str ss]

theorem takeWhile_at {α : Type} (p : α → Bool) (d : α) : ∀ (l : List α) (k : Nat), k ≤ l.length → (∀ j, j < k → p (l.getD j d) = true) → (k = l.length ∨ p (l.getD k d) = false) → l.takeWhile p = l.take k
  | [], k, _, _, _ => by simp
  | c :: l, 0, _, _, hs => by
    rcases hs with hs | hs
    · simp at hs
    · simp at hs; simp [List.takeWhile_cons, hs]
  | c :: l, k + 1, hk, h, hs => by
    have h0 := h 0 (by omega)
    simp only [List.getD_cons_zero] at h0
    rw [List.takeWhile_cons, h0, List.take_succ_cons, takeWhile_at p d l k (by simpa using hk) (fun j hj => by simpa using h (j + 1) (by omega)) (by simpa using hs)]
    rfl

theorem rune_lo {l : List UInt8} {k : Nat} (h : k < l.length) (ha : (l.getD k 0).toNat < 128) : runeAt l k = ((l.getD k 0).toNat, 1) := by
  have e : l.getD k 0 = l[k] := by simp [List.getD, h]
  rw [e] at ha ⊢
  exact decode_ascii ⟨l.toArray⟩ k (by simpa [ByteArray.size] using h) (by show (l.toArray[k]).toNat < 128; simpa using ha)
theorem rune_hi {l : List UInt8} {k : Nat} (h : k < l.length) (ha : 128 ≤ (l.getD k 0).toNat) : 128 ≤ (runeAt l k).1 := by
  have e : l.getD k 0 = l[k] := by simp [List.getD, h]
  rw [e] at ha
  exact (decode_high ⟨l.toArray⟩ k (by simpa [ByteArray.size] using h) (by show 128 ≤ (l.toArray[k]).toNat; simpa using ha)).1

theorem forall_true (p : Prop) : (true = true → p) = p := by simp
theorem forall_false (p : Prop) : (false = true → p) = True := by simp

theorem need_any (c : Bool) : need c (.any) = True := eq_true fun _ => rfl
theorem need_int (c : Bool) (k : IntKind) (n : Int) : need c (.int k n) = True := eq_true fun _ => rfl
theorem need_bool (c : Bool) (b : Bool) : need c (.bool b) = True := eq_true fun _ => rfl
theorem need_str (c : Bool) (l : List UInt8) : need c (.str l) = True := eq_true fun _ => rfl
theorem need_lit (c : Bool) (v : Value) : need c (.lit v) = True := eq_true fun _ => rfl
theorem need_agg (c : Bool) (cs : List AV) : need c (.agg cs) = True := eq_true fun _ => rfl
theorem need_tup (c : Bool) (vs : List AV) : need c (.tup vs) = True := eq_true fun _ => rfl
theorem need_sl (c : Bool) (cs : List AV) (n : Nat) : need c (.sl cs n) = True := eq_true fun _ => rfl
theorem need_msl (c : Bool) (a b d e : Nat) : need c (.msl a b d e) = True := eq_true fun _ => rfl
theorem need_ref (c : Bool) (a b d : Nat) : need c (.ref a b d) = True := eq_true fun _ => rfl
theorem need_ip (c : Bool) (cs : List AV) : need c (.ip cs) = True := eq_true fun _ => rfl
theorem need_fn (c : Bool) (f : Fn) (a b : List AV) : need c (.fn f a b) = True := eq_true fun _ => rfl
theorem need_ifc (c : Bool) (t : TypeId) (x : AV) : need c (.ifc t x) = True := eq_true fun _ => rfl
theorem need_alt (c : Bool) (b : Bool) (x y : AV) : need c (.alt b x y) = True := eq_true fun _ => rfl

theorem exU_split {E : List It → Prop} {p q : Prop} {t1 t2 : List It} (h1 : p → E t1) (h2 : q → E t2) : exU E p q t1 t2 := ⟨h1, h2⟩
theorem need_ub (c : Bool) (p q : Prop) : need c (.ub p q) = True := eq_true fun _ => rfl
theorem need_csl (c : Bool) (a b d e : Nat) : need c (.csl a b d e) = True := eq_true fun _ => rfl
theorem need_mpr (c : Bool) (k : Option IntKind) (f : Key → Option Value) : need c (.mpr k f) = True := eq_true fun _ => rfl
theorem need_mp (c : Bool) (i : Nat) : need c (.mp i) = True := eq_true fun _ => rfl
theorem scpL_bytes (n : Nat) (l : List UInt8) : scpL n (l.map byteAV) = true := by rw [scpL_iff]; simp [List.all_eq_true, byteAV, scp]
theorem renL_bytes (ρ : Nat → Nat) (l : List UInt8) : renL ρ (l.map byteAV) = l.map byteAV := by rw [renL_eq]; simp [byteAV, ren]
theorem pinfreeL_bytes (l : List UInt8) : pinfreeL (l.map byteAV) = true := by induction l <;> simp_all [pinfreeL, byteAV, pinfree]
theorem oneCells_bytes (l : List UInt8) : oneCells (l.map byteAV) = true := by induction l <;> simp_all [oneCells, byteAV]

theorem verL_str (L : Heap) (id v' : Nat) (ss : List (List UInt8)) : verL L id v' (ss.map .str) = ss.map .str := by induction ss <;> simp_all [verL, verV]
theorem verL_bytes (L : Heap) (id v' : Nat) (l : List UInt8) : verL L id v' (l.map byteAV) = l.map byteAV := by induction l <;> simp_all [verL, verV, byteAV]
theorem frzL_str (L : Heap) (id : Nat) (ss : List (List UInt8)) : frzL L id (ss.map .str) = ss.map .str := by induction ss <;> simp_all [frzL, frzV]
theorem frzL_bytes (L : Heap) (id : Nat) (l : List UInt8) : frzL L id (l.map byteAV) = l.map byteAV := by induction l <;> simp_all [frzL, frzV, byteAV]
theorem verL_append (L : Heap) (id v' : Nat) (xs ys : List AV) : verL L id v' (xs ++ ys) = verL L id v' xs ++ verL L id v' ys := by induction xs <;> simp_all [verL]
theorem frzL_append (L : Heap) (id : Nat) (xs ys : List AV) : frzL L id (xs ++ ys) = frzL L id xs ++ frzL L id ys := by induction xs <;> simp_all [frzL]
theorem renL_append (ρ : Nat → Nat) (xs ys : List AV) : renL ρ (xs ++ ys) = renL ρ xs ++ renL ρ ys := by induction xs <;> simp_all [renL]
theorem scpL_append (n : Nat) (xs ys : List AV) : scpL n (xs ++ ys) = (scpL n xs && scpL n ys) := by induction xs <;> simp_all [scpL, Bool.and_assoc]
theorem pinfreeL_append (xs ys : List AV) : pinfreeL (xs ++ ys) = (pinfreeL xs && pinfreeL ys) := by induction xs <;> simp_all [pinfreeL, Bool.and_assoc]
theorem unbytes_append (xs ys : List AV) : unbytes (xs ++ ys) = unbytes xs ++ unbytes ys := by simp [unbytes]
theorem allBytes_append (xs ys : List AV) : allBytes (xs ++ ys) = (allBytes xs && allBytes ys) := by simp [allBytes]
/-- a value that leads to no own row and rests on no memory -/
def flat : AV → Bool
  | .int .. => true
  | .bool _ => true
  | .str _ => true
  | _ => false
theorem flat_cases {x : AV} (h : flat x = true) : (∃ k n, x = .int k n) ∨ (∃ b, x = .bool b) ∨ (∃ l, x = .str l) := by
  cases x <;> simp_all [flat]
theorem flat_scp {xs : List AV} (h : xs.all flat = true) (n : Nat) : scpL n xs = true := by
  rw [scpL_iff]; rw [List.all_eq_true] at *; intro x hx
  rcases flat_cases (h x hx) with ⟨_, _, rfl⟩ | ⟨_, rfl⟩ | ⟨_, rfl⟩ <;> rfl
theorem flat_ren {xs : List AV} (h : xs.all flat = true) (ρ : Nat → Nat) : renL ρ xs = xs := by
  rw [renL_eq]; rw [List.all_eq_true] at h
  conv => rhs; rw [← List.map_id xs]
  refine List.map_congr_left fun x hx => ?_
  rcases flat_cases (h x hx) with ⟨_, _, rfl⟩ | ⟨_, rfl⟩ | ⟨_, rfl⟩ <;> rfl
theorem flat_ver {xs : List AV} (h : xs.all flat = true) (L : Heap) (id v' : Nat) : verL L id v' xs = xs := by
  induction xs with
  | nil => rfl
  | cons x xs ih =>
    rw [List.all_cons, Bool.and_eq_true] at h
    simp only [verL, ih h.2]
    rcases flat_cases h.1 with ⟨_, _, rfl⟩ | ⟨_, rfl⟩ | ⟨_, rfl⟩ <;> rfl
theorem flat_frz {xs : List AV} (h : xs.all flat = true) (L : Heap) (id : Nat) : frzL L id xs = xs := by
  induction xs with
  | nil => rfl
  | cons x xs ih =>
    rw [List.all_cons, Bool.and_eq_true] at h
    simp only [frzL, ih h.2]
    rcases flat_cases h.1 with ⟨_, _, rfl⟩ | ⟨_, rfl⟩ | ⟨_, rfl⟩ <;> rfl
theorem flat_pinfree {xs : List AV} (h : xs.all flat = true) : pinfreeL xs = true := by
  induction xs with
  | nil => rfl
  | cons x xs ih =>
    rw [List.all_cons, Bool.and_eq_true] at h
    simp only [pinfreeL, ih h.2, Bool.and_true]
    rcases flat_cases h.1 with ⟨_, _, rfl⟩ | ⟨_, rfl⟩ | ⟨_, rfl⟩ <;> rfl
theorem flat_one {xs : List AV} (h : xs.all flat = true) : oneCells xs = true := by
  induction xs with
  | nil => rfl
  | cons x xs ih =>
    rw [List.all_cons, Bool.and_eq_true] at h
    have := ih h.2
    rcases flat_cases h.1 with ⟨_, _, rfl⟩ | ⟨_, rfl⟩ | ⟨_, rfl⟩ <;> simpa [oneCells] using this
theorem flat_deref {xs : List AV} (h : xs.all flat = true) (L : Heap) (keep : Nat → Bool) (sub : AV → AV) : xs.map (derefC L keep sub) = xs := by
  rw [List.all_eq_true] at h
  conv => rhs; rw [← List.map_id xs]
  refine List.map_congr_left fun x hx => ?_
  rcases flat_cases (h x hx) with ⟨_, _, rfl⟩ | ⟨_, rfl⟩ | ⟨_, rfl⟩ <;> rfl
theorem flat_lent {xs : List AV} (h : xs.all flat = true) (L : Heap) (keep : Nat → Bool) (sub : AV → Prop) : (∀ x ∈ xs, lentC L keep sub x) = True := by
  rw [List.all_eq_true] at h
  refine eq_true fun x hx => ?_
  rcases flat_cases (h x hx) with ⟨_, _, rfl⟩ | ⟨_, rfl⟩ | ⟨_, rfl⟩ <;> trivial
theorem flat_str (ss : List (List UInt8)) : (ss.map AV.str).all flat = true := by simp [flat]
theorem flat_bytes (l : List UInt8) : (l.map byteAV).all flat = true := by simp [flat, byteAV]
theorem flat_take {xs : List AV} (h : xs.all flat = true) (n : Nat) : (xs.take n).all flat = true := by
  rw [List.all_eq_true] at *; exact fun x hx => h x (List.mem_of_mem_take hx)
theorem flat_drop {xs : List AV} (h : xs.all flat = true) (n : Nat) : (xs.drop n).all flat = true := by
  rw [List.all_eq_true] at *; exact fun x hx => h x (List.mem_of_mem_drop hx)

/-! values that lead to no own row: nothing is read anew -/
theorem dC_any (L : Heap) (keep : Nat → Bool) (sub : AV → AV)  : derefC L keep sub (.any) = .any := rfl
theorem lC_any (L : Heap) (keep : Nat → Bool) (sub : AV → Prop)  : lentC L keep sub (.any) = True := rfl
theorem bC_any (L : Heap) (keep : Nat → Bool) (sub : AV → Bool)  : borC L keep sub (.any) = false := rfl
theorem dC_int (L : Heap) (keep : Nat → Bool) (sub : AV → AV) (k : IntKind) (n : Int) : derefC L keep sub (.int k n) = .int k n := rfl
theorem lC_int (L : Heap) (keep : Nat → Bool) (sub : AV → Prop) (k : IntKind) (n : Int) : lentC L keep sub (.int k n) = True := rfl
theorem bC_int (L : Heap) (keep : Nat → Bool) (sub : AV → Bool) (k : IntKind) (n : Int) : borC L keep sub (.int k n) = false := rfl
theorem dC_bool (L : Heap) (keep : Nat → Bool) (sub : AV → AV) (b : Bool) : derefC L keep sub (.bool b) = .bool b := rfl
theorem lC_bool (L : Heap) (keep : Nat → Bool) (sub : AV → Prop) (b : Bool) : lentC L keep sub (.bool b) = True := rfl
theorem bC_bool (L : Heap) (keep : Nat → Bool) (sub : AV → Bool) (b : Bool) : borC L keep sub (.bool b) = false := rfl
theorem dC_str (L : Heap) (keep : Nat → Bool) (sub : AV → AV) (l : List UInt8) : derefC L keep sub (.str l) = .str l := rfl
theorem lC_str (L : Heap) (keep : Nat → Bool) (sub : AV → Prop) (l : List UInt8) : lentC L keep sub (.str l) = True := rfl
theorem bC_str (L : Heap) (keep : Nat → Bool) (sub : AV → Bool) (l : List UInt8) : borC L keep sub (.str l) = false := rfl
theorem dC_lit (L : Heap) (keep : Nat → Bool) (sub : AV → AV) (v : Value) : derefC L keep sub (.lit v) = .lit v := rfl
theorem lC_lit (L : Heap) (keep : Nat → Bool) (sub : AV → Prop) (v : Value) : lentC L keep sub (.lit v) = True := rfl
theorem bC_lit (L : Heap) (keep : Nat → Bool) (sub : AV → Bool) (v : Value) : borC L keep sub (.lit v) = false := rfl
theorem dC_tup (L : Heap) (keep : Nat → Bool) (sub : AV → AV) (vs : List AV) : derefC L keep sub (.tup vs) = .tup vs := rfl
theorem lC_tup (L : Heap) (keep : Nat → Bool) (sub : AV → Prop) (vs : List AV) : lentC L keep sub (.tup vs) = True := rfl
theorem bC_tup (L : Heap) (keep : Nat → Bool) (sub : AV → Bool) (vs : List AV) : borC L keep sub (.tup vs) = false := rfl
theorem dC_sl (L : Heap) (keep : Nat → Bool) (sub : AV → AV) (cs : List AV) (n : Nat) : derefC L keep sub (.sl cs n) = .sl cs n := rfl
theorem lC_sl (L : Heap) (keep : Nat → Bool) (sub : AV → Prop) (cs : List AV) (n : Nat) : lentC L keep sub (.sl cs n) = True := rfl
theorem bC_sl (L : Heap) (keep : Nat → Bool) (sub : AV → Bool) (cs : List AV) (n : Nat) : borC L keep sub (.sl cs n) = false := rfl
theorem dC_ip (L : Heap) (keep : Nat → Bool) (sub : AV → AV) (cs : List AV) : derefC L keep sub (.ip cs) = .ip cs := rfl
theorem lC_ip (L : Heap) (keep : Nat → Bool) (sub : AV → Prop) (cs : List AV) : lentC L keep sub (.ip cs) = True := rfl
theorem bC_ip (L : Heap) (keep : Nat → Bool) (sub : AV → Bool) (cs : List AV) : borC L keep sub (.ip cs) = false := rfl
theorem dC_when (L : Heap) (keep : Nat → Bool) (sub : AV → AV) (c : Bool) (x : AV) : derefC L keep sub (.when c x) = .when c x := rfl
theorem lC_when (L : Heap) (keep : Nat → Bool) (sub : AV → Prop) (c : Bool) (x : AV) : lentC L keep sub (.when c x) = True := rfl
theorem bC_when (L : Heap) (keep : Nat → Bool) (sub : AV → Bool) (c : Bool) (x : AV) : borC L keep sub (.when c x) = false := rfl
theorem dC_alt (L : Heap) (keep : Nat → Bool) (sub : AV → AV) (c : Bool) (x y : AV) : derefC L keep sub (.alt c x y) = .alt c x y := rfl
theorem lC_alt (L : Heap) (keep : Nat → Bool) (sub : AV → Prop) (c : Bool) (x y : AV) : lentC L keep sub (.alt c x y) = True := rfl
theorem bC_alt (L : Heap) (keep : Nat → Bool) (sub : AV → Bool) (c : Bool) (x y : AV) : borC L keep sub (.alt c x y) = false := rfl
theorem dC_ub (L : Heap) (keep : Nat → Bool) (sub : AV → AV) (p q : Prop) : derefC L keep sub (.ub p q) = .ub p q := rfl
theorem lC_ub (L : Heap) (keep : Nat → Bool) (sub : AV → Prop) (p q : Prop) : lentC L keep sub (.ub p q) = True := rfl
theorem bC_ub (L : Heap) (keep : Nat → Bool) (sub : AV → Bool) (p q : Prop) : borC L keep sub (.ub p q) = false := rfl
theorem dC_mp (L : Heap) (keep : Nat → Bool) (sub : AV → AV) (i : Nat) : derefC L keep sub (.mp i) = cond (keep i) (.mp i) (match L[i]? with | some (.raw (.map kd f)) => .mpr kd f | _ => .mp i) := rfl
theorem dC_mpr (L : Heap) (keep : Nat → Bool) (sub : AV → AV) (k : Option IntKind) (f : Key → Option Value) : derefC L keep sub (.mpr k f) = .mpr k f := rfl
theorem lC_mpr (L : Heap) (keep : Nat → Bool) (sub : AV → Prop) (k : Option IntKind) (f : Key → Option Value) : lentC L keep sub (.mpr k f) = True := rfl
theorem bC_mpr (L : Heap) (keep : Nat → Bool) (sub : AV → Bool) (k : Option IntKind) (f : Key → Option Value) : borC L keep sub (.mpr k f) = false := rfl
theorem lC_mp (L : Heap) (keep : Nat → Bool) (sub : AV → Prop) (i : Nat) : lentC L keep sub (.mp i) = True := rfl
theorem bC_mp (L : Heap) (keep : Nat → Bool) (sub : AV → Bool) (i : Nat) : borC L keep sub (.mp i) = !keep i := rfl
theorem dC_agg (L : Heap) (keep : Nat → Bool) (sub : AV → AV) (cs : List AV) : derefC L keep sub (.agg cs) = .agg (cs.map sub) := rfl
theorem lC_agg (L : Heap) (keep : Nat → Bool) (sub : AV → Prop) (cs : List AV) : lentC L keep sub (.agg cs) = (∀ x ∈ cs, sub x) := rfl
theorem bC_agg (L : Heap) (keep : Nat → Bool) (sub : AV → Bool) (cs : List AV) : borC L keep sub (.agg cs) = cs.any sub := rfl
theorem dC_ifc (L : Heap) (keep : Nat → Bool) (sub : AV → AV) (t : TypeId) (x : AV) : derefC L keep sub (.ifc t x) = .ifc t (sub x) := rfl
theorem lC_ifc (L : Heap) (keep : Nat → Bool) (sub : AV → Prop) (t : TypeId) (x : AV) : lentC L keep sub (.ifc t x) = sub x := rfl
theorem bC_ifc (L : Heap) (keep : Nat → Bool) (sub : AV → Bool) (t : TypeId) (x : AV) : borC L keep sub (.ifc t x) = sub x := rfl
theorem dC_fn (L : Heap) (keep : Nat → Bool) (sub : AV → AV) (f : Fn) (a b : List AV) : derefC L keep sub (.fn f a b) = .fn f (a.map sub) (b.map sub) := rfl
theorem lC_fn (L : Heap) (keep : Nat → Bool) (sub : AV → Prop) (f : Fn) (a b : List AV) : lentC L keep sub (.fn f a b) = ((∀ x ∈ a, sub x) ∧ ∀ x ∈ b, sub x) := rfl
theorem bC_fn (L : Heap) (keep : Nat → Bool) (sub : AV → Bool) (f : Fn) (a b : List AV) : borC L keep sub (.fn f a b) = (a.any sub || b.any sub) := rfl
theorem dC_msl (L : Heap) (keep : Nat → Bool) (sub : AV → AV) (id ver off n : Nat) : derefC L keep sub (.msl id ver off n) = cond (keep id) (.msl id ver off n) (.sl ((((rowOf L id).drop (off * szOf L id)).take (n * szOf L id)).map sub) n) := rfl
theorem lC_msl (L : Heap) (keep : Nat → Bool) (sub : AV → Prop) (id ver off n : Nat) : lentC L keep sub (.msl id ver off n) = cond (keep id) True (fresh L id ver ∧ ∀ x ∈ ((rowOf L id).drop (off * szOf L id)).take (n * szOf L id), sub x) := rfl
theorem bC_msl (L : Heap) (keep : Nat → Bool) (sub : AV → Bool) (id ver off n : Nat) : borC L keep sub (.msl id ver off n) = !keep id := rfl
theorem dC_csl (L : Heap) (keep : Nat → Bool) (sub : AV → AV) (id ver off n : Nat) : derefC L keep sub (.csl id ver off n) = cond (keep id) (.csl id ver off n) (.sl ((((rowOf L id).drop (off * szOf L id)).take (n * szOf L id)).map sub) n) := rfl
theorem lC_csl (L : Heap) (keep : Nat → Bool) (sub : AV → Prop) (id ver off n : Nat) : lentC L keep sub (.csl id ver off n) = cond (keep id) True (fresh L id ver ∧ ∀ x ∈ ((rowOf L id).drop (off * szOf L id)).take (n * szOf L id), sub x) := rfl
theorem bC_csl (L : Heap) (keep : Nat → Bool) (sub : AV → Bool) (id ver off n : Nat) : borC L keep sub (.csl id ver off n) = !keep id := rfl
theorem dC_ref (L : Heap) (keep : Nat → Bool) (sub : AV → AV) (id ver off : Nat) : derefC L keep sub (.ref id ver off) = cond (keep id || !isRow L id) (.ref id ver off) (.ip (((rowOf L id).drop off).map sub)) := rfl
theorem lC_ref (L : Heap) (keep : Nat → Bool) (sub : AV → Prop) (id ver off : Nat) : lentC L keep sub (.ref id ver off) = cond (keep id || !isRow L id) True (fresh L id ver ∧ ∀ x ∈ (rowOf L id).drop off, sub x) := rfl
theorem bC_ref (L : Heap) (keep : Nat → Bool) (sub : AV → Bool) (id ver off : Nat) : borC L keep sub (.ref id ver off) = !(keep id || !isRow L id) := rfl
theorem d1_at (L : Heap) (k : Nat → Bool) (x : AV) : d1 L k x = derefC L k deref0 x := rfl
theorem l1_at (L : Heap) (k : Nat → Bool) (x : AV) : l1 L k x = lentC L k lent0 x := rfl
theorem b1_at (L : Heap) (k : Nat → Bool) (x : AV) : b1 L k x = borC L k bor0 x := rfl
theorem d2_at (L : Heap) (k : Nat → Bool) (x : AV) : d2 L k x = derefC L k (d1 L k) x := rfl
theorem l2_at (L : Heap) (k : Nat → Bool) (x : AV) : l2 L k x = lentC L k (l1 L k) x := rfl
theorem b2_at (L : Heap) (k : Nat → Bool) (x : AV) : b2 L k x = borC L k (b1 L k) x := rfl
theorem d3_at (L : Heap) (k : Nat → Bool) (x : AV) : d3 L k x = derefC L k (d2 L k) x := rfl
theorem l3_at (L : Heap) (k : Nat → Bool) (x : AV) : l3 L k x = lentC L k (l2 L k) x := rfl
theorem b3_at (L : Heap) (k : Nat → Bool) (x : AV) : b3 L k x = borC L k (b2 L k) x := rfl
theorem d0_at (x : AV) : deref0 x = x := rfl
theorem l0_at (x : AV) : lent0 x = True := rfl
theorem b0_at (x : AV) : bor0 x = false := rfl
theorem dA_at (L : Heap) (x : AV) : derefA L x = derefC L keep0 (d3 L keep0) x := rfl
theorem lA_at (L : Heap) (x : AV) : lent L x = lentC L keep0 (l3 L keep0) x := rfl
theorem bA_at (L : Heap) (x : AV) : isMsl L x = borC L keep0 (b3 L keep0) x := rfl
theorem dG_at (L : Heap) (ids : List Nat) (x : AV) : derefG L ids x = derefC L (keepG ids) (d3 L (keepG ids)) x := rfl
theorem lG_at (L : Heap) (ids : List Nat) (x : AV) : lentG L ids x = lentC L (keepG ids) (l3 L (keepG ids)) x := rfl
theorem bG_at (L : Heap) (ids : List Nat) (x : AV) : isMslG L ids x = borC L (keepG ids) (b3 L (keepG ids)) x := rfl
theorem k0_at (i : Nat) : keep0 i = false := rfl
theorem kG_at (ids : List Nat) (i : Nat) : keepG ids i = ids.contains i := rfl
theorem map_d0 (xs : List AV) : xs.map deref0 = xs := List.map_id xs
theorem d1_str (L : Heap) (k : Nat → Bool) (ss : List (List UInt8)) : (ss.map AV.str).map (d1 L k) = ss.map AV.str := flat_deref (flat_str ss) _ _ _
theorem l1_str (L : Heap) (k : Nat → Bool) (ss : List (List UInt8)) : (∀ x ∈ ss.map AV.str, l1 L k x) = True := flat_lent (flat_str ss) _ _ _
theorem d2_str (L : Heap) (k : Nat → Bool) (ss : List (List UInt8)) : (ss.map AV.str).map (d2 L k) = ss.map AV.str := flat_deref (flat_str ss) _ _ _
theorem l2_str (L : Heap) (k : Nat → Bool) (ss : List (List UInt8)) : (∀ x ∈ ss.map AV.str, l2 L k x) = True := flat_lent (flat_str ss) _ _ _
theorem d3_str (L : Heap) (k : Nat → Bool) (ss : List (List UInt8)) : (ss.map AV.str).map (d3 L k) = ss.map AV.str := flat_deref (flat_str ss) _ _ _
theorem l3_str (L : Heap) (k : Nat → Bool) (ss : List (List UInt8)) : (∀ x ∈ ss.map AV.str, l3 L k x) = True := flat_lent (flat_str ss) _ _ _
theorem d1_bytes (L : Heap) (k : Nat → Bool) (l : List UInt8) : (l.map byteAV).map (d1 L k) = l.map byteAV := flat_deref (flat_bytes l) _ _ _
theorem l1_bytes (L : Heap) (k : Nat → Bool) (l : List UInt8) : (∀ x ∈ l.map byteAV, l1 L k x) = True := flat_lent (flat_bytes l) _ _ _
theorem d2_bytes (L : Heap) (k : Nat → Bool) (l : List UInt8) : (l.map byteAV).map (d2 L k) = l.map byteAV := flat_deref (flat_bytes l) _ _ _
theorem l2_bytes (L : Heap) (k : Nat → Bool) (l : List UInt8) : (∀ x ∈ l.map byteAV, l2 L k x) = True := flat_lent (flat_bytes l) _ _ _
theorem d3_bytes (L : Heap) (k : Nat → Bool) (l : List UInt8) : (l.map byteAV).map (d3 L k) = l.map byteAV := flat_deref (flat_bytes l) _ _ _
theorem l3_bytes (L : Heap) (k : Nat → Bool) (l : List UInt8) : (∀ x ∈ l.map byteAV, l3 L k x) = True := flat_lent (flat_bytes l) _ _ _
theorem getD_8 (x0 x1 x2 x3 x4 x5 x6 x7 : AV) (l : List AV) (n : Nat) (d : AV) : (x0 :: x1 :: x2 :: x3 :: x4 :: x5 :: x6 :: x7 :: l).getD (n + 8) d = l.getD n d := rfl
theorem set_8 (x0 x1 x2 x3 x4 x5 x6 x7 : AV) (l : List AV) (n : Nat) (d : AV) : (x0 :: x1 :: x2 :: x3 :: x4 :: x5 :: x6 :: x7 :: l).set (n + 8) d = x0 :: x1 :: x2 :: x3 :: x4 :: x5 :: x6 :: x7 :: l.set n d := rfl
attribute [push_cast high] getD_8 set_8
attribute [push_cast] lkT tyB dC_any lC_any bC_any dC_int lC_int bC_int dC_bool lC_bool bC_bool dC_str lC_str bC_str dC_lit lC_lit bC_lit dC_tup lC_tup bC_tup dC_sl lC_sl bC_sl dC_ip lC_ip bC_ip dC_when lC_when bC_when dC_alt lC_alt bC_alt dC_ub lC_ub bC_ub lC_mp dC_mp bC_mp dC_mpr lC_mpr bC_mpr need_mpr dC_agg lC_agg bC_agg dC_ifc lC_ifc bC_ifc dC_fn lC_fn bC_fn dC_msl lC_msl bC_msl dC_csl lC_csl bC_csl dC_ref lC_ref bC_ref d1_at l1_at b1_at d2_at l2_at b2_at d3_at l3_at b3_at d0_at l0_at b0_at dA_at lA_at bA_at dG_at lG_at bG_at k0_at kG_at map_d0 d1_str l1_str d2_str l2_str d3_str l3_str d1_bytes l1_bytes d2_bytes l2_bytes d3_bytes l3_bytes keyOfA pureV pureVs storeV fieldsOk makeMapR mapPutR mapDelR lookR Key.kd exists_eq_left' List.all_cons List.all_nil List.nodup_cons List.nodup_nil scpO unbytes_map allBytes_map verL_str verL_bytes frzL_str frzL_bytes verL_append frzL_append renL_append scpL_append pinfreeL_append unbytes_append allBytes_append verV verL verO verH need_ub need_csl need_mp scpL_bytes renL_bytes pinfreeL_bytes oneCells_bytes nilR eqAgg eqFs eqOne fits isConst exU minR liftG rhoG putAll placeG derefG isMslG lentG evQ Nat.mul_one Nat.one_mul Nat.zero_mul Nat.mul_zero List.length_map List.length_drop List.length_take List.length_append scpL_str renL_closed pinfreeL_str oneCells_str exB_true exB_false evD qob_fix qob_ext frzV frzL frzH frzO List.contains_nil List.contains_cons List.set_nil lift0 scpL scp pinfreeT pinfreeL pinfree pinfreeO ren renL renO FinS resAll resR resV ex evOps stepA lentB srcUse roSliceR List.any_cons List.any_nil Bool.or_true stepR callR ev opd ofV ofCell guardOk guardC mkV putA needAll needO optB AV.cond AV.bare AV.cells need_any need_int need_bool need_str need_lit need_agg need_tup need_sl need_msl need_ref need_ip need_fn need_ifc need_alt need_same need_and need_true need_false pickR pickV pk_and pk_or binR intR strR unR convR lenR indexR indexAddrR loadR storeR allocR boxR buildR buildSliceR fieldR fieldAddrR extractR boundV sliceR srcCells srcOk srcLen appendR rangeR nextR makeSliceR nilCheckR builtinR partsA Rz.also bad hasBlk popTo rowOf szOf verOf isRow fresh headV headOk setRow splice oneCells inits placesOf fillA reps elemIsByte List.getD_cons_zero List.getD_cons_succ List.set_cons_zero List.set_cons_succ List.getElem?_cons_zero List.getElem?_cons_succ List.length_cons List.length_nil List.replicate List.cons_append List.nil_append List.append_nil List.map_cons List.map_nil List.toList_toArray Option.bind_some Option.bind_none Option.map_some Option.map_none List.flatten_cons List.flatten_nil List.take_zero List.take_succ_cons List.drop_zero List.drop_succ_cons List.take_nil List.drop_nil List.getElem?_nil List.size_toArray List.getElem?_toArray true_and and_true ne_eq not_true_eq_false not_false_eq_true imp_self implies_true forall_const Bool.false_eq_true Bool.true_eq_false false_implies if_true if_false decide_true decide_false Bool.not_true Bool.not_false Bool.true_and Bool.and_true Bool.false_and Bool.and_false Bool.or_true Bool.true_or Bool.or_false Bool.false_or beq_self_eq_true List.not_mem_nil List.mem_cons or_false forall_eq forall_eq_or_imp List.any_cons List.any_nil beq_true beq_false Option.isSome_some Option.isSome_none Option.some.injEq eq_self TypeDesc.int.injEq exists_eq' exists_eq exists_eq_left and_self Option.isNone_some Option.isNone_none TypeDesc.slice.injEq Nat.add_zero Nat.zero_add Int.toNat_natCast false_or true_or or_self false_and and_false cond_true cond_false Bool.cond_self pickV_true pickV_false forall_true forall_false

/-! the ends of a walk, with what is to be shown of them -/
theorem Into.sameA {L0 : Heap} {fr : List AV} {L : Heap} {fr' : List AV} (h : leF fr fr' := by first | exact leF_refl _ | (simp only [leF, true_and, and_true, and_self]; done) | (simp [leF]; done)) (hs : scpL L.length fr' = true := by (simp only [push_cast, reduceCtorEq, Nat.reduceAdd, Nat.reduceMul, Nat.reduceSub, Nat.reduceBEq, Nat.reduceGT, Nat.reduceLT, Int.toNat_zero, Nat.reduceLeDiff, Int.reduceEq, Int.reduceLT, Int.reduceLE]; done)) (ho : L.all (scpO L.length) = true := by (simp only [push_cast, reduceCtorEq, Nat.reduceAdd, Nat.reduceMul, Nat.reduceSub, Nat.reduceBEq, Nat.reduceGT, Nat.reduceLT, Int.toNat_zero, Nat.reduceLeDiff, Int.reduceEq, Int.reduceLT, Int.reduceLE]; done)) (hn : L0.length ≤ L.length := by first | decide | simp) : Into L0 fr L (fr', L) := Into.same h hs ho hn
theorem Into.dropA {L0 : Heap} {fr : List AV} {L' G : Heap} {fr' : List AV} (h : leF fr fr' := by first | exact leF_refl _ | (simp only [leF, true_and, and_true, and_self]; done) | (simp [leF]; done)) (hs : scpL L'.length fr' = true := by (simp only [push_cast, reduceCtorEq, Nat.reduceAdd, Nat.reduceMul, Nat.reduceSub, Nat.reduceBEq, Nat.reduceGT, Nat.reduceLT, Int.toNat_zero, Nat.reduceLeDiff, Int.reduceEq, Int.reduceLT, Int.reduceLE]; done)) (ho : L'.all (scpO L'.length) = true := by (simp only [push_cast, reduceCtorEq, Nat.reduceAdd, Nat.reduceMul, Nat.reduceSub, Nat.reduceBEq, Nat.reduceGT, Nat.reduceLT, Int.toNat_zero, Nat.reduceLeDiff, Int.reduceEq, Int.reduceLT, Int.reduceLE]; done)) (hn : L0.length ≤ L'.length := by first | decide | simp) : Into L0 fr (L' ++ G) (fr', L') := Into.drop h hs ho hn
theorem Into.keep0A {L0 : Heap} {fr fr' : List AV} {G : Heap} (h : leF fr fr' := by first | exact leF_refl _ | (simp only [leF, true_and, and_true, and_self]; done) | (simp [leF]; done)) (hs : scpL 0 fr' = true := by (simp only [push_cast, reduceCtorEq, Nat.reduceAdd, Nat.reduceMul, Nat.reduceSub, Nat.reduceBEq, Nat.reduceGT, Nat.reduceLT, Int.toNat_zero, Nat.reduceLeDiff, Int.reduceEq, Int.reduceLT, Int.reduceLE]; done)) (ho : ([] : Heap).all (scpO 0) = true := by first | rfl | (simp only [push_cast, reduceCtorEq, Nat.reduceAdd, Nat.reduceMul, Nat.reduceSub, Nat.reduceBEq, Nat.reduceGT, Nat.reduceLT, Int.toNat_zero, Nat.reduceLeDiff, Int.reduceEq, Int.reduceLT, Int.reduceLE]; done)) (hn : L0.length ≤ 0 := by first | decide | simp) : Into L0 fr (G) (fr', []) := Into.keep0 h hs ho hn
theorem Into.keep1A {L0 : Heap} {fr fr' : List AV} {G : Heap} {o0 : AObj} (h : leF fr fr' := by first | exact leF_refl _ | (simp only [leF, true_and, and_true, and_self]; done) | (simp [leF]; done)) (hs : scpL 1 fr' = true := by (simp only [push_cast, reduceCtorEq, Nat.reduceAdd, Nat.reduceMul, Nat.reduceSub, Nat.reduceBEq, Nat.reduceGT, Nat.reduceLT, Int.toNat_zero, Nat.reduceLeDiff, Int.reduceEq, Int.reduceLT, Int.reduceLE]; done)) (ho : [o0].all (scpO 1) = true := by first | rfl | (simp only [push_cast, reduceCtorEq, Nat.reduceAdd, Nat.reduceMul, Nat.reduceSub, Nat.reduceBEq, Nat.reduceGT, Nat.reduceLT, Int.toNat_zero, Nat.reduceLeDiff, Int.reduceEq, Int.reduceLT, Int.reduceLE]; done)) (hn : L0.length ≤ 1 := by first | decide | simp) : Into L0 fr (o0 :: G) (fr', [o0]) := Into.keep1 h hs ho hn
theorem Into.keep2A {L0 : Heap} {fr fr' : List AV} {G : Heap} {o0 o1 : AObj} (h : leF fr fr' := by first | exact leF_refl _ | (simp only [leF, true_and, and_true, and_self]; done) | (simp [leF]; done)) (hs : scpL 2 fr' = true := by (simp only [push_cast, reduceCtorEq, Nat.reduceAdd, Nat.reduceMul, Nat.reduceSub, Nat.reduceBEq, Nat.reduceGT, Nat.reduceLT, Int.toNat_zero, Nat.reduceLeDiff, Int.reduceEq, Int.reduceLT, Int.reduceLE]; done)) (ho : [o0, o1].all (scpO 2) = true := by first | rfl | (simp only [push_cast, reduceCtorEq, Nat.reduceAdd, Nat.reduceMul, Nat.reduceSub, Nat.reduceBEq, Nat.reduceGT, Nat.reduceLT, Int.toNat_zero, Nat.reduceLeDiff, Int.reduceEq, Int.reduceLT, Int.reduceLE]; done)) (hn : L0.length ≤ 2 := by first | decide | simp) : Into L0 fr (o0 :: o1 :: G) (fr', [o0, o1]) := Into.keep2 h hs ho hn
theorem Into.keep3A {L0 : Heap} {fr fr' : List AV} {G : Heap} {o0 o1 o2 : AObj} (h : leF fr fr' := by first | exact leF_refl _ | (simp only [leF, true_and, and_true, and_self]; done) | (simp [leF]; done)) (hs : scpL 3 fr' = true := by (simp only [push_cast, reduceCtorEq, Nat.reduceAdd, Nat.reduceMul, Nat.reduceSub, Nat.reduceBEq, Nat.reduceGT, Nat.reduceLT, Int.toNat_zero, Nat.reduceLeDiff, Int.reduceEq, Int.reduceLT, Int.reduceLE]; done)) (ho : [o0, o1, o2].all (scpO 3) = true := by first | rfl | (simp only [push_cast, reduceCtorEq, Nat.reduceAdd, Nat.reduceMul, Nat.reduceSub, Nat.reduceBEq, Nat.reduceGT, Nat.reduceLT, Int.toNat_zero, Nat.reduceLeDiff, Int.reduceEq, Int.reduceLT, Int.reduceLE]; done)) (hn : L0.length ≤ 3 := by first | decide | simp) : Into L0 fr (o0 :: o1 :: o2 :: G) (fr', [o0, o1, o2]) := Into.keep3 h hs ho hn
theorem Into.keep4A {L0 : Heap} {fr fr' : List AV} {G : Heap} {o0 o1 o2 o3 : AObj} (h : leF fr fr' := by first | exact leF_refl _ | (simp only [leF, true_and, and_true, and_self]; done) | (simp [leF]; done)) (hs : scpL 4 fr' = true := by (simp only [push_cast, reduceCtorEq, Nat.reduceAdd, Nat.reduceMul, Nat.reduceSub, Nat.reduceBEq, Nat.reduceGT, Nat.reduceLT, Int.toNat_zero, Nat.reduceLeDiff, Int.reduceEq, Int.reduceLT, Int.reduceLE]; done)) (ho : [o0, o1, o2, o3].all (scpO 4) = true := by first | rfl | (simp only [push_cast, reduceCtorEq, Nat.reduceAdd, Nat.reduceMul, Nat.reduceSub, Nat.reduceBEq, Nat.reduceGT, Nat.reduceLT, Int.toNat_zero, Nat.reduceLeDiff, Int.reduceEq, Int.reduceLT, Int.reduceLE]; done)) (hn : L0.length ≤ 4 := by first | decide | simp) : Into L0 fr (o0 :: o1 :: o2 :: o3 :: G) (fr', [o0, o1, o2, o3]) := Into.keep4 h hs ho hn
theorem Into.keep5A {L0 : Heap} {fr fr' : List AV} {G : Heap} {o0 o1 o2 o3 o4 : AObj} (h : leF fr fr' := by first | exact leF_refl _ | (simp only [leF, true_and, and_true, and_self]; done) | (simp [leF]; done)) (hs : scpL 5 fr' = true := by (simp only [push_cast, reduceCtorEq, Nat.reduceAdd, Nat.reduceMul, Nat.reduceSub, Nat.reduceBEq, Nat.reduceGT, Nat.reduceLT, Int.toNat_zero, Nat.reduceLeDiff, Int.reduceEq, Int.reduceLT, Int.reduceLE]; done)) (ho : [o0, o1, o2, o3, o4].all (scpO 5) = true := by first | rfl | (simp only [push_cast, reduceCtorEq, Nat.reduceAdd, Nat.reduceMul, Nat.reduceSub, Nat.reduceBEq, Nat.reduceGT, Nat.reduceLT, Int.toNat_zero, Nat.reduceLeDiff, Int.reduceEq, Int.reduceLT, Int.reduceLE]; done)) (hn : L0.length ≤ 5 := by first | decide | simp) : Into L0 fr (o0 :: o1 :: o2 :: o3 :: o4 :: G) (fr', [o0, o1, o2, o3, o4]) := Into.keep5 h hs ho hn
theorem Into.keep6A {L0 : Heap} {fr fr' : List AV} {G : Heap} {o0 o1 o2 o3 o4 o5 : AObj} (h : leF fr fr' := by first | exact leF_refl _ | (simp only [leF, true_and, and_true, and_self]; done) | (simp [leF]; done)) (hs : scpL 6 fr' = true := by (simp only [push_cast, reduceCtorEq, Nat.reduceAdd, Nat.reduceMul, Nat.reduceSub, Nat.reduceBEq, Nat.reduceGT, Nat.reduceLT, Int.toNat_zero, Nat.reduceLeDiff, Int.reduceEq, Int.reduceLT, Int.reduceLE]; done)) (ho : [o0, o1, o2, o3, o4, o5].all (scpO 6) = true := by first | rfl | (simp only [push_cast, reduceCtorEq, Nat.reduceAdd, Nat.reduceMul, Nat.reduceSub, Nat.reduceBEq, Nat.reduceGT, Nat.reduceLT, Int.toNat_zero, Nat.reduceLeDiff, Int.reduceEq, Int.reduceLT, Int.reduceLE]; done)) (hn : L0.length ≤ 6 := by first | decide | simp) : Into L0 fr (o0 :: o1 :: o2 :: o3 :: o4 :: o5 :: G) (fr', [o0, o1, o2, o3, o4, o5]) := Into.keep6 h hs ho hn
theorem Into.keep7A {L0 : Heap} {fr fr' : List AV} {G : Heap} {o0 o1 o2 o3 o4 o5 o6 : AObj} (h : leF fr fr' := by first | exact leF_refl _ | (simp only [leF, true_and, and_true, and_self]; done) | (simp [leF]; done)) (hs : scpL 7 fr' = true := by (simp only [push_cast, reduceCtorEq, Nat.reduceAdd, Nat.reduceMul, Nat.reduceSub, Nat.reduceBEq, Nat.reduceGT, Nat.reduceLT, Int.toNat_zero, Nat.reduceLeDiff, Int.reduceEq, Int.reduceLT, Int.reduceLE]; done)) (ho : [o0, o1, o2, o3, o4, o5, o6].all (scpO 7) = true := by first | rfl | (simp only [push_cast, reduceCtorEq, Nat.reduceAdd, Nat.reduceMul, Nat.reduceSub, Nat.reduceBEq, Nat.reduceGT, Nat.reduceLT, Int.toNat_zero, Nat.reduceLeDiff, Int.reduceEq, Int.reduceLT, Int.reduceLE]; done)) (hn : L0.length ≤ 7 := by first | decide | simp) : Into L0 fr (o0 :: o1 :: o2 :: o3 :: o4 :: o5 :: o6 :: G) (fr', [o0, o1, o2, o3, o4, o5, o6]) := Into.keep7 h hs ho hn
theorem Into.keep8A {L0 : Heap} {fr fr' : List AV} {G : Heap} {o0 o1 o2 o3 o4 o5 o6 o7 : AObj} (h : leF fr fr' := by first | exact leF_refl _ | (simp only [leF, true_and, and_true, and_self]; done) | (simp [leF]; done)) (hs : scpL 8 fr' = true := by (simp only [push_cast, reduceCtorEq, Nat.reduceAdd, Nat.reduceMul, Nat.reduceSub, Nat.reduceBEq, Nat.reduceGT, Nat.reduceLT, Int.toNat_zero, Nat.reduceLeDiff, Int.reduceEq, Int.reduceLT, Int.reduceLE]; done)) (ho : [o0, o1, o2, o3, o4, o5, o6, o7].all (scpO 8) = true := by first | rfl | (simp only [push_cast, reduceCtorEq, Nat.reduceAdd, Nat.reduceMul, Nat.reduceSub, Nat.reduceBEq, Nat.reduceGT, Nat.reduceLT, Int.toNat_zero, Nat.reduceLeDiff, Int.reduceEq, Int.reduceLT, Int.reduceLE]; done)) (hn : L0.length ≤ 8 := by first | decide | simp) : Into L0 fr (o0 :: o1 :: o2 :: o3 :: o4 :: o5 :: o6 :: o7 :: G) (fr', [o0, o1, o2, o3, o4, o5, o6, o7]) := Into.keep8 h hs ho hn
end Go.Eng
end
section
namespace Go.Eng
open Go
open Go.RowKit
set_option linter.unusedVariables false
set_option linter.unusedSimpArgs false

/-- the shape of a type -/
inductive Sh where
  | int (k : IntKind)
  | bool
  | str
  | sl (s : Sh)
  | st (fs : List Sh)
mutual
def Sh.n : Sh → Nat
  | .st fs => Sh.ns fs
  | .int _ => 1
  | .bool => 1
  | .str => 1
  | .sl _ => 1
def Sh.ns : List Sh → Nat
  | [] => 0
  | f :: fs => f.n + Sh.ns fs
end
/-- plain values -/
inductive Dv where
  | int (k : IntKind) (n : Int)
  | bool (b : Bool)
  | str (l : List UInt8)
  | sl (es : List Dv)
  | st (fs : List Dv)
  deriving Inhabited
mutual
def Dv.cells : Dv → List AV
  | .int k n => [.int k n]
  | .bool b => [.bool b]
  | .str l => [.str l]
  | .sl es => [.sl (Dv.cellsL es) es.length]
  | .st fs => Dv.cellsL fs
def Dv.cellsL : List Dv → List AV
  | [] => []
  | v :: vs => v.cells ++ Dv.cellsL vs
end
def Dv.av : Dv → AV
  | .st fs => .agg (Dv.cellsL fs)
  | v => v.cells.getD 0 .any
mutual
def Dv.vb : Dv → Nat
  | .int .. => 1
  | .bool _ => 1
  | .str l => l.length + 1
  | .sl es => Dv.vbL es + 1
  | .st fs => Dv.vbL fs + 1
def Dv.vbL : List Dv → Nat
  | [] => 0
  | v :: vs => v.vb + Dv.vbL vs
end
mutual
def Dv.has : Sh → Dv → Prop
  | .int k, .int k' n => k' = k ∧ (Lit.int k n).wf = true
  | .bool, .bool _ => True
  | .str, .str l => l.length ≤ maxLen
  | .sl s, .sl es => es.length ≤ maxLen ∧ ∀ e ∈ es, Dv.has s e
  | .st ss, .st vs => Dv.hasL ss vs
  | _, _ => False
def Dv.hasL : List Sh → List Dv → Prop
  | [], [] => True
  | s :: ss, v :: vs => Dv.has s v ∧ Dv.hasL ss vs
  | _, _ => False
end
mutual
/-- the bulk of what is read -/
def bk {H : Type} : DataW H → Nat
  | .lit (.string bytes) => bytes.length + 1
  | .lit _ => 1
  | .nil => 1
  | .ptr d => bk d + 1
  | .slice elems spare => bkL elems + bkL spare + 1
  | .agg parts => bkL parts + 1
  | .iface _ d => bk d + 1
  | .map entries => bkE entries + 1
  | .held _ => 1
def bkL {H : Type} : List (DataW H) → Nat
  | [] => 0
  | d :: r => bk d + bkL r
def bkE {H : Type} : List (Lit × DataW H) → Nat
  | [] => 0
  | x :: r => bk1 x + bkE r
def bk1 {H : Type} : Lit × DataW H → Nat
  | (.string bytes, d) => bytes.length + bk d + 1
  | (_, d) => bk d + 1
end

def fieldsB (P : Program) (ok : TypeId → Sh → Bool) : Nat → List Field → List Sh → Bool
  | _, [], [] => true
  | off, f :: fs, s :: ss => f.offset == off && (P.cellsOf f.type == s.n && (ok f.type s && fieldsB P ok (off + s.n) fs ss))
  | _, _, _ => false
/-- is this the type's shape? -/
def shOk (P : Program) : Nat → TypeId → Sh → Bool
  | 0, _, _ => false
  | n + 1, t, s => match P.underlying t, s with
    | some (.int k), .int k' => decide (k = k')
    | some .bool, .bool => true
    | some .string, .str => true
    | some (.slice e), .sl s => P.cellsOf e == s.n && shOk P n e s
    | some (.struct fs), .st ss => P.cellsOf t == Sh.ns ss && fieldsB P (shOk P n) 0 fs.toList ss
    | _, _ => false

section
variable {H : Type} {enc : TypeId × Value → H} {P : Program} {w : World} {base : Nat} {spare : Nat → Bool} {held : Bool}

mutual
theorem Dv.len_has : ∀ (s : Sh) (v : Dv), Dv.has s v → v.cells.length = s.n
  | .int _, .int .., _ => rfl
  | .bool, .bool _, _ => rfl
  | .str, .str _, _ => rfl
  | .sl _, .sl _, _ => rfl
  | .st ss, .st vs, h => by
    simp only [Dv.has] at h
    simp only [Dv.cells, Sh.n]
    exact Dv.lenL_has ss vs h
  | .int _, .bool _, h => by simp [Dv.has] at h
  | .int _, .str _, h => by simp [Dv.has] at h
  | .int _, .sl _, h => by simp [Dv.has] at h
  | .int _, .st _, h => by simp [Dv.has] at h
  | .bool, .int .., h => by simp [Dv.has] at h
  | .bool, .str _, h => by simp [Dv.has] at h
  | .bool, .sl _, h => by simp [Dv.has] at h
  | .bool, .st _, h => by simp [Dv.has] at h
  | .str, .int .., h => by simp [Dv.has] at h
  | .str, .bool _, h => by simp [Dv.has] at h
  | .str, .sl _, h => by simp [Dv.has] at h
  | .str, .st _, h => by simp [Dv.has] at h
  | .sl _, .int .., h => by simp [Dv.has] at h
  | .sl _, .bool _, h => by simp [Dv.has] at h
  | .sl _, .str _, h => by simp [Dv.has] at h
  | .sl _, .st _, h => by simp [Dv.has] at h
  | .st _, .int .., h => by simp [Dv.has] at h
  | .st _, .bool _, h => by simp [Dv.has] at h
  | .st _, .str _, h => by simp [Dv.has] at h
  | .st _, .sl _, h => by simp [Dv.has] at h
theorem Dv.lenL_has : ∀ (ss : List Sh) (vs : List Dv), Dv.hasL ss vs → (Dv.cellsL vs).length = Sh.ns ss
  | [], [], _ => rfl
  | s :: ss, v :: vs, h => by
    simp only [Dv.hasL] at h
    simp only [Dv.cellsL, Sh.ns, List.length_append]
    rw [Dv.len_has s v h.1, Dv.lenL_has ss vs h.2]
  | [], _ :: _, h => by simp [Dv.hasL] at h
  | _ :: _, [], h => by simp [Dv.hasL] at h
end

def Opened (w : World) (s : Sh) (cs : List Value) (d : DataW H) : Prop := ∃ v, Dv.has s v ∧ CRel (pinW w) [] v.cells cs ∧ v.vb ≤ bk d

theorem open_fields (ok : TypeId → Sh → Bool) (cs : List Value) (r : TypeId → List Value → Option (DataW H × List MemPlace)) (hr : ∀ t s cs x, ok t s = true → r t cs = some x → Opened w s cs x.1) :
    ∀ (fs : List Field) (ss : List Sh) (off : Nat) (xs : List (DataW H × List MemPlace)), fieldsB P ok off fs ss = true → xs.length = fs.length → off + Sh.ns ss ≤ cs.length →
      (∀ (i : Nat) (f : Field), fs[i]? = some f → r f.type ((cs.drop f.offset).take (P.cellsOf f.type)) = xs[i]?) →
      ∃ vs, Dv.hasL ss vs ∧ CRel (pinW w) [] (Dv.cellsL vs) ((cs.drop off).take (Sh.ns ss)) ∧ Dv.vbL vs ≤ bkL (xs.map (·.1))
  | [], [], off, xs, _, _, _, _ => ⟨[], by simp [Dv.hasL], by simp [Dv.cellsL, Sh.ns, CRel], by simp [Dv.vbL]⟩
  | f :: fs, s :: ss, off, x :: xs, hB, hl, hlen, h => by
    simp only [fieldsB, Bool.and_eq_true, beq_iff_eq] at hB
    obtain ⟨h1, h2, h3, h4⟩ := hB
    simp only [Sh.ns] at hlen
    have h0 := h 0 f rfl
    simp only [List.getElem?_cons_zero, h1, h2] at h0
    obtain ⟨v, k1, k2, k3⟩ := hr _ _ _ _ h3 h0
    obtain ⟨vs, q1, q2, q3⟩ := open_fields ok cs r hr fs ss (off + s.n) xs h4 (by simpa using hl) (by omega) fun i f' hf => by
      have := h (i + 1) f' (by simpa using hf)
      simpa using this
    refine ⟨v :: vs, ⟨k1, q1⟩, ?_, by simp only [Dv.vbL, List.map_cons, bkL]; omega⟩
    simp only [Dv.cellsL, Sh.ns]
    have e : (cs.drop off).take (s.n + Sh.ns ss) = (cs.drop off).take s.n ++ (cs.drop (off + s.n)).take (Sh.ns ss) := by
      rw [List.take_add, List.drop_drop]
    rw [e]
    exact CRel.append k2 q2
  | [], _ :: _, _, _, hB, _, _, _ => by simp [fieldsB] at hB
  | _ :: _, [], _, _, hB, _, _, _ => by simp [fieldsB] at hB
  | _ :: _, _ :: _, _, [], _, hl, _, _ => by simp at hl

theorem addr_add_add (a : Addr) (i j : Nat) : (a.add i).add j = a.add (i + j) := by
  by_cases hi : i = 0
  · subst hi; simp [Addr.add]
  · by_cases hj : j = 0
    · subst hj; simp [Addr.add]
    · have : ¬ i + j = 0 := by omega
      simp [Addr.add, hi, hj, Nat.add_assoc]
/-- the elements of a slice, one behind the other -/
theorem open_elems {s : Sh} {a : Addr} {sz : Nat} (hsz : sz = s.n) : ∀ (es : List (DataW H × List MemPlace)) (k : Nat),
    (∀ i, i < es.length → ∃ cs d, (w.cells? base (a.add ((k + i) * sz)) sz) = some cs ∧ es[i]? = some d ∧ Opened w s cs d.1) →
    ∃ (vs : List Dv) (us : List Value), vs.length = es.length ∧ (∀ v ∈ vs, Dv.has s v) ∧ CRel (pinW w) [] (Dv.cellsL vs) us ∧ us.length = es.length * sz ∧ Dv.vbL vs ≤ bkL (es.map (·.1)) ∧ ∀ j v, us[j]? = some v → w.cell? (a.add (k * sz + j)) = some v
  | [], k, _ => ⟨[], [], rfl, by simp, by simp [Dv.cellsL, CRel], by simp, by simp [Dv.vbL], by simp⟩
  | e :: es, k, h => by
    obtain ⟨cs, d, h1, h2, v, k1, k2, k3⟩ := h 0 (by simp)
    simp only [List.getElem?_cons_zero, Option.some.injEq] at h2
    subst h2
    obtain ⟨_, hcl, hcell⟩ := World.cells?_some h1
    obtain ⟨vs, us, q1, q2, q3, q4, q5, q6⟩ := open_elems hsz es (k + 1) fun i hi => by
      obtain ⟨cs, d, h1, h2, h3⟩ := h (i + 1) (by simp; omega)
      exact ⟨cs, d, by rw [show k + 1 + i = k + (i + 1) by omega]; exact h1, by simpa using h2, h3⟩
    refine ⟨v :: vs, cs ++ us, by simp [q1], fun x hx => ?_, by simp only [Dv.cellsL]; exact CRel.append k2 q3, by simp [hcl, q4, Nat.add_mul]; omega, by simp only [Dv.vbL, List.map_cons, bkL]; omega, fun j x hj => ?_⟩
    · rcases List.mem_cons.1 hx with rfl | hx
      · exact k1
      · exact q2 x hx
    · by_cases hjs : j < sz
      · rw [List.getElem?_append_left (by omega)] at hj
        have := hcell j hjs
        rw [hj, Nat.add_zero] at this
        rw [← this]
        rw [addr_add_add]
      · rw [List.getElem?_append_right (by omega), hcl] at hj
        have := q6 _ _ hj
        rw [← this]
        congr 2
        rw [Nat.add_mul]; omega

theorem open_dv : ∀ (n fuel : Nat) (t : TypeId) (s : Sh) (cs : List Value) (x : DataW H × List MemPlace), shOk P n t s = true → DataW.trod enc P w base spare held fuel t cs = some x → Opened w s cs x.1 := by
  intro n
  induction n with
  | zero => intro fuel t s cs x h; simp [shOk] at h
  | succ n ih =>
    intro fuel t s cs x h ht
    simp only [shOk] at h
    split at h
    · rename_i k k' hu
      obtain rfl := of_decide_eq_true h
      obtain ⟨m, rfl, rfl, hw⟩ := DataW.trod_int hu ht
      exact ⟨.int k m, ⟨rfl, hw⟩, by simp [Dv.cells, CRel, VRel], by simp [Dv.vb, bk]⟩
    · rename_i hu
      obtain ⟨b, rfl, rfl⟩ := DataW.trod_bool hu ht
      exact ⟨.bool b, trivial, by simp [Dv.cells, CRel, VRel], by simp [Dv.vb, bk]⟩
    · rename_i hu
      obtain ⟨b, rfl, rfl, hw⟩ := DataW.trod_string hu ht
      exact ⟨.str b.data.toList, by simp only [Dv.has, Array.length_toList]; exact hw, by simp [Dv.cells, CRel, VRel], by simp [Dv.vb, bk]⟩
    · rename_i e s hu
      simp only [Bool.and_eq_true, beq_iff_eq] at h
      rcases DataW.trod_slice hu ht with ⟨rfl, rfl⟩ | ⟨a, len, cap, elems, rest, m, _, rfl, rfl, hb, hl, hm, hlen, hel, _, _⟩
      · exact ⟨.sl [], by simp only [Dv.has]; exact ⟨Nat.zero_le _, fun e h => by cases h⟩, by simp only [Dv.cells, Dv.cellsL, CRel]; exact ⟨_, _, rfl, rel_nil w, rfl⟩, by simp [Dv.vb, Dv.vbL, bk]⟩
      · obtain ⟨vs, us, q1, q2, q3, q4, q5, q6⟩ := open_elems (w := w) (base := base) (a := a) (s := s) h.1 elems 0 fun i hi => by
          have := hel i (by omega)
          have hd : elems[i]? = some elems[i] := by simp [hi]
          rw [hd, Option.bind_eq_some_iff] at this
          obtain ⟨cs, h1, h2⟩ := this
          exact ⟨cs, elems[i], by simpa using h1, hd, ih _ _ _ _ _ h.2 h2⟩
        refine ⟨.sl vs, ⟨by omega, q2⟩, ?_, by simp only [Dv.vb, bk]; omega⟩
        simp only [Dv.cells, CRel]
        refine ⟨_, _, rfl, ?_, rfl⟩
        rw [show vs.length = len by omega]
        exact rel_slice w a len cap us _ hl q3 fun i v hi => by have := q6 i v hi; simpa using this
    · rename_i fs ss hu
      simp only [Bool.and_eq_true, beq_iff_eq] at h
      obtain ⟨xs, m, _, rfl, hcl, hxl, hx⟩ := DataW.trod_struct hu ht
      obtain ⟨vs, q1, q2, q3⟩ := open_fields (P := P) (w := w) (shOk P n) cs (DataW.trod enc P w base spare held m) (fun t s cs x hk hr => ih _ _ _ _ _ hk hr) fs.toList ss 0 xs h.2 (by simpa using hxl) (by omega) fun i f hf => hx i f (by simpa using hf)
      refine ⟨.st vs, q1, ?_, by simp only [Dv.vb, bk]; omega⟩
      simp only [List.drop_zero] at q2
      rw [List.take_of_length_le (by omega)] at q2
      exact q2
    · cases h

/-- AN ARGUMENT THAT CAME IN -/
theorem open_arg {n : Nat} {t : TypeId} {s : Sh} {v : Value} {d : DataW H} {ps : List MemPlace} {b0 : Nat} (hs : shOk P n t s = true) (hv : Value.okWide P w .any b0 t v) (h : DataW.Trod enc P w base spare held t v d ps) :
    ∃ x : Dv, Dv.has s x ∧ VRel (pinW w) [] x.av v ∧ x.vb ≤ bk d := by
  obtain ⟨fuel, hf⟩ := h
  obtain ⟨x, h1, h2, h3⟩ := open_dv n fuel t s _ _ hs hf
  refine ⟨x, h1, ?_, h3⟩
  have one : v.cells = #[v] → x.av = x.cells.getD 0 .any → VRel (pinW w) [] x.av v := by
    intro hc he
    rw [hc] at h2
    rw [he]
    have := h2.getD 0
    simpa using this
  cases n with
  | zero => simp [shOk] at hs
  | succ n =>
    simp only [shOk] at hs
    split at hs
    · rename_i hu
      obtain ⟨_, rfl⟩ := WideShapes.okWide_int hu hv
      cases x <;> simp only [Dv.has] at h1
      exact one rfl rfl
    · rename_i hu
      obtain ⟨_, rfl⟩ := WideShapes.okWide_bool hu hv
      cases x <;> simp only [Dv.has] at h1
      exact one rfl rfl
    · rename_i hu
      obtain ⟨_, rfl⟩ := WideShapes.okWide_string hu hv
      cases x <;> simp only [Dv.has] at h1
      exact one rfl rfl
    · rename_i hu
      obtain ⟨_, _, _, rfl⟩ := WideShapes.okWide_slice hu hv
      cases x <;> simp only [Dv.has] at h1
      exact one rfl rfl
    · rename_i hu
      obtain ⟨cs, rfl, _⟩ := WideShapes.okWide_struct hu hv
      cases x <;> simp only [Dv.has] at h1
      simp only [Dv.av, VRel]
      exact ⟨cs.toList, by simp, by simpa [Dv.cells, Value.cells] using h2⟩
    · cases hs
/-- the types of arguments, and their shapes; they can be read, and read again -/
def argsOk (P : Program) : List TypeId → List Sh → Bool
  | [], [] => true
  | t :: ts, s :: ss => shOk P 12 t s && (P.readableRec t && (decide (t < P.types.size) && argsOk P ts ss))
  | _, _ => false
theorem open_args {b0 : Nat} : ∀ (ts : List TypeId) (ss : List Sh) (vs : List Value) (ds : List (DataW H)) (ps : List MemPlace), argsOk P ts ss = true → (∀ (j : Nat) t v, ts[j]? = some t → vs[j]? = some v → Value.okWide P w .any b0 t v) →
    DataW.TrodAll enc P w base spare held ts vs ds ps → ∃ xs : List Dv, Dv.hasL ss xs ∧ CRel (pinW w) [] (xs.map Dv.av) vs ∧ Dv.vbL xs ≤ bkL ds
  | [], [], vs, ds, ps, _, _, h => by
    obtain ⟨rfl, rfl, rfl⟩ := ChangeShapes.trodAll_nil h
    exact ⟨[], by simp [Dv.hasL], by simp [CRel], by simp [Dv.vbL]⟩
  | t :: ts, s :: ss, vs, ds, ps, hok, hv, h => by
    simp only [argsOk, Bool.and_eq_true] at hok
    obtain ⟨v, vs', d, ds', p, q, rfl, rfl, rfl, h1, h2⟩ := ChangeShapes.trodAll_cons h
    obtain ⟨x, k1, k2, k3⟩ := open_arg hok.1 (hv 0 t v rfl rfl) h1
    obtain ⟨xs, q1, q2, q3⟩ := open_args ts ss vs' ds' q hok.2.2.2 (fun j t' v' hj hj' => hv (j + 1) t' v' (by simpa using hj) (by simpa using hj')) h2
    exact ⟨x :: xs, ⟨k1, q1⟩, CRel.cons k2 q2, by simp only [Dv.vbL, bkL]; omega⟩
  | [], _ :: _, _, _, _, h, _, _ => by simp [argsOk] at h
  | _ :: _, [], _, _, _, h, _, _ => by simp [argsOk] at h
end
/-- what came in reads as it did, where nothing below the old heap has turned -/
theorem below_args {H : Type} {enc : TypeId × Value → H} {P : Program} {W W' : World} (hl : laidOutB P = true) (hb : Below W.heap.size W W') : ∀ (ts : List TypeId) (ss : List Sh) (vs : List Value) (ds : List (DataW H)) (ps : List MemPlace), argsOk P ts ss = true →
    DataW.TrodAll enc P W 0 (fun _ => true) true ts vs ds ps → ∃ qs, DataW.TrodAll enc P W' 0 (fun b => decide (b < W.heap.size)) true ts vs ds qs
  | [], [], vs, ds, ps, _, h => by
    obtain ⟨rfl, rfl, rfl⟩ := ChangeShapes.trodAll_nil h
    exact ⟨[], ChangeShapes.trodAll_mk0⟩
  | t :: ts, s :: ss, vs, ds, ps, hok, h => by
    simp only [argsOk, Bool.and_eq_true, decide_eq_true_eq] at hok
    obtain ⟨v, vs', d, ds', p, q, rfl, rfl, rfl, h1, h2⟩ := ChangeShapes.trodAll_cons h
    obtain ⟨qs, h3⟩ := below_args hl hb ts ss vs' ds' q hok.2.2.2 h2
    have hlt : ∀ x ∈ p, x.block < W.heap.size := by obtain ⟨m, hm⟩ := h1; exact DataW.trod_lt m _ _ _ hm
    exact ⟨p ++ qs, trodAll_cons_mk (Below.trod hl hok.2.1 hok.2.2.1 h1 hb hlt) h3⟩
  | [], _ :: _, _, _, _, h, _ => by simp [argsOk] at h
  | _ :: _, [], _, _, _, h, _ => by simp [argsOk] at h

/-- A LAW's CONTRACT: whatever came in that has these shapes: true, and it reads as it did -/
theorem law_contract {P : Program} {Γ : Env} (hΓ : EnvOk P Γ) {f : FuncId} {fn : Func} (hf : P.funcs[f]? = some fn) (hl : laidOutB P = true) {s : ChangeSpec} (hsv : s.vars = []) {ss : List Sh} (hsh : argsOk P fn.params.toList ss = true)
    {tb : TypeId} (hres : fn.resultTypes = #[tb]) (htb : P.underlying tb = some .bool) (bound : Nat → Prop) (mono : ∀ a b, a ≤ b → bound b → bound a)
    (hbody : ∀ xs : List Dv, Dv.hasL ss xs → bound (Dv.vbL xs) → ∃ L', BodyOk P Γ fn (xs.map Dv.av) [] (.bool true) L')
    {H : Type} {enc : TypeId × Value → H} {W : World} {base : Nat} {args : Array Value} {ds gs : List (DataW H)} {before : List MemPlace}
    (hspec : s.fn H (ds ++ gs) = { results := [.lit (.bool true)], args := ds })
    (hval : ∀ (j : Nat) t v, fn.params[j]? = some t → args[j]? = some v → Value.okWide P W .any base t v) (hW : DataW.Whole enc P fn.params.toList s.vars false W args.toList ds gs before) (hbk : bound (bkL ds)) (hG : GOK (pinW W).pobj := by exact ⟨(by intro g h; cases h), (by intro q h; cases h)⟩) :
    Calls P f args W fun e W' => ∃ v, e = .returned v ∧ s.post enc P fn false true false false W args v W' := by
  have hW' := hW
  obtain ⟨p, q, hA, hV, rfl, hfz, hnd⟩ := hW
  rw [hsv] at hV
  obtain ⟨rfl, rfl⟩ := ChangeShapes.trodVars_none hV
  obtain ⟨xs, h1, h2, h3⟩ := open_args (P := P) (w := W) (b0 := base) _ ss _ _ _ hsh (fun j t v hj hj' => hval j t v (by simpa using hj) (by simpa using hj')) hA
  obtain ⟨L', hb⟩ := hbody xs h1 (mono _ _ h3 hbk)
  have := law_of_body hΓ hf hG (pinW_pin W) h2 hb
  simp only [Array.toArray_toList] at this
  refine this.mono fun e W' ⟨he, bel⟩ => ?_
  subst he
  obtain ⟨qs, hq⟩ := below_args hl bel _ ss _ _ _ hsh hA
  refine ⟨_, rfl, ds, [], _, [], qs, [], hW', ?_, ?_, ?_, bel.frame _, fun h => by cases h⟩
  · rw [hspec, hres]
    exact ChangeShapes.trodAll_mk1 (RowKit.shut_bool htb true)
  · rw [hspec]; exact hq
  · rw [hspec, hsv]; rfl

/-! what the plain shapes say -/
theorem has_int {k : IntKind} {v : Dv} (h : Dv.has (.int k) v) : ∃ n, v = .int k n ∧ k.min ≤ n ∧ n ≤ k.max := by
  cases v <;> simp only [Dv.has] at h
  obtain ⟨rfl, h⟩ := h
  simp only [Lit.wf, Bool.and_eq_true, decide_eq_true_eq] at h
  exact ⟨_, rfl, h⟩
theorem has_bool {v : Dv} (h : Dv.has .bool v) : ∃ b, v = .bool b := by
  cases v <;> simp only [Dv.has] at h
  exact ⟨_, rfl⟩
theorem has_str {v : Dv} (h : Dv.has .str v) : ∃ l, v = .str l ∧ l.length ≤ maxLen := by
  cases v <;> simp only [Dv.has] at h
  exact ⟨_, rfl, h⟩
theorem has_sl {s : Sh} {v : Dv} (h : Dv.has (.sl s) v) : ∃ es, v = .sl es ∧ es.length ≤ maxLen ∧ ∀ e ∈ es, Dv.has s e := by
  cases v <;> simp only [Dv.has] at h
  exact ⟨_, rfl, h⟩
theorem has_st {ss : List Sh} {v : Dv} (h : Dv.has (.st ss) v) : ∃ vs, v = .st vs ∧ Dv.hasL ss vs := by
  cases v <;> simp only [Dv.has] at h
  exact ⟨_, rfl, h⟩
theorem hasL_cons {s : Sh} {ss : List Sh} {vs : List Dv} (h : Dv.hasL (s :: ss) vs) : ∃ x xs, vs = x :: xs ∧ Dv.has s x ∧ Dv.hasL ss xs := by
  cases vs <;> simp only [Dv.hasL] at h
  exact ⟨_, _, rfl, h⟩
theorem hasL_nil {vs : List Dv} (h : Dv.hasL [] vs) : vs = [] := by
  cases vs with
  | nil => rfl
  | cons => simp only [Dv.hasL] at h
theorem vb_pos (v : Dv) : 1 ≤ v.vb := by cases v <;> simp [Dv.vb]
theorem vbL_len : ∀ vs : List Dv, vs.length ≤ Dv.vbL vs
  | [] => by simp [Dv.vbL]
  | v :: vs => by have := vb_pos v; have := vbL_len vs; simp only [Dv.vbL, List.length_cons]; omega
theorem vb_mem {v : Dv} : ∀ {vs : List Dv}, v ∈ vs → v.vb ≤ Dv.vbL vs
  | [], h => by cases h
  | x :: xs, h => by
    simp only [Dv.vbL]
    rcases List.mem_cons.1 h with rfl | h
    · omega
    · have := vb_mem h; omega
/-- bytes -/
theorem has_bytes {v : Dv} (h : Dv.has (.sl (.int .u8)) v) : ∃ l : List UInt8, v.av = .sl (l.map byteAV) l.length ∧ l.length ≤ maxLen ∧ l.length ≤ v.vb := by
  obtain ⟨es, rfl, hl, he⟩ := has_sl h
  have key : ∀ es : List Dv, (∀ e ∈ es, Dv.has (.int .u8) e) → ∃ l : List UInt8, Dv.cellsL es = l.map byteAV ∧ es.length = l.length := by
    intro es
    induction es with
    | nil => intro _; exact ⟨[], rfl, rfl⟩
    | cons e es ih =>
      intro he
      obtain ⟨l, h1, h2⟩ := ih fun x hx => he x (by simp [hx])
      obtain ⟨n, rfl, h3, h4⟩ := has_int (he e (by simp))
      refine ⟨UInt8.ofNat n.toNat :: l, ?_, by simp [h2]⟩
      simp only [Dv.cellsL, Dv.cells, h1, List.map_cons, List.cons_append, List.nil_append, byteAV]
      congr 2
      have h3 : 0 ≤ n := h3
      have h4 : n ≤ 255 := h4
      simp; omega
  obtain ⟨l, h1, h2⟩ := key es he
  refine ⟨l, ?_, by omega, ?_⟩
  · simp only [Dv.av, Dv.cells, List.getD_cons_zero, h1, h2]
  · simp only [Dv.vb]; have := vbL_len es; omega
/-- texts -/
theorem has_strs {v : Dv} (h : Dv.has (.sl .str) v) : ∃ ss : List (List UInt8), v.av = .sl (ss.map .str) ss.length ∧ ss.length ≤ maxLen ∧ (∀ s ∈ ss, s.length ≤ maxLen) ∧ ss.length ≤ v.vb ∧ ∀ s ∈ ss, s.length ≤ v.vb := by
  obtain ⟨es, rfl, hl, he⟩ := has_sl h
  have key : ∀ es : List Dv, (∀ e ∈ es, Dv.has .str e) → ∃ l : List (List UInt8), Dv.cellsL es = l.map .str ∧ es.length = l.length ∧ (∀ s ∈ l, s.length ≤ maxLen) ∧ ∀ s ∈ l, s.length ≤ Dv.vbL es := by
    intro es
    induction es with
    | nil => intro _; exact ⟨[], rfl, rfl, by simp, by simp⟩
    | cons e es ih =>
      intro he
      obtain ⟨l, h1, h2, h3, h4⟩ := ih fun x hx => he x (by simp [hx])
      obtain ⟨n, rfl, h5⟩ := has_str (he e (by simp))
      refine ⟨n :: l, by simp only [Dv.cellsL, Dv.cells, h1, List.map_cons, List.cons_append, List.nil_append], by simp [h2], fun s hs => ?_, fun s hs => ?_⟩
      · rcases List.mem_cons.1 hs with rfl | hs
        · exact h5
        · exact h3 s hs
      · simp only [Dv.vbL, Dv.vb]
        rcases List.mem_cons.1 hs with rfl | hs
        · omega
        · have := h4 s hs; omega
  obtain ⟨l, h1, h2, h3, h4⟩ := key es he
  refine ⟨l, ?_, by omega, h3, ?_, fun s hs => ?_⟩
  · simp only [Dv.av, Dv.cells, List.getD_cons_zero, h1, h2]
  · simp only [Dv.vb]; have := vbL_len es; omega
  · simp only [Dv.vb]; have := h4 s hs; omega
end Go.Eng
end
section
namespace Go.Eng
open Go
set_option linter.unusedVariables false
set_option linter.unusedSimpArgs false

/-! loops: the slots that the body turns are forgotten, but for those that are told -/
def wipe (ws : List Nat) (fr : List AV) : List AV := ws.foldl (fun f i => f.set i .any) fr
def updF (us : List (Nat × AV)) (fr : List AV) : List AV := us.foldl (fun f p => f.set p.1 p.2) fr
theorem wipe_nil (fr : List AV) : wipe [] fr = fr := rfl
theorem wipe_cons (i : Nat) (ws : List Nat) (fr : List AV) : wipe (i :: ws) fr = wipe ws (fr.set i .any) := rfl
theorem updF_nil (fr : List AV) : updF [] fr = fr := rfl
theorem updF_cons (p : Nat × AV) (us : List (Nat × AV)) (fr : List AV) : updF (p :: us) fr = updF us (fr.set p.1 p.2) := rfl

theorem Holds.loopW {X : Cx} {b : Code} {k : List It} {fr : List AV} {L : Heap} {ι : Type} (ws : List Nat) (us : ι → List (Nat × AV)) (Lf : ι → Heap) (μ : ι → Nat) (i0 : ι)
    (h0 : Into X.B.L fr L (updF (us i0) (wipe ws fr), Lf i0))
    (h : ∀ i, Holds X (.code b :: .chk (fun fr' L' => ∃ j, μ j < μ i ∧ Into X.B.L fr' L' (updF (us j) (wipe ws fr), Lf j)) :: k) (updF (us i) (wipe ws fr)) (Lf i)) : Holds X (.code (.loop b) :: k) fr L :=
  Holds.loop (fun i => (updF (us i) (wipe ws fr), Lf i)) μ i0 h0 h

/-- a frame, but for slots that are not looked at any more -/
def maskF : List Bool → List AV → List AV
  | true :: bs, x :: xs => x :: maskF bs xs
  | false :: bs, _ :: xs => .any :: maskF bs xs
  | _, _ => []
theorem maskF_t (bs : List Bool) (x : AV) (xs : List AV) : maskF (true :: bs) (x :: xs) = x :: maskF bs xs := rfl
theorem maskF_f (bs : List Bool) (x : AV) (xs : List AV) : maskF (false :: bs) (x :: xs) = .any :: maskF bs xs := rfl
theorem maskF_nil : maskF [] [] = [] := rfl
theorem Holds.loopM {X : Cx} {b : Code} {k : List It} {fr : List AV} {L : Heap} {ι : Type} (ms : List Bool) (us : ι → List (Nat × AV)) (Lf : ι → Heap) (μ : ι → Nat) (i0 : ι)
    (h0 : Into X.B.L fr L (updF (us i0) (maskF ms fr), Lf i0))
    (h : ∀ i, Holds X (.code b :: .chk (fun fr' L' => ∃ j, μ j < μ i ∧ Into X.B.L fr' L' (updF (us j) (maskF ms fr), Lf j)) :: k) (updF (us i) (maskF ms fr)) (Lf i)) : Holds X (.code (.loop b) :: k) fr L :=
  Holds.loop (fun i => (updF (us i) (maskF ms fr), Lf i)) μ i0 h0 h

mutual
/-- a value that leads to no own row -/
def pureA : AV → Bool
  | .agg cs => pureL cs
  | .tup cs => pureL cs
  | .sl cs _ => pureL cs
  | .ip cs => pureL cs
  | .fn _ a b => pureL a && pureL b
  | .ifc _ x => pureA x
  | .int .. => true
  | .bool _ => true
  | .str _ => true
  | .lit _ => true
  | .mpr .. => true
  | _ => false
def pureL : List AV → Bool
  | [] => true
  | x :: xs => pureA x && pureL xs
end
theorem pureL_iff : ∀ xs : List AV, pureL xs = xs.all pureA
  | [] => rfl
  | x :: xs => by simp only [pureL, List.all_cons, pureL_iff xs]
mutual
theorem pure_scp (n : Nat) : ∀ x : AV, pureA x = true → scp n x = true
  | .agg cs, h => by simp only [pureA, scp] at *; exact pure_scpL n cs h
  | .tup cs, h => by simp only [pureA, scp] at *; exact pure_scpL n cs h
  | .sl cs _, h => by simp only [pureA, scp] at *; exact pure_scpL n cs h
  | .ip cs, h => by simp only [pureA, scp] at *; exact pure_scpL n cs h
  | .fn _ a b, h => by simp only [pureA, scp, Bool.and_eq_true] at *; exact ⟨pure_scpL n a h.1, pure_scpL n b h.2⟩
  | .ifc _ x, h => by simp only [pureA, scp] at *; exact pure_scp n x h
  | .int .., _ => rfl
  | .bool _, _ => rfl
  | .str _, _ => rfl
  | .lit _, _ => rfl
  | .mpr .., _ => rfl
  | .any, h => by simp [pureA] at h
  | .msl .., h => by simp [pureA] at h
  | .ref .., h => by simp [pureA] at h
  | .when .., h => by simp [pureA] at h
  | .alt .., h => by simp [pureA] at h
  | .ub .., h => by simp [pureA] at h
  | .csl .., h => by simp [pureA] at h
  | .mp .., h => by simp [pureA] at h
theorem pure_scpL (n : Nat) : ∀ xs : List AV, pureL xs = true → scpL n xs = true
  | [], _ => rfl
  | x :: xs, h => by simp only [pureL, scpL, Bool.and_eq_true] at *; exact ⟨pure_scp n x h.1, pure_scpL n xs h.2⟩
end
mutual
theorem pure_ren (ρ : Nat → Nat) : ∀ x : AV, pureA x = true → ren ρ x = x
  | .agg cs, h => by simp only [pureA, ren] at *; rw [pure_renL ρ cs h]
  | .tup cs, h => by simp only [pureA, ren] at *; rw [pure_renL ρ cs h]
  | .sl cs _, h => by simp only [pureA, ren] at *; rw [pure_renL ρ cs h]
  | .ip cs, h => by simp only [pureA, ren] at *; rw [pure_renL ρ cs h]
  | .fn _ a b, h => by simp only [pureA, ren, Bool.and_eq_true] at *; rw [pure_renL ρ a h.1, pure_renL ρ b h.2]
  | .ifc _ x, h => by simp only [pureA, ren] at *; rw [pure_ren ρ x h]
  | .int .., _ => rfl
  | .bool _, _ => rfl
  | .str _, _ => rfl
  | .lit _, _ => rfl
  | .mpr .., _ => rfl
  | .any, h => by simp [pureA] at h
  | .msl .., h => by simp [pureA] at h
  | .ref .., h => by simp [pureA] at h
  | .when .., h => by simp [pureA] at h
  | .alt .., h => by simp [pureA] at h
  | .ub .., h => by simp [pureA] at h
  | .csl .., h => by simp [pureA] at h
  | .mp .., h => by simp [pureA] at h
theorem pure_renL (ρ : Nat → Nat) : ∀ xs : List AV, pureL xs = true → renL ρ xs = xs
  | [], _ => rfl
  | x :: xs, h => by simp only [pureL, renL, Bool.and_eq_true] at *; rw [pure_ren ρ x h.1, pure_renL ρ xs h.2]
end
mutual
theorem pure_ver (L : Heap) (id v : Nat) : ∀ x : AV, pureA x = true → verV L id v x = x
  | .agg cs, h => by simp only [pureA, verV] at *; rw [pure_verL L id v cs h]
  | .tup cs, h => by simp only [pureA, verV] at *; rw [pure_verL L id v cs h]
  | .sl cs _, h => by simp only [pureA, verV] at *; rw [pure_scpL 0 cs h]; rfl
  | .ip cs, h => by simp only [pureA, verV] at *; rw [pure_scpL 0 cs h]; rfl
  | .fn _ a b, h => by simp only [pureA, verV, Bool.and_eq_true] at *; rw [pure_verL L id v a h.1, pure_verL L id v b h.2]
  | .ifc _ x, h => by simp only [pureA, verV] at *; rw [pure_ver L id v x h]
  | .int .., _ => rfl
  | .bool _, _ => rfl
  | .str _, _ => rfl
  | .lit _, _ => rfl
  | .mpr .., _ => rfl
  | .any, h => by simp [pureA] at h
  | .msl .., h => by simp [pureA] at h
  | .ref .., h => by simp [pureA] at h
  | .when .., h => by simp [pureA] at h
  | .alt .., h => by simp [pureA] at h
  | .ub .., h => by simp [pureA] at h
  | .csl .., h => by simp [pureA] at h
  | .mp .., h => by simp [pureA] at h
theorem pure_verL (L : Heap) (id v : Nat) : ∀ xs : List AV, pureL xs = true → verL L id v xs = xs
  | [], _ => rfl
  | x :: xs, h => by simp only [pureL, verL, Bool.and_eq_true] at *; rw [pure_ver L id v x h.1, pure_verL L id v xs h.2]
end
mutual
theorem pure_frz (L : Heap) (id : Nat) : ∀ x : AV, pureA x = true → frzV L id x = x
  | .agg cs, h => by simp only [pureA, frzV] at *; rw [pure_frzL L id cs h]
  | .tup cs, h => by simp only [pureA, frzV] at *; rw [pure_frzL L id cs h]
  | .sl cs _, h => by simp only [pureA, frzV] at *; rw [pure_scpL 0 cs h]; rfl
  | .ip cs, h => by simp only [pureA, frzV] at *; rw [pure_scpL 0 cs h]; rfl
  | .fn _ a b, h => by simp only [pureA, frzV, Bool.and_eq_true] at *; rw [pure_scpL 0 a h.1, pure_scpL 0 b h.2]; rfl
  | .ifc _ x, h => by simp only [pureA, frzV] at *; rw [pure_frz L id x h]
  | .int .., _ => rfl
  | .bool _, _ => rfl
  | .str _, _ => rfl
  | .lit _, _ => rfl
  | .mpr .., _ => rfl
  | .any, h => by simp [pureA] at h
  | .msl .., h => by simp [pureA] at h
  | .ref .., h => by simp [pureA] at h
  | .when .., h => by simp [pureA] at h
  | .alt .., h => by simp [pureA] at h
  | .ub .., h => by simp [pureA] at h
  | .csl .., h => by simp [pureA] at h
  | .mp .., h => by simp [pureA] at h
theorem pure_frzL (L : Heap) (id : Nat) : ∀ xs : List AV, pureL xs = true → frzL L id xs = xs
  | [], _ => rfl
  | x :: xs, h => by simp only [pureL, frzL, Bool.and_eq_true] at *; rw [pure_frz L id x h.1, pure_frzL L id xs h.2]
end

/-- a reading that leaves pure values as they are -/
def IdSub (L : Heap) (sub : AV → AV) (sl : AV → Prop) (sb : AV → Bool) : Prop := ∀ x, pureA x = true → sub x = x ∧ sl x ∧ sb x = false
theorem IdSub.zero (L : Heap) : IdSub L deref0 lent0 bor0 := fun x _ => ⟨rfl, trivial, rfl⟩
theorem IdSub.list {L : Heap} {sub : AV → AV} {sl : AV → Prop} {sb : AV → Bool} (H : IdSub L sub sl sb) {xs : List AV} (h : pureL xs = true) : xs.map sub = xs ∧ (∀ x ∈ xs, sl x) ∧ xs.any sb = false := by
  rw [pureL_iff, List.all_eq_true] at h
  refine ⟨?_, fun x hx => (H x (h x hx)).2.1, ?_⟩
  · conv => rhs; rw [← List.map_id xs]
    exact List.map_congr_left fun x hx => (H x (h x hx)).1
  · rw [List.any_eq_false]; intro x hx; rw [(H x (h x hx)).2.2]; simp
theorem IdSub.succ {L : Heap} {keep : Nat → Bool} {sub : AV → AV} {sl : AV → Prop} {sb : AV → Bool} (H : IdSub L sub sl sb) : IdSub L (derefC L keep sub) (lentC L keep sl) (borC L keep sb) := by
  intro x hx
  cases x <;> simp only [pureA, derefC, lentC, borC, Bool.and_eq_true, Bool.false_eq_true] at * <;> try exact ⟨trivial, trivial, trivial⟩
  case agg cs => obtain ⟨h1, h2, h3⟩ := H.list hx; exact ⟨by rw [h1], h2, h3⟩
  case ifc t x => obtain ⟨h1, h2, h3⟩ := H x hx; exact ⟨by rw [h1], h2, h3⟩
  case fn f a b =>
    obtain ⟨h1, h2, h3⟩ := H.list hx.1
    obtain ⟨k1, k2, k3⟩ := H.list hx.2
    exact ⟨by rw [h1, k1], ⟨h2, k2⟩, by rw [h3, k3]; rfl⟩
theorem IdSub.d1 (L : Heap) (k : Nat → Bool) : IdSub L (d1 L k) (l1 L k) (b1 L k) := (IdSub.zero L).succ
theorem IdSub.d2 (L : Heap) (k : Nat → Bool) : IdSub L (d2 L k) (l2 L k) (b2 L k) := (IdSub.d1 L k).succ
theorem IdSub.d3 (L : Heap) (k : Nat → Bool) : IdSub L (d3 L k) (l3 L k) (b3 L k) := (IdSub.d2 L k).succ
theorem IdSub.d4 (L : Heap) (k : Nat → Bool) : IdSub L (derefC L k (Eng.d3 L k)) (lentC L k (l3 L k)) (borC L k (b3 L k)) := (IdSub.d3 L k).succ

/-- rows of pure values of one cell -/
class PureF {α : Type} (f : α → AV) : Prop where
  pure : ∀ x, pureA (f x) = true
  one : ∀ x, oneCells [f x] = true
/-- rows of pure structs -/
class PureC {α : Type} (g : α → List AV) : Prop where
  pure : ∀ x, pureL (g x) = true
  one : ∀ x, oneCells (g x) = true
class FlatF {α : Type} (f : α → AV) : Prop where
  flat : ∀ x, flat (f x) = true
instance : PureF AV.str := ⟨fun _ => rfl, fun _ => rfl⟩
instance : PureF AV.bool := ⟨fun _ => rfl, fun _ => rfl⟩
instance (k : IntKind) : PureF (AV.int k) := ⟨fun _ => rfl, fun _ => rfl⟩
instance : PureF byteAV := ⟨fun _ => rfl, fun _ => rfl⟩
instance : FlatF AV.str := ⟨fun _ => rfl⟩
instance : FlatF AV.bool := ⟨fun _ => rfl⟩
instance (k : IntKind) : FlatF (AV.int k) := ⟨fun _ => rfl⟩
instance : FlatF byteAV := ⟨fun _ => rfl⟩
section
variable {α : Type} {f : α → AV} {g : α → List AV}
theorem oneCells_append : ∀ xs ys : List AV, oneCells xs = true → oneCells ys = true → oneCells (xs ++ ys) = true
  | [], ys, _, h => h
  | x :: xs, ys, h1, h2 => by
    cases x <;> simp only [oneCells, List.cons_append, Bool.and_eq_true, Bool.false_eq_true] at * <;> first | exact oneCells_append xs ys h1 h2 | exact ⟨h1.1, oneCells_append xs ys h1.2 h2⟩
theorem pureL_map [PureF f] (xs : List α) : pureL (xs.map f) = true := by rw [pureL_iff]; simp [PureF.pure]
theorem pureL_fm [PureC g] (xs : List α) : pureL (xs.flatMap g) = true := by
  rw [pureL_iff, List.all_eq_true]; intro x hx
  obtain ⟨a, _, ha⟩ := List.mem_flatMap.1 hx
  have := PureC.pure (g := g) a
  rw [pureL_iff, List.all_eq_true] at this
  exact this x ha
theorem pureL_append (xs ys : List AV) : pureL (xs ++ ys) = (pureL xs && pureL ys) := by simp [pureL_iff]
theorem pureL_at [PureC g] (x : α) : pureL (g x) = true := PureC.pure x
theorem pureA_at [PureF f] (x : α) : pureA (f x) = true := PureF.pure x
theorem scpL_map [PureF f] (n : Nat) (xs : List α) : scpL n (xs.map f) = true := pure_scpL n _ (pureL_map xs)
theorem renL_map [PureF f] (ρ : Nat → Nat) (xs : List α) : renL ρ (xs.map f) = xs.map f := pure_renL ρ _ (pureL_map xs)
theorem verL_map [PureF f] (L : Heap) (id v : Nat) (xs : List α) : verL L id v (xs.map f) = xs.map f := pure_verL L id v _ (pureL_map xs)
theorem frzL_map [PureF f] (L : Heap) (id : Nat) (xs : List α) : frzL L id (xs.map f) = xs.map f := pure_frzL L id _ (pureL_map xs)
theorem one_map [PureF f] : ∀ xs : List α, oneCells (xs.map f) = true
  | [] => rfl
  | x :: xs => by
    have h1 := PureF.one (f := f) x
    exact oneCells_append [f x] (xs.map f) h1 (one_map xs)
theorem d1_map [PureF f] (L : Heap) (k : Nat → Bool) (xs : List α) : (xs.map f).map (d1 L k) = xs.map f := ((IdSub.d1 L k).list (pureL_map xs)).1
theorem d2_map [PureF f] (L : Heap) (k : Nat → Bool) (xs : List α) : (xs.map f).map (d2 L k) = xs.map f := ((IdSub.d2 L k).list (pureL_map xs)).1
theorem d3_map [PureF f] (L : Heap) (k : Nat → Bool) (xs : List α) : (xs.map f).map (d3 L k) = xs.map f := ((IdSub.d3 L k).list (pureL_map xs)).1
theorem l1_map [PureF f] (L : Heap) (k : Nat → Bool) (xs : List α) : (∀ x ∈ xs.map f, l1 L k x) = True := eq_true ((IdSub.d1 L k).list (pureL_map xs)).2.1
theorem l2_map [PureF f] (L : Heap) (k : Nat → Bool) (xs : List α) : (∀ x ∈ xs.map f, l2 L k x) = True := eq_true ((IdSub.d2 L k).list (pureL_map xs)).2.1
theorem l3_map [PureF f] (L : Heap) (k : Nat → Bool) (xs : List α) : (∀ x ∈ xs.map f, l3 L k x) = True := eq_true ((IdSub.d3 L k).list (pureL_map xs)).2.1
theorem l0_list (xs : List AV) : (∀ x ∈ xs, lent0 x) = True := eq_true fun _ _ => trivial
theorem d1_fm [PureC g] (L : Heap) (k : Nat → Bool) (xs : List α) : (xs.flatMap g).map (d1 L k) = xs.flatMap g := ((IdSub.d1 L k).list (pureL_fm xs)).1
theorem d2_fm [PureC g] (L : Heap) (k : Nat → Bool) (xs : List α) : (xs.flatMap g).map (d2 L k) = xs.flatMap g := ((IdSub.d2 L k).list (pureL_fm xs)).1
theorem d3_fm [PureC g] (L : Heap) (k : Nat → Bool) (xs : List α) : (xs.flatMap g).map (d3 L k) = xs.flatMap g := ((IdSub.d3 L k).list (pureL_fm xs)).1
theorem l1_fm [PureC g] (L : Heap) (k : Nat → Bool) (xs : List α) : (∀ x ∈ xs.flatMap g, l1 L k x) = True := eq_true ((IdSub.d1 L k).list (pureL_fm xs)).2.1
theorem l2_fm [PureC g] (L : Heap) (k : Nat → Bool) (xs : List α) : (∀ x ∈ xs.flatMap g, l2 L k x) = True := eq_true ((IdSub.d2 L k).list (pureL_fm xs)).2.1
theorem l3_fm [PureC g] (L : Heap) (k : Nat → Bool) (xs : List α) : (∀ x ∈ xs.flatMap g, l3 L k x) = True := eq_true ((IdSub.d3 L k).list (pureL_fm xs)).2.1
theorem d1_c [PureC g] (L : Heap) (k : Nat → Bool) (x : α) : (g x).map (d1 L k) = g x := ((IdSub.d1 L k).list (PureC.pure x)).1
theorem d2_c [PureC g] (L : Heap) (k : Nat → Bool) (x : α) : (g x).map (d2 L k) = g x := ((IdSub.d2 L k).list (PureC.pure x)).1
theorem d3_c [PureC g] (L : Heap) (k : Nat → Bool) (x : α) : (g x).map (d3 L k) = g x := ((IdSub.d3 L k).list (PureC.pure x)).1
theorem l1_c [PureC g] (L : Heap) (k : Nat → Bool) (x : α) : (∀ y ∈ g x, l1 L k y) = True := eq_true ((IdSub.d1 L k).list (PureC.pure x)).2.1
theorem l2_c [PureC g] (L : Heap) (k : Nat → Bool) (x : α) : (∀ y ∈ g x, l2 L k y) = True := eq_true ((IdSub.d2 L k).list (PureC.pure x)).2.1
theorem l3_c [PureC g] (L : Heap) (k : Nat → Bool) (x : α) : (∀ y ∈ g x, l3 L k y) = True := eq_true ((IdSub.d3 L k).list (PureC.pure x)).2.1
theorem b1_c [PureC g] (L : Heap) (k : Nat → Bool) (x : α) : (g x).any (b1 L k) = false := ((IdSub.d1 L k).list (PureC.pure x)).2.2
theorem b2_c [PureC g] (L : Heap) (k : Nat → Bool) (x : α) : (g x).any (b2 L k) = false := ((IdSub.d2 L k).list (PureC.pure x)).2.2
theorem b3_c [PureC g] (L : Heap) (k : Nat → Bool) (x : α) : (g x).any (b3 L k) = false := ((IdSub.d3 L k).list (PureC.pure x)).2.2
theorem m1_c [PureC g] (L : Heap) (k : Nat → Bool) (x : α) : (∀ y ∈ g x, lentC L k lent0 y) = True := eq_true ((IdSub.d1 L k).list (PureC.pure x)).2.1
theorem m1_map [PureF f] (L : Heap) (k : Nat → Bool) (xs : List α) : (∀ y ∈ xs.map f, lentC L k lent0 y) = True := eq_true ((IdSub.d1 L k).list (pureL_map xs)).2.1
theorem m1_fm [PureC g] (L : Heap) (k : Nat → Bool) (xs : List α) : (∀ y ∈ xs.flatMap g, lentC L k lent0 y) = True := eq_true ((IdSub.d1 L k).list (pureL_fm xs)).2.1
theorem m2_c [PureC g] (L : Heap) (k : Nat → Bool) (x : α) : (∀ y ∈ g x, lentC L k (l1 L k) y) = True := eq_true ((IdSub.d2 L k).list (PureC.pure x)).2.1
theorem m2_map [PureF f] (L : Heap) (k : Nat → Bool) (xs : List α) : (∀ y ∈ xs.map f, lentC L k (l1 L k) y) = True := eq_true ((IdSub.d2 L k).list (pureL_map xs)).2.1
theorem m2_fm [PureC g] (L : Heap) (k : Nat → Bool) (xs : List α) : (∀ y ∈ xs.flatMap g, lentC L k (l1 L k) y) = True := eq_true ((IdSub.d2 L k).list (pureL_fm xs)).2.1
theorem m3_c [PureC g] (L : Heap) (k : Nat → Bool) (x : α) : (∀ y ∈ g x, lentC L k (l2 L k) y) = True := eq_true ((IdSub.d3 L k).list (PureC.pure x)).2.1
theorem m3_map [PureF f] (L : Heap) (k : Nat → Bool) (xs : List α) : (∀ y ∈ xs.map f, lentC L k (l2 L k) y) = True := eq_true ((IdSub.d3 L k).list (pureL_map xs)).2.1
theorem m3_fm [PureC g] (L : Heap) (k : Nat → Bool) (xs : List α) : (∀ y ∈ xs.flatMap g, lentC L k (l2 L k) y) = True := eq_true ((IdSub.d3 L k).list (pureL_fm xs)).2.1
theorem m4_c [PureC g] (L : Heap) (k : Nat → Bool) (x : α) : (∀ y ∈ g x, lentC L k (l3 L k) y) = True := eq_true ((IdSub.d4 L k).list (PureC.pure x)).2.1
theorem m4_map [PureF f] (L : Heap) (k : Nat → Bool) (xs : List α) : (∀ y ∈ xs.map f, lentC L k (l3 L k) y) = True := eq_true ((IdSub.d4 L k).list (pureL_map xs)).2.1
theorem m4_fm [PureC g] (L : Heap) (k : Nat → Bool) (xs : List α) : (∀ y ∈ xs.flatMap g, lentC L k (l3 L k) y) = True := eq_true ((IdSub.d4 L k).list (pureL_fm xs)).2.1
theorem scpL_fm [PureC g] (n : Nat) (xs : List α) : scpL n (xs.flatMap g) = true := pure_scpL n _ (pureL_fm xs)
theorem renL_fm [PureC g] (ρ : Nat → Nat) (xs : List α) : renL ρ (xs.flatMap g) = xs.flatMap g := pure_renL ρ _ (pureL_fm xs)
theorem verL_fm [PureC g] (L : Heap) (id v : Nat) (xs : List α) : verL L id v (xs.flatMap g) = xs.flatMap g := pure_verL L id v _ (pureL_fm xs)
theorem frzL_fm [PureC g] (L : Heap) (id : Nat) (xs : List α) : frzL L id (xs.flatMap g) = xs.flatMap g := pure_frzL L id _ (pureL_fm xs)
theorem one_fm [PureC g] : ∀ xs : List α, oneCells (xs.flatMap g) = true
  | [] => rfl
  | x :: xs => by rw [List.flatMap_cons]; exact oneCells_append (g x) _ (PureC.one x) (one_fm xs)
theorem scpL_c [PureC g] (n : Nat) (x : α) : scpL n (g x) = true := pure_scpL n _ (PureC.pure x)
theorem renL_c [PureC g] (ρ : Nat → Nat) (x : α) : renL ρ (g x) = g x := pure_renL ρ _ (PureC.pure x)
theorem verL_c [PureC g] (L : Heap) (id v : Nat) (x : α) : verL L id v (g x) = g x := pure_verL L id v _ (PureC.pure x)
theorem frzL_c [PureC g] (L : Heap) (id : Nat) (x : α) : frzL L id (g x) = g x := pure_frzL L id _ (PureC.pure x)
theorem one_c [PureC g] (x : α) : oneCells (g x) = true := PureC.one x
theorem pinfreeL_map [FlatF f] (xs : List α) : pinfreeL (xs.map f) = true := flat_pinfree (by simp [FlatF.flat])
end

/-! rows of structs: the cells at a place -/
theorem getD_drop' (xs : List AV) (n j : Nat) (d : AV) : (xs.drop n).getD j d = xs.getD (n + j) d := by simp [List.getD]
theorem getD_map {α : Type} (f : α → AV) (xs : List α) (i : Nat) (h : i < xs.length) (d : AV) (e : α) : (xs.map f).getD i d = f (xs.getD i e) := by simp [List.getD, h]
/-- structs' cells: each has n -/
class Width {α : Type} (g : α → List AV) (n : outParam Nat) : Prop where
  len : ∀ x, (g x).length = n
theorem getD_zi {k : IntKind} (xs : List Int) (i : Nat) : (xs.map (AV.int k)).getD i (.int k 0) = .int k (xs.getD i default) := by
  by_cases h : i < xs.length <;> simp [List.getD, h]
theorem getD_zs (xs : List (List UInt8)) (i : Nat) : (xs.map AV.str).getD i (.str []) = .str (xs.getD i default) := by
  by_cases h : i < xs.length <;> simp [List.getD, h]
  rfl
theorem getD_zb (xs : List Bool) (i : Nat) : (xs.map AV.bool).getD i (.bool false) = .bool (xs.getD i default) := by
  by_cases h : i < xs.length <;> simp [List.getD, h]
theorem getD_zy (xs : List UInt8) (i : Nat) : (xs.map byteAV).getD i (.int .u8 0) = .int .u8 (xs.getD i 0).toNat := by
  by_cases h : i < xs.length <;> simp [List.getD, h, byteAV]
theorem len_c {α : Type} {g : α → List AV} {n : Nat} [Width g n] (x : α) : (g x).length = n := Width.len x
theorem take_c {α : Type} {g : α → List AV} {n : Nat} [Width g n] (x : α) : (g x).take n = g x := List.take_of_length_le (by rw [len_c (g := g) x]; exact Nat.le_refl _)
theorem drop_c {α : Type} {g : α → List AV} {n : Nat} [Width g n] (x : α) : (g x).drop n = [] := List.drop_eq_nil_of_le (by rw [len_c (g := g) x]; exact Nat.le_refl _)
theorem len_fm {α : Type} {g : α → List AV} {n : Nat} [Width g n] (xs : List α) : (xs.flatMap g).length = xs.length * n := by
  induction xs with
  | nil => simp
  | cons x xs ih => rw [List.flatMap_cons, List.length_append, ih, Width.len (g := g) x, List.length_cons, Nat.succ_mul]; omega
theorem drop_fm {α : Type} {g : α → List AV} {n : Nat} [Width g n] (xs : List α) (i : Nat) : (xs.flatMap g).drop (i * n) = (xs.drop i).flatMap g := by
  induction xs generalizing i with
  | nil => simp
  | cons x xs ih =>
    cases i with
    | zero => simp
    | succ i =>
      rw [List.flatMap_cons, Nat.succ_mul, Nat.add_comm, List.drop_succ_cons, ← ih i, ← Width.len (g := g) x, List.drop_append, List.drop_eq_nil_of_le (by omega)]
      simp
theorem take_fm {α : Type} {g : α → List AV} {n : Nat} [Width g n] (xs : List α) (i : Nat) : (xs.flatMap g).take (i * n) = (xs.take i).flatMap g := by
  induction xs generalizing i with
  | nil => simp
  | cons x xs ih =>
    cases i with
    | zero => simp
    | succ i =>
      have hx := Width.len (g := g) x
      rw [List.flatMap_cons, Nat.succ_mul, List.take_succ_cons, List.flatMap_cons, ← ih i, List.take_append, List.take_of_length_le (by omega)]
      congr 2; omega
theorem drop_at {α : Type} {xs : List α} {i : Nat} (h : i < xs.length) (d : α) : xs.drop i = xs.getD i d :: xs.drop (i + 1) := by
  rw [List.drop_eq_getElem_cons h]; simp [List.getD, h]
theorem head_fm {α : Type} {g : α → List AV} {n : Nat} [Width g n] (xs : List α) (i : Nat) (h : i < xs.length) (d : α) : ((xs.flatMap g).drop (i * n)).take n = g (xs.getD i d) := by
  rw [drop_fm, drop_at h d, List.flatMap_cons]
  have hx := Width.len (g := g) (xs.getD i d)
  rw [List.take_append, List.take_of_length_le (by omega), hx, Nat.sub_self, List.take_zero, List.append_nil]

attribute [push_cast] maskF_t maskF_f maskF_nil wipe_nil wipe_cons updF_nil updF_cons pureL_map pureL_fm pureL_append pureL_at pureA_at scpL_map renL_map verL_map frzL_map one_map d1_map d2_map d3_map l1_map l2_map l3_map l0_list d1_fm d2_fm d3_fm l1_fm l2_fm l3_fm d1_c d2_c d3_c l1_c l2_c l3_c b1_c b2_c b3_c scpL_fm renL_fm verL_fm frzL_fm one_fm scpL_c renL_c verL_c frzL_c one_c pinfreeL_map getD_drop' m1_c m1_map m1_fm m2_c m2_map m2_fm m3_c m3_map m3_fm m4_c m4_map m4_fm len_fm len_c take_c drop_c getD_zi getD_zs getD_zb getD_zy

/-! facts with conditions -/
theorem wr_i64 (n : Int) (h : -9223372036854775808 ≤ n ∧ n ≤ 9223372036854775807) : IntKind.i64.wrap n = n := IntWalk.i64_in n h
theorem wr_nn (k : IntKind) (n : Nat) (h : n < 2 ^ (k.bits - 1)) : k.wrap (n : Int) = n := by
  cases k <;> simp [IntKind.wrap, IntKind.bits, IntKind.signed] at * <;> omega
theorem getD_mp {α : Type} [Inhabited α] (f : α → AV) (xs : List α) (i : Nat) (d : AV) (h : i < xs.length) : (xs.map f).getD i d = f (xs.getD i default) := getD_map f xs i h d default
theorem head_fm' {α : Type} [Inhabited α] {g : α → List AV} {n : Nat} [Width g n] (xs : List α) (i : Nat) (h : i < xs.length) : ((xs.flatMap g).drop (i * n)).take n = g (xs.getD i default) := head_fm xs i h default
theorem getD_fm {α : Type} [Inhabited α] {g : α → List AV} {n : Nat} [Width g n] (xs : List α) (i j : Nat) (d : AV) (h : i < xs.length) (hj : j < n) : (xs.flatMap g).getD (i * n + j) d = (g (xs.getD i default)).getD j d := by
  have hx := Width.len (g := g) (xs.getD i default)
  have e : (xs.flatMap g).getD (i * n + j) d = ((xs.flatMap g).drop (i * n)).getD j d := by simp [List.getD]
  rw [e, drop_fm, drop_at h default, List.flatMap_cons]
  simp only [List.getD]
  rw [List.getElem?_append_left (by simp only [List.getD] at hx; omega)]
theorem getD_fm0 {α : Type} [Inhabited α] {g : α → List AV} {n : Nat} [Width g n] (xs : List α) (i : Nat) (d : AV) (h : i < xs.length) (hj : 0 < n) : (xs.flatMap g).getD (i * n) d = (g (xs.getD i default)).getD 0 d := getD_fm xs i 0 d h hj
theorem dec_t {p : Prop} [Decidable p] (h : p) : decide p = true := decide_eq_true h
theorem toNat_add (a : Nat) (b : Nat) : ((a : Int) + (b : Int)).toNat = a + b := by omega
theorem toNat_add1 (a : Nat) : ((a : Int) + 1).toNat = a + 1 := by omega
theorem toNat_sub1 (a : Nat) : ((a : Int) - 1).toNat = a - 1 := by omega
theorem toNat_sub (a : Nat) (b : Nat) : ((a : Int) - (b : Int)).toNat = a - b := by omega
/-! contracts by what comes in -/
section
variable {α β : Type}
def psel (e : α → List AV) (p : α → Prop) (xs : List AV) : Prop := ∃ a, xs = e a ∧ p a
open Classical in
noncomputable def rsel (e : α → List AV) (r : α → β) (d : β) (xs : List AV) : β := if h : ∃ a, xs = e a then r h.choose else d
theorem psel_at {e : α → List AV} (hi : ∀ a b, e a = e b → a = b) (p : α → Prop) (a : α) : psel e p (e a) = p a :=
  propext ⟨fun ⟨b, h1, h2⟩ => by rw [hi _ _ h1]; exact h2, fun h => ⟨a, rfl, h⟩⟩
theorem rsel_at {e : α → List AV} (hi : ∀ a b, e a = e b → a = b) (r : α → β) (d : β) (a : α) : rsel e r d (e a) = r a := by
  have h : ∃ b, e a = e b := ⟨a, rfl⟩
  unfold rsel
  rw [dif_pos h, ← hi _ _ h.choose_spec]
noncomputable def funS (e : α → List AV) (p : α → Prop) (r : α → AV) (h : α → Heap) (q : Bool) : FSpec := lift0 (psel e p) (rsel e r .any) (rsel e h []) q
theorem funS_con {P : Program} {Γ : Env} (hΓ : EnvOk P Γ) {f : FuncId} {fn : Func} (hf : P.funcs[f]? = some fn) (hb : fn.body.isNone = false) (hn : (fn.name == "runtime.NumGoroutine") = false) {e : α → List AV} {p : α → Prop} {r : α → AV} {h : α → Heap} {q : Bool}
    (hi : ∀ a b, e a = e b → a = b) (hq : q = true → ∀ a, h a = []) (hh : ∀ a, p a → BodyOk P Γ fn (e a) [] (r a) (h a)) : Con P f (funS e p r h q) := by
  refine Con.of_body hΓ hf hb hn (fun hq' xs => ?_) fun xs hx => ?_
  · unfold rsel
    split
    · exact hq hq' _
    · rfl
  · obtain ⟨a, rfl, ha⟩ := hx
    rw [rsel_at hi, rsel_at hi]
    exact hh a ha
end
attribute [push_cast] funS
/-! drawn regions in which the first object is turned, and new ones come -/
def modH (T : Heap) : Heap → Prop := fun G => ∃ o A, G = o :: (T ++ A)
theorem qob_mod (T : Heap) (f : Heap → Prop) : qob (modH T) f = ∀ o A, f (o :: (T ++ A)) := propext ⟨fun h o A => h _ ⟨o, A, rfl⟩, fun h G ⟨o, A, hA⟩ => hA ▸ h o A⟩
theorem modH_at (T G : Heap) (o : AObj) : modH T (o :: G) = extH T G := propext ⟨fun ⟨o', A, h⟩ => by cases h; exact ⟨A, rfl⟩, fun ⟨A, h⟩ => ⟨o, A, by rw [h]⟩⟩
theorem extH_nil (L : Heap) : extH [] L = True := by simp [extH]
theorem extH_cons (o : AObj) (L L' : Heap) : extH (o :: L) (o :: L') = extH L L' := by simp [extH]
attribute [push_cast] qob_mod modH_at extH_nil extH_cons
/-- only the second object stays -/
theorem Into.pick1 {fr fr' : List AV} {a o : AObj} {G : Heap} (h : leF fr (renL (fun i => [1].getD i i) fr')) (ho : renO (fun i => [1].getD i i) o = o) (hs : scpL 1 fr' = true) (hc : scpO 1 o = true) : Into [] fr (a :: o :: G) (fr', [o]) :=
  IntoF.base [1] ⟨h, by simpa using ho.symm, by simp, by simp, hs, by simp [hc]⟩ (by simp)
theorem Into.pick2 {fr fr' : List AV} {a b o : AObj} {G : Heap} (h : leF fr (renL (fun i => [2].getD i i) fr')) (ho : renO (fun i => [2].getD i i) o = o) (hs : scpL 1 fr' = true) (hc : scpO 1 o = true) : Into [] fr (a :: b :: o :: G) (fr', [o]) :=
  IntoF.base [2] ⟨h, by simpa using ho.symm, by simp, by simp, hs, by simp [hc]⟩ (by simp)
theorem own_row (l : List UInt8) : ∃ l' : List UInt8, l.map byteAV = l'.map byteAV ∧ l.length = l'.length := ⟨l, rfl, rfl⟩
theorem own_row' {cs : List AV} {n : Nat} (l : List UInt8) (h1 : cs = l.map byteAV) (h2 : n = l.length) : ∃ l' : List UInt8, cs = l'.map byteAV ∧ n = l'.length := ⟨l, h1, h2⟩
theorem ite_hh {α : Type} (c : Prop) [Decidable c] (x : α) : (if c then x else x) = x := by split <;> rfl
end Go.Eng
end
