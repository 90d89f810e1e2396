/- The engine, part 9F: an own row that nobody turns any more is laid fast: it becomes memory that only is read. The engine, part 10: guards, calls by contract, regions, code, loops, a function's contract. The engine, part 11: a function's body gives its contract; a contract at an empty heap serves every heap; a law. The engine, part 13: regions that draw their order: one walk of the order of the text serves every order. -/
import Derived.Test.YtgemeilncdmapaaGreatDoorEB
import Derived.Below
import Derived.Still
section
namespace Go.Eng
open Go
set_option linter.unusedVariables false
set_option linter.unusedSimpArgs false

mutual
theorem ren_id : ∀ x : AV, ren (fun i => i) x = x
  | .agg cs => by simp only [ren, renL_id cs]
  | .tup cs => by simp only [ren, renL_id cs]
  | .sl cs n => by simp only [ren, renL_id cs]
  | .ip cs => by simp only [ren, renL_id cs]
  | .fn f a b => by simp only [ren, renL_id a, renL_id b]
  | .ifc t x => by simp only [ren, ren_id x]
  | .when c x => by simp only [ren, ren_id x]
  | .alt c x y => by simp only [ren, ren_id x, ren_id y]
  | .any => rfl
  | .int .. => rfl
  | .bool _ => rfl
  | .str _ => rfl
  | .lit _ => rfl
  | .msl .. => rfl
  | .ref .. => rfl
  | .ub .. => rfl
  | .csl .. => rfl
  | .mp .. => rfl
  | .mpr .. => rfl
theorem renL_id : ∀ xs : List AV, renL (fun i => i) xs = xs
  | [] => rfl
  | x :: xs => by simp only [renL, ren_id x, renL_id xs]
end

/-- what holds of closed values holds over any heap -/
theorem closed_rel {m : Mem} {L : Heap} {x : AV} {u : Value} (h : VRel m L x u) (hs : scp 0 x = true) : VRel m [] x u :=
  VRel.ren (ρ := fun i => i) ⟨rfl, fun _ h => by simp at h, fun _ h => by simp at h, fun _ _ h => by simp at h, fun _ _ h => by simp at h⟩ x u (by rw [ren_id]; exact h) hs
theorem closedL_rel {m : Mem} {L : Heap} {xs : List AV} {us : List Value} (h : CRel m L xs us) (hs : scpL 0 xs = true) : CRel m [] xs us :=
  CRel.ren (ρ := fun i => i) ⟨rfl, fun _ h => by simp at h, fun _ h => by simp at h, fun _ _ h => by simp at h, fun _ _ h => by simp at h⟩ xs us (by rw [renL_id]; exact h) hs

mutual
def frzV (L : Heap) (id : Nat) : AV → AV
  | .msl i ver off n => cond (i == id) (cond (ver == verOf L id) (.sl (((rowOf L id).drop (off * szOf L id)).take (n * szOf L id)) n) .any) (.msl i ver off n)
  | .ref i ver off => cond (i == id) (cond (ver == verOf L id) (cond (isRow L id) (.ip ((rowOf L id).drop off)) .any) .any) (.ref i ver off)
  | .agg cs => .agg (frzL L id cs)
  | .tup cs => .tup (frzL L id cs)
  | .sl cs n => cond (scpL 0 cs) (.sl cs n) .any
  | .ip cs => cond (scpL 0 cs) (.ip cs) .any
  | .fn f a b => cond (scpL 0 a && scpL 0 b) (.fn f a b) .any
  | .ifc t x => .ifc t (frzV L id x)
  | .when c x => cond (scp 0 x) (.when c x) .any
  | .alt c x y => cond (scp 0 x && scp 0 y) (.alt c x y) .any
  | .any => .any
  | .int k n => .int k n
  | .bool b => .bool b
  | .str l => .str l
  | .lit v => .lit v
  | .ub p q => .ub p q
  | .csl i ver off n => cond (i == id) (cond (ver == verOf L id) (.sl (((rowOf L id).drop (off * szOf L id)).take (n * szOf L id)) n) .any) (.csl i ver off n)
  | .mp i => cond (i == id) (match L[id]? with | some (.raw (.map kd f)) => .mpr kd f | _ => .any) (.mp i)
  | .mpr kd f => .mpr kd f
def frzL (L : Heap) (id : Nat) : List AV → List AV
  | [] => []
  | x :: xs => frzV L id x :: frzL L id xs
end
def frzO (L : Heap) (id : Nat) : AObj → AObj
  | .row cs sz v => .row (frzL L id cs) sz v
  | .raw r => .raw r
  | .dead => .dead
def frzH (L : Heap) (id : Nat) : Heap := (L.set id .dead).map (frzO L id)
/-- a row that can be laid fast -/
def frzOk (L : Heap) (id : Nat) : Prop := isRow L id = true ∧ scpL 0 (rowOf L id) = true
def isMap (L : Heap) (id : Nat) : Bool := match L[id]? with | some (.raw (.map ..)) => true | _ => false
/-- a row, or a map -/
def frzOk' (L : Heap) (id : Nat) : Prop := frzOk L id ∨ isMap L id = true

theorem frzL_length (L : Heap) (id : Nat) : ∀ cs : List AV, (frzL L id cs).length = cs.length
  | [] => rfl
  | x :: xs => by simp only [frzL, List.length_cons, frzL_length L id xs]

open Classical in
noncomputable def frzM (m : Mem) (L : Heap) (w : World) (id : Nat) : Mem := { m with pobj := fun g => if g = m.blk id ∧ Own m L id then w.heap[g]? else m.pobj g }

section
variable {m : Mem} {L : Heap} {w : World} {id : Nat}

theorem frz_obj {j : Nat} (hj : j ≠ id) : (frzH L id)[j]? = (L[j]?).map (frzO L id) := by
  simp only [frzH, List.getElem?_map, List.getElem?_set_ne (Ne.symm hj)]
theorem frz_lt (hok : frzOk' L id) : id < L.length := by
  rcases Nat.lt_or_ge id L.length with h | h
  · exact h
  · rcases hok with hok | hok
    · have := hok.1; simp [isRow, List.getElem?_eq_none h] at this
    · simp [isMap, List.getElem?_eq_none h] at hok
theorem frz_pobj (hW : WRel m L w) {g : Nat} {o : Obj} (hp : m.pobj g = some o) : (frzM m L w id).pobj g = some o := by
  simp only [frzM]
  split
  · rename_i h
    have := hW.freeo id h.2
    rw [← h.1, hp] at this; cases this
  · exact hp

theorem frz_mono0 (hW : WRel m L w) : Mono m [] (frzM m L w id) (frzH L id) :=
  ⟨fun g o h => frz_pobj hW h, fun _ _ _ _ h => by simp at h, fun _ _ h => by simp at h⟩
theorem frz_closed (hW : WRel m L w) {x : AV} {u : Value} (h : VRel m L x u) (hs : scp 0 x = true) : VRel (frzM m L w id) (frzH L id) x u :=
  VRel.mono (frz_mono0 hW) _ _ (closed_rel h hs)
theorem frz_closedL (hW : WRel m L w) {xs : List AV} {us : List Value} (h : CRel m L xs us) (hs : scpL 0 xs = true) : CRel (frzM m L w id) (frzH L id) xs us :=
  CRel.mono (frz_mono0 hW) _ _ (closedL_rel h hs)

/-- the row's cells are pinned now -/
theorem frz_cells (hW : WRel m L w) (hok : frzOk L id) : ∃ us, CRel (frzM m L w id) (frzH L id) (rowOf L id) us ∧ ∀ j v, us[j]? = some v → (frzM m L w id).pin (m.blk id) j = some v := by
  obtain ⟨cs, sz, hL, h1, h2⟩ := fresh_row (L := L) (id := id) (ver := verOf L id) ⟨hok.1, rfl⟩
  obtain ⟨us, hc, hcell, _⟩ := row_cells hW hL
  have hs := hok.2
  rw [h1] at hs ⊢
  refine ⟨us, frz_closedL hW hc hs, fun j v hj => ?_⟩
  have hcap : m.cap id ≠ 0 := by
    intro h0
    have := hW.nils _ _ _ _ hL h0
    subst this
    simp only [CRel] at hc
    subst hc
    simp at hj
  refine Mem.pin_heap ?_ (hcell _ _ hj)
  simp only [frzM]
  rw [if_pos ⟨rfl, .inl ⟨_, _, _, hL, hcap⟩⟩]

mutual
theorem VRel.frz (hW : WRel m L w) (hok : frzOk' L id) : ∀ (x : AV) (u : Value), VRel m L x u → VRel (frzM m L w id) (frzH L id) (frzV L id x) u
  | .any, _, _ => by simp [frzV, VRel]
  | .int .., _, h => by simpa [frzV, VRel] using h
  | .bool _, _, h => by simpa [frzV, VRel] using h
  | .str _, _, h => by simpa [frzV, VRel] using h
  | .lit _, _, h => by simpa [frzV, VRel] using h
  | .agg cs, u, h => by
    simp only [VRel, frzV] at *
    obtain ⟨us, rfl, hc⟩ := h
    exact ⟨us, rfl, CRel.frz hW hok cs us hc⟩
  | .tup cs, u, h => by
    simp only [VRel, frzV] at *
    obtain ⟨us, rfl, hc⟩ := h
    exact ⟨us, rfl, CRel.frz hW hok cs us hc⟩
  | .sl cs n, u, h => by
    simp only [frzV]
    cases hs : scpL 0 cs
    · simp [VRel]
    · exact frz_closed hW h hs
  | .ip cs, u, h => by
    simp only [frzV]
    cases hs : scpL 0 cs
    · simp [VRel]
    · exact frz_closed hW h hs
  | .fn f a b, u, h => by
    simp only [frzV]
    cases hs : scpL 0 a && scpL 0 b
    · simp [VRel]
    · exact frz_closed hW h (by simpa [scp] using hs)
  | .when c x, u, h => by
    simp only [frzV]
    cases hs : scp 0 x
    · simp [VRel]
    · exact frz_closed hW h (by simpa [scp] using hs)
  | .alt c x y, u, h => by
    simp only [frzV]
    cases hs : scp 0 x && scp 0 y
    · simp [VRel]
    · exact frz_closed hW h (by simpa [scp] using hs)
  | .ifc t x, u, h => by
    simp only [VRel, frzV] at *
    obtain ⟨v, rfl, h⟩ := h
    exact ⟨v, rfl, VRel.frz hW hok x v h⟩
  | .msl i ver off n, u, h => by
    simp only [frzV]
    by_cases hi : i = id
    · subst hi
      simp only [beq_self_eq_true, cond_true]
      by_cases hv : ver = verOf L i
      · simp only [hv, beq_self_eq_true, cond_true]
        have hrow : frzOk L i := by
          rcases hok with hok | hok
          · exact hok
          · simp only [VRel] at h
            obtain ⟨_, _, _, hL, _⟩ := h
            simp [isMap, hL] at hok
        have hf : fresh L i (verOf L i) := ⟨hrow.1, rfl⟩
        rw [hv] at h
        obtain ⟨k1, k2, a, rfl, ha⟩ := msl_slice h hf
        obtain ⟨us, hc, hp⟩ := frz_cells hW hrow
        simp only [VRel]
        refine ⟨a, _, rfl, by omega, _, (hc.drop (off * szOf L i)).take (n * szOf L i), ?_⟩
        rcases ha with ha | ha
        · have : n = 0 := by omega
          subst this
          simp
        · refine .inr ⟨_, _, ha, fun j v hj => hp _ _ ?_⟩
          rw [List.getElem?_take, List.getElem?_drop] at hj
          split at hj
          · exact hj
          · cases hj
      · have : (ver == verOf L i) = false := by simp [hv]
        simp [this, VRel]
    · have : (i == id) = false := by simp [hi]
      simp only [this, cond_false, VRel] at h ⊢
      obtain ⟨cs, sz, v, hL, hle, hsh, h⟩ := h
      refine ⟨frzL L id cs, sz, v, by rw [frz_obj hi, hL]; rfl, hle, hsh, ?_⟩
      rw [frzL_length]
      exact h
  | .ref i ver off, u, h => by
    simp only [frzV]
    by_cases hi : i = id
    · subst hi
      simp only [beq_self_eq_true, cond_true]
      by_cases hv : ver = verOf L i
      · simp only [hv, beq_self_eq_true, cond_true]
        by_cases hrow : frzOk L i
        case neg =>
          have : cond (isRow L i) (AV.ip ((rowOf L i).drop off)) .any = .any := by
            rcases hok with hok | hok
            · exact absurd hok hrow
            · unfold isMap at hok
              split at hok
              · rename_i hL; simp [isRow, hL]
              · cases hok
          rw [this]; simp [VRel]
        rw [hrow.1]
        have hf : fresh L i (verOf L i) := ⟨hrow.1, rfl⟩
        rw [hv] at h
        have hu := ref_ptr h hf
        obtain ⟨us, hc, hp⟩ := frz_cells hW hrow
        simp only [cond_true, VRel]
        exact ⟨_, _, _, hu, hc.drop off, fun j v hj => hp _ _ (by rw [List.getElem?_drop] at hj; exact hj)⟩
      · have : (ver == verOf L i) = false := by simp [hv]
        simp [this, VRel]
    · have : (i == id) = false := by simp [hi]
      simp only [this, cond_false, VRel] at h ⊢
      rcases h with ⟨cs, sz, v, hL, hle, hsh, h⟩ | ⟨r, hL, h⟩
      · exact .inl ⟨frzL L id cs, sz, v, by rw [frz_obj hi, hL]; rfl, hle, hsh, h⟩
      · exact .inr ⟨r, by rw [frz_obj hi, hL]; rfl, h⟩
  | .ub .., _, h => by simpa only [frzV, VRel] using h
  | .csl i ver off n, u, h => by
    simp only [frzV]
    by_cases hi : i = id
    · subst hi
      simp only [beq_self_eq_true, cond_true]
      by_cases hv : ver = verOf L i
      · simp only [hv, beq_self_eq_true, cond_true]
        have hrow : frzOk L i := by
          rcases hok with hok | hok
          · exact hok
          · simp only [VRel] at h
            obtain ⟨_, _, _, hL, _⟩ := h
            simp [isMap, hL] at hok
        have hf : fresh L i (verOf L i) := ⟨hrow.1, rfl⟩
        rw [hv] at h
        obtain ⟨k1, k2, a, rfl, ha⟩ := csl_slice h hf
        obtain ⟨us, hc, hp⟩ := frz_cells hW hrow
        simp only [VRel]
        refine ⟨a, _, rfl, by omega, _, (hc.drop (off * szOf L i)).take (n * szOf L i), ?_⟩
        rcases ha with ha | ha
        · have : n = 0 := by omega
          subst this
          simp
        · refine .inr ⟨_, _, ha, fun j v hj => hp _ _ ?_⟩
          rw [List.getElem?_take, List.getElem?_drop] at hj
          split at hj
          · exact hj
          · cases hj
      · have : (ver == verOf L i) = false := by simp [hv]
        simp [this, VRel]
    · have : (i == id) = false := by simp [hi]
      simp only [this, cond_false, VRel] at h ⊢
      obtain ⟨cs, sz, v, hL, hle, hsh, h⟩ := h
      refine ⟨frzL L id cs, sz, v, by rw [frz_obj hi, hL]; rfl, hle, hsh, ?_⟩
      rw [frzL_length]
      exact h
  | .mp i, u, h => by
    simp only [frzV]
    by_cases hi : i = id
    · subst hi
      simp only [beq_self_eq_true, cond_true]
      split
      · rename_i kd f hL
        simp only [VRel] at h ⊢
        obtain ⟨r, hL', hu⟩ := h
        obtain ⟨o, hb, hr⟩ := hW.iters _ _ hL
        simp only [RawRel] at hr
        obtain ⟨es, clock, rfl, hM⟩ := hr
        refine ⟨m.blk i, es, clock, hu, ?_, hM⟩
        simp only [frzM]
        rw [if_pos ⟨rfl, .inr ⟨_, hL⟩⟩]
        exact hb
      · simp [VRel]
    · have : (i == id) = false := by simp [hi]
      simp only [this, cond_false, VRel] at h ⊢
      obtain ⟨r, hL, h⟩ := h
      exact ⟨r, by rw [frz_obj hi, hL]; rfl, h⟩
  | .mpr kd f, u, h => by
    simp only [frzV, VRel] at *
    obtain ⟨g, es, clock, hu, hp, hM⟩ := h
    exact ⟨g, es, clock, hu, frz_pobj hW hp, hM⟩
theorem CRel.frz (hW : WRel m L w) (hok : frzOk' L id) : ∀ (cs : List AV) (us : List Value), CRel m L cs us → CRel (frzM m L w id) (frzH L id) (frzL L id cs) us
  | [], _, h => by simpa [CRel, frzL] using h
  | c :: cs, us, h => by
    simp only [CRel, frzL] at *
    obtain ⟨u, us', rfl, h1, h2⟩ := h
    exact ⟨u, us', rfl, VRel.frz hW hok c u h1, CRel.frz hW hok cs us' h2⟩
end

theorem frz_dead (hok : frzOk' L id) : (frzH L id)[id]? = some .dead := by
  have := frz_lt hok
  simp [frzH, this, frzO]

theorem frz_row {j : Nat} {cs' : List AV} {sz ver : Nat} (hr : frzOk' L id) (h : (frzH L id)[j]? = some (.row cs' sz ver)) : j ≠ id ∧ ∃ cs, L[j]? = some (.row cs sz ver) ∧ cs' = frzL L id cs := by
  have hj : j ≠ id := by intro e; rw [e, frz_dead hr] at h; cases h
  rw [frz_obj hj, Option.map_eq_some_iff] at h
  obtain ⟨o, h1, h2⟩ := h
  cases o <;> simp only [frzO, reduceCtorEq, AObj.row.injEq] at h2
  obtain ⟨rfl, rfl, rfl⟩ := h2
  exact ⟨hj, _, h1, rfl⟩
theorem frz_iter {j : Nat} {r : Raw} (hr : frzOk' L id) (h : (frzH L id)[j]? = some (.raw r)) : j ≠ id ∧ L[j]? = some (.raw r) := by
  have hj : j ≠ id := by intro e; rw [e, frz_dead hr] at h; cases h
  rw [frz_obj hj, Option.map_eq_some_iff] at h
  obtain ⟨o, h1, h2⟩ := h
  cases o <;> simp only [frzO, reduceCtorEq, AObj.raw.injEq] at h2
  subst h2
  exact ⟨hj, h1⟩
theorem frz_own {j : Nat} (hr : frzOk' L id) (h : Own (frzM m L w id) (frzH L id) j) : j ≠ id ∧ Own m L j := by
  rcases h with ⟨cs, sz, ver, hL, hc⟩ | ⟨r, hL⟩
  · obtain ⟨h1, cs', h2, _⟩ := frz_row hr hL
    exact ⟨h1, .inl ⟨_, _, _, h2, hc⟩⟩
  · obtain ⟨h1, h2⟩ := frz_iter hr hL
    exact ⟨h1, .inr ⟨_, h2⟩⟩

theorem WRel.frz (hW : WRel m L w) (hok : frzOk' L id) : WRel (frzM m L w id) (frzH L id) w := by
  refine ⟨hW.glob.mono fun g o h => by simp only [frzM]; split; exact hW.pobjs _ _ h; exact h, fun g o hp => ?_, fun j cs sz ver hL hc => ?_, fun j cs sz ver hL hc => ?_, fun j r hL => ?_, fun i j hi hj he => ?_, fun j ho => ?_, ?_⟩
  · simp only [frzM] at hp
    split at hp
    · exact hp
    · exact hW.pobjs _ _ hp
  · obtain ⟨hj, cs', hL', rfl⟩ := frz_row hok hL
    obtain ⟨us, rest, elem, lo, hi, k1, k2, k3, k4⟩ := hW.rows _ _ _ _ hL' hc
    exact ⟨us, rest, elem, lo, hi, k1, CRel.frz hW hok _ _ k2, k3, k4⟩
  · obtain ⟨hj, cs', hL', rfl⟩ := frz_row hok hL
    rw [hW.nils _ _ _ _ hL' hc]; rfl
  · exact hW.iters _ _ (frz_iter hok hL).2
  · exact hW.inj i j (frz_own hok hi).2 (frz_own hok hj).2 he
  · obtain ⟨hj, ho'⟩ := frz_own hok ho
    simp only [frzM]
    rw [if_neg]
    · exact hW.freeo j ho'
    · rintro ⟨h1, h2⟩
      exact hj (hW.inj j id ho' h2 h1)
  · refine hW.hid.keep (fun i T e l h => ⟨(frz_iter hok h).2, rfl, rfl⟩) (fun _ _ _ _ _ _ => rfl) (fun _ _ _ => rfl) (fun i g k => ?_) (fun i g k j hj => hW.hid.own i g k j (frz_own hok hj).2)
    simp only [frzM]
    rw [if_neg]
    · exact hW.hid.free i g k
    · rintro ⟨h1, h2⟩; exact hW.hid.own i g k id h2 h1.symm

theorem Ext.frz {m0 : Mem} {L0 : Heap} {w0 : World} (hE : Ext m0 L0 w0 m L w) (hW : WRel m L w) (hok : frzOk' L id) (hle : L0.length ≤ id) : Ext m0 L0 w0 (frzM m L w id) (frzH L id) w := by
  have hb : Own m L id → w0.heap.size ≤ m.blk id := by
    intro ho
    rcases hE.blks id ho with ⟨h1, _⟩ | h1
    · rcases h1 with ⟨_, _, _, h, _⟩ | ⟨_, h⟩ <;> (have := (List.getElem?_eq_some_iff.1 h).1; omega)
    · exact h1
  refine ⟨hE.frame, hE.size, fun g hg => ?_, fun j ho => hE.blks j (frz_own hok ho).2, by simp only [frzH, List.length_map, List.length_set]; exact hE.len, ⟨fun g o hp => frz_pobj hW (hE.mono.pobj _ _ hp), fun j cs sz ver hL => ?_, fun j r hL => ?_⟩, hE.same, fun i g ⟨T, e, l, k1, k2⟩ => hE.hnew i g ⟨T, e, l, (frz_iter hok k1).2, k2⟩⟩
  · simp only [frzM]
    rw [if_neg]
    · exact hE.newobj g hg
    · rintro ⟨h1, h2⟩; have := hb h2; omega
  · obtain ⟨cs', v', h1, h2, h3⟩ := hE.mono.row _ _ _ _ hL
    have hj : j ≠ id := by have := (List.getElem?_eq_some_iff.1 hL).1; omega
    refine ⟨frzL L id cs', v', by rw [frz_obj hj, h1]; rfl, h2, fun e => ?_⟩
    rw [frzL_length]; exact h3 e
  · obtain ⟨r', h1, h2⟩ := hE.mono.iter _ _ hL
    have hj : j ≠ id := by have := (List.getElem?_eq_some_iff.1 hL).1; omega
    exact ⟨r', by rw [frz_obj hj, h1]; rfl, h2⟩
end

/-! ### A nil slice is an own row without room -/

def nilM (m : Mem) (n : Nat) : Mem := { m with cap := fun i => if i = n then 0 else m.cap i }

section
variable {m : Mem} {L : Heap} {w : World} {sz : Nat}

theorem nil_get {j : Nat} {o : AObj} (h : (L ++ [AObj.row [] sz 0])[j]? = some o) : (j < L.length ∧ L[j]? = some o) ∨ (j = L.length ∧ o = .row [] sz 0) := by
  by_cases hlt : j < L.length
  · rw [List.getElem?_append_left hlt] at h; exact .inl ⟨hlt, h⟩
  · rw [List.getElem?_append_right (by omega)] at h
    have : j - L.length = 0 := by
      have := (List.getElem?_eq_some_iff.1 h).1
      simp at this; omega
    rw [this] at h
    simp at h
    exact .inr ⟨by omega, h.symm⟩
theorem nil_mono : Mono m L (nilM m L.length) (L ++ [AObj.row [] sz 0]) := by
  refine ⟨fun _ _ h => h, fun id cs s v h => ?_, fun id r h => ?_⟩ <;> have hlt := (List.getElem?_eq_some_iff.1 h).1
  · exact ⟨cs, v, by rw [List.getElem?_append_left hlt]; exact h, Nat.le_refl _, fun _ => ⟨rfl, rfl, by simp only [nilM]; rw [if_neg (by omega)]⟩⟩
  · exact ⟨r, by rw [List.getElem?_append_left hlt]; exact h, rfl⟩
theorem nil_own {j : Nat} (h : Own (nilM m L.length) (L ++ [AObj.row [] sz 0]) j) : j < L.length ∧ Own m L j := by
  rcases h with ⟨cs, s, v, hL, hc⟩ | ⟨r, hL⟩
  · rcases nil_get hL with ⟨h1, h2⟩ | ⟨h1, _⟩
    · simp only [nilM] at hc
      rw [if_neg (by omega)] at hc
      exact ⟨h1, .inl ⟨_, _, _, h2, hc⟩⟩
    · subst h1; simp [nilM] at hc
  · rcases nil_get hL with ⟨h1, h2⟩ | ⟨_, h2⟩
    · exact ⟨h1, .inr ⟨_, h2⟩⟩
    · cases h2
theorem nil_hid {j : Nat} {T e : TypeId} {l : List UInt8} (h : (L ++ [AObj.row [] sz 0])[j]? = some (.raw (.bld T e l))) : L[j]? = some (.raw (.bld T e l)) ∧ (nilM m L.length).blk j = m.blk j ∧ (nilM m L.length).cap j = m.cap j := by
  rcases nil_get h with ⟨h1, h2⟩ | ⟨_, h2⟩
  · exact ⟨h2, rfl, by simp only [nilM]; rw [if_neg (by omega)]⟩
  · cases h2
theorem WRel.nil (hW : WRel m L w) : WRel (nilM m L.length) (L ++ [AObj.row [] sz 0]) w := by
  refine ⟨hW.glob, hW.pobjs, fun j cs s v hL hc => ?_, fun j cs s v hL hc => ?_, fun j r hL => ?_, fun i j hi hj he => hW.inj i j (nil_own hi).2 (nil_own hj).2 he, fun j ho => hW.freeo j (nil_own ho).2, hW.hid.keep (fun i T e l h => nil_hid h) (fun _ _ _ _ _ _ => rfl) (fun _ _ _ => rfl) (fun i g k => hW.hid.free i g k) (fun i g k j hj => hW.hid.own i g k j (nil_own hj).2)⟩
  · rcases nil_get hL with ⟨h1, h2⟩ | ⟨h1, _⟩
    · simp only [nilM] at hc ⊢
      rw [if_neg (by omega)] at hc ⊢
      obtain ⟨us, rest, elem, lo, hi, k1, k2, k3, k4⟩ := hW.rows _ _ _ _ h2 hc
      exact ⟨us, rest, elem, lo, hi, k1, CRel.mono nil_mono _ _ k2, k3, k4⟩
    · subst h1; simp [nilM] at hc
  · rcases nil_get hL with ⟨h1, h2⟩ | ⟨_, h2⟩
    · simp only [nilM] at hc
      rw [if_neg (by omega)] at hc
      exact hW.nils _ _ _ _ h2 hc
    · cases h2; rfl
  · rcases nil_get hL with ⟨h1, h2⟩ | ⟨_, h2⟩
    · exact hW.iters _ _ h2
    · cases h2
theorem Ext.nil {m0 : Mem} {L0 : Heap} {w0 : World} (hE : Ext m0 L0 w0 m L w) : Ext m0 L0 w0 (nilM m L.length) (L ++ [AObj.row [] sz 0]) w :=
  ⟨hE.frame, hE.size, hE.newobj, fun j ho => hE.blks j (nil_own ho).2, by simp; have := hE.len; omega, hE.mono.trans nil_mono, hE.same, fun i g ⟨T, e, l, k1, k2⟩ => hE.hnew i g ⟨T, e, l, (nil_hid (m := m) k1).1, by rw [← (nil_hid (m := m) k1).2.2]; exact k2⟩⟩
theorem nil_rel {fr : List AV} {us : List Value} (h : CRel m L fr us) (i : Nat) (hi : fr.getD i .any = .lit (.slice none 0 0)) : CRel (nilM m L.length) (L ++ [AObj.row [] sz 0]) (fr.set i (.msl L.length 0 0 0)) us := by
  have h1 := h.getD i
  rw [hi] at h1
  simp only [VRel] at h1
  have hv : VRel (nilM m L.length) (L ++ [AObj.row [] sz 0]) (.msl L.length 0 0 0) (us.getD i undef) := by
    rw [h1]
    simp only [VRel]
    exact ⟨[], sz, 0, by simp, Nat.le_refl _, ⟨none, 0, 0, rfl⟩, fun _ => ⟨by simp, by simp, none, by simp [nilM], .inl (by simp [nilM])⟩⟩
  have h2 := (CRel.mono (nil_mono (sz := sz)) _ _ h).set i hv
  have : us.set i (us.getD i undef) = us := by
    apply List.ext_getElem?
    intro j
    rw [List.getElem?_set]
    split
    · rename_i hij
      subst hij
      split
      · rename_i hlt; simp [List.getD, hlt]
      · rename_i hlt; rw [List.getElem?_eq_none (by omega)]
    · rfl
  rwa [this] at h2
end

/-! ### A row's version is turned to another number -/

mutual
def verV (L : Heap) (id v' : Nat) : AV → AV
  | .msl i ver off n => cond (i == id) (cond (ver == verOf L id) (.msl i v' off n) .any) (.msl i ver off n)
  | .csl i ver off n => cond (i == id) (cond (ver == verOf L id) (.csl i v' off n) .any) (.csl i ver off n)
  | .ref i ver off => cond (i == id) (cond (ver == verOf L id) (.ref i v' off) .any) (.ref i ver off)
  | .agg cs => .agg (verL L id v' cs)
  | .tup cs => .tup (verL L id v' cs)
  | .sl cs n => cond (scpL 0 cs) (.sl cs n) .any
  | .ip cs => cond (scpL 0 cs) (.ip cs) .any
  | .fn f a b => .fn f (verL L id v' a) (verL L id v' b)
  | .ifc t x => .ifc t (verV L id v' x)
  | .when c x => cond (scp 0 x) (.when c x) .any
  | .alt c x y => cond (scp 0 x && scp 0 y) (.alt c x y) .any
  | .any => .any
  | .int k n => .int k n
  | .bool b => .bool b
  | .str l => .str l
  | .lit v => .lit v
  | .ub p q => .ub p q
  | .mp i => .mp i
  | .mpr kd f => .mpr kd f
def verL (L : Heap) (id v' : Nat) : List AV → List AV
  | [] => []
  | x :: xs => verV L id v' x :: verL L id v' xs
end
def verO (L : Heap) (id v' : Nat) : AObj → AObj
  | .row cs sz v => .row (verL L id v' cs) sz v
  | .raw r => .raw r
  | .dead => .dead
def verH (L : Heap) (id v' : Nat) : Heap := (match L[id]? with | some (.row cs sz _) => L.set id (.row cs sz v') | _ => L).map (verO L id v')
theorem verL_length (L : Heap) (id v' : Nat) : ∀ cs : List AV, (verL L id v' cs).length = cs.length
  | [] => rfl
  | x :: xs => by simp only [verL, List.length_cons, verL_length L id v' xs]

section
variable {m : Mem} {L : Heap} {w : World} {id v' : Nat}

theorem ver_obj {j : Nat} (hj : j ≠ id) : (verH L id v')[j]? = (L[j]?).map (verO L id v') := by
  simp only [verH]
  split
  · rw [List.getElem?_map, List.getElem?_set_ne (Ne.symm hj)]
  · rw [List.getElem?_map]
theorem ver_at {cs : List AV} {sz v : Nat} (h : L[id]? = some (.row cs sz v)) : (verH L id v')[id]? = some (.row (verL L id v' cs) sz v') := by
  have hlt := (List.getElem?_eq_some_iff.1 h).1
  simp only [verH, h, List.getElem?_map, List.getElem?_set_self hlt, Option.map_some, verO]
theorem ver_raw {j : Nat} {r : Raw} (h : L[j]? = some (.raw r)) : (verH L id v')[j]? = some (.raw r) := by
  by_cases hj : j = id
  · subst hj
    simp only [verH, h, List.getElem?_map, Option.map_some, verO]
  · rw [ver_obj hj, h]; rfl
theorem ver_row (hr : isRow L id = true) {j : Nat} {cs : List AV} {sz v : Nat} (h : (verH L id v')[j]? = some (.row cs sz v)) : ∃ cs0 v0, L[j]? = some (.row cs0 sz v0) ∧ cs = verL L id v' cs0 := by
  by_cases hj : j = id
  · subst hj
    obtain ⟨cs0, sz0, hL, _⟩ := fresh_row (L := L) (id := j) (ver := verOf L j) ⟨hr, rfl⟩
    rw [ver_at hL] at h
    simp only [Option.some.injEq, AObj.row.injEq] at h
    obtain ⟨rfl, rfl, rfl⟩ := h
    exact ⟨cs0, _, hL, rfl⟩
  · rw [ver_obj hj, Option.map_eq_some_iff] at h
    obtain ⟨o, h1, h2⟩ := h
    cases o <;> simp only [verO, reduceCtorEq, AObj.row.injEq] at h2
    obtain ⟨rfl, rfl, rfl⟩ := h2
    exact ⟨_, _, h1, rfl⟩
theorem ver_raw' (hr : isRow L id = true) {j : Nat} {r : Raw} (h : (verH L id v')[j]? = some (.raw r)) : L[j]? = some (.raw r) := by
  by_cases hj : j = id
  · subst hj
    obtain ⟨cs0, sz0, hL, _⟩ := fresh_row (L := L) (id := j) (ver := verOf L j) ⟨hr, rfl⟩
    rw [ver_at hL] at h; cases h
  · rw [ver_obj hj, Option.map_eq_some_iff] at h
    obtain ⟨o, h1, h2⟩ := h
    cases o <;> simp only [verO, reduceCtorEq, AObj.raw.injEq] at h2
    subst h2; exact h1
theorem ver_own (hr : isRow L id = true) {j : Nat} (h : Own m (verH L id v') j) : Own m L j := by
  rcases h with ⟨cs, sz, ver, hL, hc⟩ | ⟨r, hL⟩
  · obtain ⟨cs0, v0, h1, _⟩ := ver_row hr hL
    exact .inl ⟨_, _, _, h1, hc⟩
  · exact .inr ⟨_, ver_raw' hr hL⟩
theorem ver_closed {x : AV} {u : Value} (h : VRel m L x u) (hs : scp 0 x = true) : VRel m (verH L id v') x u :=
  VRel.mono (m := m) (L := []) ⟨fun _ _ h => h, fun _ _ _ _ h => by simp at h, fun _ _ h => by simp at h⟩ _ _ (closed_rel h hs)

/-- the facts on a slice or a pointer of an own row, at another version -/
theorem ver_leaf {i ver : Nat} {Q : Nat → Nat → Prop} {S : Prop} (hr : isRow L id = true)
    (h : ∃ cs sz v, L[i]? = some (.row cs sz v) ∧ ver ≤ v ∧ S ∧ (v = ver → Q sz cs.length)) :
    (i = id → ver = verOf L id → ∃ cs sz v, (verH L id v')[i]? = some (.row cs sz v) ∧ v' ≤ v ∧ S ∧ (v = v' → Q sz cs.length)) ∧
    (i ≠ id → ∃ cs sz v, (verH L id v')[i]? = some (.row cs sz v) ∧ ver ≤ v ∧ S ∧ (v = ver → Q sz cs.length)) := by
  obtain ⟨cs, sz, v, hL, hle, hs, hq⟩ := h
  refine ⟨fun hi hv => ?_, fun hi => ?_⟩
  · subst hi
    have : v = ver := by rw [hv]; simp [verOf, hL]
    exact ⟨verL L i v' cs, sz, v', ver_at hL, Nat.le_refl _, hs, fun _ => by rw [verL_length]; exact hq this⟩
  · exact ⟨verL L id v' cs, sz, v, by rw [ver_obj hi, hL]; rfl, hle, hs, by rw [verL_length]; exact hq⟩

mutual
theorem VRel.ver (hr : isRow L id = true) : ∀ (x : AV) (u : Value), VRel m L x u → VRel m (verH L id v') (verV L id v' x) u
  | .any, _, _ => by simp [verV, VRel]
  | .int .., _, h => by simpa [verV, VRel] using h
  | .bool _, _, h => by simpa [verV, VRel] using h
  | .str _, _, h => by simpa [verV, VRel] using h
  | .lit _, _, h => by simpa [verV, VRel] using h
  | .ub .., _, h => by simpa only [verV, VRel] using h
  | .agg cs, u, h => by
    simp only [VRel, verV] at *
    obtain ⟨us, rfl, hc⟩ := h
    exact ⟨us, rfl, CRel.ver hr cs us hc⟩
  | .tup cs, u, h => by
    simp only [VRel, verV] at *
    obtain ⟨us, rfl, hc⟩ := h
    exact ⟨us, rfl, CRel.ver hr cs us hc⟩
  | .sl cs n, u, h => by
    simp only [verV]
    cases hs : scpL 0 cs
    · simp [VRel]
    · exact ver_closed h hs
  | .ip cs, u, h => by
    simp only [verV]
    cases hs : scpL 0 cs
    · simp [VRel]
    · exact ver_closed h hs
  | .fn f a b, u, h => by
    simp only [VRel, verV] at *
    obtain ⟨us, vs, rfl, h1, h2⟩ := h
    exact ⟨us, vs, rfl, CRel.ver hr a us h1, CRel.ver hr b vs h2⟩
  | .when c x, u, h => by
    simp only [verV]
    cases hs : scp 0 x
    · simp [VRel]
    · exact ver_closed h (by simpa [scp] using hs)
  | .alt c x y, u, h => by
    simp only [verV]
    cases hs : scp 0 x && scp 0 y
    · simp [VRel]
    · exact ver_closed h (by simpa [scp] using hs)
  | .ifc t x, u, h => by
    simp only [VRel, verV] at *
    obtain ⟨v, rfl, h⟩ := h
    exact ⟨v, rfl, VRel.ver hr x v h⟩
  | .msl i ver off n, u, h => by
    simp only [verV]
    simp only [VRel] at h
    have k := ver_leaf (v' := v') (Q := fun sz l => (off + n) * sz ≤ l ∧ off + n ≤ m.cap i ∧ ∃ a, u = .slice a n (m.cap i - off) ∧ (off = m.cap i ∨ a = some ⟨m.blk i, off * sz, none⟩)) hr h
    by_cases hi : i = id
    · by_cases hv : ver = verOf L id
      · have := k.1 hi hv
        simpa only [hi, hv, beq_self_eq_true, cond_true, VRel] using this
      · have e : (ver == verOf L id) = false := by simp [hv]
        simp [hi, e, VRel]
    · have e : (i == id) = false := by simp [hi]
      simpa only [e, cond_false, VRel] using k.2 hi
  | .csl i ver off n, u, h => by
    simp only [verV]
    simp only [VRel] at h
    have k := ver_leaf (v' := v') (Q := fun sz l => (off + n) * sz ≤ l ∧ off + n ≤ m.cap i ∧ ∃ a, u = .slice a n n ∧ (n = 0 ∨ a = some ⟨m.blk i, off * sz, none⟩)) hr h
    by_cases hi : i = id
    · by_cases hv : ver = verOf L id
      · have := k.1 hi hv
        simpa only [hi, hv, beq_self_eq_true, cond_true, VRel] using this
      · have e : (ver == verOf L id) = false := by simp [hv]
        simp [hi, e, VRel]
    · have e : (i == id) = false := by simp [hi]
      simpa only [e, cond_false, VRel] using k.2 hi
  | .ref i ver off, u, h => by
    simp only [verV]
    simp only [VRel] at h
    rcases h with h | ⟨r, hL, h⟩
    · have k := ver_leaf (v' := v') (Q := fun _ _ => u = .pointer (some ⟨m.blk i, off, none⟩)) hr h
      by_cases hi : i = id
      · by_cases hv : ver = verOf L id
        · have := k.1 hi hv
          simp only [hi, hv, beq_self_eq_true, cond_true, VRel]
          left; simpa only [hi] using this
        · have e : (ver == verOf L id) = false := by simp [hv]
          simp [hi, e, VRel]
      · have e : (i == id) = false := by simp [hi]
        simp only [e, cond_false, VRel]
        exact .inl (k.2 hi)
    · have hi : i ≠ id := by
        intro e; subst e
        simp [isRow, hL] at hr
      have e : (i == id) = false := by simp [hi]
      simp only [e, cond_false, VRel]
      exact .inr ⟨r, ver_raw hL, h⟩
  | .mp i, u, h => by
    simp only [verV, VRel] at *
    obtain ⟨r, hL, h⟩ := h
    exact ⟨r, ver_raw hL, h⟩
  | .mpr kd f, u, h => by simpa only [verV, VRel] using h
theorem CRel.ver (hr : isRow L id = true) : ∀ (cs : List AV) (us : List Value), CRel m L cs us → CRel m (verH L id v') (verL L id v' cs) us
  | [], _, h => by simpa [CRel, verL] using h
  | c :: cs, us, h => by
    simp only [CRel, verL] at *
    obtain ⟨u, us', rfl, h1, h2⟩ := h
    exact ⟨u, us', rfl, VRel.ver hr c u h1, CRel.ver hr cs us' h2⟩
end

theorem WRel.ver (hW : WRel m L w) (hr : isRow L id = true) : WRel m (verH L id v') w := by
  refine ⟨hW.glob, hW.pobjs, fun j cs sz ver hL hc => ?_, fun j cs sz ver hL hc => ?_, fun j r hL => hW.iters _ _ (ver_raw' hr hL), fun i j hi hj he => hW.inj i j (ver_own hr hi) (ver_own hr hj) he, fun j ho => hW.freeo j (ver_own hr ho), hW.hid.keep (fun i T e l h => ⟨ver_raw' hr h, rfl, rfl⟩) (fun _ _ _ _ _ _ => rfl) (fun _ _ _ => rfl) (fun i g k => hW.hid.free i g k) (fun i g k j hj => hW.hid.own i g k j (ver_own hr hj))⟩
  · obtain ⟨cs0, v0, h1, rfl⟩ := ver_row hr hL
    obtain ⟨us, rest, elem, lo, hi, k1, k2, k3, k4⟩ := hW.rows _ _ _ _ h1 hc
    exact ⟨us, rest, elem, lo, hi, k1, CRel.ver hr _ _ k2, k3, k4⟩
  · obtain ⟨cs0, v0, h1, rfl⟩ := ver_row hr hL
    rw [hW.nils _ _ _ _ h1 hc]; rfl

theorem verH_length : (verH L id v').length = L.length := by
  simp only [verH]; split <;> simp

theorem Ext.ver {m0 : Mem} {L0 : Heap} {w0 : World} (hE : Ext m0 L0 w0 m L w) (hr : isRow L id = true) (hv : verOf L0 id < v' ∨ L0.length ≤ id) : Ext m0 L0 w0 m (verH L id v') w := by
  refine ⟨hE.frame, hE.size, hE.newobj, fun j ho => hE.blks j (ver_own hr ho), by rw [verH_length]; exact hE.len, ⟨hE.mono.pobj, fun j cs sz ver hL => ?_, fun j r hL => ?_⟩, hE.same, fun i g ⟨T, e, l, k1, k2⟩ => hE.hnew i g ⟨T, e, l, ver_raw' hr k1, k2⟩⟩
  · obtain ⟨cs', v1, h1, h2, h3⟩ := hE.mono.row _ _ _ _ hL
    by_cases hj : j = id
    · subst hj
      have hlt := (List.getElem?_eq_some_iff.1 hL).1
      have e : verOf L0 j = ver := by simp [verOf, hL]
      refine ⟨verL L j v' cs', v', ver_at h1, by omega, fun e2 => by omega⟩
    · exact ⟨verL L id v' cs', v1, by rw [ver_obj hj, h1]; rfl, h2, fun e => by rw [verL_length]; exact h3 e⟩
  · obtain ⟨r', h1, h2⟩ := hE.mono.iter _ _ hL
    exact ⟨r', ver_raw h1, h2⟩
end

theorem set_self {α : Type} {us : List α} {i : Nat} {u : α} (h : us[i]? = some u) : us.set i u = us := by
  apply List.ext_getElem?
  intro j
  rw [List.getElem?_set]
  split
  · rename_i hij; subst hij
    rw [if_pos (List.getElem?_eq_some_iff.1 h).1, h]
  · rfl
theorem nilT_rel {m : Mem} {L : Heap} {sz : Nat} {fr : List AV} {us : List Value} (h : CRel m L fr us) (i j : Nat) (cs : List AV) (hi : fr.getD i .any = .tup cs) (hj : cs.getD j .any = .lit (.slice none 0 0)) :
    CRel (nilM m L.length) (L ++ [AObj.row [] sz 0]) (fr.set i (.tup (cs.set j (.msl L.length 0 0 0)))) us := by
  have h' := CRel.mono (nil_mono (sz := sz)) _ _ h
  have h1 := h'.getD i
  rw [hi] at h1
  simp only [VRel] at h1
  obtain ⟨vs, hu, hc⟩ := h1
  have hc1 := nil_rel (m := m) (L := L) (sz := sz) (fr := cs) (us := vs) (by
    have h0 := h.getD i
    rw [hi] at h0
    simp only [VRel] at h0
    obtain ⟨vs', hu', hc'⟩ := h0
    rw [hu] at hu'
    have : vs = vs' := by simpa using hu'
    rw [this]; exact hc') j hj
  have hlt : i < us.length := by
    rcases Nat.lt_or_ge i us.length with h2 | h2
    · exact h2
    · have : fr.getD i .any = .any := by simp [List.getD, List.getElem?_eq_none (by rw [← h.length]; exact h2)]
      rw [this] at hi; cases hi
  have hget : us[i]? = some (.tuple vs.toArray) := by
    have : us.getD i undef = us[i] := by simp [List.getD, hlt]
    rw [this] at hu
    simp [hlt, hu]
  have := h'.set i (c := .tup (cs.set j (.msl L.length 0 0 0))) (u := .tuple vs.toArray) (by simp only [VRel]; exact ⟨vs, rfl, hc1⟩)
  rwa [set_self hget] at this

/-! ### cells of an own row are said in other words -/
section
variable {m : Mem} {L : Heap} {w : World}
theorem recell_get {id : Nat} {cs cs' : List AV} {sz v : Nat} (hL : L[id]? = some (.row cs sz v)) {j : Nat} {o : AObj} (h : (L.set id (.row cs' sz v))[j]? = some o) : (j = id ∧ o = .row cs' sz v) ∨ (j ≠ id ∧ L[j]? = some o) := by
  have hlt := (List.getElem?_eq_some_iff.1 hL).1
  by_cases hj : j = id
  · subst hj; rw [List.getElem?_set_self hlt] at h; exact .inl ⟨rfl, (Option.some.inj h).symm⟩
  · rw [List.getElem?_set_ne (Ne.symm hj)] at h; exact .inr ⟨hj, h⟩
theorem recell_mono {id : Nat} {cs cs' : List AV} {sz v : Nat} (hL : L[id]? = some (.row cs sz v)) (hl : cs'.length = cs.length) : Mono m L m (L.set id (.row cs' sz v)) := by
  have hlt := (List.getElem?_eq_some_iff.1 hL).1
  refine ⟨fun _ _ h => h, fun i cs1 s v1 h => ?_, fun i r h => ?_⟩
  · by_cases hi : i = id
    · subst hi
      rw [hL] at h
      simp only [Option.some.injEq, AObj.row.injEq] at h
      obtain ⟨rfl, rfl, rfl⟩ := h
      exact ⟨cs', v, by rw [List.getElem?_set_self hlt], Nat.le_refl _, fun _ => ⟨hl, rfl, rfl⟩⟩
    · exact ⟨cs1, v1, by rw [List.getElem?_set_ne (Ne.symm hi)]; exact h, Nat.le_refl _, fun _ => ⟨rfl, rfl, rfl⟩⟩
  · have hi : i ≠ id := by rintro rfl; rw [hL] at h; cases h
    exact ⟨r, by rw [List.getElem?_set_ne (Ne.symm hi)]; exact h, rfl⟩
theorem recell_own {id : Nat} {cs cs' : List AV} {sz v : Nat} (hL : L[id]? = some (.row cs sz v)) {j : Nat} (h : Own m (L.set id (.row cs' sz v)) j) : Own m L j := by
  rcases h with ⟨c1, s1, v1, h1, hc⟩ | ⟨r, h1⟩
  · rcases recell_get hL h1 with ⟨rfl, h2⟩ | ⟨_, h2⟩
    · exact .inl ⟨_, _, _, hL, hc⟩
    · exact .inl ⟨_, _, _, h2, hc⟩
  · rcases recell_get hL h1 with ⟨rfl, h2⟩ | ⟨_, h2⟩
    · cases h2
    · exact .inr ⟨_, h2⟩
theorem recell_hid {id : Nat} {cs cs' : List AV} {sz v : Nat} (hL : L[id]? = some (.row cs sz v)) {j : Nat} {T e : TypeId} {l : List UInt8} (h : (L.set id (.row cs' sz v))[j]? = some (.raw (.bld T e l))) : L[j]? = some (.raw (.bld T e l)) := by
  rcases recell_get hL h with ⟨_, h2⟩ | ⟨_, h2⟩
  · cases h2
  · exact h2
theorem WRel.recell (hW : WRel m L w) {id : Nat} {cs cs' : List AV} {sz v : Nat} (hL : L[id]? = some (.row cs sz v)) (hl : cs'.length = cs.length) (hc : ∀ us, CRel m L cs us → CRel m L cs' us) : WRel m (L.set id (.row cs' sz v)) w := by
  have M := recell_mono (m := m) hL hl
  refine ⟨hW.glob, hW.pobjs, fun j c s v1 h hcap => ?_, fun j c s v1 h hcap => ?_, fun j r h => ?_, fun i j hi hj he => hW.inj i j (recell_own hL hi) (recell_own hL hj) he, fun j ho => hW.freeo j (recell_own hL ho), hW.hid.keep (fun i T e l h => ⟨recell_hid hL h, rfl, rfl⟩) (fun _ _ _ _ _ _ => rfl) (fun _ _ _ => rfl) (fun i g k => hW.hid.free i g k) (fun i g k j hj => hW.hid.own i g k j (recell_own hL hj))⟩
  · rcases recell_get hL h with ⟨rfl, h2⟩ | ⟨_, h2⟩
    · simp only [AObj.row.injEq] at h2
      obtain ⟨rfl, rfl, rfl⟩ := h2
      obtain ⟨us, rest, elem, lo, hi, k1, k2, k3, k4⟩ := hW.rows _ _ _ _ hL hcap
      exact ⟨us, rest, elem, lo, hi, k1, CRel.mono M _ _ (hc _ k2), k3, k4⟩
    · obtain ⟨us, rest, elem, lo, hi, k1, k2, k3, k4⟩ := hW.rows _ _ _ _ h2 hcap
      exact ⟨us, rest, elem, lo, hi, k1, CRel.mono M _ _ k2, k3, k4⟩
  · rcases recell_get hL h with ⟨rfl, h2⟩ | ⟨_, h2⟩
    · simp only [AObj.row.injEq] at h2
      obtain ⟨rfl, rfl, rfl⟩ := h2
      have := hW.nils _ _ _ _ hL hcap
      rw [this] at hl
      exact List.eq_nil_of_length_eq_zero hl
    · exact hW.nils _ _ _ _ h2 hcap
  · rcases recell_get hL h with ⟨rfl, h2⟩ | ⟨_, h2⟩
    · cases h2
    · exact hW.iters _ _ h2
theorem Ext.recell {m0 : Mem} {L0 : Heap} {w0 : World} (hE : Ext m0 L0 w0 m L w) {id : Nat} {cs cs' : List AV} {sz v : Nat} (hL : L[id]? = some (.row cs sz v)) (hl : cs'.length = cs.length) : Ext m0 L0 w0 m (L.set id (.row cs' sz v)) w :=
  ⟨hE.frame, hE.size, hE.newobj, fun j ho => hE.blks j (recell_own hL ho), by rw [List.length_set]; exact hE.len, hE.mono.trans (recell_mono hL hl), hE.same, fun i g ⟨T, e, l, k1, k2⟩ => hE.hnew i g ⟨T, e, l, recell_hid hL k1, k2⟩⟩
end
theorem nilH_rel {m : Mem} {L : Heap} {w : World} (hW : WRel m L w) {id : Nat} (j sz' : Nat) {cs : List AV} {sz v : Nat} (hL : L[id]? = some (.row cs sz v)) (hj : cs.getD j .any = .lit (.slice none 0 0)) :
    L.set id (.row (cs.set j (.msl L.length 0 0 0)) sz v) ++ [AObj.row [] sz' 0] = (L ++ [AObj.row [] sz' 0]).set id (.row (cs.set j (.msl L.length 0 0 0)) sz v) ∧ (L ++ [AObj.row [] sz' 0])[id]? = some (.row cs sz v) ∧
      ∀ us, CRel (nilM m L.length) (L ++ [AObj.row [] sz' 0]) cs us → CRel (nilM m L.length) (L ++ [AObj.row [] sz' 0]) (cs.set j (.msl L.length 0 0 0)) us := by
  have hlt := (List.getElem?_eq_some_iff.1 hL).1
  have hL1 : (L ++ [AObj.row [] sz' 0])[id]? = some (.row cs sz v) := by rw [List.getElem?_append_left hlt]; exact hL
  refine ⟨by rw [List.set_append_left _ _ hlt], hL1, ?_⟩
  have hjl : j < cs.length := by
    rcases Nat.lt_or_ge j cs.length with h' | h'
    · exact h'
    · simp [List.getD, List.getElem?_eq_none h'] at hj
  have hv : VRel (nilM m L.length) (L ++ [AObj.row [] sz' 0]) (.msl L.length 0 0 0) (.slice none 0 0) := by
    simp only [VRel]
    exact ⟨[], sz', 0, by simp, Nat.le_refl _, ⟨none, 0, 0, rfl⟩, fun _ => ⟨by simp, by simp, none, by simp [nilM], .inl (by simp [nilM])⟩⟩
  intro us hcs
  refine CRel.mk (by simp [hcs.length]) fun i c u hi hu => ?_
  rw [List.getElem?_set] at hi
  by_cases hij : j = i
  · subst hij
    simp [hjl] at hi
    subst hi
    have := hcs.getD j
    rw [hj] at this
    simp only [VRel] at this
    simp [List.getD, hu] at this
    rw [this]; exact hv
  · simp [hij] at hi
    obtain ⟨u1, hu1, hr1⟩ := hcs.get i c hi
    rw [hu] at hu1; obtain rfl := Option.some.inj hu1; exact hr1

/-- what may be said less of a state: rows laid fast, versions turned, then weakened; L0: the heap at the beginning -/
inductive IntoF (L0 : Heap) : List AV → Heap → List AV × Heap → Prop
  | refl (S : List AV × Heap) : IntoF L0 S.1 S.2 S
  | weak {fr : List AV} {L : Heap} {fr' : List AV} {L' : Heap} {S : List AV × Heap} (ids : List Nat) (h : Weak L0.length ids fr L fr' L') (hle : L0.length ≤ L'.length) (h' : IntoF L0 fr' L' S) : IntoF L0 fr L S
  | nil {fr : List AV} {L : Heap} {S : List AV × Heap} (i sz : Nat) (hi : fr.getD i .any = .lit (.slice none 0 0)) (h : IntoF L0 (fr.set i (.msl L.length 0 0 0)) (L ++ [.row [] sz 0]) S) : IntoF L0 fr L S
  | nilT {fr : List AV} {L : Heap} {S : List AV × Heap} (i j sz : Nat) (cs : List AV) (hi : fr.getD i .any = .tup cs) (hj : cs.getD j .any = .lit (.slice none 0 0)) (h : IntoF L0 (fr.set i (.tup (cs.set j (.msl L.length 0 0 0)))) (L ++ [.row [] sz 0]) S) : IntoF L0 fr L S
  | frz {fr : List AV} {L : Heap} {S : List AV × Heap} (id : Nat) (hn : L0.length ≤ id) (hok : frzOk' L id) (h : IntoF L0 (frzL L id fr) (frzH L id) S) : IntoF L0 fr L S
  | sem {fr fr' : List AV} {L : Heap} {S : List AV × Heap} (hs : ∀ m us, CRel m L fr us → CRel m L fr' us) (h : IntoF L0 fr' L S) : IntoF L0 fr L S
  | recell {fr : List AV} {L : Heap} {S : List AV × Heap} (id : Nat) (cs' : List AV) {cs : List AV} {sz v : Nat} (hL : L[id]? = some (.row cs sz v)) (hl : cs'.length = cs.length) (hc : ∀ m us, CRel m L cs us → CRel m L cs' us) (h : IntoF L0 fr (L.set id (.row cs' sz v)) S) : IntoF L0 fr L S
  | nilH {fr : List AV} {L : Heap} {S : List AV × Heap} (id j sz' : Nat) {cs : List AV} {sz v : Nat} (hL : L[id]? = some (.row cs sz v)) (hj : cs.getD j .any = .lit (.slice none 0 0)) (h : IntoF L0 fr (L.set id (.row (cs.set j (.msl L.length 0 0 0)) sz v) ++ [.row [] sz' 0]) S) : IntoF L0 fr L S
  | ver {fr : List AV} {L : Heap} {S : List AV × Heap} (id v' : Nat) (hr : isRow L id = true) (hv : verOf L0 id < v' ∨ L0.length ≤ id) (h : IntoF L0 (verL L id v' fr) (verH L id v') S) : IntoF L0 fr L S

theorem IntoF.base {L0 : Heap} {fr : List AV} {L : Heap} {S : List AV × Heap} (ids : List Nat) (h : Weak L0.length ids fr L S.1 S.2) (hle : L0.length ≤ S.2.length) : IntoF L0 fr L S := .weak ids h hle (.refl S)
theorem IntoF.trans {L0 : Heap} {fr : List AV} {L : Heap} {S S' : List AV × Heap} (h : IntoF L0 fr L S) : IntoF L0 S.1 S.2 S' → IntoF L0 fr L S' := by
  induction h with
  | refl S => exact id
  | weak ids h hle h' ih => exact fun k => .weak ids h hle (ih k)
  | nil i sz hi h ih => exact fun k => .nil i sz hi (ih k)
  | nilT i j sz cs hi hj h ih => exact fun k => .nilT i j sz cs hi hj (ih k)
  | frz id hn hok h ih => exact fun k => .frz id hn hok (ih k)
  | sem hs h ih => exact fun k => .sem hs (ih k)
  | recell id cs' hL hl hc h ih => exact fun k => .recell id cs' hL hl hc (ih k)
  | nilH id j sz' hL hj h ih => exact fun k => .nilH id j sz' hL hj (ih k)
  | ver id v' hr hv h ih => exact fun k => .ver id v' hr hv (ih k)

theorem IntoF.sound {m0 : Mem} {L0 : Heap} {w0 : World} {fr : List AV} {L : Heap} {S : List AV × Heap} (h : IntoF L0 fr L S) : ∀ {m : Mem} {w : World} {us : List Value}, WRel m L w → CRel m L fr us → Ext m0 L0 w0 m L w →
    ∃ m', WRel m' S.2 w ∧ CRel m' S.2 S.1 us ∧ Ext m0 L0 w0 m' S.2 w := by
  induction h with
  | refl S =>
    intro m w us hW hc hE
    exact ⟨m, hW, hc, hE⟩
  | weak ids h hle h' ih =>
    intro m w us hW hc hE
    have H := h.renamed m
    exact ih (WRel.ren H h.2.2.2.2.2 hW) (CRel.ren H _ _ (leF_rel h.1 hc) h.2.2.2.2.1) (h.ext rfl hle hE)
  | nil i sz hi h ih =>
    intro m w us hW hc hE
    exact ih hW.nil (nil_rel hc i hi) hE.nil
  | nilT i j sz cs hi hj h ih =>
    intro m w us hW hc hE
    exact ih hW.nil (nilT_rel hc i j cs hi hj) hE.nil
  | frz id hn hok h ih =>
    intro m w us hW hc hE
    exact ih (hW.frz hok) (CRel.frz hW hok _ _ hc) (hE.frz hW hok hn)
  | sem hs h ih =>
    intro m w us hW hc hE
    exact ih hW (hs m us hc) hE
  | recell id cs' hL hl hc h ih =>
    intro m w us hW hcr hE
    exact ih (hW.recell hL hl (hc m)) (CRel.mono (recell_mono hL hl) _ _ hcr) (hE.recell hL hl)
  | nilH id j sz' hL hj h ih =>
    intro m w us hW hc hE
    obtain ⟨e, hL1, hcell⟩ := nilH_rel hW j sz' hL hj
    rw [e] at ih
    exact ih (hW.nil.recell hL1 (by simp) hcell) (CRel.mono (recell_mono hL1 (by simp)) _ _ (CRel.mono (nil_mono (m := m) (sz := sz')) _ _ hc)) (hE.nil.recell hL1 (by simp))
  | ver id v' hr hv h ih =>
    intro m w us hW hc hE
    exact ih (hW.ver hr) (CRel.ver hr _ _ hc) (hE.ver hr hv)

theorem RS.intoF {B : Base} {fr : List AV} {L : Heap} {m : Mem} {a : Act} {w : World} (h : RS B fr L m a w) {S : List AV × Heap} (hi : IntoF B.L fr L S) : ∃ m', RS B S.1 S.2 m' a w := by
  obtain ⟨m', h1, h2, h3⟩ := hi.sound h.wrel h.frel h.ext
  exact ⟨m', h1, h2, h3, h.defers⟩

end Go.Eng
end
section
namespace Go.Eng
open Go
set_option linter.unusedVariables false
set_option linter.unusedSimpArgs false

/-- what a function does: what is asked of its arguments (and the heap), what it hands back, what becomes of the heap -/
structure FSpec where
  pre : List AV → Heap → Prop
  res : List AV → Heap → AV
  post : List AV → Heap → Heap
  quiet : Bool

structure Con (P : Program) (f : FuncId) (sp : FSpec) : Prop where
  quiet : sp.quiet = true → ∀ xs L, sp.post xs L = L
  runs : ((∃ fn, P.funcs[f]? = some fn ∧ fn.body.isNone = false ∧ (fn.name == "runtime.NumGoroutine") = false) ∧
      ∀ (m : Mem) (L : Heap) (w : World) (xs : List AV) (vs : List Value), WRel m L w → CRel m L xs vs → sp.pre xs L →
        Calls P f vs.toArray w fun e w' => ∃ v m', e = .returned v ∧ VRel m' (sp.post xs L) (sp.res xs L) v ∧ WRel m' (sp.post xs L) w' ∧ Ext m L w m' (sp.post xs L) w') ∨
    ∀ (m : Mem) (L : Heap) (w : World) (xs : List AV) (vs : List Value), WRel m L w → CRel m L xs vs → sp.pre xs L →
      ∃ v, (callFunc f vs.toArray).run P w = .ok (.value v) w ∧ VRel m L (sp.res xs L) v ∧ sp.post xs L = L

abbrev Env := FuncId → Option FSpec
def EnvOk (P : Program) (Γ : Env) : Prop := ∀ f sp, Γ f = some sp → Con P f sp

def guardC (all : List Oper) (fr : List AV) : Option (Nat × Bool) → Bool
  | none => true
  | some (j, want) => match (all[j]?).bind (·.dst) with
    | some d => match fr.getD d .any with
      | .bool b => b == want
      | .when c (.bool b) => c && (b == want)
      | _ => false
    | none => false
def guardOk (all : List Oper) (fr : List AV) : Option (Nat × Bool) → Prop
  | none => True
  | some (j, _) => match (all[j]?).bind (·.dst) with
    | some d => match fr.getD d .any with
      | .bool _ => True
      | .when _ (.bool _) => True
      | _ => False
    | none => False

def callR (Γ : Env) (c : Bool) (fr : List AV) (L : Heap) (f : Operand) (args : List Operand) : Rz :=
  match (opd fr f).bare with
  | .fn (.func g) first captured => match Γ g with
    | some sp => ⟨need c (opd fr f) ∧ needAll c (args.map (opd fr)) ∧ (c = true → sp.pre (first ++ args.map (fun x => (opd fr x).bare) ++ captured) L),
        sp.res (first ++ args.map (fun x => (opd fr x).bare) ++ captured) L, cond c (sp.post (first ++ args.map (fun x => (opd fr x).bare) ++ captured) L) L⟩
    | none => bad L
  | _ => bad L

noncomputable def stepR (P : Program) (Γ : Env) (c : Bool) (fr : List AV) (L : Heap) : Op → Rz
  | .call { callee := .value f, args := args, argTypes := _ } => callR Γ c fr L f args.toList
  | op => ev P c fr L op

/-- a slice literal that is laid behind another slice, as one that is only read -/
noncomputable def stepA (P : Program) (Γ : Env) (all : List Oper) (c : Bool) (fr : List AV) (L : Heap) (o : Oper) : Rz :=
  match lentB all o, o.op with
  | true, .buildSlice t len parts => (roSliceR P c L t len (partsA fr parts)).also (needAll c (parts.toList.map fun p => opd fr p.2))
  | _, op => stepR P Γ c fr L op
theorem stepA_cases (P : Program) (Γ : Env) (all : List Oper) (o : Oper) : (∀ c fr L, stepA P Γ all c fr L o = stepR P Γ c fr L o.op) ∨
    ∃ t len parts, o.op = .buildSlice t len parts ∧ ∀ c fr L, stepA P Γ all c fr L o = (roSliceR P c L t len (partsA fr parts)).also (needAll c (parts.toList.map fun p => opd fr p.2)) := by
  obtain ⟨dst, op, ty, pos, after, guard⟩ := o
  cases hl : lentB all ⟨dst, op, ty, pos, after, guard⟩ with
  | false => left; intro c fr L; simp only [stepA, hl]
  | true =>
    cases op <;> first
      | (left; intro c fr L; simp only [stepA, hl]; done)
      | (right; exact ⟨_, _, _, rfl, fun c fr L => by simp only [stepA, hl]⟩)

def mkV : Option (Nat × Bool) → Bool → AV → AV
  | none, _, v => v
  | some _, c, v => .when c v
def putA (fr : List AV) : Option Tmp → AV → List AV
  | none, _ => fr
  | some d, v => fr.set d v

def evOps (P : Program) (Γ : Env) (all : List Oper) : List Oper → List AV → Heap → (List AV → Heap → Prop) → Prop
  | [], fr, L, K => K fr L
  | o :: r, fr, L, K =>
    guardOk all fr o.guard ∧ (stepA P Γ all (guardC all fr o.guard) fr L o).pre ∧
      evOps P Γ all r (putA fr o.dst (mkV o.guard (guardC all fr o.guard) (stepA P Γ all (guardC all fr o.guard) fr L o).v)) (stepA P Γ all (guardC all fr o.guard) fr L o).L K

section
variable {P : Program} {Γ : Env} {m : Mem} {L : Heap} {w : World}

theorem guard_wanted {fr : List AV} {a : Act} (h : CRel m L fr a.tmps.toList) (ops : Array Oper) (o : Oper) (hg : guardOk ops.toList fr o.guard) :
    Region.wanted o (yielded ops a.tmps) = guardC ops.toList fr o.guard := by
  unfold Region.wanted guardC
  cases hgd : o.guard with
  | none => rfl
  | some q =>
    obtain ⟨j, want⟩ := q
    rw [hgd] at hg
    simp only [guardOk] at hg
    have e : (ops.toList[j]?).bind (·.dst) = (ops[j]?).bind (·.dst) := by simp
    simp only [yielded]
    rw [e] at hg ⊢
    cases hd : (ops[j]?).bind (·.dst) with
    | none => rw [hd] at hg; exact hg.elim
    | some d =>
      rw [hd] at hg
      simp only at hg ⊢
      have hr := h.getD d
      have hlen := h.length
      have hdlt : d < fr.length := by
        rcases Nat.lt_or_ge d fr.length with h' | h'
        · exact h'
        · simp [List.getD, List.getElem?_eq_none h'] at hg
      have hget : a.tmps[d]? = some (a.tmps.toList.getD d undef) := by
        have h2 : d < a.tmps.size := by rw [← Array.length_toList, hlen]; exact hdlt
        simp [List.getD, h2]
      simp only [Option.bind_some, hget]
      split at hg
      · rename_i b hb
        rw [hb] at hr
        simp only [VRel] at hr
        rw [hr]
        simp
      · rename_i c b hb
        rw [hb] at hr
        simp only [VRel] at hr
        cases c with
        | true =>
          rw [hr.1 rfl]
          simp
        | false =>
          rw [hr.2 rfl]
          simp [undef]
      · exact hg.elim

/-- where the operation is not carried out, the heap is left alone -/
theorem stepR_false (hΓ : EnvOk P Γ) (fr : List AV) (op : Op) (hp : (stepR P Γ false fr L op).pre) : (stepR P Γ false fr L op).L = L := by
  have hb : ∀ L : Heap, (bad L).L = L := fun _ => rfl
  cases op <;> try (first | rfl | exact hp.elim)
  case pick q x y => simp only [stepR, ev, pickR]; split <;> rfl
  case binOp op t x y yt =>
    simp only [stepR, ev, Rz.also, binR]
    split
    · cases op <;> rfl
    · cases op <;> rfl
    · split <;> rfl
    · split
      · simp only [eqAgg]; repeat' split
        all_goals rfl
      · simp only [eqAgg]; repeat' split
        all_goals rfl
      · rfl
    · split
      · simp only [nilR]; split <;> rfl
      · simp only [nilR]; split <;> rfl
      · rfl
    · rfl
  case unOp op t x => simp only [stepR, ev, Rz.also, unR]; split <;> rfl
  case convert s d x =>
    simp only [stepR, ev, Rz.also, convR] at *
    split
    · split <;> rfl
    · rename_i l heq
      rw [heq] at hp
      simp only at hp
      split <;> rename_i hd <;> simp only [hd] at hp ⊢ <;> simp at hp
    all_goals first | rfl | (split <;> rfl)
  case index t x i =>
    simp only [stepR, ev, Rz.also, indexR]
    split
    · rfl
    · split <;> rfl
    · rfl
  case indexAddr t x i => simp only [stepR, ev, Rz.also, indexAddrR]; split <;> first | rfl | (split <;> rfl)
  case load t x => simp only [stepR, ev, Rz.also, loadR]; split <;> rfl
  case store t x y => simp only [stepR, ev, Rz.also, storeR] at *; split at hp <;> simp_all
  case alloc t => simp only [stepR, ev, allocR] at hp; split at hp <;> simp at hp
  case box t x => simp [stepR, ev, Rz.also, boxR] at hp
  case build t parts =>
    simp only [stepR, ev, Rz.also, buildR]
    split
    · split <;> rfl
    · split <;> rfl
    · rfl
  case buildSlice t len parts =>
    simp only [stepR, ev, Rz.also, buildSliceR] at *
    split at hp
    · split at hp <;> simp_all
    · simp_all
  case field t x f =>
    simp only [stepR, ev, Rz.also, fieldR]
    split
    · split <;> rfl
    · rfl
  case fieldAddr t x f =>
    simp only [stepR, ev, Rz.also, fieldAddrR]
    split
    · split
      · split <;> rfl
      · rfl
    · rfl
  case extract x i => simp only [stepR, ev, Rz.also, extractR]; split <;> rfl
  case slice t x lo hi mx =>
    simp only [stepR, ev, Rz.also, sliceR]
    split
    · split <;> rfl
    · split <;> rfl
    · repeat' split
      all_goals rfl
    · rfl
  case makeMap t r =>
    simp only [stepR, ev, Rz.also, makeMapR] at *
    repeat' split at hp
    all_goals simp_all
  case insert t x k v =>
    simp only [stepR, ev, Rz.also, mapPutR] at *
    repeat' split at hp
    all_goals simp_all
  case mapUpdate t x k v =>
    simp only [stepR, ev, Rz.also, mapPutR] at *
    repeat' split at hp
    all_goals simp_all
  case lookup t x k ok =>
    simp only [stepR, ev, Rz.also, lookR]
    repeat' split
    all_goals rfl
  case range t x => simp only [stepR, ev, Rz.also, rangeR] at *; split at hp <;> simp_all
  case next x b =>
    simp only [stepR, ev, Rz.also, nextR] at *
    split at hp
    · split at hp <;> simp_all
    · simp_all
  case nilCheck x => simp only [stepR, ev, Rz.also, nilCheckR]; split <;> rfl
  case makeSlice t l k => simp only [stepR, ev, Rz.also, makeSliceR] at *; split at hp <;> simp_all
  case call c =>
    obtain ⟨callee, args, ts⟩ := c
    cases callee with
    | value f =>
      simp only [stepR, callR] at *
      split at hp
      · rename_i g a b hf
        split at hp
        · rename_i sp hsp
          simp only [hf, hsp]
          rfl
        · exact hp.elim
      · exact hp.elim
    | invoke r n => exact hp.elim
    | builtin b =>
      simp only [stepR, ev, builtinR] at *
      split at hp
      · simp only [Rz.also, lenR]; repeat' split
        all_goals rfl
      · simp only [Rz.also, minR]; split <;> rfl
      · simp only [Rz.also, minR]; split <;> rfl
      · simp only [Rz.also, appendR] at *
        split at hp
        · split at hp <;> simp_all
        · simp_all
      · simp only [Rz.also, mapDelR] at *
        split at hp
        · split at hp <;> simp_all
        · simp_all
      · exact hp.elim

theorem put_rel {fr : List AV} {a : Act} (h : CRel m L fr a.tmps.toList) (dst : Option Tmp) {x : AV} {v : Value} (hr : VRel m L x v) : CRel m L (putA fr dst x) (a.put dst v).tmps.toList := by
  cases dst with
  | none => exact h
  | some d =>
    simp only [putA, Act.put, Array.toList_setIfInBounds]
    exact h.set d hr

theorem stepA_false (hΓ : EnvOk P Γ) (all : List Oper) (fr : List AV) (o : Oper) (hp : (stepA P Γ all false fr L o).pre) : (stepA P Γ all false fr L o).L = L := by
  rcases stepA_cases P Γ all o with hst | ⟨t, len, parts, hop, hst⟩
  · rw [hst] at hp ⊢; exact stepR_false hΓ fr o.op hp
  · rw [hst]
    simp only [Rz.also, roSliceR]
    split
    · split <;> rfl
    · rfl
theorem step_sound (hΓ : EnvOk P Γ) (hW : WRel m L w) {fr : List AV} {a : Act} (h : CRel m L fr a.tmps.toList) (ops : Array Oper) (o : Oper) {next : Act → World → Prop} {Q : Exit → Act → World → Prop}
    (hg : guardOk ops.toList fr o.guard) (hp : (stepA P Γ ops.toList (guardC ops.toList fr o.guard) fr L o).pre)
    (hK : ∀ a' w' m', WRel m' (stepA P Γ ops.toList (guardC ops.toList fr o.guard) fr L o).L w' →
      CRel m' (stepA P Γ ops.toList (guardC ops.toList fr o.guard) fr L o).L (putA fr o.dst (mkV o.guard (guardC ops.toList fr o.guard) (stepA P Γ ops.toList (guardC ops.toList fr o.guard) fr L o).v)) a'.tmps.toList →
      Ext m L w m' (stepA P Γ ops.toList (guardC ops.toList fr o.guard) fr L o).L w' → a'.defers = a.defers → next a' w') :
    if Region.wanted o (yielded ops a.tmps) then o.wp P a w next Q else next (a.put o.dst undef) w := by
  rw [guard_wanted h ops o hg]
  cases hc : guardC ops.toList fr o.guard with
  | false =>
    rw [hc] at hp hK
    have hL := stepA_false hΓ ops.toList fr o hp
    rw [hL] at hK
    simp only [Bool.false_eq_true, if_false]
    refine hK _ w m hW ?_ Ext.refl (by cases o.dst <;> rfl)
    refine put_rel h o.dst ?_
    cases hgd : o.guard with
    | none => rw [hgd] at hc; simp [guardC] at hc
    | some q => simp [mkV, VRel]
  | true =>
    rw [hc] at hp hK
    simp only [if_true]
    have hmk : ∀ m' L' x v, VRel m' L' x v → VRel m' L' (mkV o.guard true x) v := by
      intro m' L' x v hv
      cases o.guard with
      | none => exact hv
      | some q => simp only [mkV, VRel]; exact ⟨fun _ => hv, fun h => by cases h⟩
    rcases stepA_cases P Γ ops.toList o with hst | ⟨t, len, parts, hop, hst⟩
    case inr =>
      simp only [hst] at hp hK
      have hS : Sound P m L w ((roSliceR P true L t len (partsA fr parts)).also (needAll true (parts.toList.map fun p => opd fr p.2))) (execOp a.eval o) := by
        obtain ⟨dst, op, ty, pos, after, guard⟩ := o
        simp only at hop
        subst hop
        exact Sound.also fun h1 => roSlice_sound hW t len (parts_rel h parts h1).1 (parts_rel h parts h1).2
      obtain ⟨n, w', m', hrun, hres, hW', hE⟩ := hS hp
      have hmono := CRel.mono hE.mono _ _ h
      unfold Oper.wp
      rw [hrun]
      rcases hres with ⟨u, rfl, hv⟩ | ⟨rfl, hv⟩
      · simp only [Oper.upon]
        exact hK _ w' m' hW' (put_rel hmono o.dst (hmk _ _ _ _ hv)) hE (by cases o.dst <;> rfl)
      · simp only [Oper.upon]
        refine hK _ w' m' hW' (put_rel hmono o.dst (hmk _ _ _ _ ?_)) hE (by cases o.dst <;> rfl)
        rw [hv]; simp [VRel]
    simp only [hst] at hp hK
    by_cases hcall : ∃ f args ts, o.op = .call { callee := .value f, args := args, argTypes := ts }
    · obtain ⟨f, args, ts, ho⟩ := hcall
      rw [ho] at hp hK
      simp only [stepR, callR] at hp hK
      split at hp
      · rename_i g first captured hf
        rw [hf] at hK
        simp only at hK
        split at hp
        · rename_i sp hsp
          rw [hsp] at hK
          simp only at hK
          obtain ⟨hn1, hn2, hpre⟩ := hp
          simp only [cond_true] at hK
          have hcon := hΓ g sp hsp
          have hfv := bare_rel (opd_rel h f) (hn1 rfl)
          rw [hf] at hfv
          simp only [VRel] at hfv
          obtain ⟨us, vs, hfe, hu1, hu2⟩ := hfv
          have hargs := needAll_rel h args.toList hn2
          have hall := (hu1.append hargs).append hu2
          rcases hcon.runs.symm with hext | ⟨⟨fn, hfn, hbody, hname⟩, hcl⟩
          · obtain ⟨v, hr, hv, hpo⟩ := hext m L w _ _ hW hall (hpre trivial)
            have hrun : (execOp a.eval o).run P w = .ok (.value v) w := by
              have e : args.map a.eval = (args.toList.map a.eval).toArray := by apply Array.ext'; simp
              rw [List.append_assoc] at hr
              simp [execOp, ho, resolve, hfe, Deferred.ofValue, invoke, e, hr]
            unfold Oper.wp
            rw [hrun]
            simp only [Oper.upon]
            rw [hpo] at hK
            exact hK _ w m hW (put_rel h o.dst (hmk _ _ _ _ hv)) Ext.refl (by cases o.dst <;> rfl)
          have hcalls := hcl m L w _ _ hW hall (hpre trivial)
          have hname' : fn.name ≠ "runtime.NumGoroutine" := by simpa using hname
          have hbody' : fn.body ≠ none := by intro h; simp [h] at hbody
          have hrun : (execOp a.eval o).run P w = .ok (.enter g (us ++ args.toList.map a.eval ++ vs).toArray) w := by
            have e : args.map a.eval = (args.toList.map a.eval).toArray := by apply Array.ext'; simp
            simp [execOp, ho, resolve, hfe, Deferred.ofValue, invoke, callFunc, hfn, hbody', hname', e]
          unfold Oper.wp
          rw [hrun]
          simp only [Oper.upon]
          refine hcalls.mono ?_
          rintro e w' ⟨v, m', rfl, h1, h2, h3⟩
          refine hK _ w' m' h2 (put_rel (CRel.mono h3.mono _ _ h) o.dst (hmk _ _ _ _ h1)) h3 (by cases o.dst <;> rfl)
        · exact hp.elim
      · exact hp.elim
    · have hst : stepR P Γ true fr L o.op = ev P true fr L o.op := by
        unfold stepR
        split
        · rename_i f args ts heq; exact absurd ⟨f, args, ts, heq⟩ hcall
        · rfl
      rw [hst] at hp hK
      obtain ⟨n, w', m', hrun, hres, hW', hE⟩ := ev_sound (P := P) hW h o hp
      have hmono := CRel.mono hE.mono _ _ h
      unfold Oper.wp
      rw [hrun]
      rcases hres with ⟨u, rfl, hv⟩ | ⟨rfl, hv⟩
      · simp only [Oper.upon]
        exact hK _ w' m' hW' (put_rel hmono o.dst (hmk _ _ _ _ hv)) hE (by cases o.dst <;> rfl)
      · simp only [Oper.upon]
        refine hK _ w' m' hW' (put_rel hmono o.dst (hmk _ _ _ _ ?_)) hE (by cases o.dst <;> rfl)
        rw [hv]; simp [VRel]

theorem evOps_sound (hΓ : EnvOk P Γ) {B : Base} (ops : Array Oper) {K : List AV → Heap → Prop} {Q : Exit → Act → World → Prop} (hK : ∀ fr L m a w, K fr L → RS B fr L m a w → Q .normal a w) :
    ∀ (l : List Oper) (fr : List AV) (L : Heap) (m : Mem) (a : Act) (w : World), evOps P Γ ops.toList l fr L K → RS B fr L m a w → wpList P ops Q l a w
  | [], fr, L, m, a, w, h, hR => hK fr L m a w h hR
  | o :: l, fr, L, m, a, w, h, hR => by
    obtain ⟨h1, h2, h3⟩ := h
    have := step_sound (P := P) (Γ := Γ) hΓ hR.wrel hR.frel ops o (next := wpList P ops Q l) (Q := Q) h1 h2 fun a' w' m' k1 k2 k3 k4 =>
      evOps_sound hΓ ops hK l _ _ m' a' w' h3 ⟨k1, k2, hR.ext.trans k3, by rw [k4, hR.defers]⟩
    unfold wpList
    split
    · rename_i hw; rw [if_pos hw] at this; exact .inl this
    · rename_i hw; rw [if_neg hw] at this; exact this

end

/-! ### Code -/

inductive It where
  | code (c : Code)
  | blk (id : Nat)
  | chk (I : List AV → Heap → Prop)

def W (P : Program) (B : Base) (Q : Exit → Act → World → Prop) : List It → Exit → Act → World → Prop
  | [], e => Q e
  | .code c :: k, .normal => c.wp P (W P B Q k)
  | .code _ :: k, e => W P B Q k e
  | .blk id :: k, .exit i => if i = id then W P B Q k .normal else W P B Q k (.exit i)
  | .blk _ :: k, e => W P B Q k e
  | .chk I :: _, .normal => fun a w => ∃ fr L m, I fr L ∧ RS B fr L m a w
  | .chk _ :: k, e => W P B Q k e

structure Cx where
  P : Program
  Γ : Env
  ok : EnvOk P Γ
  B : Base
  Q : Exit → Act → World → Prop
  fin : List AV → Heap → Prop
  hfin : ∀ fr L m a w, fin fr L → RS B fr L m a w → Q .normal a w ∧ Q .ret a w
  ng : ∀ l a w, ¬ Q (.goto l) a w

def Holds (X : Cx) (todo : List It) (fr : List AV) (L : Heap) : Prop := ∀ m a w, RS X.B fr L m a w → W X.P X.B X.Q todo .normal a w

def popTo (id : Nat) : List It → List It
  | [] => []
  | .blk i :: k => if id = i then k else popTo id k
  | _ :: k => popTo id k
def hasBlk (id : Nat) : List It → Bool
  | [] => false
  | .blk i :: k => id == i || hasBlk id k
  | _ :: k => hasBlk id k

/-- a fork -/
def exB (E : List It → Prop) (b : Bool) (t1 t2 : List It) : Prop := (b = true → E t1) ∧ (b = false → E t2)
theorem exB_true (E : List It → Prop) (t1 t2 : List It) : exB E true t1 t2 = E t1 := by simp [exB]
theorem exB_false (E : List It → Prop) (t1 t2 : List It) : exB E false t1 t2 = E t2 := by simp [exB]
theorem exB_split {E : List It → Prop} {b : Bool} {t1 t2 : List It} (h1 : b = true → E t1) (h2 : b = false → E t2) : exB E b t1 t2 := ⟨h1, h2⟩

/-- a fork on what is not known -/
def exU (E : List It → Prop) (p q : Prop) (t1 t2 : List It) : Prop := (p → E t1) ∧ (q → E t2)

def ex (X : Cx) : Nat → List It → List AV → Heap → Prop
  | 0, todo, fr, L => Holds X todo fr L
  | _ + 1, [], fr, L => X.fin fr L
  | n + 1, .code .skip :: k, fr, L => ex X n k fr L
  | n + 1, .code (.label _) :: k, fr, L => ex X n k fr L
  | n + 1, .code (.seq a b) :: k, fr, L => ex X n (.code a :: .code b :: k) fr L
  | n + 1, .code (.cond q x y) :: k, fr, L => match opd fr q with
    | .bool b => exB (fun t => ex X n t fr L) b (.code x :: k) (.code y :: k)
    | .ub p q => exU (fun t => ex X n t fr L) p q (.code x :: k) (.code y :: k)
    | _ => False
  | n + 1, .code (.block id b) :: k, fr, L => ex X n (.code b :: .blk id :: k) fr L
  | n + 1, .code (.exit id) :: k, fr, L => hasBlk id k = true ∧ ex X n (popTo id k) fr L
  | _ + 1, .code .ret :: _, fr, L => X.fin fr L
  | n + 1, .code (.region _ ops false) :: k, fr, L => evOps X.P X.Γ ops.toList ops.toList fr L (ex X n k)
  | n + 1, .code (.scope b) :: k, fr, L => ex X n (.code b :: k) fr L
  | _ + 1, .code c :: k, fr, L => Holds X (.code c :: k) fr L
  | n + 1, .blk _ :: k, fr, L => ex X n k fr L
  | _ + 1, .chk I :: _, fr, L => I fr L

theorem W_ret {P : Program} {B : Base} {Q : Exit → Act → World → Prop} : ∀ k : List It, W P B Q k .ret = Q .ret
  | [] => rfl
  | .code _ :: k => by simp only [W]; exact W_ret k
  | .blk _ :: k => by simp only [W]; exact W_ret k
  | .chk _ :: k => by simp only [W]; exact W_ret k

theorem W_goto {P : Program} {B : Base} {Q : Exit → Act → World → Prop} (l : Nat) : ∀ k : List It, W P B Q k (.goto l) = Q (.goto l)
  | [] => rfl
  | .code _ :: k => by simp only [W]; exact W_goto l k
  | .blk _ :: k => by simp only [W]; exact W_goto l k
  | .chk _ :: k => by simp only [W]; exact W_goto l k

theorem W_exit {P : Program} {B : Base} {Q : Exit → Act → World → Prop} (id : Nat) : ∀ k : List It, hasBlk id k = true → W P B Q k (.exit id) = W P B Q (popTo id k) .normal
  | [], h => by simp [hasBlk] at h
  | .code _ :: k, h => by simp only [W, popTo]; exact W_exit id k (by simpa [hasBlk] using h)
  | .chk _ :: k, h => by simp only [W, popTo]; exact W_exit id k (by simpa [hasBlk] using h)
  | .blk i :: k, h => by
    simp only [W, popTo]
    by_cases hi : id = i
    · simp [hi]
    · simp only [hi, if_false]
      exact W_exit id k (by simpa [hasBlk, hi] using h)

theorem holds_of_ex (X : Cx) : ∀ (n : Nat) (todo : List It) (fr : List AV) (L : Heap), ex X n todo fr L → Holds X todo fr L
  | 0, _, _, _, h => h
  | n + 1, [], fr, L, h => fun m a w hR => (X.hfin fr L m a w h hR).1
  | n + 1, .blk _ :: k, fr, L, h => fun m a w hR => by simp only [W]; exact holds_of_ex X n k fr L h m a w hR
  | n + 1, .chk I :: k, fr, L, h => fun m a w hR => by simp only [W]; exact ⟨fr, L, m, h, hR⟩
  | n + 1, .code c :: k, fr, L, h => by
    cases c with
    | skip => exact fun m a w hR => by simp only [W]; exact wp_skip (holds_of_ex X n k fr L h m a w hR)
    | label l => exact fun m a w hR => by simp only [W]; exact wp_label (holds_of_ex X n k fr L h m a w hR)
    | seq x y =>
      intro m a w hR
      have := holds_of_ex X n (.code x :: .code y :: k) fr L h m a w hR
      simp only [W] at this ⊢
      refine wp_seq (Go.wp_mono this fun e a' w' q => ?_)
      cases e <;> simp only [W, Exit.then] at * <;> exact q
    | cond q x y =>
      simp only [ex] at h
      split at h
      · rename_i b hb
        intro m a w hR
        have hq := opd_rel hR.frel q
        rw [hb] at hq
        simp only [VRel] at hq
        simp only [W]
        refine wp_cond_split hq (fun ht => ?_) (fun ht => ?_)
        · have := holds_of_ex X n _ fr L (h.1 ht) m a w hR; simpa only [W] using this
        · have := holds_of_ex X n _ fr L (h.2 ht) m a w hR; simpa only [W] using this
      · rename_i p q' hb
        intro m a w hR
        have hq := opd_rel hR.frel q
        rw [hb] at hq
        simp only [VRel] at hq
        obtain ⟨b, hq, hp1, hp2⟩ := hq
        simp only [W]
        refine wp_cond_split hq (fun ht => ?_) (fun ht => ?_)
        · have := holds_of_ex X n _ fr L (h.1 (hp1 ht)) m a w hR; simpa only [W] using this
        · have := holds_of_ex X n _ fr L (h.2 (hp2 ht)) m a w hR; simpa only [W] using this
      · exact h.elim
    | block id b =>
      intro m a w hR
      have := holds_of_ex X n (.code b :: .blk id :: k) fr L h m a w hR
      simp only [W] at this ⊢
      refine wp_block (Go.wp_mono this fun e a' w' q => ?_)
      cases e <;> simp only [W, Exit.inBlock] at * <;> first | exact q | (split <;> rename_i hid <;> simp only [hid, if_true, if_false] at q <;> exact q)
    | exit id =>
      intro m a w hR
      obtain ⟨h1, h2⟩ := h
      simp only [W]
      refine wp_exit ?_
      rw [W_exit id k h1]
      exact holds_of_ex X n _ fr L h2 m a w hR
    | ret =>
      intro m a w hR
      simp only [W]
      refine wp_ret ?_
      rw [W_ret]
      exact (X.hfin fr L m a w h hR).2
    | region id ops draw =>
      cases draw with
      | true => exact h
      | false =>
        intro m a w hR
        simp only [W]
        exact wp_region_list (evOps_sound X.ok ops (Q := W X.P X.B X.Q k) (fun fr L m a w hk hR => holds_of_ex X n k fr L hk m a w hR) ops.toList fr L m a w h hR)
    | loop b => exact h
    | rangeFunc f ps x y => exact h
    | scope b =>
      intro m a w hR
      have := holds_of_ex X n (.code b :: k) fr L h m a w hR
      simp only [W] at this ⊢
      refine wp_scope_straight (Go.wp_mono this fun e a' w' q => ?_)
      cases e <;> first | exact q | (simp only [W_goto] at q; exact absurd q (X.ng _ _ _))
    | goto l => exact h
    | refuse s => exact h

/-- a loop whose measure stands beside the state -/
theorem wp_loop_rel {P : Program} {c : Code} {Q : Exit → Act → World → Prop} (I : Nat → Act → World → Prop)
    (round : ∀ n a w, I n a w → c.wp P (Exit.then (fun a' w' => ∃ n', n' < n ∧ I n' a' w') Q) a w) (n₀ : Nat) (a : Act) (w : World) (h₀ : I n₀ a w) : (Code.loop c).wp P Q a w := by
  intro b k cs
  have key : ∀ n a w, I n a w → ∃ e a' w', Q e a' w' ∧ Arrives P (lone (b.at a (.code c :: .inLoop c :: k)) cs w) b k cs e a' w' := by
    intro n
    induction n using Nat.strongRecOn with
    | _ n ih =>
      intro a w hI
      obtain ⟨e, a₁, w₁, hq, harr⟩ := round n a w hI b (.inLoop c :: k) cs
      cases e with
      | normal =>
        obtain ⟨n', hlt, hI₁⟩ := hq
        obtain ⟨e₂, a₂, w₂, hq₂, harr₂⟩ := ih n' hlt a₁ w₁ hI₁
        exact ⟨e₂, a₂, w₂, hq₂, .of_steps (Steps.trans harr (.one step_inLoop)) harr₂⟩
      | exit id => exact ⟨_, a₁, w₁, hq, .pass (x := .inLoop c) rfl (fun _ _ => .inl (by simp)) harr⟩
      | goto l => exact ⟨_, a₁, w₁, hq, .pass (x := .inLoop c) rfl (fun _ _ => .inl (by simp)) harr⟩
      | ret => exact ⟨_, a₁, w₁, hq, .pass (x := .inLoop c) rfl (fun _ _ => .inl (by simp)) harr⟩
      | panic ch => exact ⟨_, a₁, w₁, hq, .pass (x := .inLoop c) rfl (fun _ _ => .inl (by simp)) harr⟩
      | outgrown => exact ⟨_, a₁, w₁, hq, .pass (x := .inLoop c) rfl (fun _ _ => .inl (by simp)) harr⟩
  obtain ⟨e, a', w', hq, harr⟩ := key n₀ a w h₀
  exact ⟨e, a', w', hq, .of_steps (.one step_loop) harr⟩

/-- (fr, L) is, weakened, the state S -/
abbrev Into (L0 : Heap) (fr : List AV) (L : Heap) (S : List AV × Heap) : Prop := IntoF L0 fr L S

theorem Holds.weak {X : Cx} {k : List It} {fr : List AV} {L : Heap} {S : List AV × Heap} (hi : Into X.B.L fr L S) (h : Holds X k S.1 S.2) : Holds X k fr L := by
  intro m a w hR
  obtain ⟨m', hR'⟩ := hR.intoF hi
  exact h m' a w hR'

theorem Holds.loop {X : Cx} {b : Code} {k : List It} {fr : List AV} {L : Heap} {ι : Type} (S : ι → List AV × Heap) (μ : ι → Nat) (i0 : ι) (h0 : Into X.B.L fr L (S i0))
    (h : ∀ i, Holds X (.code b :: .chk (fun fr' L' => ∃ j, μ j < μ i ∧ Into X.B.L fr' L' (S j)) :: k) (S i).1 (S i).2) : Holds X (.code (.loop b) :: k) fr L := by
  refine Holds.weak h0 ?_
  intro m a w hR
  simp only [W]
  refine wp_loop_rel (fun n a w => ∃ i m, μ i = n ∧ RS X.B (S i).1 (S i).2 m a w) ?_ (μ i0) a w ⟨i0, m, rfl, hR⟩
  rintro n a w ⟨i, m, rfl, hR⟩
  have := h i m a w hR
  simp only [W] at this
  refine Go.wp_mono this fun e a' w' q => ?_
  cases e <;> simp only [W, Exit.then] at * <;> try exact q
  obtain ⟨fr', L', m', ⟨j, hlt, hi⟩, hR'⟩ := q
  obtain ⟨m'', hR''⟩ := hR'.intoF hi
  exact ⟨μ j, hlt, j, m'', rfl, hR''⟩

/-- what stands behind a piece of code is shown once, from the states that I lets -/
theorem Holds.cut {X : Cx} {c : Code} {k : List It} {fr : List AV} {L : Heap} (I : List AV → Heap → Prop) (h1 : Holds X (.code c :: .chk I :: k) fr L) (h2 : ∀ fr' L', I fr' L' → Holds X k fr' L') : Holds X (.code c :: k) fr L := by
  intro m a w hR
  have := h1 m a w hR
  simp only [W] at this ⊢
  refine Go.wp_mono this fun e a' w' q => ?_
  cases e <;> simp only [W] at * <;> try exact q
  obtain ⟨fr', L', m', hI, hR'⟩ := q
  exact h2 fr' L' hI m' a' w' hR'

end Go.Eng
end
section
namespace Go.Eng
open Go Go.RowKit
set_option linter.unusedVariables false
set_option linter.unusedSimpArgs false

def resR (P : Program) (fr : List AV) (L : Heap) : ResultVar → Rz
  | .tmp t => ⟨(fr.getD t .any).cond = true, (fr.getD t .any).bare, L⟩
  | .cell a t => (loadR P true L t (fr.getD a .any).bare).also ((fr.getD a .any).cond = true)
def resAll (P : Program) (fr : List AV) (L : Heap) : List ResultVar → Prop × List AV
  | [] => (True, [])
  | r :: rs => ((resR P fr L r).pre ∧ (resAll P fr L rs).1, (resR P fr L r).v :: (resAll P fr L rs).2)
def resV : List AV → AV
  | [x] => x
  | xs => .tup xs

def inits (xs : List AV) (n : Nat) : List AV := xs ++ List.replicate (n - xs.length) .any

/-- the function is at its end: what it hands back, and the heap, are (weakened) these -/
def FinS (P : Program) (rs : List ResultVar) (L0 : Heap) (res : AV) (L' : Heap) (fr : List AV) (L : Heap) : Prop :=
  (resAll P fr L rs).1 ∧ IntoF L0 [resV (resAll P fr L rs).2] L ([res], L')

/-- the body, begun with these arguments and this heap, ends with this result and this heap -/
def BodyOk (P : Program) (Γ : Env) (fn : Func) (xs : List AV) (L : Heap) (res : AV) (L' : Heap) : Prop :=
  ∀ X : Cx, X.P = P → X.Γ = Γ → X.B.L = L → X.fin = FinS P fn.results.toList L res L' → ∃ c, fn.body = some c ∧ Holds X [.code c] (inits xs fn.ntmps) L

section
variable {P : Program} {Γ : Env}

theorem resAll_sound {m : Mem} {L : Heap} {w : World} (hW : WRel m L w) {fr : List AV} {tmps : Array Value} (h : CRel m L fr tmps.toList) : ∀ (rs : List ResultVar), (resAll P fr L rs).1 →
    ∃ vs : List Value, (rs.mapM (m := Sem) fun | .tmp t => pure (tmps.getD t undef) | .cell a t => do loadVar t (← asAddr (tmps.getD a undef))).run P w = .ok vs w ∧ CRel m L (resAll P fr L rs).2 vs
  | [], _ => ⟨[], by simp, by simp [resAll, CRel]⟩
  | r :: rs, hp => by
    obtain ⟨h1, h2⟩ := hp
    obtain ⟨vs, hr, hc⟩ := resAll_sound hW h rs h2
    have hD : ∀ t, VRel m L (fr.getD t .any) (tmps.getD t undef) := fun t => by
      have := h.getD t
      simpa [Array.getD_eq_getD_getElem?, List.getD_eq_getElem?_getD] using this
    cases r with
    | tmp t =>
      refine ⟨tmps.getD t undef :: vs, ?_, ?_⟩
      · simp only [List.mapM_cons, Sem.run_bind, Sem.run_pure, Result.andThen_ok, hr]
      · simp only [resAll, resR]; exact CRel.cons (bare_rel (hD t) h1) hc
    | cell a t =>
      obtain ⟨hcd, hl⟩ := h1
      have hb := bare_rel (hD a) hcd
      have hstep : ∃ v, (do loadVar t (← asAddr (tmps.getD a undef)) : Sem Value).run P w = .ok v w ∧ VRel m L (loadR P true L t (fr.getD a .any).bare).v v := by
        generalize hx : (fr.getD a .any).bare = X at *
        cases X <;> try exact hl.elim
        case ref id ver off =>
          obtain ⟨hf, hle, ho⟩ := hl rfl
          obtain ⟨cs, sz, hL, e1, e2⟩ := fresh_row hf
          have hu := ref_ptr hb hf
          obtain ⟨us, hc', hcell, _⟩ := row_cells hW hL
          rw [e1] at ho hle
          obtain ⟨q, hq, hv⟩ := loadVar_sound (P := P) (w := w) (t := t) (g := m.blk id) (o := off) (hc'.drop off) (fun j v hj => by rw [List.getElem?_drop] at hj; exact hcell _ _ hj) (by simpa using ho)
          refine ⟨q, by simp [hu, asAddr, hq], ?_⟩
          simp only [loadR, e1]; exact hv
        case ip cs =>
          simp only [VRel] at hb
          obtain ⟨us, g, o, hu, hc', hpin⟩ := hb
          obtain ⟨q, hq, hv⟩ := loadVar_sound (P := P) (w := w) (t := t) (g := g) (o := o) hc' (fun j v hj => hW.pins _ _ _ (hpin j v hj)) (hl rfl)
          exact ⟨q, by simp [hu, asAddr, hq], hv⟩
      obtain ⟨v, hv1, hv2⟩ := hstep
      refine ⟨v :: vs, ?_, ?_⟩
      · rw [List.mapM_cons, Sem.run_bind]
        erw [hv1]
        simp only [Result.andThen_ok, Sem.run_bind]
        erw [hr]
        rfl
      · simp only [resAll, resR, Rz.also]; exact CRel.cons hv2 hc

theorem results_sound {m : Mem} {L : Heap} {w : World} (hW : WRel m L w) {fr : List AV} {tmps : Array Value} (h : CRel m L fr tmps.toList) (fn : Func) (hp : (resAll P fr L fn.results.toList).1) :
    ∃ v, (results fn tmps).run P w = .ok v w ∧ VRel m L (resV (resAll P fr L fn.results.toList).2) v := by
  obtain ⟨vs, hr, hc⟩ := resAll_sound (P := P) hW h fn.results.toList hp
  have hm : (fn.results.mapM (m := Sem) fun | .tmp t => pure (tmps.getD t undef) | .cell a t => do loadVar t (← asAddr (tmps.getD a undef))).run P w = .ok vs.toArray w := by
    rw [Array.mapM_eq_mapM_toList, Sem.run_map]
    erw [hr]
    rfl
  have hl := hc.length
  unfold results
  simp only [Sem.run_bind]
  erw [hm]
  simp only [Result.andThen_ok, Sem.run_pure]
  refine ⟨_, rfl, ?_⟩
  match hx : (resAll P fr L fn.results.toList).2, vs, hc, hl with
  | [x], [v], hc, _ =>
    simp only [CRel] at hc
    obtain ⟨u, us', he, h1, _⟩ := hc
    cases he
    simpa [resV] using h1
  | [], [], hc, _ => simp only [resV, VRel]; exact ⟨[], by simp, hc⟩
  | x :: y :: r, v :: v' :: r', hc, _ => simp only [resV, VRel]; exact ⟨v :: v' :: r', by simp, hc⟩
  | [x], [], _, hl => simp at hl
  | [x], _ :: _ :: _, _, hl => simp at hl
  | [], _ :: _, _, hl => simp at hl
  | _ :: _ :: _, [], _, hl => simp at hl
  | _ :: _ :: _, [_], _, hl => simp at hl

/-- what a call leaves, from an abstract heap L to L' -/
def Post (m : Mem) (L : Heap) (w : World) (res : AV) (L' : Heap) (e : Ending) (w' : World) : Prop :=
  ∃ v m', e = .returned v ∧ VRel m' L' res v ∧ WRel m' L' w' ∧ Ext m L w m' L' w'

theorem calls_of_body (hΓ : EnvOk P Γ) {f : FuncId} {fn : Func} (hf : P.funcs[f]? = some fn) {xs : List AV} {L : Heap} {res : AV} {L' : Heap} (hb : BodyOk P Γ fn xs L res L')
    {m : Mem} {w : World} {vs : List Value} (hW : WRel m L w) (hx : CRel m L xs vs) : Calls P f vs.toArray w (Post m L w res L') := by
  obtain ⟨c, hc, hH⟩ := hb
    { P, Γ, ok := hΓ, B := ⟨m, L, w⟩, Q := bodyPost P fn (Post m L w res L'), fin := FinS P fn.results.toList L res L'
      hfin := by
        intro fr L₁ m₁ a₁ w₁ hfin hR
        obtain ⟨h1, hi⟩ := hfin
        obtain ⟨v, hv, hvr⟩ := results_sound (P := P) hR.wrel hR.frel fn h1
        have hpost : Post m L w res L' (.returned v) w₁ := by
          obtain ⟨m', k1, k2, k3⟩ := hi.sound hR.wrel (CRel.cons hvr (CRel.nil _ _)) hR.ext
          simp only [CRel] at k2
          obtain ⟨u, us', he, h2, _⟩ := k2
          cases he
          exact ⟨v, m', rfl, h2, k1, k3⟩
        exact ⟨⟨hR.defers, v, hv, hpost⟩, ⟨hR.defers, v, hv, hpost⟩⟩
      ng := fun _ _ _ h => h }
    rfl rfl rfl rfl
  refine calls_of_wp hf hc ?_
  have hR : RS ⟨m, L, w⟩ (inits xs fn.ntmps) L m { tmps := vs.toArray ++ Array.replicate (fn.ntmps - vs.toArray.size) undef, defers := [] } w := by
    refine ⟨hW, ?_, Ext.refl, rfl⟩
    have hl := hx.length
    have e : (vs.toArray ++ Array.replicate (fn.ntmps - vs.toArray.size) undef).toList = vs ++ List.replicate (fn.ntmps - xs.length) undef := by simp [hl]
    simp only [inits, e]
    refine hx.append (CRel.mk (by simp) fun i c u hc _ => ?_)
    have : c = .any := by
      have := List.mem_of_getElem? hc
      exact (List.mem_replicate.1 this).2
    subst this
    simp [VRel]
  have := hH m _ w hR
  simp only [W] at this
  exact Go.wp_mono this fun e a w q => by simpa [W] using q

/-! ### from the empty heap to every heap -/

mutual
/-- no value of these rests on pinned memory -/
def pinfree : AV → Bool
  | .agg xs => pinfreeL xs
  | .tup xs => pinfreeL xs
  | .ifc _ x => pinfree x
  | .fn _ a b => pinfreeL a && pinfreeL b
  | .sl .. => false
  | .ip _ => false
  | .when .. => false
  | .alt .. => false
  | .mpr .. => false
  | _ => true
def pinfreeL : List AV → Bool
  | [] => true
  | x :: xs => pinfree x && pinfreeL xs
end
def pinfreeT (x : AV) : Bool := pinfree x
def pinfreeO : AObj → Bool
  | .row cs _ _ => pinfreeL cs
  | _ => true

/-- the cells of a slice of an own row -/
def cellsOfRow (L : Heap) (id off n : Nat) : List AV := ((rowOf L id).drop (off * szOf L id)).take (n * szOf L id)
/-- own rows, but those that are kept, are read as values: one layer -/
def derefC (L : Heap) (keep : Nat → Bool) (sub : AV → AV) : AV → AV
  | .msl id ver off n => cond (keep id) (.msl id ver off n) (.sl ((((rowOf L id).drop (off * szOf L id)).take (n * szOf L id)).map sub) n)
  | .csl id ver off n => cond (keep id) (.csl id ver off n) (.sl ((((rowOf L id).drop (off * szOf L id)).take (n * szOf L id)).map sub) n)
  | .ref id ver off => cond (keep id || !isRow L id) (.ref id ver off) (.ip (((rowOf L id).drop off).map sub))
  | .mp id => cond (keep id) (.mp id) (match L[id]? with | some (.raw (.map kd f)) => .mpr kd f | _ => .mp id)
  | .agg cs => .agg (cs.map sub)
  | .ifc t x => .ifc t (sub x)
  | .fn f a b => .fn f (a.map sub) (b.map sub)
  | x => x
/-- what is read so is there -/
def lentC (L : Heap) (keep : Nat → Bool) (sub : AV → Prop) : AV → Prop
  | .msl id ver off n => cond (keep id) True (fresh L id ver ∧ ∀ x ∈ ((rowOf L id).drop (off * szOf L id)).take (n * szOf L id), sub x)
  | .csl id ver off n => cond (keep id) True (fresh L id ver ∧ ∀ x ∈ ((rowOf L id).drop (off * szOf L id)).take (n * szOf L id), sub x)
  | .ref id ver off => cond (keep id || !isRow L id) True (fresh L id ver ∧ ∀ x ∈ (rowOf L id).drop off, sub x)
  | .agg cs => ∀ x ∈ cs, sub x
  | .ifc _ x => sub x
  | .fn _ a b => (∀ x ∈ a, sub x) ∧ ∀ x ∈ b, sub x
  | _ => True
/-- is anything read so? -/
def borC (L : Heap) (keep : Nat → Bool) (sub : AV → Bool) : AV → Bool
  | .msl id _ _ _ => !keep id
  | .csl id _ _ _ => !keep id
  | .ref id _ _ => !(keep id || !isRow L id)
  | .mp id => !keep id
  | .agg cs => cs.any sub
  | .ifc _ x => sub x
  | .fn _ a b => a.any sub || b.any sub
  | _ => false
def deref0 (x : AV) : AV := x
def lent0 (_ : AV) : Prop := True
def bor0 (_ : AV) : Bool := false
def d1 (L : Heap) (keep : Nat → Bool) : AV → AV := derefC L keep deref0
def d2 (L : Heap) (keep : Nat → Bool) : AV → AV := derefC L keep (d1 L keep)
def d3 (L : Heap) (keep : Nat → Bool) : AV → AV := derefC L keep (d2 L keep)
def l1 (L : Heap) (keep : Nat → Bool) : AV → Prop := lentC L keep lent0
def l2 (L : Heap) (keep : Nat → Bool) : AV → Prop := lentC L keep (l1 L keep)
def l3 (L : Heap) (keep : Nat → Bool) : AV → Prop := lentC L keep (l2 L keep)
def b1 (L : Heap) (keep : Nat → Bool) : AV → Bool := borC L keep bor0
def b2 (L : Heap) (keep : Nat → Bool) : AV → Bool := borC L keep (b1 L keep)
def b3 (L : Heap) (keep : Nat → Bool) : AV → Bool := borC L keep (b2 L keep)
/-- none is kept -/
def keep0 (_ : Nat) : Bool := false
def derefA (L : Heap) : AV → AV := derefC L keep0 (d3 L keep0)
def lent (L : Heap) : AV → Prop := lentC L keep0 (l3 L keep0)
def isMsl (L : Heap) : AV → Bool := borC L keep0 (b3 L keep0)

def lift0 (lpre : List AV → Prop) (lres : List AV → AV) (lnew : List AV → Heap) (q : Bool) : FSpec where
  pre xs L := (∀ x ∈ xs, lent L x) ∧ scpL 0 (xs.map (derefA L)) = true ∧ lpre (xs.map (derefA L)) ∧
    (xs.any (isMsl L) = true → pinfreeT (lres (xs.map (derefA L))) = true ∧ (lnew (xs.map (derefA L))).all pinfreeO = true)
  res xs L := ren (· + L.length) (lres (xs.map (derefA L)))
  post xs L := L ++ (lnew (xs.map (derefA L))).map (renO (· + L.length))
  quiet := q

mutual
theorem pinfree_rel {m m' : Mem} {L : Heap} (h1 : m'.blk = m.blk) (h2 : m'.cap = m.cap) : ∀ (x : AV) (u : Value), pinfree x = true → VRel m L x u → VRel m' L x u
  | .agg xs, u, hp, h => by
    simp only [VRel] at *; obtain ⟨us, rfl, hc⟩ := h; exact ⟨us, rfl, pinfreeL_rel h1 h2 xs us hp hc⟩
  | .tup xs, u, hp, h => by
    simp only [VRel] at *; obtain ⟨us, rfl, hc⟩ := h; exact ⟨us, rfl, pinfreeL_rel h1 h2 xs us hp hc⟩
  | .ifc t x, u, hp, h => by
    simp only [VRel] at *; obtain ⟨v, rfl, h⟩ := h; exact ⟨v, rfl, pinfree_rel h1 h2 x v hp h⟩
  | .fn f a b, u, hp, h => by
    simp only [VRel, pinfree, Bool.and_eq_true] at *
    obtain ⟨us, vs, rfl, k1, k2⟩ := h
    exact ⟨us, vs, rfl, pinfreeL_rel h1 h2 a us hp.1 k1, pinfreeL_rel h1 h2 b vs hp.2 k2⟩
  | .sl .., _, hp, _ => by simp [pinfree] at hp
  | .ip _, _, hp, _ => by simp [pinfree] at hp
  | .when .., _, hp, _ => by simp [pinfree] at hp
  | .alt .., _, hp, _ => by simp [pinfree] at hp
  | .mpr .., _, hp, _ => by simp [pinfree] at hp
  | .any, _, _, _ => by simp [VRel]
  | .int .., _, _, h => by simpa only [VRel] using h
  | .bool _, _, _, h => by simpa only [VRel] using h
  | .str _, _, _, h => by simpa only [VRel] using h
  | .lit _, _, _, h => by simpa only [VRel] using h
  | .ub .., _, _, h => by simpa only [VRel] using h
  | .msl .., _, _, h => by simpa only [VRel, h1, h2] using h
  | .csl .., _, _, h => by simpa only [VRel, h1, h2] using h
  | .ref .., _, _, h => by simpa only [VRel, h1, h2] using h
  | .mp _, _, _, h => by simpa only [VRel, h1, h2] using h
theorem pinfreeL_rel {m m' : Mem} {L : Heap} (h1 : m'.blk = m.blk) (h2 : m'.cap = m.cap) : ∀ (xs : List AV) (us : List Value), pinfreeL xs = true → CRel m L xs us → CRel m' L xs us
  | [], us, _, h => h
  | x :: xs, us, hp, h => by
    simp only [pinfreeL, Bool.and_eq_true] at hp
    simp only [CRel] at *
    obtain ⟨u, us', rfl, h3, h4⟩ := h
    exact ⟨u, us', rfl, pinfree_rel h1 h2 x u hp.1 h3, pinfreeL_rel h1 h2 xs us' hp.2 h4⟩
end
theorem pinfreeT_rel {m m' : Mem} {L : Heap} (h1 : m'.blk = m.blk) (h2 : m'.cap = m.cap) {x : AV} {u : Value} (hp : pinfreeT x = true) (h : VRel m L x u) : VRel m' L x u := pinfree_rel h1 h2 x u hp h

/-- what a layer's reading owes -/
def SubOk (m mb : Mem) (L : Heap) (full : Prop) (sub : AV → AV) (sl : AV → Prop) (sb : AV → Bool) : Prop :=
  ∀ x u, VRel m L x u → sl x → (sb x = true → full) → VRel mb L (sub x) u
theorem SubOk.list {m mb : Mem} {L : Heap} {full : Prop} {sub : AV → AV} {sl : AV → Prop} {sb : AV → Bool} (H : SubOk m mb L full sub sl sb) : ∀ {xs : List AV} {us : List Value}, CRel m L xs us → (∀ x ∈ xs, sl x) → (xs.any sb = true → full) → CRel mb L (xs.map sub) us
  | [], us, h, _, _ => by simpa [CRel] using h
  | x :: xs, us, h, hl, hf => by
    simp only [CRel, List.map_cons, List.any_cons, Bool.or_eq_true] at *
    obtain ⟨u, us', rfl, h1, h2⟩ := h
    exact ⟨u, us', rfl, H x u h1 (hl x (by simp)) (fun h => hf (.inl h)), H.list h2 (fun y hy => hl y (by simp [hy])) (fun h => hf (.inr h))⟩
theorem sub0 {m mb : Mem} {L : Heap} {full : Prop} (M : Mono m L mb L) : SubOk m mb L full deref0 lent0 bor0 := fun x u h _ _ => VRel.mono M x u h

theorem subC {m mb : Mem} {L : Heap} {w : World} (hW : WRel m L w) (M : Mono m L mb L) {keep : Nat → Bool} {full : Prop} {sub : AV → AV} {sl : AV → Prop} {sb : AV → Bool}
    (hobj : full → ∀ g, (∀ i, keep i = true → Own m L i → m.blk i ≠ g) → (∀ i, keep i = true → ¬ Hid m L i g) → mb.pobj g = w.heap[g]?)
    (H : SubOk m mb L full sub sl sb) : SubOk m mb L full (derefC L keep sub) (lentC L keep sl) (borC L keep sb) := by
  have row : ∀ {id ver}, fresh L id ver → keep id = false → full → ∃ us, CRel m L (rowOf L id) us ∧ ∀ j v, us[j]? = some v → mb.pin (m.blk id) j = some v := by
    intro id ver hf hk hfull
    obtain ⟨cs, sz, hL, hr, hsz⟩ := fresh_row hf
    obtain ⟨us, hc, hcl, _⟩ := row_cells hW hL
    refine ⟨us, by rw [hr]; exact hc, fun j v hj => ?_⟩
    have hcap : m.cap id ≠ 0 := by
      intro h0
      have := hW.nils _ _ _ _ hL h0
      subst this
      simp only [CRel] at hc
      subst hc
      simp at hj
    refine Mem.pin_heap (hobj hfull _ (fun i hi ho he => ?_) (fun i hi hk' => hW.hid.own i _ hk' id (.inl ⟨_, _, _, hL, hcap⟩) rfl)) (hcl _ _ hj)
    have := hW.inj i id ho (.inl ⟨_, _, _, hL, hcap⟩) he
    subst this
    rw [hk] at hi; cases hi
  have slice : ∀ {id ver off n : Nat} {a : Option Addr} {c : Nat}, fresh L id ver → keep id = false → full → n ≤ c → (∀ x ∈ ((rowOf L id).drop (off * szOf L id)).take (n * szOf L id), sl x) → (n = 0 ∨ a = some ⟨m.blk id, off * szOf L id, none⟩) →
      VRel mb L (.sl ((((rowOf L id).drop (off * szOf L id)).take (n * szOf L id)).map sub) n) (.slice a n c) := by
    intro id ver off n a c hf hk hfull hle hl ha
    obtain ⟨us, hc, hp⟩ := row hf hk hfull
    simp only [VRel]
    refine ⟨a, c, rfl, hle, (us.drop (off * szOf L id)).take (n * szOf L id), H.list ((hc.drop _).take _) hl (fun _ => hfull), ?_⟩
    rcases ha with ha | ha
    · left; simp [ha]
    · refine .inr ⟨m.blk id, off * szOf L id, ha, fun i v hi => hp _ _ ?_⟩
      rw [List.getElem?_take, List.getElem?_drop] at hi
      split at hi
      · exact hi
      · cases hi
  intro x u h hl hb
  cases x <;> simp only [derefC, lentC, borC] at hl hb ⊢ <;> try exact VRel.mono M _ u h
  case agg cs =>
    simp only [VRel] at *
    obtain ⟨us, rfl, hc⟩ := h
    exact ⟨us, rfl, H.list hc hl hb⟩
  case ifc t x =>
    simp only [VRel] at *
    obtain ⟨v, rfl, h⟩ := h
    exact ⟨v, rfl, H x v h hl hb⟩
  case fn f a b =>
    simp only [VRel, Bool.or_eq_true] at *
    obtain ⟨us, vs, rfl, h1, h2⟩ := h
    exact ⟨us, vs, rfl, H.list h1 hl.1 (fun h => hb (.inl h)), H.list h2 hl.2 (fun h => hb (.inr h))⟩
  case msl id ver off n =>
    cases hk : keep id
    · simp only [hk, cond_false, Bool.not_false, forall_const] at hl hb ⊢
      obtain ⟨k1, k2, a, rfl, ha⟩ := msl_slice h hl.1
      exact slice hl.1 hk hb (by omega) hl.2 (by rcases ha with ha | ha; · left; omega
                                                 · exact .inr ha)
    · simp only [hk, cond_true]; exact VRel.mono M _ u h
  case csl id ver off n =>
    cases hk : keep id
    · simp only [hk, cond_false, Bool.not_false, forall_const] at hl hb ⊢
      obtain ⟨k1, k2, a, rfl, ha⟩ := csl_slice h hl.1
      exact slice hl.1 hk hb (Nat.le_refl _) hl.2 ha
    · simp only [hk, cond_true]; exact VRel.mono M _ u h
  case ref id ver off =>
    cases hk : keep id || !isRow L id
    · simp only [hk, cond_false, Bool.not_false, forall_const] at hl hb ⊢
      have hk' : keep id = false := by simp at hk; exact hk.1
      have hu := ref_ptr h hl.1
      obtain ⟨us, hc, hp⟩ := row hl.1 hk' hb
      simp only [VRel]
      exact ⟨us.drop off, m.blk id, off, hu, H.list (hc.drop off) hl.2 (fun _ => hb), fun i v hi => hp _ _ (by rw [List.getElem?_drop] at hi; exact hi)⟩
    · simp only [hk, cond_true]; exact VRel.mono M _ u h
  case mp id =>
    cases hk : keep id
    · simp only [hk, cond_false, Bool.not_false, forall_const] at hb ⊢
      split
      · rename_i kd f hL
        simp only [VRel] at h ⊢
        obtain ⟨r, hL', hu⟩ := h
        obtain ⟨o, hbb, hr⟩ := hW.iters _ _ hL
        simp only [RawRel] at hr
        obtain ⟨es, clock, rfl, hM⟩ := hr
        refine ⟨m.blk id, es, clock, hu, ?_, hM⟩
        rw [hobj hb, hbb]
        · intro i hi ho he
          have := hW.inj i id ho (.inr ⟨_, hL⟩) he
          subst this
          rw [hk] at hi; cases hi
        · exact fun i hi hk' => hW.hid.own i _ hk' id (.inr ⟨_, hL⟩) rfl
      · exact VRel.mono M _ u h
    · simp only [hk, cond_true]; exact VRel.mono M _ u h
theorem subA {m mb : Mem} {L : Heap} {w : World} (hW : WRel m L w) (M : Mono m L mb L) {keep : Nat → Bool} {full : Prop}
    (hobj : full → ∀ g, (∀ i, keep i = true → Own m L i → m.blk i ≠ g) → (∀ i, keep i = true → ¬ Hid m L i g) → mb.pobj g = w.heap[g]?) :
    SubOk m mb L full (derefC L keep (d3 L keep)) (lentC L keep (l3 L keep)) (borC L keep (b3 L keep)) :=
  subC hW M hobj (subC hW M hobj (subC hW M hobj (subC hW M hobj (sub0 M))))

/-- m', L' is laid into m2, L2 by ρ -/
structure Laid (m' : Mem) (L' : Heap) (ρ : Nat → Nat) (m2 : Mem) (L2 : Heap) : Prop where
  pobj : ∀ g o, m'.pobj g = some o → m2.pobj g = some o
  obj : ∀ id o, L'[id]? = some o → L2[ρ id]? = some (renO ρ o) ∧ m2.blk (ρ id) = m'.blk id ∧ m2.cap (ρ id) = m'.cap id

theorem Laid.pin {m : Mem} {L : Heap} {ρ : Nat → Nat} {m' : Mem} {L' : Heap} (H : Laid m L ρ m' L') (g o : Nat) (v : Value) (h : m.pin g o = some v) : m'.pin g o = some v := by
  obtain ⟨c, e, f, h1, h2⟩ := Mem.pin_some h
  exact Mem.pin_of (H.pobj _ _ h1) h2
mutual
theorem VRel.laid {m : Mem} {L : Heap} {ρ : Nat → Nat} {m' : Mem} {L' : Heap} (H : Laid m L ρ m' L') : ∀ (x : AV) (u : Value), VRel m L x u → VRel m' L' (ren ρ x) u
  | .any, _, _ => by simp [VRel, ren]
  | .int .., _, h => by simpa [VRel, ren] using h
  | .bool _, _, h => by simpa [VRel, ren] using h
  | .str _, _, h => by simpa [VRel, ren] using h
  | .lit _, _, h => by simpa [VRel, ren] using h
  | .agg cs, u, h => by
    simp only [VRel, ren] at *
    obtain ⟨us, rfl, hc⟩ := h
    exact ⟨us, rfl, CRel.laid H cs us hc⟩
  | .tup cs, u, h => by
    simp only [VRel, ren] at *
    obtain ⟨us, rfl, hc⟩ := h
    exact ⟨us, rfl, CRel.laid H cs us hc⟩
  | .sl cs len, u, h => by
    simp only [VRel, ren] at *
    obtain ⟨a, cap, rfl, hl, us, hc, hp⟩ := h
    refine ⟨a, cap, rfl, hl, us, CRel.laid H cs us hc, ?_⟩
    rcases hp with hp | ⟨g, o, ha, hp⟩
    · exact .inl hp
    · exact .inr ⟨g, o, ha, fun i v hv => H.pin _ _ _ (hp i v hv)⟩
  | .msl id ver off len, u, h => by
    simp only [VRel, ren] at *
    obtain ⟨cs, sz, v, hL, hv, hsh, h⟩ := h
    obtain ⟨h1, h2, h3⟩ := H.obj id _ hL
    refine ⟨renL ρ cs, sz, v, h1, hv, hsh, fun e => ?_⟩
    rw [h2, h3, renL_eq, List.length_map]
    exact h e
  | .ref id ver off, u, h => by
    simp only [VRel, ren] at *
    rcases h with ⟨cs, sz, v, hL, hv, hsh, h⟩ | ⟨r, hL, h⟩
    · obtain ⟨h1, h2, h3⟩ := H.obj id _ hL
      exact .inl ⟨renL ρ cs, sz, v, h1, hv, hsh, fun e => by rw [h2]; exact h e⟩
    · obtain ⟨h1, h2, h3⟩ := H.obj id _ hL
      exact .inr ⟨r, h1, by rw [h2]; exact h⟩
  | .ip cs, u, h => by
    simp only [VRel, ren] at *
    obtain ⟨us, g, o, rfl, hc, hp⟩ := h
    exact ⟨us, g, o, rfl, CRel.laid H cs us hc, fun i v hv => H.pin _ _ _ (hp i v hv)⟩
  | .fn f first captured, u, h => by
    simp only [VRel, ren] at *
    obtain ⟨us, vs, rfl, h1, h2⟩ := h
    exact ⟨us, vs, rfl, CRel.laid H first us h1, CRel.laid H captured vs h2⟩
  | .ifc t x, u, h => by
    simp only [VRel, ren] at *
    obtain ⟨v, rfl, h⟩ := h
    exact ⟨v, rfl, VRel.laid H x v h⟩
  | .when c x, u, h => by
    simp only [VRel, ren] at *
    exact ⟨fun hc => VRel.laid H x u (h.1 hc), h.2⟩
  | .alt c x y, u, h => by
    simp only [VRel, ren] at *
    exact ⟨fun hc => VRel.laid H x u (h.1 hc), fun hc => VRel.laid H y u (h.2 hc)⟩
  | .ub .., _, h => by simpa only [VRel, ren] using h
  | .csl id ver off len, u, h => by
    simp only [VRel, ren] at *
    obtain ⟨cs, sz, v, hL, hv, hsh, h⟩ := h
    obtain ⟨h1, h2, h3⟩ := H.obj id _ hL
    refine ⟨renL ρ cs, sz, v, h1, hv, hsh, fun e => ?_⟩
    rw [h2, h3, renL_eq, List.length_map]
    exact h e
  | .mp id, u, h => by
    simp only [VRel, ren] at *
    obtain ⟨r, hL, h⟩ := h
    obtain ⟨h1, h2, h3⟩ := H.obj id _ hL
    exact ⟨r, h1, by rw [h2]; exact h⟩
  | .mpr kd f, u, h => by
    simp only [VRel, ren] at *
    obtain ⟨g, es, clock, hu, hp, hM⟩ := h
    exact ⟨g, es, clock, hu, H.pobj _ _ hp, hM⟩
theorem CRel.laid {m : Mem} {L : Heap} {ρ : Nat → Nat} {m' : Mem} {L' : Heap} (H : Laid m L ρ m' L') : ∀ (cs : List AV) (us : List Value), CRel m L cs us → CRel m' L' (renL ρ cs) us
  | [], _, h => by simpa [CRel, renL] using h
  | c :: cs, us, h => by
    simp only [CRel, renL] at *
    obtain ⟨u, us', rfl, h1, h2⟩ := h
    exact ⟨u, us', rfl, VRel.laid H c u h1, CRel.laid H cs us' h2⟩
end

theorem own_nil {m : Mem} {id : Nat} : ¬ Own m [] id := by
  rintro (⟨_, _, _, h, _⟩ | ⟨_, h⟩) <;> simp at h

theorem hid_nil {m : Mem} {id g : Nat} : ¬ Hid m [] id g := by
  rintro ⟨_, _, _, h, _⟩; simp at h

set_option maxHeartbeats 1000000 in
/-- behind a call that began at the empty heap: the caller's heap with the new objects behind it -/
theorem post_lift {m mb : Mem} {L : Heap} {w : World} (hW : WRel m L w) (borrowed : Bool) (hb : borrowed = false → mb = m) {res : AV} {N : Heap} {e : Ending} {w' : World} (h : Post mb [] w res N e w')
    (hfree : borrowed = true → pinfreeT res = true ∧ N.all pinfreeO = true) : Post m L w (ren (· + L.length) res) (L ++ N.map (renO (· + L.length))) e w' := by
  obtain ⟨v, m', rfl, hv, hW', hE⟩ := h
  have hold : ∀ g, g < w.heap.size → w'.heap[g]? = w.heap[g]? := fun g hg => hE.frame g hg (fun id ho => absurd ho own_nil) (fun id => hid_nil)
  obtain ⟨m2, hm2⟩ : ∃ m2 : Mem, m2 = { pobj := fun g => if g < w.heap.size then m.pobj g else m'.pobj g, blk := fun i => if i < L.length then m.blk i else m'.blk (i - L.length), cap := fun i => if i < L.length then m.cap i else m'.cap (i - L.length) } := ⟨_, rfl⟩
  have hpin2 : ∀ g, m2.pobj g = if g < w.heap.size then m.pobj g else m'.pobj g := fun g => by rw [hm2]
  have hblk1 : ∀ i, i < L.length → m2.blk i = m.blk i := fun i hi => by rw [hm2]; simp [hi]
  have hcap1 : ∀ i, i < L.length → m2.cap i = m.cap i := fun i hi => by rw [hm2]; simp [hi]
  have hblk2 : ∀ i, m2.blk (i + L.length) = m'.blk i := fun i => by rw [hm2]; simp [show ¬ i + L.length < L.length by omega]
  have hcap2 : ∀ i, m2.cap (i + L.length) = m'.cap i := fun i => by rw [hm2]; simp [show ¬ i + L.length < L.length by omega]
  -- the new objects, over m' with the caller's pins
  obtain ⟨m3, hm3⟩ : ∃ m3 : Mem, m3 = { m' with pobj := m2.pobj } := ⟨_, rfl⟩
  have heq : borrowed = false → m3 = m' := by
    intro hbf
    have hmb := hb hbf
    rw [hm3]
    have : m2.pobj = m'.pobj := by
      funext g
      rw [hpin2]
      split
      · rename_i hg; have := hE.newobj g hg; rw [this, hmb]
      · rfl
    rw [this]
  have hb3 : m3.blk = m'.blk := by rw [hm3]
  have hc3 : m3.cap = m'.cap := by rw [hm3]
  have hp3 : m3.pobj = m2.pobj := by rw [hm3]
  have hv3 : VRel m3 N res v := by
    cases hbr : borrowed with
    | false => rw [heq hbr]; exact hv
    | true => exact pinfreeT_rel hb3 hc3 (hfree hbr).1 hv
  have hrow3 : ∀ (id : Nat) (cs : List AV) (sz ver : Nat) (us : List Value), N[id]? = some (AObj.row cs sz ver) → CRel m' N cs us → CRel m3 N cs us := by
    intro id cs sz ver us hN hcr
    cases hbr : borrowed with
    | false => rw [heq hbr]; exact hcr
    | true =>
      have := (hfree hbr).2
      rw [List.all_eq_true] at this
      exact pinfreeL_rel hb3 hc3 _ _ (this _ (List.mem_of_getElem? hN)) hcr
  have HL : Laid m3 N (· + L.length) m2 (L ++ N.map (renO (· + L.length))) := by
    refine ⟨fun g o h => by rw [← hp3]; exact h, fun id o ho => ⟨?_, ?_, ?_⟩⟩
    · rw [List.getElem?_append_right (by omega)]; simp [ho]
    · rw [hblk2, hb3]
    · rw [hcap2, hc3]
  have HM : Mono m L m2 (L ++ N.map (renO (· + L.length))) := by
    refine ⟨fun g o h => by rw [hpin2, if_pos (hW.pobj_lt h)]; exact h, fun id cs sz ver hL => ?_, fun id r hL => ?_⟩
    · have hlt := (List.getElem?_eq_some_iff.1 hL).1
      exact ⟨cs, ver, by rw [List.getElem?_append_left hlt]; exact hL, Nat.le_refl _, fun _ => ⟨rfl, hblk1 id hlt, hcap1 id hlt⟩⟩
    · have hlt := (List.getElem?_eq_some_iff.1 hL).1
      exact ⟨r, by rw [List.getElem?_append_left hlt]; exact hL, hblk1 id hlt⟩
  -- an object of the new heap is an old one, or a new one
  have hcase : ∀ {id : Nat} {o : AObj}, (L ++ N.map (renO (· + L.length)))[id]? = some o → (id < L.length ∧ L[id]? = some o) ∨ (∃ j o', id = j + L.length ∧ N[j]? = some o' ∧ o = renO (· + L.length) o') := by
    intro id o ho
    by_cases hlt : id < L.length
    · rw [List.getElem?_append_left hlt] at ho; exact .inl ⟨hlt, ho⟩
    · rw [List.getElem?_append_right (by omega)] at ho
      simp only [List.getElem?_map, Option.map_eq_some_iff] at ho
      obtain ⟨o', h1, h2⟩ := ho
      exact .inr ⟨id - L.length, o', by omega, h1, h2.symm⟩
  have hown : ∀ {id : Nat}, Own m2 (L ++ N.map (renO (· + L.length))) id → (Own m L id ∧ m2.blk id = m.blk id ∧ m.blk id < w.heap.size) ∨ (∃ j, id = j + L.length ∧ Own m' N j ∧ m2.blk id = m'.blk j ∧ w.heap.size ≤ m'.blk j) := by
    intro id ho
    have hnew : ∀ j, Own m' N j → w.heap.size ≤ m'.blk j := fun j hj => by
      rcases hE.blks j hj with ⟨h1, _⟩ | h1
      · exact absurd h1 own_nil
      · exact h1
    rcases ho with ⟨cs, sz, ver, hL, hc⟩ | ⟨r, hL⟩
    · rcases hcase hL with ⟨hlt, h1⟩ | ⟨j, o', rfl, h1, h2⟩
      · have ho : Own m L id := .inl ⟨_, _, _, h1, by rw [← hcap1 id hlt]; exact hc⟩
        exact .inl ⟨ho, hblk1 id hlt, hW.blk_lt ho⟩
      · cases o' <;> simp only [renO, reduceCtorEq, AObj.row.injEq] at h2
        have ho : Own m' N j := .inl ⟨_, _, _, h1, by rw [← hcap2 j]; exact hc⟩
        exact .inr ⟨j, rfl, ho, hblk2 j, hnew j ho⟩
    · rcases hcase hL with ⟨hlt, h1⟩ | ⟨j, o', rfl, h1, h2⟩
      · have ho : Own m L id := .inr ⟨_, h1⟩
        exact .inl ⟨ho, hblk1 id hlt, hW.blk_lt ho⟩
      · cases o' <;> simp only [renO, reduceCtorEq, AObj.raw.injEq] at h2
        have ho : Own m' N j := .inr ⟨_, h1⟩
        exact .inr ⟨j, rfl, ho, hblk2 j, hnew j ho⟩
  have hhid : ∀ {id g : Nat}, Hid m2 (L ++ N.map (renO (· + L.length))) id g → Hid m L id g ∨ (∃ j, id = j + L.length ∧ Hid m' N j g ∧ w.heap.size ≤ g) := by
    rintro id g ⟨T, e, l, hL, hc⟩
    rcases hcase hL with ⟨hlt, h1⟩ | ⟨j, o', rfl, h1, h2⟩
    · exact .inl ⟨T, e, l, h1, by rw [← hcap1 id hlt]; exact hc⟩
    · cases o' <;> simp only [renO, reduceCtorEq, AObj.raw.injEq] at h2
      subst h2
      have hh : Hid m' N j g := ⟨T, e, l, h1, by rw [← hcap2 j]; exact hc⟩
      rcases hE.hnew j g hh with k | k
      · exact absurd k hid_nil
      · exact .inr ⟨j, rfl, hh, k⟩
  have hHid : HidOk m2 (L ++ N.map (renO (· + L.length))) w' := by
    refine ⟨fun id T e l hL => ?_, fun id g k => ?_, fun id g k j hj => ?_, fun i j g k1 k2 => ?_⟩
    · rcases hcase hL with ⟨hlt, h1⟩ | ⟨j, o', rfl, h1, h2⟩
      · rw [hblk1 id hlt, hcap1 id hlt]
        exact (hW.hid.at_ _ _ _ _ h1).same (hold _ (hW.blk_lt (.inr ⟨_, h1⟩))) fun g hc => hold _ (hW.hid.lt ⟨_, _, _, h1, hc⟩)
      · cases o' <;> simp only [renO, reduceCtorEq, AObj.raw.injEq] at h2
        subst h2
        rw [hblk2, hcap2]; exact hW'.hid.at_ _ _ _ _ h1
    · rw [hpin2]
      rcases hhid k with k | ⟨j, rfl, k, kg⟩
      · rw [if_pos (hW.hid.lt k)]; exact hW.hid.free _ _ k
      · rw [if_neg (by omega)]; exact hW'.hid.free _ _ k
    · rcases hown hj with ⟨h1, h2, h3⟩ | ⟨i', rfl, h1, h2, h3⟩ <;> rcases hhid k with k | ⟨j', rfl, k, kg⟩
      · rw [h2]; exact hW.hid.own _ _ k _ h1
      · omega
      · have := hW.hid.lt k; omega
      · rw [h2]; exact hW'.hid.own _ _ k _ h1
    · rcases hhid k1 with k1 | ⟨i', rfl, k1, g1⟩ <;> rcases hhid k2 with k2 | ⟨j', rfl, k2, g2⟩
      · exact hW.hid.inj _ _ _ k1 k2
      · have := hW.hid.lt k1; omega
      · have := hW.hid.lt k2; omega
      · rw [hW'.hid.inj _ _ _ k1 k2]
  refine ⟨v, m2, rfl, VRel.laid HL _ _ hv3, ⟨hW.glob.mono fun g o h => by rw [hpin2, if_pos (hW.pobj_lt h)]; exact h, fun g o hp => ?_, fun id cs sz ver hL hc => ?_, fun id cs sz ver hL hc => ?_, fun id r hL => ?_, fun i j hi hj he => ?_, fun id ho => ?_, hHid⟩,
    ⟨fun g hg _ _ => hold g hg, hE.size, fun g hg => by rw [hpin2, if_pos hg], fun id ho => ?_, by simp, HM, hE.same, fun id g k => by rcases hhid k with k | ⟨_, _, _, k⟩; exact .inl k; exact .inr k⟩⟩
  · rw [hpin2] at hp
    split at hp
    · rename_i hg
      rw [hold g hg]; exact hW.pobjs g o hp
    · exact hW'.pobjs g o hp
  · rcases hcase hL with ⟨hlt, h1⟩ | ⟨j, o', rfl, h1, h2⟩
    · rw [hcap1 id hlt] at hc ⊢
      obtain ⟨us, rest, elem, lo, hi, k1, k2, k3, k4⟩ := hW.rows _ _ _ _ h1 hc
      have hb' := hW.blk_lt (.inl ⟨_, _, _, h1, hc⟩)
      exact ⟨us, rest, elem, lo, hi, by rw [hblk1 id hlt, hold _ hb']; exact k1, CRel.mono HM _ _ k2, k3, k4⟩
    · cases o' <;> simp only [renO, reduceCtorEq, AObj.row.injEq] at h2
      obtain ⟨rfl, rfl, rfl⟩ := h2
      rw [hcap2] at hc ⊢
      obtain ⟨us, rest, elem, lo, hi, k1, k2, k3, k4⟩ := hW'.rows _ _ _ _ h1 hc
      exact ⟨us, rest, elem, lo, hi, by rw [hblk2]; exact k1, CRel.laid HL _ _ (hrow3 _ _ _ _ _ h1 k2), k3, k4⟩
  · rcases hcase hL with ⟨hlt, h1⟩ | ⟨j, o', rfl, h1, h2⟩
    · rw [hcap1 id hlt] at hc; exact hW.nils _ _ _ _ h1 hc
    · cases o' <;> simp only [renO, reduceCtorEq, AObj.row.injEq] at h2
      obtain ⟨rfl, rfl, rfl⟩ := h2
      rw [hcap2] at hc
      have := hW'.nils _ _ _ _ h1 hc
      rw [this]; rfl
  · rcases hcase hL with ⟨hlt, h1⟩ | ⟨j, o', rfl, h1, h2⟩
    · have hb' := hW.blk_lt (.inr ⟨_, h1⟩)
      rw [hblk1 id hlt, hold _ hb']; exact hW.iters _ _ h1
    · cases o' <;> simp only [renO, reduceCtorEq, AObj.raw.injEq] at h2
      subst h2
      rw [hblk2]; exact hW'.iters _ _ h1
  · rcases hown hi with ⟨h1, h2, h3⟩ | ⟨i', rfl, h1, h2, h3⟩ <;> rcases hown hj with ⟨k1, k2, k3⟩ | ⟨j', rfl, k1, k2, k3⟩
    · exact hW.inj i j h1 k1 (by omega)
    · omega
    · omega
    · have := hW'.inj i' j' h1 k1 (by omega); omega
  · rw [hpin2]
    rcases hown ho with ⟨h1, h2, h3⟩ | ⟨i', rfl, h1, h2, h3⟩
    · rw [h2, if_pos h3]; exact hW.freeo id h1
    · rw [h2, if_neg (by omega)]; exact hW'.freeo i' h1
  · rcases hown ho with ⟨h1, h2, h3⟩ | ⟨i', rfl, h1, h2, h3⟩
    · exact .inl ⟨h1, h2⟩
    · exact .inr (by omega)

/-- A CONTRACT AT THE EMPTY HEAP SERVES EVERY HEAP. -/
theorem Con.lift {f : FuncId} (hfn : ∃ fn, P.funcs[f]? = some fn ∧ fn.body.isNone = false ∧ (fn.name == "runtime.NumGoroutine") = false) {lpre : List AV → Prop} {lres : List AV → AV} {lnew : List AV → Heap} {q : Bool} (hq : q = true → ∀ xs, lnew xs = [])
    (h : ∀ (m : Mem) (w : World) (xs : List AV) (vs : List Value), WRel m [] w → CRel m [] xs vs → lpre xs → Calls P f vs.toArray w (Post m [] w (lres xs) (lnew xs))) : Con P f (lift0 lpre lres lnew q) where
  quiet hq' xs L := by simp only [lift0] at hq' ⊢; rw [hq hq']; simp
  runs := .inl ⟨hfn, fun m L w xs vs hW hx hp => by
    obtain ⟨h1, h2, h3, h4⟩ := hp
    obtain ⟨mb, hmb⟩ : ∃ mb : Mem, mb = if xs.any (isMsl L) = true then { m with pobj := fun g => w.heap[g]? } else m := ⟨_, rfl⟩
    have hpin : ∀ g o, m.pobj g = some o → mb.pobj g = some o := by
      intro g o hv
      rw [hmb]
      split
      · exact hW.pobjs g o hv
      · exact hv
    have hblk : mb.blk = m.blk ∧ mb.cap = m.cap := by rw [hmb]; split <;> exact ⟨rfl, rfl⟩
    have M : Mono m L mb L := ⟨hpin, fun id cs sz ver h => ⟨cs, ver, h, Nat.le_refl _, fun _ => ⟨rfl, by rw [hblk.1], by rw [hblk.2]⟩⟩, fun id r h => ⟨r, h, by rw [hblk.1]⟩⟩
    have hWb : WRel mb [] w := by
      refine ⟨hW.glob.mono hpin, fun g o hv => ?_, fun _ _ _ _ h => by simp at h, fun _ _ _ _ h => by simp at h, fun _ _ h => by simp at h, fun i j hi => absurd hi own_nil, fun id hi => absurd hi own_nil, .nil⟩
      rw [hmb] at hv
      split at hv
      · exact hv
      · exact hW.pobjs g o hv
    have hxb : CRel mb [] (xs.map (derefA L)) vs := closedL_rel ((subA hW M (keep := keep0) (full := xs.any (isMsl L) = true) fun hf g _ _ => by rw [hmb, if_pos hf]).list hx h1 (fun h => h)) h2
    exact (h mb w _ vs hWb hxb h3).mono fun e w' hpost => post_lift hW (xs.any (isMsl L)) (fun hf => by rw [hmb, hf]; rfl) hpost h4⟩

/-- A FUNCTION WITHOUT A BODY that answers with a number, off its texts and numbers. -/
theorem Con.ofExt {f : FuncId} {lpre : List AV → Prop} {lres : List AV → AV} (hr : ∀ xs, lpre xs → ∃ k n, lres xs = .int k n)
    (h : ∀ (m : Mem) (w : World) (xs : List AV) (vs : List Value), CRel m [] xs vs → lpre xs → ∃ v, (callFunc f vs.toArray).run P w = .ok (.value v) w ∧ VRel m [] (lres xs) v) : Con P f (lift0 lpre lres (fun _ => []) true) where
  quiet _ xs L := by simp [lift0]
  runs := .inr fun m L w xs vs hW hx hp => by
    obtain ⟨h1, h2, h3, h4⟩ := hp
    obtain ⟨mb, hmb⟩ : ∃ mb : Mem, mb = if xs.any (isMsl L) = true then { m with pobj := fun g => w.heap[g]? } else m := ⟨_, rfl⟩
    have hpin : ∀ g o, m.pobj g = some o → mb.pobj g = some o := by
      intro g o hv
      rw [hmb]
      split
      · exact hW.pobjs g o hv
      · exact hv
    have hblk : mb.blk = m.blk ∧ mb.cap = m.cap := by rw [hmb]; split <;> exact ⟨rfl, rfl⟩
    have M : Mono m L mb L := ⟨hpin, fun id cs sz ver h => ⟨cs, ver, h, Nat.le_refl _, fun _ => ⟨rfl, by rw [hblk.1], by rw [hblk.2]⟩⟩, fun id r h => ⟨r, h, by rw [hblk.1]⟩⟩
    have hxb : CRel mb [] (xs.map (derefA L)) vs := closedL_rel ((subA hW M (keep := keep0) (full := xs.any (isMsl L) = true) fun hf g _ _ => by rw [hmb, if_pos hf]).list hx h1 (fun h => h)) h2
    obtain ⟨v, hv1, hv2⟩ := h mb w _ vs hxb h3
    obtain ⟨k, n, e⟩ := hr _ h3
    rw [e] at hv2
    simp only [VRel] at hv2
    exact ⟨v, hv1, by simp only [lift0, e, ren, VRel]; exact hv2, by simp [lift0]⟩

/-- what is said of a body may be said less of -/
theorem BodyOk.weak {fn : Func} {xs : List AV} {L : Heap} {res res' : AV} {L' L'' : Heap} (h : BodyOk P Γ fn xs L res L') (hi : IntoF L [res] L' ([res'], L'')) : BodyOk P Γ fn xs L res' L'' := by
  intro X h1 h2 h3 h4
  have := h { X with fin := FinS P fn.results.toList L res L', hfin := fun fr L₁ m₁ a₁ w₁ hf hR => X.hfin fr L₁ m₁ a₁ w₁ (by rw [h4]; exact ⟨hf.1, hf.2.trans hi⟩) hR } h1 h2 h3 rfl
  obtain ⟨c, hc, hH⟩ := this
  exact ⟨c, hc, hH⟩

/-- THE SAME, off the body. -/
theorem Con.of_body (hΓ : EnvOk P Γ) {f : FuncId} {fn : Func} (hf : P.funcs[f]? = some fn) (hb : fn.body.isNone = false) (hn : (fn.name == "runtime.NumGoroutine") = false) {lpre : List AV → Prop} {lres : List AV → AV} {lnew : List AV → Heap} {q : Bool}
    (hq : q = true → ∀ xs, lnew xs = []) (h : ∀ xs, lpre xs → BodyOk P Γ fn xs [] (lres xs) (lnew xs)) : Con P f (lift0 lpre lres lnew q) :=
  Con.lift ⟨fn, hf, hb, hn⟩ hq fun m w xs vs hW hx hp => calls_of_body hΓ hf (h xs hp) hW hx

/-- A LAW: begun at whatever world, with arguments that read so, it returns this, and nothing that was there is turned. -/
theorem law_of_body (hΓ : EnvOk P Γ) {f : FuncId} {fn : Func} (hf : P.funcs[f]? = some fn) {xs : List AV} {vs : List Value} {m : Mem} {w : World} (hG : GOK m.pobj) (hpin : ∀ g o, m.pobj g = some o → w.heap[g]? = some o) (hx : CRel m [] xs vs)
    {L' : Heap} (hb : BodyOk P Γ fn xs [] (.bool true) L') : Calls P f vs.toArray w fun e w' => e = .returned (.bool true) ∧ Below w.heap.size w w' := by
  have hW : WRel m [] w := ⟨hG, hpin, fun _ _ _ _ h => by simp at h, fun _ _ _ _ h => by simp at h, fun _ _ h => by simp at h, fun i j hi => absurd hi own_nil, fun id hi => absurd hi own_nil, .nil⟩
  refine (calls_of_body hΓ hf hb hW hx).mono ?_
  rintro e w' ⟨v, m', rfl, hv, hW', hE⟩
  simp only [VRel] at hv
  subst hv
  exact ⟨rfl, hE.same.1, hE.same.2.1, hE.same.2.2, hE.size, fun k hk => hE.frame k hk (fun id ho => absurd ho own_nil) (fun id => hid_nil)⟩

end
end Go.Eng
end
section
namespace Go.Eng
open Go
set_option linter.unusedVariables false
set_option linter.unusedSimpArgs false

/-! ### What an operation does hangs on what it looks at alone -/

theorem opd_set {fr : List AV} {d : Nat} {x : AV} {y : Operand} (h : y ≠ .tmp d) : opd (fr.set d x) y = opd fr y := by
  cases y with
  | tmp t =>
    have : d ≠ t := fun e => h (by rw [e])
    simp [opd, List.getD, List.getElem?_set_ne this]
  | _ => rfl

theorem opd_putA {fr : List AV} {dst : Option Tmp} {x : AV} {y : Operand} (h : ∀ d, dst = some d → y ≠ .tmp d) : opd (putA fr dst x) y = opd fr y := by
  cases dst with
  | none => rfl
  | some d => exact opd_set (h d rfl)

theorem ev_congr {P : Program} {Γ : Env} {c : Bool} {fr fr' : List AV} {L : Heap} (op : Op) (h : ∀ y ∈ op.operands, opd fr y = opd fr' y) : stepR P Γ c fr L op = stepR P Γ c fr' L op := by
  have harr : ∀ xs : Array Operand, (∀ y ∈ xs, opd fr y = opd fr' y) → xs.toList.map (opd fr) = xs.toList.map (opd fr') ∧ (xs.toList.map fun x => (opd fr x).bare) = xs.toList.map fun x => (opd fr' x).bare := by
    intro xs hx
    have : ∀ y ∈ xs.toList, opd fr y = opd fr' y := fun y hy => hx y (by simpa using hy)
    exact ⟨List.map_congr_left this, List.map_congr_left fun y hy => by rw [this y hy]⟩
  have hparts : ∀ ps : Array (Nat × Operand), (∀ y ∈ ps.map (·.2), opd fr y = opd fr' y) → partsA fr ps = partsA fr' ps ∧ (ps.toList.map fun p => opd fr p.2) = ps.toList.map fun p => opd fr' p.2 := by
    intro ps hp
    have : ∀ p ∈ ps.toList, opd fr p.2 = opd fr' p.2 := fun p hm => hp p.2 (by
      simp only [Array.mem_map]; exact ⟨p, by simpa using hm, rfl⟩)
    exact ⟨List.map_congr_left fun p hm => by rw [this p hm], List.map_congr_left this⟩
  cases op <;> simp only [Op.operands] at h <;> simp only [stepR, ev]
  case pick q a b => rw [h q (by simp), h a (by simp), h b (by simp)]
  case build t ps => have h' := hparts ps fun y hy => h y (by simpa using hy); rw [h'.1, h'.2]
  case buildSlice t n ps => have h' := hparts ps fun y hy => h y (by simpa using hy); rw [h'.1, h'.2]
  case makeFunc f a b =>
    obtain ⟨h1, h2⟩ := harr a fun y hy => h y (by simp [hy])
    obtain ⟨h3, h4⟩ := harr b fun y hy => h y (by simp [hy])
    rw [h1, h2, h3, h4]
  case call c =>
    obtain ⟨callee, args, ts⟩ := c
    obtain ⟨h1, h2⟩ := harr args fun y hy => h y (by simp [Call.operands, hy])
    cases callee with
    | value f =>
      have hf : opd fr f = opd fr' f := h f (by simp [Call.operands])
      simp only [stepR, callR]
      rw [hf, h1, h2]
    | invoke r n => rfl
    | builtin b =>
      simp only [stepR, ev, builtinR]
      have : ∀ y ∈ args.toList, opd fr y = opd fr' y := fun y hy => h y (by simp [Call.operands] at hy ⊢; exact hy)
      revert this
      split <;> intro this
      · rename_i x t heq _
        rw [this x (by rw [heq]; simp)]
      · rename_i x y heq
        rw [this x (by rw [heq]; simp), this y (by rw [heq]; simp)]
      · rename_i x y heq
        rw [this x (by rw [heq]; simp), this y (by rw [heq]; simp)]
      · rename_i s x t tx heq _
        rw [this s (by rw [heq]; simp), this x (by rw [heq]; simp)]
      · rename_i x k t ts' heq _
        rw [this x (by rw [heq]; simp), this k (by rw [heq]; simp)]
      · rfl
  case makeMap t r =>
    have : optB fr r = optB fr' r ∧ needO c fr r = needO c fr' r := by
      cases r with
      | none => exact ⟨rfl, rfl⟩
      | some y => have := h y (by simp); simp only [optB, needO]; rw [this]; exact ⟨rfl, rfl⟩
    rw [this.1, this.2]
  case slice t x lo hi mx =>
    have hx := h x (by simp)
    have ho : ∀ z : Option Operand, (∀ y, z = some y → opd fr y = opd fr' y) → optB fr z = optB fr' z ∧ needO c fr z = needO c fr' z := by
      intro z hz
      cases z with
      | none => exact ⟨rfl, rfl⟩
      | some y => simp only [optB, needO]; rw [hz y rfl]; exact ⟨rfl, rfl⟩
    obtain ⟨a1, a2⟩ := ho lo fun y hy => h y (by simp [hy])
    obtain ⟨b1, b2⟩ := ho hi fun y hy => h y (by simp [hy])
    obtain ⟨c1, c2⟩ := ho mx fun y hy => h y (by simp [hy])
    rw [hx, a1, a2, b1, b2, c1, c2]
  all_goals first
    | rfl
    | (simp only [List.mem_toArray, List.mem_cons, List.not_mem_nil, or_false, forall_eq_or_imp, forall_eq] at h; simp only [h])

section
variable {P : Program} {Γ : Env} {ops : Array Oper}

theorem ev_put {c : Bool} {fr : List AV} {L : Heap} {o : Oper} {dst : Option Tmp} {x : AV} (h : ∀ d, dst = some d → d ∉ o.looksAt ops) : stepA P Γ ops.toList c (putA fr dst x) L o = stepA P Γ ops.toList c fr L o := by
  have hop : ∀ y ∈ o.op.operands, opd (putA fr dst x) y = opd fr y := fun y hy => opd_putA fun d hd hyd => h d hd (by
    subst hyd
    exact List.mem_append_left _ (List.mem_filterMap.2 ⟨.tmp d, by simpa using hy, rfl⟩))
  rcases stepA_cases P Γ ops.toList o with hst | ⟨t, len, parts, ho, hst⟩
  · rw [hst, hst]; exact ev_congr o.op hop
  · rw [hst, hst]
    rw [ho] at hop
    simp only [Op.operands] at hop
    have : ∀ p ∈ parts.toList, opd (putA fr dst x) p.2 = opd fr p.2 := fun p hm => hop p.2 (by
      have hm' : p ∈ parts := by simpa using hm
      have : p.2 ∈ parts.map (·.2) := Array.mem_map.2 ⟨p, hm', rfl⟩
      simpa using this)
    have e1 : partsA (putA fr dst x) parts = partsA fr parts := List.map_congr_left fun p hm => by rw [this p hm]
    have e2 : (parts.toList.map fun p => opd (putA fr dst x) p.2) = parts.toList.map fun p => opd fr p.2 := List.map_congr_left this
    rw [e1, e2]

theorem guard_put {fr : List AV} {o : Oper} {dst : Option Tmp} {x : AV} (h : ∀ d, dst = some d → d ∉ o.looksAt ops) :
    guardC ops.toList (putA fr dst x) o.guard = guardC ops.toList fr o.guard ∧ guardOk ops.toList (putA fr dst x) o.guard = guardOk ops.toList fr o.guard := by
  cases dst with
  | none => exact ⟨rfl, rfl⟩
  | some d =>
    unfold guardC guardOk
    cases hg : o.guard with
    | none => exact ⟨rfl, rfl⟩
    | some gw =>
      obtain ⟨g, want⟩ := gw
      simp only
      have e : (ops.toList[g]?).bind (·.dst) = (ops[g]?).bind (·.dst) := by simp
      rw [e]
      cases ht : (ops[g]?).bind (·.dst) with
      | none => exact ⟨rfl, rfl⟩
      | some t =>
        have hne : d ≠ t := fun e => h d rfl (by subst e; simp [Oper.looksAt, hg, ht])
        have : (putA fr (some d) x).getD t .any = fr.getD t .any := by simp [putA, List.getD, List.getElem?_set_ne hne]
        simp only [this, and_self]

theorem putA_comm (fr : List AV) {x y : Option Tmp} (v u : AV) (h : ∀ d, x = some d → y ≠ some d) : putA (putA fr x v) y u = putA (putA fr y u) x v := by
  cases x with
  | none => rfl
  | some d =>
    cases y with
    | none => rfl
    | some e =>
      have hne : d ≠ e := fun he => h d rfl (he ▸ rfl)
      simp only [putA]
      exact List.set_comm _ _ hne

/-- operation 'o' in this state yields 'v' and leaves the heap 'L'': either a quiet one (in every heap of the class the same, the heap let be), or one that may turn the heap -/
def Yd (P : Program) (Γ : Env) (ops : Array Oper) (H : Heap → Prop) (mk : Bool) (o : Oper) (fr : List AV) (L : Heap) (v : AV) (L' : Heap) : Prop :=
  guardOk ops.toList fr o.guard ∧
  if mk then (stepA P Γ ops.toList (guardC ops.toList fr o.guard) fr L o).pre ∧ v = mkV o.guard (guardC ops.toList fr o.guard) (stepA P Γ ops.toList (guardC ops.toList fr o.guard) fr L o).v ∧
      L' = (stepA P Γ ops.toList (guardC ops.toList fr o.guard) fr L o).L ∧ H L'
  else L' = L ∧ ∀ G, H G → (stepA P Γ ops.toList (guardC ops.toList fr o.guard) fr G o).pre ∧ (stepA P Γ ops.toList (guardC ops.toList fr o.guard) fr G o).L = G ∧
      v = mkV o.guard (guardC ops.toList fr o.guard) (stepA P Γ ops.toList (guardC ops.toList fr o.guard) fr G o).v

theorem Yd.swap {H : Heap → Prop} {mi mj : Bool} {oi oj : Oper} {fr : List AV} {L L1 L2 : Heap} {v u : AV} (hL : H L) (hi : Yd P Γ ops H mi oi fr L v L1) (hj : Yd P Γ ops H mj oj (putA fr oi.dst v) L1 u L2)
    (hap : oi.apart ops oj = true) (hm : ¬ (mi = true ∧ mj = true)) : ∃ L3, H L3 ∧ Yd P Γ ops H mj oj fr L u L3 ∧ Yd P Γ ops H mi oi (putA fr oj.dst u) L3 v L2 := by
  obtain ⟨h1, h2, h3⟩ := Oper.apart_spec hap
  unfold Yd at hi hj ⊢
  have e1 : ∀ c G, stepA P Γ ops.toList c (putA fr oi.dst v) G oj = stepA P Γ ops.toList c fr G oj := fun c G => ev_put (o := oj) h1
  have e2 : ∀ c G, stepA P Γ ops.toList c (putA fr oj.dst u) G oi = stepA P Γ ops.toList c fr G oi := fun c G => ev_put (o := oi) h3
  obtain ⟨g1, g2⟩ := guard_put (fr := fr) (o := oj) (dst := oi.dst) (x := v) h1
  obtain ⟨g3, g4⟩ := guard_put (fr := fr) (o := oi) (dst := oj.dst) (x := u) h3
  rw [g1, g2] at hj
  simp only [e1] at hj
  obtain ⟨hgi, hi⟩ := hi
  obtain ⟨hgj, hj⟩ := hj
  cases mi <;> cases mj
  · simp only [Bool.false_eq_true, if_false] at hi hj
    obtain ⟨rfl, hi⟩ := hi
    obtain ⟨rfl, hj⟩ := hj
    refine ⟨L2, hL, ?_⟩
    rw [g3, g4]
    simp only [Bool.false_eq_true, if_false, e2]
    exact ⟨⟨hgj, trivial, hj⟩, hgi, trivial, hi⟩
  · simp only [Bool.false_eq_true, if_false, if_true] at hi hj
    obtain ⟨rfl, hi⟩ := hi
    refine ⟨L2, hj.2.2.2, ?_⟩
    rw [g3, g4]
    simp only [Bool.false_eq_true, if_false, if_true, e2]
    exact ⟨⟨hgj, hj⟩, hgi, trivial, hi⟩
  · simp only [Bool.false_eq_true, if_false, if_true] at hi hj
    obtain ⟨rfl, hj⟩ := hj
    refine ⟨L, hL, ?_⟩
    rw [g3, g4]
    simp only [Bool.false_eq_true, if_false, if_true, e2]
    exact ⟨⟨hgj, trivial, hj⟩, hgi, hi⟩
  · exact absurd ⟨rfl, rfl⟩ hm

theorem Yd.keeps {H : Heap → Prop} {mk : Bool} {o : Oper} {fr : List AV} {L L' : Heap} {v : AV} (hL : H L) (h : Yd P Γ ops H mk o fr L v L') : H L' := by
  unfold Yd at h
  cases mk
  · simp only [Bool.false_eq_true, if_false] at h; rw [h.2.1]; exact hL
  · simp only [if_true] at h; exact h.2.2.2.2

/-- operation number 'i' comes up -/
def opD (P : Program) (Γ : Env) (ops : Array Oper) (H : Heap → Prop) (mk : Nat → Bool) (i : Nat) (K : List AV → Heap → Prop) (fr : List AV) (L : Heap) : Prop :=
  match ops[i]? with
  | none => K fr L
  | some o => ∃ v L', Yd P Γ ops H (mk i) o fr L v L' ∧ K (putA fr o.dst v) L'

theorem opD_mono {H : Heap → Prop} {mk : Nat → Bool} {i : Nat} {K K' : List AV → Heap → Prop} {fr : List AV} {L : Heap} (h : ∀ fr L, K fr L → K' fr L) (hh : opD P Γ ops H mk i K fr L) : opD P Γ ops H mk i K' fr L := by
  unfold opD at *
  split
  · rename_i ho; rw [ho] at hh; exact h _ _ hh
  · rename_i o ho; rw [ho] at hh; obtain ⟨v, L', h1, h2⟩ := hh; exact ⟨v, L', h1, h _ _ h2⟩

/-- whatever order is picked from here on -/
def anyD (P : Program) (Γ : Env) (md : Region.Mode) (ops : Array Oper) (H : Heap → Prop) (mk : Nat → Bool) (K : List AV → Heap → Prop) : Nat → Array Bool → List AV → Heap → Prop
  | 0, listed, fr, L => Region.ready md ops listed = [] ∧ K fr L
  | fuel + 1, listed, fr, L => (Region.ready md ops listed = [] → K fr L) ∧
    ∀ i ∈ Region.ready md ops listed, opD P Γ ops H mk i (anyD P Γ md ops H mk K fuel (listed.setIfInBounds i true)) fr L

variable {md : Region.Mode}

/-- 'j' waits for 'i', straight or through others of these -/
def twB (ops : Array Oper) (md : Region.Mode) (ms : List Nat) (i : Nat) : Nat → Nat → Bool
  | 0, _ => false
  | n + 1, j => match ops[j]? with
    | some o => o.after.any fun e => Region.binds md e && decide (e.on < j) && (e.on == i || twB ops md ms i n e.on)
    | none => false
def TW (ops : Array Oper) (md : Region.Mode) (i j : Nat) : Prop := ∃ ms n, twB ops md ms i n j = true
theorem TW.step {ops : Array Oper} {md : Region.Mode} {i j : Nat} (h : TW ops md i j) : ∃ o e, ops[j]? = some o ∧ e ∈ o.after ∧ Region.binds md e = true ∧ e.on < j ∧ (e.on = i ∨ TW ops md i e.on) := by
  obtain ⟨ms, n, h⟩ := h
  cases n with
  | zero => simp [twB] at h
  | succ n =>
    simp only [twB] at h
    split at h
    · rename_i o ho
      obtain ⟨e, he, hb⟩ := Array.any_eq_true'.1 h
      simp only [Bool.and_eq_true, Bool.or_eq_true, beq_iff_eq, decide_eq_true_eq] at hb
      obtain ⟨⟨h1, h2⟩, h3⟩ := hb
      refine ⟨o, e, ho, he, h1, h2, ?_⟩
      rcases h3 with h3 | h3
      · exact .inl h3
      · exact .inr ⟨ms, n, h3⟩
    · cases h
theorem TW.lt {ops : Array Oper} {md : Region.Mode} {i : Nat} : ∀ {j : Nat}, TW ops md i j → i < j := by
  intro j
  induction j using Nat.strongRecOn with
  | _ j ih =>
    intro h
    obtain ⟨o, e, _, _, _, h1, h2⟩ := h.step
    rcases h2 with h2 | h2
    · omega
    · have := ih e.on h1 h2; omega

/-- to those that do not wait for it, 'i' is apart, and no two of them turn the heap -/
def freeD (ops : Array Oper) (md : Region.Mode) (mk : Nat → Bool) (listed : Array Bool) (i : Nat) (oi : Oper) : Prop :=
  ∀ j oj, ops[j]? = some oj → j ≠ i → listed.getD j true = false → (∀ e ∈ oj.after, Region.binds md e = true → e.on ≠ i) → oi.apart ops oj = true ∧ (TW ops md i j ∨ ¬ (mk i = true ∧ mk j = true))

theorem anyD_first {H : Heap → Prop} {mk : Nat → Bool} {K : List AV → Heap → Prop} {i : Nat} {oi : Oper} {v : AV} (hi : ops[i]? = some oi) :
    ∀ (fuel : Nat) (listed : Array Bool) (fr : List AV) (L L1 : Heap), freeD ops md mk listed i oi → (∀ j, TW ops md i j → listed.getD j true = false) → i ∈ Region.ready md ops listed → H L → Yd P Γ ops H (mk i) oi fr L v L1 →
      anyD P Γ md ops H mk K fuel (listed.setIfInBounds i true) (putA fr oi.dst v) L1 → anyD P Γ md ops H mk K (fuel + 1) listed fr L := by
  intro fuel
  induction fuel with
  | zero =>
    intro listed fr L L1 _ _ hr hL hy hH
    refine ⟨fun h => (by rw [h] at hr; cases hr), fun j hj => ?_⟩
    by_cases hji : j = i
    · subst hji; unfold opD; rw [hi]; exact ⟨v, L1, hy, hH⟩
    · have := ready_mono hj hji
      rw [hH.1] at this
      cases this
  | succ fuel ih =>
    intro listed fr L L1 hfree htw hr hL hy hH
    refine ⟨fun h => (by rw [h] at hr; cases hr), fun j hj => ?_⟩
    by_cases hji : j = i
    · subst hji; unfold opD; rw [hi]; exact ⟨v, L1, hy, hH⟩
    · have h1 := hH.2 j (ready_mono hj hji)
      obtain ⟨hjun, oj, hoj, hall⟩ := mem_ready.1 hj
      have hnot : ∀ e ∈ oj.after, Region.binds md e = true → e.on ≠ i := fun e he hb heq => by
        have h1 := hall e he hb
        have h0 := (mem_ready.1 hr).1
        rw [heq] at h1
        rcases Nat.lt_or_ge i listed.size with h' | h'
        · simp [h'] at h0 h1; rw [h0] at h1; cases h1
        · simp [Array.getElem?_eq_none h'] at h1
      obtain ⟨hap, hmm⟩ := hfree j oj hoj hji hjun hnot
      have hntw : ¬ TW ops md i j := by
        intro ht
        obtain ⟨o', e, ho', he, hb, _, h3⟩ := ht.step
        rw [hoj] at ho'
        obtain rfl := Option.some.inj ho'
        rcases h3 with h3 | h3
        · exact hnot e he hb h3
        · have h4 := htw _ h3
          have h5 := hall e he hb
          rcases Nat.lt_or_ge e.on listed.size with h' | h'
          · simp [h'] at h4 h5; rw [h4] at h5; cases h5
          · simp [Array.getElem?_eq_none h'] at h5
      have hmm : ¬ (mk i = true ∧ mk j = true) := hmm.resolve_left hntw
      have htw' : ∀ k, TW ops md i k → (listed.setIfInBounds j true).getD k true = false := fun k hk => by
        have hjk : j ≠ k := fun e => hntw (e ▸ hk)
        rw [getD_set_ne true hjk]; exact htw k hk
      unfold opD at h1 ⊢
      rw [hoj] at h1 ⊢
      obtain ⟨u, L2, hyj, h2⟩ := h1
      obtain ⟨L3, hL3, k1, k2⟩ := hy.swap hL hyj hap hmm
      refine ⟨u, L3, k1, ?_⟩
      have hfree' : freeD ops md mk (listed.setIfInBounds j true) i oi := fun k ok hk hki hun hno => by
        refine hfree k ok hk hki ?_ hno
        by_cases hjk : j = k
        · subst hjk; exact hjun
        · rw [getD_set_ne true hjk] at hun; exact hun
      refine ih (listed.setIfInBounds j true) _ _ _ hfree' htw' (ready_mono hr (Ne.symm hji)) hL3 k2 ?_
      rw [Array.setIfInBounds_comm _ _ hji, ← putA_comm fr v u (Oper.apart_spec hap).2.1]
      exact h2

/-! ### The order of the text -/

def waitsB (ops : Array Oper) (md : Region.Mode) (j i : Nat) : Bool := match ops[j]? with | some o => o.after.any (fun e => Region.binds md e && e.on == i) | none => false
def ordB (ops : Array Oper) (md : Region.Mode) (ms : List Nat) : Bool := ms.all fun i => ms.all fun j => decide (j ≤ i) || twB ops md ms i 5 j

theorem free_D {ms : List Nat} (hm : ordB ops md ms = true) {i : Nat} {oi : Oper} {listed : Array Bool} (hi : ops[i]? = some oi) (hl : ∀ j, j < i → listed.getD j true = true) (h : Region.free md ops listed i = true) :
    freeD ops md (ms.contains ·) listed i oi := by
  intro j oj hj hji hun hno
  refine ⟨Region.free_spec hi h j oj hj hji hun hno, ?_⟩
  by_cases hb : ms.contains i = true ∧ ms.contains j = true
  · left
    obtain ⟨h1, h2⟩ := hb
    simp only [List.contains_iff_mem] at h1 h2
    simp only [ordB, List.all_eq_true, Bool.or_eq_true, decide_eq_true_eq] at hm
    rcases hm i h1 j h2 with h3 | h3
    · have := hl j (by omega); rw [this] at hun; cases hun
    · exact ⟨ms, 5, h3⟩
  · exact .inr hb

/-- what is asked of one operation, over the class of heaps -/
def qob (H : Heap → Prop) (f : Heap → Prop) : Prop := ∀ G, H G → f G
def fixH (L : Heap) : Heap → Prop := fun G => G = L
def extH (L : Heap) : Heap → Prop := fun G => ∃ A, G = L ++ A
theorem qob_fix (L : Heap) (f : Heap → Prop) : qob (fixH L) f = f L := by simp [qob, fixH]
theorem qob_ext (L : Heap) (f : Heap → Prop) : qob (extH L) f = ∀ A, f (L ++ A) := propext ⟨fun h A => h _ ⟨A, rfl⟩, fun h G ⟨A, hA⟩ => hA ▸ h A⟩

/-- the operations in the text's order; 'ms': the numbers of those that turn the heap -/
def evD (P : Program) (Γ : Env) (all : List Oper) (H : Heap → Prop) (ms : List Nat) : Nat → List Oper → List AV → Heap → (List AV → Heap → Prop) → Prop
  | _, [], fr, L, K => K fr L
  | k, o :: r, fr, L, K =>
    guardOk all fr o.guard ∧
    if ms.contains k then (stepA P Γ all (guardC all fr o.guard) fr L o).pre ∧ H (stepA P Γ all (guardC all fr o.guard) fr L o).L ∧
      evD P Γ all H ms (k + 1) r (putA fr o.dst (mkV o.guard (guardC all fr o.guard) (stepA P Γ all (guardC all fr o.guard) fr L o).v)) (stepA P Γ all (guardC all fr o.guard) fr L o).L K
    else qob H (fun G => (stepA P Γ all (guardC all fr o.guard) fr G o).pre ∧ (stepA P Γ all (guardC all fr o.guard) fr G o).L = G ∧ (stepA P Γ all (guardC all fr o.guard) fr G o).v = (stepA P Γ all (guardC all fr o.guard) fr L o).v) ∧
      evD P Γ all H ms (k + 1) r (putA fr o.dst (mkV o.guard (guardC all fr o.guard) (stepA P Γ all (guardC all fr o.guard) fr L o).v)) L K

theorem anyD_lex {H : Heap → Prop} {ms : List Nat} {K : List AV → Heap → Prop} (hm : ordB ops md ms = true) : ∀ (l : List Oper) (k : Nat) (listed : Array Bool) (fr : List AV) (L : Heap), (∀ j, l[j]? = ops[k + j]?) → (∀ j, j < k → listed.getD j true = true) → (∀ j o, k ≤ j → ops[j]? = some o → listed.getD j true = false) →
    Region.lexFrom md ops l.length k listed = true → H L → evD P Γ ops.toList H ms k l fr L K → anyD P Γ md ops H (ms.contains ·) K l.length listed fr L
  | [], _, _, _, _, _, _, _, hB, _, h => ⟨by simpa [Region.lexFrom] using hB, h⟩
  | o :: l, k, listed, fr, L, hl, hk, hu, hB, hL, h => by
    have h0 : ops[k]? = some o := by simpa using (hl 0).symm
    simp only [List.length_cons, Region.lexFrom, Bool.and_eq_true] at hB
    obtain ⟨⟨hr, hf⟩, hB'⟩ := hB
    obtain ⟨hg, h⟩ := h
    have hk' : ∀ j, j < k + 1 → (listed.setIfInBounds k true).getD j true = true := fun j hj => by
      by_cases hjk : k = j
      · subst hjk
        rcases Nat.lt_or_ge k listed.size with h' | h'
        · simp [h']
        · simp [Array.getElem?_eq_none h']
      · rw [getD_set_ne true hjk]; exact hk j (by omega)
    have hu' : ∀ j o, k + 1 ≤ j → ops[j]? = some o → (listed.setIfInBounds k true).getD j true = false := fun j o' hj ho => by
      rw [getD_set_ne true (show k ≠ j by omega)]; exact hu j o' (by omega) ho
    have htw : ∀ j, TW ops md k j → listed.getD j true = false := fun j hj => by
      obtain ⟨o', e, ho', _⟩ := hj.step
      exact hu j o' (Nat.le_of_lt hj.lt) ho'
    have hl' : ∀ j, l[j]? = ops[k + 1 + j]? := fun j => by have := hl (j + 1); simpa [Nat.add_assoc, Nat.add_comm 1 j] using this
    cases hmk : ms.contains k with
    | true =>
      rw [hmk] at h
      simp only [if_true] at h
      exact anyD_first h0 l.length listed fr L _ (free_D hm h0 hk hf) htw (by simpa using hr) hL (by unfold Yd; rw [hmk]; exact ⟨hg, by simp only [if_true]; exact ⟨h.1, trivial, trivial, h.2.1⟩⟩)
        (anyD_lex hm l (k + 1) _ _ _ hl' hk' hu' hB' h.2.1 h.2.2)
    | false =>
      rw [hmk] at h
      simp only [Bool.false_eq_true, if_false] at h
      exact anyD_first h0 l.length listed fr L L (free_D hm h0 hk hf) htw (by simpa using hr) hL (by
          unfold Yd; rw [hmk]
          refine ⟨hg, ?_⟩
          simp only [Bool.false_eq_true, if_false, true_and]
          exact fun G hG => ⟨(h.1 G hG).1, (h.1 G hG).2.1, by rw [(h.1 G hG).2.2]⟩)
        (anyD_lex hm l (k + 1) _ _ _ hl' hk' hu' hB' hL h.2)

theorem opD_sound (hΓ : EnvOk P Γ) {B : Base} {H : Heap → Prop} {mk : Nat → Bool} {i : Nat} {K : List AV → Heap → Prop} {K' : Act → World → Prop} {Q : Exit → Act → World → Prop} (hK : ∀ fr L m a w, H L → K fr L → RS B fr L m a w → K' a w)
    {fr : List AV} {L : Heap} {m : Mem} {a : Act} {w : World} (hL : H L) (h : opD P Γ ops H mk i K fr L) (hR : RS B fr L m a w) : wpOp P ops Q i K' a w := by
  unfold opD at h
  unfold wpOp
  split
  · rename_i ho; rw [ho] at h; exact hK _ _ _ _ _ hL h hR
  · rename_i o ho
    rw [ho] at h
    obtain ⟨v, L', hy, h⟩ := h
    have hL' := hy.keeps hL
    unfold Yd at hy
    obtain ⟨hg, hy⟩ := hy
    have hstep : (stepA P Γ ops.toList (guardC ops.toList fr o.guard) fr L o).pre ∧ L' = (stepA P Γ ops.toList (guardC ops.toList fr o.guard) fr L o).L ∧ v = mkV o.guard (guardC ops.toList fr o.guard) (stepA P Γ ops.toList (guardC ops.toList fr o.guard) fr L o).v := by
      cases hm : mk i with
      | true => rw [hm] at hy; simp only [if_true] at hy; exact ⟨hy.1, hy.2.2.1, hy.2.1⟩
      | false =>
        rw [hm] at hy; simp only [Bool.false_eq_true, if_false] at hy
        obtain ⟨h1, h2, h3⟩ := hy.2 L hL
        exact ⟨h1, by rw [h2]; exact hy.1, h3⟩
    obtain ⟨hp, rfl, rfl⟩ := hstep
    have := step_sound (P := P) (Γ := Γ) hΓ hR.wrel hR.frel ops o (next := K') (Q := Q) hg hp fun a' w' m' k1 k2 k3 k4 => hK _ _ _ _ _ hL' h ⟨k1, k2, hR.ext.trans k3, by rw [k4, hR.defers]⟩
    split
    · rename_i hw; rw [if_pos hw] at this; exact .inl this
    · rename_i hw; rw [if_neg hw] at this; exact this

theorem anyD_sound (hΓ : EnvOk P Γ) {B : Base} {H : Heap → Prop} {mk : Nat → Bool} {K : List AV → Heap → Prop} {Q : Exit → Act → World → Prop} (hK : ∀ fr L m a w, K fr L → RS B fr L m a w → Q .normal a w) :
    ∀ (fuel : Nat) (listed : Array Bool) (fr : List AV) (L : Heap) (m : Mem) (a : Act) (w : World), H L → anyD P Γ md ops H mk K fuel listed fr L → RS B fr L m a w → wpAny P md ops Q fuel listed a w
  | 0, _, _, _, _, _, _, _, h, hR => ⟨h.1, hK _ _ _ _ _ h.2 hR⟩
  | fuel + 1, _, _, _, _, _, _, hL, h, hR => ⟨fun h0 => hK _ _ _ _ _ (h.1 h0) hR, fun i hi => opD_sound hΓ (fun fr' L' m' a' w' hL' h' hR' => anyD_sound hΓ hK fuel _ fr' L' m' a' w' hL' h' hR') hL (h.2 i hi) hR⟩

end

theorem RS.drew {B : Base} {fr : List AV} {L : Heap} {m : Mem} {a : Act} {w : World} (h : RS B fr L m a w) : RS B fr L m a { w with drawn := w.drawn + 1 } where
  wrel := ⟨h.wrel.glob, h.wrel.pobjs, h.wrel.rows, h.wrel.nils, h.wrel.iters, h.wrel.inj, h.wrel.freeo, h.wrel.hid.keep (fun _ _ _ _ h => ⟨h, rfl, rfl⟩) (fun _ _ _ _ _ _ => rfl) (fun _ _ _ => rfl) (fun _ _ k => h.wrel.hid.free _ _ k) (fun _ _ k j hj => h.wrel.hid.own _ _ k j hj)⟩
  frel := h.frel
  ext := ⟨h.ext.frame, h.ext.size, h.ext.newobj, h.ext.blks, h.ext.len, h.ext.mono, h.ext.same, h.ext.hnew⟩
  defers := h.defers

/-- A REGION THAT DRAWS ITS ORDER -/
theorem Holds.drawn {X : Cx} {id : Nat} {ops : Array Oper} {k : List It} {fr : List AV} {L : Heap} (H : Heap → Prop) (ms : List Nat) (hm : X.P.follows .mixedOrders = true) (hB : Region.lexB .any ops = true) (ho : ordB ops .any ms = true) (hL : H L)
    (h : evD X.P X.Γ ops.toList H ms 0 ops.toList fr L (Holds X k)) : Holds X (.code (.region id ops true) :: k) fr L := by
  intro m a w hR
  simp only [W]
  simp only [Region.lexB, Bool.and_eq_true] at hB
  refine wp_region_any hm ?_
  have hR' : RS X.B fr L m a { w with drawn := w.drawn + 1 } := hR.drew
  have := anyD_lex (P := X.P) (Γ := X.Γ) (md := .any) (ops := ops) (K := Holds X k) ho ops.toList 0 (Array.replicate ops.size false) fr L (by simp) (fun j hj => by omega) (fun j o hj ho => by have := (Array.getElem?_eq_some_iff.1 ho).1; simp [this]) (by simpa using hB.2) hL h
  have h2 := anyD_sound (md := .any) (Q := W X.P X.B X.Q k) X.ok (fun fr L m a w hk hR => hk m a w hR) _ _ fr L m a _ hL this hR'
  simpa using h2

/-- the operations in the text's order, where none turns the heap -/
def evQ (P : Program) (Γ : Env) (all : List Oper) : List Oper → List AV → Heap → (List AV → Heap → Prop) → Prop
  | [], fr, L, K => K fr L
  | o :: r, fr, L, K =>
    guardOk all fr o.guard ∧ (stepA P Γ all (guardC all fr o.guard) fr L o).pre ∧ (stepA P Γ all (guardC all fr o.guard) fr L o).L = L ∧
      evQ P Γ all r (putA fr o.dst (mkV o.guard (guardC all fr o.guard) (stepA P Γ all (guardC all fr o.guard) fr L o).v)) L K

theorem evD_of_evQ {P : Program} {Γ : Env} {all : List Oper} {L : Heap} {K : List AV → Heap → Prop} : ∀ (l : List Oper) (k : Nat) (fr : List AV), evQ P Γ all l fr L K → evD P Γ all (fixH L) [] k l fr L K
  | [], _, _, h => h
  | o :: r, k, fr, h => by
    obtain ⟨h1, h2, h3, h4⟩ := h
    refine ⟨h1, ?_⟩
    simp only [List.contains_nil, Bool.false_eq_true, if_false]
    rw [qob_fix]
    exact ⟨⟨h2, h3, rfl⟩, evD_of_evQ r (k + 1) _ h4⟩

/-- A REGION THAT DRAWS ITS ORDER and turns nothing -/
theorem Holds.drawnQ {X : Cx} {id : Nat} {ops : Array Oper} {k : List It} {fr : List AV} {L : Heap} (hm : X.P.follows .mixedOrders = true) (hB : Region.lexB .any ops = true) (h : evQ X.P X.Γ ops.toList ops.toList fr L (ex X 400 k)) :
    Holds X (.code (.region id ops true) :: k) fr L := by
  refine Holds.drawn (fixH L) [] hm hB rfl rfl (evD_of_evQ _ _ _ ?_)
  have mono : ∀ (l : List Oper) (fr : List AV) (L : Heap), evQ X.P X.Γ ops.toList l fr L (ex X 400 k) → evQ X.P X.Γ ops.toList l fr L (Holds X k) := by
    intro l
    induction l with
    | nil => intro fr L h; exact holds_of_ex X 400 k fr L h
    | cons o r ih => intro fr L h; exact ⟨h.1, h.2.1, h.2.2.1, ih _ _ h.2.2.2⟩
  exact mono _ _ _ h
end Go.Eng
end
