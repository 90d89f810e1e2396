/- The engine, part 9F: an own row that nobody turns any more is laid fast: it becomes memory that only is read. -/
import Derived.Test.YtbnnhffkbcekcaaGreatDoorEng9
namespace Go.Eng
open Go
set_option linter.unusedVariables false
set_option linter.unusedSimpArgs false

mutual
theorem ren_id : ∀ x : AV, ren (fun i => i) x = x
  | .agg cs => by simp only [ren, renL_id cs]
  | .tup cs => by simp only [ren, renL_id cs]
  | .sl cs n => by simp only [ren, renL_id cs]
  | .ip cs => by simp only [ren, renL_id cs]
  | .fn f a b => by simp only [ren, renL_id a, renL_id b]
  | .ifc t x => by simp only [ren, ren_id x]
  | .when c x => by simp only [ren, ren_id x]
  | .alt c x y => by simp only [ren, ren_id x, ren_id y]
  | .any => rfl
  | .int .. => rfl
  | .bool _ => rfl
  | .str _ => rfl
  | .lit _ => rfl
  | .msl .. => rfl
  | .ref .. => rfl
  | .ub .. => rfl
  | .csl .. => rfl
  | .mp .. => rfl
  | .mpr .. => rfl
theorem renL_id : ∀ xs : List AV, renL (fun i => i) xs = xs
  | [] => rfl
  | x :: xs => by simp only [renL, ren_id x, renL_id xs]
end

/-- what holds of closed values holds over any heap -/
theorem closed_rel {m : Mem} {L : Heap} {x : AV} {u : Value} (h : VRel m L x u) (hs : scp 0 x = true) : VRel m [] x u :=
  VRel.ren (ρ := fun i => i) ⟨rfl, fun _ h => by simp at h, fun _ h => by simp at h, fun _ _ h => by simp at h, fun _ _ h => by simp at h⟩ x u (by rw [ren_id]; exact h) hs
theorem closedL_rel {m : Mem} {L : Heap} {xs : List AV} {us : List Value} (h : CRel m L xs us) (hs : scpL 0 xs = true) : CRel m [] xs us :=
  CRel.ren (ρ := fun i => i) ⟨rfl, fun _ h => by simp at h, fun _ h => by simp at h, fun _ _ h => by simp at h, fun _ _ h => by simp at h⟩ xs us (by rw [renL_id]; exact h) hs

mutual
def frzV (L : Heap) (id : Nat) : AV → AV
  | .msl i ver off n => cond (i == id) (cond (ver == verOf L id) (.sl (((rowOf L id).drop (off * szOf L id)).take (n * szOf L id)) n) .any) (.msl i ver off n)
  | .ref i ver off => cond (i == id) (cond (ver == verOf L id) (cond (isRow L id) (.ip ((rowOf L id).drop off)) .any) .any) (.ref i ver off)
  | .agg cs => .agg (frzL L id cs)
  | .tup cs => .tup (frzL L id cs)
  | .sl cs n => cond (scpL 0 cs) (.sl cs n) .any
  | .ip cs => cond (scpL 0 cs) (.ip cs) .any
  | .fn f a b => cond (scpL 0 a && scpL 0 b) (.fn f a b) .any
  | .ifc t x => .ifc t (frzV L id x)
  | .when c x => cond (scp 0 x) (.when c x) .any
  | .alt c x y => cond (scp 0 x && scp 0 y) (.alt c x y) .any
  | .any => .any
  | .int k n => .int k n
  | .bool b => .bool b
  | .str l => .str l
  | .lit v => .lit v
  | .ub p q => .ub p q
  | .csl i ver off n => cond (i == id) (cond (ver == verOf L id) (.sl (((rowOf L id).drop (off * szOf L id)).take (n * szOf L id)) n) .any) (.csl i ver off n)
  | .mp i => cond (i == id) (match L[id]? with | some (.raw (.map kd f)) => .mpr kd f | _ => .any) (.mp i)
  | .mpr kd f => .mpr kd f
def frzL (L : Heap) (id : Nat) : List AV → List AV
  | [] => []
  | x :: xs => frzV L id x :: frzL L id xs
end
def frzO (L : Heap) (id : Nat) : AObj → AObj
  | .row cs sz v => .row (frzL L id cs) sz v
  | .raw r => .raw r
  | .dead => .dead
def frzH (L : Heap) (id : Nat) : Heap := (L.set id .dead).map (frzO L id)
/-- a row that can be laid fast -/
def frzOk (L : Heap) (id : Nat) : Prop := isRow L id = true ∧ scpL 0 (rowOf L id) = true
def isMap (L : Heap) (id : Nat) : Bool := match L[id]? with | some (.raw (.map ..)) => true | _ => false
/-- a row, or a map -/
def frzOk' (L : Heap) (id : Nat) : Prop := frzOk L id ∨ isMap L id = true

theorem frzL_length (L : Heap) (id : Nat) : ∀ cs : List AV, (frzL L id cs).length = cs.length
  | [] => rfl
  | x :: xs => by simp only [frzL, List.length_cons, frzL_length L id xs]

open Classical in
noncomputable def frzM (m : Mem) (L : Heap) (w : World) (id : Nat) : Mem := { m with pobj := fun g => if g = m.blk id ∧ Own m L id then w.heap[g]? else m.pobj g }

section
variable {m : Mem} {L : Heap} {w : World} {id : Nat}

theorem frz_obj {j : Nat} (hj : j ≠ id) : (frzH L id)[j]? = (L[j]?).map (frzO L id) := by
  simp only [frzH, List.getElem?_map, List.getElem?_set_ne (Ne.symm hj)]
theorem frz_lt (hok : frzOk' L id) : id < L.length := by
  rcases Nat.lt_or_ge id L.length with h | h
  · exact h
  · rcases hok with hok | hok
    · have := hok.1; simp [isRow, List.getElem?_eq_none h] at this
    · simp [isMap, List.getElem?_eq_none h] at hok
theorem frz_pobj (hW : WRel m L w) {g : Nat} {o : Obj} (hp : m.pobj g = some o) : (frzM m L w id).pobj g = some o := by
  simp only [frzM]
  split
  · rename_i h
    have := hW.freeo id h.2
    rw [← h.1, hp] at this; cases this
  · exact hp

theorem frz_mono0 (hW : WRel m L w) : Mono m [] (frzM m L w id) (frzH L id) :=
  ⟨fun g o h => frz_pobj hW h, fun _ _ _ _ h => by simp at h, fun _ _ h => by simp at h⟩
theorem frz_closed (hW : WRel m L w) {x : AV} {u : Value} (h : VRel m L x u) (hs : scp 0 x = true) : VRel (frzM m L w id) (frzH L id) x u :=
  VRel.mono (frz_mono0 hW) _ _ (closed_rel h hs)
theorem frz_closedL (hW : WRel m L w) {xs : List AV} {us : List Value} (h : CRel m L xs us) (hs : scpL 0 xs = true) : CRel (frzM m L w id) (frzH L id) xs us :=
  CRel.mono (frz_mono0 hW) _ _ (closedL_rel h hs)

/-- the row's cells are pinned now -/
theorem frz_cells (hW : WRel m L w) (hok : frzOk L id) : ∃ us, CRel (frzM m L w id) (frzH L id) (rowOf L id) us ∧ ∀ j v, us[j]? = some v → (frzM m L w id).pin (m.blk id) j = some v := by
  obtain ⟨cs, sz, hL, h1, h2⟩ := fresh_row (L := L) (id := id) (ver := verOf L id) ⟨hok.1, rfl⟩
  obtain ⟨us, hc, hcell, _⟩ := row_cells hW hL
  have hs := hok.2
  rw [h1] at hs ⊢
  refine ⟨us, frz_closedL hW hc hs, fun j v hj => ?_⟩
  have hcap : m.cap id ≠ 0 := by
    intro h0
    have := hW.nils _ _ _ _ hL h0
    subst this
    simp only [CRel] at hc
    subst hc
    simp at hj
  refine Mem.pin_heap ?_ (hcell _ _ hj)
  simp only [frzM]
  rw [if_pos ⟨rfl, .inl ⟨_, _, _, hL, hcap⟩⟩]

mutual
theorem VRel.frz (hW : WRel m L w) (hok : frzOk' L id) : ∀ (x : AV) (u : Value), VRel m L x u → VRel (frzM m L w id) (frzH L id) (frzV L id x) u
  | .any, _, _ => by simp [frzV, VRel]
  | .int .., _, h => by simpa [frzV, VRel] using h
  | .bool _, _, h => by simpa [frzV, VRel] using h
  | .str _, _, h => by simpa [frzV, VRel] using h
  | .lit _, _, h => by simpa [frzV, VRel] using h
  | .agg cs, u, h => by
    simp only [VRel, frzV] at *
    obtain ⟨us, rfl, hc⟩ := h
    exact ⟨us, rfl, CRel.frz hW hok cs us hc⟩
  | .tup cs, u, h => by
    simp only [VRel, frzV] at *
    obtain ⟨us, rfl, hc⟩ := h
    exact ⟨us, rfl, CRel.frz hW hok cs us hc⟩
  | .sl cs n, u, h => by
    simp only [frzV]
    cases hs : scpL 0 cs
    · simp [VRel]
    · exact frz_closed hW h hs
  | .ip cs, u, h => by
    simp only [frzV]
    cases hs : scpL 0 cs
    · simp [VRel]
    · exact frz_closed hW h hs
  | .fn f a b, u, h => by
    simp only [frzV]
    cases hs : scpL 0 a && scpL 0 b
    · simp [VRel]
    · exact frz_closed hW h (by simpa [scp] using hs)
  | .when c x, u, h => by
    simp only [frzV]
    cases hs : scp 0 x
    · simp [VRel]
    · exact frz_closed hW h (by simpa [scp] using hs)
  | .alt c x y, u, h => by
    simp only [frzV]
    cases hs : scp 0 x && scp 0 y
    · simp [VRel]
    · exact frz_closed hW h (by simpa [scp] using hs)
  | .ifc t x, u, h => by
    simp only [VRel, frzV] at *
    obtain ⟨v, rfl, h⟩ := h
    exact ⟨v, rfl, VRel.frz hW hok x v h⟩
  | .msl i ver off n, u, h => by
    simp only [frzV]
    by_cases hi : i = id
    · subst hi
      simp only [beq_self_eq_true, cond_true]
      by_cases hv : ver = verOf L i
      · simp only [hv, beq_self_eq_true, cond_true]
        have hrow : frzOk L i := by
          rcases hok with hok | hok
          · exact hok
          · simp only [VRel] at h
            obtain ⟨_, _, _, hL, _⟩ := h
            simp [isMap, hL] at hok
        have hf : fresh L i (verOf L i) := ⟨hrow.1, rfl⟩
        rw [hv] at h
        obtain ⟨k1, k2, a, rfl, ha⟩ := msl_slice h hf
        obtain ⟨us, hc, hp⟩ := frz_cells hW hrow
        simp only [VRel]
        refine ⟨a, _, rfl, by omega, _, (hc.drop (off * szOf L i)).take (n * szOf L i), ?_⟩
        rcases ha with ha | ha
        · have : n = 0 := by omega
          subst this
          simp
        · refine .inr ⟨_, _, ha, fun j v hj => hp _ _ ?_⟩
          rw [List.getElem?_take, List.getElem?_drop] at hj
          split at hj
          · exact hj
          · cases hj
      · have : (ver == verOf L i) = false := by simp [hv]
        simp [this, VRel]
    · have : (i == id) = false := by simp [hi]
      simp only [this, cond_false, VRel] at h ⊢
      obtain ⟨cs, sz, v, hL, hle, hsh, h⟩ := h
      refine ⟨frzL L id cs, sz, v, by rw [frz_obj hi, hL]; rfl, hle, hsh, ?_⟩
      rw [frzL_length]
      exact h
  | .ref i ver off, u, h => by
    simp only [frzV]
    by_cases hi : i = id
    · subst hi
      simp only [beq_self_eq_true, cond_true]
      by_cases hv : ver = verOf L i
      · simp only [hv, beq_self_eq_true, cond_true]
        by_cases hrow : frzOk L i
        case neg =>
          have : cond (isRow L i) (AV.ip ((rowOf L i).drop off)) .any = .any := by
            rcases hok with hok | hok
            · exact absurd hok hrow
            · unfold isMap at hok
              split at hok
              · rename_i hL; simp [isRow, hL]
              · cases hok
          rw [this]; simp [VRel]
        rw [hrow.1]
        have hf : fresh L i (verOf L i) := ⟨hrow.1, rfl⟩
        rw [hv] at h
        have hu := ref_ptr h hf
        obtain ⟨us, hc, hp⟩ := frz_cells hW hrow
        simp only [cond_true, VRel]
        exact ⟨_, _, _, hu, hc.drop off, fun j v hj => hp _ _ (by rw [List.getElem?_drop] at hj; exact hj)⟩
      · have : (ver == verOf L i) = false := by simp [hv]
        simp [this, VRel]
    · have : (i == id) = false := by simp [hi]
      simp only [this, cond_false, VRel] at h ⊢
      rcases h with ⟨cs, sz, v, hL, hle, hsh, h⟩ | ⟨r, hL, h⟩
      · exact .inl ⟨frzL L id cs, sz, v, by rw [frz_obj hi, hL]; rfl, hle, hsh, h⟩
      · exact .inr ⟨r, by rw [frz_obj hi, hL]; rfl, h⟩
  | .ub .., _, h => by simpa only [frzV, VRel] using h
  | .csl i ver off n, u, h => by
    simp only [frzV]
    by_cases hi : i = id
    · subst hi
      simp only [beq_self_eq_true, cond_true]
      by_cases hv : ver = verOf L i
      · simp only [hv, beq_self_eq_true, cond_true]
        have hrow : frzOk L i := by
          rcases hok with hok | hok
          · exact hok
          · simp only [VRel] at h
            obtain ⟨_, _, _, hL, _⟩ := h
            simp [isMap, hL] at hok
        have hf : fresh L i (verOf L i) := ⟨hrow.1, rfl⟩
        rw [hv] at h
        obtain ⟨k1, k2, a, rfl, ha⟩ := csl_slice h hf
        obtain ⟨us, hc, hp⟩ := frz_cells hW hrow
        simp only [VRel]
        refine ⟨a, _, rfl, by omega, _, (hc.drop (off * szOf L i)).take (n * szOf L i), ?_⟩
        rcases ha with ha | ha
        · have : n = 0 := by omega
          subst this
          simp
        · refine .inr ⟨_, _, ha, fun j v hj => hp _ _ ?_⟩
          rw [List.getElem?_take, List.getElem?_drop] at hj
          split at hj
          · exact hj
          · cases hj
      · have : (ver == verOf L i) = false := by simp [hv]
        simp [this, VRel]
    · have : (i == id) = false := by simp [hi]
      simp only [this, cond_false, VRel] at h ⊢
      obtain ⟨cs, sz, v, hL, hle, hsh, h⟩ := h
      refine ⟨frzL L id cs, sz, v, by rw [frz_obj hi, hL]; rfl, hle, hsh, ?_⟩
      rw [frzL_length]
      exact h
  | .mp i, u, h => by
    simp only [frzV]
    by_cases hi : i = id
    · subst hi
      simp only [beq_self_eq_true, cond_true]
      split
      · rename_i kd f hL
        simp only [VRel] at h ⊢
        obtain ⟨r, hL', hu⟩ := h
        obtain ⟨o, hb, hr⟩ := hW.iters _ _ hL
        simp only [RawRel] at hr
        obtain ⟨es, clock, rfl, hM⟩ := hr
        refine ⟨m.blk i, es, clock, hu, ?_, hM⟩
        simp only [frzM]
        rw [if_pos ⟨rfl, .inr ⟨_, hL⟩⟩]
        exact hb
      · simp [VRel]
    · have : (i == id) = false := by simp [hi]
      simp only [this, cond_false, VRel] at h ⊢
      obtain ⟨r, hL, h⟩ := h
      exact ⟨r, by rw [frz_obj hi, hL]; rfl, h⟩
  | .mpr kd f, u, h => by
    simp only [frzV, VRel] at *
    obtain ⟨g, es, clock, hu, hp, hM⟩ := h
    exact ⟨g, es, clock, hu, frz_pobj hW hp, hM⟩
theorem CRel.frz (hW : WRel m L w) (hok : frzOk' L id) : ∀ (cs : List AV) (us : List Value), CRel m L cs us → CRel (frzM m L w id) (frzH L id) (frzL L id cs) us
  | [], _, h => by simpa [CRel, frzL] using h
  | c :: cs, us, h => by
    simp only [CRel, frzL] at *
    obtain ⟨u, us', rfl, h1, h2⟩ := h
    exact ⟨u, us', rfl, VRel.frz hW hok c u h1, CRel.frz hW hok cs us' h2⟩
end

theorem frz_dead (hok : frzOk' L id) : (frzH L id)[id]? = some .dead := by
  have := frz_lt hok
  simp [frzH, this, frzO]

theorem frz_row {j : Nat} {cs' : List AV} {sz ver : Nat} (hr : frzOk' L id) (h : (frzH L id)[j]? = some (.row cs' sz ver)) : j ≠ id ∧ ∃ cs, L[j]? = some (.row cs sz ver) ∧ cs' = frzL L id cs := by
  have hj : j ≠ id := by intro e; rw [e, frz_dead hr] at h; cases h
  rw [frz_obj hj, Option.map_eq_some_iff] at h
  obtain ⟨o, h1, h2⟩ := h
  cases o <;> simp only [frzO, reduceCtorEq, AObj.row.injEq] at h2
  obtain ⟨rfl, rfl, rfl⟩ := h2
  exact ⟨hj, _, h1, rfl⟩
theorem frz_iter {j : Nat} {r : Raw} (hr : frzOk' L id) (h : (frzH L id)[j]? = some (.raw r)) : j ≠ id ∧ L[j]? = some (.raw r) := by
  have hj : j ≠ id := by intro e; rw [e, frz_dead hr] at h; cases h
  rw [frz_obj hj, Option.map_eq_some_iff] at h
  obtain ⟨o, h1, h2⟩ := h
  cases o <;> simp only [frzO, reduceCtorEq, AObj.raw.injEq] at h2
  subst h2
  exact ⟨hj, h1⟩
theorem frz_own {j : Nat} (hr : frzOk' L id) (h : Own (frzM m L w id) (frzH L id) j) : j ≠ id ∧ Own m L j := by
  rcases h with ⟨cs, sz, ver, hL, hc⟩ | ⟨r, hL⟩
  · obtain ⟨h1, cs', h2, _⟩ := frz_row hr hL
    exact ⟨h1, .inl ⟨_, _, _, h2, hc⟩⟩
  · obtain ⟨h1, h2⟩ := frz_iter hr hL
    exact ⟨h1, .inr ⟨_, h2⟩⟩

theorem WRel.frz (hW : WRel m L w) (hok : frzOk' L id) : WRel (frzM m L w id) (frzH L id) w := by
  refine ⟨hW.glob.mono fun g o h => by simp only [frzM]; split; exact hW.pobjs _ _ h; exact h, fun g o hp => ?_, fun j cs sz ver hL hc => ?_, fun j cs sz ver hL hc => ?_, fun j r hL => ?_, fun i j hi hj he => ?_, fun j ho => ?_, ?_⟩
  · simp only [frzM] at hp
    split at hp
    · exact hp
    · exact hW.pobjs _ _ hp
  · obtain ⟨hj, cs', hL', rfl⟩ := frz_row hok hL
    obtain ⟨us, rest, elem, lo, hi, k1, k2, k3, k4⟩ := hW.rows _ _ _ _ hL' hc
    exact ⟨us, rest, elem, lo, hi, k1, CRel.frz hW hok _ _ k2, k3, k4⟩
  · obtain ⟨hj, cs', hL', rfl⟩ := frz_row hok hL
    rw [hW.nils _ _ _ _ hL' hc]; rfl
  · exact hW.iters _ _ (frz_iter hok hL).2
  · exact hW.inj i j (frz_own hok hi).2 (frz_own hok hj).2 he
  · obtain ⟨hj, ho'⟩ := frz_own hok ho
    simp only [frzM]
    rw [if_neg]
    · exact hW.freeo j ho'
    · rintro ⟨h1, h2⟩
      exact hj (hW.inj j id ho' h2 h1)
  · refine hW.hid.keep (fun i T e l h => ⟨(frz_iter hok h).2, rfl, rfl⟩) (fun _ _ _ _ _ _ => rfl) (fun _ _ _ => rfl) (fun i g k => ?_) (fun i g k j hj => hW.hid.own i g k j (frz_own hok hj).2)
    simp only [frzM]
    rw [if_neg]
    · exact hW.hid.free i g k
    · rintro ⟨h1, h2⟩; exact hW.hid.own i g k id h2 h1.symm

theorem Ext.frz {m0 : Mem} {L0 : Heap} {w0 : World} (hE : Ext m0 L0 w0 m L w) (hW : WRel m L w) (hok : frzOk' L id) (hle : L0.length ≤ id) : Ext m0 L0 w0 (frzM m L w id) (frzH L id) w := by
  have hb : Own m L id → w0.heap.size ≤ m.blk id := by
    intro ho
    rcases hE.blks id ho with ⟨h1, _⟩ | h1
    · rcases h1 with ⟨_, _, _, h, _⟩ | ⟨_, h⟩ <;> (have := (List.getElem?_eq_some_iff.1 h).1; omega)
    · exact h1
  refine ⟨hE.frame, hE.size, fun g hg => ?_, fun j ho => hE.blks j (frz_own hok ho).2, by simp only [frzH, List.length_map, List.length_set]; exact hE.len, ⟨fun g o hp => frz_pobj hW (hE.mono.pobj _ _ hp), fun j cs sz ver hL => ?_, fun j r hL => ?_⟩, hE.same, fun i g ⟨T, e, l, k1, k2⟩ => hE.hnew i g ⟨T, e, l, (frz_iter hok k1).2, k2⟩⟩
  · simp only [frzM]
    rw [if_neg]
    · exact hE.newobj g hg
    · rintro ⟨h1, h2⟩; have := hb h2; omega
  · obtain ⟨cs', v', h1, h2, h3⟩ := hE.mono.row _ _ _ _ hL
    have hj : j ≠ id := by have := (List.getElem?_eq_some_iff.1 hL).1; omega
    refine ⟨frzL L id cs', v', by rw [frz_obj hj, h1]; rfl, h2, fun e => ?_⟩
    rw [frzL_length]; exact h3 e
  · obtain ⟨r', h1, h2⟩ := hE.mono.iter _ _ hL
    have hj : j ≠ id := by have := (List.getElem?_eq_some_iff.1 hL).1; omega
    exact ⟨r', by rw [frz_obj hj, h1]; rfl, h2⟩
end

/-! ### A nil slice is an own row without room -/

def nilM (m : Mem) (n : Nat) : Mem := { m with cap := fun i => if i = n then 0 else m.cap i }

section
variable {m : Mem} {L : Heap} {w : World} {sz : Nat}

theorem nil_get {j : Nat} {o : AObj} (h : (L ++ [AObj.row [] sz 0])[j]? = some o) : (j < L.length ∧ L[j]? = some o) ∨ (j = L.length ∧ o = .row [] sz 0) := by
  by_cases hlt : j < L.length
  · rw [List.getElem?_append_left hlt] at h; exact .inl ⟨hlt, h⟩
  · rw [List.getElem?_append_right (by omega)] at h
    have : j - L.length = 0 := by
      have := (List.getElem?_eq_some_iff.1 h).1
      simp at this; omega
    rw [this] at h
    simp at h
    exact .inr ⟨by omega, h.symm⟩
theorem nil_mono : Mono m L (nilM m L.length) (L ++ [AObj.row [] sz 0]) := by
  refine ⟨fun _ _ h => h, fun id cs s v h => ?_, fun id r h => ?_⟩ <;> have hlt := (List.getElem?_eq_some_iff.1 h).1
  · exact ⟨cs, v, by rw [List.getElem?_append_left hlt]; exact h, Nat.le_refl _, fun _ => ⟨rfl, rfl, by simp only [nilM]; rw [if_neg (by omega)]⟩⟩
  · exact ⟨r, by rw [List.getElem?_append_left hlt]; exact h, rfl⟩
theorem nil_own {j : Nat} (h : Own (nilM m L.length) (L ++ [AObj.row [] sz 0]) j) : j < L.length ∧ Own m L j := by
  rcases h with ⟨cs, s, v, hL, hc⟩ | ⟨r, hL⟩
  · rcases nil_get hL with ⟨h1, h2⟩ | ⟨h1, _⟩
    · simp only [nilM] at hc
      rw [if_neg (by omega)] at hc
      exact ⟨h1, .inl ⟨_, _, _, h2, hc⟩⟩
    · subst h1; simp [nilM] at hc
  · rcases nil_get hL with ⟨h1, h2⟩ | ⟨_, h2⟩
    · exact ⟨h1, .inr ⟨_, h2⟩⟩
    · cases h2
theorem nil_hid {j : Nat} {T e : TypeId} {l : List UInt8} (h : (L ++ [AObj.row [] sz 0])[j]? = some (.raw (.bld T e l))) : L[j]? = some (.raw (.bld T e l)) ∧ (nilM m L.length).blk j = m.blk j ∧ (nilM m L.length).cap j = m.cap j := by
  rcases nil_get h with ⟨h1, h2⟩ | ⟨_, h2⟩
  · exact ⟨h2, rfl, by simp only [nilM]; rw [if_neg (by omega)]⟩
  · cases h2
theorem WRel.nil (hW : WRel m L w) : WRel (nilM m L.length) (L ++ [AObj.row [] sz 0]) w := by
  refine ⟨hW.glob, hW.pobjs, fun j cs s v hL hc => ?_, fun j cs s v hL hc => ?_, fun j r hL => ?_, fun i j hi hj he => hW.inj i j (nil_own hi).2 (nil_own hj).2 he, fun j ho => hW.freeo j (nil_own ho).2, hW.hid.keep (fun i T e l h => nil_hid h) (fun _ _ _ _ _ _ => rfl) (fun _ _ _ => rfl) (fun i g k => hW.hid.free i g k) (fun i g k j hj => hW.hid.own i g k j (nil_own hj).2)⟩
  · rcases nil_get hL with ⟨h1, h2⟩ | ⟨h1, _⟩
    · simp only [nilM] at hc ⊢
      rw [if_neg (by omega)] at hc ⊢
      obtain ⟨us, rest, elem, lo, hi, k1, k2, k3, k4⟩ := hW.rows _ _ _ _ h2 hc
      exact ⟨us, rest, elem, lo, hi, k1, CRel.mono nil_mono _ _ k2, k3, k4⟩
    · subst h1; simp [nilM] at hc
  · rcases nil_get hL with ⟨h1, h2⟩ | ⟨_, h2⟩
    · simp only [nilM] at hc
      rw [if_neg (by omega)] at hc
      exact hW.nils _ _ _ _ h2 hc
    · cases h2; rfl
  · rcases nil_get hL with ⟨h1, h2⟩ | ⟨_, h2⟩
    · exact hW.iters _ _ h2
    · cases h2
theorem Ext.nil {m0 : Mem} {L0 : Heap} {w0 : World} (hE : Ext m0 L0 w0 m L w) : Ext m0 L0 w0 (nilM m L.length) (L ++ [AObj.row [] sz 0]) w :=
  ⟨hE.frame, hE.size, hE.newobj, fun j ho => hE.blks j (nil_own ho).2, by simp; have := hE.len; omega, hE.mono.trans nil_mono, hE.same, fun i g ⟨T, e, l, k1, k2⟩ => hE.hnew i g ⟨T, e, l, (nil_hid (m := m) k1).1, by rw [← (nil_hid (m := m) k1).2.2]; exact k2⟩⟩
theorem nil_rel {fr : List AV} {us : List Value} (h : CRel m L fr us) (i : Nat) (hi : fr.getD i .any = .lit (.slice none 0 0)) : CRel (nilM m L.length) (L ++ [AObj.row [] sz 0]) (fr.set i (.msl L.length 0 0 0)) us := by
  have h1 := h.getD i
  rw [hi] at h1
  simp only [VRel] at h1
  have hv : VRel (nilM m L.length) (L ++ [AObj.row [] sz 0]) (.msl L.length 0 0 0) (us.getD i undef) := by
    rw [h1]
    simp only [VRel]
    exact ⟨[], sz, 0, by simp, Nat.le_refl _, ⟨none, 0, 0, rfl⟩, fun _ => ⟨by simp, by simp, none, by simp [nilM], .inl (by simp [nilM])⟩⟩
  have h2 := (CRel.mono (nil_mono (sz := sz)) _ _ h).set i hv
  have : us.set i (us.getD i undef) = us := by
    apply List.ext_getElem?
    intro j
    rw [List.getElem?_set]
    split
    · rename_i hij
      subst hij
      split
      · rename_i hlt; simp [List.getD, hlt]
      · rename_i hlt; rw [List.getElem?_eq_none (by omega)]
    · rfl
  rwa [this] at h2
end

/-! ### A row's version is turned to another number -/

mutual
def verV (L : Heap) (id v' : Nat) : AV → AV
  | .msl i ver off n => cond (i == id) (cond (ver == verOf L id) (.msl i v' off n) .any) (.msl i ver off n)
  | .csl i ver off n => cond (i == id) (cond (ver == verOf L id) (.csl i v' off n) .any) (.csl i ver off n)
  | .ref i ver off => cond (i == id) (cond (ver == verOf L id) (.ref i v' off) .any) (.ref i ver off)
  | .agg cs => .agg (verL L id v' cs)
  | .tup cs => .tup (verL L id v' cs)
  | .sl cs n => cond (scpL 0 cs) (.sl cs n) .any
  | .ip cs => cond (scpL 0 cs) (.ip cs) .any
  | .fn f a b => .fn f (verL L id v' a) (verL L id v' b)
  | .ifc t x => .ifc t (verV L id v' x)
  | .when c x => cond (scp 0 x) (.when c x) .any
  | .alt c x y => cond (scp 0 x && scp 0 y) (.alt c x y) .any
  | .any => .any
  | .int k n => .int k n
  | .bool b => .bool b
  | .str l => .str l
  | .lit v => .lit v
  | .ub p q => .ub p q
  | .mp i => .mp i
  | .mpr kd f => .mpr kd f
def verL (L : Heap) (id v' : Nat) : List AV → List AV
  | [] => []
  | x :: xs => verV L id v' x :: verL L id v' xs
end
def verO (L : Heap) (id v' : Nat) : AObj → AObj
  | .row cs sz v => .row (verL L id v' cs) sz v
  | .raw r => .raw r
  | .dead => .dead
def verH (L : Heap) (id v' : Nat) : Heap := (match L[id]? with | some (.row cs sz _) => L.set id (.row cs sz v') | _ => L).map (verO L id v')
theorem verL_length (L : Heap) (id v' : Nat) : ∀ cs : List AV, (verL L id v' cs).length = cs.length
  | [] => rfl
  | x :: xs => by simp only [verL, List.length_cons, verL_length L id v' xs]

section
variable {m : Mem} {L : Heap} {w : World} {id v' : Nat}

theorem ver_obj {j : Nat} (hj : j ≠ id) : (verH L id v')[j]? = (L[j]?).map (verO L id v') := by
  simp only [verH]
  split
  · rw [List.getElem?_map, List.getElem?_set_ne (Ne.symm hj)]
  · rw [List.getElem?_map]
theorem ver_at {cs : List AV} {sz v : Nat} (h : L[id]? = some (.row cs sz v)) : (verH L id v')[id]? = some (.row (verL L id v' cs) sz v') := by
  have hlt := (List.getElem?_eq_some_iff.1 h).1
  simp only [verH, h, List.getElem?_map, List.getElem?_set_self hlt, Option.map_some, verO]
theorem ver_raw {j : Nat} {r : Raw} (h : L[j]? = some (.raw r)) : (verH L id v')[j]? = some (.raw r) := by
  by_cases hj : j = id
  · subst hj
    simp only [verH, h, List.getElem?_map, Option.map_some, verO]
  · rw [ver_obj hj, h]; rfl
theorem ver_row (hr : isRow L id = true) {j : Nat} {cs : List AV} {sz v : Nat} (h : (verH L id v')[j]? = some (.row cs sz v)) : ∃ cs0 v0, L[j]? = some (.row cs0 sz v0) ∧ cs = verL L id v' cs0 := by
  by_cases hj : j = id
  · subst hj
    obtain ⟨cs0, sz0, hL, _⟩ := fresh_row (L := L) (id := j) (ver := verOf L j) ⟨hr, rfl⟩
    rw [ver_at hL] at h
    simp only [Option.some.injEq, AObj.row.injEq] at h
    obtain ⟨rfl, rfl, rfl⟩ := h
    exact ⟨cs0, _, hL, rfl⟩
  · rw [ver_obj hj, Option.map_eq_some_iff] at h
    obtain ⟨o, h1, h2⟩ := h
    cases o <;> simp only [verO, reduceCtorEq, AObj.row.injEq] at h2
    obtain ⟨rfl, rfl, rfl⟩ := h2
    exact ⟨_, _, h1, rfl⟩
theorem ver_raw' (hr : isRow L id = true) {j : Nat} {r : Raw} (h : (verH L id v')[j]? = some (.raw r)) : L[j]? = some (.raw r) := by
  by_cases hj : j = id
  · subst hj
    obtain ⟨cs0, sz0, hL, _⟩ := fresh_row (L := L) (id := j) (ver := verOf L j) ⟨hr, rfl⟩
    rw [ver_at hL] at h; cases h
  · rw [ver_obj hj, Option.map_eq_some_iff] at h
    obtain ⟨o, h1, h2⟩ := h
    cases o <;> simp only [verO, reduceCtorEq, AObj.raw.injEq] at h2
    subst h2; exact h1
theorem ver_own (hr : isRow L id = true) {j : Nat} (h : Own m (verH L id v') j) : Own m L j := by
  rcases h with ⟨cs, sz, ver, hL, hc⟩ | ⟨r, hL⟩
  · obtain ⟨cs0, v0, h1, _⟩ := ver_row hr hL
    exact .inl ⟨_, _, _, h1, hc⟩
  · exact .inr ⟨_, ver_raw' hr hL⟩
theorem ver_closed {x : AV} {u : Value} (h : VRel m L x u) (hs : scp 0 x = true) : VRel m (verH L id v') x u :=
  VRel.mono (m := m) (L := []) ⟨fun _ _ h => h, fun _ _ _ _ h => by simp at h, fun _ _ h => by simp at h⟩ _ _ (closed_rel h hs)

/-- the facts on a slice or a pointer of an own row, at another version -/
theorem ver_leaf {i ver : Nat} {Q : Nat → Nat → Prop} {S : Prop} (hr : isRow L id = true)
    (h : ∃ cs sz v, L[i]? = some (.row cs sz v) ∧ ver ≤ v ∧ S ∧ (v = ver → Q sz cs.length)) :
    (i = id → ver = verOf L id → ∃ cs sz v, (verH L id v')[i]? = some (.row cs sz v) ∧ v' ≤ v ∧ S ∧ (v = v' → Q sz cs.length)) ∧
    (i ≠ id → ∃ cs sz v, (verH L id v')[i]? = some (.row cs sz v) ∧ ver ≤ v ∧ S ∧ (v = ver → Q sz cs.length)) := by
  obtain ⟨cs, sz, v, hL, hle, hs, hq⟩ := h
  refine ⟨fun hi hv => ?_, fun hi => ?_⟩
  · subst hi
    have : v = ver := by rw [hv]; simp [verOf, hL]
    exact ⟨verL L i v' cs, sz, v', ver_at hL, Nat.le_refl _, hs, fun _ => by rw [verL_length]; exact hq this⟩
  · exact ⟨verL L id v' cs, sz, v, by rw [ver_obj hi, hL]; rfl, hle, hs, by rw [verL_length]; exact hq⟩

mutual
theorem VRel.ver (hr : isRow L id = true) : ∀ (x : AV) (u : Value), VRel m L x u → VRel m (verH L id v') (verV L id v' x) u
  | .any, _, _ => by simp [verV, VRel]
  | .int .., _, h => by simpa [verV, VRel] using h
  | .bool _, _, h => by simpa [verV, VRel] using h
  | .str _, _, h => by simpa [verV, VRel] using h
  | .lit _, _, h => by simpa [verV, VRel] using h
  | .ub .., _, h => by simpa only [verV, VRel] using h
  | .agg cs, u, h => by
    simp only [VRel, verV] at *
    obtain ⟨us, rfl, hc⟩ := h
    exact ⟨us, rfl, CRel.ver hr cs us hc⟩
  | .tup cs, u, h => by
    simp only [VRel, verV] at *
    obtain ⟨us, rfl, hc⟩ := h
    exact ⟨us, rfl, CRel.ver hr cs us hc⟩
  | .sl cs n, u, h => by
    simp only [verV]
    cases hs : scpL 0 cs
    · simp [VRel]
    · exact ver_closed h hs
  | .ip cs, u, h => by
    simp only [verV]
    cases hs : scpL 0 cs
    · simp [VRel]
    · exact ver_closed h hs
  | .fn f a b, u, h => by
    simp only [VRel, verV] at *
    obtain ⟨us, vs, rfl, h1, h2⟩ := h
    exact ⟨us, vs, rfl, CRel.ver hr a us h1, CRel.ver hr b vs h2⟩
  | .when c x, u, h => by
    simp only [verV]
    cases hs : scp 0 x
    · simp [VRel]
    · exact ver_closed h (by simpa [scp] using hs)
  | .alt c x y, u, h => by
    simp only [verV]
    cases hs : scp 0 x && scp 0 y
    · simp [VRel]
    · exact ver_closed h (by simpa [scp] using hs)
  | .ifc t x, u, h => by
    simp only [VRel, verV] at *
    obtain ⟨v, rfl, h⟩ := h
    exact ⟨v, rfl, VRel.ver hr x v h⟩
  | .msl i ver off n, u, h => by
    simp only [verV]
    simp only [VRel] at h
    have k := ver_leaf (v' := v') (Q := fun sz l => (off + n) * sz ≤ l ∧ off + n ≤ m.cap i ∧ ∃ a, u = .slice a n (m.cap i - off) ∧ (off = m.cap i ∨ a = some ⟨m.blk i, off * sz, none⟩)) hr h
    by_cases hi : i = id
    · by_cases hv : ver = verOf L id
      · have := k.1 hi hv
        simpa only [hi, hv, beq_self_eq_true, cond_true, VRel] using this
      · have e : (ver == verOf L id) = false := by simp [hv]
        simp [hi, e, VRel]
    · have e : (i == id) = false := by simp [hi]
      simpa only [e, cond_false, VRel] using k.2 hi
  | .csl i ver off n, u, h => by
    simp only [verV]
    simp only [VRel] at h
    have k := ver_leaf (v' := v') (Q := fun sz l => (off + n) * sz ≤ l ∧ off + n ≤ m.cap i ∧ ∃ a, u = .slice a n n ∧ (n = 0 ∨ a = some ⟨m.blk i, off * sz, none⟩)) hr h
    by_cases hi : i = id
    · by_cases hv : ver = verOf L id
      · have := k.1 hi hv
        simpa only [hi, hv, beq_self_eq_true, cond_true, VRel] using this
      · have e : (ver == verOf L id) = false := by simp [hv]
        simp [hi, e, VRel]
    · have e : (i == id) = false := by simp [hi]
      simpa only [e, cond_false, VRel] using k.2 hi
  | .ref i ver off, u, h => by
    simp only [verV]
    simp only [VRel] at h
    rcases h with h | ⟨r, hL, h⟩
    · have k := ver_leaf (v' := v') (Q := fun _ _ => u = .pointer (some ⟨m.blk i, off, none⟩)) hr h
      by_cases hi : i = id
      · by_cases hv : ver = verOf L id
        · have := k.1 hi hv
          simp only [hi, hv, beq_self_eq_true, cond_true, VRel]
          left; simpa only [hi] using this
        · have e : (ver == verOf L id) = false := by simp [hv]
          simp [hi, e, VRel]
      · have e : (i == id) = false := by simp [hi]
        simp only [e, cond_false, VRel]
        exact .inl (k.2 hi)
    · have hi : i ≠ id := by
        intro e; subst e
        simp [isRow, hL] at hr
      have e : (i == id) = false := by simp [hi]
      simp only [e, cond_false, VRel]
      exact .inr ⟨r, ver_raw hL, h⟩
  | .mp i, u, h => by
    simp only [verV, VRel] at *
    obtain ⟨r, hL, h⟩ := h
    exact ⟨r, ver_raw hL, h⟩
  | .mpr kd f, u, h => by simpa only [verV, VRel] using h
theorem CRel.ver (hr : isRow L id = true) : ∀ (cs : List AV) (us : List Value), CRel m L cs us → CRel m (verH L id v') (verL L id v' cs) us
  | [], _, h => by simpa [CRel, verL] using h
  | c :: cs, us, h => by
    simp only [CRel, verL] at *
    obtain ⟨u, us', rfl, h1, h2⟩ := h
    exact ⟨u, us', rfl, VRel.ver hr c u h1, CRel.ver hr cs us' h2⟩
end

theorem WRel.ver (hW : WRel m L w) (hr : isRow L id = true) : WRel m (verH L id v') w := by
  refine ⟨hW.glob, hW.pobjs, fun j cs sz ver hL hc => ?_, fun j cs sz ver hL hc => ?_, fun j r hL => hW.iters _ _ (ver_raw' hr hL), fun i j hi hj he => hW.inj i j (ver_own hr hi) (ver_own hr hj) he, fun j ho => hW.freeo j (ver_own hr ho), hW.hid.keep (fun i T e l h => ⟨ver_raw' hr h, rfl, rfl⟩) (fun _ _ _ _ _ _ => rfl) (fun _ _ _ => rfl) (fun i g k => hW.hid.free i g k) (fun i g k j hj => hW.hid.own i g k j (ver_own hr hj))⟩
  · obtain ⟨cs0, v0, h1, rfl⟩ := ver_row hr hL
    obtain ⟨us, rest, elem, lo, hi, k1, k2, k3, k4⟩ := hW.rows _ _ _ _ h1 hc
    exact ⟨us, rest, elem, lo, hi, k1, CRel.ver hr _ _ k2, k3, k4⟩
  · obtain ⟨cs0, v0, h1, rfl⟩ := ver_row hr hL
    rw [hW.nils _ _ _ _ h1 hc]; rfl

theorem verH_length : (verH L id v').length = L.length := by
  simp only [verH]; split <;> simp

theorem Ext.ver {m0 : Mem} {L0 : Heap} {w0 : World} (hE : Ext m0 L0 w0 m L w) (hr : isRow L id = true) (hv : verOf L0 id < v' ∨ L0.length ≤ id) : Ext m0 L0 w0 m (verH L id v') w := by
  refine ⟨hE.frame, hE.size, hE.newobj, fun j ho => hE.blks j (ver_own hr ho), by rw [verH_length]; exact hE.len, ⟨hE.mono.pobj, fun j cs sz ver hL => ?_, fun j r hL => ?_⟩, hE.same, fun i g ⟨T, e, l, k1, k2⟩ => hE.hnew i g ⟨T, e, l, ver_raw' hr k1, k2⟩⟩
  · obtain ⟨cs', v1, h1, h2, h3⟩ := hE.mono.row _ _ _ _ hL
    by_cases hj : j = id
    · subst hj
      have hlt := (List.getElem?_eq_some_iff.1 hL).1
      have e : verOf L0 j = ver := by simp [verOf, hL]
      refine ⟨verL L j v' cs', v', ver_at h1, by omega, fun e2 => by omega⟩
    · exact ⟨verL L id v' cs', v1, by rw [ver_obj hj, h1]; rfl, h2, fun e => by rw [verL_length]; exact h3 e⟩
  · obtain ⟨r', h1, h2⟩ := hE.mono.iter _ _ hL
    exact ⟨r', ver_raw h1, h2⟩
end

theorem set_self {α : Type} {us : List α} {i : Nat} {u : α} (h : us[i]? = some u) : us.set i u = us := by
  apply List.ext_getElem?
  intro j
  rw [List.getElem?_set]
  split
  · rename_i hij; subst hij
    rw [if_pos (List.getElem?_eq_some_iff.1 h).1, h]
  · rfl
theorem nilT_rel {m : Mem} {L : Heap} {sz : Nat} {fr : List AV} {us : List Value} (h : CRel m L fr us) (i j : Nat) (cs : List AV) (hi : fr.getD i .any = .tup cs) (hj : cs.getD j .any = .lit (.slice none 0 0)) :
    CRel (nilM m L.length) (L ++ [AObj.row [] sz 0]) (fr.set i (.tup (cs.set j (.msl L.length 0 0 0)))) us := by
  have h' := CRel.mono (nil_mono (sz := sz)) _ _ h
  have h1 := h'.getD i
  rw [hi] at h1
  simp only [VRel] at h1
  obtain ⟨vs, hu, hc⟩ := h1
  have hc1 := nil_rel (m := m) (L := L) (sz := sz) (fr := cs) (us := vs) (by
    have h0 := h.getD i
    rw [hi] at h0
    simp only [VRel] at h0
    obtain ⟨vs', hu', hc'⟩ := h0
    rw [hu] at hu'
    have : vs = vs' := by simpa using hu'
    rw [this]; exact hc') j hj
  have hlt : i < us.length := by
    rcases Nat.lt_or_ge i us.length with h2 | h2
    · exact h2
    · have : fr.getD i .any = .any := by simp [List.getD, List.getElem?_eq_none (by rw [← h.length]; exact h2)]
      rw [this] at hi; cases hi
  have hget : us[i]? = some (.tuple vs.toArray) := by
    have : us.getD i undef = us[i] := by simp [List.getD, hlt]
    rw [this] at hu
    simp [hlt, hu]
  have := h'.set i (c := .tup (cs.set j (.msl L.length 0 0 0))) (u := .tuple vs.toArray) (by simp only [VRel]; exact ⟨vs, rfl, hc1⟩)
  rwa [set_self hget] at this

/-! ### cells of an own row are said in other words -/
section
variable {m : Mem} {L : Heap} {w : World}
theorem recell_get {id : Nat} {cs cs' : List AV} {sz v : Nat} (hL : L[id]? = some (.row cs sz v)) {j : Nat} {o : AObj} (h : (L.set id (.row cs' sz v))[j]? = some o) : (j = id ∧ o = .row cs' sz v) ∨ (j ≠ id ∧ L[j]? = some o) := by
  have hlt := (List.getElem?_eq_some_iff.1 hL).1
  by_cases hj : j = id
  · subst hj; rw [List.getElem?_set_self hlt] at h; exact .inl ⟨rfl, (Option.some.inj h).symm⟩
  · rw [List.getElem?_set_ne (Ne.symm hj)] at h; exact .inr ⟨hj, h⟩
theorem recell_mono {id : Nat} {cs cs' : List AV} {sz v : Nat} (hL : L[id]? = some (.row cs sz v)) (hl : cs'.length = cs.length) : Mono m L m (L.set id (.row cs' sz v)) := by
  have hlt := (List.getElem?_eq_some_iff.1 hL).1
  refine ⟨fun _ _ h => h, fun i cs1 s v1 h => ?_, fun i r h => ?_⟩
  · by_cases hi : i = id
    · subst hi
      rw [hL] at h
      simp only [Option.some.injEq, AObj.row.injEq] at h
      obtain ⟨rfl, rfl, rfl⟩ := h
      exact ⟨cs', v, by rw [List.getElem?_set_self hlt], Nat.le_refl _, fun _ => ⟨hl, rfl, rfl⟩⟩
    · exact ⟨cs1, v1, by rw [List.getElem?_set_ne (Ne.symm hi)]; exact h, Nat.le_refl _, fun _ => ⟨rfl, rfl, rfl⟩⟩
  · have hi : i ≠ id := by rintro rfl; rw [hL] at h; cases h
    exact ⟨r, by rw [List.getElem?_set_ne (Ne.symm hi)]; exact h, rfl⟩
theorem recell_own {id : Nat} {cs cs' : List AV} {sz v : Nat} (hL : L[id]? = some (.row cs sz v)) {j : Nat} (h : Own m (L.set id (.row cs' sz v)) j) : Own m L j := by
  rcases h with ⟨c1, s1, v1, h1, hc⟩ | ⟨r, h1⟩
  · rcases recell_get hL h1 with ⟨rfl, h2⟩ | ⟨_, h2⟩
    · exact .inl ⟨_, _, _, hL, hc⟩
    · exact .inl ⟨_, _, _, h2, hc⟩
  · rcases recell_get hL h1 with ⟨rfl, h2⟩ | ⟨_, h2⟩
    · cases h2
    · exact .inr ⟨_, h2⟩
theorem recell_hid {id : Nat} {cs cs' : List AV} {sz v : Nat} (hL : L[id]? = some (.row cs sz v)) {j : Nat} {T e : TypeId} {l : List UInt8} (h : (L.set id (.row cs' sz v))[j]? = some (.raw (.bld T e l))) : L[j]? = some (.raw (.bld T e l)) := by
  rcases recell_get hL h with ⟨_, h2⟩ | ⟨_, h2⟩
  · cases h2
  · exact h2
theorem WRel.recell (hW : WRel m L w) {id : Nat} {cs cs' : List AV} {sz v : Nat} (hL : L[id]? = some (.row cs sz v)) (hl : cs'.length = cs.length) (hc : ∀ us, CRel m L cs us → CRel m L cs' us) : WRel m (L.set id (.row cs' sz v)) w := by
  have M := recell_mono (m := m) hL hl
  refine ⟨hW.glob, hW.pobjs, fun j c s v1 h hcap => ?_, fun j c s v1 h hcap => ?_, fun j r h => ?_, fun i j hi hj he => hW.inj i j (recell_own hL hi) (recell_own hL hj) he, fun j ho => hW.freeo j (recell_own hL ho), hW.hid.keep (fun i T e l h => ⟨recell_hid hL h, rfl, rfl⟩) (fun _ _ _ _ _ _ => rfl) (fun _ _ _ => rfl) (fun i g k => hW.hid.free i g k) (fun i g k j hj => hW.hid.own i g k j (recell_own hL hj))⟩
  · rcases recell_get hL h with ⟨rfl, h2⟩ | ⟨_, h2⟩
    · simp only [AObj.row.injEq] at h2
      obtain ⟨rfl, rfl, rfl⟩ := h2
      obtain ⟨us, rest, elem, lo, hi, k1, k2, k3, k4⟩ := hW.rows _ _ _ _ hL hcap
      exact ⟨us, rest, elem, lo, hi, k1, CRel.mono M _ _ (hc _ k2), k3, k4⟩
    · obtain ⟨us, rest, elem, lo, hi, k1, k2, k3, k4⟩ := hW.rows _ _ _ _ h2 hcap
      exact ⟨us, rest, elem, lo, hi, k1, CRel.mono M _ _ k2, k3, k4⟩
  · rcases recell_get hL h with ⟨rfl, h2⟩ | ⟨_, h2⟩
    · simp only [AObj.row.injEq] at h2
      obtain ⟨rfl, rfl, rfl⟩ := h2
      have := hW.nils _ _ _ _ hL hcap
      rw [this] at hl
      exact List.eq_nil_of_length_eq_zero hl
    · exact hW.nils _ _ _ _ h2 hcap
  · rcases recell_get hL h with ⟨rfl, h2⟩ | ⟨_, h2⟩
    · cases h2
    · exact hW.iters _ _ h2
theorem Ext.recell {m0 : Mem} {L0 : Heap} {w0 : World} (hE : Ext m0 L0 w0 m L w) {id : Nat} {cs cs' : List AV} {sz v : Nat} (hL : L[id]? = some (.row cs sz v)) (hl : cs'.length = cs.length) : Ext m0 L0 w0 m (L.set id (.row cs' sz v)) w :=
  ⟨hE.frame, hE.size, hE.newobj, fun j ho => hE.blks j (recell_own hL ho), by rw [List.length_set]; exact hE.len, hE.mono.trans (recell_mono hL hl), hE.same, fun i g ⟨T, e, l, k1, k2⟩ => hE.hnew i g ⟨T, e, l, recell_hid hL k1, k2⟩⟩
end
theorem nilH_rel {m : Mem} {L : Heap} {w : World} (hW : WRel m L w) {id : Nat} (j sz' : Nat) {cs : List AV} {sz v : Nat} (hL : L[id]? = some (.row cs sz v)) (hj : cs.getD j .any = .lit (.slice none 0 0)) :
    L.set id (.row (cs.set j (.msl L.length 0 0 0)) sz v) ++ [AObj.row [] sz' 0] = (L ++ [AObj.row [] sz' 0]).set id (.row (cs.set j (.msl L.length 0 0 0)) sz v) ∧ (L ++ [AObj.row [] sz' 0])[id]? = some (.row cs sz v) ∧
      ∀ us, CRel (nilM m L.length) (L ++ [AObj.row [] sz' 0]) cs us → CRel (nilM m L.length) (L ++ [AObj.row [] sz' 0]) (cs.set j (.msl L.length 0 0 0)) us := by
  have hlt := (List.getElem?_eq_some_iff.1 hL).1
  have hL1 : (L ++ [AObj.row [] sz' 0])[id]? = some (.row cs sz v) := by rw [List.getElem?_append_left hlt]; exact hL
  refine ⟨by rw [List.set_append_left _ _ hlt], hL1, ?_⟩
  have hjl : j < cs.length := by
    rcases Nat.lt_or_ge j cs.length with h' | h'
    · exact h'
    · simp [List.getD, List.getElem?_eq_none h'] at hj
  have hv : VRel (nilM m L.length) (L ++ [AObj.row [] sz' 0]) (.msl L.length 0 0 0) (.slice none 0 0) := by
    simp only [VRel]
    exact ⟨[], sz', 0, by simp, Nat.le_refl _, ⟨none, 0, 0, rfl⟩, fun _ => ⟨by simp, by simp, none, by simp [nilM], .inl (by simp [nilM])⟩⟩
  intro us hcs
  refine CRel.mk (by simp [hcs.length]) fun i c u hi hu => ?_
  rw [List.getElem?_set] at hi
  by_cases hij : j = i
  · subst hij
    simp [hjl] at hi
    subst hi
    have := hcs.getD j
    rw [hj] at this
    simp only [VRel] at this
    simp [List.getD, hu] at this
    rw [this]; exact hv
  · simp [hij] at hi
    obtain ⟨u1, hu1, hr1⟩ := hcs.get i c hi
    rw [hu] at hu1; obtain rfl := Option.some.inj hu1; exact hr1

/-- what may be said less of a state: rows laid fast, versions turned, then weakened; L0: the heap at the beginning -/
inductive IntoF (L0 : Heap) : List AV → Heap → List AV × Heap → Prop
  | refl (S : List AV × Heap) : IntoF L0 S.1 S.2 S
  | weak {fr : List AV} {L : Heap} {fr' : List AV} {L' : Heap} {S : List AV × Heap} (ids : List Nat) (h : Weak L0.length ids fr L fr' L') (hle : L0.length ≤ L'.length) (h' : IntoF L0 fr' L' S) : IntoF L0 fr L S
  | nil {fr : List AV} {L : Heap} {S : List AV × Heap} (i sz : Nat) (hi : fr.getD i .any = .lit (.slice none 0 0)) (h : IntoF L0 (fr.set i (.msl L.length 0 0 0)) (L ++ [.row [] sz 0]) S) : IntoF L0 fr L S
  | nilT {fr : List AV} {L : Heap} {S : List AV × Heap} (i j sz : Nat) (cs : List AV) (hi : fr.getD i .any = .tup cs) (hj : cs.getD j .any = .lit (.slice none 0 0)) (h : IntoF L0 (fr.set i (.tup (cs.set j (.msl L.length 0 0 0)))) (L ++ [.row [] sz 0]) S) : IntoF L0 fr L S
  | frz {fr : List AV} {L : Heap} {S : List AV × Heap} (id : Nat) (hn : L0.length ≤ id) (hok : frzOk' L id) (h : IntoF L0 (frzL L id fr) (frzH L id) S) : IntoF L0 fr L S
  | sem {fr fr' : List AV} {L : Heap} {S : List AV × Heap} (hs : ∀ m us, CRel m L fr us → CRel m L fr' us) (h : IntoF L0 fr' L S) : IntoF L0 fr L S
  | recell {fr : List AV} {L : Heap} {S : List AV × Heap} (id : Nat) (cs' : List AV) {cs : List AV} {sz v : Nat} (hL : L[id]? = some (.row cs sz v)) (hl : cs'.length = cs.length) (hc : ∀ m us, CRel m L cs us → CRel m L cs' us) (h : IntoF L0 fr (L.set id (.row cs' sz v)) S) : IntoF L0 fr L S
  | nilH {fr : List AV} {L : Heap} {S : List AV × Heap} (id j sz' : Nat) {cs : List AV} {sz v : Nat} (hL : L[id]? = some (.row cs sz v)) (hj : cs.getD j .any = .lit (.slice none 0 0)) (h : IntoF L0 fr (L.set id (.row (cs.set j (.msl L.length 0 0 0)) sz v) ++ [.row [] sz' 0]) S) : IntoF L0 fr L S
  | ver {fr : List AV} {L : Heap} {S : List AV × Heap} (id v' : Nat) (hr : isRow L id = true) (hv : verOf L0 id < v' ∨ L0.length ≤ id) (h : IntoF L0 (verL L id v' fr) (verH L id v') S) : IntoF L0 fr L S

theorem IntoF.base {L0 : Heap} {fr : List AV} {L : Heap} {S : List AV × Heap} (ids : List Nat) (h : Weak L0.length ids fr L S.1 S.2) (hle : L0.length ≤ S.2.length) : IntoF L0 fr L S := .weak ids h hle (.refl S)
theorem IntoF.trans {L0 : Heap} {fr : List AV} {L : Heap} {S S' : List AV × Heap} (h : IntoF L0 fr L S) : IntoF L0 S.1 S.2 S' → IntoF L0 fr L S' := by
  induction h with
  | refl S => exact id
  | weak ids h hle h' ih => exact fun k => .weak ids h hle (ih k)
  | nil i sz hi h ih => exact fun k => .nil i sz hi (ih k)
  | nilT i j sz cs hi hj h ih => exact fun k => .nilT i j sz cs hi hj (ih k)
  | frz id hn hok h ih => exact fun k => .frz id hn hok (ih k)
  | sem hs h ih => exact fun k => .sem hs (ih k)
  | recell id cs' hL hl hc h ih => exact fun k => .recell id cs' hL hl hc (ih k)
  | nilH id j sz' hL hj h ih => exact fun k => .nilH id j sz' hL hj (ih k)
  | ver id v' hr hv h ih => exact fun k => .ver id v' hr hv (ih k)

theorem IntoF.sound {m0 : Mem} {L0 : Heap} {w0 : World} {fr : List AV} {L : Heap} {S : List AV × Heap} (h : IntoF L0 fr L S) : ∀ {m : Mem} {w : World} {us : List Value}, WRel m L w → CRel m L fr us → Ext m0 L0 w0 m L w →
    ∃ m', WRel m' S.2 w ∧ CRel m' S.2 S.1 us ∧ Ext m0 L0 w0 m' S.2 w := by
  induction h with
  | refl S =>
    intro m w us hW hc hE
    exact ⟨m, hW, hc, hE⟩
  | weak ids h hle h' ih =>
    intro m w us hW hc hE
    have H := h.renamed m
    exact ih (WRel.ren H h.2.2.2.2.2 hW) (CRel.ren H _ _ (leF_rel h.1 hc) h.2.2.2.2.1) (h.ext rfl hle hE)
  | nil i sz hi h ih =>
    intro m w us hW hc hE
    exact ih hW.nil (nil_rel hc i hi) hE.nil
  | nilT i j sz cs hi hj h ih =>
    intro m w us hW hc hE
    exact ih hW.nil (nilT_rel hc i j cs hi hj) hE.nil
  | frz id hn hok h ih =>
    intro m w us hW hc hE
    exact ih (hW.frz hok) (CRel.frz hW hok _ _ hc) (hE.frz hW hok hn)
  | sem hs h ih =>
    intro m w us hW hc hE
    exact ih hW (hs m us hc) hE
  | recell id cs' hL hl hc h ih =>
    intro m w us hW hcr hE
    exact ih (hW.recell hL hl (hc m)) (CRel.mono (recell_mono hL hl) _ _ hcr) (hE.recell hL hl)
  | nilH id j sz' hL hj h ih =>
    intro m w us hW hc hE
    obtain ⟨e, hL1, hcell⟩ := nilH_rel hW j sz' hL hj
    rw [e] at ih
    exact ih (hW.nil.recell hL1 (by simp) hcell) (CRel.mono (recell_mono hL1 (by simp)) _ _ (CRel.mono (nil_mono (m := m) (sz := sz')) _ _ hc)) (hE.nil.recell hL1 (by simp))
  | ver id v' hr hv h ih =>
    intro m w us hW hc hE
    exact ih (hW.ver hr) (CRel.ver hr _ _ hc) (hE.ver hr hv)

theorem RS.intoF {B : Base} {fr : List AV} {L : Heap} {m : Mem} {a : Act} {w : World} (h : RS B fr L m a w) {S : List AV × Heap} (hi : IntoF B.L fr L S) : ∃ m', RS B S.1 S.2 m' a w := by
  obtain ⟨m', h1, h2, h3⟩ := hi.sound h.wrel h.frel h.ext
  exact ⟨m', h1, h2, h3, h.defers⟩

end Go.Eng
