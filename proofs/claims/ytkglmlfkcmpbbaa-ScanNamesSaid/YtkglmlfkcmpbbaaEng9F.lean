/- The engine, part 9F: an own row that nobody turns any more is laid fast: it becomes memory that only is read. -/
import Derived.Test.YtkglmlfkcmpbbaaEng9
namespace Go.Eng
open Go
set_option linter.unusedVariables false
set_option linter.unusedSimpArgs false

mutual
theorem ren_id : ∀ x : AV, ren (fun i => i) x = x
  | .agg cs => by simp only [ren, renL_id cs]
  | .tup cs => by simp only [ren, renL_id cs]
  | .sl cs n => by simp only [ren, renL_id cs]
  | .ip cs => by simp only [ren, renL_id cs]
  | .fn f a b => by simp only [ren, renL_id a, renL_id b]
  | .ifc t x => by simp only [ren, ren_id x]
  | .when c x => by simp only [ren, ren_id x]
  | .alt c x y => by simp only [ren, ren_id x, ren_id y]
  | .any => rfl
  | .int .. => rfl
  | .bool _ => rfl
  | .str _ => rfl
  | .lit _ => rfl
  | .msl .. => rfl
  | .ref .. => rfl
theorem renL_id : ∀ xs : List AV, renL (fun i => i) xs = xs
  | [] => rfl
  | x :: xs => by simp only [renL, ren_id x, renL_id xs]
end

/-- what holds of closed values holds over any heap -/
theorem closed_rel {m : Mem} {L : Heap} {x : AV} {u : Value} (h : VRel m L x u) (hs : scp 0 x = true) : VRel m [] x u :=
  VRel.ren (ρ := fun i => i) ⟨rfl, fun _ h => by simp at h, fun _ h => by simp at h, fun _ _ h => by simp at h, fun _ _ h => by simp at h⟩ x u (by rw [ren_id]; exact h) hs
theorem closedL_rel {m : Mem} {L : Heap} {xs : List AV} {us : List Value} (h : CRel m L xs us) (hs : scpL 0 xs = true) : CRel m [] xs us :=
  CRel.ren (ρ := fun i => i) ⟨rfl, fun _ h => by simp at h, fun _ h => by simp at h, fun _ _ h => by simp at h, fun _ _ h => by simp at h⟩ xs us (by rw [renL_id]; exact h) hs

mutual
def frzV (L : Heap) (id : Nat) : AV → AV
  | .msl i ver off n => cond (i == id) (cond (ver == verOf L id) (.sl (((rowOf L id).drop (off * szOf L id)).take (n * szOf L id)) n) .any) (.msl i ver off n)
  | .ref i ver off => cond (i == id) (cond (ver == verOf L id) (.ip ((rowOf L id).drop off)) .any) (.ref i ver off)
  | .agg cs => .agg (frzL L id cs)
  | .tup cs => .tup (frzL L id cs)
  | .sl cs n => cond (scpL 0 cs) (.sl cs n) .any
  | .ip cs => cond (scpL 0 cs) (.ip cs) .any
  | .fn f a b => cond (scpL 0 a && scpL 0 b) (.fn f a b) .any
  | .ifc t x => .ifc t (frzV L id x)
  | .when c x => cond (scp 0 x) (.when c x) .any
  | .alt c x y => cond (scp 0 x && scp 0 y) (.alt c x y) .any
  | .any => .any
  | .int k n => .int k n
  | .bool b => .bool b
  | .str l => .str l
  | .lit v => .lit v
def frzL (L : Heap) (id : Nat) : List AV → List AV
  | [] => []
  | x :: xs => frzV L id x :: frzL L id xs
end
def frzO (L : Heap) (id : Nat) : AObj → AObj
  | .row cs sz v => .row (frzL L id cs) sz v
  | .iter s p => .iter s p
  | .dead => .dead
def frzH (L : Heap) (id : Nat) : Heap := (L.set id .dead).map (frzO L id)
/-- a row that can be laid fast -/
def frzOk (L : Heap) (id : Nat) : Prop := isRow L id = true ∧ scpL 0 (rowOf L id) = true

theorem frzL_length (L : Heap) (id : Nat) : ∀ cs : List AV, (frzL L id cs).length = cs.length
  | [] => rfl
  | x :: xs => by simp only [frzL, List.length_cons, frzL_length L id xs]

def frzM (m : Mem) (w : World) (id : Nat) : Mem := { m with pin := fun g o => if g = m.blk id ∧ m.cap id ≠ 0 then w.cell? ⟨g, o, none⟩ else m.pin g o }

section
variable {m : Mem} {L : Heap} {w : World} {id : Nat}

theorem frz_obj {j : Nat} (hj : j ≠ id) : (frzH L id)[j]? = (L[j]?).map (frzO L id) := by
  simp only [frzH, List.getElem?_map, List.getElem?_set_ne (Ne.symm hj)]
theorem frz_pin (hW : WRel m L w) (hok : frzOk L id) {g o : Nat} {v : Value} (hp : m.pin g o = some v) : (frzM m w id).pin g o = some v := by
  simp only [frzM]
  split
  · rename_i h
    obtain ⟨cs, sz, hL, _⟩ := fresh_row (L := L) (id := id) (ver := verOf L id) ⟨hok.1, rfl⟩
    have := hW.free id (.inl ⟨_, _, _, hL, h.2⟩) o
    rw [← h.1, hp] at this; cases this
  · exact hp

theorem frz_mono0 (hW : WRel m L w) (hok : frzOk L id) : Mono m [] (frzM m w id) (frzH L id) :=
  ⟨fun g o v h => frz_pin hW hok h, fun _ _ _ _ h => by simp at h, fun _ _ _ h => by simp at h⟩
theorem frz_closed (hW : WRel m L w) (hok : frzOk L id) {x : AV} {u : Value} (h : VRel m L x u) (hs : scp 0 x = true) : VRel (frzM m w id) (frzH L id) x u :=
  VRel.mono (frz_mono0 hW hok) _ _ (closed_rel h hs)
theorem frz_closedL (hW : WRel m L w) (hok : frzOk L id) {xs : List AV} {us : List Value} (h : CRel m L xs us) (hs : scpL 0 xs = true) : CRel (frzM m w id) (frzH L id) xs us :=
  CRel.mono (frz_mono0 hW hok) _ _ (closedL_rel h hs)

/-- the row's cells are pinned now -/
theorem frz_cells (hW : WRel m L w) (hok : frzOk L id) : ∃ us, CRel (frzM m w id) (frzH L id) (rowOf L id) us ∧ ∀ j v, us[j]? = some v → (frzM m w id).pin (m.blk id) j = some v := by
  obtain ⟨cs, sz, hL, h1, h2⟩ := fresh_row (L := L) (id := id) (ver := verOf L id) ⟨hok.1, rfl⟩
  obtain ⟨us, hc, hcell, _⟩ := row_cells hW hL
  have hs := hok.2
  rw [h1] at hs ⊢
  refine ⟨us, frz_closedL hW hok hc hs, fun j v hj => ?_⟩
  have hcap : m.cap id ≠ 0 := by
    intro h0
    have := hW.nils _ _ _ _ hL h0
    subst this
    simp only [CRel] at hc
    subst hc
    simp at hj
  simp only [frzM, hcap, ne_eq, not_false_eq_true, and_self, if_true]
  exact hcell _ _ hj

mutual
theorem VRel.frz (hW : WRel m L w) (hok : frzOk L id) : ∀ (x : AV) (u : Value), VRel m L x u → VRel (frzM m w id) (frzH L id) (frzV L id x) u
  | .any, _, _ => by simp [frzV, VRel]
  | .int .., _, h => by simpa [frzV, VRel] using h
  | .bool _, _, h => by simpa [frzV, VRel] using h
  | .str _, _, h => by simpa [frzV, VRel] using h
  | .lit _, _, h => by simpa [frzV, VRel] using h
  | .agg cs, u, h => by
    simp only [VRel, frzV] at *
    obtain ⟨us, rfl, hc⟩ := h
    exact ⟨us, rfl, CRel.frz hW hok cs us hc⟩
  | .tup cs, u, h => by
    simp only [VRel, frzV] at *
    obtain ⟨us, rfl, hc⟩ := h
    exact ⟨us, rfl, CRel.frz hW hok cs us hc⟩
  | .sl cs n, u, h => by
    simp only [frzV]
    cases hs : scpL 0 cs
    · simp [VRel]
    · exact frz_closed hW hok h hs
  | .ip cs, u, h => by
    simp only [frzV]
    cases hs : scpL 0 cs
    · simp [VRel]
    · exact frz_closed hW hok h hs
  | .fn f a b, u, h => by
    simp only [frzV]
    cases hs : scpL 0 a && scpL 0 b
    · simp [VRel]
    · exact frz_closed hW hok h (by simpa [scp] using hs)
  | .when c x, u, h => by
    simp only [frzV]
    cases hs : scp 0 x
    · simp [VRel]
    · exact frz_closed hW hok h (by simpa [scp] using hs)
  | .alt c x y, u, h => by
    simp only [frzV]
    cases hs : scp 0 x && scp 0 y
    · simp [VRel]
    · exact frz_closed hW hok h (by simpa [scp] using hs)
  | .ifc t x, u, h => by
    simp only [VRel, frzV] at *
    obtain ⟨v, rfl, h⟩ := h
    exact ⟨v, rfl, VRel.frz hW hok x v h⟩
  | .msl i ver off n, u, h => by
    simp only [frzV]
    by_cases hi : i = id
    · subst hi
      simp only [beq_self_eq_true, cond_true]
      by_cases hv : ver = verOf L i
      · simp only [hv, beq_self_eq_true, cond_true]
        have hf : fresh L i (verOf L i) := ⟨hok.1, rfl⟩
        rw [hv] at h
        obtain ⟨k1, k2, a, rfl, ha⟩ := msl_slice h hf
        obtain ⟨us, hc, hp⟩ := frz_cells hW hok
        simp only [VRel]
        refine ⟨a, _, rfl, by omega, _, (hc.drop (off * szOf L i)).take (n * szOf L i), ?_⟩
        rcases ha with ha | ha
        · have : n = 0 := by omega
          subst this
          simp
        · refine .inr ⟨_, _, ha, fun j v hj => hp _ _ ?_⟩
          rw [List.getElem?_take, List.getElem?_drop] at hj
          split at hj
          · exact hj
          · cases hj
      · have : (ver == verOf L i) = false := by simp [hv]
        simp [this, VRel]
    · have : (i == id) = false := by simp [hi]
      simp only [this, cond_false, VRel] at h ⊢
      obtain ⟨cs, sz, v, hL, hle, hsh, h⟩ := h
      refine ⟨frzL L id cs, sz, v, by rw [frz_obj hi, hL]; rfl, hle, hsh, ?_⟩
      rw [frzL_length]
      exact h
  | .ref i ver off, u, h => by
    simp only [frzV]
    by_cases hi : i = id
    · subst hi
      simp only [beq_self_eq_true, cond_true]
      by_cases hv : ver = verOf L i
      · simp only [hv, beq_self_eq_true, cond_true]
        have hf : fresh L i (verOf L i) := ⟨hok.1, rfl⟩
        rw [hv] at h
        have hu := ref_ptr h hf
        obtain ⟨us, hc, hp⟩ := frz_cells hW hok
        simp only [VRel]
        exact ⟨_, _, _, hu, hc.drop off, fun j v hj => hp _ _ (by rw [List.getElem?_drop] at hj; exact hj)⟩
      · have : (ver == verOf L i) = false := by simp [hv]
        simp [this, VRel]
    · have : (i == id) = false := by simp [hi]
      simp only [this, cond_false, VRel] at h ⊢
      rcases h with ⟨cs, sz, v, hL, hle, hsh, h⟩ | ⟨s, p, hL, h⟩
      · exact .inl ⟨frzL L id cs, sz, v, by rw [frz_obj hi, hL]; rfl, hle, hsh, h⟩
      · exact .inr ⟨s, p, by rw [frz_obj hi, hL]; rfl, h⟩
theorem CRel.frz (hW : WRel m L w) (hok : frzOk L id) : ∀ (cs : List AV) (us : List Value), CRel m L cs us → CRel (frzM m w id) (frzH L id) (frzL L id cs) us
  | [], _, h => by simpa [CRel, frzL] using h
  | c :: cs, us, h => by
    simp only [CRel, frzL] at *
    obtain ⟨u, us', rfl, h1, h2⟩ := h
    exact ⟨u, us', rfl, VRel.frz hW hok c u h1, CRel.frz hW hok cs us' h2⟩
end

theorem frz_dead (h : isRow L id = true) : (frzH L id)[id]? = some .dead := by
  have : id < L.length := by
    unfold isRow at h
    rcases Nat.lt_or_ge id L.length with h' | h'
    · exact h'
    · simp [List.getElem?_eq_none h'] at h
  simp [frzH, this, frzO]

theorem frz_row {j : Nat} {cs' : List AV} {sz ver : Nat} (hr : isRow L id = true) (h : (frzH L id)[j]? = some (.row cs' sz ver)) : j ≠ id ∧ ∃ cs, L[j]? = some (.row cs sz ver) ∧ cs' = frzL L id cs := by
  have hj : j ≠ id := by intro e; rw [e, frz_dead hr] at h; cases h
  rw [frz_obj hj, Option.map_eq_some_iff] at h
  obtain ⟨o, h1, h2⟩ := h
  cases o <;> simp only [frzO, reduceCtorEq, AObj.row.injEq] at h2
  obtain ⟨rfl, rfl, rfl⟩ := h2
  exact ⟨hj, _, h1, rfl⟩
theorem frz_iter {j : Nat} {s : List UInt8} {p : Nat} (hr : isRow L id = true) (h : (frzH L id)[j]? = some (.iter s p)) : j ≠ id ∧ L[j]? = some (.iter s p) := by
  have hj : j ≠ id := by intro e; rw [e, frz_dead hr] at h; cases h
  rw [frz_obj hj, Option.map_eq_some_iff] at h
  obtain ⟨o, h1, h2⟩ := h
  cases o <;> simp only [frzO, reduceCtorEq, AObj.iter.injEq] at h2
  obtain ⟨rfl, rfl⟩ := h2
  exact ⟨hj, h1⟩
theorem frz_own {j : Nat} (hr : isRow L id = true) (h : Own (frzM m w id) (frzH L id) j) : j ≠ id ∧ Own m L j := by
  rcases h with ⟨cs, sz, ver, hL, hc⟩ | ⟨s, p, hL⟩
  · obtain ⟨h1, cs', h2, _⟩ := frz_row hr hL
    exact ⟨h1, .inl ⟨_, _, _, h2, hc⟩⟩
  · obtain ⟨h1, h2⟩ := frz_iter hr hL
    exact ⟨h1, .inr ⟨_, _, h2⟩⟩

theorem WRel.frz (hW : WRel m L w) (hok : frzOk L id) : WRel (frzM m w id) (frzH L id) w := by
  refine ⟨fun g o v hp => ?_, fun j cs sz ver hL hc => ?_, fun j cs sz ver hL hc => ?_, fun j s p hL => ?_, fun i j hi hj he => ?_, fun j ho o => ?_⟩
  · simp only [frzM] at hp
    split at hp
    · exact hp
    · exact hW.pins _ _ _ hp
  · obtain ⟨hj, cs', hL', rfl⟩ := frz_row hok.1 hL
    obtain ⟨us, rest, elem, lo, hi, k1, k2, k3, k4⟩ := hW.rows _ _ _ _ hL' hc
    exact ⟨us, rest, elem, lo, hi, k1, CRel.frz hW hok _ _ k2, k3, k4⟩
  · obtain ⟨hj, cs', hL', rfl⟩ := frz_row hok.1 hL
    rw [hW.nils _ _ _ _ hL' hc]; rfl
  · exact hW.iters _ _ _ (frz_iter hok.1 hL).2
  · exact hW.inj i j (frz_own hok.1 hi).2 (frz_own hok.1 hj).2 he
  · obtain ⟨hj, ho'⟩ := frz_own hok.1 ho
    simp only [frzM]
    rw [if_neg]
    · exact hW.free j ho' o
    · rintro ⟨h1, h2⟩
      obtain ⟨cs, sz, hL, _⟩ := fresh_row (L := L) (id := id) (ver := verOf L id) ⟨hok.1, rfl⟩
      exact hj (hW.inj j id ho' (.inl ⟨_, _, _, hL, h2⟩) h1)

theorem Ext.frz {m0 : Mem} {L0 : Heap} {w0 : World} (hE : Ext m0 L0 w0 m L w) (hW : WRel m L w) (hok : frzOk L id) (hle : L0.length ≤ id) : Ext m0 L0 w0 (frzM m w id) (frzH L id) w := by
  obtain ⟨cs, sz, hL, _⟩ := fresh_row (L := L) (id := id) (ver := verOf L id) ⟨hok.1, rfl⟩
  have hb : m.cap id ≠ 0 → w0.heap.size ≤ m.blk id := by
    intro hc
    rcases hE.blks id (.inl ⟨_, _, _, hL, hc⟩) with ⟨h1, _⟩ | h1
    · rcases h1 with ⟨_, _, _, h, _⟩ | ⟨_, _, h⟩ <;> (have := (List.getElem?_eq_some_iff.1 h).1; omega)
    · exact h1
  refine ⟨hE.frame, hE.size, fun g o hg => ?_, fun j ho => hE.blks j (frz_own hok.1 ho).2, by simp only [frzH, List.length_map, List.length_set]; exact hE.len, ⟨fun g o v hp => frz_pin hW hok (hE.mono.pin _ _ _ hp), fun j cs sz ver hL => ?_, fun j s p hL => ?_⟩, hE.same⟩
  · simp only [frzM]
    rw [if_neg]
    · exact hE.newpin g o hg
    · rintro ⟨h1, h2⟩; have := hb h2; omega
  · obtain ⟨cs', v', h1, h2, h3⟩ := hE.mono.row _ _ _ _ hL
    have hj : j ≠ id := by have := (List.getElem?_eq_some_iff.1 hL).1; omega
    refine ⟨frzL L id cs', v', by rw [frz_obj hj, h1]; rfl, h2, fun e => ?_⟩
    rw [frzL_length]; exact h3 e
  · obtain ⟨s', p', h1, h2⟩ := hE.mono.iter _ _ _ hL
    have hj : j ≠ id := by have := (List.getElem?_eq_some_iff.1 hL).1; omega
    exact ⟨s', p', by rw [frz_obj hj, h1]; rfl, h2⟩
end

/-- what may be said less of a state: rows laid fast, then weakened -/
inductive IntoF (n0 : Nat) : List AV → Heap → List AV × Heap → Prop
  | base {fr : List AV} {L : Heap} {S : List AV × Heap} (ids : List Nat) (h : Weak n0 ids fr L S.1 S.2) (hle : n0 ≤ S.2.length) : IntoF n0 fr L S
  | frz {fr : List AV} {L : Heap} {S : List AV × Heap} (id : Nat) (hn : n0 ≤ id) (hok : frzOk L id) (h : IntoF n0 (frzL L id fr) (frzH L id) S) : IntoF n0 fr L S

theorem IntoF.sound {m0 : Mem} {L0 : Heap} {w0 : World} {fr : List AV} {L : Heap} {S : List AV × Heap} (h : IntoF L0.length fr L S) : ∀ {m : Mem} {w : World} {us : List Value}, WRel m L w → CRel m L fr us → Ext m0 L0 w0 m L w →
    ∃ m', WRel m' S.2 w ∧ CRel m' S.2 S.1 us ∧ Ext m0 L0 w0 m' S.2 w := by
  induction h with
  | base ids h hle =>
    intro m w us hW hc hE
    have H := h.renamed m
    exact ⟨_, WRel.ren H h.2.2.2.2.2 hW, CRel.ren H _ _ (leF_rel h.1 hc) h.2.2.2.2.1, h.ext rfl hle hE⟩
  | frz id hn hok h ih =>
    intro m w us hW hc hE
    exact ih (hW.frz hok) (CRel.frz hW hok _ _ hc) (hE.frz hW hok hn)

theorem RS.intoF {B : Base} {fr : List AV} {L : Heap} {m : Mem} {a : Act} {w : World} (h : RS B fr L m a w) {S : List AV × Heap} (hi : IntoF B.L.length fr L S) : ∃ m', RS B S.1 S.2 m' a w := by
  obtain ⟨m', h1, h2, h3⟩ := hi.sound h.wrel h.frel h.ext
  exact ⟨m', h1, h2, h3, h.defers⟩

end Go.Eng
