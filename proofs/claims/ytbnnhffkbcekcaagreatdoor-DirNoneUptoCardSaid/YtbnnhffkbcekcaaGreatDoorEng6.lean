/- The engine, part 6: the operations that make or change memory are sound. -/
import Derived.Test.YtbnnhffkbcekcaaGreatDoorEng5
namespace Go.Eng
open Go
set_option linter.unusedVariables false
set_option linter.unusedSimpArgs false
section
variable {P : Program} {m : Mem} {L : Heap} {w : World}

theorem oneCells_rel : ∀ {cs : List AV} {us : List Value}, CRel m L cs us → oneCells cs = true → ∀ u ∈ us, u.oneCell' = true
  | [], us, h, _ => by simp only [CRel] at h; simp [h]
  | c :: cs, us, h, ho => by
    simp only [CRel] at h
    obtain ⟨u, us', rfl, h1, h2⟩ := h
    have ih : oneCells cs = true → ∀ u ∈ us', u.oneCell' = true := oneCells_rel h2
    have hcs : oneCells cs = true := by cases c <;> simp_all [oneCells]
    have hu : u.oneCell' = true := by
      cases c <;> simp only [oneCells, VRel, Bool.and_eq_true, Bool.false_eq_true] at ho h1
      case int => subst h1; rfl
      case bool => subst h1; rfl
      case str => subst h1; rfl
      case lit => subst h1; exact ho.1
      case sl => obtain ⟨a, cap, rfl, _⟩ := h1; rfl
      case msl => obtain ⟨_, _, _, _, _, ⟨a, n, c, rfl⟩, _⟩ := h1; rfl
      case ref =>
        rcases h1 with ⟨_, _, _, _, _, ⟨a, rfl⟩, _⟩ | ⟨_, _, rfl⟩ <;> rfl
      case ub => obtain ⟨_, rfl, _⟩ := h1; rfl
      case csl => obtain ⟨_, _, _, _, _, ⟨a, n, c, rfl⟩, _⟩ := h1; rfl
      case mp => obtain ⟨_, _, rfl⟩ := h1; rfl
      case mpr => obtain ⟨_, _, _, rfl, _⟩ := h1; rfl
      case ip => obtain ⟨_, _, _, rfl, _⟩ := h1; rfl
      case fn => obtain ⟨_, _, rfl, _⟩ := h1; rfl
      case ifc => obtain ⟨_, rfl, _⟩ := h1; rfl
    intro x hx
    rcases List.mem_cons.1 hx with rfl | hx
    · exact hu
    · exact ih hcs x hx

theorem cells_rel {X : AV} {u : Value} (h : VRel m L X u) (ho : oneCells X.cells = true) : CRel m L X.cells u.cells.toList := by
  have one : ∀ (Y : AV), Y.cells = [Y] → VRel m L Y u → oneCells [Y] = true → CRel m L Y.cells u.cells.toList := by
    intro Y hY hv ho
    have := oneCells_rel (CRel.cons hv (CRel.nil m L)) ho u (by simp)
    rw [hY]
    have hu : u.cells = #[u] := by cases u <;> simp_all [Value.cells, Value.oneCell']
    rw [hu]
    exact CRel.cons hv (CRel.nil m L)
  cases X with
  | agg cs => simp only [VRel] at h; obtain ⟨us, rfl, hc⟩ := h; simpa [AV.cells, Value.cells] using hc
  | _ => exact one _ rfl h ho

theorem ofV_cells (v : Value) : CRel m L (ofV v).cells v.cells.toList := by
  cases v with
  | agg cs => simp only [ofV, AV.cells, Value.cells]; exact ofCells_rel m L _
  | func f a b =>
    simp only [ofV, AV.cells, Value.cells]
    exact CRel.cons (by simpa [ofV] using ofV_rel m L (.func f a b)) (CRel.nil m L)
  | _ => simp [ofV, ofCell, AV.cells, Value.cells, CRel, VRel]

theorem setCell_chg (w : World) (g o : Nat) (v : Value) (arr : List Value) (elem : TypeId) (fz : Nat × Nat) (h : w.heap[g]? = some (.cells arr.toArray elem fz)) :
    (w.setCell ⟨g, o, none⟩ v).heap[g]? = some (.cells (arr.set o v).toArray elem fz) ∧ (∀ g', g' ≠ g → (w.setCell ⟨g, o, none⟩ v).heap[g']? = w.heap[g']?) ∧ (w.setCell ⟨g, o, none⟩ v).heap.size = w.heap.size ∧ Same w (w.setCell ⟨g, o, none⟩ v) := by
  refine ⟨?_, fun g' hg => ?_, by simp [World.setCell], rfl, rfl, rfl⟩
  · simp [World.setCell, Array.getElem?_modify, h]
  · simp [World.setCell, Array.getElem?_modify, hg.symm]

theorem splice_step (arr : List Value) (k : Nat) (v : Value) (rest : List Value) (h : k + 1 + rest.length ≤ arr.length) :
    (arr.set k v).take (k + 1) ++ rest ++ (arr.set k v).drop (k + 1 + rest.length) = arr.take k ++ (v :: rest) ++ arr.drop (k + (rest.length + 1)) := by
  have h1 : (arr.set k v).take (k + 1) = arr.take k ++ [v] := by
    rw [List.take_succ_eq_append_getElem (by simp; omega)]
    simp [List.take_set_of_le (Nat.le_refl k)]
  have h2 : (arr.set k v).drop (k + 1 + rest.length) = arr.drop (k + (rest.length + 1)) := by
    rw [List.drop_set_of_lt (by omega)]
    congr 1; omega
  rw [h1, h2]
  simp

theorem run_storeCells' (g o : Nat) : ∀ (vs : List Value) (i : Nat) (w : World) (arr : List Value) (elem : TypeId) (lo hi : Nat), w.heap[g]? = some (.cells arr.toArray elem (lo, hi)) → o + i + vs.length ≤ arr.length →
    (∀ j, o + i ≤ j → j < o + i + vs.length → ¬ (lo ≤ j ∧ j < hi)) → (∀ v ∈ vs, v.oneCell' = true) →
    ∃ w', (storeCells ⟨g, o, none⟩ vs i).run P w = .ok () w' ∧ Chg w w' g (.cells (arr.take (o + i) ++ vs ++ arr.drop (o + i + vs.length)).toArray elem (lo, hi)) ∧ w'.heap.size = w.heap.size
  | [], i, w, arr, elem, lo, hi, hg, _, _, _ => ⟨w, by simp [storeCells], ⟨by simpa using hg, fun _ _ _ => rfl, Nat.le_refl _, Same.refl w⟩, rfl⟩
  | v :: rest, i, w, arr, elem, lo, hi, hg, hl, hf, h1 => by
    simp at hl
    have hcell : w.cell? ⟨g, o + i, none⟩ = some arr[o + i] := by simp [World.cell?, hg]
    have hfro : w.frozen? ⟨g, o + i, none⟩ = false := by
      have := hf (o + i) (Nat.le_refl _) (by simp)
      simp [World.frozen?, hg]; omega
    obtain ⟨c1, c2, c3, c4⟩ := setCell_chg w g (o + i) v arr elem (lo, hi) hg
    have hst : (store ((⟨g, o, none⟩ : Addr).add i) v).run P w = .ok () (w.setCell ⟨g, o + i, none⟩ v) := by
      rw [Addr.add_lit, run_store P w _ v _ (h1 v (by simp)), hcell]
      simp [hfro]
    obtain ⟨w', hr, hC, hs⟩ := run_storeCells' g o rest (i + 1) (w.setCell ⟨g, o + i, none⟩ v) (arr.set (o + i) v) elem lo hi c1 (by simp; omega)
      (fun j h2 h3 => hf j (by omega) (by simp; omega)) (fun x hx => h1 x (by simp [hx]))
    refine ⟨w', ?_, ⟨?_, fun g' hne hlt => ?_, by rw [hs, c3]; exact Nat.le_refl _, c4.trans hC.same⟩, by rw [hs, c3]⟩
    · simp only [storeCells, Sem.run_bind, hst, Result.andThen_ok, hr]
    · rw [hC.at_]
      have := splice_step arr (o + i) v rest (by omega)
      rw [← Nat.add_assoc, this]
      rfl
    · rw [hC.other g' hne (by rw [c3]; exact hlt), c2 g' hne]

theorem splice_append (cs : List AV) (off : Nat) (ds : List AV) (us vs : List Value) (hc : CRel m L cs us) (hd : CRel m L ds vs) : CRel m L (splice cs off ds) (us.take off ++ vs ++ us.drop (off + vs.length)) := by
  unfold splice
  rw [hd.length]
  exact ((hc.take off).append hd).append (hc.drop _)

theorem store_sound (hW : WRel m L w) (t : TypeId) {X Y : AV} {u v : Value} (hx : VRel m L X u) (hy : VRel m L Y v) :
    Sound P m L w (storeR P true L t X Y) (do Instr.storeAt t u v; pure .skip) := by
  cases X <;> try exact fun h => h.elim
  case ref id ver off =>
    intro hp
    obtain ⟨-, hf, hi, hn, hpos, hle, ho⟩ := hp
    obtain ⟨cs, sz, hL, hr, hsz⟩ := fresh_row hf
    have hu := ref_ptr hx hf
    subst hu
    rw [hr] at hle
    have hcells := cells_rel hy ho
    have hone := oneCells_rel hcells ho
    have hvl := hcells.length
    have hcap : m.cap id ≠ 0 := by
      intro h
      have hnil := hW.nils _ _ _ _ hL h
      rw [hnil, List.length_nil] at hle; omega
    obtain ⟨us, rest, elem, lo, hi', hb, hc, hlen, hfz⟩ := hW.rows _ _ _ _ hL hcap
    have hul := hc.length
    obtain ⟨w', hrun, hC, hs⟩ := run_storeCells' (P := P) (m.blk id) off v.cells.toList 0 w (us ++ rest) elem lo hi' hb (by simp at *; omega) (fun j h1 h2 => by simp at *; omega) hone
    have e1 : (us ++ rest).take (off + 0) ++ v.cells.toList ++ (us ++ rest).drop (off + 0 + v.cells.toList.length) = (us.take off ++ v.cells.toList ++ us.drop (off + v.cells.toList.length)) ++ rest := by
      rw [Nat.add_zero, List.take_append_of_le_length (by omega), List.drop_append_of_le_length (by omega)]
      simp
    rw [e1] at hC
    have hlen2 : (us.take off ++ v.cells.toList ++ us.drop (off + v.cells.toList.length)).length = us.length := by simp at *; omega
    obtain ⟨t1, t2⟩ := turn_row hW hL (cs := splice cs off Y.cells) (ver' := ver) (g := m.blk id) (c := m.cap id) (.inl ⟨rfl, hcap⟩) hC (splice_append cs off Y.cells us v.cells.toList hc hcells) (by rw [hlen2]; exact hlen) hfz hcap
      (.inl ⟨rfl, by have := (splice_append cs off Y.cells us v.cells.toList hc hcells).length; omega, rfl, rfl⟩)
    have hset : setRow L id (splice (rowOf L id) off Y.cells) = L.set id (.row (splice cs off Y.cells) sz ver) := by
      simp [setRow, hL, hr]
    refine ⟨.skip, w', m.put id (m.blk id) (m.cap id), ?_, .inr ⟨rfl, rfl⟩, ?_, ?_⟩
    · have hsz' : v.cells.size = P.cellsOf t := by rw [← hn, ← hvl]; simp
      simp [Instr.storeAt, Instr.sureAddr, storeVar, run_sizeOf' hi, hsz', hrun]
    · show WRel _ (setRow L id (splice (rowOf L id) off Y.cells)) _
      rw [hset]; exact t1
    · show Ext _ _ _ _ (setRow L id (splice (rowOf L id) off Y.cells)) _
      rw [hset]; exact t2

theorem pushed_cells (w : World) (cs : Array Value) (t : TypeId) : Pushed w (w.alloc (.cells cs t)) (.cells (cs.toList ++ []).toArray t (0, 0)) := by
  have : (cs.toList ++ []).toArray = cs := by simp
  rw [this]; exact ⟨rfl, rfl, rfl, rfl⟩

theorem new_ref (cs : List AV) (sz g c : Nat) : VRel (m.put L.length g c) (L ++ [.row cs sz 0]) (.ref L.length 0 0) (.pointer (some ⟨g, 0, none⟩)) := by
  simp only [VRel]
  exact .inl ⟨cs, sz, 0, by simp, Nat.le_refl _, ⟨_, rfl⟩, fun _ => by simp [Mem.put]⟩

theorem new_msl (cs : List AV) (sz g c len : Nat) (h1 : len * sz ≤ cs.length) (h2 : len ≤ c) : VRel (m.put L.length g c) (L ++ [.row cs sz 0]) (.msl L.length 0 0 len) (.slice (some ⟨g, 0, none⟩) len c) := by
  simp only [VRel]
  exact ⟨cs, sz, 0, by simp, Nat.le_refl _, ⟨_, _, _, rfl⟩, fun _ => ⟨by simpa using h1, by simpa [Mem.put] using h2, some ⟨g, 0, none⟩, by simp [Mem.put], .inr (by simp [Mem.put])⟩⟩

theorem zero_parts {t : TypeId} (h : hasZero P t) : ∃ z i, P.info? t = some i ∧ i.zero = some z ∧ zeroA P t = ofV z ∧ (zeroValue t).run P w = .ok z w := by
  unfold hasZero at h
  cases hi : P.info? t with
  | none => simp [hi] at h
  | some i =>
    cases hz : i.zero with
    | none => simp [hi, hz] at h
    | some z => exact ⟨z, i, rfl, hz, by simp [zeroA, hi, hz], by simp [zeroValue, typeInfo, hi, hz]⟩

theorem alloc_sound (hW : WRel m L w) (t : TypeId) : Sound P m L w (allocR P true L t) (vSem (Instr.alloc t true (.tuple #[]))) := by
  unfold allocR
  split
  · rename_i e _
    rintro ⟨-, hz, hzc⟩
    obtain ⟨z, i, hi, hzi, hza, hzr⟩ := zero_parts (w := w) hz
    have hzv : z = .agg #[.pointer none, .slice none 0 0] := by
      have h1 := ofV_rel m L z
      rw [← hza, hzc] at h1
      simp only [VRel, CRel] at h1
      obtain ⟨us, rfl, a, us', rfl, rfl, b, us'', rfl, rfl, rfl⟩ := h1
      rfl
    have hP := Pushed.alloc w (.cells #[.pointer none, .slice none 0 0] t)
    refine ⟨.value (.pointer (some ⟨w.heap.size, 0, none⟩)), _, _, ?_, .inl ⟨_, rfl, ?_⟩, push_raw hW hP trivial (fun T e' l h => ?_), ext_push _ _ hP.keep⟩
    · simp [vSem, Instr.alloc, hzr, newVar, newRow, hzv, Value.cells]
    · simp only [VRel]
      exact .inr ⟨.bld t e [], by simp, by simp [Mem.put]⟩
    · cases h
      exact ⟨_, _, hP.new, .inl rfl, .inl ⟨rfl, rfl, rfl⟩⟩
  intro hp
  obtain ⟨-, hz⟩ := hp
  obtain ⟨z, i, hi, hzi, hza, hzr⟩ := zero_parts (w := w) hz
  have hc : CRel m L (zeroA P t).cells z.cells.toList := by rw [hza]; exact ofV_cells z
  have hP : Pushed w (w.alloc (.cells z.cells t)) (.cells (z.cells.toList ++ []).toArray t (0, 0)) := pushed_cells w _ t
  have hl := hc.length
  have h1 := push_row (sz := (zeroA P t).cells.length) (c := 1) hW hP hc (by simp at hl ⊢; omega) (.inl rfl)
  refine ⟨.value (.pointer (some ⟨w.heap.size, 0, none⟩)), _, _, ?_, .inl ⟨_, rfl, ?_⟩, h1, ext_push _ _ hP.keep⟩
  · simp [vSem, Instr.alloc, hzr, newVar, newRow]
  · exact new_ref _ _ _ _

theorem box_sound (hW : WRel m L w) (t : TypeId) {X : AV} {u : Value} (hx : VRel m L X u) : Sound P m L w (boxR true L X) (vSem (Instr.box t u)) := by
  intro hp
  obtain ⟨-, ho⟩ := hp
  have hc := cells_rel hx ho
  have hP : Pushed w (w.alloc (.cells u.cells t)) (.cells (u.cells.toList ++ []).toArray t (0, 0)) := pushed_cells w _ t
  have hl := hc.length
  have h1 := push_row (sz := X.cells.length) (c := 1) hW hP hc (by simp at hl ⊢; omega) (.inl rfl)
  refine ⟨.value (.pointer (some ⟨w.heap.size, 0, none⟩)), _, _, ?_, .inl ⟨_, rfl, ?_⟩, h1, ext_push _ _ hP.keep⟩
  · simp [vSem, Instr.box, newVar, newRow]
  · exact new_ref _ _ _ _

theorem foldl_set (off : Nat) : ∀ (vs : List Value) (k : Nat) (arr : List Value), off + k + vs.length ≤ arr.length →
    ((vs.zipIdx k).foldl (fun cs (x : Value × Nat) => cs.setIfInBounds (off + x.2) x.1) arr.toArray).toList = arr.take (off + k) ++ vs ++ arr.drop (off + k + vs.length)
  | [], k, arr, _ => by simp
  | v :: rest, k, arr, h => by
    simp at h
    simp only [List.zipIdx_cons, List.foldl_cons]
    have e : (arr.toArray.setIfInBounds (off + k) v) = (arr.set (off + k) v).toArray := by simp
    rw [e, foldl_set off rest (k + 1) (arr.set (off + k) v) (by simp; omega)]
    have := splice_step arr (off + k) v rest (by omega)
    rw [← Nat.add_assoc, this]
    rfl

theorem fill_rel {place placeA : Nat → Option (Nat × Nat)} (hp : ∀ i, placeA i = place i) : ∀ (parts : List (Nat × AV)) (vals : List (Nat × Value)) (cells : List AV) (us : List Value) (out : List AV),
    CRel m L cells us → (∀ q ∈ parts, oneCells q.2.cells = true) → (parts.map (·.1) = vals.map (·.1)) → (∀ (j : Nat) (q : Nat × AV) (r : Nat × Value), parts[j]? = some q → vals[j]? = some r → VRel m L q.2 r.2) →
    fillA placeA cells parts = some out → ∃ os : List Value, Instr.fill place us.toArray vals = some os.toArray ∧ CRel m L out os
  | [], vals, cells, us, out, hc, _, hm, _, ho => by
    have : vals = [] := by simpa using hm.symm
    subst this
    simp only [fillA, Option.some.injEq] at ho
    subst ho
    exact ⟨us, by simp [Instr.fill], hc⟩
  | (i, x) :: parts, vals, cells, us, out, hc, h1, hm, hr, ho => by
    cases vals with
    | nil => simp at hm
    | cons r vals =>
      obtain ⟨i', v⟩ := r
      simp at hm
      obtain ⟨rfl, hm⟩ := hm
      simp only [fillA, hp] at ho
      cases hpl : place i with
      | none => simp [hpl] at ho
      | some q =>
        obtain ⟨off, size⟩ := q
        simp only [hpl] at ho
        split at ho
        · cases ho
        · rename_i hcond
          have hx : VRel m L x v := hr 0 (i, x) (i, v) (by simp) (by simp)
          have hxo := h1 (i, x) (by simp)
          have hcx := cells_rel hx hxo
          have hlx := hcx.length
          have hl := hc.length
          simp at hcond hlx
          have hfold := foldl_set off v.cells.toList 0 us (by simp; omega)
          have hsp := splice_append cells off x.cells us v.cells.toList hc hcx
          have hz : v.cells.zipIdx.foldl (fun cs (x : Value × Nat) => cs.setIfInBounds (off + x.2) x.1) us.toArray = (us.take off ++ v.cells.toList ++ us.drop (off + v.cells.toList.length)).toArray := by
            apply Array.toList_inj.1
            rw [← Array.foldl_toList]
            simpa using hfold
          obtain ⟨os, ho1, ho2⟩ := fill_rel hp parts vals _ _ out hsp (fun q hq => h1 q (by simp [hq])) hm (fun j q r hq hr' => hr (j + 1) q r (by simpa using hq) (by simpa using hr')) ho
          refine ⟨os, ?_, ho2⟩
          rw [← ho1]
          simp only [Instr.fill, hpl]
          rw [if_neg (by simp; omega)]
          congr 1

theorem mapM_fields {fields : Array Field} (h : fieldsOk P fields) : (fields.mapM (m := Sem) fun f => do pure (f.offset, ← sizeOf f.type)).run P w = .ok (placesOf P fields).toArray w := by
  have key : ∀ (l : List Field), (∀ f ∈ l, (P.info? f.type).isSome = true) → (l.mapM (m := Sem) fun f => do pure (f.offset, ← sizeOf f.type)).run P w = .ok (l.map fun f => (f.offset, P.cellsOf f.type)) w := by
    intro l
    induction l with
    | nil => intro _; simp
    | cons f l ih =>
      intro h
      have hf := run_sizeOf' (P := P) (w := w) (h f (by simp))
      have ih' := ih fun g hg => h g (by simp [hg])
      simp only [List.mapM_cons]
      simp [hf]
      simp at ih'
      simp [ih']
  have := key fields.toList h
  rw [Array.mapM_eq_mapM_toList]
  simp only [Sem.run_map, this, Result.andThen_ok, placesOf]

theorem build_sound (hW : WRel m L w) (t : TypeId) {parts : List (Nat × AV)} {vals : Array (Nat × Value)} (hm : parts.map (·.1) = vals.toList.map (·.1))
    (hr : ∀ (j : Nat) (q : Nat × AV) (r : Nat × Value), parts[j]? = some q → vals.toList[j]? = some r → VRel m L q.2 r.2) : Sound P m L w (buildR P true L t parts) (vSem (Instr.build t vals)) := by
  unfold buildR
  split
  · rename_i fields hu
    split
    · rename_i cs hfill
      refine Sound.pure hW fun hp => ?_
      obtain ⟨hz, hf, ho⟩ := hp
      obtain ⟨z, i, hi, hzi, hza, hzr⟩ := zero_parts (w := w) hz
      rw [hza] at hfill
      obtain ⟨os, h1, h2⟩ := fill_rel (place := fun i => (placesOf P fields).toArray[i]?) (fun i => by simp) parts vals.toList _ _ cs (ofV_cells z) (ho rfl) hm hr hfill
      refine ⟨.agg os.toArray, ?_, by simp only [VRel]; exact ⟨os, rfl, h2⟩⟩
      have h1' : Instr.fill (fun i => (placesOf P fields).toArray[i]?) z.cells vals.toList = some os.toArray := by simpa using h1
      have hmf := mapM_fields (P := P) (w := w) hf
      simp [Instr.build, hzr, run_underlying' hu]
      simp at hmf
      simp [hmf]
      simp at h1'
      simp [h1']
    · exact fun h => h.elim
  · rename_i n e hu
    split
    · rename_i cs hfill
      refine Sound.pure hW fun hp => ?_
      obtain ⟨hz, hi', ho⟩ := hp
      obtain ⟨z, i, hi, hzi, hza, hzr⟩ := zero_parts (w := w) hz
      rw [hza] at hfill
      obtain ⟨os, h1, h2⟩ := fill_rel (place := fun i => some (i * P.cellsOf e, P.cellsOf e)) (fun i => rfl) parts vals.toList _ _ cs (ofV_cells z) (ho rfl) hm hr hfill
      refine ⟨.agg os.toArray, ?_, by simp only [VRel]; exact ⟨os, rfl, h2⟩⟩
      have h1' : Instr.fill (fun i => some (i * P.cellsOf e, P.cellsOf e)) z.cells vals.toList = some os.toArray := by simpa using h1
      simp [Instr.build, hzr, run_underlying' hu, run_sizeOf' hi', h1']
    · exact fun h => h.elim
  · exact fun h => h.elim

theorem reps_length (n : Nat) (cs : List AV) : (reps n cs).length = n * cs.length := by
  simp [reps, List.length_flatten]

theorem reps_get (cs : List AV) : ∀ (n j : Nat), j < n * cs.length → (reps n cs)[j]? = cs[j % cs.length]?
  | 0, j, h => by simp at h
  | n + 1, j, h => by
    have e : reps (n + 1) cs = cs ++ reps n cs := by simp [reps, List.replicate_succ]
    rw [e]
    by_cases hj : j < cs.length
    · rw [List.getElem?_append_left hj, Nat.mod_eq_of_lt hj]
    · have hlt : j - cs.length < n * cs.length := by rw [Nat.succ_mul] at h; omega
      rw [List.getElem?_append_right (by omega), reps_get cs n (j - cs.length) hlt]
      rw [Nat.mod_eq_sub_mod (a := j) (by omega)]

theorem zeros_rel {cs : List AV} {zs : Array Value} (h : CRel m L cs zs.toList) (n : Nat) (hz : 0 < cs.length) :
    CRel m L (reps n cs) ((Array.range (n * cs.length)).map (zs[· % zs.size]!)).toList := by
  have hl := h.length
  simp at hl
  refine CRel.mk (by simp [reps_length]) fun j c u hc hu => ?_
  have hj : j < n * cs.length := by
    have := (List.getElem?_eq_some_iff.1 hc).1
    rwa [reps_length] at this
  rw [reps_get cs n j hj] at hc
  simp [hj] at hu
  have hm : j % zs.size < zs.size := Nat.mod_lt _ (by omega)
  rw [← hl] at hc
  obtain ⟨u', hu', hr⟩ := h.get _ _ hc
  simp [hm] at hu'
  rw [getElem!_pos zs _ hm] at hu
  rw [← hu, hu']
  exact hr

/-- a new block that is only read -/
theorem pin_push {w' : World} {o : Obj} (hW : WRel m L w) (hp : Pushed w w' o) :
    WRel { m with pobj := fun x => if x = w.heap.size then some o else m.pobj x } L w' ∧ Ext m L w { m with pobj := fun x => if x = w.heap.size then some o else m.pobj x } L w' := by
  have hpo : ∀ x o', m.pobj x = some o' → (if x = w.heap.size then some o else m.pobj x) = some o' := by
    intro x o' h
    have := hW.pobj_lt h
    rw [if_neg (by omega)]; exact h
  have hm : Mono m L { m with pobj := fun x => if x = w.heap.size then some o else m.pobj x } L :=
    ⟨hpo, fun id cs sz ver h => ⟨cs, ver, h, Nat.le_refl _, fun _ => ⟨rfl, rfl, rfl⟩⟩, fun id r h => ⟨r, h, rfl⟩⟩
  refine ⟨⟨hW.glob.mono hpo, fun x o' h => ?_, fun id cs sz ver hL hc => ?_, fun id cs sz ver hL hc => hW.nils id cs sz ver hL hc, fun id r hL => ?_, fun i j hi hj e => hW.inj i j hi hj e, fun id ho' => ?_, ?_⟩, ?_⟩
  · simp only at h
    split at h
    · rename_i e; subst e; rw [hp.new]; exact h
    · rw [hp.old (hW.pobj_lt h)]; exact hW.pobjs _ _ h
  · obtain ⟨us, rest, elem, lo, hi, h1, h2, h3, h4⟩ := hW.rows id cs sz ver hL hc
    have hlt : m.blk id < w.heap.size := hW.blk_lt (.inl ⟨_, _, _, hL, hc⟩)
    exact ⟨us, rest, elem, lo, hi, by rw [hp.old hlt]; exact h1, CRel.mono hm _ _ h2, h3, h4⟩
  · obtain ⟨o', h1, h2⟩ := hW.iters id r hL
    have hlt : m.blk id < w.heap.size := hW.blk_lt (.inr ⟨_, hL⟩)
    exact ⟨o', by rw [hp.old hlt]; exact h1, h2⟩
  · have hlt : m.blk id < w.heap.size := hW.blk_lt ho'
    simp only
    rw [if_neg (by omega)]
    exact hW.freeo id ho'
  · refine hW.hid.keep (fun _ _ _ _ h => ⟨h, rfl, rfl⟩) (fun id T e l h _ => hp.old (hW.blk_lt (.inr ⟨_, h⟩))) (fun id g k => hp.old (hW.hid.lt k)) (fun id g k => ?_) (fun id g k j hj => hW.hid.own id g k j hj)
    have := hW.hid.lt k
    simp only
    rw [if_neg (by omega)]; exact hW.hid.free id g k
  · exact ⟨fun x hx _ _ => hp.old hx, hp.keep.size, fun x hx => by simp only; rw [if_neg (by omega)], fun id h => .inl ⟨h, rfl⟩, Nat.le_refl _, hm, hp.keep.same, fun _ _ h => .inl h⟩
theorem buildSlice_sound (hW : WRel m L w) (t : TypeId) (len : Nat) {parts : List (Nat × AV)} {vals : Array (Nat × Value)} (hm : parts.map (·.1) = vals.toList.map (·.1))
    (hr : ∀ (j : Nat) (q : Nat × AV) (r : Nat × Value), parts[j]? = some q → vals.toList[j]? = some r → VRel m L q.2 r.2) : Sound P m L w (buildSliceR P true L t len parts) (vSem (Instr.buildSlice t len vals)) := by
  unfold buildSliceR
  split
  · rename_i e hu
    split
    · rename_i cs hfill
      intro hp
      obtain ⟨-, hz, hzl, hs0, hbig, ho, hone⟩ := hp
      obtain ⟨z, i, hi, hzi, hza, hzr⟩ := zero_parts (w := w) hz
      have hsz := run_sizeOf' (P := P) (w := w) (t := e) (by rw [hi]; rfl)
      have hzc : CRel m L (zeroA P e).cells z.cells.toList := by rw [hza]; exact ofV_cells z
      have hzs := zeros_rel hzc len (by omega)
      rw [hzl] at hzs
      obtain ⟨os, h1, h2⟩ := fill_rel (place := fun i => some (i * P.cellsOf e, P.cellsOf e)) (fun i => rfl) parts vals.toList _ _ cs hzs ho hm hr hfill
      have hol := h2.length
      have hcl : cs.length = len * P.cellsOf e := by
        have : ∀ (parts : List (Nat × AV)) (cells out : List AV), fillA (fun i => some (i * P.cellsOf e, P.cellsOf e)) cells parts = some out → out.length = cells.length := by
          intro parts
          induction parts with
          | nil => intro cells out h; simp [fillA] at h; rw [h]
          | cons q parts ih =>
            intro cells out h
            obtain ⟨i, x⟩ := q
            simp only [fillA] at h
            split at h
            · cases h
            · rename_i hc
              rw [ih _ _ h]
              simp at hc
              simp [splice]; omega
        rw [this _ _ _ hfill, reps_length, hzl]
      have hP : Pushed w (w.alloc (.cells os.toArray e)) (.cells (os ++ []).toArray e (0, 0)) := by
        have := pushed_cells w os.toArray e
        simpa using this
      have hpr := push_row (sz := P.cellsOf e) (c := len) hW hP h2 (by simp; omega) (.inl rfl)
      have h1' : Instr.fill (fun i => some (i * P.cellsOf e, P.cellsOf e)) ((Array.range (len * P.cellsOf e)).map (z.cells[· % z.cells.size]!)) vals.toList = some os.toArray := by rw [← h1]
      refine ⟨.value (.slice (some ⟨w.heap.size, 0, none⟩) len len), _, _, ?_, .inl ⟨_, rfl, ?_⟩, hpr, ext_push _ _ hP.keep⟩
      · by_cases hne : len * P.cellsOf e = 0
        · have hz0 : ∀ f : Nat → Value, (Array.range 0).map f = #[] := fun f => Array.eq_empty_of_size_eq_zero (by simp)
          have h1'' : Instr.fill (fun i => some (i * P.cellsOf e, P.cellsOf e)) #[] vals.toList = some os.toArray := by
            rw [← h1', hne, hz0]
          simp [vSem, Instr.buildSlice, run_underlying' hu, hsz, hne, newRow, hz0, h1'']
        · simp [vSem, Instr.buildSlice, run_underlying' hu, hsz, hne, show ¬ 16777216 < len * P.cellsOf e by omega, hzr, newRow, h1']
      · exact new_msl _ _ _ _ _ (by omega) (Nat.le_refl _)
    · exact fun h => h.elim
  · exact fun h => h.elim

theorem roSlice_sound (hW : WRel m L w) (t : TypeId) (len : Nat) {parts : List (Nat × AV)} {vals : Array (Nat × Value)} (hm : parts.map (·.1) = vals.toList.map (·.1))
    (hr : ∀ (j : Nat) (q : Nat × AV) (r : Nat × Value), parts[j]? = some q → vals.toList[j]? = some r → VRel m L q.2 r.2) : Sound P m L w (roSliceR P true L t len parts) (vSem (Instr.buildSlice t len vals)) := by
  unfold roSliceR
  split
  · rename_i e hu
    split
    · rename_i cs hfill
      intro hp
      obtain ⟨hz, hzl, hs0, hbig, ho, hone⟩ := hp
      obtain ⟨z, i, hi, hzi, hza, hzr⟩ := zero_parts (w := w) hz
      have hsz := run_sizeOf' (P := P) (w := w) (t := e) (by rw [hi]; rfl)
      have hzc : CRel m L (zeroA P e).cells z.cells.toList := by rw [hza]; exact ofV_cells z
      have hzs := zeros_rel hzc len (by omega)
      rw [hzl] at hzs
      obtain ⟨os, h1, h2⟩ := fill_rel (place := fun i => some (i * P.cellsOf e, P.cellsOf e)) (fun i => rfl) parts vals.toList _ _ cs hzs ho hm hr hfill
      have hol := h2.length
      have hcl : cs.length = len * P.cellsOf e := by
        have : ∀ (parts : List (Nat × AV)) (cells out : List AV), fillA (fun i => some (i * P.cellsOf e, P.cellsOf e)) cells parts = some out → out.length = cells.length := by
          intro parts
          induction parts with
          | nil => intro cells out h; simp [fillA] at h; rw [h]
          | cons q parts ih =>
            intro cells out h
            obtain ⟨i, x⟩ := q
            simp only [fillA] at h
            split at h
            · cases h
            · rename_i hc
              rw [ih _ _ h]
              simp at hc
              simp [splice]; omega
        rw [this _ _ _ hfill, reps_length, hzl]
      have hP : Pushed w (w.alloc (.cells os.toArray e)) (.cells (os ++ []).toArray e (0, 0)) := by
        have := pushed_cells w os.toArray e
        simpa using this
      obtain ⟨q1, q2⟩ := pin_push hW hP
      have h1' : Instr.fill (fun i => some (i * P.cellsOf e, P.cellsOf e)) ((Array.range (len * P.cellsOf e)).map (z.cells[· % z.cells.size]!)) vals.toList = some os.toArray := by rw [← h1]
      refine ⟨.value (.slice (some ⟨w.heap.size, 0, none⟩) len len), _, _, ?_, .inl ⟨_, rfl, ?_⟩, q1, q2⟩
      · by_cases hne : len * P.cellsOf e = 0
        · have hz0 : ∀ f : Nat → Value, (Array.range 0).map f = #[] := fun f => Array.eq_empty_of_size_eq_zero (by simp)
          have h1'' : Instr.fill (fun i => some (i * P.cellsOf e, P.cellsOf e)) #[] vals.toList = some os.toArray := by
            rw [← h1', hne, hz0]
          simp [vSem, Instr.buildSlice, run_underlying' hu, hsz, hne, newRow, hz0, h1'']
        · simp [vSem, Instr.buildSlice, run_underlying' hu, hsz, hne, show ¬ 16777216 < len * P.cellsOf e by omega, hzr, newRow, h1']
      · simp only [VRel]
        refine ⟨_, _, rfl, Nat.le_refl _, os, CRel.mono q2.mono _ _ h2, .inr ⟨w.heap.size, 0, rfl, fun i v hi => ?_⟩⟩
        simp only [Mem.pin, Nat.zero_add, if_true]
        simpa using hi
    · exact fun h => h.elim
  · exact fun h => h.elim

theorem range_sound (hW : WRel m L w) (t : TypeId) {X : AV} {u : Value} (hx : VRel m L X u) : Sound P m L w (rangeR P true L t X) (vSem (Instr.range t u)) := by
  cases X <;> try exact fun h => h.elim
  case str l =>
    intro hp
    obtain ⟨-, hu⟩ := hp
    simp only [VRel] at hx; subst hx
    have hP := Pushed.alloc w (.stringIter ⟨l.toArray⟩ 0)
    refine ⟨.value (.pointer (some ⟨w.heap.size, 0, none⟩)), _, _, ?_, .inl ⟨_, rfl, ?_⟩, push_raw hW hP rfl, ext_push _ _ hP.keep⟩
    · simp [vSem, Instr.range, run_underlying' hu]
    · simp only [VRel, rangeR]
      exact .inr ⟨.iter l 0, by simp, by simp [Mem.put]⟩

theorem next_sound (hW : WRel m L w) (t : TypeId) (b : Bool) {X : AV} {u : Value} (hx : VRel m L X u) : Sound P m L w (nextR true L X b) (vSem (Instr.next u b t)) := by
  cases X <;> try exact fun h => h.elim
  case ref id ver off =>
    simp only [nextR]
    split
    · rename_i s p hL
      intro hp
      obtain ⟨-, rfl⟩ := hp
      simp only [VRel] at hx
      have hu : u = .pointer (some ⟨m.blk id, 0, none⟩) := by
        rcases hx with ⟨_, _, _, h, _⟩ | ⟨_, h, hu⟩
        · rw [hL] at h; simp at h
        · exact hu
      subst hu
      obtain ⟨ob, hb, hrr⟩ := hW.iters _ _ hL
      simp only [RawRel] at hrr
      subst hrr
      have hlt : m.blk id < w.heap.size := hW.blk_lt (.inr ⟨_, hL⟩)
      have hget : (getObj (m.blk id)).run P w = .ok (.stringIter ⟨s.toArray⟩ p) w := by simp [getObj, Sem.run, hb]
      by_cases hps : p < s.length
      · have hset : (setObj (m.blk id) (.stringIter ⟨s.toArray⟩ (p + (runeAt s p).2))).run P w = .ok () { w with heap := w.heap.setIfInBounds (m.blk id) (.stringIter ⟨s.toArray⟩ (p + (runeAt s p).2)) } := by
          simp [setObj, Sem.run, hb]
        have hC : Chg w { w with heap := w.heap.setIfInBounds (m.blk id) (.stringIter ⟨s.toArray⟩ (p + (runeAt s p).2)) } (m.blk id) (.stringIter ⟨s.toArray⟩ (p + (runeAt s p).2)) := by
          refine ⟨by simp [hlt], fun g' hne _ => ?_, by simp, rfl, rfl, rfl⟩
          simp [Array.getElem?_setIfInBounds, hne.symm]
        obtain ⟨t1, t2⟩ := turn_raw (r := .iter s (p + (runeAt s p).2)) hW hL hC rfl
        refine ⟨.value (.tuple #[.bool true, goInt p, .int .i32 (runeAt s p).1]), _, m, ?_, .inl ⟨_, rfl, ?_⟩, by simpa [hps] using t1, by simpa [hps] using t2⟩
        · simp [vSem, Instr.next, hget, bsize, hps]
          unfold runeAt at hset
          simp [hset, runeAt]
        · simp only [VRel, hps, decide_true]
          exact ⟨fun _ => ⟨[.bool true, goInt p, .int .i32 (runeAt s p).1], rfl, by simp [CRel, VRel, goInt]⟩, fun h => by cases h⟩
      · refine ⟨.value (.tuple #[.bool false]), w, m, ?_, .inl ⟨_, rfl, ?_⟩, ?_, ?_⟩
        · simp [vSem, Instr.next, hget, bsize, hps]
        · rw [show decide (p < s.length) = false by simp [hps]]
          simp only [VRel]
          exact ⟨(fun h => by cases h), fun _ => ⟨[.bool false], rfl, by simp [CRel, VRel]⟩⟩
        · have e : L.set id (.raw (.iter s (if p < s.length then p + (runeAt s p).2 else p))) = L := by
            rw [if_neg hps]
            apply List.ext_getElem?
            intro j
            rw [List.getElem?_set]
            split
            · rename_i h; subst h; split <;> simp_all
            · rfl
          show WRel m (L.set id _) w
          rw [e]; exact hW
        · have e : L.set id (.raw (.iter s (if p < s.length then p + (runeAt s p).2 else p))) = L := by
            rw [if_neg hps]
            apply List.ext_getElem?
            intro j
            rw [List.getElem?_set]
            split
            · rename_i h; subst h; split <;> simp_all
            · rfl
          show Ext m L w m (L.set id _) w
          rw [e]; exact Ext.refl
    · exact fun h => h.elim

end
end Go.Eng
