/- The engine, part 7: conversions and append are sound. -/
import Derived.Test.YtbnnhffkbcekcaaGreatDoorEng6
namespace Go.Eng
open Go
set_option linter.unusedVariables false
set_option linter.unusedSimpArgs false
section
variable {P : Program} {m : Mem} {L : Heap} {w : World}

theorem loadCells_zero (a : Addr) : (loadCells a 0).run P w = .ok #[] w := by simp [loadCells, loadCellsFrom]

theorem bytes_nil (a : Option Addr) (cap : Nat) : (Conv.bytesToString (.slice a 0 cap)).run P w = .ok (.string ⟨#[]⟩) w := by
  cases a with
  | none => simp [Conv.bytesToString]; rfl
  | some a => simp [Conv.bytesToString, loadCells_zero]; rfl

theorem cut_le (need old : Nat) (e : TypeId) (t : Nat) (h : need < 2 ^ 63) : need ≤ (Question.appendCap need old e).cut t := by
  simp [Question.cut]

theorem str_to_bytes (hW : WRel m L w) (e : TypeId) (l : List UInt8) (hl : l.length < 9223372036854775808) : ∃ (w' : World) (c : Nat), (Conv.stringToBytes e ⟨l.toArray⟩).run P w = .ok (.slice (some ⟨w.heap.size, 0, none⟩) l.length c) w' ∧ l.length ≤ c ∧
    WRel (m.put L.length w.heap.size c) (L ++ [.row (l.map byteAV) 1 0]) w' ∧ Ext m L w (m.put L.length w.heap.size c) (L ++ [.row (l.map byteAV) 1 0]) w' := by
  obtain ⟨c, hc⟩ : ∃ c, c = (Question.appendCap l.length 0 e).cut (w.tape w.drawn (.appendCap l.length 0 e)) := ⟨_, rfl⟩
  have hle : l.length ≤ c := by rw [hc]; exact cut_le _ _ _ _ (by omega)
  have hsz : (⟨l.toArray⟩ : ByteArray).size = l.length := bsize l
  have hch : (choose (.appendCap (⟨l.toArray⟩ : ByteArray).size 0 e)).run P w = .ok c w.drew := by
    rw [hsz, run_choose, hc]; rfl
  obtain ⟨us, hus⟩ : ∃ us : List Value, us = l.map fun b => Value.int .u8 b.toNat := ⟨_, rfl⟩
  obtain ⟨rest, hrest⟩ : ∃ r : List Value, r = List.replicate (c - l.length) (.int .u8 0) := ⟨_, rfl⟩
  have hlen : us.length + rest.length = c := by simp [hus, hrest]; omega
  obtain ⟨w', hw'⟩ : ∃ w' : World, w' = (w.drew.alloc (.cells (us ++ rest).toArray e)).freeze ⟨w.heap.size, c, none⟩ 1 := ⟨_, rfl⟩
  have hP : Pushed w w' (.cells (us ++ rest).toArray e (c, c + 1)) := by
    have hh : w'.heap = (w.heap.push (.cells (us ++ rest).toArray e)).modify w.heap.size (fun | .cells c' elem (lo, hi) => .cells c' elem (if lo == hi then (c, c + 1) else (min lo c, max hi (c + 1))) | o => o) := by
      rw [hw', World.freeze, if_neg (by decide)]; rfl
    refine ⟨?_, ?_⟩
    case refine_2 => rw [hw', World.freeze, if_neg (by decide)]; exact ⟨rfl, rfl, rfl⟩
    rw [hh]
    apply Array.ext_getElem?
    intro i
    simp only [Array.getElem?_modify, Array.getElem?_push]
    by_cases hi : i = w.heap.size
    · subst hi; simp
    · simp [hi, Ne.symm hi]
  have hcr : CRel m L (l.map byteAV) us := by
    rw [hus]
    refine CRel.mk (by simp) fun j x u hx hu => ?_
    simp only [List.getElem?_map, Option.map_eq_some_iff] at hx hu
    obtain ⟨b, hb, rfl⟩ := hx
    obtain ⟨b', hb', rfl⟩ := hu
    rw [hb] at hb'
    obtain rfl := Option.some.inj hb'
    simp [byteAV, VRel]
  refine ⟨w', c, ?_, hle, push_row (sz := 1) (c := c) hW hP hcr (by omega) (.inr (by omega)), ext_push _ _ hP.keep⟩
  rw [hsz] at hch
  have ha : ((⟨l.toArray⟩ : ByteArray).data.map (fun b => Value.int .u8 b.toNat) ++ Array.replicate (c - l.length) (Value.int .u8 0)) = (us ++ rest).toArray := by
    rw [hus, hrest]; simp
  have hms : (markStringish ⟨w.drew.heap.size, 0, none⟩).run P (w.drew.alloc (.cells (us ++ rest).toArray e)) = .ok () w' := by
    have hsh : (w.drew.alloc (.cells (us ++ rest).toArray e)).shape? w.drew.heap.size = some (e, c) := by
      show (match (w.heap.push (Obj.cells (us ++ rest).toArray e))[w.heap.size]? with | some (.cells c elem _) => some (elem, c.size) | _ => none) = _
      simp [hlen]
    rw [hw']
    simp only [markStringish, Sem.run_bind, run_shape, Result.andThen_ok, hsh, run_freeze]
    rfl
  simp only [Conv.stringToBytes, Sem.run_bind, hsz, hch, Result.andThen_ok, newRow, run_newObj, Sem.run_pure]
  rw [ha]
  simp only [World.alloc_eq]
  rw [hms]
  rfl

theorem put_self (m : Mem) (id : Nat) : m.put id (m.blk id) (m.cap id) = m := by
  unfold Mem.put
  congr 1
  · funext i; split
    · rename_i h; rw [h]
    · rfl
  · funext i; split
    · rename_i h; rw [h]
    · rfl
theorem set_id {L : Heap} {id : Nat} {o : AObj} (h : L[id]? = some o) : L.set id o = L := by
  apply List.ext_getElem?
  intro j
  rw [List.getElem?_set]
  split
  · rename_i e; subst e
    split
    · exact h.symm
    · rw [List.getElem?_eq_none (by omega)]
  · rfl
/-- bytes out of a constant text: the place behind them is marked -/
theorem conv_same (hW : WRel m L w) (t e : TypeId) (ht : P.underlying t = some (.slice e)) (he : P.underlying e = some (.int .u8)) {id ver off n : Nat} {u : Value} (hx : VRel m L (.msl id ver off n) u) (hn : 0 < n) (hf : fresh L id ver) :
    ∃ w', (convert t t u).run P w = .ok u w' ∧ WRel m L w' ∧ Ext m L w m L w' := by
  obtain ⟨cs, sz, hL, hr, hsz⟩ := fresh_row hf
  obtain ⟨k1, k2, a, rfl, ha⟩ := msl_slice hx hf
  have hcap : m.cap id ≠ 0 := by omega
  have ha' : a = some ⟨m.blk id, off * sz, none⟩ := by
    rcases ha with ha | ha
    · omega
    · rw [ha, hsz]
  subst ha'
  obtain ⟨us, rest, elem, lo, hi, hb, hc, hl, hfz⟩ := hW.rows _ _ _ _ hL hcap
  obtain ⟨N, hN⟩ : ∃ N, N = (us ++ rest).toArray.size := ⟨_, rfl⟩
  have hNl : N = m.cap id * sz := by rw [hN]; simp; omega
  obtain ⟨w', hw'⟩ : ∃ w' : World, w' = w.freeze ⟨m.blk id, N, none⟩ 1 := ⟨_, rfl⟩
  have hh : w'.heap = w.heap.modify (m.blk id) (fun | .cells c' elem (lo, hi) => .cells c' elem (if lo == hi then (N, N + 1) else (min lo N, max hi (N + 1))) | o => o) := by
    rw [hw', World.freeze, if_neg (by decide)]; rfl
  have hC : Chg w w' (m.blk id) (.cells (us ++ rest).toArray elem (if lo == hi then (N, N + 1) else (min lo N, max hi (N + 1)))) := by
    refine ⟨?_, fun g' hg _ => ?_, ?_, ?_⟩
    · rw [hh, Array.getElem?_modify, if_pos rfl, hb]; rfl
    · rw [hh, Array.getElem?_modify, if_neg (Ne.symm hg)]
    · rw [hh]; simp
    · rw [hw', World.freeze, if_neg (by decide)]; exact ⟨rfl, rfl, rfl⟩
  obtain ⟨lo', hi', hlh⟩ : ∃ lo' hi', (if lo == hi then (N, N + 1) else (min lo N, max hi (N + 1))) = (lo', hi') := ⟨_, _, rfl⟩
  rw [hlh] at hC
  have hf' : hi' = lo' ∨ m.cap id * sz ≤ lo' := by
    right
    by_cases hlo : lo = hi
    · subst hlo; simp at hlh; omega
    · have : (lo == hi) = false := by simpa using hlo
      rw [this] at hlh
      simp at hlh
      rcases hfz with hfz | hfz
      · exact absurd hfz.symm hlo
      · omega
  obtain ⟨t1, t2⟩ := turn_row hW hL (cs := cs) (ver' := ver) (g := m.blk id) (c := m.cap id) (.inl ⟨rfl, hcap⟩) hC hc hl hf' hcap (.inl ⟨rfl, rfl, rfl, rfl⟩)
  rw [put_self, set_id hL] at t1 t2
  refine ⟨w', ?_, t1, t2⟩
  have hsh : w.shape? (m.blk id) = some (elem, N) := by simp [World.shape?, hb, hN]
  simp [convert, run_underlying' ht, run_underlying' he, markStringish, hsh, hw']

theorem conv_sound (hW : WRel m L w) (src dst : TypeId) {X : AV} {u : Value} (hx : VRel m L X u) : Sound P m L w (convR P true L src dst X) (vSem (convert src dst u)) := by
  unfold convR
  split
  · rename_i k n
    simp only [VRel] at hx; subst hx
    split
    · rename_i k' hd
      refine Sound.pure hW fun hp => ?_
      obtain ⟨d, hs⟩ := Option.isSome_iff_exists.1 hp
      refine ⟨.int k' (k'.wrap n), ?_, by simp [VRel]⟩
      simp [convert, run_underlying' hs, run_underlying' hd, Conv.intToInt]
    · exact fun h => h.elim
  · rename_i l
    simp only [VRel] at hx; subst hx
    split
    · rename_i hd
      refine Sound.pure hW fun hp => ?_
      exact ⟨.string ⟨l.toArray⟩, by simp [convert, run_underlying' hp, run_underlying' hd], by simp [VRel]⟩
    · rename_i e hd
      intro hp
      obtain ⟨-, hs, he, hl⟩ := hp
      obtain ⟨w', c, hr, hle, h1, h2⟩ := str_to_bytes (P := P) hW e l hl
      refine ⟨.value (.slice (some ⟨w.heap.size, 0, none⟩) l.length c), w', _, ?_, .inl ⟨_, rfl, new_msl _ _ _ _ _ (by simp) hle⟩, h1, h2⟩
      simp [vSem, convert, run_underlying' hs, run_underlying' hd, run_underlying' he, hr]
    · exact fun h => h.elim
  · rename_i cs n
    refine Sound.pure hW fun hp => ?_
    obtain ⟨hd, ⟨e, hs, he⟩, hp⟩ := hp
    obtain ⟨hb, hn⟩ := hp rfl
    simp only [VRel] at hx
    obtain ⟨a, cap, rfl, hle, us, hc, hpin⟩ := hx
    refine ⟨.string ⟨(unbytes cs).toArray⟩, ?_, by simp [VRel]⟩
    have hr : (Conv.bytesToString (.slice a n cap)).run P w = .ok (.string ⟨(unbytes cs).toArray⟩) w := by
      rcases hpin with rfl | ⟨g, o, rfl, hpin⟩
      · have := hc.length
        have hcs : cs = [] := List.eq_nil_of_length_eq_zero (by rw [← this]; rfl)
        subst hcs
        simp at hn; subst hn
        rw [bytes_nil]; rfl
      · have := bytesToString_sound (P := P) (w := w) (g := g) (o := o) hc hb (fun j v hj => hW.pins _ _ _ (hpin j v hj)) cap
        rwa [hn] at this
    simp [convert, run_underlying' hs, run_underlying' hd, run_underlying' he, hr]
  · rename_i id ver off n
    split
    · rename_i e hd
      intro hp
      obtain ⟨rfl, he, hp⟩ := hp
      obtain ⟨hn, hf⟩ := hp rfl
      obtain ⟨w', h1, h2, h3⟩ := conv_same (P := P) hW src e hd he hx hn hf
      exact ⟨.value u, w', m, by simp [vSem, h1], .inl ⟨_, rfl, hx⟩, h2, h3⟩
    · refine Sound.pure hW fun hp => ?_
      obtain ⟨hd, ⟨e, hs, he⟩, hp⟩ := hp
      obtain ⟨hb, hsz1, hf⟩ := hp rfl
      obtain ⟨cs, sz, hL, hr, hsz⟩ := fresh_row hf
      obtain ⟨k1, k2, a, rfl, ha⟩ := msl_slice hx hf
      rw [hr] at hb ⊢
      rw [hsz1, hr] at k1
      rw [hsz1] at ha
      obtain ⟨us, hc, hcell, _⟩ := row_cells hW hL
      refine ⟨.string ⟨(unbytes ((cs.drop off).take n)).toArray⟩, ?_, by simp [VRel]⟩
      have hln : ((cs.drop off).take n).length = n := by simp; omega
      have hr' : (Conv.bytesToString (.slice a n (m.cap id - off))).run P w = .ok (.string ⟨(unbytes ((cs.drop off).take n)).toArray⟩) w := by
        by_cases hn : n = 0
        · subst hn; rw [bytes_nil]; simp [unbytes]
        · have ha' : a = some ⟨m.blk id, off, none⟩ := by
            rcases ha with ha | ha
            · omega
            · simpa using ha
          subst ha'
          have := bytesToString_sound (P := P) (w := w) (g := m.blk id) (o := off) ((hc.drop off).take n) hb (fun j v hj => by
            rw [List.getElem?_take, List.getElem?_drop] at hj
            split at hj
            · exact hcell _ _ hj
            · cases hj) (m.cap id - off)
          rwa [hln] at this
      simp [convert, run_underlying' hs, run_underlying' hd, run_underlying' he, hr']
  · rename_i n c
    simp only [VRel] at hx; subst hx
    refine Sound.pure hW fun hp => ?_
    obtain ⟨hd, e, hs, he⟩ := hp
    refine ⟨.string ⟨#[]⟩, ?_, by simp [VRel]⟩
    simp [convert, run_underlying' hs, run_underlying' hd, run_underlying' he, Conv.bytesToString]
    rfl
  · exact fun h => h.elim

/-- what is appended: its cells, its length -/
theorem src_sound (hW : WRel m L w) {X : AV} {u : Value} {sz : Nat} (hx : VRel m L X u) (ho : srcOk L sz X) : ∃ vs, CRel m L (srcCells L sz X) vs ∧ vs.length = srcLen X * sz ∧
    ∀ w' : World, w'.heap = w.heap → (Builtin.lenOf u).run P w' = .ok (srcLen X) w' ∧ (Builtin.firstCells sz (srcLen X) u).run P w' = .ok vs.toArray w' := by
  cases X <;> try exact ho.elim
  case str l =>
    simp only [VRel] at hx; subst hx
    simp only [srcOk] at ho; subst ho
    refine ⟨l.map fun b => Value.int .u8 b.toNat, ?_, by simp [srcLen], fun w' _ => ⟨by simp [Builtin.lenOf, bsize, srcLen], ?_⟩⟩
    · simp only [srcCells]
      refine CRel.mk (by simp) fun j x u hx hu => ?_
      simp only [List.getElem?_map, Option.map_eq_some_iff] at hx hu
      obtain ⟨b, hb, rfl⟩ := hx
      obtain ⟨b', hb', rfl⟩ := hu
      rw [hb] at hb'
      obtain rfl := Option.some.inj hb'
      simp [byteAV, VRel]
    · have e : ((⟨l.toArray⟩ : ByteArray).extract 0 l.length).data = l.toArray := by simp
      simp [Builtin.firstCells, srcLen, e]
  case lit v =>
    simp only [VRel] at hx; subst hx
    have hv : u = .slice none 0 0 := by
      unfold srcOk at ho
      split at ho <;> first | exact ho.elim | simp_all
    subst hv
    exact ⟨[], by simp [srcCells, CRel], by simp [srcLen], fun w' _ => ⟨by simp [Builtin.lenOf, srcLen], by simp [Builtin.firstCells]⟩⟩
  case sl cs n =>
    simp only [VRel] at hx
    obtain ⟨a, cap, rfl, hle, us, hc, hpin⟩ := hx
    simp only [srcOk] at ho
    have hl := hc.length
    refine ⟨us, by simpa [srcCells] using hc, by simp only [srcLen]; omega, fun w' hw' => ⟨by simp [Builtin.lenOf, srcLen], ?_⟩⟩
    simp only [srcLen]
    rcases hpin with rfl | ⟨g, o, rfl, hpin⟩
    · have hz : n * sz = 0 := by simp at hl; omega
      cases a with
      | none => simp [Builtin.firstCells]
      | some a => simp only [Builtin.firstCells]; rw [hz]; exact loadCells_zero a
    · have := run_loadCells' (P := P) (w := w') g o us (n * sz) (by omega) (fun j v hj => by have := hW.pins _ _ _ (hpin j v hj); simpa [World.cell?, hw'] using this)
      simp only [Builtin.firstCells]
      rw [this, List.take_of_length_le (by omega)]
  case msl id ver off n =>
    simp only [srcOk] at ho
    obtain ⟨hf, hs⟩ := ho
    obtain ⟨cs, sz', hL, hr, hsz⟩ := fresh_row hf
    obtain ⟨k1, k2, a, rfl, ha⟩ := msl_slice hx hf
    rw [hs, hr] at k1
    rw [hs] at ha
    obtain ⟨us, hc, hcell, _⟩ := row_cells hW hL
    have hl := hc.length
    rw [Nat.add_mul] at k1
    have hln : ((us.drop (off * sz)).take (n * sz)).length = n * sz := by simp; omega
    refine ⟨(us.drop (off * sz)).take (n * sz), by simp only [srcCells, hr]; exact (hc.drop _).take _, by simp only [srcLen]; exact hln, fun w' hw' => ⟨by simp [Builtin.lenOf, srcLen], ?_⟩⟩
    simp only [srcLen]
    rcases ha with ha | ha
    · have hn : n = 0 := by omega
      subst hn
      cases a with
      | none => simp [Builtin.firstCells]
      | some a => simp only [Builtin.firstCells, Nat.zero_mul]; rw [loadCells_zero]; simp
    · subst ha
      have := run_loadCells' (P := P) (w := w') (m.blk id) (off * sz) (us.drop (off * sz)) (n * sz) (by simp; omega) (fun j v hj => by rw [List.getElem?_drop] at hj; have := hcell _ _ hj; simpa [World.cell?, hw'] using this)
      simp only [Builtin.firstCells]
      exact this

theorem set_same0 {α : Type} {l : List α} {i : Nat} {x : α} (h : l[i]? = some x) : l.set i x = l := by
  apply List.ext_getElem?
  intro j
  rw [List.getElem?_set]
  split
  · rename_i e
    subst e
    have := (List.getElem?_eq_some_iff.1 h).1
    rw [if_pos this, h]
  · rfl
/-- the first of what is copied -/
theorem src_first (hW : WRel m L w) {X : AV} {u : Value} {sz : Nat} (hx : VRel m L X u) (ho : srcOk L sz X) : ∃ vs, CRel m L (srcCells L sz X) vs ∧ vs.length = srcLen X * sz ∧
    (Builtin.lenOf u).run P w = .ok (srcLen X) w ∧ ∀ q, q ≤ srcLen X → (Builtin.firstCells sz q u).run P w = .ok (vs.take (q * sz)).toArray w := by
  cases X <;> try exact ho.elim
  case str l =>
    simp only [VRel] at hx; subst hx
    simp only [srcOk] at ho; subst ho
    refine ⟨l.map fun b => Value.int .u8 b.toNat, ?_, by simp [srcLen], by simp [Builtin.lenOf, bsize, srcLen], fun q hq => ?_⟩
    · simp only [srcCells]
      refine CRel.mk (by simp) fun j x u hx hu => ?_
      simp only [List.getElem?_map, Option.map_eq_some_iff] at hx hu
      obtain ⟨b, hb, rfl⟩ := hx
      obtain ⟨b', hb', rfl⟩ := hu
      rw [hb] at hb'
      obtain rfl := Option.some.inj hb'
      simp [byteAV, VRel]
    · simp only [srcLen] at hq
      have e : ((⟨l.toArray⟩ : ByteArray).extract 0 q).data = (l.take q).toArray := by simp
      simp [Builtin.firstCells, e, List.map_take]
  case lit v =>
    simp only [VRel] at hx; subst hx
    have hv : u = .slice none 0 0 := by
      unfold srcOk at ho
      split at ho <;> first | exact ho.elim | simp_all
    subst hv
    exact ⟨[], by simp [srcCells, CRel], by simp [srcLen], by simp [Builtin.lenOf, srcLen], fun q hq => by simp [Builtin.firstCells]⟩
  case sl cs n =>
    simp only [VRel] at hx
    obtain ⟨a, cap, rfl, hle, us, hc, hpin⟩ := hx
    simp only [srcOk] at ho
    have hl := hc.length
    refine ⟨us, by simpa [srcCells] using hc, by simp only [srcLen]; omega, by simp [Builtin.lenOf, srcLen], fun q hq => ?_⟩
    simp only [srcLen] at hq
    have hqn : q * sz ≤ n * sz := Nat.mul_le_mul_right _ hq
    rcases hpin with rfl | ⟨g, o, rfl, hpin⟩
    · have hz : q * sz = 0 := by simp at hl; omega
      cases a with
      | none => simp [Builtin.firstCells]
      | some a => simp only [Builtin.firstCells]; rw [hz]; exact loadCells_zero a
    · have := run_loadCells' (P := P) (w := w) g o us (q * sz) (by omega) (fun j v hj => hW.pins _ _ _ (hpin j v hj))
      simp only [Builtin.firstCells]
      exact this
  case msl id ver off n =>
    simp only [srcOk] at ho
    obtain ⟨hf, hs⟩ := ho
    obtain ⟨cs, sz', hL, hr, hsz⟩ := fresh_row hf
    obtain ⟨k1, k2, a, rfl, ha⟩ := msl_slice hx hf
    rw [hs, hr] at k1
    rw [hs] at ha
    obtain ⟨us, hc, hcell, _⟩ := row_cells hW hL
    have hl := hc.length
    rw [Nat.add_mul] at k1
    have hln : ((us.drop (off * sz)).take (n * sz)).length = n * sz := by simp; omega
    refine ⟨(us.drop (off * sz)).take (n * sz), by simp only [srcCells, hr]; exact (hc.drop _).take _, by simp only [srcLen]; exact hln, by simp [Builtin.lenOf, srcLen], fun q hq => ?_⟩
    simp only [srcLen] at hq
    have hqn : q * sz ≤ n * sz := Nat.mul_le_mul_right _ hq
    rw [List.take_take, Nat.min_eq_left hqn]
    rcases ha with ha | ha
    · have hn : q = 0 := by omega
      subst hn
      cases a with
      | none => simp [Builtin.firstCells]
      | some a => simp only [Builtin.firstCells, Nat.zero_mul]; rw [loadCells_zero]; simp
    · subst ha
      have := run_loadCells' (P := P) (w := w) (m.blk id) (off * sz) (us.drop (off * sz)) (q * sz) (by simp; omega) (fun j v hj => by rw [List.getElem?_drop] at hj; exact hcell _ _ hj)
      simp only [Builtin.firstCells]
      exact this

theorem copy_sound (hW : WRel m L w) (t tx ty : TypeId) {X Y : AV} {u v : Value} (hx : VRel m L X u) (hy : VRel m L Y v) : Sound P m L w (copyR P true L t X Y) (vSem (Builtin.copy_ #[t, tx] ty #[u, v])) := by
  unfold copyR
  split
  · rename_i e id ver off n hu
    intro hp
    obtain ⟨-, hie, hpos, ho, hone, hf, hsz, hle⟩ := hp
    obtain ⟨cs, sz, hL, hr, hsz'⟩ := fresh_row hf
    obtain ⟨k1, k2, a, rfl, ha⟩ := msl_slice hx hf
    have he : sz = P.cellsOf e := by rw [← hsz', hsz]
    subst he
    rw [hsz] at ha
    obtain ⟨vs, hvc, hvl, hlen, hfirst⟩ := src_first (P := P) hW hy ho
    obtain ⟨q, hq⟩ : ∃ q, q = min (srcLen Y) n := ⟨_, rfl⟩
    have hq1 : q ≤ srcLen Y := by omega
    have hq2 : q ≤ n := by omega
    have hf1 := hfirst q hq1
    have hso := run_sizeOf' (P := P) (w := w) hie
    have hqs : q * P.cellsOf e ≤ srcLen Y * P.cellsOf e := Nat.mul_le_mul_right _ hq1
    have hqn : q * P.cellsOf e ≤ n * P.cellsOf e := Nat.mul_le_mul_right _ hq2
    rw [hr, Nat.add_mul] at hle
    rw [hr, ← hq]
    have hmin : Nat.min (srcLen Y) n = q := hq.symm
    by_cases hcap : m.cap id = 0
    · have hcs := hW.nils _ _ _ _ hL hcap
      have hn0 : n = 0 := by
        rw [hcs, List.length_nil] at hle
        rcases Nat.eq_zero_or_pos n with h | h
        · exact h
        · have := Nat.mul_pos h hpos; omega
      have hq0 : q = 0 := by omega
      rw [hcs, hq0, Nat.zero_mul, List.take_zero]
      have e0 : splice ([] : List AV) (off * P.cellsOf e) [] = [] := by simp [splice]
      rw [e0]
      have eL : L.set id (.row [] (P.cellsOf e) ver) = L := by rw [← hcs]; exact set_same0 hL
      rw [hq0] at hf1 hmin
      refine ⟨.value (.int .i64 0), w, m, ?_, .inl ⟨_, rfl, by simp [VRel]⟩, ?_, ?_⟩
      · cases a with
        | none => simp [vSem, Builtin.copy_, run_underlying' hu, hlen, hmin, hso, hf1, goInt]
        | some b => simp [vSem, Builtin.copy_, run_underlying' hu, hlen, hmin, hso, hf1, goInt, storeCells]
      · show WRel m (L.set id (.row [] (P.cellsOf e) ver)) w
        rw [eL]; exact hW
      · show Ext m L w m (L.set id (.row [] (P.cellsOf e) ver)) w
        rw [eL]; exact Ext.refl
    · obtain ⟨us, rest, elem, lo, hi', hb, hc, hlen2, hfz⟩ := hW.rows _ _ _ _ hL hcap
      have hul := hc.length
      have hds : ((srcCells L (P.cellsOf e) Y).take (q * P.cellsOf e)).length = q * P.cellsOf e := by rw [List.length_take, ← hvc.length, hvl]; omega
      have hvt : (vs.take (q * P.cellsOf e)).length = q * P.cellsOf e := by rw [List.length_take, hvl]; omega
      have hvone : ∀ x ∈ vs.take (q * P.cellsOf e), x.oneCell' = true := fun x hx => oneCells_rel hvc hone x (List.mem_of_mem_take hx)
      rcases Nat.eq_zero_or_pos q with hq0 | hq0
      · have e0 : splice cs (off * P.cellsOf e) ((srcCells L (P.cellsOf e) Y).take (q * P.cellsOf e)) = cs := by rw [hq0]; simp [splice]
        rw [e0]
        have eL : L.set id (.row cs (P.cellsOf e) ver) = L := set_same0 hL
        rw [hq0] at hf1 hmin
        refine ⟨.value (.int .i64 (q : Int)), w, m, ?_, .inl ⟨_, rfl, by simp [VRel]⟩, ?_, ?_⟩
        · rw [hq0]
          cases a with
          | none => simp [vSem, Builtin.copy_, run_underlying' hu, hlen, hmin, hso, hf1, goInt]
          | some b => simp [vSem, Builtin.copy_, run_underlying' hu, hlen, hmin, hso, hf1, goInt, storeCells]
        · show WRel m (L.set id (.row cs (P.cellsOf e) ver)) w
          rw [eL]; exact hW
        · show Ext m L w m (L.set id (.row cs (P.cellsOf e) ver)) w
          rw [eL]; exact Ext.refl
      have ha' : a = some ⟨m.blk id, off * P.cellsOf e, none⟩ := by
        rcases ha with ha | ha
        · omega
        · exact ha
      subst ha'
      obtain ⟨w', hrun, hC, hs⟩ := run_storeCells' (P := P) (m.blk id) (off * P.cellsOf e) (vs.take (q * P.cellsOf e)) 0 w (us ++ rest) elem lo hi' hb (by simp at *; omega) (fun j h1 h2 => by
        rw [hvt] at h2
        have : (off + n) * P.cellsOf e ≤ m.cap id * P.cellsOf e := Nat.mul_le_mul_right _ k2
        rw [Nat.add_mul] at this
        rcases hfz with h | h <;> omega) hvone
      have e1 : (us ++ rest).take (off * P.cellsOf e + 0) ++ vs.take (q * P.cellsOf e) ++ (us ++ rest).drop (off * P.cellsOf e + 0 + (vs.take (q * P.cellsOf e)).length) = (us.take (off * P.cellsOf e) ++ vs.take (q * P.cellsOf e) ++ us.drop (off * P.cellsOf e + (vs.take (q * P.cellsOf e)).length)) ++ rest := by
        rw [Nat.add_zero, List.take_append_of_le_length (by omega), List.drop_append_of_le_length (by omega)]
        simp
      rw [e1] at hC
      have hsa := splice_append cs (off * P.cellsOf e) ((srcCells L (P.cellsOf e) Y).take (q * P.cellsOf e)) us (vs.take (q * P.cellsOf e)) hc (hvc.take _)
      have hlen3 : (us.take (off * P.cellsOf e) ++ vs.take (q * P.cellsOf e) ++ us.drop (off * P.cellsOf e + (vs.take (q * P.cellsOf e)).length)).length = us.length := by
        rw [List.length_append, List.length_append, hvt, List.length_take, List.length_drop]; omega
      obtain ⟨t1, t2⟩ := turn_row hW hL (cs := splice cs (off * P.cellsOf e) ((srcCells L (P.cellsOf e) Y).take (q * P.cellsOf e))) (ver' := ver) (g := m.blk id) (c := m.cap id) (.inl ⟨rfl, hcap⟩) hC hsa (by rw [hlen3]; exact hlen2) hfz hcap
        (.inl ⟨rfl, by have := hsa.length; omega, rfl, rfl⟩)
      refine ⟨.value (.int .i64 (q : Int)), w', m.put id (m.blk id) (m.cap id), ?_, .inl ⟨_, rfl, by simp [VRel]⟩, t1, t2⟩
      simp [vSem, Builtin.copy_, run_underlying' hu, hlen, hmin, hso, hf1, goInt, hrun]
  · exact fun h => h.elim

theorem notInt (d : TypeDesc) (h : ∀ k, d ≠ .int k) : (match d with | .int _ => true | _ => false) = false := by
  cases d <;> first | rfl | exact absurd rfl (h _)

theorem zeroCells_length (zs : Array Value) (n : Nat) : (Builtin.zeroCells zs n).toList.length = n * zs.size := by simp [Builtin.zeroCells]

/-- the run of an append, past its checks -/
theorem append_run (t tx ty : TypeId) {e : TypeId} (hu : P.underlying t = some (.slice e)) (h1 : ∀ k, P.underlying tx ≠ some (.int k)) (h2 : (P.underlying tx).isSome = true) (hz : hasZero P e) (hb : 0 < P.bytesOf e)
    (base : Option Addr) (n k c : Nat) (x : Value) (hlen : (Builtin.lenOf x).run P w = .ok k w) (hroom : (n + k) * P.bytesOf e ≤ 140737488355328) {w' : World} {v : Value}
    (hin : n + k ≤ c → ∃ news : Array Value, (Builtin.firstCells (P.cellsOf e) k x).run P w = .ok news w ∧ (∀ a, base = some a → (storeCells (a.add (n * P.cellsOf e)) news.toList).run P w = .ok () w') ∧ (base = none → w' = w) ∧ v = .slice base (n + k) c)
    (hout : c < n + k → ∃ (z : Value) (olds news : Array Value), (zeroValue e).run P w.drew = .ok z w.drew ∧ (Builtin.firstCells (P.cellsOf e) n (.slice base n c)).run P w.drew = .ok olds w.drew ∧ (Builtin.firstCells (P.cellsOf e) k x).run P w.drew = .ok news w.drew ∧
      w' = w.drew.alloc (.cells (olds ++ news ++ Builtin.zeroCells z.cells ((Question.appendCap (n + k) c e).cut (w.tape w.drawn (.appendCap (n + k) c e)) - (n + k))) e) ∧
      v = .slice (some ⟨w.heap.size, 0, none⟩) (n + k) ((Question.appendCap (n + k) c e).cut (w.tape w.drawn (.appendCap (n + k) c e)))) :
    (Builtin.append_ #[t, tx] ty #[.slice base n c, x]).run P w = .ok v w' := by
  have hi : (P.info? e).isSome = true := by
    obtain ⟨z, i, hi, _⟩ := zero_parts (w := w) hz; rw [hi]; rfl
  have hsz := run_sizeOf' (P := P) (w := w) hi
  obtain ⟨i, hie, hcs, hby⟩ := run_info' hi
  obtain ⟨dx, hdx⟩ := Option.isSome_iff_exists.1 h2
  have hdx' : ∀ k, dx ≠ .int k := fun k h => h1 k (by rw [hdx, h])
  have hmatch := notInt dx hdx'
  by_cases hnk : n + k ≤ c
  · obtain ⟨news, hn1, hn2, hn3, rfl⟩ := hin hnk
    cases base with
    | none => simp [Builtin.append_, run_underlying' hu, hsz, run_underlying' hdx, hmatch, hlen, hnk, hn1, hn3]
    | some a => simp [Builtin.append_, run_underlying' hu, hsz, run_underlying' hdx, hmatch, hlen, hnk, hn1, hn2 a rfl]
  · obtain ⟨z, olds, news, hzr, ho1, ho2, rfl, rfl⟩ := hout (by omega)
    have hfits := growslice_fits (need := n + k) (old := c) (bytes := P.bytesOf e) (by omega) hroom
    have hb0 : i.bytes ≠ 0 := by rw [← hby]; omega
    have hti : (typeInfo e).run P w = .ok i w := by simp [typeInfo, hie]
    have hti' : (typeInfo e).run P w.drew = .ok i w.drew := by simp [typeInfo, hie]
    have hsz' := run_sizeOf' (P := P) (w := w.drew) hi
    simp [Builtin.append_, run_underlying' hu, hsz, run_underlying' hdx, hmatch, hlen, hnk, hti, hti', hb0, ← hby, show ¬ 281474976710656 < Builtin.nextslicecap (n + k) c * P.bytesOf e by omega, Question.forced, hzr, ho1, ho2, newRow]
    intro _ h0; omega

theorem elemOk_parts {e : TypeId} (h : elemOk P e = true) : hasZero P e ∧ (zeroA P e).cells.length = P.cellsOf e ∧ 0 < P.cellsOf e ∧ 0 < P.bytesOf e := by
  simp only [elemOk, Bool.and_eq_true, beq_iff_eq, decide_eq_true_eq] at h
  exact h

theorem srcTy_parts {t : TypeId} (h : srcTy P t = true) : (∀ k, P.underlying t ≠ some (.int k)) ∧ (P.underlying t).isSome = true := by
  unfold srcTy at h
  split at h
  · cases h
  · rename_i d hd hu
    rw [hu]
    exact ⟨fun k hk => hd k (Option.some.inj hk), rfl⟩
  · cases h

theorem append_nil_sound (hW : WRel m L w) (t tx ty : TypeId) {Y : AV} {v : Value} (hy : VRel m L Y v) {e : TypeId} (hu : P.underlying t = some (.slice e)) (hek : elemOk P e = true)
    (htx : srcTy P tx = true) (ho : srcOk L (P.cellsOf e) Y)
    (hroom : srcLen Y * P.bytesOf e ≤ 140737488355328) :
    ∃ u w' m', (Builtin.append_ #[t, tx] ty #[.slice none 0 0, v]).run P w = .ok u w' ∧ VRel m' (L ++ [.row (srcCells L (P.cellsOf e) Y) (P.cellsOf e) 0]) (.msl L.length 0 0 (srcLen Y)) u ∧
      WRel m' (L ++ [.row (srcCells L (P.cellsOf e) Y) (P.cellsOf e) 0]) w' ∧ Ext m L w m' (L ++ [.row (srcCells L (P.cellsOf e) Y) (P.cellsOf e) 0]) w' := by
  obtain ⟨hz, hzl, hs, hb⟩ := elemOk_parts hek
  obtain ⟨h1, h2⟩ := srcTy_parts htx
  obtain ⟨vs, hvc, hvl, hrun⟩ := src_sound hW hy ho
  by_cases h0 : srcLen Y = 0
  · have hcs : srcCells L (P.cellsOf e) Y = [] := by
      have := hvc.length; rw [h0] at hvl; simp at hvl; rw [hvl] at this; exact List.eq_nil_of_length_eq_zero this.symm
    rw [hcs, h0]
    refine ⟨.slice none 0 0, w, m.put L.length w.heap.size 0, ?_, ?_, push_nil hW _, ext_push _ _ (Keep.refl w)⟩
    · have h := append_run (w := w) (w' := w) (v := .slice none (0 + srcLen Y) 0) t tx ty hu h1 h2 hz hb none 0 (srcLen Y) 0 v (hrun w rfl).1 (by rw [Nat.zero_add]; exact hroom)
        (fun _ => ⟨vs.toArray, (hrun w rfl).2, (fun a h => by cases h), fun _ => rfl, rfl⟩) (fun h => by omega)
      rw [h, h0]
    · simp only [VRel]
      exact ⟨[], P.cellsOf e, 0, by simp, Nat.le_refl _, ⟨_, _, _, rfl⟩, fun _ => ⟨by simp, by simp, none, by simp [Mem.put], .inl (by simp [Mem.put])⟩⟩
  · obtain ⟨z, i, hi, hzi, hza, hzr⟩ := zero_parts (w := w.drew) hz
    obtain ⟨c, hc⟩ : ∃ c, c = (Question.appendCap (0 + srcLen Y) 0 e).cut (w.tape w.drawn (.appendCap (0 + srcLen Y) 0 e)) := ⟨_, rfl⟩
    have hn : srcLen Y < 2 ^ 63 := by
      have : srcLen Y * 1 ≤ srcLen Y * P.bytesOf e := Nat.mul_le_mul_left _ hb
      omega
    have hle : srcLen Y ≤ c := by rw [hc]; have := cut_le (0 + srcLen Y) 0 e (w.tape w.drawn (.appendCap (0 + srcLen Y) 0 e)) (by omega); omega
    have hzs : z.cells.size = P.cellsOf e := by
      have := (ofV_cells (m := m) (L := L) z).length
      rw [← hza, hzl] at this
      simpa using this
    have hP : Pushed w (w.drew.alloc (.cells (#[] ++ vs.toArray ++ Builtin.zeroCells z.cells (c - (0 + srcLen Y))) e)) (.cells (vs ++ (Builtin.zeroCells z.cells (c - (0 + srcLen Y))).toList).toArray e (0, 0)) := by
      have : (#[] ++ vs.toArray ++ Builtin.zeroCells z.cells (c - (0 + srcLen Y))) = (vs ++ (Builtin.zeroCells z.cells (c - (0 + srcLen Y))).toList).toArray := by simp
      rw [this]; exact ⟨rfl, rfl, rfl, rfl⟩
    have hlen : vs.length + (Builtin.zeroCells z.cells (c - (0 + srcLen Y))).toList.length = c * P.cellsOf e := by
      rw [zeroCells_length, hvl, hzs, ← Nat.add_mul]; congr 1; omega
    refine ⟨.slice (some ⟨w.heap.size, 0, none⟩) (0 + srcLen Y) c, _, m.put L.length w.heap.size c, ?_, ?_, push_row hW hP hvc hlen (.inl rfl), ext_push _ _ hP.keep⟩
    · refine append_run (w := w) t tx ty hu h1 h2 hz hb none 0 (srcLen Y) 0 v (hrun w rfl).1 (by rw [Nat.zero_add]; exact hroom) (fun h => by omega)
        (fun _ => ⟨z, #[], vs.toArray, hzr, by simp [Builtin.firstCells], (hrun w.drew rfl).2, by rw [hc], by rw [hc]⟩)
    · rw [Nat.zero_add]
      exact new_msl _ _ _ _ _ (by rw [← hvl, hvc.length]; exact Nat.le_refl _) hle

/-- an append behind an own row, whatever is laid behind it -/
theorem append_row_core (hW : WRel m L w) (t tx ty : TypeId) {x s : Value} {e : TypeId} (hek : elemOk P e = true) {ds : List AV} {k : Nat} {vs : List Value} (hvc : CRel m L ds vs) (hvl : vs.length = k * P.cellsOf e) (hone : oneCells ds = true) {id ver n : Nat} (hf : fresh L id ver) (hsz : szOf L id = P.cellsOf e) (hx : VRel m L (.msl id ver 0 n) s)
    (hfull : (rowOf L id).length = n * P.cellsOf e) (hroom : (n + k) * P.bytesOf e ≤ 140737488355328)
    (hrunA : ∀ (base : Option Addr) (c : Nat) (w' : World) (v : Value), (n + k ≤ c → (∀ a, base = some a → (storeCells (a.add (n * P.cellsOf e)) vs).run P w = .ok () w') ∧ (base = none → vs = [] ∧ w' = w) ∧ v = .slice base (n + k) c) →
      (c < n + k → ∃ (z : Value) (olds : Array Value), (zeroValue e).run P w.drew = .ok z w.drew ∧ (Builtin.firstCells (P.cellsOf e) n (.slice base n c)).run P w.drew = .ok olds w.drew ∧
        w' = w.drew.alloc (.cells (olds ++ vs.toArray ++ Builtin.zeroCells z.cells ((Question.appendCap (n + k) c e).cut (w.tape w.drawn (.appendCap (n + k) c e)) - (n + k))) e) ∧
        v = .slice (some ⟨w.heap.size, 0, none⟩) (n + k) ((Question.appendCap (n + k) c e).cut (w.tape w.drawn (.appendCap (n + k) c e)))) →
      (Builtin.append_ #[t, tx] ty #[.slice base n c, x]).run P w = .ok v w') :
    ∃ u w' m', (Builtin.append_ #[t, tx] ty #[s, x]).run P w = .ok u w' ∧ VRel m' (L.set id (.row (rowOf L id ++ ds) (P.cellsOf e) (ver + 1))) (.msl id (ver + 1) 0 (n + k)) u ∧
      WRel m' (L.set id (.row (rowOf L id ++ ds) (P.cellsOf e) (ver + 1))) w' ∧ Ext m L w m' (L.set id (.row (rowOf L id ++ ds) (P.cellsOf e) (ver + 1))) w' := by
  obtain ⟨hz, hzl, hs, hb⟩ := elemOk_parts hek
  obtain ⟨cs, sz, hL, hr, hsz'⟩ := fresh_row hf
  have hlt : id < L.length := (List.getElem?_eq_some_iff.1 hL).1
  obtain ⟨k1, k2, a, rfl, ha⟩ := msl_slice hx hf
  have he : sz = P.cellsOf e := by rw [← hsz', hsz]
  subst he
  rw [hr] at hfull ⊢
  rw [Nat.sub_zero, Nat.zero_mul] at *
  rw [Nat.zero_add] at k2
  obtain ⟨us, hc, hcell, _⟩ := row_cells hW hL
  have hul := hc.length
  have hvone := oneCells_rel hvc hone
  by_cases hin : n + k ≤ m.cap id
  · by_cases hcap : m.cap id = 0
    · have hcs := hW.nils _ _ _ _ hL hcap
      have hn0 : n = 0 := by omega
      have hs0 : k = 0 := by omega
      have hvs : ds = [] := by
        have := hvc.length; rw [hs0, Nat.zero_mul] at hvl; exact List.eq_nil_of_length_eq_zero (by omega)
      have hvs' : vs = [] := List.eq_nil_of_length_eq_zero (by rw [hvl, hs0, Nat.zero_mul])
      obtain ⟨t1, t2⟩ := turn_nil hW hL hcap 0
      rw [hcs, hvs, hn0, hs0]
      refine ⟨.slice a (0 + 0) (m.cap id), w, _, ?_, ?_, t1, t2⟩
      · have h := hrunA a (m.cap id) w (.slice a (n + k) (m.cap id))
          (fun _ => ⟨(fun b hb' => by rw [hvs']; simp [storeCells]), fun _ => ⟨hvs', rfl⟩, rfl⟩) (fun h => by omega)
        rw [hn0, hs0] at h; exact h
      · simp only [VRel]
        exact ⟨[], P.cellsOf e, ver + 1, by simp [hlt], Nat.le_refl _, ⟨_, _, _, rfl⟩, fun _ => ⟨by simp, by simp, a, by simp [Mem.put, hcap], .inl (by simp [Mem.put])⟩⟩
    · obtain ⟨us', rest, elem, lo, hi, hblk, hc', hlen, hfz⟩ := hW.rows _ _ _ _ hL hcap
      have hul' := hc'.length
      have ha' : a = some ⟨m.blk id, 0, none⟩ := by
        rcases ha with ha | ha
        · omega
        · exact ha
      subst ha'
      have hmul : (n + k) * P.cellsOf e ≤ m.cap id * P.cellsOf e := Nat.mul_le_mul_right _ hin
      rw [Nat.add_mul] at hmul
      obtain ⟨w', hst, hC, hsize⟩ := run_storeCells' (P := P) (m.blk id) (n * P.cellsOf e) vs 0 w (us' ++ rest) elem lo hi hblk (by simp; omega) (fun j hj1 hj2 => by omega) hvone
      have e1 : (us' ++ rest).take (n * P.cellsOf e + 0) ++ vs ++ (us' ++ rest).drop (n * P.cellsOf e + 0 + vs.length) = (us' ++ vs) ++ rest.drop vs.length := by
        rw [Nat.add_zero, List.take_left' (by omega), List.drop_append, List.drop_eq_nil_of_le (by omega)]
        simp
        congr 1; omega
      rw [e1] at hC
      obtain ⟨t1, t2⟩ := turn_row hW hL (cs := cs ++ ds) (ver' := ver + 1) (g := m.blk id) (c := m.cap id) (.inl ⟨rfl, hcap⟩) hC (hc'.append hvc) (by simp; omega) hfz hcap (.inr rfl)
      refine ⟨.slice (some ⟨m.blk id, 0, none⟩) (n + k) (m.cap id), w', _, ?_, ?_, t1, t2⟩
      · exact hrunA _ (m.cap id) w' _
          (fun _ => ⟨(fun b hb' => by cases hb'; rw [Addr.add_lit, Nat.zero_add]; exact hst), (fun h => by cases h), rfl⟩) (fun h => by omega)
      · simp only [VRel]
        refine ⟨cs ++ ds, P.cellsOf e, ver + 1, by simp [hlt], Nat.le_refl _, ⟨_, _, _, rfl⟩, fun _ => ⟨?_, by simpa [Mem.put] using hin, some ⟨m.blk id, 0, none⟩, by simp [Mem.put], .inr (by simp [Mem.put])⟩⟩
        have := hvc.length
        rw [Nat.zero_add, Nat.add_mul, List.length_append]; omega
  · obtain ⟨z, i, hi, hzi, hza, hzr⟩ := zero_parts (w := w.drew) hz
    obtain ⟨c, hc2⟩ : ∃ c, c = (Question.appendCap (n + k) (m.cap id) e).cut (w.tape w.drawn (.appendCap (n + k) (m.cap id) e)) := ⟨_, rfl⟩
    have hn : n + k < 2 ^ 63 := by
      have : (n + k) * 1 ≤ (n + k) * P.bytesOf e := Nat.mul_le_mul_left _ hb
      omega
    have hle : n + k ≤ c := by rw [hc2]; exact cut_le _ _ _ _ hn
    have hzs : z.cells.size = P.cellsOf e := by
      have := (ofV_cells (m := m) (L := L) z).length
      rw [← hza, hzl] at this
      simpa using this
    have hold : (Builtin.firstCells (P.cellsOf e) n (.slice a n (m.cap id))).run P w.drew = .ok us.toArray w.drew := by
      cases a with
      | none =>
        have hn0 : n = 0 := by
          rcases ha with ha | ha
          · omega
          · cases ha
        have : us = [] := List.eq_nil_of_length_eq_zero (by rw [hul, hfull, hn0, Nat.zero_mul])
        simp [Builtin.firstCells, this]
      | some b =>
        rcases ha with ha | ha
        · have hn0 : n = 0 := by omega
          have : us = [] := List.eq_nil_of_length_eq_zero (by rw [hul, hfull, hn0, Nat.zero_mul])
          simp only [Builtin.firstCells, hn0, Nat.zero_mul, this]
          exact loadCells_zero b
        · cases ha
          have := run_loadCells' (P := P) (w := w.drew) (m.blk id) 0 us (n * P.cellsOf e) (by omega) (fun j v hj => by rw [Nat.zero_add]; exact hcell j v hj)
          rw [List.take_of_length_le (by omega)] at this
          exact this
    obtain ⟨rest, hrest⟩ : ∃ r, r = (Builtin.zeroCells z.cells (c - (n + k))).toList := ⟨_, rfl⟩
    have hP : Pushed w (w.drew.alloc (.cells (us.toArray ++ vs.toArray ++ Builtin.zeroCells z.cells (c - (n + k))) e)) (.cells ((us ++ vs) ++ rest).toArray e (0, 0)) := by
      have : (us.toArray ++ vs.toArray ++ Builtin.zeroCells z.cells (c - (n + k))) = ((us ++ vs) ++ rest).toArray := by rw [hrest]; simp
      rw [this]; exact ⟨rfl, rfl, rfl, rfl⟩
    have hlen : (us ++ vs).length + rest.length = c * P.cellsOf e := by
      rw [hrest, zeroCells_length, hzs, List.length_append, hul, hfull, hvl, ← Nat.add_mul, ← Nat.add_mul]; congr 1; omega
    have hC : Chg w (w.drew.alloc (.cells (us.toArray ++ vs.toArray ++ Builtin.zeroCells z.cells (c - (n + k))) e)) w.heap.size (.cells ((us ++ vs) ++ rest).toArray e (0, 0)) :=
      ⟨hP.new, fun g' _ hg => hP.old hg, by rw [hP.size]; omega, hP.2⟩
    obtain ⟨t1, t2⟩ := turn_row hW hL (cs := cs ++ ds) (ver' := ver + 1) (g := w.heap.size) (c := c) (.inr (Nat.le_refl _)) hC (hc.append hvc) hlen (.inl rfl) (by omega) (.inr rfl)
    refine ⟨.slice (some ⟨w.heap.size, 0, none⟩) (n + k) c, _, _, ?_, ?_, t1, t2⟩
    · exact hrunA a (m.cap id) _ _ (fun h => by omega)
        (fun _ => ⟨z, us.toArray, hzr, hold, by rw [hc2], by rw [hc2]⟩)
    · simp only [VRel]
      refine ⟨cs ++ ds, P.cellsOf e, ver + 1, by simp [hlt], Nat.le_refl _, ⟨_, _, _, rfl⟩, fun _ => ⟨?_, by simpa [Mem.put] using hle, some ⟨w.heap.size, 0, none⟩, by simp [Mem.put], .inr (by simp [Mem.put])⟩⟩
      have := hvc.length
      rw [Nat.zero_add, Nat.add_mul, List.length_append]; omega

theorem append_row_sound (hW : WRel m L w) (t tx ty : TypeId) {Y : AV} {v s : Value} (hy : VRel m L Y v) {e : TypeId} (hu : P.underlying t = some (.slice e)) (hek : elemOk P e = true)
    (htx : srcTy P tx = true) (ho : srcOk L (P.cellsOf e) Y) (hone : oneCells (srcCells L (P.cellsOf e) Y) = true) {id ver n : Nat} (hf : fresh L id ver) (hsz : szOf L id = P.cellsOf e) (hx : VRel m L (.msl id ver 0 n) s)
    (hfull : (rowOf L id).length = n * P.cellsOf e) (hroom : (n + srcLen Y) * P.bytesOf e ≤ 140737488355328) :
    ∃ u w' m', (Builtin.append_ #[t, tx] ty #[s, v]).run P w = .ok u w' ∧ VRel m' (L.set id (.row (rowOf L id ++ srcCells L (P.cellsOf e) Y) (P.cellsOf e) (ver + 1))) (.msl id (ver + 1) 0 (n + srcLen Y)) u ∧
      WRel m' (L.set id (.row (rowOf L id ++ srcCells L (P.cellsOf e) Y) (P.cellsOf e) (ver + 1))) w' ∧ Ext m L w m' (L.set id (.row (rowOf L id ++ srcCells L (P.cellsOf e) Y) (P.cellsOf e) (ver + 1))) w' := by
  obtain ⟨hz, hzl, hs, hb⟩ := elemOk_parts hek
  obtain ⟨h1, h2⟩ := srcTy_parts htx
  obtain ⟨vs, hvc, hvl, hrun⟩ := src_sound (P := P) hW hy ho
  refine append_row_core hW t tx ty hek hvc hvl hone hf hsz hx hfull hroom fun base c w' u hin hout => ?_
  refine append_run t tx ty hu h1 h2 hz hb base n (srcLen Y) c v (hrun w rfl).1 hroom (fun h => ?_) (fun h => ?_)
  · obtain ⟨k1, k2, k3⟩ := hin h
    exact ⟨vs.toArray, (hrun w rfl).2, k1, fun h => (k2 h).2, k3⟩
  · obtain ⟨z, olds, k1, k2, k3, k4⟩ := hout h
    exact ⟨z, olds, vs.toArray, k1, k2, (hrun w.drew rfl).2, k3, k4⟩

theorem one_app : ∀ a b : List AV, oneCells (a ++ b) = (oneCells a && oneCells b)
  | [], b => by simp [oneCells]
  | x :: a, b => by
    have ih := one_app a b
    cases x <;> simp only [List.cons_append, oneCells, Bool.false_and, ih, Bool.and_assoc]
theorem one_reps {cs : List AV} (h : oneCells cs = true) : ∀ n : Nat, oneCells (reps n cs) = true
  | 0 => by simp [reps, oneCells]
  | n + 1 => by
    have := one_reps h n
    simp only [reps, List.replicate_succ, List.flatten_cons, one_app, h, Bool.true_and] at this ⊢
    exact this
/-- so many zero values, laid behind an own row -/
theorem zeros_sound (hW : WRel m L w) (t tx ty : TypeId) {X : AV} {u : Value} (k : IntKind) (q : Int) (hx : VRel m L X u) : Sound P m L w (zerosR P true L t tx X q) (vSem (Builtin.append_ #[t, tx] ty #[u, .int k q])) := by
  unfold zerosR
  split
  · rename_i e k0 id ver off n hu hux
    intro hp
    obtain ⟨-, hek, hzo, h0, hf, hsz, rfl, hfull, hroom⟩ := hp
    obtain ⟨hz, hzl, hs, hb⟩ := elemOk_parts hek
    obtain ⟨z, i, hi, hzi, hza, hzr⟩ := zero_parts (w := w) hz
    obtain ⟨z', i', hi', hzi', hza', hzr'⟩ := zero_parts (w := w.drew) hz
    have hzz : z' = z := by rw [hi] at hi'; cases hi'; rw [hzi] at hzi'; exact (Option.some.inj hzi').symm
    subst hzz
    have hzc : CRel m L (zeroA P e).cells z'.cells.toList := by rw [hza]; exact ofV_cells z'
    have hzcl := hzc.length
    have hzs : z'.cells.size = P.cellsOf e := by simp at hzcl; omega
    have hrel := zeros_rel hzc q.toNat (by omega)
    rw [hzl] at hrel
    have hzc2 : (Builtin.zeroCells z'.cells q.toNat).toList = ((Array.range (q.toNat * P.cellsOf e)).map (z'.cells[· % z'.cells.size]!)).toList := by rw [Builtin.zeroCells, hzs]
    have hone : oneCells (reps q.toNat (zeroA P e).cells) = true := one_reps hzo q.toNat
    have hvl : ((Array.range (q.toNat * P.cellsOf e)).map (z'.cells[· % z'.cells.size]!)).toList.length = q.toNat * P.cellsOf e := by simp
    have hqr : q ≤ 140737488355328 := by
      have : (n + q.toNat) * 1 ≤ (n + q.toNat) * P.bytesOf e := Nat.mul_le_mul_left _ hb
      omega
    have hwq : IntKind.i64.wrap q = q := IntWalk.i64_in q (by omega)
    have hsz2 := run_sizeOf' (P := P) (w := w) (t := e) (by rw [hi]; rfl)
    obtain ⟨i2, hie, hcs, hby⟩ := run_info' (P := P) (t := e) (by rw [hi]; rfl)
    rw [hi] at hie; obtain rfl := Option.some.inj hie
    have hti : (typeInfo e).run P w = .ok i w := by simp [typeInfo, hi]
    have hti' : (typeInfo e).run P w.drew = .ok i w.drew := by simp [typeInfo, hi]
    have hsz3 := run_sizeOf' (P := P) (w := w.drew) (t := e) (by rw [hi]; rfl)
    have hb0 : i.bytes ≠ 0 := by rw [← hby]; omega
    have hqb : ¬ (281474976710656 : Int) < q * i.bytes := by
      have h1 : q.toNat * P.bytesOf e ≤ (n + q.toNat) * P.bytesOf e := Nat.mul_le_mul_right _ (by omega)
      have h2 : (q.toNat : Int) = q := by omega
      have h4 : q.toNat * P.bytesOf e ≤ 140737488355328 := Nat.le_trans h1 hroom
      have h5 : ((q.toNat * P.bytesOf e : Nat) : Int) = q * i.bytes := by rw [Int.natCast_mul, h2, hby]
      rw [← h5]
      omega
    have hqb2 : ¬ (281474976710656 : Int) < q * (P.bytesOf e : Int) := by rw [hby]; exact hqb
    have hbig : ¬ (9223372036854775807 : Int) < (n : Int) + max q 0 := by
      have : (n + q.toNat) * 1 ≤ (n + q.toNat) * P.bytesOf e := Nat.mul_le_mul_left _ hb
      omega
    obtain ⟨r, w', m', r1, r2, r3, r4⟩ := append_row_core (x := .int k q) hW t tx ty hek hrel hvl hone hf hsz hx hfull hroom fun base c w' u hin hout => by
      have hzero : q.toNat * P.cellsOf e = 0 → ((Array.range (q.toNat * P.cellsOf e)).map (z'.cells[· % z'.cells.size]!)).toList = [] := fun h => by rw [h]; simp
      by_cases hnk : n + q.toNat ≤ c
      · obtain ⟨k1, k2, rfl⟩ := hin hnk
        rw [← hzc2] at k1 k2
        by_cases hq0 : q.toNat * P.cellsOf e = 0
        · have hnil : (Builtin.zeroCells z'.cells q.toNat).toList = [] := by rw [hzc2]; exact hzero hq0
          rw [hnil] at k1 k2
          cases base with
          | none => simp [Builtin.append_, run_underlying' hu, hsz2, run_underlying' hux, asInt, asIntOf, hwq, show ¬ q < 0 by omega, hti, hqb, hnk, hq0, (k2 rfl).2]
          | some a => have := k1 a rfl; simp [Builtin.append_, run_underlying' hu, hsz2, run_underlying' hux, asInt, asIntOf, hwq, show ¬ q < 0 by omega, hti, hqb, hnk, hq0, this]
        · cases base with
          | none => simp [Builtin.append_, run_underlying' hu, hsz2, run_underlying' hux, asInt, asIntOf, hwq, show ¬ q < 0 by omega, hti, hqb, hnk, hq0, hzr, (k2 rfl).2]
          | some a => have := k1 a rfl; simp [Builtin.append_, run_underlying' hu, hsz2, run_underlying' hux, asInt, asIntOf, hwq, show ¬ q < 0 by omega, hti, hqb, hnk, hq0, hzr, this]
      · obtain ⟨z2, olds, k1, k2, rfl, rfl⟩ := hout (by omega)
        rw [hzr'] at k1
        obtain ⟨rfl, _⟩ : z' = z2 ∧ True := by cases k1; exact ⟨rfl, trivial⟩
        have hfits := growslice_fits (need := n + q.toNat) (old := c) (bytes := P.bytesOf e) (by omega) hroom
        rw [← hzc2]
        by_cases hq0 : q.toNat * P.cellsOf e = 0
        · have hnil : (Builtin.zeroCells z'.cells q.toNat).toList = [] := by rw [hzc2]; exact hzero hq0
          have hq1 : q.toNat = 0 := by
            rcases Nat.eq_zero_or_pos q.toNat with h | h
            · exact h
            · have := Nat.mul_pos h hs; omega
          rw [hnil]
          simp [Builtin.append_, run_underlying' hu, hsz2, run_underlying' hux, asInt, asIntOf, hwq, show ¬ q < 0 by omega, hti, hti', hqb, hqb2, hbig, hnk, hb0, ← hby, show ¬ 281474976710656 < Builtin.nextslicecap (n + q.toNat) c * P.bytesOf e by omega, Question.forced, hzr', k2, newRow, hq0]
          try (intro h; omega)
        · simp [Builtin.append_, run_underlying' hu, hsz2, run_underlying' hux, asInt, asIntOf, hwq, show ¬ q < 0 by omega, hti, hti', hqb, hqb2, hbig, hnk, hb0, ← hby, show ¬ 281474976710656 < Builtin.nextslicecap (n + q.toNat) c * P.bytesOf e by omega, Question.forced, hzr', k2, newRow, hq0]
          try (intro h; omega)
    exact ⟨.value r, w', m', by simp [vSem, r1], .inl ⟨r, rfl, r2⟩, r3, r4⟩
  · exact fun h => h.elim

theorem append_csl_sound (hW : WRel m L w) (t tx ty : TypeId) {Y : AV} {v s : Value} (hy : VRel m L Y v) {e : TypeId} (hu : P.underlying t = some (.slice e)) (hek : elemOk P e = true)
    (htx : srcTy P tx = true) (ho : srcOk L (P.cellsOf e) Y) {id ver off n : Nat} (hf : fresh L id ver) (hsz : szOf L id = P.cellsOf e) (hx : VRel m L (.csl id ver off n) s)
    (hpos : 0 < srcLen Y) (hroom : (n + srcLen Y) * P.bytesOf e ≤ 140737488355328) :
    ∃ u w' m', (Builtin.append_ #[t, tx] ty #[s, v]).run P w = .ok u w' ∧ VRel m' (L ++ [.row (((rowOf L id).drop (off * P.cellsOf e)).take (n * P.cellsOf e) ++ srcCells L (P.cellsOf e) Y) (P.cellsOf e) 0]) (.msl L.length 0 0 (n + srcLen Y)) u ∧
      WRel m' (L ++ [.row (((rowOf L id).drop (off * P.cellsOf e)).take (n * P.cellsOf e) ++ srcCells L (P.cellsOf e) Y) (P.cellsOf e) 0]) w' ∧ Ext m L w m' (L ++ [.row (((rowOf L id).drop (off * P.cellsOf e)).take (n * P.cellsOf e) ++ srcCells L (P.cellsOf e) Y) (P.cellsOf e) 0]) w' := by
  obtain ⟨hz, hzl, hs, hb⟩ := elemOk_parts hek
  obtain ⟨h1, h2⟩ := srcTy_parts htx
  obtain ⟨vs, hvc, hvl, hrun⟩ := src_sound hW hy ho
  obtain ⟨cs, sz, hL, hr, hsz'⟩ := fresh_row hf
  obtain ⟨k1, k2, a, rfl, ha⟩ := csl_slice hx hf
  have he : sz = P.cellsOf e := by rw [← hsz', hsz]
  subst he
  rw [hr, hsz] at k1
  rw [hsz] at ha
  rw [hr]
  obtain ⟨us, hc, hcell, _⟩ := row_cells hW hL
  have hul := hc.length
  rw [Nat.add_mul] at k1
  obtain ⟨os, hos⟩ : ∃ os, os = (us.drop (off * P.cellsOf e)).take (n * P.cellsOf e) := ⟨_, rfl⟩
  have hol : os.length = n * P.cellsOf e := by rw [hos]; simp; omega
  have hoc : CRel m L ((cs.drop (off * P.cellsOf e)).take (n * P.cellsOf e)) os := by rw [hos]; exact (hc.drop _).take _
  obtain ⟨z, i, hi, hzi, hza, hzr⟩ := zero_parts (w := w.drew) hz
  obtain ⟨c, hc2⟩ : ∃ c, c = (Question.appendCap (n + srcLen Y) n e).cut (w.tape w.drawn (.appendCap (n + srcLen Y) n e)) := ⟨_, rfl⟩
  have hn : n + srcLen Y < 2 ^ 63 := by
    have : (n + srcLen Y) * 1 ≤ (n + srcLen Y) * P.bytesOf e := Nat.mul_le_mul_left _ hb
    omega
  have hle : n + srcLen Y ≤ c := by rw [hc2]; exact cut_le _ _ _ _ hn
  have hzs : z.cells.size = P.cellsOf e := by
    have := (ofV_cells (m := m) (L := L) z).length
    rw [← hza, hzl] at this
    simpa using this
  have hold : (Builtin.firstCells (P.cellsOf e) n (.slice a n n)).run P w.drew = .ok os.toArray w.drew := by
    rcases ha with ha | ha
    · subst ha
      have : os = [] := List.eq_nil_of_length_eq_zero (by rw [hol, Nat.zero_mul])
      cases a with
      | none => simp [Builtin.firstCells, this]
      | some b => simp only [Builtin.firstCells, Nat.zero_mul, this]; exact loadCells_zero b
    · subst ha
      have := run_loadCells' (P := P) (w := w.drew) (m.blk id) (off * P.cellsOf e) (us.drop (off * P.cellsOf e)) (n * P.cellsOf e) (by simp; omega) (fun j v hj => by rw [List.getElem?_drop] at hj; exact hcell _ _ hj)
      rw [← hos] at this
      exact this
  have hP : Pushed w (w.drew.alloc (.cells (os.toArray ++ vs.toArray ++ Builtin.zeroCells z.cells (c - (n + srcLen Y))) e)) (.cells ((os ++ vs) ++ (Builtin.zeroCells z.cells (c - (n + srcLen Y))).toList).toArray e (0, 0)) := by
    have : (os.toArray ++ vs.toArray ++ Builtin.zeroCells z.cells (c - (n + srcLen Y))) = ((os ++ vs) ++ (Builtin.zeroCells z.cells (c - (n + srcLen Y))).toList).toArray := by simp
    rw [this]; exact ⟨rfl, rfl, rfl, rfl⟩
  have hlen : (os ++ vs).length + (Builtin.zeroCells z.cells (c - (n + srcLen Y))).toList.length = c * P.cellsOf e := by
    rw [zeroCells_length, hzs, List.length_append, hol, hvl, ← Nat.add_mul, ← Nat.add_mul]; congr 1; omega
  refine ⟨.slice (some ⟨w.heap.size, 0, none⟩) (n + srcLen Y) c, _, m.put L.length w.heap.size c, ?_, ?_, push_row hW hP (hoc.append hvc) hlen (.inl rfl), ext_push _ _ hP.keep⟩
  · exact append_run (w := w) t tx ty hu h1 h2 hz hb a n (srcLen Y) n v (hrun w rfl).1 hroom (fun h => by omega)
      (fun _ => ⟨z, os.toArray, vs.toArray, hzr, hold, (hrun w.drew rfl).2, by rw [hc2], by rw [hc2]⟩)
  · have hcl := (hoc.append hvc).length
    rw [List.length_append, hol, hvl, ← Nat.add_mul] at hcl
    exact new_msl _ _ _ _ _ (by rw [← hcl]; exact Nat.le_refl _) hle

theorem app_sound (hW : WRel m L w) (t tx ty : TypeId) {X Y : AV} {u v : Value} (hx : VRel m L X u) (hy : VRel m L Y v) (happ : Sound P m L w (appendR P true L t tx X Y) (vSem (Builtin.append_ #[t, tx] ty #[u, v]))) : Sound P m L w (appR P true L t tx X Y) (vSem (Builtin.append_ #[t, tx] ty #[u, v])) := by
  unfold appR
  split
  · rename_i k q
    simp only [VRel] at hy; subst hy
    exact zeros_sound hW t tx ty k q hx
  · exact happ
theorem append_sound (hW : WRel m L w) (t tx ty : TypeId) {X Y : AV} {u v : Value} (hx : VRel m L X u) (hy : VRel m L Y v) : Sound P m L w (appendR P true L t tx X Y) (vSem (Builtin.append_ #[t, tx] ty #[u, v])) := by
  unfold appendR
  split
  · rename_i e hu
    split
    · intro hp
      obtain ⟨-, hek, htx, ho, hone, hroom⟩ := hp
      simp only [VRel] at hx; subst hx
      obtain ⟨r, w', m', h1, h2, h3, h4⟩ := append_nil_sound hW t tx ty hy hu hek htx ho hroom
      exact ⟨.value r, w', m', by simp [vSem, h1], .inl ⟨r, rfl, h2⟩, h3, h4⟩
    · rename_i id ver off n
      intro hp
      obtain ⟨-, hek, htx, ho, hone, hf, hsz, rfl, hfull, hroom⟩ := hp
      obtain ⟨r, w', m', h1, h2, h3, h4⟩ := append_row_sound hW t tx ty hy hu hek htx ho hone hf hsz hx hfull hroom
      exact ⟨.value r, w', m', by simp [vSem, h1], .inl ⟨r, rfl, h2⟩, h3, h4⟩
    · rename_i id ver off n
      intro hp
      obtain ⟨-, hek, htx, ho, hone, hf, hsz, hpos, hroom⟩ := hp
      obtain ⟨r, w', m', h1, h2, h3, h4⟩ := append_csl_sound hW t tx ty hy hu hek htx ho hf hsz hx hpos hroom
      exact ⟨.value r, w', m', by simp [vSem, h1], .inl ⟨r, rfl, h2⟩, h3, h4⟩
    · exact fun h => h.elim
  · exact fun h => h.elim

end
end Go.Eng
