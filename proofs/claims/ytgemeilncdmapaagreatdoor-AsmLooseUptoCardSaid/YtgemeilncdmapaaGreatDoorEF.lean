/- The engine, part 25: a builder's buffer: what an append makes of it. The engine, part 26: builders of texts in a walk of the model's own, and as the engine's objects. The engine, part 30: a package-level table, off what a row lays. The engine, part 28: a row that somebody has laid in a new block becomes an own row. A region that draws its order, in two parts: one operation waits for all ahead of it, and all behind wait for it. The engine, part 27: an operation of a region that is looked at in the model itself; ranges over maps. The engine, part 31: a text of an array's bytes. -/
import Derived.Test.YtgemeilncdmapaaGreatDoorEE
import Derived.Lib.Builder
import Derived.Lib.UnsafeStr
import Derived.Tactics2
import Derived.OpenShut
import Derived.Maps.RangeRun
import Derived.Laws.IdiomStrings
section
namespace Go.Eng
open Go
set_option linter.unusedVariables false
set_option linter.unusedSimpArgs false
/-- a builder's buffer: c: one more than its block, 0: none yet -/
def BufAt (w : World) (c : Nat) (e : TypeId) (l : List UInt8) (v : Value) : Prop :=
  (c = 0 ∧ v = .slice none 0 0 ∧ l = []) ∨ ∃ g cur, c = g + 1 ∧ v = .slice (some ⟨g, 0, none⟩) l.length cur.size ∧ w.heap[g]? = some (.cells cur e (0, 0)) ∧ l.length ≤ cur.size ∧
    ∀ (j : Nat) x, l[j]? = some x → cur[j]? = some (.int .u8 x.toNat)
/-- all blocks are as they were, but for those of S -/
structure Upd (S : Nat → Prop) (w w' : World) : Prop where
  same : Same w w'
  size : w.heap.size ≤ w'.heap.size
  old : ∀ k, k < w.heap.size → ¬ S k → w'.heap[k]? = w.heap[k]?
theorem Upd.refl {S : Nat → Prop} (w : World) : Upd S w w := ⟨Same.refl w, Nat.le_refl _, fun _ _ _ => rfl⟩
theorem Upd.trans {S : Nat → Prop} {w w' w'' : World} (h : Upd S w w') (h' : Upd S w' w'') : Upd S w w'' :=
  ⟨h.same.trans h'.same, Nat.le_trans h.size h'.size, fun k hk hn => (h'.old k (Nat.lt_of_lt_of_le hk h.size) hn).trans (h.old k hk hn)⟩
theorem Upd.imp {S S' : Nat → Prop} {w w' : World} (h : Upd S w w') (hs : ∀ k, S k → S' k) : Upd S' w w' := ⟨h.same, h.size, fun k hk hn => h.old k hk fun hS => hn (hs k hS)⟩
theorem Upd.setCell (w : World) (b o : Nat) (v : Value) : Upd (fun k => k = b) w (w.setCell ⟨b, o, none⟩ v) := by
  refine ⟨⟨rfl, rfl, rfl⟩, by simp [World.setCell], fun k _ hn => ?_⟩
  simp [World.setCell, Array.getElem?_modify]
  intro e; exact absurd e.symm hn
theorem Upd.drew {S : Nat → Prop} {w w' : World} (h : Upd S w w') : Upd S w w'.drew := ⟨h.same, h.size, h.old⟩
theorem Upd.alloc {S : Nat → Prop} (w : World) (o : Obj) : Upd S w (w.alloc o) := by
  have hp := Pushed.alloc w o
  exact ⟨hp.2, by rw [hp.size]; omega, fun k hk _ => hp.old hk⟩
theorem Upd.freeze (w : World) (g o n : Nat) : Upd (fun k => k = g) w (w.freeze ⟨g, o, none⟩ n) := by
  unfold World.freeze
  split
  · exact Upd.refl w
  · refine ⟨⟨rfl, rfl, rfl⟩, by simp, fun k _ hn => ?_⟩
    simp [Array.getElem?_modify]
    intro e; exact absurd e.symm hn
theorem BufAt.upd {w w' : World} {c : Nat} {e : TypeId} {l : List UInt8} {v : Value} {S : Nat → Prop} (h : BufAt w c e l v) (hU : Upd S w w') (hS : ∀ g, c = g + 1 → ¬ S g) : BufAt w' c e l v := by
  rcases h with h | ⟨g, cur, h1, h2, h3, h4⟩
  · exact .inl h
  · have hlt : g < w.heap.size := by
      rcases Nat.lt_or_ge g w.heap.size with h' | h'
      · exact h'
      · simp [Array.getElem?_eq_none h'] at h3
    exact .inr ⟨g, cur, h1, h2, by rw [hU.old g hlt (hS g h1)]; exact h3, h4⟩
theorem bldAt_iff {w : World} {b c : Nat} {T e : TypeId} {l : List UInt8} : BldAt w b c T e l ↔ ∃ p v, w.heap[b]? = some (.cells #[p, v] T (0, 0)) ∧ (p = .pointer none ∨ p = .pointer (some ⟨b, 0, none⟩)) ∧ BufAt w c e l v := Iff.rfl
section
variable {P : Program} {w : World}
/-- a text's bytes as cells -/
def strVs (s : List UInt8) : List Value := s.map fun b => .int .u8 b.toNat
theorem strVs_get (l : List UInt8) (j : Nat) (x : UInt8) (h : l[j]? = some x) : (strVs l)[j]? = some (.int .u8 x.toNat) := by simp [strVs, h]
set_option maxHeartbeats 1000000 in
theorem buf_append {c : Nat} {e : TypeId} {l : List UInt8} {v : Value} (h : BufAt w c e l v) (t u ty : TypeId) (ht : P.underlying t = some (.slice e)) (hu : P.underlying u = some .string)
    (hi : (P.info? e).map (fun i => (i.zero, i.size, i.bytes)) = some (some (.int .u8 0), 1, 1)) (s : List UInt8) (hlen : l.length + s.length ≤ 140737488355328) :
    ∃ v' w' c', (Builtin.append_ #[t, u] ty #[v, .string ⟨s.toArray⟩]).run P w = .ok v' w' ∧ BufAt w' c' e (l ++ s) v' ∧ Upd (fun k => c = k + 1) w w' ∧ (c' = c ∨ w.heap.size < c') := by
  obtain ⟨i, hie, hi'⟩ := Option.map_eq_some_iff.1 hi
  simp only [Prod.mk.injEq] at hi'
  obtain ⟨hz0, hz1, hz2⟩ := hi'
  have hz : hasZero P e := by simp [hasZero, hie, hz0]
  obtain ⟨i', hie', hcs, hby⟩ := run_info' (P := P) (t := e) (by rw [hie]; rfl)
  rw [hie] at hie'
  cases hie'
  rw [hz1] at hcs
  rw [hz2] at hby
  have hb : 0 < P.bytesOf e := by omega
  have h1 : ∀ k, P.underlying u ≠ some (.int k) := fun k h => by rw [hu] at h; cases h
  have h2 : (P.underlying u).isSome = true := by rw [hu]; rfl
  have hl : ∀ w' : World, (Builtin.lenOf (.string ⟨s.toArray⟩)).run P w' = .ok s.length w' := fun w' => by simp [Builtin.lenOf, ByteArray.size]
  have hf : ∀ w' : World, (Builtin.firstCells (P.cellsOf e) s.length (.string ⟨s.toArray⟩)).run P w' = .ok (strVs s).toArray w' := fun w' => by
    have he : (ByteArray.extract ⟨s.toArray⟩ 0 s.length).data = s.toArray := by
      have : (⟨s.toArray⟩ : ByteArray).size = s.length := by simp [ByteArray.size]
      rw [← this, ByteArray.extract_zero_size]
    simp [Builtin.firstCells, he, strVs]
  have hvl : (strVs s).length = s.length := by simp [strVs]
  have hzw : (zeroValue e).run P w.drew = .ok (.int .u8 0) w.drew := by
    obtain ⟨z, j, hj, hjz, _, hr⟩ := zero_parts (w := w.drew) hz
    rw [hie] at hj; cases hj
    rw [hz0] at hjz; cases hjz
    exact hr
  rcases h with ⟨hc0, rfl, rfl⟩ | ⟨g, cur, hcg, rfl, hg, hle, hcur⟩
  · by_cases hs : s.length = 0
    · have : s = [] := List.eq_nil_of_length_eq_zero hs
      subst this
      refine ⟨.slice none (0 + 0) 0, w, 0, ?_, .inl ⟨rfl, rfl, rfl⟩, Upd.refl w, .inl hc0.symm⟩
      exact append_run (w := w) (w' := w) t u ty ht h1 h2 hz hb none 0 0 0 _ (hl w) (by omega) (fun _ => ⟨_, hf w, (fun a h => by cases h), fun _ => rfl, rfl⟩) (fun h => by omega)
    · obtain ⟨q, hq⟩ : ∃ q, q = (Question.appendCap (0 + s.length) 0 e).cut (w.tape w.drawn (.appendCap (0 + s.length) 0 e)) := ⟨_, rfl⟩
      have hqle : s.length ≤ q := by rw [hq]; have := cut_le (0 + s.length) 0 e (w.tape w.drawn (.appendCap (0 + s.length) 0 e)) (by simp at hlen; omega); omega
      obtain ⟨rest, hrest⟩ : ∃ r, r = Builtin.zeroCells (Value.int .u8 0).cells (q - (0 + s.length)) := ⟨_, rfl⟩
      have hrl : rest.toList.length = q - s.length := by rw [hrest, zeroCells_length]; simp [Value.cells]
      have hsz : (strVs s ++ rest.toList).toArray.size = q := by simp; rw [hvl]; simp at hrl; omega
      refine ⟨.slice (some ⟨w.heap.size, 0, none⟩) (0 + s.length) q, w.drew.alloc (.cells (strVs s ++ rest.toList).toArray e), w.heap.size + 1, ?_, .inr ⟨w.heap.size, (strVs s ++ rest.toList).toArray, rfl, ?_, ?_, ?_, fun j x hx => ?_⟩, ?_, .inr (by omega)⟩
      · refine append_run (w := w) t u ty ht h1 h2 hz hb none 0 s.length 0 _ (hl w) (by rw [hby]; simp at hlen; omega) (fun h => by omega) (fun _ => ⟨_, #[], _, hzw, by simp [Builtin.firstCells], hf w.drew, ?_, by rw [hq]⟩)
        rw [← hq, ← hrest]
        congr 2
        simp
      · rw [hsz]; simp
      · exact (Pushed.alloc w.drew _).new
      · rw [hsz]; simpa using hqle
      · have hj : j < s.length := by simpa using (List.getElem?_eq_some_iff.1 hx).1
        rw [List.getElem?_toArray, List.getElem?_append_left (by rw [hvl]; exact hj)]
        exact strVs_get s j x (by simpa using hx)
      · exact ⟨⟨rfl, rfl, rfl⟩, by rw [(Pushed.alloc w.drew _).size]; exact Nat.le_succ _, fun k hk _ => (Pushed.alloc w.drew _).old hk⟩
  · have hcl : ∀ (j : Nat) x, l[j]? = some x → cur.toList[j]? = some (.int .u8 x.toNat) := fun j x hx => by rw [Array.getElem?_toList]; exact hcur j x hx
    have htake : cur.toList.take l.length = strVs l := by
      apply List.ext_getElem?
      intro j
      by_cases hj : j < l.length
      · rw [List.getElem?_take_of_lt hj, hcl j l[j] (by simp [hj])]
        simp [strVs, hj]
      · rw [List.getElem?_eq_none (by simp; omega), List.getElem?_eq_none (by simp [strVs]; omega)]
    by_cases hin : l.length + s.length ≤ cur.size
    · obtain ⟨w', hst, hC, hsize⟩ := run_storeCells' (P := P) g l.length (strVs s) 0 w cur.toList e 0 0 (by simpa using hg) (by rw [hvl]; simpa using hin) (fun j _ _ => by omega) (fun x hx => by
        obtain ⟨b, _, rfl⟩ := List.mem_map.1 hx; rfl)
      obtain ⟨cur', hcur'⟩ : ∃ c', c' = (cur.toList.take (l.length + 0) ++ strVs s ++ cur.toList.drop (l.length + 0 + (strVs s).length)).toArray := ⟨_, rfl⟩
      have hs' : cur'.size = cur.size := by
        rw [hcur']; simp [hvl]; omega
      refine ⟨.slice (some ⟨g, 0, none⟩) (l.length + s.length) cur.size, w', c, ?_, .inr ⟨g, cur', hcg, by rw [hs']; simp, by rw [hC.at_, hcur'], by rw [hs']; simpa using hin, fun j x hx => ?_⟩, ⟨hC.same, hC.size, fun k hk hn => hC.other k (fun e => hn (by rw [hcg, e])) hk⟩, .inl rfl⟩
      · exact append_run (w := w) (w' := w') t u ty ht h1 h2 hz hb _ l.length s.length cur.size _ (hl w) (by rw [hby]; omega)
          (fun _ => ⟨_, hf w, (fun b hb' => by cases hb'; rw [hcs, Nat.mul_one, Addr.add_lit, Nat.zero_add]; exact hst), (fun h => by cases h), rfl⟩) (fun h => by omega)
      · rw [hcur', List.getElem?_toArray, Nat.add_zero, htake, show strVs l ++ strVs s = strVs (l ++ s) by simp [strVs]]
        have hj : j < (l ++ s).length := (List.getElem?_eq_some_iff.1 hx).1
        rw [List.getElem?_append_left (by simpa [strVs] using hj)]
        exact strVs_get _ j x hx
    · obtain ⟨q, hq⟩ : ∃ q, q = (Question.appendCap (l.length + s.length) cur.size e).cut (w.tape w.drawn (.appendCap (l.length + s.length) cur.size e)) := ⟨_, rfl⟩
      have hqle : l.length + s.length ≤ q := by rw [hq]; exact cut_le _ _ _ _ (by omega)
      obtain ⟨rest, hrest⟩ : ∃ r, r = Builtin.zeroCells (Value.int .u8 0).cells (q - (l.length + s.length)) := ⟨_, rfl⟩
      have hrl : rest.toList.length = q - (l.length + s.length) := by rw [hrest, zeroCells_length]; simp [Value.cells]
      have hll : (strVs l).length = l.length := by simp [strVs]
      have hsz : (strVs l ++ strVs s ++ rest.toList).toArray.size = q := by simp [hvl, hll]; simp at hrl; omega
      refine ⟨.slice (some ⟨w.heap.size, 0, none⟩) (l.length + s.length) q, w.drew.alloc (.cells (strVs l ++ strVs s ++ rest.toList).toArray e), w.heap.size + 1, ?_, .inr ⟨w.heap.size, (strVs l ++ strVs s ++ rest.toList).toArray, rfl, ?_, ?_, ?_, fun j x hx => ?_⟩, ?_, .inr (by omega)⟩
      · refine append_run (w := w) t u ty ht h1 h2 hz hb _ l.length s.length cur.size _ (hl w) (by rw [hby]; omega) (fun h => by omega) (fun _ => ⟨_, (strVs l).toArray, _, hzw, ?_, hf w.drew, ?_, by rw [hq]⟩)
        · have := run_loadCells' (P := P) (w := w.drew) g 0 (strVs l) (l.length * P.cellsOf e) (by rw [hcs]; simp [strVs]) (fun j v hj => by
            have hj' : j < l.length := by have := (List.getElem?_eq_some_iff.1 hj).1; simpa [strVs] using this
            have hv : v = .int .u8 l[j].toNat := by simpa [strVs, hj'] using hj.symm
            have h3 := hcur j l[j] (by simp [hj'])
            rw [hv]
            have hg' : w.drew.heap[g]? = some (.cells cur e (0, 0)) := hg
            simp [World.cell?, hg', h3])
          rw [List.take_of_length_le (by rw [hcs]; simp [strVs])] at this
          exact this
        · rw [← hq, ← hrest]
          congr 2
          simp
      · rw [hsz]; simp
      · exact (Pushed.alloc w.drew _).new
      · rw [hsz]; simpa using hqle
      · have hj : j < (l ++ s).length := (List.getElem?_eq_some_iff.1 hx).1
        rw [List.getElem?_toArray, show strVs l ++ strVs s = strVs (l ++ s) by simp [strVs], List.getElem?_append_left (by simpa [strVs] using hj)]
        exact strVs_get _ j x hx
      · exact ⟨⟨rfl, rfl, rfl⟩, by rw [(Pushed.alloc w.drew _).size]; exact Nat.le_succ _, fun k hk _ => (Pushed.alloc w.drew _).old hk⟩
end
end Go.Eng
end
section
namespace Go.Eng
open Go Go.RowKit
set_option linter.unusedVariables false
set_option linter.unusedSimpArgs false
variable {P : Program}
theorem wpList_buf_append {ops : Array Oper} {rest : List Oper} {o : Oper} {a : Act} {Q : Exit → Act → World → Prop} {w : World} (hgd : o.guard = none) (sl x : Operand) (t u : TypeId)
    (ho : o.op = .call { callee := .builtin .append, args := #[sl, x], argTypes := #[t, u] }) {c : Nat} {e : TypeId} {l : List UInt8} {v : Value} (hs : a.eval sl = v) (h : BufAt w c e l v) (ht : P.underlying t = some (.slice e)) (hu : P.underlying u = some .string)
    (hi : (P.info? e).map (fun i => (i.zero, i.size, i.bytes)) = some (some (.int .u8 0), 1, 1)) (s : List UInt8) (hx : a.eval x = .string ⟨s.toArray⟩) (hlen : l.length + s.length ≤ 140737488355328)
    (hK : ∀ v' w' c', BufAt w' c' e (l ++ s) v' → Upd (fun k => c = k + 1) w w' → (c' = c ∨ w.heap.size < c') → wpList P ops Q rest (a.put o.dst v') w') : wpList P ops Q (o :: rest) a w := by
  refine wpList_plain hgd fun K hK' => ?_
  obtain ⟨v', w', c', hr, h1, h2, h3⟩ := buf_append h t u o.type ht hu hi s hlen
  unfold Oper.wp execOp
  simp only [ho, resolve, invoke, builtin, Sem.run_bind, Sem.run_pure, Result.andThen_ok, List.map_toArray, List.map_cons, List.map_nil, hs, hx, hr]
  exact hK' _ _ (hK _ _ _ h1 h2 h3)

/-! ### as contracts -/
theorem one_get {x : AObj} {id : Nat} {y : AObj} (h : [x][id]? = some y) : id = 0 ∧ x = y := by
  cases id with
  | zero => exact ⟨rfl, by simpa using h⟩
  | succ n => simp at h
theorem bld_next {m : Mem} {w w' : World} {T e : TypeId} {l l' : List UInt8} (hW : WRel m [.raw (.bld T e l)] w) {c' : Nat} (hB : BldAt w' (m.blk 0) c' T e l') (hU : Upd (fun k => k = m.blk 0 ∨ m.cap 0 = k + 1) w w') (hc : c' = m.cap 0 ∨ w.heap.size < c') :
    WRel (m.put 0 (m.blk 0) c') [.raw (.bld T e l')] w' ∧ Ext m [.raw (.bld T e l)] w (m.put 0 (m.blk 0) c') [.raw (.bld T e l')] w' := by
  have hL0 : ([AObj.raw (.bld T e l)] : Heap)[0]? = some (.raw (.bld T e l)) := rfl
  have hO : Own m [.raw (.bld T e l)] 0 := .inr ⟨_, hL0⟩
  have hlt := hW.blk_lt hO
  have own0 : ∀ {i}, Own (m.put 0 (m.blk 0) c') [.raw (.bld T e l')] i → i = 0 := by
    rintro i (⟨_, _, _, h, _⟩ | ⟨_, h⟩)
    · exact (one_get h).1
    · exact (one_get h).1
  have hid0 : ∀ {i g}, Hid (m.put 0 (m.blk 0) c') [.raw (.bld T e l')] i g → i = 0 ∧ c' = g + 1 := by
    rintro i g ⟨_, _, _, h, h2⟩
    obtain ⟨rfl, _⟩ := one_get h
    exact ⟨rfl, by simpa [Mem.put] using h2⟩
  have hold : ∀ g, m.cap 0 = g + 1 → Hid m [.raw (.bld T e l)] 0 g := fun g hg => ⟨_, _, _, hL0, hg⟩
  have hblk : (m.put 0 (m.blk 0) c').blk 0 = m.blk 0 := by simp [Mem.put]
  refine ⟨⟨hW.glob, fun g o hp => ?_, fun i cs sz v h _ => ?_, fun i cs sz v h _ => ?_, fun i r h => ?_, fun i j hi hj _ => by rw [own0 hi, own0 hj], fun i hi => ?_, fun i T' e' k h => ?_, fun i g k => ?_, fun i g k j hj => ?_, fun i j g k1 k2 => by rw [(hid0 k1).1, (hid0 k2).1]⟩,
    fun g hg hno hnh => ?_, hU.size, fun _ _ => rfl, fun i hi => ?_, Nat.le_refl _, ⟨fun _ _ h => h, fun i cs sz v h => ?_, fun i r h => ?_⟩, hU.same, fun i g k => ?_⟩
  · rw [hU.old g (hW.pobj_lt hp)]
    · exact hW.pobjs g o hp
    · replace hp : m.pobj g = some o := hp
      rintro (rfl | hg)
      · have := hW.freeo 0 hO; rw [this] at hp; cases hp
      · have := hW.hid.free _ _ (hold g hg); rw [this] at hp; cases hp
  · cases (one_get h).2
  · cases (one_get h).2
  · obtain ⟨rfl, h2⟩ := one_get h
    cases h2
    obtain ⟨p, v, k1, _⟩ := bldAt_iff.1 hB
    exact ⟨_, by rw [hblk]; exact k1, trivial⟩
  · rw [own0 hi, hblk]; exact hW.freeo 0 hO
  · obtain ⟨rfl, h2⟩ := one_get h
    cases h2
    simpa [Mem.put] using hB
  · obtain ⟨rfl, h2⟩ := hid0 k
    rcases hc with hc | hc
    · exact hW.hid.free _ _ (hold g (by omega))
    · cases hpo : m.pobj g with
      | none => exact hpo
      | some v => have := hW.pobj_lt hpo; omega
  · obtain ⟨rfl, h2⟩ := hid0 k
    rw [own0 hj, hblk]
    rcases hc with hc | hc
    · exact hW.hid.own _ _ (hold g (by omega)) _ hO
    · omega
  · exact hU.old g hg fun h => by
      rcases h with h | h
      · exact hno 0 hO h.symm
      · exact hnh 0 (hold g h)
  · rw [own0 hi]; exact .inl ⟨hO, hblk⟩
  · cases (one_get h).2
  · obtain ⟨rfl, h2⟩ := one_get h
    exact ⟨_, rfl, hblk⟩
  · obtain ⟨rfl, h2⟩ := hid0 k
    rcases hc with hc | hc
    · exact .inl (hold g (by omega))
    · exact .inr (by omega)
theorem bld_gone {m : Mem} {w w' : World} {T e : TypeId} {l : List UInt8} (hW : WRel m [.raw (.bld T e l)] w) (hU : Upd (fun k => m.cap 0 = k + 1) w w') :
    WRel m [.raw .gone] w' ∧ Ext m [.raw (.bld T e l)] w m [.raw .gone] w' := by
  have hL0 : ([AObj.raw (.bld T e l)] : Heap)[0]? = some (.raw (.bld T e l)) := rfl
  have hO : Own m [.raw (.bld T e l)] 0 := .inr ⟨_, hL0⟩
  have hlt := hW.blk_lt hO
  have own0 : ∀ {i}, Own m [.raw .gone] i → i = 0 := by
    rintro i (⟨_, _, _, h, _⟩ | ⟨_, h⟩)
    · exact (one_get h).1
    · exact (one_get h).1
  have hid0 : ∀ {i g}, ¬ Hid m [.raw .gone] i g := by
    rintro i g ⟨_, _, _, h, h2⟩
    cases (one_get h).2
  have hold : ∀ g, m.cap 0 = g + 1 → Hid m [.raw (.bld T e l)] 0 g := fun g hg => ⟨_, _, _, hL0, hg⟩
  have hb : w'.heap[m.blk 0]? = w.heap[m.blk 0]? := hU.old _ hlt fun h => hW.hid.own _ _ (hold _ h) 0 hO rfl
  refine ⟨⟨hW.glob, fun g o hp => ?_, fun i cs sz v h _ => ?_, fun i cs sz v h _ => ?_, fun i r h => ?_, fun i j hi hj _ => by rw [own0 hi, own0 hj], fun i hi => ?_, fun i T' e' k h => ?_, fun i g k => absurd k hid0, fun i g k j hj => absurd k hid0, fun i j g k1 k2 => absurd k1 hid0⟩,
    fun g hg hno hnh => ?_, hU.size, fun _ _ => rfl, fun i hi => ?_, Nat.le_refl _, ⟨fun _ _ h => h, fun i cs sz v h => ?_, fun i r h => ?_⟩, hU.same, fun i g k => absurd k hid0⟩
  · rw [hU.old g (hW.pobj_lt hp)]
    · exact hW.pobjs g o hp
    · intro hg
      have := hW.hid.free _ _ (hold g hg); rw [this] at hp; cases hp
  · cases (one_get h).2
  · cases (one_get h).2
  · obtain ⟨rfl, h2⟩ := one_get h
    cases h2
    obtain ⟨o, k1, _⟩ := hW.iters _ _ hL0
    exact ⟨o, by rw [hb]; exact k1, trivial⟩
  · rw [own0 hi]; exact hW.freeo 0 hO
  · cases (one_get h).2
  · exact hU.old g hg fun h => hnh 0 (hold g h)
  · rw [own0 hi]; exact .inl ⟨hO, rfl⟩
  · cases (one_get h).2
  · obtain ⟨rfl, h2⟩ := one_get h
    exact ⟨_, rfl, rfl⟩
theorem ref_raw {m : Mem} {r : Raw} {u : Value} (h : VRel m [.raw r] (.ref 0 0 0) u) : u = .pointer (some ⟨m.blk 0, 0, none⟩) := by
  simp only [VRel] at h
  rcases h with ⟨_, _, _, h, _⟩ | ⟨_, _, h⟩
  · cases (one_get h).2
  · exact h
end Go.Eng
end
section
namespace Go.Eng
open Go
set_option linter.unusedVariables false
theorem table_of_laid {P : Program} {n : String} {ns : List Int} {k : IntKind} {r : List (String × DataW Unit)} {W : World} {g : Nat} {ti e : TypeId} {N : Nat}
    (h : laidMet P ((n, .agg (ns.map fun i => .lit (.int k i))) :: r) W) (hg : P.globalNamed n = some g) (ht : (P.globals[g]?).map (·.type) = some ti) (hi : P.underlying ti = some (.array N e)) (he : P.underlying e = some (.int k)) (hc1 : P.cellsOf e = 1) (hcN : P.cellsOf ti = N) :
    ∃ c x f, (pinW W).pobj g = some (.cells c x f) ∧ c.toList = ns.map (Value.int k) := by
  obtain ⟨ps, ⟨g0, t0, cs0, f0, p0, q0, hg0, ht0, hv0, hd0, _, e0⟩, _, hrows⟩ := h
  obtain rfl := Option.some.inj (hg.symm.trans hg0)
  obtain rfl := Option.some.inj (ht.symm.trans ht0)
  obtain ⟨xs, m, _, hx, hlen, hxl, hall⟩ := DataW.trod_array hi hd0
  rw [Prod.mk.injEq] at hx
  have hx1 : ns.map (fun i => (DataW.lit (Lit.int k i) : DataW Unit)) = xs.map (·.1) := by
    have := hx.1; injection this
  have hnl : ns.length = N := by
    have := congrArg List.length hx1
    simp only [List.length_map] at this
    omega
  have hcs : cs0.toList = ns.map (Value.int k) := by
    refine List.ext_getElem (by rw [hlen, hcN, List.length_map, hnl]) fun i h1 h2 => ?_
    have hiN : i < N := by rw [List.length_map] at h2; omega
    have hx2 : i < xs.length := by omega
    have := hall i hiN
    rw [hc1, Nat.mul_one, List.getElem?_eq_getElem hx2] at this
    obtain ⟨v, hv, hxi, _⟩ := DataW.trod_int he this
    have h3 : (xs.map (·.1))[i]'(by simpa using hx2) = (DataW.lit (Lit.int k ns[i])) := by
      have : (ns.map (fun i => (DataW.lit (Lit.int k i) : DataW Unit)))[i]'(by simp; omega) = (DataW.lit (Lit.int k ns[i])) := by simp
      simp only [← hx1]; exact this
    rw [List.getElem_map, hxi] at h3
    have hvn : v = ns[i] := by injection h3 with h3; injection h3
    rw [List.drop_eq_getElem_cons h1, List.take_succ_cons, List.take_zero] at hv
    rw [List.getElem_map, ← hvn]
    exact (List.cons.inj hv).1
  simp only [World.var?, hg, Option.bind_some] at hv0
  split at hv0
  · rename_i c t f hw
    cases hv0
    exact ⟨_, _, _, hw, hcs⟩
  · cases hv0
end Go.Eng
end
section
namespace Go.Eng
open Go Go.RowKit
set_option linter.unusedVariables false
set_option linter.unusedSimpArgs false
theorem claim_row {m : Mem} {L : Heap} {w : World} (hW : WRel m L w) {gb c sz lo hi : Nat} {cs : List AV} {us rest : List Value} {elem : TypeId} (ho : ∀ id, Own m L id → m.blk id ≠ gb) (hp : m.pobj gb = none) (hh : ∀ id, ¬ Hid m L id gb)
    (hb : w.heap[gb]? = some (.cells (us ++ rest).toArray elem (lo, hi))) (hc : CRel m L cs us) (hlen : us.length + rest.length = c * sz) (hf : hi = lo ∨ c * sz ≤ lo) (hc0 : c ≠ 0) : WRel (m.put L.length gb c) (L ++ [.row cs sz 0]) w := by
  have M : Mono m L (m.put L.length gb c) (L ++ [.row cs sz 0]) := mono_push _ _ _
  have hold : ∀ {id : Nat} {o : AObj}, (L ++ [.row cs sz 0])[id]? = some o → id ≠ L.length → L[id]? = some o := by
    intro id o hL hid
    have hlt : id < L.length := by
      have := (List.getElem?_eq_some_iff.1 hL).1
      simp at this; omega
    rwa [List.getElem?_append_left hlt] at hL
  have hat : ∀ {o : AObj}, (L ++ [.row cs sz 0])[L.length]? = some o → o = .row cs sz 0 := by
    intro o h; simpa using h.symm
  have hlive : ∀ i, Own (m.put L.length gb c) (L ++ [.row cs sz 0]) i → (m.put L.length gb c).blk i = gb ∧ i = L.length ∨ (m.put L.length gb c).blk i = m.blk i ∧ Own m L i := by
    intro i hi
    rcases own_append hi with ⟨h, hne⟩ | h
    · exact .inr ⟨by simp [Mem.put, hne], h⟩
    · exact .inl ⟨by simp [Mem.put, h], h⟩
  refine ⟨hW.glob, hW.pobjs, fun id cs' sz' ver' hL hcap => ?_, fun id cs' sz' ver' hL hcap => ?_, fun id r hL => ?_, fun i j hi hj he => ?_, fun id hl => ?_, ?_⟩
  · by_cases hid : id = L.length
    · subst hid
      cases hat hL
      exact ⟨us, rest, elem, lo, hi, by simp [Mem.put, hb], CRel.mono M _ _ hc, by simpa [Mem.put] using hlen, by simpa [Mem.put] using hf⟩
    · simp [Mem.put, hid] at hcap
      obtain ⟨us', rest', elem', lo', hi', h1, h2, h3, h4⟩ := hW.rows _ _ _ _ (hold hL hid) hcap
      exact ⟨us', rest', elem', lo', hi', by simpa [Mem.put, hid] using h1, CRel.mono M _ _ h2, by simpa [Mem.put, hid] using h3, by simpa [Mem.put, hid] using h4⟩
  · by_cases hid : id = L.length
    · subst hid; simp [Mem.put] at hcap; exact absurd hcap hc0
    · simp [Mem.put, hid] at hcap
      exact hW.nils _ _ _ _ (hold hL hid) hcap
  · by_cases hid : id = L.length
    · subst hid; cases hat hL
    · simp only [Mem.put, hid, if_false]; exact hW.iters _ _ (hold hL hid)
  · rcases hlive i hi with ⟨h1, h2⟩ | ⟨h1, h2⟩ <;> rcases hlive j hj with ⟨k1, k2⟩ | ⟨k1, k2⟩
    · omega
    · exact absurd (by omega) (ho j k2)
    · exact absurd (by omega) (ho i h2)
    · exact hW.inj i j h2 k2 (by omega)
  · rcases hlive id hl with ⟨h1, h2⟩ | ⟨h1, h2⟩
    · rw [h1]; exact hp
    · rw [h1]; exact hW.freeo id h2
  · refine hW.hid.keep (fun i T e l h => ?_) (fun _ _ _ _ _ _ => rfl) (fun _ _ _ => rfl) (fun i g k => hW.hid.free i g k) (fun i g k j hj => ?_)
    · by_cases hid : i = L.length
      · subst hid; cases hat h
      · exact ⟨hold h hid, by simp [Mem.put, hid], by simp [Mem.put, hid]⟩
    · rcases hlive j hj with ⟨h1, h2⟩ | ⟨h1, h2⟩
      · rw [h1]; intro e; subst e; exact hh i k
      · rw [h1]; exact hW.hid.own i g k j h2
/-- .. behind a call that turned nothing -/
theorem claim_below {m : Mem} {L : Heap} {w w' : World} (hW : WRel m L w) (hb : Below w.heap.size w w') {gb c sz lo hi : Nat} {cs : List AV} {us rest : List Value} {elem : TypeId} (hgb : w.heap.size ≤ gb)
    (hcell : w'.heap[gb]? = some (.cells (us ++ rest).toArray elem (lo, hi))) (hc : CRel m L cs us) (hlen : us.length + rest.length = c * sz) (hf : hi = lo ∨ c * sz ≤ lo) (hc0 : c ≠ 0) :
    WRel (m.put L.length gb c) (L ++ [.row cs sz 0]) w' ∧ Ext m L w (m.put L.length gb c) (L ++ [.row cs sz 0]) w' := by
  obtain ⟨h1, h2⟩ := below_world hW hb
  refine ⟨claim_row h1 (fun id h e => ?_) ?_ (fun id h => ?_) hcell hc hlen hf hc0, fun g hg _ _ => hb.block g hg, hb.size, fun _ _ => rfl, fun id hl => ?_, by simp, mono_push _ _ _, ⟨hb.os, hb.tape, hb.output⟩, fun id g h => .inl (hid_push (fun _ _ _ h => by cases h) h)⟩
  · have := hW.blk_lt h; omega
  · cases hpo : m.pobj gb with
    | none => rfl
    | some v => have := hW.pobj_lt hpo; omega
  · have := hW.hid.lt h; omega
  · rcases own_append hl with ⟨h, hne⟩ | h
    · exact .inl ⟨h, by simp [Mem.put, hne]⟩
    · exact .inr (by simp [Mem.put, h]; exact hgb)
/-- .. a nil one -/
theorem claim_nil {m : Mem} {L : Heap} {w w' : World} (hW : WRel m L w) (hb : Below w.heap.size w w') (sz : Nat) :
    WRel (m.put L.length w'.heap.size 0) (L ++ [.row [] sz 0]) w' ∧ Ext m L w (m.put L.length w'.heap.size 0) (L ++ [.row [] sz 0]) w' := by
  obtain ⟨h1, h2⟩ := below_world hW hb
  exact ⟨push_nil h1 sz, h2.trans (ext_push _ _ (Keep.refl w'))⟩
theorem new_nil {m : Mem} {L : Heap} (sz g : Nat) : VRel (m.put L.length g 0) (L ++ [.row [] sz 0]) (.msl L.length 0 0 0) (.slice none 0 0) := by
  simp only [VRel]
  exact ⟨[], sz, 0, by simp, Nat.le_refl _, ⟨_, _, _, rfl⟩, fun _ => ⟨by simp, by simp, none, by simp [Mem.put], .inl (by simp [Mem.put])⟩⟩
end Go.Eng
end
section
namespace Go.Eng
open Go
set_option linter.unusedVariables false
set_option linter.unusedSimpArgs false
section
variable {P : Program} {Γ : Env} {ops : Array Oper} {md : Region.Mode}
/-- whatever order is picked, up to the operations of S -/
def anyG (P : Program) (Γ : Env) (md : Region.Mode) (ops : Array Oper) (H : Heap → Prop) (mk al st : Nat → Bool) (S : Array Bool) (K : List AV → Heap → Prop) : Nat → Array Bool → List AV → Heap → Prop
  | 0, listed, fr, L => listed = S ∧ K fr L
  | fuel + 1, listed, fr, L => Region.ready md ops listed ≠ [] ∧
    ∀ i ∈ Region.ready md ops listed, opE P Γ ops H mk (fun _ => false) al st i False (anyG P Γ md ops H mk al st S K fuel (listed.setIfInBounds i true)) fr L

theorem anyG_first {H : Heap → Prop} {mk al st : Nat → Bool} {S : Array Bool} {K : List AV → Heap → Prop} (hHa : (∃ i, al i = true) → ∀ G A, H G → H (G ++ A)) {i : Nat} {oi : Oper} {v : AV} (hi : ops[i]? = some oi)
    (hE : ∀ (listed : Array Bool) (j : Nat), Closed ops md listed → listed.setIfInBounds i true = S → i ∈ Region.ready md ops listed → j ∈ Region.ready md ops listed → j = i) :
    ∀ (fuel : Nat) (listed : Array Bool) (fr : List AV) (L L1 : Heap), freeE ops md mk al st listed i oi → Closed ops md listed → i ∈ Region.ready md ops listed → H L → Ye P Γ ops H (mk i) false (al i) (st i) oi fr L v L1 →
      anyG P Γ md ops H mk al st S K fuel (listed.setIfInBounds i true) (putA fr oi.dst v) L1 → anyG P Γ md ops H mk al st S K (fuel + 1) listed fr L := by
  intro fuel
  induction fuel with
  | zero =>
    intro listed fr L L1 _ hcl hr hL hy hH
    refine ⟨fun h => (by rw [h] at hr; cases hr), fun j hj => ?_⟩
    obtain rfl := hE listed j hcl hH.1 hr hj
    unfold opE; rw [hi]; exact ⟨v, L1, hy, (fun h => by cases h), hH⟩
  | succ fuel ih =>
    intro listed fr L L1 hfree hcl hr hL hy hH
    refine ⟨fun h => (by rw [h] at hr; cases hr), fun j hj => ?_⟩
    by_cases hji : j = i
    · subst hji; unfold opE; rw [hi]; exact ⟨v, L1, hy, (fun h => by cases h), hH⟩
    · have h1 := hH.2 j (ready_mono hj hji)
      obtain ⟨hjun, oj, hoj, hall⟩ := mem_ready.1 hj
      have hiun := (mem_ready.1 hr).1
      have hntw : ¬ TW ops md i j := fun ht => hcl.late hiun ht hj
      have hnot : ∀ e ∈ oj.after, Region.binds md e = true → e.on ≠ i := fun e he hb heq => by
        have h1 := hall e he hb
        rw [heq] at h1
        rcases Nat.lt_or_ge i listed.size with h' | h'
        · simp [h'] at hiun h1; rw [hiun] at h1; cases h1
        · simp [Array.getElem?_eq_none h'] at h1
      obtain ⟨hap, hmm⟩ := hfree j oj hoj hji hjun hnot
      have hmm := hmm.resolve_left hntw
      unfold opE at h1 ⊢
      rw [hoj] at h1 ⊢
      obtain ⟨u, L2, hyj, hndj, h2⟩ := h1
      obtain ⟨L3, hL3, k1, k2⟩ := hy.swap (fun h => hHa ⟨j, h⟩) hL hyj hap hmm
      refine ⟨u, L3, k1, (fun h => by cases h), ?_⟩
      have hfree' : freeE ops md mk al st (listed.setIfInBounds j true) i oi := fun k ok hk hki hun hno => by
        refine hfree k ok hk hki ?_ hno
        by_cases hjk : j = k
        · subst hjk; exact hjun
        · rw [getD_set_ne true hjk] at hun; exact hun
      refine ih (listed.setIfInBounds j true) _ _ _ hfree' (hcl.set hj) (ready_mono hr (Ne.symm hji)) hL3 k2 ?_
      rw [Array.setIfInBounds_comm _ _ hji, ← putA_comm fr v u (Oper.apart_spec hap).2.1]
      exact h2

def setAll : Nat → Nat → Array Bool → Array Bool
  | 0, _, l => l
  | n + 1, k, l => setAll n (k + 1) (l.setIfInBounds k true)
theorem lex_split {m : Nat} : ∀ (n k : Nat) (l : Array Bool), Region.lexFrom md ops (n + m) k l = true → Region.lexFrom md ops m (k + n) (setAll n k l) = true
  | 0, k, l, h => by simpa [setAll] using h
  | n + 1, k, l, h => by
    rw [show n + 1 + m = (n + m) + 1 by omega, Region.lexFrom, Bool.and_eq_true] at h
    have := lex_split n (k + 1) _ h.2
    rwa [show k + 1 + n = k + (n + 1) by omega] at this
theorem set_lt {listed : Array Bool} {k : Nat} (hk : ∀ j, j < k → listed.getD j true = true) : ∀ j, j < k + 1 → (listed.setIfInBounds k true).getD j true = true := fun j hj => by
  by_cases hjk : k = j
  · subst hjk
    rcases Nat.lt_or_ge k listed.size with h' | h'
    · simp [h']
    · simp [Array.getElem?_eq_none h']
  · rw [getD_set_ne true hjk]; exact hk j (by omega)
theorem setAll_lt : ∀ (n k : Nat) (l : Array Bool), (∀ j, j < k → l.getD j true = true) → ∀ j, j < k + n → (setAll n k l).getD j true = true
  | 0, k, l, h => by simpa [setAll] using h
  | n + 1, k, l, h => fun j hj => setAll_lt n (k + 1) _ (set_lt h) j (by omega)
theorem setAll_ge : ∀ (n k : Nat) (l : Array Bool) (j : Nat), k + n ≤ j → (setAll n k l).getD j true = l.getD j true
  | 0, k, l, j, h => rfl
  | n + 1, k, l, j, h => by rw [setAll, setAll_ge n (k + 1) _ j (by omega), getD_set_ne true (by omega)]

theorem anyG_lex {H : Heap → Prop} {ms as ss : List Nat} {S : Array Bool} {s m : Nat} {K : List AV → Heap → Prop} (hH : (∃ i, as.contains i = true) → ∀ G A, H G → H (G ++ A)) (hm : ordE ops md ms as ss = true) (hS : ∀ j, j < s → S.getD j true = true) (hs : ∀ i j, i < s → s ≤ j → j < ops.size → TW ops md i j) : ∀ (l : List Oper) (k : Nat) (listed : Array Bool) (fr : List AV) (L : Heap), (∀ j, j < l.length → l[j]? = ops[k + j]?) → k + l.length = s → s ≤ ops.size → (∀ j, j < k → listed.getD j true = true) → (∀ j o, k ≤ j → ops[j]? = some o → listed.getD j true = false) →
    Region.lexFrom md ops (l.length + m) k listed = true → setAll l.length k listed = S → (l = [] ∨ H L) → evE P Γ ops.toList H ms as ss false k l fr L K → anyG P Γ md ops H (ms.contains ·) (as.contains ·) (ss.contains ·) S K l.length listed fr L
  | [], _, _, _, _, _, _, _, _, _, _, hs, _, h => ⟨hs, h⟩
  | o :: l, k, listed, fr, L, hl, hn, hsz, hk, hu, hB, hSe, hL, h => by
    have hL : H L := by rcases hL with hL | hL; cases hL; exact hL
    have h0 : ops[k]? = some o := by simpa using (hl 0 (by simp)).symm
    rw [List.length_cons, show l.length + 1 + m = (l.length + m) + 1 by omega, Region.lexFrom, Bool.and_eq_true, Bool.and_eq_true] at hB
    obtain ⟨⟨hr, hf⟩, hB'⟩ := hB
    obtain ⟨hg, h⟩ := h
    simp only [List.length_cons] at hn
    have hk' := set_lt hk
    have hu' : ∀ j o, k + 1 ≤ j → ops[j]? = some o → (listed.setIfInBounds k true).getD j true = false := fun j o' hj ho => by
      rw [getD_set_ne true (show k ≠ j by omega)]; exact hu j o' (by omega) ho
    have hcl : Closed ops md listed := fun a b ha hab => by
      obtain ⟨o', e, ho', _⟩ := hab.step
      refine hu b o' ?_ ho'
      rcases Nat.lt_or_ge a k with h' | h'
      · rw [hk a h'] at ha; cases ha
      · have := hab.lt; omega
    have hl' : ∀ j, j < l.length → l[j]? = ops[k + 1 + j]? := fun j hj => by have := hl (j + 1) (by simp; omega); simpa [Nat.add_assoc, Nat.add_comm 1 j] using this
    have hn' : k + 1 + l.length = s := by omega
    have hE : ∀ (listed : Array Bool) (j : Nat), Closed ops md listed → listed.setIfInBounds k true = S → k ∈ Region.ready md ops listed → j ∈ Region.ready md ops listed → j = k := fun listed j hc hS' hkr hjr => by
      by_cases hjk : j = k
      · exact hjk
      · obtain ⟨hjun, oj, hoj, _⟩ := mem_ready.1 hjr
        have hjs : j < ops.size := (Array.getElem?_eq_some_iff.1 hoj).1
        have : S.getD j true = false := by rw [← hS', getD_set_ne true (Ne.symm hjk)]; exact hjun
        have hge : s ≤ j := by
          rcases Nat.lt_or_ge j s with h' | h'
          · rw [hS j h'] at this; cases this
          · exact h'
        exact absurd hjr (hc.late (mem_ready.1 hkr).1 (hs k j (by omega) hge hjs))
    have hSe' : setAll l.length (k + 1) (listed.setIfInBounds k true) = S := by simpa [setAll] using hSe
    cases hak : as.contains k with
    | true =>
      rw [hak] at h
      simp only [if_true] at h
      exact anyG_first hH h0 hE l.length listed fr L _ (free_E hm h0 hk hf) hcl (by simpa using hr) hL (by unfold Ye; rw [hak]; exact ⟨hg, by simp only [if_true]; exact ⟨h.1, h.2.1, trivial, trivial, h.2.2.1⟩⟩)
        (anyG_lex hH hm hS hs l (k + 1) _ _ _ hl' hn' hsz hk' hu' hB' hSe' (.inr h.2.2.1) h.2.2.2)
    | false =>
      rw [hak] at h
      simp only [Bool.false_eq_true, if_false] at h
      cases hmk : ms.contains k with
      | true =>
        rw [hmk] at h
        simp only [if_true, orLast_f] at h
        exact anyG_first hH h0 hE l.length listed fr L _ (free_E hm h0 hk hf) hcl (by simpa using hr) hL (by
            unfold Ye; rw [hmk, hak]
            refine ⟨hg, ?_⟩
            simp only [Bool.false_eq_true, if_false, if_true]
            exact ⟨h.1, trivial, trivial, fun _ => h.2.2.1, fun hs => by have := h.2.1; rw [hs] at this; simpa using this⟩)
          (anyG_lex hH hm hS hs l (k + 1) _ _ _ hl' hn' hsz hk' hu' hB' hSe' (.inr h.2.2.1) h.2.2.2)
      | false =>
        rw [hmk] at h
        simp only [Bool.false_eq_true, if_false] at h
        exact anyG_first hH h0 hE l.length listed fr L L (free_E hm h0 hk hf) hcl (by simpa using hr) hL (by
            unfold Ye; rw [hmk, hak]
            refine ⟨hg, ?_⟩
            simp only [Bool.false_eq_true, if_false, true_and]
            exact fun G hG => ⟨(h.1 G hG).1, (h.1 G hG).2.1, by rw [(h.1 G hG).2.2]⟩)
          (anyG_lex hH hm hS hs l (k + 1) _ _ _ hl' hn' hsz hk' hu' hB' hSe' (.inr hL) h.2)

theorem anyG_sound (hΓ : EnvOk P Γ) {B : Base} {H : Heap → Prop} {mk al st : Nat → Bool} {S : Array Bool} {K : List AV → Heap → Prop} {Q : Exit → Act → World → Prop} {n : Nat} (hK : ∀ fr L m a w, K fr L → RS B fr L m a w → wpAny P md ops Q n S a w) :
    ∀ (fuel : Nat) (listed : Array Bool) (fr : List AV) (L : Heap) (m : Mem) (a : Act) (w : World), (fuel = 0 ∨ H L) → anyG P Γ md ops H mk al st S K fuel listed fr L → RS B fr L m a w → wpAny P md ops Q (fuel + n) listed a w
  | 0, _, _, _, _, _, _, _, h, hR => by rw [Nat.zero_add, h.1]; exact hK _ _ _ _ _ h.2 hR
  | fuel + 1, listed, _, L, _, _, _, hL, h, hR => by
    rw [show fuel + 1 + n = (fuel + n) + 1 by omega]
    refine ⟨fun h0 => absurd h0 h.1, fun i hi => ?_⟩
    rcases hL with hL | hL
    · cases hL
    · exact opE_sound hΓ (fun fr' L' m' a' w' hL' h' hR' => anyG_sound hΓ hK fuel _ fr' L' m' a' w' (.inr (hL'.resolve_right id)) h' hR') hL (h.2 i hi) hR
end
/-- every one behind waits for every one ahead -/
def syncB (ops : Array Oper) (md : Region.Mode) (s : Nat) : Bool := (List.range s).all fun i => (List.range (ops.size - s)).all fun j => twB ops md [] i 24 (s + j)
/-- A REGION THAT DRAWS ITS ORDER, in two parts -/
theorem Holds.drawnS {X : Cx} {id : Nat} {ops : Array Oper} {k : List It} {fr : List AV} {L : Heap} (s : Nat) (H : Heap → Prop) (ms as ss : List Nat) (H2 : Heap → Prop) (lst : Bool) (hm : X.P.follows .mixedOrders = true) (hB : Region.lexB .any ops = true) (ho : ordE ops .any ms as ss = true) (hla : lastB ops .any lst = true) (hsy : syncB ops .any s = true) (hsz : s ≤ ops.size)
    (hH : as = [] ∨ ∀ G A, H G → H (G ++ A)) (hH2 : as = [] ∨ ∀ G A, H2 G → H2 (G ++ A)) (hL : H L)
    (h : evE X.P X.Γ ops.toList H ms as ss false 0 (ops.toList.take s) fr L (fun fr L => H2 L ∧ evE X.P X.Γ ops.toList H2 ms as ss lst s (ops.toList.drop s) fr L (Holds X k))) : Holds X (.code (.region id ops true) :: k) fr L := by
  intro m a w hR
  simp only [W]
  simp only [Region.lexB, Bool.and_eq_true] at hB
  refine wp_region_any hm ?_
  have hR' : RS X.B fr L m a { w with drawn := w.drawn + 1 } := hR.drew
  have hlen : (ops.toList.take s).length = s := by simp; omega
  have hdl : (ops.toList.drop s).length = ops.size - s := by simp
  have hu : ∀ j o, 0 ≤ j → ops[j]? = some o → (Array.replicate ops.size false).getD j true = false := fun j o hj ho => by have := (Array.getElem?_eq_some_iff.1 ho).1; simp [this]
  have hB2 : Region.lexFrom .any ops (s + (ops.size - s)) 0 (Array.replicate ops.size false) = true := by rw [show s + (ops.size - s) = ops.size by omega]; simpa using hB.2
  have hT : ∀ i j, i < s → s ≤ j → j < ops.size → TW ops .any i j := fun i j h1 h2 h3 => by
    simp only [syncB, List.all_eq_true, List.mem_range] at hsy
    have := hsy i h1 (j - s) (by omega)
    rw [show s + (j - s) = j by omega] at this
    exact ⟨[], 24, this⟩
  have key := anyG_lex (P := X.P) (Γ := X.Γ) (md := .any) (ops := ops) (S := setAll s 0 (Array.replicate ops.size false)) (s := s) (m := ops.size - s) (fun ⟨i, hi⟩ => by rcases hH with hH | hH; subst hH; simp at hi; exact hH) ho (fun j hj => setAll_lt s 0 _ (fun j hj => by omega) j (by omega)) hT
    (ops.toList.take s) 0 (Array.replicate ops.size false) fr L (fun j hj => by rw [hlen] at hj; rw [List.getElem?_take_of_lt hj]; simp) (by rw [hlen]; omega) hsz (fun j hj => by omega) hu (by rw [hlen]; exact hB2) (by rw [hlen]) (.inr hL) h
  rw [hlen] at key
  have h2 := anyG_sound (md := .any) (Q := W X.P X.B X.Q k) (n := ops.size - s) X.ok (fun fr L m a w hk hR => ?_) _ _ fr L m a _ (.inr hL) key hR'
  · rw [show s + (ops.size - s) = ops.size by omega] at h2
    simpa using h2
  · have hk2 := anyE_lex (P := X.P) (Γ := X.Γ) (md := .any) (ops := ops) (K := Holds X _) (fun ⟨i, hi⟩ => by rcases hH2 with hH | hH; subst hH; simp at hi; exact hH) ho hla (ops.toList.drop s) s (setAll s 0 (Array.replicate ops.size false)) fr L (fun j => by simp) (by rw [hdl]; omega) (fun j hj => setAll_lt s 0 _ (fun j hj => by omega) j (by omega)) (fun j o hj ho => by rw [setAll_ge s 0 _ j (by omega)]; exact hu j o (by omega) ho)
      (by rw [hdl]; have := lex_split _ _ _ hB2; rwa [Nat.zero_add] at this) (.inr hk.1) hk.2
    rw [hdl] at hk2
    exact anyE_sound (md := .any) (Q := W X.P X.B X.Q _) X.ok (fun fr L m a w hk hR => hk m a w hR) _ _ fr L m a _ (.inl hk.1) hk2 hR
end Go.Eng
end
section
namespace Go.Eng
open Go
set_option linter.unusedVariables false
set_option linter.unusedSimpArgs false
section
variable {P : Program} {Γ : Env}
theorem evOps_prefix (hΓ : EnvOk P Γ) {B : Base} (ops : Array Oper) {K : List AV → Heap → Prop} {Q : Exit → Act → World → Prop} {l' : List Oper} (hK : ∀ fr L m a w, K fr L → RS B fr L m a w → wpList P ops Q l' a w) :
    ∀ (l : List Oper) (fr : List AV) (L : Heap) (m : Mem) (a : Act) (w : World), evOps P Γ ops.toList l fr L K → RS B fr L m a w → wpList P ops Q (l ++ l') a w
  | [], fr, L, m, a, w, h, hR => hK fr L m a w h hR
  | o :: l, fr, L, m, a, w, h, hR => by
    obtain ⟨h1, h2, h3⟩ := h
    have := step_sound (P := P) (Γ := Γ) hΓ hR.wrel hR.frel ops o (next := wpList P ops Q (l ++ l')) (Q := Q) h1 h2 fun a' w' m' k1 k2 k3 k4 =>
      evOps_prefix hΓ ops hK l _ _ m' a' w' h3 ⟨k1, k2, hR.ext.trans k3, by rw [k4, hR.defers]⟩
    rw [List.cons_append]
    unfold wpList
    split
    · rename_i hw; rw [if_pos hw] at this; exact .inl this
    · rename_i hw; rw [if_neg hw] at this; exact this
end
/-- what comes of an operation, whichever way it goes -/
def OpOut (X : Cx) (fr : List AV) (L : Heap) (o : Oper) (Out : AV → Heap → Prop) : Prop :=
  ∀ m a w, RS X.B fr L m a w → ∃ v L' u w' m', (execOp a.eval o).run X.P w = .ok (.value u) w' ∧ VRel m' L' v u ∧ WRel m' L' w' ∧ Ext m L w m' L' w' ∧ Out v L'
theorem Holds.opIn {X : Cx} {id : Nat} {ops : Array Oper} {k : List It} {fr : List AV} {L : Heap} (n : Nat) {o : Oper} {l2 : List Oper} (hd : ops.toList.drop n = o :: l2) (hg : o.guard = none)
    (h : evOps X.P X.Γ ops.toList (ops.toList.take n) fr L fun fr1 L1 => ∃ Out : AV → Heap → Prop, OpOut X fr1 L1 o Out ∧ ∀ v L', Out v L' → evOps X.P X.Γ ops.toList l2 (putA fr1 o.dst v) L' (Holds X k)) :
    Holds X (.code (.region id ops false) :: k) fr L := by
  have hs : ops.toList = ops.toList.take n ++ o :: l2 := by rw [← hd, List.take_append_drop]
  generalize ops.toList.take n = l1 at hs h
  intro m a w hR
  refine wp_region_list ?_
  rw [hs]
  refine evOps_prefix X.ok ops (fun fr1 L1 m1 a1 w1 hk hR1 => ?_) l1 fr L m a w h hR
  obtain ⟨Out, h1, h2⟩ := hk
  obtain ⟨v, L', u, w', m', hrun, hv, hW, hE, hO⟩ := h1 m1 a1 w1 hR1
  unfold wpList
  have hw : Region.wanted o (yielded ops a1.tmps) = true := by simp [Region.wanted, hg]
  rw [if_pos hw]
  left
  unfold Oper.wp
  rw [hrun]
  simp only [Oper.upon]
  refine evOps_sound X.ok ops (Q := W X.P X.B X.Q k) (fun fr2 L2 m2 a2 w2 hk hR2 => hk m2 a2 w2 hR2) l2 _ _ m' _ w' (h2 v L' hO) ⟨hW, put_rel (CRel.mono hE.mono _ _ hR1.frel) o.dst hv, hR1.ext.trans hE, ?_⟩
  cases o.dst <;> exact hR1.defers

theorem Holds.peel {X : Cx} {a b : Code} {k : List It} {fr : List AV} {L : Heap} (h : Holds X (.code a :: .code b :: k) fr L) : Holds X (.code (.seq a b) :: k) fr L := holds_of_ex X 1 _ _ _ h
theorem Holds.peelB {X : Cx} {id : Nat} {b : Code} {k : List It} {fr : List AV} {L : Heap} (h : Holds X (.code b :: .blk id :: k) fr L) : Holds X (.code (.block id b) :: k) fr L := holds_of_ex X 1 _ _ _ h
theorem Holds.peelS {X : Cx} {b : Code} {k : List It} {fr : List AV} {L : Heap} (h : Holds X (.code b :: k) fr L) : Holds X (.code (.scope b) :: k) fr L := holds_of_ex X 1 _ _ _ h
theorem Holds.peelL {X : Cx} {n : Nat} {k : List It} {fr : List AV} {L : Heap} (h : Holds X k fr L) : Holds X (.code (.label n) :: k) fr L := holds_of_ex X 1 _ _ _ h
theorem Holds.peelN {X : Cx} {k : List It} {fr : List AV} {L : Heap} (h : Holds X k fr L) : Holds X (.code .skip :: k) fr L := holds_of_ex X 1 _ _ _ h
theorem Holds.condT {X : Cx} {q : Operand} {x y : Code} {k : List It} {fr : List AV} {L : Heap} (hq : opd fr q = .bool true) (h : Holds X (.code x :: k) fr L) : Holds X (.code (.cond q x y) :: k) fr L :=
  holds_of_ex X 1 _ _ _ (by simp only [ex, hq]; exact ⟨fun _ => h, (fun h => by cases h)⟩)
theorem Holds.condF {X : Cx} {q : Operand} {x y : Code} {k : List It} {fr : List AV} {L : Heap} (hq : opd fr q = .bool false) (h : Holds X (.code y :: k) fr L) : Holds X (.code (.cond q x y) :: k) fr L :=
  holds_of_ex X 1 _ _ _ (by simp only [ex, hq]; exact ⟨(fun h => by cases h), fun _ => h⟩)
section
variable {X : Cx} {k : List It} {fr : List AV} {L : Heap}
theorem same_chg (w : World) (g : Nat) {o : Obj} (h : w.heap[g]? = some o) : Chg w w g o := ⟨h, fun _ _ _ => rfl, Nat.le_refl _, Same.refl w⟩
theorem RS.raw {B : Base} {m : Mem} {a : Act} {w : World} (hR : RS B fr L m a w) {id : Nat} {r r' : Raw} {o : Obj} (hL : L[id]? = some (.raw r)) (ho : w.heap[m.blk id]? = some o) (hr : RawRel (m.blk id) r' o) (hnb : ∀ T e l, r' ≠ .bld T e l) :
    RS B fr (L.set id (.raw r')) m a w := by
  obtain ⟨t1, t2⟩ := turn_raw (r := r') hR.wrel hL (same_chg w _ ho) hr hnb
  exact ⟨t1, CRel.mono t2.mono _ _ hR.frel, hR.ext.trans t2, hR.defers⟩
/-- a map is just this row of entries -/
theorem Holds.pinMap {id : Nat} {kd : Option IntKind} {f : Key → Option Value} (hL : L[id]? = some (.raw (.map kd f))) (h : ∀ b es clock, MRC kd f es.toList clock → Holds X k fr (L.set id (.raw (.obj (some b) (.map es clock))))) : Holds X k fr L := by
  intro m a w hR
  obtain ⟨o, ho, es, clock, rfl, hM⟩ := hR.wrel.iters id _ hL
  exact h (m.blk id) es clock hM m a w (hR.raw hL ho ⟨fun x hx => by cases hx; rfl, rfl⟩ (fun _ _ _ h => by cases h))
/-- it is a map again -/
theorem Holds.unpinMap {id b : Nat} {es : Array MapEntry} {clock : Nat} {kd : Option IntKind} {f : Key → Option Value} (hL : L[id]? = some (.raw (.obj (some b) (.map es clock)))) (hM : MRC kd f es.toList clock) (h : Holds X k fr (L.set id (.raw (.map kd f)))) : Holds X k fr L := by
  intro m a w hR
  obtain ⟨o, ho, _, rfl⟩ := hR.wrel.iters id _ hL
  exact h m a w (hR.raw hL ho ⟨es, clock, rfl, hM⟩ (fun _ _ _ h => by cases h))
theorem mp_val {m : Mem} {id : Nat} {u : Value} (h : VRel m L (.mp id) u) : u = .map (some (m.blk id)) := by
  simp only [VRel] at h
  exact h.choose_spec.2
theorem raw_ptr {m : Mem} {id : Nat} {r : Raw} {u : Value} (hL : L[id]? = some (.raw r)) (h : VRel m L (.ref id 0 0) u) : u = .pointer (some ⟨m.blk id, 0, none⟩) := by
  simp only [VRel] at h
  rcases h with ⟨_, _, _, h, _⟩ | ⟨_, _, h⟩
  · rw [hL] at h; cases h
  · exact h
/-- a range over a map begins -/
theorem out_range {o : Oper} {t kt et : TypeId} {x : Operand} (ho : o.op = .range t x) (ht : X.P.underlying t = some (.map kt et)) {id b : Nat} {es : Array MapEntry} {clock : Nat} (hx : opd fr x = .mp id) (hL : L[id]? = some (.raw (.obj (some b) (.map es clock)))) :
    OpOut X fr L o fun v L' => v = .ref L.length 0 0 ∧ L' = L ++ [.raw (.obj none (.mapIter (some b) clock #[] clock))] := by
  intro m a w hR
  have hu := mp_val (by rw [← hx]; exact opd_rel hR.frel x)
  obtain ⟨ob, hb, hbb, rfl⟩ := hR.wrel.iters id _ hL
  have hbe := hbb b rfl
  have hrun : (execOp a.eval o).run X.P w = .ok (.value (.pointer (some ⟨w.heap.size, 0, none⟩))) (w.alloc (.mapIter (some b) clock #[] clock)) := by
    have := run_range_map w t kt et b es clock ht (by rw [← hbe]; exact hb)
    simp [execOp, ho, hu, hbe, this]
  refine ⟨.ref L.length 0 0, L ++ [.raw (.obj none (.mapIter (some b) clock #[] clock))], _, _, m.put L.length w.heap.size 0, hrun, ?_, push_raw (r := .obj none (.mapIter (some b) clock #[] clock)) hR.wrel (Pushed.alloc w _) (show RawRel _ (.obj none _) _ from ⟨(fun _ hx => by cases hx), rfl⟩), ext_push _ _ (Pushed.alloc w _).keep, rfl, rfl⟩
  simp only [VRel]
  exact .inr ⟨.obj none (.mapIter (some b) clock #[] clock), by simp, by simp [Mem.put]⟩
/-- its next entry -/
theorem out_next {o : Oper} {x : Operand} (ho : o.op = .next x false) {id it b since c0 : Nat} {seen : Array Nat} {es : Array MapEntry} {clock : Nat} (hx : opd fr x = .ref it 0 0) (hL : L[id]? = some (.raw (.obj (some b) (.map es clock))))
    (hI : L[it]? = some (.raw (.obj none (.mapIter (some b) since seen c0)))) (hold : ∀ x ∈ es.toList, x.born < since) (hsc : since ≤ c0) :
    OpOut X fr L o fun v L' => (v = .tup [.bool false] ∧ L' = L ∧ (leftOf es seen).size = 0) ∨
      ∃ e ∈ (leftOf es seen).toList, v = .tup [.bool true, ofV e.key, ofV e.val] ∧ L' = L.set it (.raw (.obj none (.mapIter (some b) since (seen.push e.born) clock))) := by
  intro m a w hR
  have hu := raw_ptr hI (by rw [← hx]; exact opd_rel hR.frel x)
  obtain ⟨ob, hb, hbb, rfl⟩ := hR.wrel.iters id _ hL
  have hbe := hbb b rfl
  obtain ⟨oi, hi, _, rfl⟩ := hR.wrel.iters it _ hI
  have hlt : m.blk it < w.heap.size := hR.wrel.blk_lt (.inr ⟨_, hI⟩)
  rcases run_next_at (P := X.P) w o.type (m.blk it) b since c0 seen es clock hi (by rw [← hbe]; exact hb) hold hsc with ⟨h0, hrun⟩ | ⟨e, he, w1, hw1, hrun⟩
  · refine ⟨.tup [.bool false], L, .tuple #[.bool false], w, m, ?_, ⟨[.bool false], rfl, by simp [CRel, VRel]⟩, hR.wrel, Ext.refl, .inl ⟨rfl, rfl, h0⟩⟩
    simp [execOp, ho, hu, hrun]
  · have hC : Chg w (ChangeMaps.setBlock w1 (m.blk it) (.mapIter (some b) since (seen.push e.born) clock)) (m.blk it) (.mapIter (some b) since (seen.push e.born) clock) := by
      have hh : w1.heap = w.heap := by rcases hw1 with rfl | rfl <;> rfl
      refine ⟨by simp [ChangeMaps.setBlock, hh, hlt], fun g' hne _ => ?_, by simp [ChangeMaps.setBlock, hh], ?_⟩
      · simp [ChangeMaps.setBlock, hh, Array.getElem?_setIfInBounds, hne.symm]
      · rcases hw1 with rfl | rfl <;> exact ⟨rfl, rfl, rfl⟩
    obtain ⟨t1, t2⟩ := turn_raw (r := .obj none (.mapIter (some b) since (seen.push e.born) clock)) hR.wrel hI hC ⟨(fun _ hx => by cases hx), rfl⟩
    refine ⟨_, _, .tuple #[.bool true, e.key, e.val], _, m, ?_, ?_, t1, t2, .inr ⟨e, he, rfl, rfl⟩⟩
    · simp [execOp, ho, hu, hrun]
    · simp only [VRel]
      exact ⟨[.bool true, e.key, e.val], rfl, .cons (by simp [VRel]) (.cons (ofV_rel m _ _) (.cons (ofV_rel m _ _) (.nil m _)))⟩
/-- that entry again -/
theorem out_entry {o : Oper} {x : Operand} (ho : o.op = .entry x) {id it b since : Nat} {seen : Array Nat} {es : Array MapEntry} {clock : Nat} {e : MapEntry} (hx : opd fr x = .ref it 0 0) (hL : L[id]? = some (.raw (.obj (some b) (.map es clock))))
    (hI : L[it]? = some (.raw (.obj none (.mapIter (some b) since (seen.push e.born) clock)))) (he : e ∈ es.toList) (hn : (es.toList.map (·.born)).Nodup) :
    OpOut X fr L o fun v L' => v = .tup [ofV e.key, ofV e.val] ∧ L' = L := by
  intro m a w hR
  have hu := raw_ptr hI (by rw [← hx]; exact opd_rel hR.frel x)
  obtain ⟨ob, hb, hbb, rfl⟩ := hR.wrel.iters id _ hL
  have hbe := hbb b rfl
  rw [hbe] at hb
  obtain ⟨oi, hi, _, rfl⟩ := hR.wrel.iters it _ hI
  have hf : es.find? (·.born == e.born) = some e := by rw [← Array.find?_toList]; exact find_born e es.toList hn he
  have hrun : (Instr.entry (.pointer (some ⟨m.blk it, 0, none⟩))).run X.P w = .ok (.tuple #[e.key, e.val]) w := by
    simp only [Instr.entry, getObj, Sem.run_bind, Sem.run, hi, hb, Result.andThen, Array.back?_push, bne_self_eq_false, Bool.false_eq_true, if_false, hf]
    rfl
  refine ⟨_, _, .tuple #[e.key, e.val], w, m, ?_, ?_, hR.wrel, Ext.refl, rfl, rfl⟩
  · simp [execOp, ho, hu, hrun]
  · simp only [VRel]
    exact ⟨[e.key, e.val], rfl, .cons (ofV_rel m _ _) (.cons (ofV_rel m _ _) (.nil m _))⟩
end
end Go.Eng
end
section
namespace Go.Eng
open Go
set_option linter.unusedVariables false
set_option linter.unusedSimpArgs false
theorem eval_put {a : Act} {d : Nat} {u : Value} (h : d < a.tmps.size) : (a.put (some d) u).eval (.tmp d) = u := by
  simp [Act.put, Act.eval, h]
/-- an array's first bytes, sliced and turned to a text -/
theorem Holds.arrStr {X : Cx} {rid : Nat} {ops : Array Oper} {k : List It} {fr : List AV} {L : Heap} (n : Nat) {o1 o2 : Oper} {l2 : List Oper} (hd : ops.toList.drop n = o1 :: o2 :: l2) (g1 : o1.guard = none) (g2 : o2.guard = none)
    {d : Nat} (hd1 : o1.dst = some d) {t e e' src dst : TypeId} {x : Operand} {hi : Option Operand} {N : Nat} (h1 : o1.op = .slice t x none hi none) (h2 : o2.op = .convert src dst (.tmp d))
    (ht : X.P.underlying t = some (.array N e')) (hie : (X.P.info? e').isSome = true) (hs : X.P.underlying src = some (.slice e)) (he : X.P.underlying e = some (.int .u8)) (hds : X.P.underlying dst = some .string)
    (h : evOps X.P X.Γ ops.toList (ops.toList.take n) fr L fun fr1 L1 => ∃ i v j, ∃ l : List UInt8, opd fr1 x = .ref i v 0 ∧ ((hi = none ∧ j = N) ∨ ∃ y, hi = some y ∧ opd fr1 y = .int .i64 ((j : Nat) : Int)) ∧ fresh L1 i v ∧ l.length = j ∧ j ≤ N ∧ d < fr1.length ∧
      (rowOf L1 i).take j = l.map byteAV ∧ evOps X.P X.Γ ops.toList l2 (putA (putA fr1 (some d) .any) o2.dst (.str l)) L1 (Holds X k)) :
    Holds X (.code (.region rid ops false) :: k) fr L := by
  have hsp : ops.toList = ops.toList.take n ++ o1 :: o2 :: l2 := by rw [← hd, List.take_append_drop]
  generalize ops.toList.take n = l1 at hsp h
  intro m a w hR
  refine wp_region_list ?_
  rw [hsp]
  refine evOps_prefix X.ok ops (fun fr1 L1 m1 a1 w1 hk hR1 => ?_) l1 fr L m a w h hR
  obtain ⟨i, v, j, l, hx, hj, hf, hl, hN, hdl, hrow, hrest⟩ := hk
  have hu : a1.eval x = .pointer (some ⟨m1.blk i, 0, none⟩) := ref_ptr (by rw [← hx]; exact opd_rel hR1.frel x) hf
  obtain ⟨cs, sz, hL, hcs, _⟩ := fresh_row hf
  obtain ⟨us, hus, hcell, _⟩ := row_cells hR1.wrel hL
  have hal : X.P.arrayLen t = N := by simp [Program.arrayLen, ht]
  have r1 : (execOp a1.eval o1).run X.P w1 = .ok (.value (.slice (some ⟨m1.blk i, 0, none⟩) j N)) w1 := by
    have hel : X.P.elem t = e' := by simp [Program.elem, ht]
    have ht2 : X.P.underlying t = some (.array (X.P.arrayLen t) (X.P.elem t)) := by rw [hal, hel]; exact ht
    have hsz := run_sizeOf' (P := X.P) (w := w1) (t := X.P.elem t) (by rw [hel]; exact hie)
    have hs0 : slicedAt (⟨m1.blk i, 0, none⟩ : Addr) 0 j N (X.P.cellsOf (X.P.elem t)) = .slice (some ⟨m1.blk i, 0, none⟩) j N := by
      unfold slicedAt
      split <;> simp [Addr.add]
    rcases hj with ⟨rfl, rfl⟩ | ⟨y, rfl, hy⟩
    · have := run_sliceAt_array_all w1 t ⟨m1.blk i, 0, none⟩ ht2
      simp only [hsz, Result.andThen, hal, hs0] at this
      simp [execOp, h1, hu, this]
    · have hyv : a1.eval y = .int .i64 ((j : Nat) : Int) := by
        have := opd_rel hR1.frel y
        rw [hy] at this
        simpa only [VRel] using this
      have := run_sliceAt_array_h w1 t ⟨m1.blk i, 0, none⟩ ht2 .i64 ((j : Nat) : Int) (by omega) (by rw [hal]; omega)
      simp only [hsz, Result.andThen, hal, Int.toNat_natCast, hs0] at this
      simp [execOp, h1, hu, hyv, this]
  have hcj : ∀ q (hq : q < l.length), w1.cell? ((⟨m1.blk i, 0, none⟩ : Addr).add q) = some (.int .u8 (l[q].toNat : Int)) := by
    intro q hq
    have hq' : (l.map byteAV)[q]? = some (byteAV l[q]) := by simp [hq]
    rw [← hrow, hcs, List.getElem?_take] at hq'
    split at hq'
    · obtain ⟨u', hu', hv'⟩ := hus.get q _ hq'
      simp only [byteAV, VRel] at hv'
      rw [← hv', ← hcell q u' hu']
      by_cases hq0 : q = 0 <;> simp [Addr.add, hq0]
    · cases hq'
  have r2 : (execOp (a1.put (some d) (.slice (some ⟨m1.blk i, 0, none⟩) j N)).eval o2).run X.P w1 = .ok (.value (.string ⟨l.toArray⟩)) w1 := by
    have hsz : d < a1.tmps.size := by rw [← Array.length_toList, hR1.frel.length]; exact hdl
    have := run_convert_bytes_back (P := X.P) w1 src dst e ⟨m1.blk i, 0, none⟩ N l hs he hds hcj
    rw [hl] at this
    simp [execOp, h2, eval_put hsz, this]
  unfold wpList
  rw [if_pos (by simp [Region.wanted, g1])]
  left
  unfold Oper.wp
  rw [r1]
  simp only [Oper.upon]
  unfold wpList
  rw [if_pos (by simp [Region.wanted, g2])]
  left
  unfold Oper.wp
  rw [hd1, r2]
  simp only [Oper.upon]
  refine evOps_sound X.ok ops (Q := W X.P X.B X.Q k) (fun fr2 L2 m2 a2 w2 hk hR2 => hk m2 a2 w2 hR2) l2 _ _ m1 _ w1 hrest ⟨hR1.wrel, put_rel (put_rel hR1.frel (some d) (x := .any) (by simp [VRel])) o2.dst (x := .str l) (by simp [VRel]), hR1.ext, ?_⟩
  cases o2.dst <;> exact hR1.defers
/-- what is left of a region holds -/
def RestIn (X : Cx) (ops : Array Oper) (l : List Oper) (k : List It) (fr : List AV) (L : Heap) : Prop :=
  ∀ m a w, RS X.B fr L m a w → wpList X.P ops (W X.P X.B X.Q k) l a w
theorem Holds.reg {X : Cx} {id : Nat} {ops : Array Oper} {k : List It} {fr : List AV} {L : Heap} (h : RestIn X ops ops.toList k fr L) : Holds X (.code (.region id ops false) :: k) fr L :=
  fun m a w hR => wp_region_list (h m a w hR)
theorem RestIn.nil {X : Cx} {ops : Array Oper} {k : List It} {fr : List AV} {L : Heap} (h : Holds X k fr L) : RestIn X ops [] k fr L := fun m a w hR => h m a w hR
theorem RestIn.ev {X : Cx} {ops : Array Oper} {k : List It} {fr : List AV} {L : Heap} {l : List Oper} (n : Nat) (h : evOps X.P X.Γ ops.toList (l.take n) fr L fun fr1 L1 => RestIn X ops (l.drop n) k fr1 L1) : RestIn X ops l k fr L := by
  intro m a w hR
  have := evOps_prefix X.ok ops (l' := l.drop n) (Q := W X.P X.B X.Q k) (fun fr1 L1 m1 a1 w1 hk hR1 => hk m1 a1 w1 hR1) (l.take n) fr L m a w h hR
  rwa [List.take_append_drop] at this
theorem RestIn.op {X : Cx} {ops : Array Oper} {k : List It} {fr : List AV} {L : Heap} {o : Oper} {l : List Oper} (hg : o.guard = none) {Out : AV → Heap → Prop} (h1 : OpOut X fr L o Out)
    (h2 : ∀ v L', Out v L' → RestIn X ops l k (putA fr o.dst v) L') : RestIn X ops (o :: l) k fr L := by
  intro m a w hR
  obtain ⟨v, L', u, w', m', hrun, hv, hW, hE, hO⟩ := h1 m a w hR
  unfold wpList
  have hw : Region.wanted o (yielded ops a.tmps) = true := by simp [Region.wanted, hg]
  rw [if_pos hw]
  left
  unfold Oper.wp
  rw [hrun]
  simp only [Oper.upon]
  refine h2 v L' hO m' _ w' ⟨hW, put_rel (CRel.mono hE.mono _ _ hR.frel) o.dst hv, hR.ext.trans hE, ?_⟩
  cases o.dst <;> exact hR.defers
/-- a call in a region, looked at in the model itself -/
theorem RestIn.call {X : Cx} {ops : Array Oper} {k : List It} {fr : List AV} {L : Heap} {o : Oper} {l : List Oper} (hg : o.guard = none)
    {g : FuncId} {args : Array Operand} {ts : Array TypeId} {fn : Func} (ho : o.op = .call { callee := .value (.func g), args := args, argTypes := ts }) (hfn : X.P.funcs[g]? = some fn) (hb : fn.body.isNone = false) (hn : (fn.name == "runtime.NumGoroutine") = false)
    {Out : AV → Heap → Prop} (h1 : ∀ m a w, RS X.B fr L m a w → Calls X.P g (args.map a.eval) w fun e w' => ∃ v u m' L', e = .returned u ∧ VRel m' L' v u ∧ WRel m' L' w' ∧ Ext m L w m' L' w' ∧ Out v L')
    (h2 : ∀ v L', Out v L' → RestIn X ops l k (putA fr o.dst v) L') : RestIn X ops (o :: l) k fr L := by
  intro m a w hR
  have hcalls := h1 m a w hR
  have hname' : fn.name ≠ "runtime.NumGoroutine" := by simpa using hn
  have hbody' : fn.body ≠ none := by intro h; simp [h] at hb
  have hrun : (execOp a.eval o).run X.P w = .ok (.enter g (args.map a.eval)) w := by
    simp [execOp, ho, resolve, Act.eval, Deferred.ofValue, invoke, callFunc, hfn, hbody', hname']
  unfold wpList
  have hw : Region.wanted o (yielded ops a.tmps) = true := by simp [Region.wanted, hg]
  rw [if_pos hw]
  left
  unfold Oper.wp
  rw [hrun]
  simp only [Oper.upon]
  refine hcalls.mono ?_
  rintro e w' ⟨v, u, m', L', rfl, hv, hW, hE, hO⟩
  refine h2 v L' hO m' _ w' ⟨hW, put_rel (CRel.mono hE.mono _ _ hR.frel) o.dst hv, hR.ext.trans hE, ?_⟩
  cases o.dst <;> exact hR.defers
section
variable {X : Cx} {k : List It} {fr : List AV} {L : Heap}
/-- a new variable, as just this object at just this block -/
theorem out_alloc {o : Oper} {t : TypeId} (ho : o.op = .alloc t) {z : Value} (hiz : (X.P.info? t).bind (·.zero) = some z) (hlt : lkT tyB t = none) :
    OpOut X fr L o fun v L' => ∃ b, v = .ref L.length 0 0 ∧ L' = L ++ [.raw (.obj (some b) (.cells z.cells t (0, 0)))] := by
  intro m a w hR
  have hzr : (zeroValue t).run X.P w = .ok z w := by
    cases hi : X.P.info? t with
    | none => rw [hi] at hiz; cases hiz
    | some i => rw [hi] at hiz; have hz : i.zero = some z := hiz; simp [zeroValue, typeInfo, hi, hz]
  have hP := Pushed.alloc w (.cells z.cells t)
  refine ⟨.ref L.length 0 0, L ++ [.raw (.obj (some w.heap.size) (.cells z.cells t (0, 0)))], .pointer (some ⟨w.heap.size, 0, none⟩), _, m.put L.length w.heap.size 0, ?_, ?_,
    push_raw (r := .obj (some w.heap.size) (.cells z.cells t (0, 0))) hR.wrel hP ⟨fun x hx => by cases hx; rfl, rfl⟩, ext_push _ _ hP.keep, w.heap.size, rfl, rfl⟩
  · simp [execOp, ho, Instr.alloc, hzr, newVar, newRow]
  · simp only [VRel]
    exact .inr ⟨.obj (some w.heap.size) (.cells z.cells t (0, 0)), by simp, by simp [Mem.put]⟩
/-- its first cells, as a slice -/
theorem out_slice {o : Oper} {t e' : TypeId} {x y : Operand} {N j : Nat} (ho : o.op = .slice t x none (some y) none) (ht : X.P.underlying t = some (.array N e')) (hie : (X.P.info? e').isSome = true) {id b : Nat} {ob : Obj} (hx : opd fr x = .ref id 0 0)
    (hy : opd fr y = .int .i64 ((j : Nat) : Int)) (hj : j ≤ N) (hL : L[id]? = some (.raw (.obj (some b) ob))) : OpOut X fr L o fun v L' => v = .lit (.slice (some ⟨b, 0, none⟩) j N) ∧ L' = L := by
  intro m a w hR
  have hu := raw_ptr hL (by rw [← hx]; exact opd_rel hR.frel x)
  obtain ⟨_, _, hbb, _⟩ := hR.wrel.iters id _ hL
  have hbe := hbb b rfl
  rw [hbe] at hu
  have hal : X.P.arrayLen t = N := by simp [Program.arrayLen, ht]
  have hel : X.P.elem t = e' := by simp [Program.elem, ht]
  have ht2 : X.P.underlying t = some (.array (X.P.arrayLen t) (X.P.elem t)) := by rw [hal, hel]; exact ht
  have hsz := run_sizeOf' (P := X.P) (w := w) (t := X.P.elem t) (by rw [hel]; exact hie)
  have hs0 : slicedAt (⟨b, 0, none⟩ : Addr) 0 j N (X.P.cellsOf (X.P.elem t)) = .slice (some ⟨b, 0, none⟩) j N := by
    unfold slicedAt
    split <;> simp [Addr.add]
  have hyv : a.eval y = .int .i64 ((j : Nat) : Int) := by
    have := opd_rel hR.frel y
    rw [hy] at this
    simpa only [VRel] using this
  have := run_sliceAt_array_h w t ⟨b, 0, none⟩ ht2 .i64 ((j : Nat) : Int) (by omega) (by rw [hal]; omega)
  simp only [hsz, Result.andThen, hal, Int.toNat_natCast, hs0] at this
  exact ⟨_, L, .slice (some ⟨b, 0, none⟩) j N, w, m, by simp [execOp, ho, hu, hyv, this], by simp [VRel], hR.wrel, Ext.refl, rfl, rfl⟩
/-- bytes of it, as a text -/
theorem out_conv {o : Oper} {src dst e : TypeId} {y : Operand} {N j : Nat} (ho : o.op = .convert src dst y) (hs : X.P.underlying src = some (.slice e)) (he : X.P.underlying e = some (.int .u8)) (hds : X.P.underlying dst = some .string)
    {id b : Nat} {cs : Array Value} {te : TypeId} {lh : Nat × Nat} (hy : opd fr y = .lit (.slice (some ⟨b, 0, none⟩) j N)) (hL : L[id]? = some (.raw (.obj (some b) (.cells cs te lh)))) {l : List UInt8} (hl : l.length = j)
    (hc : ∀ q (hq : q < l.length), cs[q]? = some (.int .u8 (l[q].toNat : Int))) : OpOut X fr L o fun v L' => v = .str l ∧ L' = L := by
  intro m a w hR
  obtain ⟨_, hb, hbb, rfl⟩ := hR.wrel.iters id _ hL
  have hbe := hbb b rfl
  rw [hbe] at hb
  have hyv : a.eval y = .slice (some ⟨b, 0, none⟩) j N := by
    have := opd_rel hR.frel y
    rw [hy] at this
    simpa only [VRel] using this
  have := run_convert_bytes_back (P := X.P) w src dst e ⟨b, 0, none⟩ N l hs he hds fun q hq => by
    have e1 : (⟨b, 0, none⟩ : Addr).add q = ⟨b, q, none⟩ := by by_cases hq0 : q = 0 <;> simp [Addr.add, hq0]
    obtain ⟨lo, hi⟩ := lh
    rw [e1]
    simp [World.cell?, hb, hc q hq]
  rw [hl] at this
  exact ⟨_, L, .string ⟨l.toArray⟩, w, m, by simp [execOp, ho, hyv, this], by simp [VRel], hR.wrel, Ext.refl, rfl, rfl⟩
end
end Go.Eng
end
