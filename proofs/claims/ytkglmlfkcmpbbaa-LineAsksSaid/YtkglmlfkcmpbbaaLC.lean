/- Of lines: the commands' names, in order. No conditions. -/
import Derived.Test.YtkglmlfkcmpbbaaLA
import Derived.Test.YtkglmlfkcmpbbaaEng15
import Derived.Test.YtkglmlfkcmpbbaaIter
import Derived.Maps.Own
namespace Go.Proofs.Ytkglmlfkcmpbbaa.lineDone
open Go Go.Eng Go.Proofs Go.Lines Go.RowKit Go.Maps Go.Sort Go.Shelf
set_option linter.unusedVariables false
set_option linter.unusedSimpArgs false
/-- the commands' names, in order -/
def names : List (List UInt8) := [[97, 100, 100], [99, 111, 112, 121], [100, 101, 108, 101, 116, 101], [100, 105, 114], [102, 114, 101, 101], [112, 117, 116], [114, 101, 110, 97, 109, 101], [114, 117, 110], [115, 104, 111, 119], [115, 105, 122, 101]]
theorem names_cmd (w : List UInt8) : w ∈ names ↔ cmd w ≠ none := by
  simp only [names, List.mem_cons, List.not_mem_nil, or_false, cmd]
  constructor
  · rintro (rfl | rfl | rfl | rfl | rfl | rfl | rfl | rfl | rfl | rfl) <;> decide
  · intro h
    split at h
    · rename_i h'; rcases h' with rfl | rfl <;> simp
    split at h
    · rename_i h'; rcases h' with rfl | rfl | rfl | rfl <;> simp
    split at h
    · rename_i h'; rcases h' with rfl | rfl <;> simp
    split at h
    · rename_i h'; rcases h' with rfl | rfl <;> simp
    · exact absurd rfl h
theorem names_nodup : names.Nodup := by decide
theorem cmdF_key {k : Key} {v : Value} (h : cmdF k = some v) : ∃ w, k = .s w ∧ w ∈ names := by
  cases k with
  | s w =>
    refine ⟨w, rfl, (names_cmd w).2 fun hc => ?_⟩
    rw [cmdF_eq, hc] at h; cases h
  | _ => simp [cmdF, updK, noK] at h
theorem cmdF_name {w : List UInt8} (h : w ∈ names) : ∃ v, cmdF (.s w) = some v := by
  have := (names_cmd w).1 h
  rw [cmdF_eq]
  cases hc : cmd w with
  | none => exact absurd hc this
  | some p => exact ⟨_, rfl⟩
def keysV (x : MapEntry) : List UInt8 := match x.key with
  | .string s => s.data.toList
  | _ => []
/-- the entries' keys are the names -/
theorem keys_perm {es : List MapEntry} (h : MRel none cmdF es) : (es.map keysV).Perm names ∧ ∀ x ∈ es, ∃ w ∈ names, x.key = .string ⟨w.toArray⟩ := by
  have hk : ∀ x ∈ es, ∃ w ∈ names, x.key = .string ⟨w.toArray⟩ := by
    intro x hx
    obtain ⟨k, h1, h2⟩ := h.ent x hx
    obtain ⟨w, rfl, hw⟩ := cmdF_key h2
    exact ⟨w, hw, h1⟩
  have hkv : ∀ x ∈ es, x.key = .string ⟨(keysV x).toArray⟩ := by
    intro x hx
    obtain ⟨w, _, e⟩ := hk x hx
    simp [keysV, e]
  refine ⟨(List.perm_ext_iff_of_nodup ?_ names_nodup).2 fun w => ?_, hk⟩
  · have hnd := h.nodup
    have e : es.map (·.key) = (es.map keysV).map (fun w => Value.string ⟨w.toArray⟩) := by
      rw [List.map_map]
      exact List.map_congr_left fun x hx => hkv x hx
    rw [e] at hnd
    exact List.Pairwise.of_map _ (fun a b h e => h (by rw [e])) hnd
  · constructor
    · intro hw
      obtain ⟨x, hx, rfl⟩ := List.mem_map.1 hw
      obtain ⟨w, hw, e⟩ := hk x hx
      have := (hkv x hx).symm.trans e
      simp at this
      rw [this]; exact hw
    · intro hw
      obtain ⟨v, hv⟩ := cmdF_name hw
      obtain ⟨_, e, he, h2⟩ := h.has _ _ hv
      refine List.mem_map.2 ⟨e, he, ?_⟩
      have := (hkv e he).symm.trans h2
      simp [Key.val] at this
      exact this
def sortedP (xs : List AV) (L : Heap) : Prop := match xs with
  | [.fn (.func g) [] [.ref c v o]] => g = 38 ∧ o = 0 ∧ L[c]? = some (.row [.mpr none cmdF] 1 v)
  | _ => False
/-- slices.Sorted at what maps.Keys handed back of the commands -/
def sortedS : FSpec where
  pre xs L := sortedP xs L
  res _ _ := .sl (names.map .str) 10
  post _ L := L
  quiet := true
theorem key_reads (x : MapEntry) (h : ∃ w ∈ names, x.key = .string ⟨w.toArray⟩) : keyOf Try.prog 9 x.key = some (.string (keysV x)) := by
  obtain ⟨w, hw, e⟩ := h
  have hl : w.length ≤ 6 := by
    have : ∀ w ∈ names, w.length ≤ 6 := by decide
    exact this w hw
  rw [keyOf_string Try.underlying9, e]
  have hs : (⟨w.toArray⟩ : ByteArray).size ≤ maxLen := by
    have : (⟨w.toArray⟩ : ByteArray).size = w.length := by simp [ByteArray.size]
    rw [this]; simp only [maxLen]; omega
  unfold mapKey
  rw [Try.underlying9]
  simp only
  rw [if_pos hs]
  simp [keysV, e]
/-- a block that came new is read only from now -/
theorem pin_new {m : Mem} {L : Heap} {w w' : World} {g : Nat} {o : Obj} (hW : WRel m L w) (hb : Below w.heap.size w w') (hg : w.heap.size ≤ g) (ho : w'.heap[g]? = some o) :
    WRel { m with pobj := fun x => if x = g then some o else m.pobj x } L w' ∧ Ext m L w { m with pobj := fun x => if x = g then some o else m.pobj x } L w' := by
  have hp : ∀ x o', m.pobj x = some o' → (if x = g then some o else m.pobj x) = some o' := by
    intro x o' h
    have := hW.pobj_lt h
    rw [if_neg (by omega)]; exact h
  have hm : Mono m L { m with pobj := fun x => if x = g then some o else m.pobj x } L :=
    ⟨hp, fun id cs sz ver h => ⟨cs, ver, h, Nat.le_refl _, fun _ => ⟨rfl, rfl, rfl⟩⟩, fun id r h => ⟨r, h, rfl⟩⟩
  refine ⟨⟨fun x o' h => ?_, fun id cs sz ver hL hc => ?_, fun id cs sz ver hL hc => hW.nils id cs sz ver hL hc, fun id r hL => ?_, fun i j hi hj e => hW.inj i j hi hj e, fun id ho' => ?_⟩, ?_⟩
  · simp only at h
    split at h
    · rename_i e; subst e; rw [ho]; exact h
    · rw [hb.block _ (hW.pobj_lt h)]; exact hW.pobjs _ _ h
  · obtain ⟨us, rest, elem, lo, hi, h1, h2, h3, h4⟩ := hW.rows id cs sz ver hL hc
    have hlt : m.blk id < w.heap.size := hW.blk_lt (.inl ⟨_, _, _, hL, hc⟩)
    exact ⟨us, rest, elem, lo, hi, by rw [hb.block _ hlt]; exact h1, CRel.mono hm _ _ h2, h3, h4⟩
  · obtain ⟨o', h1, h2⟩ := hW.iters id r hL
    have hlt : m.blk id < w.heap.size := hW.blk_lt (.inr ⟨_, hL⟩)
    exact ⟨o', by rw [hb.block _ hlt]; exact h1, h2⟩
  · have hlt : m.blk id < w.heap.size := hW.blk_lt ho'
    simp only
    rw [if_neg (by omega)]
    exact hW.freeo id ho'
  · exact ⟨fun x hx _ => hb.block x hx, hb.size, fun x hx => by simp only; rw [if_neg (by omega)], fun id h => .inl ⟨h, rfl⟩, Nat.le_refl _, hm, ⟨hb.os, hb.tape, hb.output⟩⟩
theorem names_sorted {ss : List (List UInt8)} (h : ss.Perm names) : ss.mergeSort (fun x y => decide (x ≤ y)) = names := by
  rw [mergeSort_of_perm h]
  exact List.mergeSort_of_pairwise (by decide)
theorem crel_enc (m : Mem) (L : Heap) : ∀ ss : List (List UInt8), CRel m L (ss.map .str) (ss.map encStr)
  | [] => CRel.nil _ _
  | s :: ss => CRel.cons (by simp [VRel, encStr]) (crel_enc m L ss)
theorem con32 : Con Try.prog 32 sortedS where
  quiet _ _ _ := rfl
  runs := .inl ⟨⟨Try.f32, by kernel_rfl, rfl, by kernel_rfl⟩, fun m L w xs vs hW hx hp => by
    simp only [sortedS, sortedP] at hp
    split at hp
    · rename_i g c v o
      obtain ⟨rfl, rfl, hL⟩ := hp
      simp only [CRel, VRel] at hx
      obtain ⟨u, vs, rfl, ⟨us, vs', rfl, rfl, ⟨u2, us2, rfl, hr, rfl⟩⟩, rfl⟩ := hx
      have hu : u2 = .pointer (some ⟨m.blk c, 0, none⟩) := by
        rcases hr with ⟨cs, sz, v', h1, h2, h3, h4⟩ | ⟨r, h1, _⟩
        · rw [hL] at h1
          simp only [Option.some.injEq, AObj.row.injEq] at h1
          exact h4 h1.2.2.symm
        · rw [hL] at h1; cases h1
      subst hu
      have hcap : m.cap c ≠ 0 := fun h0 => by have := hW.nils _ _ _ _ hL h0; cases this
      obtain ⟨us, rest, elem, lo, hi, hb, hc, hl, _⟩ := hW.rows _ _ _ _ hL hcap
      simp only [CRel, VRel] at hc
      obtain ⟨u, us', rfl, ⟨mb, es, clock, rfl, hpo, hM⟩, rfl⟩ := hc
      have hmap := hW.pobjs _ _ hpo
      have hblk : m.blk c < w.heap.size := hW.blk_lt (.inl ⟨_, _, _, hL, hcap⟩)
      have hcell : w.cell? ⟨m.blk c, 0, none⟩ = some (.map (some mb)) := by simp [World.cell?, hb]
      obtain ⟨hperm, hkeys⟩ := keys_perm hM.rel
      have hlen : es.toList.length = 10 := by have := hperm.length_eq; simpa [names] using this
      let R : Value → Option (DataW Unit × List MemPlace) := fun _ => some (.nil, [])
      have hrd : ∀ x ∈ es.toList, WideElems.rd Try.prog 9 R x = some (.string (keysV x), .nil) := fun x hx => by simp [WideElems.rd, key_reads x (hkeys x hx), R]
      have hrg : ∀ x ∈ es.toList, WideElems.rg Try.prog 9 R x = (.string (keysV x), .nil) := fun x hx => by simp [WideElems.rg, hrd x hx]
      have hown : w.ownsMap Try.prog 9 R mb es.size (.map ((es.toList.map (WideElems.rg Try.prog 9 R)).foldr DataW.insert [])) :=
        ⟨es, clock, hmap, ⟨by simp at hlen; simp only [maxLen]; omega, ⟨hM.st.1, hM.st.2, hM.rel.nodup⟩, fun x hx => ⟨_, hrd x hx⟩⟩, Nat.le_refl _, rfl⟩
      have hD : (strKeys (.map ((es.toList.map (WideElems.rg Try.prog 9 R)).foldr DataW.insert []) : DataW Unit)).Perm names := by
        refine List.Perm.trans ?_ hperm
        simp only [strKeys]
        refine ((WideShapes.sorted_perm _).map _).trans ?_
        rw [List.map_map]
        have : es.toList.map ((fun p => Go.strOf p.1) ∘ WideElems.rg Try.prog 9 R) = es.toList.map keysV := List.map_congr_left fun x hx => by simp [hrg x hx, Go.strOf]
        rw [this]
      have hsz : Maps.size (.map ((es.toList.map (WideElems.rg Try.prog 9 R)).foldr DataW.insert []) : DataW Unit) = 10 := by
        have := hD.length_eq
        simpa [strKeys, Maps.size, names] using this
      have hseq : SeqGives Fence.wide 2 Try.prog 38 #[.pointer (some ⟨m.blk c, 0, none⟩)] encStr (fun ss => ss.Perm (strKeys (.map ((es.toList.map (WideElems.rg Try.prog 9 R)).foldr DataW.insert []) : DataW Unit))) (Maps.size (.map ((es.toList.map (WideElems.rg Try.prog 9 R)).foldr DataW.insert []) : DataW Unit)) w :=
        AnyZ.keys_gives (ρ := Try.keys33_ren) { Try.keys33 with } Fence.wide _ trivial rfl (by omega) (m.blk c) mb es.size _ w hblk hcell hown
      have hcall := callsIn_wide.1 (AnyZ.sorted_in Try.sorted32 Fence.wide 5 trivial trivial trivial trivial rfl (by omega) (Try.sorts32 _) (enters_of Try.func37 (by kernel_rfl) rfl) 38 #[.pointer (some ⟨m.blk c, 0, none⟩)] trivial (enters_of Try.func38 (by kernel_rfl) rfl) _ _ (by rw [hsz]; decide) (by rw [hsz]; decide) w hseq)
      refine hcall.mono ?_
      rintro e w' ⟨v, ss, rfl, hS, hrow, hnil, hbel⟩
      rw [names_sorted (hS.trans hD)] at hrow
      have hsl : ss.length = 10 := by have := (hS.trans hD).length_eq; simpa [names] using this
      rw [hsl] at hrow
      obtain ⟨_, hrow⟩ := hrow
      rcases hrow with ⟨_, h0⟩ | ⟨gb, cap, cur, rfl, hg, hcur, hn, _, hcs, htake⟩
      · cases h0
      obtain ⟨k1, k2⟩ := pin_new hW hbel hg hcur
      refine ⟨_, _, rfl, ?_, k1, k2⟩
      simp only [sortedS, VRel]
      refine ⟨_, cap, rfl, hn, names.map encStr, ?_, .inr ⟨gb, 0, rfl, fun i v hi => ?_⟩⟩
      · exact crel_enc _ _ _
      · rw [← htake, List.getElem?_take] at hi
        split at hi
        · simp only [Mem.pin, if_pos, Nat.zero_add]
          simpa using hi
        · cases hi
    · exact hp.elim⟩
end Go.Proofs.Ytkglmlfkcmpbbaa.lineDone
