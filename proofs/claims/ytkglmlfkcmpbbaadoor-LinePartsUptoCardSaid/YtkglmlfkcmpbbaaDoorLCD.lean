/- Of lines: the commands' names, in order. No conditions. -/
import Derived.Test.YtkglmlfkcmpbbaaDoorLDA
import Derived.Test.YtkglmlfkcmpbbaaDoorEng15
import Derived.Test.YtkglmlfkcmpbbaaDoorIter
import Derived.Maps.Own
namespace Go.Proofs.YtkglmlfkcmpbbaaDoor.lineDone
open Go Go.Eng Go.Proofs Go.Lines Go.RowKit Go.Maps Go.Sort Go.Shelf
set_option linter.unusedVariables false
set_option linter.unusedSimpArgs false
/-- the commands' names, in order -/
def names : List (List UInt8) := [[97, 100, 100], [99, 111, 112, 121], [100, 101, 108, 101, 116, 101], [100, 105, 114], [102, 114, 101, 101], [112, 117, 116], [114, 101, 110, 97, 109, 101], [114, 117, 110], [115, 104, 111, 119], [115, 105, 122, 101]]
theorem names_cmd (w : List UInt8) : w ∈ names ↔ cmd w ≠ none := by
  simp only [names, List.mem_cons, List.not_mem_nil, or_false, cmd]
  constructor
  · rintro (rfl | rfl | rfl | rfl | rfl | rfl | rfl | rfl | rfl | rfl) <;> decide
  · intro h
    split at h
    · rename_i h'; rcases h' with rfl | rfl <;> simp
    split at h
    · rename_i h'; rcases h' with rfl | rfl | rfl | rfl <;> simp
    split at h
    · rename_i h'; rcases h' with rfl | rfl <;> simp
    split at h
    · rename_i h'; rcases h' with rfl | rfl <;> simp
    · exact absurd rfl h
theorem names_nodup : names.Nodup := by decide
theorem cmdF_key {k : Key} {v : Value} (h : cmdF k = some v) : ∃ w, k = .s w ∧ w ∈ names := by
  cases k with
  | s w =>
    refine ⟨w, rfl, (names_cmd w).2 fun hc => ?_⟩
    rw [cmdF_eq, hc] at h; cases h
  | _ => simp [cmdF, updK, noK] at h
theorem cmdF_name {w : List UInt8} (h : w ∈ names) : ∃ v, cmdF (.s w) = some v := by
  have := (names_cmd w).1 h
  rw [cmdF_eq]
  cases hc : cmd w with
  | none => exact absurd hc this
  | some p => exact ⟨_, rfl⟩
def keysV (x : MapEntry) : List UInt8 := match x.key with
  | .string s => s.data.toList
  | _ => []
/-- the entries' keys are the names -/
theorem keys_perm {es : List MapEntry} (h : MRel none cmdF es) : (es.map keysV).Perm names ∧ ∀ x ∈ es, ∃ w ∈ names, x.key = .string ⟨w.toArray⟩ := by
  have hk : ∀ x ∈ es, ∃ w ∈ names, x.key = .string ⟨w.toArray⟩ := by
    intro x hx
    obtain ⟨k, h1, h2⟩ := h.ent x hx
    obtain ⟨w, rfl, hw⟩ := cmdF_key h2
    exact ⟨w, hw, h1⟩
  have hkv : ∀ x ∈ es, x.key = .string ⟨(keysV x).toArray⟩ := by
    intro x hx
    obtain ⟨w, _, e⟩ := hk x hx
    simp [keysV, e]
  refine ⟨(List.perm_ext_iff_of_nodup ?_ names_nodup).2 fun w => ?_, hk⟩
  · have hnd := h.nodup
    have e : es.map (·.key) = (es.map keysV).map (fun w => Value.string ⟨w.toArray⟩) := by
      rw [List.map_map]
      exact List.map_congr_left fun x hx => hkv x hx
    rw [e] at hnd
    exact List.Pairwise.of_map _ (fun a b h e => h (by rw [e])) hnd
  · constructor
    · intro hw
      obtain ⟨x, hx, rfl⟩ := List.mem_map.1 hw
      obtain ⟨w, hw, e⟩ := hk x hx
      have := (hkv x hx).symm.trans e
      simp at this
      rw [this]; exact hw
    · intro hw
      obtain ⟨v, hv⟩ := cmdF_name hw
      obtain ⟨_, e, he, h2⟩ := h.has _ _ hv
      refine List.mem_map.2 ⟨e, he, ?_⟩
      have := (hkv e he).symm.trans h2
      simp [Key.val] at this
      exact this
def sortedP (xs : List AV) (L : Heap) : Prop := match xs with
  | [.fn (.func g) [] [.ref c v o]] => g = 24 ∧ o = 0 ∧ L[c]? = some (.row [.mpr none cmdF] 1 v)
  | _ => False
/-- slices.Sorted at what maps.Keys handed back of the commands -/
def sortedS : FSpec where
  pre xs L := sortedP xs L
  res _ L := .msl L.length 0 0 10
  post _ L := L ++ [.row (names.map .str) 1 0]
  quiet := false
theorem key_reads (x : MapEntry) (h : ∃ w ∈ names, x.key = .string ⟨w.toArray⟩) : keyOf Tryd.prog 9 x.key = some (.string (keysV x)) := by
  obtain ⟨w, hw, e⟩ := h
  have hl : w.length ≤ 6 := by
    have : ∀ w ∈ names, w.length ≤ 6 := by decide
    exact this w hw
  rw [keyOf_string Tryd.underlying9, e]
  have hs : (⟨w.toArray⟩ : ByteArray).size ≤ maxLen := by
    have : (⟨w.toArray⟩ : ByteArray).size = w.length := by simp [ByteArray.size]
    rw [this]; simp only [maxLen]; omega
  unfold mapKey
  rw [Tryd.underlying9]
  simp only
  rw [if_pos hs]
  simp [keysV, e]
/-- a new object, whose claim on the world is given -/
theorem push_at {m : Mem} {L : Heap} {w w' : World} (hW : WRel m L w) {x : AObj} {c : Nat} (gb : Nat) (hgb : w.heap.size ≤ gb) (hk : Keep w w')
    (hrow : ∀ cs sz ver, x = .row cs sz ver → c ≠ 0 → ∃ us rest elem lo hi, w'.heap[gb]? = some (.cells (us ++ rest).toArray elem (lo, hi)) ∧ CRel m L cs us ∧ us.length + rest.length = c * sz ∧ (hi ≤ lo ∨ c * sz ≤ lo))
    (hnil : ∀ cs sz ver, x = .row cs sz ver → c = 0 → cs = []) (hiter : ∀ r, x = .raw r → ∃ o, w'.heap[gb]? = some o ∧ RawRel r o) :
    WRel (m.put L.length gb c) (L ++ [x]) w' := by
  have M : Mono m L (m.put L.length gb c) (L ++ [x]) := mono_push x _ _
  have hlive : ∀ i, Own (m.put L.length gb c) (L ++ [x]) i → (m.put L.length gb c).blk i = gb ∧ i = L.length ∨ (m.put L.length gb c).blk i = m.blk i ∧ Own m L i ∧ m.blk i < w.heap.size := by
    intro i hi
    rcases own_append hi with ⟨h, hne⟩ | h
    · exact .inr ⟨by simp [Mem.put, hne], h, hW.blk_lt h⟩
    · exact .inl ⟨by simp [Mem.put, h], h⟩
  have hold : ∀ {id : Nat} {o : AObj}, (L ++ [x])[id]? = some o → id ≠ L.length → L[id]? = some o := by
    intro id o hL hid
    have hlt : id < L.length := by
      have := (List.getElem?_eq_some_iff.1 hL).1
      simp at this; omega
    rwa [List.getElem?_append_left hlt] at hL
  refine ⟨fun g o hpin => ?_, fun id cs' sz' ver' hL hcap => ?_, fun id cs' sz' ver' hL hcap => ?_, fun id r hL => ?_, fun i j hi hj he => ?_, fun id hl => ?_⟩
  · rw [hk.old _ (hW.pobj_lt hpin)]; exact hW.pobjs g o hpin
  · by_cases hid : id = L.length
    · subst hid
      simp at hL
      simp [Mem.put] at hcap
      obtain ⟨us, rest, elem, lo, hi, h1, h2, h3, h4⟩ := hrow _ _ _ hL hcap
      exact ⟨us, rest, elem, lo, hi, by simp [Mem.put, h1], CRel.mono M _ _ h2, by simpa [Mem.put] using h3, by simpa [Mem.put] using h4⟩
    · have hL' := hold hL hid
      simp [Mem.put, hid] at hcap
      obtain ⟨us', rest', elem', lo', hi', h1, h2, h3, h4⟩ := hW.rows _ _ _ _ hL' hcap
      have hb := hW.blk_lt (id := id) (.inl ⟨_, _, _, hL', hcap⟩)
      refine ⟨us', rest', elem', lo', hi', ?_, CRel.mono M _ _ h2, ?_, ?_⟩
      · simp only [Mem.put, hid, if_false]; rw [hk.old _ hb]; exact h1
      · simpa [Mem.put, hid] using h3
      · simpa [Mem.put, hid] using h4
  · by_cases hid : id = L.length
    · subst hid
      simp at hL
      simp [Mem.put] at hcap
      exact hnil _ _ _ hL hcap
    · simp [Mem.put, hid] at hcap
      exact hW.nils _ _ _ _ (hold hL hid) hcap
  · by_cases hid : id = L.length
    · subst hid; simp at hL; simpa [Mem.put] using hiter _ hL
    · have hL' := hold hL hid
      have hb := hW.blk_lt (id := id) (.inr ⟨_, hL'⟩)
      simp only [Mem.put, hid, if_false]; rw [hk.old _ hb]; exact hW.iters _ _ hL'
  · rcases hlive i hi with ⟨h1, h2⟩ | ⟨h1, h2, h3⟩ <;> rcases hlive j hj with ⟨k1, k2⟩ | ⟨k1, k2, k3⟩
    · omega
    · omega
    · omega
    · exact hW.inj i j h2 k2 (by omega)
  · rcases hlive id hl with ⟨h1, h2⟩ | ⟨h1, h2, h3⟩
    · rw [h1]
      cases hpo : m.pobj gb with
      | none => exact hpo
      | some v => have := hW.pobj_lt hpo; omega
    · rw [h1]; exact hW.freeo id h2
theorem ext_push_at {m : Mem} {L : Heap} {w w' : World} (gb : Nat) (hgb : w.heap.size ≤ gb) (x : AObj) (c : Nat) (hk : Keep w w') : Ext m L w (m.put L.length gb c) (L ++ [x]) w' where
  frame g hg _ := hk.old g hg
  size := hk.size
  newobj _ _ := rfl
  blks id hl := by
    rcases own_append hl with ⟨h, hne⟩ | h
    · exact .inl ⟨h, by simp [Mem.put, hne]⟩
    · exact .inr (by simp [Mem.put, h, hgb])
  len := by simp
  mono := mono_push x _ _
  same := hk.same
theorem names_sorted {ss : List (List UInt8)} (h : ss.Perm names) : ss.mergeSort (fun x y => decide (x ≤ y)) = names := by
  rw [mergeSort_of_perm h]
  exact List.mergeSort_of_pairwise (by decide)
theorem crel_enc (m : Mem) (L : Heap) : ∀ ss : List (List UInt8), CRel m L (ss.map .str) (ss.map encStr)
  | [] => CRel.nil _ _
  | s :: ss => CRel.cons (by simp [VRel, encStr]) (crel_enc m L ss)
theorem con17 : Con Tryd.prog 17 sortedS where
  quiet h := by cases h
  runs := .inl ⟨⟨Tryd.f17, by kernel_rfl, rfl, by kernel_rfl⟩, fun m L w xs vs hW hx hp => by
    simp only [sortedS, sortedP] at hp
    split at hp
    · rename_i g c v o
      obtain ⟨rfl, rfl, hL⟩ := hp
      simp only [CRel, VRel] at hx
      obtain ⟨u, vs, rfl, ⟨us, vs', rfl, rfl, ⟨u2, us2, rfl, hr, rfl⟩⟩, rfl⟩ := hx
      have hu : u2 = .pointer (some ⟨m.blk c, 0, none⟩) := by
        rcases hr with ⟨cs, sz, v', h1, h2, h3, h4⟩ | ⟨r, h1, _⟩
        · rw [hL] at h1
          simp only [Option.some.injEq, AObj.row.injEq] at h1
          exact h4 h1.2.2.symm
        · rw [hL] at h1; cases h1
      subst hu
      have hcap : m.cap c ≠ 0 := fun h0 => by have := hW.nils _ _ _ _ hL h0; cases this
      obtain ⟨us, rest, elem, lo, hi, hb, hc, hl, _⟩ := hW.rows _ _ _ _ hL hcap
      simp only [CRel, VRel] at hc
      obtain ⟨u, us', rfl, ⟨mb, es, clock, rfl, hpo, hM⟩, rfl⟩ := hc
      have hmap := hW.pobjs _ _ hpo
      have hblk : m.blk c < w.heap.size := hW.blk_lt (.inl ⟨_, _, _, hL, hcap⟩)
      have hcell : w.cell? ⟨m.blk c, 0, none⟩ = some (.map (some mb)) := by simp [World.cell?, hb]
      obtain ⟨hperm, hkeys⟩ := keys_perm hM.rel
      have hlen : es.toList.length = 10 := by have := hperm.length_eq; simpa [names] using this
      let R : Value → Option (DataW Unit × List MemPlace) := fun _ => some (.nil, [])
      have hrd : ∀ x ∈ es.toList, WideElems.rd Tryd.prog 9 R x = some (.string (keysV x), .nil) := fun x hx => by simp [WideElems.rd, key_reads x (hkeys x hx), R]
      have hrg : ∀ x ∈ es.toList, WideElems.rg Tryd.prog 9 R x = (.string (keysV x), .nil) := fun x hx => by simp [WideElems.rg, hrd x hx]
      have hown : w.ownsMap Tryd.prog 9 R mb es.size (.map ((es.toList.map (WideElems.rg Tryd.prog 9 R)).foldr DataW.insert [])) :=
        ⟨es, clock, hmap, ⟨by simp at hlen; simp only [maxLen]; omega, ⟨hM.st.1, hM.st.2, hM.rel.nodup⟩, fun x hx => ⟨_, hrd x hx⟩⟩, Nat.le_refl _, rfl⟩
      have hD : (strKeys (.map ((es.toList.map (WideElems.rg Tryd.prog 9 R)).foldr DataW.insert []) : DataW Unit)).Perm names := by
        refine List.Perm.trans ?_ hperm
        simp only [strKeys]
        refine ((WideShapes.sorted_perm _).map _).trans ?_
        rw [List.map_map]
        have : es.toList.map ((fun p => Go.strOf p.1) ∘ WideElems.rg Tryd.prog 9 R) = es.toList.map keysV := List.map_congr_left fun x hx => by simp [hrg x hx, Go.strOf]
        rw [this]
      have hsz : Maps.size (.map ((es.toList.map (WideElems.rg Tryd.prog 9 R)).foldr DataW.insert []) : DataW Unit) = 10 := by
        have := hD.length_eq
        simpa [strKeys, Maps.size, names] using this
      have hseq : SeqGives Fence.wide 2 Tryd.prog 24 #[.pointer (some ⟨m.blk c, 0, none⟩)] encStr (fun ss => ss.Perm (strKeys (.map ((es.toList.map (WideElems.rg Tryd.prog 9 R)).foldr DataW.insert []) : DataW Unit))) (Maps.size (.map ((es.toList.map (WideElems.rg Tryd.prog 9 R)).foldr DataW.insert []) : DataW Unit)) w :=
        AnyZ.keys_gives (ρ := Tryd.keys18_ren) { Tryd.keys18 with } Fence.wide _ trivial rfl (by omega) (m.blk c) mb es.size _ w hblk hcell hown
      have hcall := callsIn_wide.1 (AnyZ.sorted_in Tryd.sorted17 Fence.wide 5 trivial trivial trivial trivial rfl (by omega) (Tryd.sorts17 _) (enters_of Tryd.func23 (by kernel_rfl) rfl) 24 #[.pointer (some ⟨m.blk c, 0, none⟩)] trivial (enters_of Tryd.func24 (by kernel_rfl) rfl) _ _ (by rw [hsz]; decide) (by rw [hsz]; decide) w hseq)
      refine hcall.mono ?_
      rintro e w' ⟨v, ss, rfl, hS, hrow, hnil, hbel⟩
      rw [names_sorted (hS.trans hD)] at hrow
      have hsl : ss.length = 10 := by have := (hS.trans hD).length_eq; simpa [names] using this
      rw [hsl] at hrow
      obtain ⟨_, hrow⟩ := hrow
      rcases hrow with ⟨_, h0⟩ | ⟨gb, cap, cur, rfl, hg, hcur, hn, _, hcs, htake⟩
      · cases h0
      have hkeep : Keep w w' := ⟨fun g hg => hbel.block g hg, hbel.size, ⟨hbel.os, hbel.tape, hbel.output⟩⟩
      have hcl : cur.toList = names.map encStr ++ cur.toList.drop 10 := by rw [← htake]; exact (List.take_append_drop 10 cur.toList).symm
      have hcl2 : (names.map encStr).length = 10 := rfl
      have hcap0 : cap ≠ 0 := by omega
      have hW' : WRel (m.put L.length gb cap) (L ++ [.row (names.map .str) 1 0]) w' := by
        refine push_at hW gb hg hkeep (fun cs sz ver he _ => ?_) (fun cs sz ver he h0 => absurd h0 hcap0) (fun r he => by cases he)
        cases he
        refine ⟨names.map encStr, cur.toList.drop 10, 9, 0, 0, ?_, crel_enc _ _ _, ?_, .inl (Nat.le_refl _)⟩
        · rw [hcur, ← hcl, Array.toArray_toList]; rfl
        · have := congrArg List.length hcl
          rw [List.length_append] at this
          have h2 : cur.toList.length = cap * 1 := by simpa using hcs
          omega
      refine ⟨_, _, rfl, ?_, hW', ext_push_at gb hg _ _ hkeep⟩
      simp only [sortedS, VRel]
      refine ⟨names.map .str, 1, 0, by simp, Nat.le_refl _, ⟨_, _, _, rfl⟩, fun _ => ⟨Nat.le_refl _, by simpa [Mem.put] using hn, _, by simp [Mem.put]; rfl, .inr (by simp [Mem.put])⟩⟩
    · exact hp.elim⟩
end Go.Proofs.YtkglmlfkcmpbbaaDoor.lineDone
