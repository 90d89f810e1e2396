/- Of the model of a workstation: the program's Files: its map's names, in order, each with its text. Conditions stand in each. -/
import Derived.Test.YtenopfmafecffaaGreatDoorMpL
import Derived.Test.YtenopfmafecffaaGreatDoorEF
import Derived.Test.YtenopfmafecffaaGreatDoorIter2
import Derived.Maps.Own
namespace Go.Proofs.YtenopfmafecffaaGreatDoor.modelDone
open Go Go.Eng Go.Proofs Go.Mdl Go.RowKit Go.Maps Go.Sort Go.Shelf
set_option linter.unusedVariables false
set_option linter.unusedSimpArgs false
set_option maxRecDepth 100000
set_option maxHeartbeats 4000000
def namesF (A : Fs) : List Bytes := A.map Prod.fst
def keysV (x : MapEntry) : Bytes := match x.key with
  | .string s => s.data.toList
  | _ => []
/-- the entries' keys are the names -/
theorem keys_perm {A : Fs} (hs : sorted A) {es : List MapEntry} (h : MRel none (mapF A) es) : (es.map keysV).Perm (namesF A) ∧ ∀ x ∈ es, ∃ w ∈ namesF A, x.key = .string ⟨w.toArray⟩ := by
  have hk : ∀ x ∈ es, ∃ w ∈ namesF A, x.key = .string ⟨w.toArray⟩ := by
    intro x hx
    obtain ⟨k, h1, h2⟩ := h.ent x hx
    cases k with
    | i a b => cases h2
    | s n =>
      rw [mapF_s] at h2
      refine ⟨n, (lookup_mem n).1 ?_, h1⟩
      cases hl : A.lookup n with
      | none => rw [hl] at h2; cases h2
      | some d => rfl
  have hkv : ∀ x ∈ es, x.key = .string ⟨(keysV x).toArray⟩ := by
    intro x hx
    obtain ⟨w, _, e⟩ := hk x hx
    simp [keysV, e]
  refine ⟨(List.perm_ext_iff_of_nodup ?_ (sorted_nodup hs)).2 fun w => ?_, hk⟩
  · have hnd := h.nodup
    have e : es.map (·.key) = (es.map keysV).map (fun w => Value.string ⟨w.toArray⟩) := by
      rw [List.map_map]
      exact List.map_congr_left fun x hx => hkv x hx
    rw [e] at hnd
    exact List.Pairwise.of_map _ (fun a b h e => h (by rw [e])) hnd
  · constructor
    · intro hw
      obtain ⟨x, hx, rfl⟩ := List.mem_map.1 hw
      obtain ⟨w, hw, e⟩ := hk x hx
      have := (hkv x hx).symm.trans e
      simp at this
      rw [this]; exact hw
    · intro hw
      have hl := (lookup_mem w).2 hw
      obtain ⟨d, hd⟩ := Option.isSome_iff_exists.1 hl
      obtain ⟨_, e, he, h2⟩ := h.has (.s w) (vS d) (by rw [mapF_s, hd]; rfl)
      refine List.mem_map.2 ⟨e, he, ?_⟩
      have := (hkv e he).symm.trans h2
      simp [Key.val] at this
      exact this
theorem names_sorted {A : Fs} (hs : sorted A) {ss : List Bytes} (h : ss.Perm (namesF A)) : ss.mergeSort (fun x y => decide (x ≤ y)) = namesF A := by
  rw [mergeSort_of_perm h]
  refine List.mergeSort_of_pairwise ?_
  rw [namesF, List.pairwise_map]
  exact hs.imp fun h => by simpa using fun h' => ltI _ (ltT h h')
theorem key_reads (x : MapEntry) (h : ∃ w : Bytes, w.length ≤ 100 ∧ x.key = .string ⟨w.toArray⟩) : keyOf Tryz.prog 9 x.key = some (.string (keysV x)) := by
  obtain ⟨w, hl, e⟩ := h
  rw [keyOf_string Tryz.underlying9, e]
  have hs : (⟨w.toArray⟩ : ByteArray).size ≤ maxLen := by
    have : (⟨w.toArray⟩ : ByteArray).size = w.length := by simp [ByteArray.size]
    rw [this]; simp only [maxLen]; omega
  unfold mapKey
  rw [Tryz.underlying9]
  simp only
  rw [if_pos hs]
  simp [keysV, e]
theorem crel_enc (m : Mem) (L : Heap) : ∀ ss : List (List UInt8), CRel m L (ss.map .str) (ss.map encStr)
  | [] => CRel.nil _ _
  | s :: ss => CRel.cons (by simp [VRel, encStr]) (crel_enc m L ss)
noncomputable section
def e42 : (Key → Option Value) → List AV × Heap := fun f => ([.mp 0], [.raw (.map none f)])
def p42 : (Key → Option Value) → Prop := fun f => True
def r42 : (Key → Option Value) → AV := fun f => .fn (.func 73) [] [.ref 1 0 0]
def g42 : (Key → Option Value) → Heap := fun f => [.raw (.map none f), .row [.mp 0] 1 0]
theorem inj42 : ∀ a b, e42 a = e42 b → a = b := by
  rintro f f' h
  simp only [e42, mi_iff, ms_iff, mb_iff, my_iff, UInt8.toNat_inj, AObj.raw.injEq, Raw.map.injEq, Prod.mk.injEq, List.cons.injEq, AObj.row.injEq, AV.int.injEq, AV.str.injEq, AV.bool.injEq, AV.sl.injEq, AV.agg.injEq, AV.ip.injEq, AV.fn.injEq, AV.ifc.injEq, AV.mpr.injEq, AV.msl.injEq, AV.ref.injEq, Int.natCast_inj, and_true, true_and] at h
  simp_all only
noncomputable def S42 : FSpec := heapF e42 p42 r42 g42
theorem ps42 (f : (Key → Option Value)) : pselK e42 p42 ([.mp 0], [.raw (.map none f)]) = (True) := pselK_at inj42 p42 f
theorem rs42 (f : (Key → Option Value)) : rselK e42 r42 .any ([.mp 0], [.raw (.map none f)]) = (.fn (.func 73) [] [.ref 1 0 0]) := rselK_at inj42 r42 .any f
theorem hs42 (f : (Key → Option Value)) : rselK e42 g42 [] ([.mp 0], [.raw (.map none f)]) = ([.raw (.map none f), .row [.mp 0] 1 0]) := rselK_at inj42 g42 [] f
attribute [push_cast] S42 ps42 rs42 hs42
theorem body42 (Γ : Env) (f : Key → Option Value) : BodyOk Tryz.prog Γ Tryz.f42 [.mp 0] [.raw (.map none f)] (.fn (.func 73) [] [.ref 1 0 0]) [.raw (.map none f), .row [.mp 0] 1 0] := by
  (intro X hP hΓ hL hfin; refine ⟨_, rfl, ?_⟩; rw [show Tryz.f42.ntmps = 4 from rfl]; rw [show Tryz.f42.results.toList = [.tmp 2] from rfl] at hfin; apply holds_of_ex X 400; simp (maxSteps := 1000000) only [push_cast, reduceCtorEq, Nat.reduceAdd, Nat.reduceMul, Nat.reduceSub, Nat.reduceBEq, Nat.reduceGT, Nat.reduceLT, Int.toNat_zero, Nat.reduceLeDiff, Int.reduceEq, Int.reduceLT, Int.reduceLE, hP, hΓ, hL, hfin, String.reduceEq, not_false_eq_true, if_true, Int.toNat_one])
  exact Into.sameA
theorem con42 {Γ : Env} (h : EnvOk Tryz.prog Γ)  : Con Tryz.prog 42 S42 :=
  heapF_con h (fn := Tryz.f42) (by kernel_rfl) rfl (by kernel_rfl) inj42 fun f _ => body42 Γ f
def e41 : (Key → Option Value) → List AV × Heap := fun f => ([.fn (.func 73) [] [.ref 0 0 0]], [.row [.mp 1] 1 0, .raw (.map none f)])
def p41 : (Key → Option Value) → Prop := fun f => okF (fsOf f) ∧ mapF (fsOf f) = f
def r41 : (Key → Option Value) → AV := fun f => .msl 2 0 0 (fsOf f).length
def g41 : (Key → Option Value) → Heap := fun f => [.row [.mp 1] 1 0, .raw (.map none f), .row ((namesF (fsOf f)).map .str) 1 0]
theorem inj41 : ∀ a b, e41 a = e41 b → a = b := by
  rintro f f' h
  simp only [e41, mi_iff, ms_iff, mb_iff, my_iff, UInt8.toNat_inj, AObj.raw.injEq, Raw.map.injEq, Prod.mk.injEq, List.cons.injEq, AObj.row.injEq, AV.int.injEq, AV.str.injEq, AV.bool.injEq, AV.sl.injEq, AV.agg.injEq, AV.ip.injEq, AV.fn.injEq, AV.ifc.injEq, AV.mpr.injEq, AV.msl.injEq, AV.ref.injEq, Int.natCast_inj, and_true, true_and] at h
  simp_all only
noncomputable def S41 : FSpec := heapF e41 p41 r41 g41
theorem ps41 (f : (Key → Option Value)) : pselK e41 p41 ([.fn (.func 73) [] [.ref 0 0 0]], [.row [.mp 1] 1 0, .raw (.map none f)]) = (okF (fsOf f) ∧ mapF (fsOf f) = f) := pselK_at inj41 p41 f
theorem rs41 (f : (Key → Option Value)) : rselK e41 r41 .any ([.fn (.func 73) [] [.ref 0 0 0]], [.row [.mp 1] 1 0, .raw (.map none f)]) = (.msl 2 0 0 (fsOf f).length) := rselK_at inj41 r41 .any f
theorem hs41 (f : (Key → Option Value)) : rselK e41 g41 [] ([.fn (.func 73) [] [.ref 0 0 0]], [.row [.mp 1] 1 0, .raw (.map none f)]) = ([.row [.mp 1] 1 0, .raw (.map none f), .row ((namesF (fsOf f)).map .str) 1 0]) := rselK_at inj41 g41 [] f
attribute [push_cast] S41 ps41 rs41 hs41
theorem con41 : Con Tryz.prog 41 S41 := by
  refine Con.liftH ⟨_, Tryz.func41, by kernel_rfl, by kernel_rfl⟩ ?_
  intro m L w xs vs hW hx hp
  obtain ⟨f, ha, hA, hf⟩ := hp
  have e1 : rselK e41 r41 .any (xs, L) = r41 f := by rw [ha]; exact rselK_at inj41 r41 .any f
  have e2 : rselK e41 g41 [] (xs, L) = g41 f := by rw [ha]; exact rselK_at inj41 g41 [] f
  show Calls Tryz.prog _ _ w (Post m L w (rselK e41 r41 .any (xs, L)) (rselK e41 g41 [] (xs, L)))
  rw [e1, e2]
  simp only [e41, r41, g41] at ha ⊢
  generalize fsOf f = A at *
  subst hf
  cases ha
  have hL0 : ([.row [.mp 1] 1 0, .raw (.map none (mapF A))] : Heap)[0]? = some (.row [.mp 1] 1 0) := rfl
  have hL1 : ([.row [.mp 1] 1 0, .raw (.map none (mapF A))] : Heap)[1]? = some (.raw (.map none (mapF A))) := rfl
  simp only [CRel] at hx
  obtain ⟨u, us, rfl, hu, rfl⟩ := hx
  have hu2 : u = .func (.func 73) #[] #[.pointer (some ⟨m.blk 0, 0, none⟩)] := by
    simp only [VRel, CRel] at hu
    obtain ⟨us, vs, rfl, rfl, u2, us2, rfl, hr, rfl⟩ := hu
    rcases hr with ⟨cs, sz, v', h1, h2, h3, h4⟩ | ⟨r, h1, _⟩
    · rw [hL0] at h1
      simp only [Option.some.injEq, AObj.row.injEq] at h1
      rw [h4 h1.2.2.symm]
    · rw [hL0] at h1; cases h1
  subst hu2
  have hcap : m.cap 0 ≠ 0 := fun h0 => by have := hW.nils _ _ _ _ hL0 h0; cases this
  obtain ⟨us, rest, elem, lo, hi, hb, hc, hl, _⟩ := hW.rows _ _ _ _ hL0 hcap
  simp only [CRel] at hc
  obtain ⟨u, us', rfl, hmp, rfl⟩ := hc
  have hmv := mp_val hmp
  subst hmv
  obtain ⟨ob, hmap, es, clock, rfl, hM⟩ := hW.iters 1 _ hL1
  have hcell : w.cell? ⟨m.blk 0, 0, none⟩ = some (.map (some (m.blk 1))) := by simp [World.cell?, hb]
  have hblk : m.blk 0 < w.heap.size := hW.blk_lt (.inl ⟨_, _, _, hL0, hcap⟩)
  obtain ⟨hperm, hkeys⟩ := keys_perm hA.so hM.rel
  have hkeys' : ∀ x ∈ es.toList, ∃ w : Bytes, w.length ≤ 100 ∧ x.key = .string ⟨w.toArray⟩ := fun x hx => by
    obtain ⟨w, hw, e⟩ := hkeys x hx
    obtain ⟨y, hy, rfl⟩ := List.mem_map.1 hw
    exact ⟨_, (hA.sm y hy).1, e⟩
  have hlen : es.toList.length = A.length := by have := hperm.length_eq; simpa [namesF] using this
  have hAl := hA.le
  let R : Value → Option (DataW Unit × List MemPlace) := fun _ => some (.nil, [])
  have hrd : ∀ x ∈ es.toList, WideElems.rd Tryz.prog 9 R x = some (.string (keysV x), .nil) := fun x hx => by simp [WideElems.rd, key_reads x (hkeys' x hx), R]
  have hrg : ∀ x ∈ es.toList, WideElems.rg Tryz.prog 9 R x = (.string (keysV x), .nil) := fun x hx => by simp [WideElems.rg, hrd x hx]
  have hown : w.ownsMap Tryz.prog 9 R (m.blk 1) es.size (.map ((es.toList.map (WideElems.rg Tryz.prog 9 R)).foldr DataW.insert [])) :=
    ⟨es, clock, hmap, ⟨by simp at hlen; simp only [maxLen]; omega, ⟨hM.st.1, hM.st.2, hM.rel.nodup⟩, fun x hx => ⟨_, hrd x hx⟩⟩, Nat.le_refl _, rfl⟩
  have hD : (strKeys (.map ((es.toList.map (WideElems.rg Tryz.prog 9 R)).foldr DataW.insert []) : DataW Unit)).Perm (namesF A) := by
    refine List.Perm.trans ?_ hperm
    simp only [strKeys]
    refine ((WideShapes.sorted_perm _).map _).trans ?_
    rw [List.map_map]
    have : es.toList.map ((fun p => Go.strOf p.1) ∘ WideElems.rg Tryz.prog 9 R) = es.toList.map keysV := List.map_congr_left fun x hx => by simp [hrg x hx, Go.strOf]
    rw [this]
  have hnl : (namesF A).length = A.length := by simp [namesF]
  have hsz : Maps.size (.map ((es.toList.map (WideElems.rg Tryz.prog 9 R)).foldr DataW.insert []) : DataW Unit) = A.length := by
    have := hD.length_eq
    rw [hnl] at this
    simpa [strKeys, Maps.size] using this
  have hseq : SeqGives Fence.wide 2 Tryz.prog 73 #[.pointer (some ⟨m.blk 0, 0, none⟩)] encStr (fun ss => ss.Perm (strKeys (.map ((es.toList.map (WideElems.rg Tryz.prog 9 R)).foldr DataW.insert []) : DataW Unit))) (Maps.size (.map ((es.toList.map (WideElems.rg Tryz.prog 9 R)).foldr DataW.insert []) : DataW Unit)) w :=
    AnyZ.keys_gives (ρ := Tryz.keys42_ren) { Tryz.keys42 with } Fence.wide _ trivial rfl (by omega) (m.blk 0) (m.blk 1) es.size _ w hblk hcell hown
  have hcall := callsIn_wide.1 (AnyZ.sorted_in Tryz.sorted41 Fence.wide 5 trivial trivial trivial trivial rfl (by omega) (Tryz.sorts41 _) (enters_of Tryz.func72 (by kernel_rfl) rfl) 73 #[.pointer (some ⟨m.blk 0, 0, none⟩)] trivial (enters_of Tryz.func73 (by kernel_rfl) rfl) _ _ (by rw [hsz]; simp only [maxLen]; omega) (by rw [hsz]; omega) w hseq)
  refine hcall.mono ?_
  rintro e w' ⟨v, ss, rfl, hS, hrow, hnil, hbel⟩
  rw [names_sorted hA.so (hS.trans hD)] at hrow
  have hsl : ss.length = A.length := by have := (hS.trans hD).length_eq; rw [hnl] at this; exact this
  rw [hsl] at hrow
  obtain ⟨_, hrow⟩ := hrow
  rcases hrow with ⟨rfl, h0⟩ | ⟨gb, cap, cur, rfl, hg, hcur, hn, _, hcs, htake⟩
  · have hA0 : A = [] := List.eq_nil_of_length_eq_zero h0
    subst hA0
    obtain ⟨q1, q2⟩ := claim_nil hW hbel 1
    exact ⟨_, _, rfl, new_nil 1 _, q1, q2⟩
  · by_cases hc0 : cap = 0
    · have hA0 : A = [] := List.eq_nil_of_length_eq_zero (by omega)
      exfalso
      have hss : ss = [] := List.eq_nil_of_length_eq_zero (by rw [hsl, hA0]; rfl)
      have := hnil.2 hss
      cases this
    have hcl : cur.toList = (namesF A).map encStr ++ cur.toList.drop A.length := by rw [← htake, Nat.mul_one]; exact (List.take_append_drop _ cur.toList).symm
    obtain ⟨q1, q2⟩ := claim_below (sz := 1) (c := cap) (cs := (namesF A).map .str) (us := (namesF A).map encStr) (rest := cur.toList.drop A.length) (elem := 9) (lo := 0) (hi := 0) hW hbel hg (by rw [hcur, ← hcl, Array.toArray_toList]; rfl) (crel_enc _ _ _) (by
      have := congrArg List.length hcl
      rw [List.length_append] at this
      have h2 : cur.toList.length = cap * 1 := by simpa using hcs
      omega) (.inl rfl) hc0
    refine ⟨_, _, rfl, ?_, q1, q2⟩
    exact new_msl _ _ _ _ _ (by simp [namesF]) hn
end
end Go.Proofs.YtenopfmafecffaaGreatDoor.modelDone
