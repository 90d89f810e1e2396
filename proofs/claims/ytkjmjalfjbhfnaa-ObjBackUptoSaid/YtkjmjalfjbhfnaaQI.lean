/- Of objects: a right object is read from its bytes, and what is read is written as the same bytes. Plain. Conditions stand in each. -/
import Derived.Test.YtkjmjalfjbhfnaaQH
import Derived.Test.YtkjmjalfjbhfnaaQG
namespace Go.Proofs.Ytkjmjalfjbhfnaa.objDone
open Go Go.Eng Go.Proofs
open Go.Proofs.Ytkjmjalfjbhfnaa.objNumbersDone (enc hi7 lo7 q7 duR rawU okR valR okT valT nextT m32)
set_option linter.unusedVariables false
set_option linter.unusedSimpArgs false
def M32 : Int := 4294967295
theorem anyC : Codec anyM num (fun x => 0 ≤ x ∧ x < 4294967296) := by
  have h := numC 4294967295 (by omega) (by omega)
  exact ⟨h.ok, fun pre x post hx => h.fwd pre x post ⟨hx.1, by omega⟩, fun r hr hb => by obtain ⟨a, b, c⟩ := h.bwd r hr hb; exact ⟨a, ⟨b.1, by have := b.2; simp only [anyM]; omega⟩, c⟩⟩
theorem importC : Codec importM encI (fun x => (x.name.length : Int) ≤ 20 ∧ 0 ≤ x.key ∧ x.key < 4294967296) :=
  ((textC 20 (by omega) (by omega)).seq wordC).map (fun p => (⟨p.1, p.2⟩ : Im)) (fun x => (x.name, x.key)) (fun b hb => ⟨rfl, hb, rfl⟩) (fun a ha => ⟨ha, rfl⟩)
def encT (t : Int × Bytes × Bool) : Bytes := num t.1 ++ (txt t.2.1 ++ [if t.2.2 then 1 else 0])
theorem procC : Codec procM encT (fun t => (0 ≤ t.1 ∧ t.1 < 4294967296) ∧ (t.2.1.length : Int) ≤ 20) := by
  have h := (anyC.seq ((textC 20 (by omega) (by omega)).seq (byteC 1 (by omega) (by omega)))).map (F := encT) (Q := fun t => (0 ≤ t.1 ∧ t.1 < 4294967296) ∧ (t.2.1.length : Int) ≤ 20)
    (fun p => (p.1, p.2.1, decide (p.2.2 = 1))) (fun t => (t.1, t.2.1, if t.2.2 then 1 else 0)) ?_ ?_
  · exact h
  · rintro ⟨a, s, b⟩ hb
    refine ⟨by cases b <;> rfl, ⟨hb.1, hb.2, by cases b <;> simp⟩, ?_⟩
    cases b <;> rfl
  · rintro ⟨a, s, x⟩ ⟨ha, hs, hx⟩
    refine ⟨⟨ha, hs⟩, ?_⟩
    have : x = 0 ∨ x = 1 := by simp only at hx; omega
    rcases this with rfl | rfl <;> rfl
theorem rowB_fm {α : Type} [Inhabited α] (E : α → Bytes) (xs : List α) : rowB (fun _ x => E x) xs xs.length = xs.flatMap E := by
  have key : ∀ k, k ≤ xs.length → rowB (fun _ x => E x) xs k = (xs.take k).flatMap E := by
    intro k
    induction k with
    | zero => intro _; simp [rowB]
    | succ k ih =>
      intro hk
      rw [rowB_succ, ih (by omega), List.take_succ_eq_append_getElem (by omega), List.flatMap_append]
      simp [List.getD, show k < xs.length by omega]
  rw [key _ (Nat.le_refl _), List.take_length]
theorem encNs_fm (xs : List Int) : encNs xs = num xs.length ++ xs.flatMap num := by rw [encNs, rowB_fm]
theorem descC : Codec descM encD (fun d => (0 ≤ d.ty ∧ d.ty < 4294967296) ∧ (0 ≤ d.size ∧ d.size < 4294967296) ∧ (d.tags.length : Int) ≤ 4 ∧ ∀ x ∈ d.tags, 0 ≤ x ∧ x < 4294967296) :=
  (anyC.seq (anyC.seq (rowsC anyC 4 (by omega) (by omega)))).map (fun p => (⟨p.1, p.2.1, p.2.2⟩ : Ds)) (fun d => (d.ty, d.size, d.tags)) (fun b hb => ⟨rfl, hb, by simp only [encD, encNs_fm]⟩) (fun a ha => ⟨ha, by simp only [encD, encNs_fm]⟩)
theorem fixC : Codec fixM encF (fun f => (0 ≤ f.at_ ∧ f.at_ < 4294967296) ∧ (0 ≤ f.kind ∧ f.kind ≤ 255) ∧ (0 ≤ f.m + 1 ∧ f.m + 1 ≤ 16) ∧ (0 ≤ f.n ∧ f.n < 4294967296)) :=
  (anyC.seq ((byteC 255 (by omega) (by omega)).seq ((numC 16 (by omega) (by omega)).seq anyC))).map (fun p => (⟨p.1, p.2.1, p.2.2.1 - 1, p.2.2.2⟩ : Fx)) (fun f => (f.at_, f.kind, f.m + 1, f.n))
    (fun b hb => ⟨by simp, hb, rfl⟩) (fun a ha => ⟨by simpa using ha, by simp [encF]⟩)
/-- all of an object but its magic word and its sum -/
def encO (o : Ob) : Bytes := txt o.name ++ (le4 o.key ++ (rI o.imps ++ (rW o.code ++ (encPs o o.procs ++ (num o.init ++ (encNs o.vars ++ (encNs o.shown ++ (rS o.strs ++ (rD o.descs ++ rF o.fixes)))))))))
theorem body_enc (o : Ob) : bodyO o = magic ++ encO o := by simp only [bodyO, encO, List.append_assoc]
structure Ob.fit (o : Ob) : Prop where
  name : (o.name.length : Int) ≤ 20
  key : 0 ≤ o.key ∧ o.key < 4294967296
  imps : (o.imps.length : Int) ≤ 16 ∧ ∀ x ∈ o.imps, (x.name.length : Int) ≤ 20 ∧ 0 ≤ x.key ∧ x.key < 4294967296
  code : (o.code.length : Int) ≤ 65536 ∧ ∀ x ∈ o.code, 0 ≤ x ∧ x < 4294967296
  pl : (o.procs.length : Int) ≤ 100
  nl : o.names.length = o.procs.length
  el : o.exps.length = o.procs.length
  procs : ∀ x ∈ o.procs, 0 ≤ x ∧ x < 4294967296
  names : ∀ x ∈ o.names, (x.length : Int) ≤ 20
  init : 0 ≤ o.init ∧ o.init < 4294967296
  vars : (o.vars.length : Int) ≤ 200 ∧ ∀ x ∈ o.vars, 0 ≤ x ∧ x < 4294967296
  shown : (o.shown.length : Int) ≤ 200 ∧ ∀ x ∈ o.shown, 0 ≤ x ∧ x < 4294967296
  strs : (o.strs.length : Int) ≤ 200 ∧ ∀ x ∈ o.strs, (x.length : Int) ≤ 200
  descs : (o.descs.length : Int) ≤ 200 ∧ ∀ d ∈ o.descs, (0 ≤ d.ty ∧ d.ty < 4294967296) ∧ (0 ≤ d.size ∧ d.size < 4294967296) ∧ (d.tags.length : Int) ≤ 4 ∧ ∀ x ∈ d.tags, 0 ≤ x ∧ x < 4294967296
  fixes : (o.fixes.length : Int) ≤ 65536 ∧ ∀ f ∈ o.fixes, (0 ≤ f.at_ ∧ f.at_ < 4294967296) ∧ (0 ≤ f.kind ∧ f.kind ≤ 255) ∧ (0 ≤ f.m + 1 ∧ f.m + 1 ≤ 16) ∧ (0 ≤ f.n ∧ f.n < 4294967296)
def zip3 (o : Ob) : List (Int × Bytes × Bool) := o.procs.zip (o.names.zip o.exps)
theorem zip3_map {o : Ob} (h1 : o.names.length = o.procs.length) (h2 : o.exps.length = o.procs.length) : ((zip3 o).map fun x => x.1) = o.procs ∧ ((zip3 o).map fun x => x.2.1) = o.names ∧ ((zip3 o).map fun x => x.2.2) = o.exps := by
  have e : ∀ {α β γ : Type} (xs : List α) (bs : List β) (cs : List γ), bs.length = xs.length → cs.length = xs.length → ((xs.zip (bs.zip cs)).map fun x => x.1) = xs ∧ ((xs.zip (bs.zip cs)).map fun x => x.2.1) = bs ∧ ((xs.zip (bs.zip cs)).map fun x => x.2.2) = cs := by
    intro α β γ xs
    induction xs with
    | nil => intro bs cs h1 h2; have := List.eq_nil_of_length_eq_zero h1; have := List.eq_nil_of_length_eq_zero h2; subst_vars; simp
    | cons a xs ih =>
      intro bs cs h1 h2
      match bs, cs, h1, h2 with
      | b :: bs, c :: cs, h1, h2 =>
        obtain ⟨i1, i2, i3⟩ := ih bs cs (by simpa using h1) (by simpa using h2)
        simp only [List.zip_cons_cons, List.map_cons, i1, i2, i3, and_self]
  exact e _ _ _ h1 h2
theorem fm_congr {α β : Type} (l : List α) (f g : α → List β) (h : ∀ a ∈ l, f a = g a) : l.flatMap f = l.flatMap g := by
  induction l with
  | nil => rfl
  | cons a l ih => rw [List.flatMap_cons, List.flatMap_cons, h a (by simp), ih fun b hb => h b (by simp [hb])]
theorem encPs_fm {o : Ob} (h1 : o.names.length = o.procs.length) (h2 : o.exps.length = o.procs.length) : encPs o o.procs = num o.procs.length ++ (zip3 o).flatMap encT := by
  rw [encPs]
  congr 1
  have hl : (zip3 o).length = o.procs.length := by simp [zip3]; omega
  have e : (zip3 o).flatMap encT = rowB (fun _ x => encT x) (zip3 o) (zip3 o).length := (rowB_fm encT _).symm
  rw [e, hl]
  simp only [rowB]
  refine fm_congr _ _ _ fun i hi => ?_
  have hi := List.mem_range.1 hi
  have g1 : (zip3 o).getD i default = (o.procs.getD i default, o.names.getD i default, o.exps.getD i default) := by
    have h3 : i < (o.names.zip o.exps).length := by simp; omega
    simp only [zip3, List.getD, List.getElem?_eq_getElem (show i < (o.procs.zip (o.names.zip o.exps)).length by simp; omega), List.getElem?_eq_getElem hi, List.getElem?_eq_getElem (show i < o.names.length by omega), List.getElem?_eq_getElem (show i < o.exps.length by omega), Option.getD_some, List.getElem_zip]
  rw [g1]
  simp only [encP, encT, List.append_assoc]
theorem textC200 : Codec (fun r => textM r 200) txt (fun s => (s.length : Int) ≤ 200) := textC 200 (by omega) (by omega)
abbrev TO := Bytes × Int × List Im × List Int × List (Int × Bytes × Bool) × Int × List Int × List Int × List Bytes × List Ds × List Fx
def toO (p : TO) : Ob := ⟨p.1, p.2.1, p.2.2.1, p.2.2.2.1, p.2.2.2.2.1.map fun x => x.1, p.2.2.2.2.1.map fun x => x.2.1, p.2.2.2.2.1.map fun x => x.2.2, p.2.2.2.2.2.1, p.2.2.2.2.2.2.1, p.2.2.2.2.2.2.2.1, p.2.2.2.2.2.2.2.2.1, p.2.2.2.2.2.2.2.2.2.1, p.2.2.2.2.2.2.2.2.2.2⟩
def ofO (o : Ob) : TO := (o.name, o.key, o.imps, o.code, zip3 o, o.init, o.vars, o.shown, o.strs, o.descs, o.fixes)
theorem zip3_toO (p : TO) : zip3 (toO p) = p.2.2.2.2.1 := by
  have : ∀ l : List (Int × Bytes × Bool), (l.map fun x => x.1).zip ((l.map fun x => x.2.1).zip (l.map fun x => x.2.2)) = l := by
    intro l
    induction l with
    | nil => rfl
    | cons a l ih => simp only [List.map_cons, List.zip_cons_cons, ih]
  exact this _
theorem mem_zip3 {o : Ob} {x : Int × Bytes × Bool} (h : x ∈ zip3 o) : x.1 ∈ o.procs ∧ x.2.1 ∈ o.names := by
  obtain ⟨a, b⟩ := List.of_mem_zip (a := x.1) (b := x.2) (show (x.1, x.2) ∈ _ from h)
  obtain ⟨b, _⟩ := List.of_mem_zip (a := x.2.1) (b := x.2.2) (show (x.2.1, x.2.2) ∈ _ from b)
  exact ⟨a, b⟩
theorem objC : Codec objM encO Ob.fit := by
  have h := ((textC 20 (by omega) (by omega)).seq (wordC.seq ((rowsC importC 16 (by omega) (by omega)).seq ((rowsC wordC 65536 (by omega) (by omega)).seq ((rowsC procC 100 (by omega) (by omega)).seq (anyC.seq ((rowsC anyC 200 (by omega) (by omega)).seq ((rowsC anyC 200 (by omega) (by omega)).seq ((rowsC textC200 200 (by omega) (by omega)).seq ((rowsC descC 200 (by omega) (by omega)).seq (rowsC fixC 65536 (by omega) (by omega))))))))))))
  have h2 := h.map (F := encO) (Q := Ob.fit) toO ofO ?_ ?_
  · exact h2
  · intro o ho
    obtain ⟨z1, z2, z3⟩ := zip3_map ho.nl ho.el
    refine ⟨by simp only [toO, ofO, z1, z2, z3], ⟨ho.name, ho.key, ho.imps, ho.code, ⟨?_, ?_⟩, ho.init, ho.vars, ho.shown, ho.strs, ho.descs, ho.fixes⟩, ?_⟩
    · simp only [ofO, zip3, List.length_zip, ho.nl, ho.el]; have := ho.pl; omega
    · intro x hx
      obtain ⟨a, b⟩ := mem_zip3 hx
      exact ⟨ho.procs _ a, ho.names _ b⟩
    · have hz : (zip3 o).length = o.procs.length := by simp [zip3, ho.nl, ho.el]
      simp only [encO, rI, rW, rS, rD, rF, rowB_fm, encNs_fm, encPs_fm ho.nl ho.el, ofO, hz]
  · rintro p ⟨a1, a2, a3, a4, a5, a6, a7, a8, a9, a10, a11⟩
    have hz := zip3_toO p
    have hn : (toO p).names.length = (toO p).procs.length := by simp [toO]
    have he : (toO p).exps.length = (toO p).procs.length := by simp [toO]
    refine ⟨⟨a1, a2, a3, a4, by simpa [toO] using a5.1, hn, he, ?_, ?_, a6, a7, a8, a9, a10, a11⟩, ?_⟩
    · intro x hx
      obtain ⟨y, hy, rfl⟩ := List.mem_map.1 hx
      exact (a5.2 y hy).1
    · intro x hx
      obtain ⟨y, hy, rfl⟩ := List.mem_map.1 hx
      exact (a5.2 y hy).2
    · have hl : (toO p).procs.length = p.2.2.2.2.1.length := by simp [toO]
      simp only [encO, rI, rW, rS, rD, rF, rowB_fm, encNs_fm, encPs_fm hn he, hz, hl]
      rfl
theorem allP_mem {α : Type} [Inhabited α] {p : Nat → α → Bool} {xs : List α} (h : allP p xs xs.length = true) : ∀ x ∈ xs, ∃ i, p i x = true := by
  intro x hx
  obtain ⟨i, hi, rfl⟩ := List.getElem_of_mem hx
  simp only [allP, List.all_eq_true, List.mem_range] at h
  have := h i hi
  simp only [List.getD, List.getElem?_eq_getElem hi, Option.getD_some] at this
  exact ⟨i, this⟩
theorem isName_len {s : Bytes} (h : isName s = true) : (s.length : Int) ≤ 20 := by
  simp only [isName, Bool.and_eq_true, decide_eq_true_eq] at h
  omega
/-- an object that may be fits -/
theorem fit_of {o : Ob} (h : formedB o = true) (hu : o.u32s) : o.fit := by
  rw [judged] at h
  simp only [withinB, plainB, Bool.and_eq_true, decide_eq_true_eq] at h
  obtain ⟨⟨⟨⟨⟨⟨⟨⟨⟨⟨⟨⟨⟨c1, c2⟩, c3⟩, c4⟩, c5⟩, c6⟩, c7⟩, c8⟩, c9⟩, c10⟩, c11⟩, ⟨⟨⟨⟨⟨n1, n2⟩, hi⟩, hp⟩, hv⟩, hs⟩, ht⟩, hd⟩, hf⟩ := h
  simp only [namesB, Bool.and_eq_true, List.all_eq_true] at n1 n2
  have win1 : ∀ {v a b : Int}, win v a b = true → a ≤ v ∧ v ≤ b := fun h => (win_t _ _ _).1 h
  have hdt : ∀ d ∈ o.descs, 8 ≤ d.ty ∧ d.ty ≤ 199 := by
    intro d hd'
    obtain ⟨i, h⟩ := allP_mem hd d hd'
    simp only [qR, q61, Bool.and_eq_true] at h
    exact win1 h.1.1.1.1.1.2
  have hhas : ∀ t : Int, 0 < (fH o.descs t).getD 0 → 8 ≤ t ∧ t ≤ 199 := by
    intro t h
    unfold fH at h
    split at h
    · rename_i hh
      simp only [hasD, List.any_eq_true, decide_eq_true_eq] at hh
      obtain ⟨d, h1, rfl⟩ := hh
      exact hdt d h1
    · simp at h
  refine ⟨?_, hu.key, ⟨c1, fun x hx => ⟨?_, hu.imp x hx⟩⟩, ⟨c3, hu.code⟩, c4, by omega, by omega, ?_, fun x hx => isName_len (n2.1 x hx), ⟨hi.1, by omega⟩, ⟨c7, ?_⟩, ⟨by omega, ?_⟩, ⟨c9, ?_⟩, ⟨c10, ?_⟩, ⟨c11, ?_⟩⟩
  · exact isName_len (n1.1 _ (by simp [impNames]))
  · exact isName_len (n1.1 _ (by simp only [impNames, List.take_length, List.mem_cons, List.mem_map]; exact .inr ⟨x, hx, rfl⟩))
  · intro x hx
    obtain ⟨i, h⟩ := allP_mem hp x hx
    have := win1 h; omega
  · intro x hx
    obtain ⟨i, h⟩ := allP_mem hv x hx
    have := win1 h; omega
  · intro x hx
    obtain ⟨i, h⟩ := allP_mem hs x hx
    simp only [q57, Bool.and_eq_true] at h
    have := win1 h.1; omega
  · intro x hx
    obtain ⟨i, h⟩ := allP_mem ht x hx
    simp only [q59, decide_eq_true_eq] at h
    omega
  · intro d hd'
    obtain ⟨i, h⟩ := allP_mem hd d hd'
    simp only [qR, q61, Bool.and_eq_true] at h
    have h1 := win1 h.1.1.1.1.1.2
    have h2 := win1 h.1.1.1.1.2
    have h3 := win1 h.1.1.2
    refine ⟨by omega, by omega, by omega, fun x hx => ?_⟩
    obtain ⟨j, h4⟩ := allP_mem h.2 x hx
    simp only [q62, decide_eq_true_eq] at h4
    have := hhas x h4
    omega
  · intro f hf'
    obtain ⟨i, h⟩ := allP_mem hf f hf'
    simp only [qF, q64, fixB, Bool.and_eq_true, decide_eq_true_eq] at h
    obtain ⟨_, ⟨⟨w1, w2⟩, w3⟩, w4⟩ := h
    have w1 := win1 w1
    have w2 := win1 w2
    have : (0 ≤ f.at_ ∧ f.at_ < 4294967296) ∧ 0 ≤ f.m + 1 ∧ f.m + 1 ≤ 16 := by
      split at w1 <;> omega
    refine ⟨this.1, ?_, this.2, ?_⟩
    · split at w4
      · omega
      split at w4
      · omega
      split at w4
      · omega
      split at w4
      · omega
      · cases w4
    · split at w4
      · simp only [decide_eq_true_eq] at w4; omega
      split at w4
      · simp only [decide_eq_true_eq] at w4; omega
      split at w4
      · simp only [decide_eq_true_eq] at w4; omega
      split at w4
      · simp only [decide_eq_true_eq] at w4
        have := hhas _ w4.2
        omega
      · cases w4
theorem sumI_b (l : Bytes) : 0 ≤ sumI l ∧ sumI l < 4294967296 := by
  have := sumN_lt l
  rw [sumI_nat]; omega
/-- what is read is written as the same bytes -/
theorem read_write (b : Bytes) (hb : b.length ≤ 4194304) (h : (decM b).2.2 = 0) : okB (decM b).1 = true ∧ (decM b).2.1 = 0 ∧ bytesO (decM b).1 = b := by
  unfold decM at h ⊢
  split at h
  · exact absurd h (by simp)
  rename_i h1
  split at h
  · exact absurd h (by simp)
  rename_i h2
  split at h
  · exact absurd h (by simp)
  rename_i h3
  split at h
  · exact absurd h (by simp)
  rename_i h4
  rw [if_neg h1, if_neg h2, if_neg h3, if_neg h4]
  have hk : okB (endM b).1 = true := by simpa using h4
  refine ⟨hk, rfl, ?_⟩
  simp only [Bool.not_eq_false, hdrB, Bool.and_eq_true, decide_eq_true_eq, beq_iff_eq] at h1
  obtain ⟨⟨l1, l2⟩, l3⟩ := h1
  have h2 : getV b ((b.length : Int) - 4) = sumI (b.take (b.length - 4)) := by simpa using h2
  have hro : (⟨b.take (b.length - 4), 4, -1⟩ : Rd).ok := ⟨by simp; omega, by simp, by simp; omega⟩
  obtain ⟨o1, o2⟩ := objC.ok _ hro
  have h3' : (endM b).2.bad < 0 := by omega
  obtain ⟨k1, k2, k3, k4⟩ := tookM_bad o1.lo h3'
  obtain ⟨m1, m2, m3⟩ := objC.bwd _ hro k1
  have e1 : (endM b).1 = (objM ⟨b.take (b.length - 4), 4, -1⟩).1 := rfl
  rw [e1]
  generalize objM ⟨b.take (b.length - 4), 4, -1⟩ = x at m1 m2 m3 k2
  simp only [decide_eq_true_eq] at k2
  rw [k2] at m3
  simp only at m3
  have e2 : (b.take (b.length - 4)).drop 4 = encO x.1 := by
    rw [show (4 : Int).toNat = 4 from rfl] at m3
    rw [m3, show ((b.length : Int) - 4).toNat = b.length - 4 by omega]
    simp
  have e3 : b.take (b.length - 4) = bodyO x.1 := by
    rw [body_enc, ← e2, ← List.take_append_drop 4 (b.take (b.length - 4)), List.drop_append]
    rw [List.take_take, show min 4 (b.length - 4) = 4 by omega, l3]
    simp [magic]
  have hk4 : getK b ((b.length : Int) - 4) = true := by simp only [getK, decide_eq_true_eq]; omega
  have e4 : leN (b.drop (b.length - 4)) = getV b ((b.length : Int) - 4) := by
    rw [getV, hk4, if_pos rfl, show ((b.length : Int) - 4 + 4).toNat = b.length by omega, List.take_length, show ((b.length : Int) - 4).toNat = b.length - 4 by omega]
  obtain ⟨p, q, r, s, e5⟩ := four (b.drop (b.length - 4)) (by simp; omega)
  have e6 : b.drop (b.length - 4) = le4 (sumI (bodyO x.1)) := by
    rw [← e3, ← h2, ← e4, e5, le4_leN]
  rw [bytesO, ← e6, ← e3, List.take_append_drop]
theorem getV_end (l : Bytes) (w : Int) (hw : 0 ≤ w ∧ w < 4294967296) : getV (l ++ le4 w) (((l ++ le4 w).length : Int) - 4) = w := by
  have hl : (le4 w).length = 4 := rfl
  have hk : getK (l ++ le4 w) (((l ++ le4 w).length : Int) - 4) = true := by simp only [getK, decide_eq_true_eq, List.length_append, hl]; omega
  rw [getV, hk, if_pos rfl, show (((l ++ le4 w).length : Int) - 4 + 4).toNat = (l ++ le4 w).length by omega, List.take_length, show (((l ++ le4 w).length : Int) - 4).toNat = l.length by rw [List.length_append, hl]; omega, List.drop_left]
  exact leN_le4 w hw
/-- a right object is read from its bytes; with others behind it is not -/
theorem write_read {o : Ob} (hu : o.u32s) (hk : okB o = true) (more : Bytes) : decM (sumB (bodyO o ++ more)) = (o, 0, 0) ∧ more = [] ∨ (decM (sumB (bodyO o ++ more))).2.2 ≠ 0 ∧ more ≠ [] := by
  have hf : formedB o = true ∧ (bytesO o).length ≤ 1048576 := by simpa [okB] using hk
  have hfit := fit_of hf.1 hu
  have hs := sumI_b (bodyO o ++ more)
  have hl : (le4 (sumI (bodyO o ++ more))).length = 4 := rfl
  have hlen : (sumB (bodyO o ++ more)).length = (bodyO o).length + more.length + 4 := by simp only [sumB, List.length_append, hl]
  have htk : (sumB (bodyO o ++ more)).take ((sumB (bodyO o ++ more)).length - 4) = bodyO o ++ more := by
    rw [sumB]
    rw [show (bodyO o ++ more ++ le4 (sumI (bodyO o ++ more))).length - 4 = (bodyO o ++ more).length by simp only [List.length_append, hl]; omega, List.take_left]
  have hb : (bodyO o).length = 4 + (encO o).length := by rw [body_enc, List.length_append]; rfl
  have hfw := objC.fwd magic o more hfit
  have hend : endM (sumB (bodyO o ++ more)) = (o, (tookM ⟨bodyO o ++ more, (bodyO o).length, -1⟩ (bodyO o).length (decide (((bodyO o).length : Int) = (bodyO o).length + more.length))).2) := by
    rw [endM, htk, hlen]
    rw [← List.append_assoc, ← body_enc] at hfw
    rw [show ((magic.length : Nat) : Int) = 4 from rfl] at hfw
    simp only [hfw, hb]
    simp only [show ((4 + (encO o).length : Nat) : Int) = 4 + ((encO o).length : Int) by omega, show (((4 + (encO o).length + more.length + 4 : Nat) : Int) - 4) = 4 + ((encO o).length : Int) + (more.length : Int) by omega]
  have hlo : 4 ≤ (encO o).length := by simp only [encO, List.length_append, le4, List.length_cons, List.length_nil]; omega
  by_cases hm : more = []
  · left
    refine ⟨?_, hm⟩
    subst hm
    have h1 : hdrB (sumB (bodyO o ++ [])) = true := by
      simp only [hdrB, Bool.and_eq_true, decide_eq_true_eq, beq_iff_eq, hlen, List.length_nil]
      have : (bytesO o).length = (bodyO o).length + 4 := by simp only [bytesO, List.length_append]; rfl
      refine ⟨⟨by omega, by omega⟩, ?_⟩
      rw [sumB, List.append_nil, body_enc]
      rfl
    rw [decM, if_neg (by rw [h1]; decide), if_neg ?_, if_neg ?_, if_neg ?_, hend]
    · rw [hend, hk]; simp
    · rw [hend, tookM, if_neg (by simp), if_pos (by simp)]; simp [Rd.to]
    · rw [htk, sumB, getV_end _ _ hs]; simp
  · right
    refine ⟨?_, hm⟩
    have hml : 0 < more.length := List.length_pos_iff.2 hm
    rw [decM]
    split
    · simp
    split
    · simp
    split
    · simp
    rename_i h3
    exfalso
    apply h3
    rw [hend, tookM, if_neg (by simp), if_neg (by simp; omega)]
    simp [Rd.ill]
theorem sumB_body (o : Ob) : sumB (bodyO o ++ []) = bytesO o := by rw [sumB, List.append_nil, bytesO]
theorem back {o : Ob} (hu : o.u32s) (hk : okB o = true) : decM (bytesO o) = (o, 0, 0) := by
  rw [← sumB_body]
  rcases write_read hu hk [] with h | h
  · exact h.1
  · exact absurd rfl h.2
end Go.Proofs.Ytkjmjalfjbhfnaa.objDone
