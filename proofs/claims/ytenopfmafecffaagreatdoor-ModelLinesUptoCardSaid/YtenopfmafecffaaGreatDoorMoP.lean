/- Of the model of a workstation: its files, by rising names. Plain. -/
import Derived.Test.YtenopfmafecffaaGreatDoorED
import Derived.Sort.Walk0
namespace Go.Mdl
open Go Go.Eng
set_option linter.unusedVariables false
set_option linter.unusedSimpArgs false
abbrev Bytes := List UInt8
abbrev Fs := List (Bytes × Bytes)
theorem ltT {a b c : Bytes} (h : a < b) (h' : b < c) : a < c := List.lt_trans h h'
theorem ltI (a : Bytes) : ¬ a < a := List.lt_irrefl a
theorem ltA {a b : Bytes} (h : ¬ a < b) (h' : ¬ b < a) : a = b := List.le_antisymm h' h
theorem ltN {a b : Bytes} (h : a < b) : a ≠ b := fun e => ltI b (e ▸ h)
def pl : Fs → Bytes → Nat
  | [], _ => 0
  | x :: A, n => if x.1 < n then pl A n + 1 else 0
def has : Fs → Bytes → Bool
  | [], _ => false
  | x :: A, n => if x.1 < n then has A n else decide (x.1 = n)
def sorted (A : Fs) : Prop := A.Pairwise fun x y => x.1 < y.1
def out (A : Fs) (i : Nat) : Fs := A.take i ++ A.drop (i + 1)
def ins (A : Fs) (n d : Bytes) : Fs := (if has A n then out A (pl A n) else A).take (pl A n) ++ (n, d) :: (if has A n then out A (pl A n) else A).drop (pl A n)
theorem split (n : Bytes) : ∀ (A : Fs), sorted A → ∃ T D, A = T ++ D ∧ T.length = pl A n ∧ (∀ x ∈ T, x.1 < n) ∧
    ((has A n = true ∧ ∃ d0 D', D = (n, d0) :: D' ∧ ∀ x ∈ D', n < x.1) ∨ (has A n = false ∧ ∀ x ∈ D, n < x.1))
  | [], _ => ⟨[], [], rfl, rfl, by simp, .inr ⟨rfl, by simp⟩⟩
  | x :: A, hs => by
    rw [sorted, List.pairwise_cons] at hs
    by_cases hx : x.1 < n
    · obtain ⟨T, D, h1, h2, h3, h4⟩ := split n A hs.2
      refine ⟨x :: T, D, by rw [h1]; rfl, by simp [pl, hx, h2], ?_, ?_⟩
      · intro y hy
        rcases List.mem_cons.1 hy with rfl | hy
        · exact hx
        · exact h3 y hy
      · simpa only [has, if_pos hx] using h4
    · refine ⟨[], x :: A, rfl, by simp [pl, hx], by simp, ?_⟩
      by_cases he : x.1 = n
      · left
        refine ⟨by simp [has, hx, he], x.2, A, ?_, fun y hy => ?_⟩
        · rw [← he]
        · rw [← he]; exact hs.1 y hy
      · right
        have hlt : n < x.1 := by
          rcases Decidable.em (n < x.1) with h | h
          · exact h
          · exact absurd (ltA hx h) he
        refine ⟨by simp [has, hx, he], fun y hy => ?_⟩
        rcases List.mem_cons.1 hy with rfl | hy
        · exact hlt
        · exact ltT hlt (hs.1 y hy)
theorem pl_le (A : Fs) (n : Bytes) : pl A n ≤ A.length := by
  induction A with
  | nil => exact Nat.le_refl _
  | cons x A ih => simp only [pl]; split <;> simp only [List.length_cons] <;> omega
theorem lookup_app (T D : Fs) (k : Bytes) : (T ++ D).lookup k = (T.lookup k).or (D.lookup k) := by
  induction T with
  | nil => simp
  | cons x T ih =>
    obtain ⟨a, b⟩ := x
    simp only [List.cons_append, List.lookup_cons]
    split
    · rfl
    · exact ih
theorem lookup_none {A : Fs} {k : Bytes} (h : ∀ x ∈ A, x.1 ≠ k) : A.lookup k = none := by
  induction A with
  | nil => rfl
  | cons x A ih =>
    obtain ⟨a, b⟩ := x
    have h1 := h (a, b) (by simp)
    simp only [List.lookup_cons]
    rw [show (k == a) = false by simpa using fun e => h1 e.symm]
    exact ih fun y hy => h y (by simp [hy])
theorem lookup_one (k n d : Bytes) (D : Fs) : List.lookup k ((n, d) :: D) = if k = n then some d else D.lookup k := by
  simp only [List.lookup_cons]
  by_cases h : k = n
  · simp [h]
  · rw [if_neg h, show (k == n) = false by simpa using h]
def oo (n : Bytes) : Option Bytes → Fs
  | some d => [(n, d)]
  | none => []
/-- what lies at a name's place -/
structure At (A : Fs) (n : Bytes) (T : Fs) (o : Option Bytes) (D : Fs) : Prop where
  eq : A = T ++ oo n o ++ D
  len : T.length = pl A n
  lo : ∀ x ∈ T, x.1 < n
  hi : ∀ x ∈ D, n < x.1
  has : has A n = o.isSome
theorem at_of (A : Fs) (hs : sorted A) (n : Bytes) : ∃ T o D, At A n T o D := by
  obtain ⟨T, D, h1, h2, h3, ⟨h4, d0, D', rfl, h5⟩ | ⟨h4, h5⟩⟩ := split n A hs
  · exact ⟨T, some d0, D', by simp [h1, oo], h2, h3, h5, h4⟩
  · exact ⟨T, none, D, by simp [h1, oo], h2, h3, h5, h4⟩
section
variable {A : Fs} {n : Bytes} {T D : Fs} {o : Option Bytes}
theorem At.lookup (h : At A n T o D) (k : Bytes) : A.lookup k = if k = n then o else (T.lookup k).or (D.lookup k) := by
  rw [h.eq, lookup_app, lookup_app]
  have hT : T.lookup n = none := lookup_none fun x hx => ltN (h.lo x hx)
  have hD : D.lookup n = none := lookup_none fun x hx e => ltI n (by have := h.hi x hx; rwa [e] at this)
  by_cases hk : k = n
  · subst hk
    rw [if_pos rfl, hT, hD]
    cases o <;> simp [lookup_one, oo]
  · rw [if_neg hk]
    cases o <;> simp [lookup_one, hk, oo]
theorem At.take (h : At A n T o D) : A.take (pl A n) = T := by
  rw [h.eq, ← h.eq, ← h.len]; conv => lhs; rw [h.eq]
  rw [List.append_assoc, List.take_left]
theorem At.drop (h : At A n T o D) : A.drop (pl A n) = oo n o ++ D := by
  rw [← h.len]; conv => lhs; rw [h.eq]
  rw [List.append_assoc, List.drop_left]
theorem At.out (h : At A n T o D) (ho : o.isSome = true) : out A (pl A n) = T ++ D := by
  obtain ⟨d, rfl⟩ := Option.isSome_iff_exists.1 ho
  rw [Mdl.out, h.take, ← List.drop_drop, h.drop]
  rfl
theorem At.ins (h : At A n T o D) (d : Bytes) : ins A n d = T ++ (n, d) :: D := by
  unfold Mdl.ins
  cases o with
  | none => rw [if_neg (by rw [h.has]; simp), h.take, h.drop]; rfl
  | some d0 =>
    rw [if_pos (by rw [h.has]; rfl), h.out rfl, ← h.len, List.take_left, List.drop_left]
theorem At.sT (h : At A n T o D) (hs : sorted A) : sorted T ∧ sorted D := by
  rw [sorted, h.eq, List.pairwise_append, List.pairwise_append] at hs
  exact ⟨hs.1.1, hs.2.1⟩
theorem At.sIns (h : At A n T o D) (hs : sorted A) (d : Bytes) : sorted (Mdl.ins A n d) := by
  obtain ⟨a, b⟩ := h.sT hs
  rw [h.ins, sorted, List.pairwise_append, List.pairwise_cons]
  refine ⟨a, ⟨h.hi, b⟩, fun x hx y hy => ?_⟩
  rcases List.mem_cons.1 hy with rfl | hy
  · exact h.lo x hx
  · exact ltT (h.lo x hx) (h.hi y hy)
theorem At.sOut (h : At A n T o D) (hs : sorted A) : sorted (T ++ D) := by
  obtain ⟨a, b⟩ := h.sT hs
  rw [sorted, List.pairwise_append]
  exact ⟨a, b, fun x hx y hy => ltT (h.lo x hx) (h.hi y hy)⟩
end
theorem sorted_ins {A : Fs} (hs : sorted A) (n d : Bytes) : sorted (ins A n d) := by
  obtain ⟨T, o, D, h⟩ := at_of A hs n
  exact h.sIns hs d
theorem sorted_out {A : Fs} (hs : sorted A) {n : Bytes} (hn : has A n = true) : sorted (out A (pl A n)) := by
  obtain ⟨T, o, D, h⟩ := at_of A hs n
  rw [h.out (by rw [← h.has]; exact hn)]
  exact h.sOut hs
theorem lookup_ins {A : Fs} (hs : sorted A) (n d k : Bytes) : (ins A n d).lookup k = if k = n then some d else A.lookup k := by
  obtain ⟨T, o, D, h⟩ := at_of A hs n
  rw [h.ins, lookup_app, lookup_one, h.lookup]
  by_cases hk : k = n
  · subst hk
    rw [if_pos rfl, if_pos rfl, lookup_none fun x hx => ltN (h.lo x hx)]; rfl
  · rw [if_neg hk, if_neg hk, if_neg hk]
theorem lookup_out {A : Fs} (hs : sorted A) {n : Bytes} (hn : has A n = true) (k : Bytes) : (out A (pl A n)).lookup k = if k = n then none else A.lookup k := by
  obtain ⟨T, o, D, h⟩ := at_of A hs n
  rw [h.out (by rw [← h.has]; exact hn), lookup_app, h.lookup]
  by_cases hk : k = n
  · subst hk
    rw [if_pos rfl, lookup_none fun x hx => ltN (h.lo x hx), lookup_none fun x hx e => ltI k (by have := h.hi x hx; rwa [e] at this)]; rfl
  · rw [if_neg hk, if_neg hk]
theorem has_lookup {A : Fs} (hs : sorted A) (n : Bytes) : has A n = (A.lookup n).isSome := by
  obtain ⟨T, o, D, h⟩ := at_of A hs n
  rw [h.lookup, if_pos rfl, h.has]
theorem at_place {A : Fs} (hs : sorted A) {n d : Bytes} (h : A.lookup n = some d) : A[pl A n]? = some (n, d) := by
  obtain ⟨T, o, D, k⟩ := at_of A hs n
  rw [k.lookup, if_pos rfl] at h
  subst h
  rw [← k.len]
  conv => lhs; rw [k.eq]
  simp [oo]
/-! as a map -/
def vS (d : Bytes) : Value := .string ⟨d.toArray⟩
def mapF (A : Fs) : Key → Option Value
  | .s n => (A.lookup n).map vS
  | .i _ _ => none
theorem mapF_s (A : Fs) (n : Bytes) : mapF A (.s n) = (A.lookup n).map vS := rfl
theorem mapF_nil : mapF [] = noK := by funext k; cases k <;> rfl
theorem mapF_ins {A : Fs} (hs : sorted A) (n d : Bytes) : updK (mapF A) (.s n) (vS d) = mapF (ins A n d) := by
  funext k
  cases k with
  | i a b => simp [updK, mapF]
  | s k =>
    rw [mapF_s, lookup_ins hs]
    simp only [updK, Key.s.injEq, mapF_s]
    split <;> rfl
theorem mapF_out {A : Fs} (hs : sorted A) {n : Bytes} (hn : has A n = true) : delK (mapF A) (.s n) = mapF (out A (pl A n)) := by
  funext k
  cases k with
  | i a b => simp [delK, mapF]
  | s k =>
    rw [mapF_s, lookup_out hs hn]
    simp only [delK, Key.s.injEq, mapF_s]
    split <;> rfl
theorem sorted_nodup {A : Fs} (hs : sorted A) : (A.map Prod.fst).Nodup := by
  rw [List.nodup_iff_pairwise_ne, List.pairwise_map]
  exact hs.imp fun h => ltN h
theorem lookup_mem {A : Fs} (n : Bytes) : (A.lookup n).isSome = true ↔ n ∈ A.map Prod.fst := by
  induction A with
  | nil => simp
  | cons x A ih =>
    obtain ⟨a, b⟩ := x
    rw [lookup_one, List.map_cons, List.mem_cons]
    by_cases h : n = a
    · simp [h]
    · rw [if_neg h, ih]; simp [h]
theorem card_mapF {A : Fs} (hs : sorted A) : cardK (mapF A) = A.length := by
  have hn := sorted_nodup hs
  rw [cardK_of (l := A.map fun x => Key.s x.1)]
  · simp
  · rw [List.nodup_iff_pairwise_ne, List.pairwise_map] at hn ⊢
    exact hn.imp fun h e => h (Key.s.inj e)
  · intro k
    cases k with
    | i a b => simp [mapF]
    | s n =>
      rw [mapF_s, Option.isSome_map, lookup_mem]
      simp
theorem len_ins {A : Fs} (hs : sorted A) (n d : Bytes) : (ins A n d).length = A.length + (if has A n then 0 else 1) := by
  obtain ⟨T, o, D, h⟩ := at_of A hs n
  rw [h.ins, h.has]
  conv => rhs; rw [h.eq]
  cases o <;> simp [oo] <;> omega
theorem len_out {A : Fs} (hs : sorted A) {n : Bytes} (hn : has A n = true) : (out A (pl A n)).length + 1 = A.length := by
  obtain ⟨T, o, D, h⟩ := at_of A hs n
  have ho : o.isSome = true := by rw [← h.has]; exact hn
  rw [h.out ho]
  conv => rhs; rw [h.eq]
  cases o <;> simp [oo] at ho ⊢; omega
end Go.Mdl
