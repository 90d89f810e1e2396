/- Of sources: tokens one behind the other, written at the end. Plain. -/
import Derived.Test.YtlehfbdkjkgaeaaDoorScD
namespace Go.Scan
set_option linter.unusedVariables false
set_option linter.unusedSimpArgs false
theorem jn_snoc (sp : Nat → Bytes) (t : Tk) : ∀ (l : List Tk) (i : Nat), jn sp i (l ++ [t]) = jn sp i l ++ ((if i + l.length = 0 then [] else sp (i + l.length)) ++ writ t)
  | [], i => by simp [jn]
  | x :: l, i => by
    rw [List.cons_append, jn, jn, jn_snoc sp t l (i + 1), if_neg (show ¬ i + 1 + l.length = 0 by omega), if_neg (show ¬ i + (x :: l).length = 0 by simp)]
    simp only [List.append_assoc, List.length_cons, show i + 1 + l.length = i + (l.length + 1) by omega]
theorem jp_snoc (sp : Nat → Bytes) (t : Tk) : ∀ (l : List Tk) (i : Nat) (p : Int), jp sp i p (l ++ [t]) = jp sp i p l ++ [p + (jn sp i l).length + (if i + l.length = 0 then [] else sp (i + l.length)).length]
  | [], i, p => by simp [jn, jp]
  | x :: l, i, p => by
    rw [List.cons_append, jp, jp, jn, jp_snoc sp t l (i + 1), if_neg (show ¬ i + 1 + l.length = 0 by omega), if_neg (show ¬ i + (x :: l).length = 0 by simp)]
    simp only [List.cons_append, List.length_cons, List.length_append, show i + 1 + l.length = i + (l.length + 1) by omega]
    congr 3
    simp only [Int.natCast_add]
    omega
theorem jp_len (sp : Nat → Bytes) : ∀ (l : List Tk) (i : Nat) (p : Int), (jp sp i p l).length = l.length
  | [], _, _ => rfl
  | x :: l, i, p => by rw [jp, List.length_cons, jp_len sp l, List.length_cons]
theorem kws_len : ∀ w ∈ kws, w.length ≤ 20 := fun w h => (kws_al w h).2.2
theorem writ_len {t : Tk} (h : good t) : (writ t).length ≤ 202 := by
  have hb : ∀ n : Nat, n ≤ 4294967295 → (based n).length ≤ 9 := fun n hn => by have := hexs_len hn; rw [based, List.length_cons]; omega
  have hm : (t.n % 4294967296).toNat ≤ 4294967295 := by omega
  have h8 := hb _ hm
  unfold writ
  split
  · simp only [List.length_append, List.length_cons, List.length_nil]; omega
  split
  · simp only [List.length_append, List.length_cons, List.length_nil]; omega
  rcases h with ⟨hk, hn, h⟩ | ⟨hk, hn, h1, h2, h3, c, r, h4, h5⟩ | ⟨hk, ht, h1, h2⟩ | ⟨hk, ht, h1, h2⟩ | ⟨hk, hn, h1, h2, h3⟩ | ⟨hk, hn, h⟩
  · have := kws_len t.text (by simpa using h)
    rw [if_neg (by omega)]; omega
  · rw [if_neg (by omega)]; omega
  · omega
  · omega
  · rw [if_pos hk]
    simp only [List.length_append, List.length_cons, List.length_nil]; omega
  · rw [if_neg (by omega)]
    rcases h with h | ⟨c, h, _⟩
    · have : t.text ∈ sg2 := by simpa using h
      have : ∀ w ∈ sg2, w.length = 2 := by decide
      have := this _ ‹_›
      omega
    · rw [h]; simp
def fine (t : Tk) : Prop := good t ∨ ∃ p, t = fin0 p
theorem fine_len {t : Tk} (h : fine t) : (writ t).length ≤ 202 := by
  rcases h with h | ⟨p, rfl⟩
  · exact writ_len h
  · exact Nat.zero_le _
theorem jn_len (sp : Nat → Bytes) (hsp : ∀ i, (sp i).length ≤ 9) : ∀ (l : List Tk) (i : Nat), (∀ t ∈ l, fine t) → (jn sp i l).length ≤ l.length * 211
  | [], _, _ => by simp [jn]
  | x :: l, i, h => by
    have h1 := jn_len sp hsp l (i + 1) (fun t ht => h t (by simp [ht]))
    have h2 := fine_len (h x (by simp))
    have h3 : (if i = 0 then [] else sp i : Bytes).length ≤ 9 := by
      split
      · simp
      · exact hsp i
    rw [jn, List.length_append, List.length_append, List.length_cons]
    omega
theorem fine_n {t : Tk} (h : fine t) : -2147483648 ≤ t.n ∧ t.n ≤ 2147483647 := by
  rcases h with (⟨_, hn, _⟩ | ⟨_, hn, _⟩ | ⟨_, _, h1, h2⟩ | ⟨_, _, h1, h2⟩ | ⟨_, hn, _⟩ | ⟨_, hn, _⟩) | ⟨p, rfl⟩
  · omega
  · omega
  · omega
  · omega
  · omega
  · omega
  · exact ⟨by simp [fin0], by simp [fin0]⟩
/-- what stands between tokens, as the remarks say -/
def spR (r : List Bool) (i : Nat) : Bytes := if i ≤ r.length ∧ r.getD (i - 1) false = true then REM else [32]
theorem spR_or (r : List Bool) (i : Nat) : spR r i = [32] ∨ spR r i = REM := by
  unfold spR; split
  · exact .inr rfl
  · exact .inl rfl
theorem spR_len (r : List Bool) (i : Nat) : (spR r i).length ≤ 9 := by
  rcases spR_or r i with h | h <;> (rw [h]; decide)
/-- tokens read anew: all of them, but for their places -/
theorem anew (sp : Nat → Bytes) (hsp : ∀ i, sp i = [32] ∨ sp i = REM) (l : List Tk) (q : Int) (h : ∀ t ∈ l, good t) (T U : List Tk) (hT : T = l ++ [fin0 q]) (hU : U = whole (rd (jn sp 0 T) 0)) :
    (rd (jn sp 0 T) 0).e = 0 ∧ U.length = T.length ∧ ∀ i < T.length, (U.getD i default).kind = (T.getD i default).kind ∧ (U.getD i default).text = (T.getD i default).text ∧ (U.getD i default).n = (T.getD i default).n ∧ (jp sp 0 0 T).getD i 0 = (U.getD i default).pl := by
  obtain ⟨h1, h2, h3⟩ := join sp hsp q l 0 0 h
  rw [← hT] at h1 h2 h3
  rw [← hU] at h2 h3
  have hl : U.length = T.length := by have := congrArg List.length h3; simpa using this
  refine ⟨h1, hl, fun i hi => ?_⟩
  have hi' : i < U.length := by omega
  have e3 := congrArg (fun l => l[i]?) h3
  have e2 := congrArg (fun l => l[i]?) h2
  simp only [List.getElem?_map, List.getElem?_eq_getElem hi, List.getElem?_eq_getElem hi', Option.map_some, Option.some.injEq, Prod.mk.injEq] at e3 e2
  refine ⟨by simpa [List.getD, hi, hi'] using e3.1, by simpa [List.getD, hi, hi'] using e3.2.1, by simpa [List.getD, hi, hi'] using e3.2.2, ?_⟩
  simp only [List.getD, ← e2, List.getElem?_eq_getElem hi', Option.getD_some]
end Go.Scan
