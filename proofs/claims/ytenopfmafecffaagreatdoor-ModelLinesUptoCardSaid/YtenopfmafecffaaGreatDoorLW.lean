/- Of lines, in plain Lean: the words of a text. -/
import Derived.Test.YtenopfmafecffaaGreatDoorAr
namespace Go.Lines
/-- blank -/
def bl (c : UInt8) : Bool := decide (c.toNat ≤ 32)
def nb (c : UInt8) : Bool := !bl c
def wFrom (l : List UInt8) : Nat := (l.takeWhile bl).length
def wTo (l : List UInt8) : Nat := wFrom l + ((l.drop (wFrom l)).takeWhile nb).length
theorem wFrom_le (l : List UInt8) : wFrom l ≤ l.length := (List.takeWhile_prefix bl).length_le
theorem wTo_le (l : List UInt8) : wTo l ≤ l.length := by
  have h1 := wFrom_le l
  have h2 : ((l.drop (wFrom l)).takeWhile nb).length ≤ (l.drop (wFrom l)).length := (List.takeWhile_prefix nb).length_le
  simp only [List.length_drop] at h2
  unfold wTo; omega
theorem wFrom_nil : wFrom [] = 0 := rfl
theorem wTo_nil : wTo [] = 0 := rfl
theorem wFrom_cons_bl {c : UInt8} {r : List UInt8} (h : bl c = true) : wFrom (c :: r) = wFrom r + 1 := by simp [wFrom, List.takeWhile_cons, h]
theorem wFrom_cons_nb {c : UInt8} {r : List UInt8} (h : bl c = false) : wFrom (c :: r) = 0 := by simp [wFrom, List.takeWhile_cons, h]
theorem wTo_cons_bl {c : UInt8} {r : List UInt8} (h : bl c = true) : wTo (c :: r) = wTo r + 1 := by simp only [wTo, wFrom_cons_bl h, List.drop_succ_cons]; omega
theorem wTo_cons_nb {c : UInt8} {r : List UInt8} (h : bl c = false) : wTo (c :: r) = ((c :: r).takeWhile nb).length := by simp [wTo, wFrom_cons_nb h]
theorem takeWhile_nb_cons {c : UInt8} {r : List UInt8} (h : bl c = false) : (c :: r).takeWhile nb = c :: r.takeWhile nb := by simp [List.takeWhile_cons, nb, h]
/-- a text's words -/
def ws (l : List UInt8) : List (List UInt8) := if wFrom l = wTo l then [] else (l.take (wTo l)).drop (wFrom l) :: ws (l.drop (wTo l))
termination_by l.length
decreasing_by
  have := wTo_le l
  have : wFrom l ≤ wTo l := by unfold wTo; omega
  simp only [List.length_drop]; omega
theorem ws_nil : ws [] = [] := by rw [ws]; simp [wFrom_nil, wTo_nil]
theorem ws_bl {c : UInt8} {r : List UInt8} (h : bl c = true) : ws (c :: r) = ws r := by
  rw [ws, ws.eq_def r, wFrom_cons_bl h, wTo_cons_bl h]
  by_cases he : wFrom r = wTo r
  · rw [if_pos (by omega), if_pos he]
  · rw [if_neg (by omega), if_neg he]; simp
theorem takeWhile_all {p : UInt8 → Bool} {w r : List UInt8} (hw : ∀ c ∈ w, p c = true) (hr : r = [] ∨ ∃ c r', r = c :: r' ∧ p c = false) : (w ++ r).takeWhile p = w := by
  induction w with
  | nil =>
    rcases hr with rfl | ⟨c, r', rfl, hc⟩
    · rfl
    · simp [List.takeWhile_cons, hc]
  | cons c w ih =>
    simp only [List.cons_append, List.takeWhile_cons, hw c (by simp), if_true]
    rw [ih fun x hx => hw x (by simp [hx])]
theorem word_at {w r : List UInt8} (hne : w ≠ []) (hw : ∀ c ∈ w, bl c = false) (hr : r = [] ∨ ∃ c r', r = c :: r' ∧ bl c = true) : wFrom (w ++ r) = 0 ∧ wTo (w ++ r) = w.length := by
  cases w with
  | nil => exact absurd rfl hne
  | cons c w =>
    have hc := hw c (by simp)
    refine ⟨wFrom_cons_nb hc, ?_⟩
    rw [List.cons_append, wTo_cons_nb hc, ← List.cons_append, takeWhile_all (fun x hx => by simp [nb, hw x hx])]
    rcases hr with h | ⟨d, r', h, hd⟩
    · exact .inl h
    · exact .inr ⟨d, r', h, by simp [nb, hd]⟩
theorem ws_word {w r : List UInt8} (hne : w ≠ []) (hw : ∀ c ∈ w, bl c = false) (hr : r = [] ∨ ∃ c r', r = c :: r' ∧ bl c = true) : ws (w ++ r) = w :: ws r := by
  obtain ⟨h1, h2⟩ := word_at hne hw hr
  rw [ws, h1, h2, if_neg (by cases w <;> simp_all)]
  simp
/-- where the first word stands -/
theorem word_is {l : List UInt8} {f t : Nat} (ht : t ≤ l.length) (hft : f < t) (h1 : ∀ i, i < f → bl (l.getD i 0) = true) (h2 : ∀ i, f ≤ i → i < t → bl (l.getD i 0) = false) (h3 : t = l.length ∨ bl (l.getD t 0) = true) : wFrom l = f ∧ wTo l = t := by
  induction f generalizing l t with
  | zero =>
    have e : l = l.take t ++ l.drop t := (List.take_append_drop t l).symm
    have hl : (l.take t).length = t := by simp; omega
    have := word_at (w := l.take t) (r := l.drop t) (by intro h; rw [h] at hl; simp at hl; omega) (fun c hc => by
      obtain ⟨i, hi, rfl⟩ := List.mem_iff_getElem.1 hc
      have hit : i < t := by omega
      have := h2 i (Nat.zero_le _) hit
      rw [List.getD_eq_getElem?_getD, List.getElem?_eq_getElem (by omega), Option.getD_some] at this
      simpa using this) (by
      rcases h3 with h3 | h3
      · left; simp [h3]
      · by_cases h4 : t < l.length
        · right
          rw [List.drop_eq_getElem_cons h4]
          rw [List.getD_eq_getElem?_getD, List.getElem?_eq_getElem h4, Option.getD_some] at h3
          exact ⟨_, _, rfl, h3⟩
        · left; simp; omega)
    rw [← e, hl] at this
    exact this
  | succ f ih =>
    cases l with
    | nil => simp at ht; omega
    | cons c l =>
      have hc : bl c = true := by simpa using h1 0 (by omega)
      have := ih (l := l) (t := t - 1) (by simp at ht; omega) (by omega) (fun i hi => by simpa using h1 (i + 1) (by omega)) (fun i hi hi' => by simpa using h2 (i + 1) (by omega) (by omega)) (by
        rcases h3 with h3 | h3
        · left; simp at h3; omega
        · right
          obtain ⟨t', rfl⟩ : ∃ t', t = t' + 1 := ⟨t - 1, by omega⟩
          simpa using h3)
      rw [wFrom_cons_bl hc, wTo_cons_bl hc]
      omega
theorem word_none {l : List UInt8} (h : ∀ i, i < l.length → bl (l.getD i 0) = true) : wFrom l = l.length ∧ wTo l = l.length := by
  induction l with
  | nil => exact ⟨rfl, rfl⟩
  | cons c l ih =>
    have hc : bl c = true := by simpa using h 0 (by simp)
    have := ih fun i hi => by simpa using h (i + 1) (by simp; omega)
    rw [wFrom_cons_bl hc, wTo_cons_bl hc, List.length_cons]
    omega
end Go.Lines
