/- Of numbers: a source that is one number. Plain. -/
import Derived.Test.YtlehfbdkjkgaeaaDoorScD
namespace Go.Scan
set_option linter.unusedVariables false
set_option linter.unusedSimpArgs false
theorem dx_digi : ∀ x < 8 + 2, digi (dx x).toNat = true := by decide
theorem digi_lett {c : UInt8} (h : digi c.toNat = true) : lett c.toNat = false ∧ blank c = false ∧ c ≠ 40 := by
  simp only [digi, Bool.and_eq_true, decide_eq_true_eq] at h
  refine ⟨?_, ?_, ?_⟩
  · simp only [lett, Bool.or_eq_false_iff, Bool.and_eq_false_iff, decide_eq_false_iff_not]; omega
  · simp only [blank, Bool.or_eq_false_iff, beq_eq_false_iff_ne, ne_eq]
    refine ⟨⟨⟨?_, ?_⟩, ?_⟩, ?_⟩ <;> (intro e; subst e; simp at h)
  · intro e; subst e; simp at h
theorem rd_num (c : UInt8) (r : Bytes) (hd : digi c.toNat = true) (ha : (c :: r).all alnum = true) (p : Int) :
    rd (c :: r) p = match numb (c :: r) with
      | some (k, n) => ⟨[⟨k, [], n, p⟩], p + (c :: r).length, 0⟩
      | none => ⟨[], p, 82⟩ := by
  obtain ⟨h1, h2, h3⟩ := digi_lett hd
  have hs : skipB (c :: r) = c :: r := by unfold skipB; rw [List.dropWhile_cons, h2]; simp
  have hn : nB (c :: r) = 0 := by have := skip_len (c :: r); rw [hs] at this; omega
  have hr : rem? (c :: r) = false := by cases r <;> simp [rem?, h3]
  have hw : (c :: r).takeWhile alnum = c :: r := by
    have := tw_app (rest := []) ha (by intro c r e; cases e)
    rwa [List.append_nil] at this
  have ht : tok (c :: r) = tokN (c :: r) := by
    rw [tok, if_neg (by rw [h1]; simp), if_pos hd, hw]
  rw [rd_eq, hs, hn, hr, if_neg (by simp), if_neg (by simp), ht, tokN]
  cases numb (c :: r) with
  | none => simp
  | some x =>
    obtain ⟨k, n⟩ := x
    simp only [Int.natCast_zero, Int.add_zero, List.drop_length, rd_end]
    rfl
theorem based_all (n : Nat) (z : UInt8) (hz : alnum z = true) : (based n ++ [z]).all alnum = true := by
  rw [List.all_append, based_al]; simp [hz]
/-- a number in base sixteen -/
theorem rd_H (w : Nat) (hw : w ≤ 4294967295) (p : Int) : rd (based w ++ [72]) p = ⟨[⟨3, [], sgn32 w, p⟩], p + (based w ++ [72]).length, 0⟩ := by
  have e : (48 : UInt8) :: (hexs w ++ [72]) = based w ++ [72] := rfl
  have h := rd_num 48 (hexs w ++ [72]) (by decide) (by rw [e]; exact based_all w 72 (by decide)) p
  rw [e, numb_H w hw] at h
  exact h
/-- a character in base sixteen -/
theorem rd_X (w : Nat) (p : Int) : rd (based w ++ [88]) p = if w ≤ 255 then ⟨[⟨4, [], w, p⟩], p + (based w ++ [88]).length, 0⟩ else ⟨[], p, 82⟩ := by
  have e : (48 : UInt8) :: (hexs w ++ [88]) = based w ++ [88] := rfl
  have h := rd_num 48 (hexs w ++ [88]) (by decide) (by rw [e]; exact based_all w 88 (by decide)) p
  rw [e, numb_X w] at h
  rw [h]
  split <;> simp_all
theorem decs_head (k n : Nat) : ∃ c r, List.replicate k 48 ++ decs n = c :: r ∧ digi c.toNat = true := by
  have hall : (List.replicate k (48 : UInt8) ++ decs n).all (fun c => digi c.toNat) = true := by
    rw [List.all_append]
    have := dg_all (fun c => digi c.toNat) 8 dx dx_digi (n + 1) n (Nat.lt_succ_self _)
    rw [decs, this, Bool.and_true, List.all_eq_true]
    intro c hc
    rw [List.mem_replicate] at hc
    rw [hc.2]; rfl
  have hne : List.replicate k (48 : UInt8) ++ decs n ≠ [] := by
    intro h
    have := List.append_eq_nil_iff.1 h
    exact dg_ne _ _ _ this.2
  cases hl : List.replicate k (48 : UInt8) ++ decs n with
  | nil => exact absurd hl hne
  | cons c r =>
    rw [hl] at hall
    exact ⟨c, r, rfl, by simp at hall; exact hall.1⟩
/-- a number in decimals, with noughts ahead -/
theorem rd_D (k n : Nat) (p : Int) : rd (List.replicate k 48 ++ decs n) p = if n ≤ 2147483647 then ⟨[⟨3, [], n, p⟩], p + (List.replicate k 48 ++ decs n).length, 0⟩ else ⟨[], p, 82⟩ := by
  obtain ⟨c, r, e, hd⟩ := decs_head k n
  have ha : (List.replicate k 48 ++ decs n).all alnum = true := by
    rw [List.all_append, decs_al, Bool.and_true, List.all_eq_true]
    intro c hc
    rw [List.mem_replicate] at hc
    rw [hc.2]; rfl
  have hn := numb_dec k n
  rw [e] at ha hn ⊢
  rw [rd_num c r hd ha, hn]
  by_cases h : n ≤ 2147483647
  · simp only [if_pos h]
  · simp only [if_neg h]
end Go.Scan
