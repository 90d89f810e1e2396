/- Of sources: what stands ahead of a token is read by itself; tokens are read from how they are written. Plain. -/
import Derived.Test.YtlehfbdkjkgaeaaGreatDoorScP
namespace Go.Scan
set_option linter.unusedVariables false
set_option linter.unusedSimpArgs false
theorem tw_take {α : Type} (p : α → Bool) : ∀ (l : List α) (k : Nat), (l.take k).takeWhile p = (l.takeWhile p).take k
  | [], k => by simp
  | a :: l, 0 => by simp
  | a :: l, k + 1 => by
    rw [List.take_succ_cons, List.takeWhile_cons, List.takeWhile_cons]
    split
    · rw [List.take_succ_cons, tw_take p l k]
    · simp
theorem nB_take (s : Bytes) (k : Nat) : nB (s.take k) = min k (nB s) := by
  unfold nB; rw [tw_take, List.length_take]
theorem skip_take (s : Bytes) (k : Nat) (h : nB s ≤ k) : skipB (s.take k) = (skipB s).take (k - nB s) := by
  have h1 := List.takeWhile_append_dropWhile (p := blank) (l := s)
  have h2 := List.takeWhile_append_dropWhile (p := blank) (l := s.take k)
  rw [tw_take] at h2
  have h3 : (s.takeWhile blank).take k = s.takeWhile blank := List.take_of_length_le h
  rw [h3] at h2
  have h4 : s.take k = s.takeWhile blank ++ (s.dropWhile blank).take (k - nB s) := by
    conv => lhs; rw [← h1]
    rw [List.take_append, h3]; rfl
  have h5 : s.takeWhile blank ++ skipB (s.take k) = s.takeWhile blank ++ (skipB s).take (k - nB s) := h2.trans h4
  exact List.append_cancel_left h5
theorem skip_all (s : Bytes) (k : Nat) (h : k ≤ nB s) : skipB (s.take k) = [] := by
  have := skip_len (s.take k)
  rw [nB_take, List.length_take] at this
  have hk := skip_len s
  exact List.eq_nil_of_length_eq_zero (by omega)
theorem rd_blank (s : Bytes) (p : Int) (h : skipB s = []) : rd s p = ⟨[], p + s.length, 0⟩ := by
  have := skip_len s
  rw [rd_eq, h]
  rw [h] at this
  simp only [List.length_nil, Nat.zero_add] at this
  simp [rem?, this]
theorem remA_take : ∀ (d : Nat) (s : Bytes) (n k : Nat), remA d s = some n → n ≤ k → remA d (s.take k) = some n
  | d, a :: b :: r, n, k, h, hk => by
    have hp := remA_pos _ _ _ h
    obtain ⟨k, rfl⟩ : ∃ k', k = k' + 2 := ⟨k - 2, by omega⟩
    rw [List.take_succ_cons, List.take_succ_cons, remA]
    rw [remA] at h
    split at h
    · rename_i h1
      rw [if_pos h1]
      simp only [Option.map_eq_some_iff] at h ⊢
      obtain ⟨m, hm, rfl⟩ := h
      exact ⟨m, remA_take _ _ _ _ hm (by omega), rfl⟩
    rename_i h1
    rw [if_neg h1]
    split at h
    · rename_i h2
      rw [if_pos h2]
      split at h
      · rename_i h3; rw [if_pos h3]; exact h
      · rename_i h3
        rw [if_neg h3]
        simp only [Option.map_eq_some_iff] at h ⊢
        obtain ⟨m, hm, rfl⟩ := h
        exact ⟨m, remA_take _ _ _ _ hm (by omega), rfl⟩
    · rename_i h2
      rw [if_neg h2]
      simp only [Option.map_eq_some_iff] at h ⊢
      obtain ⟨m, hm, rfl⟩ := h
      have := remA_take d (b :: r) m (k + 1) hm (by omega)
      rw [List.take_succ_cons] at this
      exact ⟨m, this, rfl⟩
  | d, [], n, k, h, _ => by simp [remA] at h
  | d, [a], n, k, h, _ => by simp [remA] at h
theorem rem_take {s : Bytes} {k : Nat} (h : 2 ≤ k) : rem? (s.take k) = rem? s := by
  obtain ⟨k, rfl⟩ : ∃ k', k = k' + 2 := ⟨k - 2, by omega⟩
  match s with
  | [] => rfl
  | [a] => rfl
  | a :: b :: r => rfl
theorem rem_take' {s : Bytes} {k : Nat} (h : rem? s = false) : rem? (s.take k) = false := by
  match s, k with
  | [], _ => simp [rem?]
  | _, 0 => rfl
  | [a], k + 1 => simp [rem?]
  | a :: b :: r, 1 => rfl
  | a :: b :: r, k + 2 => exact h
theorem sgn_take {s : Bytes} {k : Nat} (h : sgn s ≠ []) (hk : (sgn s).length ≤ k) : sgn (s.take k) = sgn s := by
  match s with
  | [] => simp [sgn, sg2] at h
  | [a] =>
    have : 1 ≤ k := by have := List.length_pos_iff.2 h; omega
    rw [List.take_of_length_le (by simpa using this)]
  | a :: b :: r =>
    by_cases h2 : 2 ≤ k
    · obtain ⟨k, rfl⟩ : ∃ k', k = k' + 2 := ⟨k - 2, by omega⟩
      rfl
    · have hk1 : k = 1 := by have := List.length_pos_iff.2 h; omega
      subst hk1
      unfold sgn at h hk ⊢
      by_cases hc : sg2.contains (List.take 2 (a :: b :: r)) = true
      · rw [if_pos hc] at hk; simp at hk
      · rw [if_neg hc] at h ⊢
        have : sg2.contains (List.take 2 (List.take 1 (a :: b :: r))) = false := by simp [sg2]
        rw [if_neg (by rw [this]; simp)]
        rfl
theorem tok_take {s : Bytes} {k : Int} {t : Bytes} {n : Int} {len j : Nat} (h : tok s = .ok k t n len) (hj : len ≤ j) : tok (s.take j) = .ok k t n len := by
  have hp := tok_pos h
  cases s with
  | nil => simp [tok] at h
  | cons c r =>
    obtain ⟨j, rfl⟩ : ∃ j', j = j' + 1 := ⟨j - 1, by omega⟩
    have hlen : (lett c.toNat = true ∨ digi c.toNat = true) → len = ((c :: r).takeWhile alnum).length := by
      intro hh
      rw [tok] at h
      split at h
      · unfold tokW at h
        split at h
        · cases h; rfl
        split at h <;> cases h; rfl
      split at h
      · unfold tokN at h
        split at h <;> cases h; rfl
      · rename_i h1 h2; rcases hh with hh | hh <;> contradiction
    have hw : (lett c.toNat = true ∨ digi c.toNat = true) → (c :: r.take j).takeWhile alnum = (c :: r).takeWhile alnum := by
      intro hh
      rw [← List.take_succ_cons, tw_take]
      exact List.take_of_length_le (by rw [← hlen hh]; exact hj)
    rw [List.take_succ_cons]
    rw [tok] at h ⊢
    split at h
    · rename_i h1; rw [if_pos h1, hw (.inl h1)]; exact h
    rename_i h1
    rw [if_neg h1]
    split at h
    · rename_i h2; rw [if_pos h2, hw (.inr h2)]; exact h
    rename_i h2
    rw [if_neg h2]
    split at h
    · rename_i h3
      rw [if_pos h3]
      unfold tokQ at h ⊢
      split at h
      · rename_i hq
        cases h
        have : quo (r.take j) = some t := by
          unfold quo at hq ⊢
          split at hq
          · rename_i hc
            cases hq
            rw [tw_take, List.take_of_length_le (by omega)]
            rw [if_pos ⟨by rw [List.length_take]; omega, hc.2⟩]
          · cases hq
        rw [this]
      · cases h
    · rename_i h3
      rw [if_neg h3]
      unfold tokS at h ⊢
      split at h
      · cases h
      · rename_i hne
        cases h
        have := sgn_take (k := j + 1) hne hj
        rw [List.take_succ_cons] at this
        rw [this, if_neg hne]
/-- the place of the i-th token, or of the end -/
def Rs.at? (R : Rs) (i : Nat) : Int := match R.l[i]? with
  | some t => t.pl
  | none => R.pl
theorem at_cons0 (t : Tk) (R : Rs) : (R.cons t).at? 0 = t.pl := rfl
theorem at_cons (t : Tk) (R : Rs) (i : Nat) : (R.cons t).at? (i + 1) = R.at? i := by simp [Rs.at?, Rs.cons]
/-- up to the place of a token, or of a fault, a source is read by itself -/
theorem cut : ∀ (N : Nat) (s : Bytes) (p : Int) (i : Nat), s.length < N → i ≤ (rd s p).l.length →
    ∃ j : Nat, (rd s p).at? i = p + j ∧ j ≤ s.length ∧ rd (s.take j) p = ⟨(rd s p).l.take i, p + j, 0⟩
  | 0, _, _, _, h, _ => by omega
  | N + 1, s, p, i, h, hi => by
    have hk := skip_len s
    have hb : rd (s.take (nB s)) p = ⟨[], p + (nB s : Nat), 0⟩ := by
      rw [rd_blank _ _ (skip_all s _ (Nat.le_refl _)), List.length_take, Nat.min_eq_left (by omega)]
    have e := rd_eq s p
    split at e
    · rename_i h1
      split at e
      · rw [e] at hi ⊢
        obtain rfl : i = 0 := by simpa using hi
        exact ⟨nB s, rfl, by omega, hb⟩
      · rename_i n hn
        have hp := remA_pos _ _ _ hn
        obtain ⟨j, e1, e2, e3⟩ := cut N ((skipB s).drop n) (p + nB s + n) i (by rw [List.length_drop]; omega) (by rw [← e]; exact hi)
        rw [List.length_drop] at e2
        refine ⟨nB s + n + j, by rw [e, e1]; simp; omega, by omega, ?_⟩
        rw [rd_eq, skip_take _ _ (by omega), rem_take (by omega), if_pos h1, nB_take, Nat.min_eq_right (by omega), show nB s + n + j - nB s = n + j by omega, remA_take _ _ _ _ hn (by omega)]
        simp only
        rw [List.drop_take, show n + j - n = j by omega, e3, e, show p + (nB s : Int) + n + j = p + ((nB s + n + j : Nat) : Int) by simp; omega]
    rename_i h1
    have h1 : rem? (skipB s) = false := by simpa using h1
    split at e
    · rw [e] at hi ⊢
      obtain rfl : i = 0 := by simpa using hi
      exact ⟨nB s, rfl, by omega, hb⟩
    rename_i h2
    split at e
    · rw [e] at hi ⊢
      obtain rfl : i = 0 := by simpa using hi
      exact ⟨nB s, rfl, by omega, hb⟩
    · rename_i k t n len ht
      have hp := tok_pos ht
      rw [e] at hi ⊢
      cases i with
      | zero => exact ⟨nB s, by rw [at_cons0], by omega, hb⟩
      | succ i =>
        obtain ⟨j, e1, e2, e3⟩ := cut N ((skipB s).drop len) (p + nB s + len) i (by rw [List.length_drop]; omega) (Nat.le_of_succ_le_succ hi)
        rw [List.length_drop] at e2
        refine ⟨nB s + len + j, by rw [at_cons, e1]; simp only [Int.natCast_add]; omega, by omega, ?_⟩
        rw [rd_eq, skip_take _ _ (by omega), rem_take' h1, nB_take, Nat.min_eq_right (by omega), show nB s + len + j - nB s = len + j by omega, tok_take ht (by omega)]
        have hne : (skipB s).take (len + j) ≠ [] := by intro h; have := congrArg List.length h; rw [List.length_take, List.length_nil] at this; omega
        rw [if_neg (by simp), if_neg hne]
        simp only
        rw [List.drop_take, show len + j - len = j by omega, e3]
        simp only [Rs.cons, List.take_succ_cons]
        rw [show p + (nB s : Int) + len + j = p + ((nB s + len + j : Nat) : Int) by simp; omega]
theorem tok_bad {s : Bytes} {e : Int} (h : tok s = .bad e) : 81 ≤ e ∧ e ≤ 84 := by
  cases s with
  | nil => simp only [tok, Lx.bad.injEq] at h; omega
  | cons c r =>
    rw [tok] at h
    split at h
    · unfold tokW at h
      split at h
      · cases h
      split at h <;> cases h; omega
    split at h
    · unfold tokN at h
      split at h <;> cases h; omega
    split at h
    · unfold tokQ at h
      split at h <;> cases h; omega
    · unfold tokS at h
      split at h <;> cases h; omega
/-- places rise; at the end all is read -/
theorem rises : ∀ (N : Nat) (s : Bytes) (p : Int), s.length < N → p ≤ (rd s p).at? 0 ∧ (∀ i, i < (rd s p).l.length → (rd s p).at? i < (rd s p).at? (i + 1)) ∧
    (((rd s p).e = 0 ∧ (rd s p).pl = p + s.length) ∨ (81 ≤ (rd s p).e ∧ (rd s p).e ≤ 85 ∧ (rd s p).pl < p + s.length))
  | 0, _, _, h => by omega
  | N + 1, s, p, h => by
    have hk := skip_len s
    have e := rd_eq s p
    split at e
    · rename_i h1
      split at e
      · rw [e]
        refine ⟨by simp [Rs.at?]; omega, by simp, .inr ⟨by simp, by simp, ?_⟩⟩
        have : (skipB s).length ≠ 0 := by intro h; rw [List.eq_nil_of_length_eq_zero h] at h1; simp [rem?] at h1
        simp; omega
      · rename_i n hn
        have hp := remA_pos _ _ _ hn
        obtain ⟨a1, a2, a3⟩ := rises N ((skipB s).drop n) (p + nB s + n) (by rw [List.length_drop]; omega)
        rw [List.length_drop] at a3
        rw [e]
        exact ⟨by omega, a2, by omega⟩
    split at e
    · rename_i h2
      rw [e]
      rw [h2] at hk
      refine ⟨by simp [Rs.at?]; omega, by simp, .inl ⟨rfl, by simp at hk ⊢; omega⟩⟩
    rename_i h2
    have h0 : (skipB s).length ≠ 0 := fun h => h2 (List.eq_nil_of_length_eq_zero h)
    split at e
    · rename_i e' ht
      have := tok_bad ht
      rw [e]
      refine ⟨by simp [Rs.at?]; omega, by simp, .inr ⟨by simp; omega, by simp; omega, by simp; omega⟩⟩
    · rename_i k t n len ht
      have hp := tok_pos ht
      obtain ⟨a1, a2, a3⟩ := rises N ((skipB s).drop len) (p + nB s + len) (by rw [List.length_drop]; omega)
      rw [List.length_drop] at a3
      rw [e]
      refine ⟨by rw [at_cons0]; simp; omega, ?_, ?_⟩
      · intro i hi
        cases i with
        | zero => rw [at_cons, at_cons0]; simp only; omega
        | succ i => rw [at_cons, at_cons]; exact a2 i (by simp only [Rs.cons, List.length_cons] at hi; omega)
      · show ((rd _ _).e = 0 ∧ (rd _ _).pl = _) ∨ (81 ≤ (rd _ _).e ∧ (rd _ _).e ≤ 85 ∧ (rd _ _).pl < _)
        omega
end Go.Scan
