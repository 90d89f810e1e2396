/- Of sources: a number's word, by digits of both sorts. Plain. -/
import Derived.Test.YtlehfbdkjkgaeaaGreatDoorScW
import Derived.Lib.Case
namespace Go.Scan
open Go
set_option linter.unusedVariables false
set_option linter.unusedSimpArgs false
/-- a digit's value, small letters too -/
def puD (c : UInt8) : Nat := if 48 ≤ c.toNat ∧ c.toNat ≤ 57 then c.toNat - 48 else if 97 ≤ (c ||| 32).toNat ∧ (c ||| 32).toNat ≤ 122 then (c ||| 32).toNat - 87 else 99
def cutN (b : Nat) : Nat := if b = 10 then 1844674407370955162 else 1152921504606846976
/-- a number by its digits: it, and which error -/
def puF (b : Nat) : Nat → Bytes → Nat × Nat
  | n, [] => (n, 0)
  | n, c :: r => if b ≤ puD c then (0, 2) else if cutN b ≤ n then (18446744073709551615, 1) else if 18446744073709551616 ≤ b * n + puD c then (18446744073709551615, 1) else puF b (b * n + puD c) r
def puR (s : Bytes) (b : Nat) : Nat × Nat := if s = [] then (0, 2) else puF b 0 s
theorem byte_all {p : UInt8 → Prop} [DecidablePred p] (h : ∀ i : Fin 256, p (UInt8.ofNat i.1)) (c : UInt8) : p c := by
  have := h ⟨c.toNat, c.toNat_lt⟩
  simpa using this
def hexB (c : UInt8) : Bool := match hexD c with | some x => decide (Lib.upperB c = c ∧ puD c = x ∧ x < 16) | none => decide (¬ (puD c < 16 ∧ Lib.upperB c = c))
def decB (c : UInt8) : Bool := match decD c with | some x => decide (Lib.upperB c = c ∧ puD c = x ∧ x < 10) | none => decide (¬ (puD c < 10 ∧ Lib.upperB c = c))
theorem hex_all (c : UInt8) : hexB c = true := byte_all (p := fun c => hexB c = true) (by decide +kernel) c
theorem dec_all (c : UInt8) : decB c = true := byte_all (p := fun c => decB c = true) (by decide +kernel) c
theorem hex_some {c : UInt8} {x : Nat} (h : hexD c = some x) : Lib.upperB c = c ∧ puD c = x ∧ x < 16 := by
  have := hex_all c; rw [hexB, h] at this; simpa using this
theorem hex_none {c : UInt8} (h : hexD c = none) : ¬ (puD c < 16 ∧ Lib.upperB c = c) := by
  have := hex_all c; rw [hexB, h] at this; exact of_decide_eq_true this
theorem dec_some {c : UInt8} {x : Nat} (h : decD c = some x) : Lib.upperB c = c ∧ puD c = x ∧ x < 10 := by
  have := dec_all c; rw [decB, h] at this; simpa using this
theorem dec_none {c : UInt8} (h : decD c = none) : ¬ (puD c < 10 ∧ Lib.upperB c = c) := by
  have := dec_all c; rw [decB, h] at this; exact of_decide_eq_true this
theorem to16 : ∀ (s : Bytes) (n m : Nat), numF hexD 16 n s = some m → Lib.toUpperA s = s ∧ n ≤ m ∧ (m < 18446744073709551616 → puF 16 n s = (m, 0))
  | [], n, m, h => by simp only [numF, Option.some.injEq] at h; subst h; exact ⟨rfl, Nat.le_refl _, fun _ => rfl⟩
  | c :: r, n, m, h => by
    rw [numF] at h
    cases hd : hexD c with
    | none => rw [hd] at h; cases h
    | some x =>
      rw [hd] at h
      simp only at h
      obtain ⟨h1, h2, h3⟩ := hex_some hd
      obtain ⟨i1, i2, i3⟩ := to16 r _ _ h
      refine ⟨by simp only [Lib.toUpperA, List.map_cons, h1] at i1 ⊢; rw [i1], by omega, fun hm => ?_⟩
      rw [puF, h2, if_neg (by omega), if_neg (by have : cutN 16 = 1152921504606846976 := rfl; omega), if_neg (by omega)]
      exact i3 hm
theorem of16 : ∀ (s : Bytes) (n m : Nat), puF 16 n s = (m, 0) → Lib.toUpperA s = s → numF hexD 16 n s = some m
  | [], n, m, h, _ => by simp only [puF, Prod.mk.injEq, and_true] at h; rw [numF, h]
  | c :: r, n, m, h, hu => by
    rw [puF] at h
    simp only [Lib.toUpperA, List.map_cons, List.cons.injEq] at hu
    split at h
    · simp at h
    rename_i h1
    split at h
    · simp at h
    split at h
    · simp at h
    rw [numF]
    cases hd : hexD c with
    | none => exact absurd ⟨by omega, hu.1⟩ (hex_none hd)
    | some x =>
      simp only
      obtain ⟨_, h2, _⟩ := hex_some hd
      rw [← h2]
      exact of16 r _ _ h hu.2
theorem num16 (s : Bytes) (hs : s ≠ []) (most : Nat) (hm : most < 18446744073709551616) : numM hexD 16 most s = if (puR s 16).2 = 0 ∧ (puR s 16).1 ≤ most ∧ Lib.toUpperA s = s then some (puR s 16).1 else none := by
  have hR : puR s 16 = puF 16 0 s := by rw [puR, if_neg hs]
  rw [hR]
  cases hn : numF hexD 16 0 s with
  | some m =>
    obtain ⟨h1, _, h3⟩ := to16 s 0 m hn
    rw [numM, hn, Option.filter_some]
    by_cases hle : m ≤ most
    · rw [h3 (by omega), if_pos (by simpa using hle), if_pos ⟨rfl, hle, h1⟩]
    · rw [if_neg (by simpa using hle), if_neg]
      rintro ⟨h4, h5, h6⟩
      have := of16 s 0 (puF 16 0 s).1 (Prod.ext rfl h4) h6
      rw [hn] at this; cases this; omega
  | none =>
    rw [numM, hn, if_neg]
    · rfl
    · rintro ⟨h4, h5, h6⟩
      have := of16 s 0 (puF 16 0 s).1 (Prod.ext rfl h4) h6
      rw [hn] at this; cases this
theorem to10 : ∀ (s : Bytes) (n m : Nat), numF decD 10 n s = some m → Lib.toUpperA s = s ∧ n ≤ m ∧ (m < 18446744073709551616 → puF 10 n s = (m, 0))
  | [], n, m, h => by simp only [numF, Option.some.injEq] at h; subst h; exact ⟨rfl, Nat.le_refl _, fun _ => rfl⟩
  | c :: r, n, m, h => by
    rw [numF] at h
    cases hd : decD c with
    | none => rw [hd] at h; cases h
    | some x =>
      rw [hd] at h
      simp only at h
      obtain ⟨h1, h2, h3⟩ := dec_some hd
      obtain ⟨i1, i2, i3⟩ := to10 r _ _ h
      refine ⟨by simp only [Lib.toUpperA, List.map_cons, h1] at i1 ⊢; rw [i1], by omega, fun hm => ?_⟩
      rw [puF, h2, if_neg (by omega), if_neg (by have : cutN 10 = 1844674407370955162 := rfl; omega), if_neg (by omega)]
      exact i3 hm
theorem of10 : ∀ (s : Bytes) (n m : Nat), puF 10 n s = (m, 0) → Lib.toUpperA s = s → numF decD 10 n s = some m
  | [], n, m, h, _ => by simp only [puF, Prod.mk.injEq, and_true] at h; rw [numF, h]
  | c :: r, n, m, h, hu => by
    rw [puF] at h
    simp only [Lib.toUpperA, List.map_cons, List.cons.injEq] at hu
    split at h
    · simp at h
    rename_i h1
    split at h
    · simp at h
    split at h
    · simp at h
    rw [numF]
    cases hd : decD c with
    | none => exact absurd ⟨by omega, hu.1⟩ (dec_none hd)
    | some x =>
      simp only
      obtain ⟨_, h2, _⟩ := dec_some hd
      rw [← h2]
      exact of10 r _ _ h hu.2
theorem num10 (s : Bytes) (hs : s ≠ []) (most : Nat) (hm : most < 18446744073709551616) : numM decD 10 most s = if (puR s 10).2 = 0 ∧ (puR s 10).1 ≤ most ∧ Lib.toUpperA s = s then some (puR s 10).1 else none := by
  have hR : puR s 10 = puF 10 0 s := by rw [puR, if_neg hs]
  rw [hR]
  cases hn : numF decD 10 0 s with
  | some m =>
    obtain ⟨h1, _, h3⟩ := to10 s 0 m hn
    rw [numM, hn, Option.filter_some]
    by_cases hle : m ≤ most
    · rw [h3 (by omega), if_pos (by simpa using hle), if_pos ⟨rfl, hle, h1⟩]
    · rw [if_neg (by simpa using hle), if_neg]
      rintro ⟨h4, h5, h6⟩
      have := of10 s 0 (puF 10 0 s).1 (Prod.ext rfl h4) h6
      rw [hn] at this; cases this; omega
  | none =>
    rw [numM, hn, if_neg]
    · rfl
    · rintro ⟨h4, h5, h6⟩
      have := of10 s 0 (puF 10 0 s).1 (Prod.ext rfl h4) h6
      rw [hn] at this; cases this
theorem suf_last (s : Bytes) (c : UInt8) : (decide (1 ≤ s.length) && (s.drop (s.length - 1) == [c])) = decide (s.getLast? = some c) := by
  rcases List.eq_nil_or_concat s with rfl | ⟨l, x, rfl⟩
  · rfl
  · simp only [List.concat_eq_append, List.length_append, List.length_cons, List.length_nil, Nat.zero_add, Nat.add_sub_cancel, List.drop_left, List.getLast?_append, List.getLast?_singleton, Option.some_or, Option.some.injEq, show 1 ≤ l.length + 1 from by omega, decide_true, Bool.true_and]
    simp [Bool.beq_eq_decide_eq]
end Go.Scan
