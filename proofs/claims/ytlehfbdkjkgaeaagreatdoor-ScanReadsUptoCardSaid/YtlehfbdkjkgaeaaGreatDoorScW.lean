/- Of sources: tokens as a source says them are read as they are. Plain. -/
import Derived.Test.YtlehfbdkjkgaeaaGreatDoorScQ
namespace Go.Scan
set_option linter.unusedVariables false
set_option linter.unusedSimpArgs false
def hx (n : Nat) : UInt8 := ([48, 49, 50, 51, 52, 53, 54, 55, 56, 57, 65, 66, 67, 68, 69, 70] : Bytes).getD n 0
def dx (n : Nat) : UInt8 := ([48, 49, 50, 51, 52, 53, 54, 55, 56, 57] : Bytes).getD n 0
/-- digits in base b + 2 -/
def dg (b : Nat) (ch : Nat → UInt8) (n : Nat) : Bytes := if h : n < b + 2 then [ch n] else dg b ch (n / (b + 2)) ++ [ch (n % (b + 2))]
termination_by n
decreasing_by exact Nat.div_lt_self (by omega) (by omega)
theorem dg_num (d : UInt8 → Option Nat) (b : Nat) (ch : Nat → UInt8) (hd : ∀ x < b + 2, d (ch x) = some x) : ∀ (N n : Nat) (rest : Bytes), n < N → numF d (b + 2) 0 (dg b ch n ++ rest) = numF d (b + 2) n rest
  | 0, _, _, h => by omega
  | N + 1, n, rest, h => by
    rw [dg]
    split
    · rename_i h1
      rw [List.singleton_append, numF, hd n h1]
      simp
    · rename_i h1
      have hlt : n / (b + 2) < n := Nat.div_lt_self (by omega) (by omega)
      rw [List.append_assoc, dg_num d b ch hd N _ _ (by omega), List.singleton_append, numF, hd _ (Nat.mod_lt _ (by omega))]
      simp only
      rw [Nat.div_add_mod]
theorem dg_all (q : UInt8 → Bool) (b : Nat) (ch : Nat → UInt8) (hq : ∀ x < b + 2, q (ch x) = true) : ∀ (N n : Nat), n < N → (dg b ch n).all q = true
  | 0, _, h => by omega
  | N + 1, n, h => by
    rw [dg]
    split
    · rename_i h1; simp [hq n h1]
    · have hlt : n / (b + 2) < n := Nat.div_lt_self (by omega) (by omega)
      rw [List.all_append, dg_all q b ch hq N _ (by omega)]
      simp [hq _ (Nat.mod_lt n (show 0 < b + 2 by omega))]
theorem hx_hex : ∀ x < 14 + 2, hexD (hx x) = some x := by decide
theorem dx_dec : ∀ x < 8 + 2, decD (dx x) = some x := by decide
theorem hx_al : ∀ x < 14 + 2, alnum (hx x) = true := by decide
theorem dx_al : ∀ x < 8 + 2, alnum (dx x) = true := by decide
def hexs (n : Nat) : Bytes := dg 14 hx n
def decs (n : Nat) : Bytes := dg 8 dx n
theorem hexs_al (n : Nat) : (hexs n).all alnum = true := dg_all _ _ _ hx_al (n + 1) n (Nat.lt_succ_self _)
theorem decs_al (n : Nat) : (decs n).all alnum = true := dg_all _ _ _ dx_al (n + 1) n (Nat.lt_succ_self _)
theorem decs_dg (n : Nat) : (decs n).all (fun c => (decD c).isSome) = true := dg_all _ _ _ (by decide) (n + 1) n (Nat.lt_succ_self _)
theorem dg_ne (b : Nat) (ch : Nat → UInt8) (n : Nat) : dg b ch n ≠ [] := by rw [dg]; split <;> simp
theorem num_hexs (n : Nat) : numF hexD 16 0 (hexs n) = some n := by
  have := dg_num hexD 14 hx hx_hex (n + 1) n [] (Nat.lt_succ_self _)
  rwa [List.append_nil, numF] at this
theorem num_decs (n : Nat) : numF decD 10 0 (decs n) = some n := by
  have := dg_num decD 8 dx dx_dec (n + 1) n [] (Nat.lt_succ_self _)
  rwa [List.append_nil, numF] at this
theorem num_pad (d : UInt8 → Option Nat) (b k : Nat) (l : Bytes) (hd : d 48 = some 0) : numF d b 0 (List.replicate k 48 ++ l) = numF d b 0 l := by
  induction k with
  | zero => rfl
  | succ k ih => rw [List.replicate_succ, List.cons_append, numF, hd]; simpa using ih
/-- a number in base sixteen, with a nought ahead -/
def based (n : Nat) : Bytes := 48 :: hexs n
theorem based_al (n : Nat) : (based n).all alnum = true := by
  have := hexs_al n
  rw [based, List.all_cons, this]; rfl
theorem num_based (n : Nat) : numF hexD 16 0 (based n) = some n := by
  have := num_pad hexD 16 1 (hexs n) rfl
  rw [num_hexs] at this; exact this
theorem getLast_app (l : Bytes) (c : UInt8) : (l ++ [c]).getLast? = some c := by simp
theorem numb_H (n : Nat) (h : n ≤ 4294967295) : numb (based n ++ [72]) = some (3, sgn32 n) := by
  unfold numb
  rw [getLast_app, if_pos rfl, List.dropLast_concat, numM, num_based, Option.filter_some, if_pos (by simpa using h)]
  rfl
theorem numb_X (n : Nat) : numb (based n ++ [88]) = if n ≤ 255 then some (4, (n : Int)) else none := by
  unfold numb
  rw [getLast_app, if_neg (by simp), if_pos rfl, List.dropLast_concat, numM, num_based, Option.filter_some]
  split <;> simp_all
theorem dec_last {l : Bytes} (h : l.all (fun c => (decD c).isSome) = true) (c : UInt8) (hc : decD c = none) : l.getLast? ≠ some c := by
  intro e
  have hm := List.mem_of_getLast? e
  rw [List.all_eq_true] at h
  have := h c hm
  rw [hc] at this; simp at this
theorem numb_dec (k n : Nat) : numb (List.replicate k 48 ++ decs n) = if n ≤ 2147483647 then some (3, (n : Int)) else none := by
  have ha : (List.replicate k 48 ++ decs n).all (fun c => (decD c).isSome) = true := by
    rw [List.all_append, decs_dg, Bool.and_true, List.all_eq_true]
    intro c hc
    rw [List.mem_replicate] at hc
    rw [hc.2]; rfl
  unfold numb
  rw [if_neg (dec_last ha 72 (by decide)), if_neg (dec_last ha 88 (by decide)), numM, num_pad _ _ _ _ rfl, num_decs, Option.filter_some]
  split <;> simp_all
theorem tw_app {p : UInt8 → Bool} {w rest : Bytes} (h : w.all p = true) (hr : ∀ c r, rest = c :: r → p c = false) : (w ++ rest).takeWhile p = w := by
  rw [List.takeWhile_append_of_pos (by simpa [List.all_eq_true] using h)]
  cases rest with
  | nil => simp
  | cons c r => rw [List.takeWhile_cons, hr c r rfl]; simp
/-- how a source says a token -/
def writ (t : Tk) : Bytes := if t.kind = 3 then based (t.n % 4294967296).toNat ++ [72] else if t.kind = 4 then based (t.n % 4294967296).toNat ++ [88] else if t.kind = 5 then 34 :: (t.text ++ [34]) else t.text
/-- what may stand behind a token -/
def brk (rest : Bytes) : Prop := ∀ c r, rest = c :: r → c = 32 ∨ c = 40
theorem brk_al {rest : Bytes} (h : brk rest) : ∀ c r, rest = c :: r → alnum c = false := by
  intro c r e
  rcases h c r e with rfl | rfl <;> decide
def good (t : Tk) : Prop := (t.kind = 2 ∧ t.n = 0 ∧ kws.contains t.text = true) ∨
  (t.kind = 1 ∧ t.n = 0 ∧ kws.contains t.text = false ∧ t.text.length ≤ 20 ∧ t.text.all alnum = true ∧ ∃ c r, t.text = c :: r ∧ lett c.toNat = true) ∨
  (t.kind = 3 ∧ t.text = [] ∧ -2147483648 ≤ t.n ∧ t.n ≤ 2147483647) ∨ (t.kind = 4 ∧ t.text = [] ∧ 0 ≤ t.n ∧ t.n ≤ 255) ∨
  (t.kind = 5 ∧ t.n = 0 ∧ t.text.length ≤ 200 ∧ t.text.all prn = true ∧ t.text.all (· != 34) = true) ∨
  (t.kind = 6 ∧ t.n = 0 ∧ (sg2.contains t.text = true ∨ ∃ c, t.text = [c] ∧ sg1.contains c = true))
theorem kws_al : ∀ w ∈ kws, w.all alnum = true ∧ (match w with | c :: _ => lett c.toNat | [] => false) = true ∧ w.length ≤ 20 := by decide
theorem tw_all {p : UInt8 → Bool} : ∀ l : Bytes, (l.takeWhile p).all p = true
  | [] => rfl
  | c :: l => by
    rw [List.takeWhile_cons]
    split
    · rename_i h; rw [List.all_cons, h, tw_all l]; rfl
    · rfl
theorem numM_le {d : UInt8 → Option Nat} {b m : Nat} {s : Bytes} {n : Nat} (h : numM d b m s = some n) : n ≤ m := by
  unfold numM at h
  simp only [Option.filter_eq_some_iff, decide_eq_true_eq] at h
  exact h.2
theorem numb_good {w : Bytes} {k n p : Int} (h : numb w = some (k, n)) : good ⟨k, [], n, p⟩ := by
  unfold numb at h
  split at h
  · simp only [Option.map_eq_some_iff] at h
    obtain ⟨m, hm, e⟩ := h
    have := numM_le hm
    cases e
    refine .inr (.inr (.inl ⟨rfl, rfl, ?_⟩))
    simp only [sgn32]
    split <;> omega
  split at h
  · simp only [Option.map_eq_some_iff] at h
    obtain ⟨m, hm, e⟩ := h
    have := numM_le hm
    cases e
    exact .inr (.inr (.inr (.inl ⟨rfl, rfl, by simp, by simp only; omega⟩)))
  · simp only [Option.map_eq_some_iff] at h
    obtain ⟨m, hm, e⟩ := h
    have := numM_le hm
    cases e
    exact .inr (.inr (.inl ⟨rfl, rfl, by simp only; omega, by simp only; omega⟩))
theorem tok_good {s : Bytes} {k : Int} {t : Bytes} {n p : Int} {len : Nat} (h : tok s = .ok k t n len) : good ⟨k, t, n, p⟩ := by
  cases s with
  | nil => simp [tok] at h
  | cons c r =>
    rw [tok] at h
    split at h
    · rename_i hl
      have ha : alnum c = true := by simp [alnum, hl]
      have hw : (c :: r).takeWhile alnum = c :: r.takeWhile alnum := by rw [List.takeWhile_cons, if_pos ha]
      unfold tokW at h
      split at h
      · rename_i hk
        cases h; exact .inl ⟨rfl, rfl, hk⟩
      rename_i hk
      split at h
      · cases h
      · rename_i h20
        cases h
        exact .inr (.inl ⟨rfl, rfl, by simpa using hk, by simp only; omega, tw_all _, c, _, hw, hl⟩)
    split at h
    · unfold tokN at h
      split at h
      · rename_i hn; cases h; exact numb_good hn
      · cases h
    split at h
    · unfold tokQ at h
      split at h
      · rename_i hq
        cases h
        unfold quo at hq
        split at hq
        · rename_i hc
          cases hq
          exact .inr (.inr (.inr (.inr (.inl ⟨rfl, rfl, hc.2.1, hc.2.2, tw_all _⟩))))
        · cases hq
      · cases h
    · unfold tokS at h
      split at h
      · cases h
      · rename_i hne
        cases h
        refine .inr (.inr (.inr (.inr (.inr ⟨rfl, rfl, ?_⟩))))
        unfold sgn at hne ⊢
        split
        · rename_i h2; exact .inl h2
        · rename_i h2
          rw [if_neg h2] at hne
          simp only at hne ⊢
          split
          · rename_i h3; exact .inr ⟨c, rfl, h3⟩
          · rename_i h3; rw [if_neg h3] at hne; exact absurd rfl hne
theorem rd_good : ∀ (N : Nat) (s : Bytes) (p : Int), s.length < N → ∀ t ∈ (rd s p).l, good t
  | 0, _, _, h => by omega
  | N + 1, s, p, h => by
    have hk := skip_len s
    have e := rd_eq s p
    split at e
    · split at e
      · rw [e]; simp
      · rename_i n hn
        have hp := remA_pos _ _ _ hn
        rw [e]
        exact rd_good N _ _ (by rw [List.length_drop]; omega)
    split at e
    · rw [e]; simp
    split at e
    · rw [e]; simp
    · rename_i k t n len ht
      have hp := tok_pos ht
      rw [e]
      intro x hx
      simp only [Rs.cons, List.mem_cons] at hx
      rcases hx with rfl | hx
      · exact tok_good ht
      · exact rd_good N _ _ (by rw [List.length_drop]; omega) x hx
theorem sgn_sg2 {t rest : Bytes} (h : sg2.contains t = true) : sgn (t ++ rest) = t := by
  have : t = [46, 46] ∨ t = [58, 61] ∨ t = [60, 61] ∨ t = [62, 61] := by simpa [sg2] using h
  rcases this with rfl | rfl | rfl | rfl <;> rfl
theorem sgn_sg1 {c : UInt8} {rest : Bytes} (h : sg1.contains c = true) (hb : brk rest) : sgn ([c] ++ rest) = [c] := by
  unfold sgn
  have h2 : sg2.contains (List.take 2 ([c] ++ rest)) = false := by
    cases rest with
    | nil => simp [sg2]
    | cons x r => rcases hb x r rfl with rfl | rfl <;> simp [sg2]
  rw [if_neg (by rw [h2]; simp)]
  simp only [List.singleton_append, h, if_true]
/-- a token is read from how it is written -/
theorem lex {t : Tk} (h : good t) {rest : Bytes} (hb : brk rest) : tok (writ t ++ rest) = .ok t.kind t.text t.n (writ t).length ∧ skipB (writ t ++ rest) = writ t ++ rest ∧ rem? (writ t ++ rest) = false ∧ writ t ≠ [] := by
  have nb : ∀ (c : UInt8) (r : Bytes), blank c = false → skipB (c :: r) = c :: r := by
    intro c r h; unfold skipB; rw [List.dropWhile_cons, h]; simp
  have nr : ∀ (c : UInt8) (r : Bytes), c ≠ 40 → rem? (c :: r) = false := by
    intro c r h
    cases r with
    | nil => rfl
    | cons b r => simp [rem?, h]
  obtain ⟨k, x, n, p⟩ := t
  have lt : ∀ c : UInt8, lett c.toNat = true → blank c = false ∧ c ≠ 40 := by
    intro c hc
    simp only [lett, Bool.or_eq_true, Bool.and_eq_true, decide_eq_true_eq] at hc
    constructor
    · simp only [blank, Bool.or_eq_false_iff, beq_eq_false_iff_ne, ne_eq]
      refine ⟨⟨⟨?_, ?_⟩, ?_⟩, ?_⟩ <;> (intro e; subst e; simp at hc)
    · intro e; subst e; simp at hc
  have num : ∀ (m : Nat) (z : UInt8), alnum z = true → z ≠ 40 → ∀ k n, numb (based m ++ [z]) = some (k, n) → tok (based m ++ [z] ++ rest) = .ok k [] n (based m ++ [z]).length ∧ skipB (based m ++ [z] ++ rest) = based m ++ [z] ++ rest ∧ rem? (based m ++ [z] ++ rest) = false ∧ based m ++ [z] ≠ [] := by
    intro m z hz hz' k n hn
    have hw : (based m ++ [z] ++ rest).takeWhile alnum = based m ++ [z] := tw_app (by rw [List.all_append, based_al]; simp [hz]) (brk_al hb)
    refine ⟨?_, nb _ _ rfl, nr _ _ (by decide), by simp⟩
    have : tok (based m ++ [z] ++ rest) = tokN ((based m ++ [z] ++ rest).takeWhile alnum) := by
      simp only [based, List.cons_append, tok]
      rw [if_neg (by decide), if_pos (by decide)]
    rw [this, hw, tokN, hn]
  rcases h with ⟨hk, hn, h⟩ | ⟨hk, hn, h1, h2, h3, c, r, h4, h5⟩ | ⟨hk, ht, h1, h2⟩ | ⟨hk, ht, h1, h2⟩ | ⟨hk, hn, h1, h2, h3⟩ | ⟨hk, hn, h⟩
  · simp only at hk hn h
    subst hk; subst hn
    have ha := kws_al x (by simpa using h)
    have hw : writ ⟨2, x, 0, p⟩ = x := rfl
    rw [hw]
    cases x with
    | nil => simp at ha
    | cons c r =>
      have hl : lett c.toNat = true := ha.2.1
      have := lt c hl
      refine ⟨?_, nb _ _ this.1, nr _ _ this.2, by simp⟩
      rw [List.cons_append, tok, if_pos hl, ← List.cons_append, tw_app ha.1 (brk_al hb), tokW, if_pos h]
  · simp only at hk hn h1 h2 h3 h4
    subst hk; subst hn; subst h4
    have hw : writ ⟨1, c :: r, 0, p⟩ = c :: r := rfl
    rw [hw]
    have := lt c h5
    refine ⟨?_, nb _ _ this.1, nr _ _ this.2, by simp⟩
    rw [List.cons_append, tok, if_pos h5, ← List.cons_append, tw_app h3 (brk_al hb), tokW, if_neg (by rw [h1]; simp), if_neg (by omega)]
  · simp only at hk ht h1 h2
    subst hk; subst ht
    have hw : writ ⟨3, [], n, p⟩ = based (n % 4294967296).toNat ++ [72] := rfl
    rw [hw]
    refine num _ 72 (by decide) (by decide) 3 n ?_
    rw [numb_H _ (by omega)]
    simp only [Option.some.injEq, Prod.mk.injEq, true_and, sgn32]
    split <;> omega
  · simp only at hk ht h1 h2
    subst hk; subst ht
    have hw : writ ⟨4, [], n, p⟩ = based (n % 4294967296).toNat ++ [88] := rfl
    rw [hw]
    refine num _ 88 (by decide) (by decide) 4 n ?_
    rw [numb_X, if_pos (by omega)]
    simp only [Option.some.injEq, Prod.mk.injEq, true_and]
    omega
  · simp only at hk hn h1 h2 h3
    subst hk; subst hn
    have hw : writ ⟨5, x, 0, p⟩ = 34 :: (x ++ [34]) := rfl
    rw [hw]
    refine ⟨?_, nb _ _ rfl, nr _ _ (by decide), by simp⟩
    rw [List.cons_append, tok, if_neg (by decide), if_neg (by decide), if_pos rfl, tokQ]
    have hq : (x ++ [34] ++ rest).takeWhile (· != 34) = x := by
      rw [List.append_assoc]
      exact tw_app h3 (by intro c r e; simp at e; rw [← e.1]; rfl)
    have : quo (x ++ [34] ++ rest) = some x := by
      unfold quo
      rw [hq, if_pos ⟨by simp, h1, h2⟩]
    rw [this]
    simp
  · simp only at hk hn h
    subst hk; subst hn
    have hw : writ ⟨6, x, 0, p⟩ = x := rfl
    rw [hw]
    have hs : sgn (x ++ rest) = x := by
      rcases h with h | ⟨c, rfl, h⟩
      · exact sgn_sg2 h
      · exact sgn_sg1 h hb
    rcases h with h | ⟨c, rfl, h⟩
    · have : x = [46, 46] ∨ x = [58, 61] ∨ x = [60, 61] ∨ x = [62, 61] := by simpa [sg2] using h
      rcases this with rfl | rfl | rfl | rfl <;>
      · refine ⟨?_, nb _ _ rfl, nr _ _ (by decide), by simp⟩
        rw [List.cons_append, tok, if_neg (by decide), if_neg (by decide), if_neg (by decide), tokS, ← List.cons_append, hs]
        rfl
    · have hc : (!lett c.toNat && !digi c.toNat && (c != 34) && !blank c) = true := by
        have : ∀ c ∈ sg1, (!lett c.toNat && !digi c.toNat && (c != 34) && !blank c) = true := by decide
        exact this c (by simpa using h)
      simp only [Bool.and_eq_true, Bool.not_eq_true', bne_iff_ne, ne_eq] at hc
      obtain ⟨⟨⟨c1, c2⟩, c3⟩, c4⟩ := hc
      refine ⟨?_, nb _ _ c4, ?_, by simp⟩
      · rw [List.singleton_append, tok, if_neg (by rw [c1]; simp), if_neg (by rw [c2]; simp), if_neg c3, tokS, ← List.singleton_append, hs]
        rfl
      · cases rest with
        | nil => rfl
        | cons y r => rcases hb y r rfl with rfl | rfl <;> simp [rem?]
/-- what stands between two tokens -/
def REM : Bytes := [40, 42, 40, 42, 42, 41, 34, 42, 41]
theorem rd_sp (s : Bytes) (p : Int) : rd (32 :: s) p = rd s (p + 1) := by
  have h1 : skipB (32 :: s) = skipB s := rfl
  have h2 : nB (32 :: s) = nB s + 1 := rfl
  rw [rd_eq, rd_eq s, h1, h2]
  simp only [Int.natCast_add, Int.natCast_one, show p + ((nB s : Int) + 1) = p + 1 + nB s by omega]
theorem rem_REM (s : Bytes) : remA 0 (REM ++ s) = some 9 := by
  simp [REM, remA]
theorem rd_rem (s : Bytes) (p : Int) : rd (REM ++ s) p = rd s (p + 9) := by
  have h1 : skipB (REM ++ s) = REM ++ s := rfl
  have h2 : nB (REM ++ s) = 0 := rfl
  rw [rd_eq, h1, h2, rem_REM, if_pos (by rfl)]
  simp only [Int.natCast_zero, Int.add_zero]
  rfl
theorem rd_end (p : Int) : rd [] p = ⟨[], p, 0⟩ := by rw [rd_blank _ _ rfl]; simp
theorem rd_tok {t : Tk} (h : good t) {rest : Bytes} (hb : brk rest) (p : Int) : rd (writ t ++ rest) p = (rd rest (p + (writ t).length)).cons ⟨t.kind, t.text, t.n, p⟩ := by
  obtain ⟨h1, h2, h3, h4⟩ := lex h hb
  have hn : nB (writ t ++ rest) = 0 := by have := skip_len (writ t ++ rest); rw [h2] at this; omega
  rw [rd_eq, h2, h3, hn, if_neg (by simp), if_neg (by simp [h4]), h1]
  simp
/-- tokens, one behind the other, something between each two -/
def jn (sp : Nat → Bytes) : Nat → List Tk → Bytes
  | _, [] => []
  | i, t :: r => (if i = 0 then [] else sp i) ++ writ t ++ jn sp (i + 1) r
def jp (sp : Nat → Bytes) : Nat → Int → List Tk → List Int
  | _, _, [] => []
  | i, p, t :: r => (p + (if i = 0 then [] else sp i).length) :: jp sp (i + 1) (p + (if i = 0 then [] else sp i).length + (writ t).length) r
def fin0 (p : Int) : Tk := ⟨0, [], 0, p⟩
def whole (R : Rs) : List Tk := R.l ++ [fin0 R.pl]
theorem rd_sep {x : Bytes} (h : x = [32] ∨ x = REM) (s : Bytes) (p : Int) : rd (x ++ s) p = rd s (p + x.length) := by
  rcases h with rfl | rfl
  · exact rd_sp s p
  · exact rd_rem s p
theorem jn_brk (sp : Nat → Bytes) (hsp : ∀ i, sp i = [32] ∨ sp i = REM) (i : Nat) (hi : i ≠ 0) (l : List Tk) : brk (jn sp i l) := by
  cases l with
  | nil => intro c r e; cases e
  | cons t r =>
    intro c r' e
    rw [jn, if_neg hi] at e
    rcases hsp i with h | h <;> (rw [h] at e; simp [REM] at e; have := e.1; subst this; simp)
theorem join (sp : Nat → Bytes) (hsp : ∀ i, sp i = [32] ∨ sp i = REM) (q : Int) : ∀ (l : List Tk) (i : Nat) (p : Int), (∀ t ∈ l, good t) →
    (rd (jn sp i (l ++ [fin0 q])) p).e = 0 ∧ (whole (rd (jn sp i (l ++ [fin0 q])) p)).map (·.pl) = jp sp i p (l ++ [fin0 q]) ∧
      (whole (rd (jn sp i (l ++ [fin0 q])) p)).map (fun t => (t.kind, t.text, t.n)) = (l ++ [fin0 q]).map (fun t => (t.kind, t.text, t.n))
  | [], i, p, _ => by
    have hw : writ (fin0 q) = [] := rfl
    rw [List.nil_append, jn, jn, jp, jp, hw, List.append_nil, List.append_nil]
    have e : rd (if i = 0 then [] else sp i) p = ⟨[], p + (if i = 0 then [] else sp i).length, 0⟩ := by
      split
      · rw [rd_end]; simp
      · have := rd_sep (hsp i) [] p
        rw [List.append_nil, rd_end] at this
        exact this
    rw [e]
    exact ⟨rfl, rfl, rfl⟩
  | t :: l, i, p, h => by
    have hs : ∀ X, rd ((if i = 0 then [] else sp i) ++ X) p = rd X (p + (if i = 0 then [] else sp i).length) := by
      intro X
      split
      · simp
      · exact rd_sep (hsp i) X p
    rw [List.cons_append, jn, jp, List.append_assoc, hs, rd_tok (h t (by simp)) (jn_brk sp hsp (i + 1) (by omega) _)]
    obtain ⟨a, b, c⟩ := join sp hsp q l (i + 1) (p + (if i = 0 then [] else sp i).length + (writ t).length) (fun x hx => h x (by simp [hx]))
    refine ⟨a, ?_, ?_⟩
    · simp only [whole, Rs.cons, List.cons_append, List.map_cons] at b ⊢
      rw [b]
    · simp only [whole, Rs.cons, List.cons_append, List.map_cons] at c ⊢
      rw [c]
end Go.Scan
