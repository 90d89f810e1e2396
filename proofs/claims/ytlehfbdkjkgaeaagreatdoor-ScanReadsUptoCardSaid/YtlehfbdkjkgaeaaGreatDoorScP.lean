/- Of sources: what a scanner reads, in plain words. No program. -/
import Init
namespace Go.Scan
abbrev Bytes := List UInt8
set_option linter.unusedVariables false
set_option linter.unusedSimpArgs false
def lett (n : Int) : Bool := decide (97 ≤ n) && decide (n ≤ 122) || decide (65 ≤ n) && decide (n ≤ 90)
def digi (n : Int) : Bool := decide (48 ≤ n) && decide (n ≤ 57)
def alnum (c : UInt8) : Bool := lett c.toNat || digi c.toNat
def blank (c : UInt8) : Bool := c == 32 || c == 9 || c == 10 || c == 13
def kws : List Bytes := [[65, 82, 82, 65, 89], [66, 69, 71, 73, 78], [66, 89], [67, 79, 78, 83, 84], [68, 73, 86], [68, 79], [69, 76, 83, 69], [69, 76, 83, 73, 70], [69, 78, 68], [70, 65, 76, 83, 69], [70, 79, 82], [73, 70], [73, 77, 80, 79, 82, 84], [73, 78], [73, 83], [77, 79, 68], [77, 79, 68, 85, 76, 69], [78, 73, 76], [79, 70], [79, 82], [80, 79, 73, 78, 84, 69, 82], [80, 82, 79, 67, 69, 68, 85, 82, 69], [82, 69, 67, 79, 82, 68], [82, 69, 80, 69, 65, 84], [82, 69, 84, 85, 82, 78], [84, 72, 69, 78], [84, 79], [84, 82, 85, 69], [84, 89, 80, 69], [85, 78, 84, 73, 76], [86, 65, 82], [87, 72, 73, 76, 69]]
def sg2 : List Bytes := [[46, 46], [58, 61], [60, 61], [62, 61]]
def sg1 : Bytes := [43, 45, 42, 47, 126, 38, 46, 44, 59, 124, 40, 41, 91, 93, 123, 125, 58, 94, 61, 35, 60, 62]
/-- what a remark takes, so deep in -/
def remA : Nat → Bytes → Option Nat
  | deep, a :: b :: r => if a = 40 ∧ b = 42 then (remA (deep + 1) r).map (· + 2)
    else if a = 42 ∧ b = 41 then (if deep = 1 then some 2 else (remA (deep - 1) r).map (· + 2))
    else (remA deep (b :: r)).map (· + 1)
  | _, _ => none
/-- a digit's value in base sixteen; great ones alone -/
def hexD (c : UInt8) : Option Nat := if 48 ≤ c.toNat ∧ c.toNat ≤ 57 then some (c.toNat - 48) else if 65 ≤ c.toNat ∧ c.toNat ≤ 70 then some (c.toNat - 55) else none
def decD (c : UInt8) : Option Nat := if 48 ≤ c.toNat ∧ c.toNat ≤ 57 then some (c.toNat - 48) else none
/-- a number by its digits, behind one -/
def numF (d : UInt8 → Option Nat) (base : Nat) : Nat → Bytes → Option Nat
  | n, [] => some n
  | n, c :: r => match d c with
    | some x => numF d base (base * n + x) r
    | none => none
def numM (d : UInt8 → Option Nat) (base most : Nat) (s : Bytes) : Option Nat := (numF d base 0 s).filter (· ≤ most)
def sgn32 (n : Nat) : Int := if 2147483648 ≤ n then (n : Int) - 4294967296 else n
/-- the token of a word that begins with a digit: its kind, its number -/
def numb (w : Bytes) : Option (Int × Int) :=
  if w.getLast? = some 72 then (numM hexD 16 4294967295 w.dropLast).map fun (n : Nat) => ((3 : Int), sgn32 n)
  else if w.getLast? = some 88 then (numM hexD 16 255 w.dropLast).map fun (n : Nat) => ((4 : Int), (n : Int))
  else (numM decD 10 2147483647 w).map fun (n : Nat) => ((3 : Int), (n : Int))
def prn (c : UInt8) : Bool := decide (32 ≤ c.toNat ∧ c.toNat ≤ 126)
/-- the string that begins behind a quote -/
def quo (r : Bytes) : Option Bytes :=
  if (r.takeWhile (· != 34)).length < r.length ∧ (r.takeWhile (· != 34)).length ≤ 200 ∧ (r.takeWhile (· != 34)).all prn = true then some (r.takeWhile (· != 34)) else none
def sgn (s : Bytes) : Bytes := if sg2.contains (s.take 2) then s.take 2 else match s with
  | c :: _ => if sg1.contains c then [c] else []
  | [] => []
structure Tk where
  kind : Int
  text : Bytes
  n : Int
  pl : Int
  deriving Inhabited, DecidableEq
/-- the token with which a text begins, and how long it is; or why there is none -/
inductive Lx where
  | ok (kind : Int) (text : Bytes) (n : Int) (len : Nat)
  | bad (e : Int)
  deriving DecidableEq
def tokW (w : Bytes) : Lx := if kws.contains w then .ok 2 w 0 w.length else if 20 < w.length then .bad 84 else .ok 1 w 0 w.length
def tokN (w : Bytes) : Lx := match numb w with
  | some (k, n) => .ok k [] n w.length
  | none => .bad 82
def tokQ (r : Bytes) : Lx := match quo r with
  | some t => .ok 5 t 0 (t.length + 2)
  | none => .bad 83
def tokS (s : Bytes) : Lx := if sgn s = [] then .bad 81 else .ok 6 (sgn s) 0 (sgn s).length
def tok (s : Bytes) : Lx := match s with
  | [] => .bad 81
  | c :: r => if lett c.toNat then tokW (s.takeWhile alnum) else if digi c.toNat then tokN (s.takeWhile alnum) else if c = 34 then tokQ r else tokS s
/-- what was read: tokens, the place of the end or of a fault, the fault -/
structure Rs where
  l : List Tk
  pl : Int
  e : Int
def Rs.cons (t : Tk) (x : Rs) : Rs := ⟨t :: x.l, x.pl, x.e⟩
def rem? (s : Bytes) : Bool := match s with
  | a :: b :: _ => a == 40 && b == 42
  | _ => false
def skipB (s : Bytes) : Bytes := s.dropWhile blank
def nB (s : Bytes) : Nat := (s.takeWhile blank).length
def go : Nat → Bytes → Int → Rs
  | 0, _, _ => ⟨[], 0, 0⟩
  | f + 1, s, p =>
    if rem? (skipB s) then match remA 0 (skipB s) with
      | none => ⟨[], p + nB s, 85⟩
      | some n => go f ((skipB s).drop n) (p + nB s + n)
    else if skipB s = [] then ⟨[], p + nB s, 0⟩
    else match tok (skipB s) with
      | .bad e => ⟨[], p + nB s, e⟩
      | .ok k t n len => (go f ((skipB s).drop len) (p + nB s + len)).cons ⟨k, t, n, p + nB s⟩
theorem remA_pos : ∀ (d : Nat) (s : Bytes) (n : Nat), remA d s = some n → 2 ≤ n ∧ n ≤ s.length
  | d, a :: b :: r, n, h => by
    rw [remA] at h
    split at h
    · simp only [Option.map_eq_some_iff] at h
      obtain ⟨m, hm, rfl⟩ := h
      have := remA_pos _ _ _ hm
      simp only [List.length_cons]; omega
    split at h
    · split at h
      · cases h; simp
      · simp only [Option.map_eq_some_iff] at h
        obtain ⟨m, hm, rfl⟩ := h
        have := remA_pos _ _ _ hm
        simp only [List.length_cons]; omega
    · simp only [Option.map_eq_some_iff] at h
      obtain ⟨m, hm, rfl⟩ := h
      have := remA_pos _ _ _ hm
      simp only [List.length_cons] at this ⊢; omega
  | d, [], n, h => by simp [remA] at h
  | d, [a], n, h => by simp [remA] at h
theorem tw_len {α : Type} (p : α → Bool) : ∀ l : List α, (l.takeWhile p).length ≤ l.length
  | [] => by simp
  | a :: l => by
    have := tw_len p l
    rw [List.takeWhile_cons]
    split <;> simp <;> omega
theorem tok_pos {s : Bytes} {k : Int} {t : Bytes} {n : Int} {len : Nat} (h : tok s = .ok k t n len) : 1 ≤ len ∧ len ≤ s.length := by
  cases s with
  | nil => simp [tok] at h
  | cons c r =>
    have hw := tw_len alnum (c :: r)
    have hw1 : alnum c = true → 1 ≤ ((c :: r).takeWhile alnum).length := by intro h; simp [List.takeWhile_cons, h]
    rw [tok] at h
    split at h
    · rename_i hl
      have ha : alnum c = true := by simp [alnum, hl]
      unfold tokW at h
      split at h
      · simp only [Lx.ok.injEq] at h; obtain ⟨_, _, _, rfl⟩ := h; exact ⟨hw1 ha, hw⟩
      split at h
      · cases h
      · simp only [Lx.ok.injEq] at h; obtain ⟨_, _, _, rfl⟩ := h; exact ⟨hw1 ha, hw⟩
    split at h
    · rename_i hl
      have ha : alnum c = true := by simp [alnum, hl]
      unfold tokN at h
      split at h
      · simp only [Lx.ok.injEq] at h; obtain ⟨_, _, _, rfl⟩ := h; exact ⟨hw1 ha, hw⟩
      · cases h
    split at h
    · unfold tokQ at h
      split at h
      · rename_i t' ht
        simp only [Lx.ok.injEq] at h; obtain ⟨_, _, _, rfl⟩ := h
        unfold quo at ht
        split at ht
        · cases ht; rename_i h1; simp only [List.length_cons]; omega
        · cases ht
      · cases h
    · unfold tokS at h
      split at h
      · cases h
      · rename_i hne
        simp only [Lx.ok.injEq] at h; obtain ⟨_, _, _, rfl⟩ := h
        refine ⟨by have := List.length_pos_iff.2 hne; omega, ?_⟩
        unfold sgn
        split
        · rw [List.length_take]; omega
        · simp only; split <;> simp
theorem skip_len (s : Bytes) : (skipB s).length + nB s = s.length := by
  have := List.takeWhile_append_dropWhile (p := blank) (l := s)
  have := congrArg List.length this
  rw [List.length_append] at this
  unfold skipB nB; omega
theorem go_fuel : ∀ (f g : Nat) (s : Bytes) (p : Int), s.length < f → s.length < g → go f s p = go g s p
  | 0, _, _, _, h, _ => by omega
  | _, 0, _, _, _, h => by omega
  | f + 1, g + 1, s, p, hf, hg => by
    have hk := skip_len s
    rw [go, go]
    split
    · split
      · rfl
      · rename_i n hn
        have := remA_pos _ _ _ hn
        exact go_fuel f g _ _ (by rw [List.length_drop]; omega) (by rw [List.length_drop]; omega)
    split
    · rfl
    split
    · rfl
    · rename_i k t n len ht
      have := tok_pos ht
      rw [go_fuel f g _ _ (by rw [List.length_drop]; omega) (by rw [List.length_drop]; omega)]
/-- what a source from a place on is read as -/
def rd (s : Bytes) (p : Int) : Rs := go (s.length + 1) s p
theorem rd_eq (s : Bytes) (p : Int) : rd s p =
    if rem? (skipB s) then match remA 0 (skipB s) with
      | none => ⟨[], p + nB s, 85⟩
      | some n => rd ((skipB s).drop n) (p + nB s + n)
    else if skipB s = [] then ⟨[], p + nB s, 0⟩
    else match tok (skipB s) with
      | .bad e => ⟨[], p + nB s, e⟩
      | .ok k t n len => (rd ((skipB s).drop len) (p + nB s + len)).cons ⟨k, t, n, p + nB s⟩ := by
  have hk := skip_len s
  unfold rd
  rw [go]
  split
  · split
    · rfl
    · rename_i n hn
      have := remA_pos _ _ _ hn
      exact go_fuel _ _ _ _ (by rw [List.length_drop]; omega) (by omega)
  split
  · rfl
  split
  · rfl
  · rename_i k t n len ht
    have := tok_pos ht
    rw [go_fuel _ _ _ _ (by rw [List.length_drop]; omega) (Nat.lt_succ_self _)]
end Go.Scan
