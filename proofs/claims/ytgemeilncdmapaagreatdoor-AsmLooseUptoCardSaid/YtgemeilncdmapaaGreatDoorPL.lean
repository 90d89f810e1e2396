/- Of assembly texts, in plain Lean: instructions and their words. Of assembly texts, in plain Lean: numbers and their texts. Of assembly texts, in plain Lean: how instructions are written, and read. Of assembly texts, in plain Lean: what is written is read as the same words. Of assembly texts, in plain Lean: numbers as the document reads them. -/
import Derived.Test.YtgemeilncdmapaaGreatDoorAr
import Derived.Lib.ItoaNum
import Derived.Lib.ParseIntB
import Derived.Lib.ParseIntBTie
import Derived.Lib.ParseIntBCases
section
namespace Go.Asm
set_option linter.unusedSimpArgs false
abbrev Bytes := List UInt8
/-- an instruction's fields, in the document's order -/
structure In where
  f : Int
  u : Bool
  v : Bool
  a : Int
  b : Int
  op : Int
  c : Int
  n : Int
  deriving DecidableEq
/-- are U and V such as an operation takes? -/
def mayB (f : Int) (u v : Bool) (a b op c : Int) : Bool :=
  if op < 0 ∨ 15 < op ∨ (11 < op ∧ op < 15) then false
  else if op = 15 then decide (f = 1) && !u && !v && decide (a = 0) && decide (b = 0)
  else if op = 0 ∧ f = 0 then decide (b = 0) && (u && decide (c = 0) || !u && !v)
  else if op = 0 then decide (b = 0) && !(u && v)
  else (decide (op = 8 ∨ op = 9 ∨ op = 10) || !u) && (decide (f = 1) || !v)
def in16 (n : Int) : Bool := decide (0 ≤ n) && decide (n ≤ 15)
/-- is it an instruction? -/
def rightB (f : Int) (u v : Bool) (a b op c n : Int) : Bool :=
  in16 a && in16 b && in16 c &&
  (if f = 0 then decide (n = 0) && mayB f u v a b op c
   else if f = 1 then decide (c = 0) && (decide (0 ≤ n) && decide (n ≤ 65535)) && mayB f u v a b op c
   else if f = 2 then decide (c = 0) && decide (op = 0) && (decide (-524288 ≤ n) && decide (n ≤ 524287))
   else if f = 3 then decide (b = 0) && decide (op = 0) && (if u then decide (c = 0) && (decide (-8388608 ≤ n) && decide (n ≤ 8388607)) else decide (n = 0))
   else false)
def b2 (b : Bool) : Int := if b then 1 else 0
/-- its word -/
def laid (f : Int) (u v : Bool) (a b op c n : Int) : Int :=
  f * 1073741824 + b2 u * 536870912 + b2 v * 268435456 + a * 16777216 +
  (if f ≤ 1 then b * 1048576 + op * 65536 + n + c else if f = 2 then b * 1048576 + n % 1048576 else n % 16777216 + c)
/-- a number of so many bits, with its sign -/
def sx (n m : Int) : Int := if m ≤ 2 * n then n - m else n
/-- a word's fields -/
def flds (w : Int) : In :=
  let f := w / 1073741824
  let u := decide (w / 536870912 % 2 = 1)
  { f := f, u := u, v := decide (w / 268435456 % 2 = 1), a := w / 16777216 % 16
    b := if f = 3 then 0 else w / 1048576 % 16
    op := if f ≤ 1 then w / 65536 % 16 else 0
    c := if f = 0 ∨ (f = 3 ∧ u = false) then w % 16 else 0
    n := if f = 1 then w % 65536 else if f = 2 then sx (w % 1048576) 1048576 else if f = 3 ∧ u = true then sx (w % 16777216) 16777216 else 0 }
def rightI (i : In) : Bool := rightB i.f i.u i.v i.a i.b i.op i.c i.n
def laidI (i : In) : Int := laid i.f i.u i.v i.a i.b i.op i.c i.n
/-- the instruction that a word is -/
def decB (w : Int) : Option In := if rightI (flds w) && decide (laidI (flds w) = w) then some (flds w) else none
theorem laid_lo {f : Int} {u v : Bool} {a b op c n : Int} (h : rightB f u v a b op c n = true) : 0 ≤ laid f u v a b op c n ∧ laid f u v a b op c n < 4294967296 := by
  simp only [rightB, in16, Bool.and_eq_true, decide_eq_true_eq] at h
  obtain ⟨⟨⟨ha, hb⟩, hc⟩, h⟩ := h
  have hu : 0 ≤ b2 u ∧ b2 u ≤ 1 := by cases u <;> simp [b2]
  have hv : 0 ≤ b2 v ∧ b2 v ≤ 1 := by cases v <;> simp [b2]
  have hop : mayB f u v a b op c = true → 0 ≤ op ∧ op ≤ 15 := fun hm => by
    unfold mayB at hm
    split at hm
    · cases hm
    · omega
  unfold laid
  split at h
  · simp only [Bool.and_eq_true, decide_eq_true_eq] at h
    have := hop h.2
    rw [if_pos (by omega)]; omega
  split at h
  · simp only [Bool.and_eq_true, decide_eq_true_eq] at h
    have := hop h.2
    rw [if_pos (by omega)]; omega
  split at h
  · rw [if_neg (by omega), if_pos (by assumption)]; omega
  split at h
  · rw [if_neg (by omega), if_neg (by omega)]
    simp only [Bool.and_eq_true, decide_eq_true_eq] at h
    cases u
    · simp only [Bool.false_eq_true, if_false, decide_eq_true_eq] at h; omega
    · simp only [if_true, Bool.and_eq_true, decide_eq_true_eq] at h; omega
  · cases h
theorem may_op {f : Int} {u v : Bool} {a b op c : Int} (hm : mayB f u v a b op c = true) : 0 ≤ op ∧ op ≤ 15 := by
  unfold mayB at hm
  split at hm
  · cases hm
  · omega
/-- what is read from a word is right, and has this word -/
theorem dec_is {w : Int} {i : In} (h : decB w = some i) : rightI i = true ∧ laidI i = w := by
  unfold decB at h
  split at h
  · rename_i h'
    cases h
    rw [Bool.and_eq_true, decide_eq_true_eq] at h'
    exact h'
  · cases h
end Go.Asm
end
section
namespace Go.Asm
set_option linter.unusedSimpArgs false
set_option maxHeartbeats 4000000
/-- a digit -/
def dgt (c : UInt8) : Bool := decide (48 ≤ c.toNat) && decide (c.toNat ≤ 57)
/-- what digits say -/
def dval (a : Nat) (t : Bytes) : Nat := t.foldl (fun a c => 10 * a + (c.toNat - 48)) a
theorem dval_nil (a : Nat) : dval a [] = a := by unfold dval; rw [List.foldl_nil]
theorem dval_cons (a : Nat) (c : UInt8) (r : Bytes) : dval a (c :: r) = dval (10 * a + (c.toNat - 48)) r := by unfold dval; rw [List.foldl_cons]
/-- a number without a sign, in its only form -/
def unsB (t : Bytes) : Bool := !t.isEmpty && t.all dgt && (decide (t.length = 1) || !(t.getD 0 0 == 48))
def unsO (t : Bytes) : Option Nat := if unsB t then some (dval 0 t) else none
/-- a number in its only form -/
def numO (s : Bytes) : Option Int :=
  match s with
  | 45 :: t => match unsO t with
    | some (n + 1) => some (-((n + 1 : Nat) : Int))
    | _ => none
  | _ => (unsO s).map fun n => (n : Int)
theorem dval_snoc (a : Nat) (t : Bytes) (c : UInt8) : dval a (t ++ [c]) = 10 * dval a t + (c.toNat - 48) := by
  induction t generalizing a with
  | nil => rw [List.nil_append, dval_cons, dval_nil, dval_nil]
  | cons d t ih => rw [List.cons_append, dval_cons, dval_cons]; exact ih _
theorem digit_of (k : Nat) (h : k < 10) : (UInt8.ofNat (48 + k)).toNat = 48 + k := by
  rw [UInt8.toNat_ofNat']; omega
theorem dec_step (n : Nat) (h : ¬ n < 10) : Lib.decDigits n = Lib.decDigits (n / 10) ++ [UInt8.ofNat (48 + n % 10)] := by
  rw [Lib.decDigits, dif_neg h]
theorem dec_small (n : Nat) (h : n < 10) : Lib.decDigits n = [UInt8.ofNat (48 + n)] := by
  rw [Lib.decDigits, dif_pos h]
theorem dec_ne (n : Nat) : Lib.decDigits n ≠ [] := by
  by_cases h : n < 10
  · rw [dec_small n h]; simp
  · rw [dec_step n h]; simp
theorem dec_all (n : Nat) : (Lib.decDigits n).all dgt = true := by
  induction n using Nat.strongRecOn with
  | _ n ih =>
    by_cases h : n < 10
    · rw [dec_small n h]
      simp only [List.all_cons, List.all_nil, Bool.and_true, dgt, digit_of n h, Bool.and_eq_true, decide_eq_true_eq]; omega
    · rw [dec_step n h, List.all_append, ih (n / 10) (by omega)]
      simp only [List.all_cons, List.all_nil, Bool.and_true, dgt, digit_of (n % 10) (Nat.mod_lt _ (by decide)), Bool.and_eq_true, decide_eq_true_eq, Bool.true_and]; omega
theorem dec_val (n : Nat) : dval 0 (Lib.decDigits n) = n := by
  induction n using Nat.strongRecOn with
  | _ n ih =>
    by_cases h : n < 10
    · rw [dec_small n h]
      rw [dval_cons, dval_nil]
      rw [digit_of n h]; omega
    · rw [dec_step n h, dval_snoc, ih (n / 10) (by omega), digit_of _ (Nat.mod_lt _ (by decide))]; omega
theorem dec_head (n : Nat) (h : 0 < n) : (Lib.decDigits n).getD 0 0 ≠ 48 := by
  induction n using Nat.strongRecOn with
  | _ n ih =>
    by_cases h1 : n < 10
    · rw [dec_small n h1]
      intro e
      have : (UInt8.ofNat (48 + n)).toNat = 48 := by rw [show UInt8.ofNat (48 + n) = 48 from e]; rfl
      rw [digit_of n h1] at this; omega
    · have := ih (n / 10) (by omega) (by omega)
      rw [dec_step n h1]
      obtain ⟨c, r, e⟩ := List.exists_cons_of_ne_nil (dec_ne (n / 10))
      rw [e] at this ⊢
      simpa using this
theorem uns_dec (n : Nat) : unsO (Lib.decDigits n) = some n := by
  have hb : unsB (Lib.decDigits n) = true := by
    unfold unsB
    rw [dec_all n]
    simp only [Bool.and_true, Bool.and_eq_true, Bool.or_eq_true, decide_eq_true_eq, Bool.not_eq_true', List.isEmpty_eq_false_iff, beq_eq_false_iff_ne, ne_eq]
    refine ⟨dec_ne n, ?_⟩
    rcases Nat.eq_zero_or_pos n with rfl | h
    · left; rw [dec_small 0 (by decide)]; rfl
    · right; exact dec_head n h
  rw [unsO, if_pos hb, dec_val]
theorem dval_lo (a : Nat) (t : Bytes) : a ≤ dval a t := by
  induction t generalizing a with
  | nil => rw [dval_nil]; exact Nat.le_refl _
  | cons c t ih => have := ih (10 * a + (c.toNat - 48)); rw [dval_cons]; omega
/-- digits behind digits -/
theorem dec_of (n : Nat) (t : Bytes) (h : t.all dgt = true) (hn : 0 < n) : Lib.decDigits n ++ t = Lib.decDigits (dval n t) := by
  induction t generalizing n with
  | nil => rw [List.append_nil, dval_nil]
  | cons c t ih =>
    simp only [List.all_cons, Bool.and_eq_true] at h
    obtain ⟨hc, ht⟩ := h
    simp only [dgt, Bool.and_eq_true, decide_eq_true_eq] at hc
    rw [dval_cons]
    rw [← ih _ ht (by omega), dec_step (10 * n + (c.toNat - 48)) (by omega), show (10 * n + (c.toNat - 48)) / 10 = n by omega, show 48 + (10 * n + (c.toNat - 48)) % 10 = c.toNat by omega, UInt8.ofNat_toNat, List.append_assoc]
    rfl
theorem uns_is {t : Bytes} {n : Nat} (h : unsO t = some n) : t = Lib.decDigits n := by
  unfold unsO at h
  split at h
  · rename_i hb
    cases h
    simp only [unsB, Bool.and_eq_true, Bool.or_eq_true, decide_eq_true_eq, Bool.not_eq_true', List.isEmpty_eq_false_iff, beq_eq_false_iff_ne, ne_eq] at hb
    obtain ⟨⟨h0, h1⟩, h2⟩ := hb
    match t, h0, h1, h2 with
    | c :: r, _, h1, h2 =>
      simp only [List.all_cons, Bool.and_eq_true] at h1
      obtain ⟨hc, hr⟩ := h1
      have hc' := hc
      simp only [dgt, Bool.and_eq_true, decide_eq_true_eq] at hc'
      rw [dval_cons, Nat.mul_zero, Nat.zero_add]
      have e1 : [c] = Lib.decDigits (c.toNat - 48) := by
        rw [dec_small _ (by omega), show 48 + (c.toNat - 48) = c.toNat by omega, UInt8.ofNat_toNat]
      by_cases hz : c = 48
      · subst hz
        rcases h2 with h2 | h2
        · simp only [List.length_cons] at h2
          have : r = [] := List.length_eq_zero_iff.1 (by omega)
          subst this
          exact e1
        · exact absurd rfl h2
      · have : 0 < c.toNat - 48 := by
          have : c.toNat ≠ 48 := fun e => hz (UInt8.toNat_inj.1 e)
          omega
        rw [← dec_of _ r hr this, ← e1]; rfl
  · cases h
theorem itoa_dig (n : Int) (c : UInt8) (h : c ∈ Lib.itoa n) : c = 45 ∨ dgt c = true := by
  unfold Lib.itoa at h
  split at h
  · rcases List.mem_cons.1 h with rfl | h
    · exact .inl rfl
    · exact .inr (List.all_eq_true.1 (dec_all _) c h)
  · exact .inr (List.all_eq_true.1 (dec_all _) c h)
theorem num_itoa (n : Int) : numO (Lib.itoa n) = some n := by
  unfold Lib.itoa
  split
  · rename_i h
    simp only [numO, uns_dec]
    obtain ⟨k, hk⟩ : ∃ k, n.natAbs = k + 1 := ⟨n.natAbs - 1, by omega⟩
    rw [hk]; simp only [Option.some.injEq]; omega
  · rename_i h
    have e : numO (Lib.decDigits n.toNat) = (unsO (Lib.decDigits n.toNat)).map fun n => (n : Int) := by
      obtain ⟨c, r, e⟩ := List.exists_cons_of_ne_nil (dec_ne n.toNat)
      have hc := dec_all n.toNat
      rw [e] at hc ⊢
      simp only [List.all_cons, Bool.and_eq_true, dgt, decide_eq_true_eq] at hc
      unfold numO
      split
      · rename_i h45; cases h45; exact absurd hc.1.1 (by decide)
      · rfl
    rw [e, uns_dec]
    exact congrArg some (show ((n.toNat : Nat) : Int) = n by omega)
theorem num_is {s : Bytes} {n : Int} (h : numO s = some n) : s = Lib.itoa n := by
  unfold numO at h
  split at h
  · rename_i t
    split at h
    · rename_i k hk
      cases h
      rw [Lib.itoa, if_pos (by omega), uns_is hk]
      simp only [Int.natAbs_neg, Int.natAbs_natCast]
    · cases h
  · cases hu : unsO s with
    | none => rw [hu] at h; cases h
    | some k =>
      rw [hu] at h
      have h' : some ((k : Nat) : Int) = some n := h
      cases h'
      rw [Lib.itoa, if_neg (by omega), Int.toNat_natCast]
      exact uns_is hu
theorem num_iff (s : Bytes) (n : Int) : numO s = some n ↔ s = Lib.itoa n := ⟨num_is, fun h => h ▸ num_itoa n⟩
/-- the library reads it -/
theorem uintM_ok (M : Nat) (hM : M ≤ 18446744073709551615) : ∀ (t : Bytes) (a : Nat), t.all dgt = true → dval a t ≤ M → Lib.parseUintM M a t = .ok (dval a t)
  | [], a, _, _ => by rw [dval_nil]; rfl
  | c :: r, a, h, hv => by
    simp only [List.all_cons, Bool.and_eq_true] at h
    obtain ⟨hc, hr⟩ := h
    simp only [dgt, Bool.and_eq_true, decide_eq_true_eq] at hc
    rw [dval_cons] at hv ⊢
    have := dval_lo (10 * a + (c.toNat - 48)) r
    rw [Lib.parseUintM, if_pos hc, if_neg (by omega), if_neg (by omega), Nat.mul_comm a 10]
    exact uintM_ok M hM r _ hr hv
theorem parse_itoa (n : Int) (h : -9223372036854775808 ≤ n ∧ n < 9223372036854775808) : Lib.parseIntB 64 (Lib.itoa n) = .ok n := by
  have key : ∀ k : Nat, k ≤ 18446744073709551615 → Lib.parseUintB 64 (Lib.decDigits k) = .ok k := fun k hk => by
    rw [Lib.parseUintB, if_neg (dec_ne k), uintM_ok _ (by decide) _ _ (dec_all k) (by rw [dec_val]; exact hk), dec_val]
  unfold Lib.itoa
  split
  · rename_i hn
    simp only [Lib.parseIntB, show (45 : UInt8).toNat = 45 from rfl, or_true, if_true, key n.natAbs (by omega), not_true_eq_false, false_and, if_false, true_and]
    rw [if_neg (by omega)]
    congr 1; omega
  · rename_i hn
    obtain ⟨c, r, e⟩ := List.exists_cons_of_ne_nil (dec_ne n.toNat)
    have hc := dec_all n.toNat
    have hk := key n.toNat (by omega)
    rw [e] at hc hk ⊢
    simp only [List.all_cons, Bool.and_eq_true, dgt, decide_eq_true_eq] at hc
    rw [Lib.parseIntB_plain 64 c r (by omega) (by omega), hk, Lib.signlessC, if_neg (by simp only [Nat.reduceSub, Nat.reducePow]; omega)]
    exact congrArg Lib.NumEnd.ok (by omega)
/-- the program's number: what the library reads, if it is written so -/
def prgN (s : Bytes) : Int := match Lib.parseIntB 64 s with
  | .ok v => v
  | .range => Lib.intSat 64 s
  | _ => 0
def prgB (s : Bytes) : Bool := match Lib.parseIntB 64 s with
  | .ok v => Lib.itoa v == s
  | _ => false
theorem prg_is (s : Bytes) : prgB s = true ↔ ∃ n, numO s = some n ∧ -9223372036854775808 ≤ n ∧ n < 9223372036854775808 := by
  constructor
  · intro h
    unfold prgB at h
    split at h
    · rename_i v hv
      have hb := Lib.parseIntB_bounds hv
      exact ⟨v, (num_iff s v).2 (beq_iff_eq.1 h).symm, by simpa using hb.1, by simpa using hb.2⟩
    · cases h
  · rintro ⟨n, hn, hb⟩
    obtain rfl := num_is hn
    rw [prgB, parse_itoa n hb]
    simp
theorem prg_val {s : Bytes} {n : Int} (hn : numO s = some n) (hb : -9223372036854775808 ≤ n ∧ n < 9223372036854775808) : prgN s = n := by
  obtain rfl := num_is hn
  rw [prgN, parse_itoa n hb]
end Go.Asm
end
section
namespace Go.Asm
set_option linter.unusedSimpArgs false
set_option maxHeartbeats 4000000
def ops : List Bytes := [[77, 79, 86], [76, 83, 76], [65, 83, 82], [82, 79, 82], [65, 78, 68], [65, 78, 78], [73, 79, 82], [88, 79, 82], [65, 68, 68], [83, 85, 66], [77, 85, 76], [68, 73, 86], [], [], [], [84, 82, 65, 80]]
def cnds : List Bytes := [[77, 73], [69, 81], [67, 83], [86, 83], [76, 83], [76, 84], [76, 69], [65, 76], [80, 76], [78, 69], [67, 67], [86, 67], [72, 73], [71, 69], [71, 84], [78, 86]]
def opT (n : Int) : Bytes := ops.getD n.toNat []
def cnT (n : Int) : Bytes := cnds.getD n.toNat []
def regT (n : Int) : Bytes := 82 :: Lib.itoa n
def sufT (u v : Bool) : Bytes := (if u then [85] else []) ++ (if v then [86] else [])
def nameT (f : Int) (u v : Bool) (op : Int) : Bytes :=
  if f = 2 then (if u then [83, 84] else [76, 68]) ++ (if v then [66] else [87])
  else if f = 0 ∧ op = 0 ∧ u = true then (if v then [77, 79, 86, 70] else [77, 79, 86, 72])
  else opT op ++ sufT u v
def hexC (n : Int) : UInt8 := ([48, 49, 50, 51, 52, 53, 54, 55, 56, 57, 65, 66, 67, 68, 69, 70] : Bytes).getD n.toNat 0
def hexT (w : Int) : Bytes := (List.range 8).map fun i => hexC (w / 16 ^ (7 - i) % 16)
def sep : Bytes := [44, 32]
def lastT (f c n : Int) : Bytes := if f = 0 then regT c else Lib.itoa n
/-- how an instruction is written, at an address -/
def insT (i : In) (at_ : Int) : Bytes :=
  if i.f = 3 then (if i.v then [67, 65, 76, 76, 32] else [74, 77, 80, 32]) ++ (cnT i.a ++ (sep ++ (if i.u then Lib.itoa ((at_ + 4 + i.n * 4) % 4294967296) else regT i.c)))
  else if i.f = 2 then nameT i.f i.u i.v i.op ++ (32 :: (regT i.a ++ (sep ++ (regT i.b ++ (sep ++ Lib.itoa i.n)))))
  else if i.op = 15 then nameT i.f i.u i.v i.op ++ (32 :: Lib.itoa i.n)
  else if i.op ≠ 0 then nameT i.f i.u i.v i.op ++ (32 :: (regT i.a ++ (sep ++ (regT i.b ++ (sep ++ lastT i.f i.c i.n)))))
  else if i.f = 0 ∧ i.u = true then nameT i.f i.u i.v i.op ++ (32 :: regT i.a)
  else nameT i.f i.u i.v i.op ++ (32 :: (regT i.a ++ (sep ++ lastT i.f i.c i.n)))
/-- how a word is written, at an address -/
def showF (w at_ : Int) : Bytes := match decB w with
  | none => [87, 79, 82, 68, 32] ++ hexT w
  | some i => insT i at_
/-! reading -/
/-- a register -/
def regO (s : Bytes) : Option Int := match s with
  | 82 :: t => match numO t with
    | some n => if 0 ≤ n ∧ n ≤ 15 then some n else none
    | none => none
  | _ => none
/-- the last operand -/
def lastO (i : In) (reck : Bool) (z : Bytes) : Option In := match numO z with
  | some n => if -2147483648 ≤ n ∧ n ≤ 2147483647 then some { i with n := n } else none
  | none => if reck then (regO z).map fun c => { i with f := 0, c := c } else none
/-- an instruction's fields, of what stands between commas -/
def readO (i : In) (l : List Bytes) : Option In :=
  if i.f = 0 then match l with
    | [x] => (regO x).map fun a => { i with a := a }
    | _ => none
  else if i.f = 1 ∧ i.op = 15 then match l with
    | [z] => lastO i false z
    | _ => none
  else if i.f = 1 ∧ i.op = 0 then match l with
    | [x, z] => match regO x with
      | some a => lastO { i with a := a } (!i.u && !i.v) z
      | none => none
    | _ => none
  else match l with
    | [x, y, z] => match regO x, regO y with
      | some a, some b => lastO { i with a := a, b := b } (decide (i.f = 1)) z
      | _, _ => none
    | _ => none
def ixO : List Bytes → Bytes → Option Nat
  | [], _ => none
  | x :: r, s => if x = s then some 0 else (ixO r s).map (· + 1)
/-- a branch -/
def brO (v : Bool) (l : List Bytes) (at_ : Int) : Option In := match l with
  | [x, y] => match ixO cnds x with
    | none => none
    | some a => match regO y with
      | some c => some { f := 3, u := false, v := v, a := a, b := 0, op := 0, c := c, n := 0 }
      | none => match numO y with
        | none => none
        | some n => if 0 ≤ n ∧ n ≤ 4294967295 ∧ (n - at_ - 4) % 4 = 0 then some { f := 3, u := true, v := v, a := a, b := 0, op := 0, c := 0, n := sx ((n - at_ - 4) % 4294967296) 4294967296 / 4 } else none
  | _ => none
/-- names, and what they stand for -/
def formL : List (Bytes × In) :=
  [([77, 79, 86, 72], ⟨0, true, false, 0, 0, 0, 0, 0⟩), ([77, 79, 86, 70], ⟨0, true, true, 0, 0, 0, 0, 0⟩), ([84, 82, 65, 80], ⟨1, false, false, 0, 0, 15, 0, 0⟩)] ++
  (List.range 4).map (fun k => let i : In := ⟨2, k % 2 == 1, decide (2 ≤ k), 0, 0, 0, 0, 0⟩; (nameT 2 i.u i.v 0, i)) ++
  (List.range 12).flatMap fun (op : Nat) => (List.range 4).map fun k => let i : In := ⟨1, k % 2 == 1, decide (2 ≤ k), 0, 0, (op : Int), 0, 0⟩; (nameT 1 i.u i.v op, i)
def formO (s : Bytes) : Option In := (formL.find? fun p => p.1 == s).map (·.2)
def hexV (c : UInt8) : Option Nat := if 48 ≤ c.toNat ∧ c.toNat ≤ 57 then some (c.toNat - 48) else if 65 ≤ c.toNat ∧ c.toNat ≤ 70 then some (c.toNat - 55) else none
def unhL : Nat → Bytes → Option Nat
  | a, [] => some a
  | a, c :: r => match hexV c with
    | some d => unhL (16 * a + d) r
    | none => none
def unhO (s : Bytes) : Option Int := if s = [] ∨ 8 < s.length then none else (unhL 0 s).map fun n => (n : Int)
def encO (o : Option In) : Option Int := match o with
  | some i => if rightI i then some (laidI i) else none
  | none => none
/-- the word that a name says with what stands behind it -/
def wordO (nm : Bytes) (l : List Bytes) (at_ : Int) : Option Int :=
  if nm = [87, 79, 82, 68] then match l with
    | [x] => unhO x
    | _ => none
  else if nm = [74, 77, 80] ∨ nm = [67, 65, 76, 76] then encO (brO (nm == [67, 65, 76, 76]) l at_)
  else match formO nm with
    | some i => encO (readO i l)
    | none => none
/-! lines -/
def blk (c : UInt8) : Bool := c == 32 || c == 9 || c == 13
def trimF (s : Bytes) : Bytes := ((s.dropWhile blk).reverse.dropWhile blk).reverse
/-- a text's pieces between bytes -/
def consH (b : UInt8) : List Bytes → List Bytes
  | [] => [[b]]
  | p :: r => (b :: p) :: r
def pcs (c : UInt8) : Bytes → List Bytes
  | [] => [[]]
  | b :: r => if b = c then [] :: pcs c r else consH b (pcs c r)
def headF (s : Bytes) : Bytes := s.takeWhile fun c => !blk c
def restF (s : Bytes) : List Bytes := let r := trimF (s.drop (headF s).length); if r = [] then [] else (pcs 44 r).map trimF
def lineO (s : Bytes) (at_ : Int) : Option Int := wordO (headF s) (restF s) at_
def bareF (s : Bytes) : Bytes := trimF (s.takeWhile fun c => !(c == 59))
/-- words of lines, behind words that were read; or the number of the line that says none -/
def linesO : Nat → List Int → List Bytes → Except Nat (List Int)
  | _, out, [] => .ok out
  | k, out, s :: r => if bareF s = [] then linesO (k + 1) out r else match lineO (bareF s) (4 * out.length) with
    | some w => linesO (k + 1) (out ++ [w]) r
    | none => .error k
end Go.Asm
end
section
namespace Go.Asm
set_option linter.unusedSimpArgs false
set_option maxHeartbeats 4000000
def joinT : List Bytes → Bytes
  | [] => []
  | [x] => x
  | x :: y :: r => x ++ (sep ++ joinT (y :: r))
/-- what stands behind the name -/
def opsT (i : In) (at_ : Int) : List Bytes :=
  if i.f = 3 then [cnT i.a, if i.u then Lib.itoa ((at_ + 4 + i.n * 4) % 4294967296) else regT i.c]
  else if i.f = 2 then [regT i.a, regT i.b, Lib.itoa i.n]
  else if i.op = 15 then [Lib.itoa i.n]
  else if i.op ≠ 0 then [regT i.a, regT i.b, lastT i.f i.c i.n]
  else if i.f = 0 ∧ i.u = true then [regT i.a]
  else [regT i.a, lastT i.f i.c i.n]
def headT (i : In) : Bytes := if i.f = 3 then (if i.v then [67, 65, 76, 76] else [74, 77, 80]) else nameT i.f i.u i.v i.op
theorem ins_join (i : In) (at_ : Int) : insT i at_ = headT i ++ 32 :: joinT (opsT i at_) := by
  unfold insT opsT headT
  split
  · cases i.v <;> simp [joinT]
  split
  · simp [joinT]
  split
  · simp [joinT]
  split
  · simp [joinT]
  split
  · simp [joinT]
  · simp [joinT]
/-- a byte that stands in a name or an operand -/
def solid (c : UInt8) : Bool := !(c == 32 || c == 9 || c == 13 || c == 10 || c == 44 || c == 59)
def firm (s : Bytes) : Prop := s ≠ [] ∧ s.all solid = true
instance (s : Bytes) : Decidable (firm s) := by unfold firm; infer_instance
theorem solid_blk {c : UInt8} (h : solid c = true) : blk c = false ∧ c ≠ 44 ∧ c ≠ 59 ∧ c ≠ 10 := by
  simp only [solid, blk, Bool.not_eq_true', Bool.or_eq_false_iff, beq_eq_false_iff_ne, ne_eq] at h ⊢
  obtain ⟨⟨⟨⟨⟨h1, h2⟩, h3⟩, h4⟩, h5⟩, h6⟩ := h
  exact ⟨⟨⟨h1, h2⟩, h3⟩, h5, h6, h4⟩
theorem dgt_solid {c : UInt8} (h : c = 45 ∨ dgt c = true) : solid c = true := by
  rcases h with rfl | h
  · rfl
  · simp only [dgt, Bool.and_eq_true, decide_eq_true_eq] at h
    simp only [solid, Bool.not_eq_true', Bool.or_eq_false_iff, beq_eq_false_iff_ne, ne_eq]
    refine ⟨⟨⟨⟨⟨?_, ?_⟩, ?_⟩, ?_⟩, ?_⟩, ?_⟩ <;> (rintro rfl; revert h; decide)
theorem firm_itoa (n : Int) : firm (Lib.itoa n) := by
  refine ⟨?_, List.all_eq_true.2 fun c hc => dgt_solid (itoa_dig n c hc)⟩
  unfold Lib.itoa
  split
  · simp
  · exact dec_ne _
theorem firm_reg (n : Int) : firm (regT n) := by
  refine ⟨by simp [regT], ?_⟩
  rw [regT, List.all_cons, (firm_itoa n).2]; rfl
theorem firm_last (f c n : Int) : firm (lastT f c n) := by
  unfold lastT; split
  · exact firm_reg c
  · exact firm_itoa n
theorem firm_cn {a : Int} (h : 0 ≤ a ∧ a ≤ 15) : firm (cnT a) := by
  have key : ∀ i : Fin 16, cnT (i.1 : Int) ≠ [] ∧ (cnT (i.1 : Int)).all solid = true := by decide
  have := key ⟨a.toNat, by omega⟩
  simp only [Int.toNat_of_nonneg h.1] at this
  exact this
theorem dropWhile_no {p : UInt8 → Bool} {l : Bytes} (h : ∀ c r, l = c :: r → p c = false) : l.dropWhile p = l := by
  cases l with
  | nil => rfl
  | cons c r => rw [List.dropWhile_cons, h c r rfl]; rfl
/-- a text with solid ends -/
theorem trim_ends {s : Bytes} (h1 : ∀ c r, s = c :: r → blk c = false) (h2 : ∀ c r, s = r ++ [c] → blk c = false) : trimF s = s := by
  unfold trimF
  rw [dropWhile_no h1, dropWhile_no (l := s.reverse), List.reverse_reverse]
  intro c r e
  refine h2 c r.reverse ?_
  rw [← List.reverse_reverse s, e, List.reverse_cons]
theorem trim_firm {s : Bytes} (h : firm s) : trimF s = s := by
  have ha := List.all_eq_true.1 h.2
  exact trim_ends (fun c r e => (solid_blk (ha c (by rw [e]; simp))).1) (fun c r e => (solid_blk (ha c (by rw [e]; simp))).1)
theorem trim_sp (s : Bytes) : trimF (32 :: s) = trimF s := by
  unfold trimF
  rw [List.dropWhile_cons]; rfl
theorem pcs_ne (c : UInt8) (s : Bytes) : pcs c s ≠ [] := by
  cases s with
  | nil => simp [pcs]
  | cons b r =>
    rw [pcs]; split
    · simp
    · cases hp : pcs c r <;> simp [consH]
theorem pcs_no {c : UInt8} {s : Bytes} (h : ∀ x ∈ s, x ≠ c) : pcs c s = [s] := by
  induction s with
  | nil => rfl
  | cons b r ih => rw [pcs, if_neg (h b (by simp)), ih fun x hx => h x (by simp [hx])]; rfl
theorem pcs_at {c : UInt8} {s : Bytes} (t : Bytes) (h : ∀ x ∈ s, x ≠ c) : pcs c (s ++ c :: t) = s :: pcs c t := by
  induction s with
  | nil => simp [pcs]
  | cons b r ih => rw [List.cons_append, pcs, if_neg (h b (by simp)), ih fun x hx => h x (by simp [hx])]; rfl
theorem firm_44 {s : Bytes} (h : firm s) : ∀ x ∈ s, x ≠ 44 := fun x hx => (solid_blk (List.all_eq_true.1 h.2 x hx)).2.1
theorem pcs_join : ∀ l : List Bytes, l ≠ [] → (∀ s ∈ l, firm s) → (pcs 44 (joinT l)).map trimF = l ∧ ∀ c r, joinT l = c :: r → blk c = false
  | [x], _, h => by
    have hx := h x (by simp)
    rw [joinT, pcs_no (firm_44 hx)]
    exact ⟨by simp [trim_firm hx], fun c r e => (solid_blk (List.all_eq_true.1 hx.2 c (by rw [e]; simp))).1⟩
  | x :: y :: r, _, h => by
    have hx := h x (by simp)
    obtain ⟨ih, _⟩ := pcs_join (y :: r) (by simp) fun s hs => h s (by simp [hs])
    rw [joinT, sep, List.cons_append, List.cons_append, List.nil_append, pcs_at _ (firm_44 hx)]
    constructor
    · rw [List.map_cons, trim_firm hx]
      congr 1
      rw [pcs, if_neg (by decide)]
      obtain ⟨p, q, e⟩ := List.exists_cons_of_ne_nil (pcs_ne 44 (joinT (y :: r)))
      rw [e] at ih ⊢
      rw [consH, List.map_cons, trim_sp, ← List.map_cons, ih]
    · intro c t e
      obtain ⟨a, b, rfl⟩ := List.exists_cons_of_ne_nil hx.1
      simp only [List.cons_append, List.cons.injEq] at e
      obtain ⟨rfl, _⟩ := e
      exact (solid_blk (List.all_eq_true.1 hx.2 a (by simp))).1
theorem join_last : ∀ l : List Bytes, l ≠ [] → (∀ s ∈ l, firm s) → ∀ c r, joinT l = r ++ [c] → blk c = false
  | [x], _, h => fun c r e => by
    rw [joinT] at e
    exact (solid_blk (List.all_eq_true.1 (h x (by simp)).2 c (by rw [e]; simp))).1
  | x :: y :: t, _, h => fun c r e => by
    have ih := join_last (y :: t) (by simp) fun s hs => h s (by simp [hs])
    have hne : joinT (y :: t) ≠ [] := by
      obtain ⟨a, b, e2⟩ := List.exists_cons_of_ne_nil (h y (by simp)).1
      cases t <;> simp [joinT, e2]
    rw [joinT] at e
    refine ih c (joinT (y :: t)).dropLast ?_
    have hl : (joinT (y :: t)).getLast hne = c := by
      have : (x ++ (sep ++ joinT (y :: t))).getLast? = some c := by rw [e]; simp
      rw [List.getLast?_append, List.getLast?_append, List.getLast?_eq_some_getLast hne] at this
      simpa using this
    rw [← hl, List.dropLast_concat_getLast]
theorem takeWhile_at {p : UInt8 → Bool} {s : Bytes} {c : UInt8} (t : Bytes) (h : ∀ x ∈ s, p x = true) (hc : p c = false) : (s ++ c :: t).takeWhile p = s := by
  induction s with
  | nil => rw [List.nil_append, List.takeWhile_cons, hc]; rfl
  | cons b r ih => rw [List.cons_append, List.takeWhile_cons, h b (by simp)]; simp only [if_true, List.cons.injEq, true_and]; exact ih fun x hx => h x (by simp [hx])
/-- a written line's parts -/
theorem line_parts {nm : Bytes} {l : List Bytes} (hn : firm nm) (hl : l ≠ []) (h : ∀ s ∈ l, firm s) : headF (nm ++ 32 :: joinT l) = nm ∧ restF (nm ++ 32 :: joinT l) = l := by
  have ha := List.all_eq_true.1 hn.2
  have h1 : headF (nm ++ 32 :: joinT l) = nm := takeWhile_at _ (fun x hx => by rw [(solid_blk (ha x hx)).1]; rfl) rfl
  refine ⟨h1, ?_⟩
  obtain ⟨p1, p2⟩ := pcs_join l hl h
  have hj : trimF (joinT l) = joinT l := trim_ends p2 (join_last l hl h)
  have hne : joinT l ≠ [] := by
    obtain ⟨x, r, rfl⟩ := List.exists_cons_of_ne_nil hl
    obtain ⟨a, b, e2⟩ := List.exists_cons_of_ne_nil (h x (by simp)).1
    cases r <;> simp [joinT, e2]
  unfold restF
  simp only [h1, List.drop_left', trim_sp, hj]
  rw [if_neg hne, p1]
theorem reg_reg {n : Int} (h : 0 ≤ n ∧ n ≤ 15) : regO (regT n) = some n := by
  rw [regT, regO, num_itoa]; simp only; rw [if_pos h]
theorem reg_itoa (n : Int) : regO (Lib.itoa n) = none := by
  unfold regO
  split
  · rename_i t e
    have := itoa_dig n 82 (by rw [e]; simp)
    rcases this with h | h
    · exact absurd h (by decide)
    · exact absurd h (by decide)
  · rfl
theorem num_reg (n : Int) : numO (regT n) = none := by
  cases h : numO (regT n) with
  | none => rfl
  | some k =>
    have e := num_is h
    have := itoa_dig k 82 (by rw [← e]; simp [regT])
    rcases this with h | h
    · exact absurd h (by decide)
    · exact absurd h (by decide)
theorem cn_ix {a : Int} (h : 0 ≤ a ∧ a ≤ 15) : ixO cnds (cnT a) = some a.toNat := by
  have key : ∀ i : Fin 16, ixO cnds (cnT (i.1 : Int)) = some i.1 := by decide
  have := key ⟨a.toNat, by omega⟩
  simpa only [Int.toNat_of_nonneg h.1] using this
theorem form_key : ∀ (i : Fin 12) (u v : Bool), formO (nameT 1 u v i.1) = some ⟨1, u, v, 0, 0, i.1, 0, 0⟩ ∧ firm (nameT 1 u v i.1) ∧ nameT 1 u v i.1 ≠ [87, 79, 82, 68] ∧ nameT 1 u v i.1 ≠ [74, 77, 80] ∧ nameT 1 u v i.1 ≠ [67, 65, 76, 76] := by
  decide
theorem form_mem : ∀ (u v : Bool), formO (nameT 2 u v 0) = some ⟨2, u, v, 0, 0, 0, 0, 0⟩ ∧ firm (nameT 2 u v 0) ∧ nameT 2 u v 0 ≠ [87, 79, 82, 68] ∧ nameT 2 u v 0 ≠ [74, 77, 80] ∧ nameT 2 u v 0 ≠ [67, 65, 76, 76] := by
  decide
theorem form_h : ∀ (v : Bool), formO (nameT 0 true v 0) = some ⟨0, true, v, 0, 0, 0, 0, 0⟩ ∧ firm (nameT 0 true v 0) ∧ nameT 0 true v 0 ≠ [87, 79, 82, 68] ∧ nameT 0 true v 0 ≠ [74, 77, 80] ∧ nameT 0 true v 0 ≠ [67, 65, 76, 76] := by
  decide
theorem form_trap : formO (nameT 1 false false 15) = some ⟨1, false, false, 0, 0, 15, 0, 0⟩ ∧ firm (nameT 1 false false 15) ∧ nameT 1 false false 15 ≠ [87, 79, 82, 68] ∧ nameT 1 false false 15 ≠ [74, 77, 80] ∧ nameT 1 false false 15 ≠ [67, 65, 76, 76] := by
  decide
theorem pick_row {i : In} (h : rightI i = true) : 0 ≤ i.a ∧ i.a ≤ 15 ∧ 0 ≤ i.b ∧ i.b ≤ 15 ∧ 0 ≤ i.c ∧ i.c ≤ 15 := by
  simp only [rightI, rightB, in16, Bool.and_eq_true, decide_eq_true_eq] at h
  omega
theorem ops_firm {i : In} (at_ : Int) (h : rightI i = true) : opsT i at_ ≠ [] ∧ ∀ s ∈ opsT i at_, firm s := by
  have hb := pick_row h
  unfold opsT
  split
  · refine ⟨by simp, ?_⟩
    intro s hs
    simp only [List.mem_cons, List.not_mem_nil, or_false] at hs
    rcases hs with rfl | rfl
    · exact firm_cn ⟨hb.1, hb.2.1⟩
    · split
      · exact firm_itoa _
      · exact firm_reg _
  all_goals repeat' split
  all_goals
    refine ⟨by simp, ?_⟩
    intro s hs
    simp only [List.mem_cons, List.not_mem_nil, or_false] at hs
    first
      | (rcases hs with rfl | rfl | rfl <;> first | exact firm_reg _ | exact firm_itoa _ | exact firm_last _ _ _)
      | (rcases hs with rfl | rfl <;> first | exact firm_reg _ | exact firm_itoa _ | exact firm_last _ _ _)
      | (rcases hs with rfl; first | exact firm_reg _ | exact firm_itoa _ | exact firm_last _ _ _)
theorem name_0 {op : Int} {u v : Bool} (h : ¬ (op = 0 ∧ u = true)) : nameT 0 u v op = nameT 1 u v op := by
  unfold nameT
  rw [if_neg (show ¬ (0 : Int) = 2 by decide), if_neg (fun h' => h h'.2), if_neg (show ¬ (1 : Int) = 2 by decide), if_neg (fun h' => absurd h'.1 (by decide))]
theorem form_op {op : Int} (h : 0 ≤ op ∧ op ≤ 11) (u v : Bool) : formO (nameT 1 u v op) = some ⟨1, u, v, 0, 0, op, 0, 0⟩ ∧ firm (nameT 1 u v op) ∧ nameT 1 u v op ≠ [87, 79, 82, 68] ∧ nameT 1 u v op ≠ [74, 77, 80] ∧ nameT 1 u v op ≠ [67, 65, 76, 76] := by
  have := form_key ⟨op.toNat, by omega⟩ u v
  simp only [Int.toNat_of_nonneg h.1] at this
  exact this
theorem word_form {nm : Bytes} {l : List Bytes} {at_ : Int} {b i : In} (hf : formO nm = some b ∧ firm nm ∧ nm ≠ [87, 79, 82, 68] ∧ nm ≠ [74, 77, 80] ∧ nm ≠ [67, 65, 76, 76]) (hr : readO b l = some i) (h : rightI i = true) : wordO nm l at_ = some (laidI i) := by
  obtain ⟨h1, _, h2, h3, h4⟩ := hf
  unfold wordO
  rw [if_neg h2, if_neg (by simp [h3, h4]), h1]
  simp only [hr, encO, h, if_true]
theorem last_last {i : In} {f c n : Int} (hf : f = 0 ∨ f = 1) (hc : 0 ≤ c ∧ c ≤ 15) (hn : f = 1 → -2147483648 ≤ n ∧ n ≤ 2147483647) : lastO i true (lastT f c n) = some (if f = 0 then { i with f := 0, c := c } else { i with n := n }) := by
  unfold lastT
  rcases hf with rfl | rfl
  · rw [if_pos rfl, if_pos rfl, lastO, num_reg]
    simp only [if_true, reg_reg hc, Option.map_some]
  · rw [if_neg (by decide), if_neg (by decide), lastO, num_itoa]
    simp only
    rw [if_pos (hn rfl)]
/-- a written instruction's name and operands are read as its word -/
theorem word_back {i : In} (at_ : Int) (_ : 0 ≤ at_ ∧ at_ < 4294967296) (h : rightI i = true) : wordO (headT i) (opsT i at_) at_ = some (laidI i) ∧ firm (headT i) := by
  have hb := pick_row h
  obtain ⟨f, u, v, a, b, op, c, n⟩ := i
  simp only at hb
  have hr := h
  simp only [rightI, rightB, in16, Bool.and_eq_true, decide_eq_true_eq] at h
  obtain ⟨_, h⟩ := h
  by_cases f3 : f = 3
  · subst f3
    simp only [show ¬ (3 : Int) = 0 by decide, show ¬ (3 : Int) = 1 by decide, show ¬ (3 : Int) = 2 by decide, if_false, if_true, Bool.and_eq_true, decide_eq_true_eq] at h
    obtain ⟨⟨rfl, rfl⟩, h⟩ := h
    have hix := cn_ix ⟨hb.1, hb.2.1⟩
    have ha : ((a.toNat : Nat) : Int) = a := Int.toNat_of_nonneg hb.1
    have hh : headT ⟨3, u, v, a, 0, 0, c, n⟩ = if v = true then [67, 65, 76, 76] else [74, 77, 80] := rfl
    refine ⟨?_, by rw [hh]; cases v <;> decide⟩
    have hw : ∀ l, wordO (if v = true then [67, 65, 76, 76] else [74, 77, 80]) l at_ = encO (brO v l at_) := fun l => by cases v <;> rfl
    rw [hh, hw]
    simp only [opsT, if_true, brO, hix]
    cases u
    · simp only [Bool.false_eq_true, if_false, decide_eq_true_eq] at h
      subst h
      simp only [Bool.false_eq_true, if_false, reg_reg ⟨hb.2.2.2.2.1, hb.2.2.2.2.2⟩, ha, encO, hr, if_true]
    · simp only [if_true, Bool.and_eq_true, decide_eq_true_eq] at h
      obtain ⟨rfl, h⟩ := h
      simp only [if_true, reg_itoa, num_itoa, ha]
      rw [if_pos (by omega)]
      have e : sx (((at_ + 4 + n * 4) % 4294967296 - at_ - 4) % 4294967296) 4294967296 / 4 = n := by
        unfold sx; split <;> omega
      rw [e]
      simp only [encO, hr, if_true]
  by_cases f2 : f = 2
  · subst f2
    simp only [show ¬ (2 : Int) = 0 by decide, show ¬ (2 : Int) = 1 by decide, if_false, if_true, Bool.and_eq_true, decide_eq_true_eq] at h
    obtain ⟨⟨rfl, rfl⟩, h⟩ := h
    have hh : headT ⟨2, u, v, a, b, 0, 0, n⟩ = nameT 2 u v 0 := rfl
    have hf := form_mem u v
    rw [hh]
    refine ⟨word_form hf ?_ hr, hf.2.1⟩
    simp only [opsT, show ¬ (2 : Int) = 3 by decide, if_false, if_true, readO, show ¬ (2 : Int) = 0 by decide, show ¬ (2 : Int) = 1 by decide, false_and, reg_reg ⟨hb.1, hb.2.1⟩, reg_reg ⟨hb.2.2.1, hb.2.2.2.1⟩, lastO, num_itoa]
    rw [if_pos (by omega)]
  have hfi : f = 0 ∨ f = 1 := by
    by_cases f0 : f = 0
    · exact .inl f0
    by_cases f1 : f = 1
    · exact .inr f1
    rw [if_neg f0, if_neg f1, if_neg f2, if_neg f3] at h; cases h
  have hm : mayB f u v a b op c = true := by
    rcases hfi with rfl | rfl
    · rw [if_pos rfl, Bool.and_eq_true] at h; exact h.2
    · rw [if_neg (by decide), if_pos rfl, Bool.and_eq_true] at h; exact h.2
  have hn0 : f = 0 → n = 0 := fun e => by subst e; rw [if_pos rfl, Bool.and_eq_true, decide_eq_true_eq] at h; exact h.1
  have hc1 : f = 1 → c = 0 ∧ 0 ≤ n ∧ n ≤ 65535 := fun e => by
    subst e; rw [if_neg (by decide), if_pos rfl] at h
    simp only [Bool.and_eq_true, decide_eq_true_eq] at h; exact h.1
  have hop := may_op hm
  by_cases o15 : op = 15
  · subst o15
    rw [mayB, if_neg (by omega), if_pos rfl] at hm
    simp only [Bool.and_eq_true, decide_eq_true_eq, Bool.not_eq_true'] at hm
    obtain ⟨⟨⟨⟨rfl, rfl⟩, rfl⟩, rfl⟩, rfl⟩ := hm
    obtain ⟨rfl, hn⟩ := hc1 rfl
    refine ⟨word_form form_trap ?_ hr, form_trap.2.1⟩
    simp only [opsT, show ¬ (1 : Int) = 3 by decide, show ¬ (1 : Int) = 2 by decide, if_false, if_true, readO, show ¬ (1 : Int) = 0 by decide, and_self, lastO, num_itoa]
    rw [if_pos (by omega)]
  by_cases o0 : op = 0
  · subst o0
    have hm' := hm
    rw [mayB, if_neg (by omega), if_neg (by decide)] at hm
    by_cases hu : f = 0 ∧ u = true
    · obtain ⟨rfl, rfl⟩ := hu
      simp only [and_self, if_true, Bool.true_and, Bool.not_true, Bool.false_and, Bool.or_false, Bool.and_eq_true, decide_eq_true_eq] at hm
      obtain ⟨rfl, rfl⟩ := hm
      obtain rfl := hn0 rfl
      refine ⟨word_form (form_h v) ?_ hr, (form_h v).2.1⟩
      simp only [opsT, show ¬ (0 : Int) = 3 by decide, show ¬ (0 : Int) = 2 by decide, show ¬ (0 : Int) = 15 by decide, ne_eq, not_true_eq_false, if_false, and_self, if_true, readO, reg_reg ⟨hb.1, hb.2.1⟩, Option.map_some]
    · have hb0 : b = 0 ∧ (f = 0 → u = false ∧ v = false) ∧ (f = 1 → ¬ (u = true ∧ v = true)) := by
        rcases hfi with rfl | rfl
        · have : u = false := by cases u; rfl; exact absurd ⟨rfl, rfl⟩ hu
          subst this
          simpa using hm
        · simp only [show ¬ (1 : Int) = 0 by decide, and_false, if_false, if_true, Bool.and_eq_true, decide_eq_true_eq, Bool.not_eq_true'] at hm
          refine ⟨hm.1, fun h => absurd h (by decide), fun _ h' => ?_⟩
          obtain ⟨rfl, rfl⟩ := h'
          simp at hm
      obtain ⟨rfl, hz, ho⟩ := hb0
      have hh : headT ⟨f, u, v, a, 0, 0, c, n⟩ = nameT 1 u v 0 := by
        rw [headT]
        simp only [if_neg f3]
        rcases hfi with rfl | rfl
        · exact name_0 fun h' => hu ⟨rfl, h'.2⟩
        · rfl
      have hf := form_op (op := 0) (by omega) u v
      rw [hh]
      refine ⟨word_form hf ?_ hr, hf.2.1⟩
      simp only [opsT, if_neg f3, if_neg f2, show ¬ (0 : Int) = 15 by decide, ne_eq, not_true_eq_false, if_false, if_neg hu, readO, show ¬ (1 : Int) = 0 by decide, and_false, and_self, if_true, reg_reg ⟨hb.1, hb.2.1⟩]
      rcases hfi with rfl | rfl
      · obtain ⟨rfl, rfl⟩ := hz rfl
        obtain rfl := hn0 rfl
        simp only [Bool.not_false, Bool.and_self, last_last (.inl rfl) ⟨hb.2.2.2.2.1, hb.2.2.2.2.2⟩ (fun h => absurd h (by decide)), if_true]
      · obtain ⟨rfl, hn⟩ := hc1 rfl
        simp only [lastT, show ¬ (1 : Int) = 0 by decide, if_false, lastO, num_itoa]
        rw [if_pos (by omega)]
  have ho : 0 ≤ op ∧ op ≤ 11 := by
    unfold mayB at hm
    split at hm
    · cases hm
    · omega
  have hh : headT ⟨f, u, v, a, b, op, c, n⟩ = nameT 1 u v op := by
    rw [headT]
    simp only [if_neg f3]
    rcases hfi with rfl | rfl
    · exact name_0 fun h' => o0 h'.1
    · rfl
  have hf := form_op ho u v
  rw [hh]
  refine ⟨word_form hf ?_ hr, hf.2.1⟩
  simp only [opsT, if_neg f3, if_neg f2, if_neg o15, ne_eq, o0, not_false_eq_true, if_true, readO, show ¬ (1 : Int) = 0 by decide, if_false, and_false, o15, reg_reg ⟨hb.1, hb.2.1⟩, reg_reg ⟨hb.2.2.1, hb.2.2.2.1⟩, decide_true]
  rw [last_last hfi ⟨hb.2.2.2.2.1, hb.2.2.2.2.2⟩ (fun e => by have := hc1 e; omega)]
  rcases hfi with rfl | rfl
  · obtain rfl := hn0 rfl
    simp only [if_true]
  · obtain ⟨rfl, hn⟩ := hc1 rfl
    simp only [show ¬ (1 : Int) = 0 by decide, if_false]
theorem hex_val : ∀ k : Fin 16, hexV (hexC (k.1 : Int)) = some k.1 ∧ solid (hexC (k.1 : Int)) = true := by decide
theorem hex_len (w : Int) : (hexT w).length = 8 := by simp [hexT]
theorem hex_back {w : Int} (h : 0 ≤ w ∧ w < 4294967296) : unhO (hexT w) = some w ∧ firm (hexT w) := by
  have hd : ∀ x : Int, hexV (hexC (x % 16)) = some (x % 16).toNat ∧ solid (hexC (x % 16)) = true := fun x => by
    have := hex_val ⟨(x % 16).toNat, by omega⟩
    simp only [Int.toNat_of_nonneg (Int.emod_nonneg x (by decide : (16 : Int) ≠ 0))] at this
    exact this
  have hx : hexT w = [hexC (w / 268435456 % 16), hexC (w / 16777216 % 16), hexC (w / 1048576 % 16), hexC (w / 65536 % 16), hexC (w / 4096 % 16), hexC (w / 256 % 16), hexC (w / 16 % 16), hexC (w % 16)] := by
    simp [hexT, List.range_succ_eq_map]
  rw [hx]
  constructor
  · simp only [unhO, List.length_cons, List.length_nil, unhL, (hd _).1, reduceCtorEq, false_or]
    rw [if_neg (by decide)]
    have s1 : ∀ x : Int, 0 ≤ x → 16 * (x / 16).toNat + (x % 16).toNat = x.toNat := fun x hx => by omega
    have d1 : w / 16 / 16 = w / 256 := Int.ediv_ediv_of_nonneg (by decide)
    have d2 : w / 256 / 16 = w / 4096 := Int.ediv_ediv_of_nonneg (by decide)
    have d3 : w / 4096 / 16 = w / 65536 := Int.ediv_ediv_of_nonneg (by decide)
    have d4 : w / 65536 / 16 = w / 1048576 := Int.ediv_ediv_of_nonneg (by decide)
    have d5 : w / 1048576 / 16 = w / 16777216 := Int.ediv_ediv_of_nonneg (by decide)
    have d6 : w / 16777216 / 16 = w / 268435456 := Int.ediv_ediv_of_nonneg (by decide)
    have h7 : 16 * 0 + (w / 268435456 % 16).toNat = (w / 268435456).toNat := by omega
    rw [h7]
    have pos : ∀ k : Int, 0 < k → 0 ≤ w / k := fun k hk => Int.ediv_nonneg h.1 (Int.le_of_lt hk)
    have e6 := s1 (w / 16777216) (pos _ (by decide))
    have e5 := s1 (w / 1048576) (pos _ (by decide))
    have e4 := s1 (w / 65536) (pos _ (by decide))
    have e3 := s1 (w / 4096) (pos _ (by decide))
    have e2 := s1 (w / 256) (pos _ (by decide))
    have e1 := s1 (w / 16) (pos _ (by decide))
    have e0 := s1 w h.1
    rw [d6] at e6; rw [d5] at e5; rw [d4] at e4; rw [d3] at e3; rw [d2] at e2; rw [d1] at e1
    rw [e6, e5, e4, e3, e2, e1, e0]
    exact congrArg some (Int.toNat_of_nonneg h.1)
  · refine ⟨by simp, ?_⟩
    simp only [List.all_cons, (hd _).2, Bool.and_self, List.all_nil]
/-- a written word's line -/
theorem show_back {w : Int} (at_ : Int) (hw : 0 ≤ w ∧ w < 4294967296) (hat : 0 ≤ at_ ∧ at_ < 4294967296) : ∃ nm l, showF w at_ = nm ++ 32 :: joinT l ∧ firm nm ∧ l ≠ [] ∧ (∀ s ∈ l, firm s) ∧ wordO nm l at_ = some w := by
  cases hd : decB w with
  | none =>
    refine ⟨[87, 79, 82, 68], [hexT w], ?_, by decide, by simp, fun s hs => ?_, ?_⟩
    · rw [showF, hd]; rfl
    · rw [List.mem_singleton] at hs; subst hs; exact (hex_back hw).2
    · rw [wordO, if_pos rfl]; exact (hex_back hw).1
  | some i =>
    obtain ⟨h1, h2⟩ := dec_is hd
    obtain ⟨o1, o2⟩ := ops_firm at_ h1
    obtain ⟨b1, b2⟩ := word_back at_ hat h1
    refine ⟨headT i, opsT i at_, ?_, b2, o1, o2, by rw [b1, h2]⟩
    rw [showF, hd]
    exact ins_join i at_
end Go.Asm
end
section
namespace Go.Asm
set_option linter.unusedSimpArgs false
set_option maxHeartbeats 4000000
end Go.Asm
end
