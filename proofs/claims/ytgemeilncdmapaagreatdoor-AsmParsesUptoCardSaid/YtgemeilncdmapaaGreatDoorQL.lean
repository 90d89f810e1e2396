/- Of assembly texts, in plain Lean: instructions and their words. Of assembly texts, in plain Lean: numbers and their texts. Of assembly texts, in plain Lean: how instructions are written, and read. Of assembly texts, in plain Lean: what is written is read as the same words. Of assembly texts, in plain Lean: numbers as the document reads them. -/
import Derived.Test.YtgemeilncdmapaaGreatDoorAr
import Derived.Lib.ItoaNum
import Derived.Lib.ParseIntB
import Derived.Lib.ParseIntBTie
import Derived.Lib.ParseIntBCases
section
namespace Go.Asm
set_option linter.unusedSimpArgs false
abbrev Bytes := List UInt8
/-- an instruction's fields, in the document's order -/
structure In where
  f : Int
  u : Bool
  v : Bool
  a : Int
  b : Int
  op : Int
  c : Int
  n : Int
  deriving DecidableEq
/-- are U and V such as an operation takes? -/
def mayB (f : Int) (u v : Bool) (a b op c : Int) : Bool :=
  if op < 0 ∨ 15 < op ∨ (11 < op ∧ op < 15) then false
  else if op = 15 then decide (f = 1) && !u && !v && decide (a = 0) && decide (b = 0)
  else if op = 0 ∧ f = 0 then decide (b = 0) && (u && decide (c = 0) || !u && !v)
  else if op = 0 then decide (b = 0) && !(u && v)
  else (decide (op = 8 ∨ op = 9 ∨ op = 10) || !u) && (decide (f = 1) || !v)
def in16 (n : Int) : Bool := decide (0 ≤ n) && decide (n ≤ 15)
/-- is it an instruction? -/
def rightB (f : Int) (u v : Bool) (a b op c n : Int) : Bool :=
  in16 a && in16 b && in16 c &&
  (if f = 0 then decide (n = 0) && mayB f u v a b op c
   else if f = 1 then decide (c = 0) && (decide (0 ≤ n) && decide (n ≤ 65535)) && mayB f u v a b op c
   else if f = 2 then decide (c = 0) && decide (op = 0) && (decide (-524288 ≤ n) && decide (n ≤ 524287))
   else if f = 3 then decide (b = 0) && decide (op = 0) && (if u then decide (c = 0) && (decide (-8388608 ≤ n) && decide (n ≤ 8388607)) else decide (n = 0))
   else false)
def b2 (b : Bool) : Int := if b then 1 else 0
/-- its word -/
def laid (f : Int) (u v : Bool) (a b op c n : Int) : Int :=
  f * 1073741824 + b2 u * 536870912 + b2 v * 268435456 + a * 16777216 +
  (if f ≤ 1 then b * 1048576 + op * 65536 + n + c else if f = 2 then b * 1048576 + n % 1048576 else n % 16777216 + c)
/-- a number of so many bits, with its sign -/
def sx (n m : Int) : Int := if m ≤ 2 * n then n - m else n
/-- a word's fields -/
def flds (w : Int) : In :=
  let f := w / 1073741824
  let u := decide (w / 536870912 % 2 = 1)
  { f := f, u := u, v := decide (w / 268435456 % 2 = 1), a := w / 16777216 % 16
    b := if f = 3 then 0 else w / 1048576 % 16
    op := if f ≤ 1 then w / 65536 % 16 else 0
    c := if f = 0 ∨ (f = 3 ∧ u = false) then w % 16 else 0
    n := if f = 1 then w % 65536 else if f = 2 then sx (w % 1048576) 1048576 else if f = 3 ∧ u = true then sx (w % 16777216) 16777216 else 0 }
def rightI (i : In) : Bool := rightB i.f i.u i.v i.a i.b i.op i.c i.n
def laidI (i : In) : Int := laid i.f i.u i.v i.a i.b i.op i.c i.n
/-- the instruction that a word is -/
def decB (w : Int) : Option In := if rightI (flds w) && decide (laidI (flds w) = w) then some (flds w) else none
theorem laid_lo {f : Int} {u v : Bool} {a b op c n : Int} (h : rightB f u v a b op c n = true) : 0 ≤ laid f u v a b op c n ∧ laid f u v a b op c n < 4294967296 := by
  simp only [rightB, in16, Bool.and_eq_true, decide_eq_true_eq] at h
  obtain ⟨⟨⟨ha, hb⟩, hc⟩, h⟩ := h
  have hu : 0 ≤ b2 u ∧ b2 u ≤ 1 := by cases u <;> simp [b2]
  have hv : 0 ≤ b2 v ∧ b2 v ≤ 1 := by cases v <;> simp [b2]
  have hop : mayB f u v a b op c = true → 0 ≤ op ∧ op ≤ 15 := fun hm => by
    unfold mayB at hm
    split at hm
    · cases hm
    · omega
  unfold laid
  split at h
  · simp only [Bool.and_eq_true, decide_eq_true_eq] at h
    have := hop h.2
    rw [if_pos (by omega)]; omega
  split at h
  · simp only [Bool.and_eq_true, decide_eq_true_eq] at h
    have := hop h.2
    rw [if_pos (by omega)]; omega
  split at h
  · rw [if_neg (by omega), if_pos (by assumption)]; omega
  split at h
  · rw [if_neg (by omega), if_neg (by omega)]
    simp only [Bool.and_eq_true, decide_eq_true_eq] at h
    cases u
    · simp only [Bool.false_eq_true, if_false, decide_eq_true_eq] at h; omega
    · simp only [if_true, Bool.and_eq_true, decide_eq_true_eq] at h; omega
  · cases h
theorem may_op {f : Int} {u v : Bool} {a b op c : Int} (hm : mayB f u v a b op c = true) : 0 ≤ op ∧ op ≤ 15 := by
  unfold mayB at hm
  split at hm
  · cases hm
  · omega
/-- what is read from a word is right, and has this word -/
theorem dec_is {w : Int} {i : In} (h : decB w = some i) : rightI i = true ∧ laidI i = w := by
  unfold decB at h
  split at h
  · rename_i h'
    cases h
    rw [Bool.and_eq_true, decide_eq_true_eq] at h'
    exact h'
  · cases h
end Go.Asm
end
section
namespace Go.Asm
set_option linter.unusedSimpArgs false
set_option maxHeartbeats 4000000
/-- a digit -/
def dgt (c : UInt8) : Bool := decide (48 ≤ c.toNat) && decide (c.toNat ≤ 57)
/-- what digits say -/
def dval (a : Nat) (t : Bytes) : Nat := t.foldl (fun a c => 10 * a + (c.toNat - 48)) a
theorem dval_nil (a : Nat) : dval a [] = a := by unfold dval; rw [List.foldl_nil]
theorem dval_cons (a : Nat) (c : UInt8) (r : Bytes) : dval a (c :: r) = dval (10 * a + (c.toNat - 48)) r := by unfold dval; rw [List.foldl_cons]
/-- a number without a sign, in its only form -/
def unsB (t : Bytes) : Bool := !t.isEmpty && t.all dgt && (decide (t.length = 1) || !(t.getD 0 0 == 48))
def unsO (t : Bytes) : Option Nat := if unsB t then some (dval 0 t) else none
/-- a number in its only form -/
def numO (s : Bytes) : Option Int :=
  match s with
  | 45 :: t => match unsO t with
    | some (n + 1) => some (-((n + 1 : Nat) : Int))
    | _ => none
  | _ => (unsO s).map fun n => (n : Int)
theorem dval_snoc (a : Nat) (t : Bytes) (c : UInt8) : dval a (t ++ [c]) = 10 * dval a t + (c.toNat - 48) := by
  induction t generalizing a with
  | nil => rw [List.nil_append, dval_cons, dval_nil, dval_nil]
  | cons d t ih => rw [List.cons_append, dval_cons, dval_cons]; exact ih _
theorem digit_of (k : Nat) (h : k < 10) : (UInt8.ofNat (48 + k)).toNat = 48 + k := by
  rw [UInt8.toNat_ofNat']; omega
theorem dec_step (n : Nat) (h : ¬ n < 10) : Lib.decDigits n = Lib.decDigits (n / 10) ++ [UInt8.ofNat (48 + n % 10)] := by
  rw [Lib.decDigits, dif_neg h]
theorem dec_small (n : Nat) (h : n < 10) : Lib.decDigits n = [UInt8.ofNat (48 + n)] := by
  rw [Lib.decDigits, dif_pos h]
theorem dec_ne (n : Nat) : Lib.decDigits n ≠ [] := by
  by_cases h : n < 10
  · rw [dec_small n h]; simp
  · rw [dec_step n h]; simp
theorem dec_all (n : Nat) : (Lib.decDigits n).all dgt = true := by
  induction n using Nat.strongRecOn with
  | _ n ih =>
    by_cases h : n < 10
    · rw [dec_small n h]
      simp only [List.all_cons, List.all_nil, Bool.and_true, dgt, digit_of n h, Bool.and_eq_true, decide_eq_true_eq]; omega
    · rw [dec_step n h, List.all_append, ih (n / 10) (by omega)]
      simp only [List.all_cons, List.all_nil, Bool.and_true, dgt, digit_of (n % 10) (Nat.mod_lt _ (by decide)), Bool.and_eq_true, decide_eq_true_eq, Bool.true_and]; omega
theorem dec_val (n : Nat) : dval 0 (Lib.decDigits n) = n := by
  induction n using Nat.strongRecOn with
  | _ n ih =>
    by_cases h : n < 10
    · rw [dec_small n h]
      rw [dval_cons, dval_nil]
      rw [digit_of n h]; omega
    · rw [dec_step n h, dval_snoc, ih (n / 10) (by omega), digit_of _ (Nat.mod_lt _ (by decide))]; omega
theorem dec_head (n : Nat) (h : 0 < n) : (Lib.decDigits n).getD 0 0 ≠ 48 := by
  induction n using Nat.strongRecOn with
  | _ n ih =>
    by_cases h1 : n < 10
    · rw [dec_small n h1]
      intro e
      have : (UInt8.ofNat (48 + n)).toNat = 48 := by rw [show UInt8.ofNat (48 + n) = 48 from e]; rfl
      rw [digit_of n h1] at this; omega
    · have := ih (n / 10) (by omega) (by omega)
      rw [dec_step n h1]
      obtain ⟨c, r, e⟩ := List.exists_cons_of_ne_nil (dec_ne (n / 10))
      rw [e] at this ⊢
      simpa using this
theorem uns_dec (n : Nat) : unsO (Lib.decDigits n) = some n := by
  have hb : unsB (Lib.decDigits n) = true := by
    unfold unsB
    rw [dec_all n]
    simp only [Bool.and_true, Bool.and_eq_true, Bool.or_eq_true, decide_eq_true_eq, Bool.not_eq_true', List.isEmpty_eq_false_iff, beq_eq_false_iff_ne, ne_eq]
    refine ⟨dec_ne n, ?_⟩
    rcases Nat.eq_zero_or_pos n with rfl | h
    · left; rw [dec_small 0 (by decide)]; rfl
    · right; exact dec_head n h
  rw [unsO, if_pos hb, dec_val]
theorem dval_lo (a : Nat) (t : Bytes) : a ≤ dval a t := by
  induction t generalizing a with
  | nil => rw [dval_nil]; exact Nat.le_refl _
  | cons c t ih => have := ih (10 * a + (c.toNat - 48)); rw [dval_cons]; omega
/-- digits behind digits -/
theorem dec_of (n : Nat) (t : Bytes) (h : t.all dgt = true) (hn : 0 < n) : Lib.decDigits n ++ t = Lib.decDigits (dval n t) := by
  induction t generalizing n with
  | nil => rw [List.append_nil, dval_nil]
  | cons c t ih =>
    simp only [List.all_cons, Bool.and_eq_true] at h
    obtain ⟨hc, ht⟩ := h
    simp only [dgt, Bool.and_eq_true, decide_eq_true_eq] at hc
    rw [dval_cons]
    rw [← ih _ ht (by omega), dec_step (10 * n + (c.toNat - 48)) (by omega), show (10 * n + (c.toNat - 48)) / 10 = n by omega, show 48 + (10 * n + (c.toNat - 48)) % 10 = c.toNat by omega, UInt8.ofNat_toNat, List.append_assoc]
    rfl
theorem uns_is {t : Bytes} {n : Nat} (h : unsO t = some n) : t = Lib.decDigits n := by
  unfold unsO at h
  split at h
  · rename_i hb
    cases h
    simp only [unsB, Bool.and_eq_true, Bool.or_eq_true, decide_eq_true_eq, Bool.not_eq_true', List.isEmpty_eq_false_iff, beq_eq_false_iff_ne, ne_eq] at hb
    obtain ⟨⟨h0, h1⟩, h2⟩ := hb
    match t, h0, h1, h2 with
    | c :: r, _, h1, h2 =>
      simp only [List.all_cons, Bool.and_eq_true] at h1
      obtain ⟨hc, hr⟩ := h1
      have hc' := hc
      simp only [dgt, Bool.and_eq_true, decide_eq_true_eq] at hc'
      rw [dval_cons, Nat.mul_zero, Nat.zero_add]
      have e1 : [c] = Lib.decDigits (c.toNat - 48) := by
        rw [dec_small _ (by omega), show 48 + (c.toNat - 48) = c.toNat by omega, UInt8.ofNat_toNat]
      by_cases hz : c = 48
      · subst hz
        rcases h2 with h2 | h2
        · simp only [List.length_cons] at h2
          have : r = [] := List.length_eq_zero_iff.1 (by omega)
          subst this
          exact e1
        · exact absurd rfl h2
      · have : 0 < c.toNat - 48 := by
          have : c.toNat ≠ 48 := fun e => hz (UInt8.toNat_inj.1 e)
          omega
        rw [← dec_of _ r hr this, ← e1]; rfl
  · cases h
theorem itoa_dig (n : Int) (c : UInt8) (h : c ∈ Lib.itoa n) : c = 45 ∨ dgt c = true := by
  unfold Lib.itoa at h
  split at h
  · rcases List.mem_cons.1 h with rfl | h
    · exact .inl rfl
    · exact .inr (List.all_eq_true.1 (dec_all _) c h)
  · exact .inr (List.all_eq_true.1 (dec_all _) c h)
theorem num_itoa (n : Int) : numO (Lib.itoa n) = some n := by
  unfold Lib.itoa
  split
  · rename_i h
    simp only [numO, uns_dec]
    obtain ⟨k, hk⟩ : ∃ k, n.natAbs = k + 1 := ⟨n.natAbs - 1, by omega⟩
    rw [hk]; simp only [Option.some.injEq]; omega
  · rename_i h
    have e : numO (Lib.decDigits n.toNat) = (unsO (Lib.decDigits n.toNat)).map fun n => (n : Int) := by
      obtain ⟨c, r, e⟩ := List.exists_cons_of_ne_nil (dec_ne n.toNat)
      have hc := dec_all n.toNat
      rw [e] at hc ⊢
      simp only [List.all_cons, Bool.and_eq_true, dgt, decide_eq_true_eq] at hc
      unfold numO
      split
      · rename_i h45; cases h45; exact absurd hc.1.1 (by decide)
      · rfl
    rw [e, uns_dec]
    exact congrArg some (show ((n.toNat : Nat) : Int) = n by omega)
theorem num_is {s : Bytes} {n : Int} (h : numO s = some n) : s = Lib.itoa n := by
  unfold numO at h
  split at h
  · rename_i t
    split at h
    · rename_i k hk
      cases h
      rw [Lib.itoa, if_pos (by omega), uns_is hk]
      simp only [Int.natAbs_neg, Int.natAbs_natCast]
    · cases h
  · cases hu : unsO s with
    | none => rw [hu] at h; cases h
    | some k =>
      rw [hu] at h
      have h' : some ((k : Nat) : Int) = some n := h
      cases h'
      rw [Lib.itoa, if_neg (by omega), Int.toNat_natCast]
      exact uns_is hu
theorem num_iff (s : Bytes) (n : Int) : numO s = some n ↔ s = Lib.itoa n := ⟨num_is, fun h => h ▸ num_itoa n⟩
/-- the library reads it -/
theorem uintM_ok (M : Nat) (hM : M ≤ 18446744073709551615) : ∀ (t : Bytes) (a : Nat), t.all dgt = true → dval a t ≤ M → Lib.parseUintM M a t = .ok (dval a t)
  | [], a, _, _ => by rw [dval_nil]; rfl
  | c :: r, a, h, hv => by
    simp only [List.all_cons, Bool.and_eq_true] at h
    obtain ⟨hc, hr⟩ := h
    simp only [dgt, Bool.and_eq_true, decide_eq_true_eq] at hc
    rw [dval_cons] at hv ⊢
    have := dval_lo (10 * a + (c.toNat - 48)) r
    rw [Lib.parseUintM, if_pos hc, if_neg (by omega), if_neg (by omega), Nat.mul_comm a 10]
    exact uintM_ok M hM r _ hr hv
theorem parse_itoa (n : Int) (h : -9223372036854775808 ≤ n ∧ n < 9223372036854775808) : Lib.parseIntB 64 (Lib.itoa n) = .ok n := by
  have key : ∀ k : Nat, k ≤ 18446744073709551615 → Lib.parseUintB 64 (Lib.decDigits k) = .ok k := fun k hk => by
    rw [Lib.parseUintB, if_neg (dec_ne k), uintM_ok _ (by decide) _ _ (dec_all k) (by rw [dec_val]; exact hk), dec_val]
  unfold Lib.itoa
  split
  · rename_i hn
    simp only [Lib.parseIntB, show (45 : UInt8).toNat = 45 from rfl, or_true, if_true, key n.natAbs (by omega), not_true_eq_false, false_and, if_false, true_and]
    rw [if_neg (by omega)]
    congr 1; omega
  · rename_i hn
    obtain ⟨c, r, e⟩ := List.exists_cons_of_ne_nil (dec_ne n.toNat)
    have hc := dec_all n.toNat
    have hk := key n.toNat (by omega)
    rw [e] at hc hk ⊢
    simp only [List.all_cons, Bool.and_eq_true, dgt, decide_eq_true_eq] at hc
    rw [Lib.parseIntB_plain 64 c r (by omega) (by omega), hk, Lib.signlessC, if_neg (by simp only [Nat.reduceSub, Nat.reducePow]; omega)]
    exact congrArg Lib.NumEnd.ok (by omega)
/-- the program's number: what the library reads, if it is written so -/
def prgN (s : Bytes) : Int := match Lib.parseIntB 64 s with
  | .ok v => v
  | .range => Lib.intSat 64 s
  | _ => 0
def prgB (s : Bytes) : Bool := match Lib.parseIntB 64 s with
  | .ok v => Lib.itoa v == s
  | _ => false
theorem prg_is (s : Bytes) : prgB s = true ↔ ∃ n, numO s = some n ∧ -9223372036854775808 ≤ n ∧ n < 9223372036854775808 := by
  constructor
  · intro h
    unfold prgB at h
    split at h
    · rename_i v hv
      have hb := Lib.parseIntB_bounds hv
      exact ⟨v, (num_iff s v).2 (beq_iff_eq.1 h).symm, by simpa using hb.1, by simpa using hb.2⟩
    · cases h
  · rintro ⟨n, hn, hb⟩
    obtain rfl := num_is hn
    rw [prgB, parse_itoa n hb]
    simp
theorem prg_val {s : Bytes} {n : Int} (hn : numO s = some n) (hb : -9223372036854775808 ≤ n ∧ n < 9223372036854775808) : prgN s = n := by
  obtain rfl := num_is hn
  rw [prgN, parse_itoa n hb]
end Go.Asm
end
section
namespace Go.Asm
set_option linter.unusedSimpArgs false
set_option maxHeartbeats 4000000
def ops : List Bytes := [[77, 79, 86], [76, 83, 76], [65, 83, 82], [82, 79, 82], [65, 78, 68], [65, 78, 78], [73, 79, 82], [88, 79, 82], [65, 68, 68], [83, 85, 66], [77, 85, 76], [68, 73, 86], [], [], [], [84, 82, 65, 80]]
def cnds : List Bytes := [[77, 73], [69, 81], [67, 83], [86, 83], [76, 83], [76, 84], [76, 69], [65, 76], [80, 76], [78, 69], [67, 67], [86, 67], [72, 73], [71, 69], [71, 84], [78, 86]]
def opT (n : Int) : Bytes := ops.getD n.toNat []
def cnT (n : Int) : Bytes := cnds.getD n.toNat []
def regT (n : Int) : Bytes := 82 :: Lib.itoa n
def sufT (u v : Bool) : Bytes := (if u then [85] else []) ++ (if v then [86] else [])
def nameT (f : Int) (u v : Bool) (op : Int) : Bytes :=
  if f = 2 then (if u then [83, 84] else [76, 68]) ++ (if v then [66] else [87])
  else if f = 0 ∧ op = 0 ∧ u = true then (if v then [77, 79, 86, 70] else [77, 79, 86, 72])
  else opT op ++ sufT u v
def hexC (n : Int) : UInt8 := ([48, 49, 50, 51, 52, 53, 54, 55, 56, 57, 65, 66, 67, 68, 69, 70] : Bytes).getD n.toNat 0
def hexT (w : Int) : Bytes := (List.range 8).map fun i => hexC (w / 16 ^ (7 - i) % 16)
def sep : Bytes := [44, 32]
def lastT (f c n : Int) : Bytes := if f = 0 then regT c else Lib.itoa n
/-- how an instruction is written, at an address -/
def insT (i : In) (at_ : Int) : Bytes :=
  if i.f = 3 then (if i.v then [67, 65, 76, 76, 32] else [74, 77, 80, 32]) ++ (cnT i.a ++ (sep ++ (if i.u then Lib.itoa ((at_ + 4 + i.n * 4) % 4294967296) else regT i.c)))
  else if i.f = 2 then nameT i.f i.u i.v i.op ++ (32 :: (regT i.a ++ (sep ++ (regT i.b ++ (sep ++ Lib.itoa i.n)))))
  else if i.op = 15 then nameT i.f i.u i.v i.op ++ (32 :: Lib.itoa i.n)
  else if i.op ≠ 0 then nameT i.f i.u i.v i.op ++ (32 :: (regT i.a ++ (sep ++ (regT i.b ++ (sep ++ lastT i.f i.c i.n)))))
  else if i.f = 0 ∧ i.u = true then nameT i.f i.u i.v i.op ++ (32 :: regT i.a)
  else nameT i.f i.u i.v i.op ++ (32 :: (regT i.a ++ (sep ++ lastT i.f i.c i.n)))
/-- how a word is written, at an address -/
def showF (w at_ : Int) : Bytes := match decB w with
  | none => [87, 79, 82, 68, 32] ++ hexT w
  | some i => insT i at_
/-! reading -/
/-- a register -/
def regO (s : Bytes) : Option Int := match s with
  | 82 :: t => match numO t with
    | some n => if 0 ≤ n ∧ n ≤ 15 then some n else none
    | none => none
  | _ => none
/-- the last operand -/
def lastO (i : In) (reck : Bool) (z : Bytes) : Option In := match numO z with
  | some n => if -2147483648 ≤ n ∧ n ≤ 2147483647 then some { i with n := n } else none
  | none => if reck then (regO z).map fun c => { i with f := 0, c := c } else none
/-- an instruction's fields, of what stands between commas -/
def readO (i : In) (l : List Bytes) : Option In :=
  if i.f = 0 then match l with
    | [x] => (regO x).map fun a => { i with a := a }
    | _ => none
  else if i.f = 1 ∧ i.op = 15 then match l with
    | [z] => lastO i false z
    | _ => none
  else if i.f = 1 ∧ i.op = 0 then match l with
    | [x, z] => match regO x with
      | some a => lastO { i with a := a } (!i.u && !i.v) z
      | none => none
    | _ => none
  else match l with
    | [x, y, z] => match regO x, regO y with
      | some a, some b => lastO { i with a := a, b := b } (decide (i.f = 1)) z
      | _, _ => none
    | _ => none
def ixO : List Bytes → Bytes → Option Nat
  | [], _ => none
  | x :: r, s => if x = s then some 0 else (ixO r s).map (· + 1)
/-- a branch -/
def brO (v : Bool) (l : List Bytes) (at_ : Int) : Option In := match l with
  | [x, y] => match ixO cnds x with
    | none => none
    | some a => match regO y with
      | some c => some { f := 3, u := false, v := v, a := a, b := 0, op := 0, c := c, n := 0 }
      | none => match numO y with
        | none => none
        | some n => if 0 ≤ n ∧ n ≤ 4294967295 ∧ (n - at_ - 4) % 4 = 0 then some { f := 3, u := true, v := v, a := a, b := 0, op := 0, c := 0, n := sx ((n - at_ - 4) % 4294967296) 4294967296 / 4 } else none
  | _ => none
/-- names, and what they stand for -/
def formL : List (Bytes × In) :=
  [([77, 79, 86, 72], ⟨0, true, false, 0, 0, 0, 0, 0⟩), ([77, 79, 86, 70], ⟨0, true, true, 0, 0, 0, 0, 0⟩), ([84, 82, 65, 80], ⟨1, false, false, 0, 0, 15, 0, 0⟩)] ++
  (List.range 4).map (fun k => let i : In := ⟨2, k % 2 == 1, decide (2 ≤ k), 0, 0, 0, 0, 0⟩; (nameT 2 i.u i.v 0, i)) ++
  (List.range 12).flatMap fun (op : Nat) => (List.range 4).map fun k => let i : In := ⟨1, k % 2 == 1, decide (2 ≤ k), 0, 0, (op : Int), 0, 0⟩; (nameT 1 i.u i.v op, i)
def formO (s : Bytes) : Option In := (formL.find? fun p => p.1 == s).map (·.2)
def hexV (c : UInt8) : Option Nat := if 48 ≤ c.toNat ∧ c.toNat ≤ 57 then some (c.toNat - 48) else if 65 ≤ c.toNat ∧ c.toNat ≤ 70 then some (c.toNat - 55) else none
def unhL : Nat → Bytes → Option Nat
  | a, [] => some a
  | a, c :: r => match hexV c with
    | some d => unhL (16 * a + d) r
    | none => none
def unhO (s : Bytes) : Option Int := if s = [] ∨ 8 < s.length then none else (unhL 0 s).map fun n => (n : Int)
def encO (o : Option In) : Option Int := match o with
  | some i => if rightI i then some (laidI i) else none
  | none => none
/-- the word that a name says with what stands behind it -/
def wordO (nm : Bytes) (l : List Bytes) (at_ : Int) : Option Int :=
  if nm = [87, 79, 82, 68] then match l with
    | [x] => unhO x
    | _ => none
  else if nm = [74, 77, 80] ∨ nm = [67, 65, 76, 76] then encO (brO (nm == [67, 65, 76, 76]) l at_)
  else match formO nm with
    | some i => encO (readO i l)
    | none => none
/-! lines -/
def blk (c : UInt8) : Bool := c == 32 || c == 9 || c == 13
def trimF (s : Bytes) : Bytes := ((s.dropWhile blk).reverse.dropWhile blk).reverse
/-- a text's pieces between bytes -/
def consH (b : UInt8) : List Bytes → List Bytes
  | [] => [[b]]
  | p :: r => (b :: p) :: r
def pcs (c : UInt8) : Bytes → List Bytes
  | [] => [[]]
  | b :: r => if b = c then [] :: pcs c r else consH b (pcs c r)
def headF (s : Bytes) : Bytes := s.takeWhile fun c => !blk c
def restF (s : Bytes) : List Bytes := let r := trimF (s.drop (headF s).length); if r = [] then [] else (pcs 44 r).map trimF
def lineO (s : Bytes) (at_ : Int) : Option Int := wordO (headF s) (restF s) at_
def bareF (s : Bytes) : Bytes := trimF (s.takeWhile fun c => !(c == 59))
/-- words of lines, behind words that were read; or the number of the line that says none -/
def linesO : Nat → List Int → List Bytes → Except Nat (List Int)
  | _, out, [] => .ok out
  | k, out, s :: r => if bareF s = [] then linesO (k + 1) out r else match lineO (bareF s) (4 * out.length) with
    | some w => linesO (k + 1) (out ++ [w]) r
    | none => .error k
end Go.Asm
end
section
namespace Go.Asm
set_option linter.unusedSimpArgs false
set_option maxHeartbeats 4000000
def joinT : List Bytes → Bytes
  | [] => []
  | [x] => x
  | x :: y :: r => x ++ (sep ++ joinT (y :: r))
theorem pcs_ne (c : UInt8) (s : Bytes) : pcs c s ≠ [] := by
  cases s with
  | nil => simp [pcs]
  | cons b r =>
    rw [pcs]; split
    · simp
    · cases hp : pcs c r <;> simp [consH]
theorem pcs_no {c : UInt8} {s : Bytes} (h : ∀ x ∈ s, x ≠ c) : pcs c s = [s] := by
  induction s with
  | nil => rfl
  | cons b r ih => rw [pcs, if_neg (h b (by simp)), ih fun x hx => h x (by simp [hx])]; rfl
theorem pcs_at {c : UInt8} {s : Bytes} (t : Bytes) (h : ∀ x ∈ s, x ≠ c) : pcs c (s ++ c :: t) = s :: pcs c t := by
  induction s with
  | nil => simp [pcs]
  | cons b r ih => rw [List.cons_append, pcs, if_neg (h b (by simp)), ih fun x hx => h x (by simp [hx])]; rfl
theorem reg_itoa (n : Int) : regO (Lib.itoa n) = none := by
  unfold regO
  split
  · rename_i t e
    have := itoa_dig n 82 (by rw [e]; simp)
    rcases this with h | h
    · exact absurd h (by decide)
    · exact absurd h (by decide)
  · rfl
theorem hex_len (w : Int) : (hexT w).length = 8 := by simp [hexT]
end Go.Asm
end
section
namespace Go.Asm
set_option linter.unusedSimpArgs false
set_option maxHeartbeats 4000000
/-- a number of at most ten digits behind its sign -/
def refP (m : Bool) (t : Bytes) : Option Int :=
  if t = [] ∨ 10 < t.length ∨ (t.getD 0 0 = 48 ∧ (1 < t.length ∨ m = true)) then none
  else if t.all dgt then some (if m then -((dval 0 t : Nat) : Int) else ((dval 0 t : Nat) : Int)) else none
def refO (s : Bytes) : Option Int := match s with
  | 45 :: t => refP true t
  | _ => refP false s
theorem ref_45 (t : Bytes) : refO (45 :: t) = refP true t := rfl
theorem ref_no {s : Bytes} (h : ∀ t, s ≠ 45 :: t) : refO s = refP false s := by
  unfold refO
  split
  · exact absurd rfl (h _)
  · rfl
theorem uns_len {t : Bytes} {n : Nat} (h : unsO t = some n) : t.length ≤ 10 ↔ n ≤ 9999999999 := by
  obtain rfl := uns_is h
  rw [Lib.decDigits_length]
  constructor
  · intro hl
    have h1 := Lib.lt_pow_nDigits n
    have h2 : 10 ^ Lib.nDigits n ≤ 10 ^ 10 := Nat.pow_le_pow_right (by decide) hl
    have h3 : (10 : Nat) ^ 10 = 10000000000 := by decide
    omega
  · intro hn
    rcases Nat.lt_or_ge 10 (Lib.nDigits n) with h | h
    · exfalso
      have key : ∀ k n : Nat, k < Lib.nDigits n → 10 ^ k ≤ n ∨ k = 0 := by
        intro k
        induction k with
        | zero => intro n _; exact .inr rfl
        | succ k ih =>
          intro n hk
          by_cases h10 : n < 10
          · rw [Lib.nDigits_small h10] at hk; omega
          · rw [Lib.nDigits_big h10] at hk
            left
            rcases ih (n / 10) (by omega) with h' | h'
            · rw [Nat.pow_succ]; omega
            · subst h'; simpa using (show 10 ≤ n by omega)
      have h3 : (10 : Nat) ^ 10 = 10000000000 := by decide
      rcases key 10 n h with h' | h'
      · omega
      · omega
    · exact h
theorem uns_cond (t : Bytes) : unsB t = true ↔ t ≠ [] ∧ t.all dgt = true ∧ (t.length = 1 ∨ t.getD 0 0 ≠ 48) := by
  simp only [unsB, Bool.and_eq_true, Bool.or_eq_true, decide_eq_true_eq, Bool.not_eq_true', List.isEmpty_eq_false_iff, beq_eq_false_iff_ne, ne_eq, and_assoc]
theorem ref_is (s : Bytes) (n : Int) : refO s = some n ↔ numO s = some n ∧ -9999999999 ≤ n ∧ n ≤ 9999999999 := by
  have hlen : ∀ t : Bytes, t ≠ [] → 1 ≤ t.length := fun t ht => by cases t; exact absurd rfl ht; simp
  by_cases hs : ∃ t, s = 45 :: t
  · obtain ⟨t, rfl⟩ := hs
    have e1 : refO (45 :: t) = refP true t := rfl
    have e2 : numO (45 :: t) = match unsO t with
      | some (k + 1) => some (-((k + 1 : Nat) : Int))
      | _ => none := rfl
    rw [e1, e2]
    unfold refP
    split
    · rename_i h
      constructor
      · intro h'; cases h'
      · rintro ⟨h1, h2⟩
        split at h1
        · rename_i k hk
          have hb : unsB t = true := by
            unfold unsO at hk; split at hk
            · assumption
            · cases hk
          obtain ⟨u1, u2, u3⟩ := (uns_cond t).1 hb
          rcases h with h | h | ⟨h, h'⟩
          · exact absurd h u1
          · have := (uns_len hk).2 (by cases h1; omega); omega
          · rcases u3 with u3 | u3
            · have he := uns_is hk
              have hh := dec_head (k + 1) (by omega)
              rw [← he] at hh
              exact absurd h hh
            · exact absurd h u3
        · cases h1
    · rename_i h
      have h1 : t ≠ [] := fun e => h (.inl e)
      have h2 : t.length ≤ 10 := by rcases Nat.lt_or_ge 10 t.length with h' | h'; exact absurd (.inr (.inl h')) h; exact h'
      have h3 : t.getD 0 0 ≠ 48 := fun e => h (.inr (.inr ⟨e, .inr rfl⟩))
      split
      · rename_i hd
        have hu : unsO t = some (dval 0 t) := by rw [unsO, if_pos ((uns_cond t).2 ⟨h1, hd, .inr h3⟩)]
        have hp : 0 < dval 0 t := by
          rcases Nat.eq_zero_or_pos (dval 0 t) with h0 | h0
          · rw [h0] at hu
            have := uns_is hu
            rw [dec_small 0 (by decide)] at this
            exact absurd (by rw [this]; rfl) h3
          · exact h0
        have hle := (uns_len hu).1 h2
        obtain ⟨k, hk⟩ : ∃ k, dval 0 t = k + 1 := ⟨dval 0 t - 1, by omega⟩
        rw [hu, hk]
        simp only [if_true, Option.some.injEq]
        constructor
        · rintro rfl; exact ⟨rfl, by omega, by omega⟩
        · rintro ⟨rfl, _⟩; rfl
      · rename_i hd
        have hu : unsO t = none := by
          rw [unsO, if_neg]; intro hb; exact hd ((uns_cond t).1 hb).2.1
        rw [hu]
        simp
  · have e1 : refO s = refP false s := by
      unfold refO
      split
      · exact absurd ⟨_, rfl⟩ hs
      · rfl
    have e2 : numO s = Option.map (fun n : Nat => (n : Int)) (unsO s) := by
      unfold numO
      split
      · exact absurd ⟨_, rfl⟩ hs
      · cases unsO s <;> rfl
    rw [e1, e2]
    unfold refP
    split
    · rename_i h
      constructor
      · intro h'; cases h'
      · rintro ⟨h1, h2⟩
        cases hk : unsO s with
        | none => rw [hk] at h1; cases h1
        | some k =>
          rw [hk] at h1
          have h1' : some ((k : Nat) : Int) = some n := h1
          cases h1'
          have hb : unsB s = true := by
            unfold unsO at hk; split at hk
            · assumption
            · cases hk
          obtain ⟨u1, u2, u3⟩ := (uns_cond s).1 hb
          rcases h with h | h | ⟨h, h'⟩
          · exact absurd h u1
          · have := (uns_len hk).2 (by omega); omega
          · rcases u3 with u3 | u3
            · rcases h' with h' | h'
              · omega
              · cases h'
            · exact absurd h u3
    · rename_i h
      have h1 : s ≠ [] := fun e => h (.inl e)
      have h2 : s.length ≤ 10 := by rcases Nat.lt_or_ge 10 s.length with h' | h'; exact absurd (.inr (.inl h')) h; exact h'
      have h3 : s.length = 1 ∨ s.getD 0 0 ≠ 48 := by
        by_cases e : s.getD 0 0 = 48
        · left
          have := hlen s h1
          rcases Nat.lt_or_ge 1 s.length with h' | h'
          · exact absurd (.inr (.inr ⟨e, .inl h'⟩)) h
          · omega
        · exact .inr e
      split
      · rename_i hd
        have hu : unsO s = some (dval 0 s) := by rw [unsO, if_pos ((uns_cond s).2 ⟨h1, hd, h3⟩)]
        have hle := (uns_len hu).1 h2
        rw [hu]
        simp only [Bool.false_eq_true, if_false]
        constructor
        · intro e
          have e' : some ((dval 0 s : Nat) : Int) = some n := e
          cases e'; exact ⟨rfl, by omega, by omega⟩
        · rintro ⟨e, _⟩
          exact e
      · rename_i hd
        have hu : unsO s = none := by
          rw [unsO, if_neg]; intro hb; exact hd ((uns_cond s).1 hb).2.1
        rw [hu]
        simp
end Go.Asm
end
