/- Of sources: the reference's way through them. Plain. -/
import Derived.Test.YtlehfbdkjkgaeaaGreatDoorScW
namespace Go.Scan
set_option linter.unusedVariables false
set_option linter.unusedSimpArgs false
/-- how many bytes of blanks and remarks a text begins with; no: a remark has no end -/
def blG : Nat → Bytes → Nat × Bool
  | 0, _ => (0, true)
  | f + 1, r => if rem? (skipB r) then match remA 0 (skipB r) with
      | none => (nB r, false)
      | some n => (nB r + n + (blG f ((skipB r).drop n)).1, (blG f ((skipB r).drop n)).2)
    else (nB r, true)
theorem blG_fuel : ∀ (f g : Nat) (s : Bytes), s.length < f → s.length < g → blG f s = blG g s
  | 0, _, _, h, _ => by omega
  | _, 0, _, _, h => by omega
  | f + 1, g + 1, s, h1, h2 => by
    have hk := skip_len s
    rw [blG, blG]
    split
    · split
      · rfl
      · rename_i n hn
        have hp := remA_pos _ _ _ hn
        rw [blG_fuel f g _ (by rw [List.length_drop]; omega) (by rw [List.length_drop]; omega)]
    · rfl
def bl (s : Bytes) : Nat × Bool := blG (s.length + 1) s
theorem bl_eq (s : Bytes) : bl s = if rem? (skipB s) then match remA 0 (skipB s) with
      | none => (nB s, false)
      | some n => (nB s + n + (bl ((skipB s).drop n)).1, (bl ((skipB s).drop n)).2)
    else (nB s, true) := by
  have hk := skip_len s
  rw [bl, blG]
  split
  · split
    · rfl
    · rename_i n hn
      have hp := remA_pos _ _ _ hn
      rw [bl, blG_fuel (s.length) (((skipB s).drop n).length + 1) _ (by rw [List.length_drop]; omega) (by omega)]
  · rfl
theorem bl_nil : bl [] = (0, true) := by rw [bl_eq]; rfl
theorem bl_blank (c : UInt8) (r : Bytes) (h : blank c = true) : bl (c :: r) = ((bl r).1 + 1, (bl r).2) := by
  have h1 : skipB (c :: r) = skipB r := by unfold skipB; rw [List.dropWhile_cons, h]; simp
  have h2 : nB (c :: r) = nB r + 1 := by unfold nB; rw [List.takeWhile_cons, h]; simp
  rw [bl_eq, bl_eq r, h1, h2]
  split
  · split
    · rfl
    · simp only [Prod.mk.injEq, and_true]; omega
  · rfl
theorem bl_other (c : UInt8) (r : Bytes) (h : blank c = false) (h' : rem? (c :: r) = false) : bl (c :: r) = (0, true) := by
  have h1 : skipB (c :: r) = c :: r := by unfold skipB; rw [List.dropWhile_cons, h]; simp
  have h2 : nB (c :: r) = 0 := by unfold nB; rw [List.takeWhile_cons, h]; simp
  rw [bl_eq, h1, h2, if_neg (by rw [h']; simp)]
theorem bl_rem (s : Bytes) (h : rem? s = true) : bl s = match remA 0 s with
      | none => (0, false)
      | some n => (n + (bl (s.drop n)).1, (bl (s.drop n)).2) := by
  obtain ⟨c, r, rfl⟩ : ∃ c r, s = c :: r := by cases s with | nil => simp [rem?] at h | cons c r => exact ⟨c, r, rfl⟩
  have hc : c = 40 := by cases r <;> simp [rem?] at h; exact h.1
  have hb : blank c = false := by rw [hc]; rfl
  have h1 : skipB (c :: r) = c :: r := by unfold skipB; rw [List.dropWhile_cons, hb]; simp
  have h2 : nB (c :: r) = 0 := by unfold nB; rw [List.takeWhile_cons, hb]; simp
  rw [bl_eq, h1, h2, if_pos h]
  simp only [Nat.zero_add]
theorem bl_le : ∀ (N : Nat) (s : Bytes), s.length < N → (bl s).1 ≤ s.length
  | 0, _, h => by omega
  | N + 1, s, h => by
    have hk := skip_len s
    rw [bl_eq]
    split
    · split
      · simp only; omega
      · rename_i n hn
        have hp := remA_pos _ _ _ hn
        have := bl_le N ((skipB s).drop n) (by rw [List.length_drop]; omega)
        rw [List.length_drop] at this
        simp only; omega
    · simp only; omega
/-- what is read, by what stands behind blanks and remarks -/
theorem rd_bl : ∀ (N : Nat) (s : Bytes) (p : Int), s.length < N → rd s p = if (bl s).2 = true then (if s.drop (bl s).1 = [] then ⟨[], p + (bl s).1, 0⟩ else match tok (s.drop (bl s).1) with
      | .bad e => ⟨[], p + (bl s).1, e⟩
      | .ok k t n len => (rd ((s.drop (bl s).1).drop len) (p + (bl s).1 + len)).cons ⟨k, t, n, p + (bl s).1⟩) else ⟨[], p + (bl s).1, 85⟩
  | 0, _, _, h => by omega
  | N + 1, s, p, h => by
    have hk := skip_len s
    have hd : s.drop (nB s) = skipB s := by
      have h1 := List.takeWhile_append_dropWhile (p := Go.Scan.blank) (l := s)
      conv => lhs; arg 2; rw [← h1]
      exact List.drop_left
    rw [rd_eq, bl_eq]
    by_cases hr : rem? (skipB s) = true
    · simp only [if_pos hr]
      cases hn : remA 0 (skipB s) with
      | none => simp
      | some n =>
        have hp := remA_pos _ _ _ hn
        have ih := rd_bl N ((skipB s).drop n) (p + nB s + n) (by rw [List.length_drop]; omega)
        simp only
        rw [ih]
        have e : ∀ k, ((skipB s).drop n).drop k = s.drop (nB s + n + k) := by
          intro k
          rw [← hd, List.drop_drop, List.drop_drop]; congr 1; omega
        simp only [e, Int.natCast_add, Int.add_assoc]
    · simp only [if_neg hr, hd, if_true]
      cases tok (skipB s) <;> rfl
/-- a remark, step by step -/
theorem remA_open (d : Nat) (r : Bytes) : remA d (40 :: 42 :: r) = (remA (d + 1) r).map (· + 2) := by rw [remA]; simp
theorem remA_end (r : Bytes) : remA 1 (42 :: 41 :: r) = some 2 := by rw [remA]; simp
theorem remA_close (d : Nat) (h : d ≠ 1) (r : Bytes) : remA d (42 :: 41 :: r) = (remA (d - 1) r).map (· + 2) := by rw [remA]; simp [h]
theorem remA_other (d : Nat) (c : UInt8) (r : Bytes) (h1 : ¬ ∃ r', c :: r = 40 :: 42 :: r') (h2 : ¬ ∃ r', c :: r = 42 :: 41 :: r') : remA d (c :: r) = (remA d r).map (· + 1) := by
  cases r with
  | nil => rfl
  | cons b r =>
    rw [remA, if_neg (fun h => h1 ⟨r, by rw [h.1, h.2]⟩), if_neg (fun h => h2 ⟨r, by rw [h.1, h.2]⟩)]
theorem remA_nil (d : Nat) : remA d [] = none := by simp [remA]
/-- a number only grows -/
theorem numF_ge (d : UInt8 → Option Nat) (b : Nat) (hb : 1 ≤ b) : ∀ (s : Bytes) (n m : Nat), numF d b n s = some m → n ≤ m
  | [], n, m, h => by rw [numF] at h; cases h; exact Nat.le_refl _
  | c :: r, n, m, h => by
    rw [numF] at h
    split at h
    · have := numF_ge d b hb r _ _ h
      have : n ≤ b * n := Nat.le_mul_of_pos_left n (by omega)
      omega
    · cases h
theorem numF_big (d : UInt8 → Option Nat) (b : Nat) (hb : 1 ≤ b) (s : Bytes) (n most : Nat) (h : most < n) : (numF d b n s).filter (· ≤ most) = none := by
  cases hm : numF d b n s with
  | none => rfl
  | some m =>
    have := numF_ge d b hb s n m hm
    rw [Option.filter_some, if_neg (by simp; omega)]
/-- the first that stands there -/
def sgs : List Bytes := sg2 ++ sg1.map fun c => [c]
theorem find_is {α : Type} [BEq α] [LawfulBEq α] (q : α → Bool) (x : α) : ∀ (l : List α), (∀ w ∈ l, q w = (x == w)) → l.find? q = if l.contains x then some x else none
  | [], _ => rfl
  | w :: l, h => by
    have ih := find_is q x l (fun w hw => h w (by simp [hw]))
    rw [List.find?_cons, h w (by simp), List.contains_cons]
    cases hx : x == w with
    | true => have := eq_of_beq hx; subst this; simp
    | false => simp only [Bool.false_or]; exact ih
theorem find_no {α : Type} (q : α → Bool) : ∀ (l : List α), (∀ w ∈ l, q w = false) → l.find? q = none
  | [], _ => rfl
  | w :: l, h => by rw [List.find?_cons, h w (by simp)]; exact find_no q l (fun w hw => h w (by simp [hw]))
theorem sg2_len : ∀ w ∈ sg2, w.length = 2 := by decide
theorem sgn_find (s : Bytes) : sgn s = ((sgs.find? fun w => decide (w.length ≤ s.length) && (s.take w.length == w)).getD []) := by
  have h1 : sg1.map (fun c => ([c] : Bytes)) = sgs.drop 4 := rfl
  unfold sgs
  rw [List.find?_append]
  have two : sg2.find? (fun w => decide (w.length ≤ s.length) && (s.take w.length == w)) = if sg2.contains (s.take 2) then some (s.take 2) else none := by
    refine find_is _ _ _ fun w hw => ?_
    have hl := sg2_len w hw
    rw [hl]
    by_cases h : 2 ≤ s.length
    · simp [h]
    · have : (s.take 2 == w) = false := by
        rw [beq_eq_false_iff_ne]
        intro e
        have := congrArg List.length e
        rw [hl, List.length_take] at this
        omega
      rw [this]; simp
  rw [two]
  unfold sgn
  split
  · simp
  · rename_i h
    match s with
    | [] =>
      rw [find_no]; rfl
      intro w hw
      rw [List.mem_map] at hw
      obtain ⟨c, _, rfl⟩ := hw
      simp
    | a :: r =>
      have := find_is (fun w => decide (w.length ≤ (a :: r).length) && ((a :: r).take w.length == w)) [a] (sg1.map fun c => [c]) (by
        intro w hw
        rw [List.mem_map] at hw
        obtain ⟨c, _, rfl⟩ := hw
        simp)
      rw [this]
      have e : (sg1.map fun c => ([c] : Bytes)).contains [a] = sg1.contains a := by
        rw [Bool.eq_iff_iff]; simp
      rw [e]
      simp only [Option.none_or]
      split <;> rfl
end Go.Scan
namespace Go.Scan
theorem tw_step (p : UInt8 → Bool) : ∀ (l : Bytes) (n : Nat), n ≤ (l.takeWhile p).length → n < l.length → p (l.getD n 0) = decide (n < (l.takeWhile p).length)
  | [], n, _, h => by simp at h
  | c :: l, n, h1, h2 => by
    rw [List.takeWhile_cons] at h1 ⊢
    cases hc : p c with
    | false =>
      rw [hc] at h1
      simp only [Bool.false_eq_true, if_false, List.length_nil] at h1 ⊢
      obtain rfl : n = 0 := by omega
      simp [hc]
    | true =>
      rw [hc] at h1
      simp only [if_true, List.length_cons] at h1 ⊢
      cases n with
      | zero => simp [hc]
      | succ n =>
        have := tw_step p l n (by omega) (by simpa using h2)
        simp only [List.getD_cons_succ]
        rw [this]; simp
/-- do these two bytes stand there? -/
def sta (s : Bytes) (k : Nat) (w : Bytes) : Bool := decide (k + 1 < s.length) && ((s.drop k).take 2 == w)
theorem sta_true {s : Bytes} {k : Nat} {a b : UInt8} (h : sta s k [a, b] = true) : k + 1 < s.length ∧ s.drop k = a :: b :: s.drop (k + 2) := by
  simp only [sta, Bool.and_eq_true, decide_eq_true_eq, beq_iff_eq] at h
  refine ⟨h.1, ?_⟩
  have := List.take_append_drop 2 (s.drop k)
  rw [h.2, List.drop_drop] at this
  rw [← this]; rfl
theorem sta_false {s : Bytes} {k : Nat} {a b : UInt8} (h : sta s k [a, b] = false) : ¬ ∃ r, s.drop k = a :: b :: r := by
  rintro ⟨r, e⟩
  have hl := congrArg List.length e
  simp only [List.length_drop, List.length_cons] at hl
  have : sta s k [a, b] = true := by
    simp only [sta, Bool.and_eq_true, decide_eq_true_eq, beq_iff_eq]
    exact ⟨by omega, by rw [e]; rfl⟩
  rw [this] at h; cases h
theorem sta_rem (s : Bytes) (k : Nat) : sta s k [40, 42] = rem? (s.drop k) := by
  cases h : sta s k [40, 42] with
  | true => rw [(sta_true h).2]; rfl
  | false =>
    have := sta_false h
    symm
    match hd : s.drop k with
    | [] => rfl
    | [a] => rfl
    | a :: b :: r =>
      rw [Bool.eq_false_iff]
      intro hr
      simp [rem?] at hr
      exact this ⟨r, by rw [hd, hr.1, hr.2]⟩
/-- the place behind a remark, so deep in -/
def remP (s : Bytes) (k d : Nat) : Int := match remA d (s.drop k) with
  | some n => ((k + n : Nat) : Int)
  | none => -1
theorem remP_open {s : Bytes} {k d : Nat} (h : sta s k [40, 42] = true) : remP s k d = remP s (k + 2) (d + 1) := by
  rw [remP, remP, (sta_true h).2, remA_open]
  cases remA (d + 1) (s.drop (k + 2)) with
  | none => rfl
  | some n => simp only [Option.map_some]; congr 1; omega
theorem remP_end {s : Bytes} {k : Nat} (h : sta s k [42, 41] = true) : remP s k 1 = ((k + 2 : Nat) : Int) := by
  rw [remP, (sta_true h).2, remA_end]
theorem remP_close {s : Bytes} {k d : Nat} (h : sta s k [42, 41] = true) (hd : d ≠ 1) : remP s k d = remP s (k + 2) (d - 1) := by
  rw [remP, remP, (sta_true h).2, remA_close d hd]
  cases remA (d - 1) (s.drop (k + 2)) with
  | none => rfl
  | some n => simp only [Option.map_some]; congr 1; omega
theorem remP_other {s : Bytes} {k d : Nat} (hk : k < s.length) (h1 : sta s k [40, 42] = false) (h2 : sta s k [42, 41] = false) : remP s k d = remP s (k + 1) d := by
  have e : s.drop k = s[k] :: s.drop (k + 1) := List.drop_eq_getElem_cons hk
  have h1 := sta_false h1
  have h2 := sta_false h2
  rw [e] at h1 h2
  rw [remP, remP, e, remA_other d _ _ h1 h2]
  cases remA d (s.drop (k + 1)) with
  | none => rfl
  | some n => simp only [Option.map_some]; congr 1; omega
theorem remP_nil {s : Bytes} {k d : Nat} (hk : s.length ≤ k) : remP s k d = -1 := by
  rw [remP, List.drop_eq_nil_of_le hk, remA_nil]
/-- the place behind blanks and remarks -/
def blP (s : Bytes) (k : Nat) : Nat × Bool := (k + (bl (s.drop k)).1, (bl (s.drop k)).2)
theorem blP_nil {s : Bytes} {k : Nat} (hk : s.length ≤ k) : blP s k = (k, true) := by
  rw [blP, List.drop_eq_nil_of_le hk, bl_nil]; rfl
theorem blP_blank {s : Bytes} {k : Nat} (hk : k < s.length) (h : blank (s.getD k 0) = true) : blP s k = blP s (k + 1) := by
  have e : s.drop k = s.getD k 0 :: s.drop (k + 1) := by rw [List.drop_eq_getElem_cons hk]; simp [List.getD, hk]
  rw [blP, blP, e, bl_blank _ _ h]
  simp only [Prod.mk.injEq, and_true]; omega
theorem blP_other {s : Bytes} {k : Nat} (hk : k < s.length) (h : blank (s.getD k 0) = false) (h' : sta s k [40, 42] = false) : blP s k = (k, true) := by
  have e : s.drop k = s.getD k 0 :: s.drop (k + 1) := by rw [List.drop_eq_getElem_cons hk]; simp [List.getD, hk]
  rw [sta_rem, e] at h'
  rw [blP, e, bl_other _ _ h h']; rfl
theorem blP_rem {s : Bytes} {k : Nat} (h' : sta s k [40, 42] = true) : blP s k = if remP s k 0 < 0 then (k, false) else blP s (remP s k 0).toNat := by
  rw [sta_rem] at h'
  rw [blP, bl_rem _ h', remP]
  cases remA 0 (s.drop k) with
  | none => rfl
  | some n =>
    simp only
    rw [if_neg (by omega), Int.toNat_natCast, blP, List.drop_drop]
    simp only [Nat.add_assoc]
theorem remP_le {s : Bytes} {k : Nat} (hk : k ≤ s.length) (h : 0 ≤ remP s k 0) : (k : Int) + 2 ≤ remP s k 0 ∧ remP s k 0 ≤ s.length := by
  unfold remP at h ⊢
  cases hn : remA 0 (s.drop k) with
  | none => rw [hn] at h; simp at h
  | some n =>
    have := remA_pos _ _ _ hn
    rw [List.length_drop] at this
    simp only
    omega
end Go.Scan
