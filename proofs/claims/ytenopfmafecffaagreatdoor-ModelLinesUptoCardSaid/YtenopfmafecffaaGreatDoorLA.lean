/- Of lines: what the functions on words do. Conditions stand in each. -/
import Derived.Test.YtenopfmafecffaaGreatDoorTy
import Derived.Test.YtenopfmafecffaaGreatDoorRows
import Derived.Test.YtenopfmafecffaaGreatDoorLW
namespace Go.Proofs.YtenopfmafecffaaGreatDoor.lineDone
open Go Go.Eng Go.Proofs Go.Lines
set_option linter.unusedVariables false
set_option linter.unusedSimpArgs false
def fromV : Option Nat → Int
  | none => -1
  | some f => f
def WI (l : List UInt8) (k : Nat) : Option Nat → Prop
  | none => ∀ i, i < k → bl (l.getD i 0) = true
  | some f => f < k ∧ (∀ i, i < f → bl (l.getD i 0) = true) ∧ ∀ i, f ≤ i → i < k → bl (l.getD i 0) = false
theorem bl_iff (c : UInt8) : bl c = true ↔ c.toNat ≤ 32 := by simp [bl]
theorem nbl_iff (c : UInt8) : bl c = false ↔ 32 < c.toNat := by simp [bl]
theorem word_body (Γ : Env) (l : List UInt8) (hl : l.length ≤ 1048576) : BodyOk Tryz.prog Γ Tryz.f54 [.str l] [] (.tup [.int .i64 (wFrom l), .int .i64 (wTo l)]) [] := by
  (intro X hP hΓ hL hfin; refine ⟨_, rfl, ?_⟩; rw [show Tryz.f54.ntmps = 39 from rfl]; rw [show Tryz.f54.results.toList = [.tmp 2, .tmp 3] from rfl] at hfin; apply holds_of_ex X 400; simp only [push_cast, reduceCtorEq, Nat.reduceAdd, Nat.reduceMul, Nat.reduceSub, Nat.reduceBEq, Nat.reduceGT, Nat.reduceLT, Int.toNat_zero, Nat.reduceLeDiff, Int.reduceEq, Int.reduceLT, Int.reduceLE, hP, hΓ, hL, hfin])
  refine Holds.loop (ι := { p : Nat × Option Nat // p.1 ≤ l.length ∧ WI l p.1 p.2 }) (fun i => ([.str l, .any, .any, .any, .int .i64 (fromV i.1.2), .any, .any, .any, .ref 0 0 0, .any, .any, .any, .any, .any, .any, .any, .any, .any, .any, .any, .any, .any, .any, .any, .any, .any, .any, .any, .any, .any, .any, .any, .any, .any, .any, .any, .any, .any, .any], [.raw (.iter l i.1.1)])) (fun i => l.length - i.1.1) ⟨(0, none), Nat.zero_le _, by intro i hi; omega⟩ ?_ ?_
  · rw [hL]
    simp only [fromV]
    exact Into.sameA
  rintro ⟨⟨k, fr⟩, hk, hw⟩
  simp only at hk hw
  ((first | with_reducible refine holds_of_ex X 400 _ _ _ ?_ | skip); simp only [push_cast, reduceCtorEq, Nat.reduceAdd, Nat.reduceMul, Nat.reduceSub, Nat.reduceBEq, Nat.reduceGT, Nat.reduceLT, Int.toNat_zero, Nat.reduceLeDiff, Int.reduceEq, Int.reduceLT, Int.reduceLE, hP, hΓ, hL, hfin])
  refine exB_split (fun h => ?_) (fun h => ?_)
  · have hk' : k < l.length := of_decide_eq_true h
    obtain ⟨rv, rw_, hrune, h1, h2, hrv, hsp⟩ : ∃ rv n : Nat, runeAt l k = (rv, n) ∧ 1 ≤ n ∧ k + n ≤ l.length ∧ (rv ≤ 32 ↔ bl (l.getD k 0) = true) ∧ ((bl (l.getD k 0) = true ∧ n = 1) ∨ ∀ i, k ≤ i → i < k + n → bl (l.getD i 0) = false) := by
      by_cases hc : (l.getD k 0).toNat < 128
      · refine ⟨_, _, rune_lo hk' hc, Nat.le_refl _, hk', (bl_iff _).symm, ?_⟩
        cases hb : bl (l.getD k 0)
        · right; intro i hi hi'
          rw [show i = k by omega]; exact hb
        · exact .inl ⟨rfl, rfl⟩
      · obtain ⟨q1, q2, q3, q4⟩ := rune_span hk' (by omega)
        refine ⟨(runeAt l k).1, (runeAt l k).2, rfl, q2, q3, ?_, .inr fun i hi hi' => ?_⟩
        · rw [bl_iff]; omega
        · rw [nbl_iff]
          have := q4 (i - k) (by omega)
          rw [show k + (i - k) = i by omega] at this; omega
    have hlt : decide (k < l.length) = true := by simp [hk']
    ((first | with_reducible refine holds_of_ex X 400 _ _ _ ?_ | skip); simp only [push_cast, reduceCtorEq, Nat.reduceAdd, Nat.reduceMul, Nat.reduceSub, Nat.reduceBEq, Nat.reduceGT, Nat.reduceLT, Int.toNat_zero, Nat.reduceLeDiff, Int.reduceEq, Int.reduceLT, Int.reduceLE, hP, hΓ, hL, hfin, hrune, hk', hlt])
    refine exB_split (fun h => ?_) (fun h => ?_)
    · simp only [Bool.and_eq_true, decide_eq_true_eq] at h
      have hfr : fr = none := by cases fr <;> simp [fromV] at h ⊢; omega
      subst hfr
      ((first | with_reducible refine holds_of_ex X 400 _ _ _ ?_ | skip); simp only [push_cast, reduceCtorEq, Nat.reduceAdd, Nat.reduceMul, Nat.reduceSub, Nat.reduceBEq, Nat.reduceGT, Nat.reduceLT, Int.toNat_zero, Nat.reduceLeDiff, Int.reduceEq, Int.reduceLT, Int.reduceLE, hP, hΓ, hL, hfin])
      refine ⟨⟨(k + rw_, some k), h2, by omega, hw, ?_⟩, by simp only; omega, ?_⟩
      · rcases hsp with ⟨hb, _⟩ | hsp
        · exact absurd (hrv.2 hb) (by omega)
        · exact hsp
      · simp only [fromV]
        exact Into.sameA
    · ((first | with_reducible refine holds_of_ex X 400 _ _ _ ?_ | skip); simp only [push_cast, reduceCtorEq, Nat.reduceAdd, Nat.reduceMul, Nat.reduceSub, Nat.reduceBEq, Nat.reduceGT, Nat.reduceLT, Int.toNat_zero, Nat.reduceLeDiff, Int.reduceEq, Int.reduceLT, Int.reduceLE, hP, hΓ, hL, hfin])
      refine exB_split (fun h => ?_) (fun h => ?_)
      · rename_i h0
        simp only [Bool.and_eq_true, decide_eq_true_eq] at h
        obtain ⟨f, rfl⟩ : ∃ f, fr = some f := by cases fr <;> simp [fromV] at h ⊢
        obtain ⟨hf1, hf2, hf3⟩ := hw
        have := word_is (l := l) (f := f) (t := k) hk hf1 hf2 hf3 (.inr (hrv.1 (by omega)))
        ((first | with_reducible refine holds_of_ex X 400 _ _ _ ?_ | skip); simp only [push_cast, reduceCtorEq, Nat.reduceAdd, Nat.reduceMul, Nat.reduceSub, Nat.reduceBEq, Nat.reduceGT, Nat.reduceLT, Int.toNat_zero, Nat.reduceLeDiff, Int.reduceEq, Int.reduceLT, Int.reduceLE, hP, hΓ, hL, hfin])
        refine Into.one ?_ rfl
        rw [this.1, this.2]; rfl
      · rename_i h0
        ((first | with_reducible refine holds_of_ex X 400 _ _ _ ?_ | skip); simp only [push_cast, reduceCtorEq, Nat.reduceAdd, Nat.reduceMul, Nat.reduceSub, Nat.reduceBEq, Nat.reduceGT, Nat.reduceLT, Int.toNat_zero, Nat.reduceLeDiff, Int.reduceEq, Int.reduceLT, Int.reduceLE, hP, hΓ, hL, hfin])
        simp only [Bool.and_eq_false_iff, decide_eq_false_iff_not] at h h0
        refine ⟨⟨(k + rw_, fr), h2, ?_⟩, by simp only; omega, by exact Into.sameA⟩
        cases fr with
        | none =>
          simp only [fromV] at h h0
          rcases hsp with ⟨hb, rfl⟩ | hsp
          · intro i hi
            by_cases hik : i < k
            · exact hw i hik
            · rw [show i = k by omega]; exact hb
          · have := hsp k (Nat.le_refl _) (by omega)
            have := mt hrv.1 (by rw [this]; simp); omega
        | some f =>
          simp only [fromV] at h h0
          obtain ⟨hf1, hf2, hf3⟩ := hw
          refine ⟨by omega, hf2, fun i hi hi' => ?_⟩
          by_cases hik : i < k
          · exact hf3 i hi hik
          · rcases hsp with ⟨hb, rfl⟩ | hsp
            · have := hrv.2 hb; omega
            · exact hsp i (by omega) hi'
  · have hk' : k = l.length := by have := of_decide_eq_false h; omega
    subst hk'
    have hlt : decide (l.length < l.length) = false := by simp
    ((first | with_reducible refine holds_of_ex X 400 _ _ _ ?_ | skip); simp only [push_cast, reduceCtorEq, Nat.reduceAdd, Nat.reduceMul, Nat.reduceSub, Nat.reduceBEq, Nat.reduceGT, Nat.reduceLT, Int.toNat_zero, Nat.reduceLeDiff, Int.reduceEq, Int.reduceLT, Int.reduceLE, hP, hΓ, hL, hfin, hlt])
    refine exB_split (fun h => ?_) (fun h => ?_)
    · cases fr with
      | none =>
        have := word_none hw
        ((first | with_reducible refine holds_of_ex X 400 _ _ _ ?_ | skip); simp only [push_cast, reduceCtorEq, Nat.reduceAdd, Nat.reduceMul, Nat.reduceSub, Nat.reduceBEq, Nat.reduceGT, Nat.reduceLT, Int.toNat_zero, Nat.reduceLeDiff, Int.reduceEq, Int.reduceLT, Int.reduceLE, hP, hΓ, hL, hfin])
        refine Into.one ?_ rfl
        rw [this.1, this.2]
      | some f => have := of_decide_eq_true h; simp only [fromV] at this; omega
    · cases fr with
      | none => have := of_decide_eq_false h; simp only [fromV] at this; omega
      | some f =>
        obtain ⟨hf1, hf2, hf3⟩ := hw
        have := word_is (l := l) (f := f) (t := l.length) (Nat.le_refl _) hf1 hf2 hf3 (.inl rfl)
        ((first | with_reducible refine holds_of_ex X 400 _ _ _ ?_ | skip); simp only [push_cast, reduceCtorEq, Nat.reduceAdd, Nat.reduceMul, Nat.reduceSub, Nat.reduceBEq, Nat.reduceGT, Nat.reduceLT, Int.toNat_zero, Nat.reduceLeDiff, Int.reduceEq, Int.reduceLT, Int.reduceLE, hP, hΓ, hL, hfin])
        refine Into.one ?_ rfl
        rw [this.1, this.2]; rfl
def mapS (k : List (List UInt8)) : AV := .msl 0 0 0 k.length
/-- a function of one text that hands back a new row of texts -/
def wsP (xs : List AV) : Prop := match xs with
  | [.str l] => l.length ≤ 1048576
  | _ => False
def wsR (xs : List AV) : List (List UInt8) := match xs with
  | [.str l] => ws l
  | _ => []
def wordK (xs : List AV) : AV := match xs with
  | [.str l] => .tup [.int .i64 (wFrom l), .int .i64 (wTo l)]
  | _ => .any
def wordS : FSpec := lift0 wsP wordK (fun _ => []) true
def wordsS : FSpec := lift0 wsP (fun xs => .sl ((wsR xs).map .str) (wsR xs).length) (fun _ => []) true
attribute [push_cast] wsP wsR wordK wordS wordsS
theorem take_strs (ss : List (List UInt8)) : (ss.map AV.str).take ss.length = ss.map .str := by rw [← List.map_take, List.take_length]
attribute [push_cast] take_strs
theorem con27 {Γ : Env} (h : EnvOk Tryz.prog Γ) : Con Tryz.prog 54 wordS := by
  refine Con.of_body h (fn := Tryz.f54) (by kernel_rfl) rfl (by kernel_rfl) (fun _ _ => rfl) fun xs hx => ?_
  unfold wsP at hx
  split at hx
  · exact word_body Γ _ hx
  · exact hx.elim
theorem wFrom_to (l : List UInt8) : wFrom l ≤ wTo l := by unfold wTo; omega
theorem ws_len : ∀ (n : Nat) (l : List UInt8), l.length ≤ n → (ws l).length ≤ l.length := by
  intro n
  induction n with
  | zero => intro l h; rw [show l = [] from List.eq_nil_of_length_eq_zero (by omega), ws_nil]; simp
  | succ n ih =>
    intro l h
    rw [ws]
    split
    · simp
    · rename_i hne
      have := wFrom_to l
      have := wTo_le l
      have := ih (l.drop (wTo l)) (by simp; omega)
      simp at this ⊢; omega
theorem words_body (Γ : Env) (h27 : Γ 54 = some wordS) (l : List UInt8) (hl : l.length ≤ 1048576) : BodyOk Tryz.prog Γ Tryz.f52 [.str l] [] (.sl ((ws l).map .str) (ws l).length) [] := by
  (intro X hP hΓ hL hfin; refine ⟨_, rfl, ?_⟩; rw [show Tryz.f52.ntmps = 25 from rfl]; rw [show Tryz.f52.results.toList = [.tmp 2] from rfl] at hfin; apply holds_of_ex X 400; simp only [push_cast, reduceCtorEq, Nat.reduceAdd, Nat.reduceMul, Nat.reduceSub, Nat.reduceBEq, Nat.reduceGT, Nat.reduceLT, Int.toNat_zero, Nat.reduceLeDiff, Int.reduceEq, Int.reduceLT, Int.reduceLE, hP, hΓ, hL, hfin, h27])
  refine Holds.loop (ι := { p : List (List UInt8) × List UInt8 // p.1 ++ ws p.2 = ws l ∧ p.2.length ≤ l.length }) (fun i => ([.str i.1.2, .any, .any, .msl 0 0 0 i.1.1.length, .any, .any, .any, .any, .any, .any, .any, .any, .any, .any, .any, .any, .any, .any, .any, .any, .any, .any, .any, .any, .any], [.row (i.1.1.map .str) 1 0])) (fun i => i.1.2.length) ⟨([], l), by simp, Nat.le_refl _⟩ ?_ ?_
  · rw [hL]
    (refine IntoF.nil 3  1 rfl ?_; simp only [push_cast, reduceCtorEq, Nat.reduceAdd, Nat.reduceMul, Nat.reduceSub, Nat.reduceBEq, Nat.reduceGT, Nat.reduceLT, Int.toNat_zero, Nat.reduceLeDiff, Int.reduceEq, Int.reduceLT, Int.reduceLE])
    (try simp only [List.map_append, List.append_assoc, List.map_cons, List.map_nil, List.length_append, List.length_cons, List.length_nil, byteAV, Nat.add_assoc, Nat.reduceAdd, Nat.zero_add, Nat.add_zero, List.append_nil, List.cons_append, List.nil_append])
    exact Into.sameA
  rintro ⟨⟨p, r⟩, hp, hr⟩
  simp only at hp hr
  have q1 := wTo_le r
  have q2 := wFrom_to r
  have hlen := congrArg List.length hp
  rw [List.length_append] at hlen
  have q3 := ws_len _ l (Nat.le_refl _)
  ((first | with_reducible refine holds_of_ex X 400 _ _ _ ?_ | skip); simp only [push_cast, reduceCtorEq, Nat.reduceAdd, Nat.reduceMul, Nat.reduceSub, Nat.reduceBEq, Nat.reduceGT, Nat.reduceLT, Int.toNat_zero, Nat.reduceLeDiff, Int.reduceEq, Int.reduceLT, Int.reduceLE, hP, hΓ, hL, hfin, h27])
  refine ⟨by omega, exB_split (fun h => ?_) (fun h => ?_)⟩
  · ((first | with_reducible refine holds_of_ex X 400 _ _ _ ?_ | skip); simp only [push_cast, reduceCtorEq, Nat.reduceAdd, Nat.reduceMul, Nat.reduceSub, Nat.reduceBEq, Nat.reduceGT, Nat.reduceLT, Int.toNat_zero, Nat.reduceLeDiff, Int.reduceEq, Int.reduceLT, Int.reduceLE, hP, hΓ, hL, hfin])
    have he : wFrom r = wTo r := by have := of_decide_eq_true h; omega
    have hz : ws r = [] := by rw [ws, if_pos he]
    rw [hz, List.append_nil] at hp
    rw [hp]
    (refine IntoF.frz 0 (by simp only [push_cast, reduceCtorEq, Nat.reduceAdd, Nat.reduceMul, Nat.reduceSub, Nat.reduceBEq, Nat.reduceGT, Nat.reduceLT, Int.toNat_zero, Nat.reduceLeDiff, Int.reduceEq, Int.reduceLT, Int.reduceLE]; first | done | decide | omega) (by simp only [frzOk', frzOk, isMap, or_true, true_or, push_cast, reduceCtorEq, Nat.reduceAdd, Nat.reduceMul, Nat.reduceSub, Nat.reduceBEq, Nat.reduceGT, Nat.reduceLT, Int.toNat_zero, Nat.reduceLeDiff, Int.reduceEq, Int.reduceLT, Int.reduceLE]) ?_; simp only [push_cast, reduceCtorEq, Nat.reduceAdd, Nat.reduceMul, Nat.reduceSub, Nat.reduceBEq, Nat.reduceGT, Nat.reduceLT, Int.toNat_zero, Nat.reduceLeDiff, Int.reduceEq, Int.reduceLT, Int.reduceLE])
    exact Into.keep0A
  · have hne : ¬ wFrom r = wTo r := by have := of_decide_eq_false h; omega
    have he : ws r = (r.take (wTo r)).drop (wFrom r) :: ws (r.drop (wTo r)) := by rw [ws, if_neg hne]
    rw [he] at hp hlen
    simp only [List.length_cons] at hlen
    ((first | with_reducible refine holds_of_ex X 400 _ _ _ ?_ | skip); simp only [push_cast, reduceCtorEq, Nat.reduceAdd, Nat.reduceMul, Nat.reduceSub, Nat.reduceBEq, Nat.reduceGT, Nat.reduceLT, Int.toNat_zero, Nat.reduceLeDiff, Int.reduceEq, Int.reduceLT, Int.reduceLE, hP, hΓ, hL, hfin, List.take_length])
    refine ⟨⟨by omega, by omega, by omega⟩, by omega, ⟨by omega, by omega, by omega⟩, ⟨(p ++ [(r.take (wTo r)).drop (wFrom r)], r.drop (wTo r)), by simpa using hp, by simp only [List.length_drop]; omega⟩, by simp only [List.length_drop]; omega, ?_⟩
    (refine IntoF.ver 0  0 (by simp only [push_cast, reduceCtorEq, Nat.reduceAdd, Nat.reduceMul, Nat.reduceSub, Nat.reduceBEq, Nat.reduceGT, Nat.reduceLT, Int.toNat_zero, Nat.reduceLeDiff, Int.reduceEq, Int.reduceLT, Int.reduceLE]) (by first | exact .inr (Nat.zero_le _) | (left; simp only [push_cast, reduceCtorEq, Nat.reduceAdd, Nat.reduceMul, Nat.reduceSub, Nat.reduceBEq, Nat.reduceGT, Nat.reduceLT, Int.toNat_zero, Nat.reduceLeDiff, Int.reduceEq, Int.reduceLT, Int.reduceLE]; omega) | (right; simp only [push_cast, reduceCtorEq, Nat.reduceAdd, Nat.reduceMul, Nat.reduceSub, Nat.reduceBEq, Nat.reduceGT, Nat.reduceLT, Int.toNat_zero, Nat.reduceLeDiff, Int.reduceEq, Int.reduceLT, Int.reduceLE]; omega)) ?_; simp only [push_cast, reduceCtorEq, Nat.reduceAdd, Nat.reduceMul, Nat.reduceSub, Nat.reduceBEq, Nat.reduceGT, Nat.reduceLT, Int.toNat_zero, Nat.reduceLeDiff, Int.reduceEq, Int.reduceLT, Int.reduceLE])
    (try simp only [List.map_append, List.append_assoc, List.map_cons, List.map_nil, List.length_append, List.length_cons, List.length_nil, byteAV, Nat.add_assoc, Nat.reduceAdd, Nat.zero_add, Nat.add_zero, List.append_nil, List.cons_append, List.nil_append])
    exact Into.keep1A
theorem con25 {Γ : Env} (h : EnvOk Tryz.prog Γ) (h27 : Γ 54 = some wordS) : Con Tryz.prog 52 wordsS := by
  refine Con.of_body h (fn := Tryz.f52) (by kernel_rfl) rfl (by kernel_rfl) (fun _ _ => rfl) fun xs hx => ?_
  unfold wsP at hx
  split at hx
  · exact words_body Γ h27 _ hx
  · exact hx.elim
theorem ws_drop_bl {l : List UInt8} {i : Nat} (h : i < l.length) (hb : bl (l.getD i 0) = true) : ws (l.drop i) = ws (l.drop (i + 1)) := by
  rw [List.drop_eq_getElem_cons h]
  rw [List.getD_eq_getElem?_getD, List.getElem?_eq_getElem h, Option.getD_some] at hb
  exact ws_bl hb
theorem ws_cut {l : List UInt8} {f i : Nat} (hf : f < i) (hi : i ≤ l.length) (hw : ∀ j, f ≤ j → j < i → bl (l.getD j 0) = false) (hb : i = l.length ∨ bl (l.getD i 0) = true) : ws (l.drop f) = (l.take i).drop f :: ws (l.drop i) := by
  have e : l.drop f = (l.take i).drop f ++ l.drop i := by
    conv => lhs; rw [← List.take_append_drop i l]
    rw [List.drop_append_of_le_length (by simp; omega)]
  rw [e]
  refine ws_word ?_ (fun c hc => ?_) ?_
  · intro h
    have := congrArg List.length h
    simp at this; omega
  · obtain ⟨j, hj, rfl⟩ := List.mem_iff_getElem.1 hc
    simp only [List.length_drop, List.length_take] at hj
    have := hw (f + j) (by omega) (by omega)
    rw [List.getD_eq_getElem?_getD, List.getElem?_eq_getElem (by omega), Option.getD_some] at this
    simpa using this
  · rcases hb with rfl | hb
    · left; simp
    · by_cases h4 : i < l.length
      · right
        rw [List.getD_eq_getElem?_getD, List.getElem?_eq_getElem h4, Option.getD_some] at hb
        rw [List.drop_eq_getElem_cons h4]
        exact ⟨_, _, rfl, hb⟩
      · left; simp; omega
theorem words_ref (Γ : Env) (l : List UInt8) (hl : l.length ≤ 1048576) : BodyOk Tryz.prog Γ Tryz.f67 [.str l] [] (.sl ((ws l).map .str) (ws l).length) [] := by
  have q3 := ws_len _ l (Nat.le_refl _)
  (intro X hP hΓ hL hfin; refine ⟨_, rfl, ?_⟩; rw [show Tryz.f67.ntmps = 35 from rfl]; rw [show Tryz.f67.results.toList = [.tmp 2] from rfl] at hfin; apply holds_of_ex X 400; simp only [push_cast, reduceCtorEq, Nat.reduceAdd, Nat.reduceMul, Nat.reduceSub, Nat.reduceBEq, Nat.reduceGT, Nat.reduceLT, Int.toNat_zero, Nat.reduceLeDiff, Int.reduceEq, Int.reduceLT, Int.reduceLE, hP, hΓ, hL, hfin])
  refine Holds.loop (ι := { p : List (List UInt8) × Nat × Nat // p.1 ++ ws (l.drop p.2.1) = ws l ∧ p.2.1 ≤ p.2.2 ∧ p.2.2 ≤ l.length + 1 ∧ (p.2.2 = l.length + 1 → p.2.1 = l.length + 1) ∧ ∀ j, p.2.1 ≤ j → j < p.2.2 → bl (l.getD j 0) = false })
    (fun i => ([.str l, .any, .any, .msl 0 0 0 i.1.1.length, .int .i64 i.1.2.1, .int .i64 i.1.2.2, .any, .any, .any, .any, .any, .any, .any, .any, .any, .any, .any, .any, .any, .any, .any, .any, .any, .any, .any, .any, .any, .any, .any, .any, .any, .any, .any, .any, .any], [.row (i.1.1.map .str) 1 0])) (fun i => l.length + 1 - i.1.2.2) ⟨([], 0, 0), by simp, Nat.le_refl _, by simp, by simp, by intro j h1 h2; simp only at h2; omega⟩ ?_ ?_
  · rw [hL]
    (refine IntoF.nil 3  1 rfl ?_; simp only [push_cast, reduceCtorEq, Nat.reduceAdd, Nat.reduceMul, Nat.reduceSub, Nat.reduceBEq, Nat.reduceGT, Nat.reduceLT, Int.toNat_zero, Nat.reduceLeDiff, Int.reduceEq, Int.reduceLT, Int.reduceLE])
    (try simp only [List.map_append, List.append_assoc, List.map_cons, List.map_nil, List.length_append, List.length_cons, List.length_nil, byteAV, Nat.add_assoc, Nat.reduceAdd, Nat.zero_add, Nat.add_zero, List.append_nil, List.cons_append, List.nil_append])
    try simp only [Int.natCast_zero]
    exact Into.sameA
  rintro ⟨⟨p, f, i⟩, hp, hfi, hi, hend, hw⟩
  simp only at hp hfi hi hend hw
  ((first | with_reducible refine holds_of_ex X 400 _ _ _ ?_ | skip); simp only [push_cast, reduceCtorEq, Nat.reduceAdd, Nat.reduceMul, Nat.reduceSub, Nat.reduceBEq, Nat.reduceGT, Nat.reduceLT, Int.toNat_zero, Nat.reduceLeDiff, Int.reduceEq, Int.reduceLT, Int.reduceLE, hP, hΓ, hL, hfin])
  refine exB_split (fun h => ?_) (fun h => ?_)
  · have hi' : i ≤ l.length := by have := of_decide_eq_true h; omega
    have hlen := congrArg List.length hp
    rw [List.length_append] at hlen
    have hu : IntKind.i64.wrap ((i : Int) + 1) = (i : Int) + 1 := wrap_i64 _ (by omega)
    ((first | with_reducible refine holds_of_ex X 400 _ _ _ ?_ | skip); simp only [push_cast, reduceCtorEq, Nat.reduceAdd, Nat.reduceMul, Nat.reduceSub, Nat.reduceBEq, Nat.reduceGT, Nat.reduceLT, Int.toNat_zero, Nat.reduceLeDiff, Int.reduceEq, Int.reduceLT, Int.reduceLE, hP, hΓ, hL, hfin, hu])
    refine ⟨fun h0 => by simp at h0; omega, exB_split (fun h => ?_) (fun h => ?_)⟩
    · -- a word ends here, or none began
      have hb : i = l.length ∨ bl (l.getD i 0) = true := by
        simp at h
        rw [bl_iff]
        rcases h with h | h
        · left; omega
        · right; simp [List.getD] at h ⊢; omega
      ((first | with_reducible refine holds_of_ex X 400 _ _ _ ?_ | skip); simp only [push_cast, reduceCtorEq, Nat.reduceAdd, Nat.reduceMul, Nat.reduceSub, Nat.reduceBEq, Nat.reduceGT, Nat.reduceLT, Int.toNat_zero, Nat.reduceLeDiff, Int.reduceEq, Int.reduceLT, Int.reduceLE, hP, hΓ, hL, hfin, hu])
      refine exB_split (fun h => ?_) (fun h => ?_)
      · have hlt : f < i := by have := of_decide_eq_true h; omega
        have hc := ws_cut hlt hi' hw hb
        have hd : ws (l.drop i) = ws (l.drop (i + 1)) := by
          rcases hb with rfl | hb
          · rw [List.drop_eq_nil_of_le (Nat.le_refl _), List.drop_eq_nil_of_le (by omega)]
          · by_cases h4 : i < l.length
            · exact ws_drop_bl h4 hb
            · rw [List.drop_eq_nil_of_le (by omega), List.drop_eq_nil_of_le (by omega)]
        rw [hc, hd] at hp
        have hlen := congrArg List.length hp
        simp only [List.length_append, List.length_cons] at hlen
        ((first | with_reducible refine holds_of_ex X 400 _ _ _ ?_ | skip); simp only [push_cast, reduceCtorEq, Nat.reduceAdd, Nat.reduceMul, Nat.reduceSub, Nat.reduceBEq, Nat.reduceGT, Nat.reduceLT, Int.toNat_zero, Nat.reduceLeDiff, Int.reduceEq, Int.reduceLT, Int.reduceLE, hP, hΓ, hL, hfin, hu])
        refine ⟨⟨by omega, by omega, by omega⟩, by omega, ⟨(p ++ [(l.take i).drop f], i + 1, i + 1), by simpa using hp, Nat.le_refl _, by simp only; omega, fun _ => by simp only; omega, by intro j h1 h2; simp only at h1 h2; omega⟩, by simp only; omega, ?_⟩
        (refine IntoF.ver 0  0 (by simp only [push_cast, reduceCtorEq, Nat.reduceAdd, Nat.reduceMul, Nat.reduceSub, Nat.reduceBEq, Nat.reduceGT, Nat.reduceLT, Int.toNat_zero, Nat.reduceLeDiff, Int.reduceEq, Int.reduceLT, Int.reduceLE]) (by first | exact .inr (Nat.zero_le _) | (left; simp only [push_cast, reduceCtorEq, Nat.reduceAdd, Nat.reduceMul, Nat.reduceSub, Nat.reduceBEq, Nat.reduceGT, Nat.reduceLT, Int.toNat_zero, Nat.reduceLeDiff, Int.reduceEq, Int.reduceLT, Int.reduceLE]; omega) | (right; simp only [push_cast, reduceCtorEq, Nat.reduceAdd, Nat.reduceMul, Nat.reduceSub, Nat.reduceBEq, Nat.reduceGT, Nat.reduceLT, Int.toNat_zero, Nat.reduceLeDiff, Int.reduceEq, Int.reduceLT, Int.reduceLE]; omega)) ?_; simp only [push_cast, reduceCtorEq, Nat.reduceAdd, Nat.reduceMul, Nat.reduceSub, Nat.reduceBEq, Nat.reduceGT, Nat.reduceLT, Int.toNat_zero, Nat.reduceLeDiff, Int.reduceEq, Int.reduceLT, Int.reduceLE])
        (try simp only [List.map_append, List.append_assoc, List.map_cons, List.map_nil, List.length_append, List.length_cons, List.length_nil, byteAV, Nat.add_assoc, Nat.reduceAdd, Nat.zero_add, Nat.add_zero, List.append_nil, List.cons_append, List.nil_append])
        exact Into.keep1A
      · have hlt : f = i := by have := of_decide_eq_false h; omega
        subst hlt
        have hd : ws (l.drop f) = ws (l.drop (f + 1)) := by
          rcases hb with rfl | hb
          · rw [List.drop_eq_nil_of_le (Nat.le_refl _), List.drop_eq_nil_of_le (by omega)]
          · by_cases h4 : f < l.length
            · exact ws_drop_bl h4 hb
            · rw [List.drop_eq_nil_of_le (by omega), List.drop_eq_nil_of_le (by omega)]
        rw [hd] at hp
        ((first | with_reducible refine holds_of_ex X 400 _ _ _ ?_ | skip); simp only [push_cast, reduceCtorEq, Nat.reduceAdd, Nat.reduceMul, Nat.reduceSub, Nat.reduceBEq, Nat.reduceGT, Nat.reduceLT, Int.toNat_zero, Nat.reduceLeDiff, Int.reduceEq, Int.reduceLT, Int.reduceLE, hP, hΓ, hL, hfin, hu])
        refine ⟨⟨(p, f + 1, f + 1), hp, Nat.le_refl _, by simp only; omega, fun _ => by simp only; omega, by intro j h1 h2; simp only at h1 h2; omega⟩, by simp only; omega, ?_⟩
        (try simp only [List.map_append, List.append_assoc, List.map_cons, List.map_nil, List.length_append, List.length_cons, List.length_nil, byteAV, Nat.add_assoc, Nat.reduceAdd, Nat.zero_add, Nat.add_zero, List.append_nil, List.cons_append, List.nil_append])
        exact Into.sameA
    · have hb : i < l.length ∧ bl (l.getD i 0) = false := by
        simp at h
        rw [nbl_iff]
        have : i < l.length := by omega
        exact ⟨this, by have := h.2; simp [List.getD] at this ⊢; omega⟩
      ((first | with_reducible refine holds_of_ex X 400 _ _ _ ?_ | skip); simp only [push_cast, reduceCtorEq, Nat.reduceAdd, Nat.reduceMul, Nat.reduceSub, Nat.reduceBEq, Nat.reduceGT, Nat.reduceLT, Int.toNat_zero, Nat.reduceLeDiff, Int.reduceEq, Int.reduceLT, Int.reduceLE, hP, hΓ, hL, hfin, hu])
      refine ⟨⟨(p, f, i + 1), hp, by simp only; omega, by simp only; omega, fun h1 => by simp only at h1; omega, ?_⟩, by simp only; omega, ?_⟩
      · intro j h1 h2
        simp only at h1 h2
        by_cases hj : j < i
        · exact hw j h1 hj
        · rw [show j = i by omega]; exact hb.2
      · (try simp only [List.map_append, List.append_assoc, List.map_cons, List.map_nil, List.length_append, List.length_cons, List.length_nil, byteAV, Nat.add_assoc, Nat.reduceAdd, Nat.zero_add, Nat.add_zero, List.append_nil, List.cons_append, List.nil_append])
        exact Into.sameA
  · have hz : f = l.length + 1 := hend (by have := of_decide_eq_false h; omega)
    have hd : ws (l.drop f) = [] := by rw [List.drop_eq_nil_of_le (by omega), ws_nil]
    rw [hd, List.append_nil] at hp
    ((first | with_reducible refine holds_of_ex X 400 _ _ _ ?_ | skip); simp only [push_cast, reduceCtorEq, Nat.reduceAdd, Nat.reduceMul, Nat.reduceSub, Nat.reduceBEq, Nat.reduceGT, Nat.reduceLT, Int.toNat_zero, Nat.reduceLeDiff, Int.reduceEq, Int.reduceLT, Int.reduceLE, hP, hΓ, hL, hfin])
    rw [hp]
    (refine IntoF.frz 0 (by simp only [push_cast, reduceCtorEq, Nat.reduceAdd, Nat.reduceMul, Nat.reduceSub, Nat.reduceBEq, Nat.reduceGT, Nat.reduceLT, Int.toNat_zero, Nat.reduceLeDiff, Int.reduceEq, Int.reduceLT, Int.reduceLE]; first | done | decide | omega) (by simp only [frzOk', frzOk, isMap, or_true, true_or, push_cast, reduceCtorEq, Nat.reduceAdd, Nat.reduceMul, Nat.reduceSub, Nat.reduceBEq, Nat.reduceGT, Nat.reduceLT, Int.toNat_zero, Nat.reduceLeDiff, Int.reduceEq, Int.reduceLT, Int.reduceLE]) ?_; simp only [push_cast, reduceCtorEq, Nat.reduceAdd, Nat.reduceMul, Nat.reduceSub, Nat.reduceBEq, Nat.reduceGT, Nat.reduceLT, Int.toNat_zero, Nat.reduceLeDiff, Int.reduceEq, Int.reduceLT, Int.reduceLE])
    exact Into.keep0A
theorem con29 {Γ : Env} (h : EnvOk Tryz.prog Γ) : Con Tryz.prog 67 wordsS := by
  refine Con.of_body h (fn := Tryz.f67) (by kernel_rfl) rfl (by kernel_rfl) (fun _ _ => rfl) fun xs hx => ?_
  unfold wsP at hx
  split at hx
  · exact words_ref Γ _ hx
  · exact hx.elim
/-- a copy of texts -/
def cloneP (xs : List AV) : Prop := match xs with
  | [.sl cs n] => (∃ ss : List (List UInt8), cs = ss.map .str ∧ n = ss.length) ∧ n ≤ 1048576
  | _ => False
def cloneS : FSpec := lift0 cloneP (fun xs => match xs with | [.sl _ n] => .msl 0 0 0 n | _ => .any) (fun xs => match xs with | [.sl cs _] => [.row cs 1 0] | _ => []) false
attribute [push_cast] cloneP cloneS
theorem clone_body (Γ : Env) (ss : List (List UInt8)) (hl : ss.length ≤ 1048576) : BodyOk Tryz.prog Γ Tryz.f55 [.sl (ss.map .str) ss.length] [] (.msl 0 0 0 ss.length) [.row (ss.map .str) 1 0] := by
  (intro X hP hΓ hL hfin; refine ⟨_, rfl, ?_⟩; rw [show Tryz.f55.ntmps = 8 from rfl]; rw [show Tryz.f55.results.toList = [.tmp 2] from rfl] at hfin; apply holds_of_ex X 400; simp only [push_cast, reduceCtorEq, Nat.reduceAdd, Nat.reduceMul, Nat.reduceSub, Nat.reduceBEq, Nat.reduceGT, Nat.reduceLT, Int.toNat_zero, Nat.reduceLeDiff, Int.reduceEq, Int.reduceLT, Int.reduceLE, hP, hΓ, hL, hfin])
  refine ⟨fun h => ?_, by omega, ?_⟩
  · obtain rfl : ss = [] := by simpa using h
    (refine IntoF.nil 0  1 rfl ?_; simp only [push_cast, reduceCtorEq, Nat.reduceAdd, Nat.reduceMul, Nat.reduceSub, Nat.reduceBEq, Nat.reduceGT, Nat.reduceLT, Int.toNat_zero, Nat.reduceLeDiff, Int.reduceEq, Int.reduceLT, Int.reduceLE])
    exact Into.sameA
  · (refine IntoF.ver 0  0 (by simp only [push_cast, reduceCtorEq, Nat.reduceAdd, Nat.reduceMul, Nat.reduceSub, Nat.reduceBEq, Nat.reduceGT, Nat.reduceLT, Int.toNat_zero, Nat.reduceLeDiff, Int.reduceEq, Int.reduceLT, Int.reduceLE]) (by first | exact .inr (Nat.zero_le _) | (left; simp only [push_cast, reduceCtorEq, Nat.reduceAdd, Nat.reduceMul, Nat.reduceSub, Nat.reduceBEq, Nat.reduceGT, Nat.reduceLT, Int.toNat_zero, Nat.reduceLeDiff, Int.reduceEq, Int.reduceLT, Int.reduceLE]; omega) | (right; simp only [push_cast, reduceCtorEq, Nat.reduceAdd, Nat.reduceMul, Nat.reduceSub, Nat.reduceBEq, Nat.reduceGT, Nat.reduceLT, Int.toNat_zero, Nat.reduceLeDiff, Int.reduceEq, Int.reduceLT, Int.reduceLE]; omega)) ?_; simp only [push_cast, reduceCtorEq, Nat.reduceAdd, Nat.reduceMul, Nat.reduceSub, Nat.reduceBEq, Nat.reduceGT, Nat.reduceLT, Int.toNat_zero, Nat.reduceLeDiff, Int.reduceEq, Int.reduceLT, Int.reduceLE])
    exact Into.sameA
theorem con28 {Γ : Env} (h : EnvOk Tryz.prog Γ) : Con Tryz.prog 55 cloneS := by
  refine Con.of_body h (fn := Tryz.f55) (by kernel_rfl) rfl (by kernel_rfl) (fun h => by cases h) fun xs hx => ?_
  unfold cloneP at hx
  split at hx
  · obtain ⟨⟨ss, rfl, rfl⟩, hl⟩ := hx
    exact clone_body Γ ss hl
  · exact hx.elim
/-- the commands: how many words, and whether a text -/
def cmdF : Key → Option Value :=
  updK (updK (updK (updK (updK (updK (updK (updK (updK (updK noK (.s [97, 100, 100]) (.agg #[.int .i64 1, .int .i64 1])) (.s [112, 117, 116]) (.agg #[.int .i64 1, .int .i64 1])) (.s [99, 111, 112, 121]) (.agg #[.int .i64 2, .int .i64 0]))
    (.s [114, 101, 110, 97, 109, 101]) (.agg #[.int .i64 2, .int .i64 0])) (.s [100, 101, 108, 101, 116, 101]) (.agg #[.int .i64 1, .int .i64 0])) (.s [114, 117, 110]) (.agg #[.int .i64 1, .int .i64 0])) (.s [115, 104, 111, 119]) (.agg #[.int .i64 1, .int .i64 0]))
    (.s [115, 105, 122, 101]) (.agg #[.int .i64 1, .int .i64 0])) (.s [100, 105, 114]) (.agg #[.int .i64 0, .int .i64 0])) (.s [102, 114, 101, 101]) (.agg #[.int .i64 0, .int .i64 0])
def cmd (w : List UInt8) : Option (Nat × Nat) :=
  if w = [102, 114, 101, 101] ∨ w = [100, 105, 114] then some (0, 0)
  else if w = [115, 105, 122, 101] ∨ w = [115, 104, 111, 119] ∨ w = [114, 117, 110] ∨ w = [100, 101, 108, 101, 116, 101] then some (1, 0)
  else if w = [114, 101, 110, 97, 109, 101] ∨ w = [99, 111, 112, 121] then some (2, 0)
  else if w = [112, 117, 116] ∨ w = [97, 100, 100] then some (1, 1)
  else none
theorem cmdF_eq (w : List UInt8) : cmdF (.s w) = (cmd w).map fun p => .agg #[.int .i64 p.1, .int .i64 p.2] := by
  simp only [cmdF, updK, noK, Key.s.injEq, cmd]
  repeat' split
  all_goals simp_all
theorem commands_body (Γ : Env) : BodyOk Tryz.prog Γ Tryz.f53 [] [] (.mpr none cmdF) [] := by
  (intro X hP hΓ hL hfin; refine ⟨_, rfl, ?_⟩; rw [show Tryz.f53.ntmps = 13 from rfl]; rw [show Tryz.f53.results.toList = [.tmp 0] from rfl] at hfin; apply holds_of_ex X 400; simp only [push_cast, reduceCtorEq, Nat.reduceAdd, Nat.reduceMul, Nat.reduceSub, Nat.reduceBEq, Nat.reduceGT, Nat.reduceLT, Int.toNat_zero, Nat.reduceLeDiff, Int.reduceEq, Int.reduceLT, Int.reduceLE, hP, hΓ, hL, hfin])
  (refine IntoF.frz 0 (by simp only [push_cast, reduceCtorEq, Nat.reduceAdd, Nat.reduceMul, Nat.reduceSub, Nat.reduceBEq, Nat.reduceGT, Nat.reduceLT, Int.toNat_zero, Nat.reduceLeDiff, Int.reduceEq, Int.reduceLT, Int.reduceLE]; first | done | decide | omega) (by simp only [frzOk', frzOk, isMap, or_true, true_or, push_cast, reduceCtorEq, Nat.reduceAdd, Nat.reduceMul, Nat.reduceSub, Nat.reduceBEq, Nat.reduceGT, Nat.reduceLT, Int.toNat_zero, Nat.reduceLeDiff, Int.reduceEq, Int.reduceLT, Int.reduceLE]) ?_; simp only [push_cast, reduceCtorEq, Nat.reduceAdd, Nat.reduceMul, Nat.reduceSub, Nat.reduceBEq, Nat.reduceGT, Nat.reduceLT, Int.toNat_zero, Nat.reduceLeDiff, Int.reduceEq, Int.reduceLT, Int.reduceLE])
  exact Into.keep0A
def cmdS : FSpec := lift0 (fun xs => xs = []) (fun _ => .mpr none cmdF) (fun _ => []) true
attribute [push_cast] cmdS
theorem con26 {Γ : Env} (h : EnvOk Tryz.prog Γ) : Con Tryz.prog 53 cmdS := by
  refine Con.of_body h (fn := Tryz.f53) (by kernel_rfl) rfl (by kernel_rfl) (fun _ _ => rfl) fun xs hx => ?_
  obtain rfl := hx
  exact commands_body Γ
/-- how many words a command asks for -/
def asksV (w : List UInt8) : Int := match cmd w with
  | some (n, _) => n
  | none => -1
theorem asks_ref (Γ : Env) (w : List UInt8) : BodyOk Tryz.prog Γ Tryz.f68 [.str w] [] (.int .i64 (asksV w)) [] := by
  (intro X hP hΓ hL hfin; refine ⟨_, rfl, ?_⟩; rw [show Tryz.f68.ntmps = 17 from rfl]; rw [show Tryz.f68.results.toList = [.tmp 2] from rfl] at hfin; apply holds_of_ex X 400; simp only [push_cast, reduceCtorEq, Nat.reduceAdd, Nat.reduceMul, Nat.reduceSub, Nat.reduceBEq, Nat.reduceGT, Nat.reduceLT, Int.toNat_zero, Nat.reduceLeDiff, Int.reduceEq, Int.reduceLT, Int.reduceLE, hP, hΓ, hL, hfin])
  iterate 10
    refine exB_split (fun h => ?_) (fun h => ?_)
    · ((first | with_reducible refine holds_of_ex X 400 _ _ _ ?_ | skip); simp only [push_cast, reduceCtorEq, Nat.reduceAdd, Nat.reduceMul, Nat.reduceSub, Nat.reduceBEq, Nat.reduceGT, Nat.reduceLT, Int.toNat_zero, Nat.reduceLeDiff, Int.reduceEq, Int.reduceLT, Int.reduceLE, hP, hΓ, hL, hfin, h])
      have e := eq_of_beq h
      subst e
      exact Into.one (by congr 1) (by rfl)
    ((first | with_reducible refine holds_of_ex X 400 _ _ _ ?_ | skip); simp only [push_cast, reduceCtorEq, Nat.reduceAdd, Nat.reduceMul, Nat.reduceSub, Nat.reduceBEq, Nat.reduceGT, Nat.reduceLT, Int.toNat_zero, Nat.reduceLeDiff, Int.reduceEq, Int.reduceLT, Int.reduceLE, hP, hΓ, hL, hfin, h])
  refine Into.one ?_ (by rfl)
  congr 1
  simp at *
  simp [asksV, cmd, *]
def asksS : FSpec := lift0 (fun xs => match xs with | [.str _] => True | _ => False) (fun xs => match xs with | [.str w] => .int .i64 (asksV w) | _ => .any) (fun _ => []) true
def sameP (xs : List AV) : Prop := match xs with
  | [.sl cs n, .sl ds k] => (∃ ss ts : List (List UInt8), cs = ss.map .str ∧ ds = ts.map .str ∧ n = ss.length ∧ k = ts.length) ∧ n ≤ 1048576 ∧ k ≤ 1048576
  | _ => False
def strOf : AV → List UInt8
  | .str l => l
  | _ => []
def strsOf (cs : List AV) : List (List UInt8) := cs.map strOf
theorem strsOf_map (ss : List (List UInt8)) : strsOf (ss.map .str) = ss := by simp [strsOf, strOf, Function.comp_def]
def sameS : FSpec := lift0 sameP (fun xs => match xs with | [.sl cs _, .sl ds _] => .bool (strsOf cs == strsOf ds) | _ => .any) (fun _ => []) true
attribute [push_cast] asksS sameP sameS strsOf_map
theorem con30 {Γ : Env} (h : EnvOk Tryz.prog Γ) : Con Tryz.prog 68 asksS := by
  refine Con.of_body h (fn := Tryz.f68) (by kernel_rfl) rfl (by kernel_rfl) (fun _ _ => rfl) fun xs hx => ?_
  split at hx
  · exact asks_ref Γ _
  · exact hx.elim
def mine : List UInt8 := [109, 105, 110, 101]
def spoiled (ss : List (List UInt8)) (k : Nat) : List (List UInt8) := List.replicate k mine ++ ss.drop k
theorem spoiled_len (ss : List (List UInt8)) (k : Nat) (h : k ≤ ss.length) : (spoiled ss k).length = ss.length := by simp [spoiled]; omega
theorem spoiled_step (ss : List (List UInt8)) (k : Nat) (h : k < ss.length) : List.take k ((spoiled ss k).map AV.str) ++ AV.str mine :: List.drop (k + 1) ((spoiled ss k).map AV.str) = (spoiled ss (k + 1)).map .str := by
  have e : spoiled ss k = List.replicate k mine ++ ss[k] :: ss.drop (k + 1) := by rw [spoiled, List.drop_eq_getElem_cons h]
  rw [e, spoiled, List.replicate_succ']
  simp [List.take_append, List.drop_append]
end Go.Proofs.YtenopfmafecffaaGreatDoor.lineDone
