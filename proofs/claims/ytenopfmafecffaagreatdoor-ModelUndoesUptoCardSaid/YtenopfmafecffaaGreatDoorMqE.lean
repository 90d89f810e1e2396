/- Of the model of a workstation: what is put, shown and deleted. Conditions stand in each. -/
import Derived.Test.YtenopfmafecffaaGreatDoorMqA
namespace Go.Proofs.YtenopfmafecffaaGreatDoor.modelDone
open Go Go.Eng Go.Proofs Go.Mdl Go.RowKit
open Go.Lines (pres ws bl wFrom wTo aft text ws_word ws_bl ws_nil word_at wFrom_cons_bl wFrom_cons_nb wTo_cons_bl pres_good)
open Go.Proofs.YtenopfmafecffaaGreatDoor.lineDone (cmd)
open Go.Proofs.YtenopfmafecffaaGreatDoor.linesDone (linesS linesV lnF lrF lwP lines_eq)
set_option linter.unusedVariables false
set_option linter.unusedSimpArgs false
set_option maxRecDepth 100000
set_option maxHeartbeats 4000000
theorem name_word {n : Bytes} (h : nameB n = true) : n ≠ [] ∧ n.length ≤ 23 ∧ ∀ c ∈ n, bl c = false := by
  simp only [nameB, Bool.and_eq_true, Bool.not_eq_true', decide_eq_true_eq, beq_eq_false_iff_ne, List.all_eq_true] at h
  refine ⟨h.1.1.1, h.1.1.2, fun c hc => ?_⟩
  have := h.1.2 c hc
  simp only [nmc, Bool.or_eq_true, decide_eq_true_eq] at this
  simp only [bl, decide_eq_false_iff_not, UInt8.le_iff_toNat_le]
  have e : (32 : UInt8).toNat = 32 := rfl
  omega
theorem ws_two {w n r : Bytes} (hw : w ≠ []) (hwb : ∀ c ∈ w, bl c = false) (hn : n ≠ []) (hnb : ∀ c ∈ n, bl c = false) (hr : r = [] ∨ ∃ c r', r = c :: r' ∧ bl c = true) : ws (w ++ 32 :: (n ++ r)) = w :: n :: ws r := by
  rw [ws_word hw hwb (.inr ⟨_, _, rfl, rfl⟩), ws_bl rfl, ws_word hn hnb hr]
theorem aft_two {w n r : Bytes} (hw : w ≠ []) (hwb : ∀ c ∈ w, bl c = false) (hn : n ≠ []) (hnb : ∀ c ∈ n, bl c = false) (hr : r = [] ∨ ∃ c r', r = c :: r' ∧ bl c = true) : aft 2 (w ++ 32 :: (n ++ r)) = r := by
  have h1 := (word_at (r := 32 :: (n ++ r)) hw hwb (.inr ⟨_, _, rfl, rfl⟩)).2
  have h2 := (word_at hn hnb hr).2
  have e : aft 1 (w ++ 32 :: (n ++ r)) = 32 :: (n ++ r) := by
    show (w ++ 32 :: (n ++ r)).drop (wTo (w ++ 32 :: (n ++ r))) = _
    rw [h1]; simp
  show (aft 1 (w ++ 32 :: (n ++ r))).drop (wTo (aft 1 (w ++ 32 :: (n ++ r)))) = _
  rw [e, wTo_cons_bl rfl, h2]; simp
theorem text_put {w n t : Bytes} (hw : w ≠ []) (hwb : ∀ c ∈ w, bl c = false) (hn : n ≠ []) (hnb : ∀ c ∈ n, bl c = false) (ht : t = [] ∨ bl (t.getD 0 0) = false) : text 2 (w ++ 32 :: (n ++ 32 :: t)) = t := by
  rw [text, aft_two hw hwb hn hnb (.inr ⟨_, _, rfl, rfl⟩), wFrom_cons_bl rfl]
  have : wFrom t = 0 := by
    cases t with
    | nil => rfl
    | cons c t =>
      rcases ht with ht | ht
      · cases ht
      · exact wFrom_cons_nb (by simpa using ht)
  rw [this]; rfl
theorem pres_put {n t : Bytes} (hn : nameB n = true) (ht : t = [] ∨ bl (t.getD 0 0) = false) (hl : n.length + t.length + 5 ≤ 200) : pres ([112, 117, 116] ++ 32 :: (n ++ 32 :: t)) = ([112, 117, 116], [n], t, 0) := by
  obtain ⟨h1, h2, h3⟩ := name_word hn
  have hw := ws_two (w := [112, 117, 116]) (r := 32 :: t) (by simp) (by decide) h1 h3 (.inr ⟨_, _, rfl, rfl⟩)
  have := pres_good (k := 1) (t := 1) (by simp only [List.length_append, List.length_cons, List.length_nil]; omega) hw (by rfl) (by simp)
  rw [this, text_put (by simp) (by decide) h1 h3 ht]; rfl
theorem pres_show {n : Bytes} (hn : nameB n = true) : (pres ([115, 104, 111, 119] ++ 32 :: n)).1 = [115, 104, 111, 119] ∧ (pres ([115, 104, 111, 119] ++ 32 :: n)).2.1 = [n] ∧ (pres ([115, 104, 111, 119] ++ 32 :: n)).2.2.2 = 0 := by
  obtain ⟨h1, h2, h3⟩ := name_word hn
  have hw := ws_two (w := [115, 104, 111, 119]) (n := n) (r := []) (by simp) (by decide) h1 h3 (.inl rfl)
  rw [List.append_nil] at hw
  have := pres_good (k := 1) (t := 0) (by simp only [List.length_append, List.length_cons, List.length_nil]; omega) hw (by rfl) (by simp [ws_nil])
  rw [this]; exact ⟨rfl, rfl, rfl⟩
theorem pres_delete {n : Bytes} (hn : nameB n = true) : (pres ([100, 101, 108, 101, 116, 101] ++ 32 :: n)).1 = [100, 101, 108, 101, 116, 101] ∧ (pres ([100, 101, 108, 101, 116, 101] ++ 32 :: n)).2.1 = [n] ∧ (pres ([100, 101, 108, 101, 116, 101] ++ 32 :: n)).2.2.2 = 0 := by
  obtain ⟨h1, h2, h3⟩ := name_word hn
  have hw := ws_two (w := [100, 101, 108, 101, 116, 101]) (n := n) (r := []) (by simp) (by decide) h1 h3 (.inl rfl)
  rw [List.append_nil] at hw
  have := pres_good (k := 1) (t := 0) (by simp only [List.length_append, List.length_cons, List.length_nil]; omega) hw (by rfl) (by simp [ws_nil])
  rw [this]; exact ⟨rfl, rfl, rfl⟩
theorem put_do {S : Int} {A : Fs} {n t : Bytes} (hn : nameB n = true) (ht : t = [] ∨ bl (t.getD 0 0) = false) (hl : n.length + t.length + 5 ≤ 200) : doF S A ([112, 117, 116] ++ 32 :: (n ++ 32 :: t)) = if fitsF S A n (t.length + 1) = 0 then ([], ins A n (t ++ [10])) else (wrongT (fitsF S A n (t.length + 1)), A) := by
  rw [doF, pres_put hn ht hl, if_pos rfl, do_put, writeF, if_neg (by simp [hn])]
  simp only [List.length_append, List.length_cons, List.length_nil, Nat.zero_add, Int.natCast_add, Int.natCast_one]
theorem show_do {S : Int} {A : Fs} {n : Bytes} (hn : nameB n = true) (h : has A n = true) : doF S A ([115, 104, 111, 119] ++ 32 :: n) = (dataF A n, A) := by
  obtain ⟨h1, h2, h3⟩ := pres_show hn
  rw [doF, h1, h2, h3, if_pos rfl, do_show _ _ _ _ h]
theorem delete_do {S : Int} {A : Fs} {n : Bytes} (hn : nameB n = true) (h : has A n = true) : doF S A ([100, 101, 108, 101, 116, 101] ++ 32 :: n) = if freeF S A < leaves ((A.length : Int) - 1) then (wrongT 174, A) else ([], out A (pl A n)) := by
  obtain ⟨h1, h2, h3⟩ := pres_delete hn
  rw [doF, h1, h2, h3, if_pos rfl, do_delete _ _ _ _ h]
theorem pl_app {n : Bytes} : ∀ (T E : Fs), (∀ x ∈ T, x.1 < n) → pl (T ++ E) n = T.length + pl E n ∧ has (T ++ E) n = has E n
  | [], E, _ => by simp
  | x :: T, E, h => by
    have ih := pl_app T E fun y hy => h y (by simp [hy])
    have hx := h x (by simp)
    simp only [List.cons_append, pl, has, if_pos hx, List.length_cons]
    exact ⟨by omega, ih.2⟩
theorem ins_new {A : Fs} (hs : sorted A) {n : Bytes} (h : has A n = false) (d : Bytes) : has (ins A n d) n = true ∧ dataF (ins A n d) n = d ∧ (ins A n d).length = A.length + 1 ∧ out (ins A n d) (pl (ins A n d) n) = A := by
  obtain ⟨T, D, rfl, hT, hTn, hD⟩ := split n A hs
  have e : ins (T ++ D) n d = T ++ (n, d) :: D := by
    simp only [ins, h, Bool.false_eq_true, if_false]
    rw [← hT, List.take_left, List.drop_left]
  obtain ⟨p1, p2⟩ := pl_app T ((n, d) :: D) hTn
  have q1 : pl ((n, d) :: D) n = 0 := by simp [pl, List.lt_irrefl]
  have q2 : has ((n, d) :: D) n = true := by simp [has, List.lt_irrefl]
  rw [q1, Nat.add_zero] at p1
  rw [q2] at p2
  rw [e]
  refine ⟨p2, ?_, by simp; omega, ?_⟩
  · rw [dataF, p1, List.getD, List.getElem?_append_right (Nat.le_refl _), Nat.sub_self]; rfl
  · rw [p1, out, List.take_left, List.drop_append, List.drop_eq_nil_of_le (by omega), show T.length + 1 - T.length = 1 by omega]; rfl
theorem has_none {A : Fs} (hs : sorted A) {n : Bytes} (h : ∀ k, k < A.length → (A.getD k default).1 ≠ n) : has A n = false := by
  cases hh : has A n with
  | false => rfl
  | true =>
    have hlt := has_lt hs hh
    rw [has_lookup hs] at hh
    obtain ⟨d, hd⟩ := Option.isSome_iff_exists.1 hh
    have h1 := at_place hs hd
    refine absurd ?_ (h _ hlt)
    rw [List.getD, h1]; rfl
theorem law7 (Γ : Env) (h8 : Γ 8 = some S8) (h10 : Γ 10 = some S10) (h11 : Γ 11 = some S11) (h12 : Γ 12 = some S12) (h14 : Γ 14 = some S14) (h15 : Γ 15 = some S15) (h16 : Γ 16 = some S16) (h18 : Γ 18 = some linesS) (h22 : Γ 22 = some S22) (S : Int) (l : Fs) (n t : Bytes) (hl : l.length ≤ 1000000) (hb : ∀ x ∈ l, x.1.length ≤ 4194304 ∧ x.2.length ≤ 1000000000) (hn : n.length ≤ 2000000) (ht : t.length ≤ 2000000) : BodyOk Tryz.prog Γ Tryz.f7 [.int .i64 S, .sl (l.flatMap fc) l.length, .str n, .str t] [] (.bool true) [] := by
  by_cases he : (newE S l).1 = 0
  case neg =>
    have r1 := rn_v he
    have r2 := rn_m he
    have r3 := rn_h he
    (intro X hP hΓ hL hfin; refine ⟨_, rfl, ?_⟩; rw [show Tryz.f7.ntmps = 170 from rfl]; rw [show Tryz.f7.results.toList = [.tmp 8] from rfl] at hfin; apply holds_of_ex X 400; simp (maxSteps := 1000000) only [push_cast, reduceCtorEq, Nat.reduceAdd, Nat.reduceMul, Nat.reduceSub, Nat.reduceBEq, Nat.reduceGT, Nat.reduceLT, Int.toNat_zero, Nat.reduceLeDiff, Int.reduceEq, Int.reduceLT, Int.reduceLE, hP, hΓ, hL, hfin, String.reduceEq, not_false_eq_true, if_true, Int.toNat_one, h8, h10, h11, r1, r2, r3, he])
    refine ⟨⟨hl, hb⟩, ⟨hl, hb⟩, ?_⟩
    exact Into.sameA
  have r1 := rw_v he
  have r2 := rw_m he
  have r3 := rw_h he
  have hA := new_s he
  (intro X hP hΓ hL hfin; refine ⟨_, rfl, ?_⟩; rw [show Tryz.f7.ntmps = 170 from rfl]; rw [show Tryz.f7.results.toList = [.tmp 8] from rfl] at hfin; apply holds_of_ex X 400; simp (maxSteps := 1000000) only [push_cast, reduceCtorEq, Nat.reduceAdd, Nat.reduceMul, Nat.reduceSub, Nat.reduceBEq, Nat.reduceGT, Nat.reduceLT, Int.toNat_zero, Nat.reduceLeDiff, Int.reduceEq, Int.reduceLT, Int.reduceLE, hP, hΓ, hL, hfin, String.reduceEq, not_false_eq_true, if_true, Int.toNat_one, h8, h10, h11, r1, r2, r3, he, h22, h18, lwP, wr_i64 ((n.length : Int) + t.length) (by constructor <;> omega), wr_i64 ((n.length : Int) + t.length + 5) (by constructor <;> omega)])
  refine ⟨⟨hl, hb⟩, ⟨hl, hb⟩, by omega, by omega, by omega, fun hg => ?_, ?_⟩
  · simp only [Bool.and_eq_true, Bool.not_eq_true', beq_eq_false_iff_ne] at hg
    have := List.length_pos_iff.2 hg.2
    omega
  generalize (newE S l).2 = A at *
  ((with_reducible refine exB_split (fun h => ?_) (fun h => ?_)) <;> (try simp only [decide_eq_true_eq, decide_eq_false_iff_not, Bool.and_eq_true, Bool.or_eq_true, Bool.and_eq_false_iff, Bool.or_eq_false_iff, Bool.not_eq_true', Bool.not_eq_false', Bool.not_eq_true, Bool.not_eq_false, Int.not_lt, Int.not_le, beq_iff_eq, beq_eq_false_iff_ne, ne_eq] at h))
  · ((first | with_reducible refine holds_of_ex X 400 _ _ _ ?_ | skip); simp (maxSteps := 1000000) only [push_cast, reduceCtorEq, Nat.reduceAdd, Nat.reduceMul, Nat.reduceSub, Nat.reduceBEq, Nat.reduceGT, Nat.reduceLT, Int.toNat_zero, Nat.reduceLeDiff, Int.reduceEq, Int.reduceLT, Int.reduceLE, hP, hΓ, hL, hfin, String.reduceEq, not_false_eq_true, if_true, Int.toNat_one])
    exact Into.keep0A
  obtain ⟨⟨⟨hnm, -⟩, hb0⟩, hlen⟩ := h
  have htb : t = [] ∨ bl (t.getD 0 0) = false := by
    rcases hb0 with hb0 | hb0
    · exact .inl hb0
    · exact .inr (by rw [bl, decide_eq_false_iff_not]; omega)
  have hlen' : n.length + t.length + 5 ≤ 200 := by omega
  have hfs := fsOf_mapF hA.ok.so
  have hAl := hA.ok.le
  ((first | with_reducible refine holds_of_ex X 400 _ _ _ ?_ | skip); simp (maxSteps := 1000000) only [push_cast, reduceCtorEq, Nat.reduceAdd, Nat.reduceMul, Nat.reduceSub, Nat.reduceBEq, Nat.reduceGT, Nat.reduceLT, Int.toNat_zero, Nat.reduceLeDiff, Int.reduceEq, Int.reduceLT, Int.reduceLE, hP, hΓ, hL, hfin, String.reduceEq, not_false_eq_true, if_true, Int.toNat_one, h14, hfs, h16])
  refine ⟨hA, hA, ?_⟩
  refine Holds.loopM (ι := {k : Nat // k ≤ A.length ∧ ∀ j, j < k → (A.getD j default).1 ≠ n}) [false, false, true, true, false, false, false, false, false, false, true, false, false, false, false, false, false, true, true, false, true, true, false, false, false, false, false, false, false, false, false, false, false, false, false, false, false, false, false, false, false, false, false, false, false, false, false, false, false, false, false, false, false, false, false, false, false, false, false, false, false, false, false, false, false, false, false, false, false, false, false, false, false, false, false, false, false, false, false, false, false, false, false, false, false, false, false, false, false, false, false, false, false, false, false, false, false, false, false, false, false, false, false, false, false, false, false, false, false, false, false, false, false, false, false, false, false, false, false, false, false, false, false, false, false, false, false, false, false, false, false, false, false, false, false, false, false, false, false, false, false, false, false, false, false, false, false, false, false, false, false, false, false, false, false, false, false, false, false, false, false, false, false, false, false, false, false, false, false, false] (fun i => [(19, .int .i64 i.1)]) (fun i => [.row [.mp 1, .int .i64 S] 2 0, .raw (.map none (mapF A)), .row [.sl (A.flatMap fc) A.length, .int .i64 S] 2 0, .row (A.flatMap fc) 2 0]) (fun i => A.length - i.1) ⟨0, Nat.zero_le _, fun j hj => by omega⟩ ?_ ?_
  · (rw [hL]; simp only [push_cast, Int.natCast_zero]; exact Into.sameA)
  rintro ⟨k, hk, hne⟩
  ((first | with_reducible refine holds_of_ex X 400 _ _ _ ?_ | skip); simp (maxSteps := 1000000) only [push_cast, reduceCtorEq, Nat.reduceAdd, Nat.reduceMul, Nat.reduceSub, Nat.reduceBEq, Nat.reduceGT, Nat.reduceLT, Int.toNat_zero, Nat.reduceLeDiff, Int.reduceEq, Int.reduceLT, Int.reduceLE, hP, hΓ, hL, hfin, String.reduceEq, not_false_eq_true, if_true, Int.toNat_one])
  ((with_reducible refine exB_split (fun h => ?_) (fun h => ?_)) <;> (try simp only [decide_eq_true_eq, decide_eq_false_iff_not, Bool.and_eq_true, Bool.or_eq_true, Bool.and_eq_false_iff, Bool.or_eq_false_iff, Bool.not_eq_true', Bool.not_eq_false', Bool.not_eq_true, Bool.not_eq_false, Int.not_lt, Int.not_le, beq_iff_eq, beq_eq_false_iff_ne, ne_eq] at h))
  · have hk' : k < A.length := by omega
    ((first | with_reducible refine holds_of_ex X 400 _ _ _ ?_ | skip); simp (maxSteps := 1000000) only [push_cast, reduceCtorEq, Nat.reduceAdd, Nat.reduceMul, Nat.reduceSub, Nat.reduceBEq, Nat.reduceGT, Nat.reduceLT, Int.toNat_zero, Nat.reduceLeDiff, Int.reduceEq, Int.reduceLT, Int.reduceLE, hP, hΓ, hL, hfin, String.reduceEq, not_false_eq_true, if_true, Int.toNat_one, fz0])
    refine ⟨by omega, ⟨by omega, by omega⟩, ?_⟩
    ((with_reducible refine exB_split (fun h => ?_) (fun h => ?_)) <;> (try simp only [decide_eq_true_eq, decide_eq_false_iff_not, Bool.and_eq_true, Bool.or_eq_true, Bool.and_eq_false_iff, Bool.or_eq_false_iff, Bool.not_eq_true', Bool.not_eq_false', Bool.not_eq_true, Bool.not_eq_false, Int.not_lt, Int.not_le, beq_iff_eq, beq_eq_false_iff_ne, ne_eq] at h))
    · ((first | with_reducible refine holds_of_ex X 400 _ _ _ ?_ | skip); simp (maxSteps := 1000000) only [push_cast, reduceCtorEq, Nat.reduceAdd, Nat.reduceMul, Nat.reduceSub, Nat.reduceBEq, Nat.reduceGT, Nat.reduceLT, Int.toNat_zero, Nat.reduceLeDiff, Int.reduceEq, Int.reduceLT, Int.reduceLE, hP, hΓ, hL, hfin, String.reduceEq, not_false_eq_true, if_true, Int.toNat_one])
      exact Into.keep0A
    · ((first | with_reducible refine holds_of_ex X 400 _ _ _ ?_ | skip); simp (maxSteps := 1000000) only [push_cast, reduceCtorEq, Nat.reduceAdd, Nat.reduceMul, Nat.reduceSub, Nat.reduceBEq, Nat.reduceGT, Nat.reduceLT, Int.toNat_zero, Nat.reduceLeDiff, Int.reduceEq, Int.reduceLT, Int.reduceLE, hP, hΓ, hL, hfin, String.reduceEq, not_false_eq_true, if_true, Int.toNat_one, wr_i64 ((k : Int) + 1) (by constructor <;> omega)])
      refine ⟨⟨k + 1, hk', fun j hj => ?_⟩, by simp only; omega, ?_⟩
      · rcases Nat.lt_or_ge j k with h' | h'
        · exact hne j h'
        · obtain rfl : j = k := by omega
          exact h
      · exact Into.sameA
  · obtain rfl : k = A.length := by omega
    have hh := has_none hA.ok.so hne
    have hp : doF S A (112 :: 117 :: 116 :: 32 :: (n ++ [32] ++ t)) = if fitsF S A n (t.length + 1) = 0 then ([], ins A n (t ++ [10])) else (wrongT (fitsF S A n (t.length + 1)), A) := by
      rw [← put_do hnm htb hlen', List.append_assoc]; rfl
    by_cases hf : fitsF S A n (t.length + 1) = 0
    case neg =>
      rw [if_neg hf] at hp
      have hw : (wrongT (fitsF S A n (t.length + 1)) == []) = false := rfl
      ((first | with_reducible refine holds_of_ex X 400 _ _ _ ?_ | skip); simp (maxSteps := 1000000) only [push_cast, reduceCtorEq, Nat.reduceAdd, Nat.reduceMul, Nat.reduceSub, Nat.reduceBEq, Nat.reduceGT, Nat.reduceLT, Int.toNat_zero, Nat.reduceLeDiff, Int.reduceEq, Int.reduceLT, Int.reduceLE, hP, hΓ, hL, hfin, String.reduceEq, not_false_eq_true, if_true, Int.toNat_one, h12, hfs, hp, hw, h14, h15, fm_all, h16])
      refine ⟨by omega, by omega, by omega, hA, hA, by omega, hA, ?_⟩
      exact Into.keep0A
    rw [if_pos hf] at hp
    have hC : okS S (ins A n (t ++ [10])) := by
      have := do_s hA (112 :: 117 :: 116 :: 32 :: (n ++ [32] ++ t))
      rwa [hp] at this
    obtain ⟨i1, i2, i3, i4⟩ := ins_new hA.ok.so hh (t ++ [10])
    have hs := show_do (S := S) hnm i1
    have hd := delete_do (S := S) hnm i1
    generalize hCe : ins A n (t ++ [10]) = C at *
    have hfc := fsOf_mapF hC.ok.so
    have hCl := hC.ok.le
    simp only [List.cons_append, List.nil_append] at hs hd
    rw [i2] at hs
    by_cases hq : freeF S C < leaves ((C.length : Int) - 1)
    · rw [if_pos hq] at hd
      have hw : wrongT 174 = [63, 32, 49, 55, 52, 10] := by kernel_rfl
      rw [hw] at hd
      have q174 : (([63, 32, 49, 55, 52, 10] : Bytes) == []) = false := rfl
      ((first | with_reducible refine holds_of_ex X 400 _ _ _ ?_ | skip); simp (maxSteps := 1000000) only [push_cast, reduceCtorEq, Nat.reduceAdd, Nat.reduceMul, Nat.reduceSub, Nat.reduceBEq, Nat.reduceGT, Nat.reduceLT, Int.toNat_zero, Nat.reduceLeDiff, Int.reduceEq, Int.reduceLT, Int.reduceLE, hP, hΓ, hL, hfin, String.reduceEq, not_false_eq_true, if_true, Int.toNat_one, h12, hfs, hp, hfc, hs, hd, h14, i3, q174, wr_i64 ((A.length : Int) + 1) (by constructor <;> omega)])
      refine ⟨by omega, by omega, by omega, hA, by omega, hC, by omega, hC, by omega, hC, ?_⟩
      exact Into.keep0A
    · rw [if_neg hq, i4] at hd
      ((first | with_reducible refine holds_of_ex X 400 _ _ _ ?_ | skip); simp (maxSteps := 1000000) only [push_cast, reduceCtorEq, Nat.reduceAdd, Nat.reduceMul, Nat.reduceSub, Nat.reduceBEq, Nat.reduceGT, Nat.reduceLT, Int.toNat_zero, Nat.reduceLeDiff, Int.reduceEq, Int.reduceLT, Int.reduceLE, hP, hΓ, hL, hfin, String.reduceEq, not_false_eq_true, if_true, Int.toNat_one, h12, hfs, hp, hfc, hs, hd, h14, h15, fm_all, h16])
      refine ⟨by omega, by omega, by omega, hA, by omega, hC, by omega, hC, by omega, hA, by omega, hA, ?_⟩
      exact Into.keep0A
end Go.Proofs.YtenopfmafecffaaGreatDoor.modelDone
