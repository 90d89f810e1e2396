/- Of lines: a line's parts. -/
import Derived.Test.YtenopfmafecffaaGreatDoorLB
namespace Go.Lines
open Go.Proofs.YtenopfmafecffaaGreatDoor.lineDone
theorem no_word : ∀ {l : List UInt8}, wFrom l = wTo l → wFrom l = l.length
  | [], _ => rfl
  | c :: r, h => by
    cases hb : bl c
    · rw [wFrom_cons_nb hb, wTo_cons_nb hb, takeWhile_nb_cons hb] at h; simp at h
    · rw [wFrom_cons_bl hb, wTo_cons_bl hb] at h
      rw [wFrom_cons_bl hb, List.length_cons, no_word (by omega)]
theorem ws_aft (l : List UInt8) : ∀ n, ws (aft n l) = (ws l).drop n
  | 0 => rfl
  | n + 1 => by
    have ih := ws_aft l n
    rw [aft, ← List.drop_drop, ← ih]
    by_cases he : wFrom (aft n l) = wTo (aft n l)
    · rw [← he, no_word he, List.drop_length, ws_nil]
      rw [ws, if_pos he, List.drop_nil]
    · conv => rhs; rw [ws, if_neg he]
      rfl
theorem text_end {l : List UInt8} {n : Nat} (h : (ws l).length ≤ n) : text n l = [] := by
  have h1 : ws (aft n l) = [] := by rw [ws_aft, List.drop_eq_nil_of_le h]
  have h2 : wFrom (aft n l) = wTo (aft n l) := by
    rw [ws] at h1
    split at h1
    · assumption
    · cases h1
  rw [text, no_word h2, List.drop_length]
theorem cmd_flag {w : List UInt8} {k t : Nat} (hc : cmd w = some (k, t)) : (k ≤ 2 ∧ t ≤ 1 ∧ (t = 1 → k = 1)) ∧ ((w == [97, 100, 100]) || (w == [112, 117, 116])) = decide (t = 1) := by
  simp only [cmd] at hc
  split at hc
  · rename_i h
    simp at hc; obtain ⟨rfl, rfl⟩ := hc
    rcases h with rfl | rfl <;> exact ⟨by omega, rfl⟩
  split at hc
  · rename_i h
    simp at hc; obtain ⟨rfl, rfl⟩ := hc
    rcases h with rfl | rfl | rfl | rfl <;> exact ⟨by omega, rfl⟩
  split at hc
  · rename_i h
    simp at hc; obtain ⟨rfl, rfl⟩ := hc
    rcases h with rfl | rfl <;> exact ⟨by omega, rfl⟩
  split at hc
  · rename_i h
    simp at hc; obtain ⟨rfl, rfl⟩ := hc
    rcases h with rfl | rfl <;> exact ⟨by omega, rfl⟩
  · cases hc
/-- a line's parts: the command, its words, its text, what is wrong with it -/
def pres (l : List UInt8) : List UInt8 × List (List UInt8) × List UInt8 × Nat :=
  if 200 < l.length then ([], [], [], 190)
  else match ws l with
    | [] => ([], [], [], 0)
    | w :: r => match cmd w with
      | none => ([], [], [], 191)
      | some (k, t) => if r.length < k ∨ (k < r.length ∧ t = 0) then ([], [], [], 192) else (w, r.take k, text (k + 1) l, 0)
theorem pres_long {l : List UInt8} (h : 200 < l.length) : pres l = ([], [], [], 190) := by rw [pres, if_pos h]
theorem pres_nil {l : List UInt8} (h : l.length ≤ 200) (hw : ws l = []) : pres l = ([], [], [], 0) := by rw [pres, if_neg (by omega), hw]
theorem pres_none {l w : List UInt8} {r : List (List UInt8)} (h : l.length ≤ 200) (hw : ws l = w :: r) (hc : cmd w = none) : pres l = ([], [], [], 191) := by rw [pres, if_neg (by omega), hw]; simp only [hc]
theorem pres_bad {l w : List UInt8} {r : List (List UInt8)} {k t : Nat} (h : l.length ≤ 200) (hw : ws l = w :: r) (hc : cmd w = some (k, t)) (hk : r.length < k ∨ (k < r.length ∧ t = 0)) : pres l = ([], [], [], 192) := by rw [pres, if_neg (by omega), hw]; simp only [hc]; rw [if_pos hk]
theorem pres_good {l w : List UInt8} {r : List (List UInt8)} {k t : Nat} (h : l.length ≤ 200) (hw : ws l = w :: r) (hc : cmd w = some (k, t)) (hk : ¬(r.length < k ∨ (k < r.length ∧ t = 0))) : pres l = (w, r.take k, text (k + 1) l, 0) := by rw [pres, if_neg (by omega), hw]; simp only [hc]; rw [if_neg hk]
end Go.Lines
namespace Go.Proofs.YtenopfmafecffaaGreatDoor.lineDone
open Go Go.Eng Go.Proofs Go.Lines
set_option linter.unusedVariables false
set_option linter.unusedSimpArgs false
def parseV (l : List UInt8) : AV := .tup [.str (pres l).1, .msl 0 0 0 (pres l).2.1.length, .str (pres l).2.2.1, .int .i64 (pres l).2.2.2]
def parseH (l : List UInt8) : Heap := [.row ((pres l).2.1.map .str) 1 0]
theorem extH_nil (L : Heap) : extH [] L = True := by simp [extH]
theorem extH_cons (o : AObj) (L L' : Heap) : extH (o :: L) (o :: L') = extH L L' := by simp [extH]
attribute [push_cast] extH_nil extH_cons
/-- only this object stays -/
theorem Into.pick1 {fr fr' : List AV} {a o : AObj} {G : Heap} (h : leF fr (renL (fun i => [1].getD i i) fr')) (ho : renO (fun i => [1].getD i i) o = o) (hs : scpL 1 fr' = true) (hc : scpO 1 o = true) : Into [] fr (a :: o :: G) (fr', [o]) :=
  IntoF.base [1] ⟨h, by simpa using ho.symm, by simp, by simp, hs, by simp [hc]⟩ (by simp)
set_option maxRecDepth 100000 in
theorem parse_body (Γ : Env) (h25 : Γ 52 = some wordsS) (h26 : Γ 53 = some cmdS) (h27 : Γ 54 = some wordS) (h28 : Γ 55 = some cloneS) (l : List UInt8) : BodyOk Tryz.prog Γ Tryz.f28 [.str l] [] (parseV l) (parseH l) := by
  (intro X hP hΓ hL hfin; refine ⟨_, rfl, ?_⟩; rw [show Tryz.f28.ntmps = 83 from rfl]; rw [show Tryz.f28.results.toList = [.tmp 2, .tmp 3, .tmp 4, .tmp 5] from rfl] at hfin; apply holds_of_ex X 400; simp only [push_cast, reduceCtorEq, Nat.reduceAdd, Nat.reduceMul, Nat.reduceSub, Nat.reduceBEq, Nat.reduceGT, Nat.reduceLT, Int.toNat_zero, Nat.reduceLeDiff, Int.reduceEq, Int.reduceLT, Int.reduceLE, hP, hΓ, hL, hfin, h25])
  refine exB_split (fun h => ?_) (fun h => ?_)
  · have e := pres_long (l := l) (by have := of_decide_eq_true h; omega)
    ((first | with_reducible refine holds_of_ex X 400 _ _ _ ?_ | skip); simp only [push_cast, reduceCtorEq, Nat.reduceAdd, Nat.reduceMul, Nat.reduceSub, Nat.reduceBEq, Nat.reduceGT, Nat.reduceLT, Int.toNat_zero, Nat.reduceLeDiff, Int.reduceEq, Int.reduceLT, Int.reduceLE, hP, hΓ, hL, hfin])
    rw [parseV, parseH, e]
    refine IntoF.nilT 0 1 1 _ rfl rfl ?_
    (try simp only [List.map_append, List.append_assoc, List.map_cons, List.map_nil, List.length_append, List.length_cons, List.length_nil, byteAV, Nat.add_assoc, Nat.reduceAdd, Nat.zero_add, Nat.add_zero, List.append_nil, List.cons_append, List.nil_append])
    exact Into.sameA
  have hl : l.length ≤ 200 := by have := of_decide_eq_false h; omega
  ((first | with_reducible refine holds_of_ex X 400 _ _ _ ?_ | skip); simp only [push_cast, reduceCtorEq, Nat.reduceAdd, Nat.reduceMul, Nat.reduceSub, Nat.reduceBEq, Nat.reduceGT, Nat.reduceLT, Int.toNat_zero, Nat.reduceLeDiff, Int.reduceEq, Int.reduceLT, Int.reduceLE, hP, hΓ, hL, hfin, h25])
  refine ⟨by omega, exB_split (fun h => ?_) (fun h => ?_)⟩
  · have e0 : ws l = [] := by simpa using h
    have e := pres_nil hl e0
    ((first | with_reducible refine holds_of_ex X 400 _ _ _ ?_ | skip); simp only [push_cast, reduceCtorEq, Nat.reduceAdd, Nat.reduceMul, Nat.reduceSub, Nat.reduceBEq, Nat.reduceGT, Nat.reduceLT, Int.toNat_zero, Nat.reduceLeDiff, Int.reduceEq, Int.reduceLT, Int.reduceLE, hP, hΓ, hL, hfin])
    rw [parseV, parseH, e]
    refine IntoF.nilT 0 1 1 _ rfl rfl ?_
    (try simp only [List.map_append, List.append_assoc, List.map_cons, List.map_nil, List.length_append, List.length_cons, List.length_nil, byteAV, Nat.add_assoc, Nat.reduceAdd, Nat.zero_add, Nat.add_zero, List.append_nil, List.cons_append, List.nil_append])
    exact Into.sameA
  obtain ⟨w, r, e0⟩ : ∃ w r, ws l = w :: r := by
    cases e : ws l with
    | nil => rw [e] at h; simp at h
    | cons w r => exact ⟨w, r, rfl⟩
  rw [e0]
  ((first | with_reducible refine holds_of_ex X 400 _ _ _ ?_ | skip); simp only [push_cast, reduceCtorEq, Nat.reduceAdd, Nat.reduceMul, Nat.reduceSub, Nat.reduceBEq, Nat.reduceGT, Nat.reduceLT, Int.toNat_zero, Nat.reduceLeDiff, Int.reduceEq, Int.reduceLT, Int.reduceLE, hP, hΓ, hL, hfin])
  cases hc : cmd w with
  | none =>
    have hf := cmdF_eq w
    rw [hc] at hf
    simp only [Option.map_none] at hf
    refine Holds.drawn (extH []) [8, 9] (by rw [hP]; kernel_rfl) (by kernel_rfl) (by kernel_rfl) ⟨[], by simp⟩ ?_
    simp only [↓reduceIte, Option.getD_some, push_cast, push_cast, reduceCtorEq, Nat.reduceAdd, Nat.reduceMul, Nat.reduceSub, Nat.reduceBEq, Nat.reduceGT, Nat.reduceLT, Int.toNat_zero, Nat.reduceLeDiff, Int.reduceEq, Int.reduceLT, Int.reduceLE, hP, hΓ, hL, hfin, h26, hf]
    refine ⟨by omega, by omega, ?_⟩
    ((first | with_reducible refine holds_of_ex X 400 _ _ _ ?_ | skip); simp only [push_cast, reduceCtorEq, Nat.reduceAdd, Nat.reduceMul, Nat.reduceSub, Nat.reduceBEq, Nat.reduceGT, Nat.reduceLT, Int.toNat_zero, Nat.reduceLeDiff, Int.reduceEq, Int.reduceLT, Int.reduceLE, hP, hΓ, hL, hfin])
    have e := pres_none hl e0 hc
    rw [parseV, parseH, e]
    refine IntoF.nilT 0 1 1 _ rfl rfl ?_
    exact Into.pick1 (by simp [leF, renL, ren]) rfl rfl rfl
  | some kt =>
    obtain ⟨k, t⟩ := kt
    have hk2 : k ≤ 2 ∧ t ≤ 1 := by
      simp only [cmd] at hc
      repeat' split at hc
      all_goals simp at hc
      all_goals omega
    have hf := cmdF_eq w
    rw [hc] at hf
    simp only [Option.map_some] at hf
    refine Holds.drawn (extH []) [8, 9] (by rw [hP]; kernel_rfl) (by kernel_rfl) (by kernel_rfl) ⟨[], by simp⟩ ?_
    simp only [↓reduceIte, Option.getD_some, push_cast, push_cast, reduceCtorEq, Nat.reduceAdd, Nat.reduceMul, Nat.reduceSub, Nat.reduceBEq, Nat.reduceGT, Nat.reduceLT, Int.toNat_zero, Nat.reduceLeDiff, Int.reduceEq, Int.reduceLT, Int.reduceLE, hP, hΓ, hL, hfin, h26, hf]
    have hr := ws_len _ l (Nat.le_refl _)
    rw [e0, List.length_cons] at hr
    have hu : IntKind.i64.wrap ((r.length : Int) + 1 - 1) = r.length := by rw [Int.add_sub_cancel]; exact wrap_i64 _ (by omega)
    refine ⟨by omega, by omega, ?_⟩
    ((first | with_reducible refine holds_of_ex X 400 _ _ _ ?_ | skip); simp only [push_cast, reduceCtorEq, Nat.reduceAdd, Nat.reduceMul, Nat.reduceSub, Nat.reduceBEq, Nat.reduceGT, Nat.reduceLT, Int.toNat_zero, Nat.reduceLeDiff, Int.reduceEq, Int.reduceLT, Int.reduceLE, hP, hΓ, hL, hfin, hu])
    refine exB_split (fun h => ?_) (fun h => ?_)
    · have e := pres_bad hl e0 hc (.inl (by have := of_decide_eq_true h; omega))
      ((first | with_reducible refine holds_of_ex X 400 _ _ _ ?_ | skip); simp only [push_cast, reduceCtorEq, Nat.reduceAdd, Nat.reduceMul, Nat.reduceSub, Nat.reduceBEq, Nat.reduceGT, Nat.reduceLT, Int.toNat_zero, Nat.reduceLeDiff, Int.reduceEq, Int.reduceLT, Int.reduceLE, hP, hΓ, hL, hfin, h])
      rw [parseV, parseH, e]
      refine IntoF.nilT 0 1 1 _ rfl rfl ?_
      exact Into.pick1 (by simp [leF, renL, ren]) rfl rfl rfl
    rename_i h0 h1
    ((first | with_reducible refine holds_of_ex X 400 _ _ _ ?_ | skip); simp only [push_cast, reduceCtorEq, Nat.reduceAdd, Nat.reduceMul, Nat.reduceSub, Nat.reduceBEq, Nat.reduceGT, Nat.reduceLT, Int.toNat_zero, Nat.reduceLeDiff, Int.reduceEq, Int.reduceLT, Int.reduceLE, hP, hΓ, hL, hfin, hu])
    refine exB_split (fun h => ?_) (fun h => ?_)
    · have e := pres_bad hl e0 hc (.inr (by simp at h; omega))
      ((first | with_reducible refine holds_of_ex X 400 _ _ _ ?_ | skip); simp only [push_cast, reduceCtorEq, Nat.reduceAdd, Nat.reduceMul, Nat.reduceSub, Nat.reduceBEq, Nat.reduceGT, Nat.reduceLT, Int.toNat_zero, Nat.reduceLeDiff, Int.reduceEq, Int.reduceLT, Int.reduceLE, hP, hΓ, hL, hfin])
      rw [parseV, parseH, e]
      refine IntoF.nilT 0 1 1 _ rfl rfl ?_
      exact Into.pick1 (by simp [leF, renL, ren]) rfl rfl rfl
    have hg : ¬(r.length < k ∨ (k < r.length ∧ t = 0)) := by
      simp at h
      have := of_decide_eq_false (‹decide ((r.length : Int) < k) = false›)
      omega
    have e := pres_good hl e0 hc hg
    have hnk : (1 + (k : Int)).toNat = k + 1 := by omega
    have huk : IntKind.i64.wrap (1 + (k : Int)) = 1 + (k : Int) := wrap_i64 _ (by omega)
    ((first | with_reducible refine holds_of_ex X 400 _ _ _ ?_ | skip); simp only [push_cast, reduceCtorEq, Nat.reduceAdd, Nat.reduceMul, Nat.reduceSub, Nat.reduceBEq, Nat.reduceGT, Nat.reduceLT, Int.toNat_zero, Nat.reduceLeDiff, Int.reduceEq, Int.reduceLT, Int.reduceLE, hP, hΓ, hL, hfin, huk])
    refine Holds.loop (ι := { j : Nat // j ≤ k + 1 }) (fun j => ([.any, .any, .any, .any, .any, .any, .sl (.str w :: r.map .str) (r.length + 1), .ref 0 0 0, .any, .any, .str (aft j.1 l), .any, .any, .any, .any, .any, .any, .any, .any, .any, .any, .any, .any, .any, .any, .any, .any, .any, .any, .any, .any, .any, .any, .any, .any, .any, .any, .any, .any, .any, .any, .any, .any, .any, .any, .any, .any, .any, .any, .any, .any, .any, .any, .any, .int .i64 (1 + k), .int .i64 j.1, .any, .any, .any, .any, .any, .any, .any, .any, .any, .any, .any, .any, .any, .any, .any, .any, .any, .any, .any, .any, .any, .any, .any, .any, .any, .any, .any], [.row [.int .i64 k, .int .i64 t] 2 0])) (fun j => k + 1 - j.1) ⟨0, by omega⟩ ?_ ?_
    · rw [hL]
      simp only [aft, Int.natCast_zero]
      exact Into.sameA
    rintro ⟨j, hj⟩
    have hal : (aft j l).length ≤ 200 := by rw [aft_pos, List.length_drop]; omega
    ((first | with_reducible refine holds_of_ex X 400 _ _ _ ?_ | skip); simp only [push_cast, reduceCtorEq, Nat.reduceAdd, Nat.reduceMul, Nat.reduceSub, Nat.reduceBEq, Nat.reduceGT, Nat.reduceLT, Int.toNat_zero, Nat.reduceLeDiff, Int.reduceEq, Int.reduceLT, Int.reduceLE, hP, hΓ, hL, hfin])
    refine exB_split (fun h => ?_) (fun h => ?_)
    · have hj2 : j < k + 1 := by have := of_decide_eq_true h; omega
      have huj : IntKind.i64.wrap ((j : Int) + 1) = (j : Int) + 1 := wrap_i64 _ (by omega)
      have hwt := wTo_le (aft j l)
      ((first | with_reducible refine holds_of_ex X 400 _ _ _ ?_ | skip); simp only [push_cast, reduceCtorEq, Nat.reduceAdd, Nat.reduceMul, Nat.reduceSub, Nat.reduceBEq, Nat.reduceGT, Nat.reduceLT, Int.toNat_zero, Nat.reduceLeDiff, Int.reduceEq, Int.reduceLT, Int.reduceLE, hP, hΓ, hL, hfin, h27, huj, List.take_length])
      refine ⟨by omega, ⟨by omega, by omega, by omega⟩, ⟨j + 1, by omega⟩, by simp only; omega, ?_⟩
      rw [aft]
      exact Into.sameA
    · have hj2 : j = k + 1 := by have := of_decide_eq_false h; omega
      subst hj2
      ((first | with_reducible refine holds_of_ex X 400 _ _ _ ?_ | skip); simp only [push_cast, reduceCtorEq, Nat.reduceAdd, Nat.reduceMul, Nat.reduceSub, Nat.reduceBEq, Nat.reduceGT, Nat.reduceLT, Int.toNat_zero, Nat.reduceLeDiff, Int.reduceEq, Int.reduceLT, Int.reduceLE, hP, hΓ, hL, hfin, h27])
      refine ⟨by omega, ?_⟩
      refine Holds.drawn (extH [.row [.int .i64 k, .int .i64 t] 2 0]) [8] (by rw [hP]; kernel_rfl) (by kernel_rfl) (by kernel_rfl) ⟨[], by simp⟩ ?_
      simp only [↓reduceIte, Option.getD_some, push_cast, push_cast, reduceCtorEq, Nat.reduceAdd, Nat.reduceMul, Nat.reduceSub, Nat.reduceBEq, Nat.reduceGT, Nat.reduceLT, Int.toNat_zero, Nat.reduceLeDiff, Int.reduceEq, Int.reduceLT, Int.reduceLE, hP, hΓ, hL, hfin, h28, huk, hnk, Int.toNat_one, ← List.map_take, List.take_length, Nat.add_sub_cancel]
      have hwf := wFrom_le (aft (k + 1) l)
      have hkr : k = (r.take k).length := by rw [List.length_take]; omega
      refine ⟨by omega, by omega, ⟨by omega, by omega, by omega⟩, ⟨⟨r.take k, rfl, hkr⟩, by omega⟩, ⟨by omega, by omega, by omega⟩, ?_⟩
      ((first | with_reducible refine holds_of_ex X 400 _ _ _ ?_ | skip); simp only [push_cast, reduceCtorEq, Nat.reduceAdd, Nat.reduceMul, Nat.reduceSub, Nat.reduceBEq, Nat.reduceGT, Nat.reduceLT, Int.toNat_zero, Nat.reduceLeDiff, Int.reduceEq, Int.reduceLT, Int.reduceLE, hP, hΓ, hL, hfin])
      rw [parseV, parseH, e]
      simp only [← hkr]
      exact Into.pick1 (by simp [leF, renL, ren, text]) (by simp only [push_cast]) (by simp [scp, scpL]) (by simp only [push_cast])
def parseP (xs : List AV) : Prop := match xs with
  | [.str _] => True
  | _ => False
def parseS : FSpec := lift0 parseP (fun xs => match xs with | [.str l] => parseV l | _ => .any) (fun xs => match xs with | [.str l] => parseH l | _ => []) false
attribute [push_cast] parseP parseS parseV parseH
theorem con13 {Γ : Env} (h : EnvOk Tryz.prog Γ) (h25 : Γ 52 = some wordsS) (h26 : Γ 53 = some cmdS) (h27 : Γ 54 = some wordS) (h28 : Γ 55 = some cloneS) : Con Tryz.prog 28 parseS := by
  refine Con.of_body h (fn := Tryz.f28) (by kernel_rfl) rfl (by kernel_rfl) (fun h => by cases h) fun xs hx => ?_
  unfold parseP at hx
  split at hx
  · exact parse_body Γ h25 h26 h27 h28 _
  · exact hx.elim
/-- the same parts, read only -/
def refV (l : List UInt8) : AV := .tup [.str (pres l).1, .sl ((pres l).2.1.map .str) (pres l).2.1.length, .str (pres l).2.2.1, .int .i64 (pres l).2.2.2]
set_option maxRecDepth 100000 in
theorem parse_ref (Γ : Env) (h29 : Γ 67 = some wordsS) (h30 : Γ 68 = some asksS) (h31 : Γ 69 = some textS) (l : List UInt8) : BodyOk Tryz.prog Γ Tryz.f31 [.str l] [] (refV l) [] := by
  (intro X hP hΓ hL hfin; refine ⟨_, rfl, ?_⟩; rw [show Tryz.f31.ntmps = 65 from rfl]; rw [show Tryz.f31.results.toList = [.tmp 2, .tmp 3, .tmp 4, .tmp 5] from rfl] at hfin; apply holds_of_ex X 400; simp only [push_cast, reduceCtorEq, Nat.reduceAdd, Nat.reduceMul, Nat.reduceSub, Nat.reduceBEq, Nat.reduceGT, Nat.reduceLT, Int.toNat_zero, Nat.reduceLeDiff, Int.reduceEq, Int.reduceLT, Int.reduceLE, hP, hΓ, hL, hfin, h29])
  refine exB_split (fun h => ?_) (fun h => ?_)
  · have e := pres_long (l := l) (by have := of_decide_eq_true h; omega)
    ((first | with_reducible refine holds_of_ex X 400 _ _ _ ?_ | skip); simp only [push_cast, reduceCtorEq, Nat.reduceAdd, Nat.reduceMul, Nat.reduceSub, Nat.reduceBEq, Nat.reduceGT, Nat.reduceLT, Int.toNat_zero, Nat.reduceLeDiff, Int.reduceEq, Int.reduceLT, Int.reduceLE, hP, hΓ, hL, hfin])
    rw [refV, e]
    refine IntoF.nilT 0 1 1 _ rfl rfl ?_
    (try simp only [List.map_append, List.append_assoc, List.map_cons, List.map_nil, List.length_append, List.length_cons, List.length_nil, byteAV, Nat.add_assoc, Nat.reduceAdd, Nat.zero_add, Nat.add_zero, List.append_nil, List.cons_append, List.nil_append])
    (refine IntoF.frz 0 (by simp only [push_cast, reduceCtorEq, Nat.reduceAdd, Nat.reduceMul, Nat.reduceSub, Nat.reduceBEq, Nat.reduceGT, Nat.reduceLT, Int.toNat_zero, Nat.reduceLeDiff, Int.reduceEq, Int.reduceLT, Int.reduceLE]; first | done | decide | omega) (by simp only [frzOk', frzOk, isMap, or_true, true_or, push_cast, reduceCtorEq, Nat.reduceAdd, Nat.reduceMul, Nat.reduceSub, Nat.reduceBEq, Nat.reduceGT, Nat.reduceLT, Int.toNat_zero, Nat.reduceLeDiff, Int.reduceEq, Int.reduceLT, Int.reduceLE]) ?_; simp only [push_cast, reduceCtorEq, Nat.reduceAdd, Nat.reduceMul, Nat.reduceSub, Nat.reduceBEq, Nat.reduceGT, Nat.reduceLT, Int.toNat_zero, Nat.reduceLeDiff, Int.reduceEq, Int.reduceLT, Int.reduceLE])
    exact Into.keep0A
  have hl : l.length ≤ 200 := by have := of_decide_eq_false h; omega
  ((first | with_reducible refine holds_of_ex X 400 _ _ _ ?_ | skip); simp only [push_cast, reduceCtorEq, Nat.reduceAdd, Nat.reduceMul, Nat.reduceSub, Nat.reduceBEq, Nat.reduceGT, Nat.reduceLT, Int.toNat_zero, Nat.reduceLeDiff, Int.reduceEq, Int.reduceLT, Int.reduceLE, hP, hΓ, hL, hfin, h29])
  refine ⟨by omega, exB_split (fun h => ?_) (fun h => ?_)⟩
  · have e0 : ws l = [] := by simpa using h
    have e := pres_nil hl e0
    ((first | with_reducible refine holds_of_ex X 400 _ _ _ ?_ | skip); simp only [push_cast, reduceCtorEq, Nat.reduceAdd, Nat.reduceMul, Nat.reduceSub, Nat.reduceBEq, Nat.reduceGT, Nat.reduceLT, Int.toNat_zero, Nat.reduceLeDiff, Int.reduceEq, Int.reduceLT, Int.reduceLE, hP, hΓ, hL, hfin])
    rw [refV, e]
    refine IntoF.nilT 0 1 1 _ rfl rfl ?_
    (try simp only [List.map_append, List.append_assoc, List.map_cons, List.map_nil, List.length_append, List.length_cons, List.length_nil, byteAV, Nat.add_assoc, Nat.reduceAdd, Nat.zero_add, Nat.add_zero, List.append_nil, List.cons_append, List.nil_append])
    (refine IntoF.frz 0 (by simp only [push_cast, reduceCtorEq, Nat.reduceAdd, Nat.reduceMul, Nat.reduceSub, Nat.reduceBEq, Nat.reduceGT, Nat.reduceLT, Int.toNat_zero, Nat.reduceLeDiff, Int.reduceEq, Int.reduceLT, Int.reduceLE]; first | done | decide | omega) (by simp only [frzOk', frzOk, isMap, or_true, true_or, push_cast, reduceCtorEq, Nat.reduceAdd, Nat.reduceMul, Nat.reduceSub, Nat.reduceBEq, Nat.reduceGT, Nat.reduceLT, Int.toNat_zero, Nat.reduceLeDiff, Int.reduceEq, Int.reduceLT, Int.reduceLE]) ?_; simp only [push_cast, reduceCtorEq, Nat.reduceAdd, Nat.reduceMul, Nat.reduceSub, Nat.reduceBEq, Nat.reduceGT, Nat.reduceLT, Int.toNat_zero, Nat.reduceLeDiff, Int.reduceEq, Int.reduceLT, Int.reduceLE])
    exact Into.keep0A
  obtain ⟨w, r, e0⟩ : ∃ w r, ws l = w :: r := by
    cases e : ws l with
    | nil => rw [e] at h; simp at h
    | cons w r => exact ⟨w, r, rfl⟩
  rw [e0]
  have hr := ws_len _ l (Nat.le_refl _)
  rw [e0, List.length_cons] at hr
  have hu : IntKind.i64.wrap ((r.length : Int) + 1 - 1) = r.length := by rw [Int.add_sub_cancel]; exact wrap_i64 _ (by omega)
  ((first | with_reducible refine holds_of_ex X 400 _ _ _ ?_ | skip); simp only [push_cast, reduceCtorEq, Nat.reduceAdd, Nat.reduceMul, Nat.reduceSub, Nat.reduceBEq, Nat.reduceGT, Nat.reduceLT, Int.toNat_zero, Nat.reduceLeDiff, Int.reduceEq, Int.reduceLT, Int.reduceLE, hP, hΓ, hL, hfin, h30])
  refine ⟨by omega, by omega, by omega, by omega, fun _ => by omega, fun _ => by omega, ?_⟩
  cases hc : cmd w with
  | none =>
    have hv : asksV w = -1 := by simp only [asksV, hc]
    have e := pres_none hl e0 hc
    rw [hv]
    ((first | with_reducible refine holds_of_ex X 400 _ _ _ ?_ | skip); simp only [push_cast, reduceCtorEq, Nat.reduceAdd, Nat.reduceMul, Nat.reduceSub, Nat.reduceBEq, Nat.reduceGT, Nat.reduceLT, Int.toNat_zero, Nat.reduceLeDiff, Int.reduceEq, Int.reduceLT, Int.reduceLE, hP, hΓ, hL, hfin, Int.reduceNeg])
    rw [refV, e]
    refine IntoF.nilT 0 1 1 _ rfl rfl ?_
    (try simp only [List.map_append, List.append_assoc, List.map_cons, List.map_nil, List.length_append, List.length_cons, List.length_nil, byteAV, Nat.add_assoc, Nat.reduceAdd, Nat.zero_add, Nat.add_zero, List.append_nil, List.cons_append, List.nil_append])
    (refine IntoF.frz 0 (by simp only [push_cast, reduceCtorEq, Nat.reduceAdd, Nat.reduceMul, Nat.reduceSub, Nat.reduceBEq, Nat.reduceGT, Nat.reduceLT, Int.toNat_zero, Nat.reduceLeDiff, Int.reduceEq, Int.reduceLT, Int.reduceLE]; first | done | decide | omega) (by simp only [frzOk', frzOk, isMap, or_true, true_or, push_cast, reduceCtorEq, Nat.reduceAdd, Nat.reduceMul, Nat.reduceSub, Nat.reduceBEq, Nat.reduceGT, Nat.reduceLT, Int.toNat_zero, Nat.reduceLeDiff, Int.reduceEq, Int.reduceLT, Int.reduceLE]) ?_; simp only [push_cast, reduceCtorEq, Nat.reduceAdd, Nat.reduceMul, Nat.reduceSub, Nat.reduceBEq, Nat.reduceGT, Nat.reduceLT, Int.toNat_zero, Nat.reduceLeDiff, Int.reduceEq, Int.reduceLT, Int.reduceLE])
    exact Into.keep0A
  | some kt =>
    obtain ⟨k, t⟩ := kt
    have hv : asksV w = k := by simp only [asksV, hc]
    have hk2 := cmd_flag hc
    obtain ⟨⟨hk2, ht1, htk⟩, hfl⟩ := hk2
    have hn : decide ((k : Int) < 0) = false := by rw [decide_eq_false_iff_not]; omega
    rw [hv]
    ((first | with_reducible refine holds_of_ex X 400 _ _ _ ?_ | skip); simp only [push_cast, reduceCtorEq, Nat.reduceAdd, Nat.reduceMul, Nat.reduceSub, Nat.reduceBEq, Nat.reduceGT, Nat.reduceLT, Int.toNat_zero, Nat.reduceLeDiff, Int.reduceEq, Int.reduceLT, Int.reduceLE, hP, hΓ, hL, hfin, hn, hu, hfl])
    refine exB_split (fun h => ?_) (fun h => ?_)
    · have e := pres_bad hl e0 hc (by simp at h; omega)
      ((first | with_reducible refine holds_of_ex X 400 _ _ _ ?_ | skip); simp only [push_cast, reduceCtorEq, Nat.reduceAdd, Nat.reduceMul, Nat.reduceSub, Nat.reduceBEq, Nat.reduceGT, Nat.reduceLT, Int.toNat_zero, Nat.reduceLeDiff, Int.reduceEq, Int.reduceLT, Int.reduceLE, hP, hΓ, hL, hfin, h])
      rw [refV, e]
      refine IntoF.nilT 0 1 1 _ rfl rfl ?_
      (try simp only [List.map_append, List.append_assoc, List.map_cons, List.map_nil, List.length_append, List.length_cons, List.length_nil, byteAV, Nat.add_assoc, Nat.reduceAdd, Nat.zero_add, Nat.add_zero, List.append_nil, List.cons_append, List.nil_append])
      (refine IntoF.frz 0 (by simp only [push_cast, reduceCtorEq, Nat.reduceAdd, Nat.reduceMul, Nat.reduceSub, Nat.reduceBEq, Nat.reduceGT, Nat.reduceLT, Int.toNat_zero, Nat.reduceLeDiff, Int.reduceEq, Int.reduceLT, Int.reduceLE]; first | done | decide | omega) (by simp only [frzOk', frzOk, isMap, or_true, true_or, push_cast, reduceCtorEq, Nat.reduceAdd, Nat.reduceMul, Nat.reduceSub, Nat.reduceBEq, Nat.reduceGT, Nat.reduceLT, Int.toNat_zero, Nat.reduceLeDiff, Int.reduceEq, Int.reduceLT, Int.reduceLE]) ?_; simp only [push_cast, reduceCtorEq, Nat.reduceAdd, Nat.reduceMul, Nat.reduceSub, Nat.reduceBEq, Nat.reduceGT, Nat.reduceLT, Int.toNat_zero, Nat.reduceLeDiff, Int.reduceEq, Int.reduceLT, Int.reduceLE])
      exact Into.keep0A
    rename_i h0 h1
    have hg : ¬(r.length < k ∨ (k < r.length ∧ t = 0)) := by simp at h; omega
    have e := pres_good hl e0 hc hg
    ((first | with_reducible refine holds_of_ex X 400 _ _ _ ?_ | skip); simp only [push_cast, reduceCtorEq, Nat.reduceAdd, Nat.reduceMul, Nat.reduceSub, Nat.reduceBEq, Nat.reduceGT, Nat.reduceLT, Int.toNat_zero, Nat.reduceLeDiff, Int.reduceEq, Int.reduceLT, Int.reduceLE, hP, hΓ, hL, hfin])
    refine exB_split (fun h => ?_) (fun h => ?_)
    · have ht : t = 1 := of_decide_eq_true h
      obtain rfl := htk ht
      ((first | with_reducible refine holds_of_ex X 400 _ _ _ ?_ | skip); simp only [push_cast, reduceCtorEq, Nat.reduceAdd, Nat.reduceMul, Nat.reduceSub, Nat.reduceBEq, Nat.reduceGT, Nat.reduceLT, Int.toNat_zero, Nat.reduceLeDiff, Int.reduceEq, Int.reduceLT, Int.reduceLE, hP, hΓ, hL, hfin])
      (refine Holds.drawnQ (by rw [hP]; kernel_rfl) (by kernel_rfl) ?_; simp only [push_cast, reduceCtorEq, Nat.reduceAdd, Nat.reduceMul, Nat.reduceSub, Nat.reduceBEq, Nat.reduceGT, Nat.reduceLT, Int.toNat_zero, Nat.reduceLeDiff, Int.reduceEq, Int.reduceLT, Int.reduceLE, hP, hΓ, hL, hfin, h31, List.take_length])
      refine ⟨by omega, by omega, ⟨by omega, by omega⟩, by omega, ?_⟩
      rw [refV, e]
      obtain ⟨v, r, rfl⟩ : ∃ v r', r = v :: r' := by
        cases r with
        | nil => simp at hg
        | cons v r => exact ⟨v, r, rfl⟩
      exact Into.one (by simp) (by simp [scp, scpL])
    · have hk : k = r.length := by have := of_decide_eq_false h; omega
      ((first | with_reducible refine holds_of_ex X 400 _ _ _ ?_ | skip); simp only [push_cast, reduceCtorEq, Nat.reduceAdd, Nat.reduceMul, Nat.reduceSub, Nat.reduceBEq, Nat.reduceGT, Nat.reduceLT, Int.toNat_zero, Nat.reduceLeDiff, Int.reduceEq, Int.reduceLT, Int.reduceLE, hP, hΓ, hL, hfin])
      (refine Holds.drawnQ (by rw [hP]; kernel_rfl) (by kernel_rfl) ?_; simp only [push_cast, reduceCtorEq, Nat.reduceAdd, Nat.reduceMul, Nat.reduceSub, Nat.reduceBEq, Nat.reduceGT, Nat.reduceLT, Int.toNat_zero, Nat.reduceLeDiff, Int.reduceEq, Int.reduceLT, Int.reduceLE, hP, hΓ, hL, hfin, h31, List.take_length])
      refine ⟨by omega, by omega, ⟨by omega, by omega⟩, ?_⟩
      rw [refV, e]
      subst hk
      have ht := text_end (l := l) (n := r.length + 1) (by rw [e0]; simp)
      rw [ht]
      refine Into.one ?_ ?_
      · simp [take_strs]
      · simp only [push_cast]
def refS : FSpec := lift0 parseP (fun xs => match xs with | [.str l] => refV l | _ => .any) (fun _ => []) true
attribute [push_cast] refS refV
theorem con14 {Γ : Env} (h : EnvOk Tryz.prog Γ) (h29 : Γ 67 = some wordsS) (h30 : Γ 68 = some asksS) (h31 : Γ 69 = some textS) : Con Tryz.prog 31 refS := by
  refine Con.of_body h (fn := Tryz.f31) (by kernel_rfl) rfl (by kernel_rfl) (fun _ _ => rfl) fun xs hx => ?_
  unfold parseP at hx
  split at hx
  · exact parse_ref Γ h29 h30 h31 _
  · exact hx.elim
end Go.Proofs.YtenopfmafecffaaGreatDoor.lineDone
