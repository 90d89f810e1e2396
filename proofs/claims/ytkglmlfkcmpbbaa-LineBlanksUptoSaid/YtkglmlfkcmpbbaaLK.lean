/- Of lines: LineBlanks. Whatever the text and the number. -/
import Derived.Test.YtkglmlfkcmpbbaaLL
import Derived.Test.YtkglmlfkcmpbbaaUp
namespace Go.Lines
open Go.Proofs.Ytkglmlfkcmpbbaa.lineDone
theorem bls_ws {p : List UInt8} (hp : ∀ c ∈ p, bl c = true) (r : List UInt8) : ws (p ++ r) = ws r ∧ wFrom (p ++ r) = p.length + wFrom r ∧ wTo (p ++ r) = p.length + wTo r := by
  induction p with
  | nil => simp
  | cons c p ih =>
    obtain ⟨h1, h2, h3⟩ := ih fun x hx => hp x (by simp [hx])
    have hc := hp c (by simp)
    rw [List.cons_append, ws_bl hc, wFrom_cons_bl hc, wTo_cons_bl hc, h1, h2, h3, List.length_cons]
    exact ⟨rfl, by omega, by omega⟩
theorem split_bl : ∀ l : List UInt8, ∃ a r, l = a ++ r ∧ (∀ c ∈ a, bl c = true) ∧ (r = [] ∨ ∃ c r', r = c :: r' ∧ bl c = false)
  | [] => ⟨[], [], rfl, by simp, .inl rfl⟩
  | c :: l => by
    cases hc : bl c
    · exact ⟨[], c :: l, rfl, by simp, .inr ⟨c, l, rfl, hc⟩⟩
    · obtain ⟨a, r, rfl, h1, h2⟩ := split_bl l
      exact ⟨c :: a, r, rfl, fun x hx => (List.mem_cons.1 hx).elim (fun e => e ▸ hc) (h1 x), h2⟩
theorem split_nb : ∀ l : List UInt8, ∃ a r, l = a ++ r ∧ (∀ c ∈ a, bl c = false) ∧ (r = [] ∨ ∃ c r', r = c :: r' ∧ bl c = true)
  | [] => ⟨[], [], rfl, by simp, .inl rfl⟩
  | c :: l => by
    cases hc : bl c
    · obtain ⟨a, r, rfl, h1, h2⟩ := split_nb l
      exact ⟨c :: a, r, rfl, fun x hx => (List.mem_cons.1 hx).elim (fun e => e ▸ hc) (h1 x), h2⟩
    · exact ⟨[], c :: l, rfl, by simp, .inr ⟨c, l, rfl, hc⟩⟩
theorem parts {l : List UInt8} (h : wFrom l ≠ wTo l) : ∃ a w b, l = a ++ (w ++ b) ∧ (∀ c ∈ a, bl c = true) ∧ w ≠ [] ∧ (∀ c ∈ w, bl c = false) ∧ (b = [] ∨ ∃ c r, b = c :: r ∧ bl c = true) ∧ wTo l = a.length + w.length := by
  obtain ⟨a, r, rfl, h1, h2⟩ := split_bl l
  obtain ⟨w, b, rfl, h3, h4⟩ := split_nb r
  obtain ⟨e1, e2, e3⟩ := bls_ws h1 (w ++ b)
  have hw : w ≠ [] := by
    rintro rfl
    rcases h2 with h2 | ⟨c, r', h2, hc⟩
    · rw [e2, e3, h2] at h; exact h rfl
    · rcases h4 with h4 | ⟨d, r2, h4, hd⟩
      · rw [h4] at h2; cases h2
      · rw [h4] at h2; simp at h2; rw [h2.1, hc] at hd; cases hd
  exact ⟨a, w, b, rfl, h1, hw, h3, h4, by rw [e3, (word_at hw h3 h4).2]⟩
/-- a line with more blanks ahead, and behind its first word -/
theorem pres_blanks {p l : List UInt8} (hp : ∀ c ∈ p, bl c = true) (hl : l.length + 2 * p.length ≤ 200) :
    pres (p ++ l.take (wTo l) ++ (if wTo l < l.length then p else []) ++ l.drop (wTo l)) = pres l := by
  have hlen : (p ++ l.take (wTo l) ++ (if wTo l < l.length then p else []) ++ l.drop (wTo l)).length ≤ 200 := by
    have := wTo_le l
    split <;> simp <;> omega
  by_cases he : wFrom l = wTo l
  · have h1 := no_word he
    have h2 : ws l = [] := by rw [ws, if_pos he]
    rw [if_neg (by omega), ← he, h1, List.take_length, List.drop_length, List.append_nil, List.append_nil] at *
    rw [pres_nil (by omega) h2, pres_nil (by simp; omega) (by rw [(bls_ws hp l).1, h2])]
  · obtain ⟨a, w, b, e, h1, h2, h3, h4, h5⟩ := parts he
    have t1 : l.take (wTo l) = a ++ w := by rw [h5, e, ← List.append_assoc]; exact List.take_left' (by simp)
    have t2 : l.drop (wTo l) = b := by rw [h5, e, ← List.append_assoc]; exact List.drop_left' (by simp)
    rw [t1, t2] at hlen
    rw [t1, t2]
    have hqe : ¬ wTo l < l.length → b = [] := by
      intro h; rw [← t2]; exact List.drop_eq_nil_of_le (by omega)
    generalize hq : (if wTo l < l.length then p else []) = q at hlen ⊢
    have hqb : ∀ c ∈ q, bl c = true := by
      subst hq; split
      · exact hp
      · simp
    have hqs : q ++ b = [] ∨ ∃ c r, q ++ b = c :: r ∧ bl c = true := by
      cases q with
      | nil => simpa using h4
      | cons c q =>
        right; exact ⟨c, q ++ b, rfl, hqb c (by simp)⟩
    have em : p ++ (a ++ w) ++ q ++ b = (p ++ a) ++ (w ++ (q ++ b)) := by simp
    have hpa : ∀ c ∈ p ++ a, bl c = true := fun c hc => (List.mem_append.1 hc).elim (hp c) (h1 c)
    obtain ⟨m1, m2, m3⟩ := bls_ws hpa (w ++ (q ++ b))
    obtain ⟨b1, b2, b3⟩ := bls_ws hqb b
    obtain ⟨l1, l2, l3⟩ := bls_ws h1 (w ++ b)
    have wm : ws (p ++ (a ++ w) ++ q ++ b) = w :: ws b := by rw [em, m1, ws_word h2 h3 hqs, b1]
    have wl : ws l = w :: ws b := by rw [e, l1, ws_word h2 h3 h4]
    have am : aft 1 (p ++ (a ++ w) ++ q ++ b) = q ++ b := by
      rw [aft, aft, em, m3, (word_at h2 h3 hqs).2, ← List.append_assoc (p ++ a)]
      exact List.drop_left' (by simp; omega)
    have al : aft 1 l = b := t2
    have tx : ∀ k, text (k + 1) (p ++ (a ++ w) ++ q ++ b) = text (k + 1) l := by
      intro k
      cases k with
      | zero =>
        rw [text, text, am, al, b2]
        rw [← List.drop_drop, List.drop_left]
      | succ k =>
        have : ∀ k, aft (k + 2) (p ++ (a ++ w) ++ q ++ b) = aft (k + 2) l := by
          intro k
          induction k with
          | zero =>
            rw [aft, aft.eq_def 2 l]
            simp only
            rw [am, al, b3, ← List.drop_drop, List.drop_left]
          | succ k ih => rw [aft, ih]; rfl
        rw [text, this k]; rfl
    simp only [pres, wm, wl, tx]
    rw [if_neg (by omega), if_neg (by omega)]
end Go.Lines
namespace Go.Proofs.Ytkglmlfkcmpbbaa.lineDone
open Go Go.Eng Go.Proofs Go.Lines
set_option linter.unusedVariables false
set_option linter.unusedSimpArgs false
theorem set_byte (b : List UInt8) (i : Nat) (c : UInt8) (h : i < b.length) : List.take i (b.map byteAV) ++ .int .u8 c.toNat :: List.drop (i + 1) (b.map byteAV) = (b.set i c).map byteAV := by
  rw [List.set_eq_take_append_cons_drop, if_pos h]
  simp [byteAV]
theorem rem33 (i : Nat) : IntKind.u8.wrap ((i : Int).tmod 33) = ((UInt8.ofNat (i % 33)).toNat : Int) := by
  have h : i % 33 < 33 := Nat.mod_lt _ (by omega)
  show IntKind.u8.wrap ((i % 33 : Nat) : Int) = _
  generalize i % 33 = j at h
  simp only [IntKind.wrap, IntKind.bits, IntKind.signed]
  simp
set_option maxRecDepth 100000 in
theorem blanks_body (Γ : Env) (h12 : Γ 12 = some shS) (h13 : Γ 13 = some parseS) (h15 : Γ 15 = some sameS) (l : List UInt8) (n : Int) (hn : -9223372036854775808 ≤ n ∧ n ≤ 9223372036854775807) (hl : l.length ≤ 1048576) : BodyOk Try.prog Γ Try.f6 [.str l, .int .i64 n] [] (.bool true) [] := by
  by_cases hlo : n < 0
  · have q0 : decide (n < 0) = true := decide_eq_true hlo
    (intro X hP hΓ hL hfin; refine ⟨_, rfl, ?_⟩; rw [show Try.f6.ntmps = 124 from rfl]; rw [show Try.f6.results.toList = [.tmp 4] from rfl] at hfin; apply holds_of_ex X 400; simp only [push_cast, reduceCtorEq, Nat.reduceAdd, Nat.reduceMul, Nat.reduceSub, Nat.reduceBEq, Nat.reduceGT, Nat.reduceLT, Int.toNat_zero, Nat.reduceLeDiff, Int.reduceEq, Int.reduceLT, Int.reduceLE, hP, hΓ, hL, hfin, h12, q0, shS])
    exact Into.keep0 (leF_refl _) rfl rfl (Nat.le_refl _)
  by_cases hhi : 50 < n
  · have q0 : decide (n < 0) = false := by rw [decide_eq_false_iff_not]; omega
    have q1 : decide (50 < n) = true := decide_eq_true hhi
    (intro X hP hΓ hL hfin; refine ⟨_, rfl, ?_⟩; rw [show Try.f6.ntmps = 124 from rfl]; rw [show Try.f6.results.toList = [.tmp 4] from rfl] at hfin; apply holds_of_ex X 400; simp only [push_cast, reduceCtorEq, Nat.reduceAdd, Nat.reduceMul, Nat.reduceSub, Nat.reduceBEq, Nat.reduceGT, Nat.reduceLT, Int.toNat_zero, Nat.reduceLeDiff, Int.reduceEq, Int.reduceLT, Int.reduceLE, hP, hΓ, hL, hfin, h12, q0, q1, shS])
    exact Into.keep0 (leF_refl _) rfl rfl (Nat.le_refl _)
  obtain ⟨n, rfl⟩ := Int.eq_ofNat_of_zero_le (show 0 ≤ n by omega)
  have q0 : decide ((n : Int) < 0) = false := by rw [decide_eq_false_iff_not]; omega
  have q1 : decide (50 < (n : Int)) = false := by rw [decide_eq_false_iff_not]; omega
  have q2 : IntKind.i64.wrap (2 * (n : Int)) = 2 * (n : Int) := wrap_i64 _ (by omega)
  have q3 : IntKind.i64.wrap ((l.length : Int) + 2 * (n : Int)) = (l.length : Int) + 2 * (n : Int) := wrap_i64 _ (by omega)
  (intro X hP hΓ hL hfin; refine ⟨_, rfl, ?_⟩; rw [show Try.f6.ntmps = 124 from rfl]; rw [show Try.f6.results.toList = [.tmp 4] from rfl] at hfin; apply holds_of_ex X 400; simp only [push_cast, reduceCtorEq, Nat.reduceAdd, Nat.reduceMul, Nat.reduceSub, Nat.reduceBEq, Nat.reduceGT, Nat.reduceLT, Int.toNat_zero, Nat.reduceLeDiff, Int.reduceEq, Int.reduceLT, Int.reduceLE, hP, hΓ, hL, hfin, h12, q0, q1, q2, q3, shS])
  refine exB_split (fun h => ?_) (fun h => ?_)
  · ((first | refine holds_of_ex X 400 _ _ _ ?_ | skip); simp only [push_cast, reduceCtorEq, Nat.reduceAdd, Nat.reduceMul, Nat.reduceSub, Nat.reduceBEq, Nat.reduceGT, Nat.reduceLT, Int.toNat_zero, Nat.reduceLeDiff, Int.reduceEq, Int.reduceLT, Int.reduceLE, hP, hΓ, hL, hfin])
    exact Into.keep0 (leF_refl _) rfl rfl (Nat.le_refl _)
  have hl : l.length + 2 * n ≤ 200 := by have := of_decide_eq_false h; omega
  ((first | refine holds_of_ex X 400 _ _ _ ?_ | skip); simp only [push_cast, reduceCtorEq, Nat.reduceAdd, Nat.reduceMul, Nat.reduceSub, Nat.reduceBEq, Nat.reduceGT, Nat.reduceLT, Int.toNat_zero, Nat.reduceLeDiff, Int.reduceEq, Int.reduceLT, Int.reduceLE, hP, hΓ, hL, hfin])
  have hz : (List.replicate n [AV.int .u8 0]).flatten = (List.replicate n (0 : UInt8)).map byteAV := by simp [byteAV]
  rw [hz]
  refine ⟨⟨by omega, by omega, by omega⟩, ?_⟩
  refine Holds.loop (ι := { p : List UInt8 × Nat // p.1.length = n ∧ (∀ c ∈ p.1, bl c = true) ∧ p.2 ≤ n }) (fun i => ([.str l, .int .i64 n, .any, .any, .any, .bool true, .msl 0 0 0 n, .int .i64 i.1.2, .any, .any, .any, .any, .any, .any, .any, .any, .any, .any, .any, .any, .any, .any, .any, .any, .any, .any, .any, .any, .any, .any, .any, .any, .any, .any, .any, .any, .any, .any, .any, .any, .any, .any, .any, .any, .any, .any, .any, .any, .any, .any, .any, .any, .any, .any, .any, .any, .any, .any, .any, .any, .any, .any, .any, .any, .any, .any, .any, .any, .any, .any, .any, .any, .any, .any, .any, .any, .any, .any, .any, .any, .any, .any, .any, .any, .any, .any, .any, .any, .any, .any, .any, .any, .any, .any, .any, .any, .any, .any, .any, .any, .any, .any, .any, .any, .any, .any, .any, .any, .any, .any, .any, .any, .any, .any, .any, .any, .any, .any, .any, .any, .any, .any, .any, .any], [.row (i.1.1.map byteAV) 1 0])) (fun i => n - i.1.2) ⟨(List.replicate n 0, 0), by simp, by simp [bl], Nat.zero_le _⟩ ?_ ?_
  · rw [hL]
    simp only [Int.natCast_zero]
    exact Into.same (by first | exact leF_refl _ | (simp only [leF, true_and, and_true, and_self]; done) | (simp [leF]; done)) (by simp only [List.all_cons, List.all_nil, push_cast, reduceCtorEq, Nat.reduceAdd, Nat.reduceMul, Nat.reduceSub, Nat.reduceBEq, Nat.reduceGT, Nat.reduceLT, Int.toNat_zero, Nat.reduceLeDiff, Int.reduceEq, Int.reduceLT, Int.reduceLE]) (by simp only [List.all_cons, List.all_nil, push_cast, reduceCtorEq, Nat.reduceAdd, Nat.reduceMul, Nat.reduceSub, Nat.reduceBEq, Nat.reduceGT, Nat.reduceLT, Int.toNat_zero, Nat.reduceLeDiff, Int.reduceEq, Int.reduceLT, Int.reduceLE]) (by first | decide | simp)
  rintro ⟨⟨p, i⟩, hp, hb, hi⟩
  simp only at hp hb hi
  ((first | refine holds_of_ex X 400 _ _ _ ?_ | skip); simp only [push_cast, reduceCtorEq, Nat.reduceAdd, Nat.reduceMul, Nat.reduceSub, Nat.reduceBEq, Nat.reduceGT, Nat.reduceLT, Int.toNat_zero, Nat.reduceLeDiff, Int.reduceEq, Int.reduceLT, Int.reduceLE, hP, hΓ, hL, hfin])
  refine exB_split (fun h => ?_) (fun h => ?_)
  · have hi' : i < n := by have := of_decide_eq_true h; omega
    have hu : IntKind.i64.wrap ((i : Int) + 1) = (i : Int) + 1 := wrap_i64 _ (by omega)
    ((first | refine holds_of_ex X 400 _ _ _ ?_ | skip); simp only [push_cast, reduceCtorEq, Nat.reduceAdd, Nat.reduceMul, Nat.reduceSub, Nat.reduceBEq, Nat.reduceGT, Nat.reduceLT, Int.toNat_zero, Nat.reduceLeDiff, Int.reduceEq, Int.reduceLT, Int.reduceLE, hP, hΓ, hL, hfin, hu])
    rw [rem33, List.append_assoc, List.singleton_append, set_byte p i _ (by omega)]
    refine ⟨⟨by omega, by omega⟩, by omega, ⟨(p.set i (UInt8.ofNat (i % 33)), i + 1), by simpa using hp, fun c hc => ?_, by simp only; omega⟩, by simp only; omega, by exact Into.same (by first | exact leF_refl _ | (simp only [leF, true_and, and_true, and_self]; done) | (simp [leF]; done)) (by simp only [List.all_cons, List.all_nil, push_cast, reduceCtorEq, Nat.reduceAdd, Nat.reduceMul, Nat.reduceSub, Nat.reduceBEq, Nat.reduceGT, Nat.reduceLT, Int.toNat_zero, Nat.reduceLeDiff, Int.reduceEq, Int.reduceLT, Int.reduceLE]) (by simp only [List.all_cons, List.all_nil, push_cast, reduceCtorEq, Nat.reduceAdd, Nat.reduceMul, Nat.reduceSub, Nat.reduceBEq, Nat.reduceGT, Nat.reduceLT, Int.toNat_zero, Nat.reduceLeDiff, Int.reduceEq, Int.reduceLT, Int.reduceLE]) (by first | decide | simp)⟩
    rcases List.mem_or_eq_of_mem_set hc with hc | rfl
    · exact hb c hc
    · have : i % 33 < 33 := Nat.mod_lt _ (by omega)
      rw [bl_iff, UInt8.toNat_ofNat']; omega
  · ((first | refine holds_of_ex X 400 _ _ _ ?_ | skip); simp only [push_cast, reduceCtorEq, Nat.reduceAdd, Nat.reduceMul, Nat.reduceSub, Nat.reduceBEq, Nat.reduceGT, Nat.reduceLT, Int.toNat_zero, Nat.reduceLeDiff, Int.reduceEq, Int.reduceLT, Int.reduceLE, hP, hΓ, hL, hfin])
    refine Holds.loop (ι := { q : Nat // q ≤ l.length ∧ ∀ i, 0 ≤ i → i < q → bl (l.getD i 0) = true }) (fun q => ([.str l, .int .i64 n, .any, .any, .any, .bool true, .msl 0 0 0 n, .any, .int .i64 q.1, .any, .any, .any, .any, .any, .any, .any, .any, .any, .any, .any, .any, .any, .any, .any, .any, .any, .any, .any, .any, .any, .any, .any, .any, .any, .any, .any, .any, .any, .any, .any, .any, .any, .any, .any, .any, .any, .any, .any, .any, .any, .any, .any, .any, .any, .any, .any, .any, .any, .any, .any, .any, .any, .any, .any, .any, .any, .any, .any, .any, .any, .any, .any, .any, .any, .any, .any, .any, .any, .any, .any, .any, .any, .any, .any, .any, .any, .any, .any, .any, .any, .any, .any, .any, .any, .any, .any, .any, .any, .any, .any, .any, .any, .any, .any, .any, .any, .any, .any, .any, .any, .any, .any, .any, .any, .any, .any, .any, .any, .any, .any, .any, .any, .any, .any], [.row (p.map byteAV) 1 0])) (fun q => l.length - q.1) ⟨0, by omega, by intro i h1 h2; omega⟩ ?_ ?_
    · rw [hL]
      simp only [Int.natCast_zero]
      exact Into.same (by first | exact leF_refl _ | (simp only [leF, true_and, and_true, and_self]; done) | (simp [leF]; done)) (by simp only [List.all_cons, List.all_nil, push_cast, reduceCtorEq, Nat.reduceAdd, Nat.reduceMul, Nat.reduceSub, Nat.reduceBEq, Nat.reduceGT, Nat.reduceLT, Int.toNat_zero, Nat.reduceLeDiff, Int.reduceEq, Int.reduceLT, Int.reduceLE]) (by simp only [List.all_cons, List.all_nil, push_cast, reduceCtorEq, Nat.reduceAdd, Nat.reduceMul, Nat.reduceSub, Nat.reduceBEq, Nat.reduceGT, Nat.reduceLT, Int.toNat_zero, Nat.reduceLeDiff, Int.reduceEq, Int.reduceLT, Int.reduceLE]) (by first | decide | simp)
    rintro ⟨q, h2, h3⟩
    have hu : IntKind.i64.wrap ((q : Int) + 1) = (q : Int) + 1 := wrap_i64 _ (by omega)
    ((first | refine holds_of_ex X 400 _ _ _ ?_ | skip); simp only [push_cast, reduceCtorEq, Nat.reduceAdd, Nat.reduceMul, Nat.reduceSub, Nat.reduceBEq, Nat.reduceGT, Nat.reduceLT, Int.toNat_zero, Nat.reduceLeDiff, Int.reduceEq, Int.reduceLT, Int.reduceLE, hP, hΓ, hL, hfin, hu])
    refine ⟨fun h0 => by simp at h0; omega, exB_split (fun h => ?_) (fun h => ?_)⟩
    · rename_i _ h0
      have hb : q < l.length ∧ bl (l.getD q 0) = true := by
        rw [bl_iff]
        simp at h
        have : q < l.length := by omega
        exact ⟨this, by have := h.2; simp [List.getD] at this ⊢; omega⟩
      ((first | refine holds_of_ex X 400 _ _ _ ?_ | skip); simp only [push_cast, reduceCtorEq, Nat.reduceAdd, Nat.reduceMul, Nat.reduceSub, Nat.reduceBEq, Nat.reduceGT, Nat.reduceLT, Int.toNat_zero, Nat.reduceLeDiff, Int.reduceEq, Int.reduceLT, Int.reduceLE, hP, hΓ, hL, hfin, hu])
      refine ⟨⟨q + 1, by omega, fun i h4 h5 => ?_⟩, by simp only; omega, by exact Into.same (by first | exact leF_refl _ | (simp only [leF, true_and, and_true, and_self]; done) | (simp [leF]; done)) (by simp only [List.all_cons, List.all_nil, push_cast, reduceCtorEq, Nat.reduceAdd, Nat.reduceMul, Nat.reduceSub, Nat.reduceBEq, Nat.reduceGT, Nat.reduceLT, Int.toNat_zero, Nat.reduceLeDiff, Int.reduceEq, Int.reduceLT, Int.reduceLE]) (by simp only [List.all_cons, List.all_nil, push_cast, reduceCtorEq, Nat.reduceAdd, Nat.reduceMul, Nat.reduceSub, Nat.reduceBEq, Nat.reduceGT, Nat.reduceLT, Int.toNat_zero, Nat.reduceLeDiff, Int.reduceEq, Int.reduceLT, Int.reduceLE]) (by first | decide | simp)⟩
      by_cases hiq : i < q
      · exact h3 i h4 hiq
      · rw [show i = q by omega]; exact hb.2
    · rename_i _ h0
      have hbq : q = l.length ∨ bl (l.getD q 0) = false := by
        rw [nbl_iff]
        simp at h
        by_cases hq : q < l.length
        · right; have := h (by omega); simp [List.getD] at this ⊢; omega
        · left; omega
      ((first | refine holds_of_ex X 400 _ _ _ ?_ | skip); simp only [push_cast, reduceCtorEq, Nat.reduceAdd, Nat.reduceMul, Nat.reduceSub, Nat.reduceBEq, Nat.reduceGT, Nat.reduceLT, Int.toNat_zero, Nat.reduceLeDiff, Int.reduceEq, Int.reduceLT, Int.reduceLE, hP, hΓ, hL, hfin])
      refine Holds.loop (ι := { t : Nat // q ≤ t ∧ t ≤ l.length ∧ ∀ i, q ≤ i → i < t → bl (l.getD i 0) = false }) (fun q => ([.str l, .int .i64 n, .any, .any, .any, .bool true, .msl 0 0 0 n, .any, .int .i64 q.1, .any, .any, .any, .any, .any, .any, .any, .any, .any, .any, .any, .any, .any, .any, .any, .any, .any, .any, .any, .any, .any, .any, .any, .any, .any, .any, .any, .any, .any, .any, .any, .any, .any, .any, .any, .any, .any, .any, .any, .any, .any, .any, .any, .any, .any, .any, .any, .any, .any, .any, .any, .any, .any, .any, .any, .any, .any, .any, .any, .any, .any, .any, .any, .any, .any, .any, .any, .any, .any, .any, .any, .any, .any, .any, .any, .any, .any, .any, .any, .any, .any, .any, .any, .any, .any, .any, .any, .any, .any, .any, .any, .any, .any, .any, .any, .any, .any, .any, .any, .any, .any, .any, .any, .any, .any, .any, .any, .any, .any, .any, .any, .any, .any, .any, .any], [.row (p.map byteAV) 1 0])) (fun q => l.length - q.1) ⟨q, Nat.le_refl _, h2, by intro i h1 h2; omega⟩ ?_ ?_
      · rw [hL]
        exact Into.same (by first | exact leF_refl _ | (simp only [leF, true_and, and_true, and_self]; done) | (simp [leF]; done)) (by simp only [List.all_cons, List.all_nil, push_cast, reduceCtorEq, Nat.reduceAdd, Nat.reduceMul, Nat.reduceSub, Nat.reduceBEq, Nat.reduceGT, Nat.reduceLT, Int.toNat_zero, Nat.reduceLeDiff, Int.reduceEq, Int.reduceLT, Int.reduceLE]) (by simp only [List.all_cons, List.all_nil, push_cast, reduceCtorEq, Nat.reduceAdd, Nat.reduceMul, Nat.reduceSub, Nat.reduceBEq, Nat.reduceGT, Nat.reduceLT, Int.toNat_zero, Nat.reduceLeDiff, Int.reduceEq, Int.reduceLT, Int.reduceLE]) (by first | decide | simp)
      rintro ⟨t, g1, g2, g3⟩
      have hu : IntKind.i64.wrap ((t : Int) + 1) = (t : Int) + 1 := wrap_i64 _ (by omega)
      ((first | refine holds_of_ex X 400 _ _ _ ?_ | skip); simp only [push_cast, reduceCtorEq, Nat.reduceAdd, Nat.reduceMul, Nat.reduceSub, Nat.reduceBEq, Nat.reduceGT, Nat.reduceLT, Int.toNat_zero, Nat.reduceLeDiff, Int.reduceEq, Int.reduceLT, Int.reduceLE, hP, hΓ, hL, hfin, hu])
      refine ⟨fun h0 => by simp at h0; omega, exB_split (fun h => ?_) (fun h => ?_)⟩
      · rename_i _ _ h0
        have hb : t < l.length ∧ bl (l.getD t 0) = false := by
          rw [nbl_iff]
          simp at h
          have : t < l.length := by omega
          exact ⟨this, by have := h.2; simp [List.getD] at this ⊢; omega⟩
        ((first | refine holds_of_ex X 400 _ _ _ ?_ | skip); simp only [push_cast, reduceCtorEq, Nat.reduceAdd, Nat.reduceMul, Nat.reduceSub, Nat.reduceBEq, Nat.reduceGT, Nat.reduceLT, Int.toNat_zero, Nat.reduceLeDiff, Int.reduceEq, Int.reduceLT, Int.reduceLE, hP, hΓ, hL, hfin, hu])
        refine ⟨⟨t + 1, by omega, by omega, fun i h4 h5 => ?_⟩, by simp only; omega, by exact Into.same (by first | exact leF_refl _ | (simp only [leF, true_and, and_true, and_self]; done) | (simp [leF]; done)) (by simp only [List.all_cons, List.all_nil, push_cast, reduceCtorEq, Nat.reduceAdd, Nat.reduceMul, Nat.reduceSub, Nat.reduceBEq, Nat.reduceGT, Nat.reduceLT, Int.toNat_zero, Nat.reduceLeDiff, Int.reduceEq, Int.reduceLT, Int.reduceLE]) (by simp only [List.all_cons, List.all_nil, push_cast, reduceCtorEq, Nat.reduceAdd, Nat.reduceMul, Nat.reduceSub, Nat.reduceBEq, Nat.reduceGT, Nat.reduceLT, Int.toNat_zero, Nat.reduceLeDiff, Int.reduceEq, Int.reduceLT, Int.reduceLE]) (by first | decide | simp)⟩
        by_cases hiq : i < t
        · exact g3 i h4 hiq
        · rw [show i = t by omega]; exact hb.2
      · rename_i _ _ h0
        have hb2 : t = l.length ∨ bl (l.getD t 0) = true := by
          rw [bl_iff]
          simp at h
          by_cases hq : t < l.length
          · right; have := h (by omega); simp [List.getD] at this ⊢; omega
          · left; omega
        have hw := wTo_at (Nat.zero_le q) g1 g2 h3 hbq g3 hb2
        rw [List.drop_zero, Nat.sub_zero] at hw
        subst hw
        ((first | refine holds_of_ex X 400 _ _ _ ?_ | skip); simp only [push_cast, reduceCtorEq, Nat.reduceAdd, Nat.reduceMul, Nat.reduceSub, Nat.reduceBEq, Nat.reduceGT, Nat.reduceLT, Int.toNat_zero, Nat.reduceLeDiff, Int.reduceEq, Int.reduceLT, Int.reduceLE, hP, hΓ, hL, hfin])
        (refine Holds.drawnQ (by rw [hP]; kernel_rfl) (by kernel_rfl) ?_; simp only [push_cast, reduceCtorEq, Nat.reduceAdd, Nat.reduceMul, Nat.reduceSub, Nat.reduceBEq, Nat.reduceGT, Nat.reduceLT, Int.toNat_zero, Nat.reduceLeDiff, Int.reduceEq, Int.reduceLT, Int.reduceLE, hP, hΓ, hL, hfin])
        have tk : List.take n (p.map byteAV) = p.map byteAV := List.take_of_length_le (by simp; omega)
        rw [tk, unbytes_map]
        have e := pres_blanks (p := p) (l := l) hb (by omega)
        have hpl := pres_len l
        have hc : ∀ (L : Heap) (x : AV), x ∈ (pres l).2.1.map AV.str → lentC L keep0 (l2 L keep0) x := by
          intro L x hx
          obtain ⟨s, _, rfl⟩ := List.mem_map.1 hx
          simp only [push_cast]
        refine ⟨allBytes_map _, ⟨by omega, by omega⟩, by omega, ?_⟩
        refine exB_split (fun h => ?_) (fun h => ?_)
        · have hlt : wTo l < l.length := by have := of_decide_eq_true h; omega
          rw [if_pos hlt] at e
          ((first | refine holds_of_ex X 400 _ _ _ ?_ | skip); simp only [push_cast, reduceCtorEq, Nat.reduceAdd, Nat.reduceMul, Nat.reduceSub, Nat.reduceBEq, Nat.reduceGT, Nat.reduceLT, Int.toNat_zero, Nat.reduceLeDiff, Int.reduceEq, Int.reduceLT, Int.reduceLE, hP, hΓ, hL, hfin, h13, h15, tk, unbytes_map, allBytes_map, List.take_length, e])
          exact ⟨by omega, ⟨by omega, by omega, by omega⟩, by omega, ⟨hc _, ⟨_, _, rfl, rfl, rfl, rfl⟩, by omega⟩, Into.keep0 (leF_refl _) rfl rfl (Nat.le_refl _)⟩
        · have hlt : ¬ wTo l < l.length := by have := of_decide_eq_false h; omega
          rw [if_neg hlt, List.append_nil] at e
          ((first | refine holds_of_ex X 400 _ _ _ ?_ | skip); simp only [push_cast, reduceCtorEq, Nat.reduceAdd, Nat.reduceMul, Nat.reduceSub, Nat.reduceBEq, Nat.reduceGT, Nat.reduceLT, Int.toNat_zero, Nat.reduceLeDiff, Int.reduceEq, Int.reduceLT, Int.reduceLE, hP, hΓ, hL, hfin, h13, h15, tk, unbytes_map, allBytes_map, List.take_length, e])
          exact ⟨⟨by omega, by omega, by omega⟩, by omega, ⟨hc _, ⟨_, _, rfl, rfl, rfl, rfl⟩, by omega⟩, Into.keep0 (leF_refl _) rfl rfl (Nat.le_refl _)⟩
def shapes2 : List Sh := [.str, .int .i64]
theorem body2 (xs : List Dv) (h : Dv.hasL shapes2 xs) (hb : Dv.vbL xs ≤ 1048576) : ∃ L', BodyOk Try.prog e4 Try.f6 (xs.map Dv.av) [] (.bool true) L' := by
  obtain ⟨x0, xs, rfl, h0, h⟩ := hasL_cons h
  obtain ⟨x1, xs, rfl, h1, h⟩ := hasL_cons h
  obtain rfl := hasL_nil h
  obtain ⟨s, rfl, _⟩ := has_str h0
  obtain ⟨n, rfl, hn0, hn1⟩ := has_int h1
  simp only [Dv.vbL, Dv.vb] at hb
  refine ⟨[], ?_⟩
  simp only [List.map_cons, List.map_nil]
  exact blanks_body e4 rfl rfl rfl s n ⟨hn0, hn1⟩ (by omega)
set_option maxRecDepth 100000 in
theorem lifted2 (os : Os) (started : os.Started) (H : Type) (enc : TypeId × Value → H) (F : Stop.Interp) :
    ReturnsInHanded {} Try.checked os 6 .any ((Rows.OpenSpec.upto Rows.lineBlanksSpec).pre6 enc Try.prog Try.f6 Rows.lineBlanksUptoRow.domain false) (((Rows.OpenSpec.upto Rows.lineBlanksSpec).at F).post enc Try.prog Try.f6 false true false false) := by
  refine returnsInHanded_of_cond (C := Try.checked) (s := Rows.OpenSpec.upto Rows.lineBlanksSpec) (k := Rows.uptoSmall) rfl own started (by kernel_rfl) Try.func6
    (OpenSpec.witness (enc := enc) (C := Try.checked) (s := Rows.OpenSpec.upto Rows.lineBlanksSpec) (k := Rows.uptoSmall) rfl false ⟨#[], #[.string .empty, .int .i64 0], []⟩ 8 (by kernel_rfl) (by kernel_rfl) (by kernel_rfl)
      (x := ([.lit (.string []), .lit (.int .i64 0)], [], [])) (by kernel_rfl) rfl (by kernel_rfl)) ?_
  intro W base args ds gs before hval hW _ hk _
  have hds : gs = [] ∧ ∃ d1 d2, ds = [d1, d2] := by
    obtain ⟨p, q, hA, hV, _⟩ := hW
    obtain ⟨rfl, _⟩ := ChangeShapes.trodVars_none hV
    rw [Try.params6] at hA
    obtain ⟨_, _, d1, _, _, _, _, rfl, _, _, hA⟩ := ChangeShapes.trodAll_cons hA
    obtain ⟨_, _, d2, _, _, _, _, rfl, _, _, hA⟩ := ChangeShapes.trodAll_cons hA
    obtain ⟨_, rfl, _⟩ := ChangeShapes.trodAll_nil hA
    exact ⟨rfl, d1, d2, rfl⟩
  obtain ⟨rfl, d1, d2, rfl⟩ := hds
  exact law_contract e4_ok (f := 6) (fn := Try.f6) (by kernel_rfl) laidOut (s := Rows.lineBlanksSpec) rfl (ss := shapes2) (by kernel_rfl) (tb := 4) rfl Try.underlying4 (· ≤ 1048576) (fun a b h1 h2 => Nat.le_trans h1 h2) body2 rfl hval hW (Up.small (by simpa using hk))
theorem provedBlanks : Rows.LineBlanksUptoSaid :=
  OpenClaim.holds_of_cond 6 Try.f6 rfl rfl rfl rfl rfl rfl rfl ⟨rfl, rfl, rfl, rfl, rfl⟩ rfl rfl rfl rfl rfl (by kernel_rfl) Try.func6 (by kernel_rfl)
    (of_decide_eq_true (by kernel_rfl)) (by unfold Func.isWrapper; first | (rw [if_pos (by decide +kernel)]; kernel_rfl) | (rw [if_neg (by decide +kernel)]; exact ⟨rfl, rfl⟩))
    (fun os started H enc _ F => lifted2 os started H enc F)
end Go.Proofs.Ytkglmlfkcmpbbaa.lineDone
