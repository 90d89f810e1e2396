/- Of lines: LineBack. Its bulk is at most 1048576. -/
import Derived.Test.YtkglmlfkcmpbbaaDoorLS
import Derived.Test.YtkglmlfkcmpbbaaDoorUp
import Derived.Test.YtkglmlfkcmpbbaaDoorCards
import Derived.Test.YtkglmlfkcmpbbaaDoorTie
import Derived.ProofKit
import Derived.JoinedCond
import Derived.Deep.DeepHandedRow
import Derived.MakeChecks
import Derived.Lay
namespace Go.Lines
open Go.Proofs.YtkglmlfkcmpbbaaDoor.lineDone
theorem pres_put : pres [112, 117, 116, 32, 97, 32, 98, 32, 99] = ([112, 117, 116], [[97]], [98, 32, 99], 0) := by
  have a1 : ws [112, 117, 116, 32, 97, 32, 98, 32, 99] = [112, 117, 116] :: ws [32, 97, 32, 98, 32, 99] := by rw [ws, if_neg (by decide)]; rfl
  have a2 : ws [32, 97, 32, 98, 32, 99] = [97] :: ws [32, 98, 32, 99] := by rw [ws, if_neg (by decide)]; rfl
  have a3 : ws [32, 98, 32, 99] = [98] :: ws [32, 99] := by rw [ws, if_neg (by decide)]; rfl
  have a4 : ws [32, 99] = [99] :: ws [] := by rw [ws, if_neg (by decide)]; rfl
  rw [a4] at a3; rw [a3] at a2; rw [a2] at a1
  rw [pres_good (k := 1) (t := 1) (by decide) a1 (by decide) (by simp)]
  rfl
theorem bls_ws {p : List UInt8} (hp : ∀ c ∈ p, bl c = true) (r : List UInt8) : ws (p ++ r) = ws r ∧ wFrom (p ++ r) = p.length + wFrom r ∧ wTo (p ++ r) = p.length + wTo r := by
  induction p with
  | nil => simp
  | cons c p ih =>
    obtain ⟨h1, h2, h3⟩ := ih fun x hx => hp x (by simp [hx])
    have hc := hp c (by simp)
    rw [List.cons_append, ws_bl hc, wFrom_cons_bl hc, wTo_cons_bl hc, h1, h2, h3, List.length_cons]
    exact ⟨rfl, by omega, by omega⟩
theorem split_bl : ∀ l : List UInt8, ∃ a r, l = a ++ r ∧ (∀ c ∈ a, bl c = true) ∧ (r = [] ∨ ∃ c r', r = c :: r' ∧ bl c = false)
  | [] => ⟨[], [], rfl, by simp, .inl rfl⟩
  | c :: l => by
    cases hc : bl c
    · exact ⟨[], c :: l, rfl, by simp, .inr ⟨c, l, rfl, hc⟩⟩
    · obtain ⟨a, r, rfl, h1, h2⟩ := split_bl l
      exact ⟨c :: a, r, rfl, fun x hx => (List.mem_cons.1 hx).elim (fun e => e ▸ hc) (h1 x), h2⟩
theorem split_nb : ∀ l : List UInt8, ∃ a r, l = a ++ r ∧ (∀ c ∈ a, bl c = false) ∧ (r = [] ∨ ∃ c r', r = c :: r' ∧ bl c = true)
  | [] => ⟨[], [], rfl, by simp, .inl rfl⟩
  | c :: l => by
    cases hc : bl c
    · obtain ⟨a, r, rfl, h1, h2⟩ := split_nb l
      exact ⟨c :: a, r, rfl, fun x hx => (List.mem_cons.1 hx).elim (fun e => e ▸ hc) (h1 x), h2⟩
    · exact ⟨[], c :: l, rfl, by simp, .inr ⟨c, l, rfl, hc⟩⟩
theorem parts {l : List UInt8} (h : wFrom l ≠ wTo l) : ∃ a w b, l = a ++ (w ++ b) ∧ (∀ c ∈ a, bl c = true) ∧ w ≠ [] ∧ (∀ c ∈ w, bl c = false) ∧ (b = [] ∨ ∃ c r, b = c :: r ∧ bl c = true) ∧ wTo l = a.length + w.length := by
  obtain ⟨a, r, rfl, h1, h2⟩ := split_bl l
  obtain ⟨w, b, rfl, h3, h4⟩ := split_nb r
  obtain ⟨e1, e2, e3⟩ := bls_ws h1 (w ++ b)
  have hw : w ≠ [] := by
    rintro rfl
    rcases h2 with h2 | ⟨c, r', h2, hc⟩
    · rw [e2, e3, h2] at h; exact h rfl
    · rcases h4 with h4 | ⟨d, r2, h4, hd⟩
      · rw [h4] at h2; cases h2
      · rw [h4] at h2; simp at h2; rw [h2.1, hc] at hd; cases hd
  exact ⟨a, w, b, rfl, h1, hw, h3, h4, by rw [e3, (word_at hw h3 h4).2]⟩
/-- no blank in it, and something -/
def NW (w : List UInt8) : Prop := w ≠ [] ∧ ∀ c ∈ w, bl c = false
def sp (ss : List (List UInt8)) : List UInt8 := ss.flatMap fun w => [32, 32] ++ w
theorem sp_cons (w : List UInt8) (ss : List (List UInt8)) : sp (w :: ss) = [32, 32] ++ (w ++ sp ss) := by simp [sp]
theorem sp_head (ss : List (List UInt8)) : sp ss = [] ∨ ∃ c r, sp ss = c :: r ∧ bl c = true := by
  cases ss with
  | nil => exact .inl rfl
  | cons w ss => exact .inr ⟨32, 32 :: (w ++ sp ss), by simp [sp], by decide⟩
theorem ws_sp : ∀ ss : List (List UInt8), (∀ w ∈ ss, NW w) → ws (sp ss) = ss
  | [], _ => ws_nil
  | w :: ss, h => by
    have hw := h w (by simp)
    rw [sp_cons, (bls_ws (p := [32, 32]) (by decide) _).1, ws_word hw.1 hw.2 (sp_head ss), ws_sp ss fun x hx => h x (by simp [hx])]
theorem ws_all : ∀ (n : Nat) (l : List UInt8), l.length ≤ n → (∀ w ∈ ws l, NW w) ∧ (sp (ws l)).length ≤ 3 * l.length := by
  intro n
  induction n with
  | zero => intro l h; rw [show l = [] from List.eq_nil_of_length_eq_zero (by omega), ws_nil]; simp [sp]
  | succ n ih =>
    intro l h
    by_cases he : wFrom l = wTo l
    · rw [ws, if_pos he]; simp [sp]
    · obtain ⟨a, w, b, e, h1, h2, h3, h4, h5⟩ := parts he
      have hlw : 0 < w.length := List.length_pos_iff.2 h2
      have hl := congrArg List.length e
      simp only [List.length_append] at hl
      obtain ⟨i1, i2⟩ := ih b (by omega)
      have hw : ws l = w :: ws b := by rw [e, (bls_ws h1 _).1, ws_word h2 h3 h4]
      rw [hw, sp_cons]
      refine ⟨fun x hx => ?_, by simp; omega⟩
      rcases List.mem_cons.1 hx with rfl | hx
      · exact ⟨h2, h3⟩
      · exact i1 x hx
end Go.Lines
namespace Go.Proofs.YtkglmlfkcmpbbaaDoor.lineDone
open Go Go.Eng Go.Proofs Go.Lines Go.Lib
set_option linter.unusedVariables false
set_option linter.unusedSimpArgs false
theorem shown_body (Γ : Env) (h14 : Γ 14 = some parseS) : BodyOk Tryd.prog Γ Tryd.f5 [] [] (.bool true) [] := by
  (intro X hP hΓ hL hfin; refine ⟨_, rfl, ?_⟩; rw [show Tryd.f5.ntmps = 32 from rfl]; rw [show Tryd.f5.results.toList = [.tmp 0] from rfl] at hfin; apply holds_of_ex X 400; simp only [push_cast, reduceCtorEq, Nat.reduceAdd, Nat.reduceMul, Nat.reduceSub, Nat.reduceBEq, Nat.reduceGT, Nat.reduceLT, Int.toNat_zero, Nat.reduceLeDiff, Int.reduceEq, Int.reduceLT, Int.reduceLE, hP, hΓ, hL, hfin, h14, pres_put])
  exact ⟨by omega, Into.keep0 (leF_refl _) rfl rfl (Nat.le_refl _)⟩
def shS : FSpec := lift0 (fun xs => xs = []) (fun _ => .bool true) (fun _ => []) true
set_option maxRecDepth 100000 in
theorem back_body (Γ : Env) (h5 : Γ 5 = some shS) (h6 : Γ 6 = some linesS) (h7 : Γ 7 = some wordsS) (h8 : Γ 8 = some sameS) (l : List UInt8) (hl : l.length ≤ 1048576) : BodyOk Tryd.prog Γ Tryd.f3 [.str l] [] (.bool true) [] := by
  have hlb := lines_back l
  have hws := ws_all _ l (Nat.le_refl _)
  have hwl := ws_len _ l (Nat.le_refl _)
  have hwp := ws_sp _ hws.1
  (intro X hP hΓ hL hfin; refine ⟨_, rfl, ?_⟩; rw [show Tryd.f3.ntmps = 64 from rfl]; rw [show Tryd.f3.results.toList = [.tmp 2] from rfl] at hfin; apply holds_of_ex X 400; simp only [push_cast, reduceCtorEq, Nat.reduceAdd, Nat.reduceMul, Nat.reduceSub, Nat.reduceBEq, Nat.reduceGT, Nat.reduceLT, Int.toNat_zero, Nat.reduceLeDiff, Int.reduceEq, Int.reduceLT, Int.reduceLE, hP, hΓ, hL, hfin, h5, h6, shS])
  refine ⟨by omega, ?_⟩
  have hll : (lnF l).length ≤ l.length := by
    have h1 := lines_eq l
    have h2 := pieces_le 10 l
    rw [h1] at h2; simp at h2; omega
  refine Holds.loop (ι := { p : List UInt8 × Nat // p.1 ++ (((lnF l).drop p.2).flatMap fun w => w ++ [10]) ++ lrF l = l ∧ p.2 ≤ (lnF l).length }) (fun i => ([.str l, .any, .any, .bool true, .sl ((lnF l).map .str) (lnF l).length, .str (lrF l), .msl 0 0 0 i.1.1.length, .int .i64 i.1.2, .any, .any, .any, .any, .any, .any, .any, .any, .any, .any, .any, .any, .any, .any, .any, .any, .any, .any, .any, .any, .any, .any, .any, .any, .any, .any, .any, .any, .any, .any, .any, .any, .any, .any, .any, .any, .any, .any, .any, .any, .any, .any, .any, .any, .any, .any, .any, .any, .any, .any, .any, .any, .any, .any, .any, .any], [.row (i.1.1.map byteAV) 1 0])) (fun i => (lnF l).length - i.1.2) ⟨([], 0), hlb, Nat.zero_le _⟩ ?_ ?_
  · rw [hL]
    (refine IntoF.nil 6  1 rfl ?_; simp only [List.all_cons, List.all_nil, push_cast, reduceCtorEq, Nat.reduceAdd, Nat.reduceMul, Nat.reduceSub, Nat.reduceBEq, Nat.reduceGT, Nat.reduceLT, Int.toNat_zero, Nat.reduceLeDiff, Int.reduceEq, Int.reduceLT, Int.reduceLE])
    (try simp only [List.map_append, List.append_assoc, List.map_cons, List.map_nil, List.length_append, List.length_cons, List.length_nil, byteAV, Nat.add_assoc, Nat.reduceAdd, Nat.zero_add, Nat.add_zero, List.append_nil, List.cons_append, List.nil_append])
    try simp only [Int.natCast_zero]
    exact Into.same (by first | exact leF_refl _ | (simp only [leF, true_and, and_true, and_self]; done) | (simp [leF]; done)) (by simp only [List.all_cons, List.all_nil, push_cast, reduceCtorEq, Nat.reduceAdd, Nat.reduceMul, Nat.reduceSub, Nat.reduceBEq, Nat.reduceGT, Nat.reduceLT, Int.toNat_zero, Nat.reduceLeDiff, Int.reduceEq, Int.reduceLT, Int.reduceLE]) (by simp only [List.all_cons, List.all_nil, push_cast, reduceCtorEq, Nat.reduceAdd, Nat.reduceMul, Nat.reduceSub, Nat.reduceBEq, Nat.reduceGT, Nat.reduceLT, Int.toNat_zero, Nat.reduceLeDiff, Int.reduceEq, Int.reduceLT, Int.reduceLE]) (by first | decide | simp)
  rintro ⟨⟨b, i⟩, hb, hi⟩
  simp only at hb hi
  ((first | refine holds_of_ex X 400 _ _ _ ?_ | skip); simp only [push_cast, reduceCtorEq, Nat.reduceAdd, Nat.reduceMul, Nat.reduceSub, Nat.reduceBEq, Nat.reduceGT, Nat.reduceLT, Int.toNat_zero, Nat.reduceLeDiff, Int.reduceEq, Int.reduceLT, Int.reduceLE, hP, hΓ, hL, hfin])
  refine exB_split (fun h => ?_) (fun h => ?_)
  · have hi' : i < (lnF l).length := by have := of_decide_eq_true h; omega
    have hu : IntKind.i64.wrap ((i : Int) + 1) = (i : Int) + 1 := wrap_i64 _ (by omega)
    rw [List.drop_eq_getElem_cons hi', List.flatMap_cons] at hb
    have hlen := congrArg List.length hb
    simp only [List.length_append, List.length_cons, List.length_nil] at hlen
    have hdr : List.drop i ((lnF l).map AV.str) = .str (lnF l)[i] :: List.drop (i + 1) ((lnF l).map AV.str) := by rw [List.drop_eq_getElem_cons (by simpa using hi')]; simp
    ((first | refine holds_of_ex X 400 _ _ _ ?_ | skip); simp only [push_cast, reduceCtorEq, Nat.reduceAdd, Nat.reduceMul, Nat.reduceSub, Nat.reduceBEq, Nat.reduceGT, Nat.reduceLT, Int.toNat_zero, Nat.reduceLeDiff, Int.reduceEq, Int.reduceLT, Int.reduceLE, hP, hΓ, hL, hfin, hdr, hu])
    refine ⟨⟨by omega, by omega⟩, by omega, by omega, by omega, ⟨(b ++ ((lnF l)[i] ++ [10]), i + 1), by simpa [List.append_assoc] using hb, hi'⟩, by simp only; omega, ?_⟩
    rw [show ([AV.int .u8 10] : List AV) = List.map byteAV [10] from rfl]
    (refine IntoF.ver 0  0 (by simp only [List.all_cons, List.all_nil, push_cast, reduceCtorEq, Nat.reduceAdd, Nat.reduceMul, Nat.reduceSub, Nat.reduceBEq, Nat.reduceGT, Nat.reduceLT, Int.toNat_zero, Nat.reduceLeDiff, Int.reduceEq, Int.reduceLT, Int.reduceLE]) (by first | exact .inr (Nat.zero_le _) | (left; simp only [List.all_cons, List.all_nil, push_cast, reduceCtorEq, Nat.reduceAdd, Nat.reduceMul, Nat.reduceSub, Nat.reduceBEq, Nat.reduceGT, Nat.reduceLT, Int.toNat_zero, Nat.reduceLeDiff, Int.reduceEq, Int.reduceLT, Int.reduceLE]; omega) | (right; simp only [List.all_cons, List.all_nil, push_cast, reduceCtorEq, Nat.reduceAdd, Nat.reduceMul, Nat.reduceSub, Nat.reduceBEq, Nat.reduceGT, Nat.reduceLT, Int.toNat_zero, Nat.reduceLeDiff, Int.reduceEq, Int.reduceLT, Int.reduceLE]; omega)) ?_; simp only [List.all_cons, List.all_nil, push_cast, reduceCtorEq, Nat.reduceAdd, Nat.reduceMul, Nat.reduceSub, Nat.reduceBEq, Nat.reduceGT, Nat.reduceLT, Int.toNat_zero, Nat.reduceLeDiff, Int.reduceEq, Int.reduceLT, Int.reduceLE])
    (try simp only [List.map_append, List.append_assoc, List.map_cons, List.map_nil, List.length_append, List.length_cons, List.length_nil, byteAV, Nat.add_assoc, Nat.reduceAdd, Nat.zero_add, Nat.add_zero, List.append_nil, List.cons_append, List.nil_append])
    (refine Into.keep1 (by first | exact leF_refl _ | (simp only [leF, true_and, and_true, and_self]; done) | (simp [leF]; done)) (by simp only [List.all_cons, List.all_nil, push_cast, reduceCtorEq, Nat.reduceAdd, Nat.reduceMul, Nat.reduceSub, Nat.reduceBEq, Nat.reduceGT, Nat.reduceLT, Int.toNat_zero, Nat.reduceLeDiff, Int.reduceEq, Int.reduceLT, Int.reduceLE]) (by simp only [List.all_cons, List.all_nil, push_cast, reduceCtorEq, Nat.reduceAdd, Nat.reduceMul, Nat.reduceSub, Nat.reduceBEq, Nat.reduceGT, Nat.reduceLT, Int.toNat_zero, Nat.reduceLeDiff, Int.reduceEq, Int.reduceLT, Int.reduceLE]) (by first | decide | simp))
  have hi' : i = (lnF l).length := by have := of_decide_eq_false h; omega
  rw [hi', List.drop_length, List.flatMap_nil, List.append_nil] at hb
  have hbl := congrArg List.length hb
  rw [List.length_append] at hbl
  ((first | refine holds_of_ex X 400 _ _ _ ?_ | skip); simp only [push_cast, reduceCtorEq, Nat.reduceAdd, Nat.reduceMul, Nat.reduceSub, Nat.reduceBEq, Nat.reduceGT, Nat.reduceLT, Int.toNat_zero, Nat.reduceLeDiff, Int.reduceEq, Int.reduceLT, Int.reduceLE, hP, hΓ, hL, hfin, h7])
  refine ⟨by omega, ?_⟩
  refine Holds.loop (ι := { p : List UInt8 × Nat // p.1 ++ sp ((ws l).drop p.2) = sp (ws l) ∧ p.2 ≤ (ws l).length }) (fun i => ([.str l, .any, .any, .bool true, .any, .str (lrF l), .msl 0 0 0 b.length, .any, .sl ((ws l).map .str) (ws l).length, .msl 1 0 0 i.1.1.length, .int .i64 i.1.2, .any, .any, .any, .any, .any, .any, .any, .any, .any, .any, .any, .any, .any, .any, .any, .any, .any, .any, .any, .any, .any, .any, .any, .any, .any, .any, .any, .any, .any, .any, .any, .any, .any, .any, .any, .any, .any, .any, .any, .any, .any, .any, .any, .any, .any, .any, .any, .any, .any, .any, .any, .any, .any], [.row (b.map byteAV) 1 0, .row (i.1.1.map byteAV) 1 0])) (fun i => (ws l).length - i.1.2) ⟨([], 0), rfl, Nat.zero_le _⟩ ?_ ?_
  · rw [hL]
    (refine IntoF.nil 9  1 rfl ?_; simp only [List.all_cons, List.all_nil, push_cast, reduceCtorEq, Nat.reduceAdd, Nat.reduceMul, Nat.reduceSub, Nat.reduceBEq, Nat.reduceGT, Nat.reduceLT, Int.toNat_zero, Nat.reduceLeDiff, Int.reduceEq, Int.reduceLT, Int.reduceLE])
    (try simp only [List.map_append, List.append_assoc, List.map_cons, List.map_nil, List.length_append, List.length_cons, List.length_nil, byteAV, Nat.add_assoc, Nat.reduceAdd, Nat.zero_add, Nat.add_zero, List.append_nil, List.cons_append, List.nil_append])
    try simp only [Int.natCast_zero]
    exact Into.same (by first | exact leF_refl _ | (simp only [leF, true_and, and_true, and_self]; done) | (simp [leF]; done)) (by simp only [List.all_cons, List.all_nil, push_cast, reduceCtorEq, Nat.reduceAdd, Nat.reduceMul, Nat.reduceSub, Nat.reduceBEq, Nat.reduceGT, Nat.reduceLT, Int.toNat_zero, Nat.reduceLeDiff, Int.reduceEq, Int.reduceLT, Int.reduceLE]) (by simp only [List.all_cons, List.all_nil, push_cast, reduceCtorEq, Nat.reduceAdd, Nat.reduceMul, Nat.reduceSub, Nat.reduceBEq, Nat.reduceGT, Nat.reduceLT, Int.toNat_zero, Nat.reduceLeDiff, Int.reduceEq, Int.reduceLT, Int.reduceLE]) (by first | decide | simp)
  rintro ⟨⟨s, k⟩, hs, hk⟩
  simp only at hs hk
  ((first | refine holds_of_ex X 400 _ _ _ ?_ | skip); simp only [push_cast, reduceCtorEq, Nat.reduceAdd, Nat.reduceMul, Nat.reduceSub, Nat.reduceBEq, Nat.reduceGT, Nat.reduceLT, Int.toNat_zero, Nat.reduceLeDiff, Int.reduceEq, Int.reduceLT, Int.reduceLE, hP, hΓ, hL, hfin])
  refine exB_split (fun h => ?_) (fun h => ?_)
  · have hk' : k < (ws l).length := by have := of_decide_eq_true h; omega
    have hu : IntKind.i64.wrap ((k : Int) + 1) = (k : Int) + 1 := wrap_i64 _ (by omega)
    rw [List.drop_eq_getElem_cons hk', sp_cons] at hs
    have hlen := congrArg List.length hs
    simp only [List.length_append, List.length_cons, List.length_nil] at hlen
    have hdr : List.drop k ((ws l).map AV.str) = .str (ws l)[k] :: List.drop (k + 1) ((ws l).map AV.str) := by rw [List.drop_eq_getElem_cons (by simpa using hk')]; simp
    ((first | refine holds_of_ex X 400 _ _ _ ?_ | skip); simp only [push_cast, reduceCtorEq, Nat.reduceAdd, Nat.reduceMul, Nat.reduceSub, Nat.reduceBEq, Nat.reduceGT, Nat.reduceLT, Int.toNat_zero, Nat.reduceLeDiff, Int.reduceEq, Int.reduceLT, Int.reduceLE, hP, hΓ, hL, hfin, hdr, hu])
    refine ⟨⟨rfl, by omega⟩, ⟨by omega, by omega⟩, by omega, by omega, ⟨(s ++ [32, 32] ++ (ws l)[k], k + 1), by simpa [List.append_assoc] using hs, hk'⟩, by simp only; omega, ?_⟩
    rw [show ([byteAV 32, byteAV 32] : List AV) = List.map byteAV [32, 32] from rfl]
    (refine IntoF.ver 1  0 (by simp only [List.all_cons, List.all_nil, push_cast, reduceCtorEq, Nat.reduceAdd, Nat.reduceMul, Nat.reduceSub, Nat.reduceBEq, Nat.reduceGT, Nat.reduceLT, Int.toNat_zero, Nat.reduceLeDiff, Int.reduceEq, Int.reduceLT, Int.reduceLE]) (by first | exact .inr (Nat.zero_le _) | (left; simp only [List.all_cons, List.all_nil, push_cast, reduceCtorEq, Nat.reduceAdd, Nat.reduceMul, Nat.reduceSub, Nat.reduceBEq, Nat.reduceGT, Nat.reduceLT, Int.toNat_zero, Nat.reduceLeDiff, Int.reduceEq, Int.reduceLT, Int.reduceLE]; omega) | (right; simp only [List.all_cons, List.all_nil, push_cast, reduceCtorEq, Nat.reduceAdd, Nat.reduceMul, Nat.reduceSub, Nat.reduceBEq, Nat.reduceGT, Nat.reduceLT, Int.toNat_zero, Nat.reduceLeDiff, Int.reduceEq, Int.reduceLT, Int.reduceLE]; omega)) ?_; simp only [List.all_cons, List.all_nil, push_cast, reduceCtorEq, Nat.reduceAdd, Nat.reduceMul, Nat.reduceSub, Nat.reduceBEq, Nat.reduceGT, Nat.reduceLT, Int.toNat_zero, Nat.reduceLeDiff, Int.reduceEq, Int.reduceLT, Int.reduceLE])
    (try simp only [List.map_append, List.append_assoc, List.map_cons, List.map_nil, List.length_append, List.length_cons, List.length_nil, byteAV, Nat.add_assoc, Nat.reduceAdd, Nat.zero_add, Nat.add_zero, List.append_nil, List.cons_append, List.nil_append])
    (refine Into.keep2 (by first | exact leF_refl _ | (simp only [leF, true_and, and_true, and_self]; done) | (simp [leF]; done)) (by simp only [List.all_cons, List.all_nil, push_cast, reduceCtorEq, Nat.reduceAdd, Nat.reduceMul, Nat.reduceSub, Nat.reduceBEq, Nat.reduceGT, Nat.reduceLT, Int.toNat_zero, Nat.reduceLeDiff, Int.reduceEq, Int.reduceLT, Int.reduceLE]) (by simp only [List.all_cons, List.all_nil, push_cast, reduceCtorEq, Nat.reduceAdd, Nat.reduceMul, Nat.reduceSub, Nat.reduceBEq, Nat.reduceGT, Nat.reduceLT, Int.toNat_zero, Nat.reduceLeDiff, Int.reduceEq, Int.reduceLT, Int.reduceLE]) (by first | decide | simp))
  · have hk' : k = (ws l).length := by have := of_decide_eq_false h; omega
    have hs' : s = sp (ws l) := by rw [hk', List.drop_length] at hs; simpa [sp] using hs
    have tk : List.take b.length (b.map byteAV) = b.map byteAV := List.take_of_length_le (by simp)
    have tk2 : List.take s.length (s.map byteAV) = s.map byteAV := List.take_of_length_le (by simp)
    subst hs'
    ((first | refine holds_of_ex X 400 _ _ _ ?_ | skip); simp only [push_cast, reduceCtorEq, Nat.reduceAdd, Nat.reduceMul, Nat.reduceSub, Nat.reduceBEq, Nat.reduceGT, Nat.reduceLT, Int.toNat_zero, Nat.reduceLeDiff, Int.reduceEq, Int.reduceLT, Int.reduceLE, hP, hΓ, hL, hfin, tk, tk2, unbytes_map, allBytes_map, hb, hwp, h7, h8])
    exact ⟨by omega, by omega, ⟨⟨_, _, rfl, rfl, rfl, rfl⟩, by omega⟩, Into.keep0 (leF_refl _) rfl rfl (Nat.le_refl _)⟩
def e1 : Env := addE (addE (addE (addE (addE noE 16 wordS) 20 cloneS) 19 cmdS) 57 ixS) 33 ctS
def e2 : Env := addE (addE (addE e1 7 wordsS) 47 ixS) 26 ctTS
def e3 : Env := addE (addE (addE e2 14 parseS) 8 sameS) 34 ixTS
def e4 : Env := addE (addE e3 5 shS) 27 ixTS
def e5 : Env := addE e4 21 splitS
def e6 : Env := addE e5 15 split2S
def e7 : Env := addE e6 6 linesS
theorem e1_ok : EnvOk Tryd.prog e1 := ((((EnvOk.add (noE_ok _) (con16 (noE_ok _))).add (con20 (noE_ok _))).add (con19 (noE_ok _))).add con57).add con33
theorem e2_ok : EnvOk Tryd.prog e2 := ((e1_ok.add (con7 e1_ok rfl)).add (con47 e1_ok rfl)).add (con26 e1_ok rfl)
theorem e3_ok : EnvOk Tryd.prog e3 := ((e2_ok.add (con14 e2_ok rfl rfl rfl rfl)).add (con8 e2_ok)).add (con34 e2_ok rfl)
theorem e4_ok : EnvOk Tryd.prog e4 := by
  refine (e3_ok.add ?_).add (con27 e3_ok rfl)
  refine Con.of_body e3_ok (fn := Tryd.f5) (by kernel_rfl) rfl (by kernel_rfl) (fun _ _ => rfl) fun xs hx => ?_
  obtain rfl := hx
  exact shown_body e3 rfl
theorem e5_ok : EnvOk Tryd.prog e5 := e4_ok.add (con21 e4_ok rfl rfl)
theorem e6_ok : EnvOk Tryd.prog e6 := e5_ok.add (con15 e5_ok rfl)
theorem e7_ok : EnvOk Tryd.prog e7 := e6_ok.add (con6 e6_ok rfl)
theorem own : ownKnob Tryd.prog.godebug = none := by kernel_rfl
theorem laidOut : laidOutB Tryd.prog = true := by kernel_rfl
def shapes : List Sh := [.str]
theorem body (xs : List Dv) (h : Dv.hasL shapes xs) (hb : Dv.vbL xs ≤ 1048576) : ∃ L', BodyOk Tryd.prog e7 Tryd.f3 (xs.map Dv.av) [] (.bool true) L' := by
  obtain ⟨x0, xs, rfl, h0, h⟩ := hasL_cons h
  obtain rfl := hasL_nil h
  obtain ⟨s, rfl, _⟩ := has_str h0
  simp only [Dv.vbL, Dv.vb] at hb
  refine ⟨[], ?_⟩
  simp only [List.map_cons, List.map_nil]
  exact back_body e7 rfl rfl rfl rfl s (by omega)
noncomputable def laidW (os : Os) : World := World.laidAll Tryd.prog os Rows.lineBackUptoRow.laid
theorem laid_met (os : Os) (args : Array Value) : laidMetH Tryd.prog Rows.lineBackUptoRow.laid ((laidW os).forCall (fun _ _ => 0) ⟨#[], args, []⟩).memory := by
  rw [MakeChecks.laidMetH_plain _ _ _ (by kernel_rfl)]
  exact laidMet_laidAll _ (by kernel_rfl) (by kernel_rfl)
theorem witness_row {H : Type} (os : Os) (enc : TypeId × Value → H) :
    (Rows.OpenSpec.upto Rows.lineBackSpec).preRow enc Tryd.prog Tryd.f3 Rows.lineBackUptoRow.domain false Rows.lineBackUptoRow.laid ((laidW os).forCall (fun _ _ => 0) ⟨#[], #[.string .empty], []⟩).memory #[.string .empty] :=
  OpenSpec.preRow_of_cond 8 (x := ([.lit (.string [])], [], [])) (by kernel_rfl) (by kernel_rfl) (fun k hk => by cases hk; rfl) (by kernel_rfl) (laid_met os _)
set_option maxRecDepth 100000 in
theorem lifted (os : Os) (started : os.Started) (H : Type) (enc : TypeId × Value → H) (F : Stop.Interp) :
    ReturnsInHanded {} Tryd.checked os 3 .any ((Rows.OpenSpec.upto Rows.lineBackSpec).preRow enc Tryd.prog Tryd.f3 Rows.lineBackUptoRow.domain false Rows.lineBackUptoRow.laid) (((Rows.OpenSpec.upto Rows.lineBackSpec).at F).post enc Tryd.prog Tryd.f3 false true false false) := by
  refine returnsInHanded_of_row (C := Tryd.checked) (s := Rows.OpenSpec.upto Rows.lineBackSpec) own started (by kernel_rfl) Tryd.func3
    (witness_row_at (enc := enc) (C := Tryd.checked) false (laidW os) #[.string .empty] (World.laidAll_os _ _ _) (by kernel_rfl) (by kernel_rfl) (by kernel_rfl) (witness_row os enc)) ?_
  intro W base args ds gs before hval hW _ hk _ _ _ _
  have hds : gs = [] ∧ ∃ d1, ds = [d1] := by
    obtain ⟨p, q, hA, hV, _⟩ := hW
    obtain ⟨rfl, _⟩ := ChangeShapes.trodVars_none hV
    rw [Tryd.params3] at hA
    obtain ⟨_, _, d1, _, _, _, _, rfl, _, _, hA⟩ := ChangeShapes.trodAll_cons hA
    obtain ⟨_, rfl, _⟩ := ChangeShapes.trodAll_nil hA
    exact ⟨rfl, d1, rfl⟩
  obtain ⟨rfl, d1, rfl⟩ := hds
  exact law_contract e7_ok (f := 3) (fn := Tryd.f3) (by kernel_rfl) laidOut (s := Rows.lineBackSpec) rfl (ss := shapes) (by kernel_rfl) (tb := 4) rfl Tryd.underlying4 (· ≤ 1048576) (fun a b h1 h2 => Nat.le_trans h1 h2) body rfl hval hW (Up.small (by simpa using hk _ rfl))
theorem proved : Rows.LineBackUptoSaid :=
  OpenClaim.holds_of_cond 3 Tryd.f3 rfl rfl rfl rfl rfl rfl rfl ⟨rfl, rfl, rfl, rfl, rfl⟩ rfl rfl rfl rfl rfl (by kernel_rfl) Tryd.func3 (by kernel_rfl)
    (of_decide_eq_true (by kernel_rfl)) (by unfold Func.isWrapper; first | (rw [if_pos (by decide +kernel)]; kernel_rfl) | (rw [if_neg (by decide +kernel)]; exact ⟨rfl, rfl⟩))
    (fun os started H enc _ F => by rw [OpenClaim.pre_eq_preRow]; exact lifted os started H enc F)
/-- no parameter wants a stand-in; the program's own looks are off -/
theorem plain (f : FuncId) (fn : Func) (hf : Tryd.pinned.checked.prog.funcNamed "carrel/carrellaw19.LineBack" = some f) (hfn : Tryd.pinned.checked.prog.funcs[f]? = some fn) :
    false = Tryd.pinned.checked.prog.looks [] ∧ ∀ (j : Nat) t, fn.params[j]? = some t → Tryd.pinned.checked.prog.wantsStandIn t = false := by
  obtain rfl : f = 3 := Option.some.inj ((show Tryd.prog.funcNamed "carrel/carrellaw19.LineBack" = some 3 by kernel_rfl).symm.trans hf) |>.symm
  obtain rfl : fn = Tryd.f3 := (Option.some.inj (Tryd.func3.symm.trans hfn)).symm
  refine ⟨by kernel_rfl, fun j t ht => ?_⟩
  rw [Tryd.params3] at ht
  obtain rfl : t = 9 := by simpa using Array.mem_of_getElem? ht
  exact (show Tryd.prog.wantsStandIn 9 = false by kernel_rfl)
/-- the card -/
theorem card : Rows.LineBackUptoCardSaid :=
  Claim7.holds_tied_plain_at .later [] _ _ _ _ proved (fun _ h => by cases h) (by kernel_rfl) (fun _ h => by cases h) lineBackUpto_row_tie rfl ⟨rfl, rfl⟩ (by kernel_rfl) rfl plain (by kernel_rfl)
end Go.Proofs.YtkglmlfkcmpbbaaDoor.lineDone
