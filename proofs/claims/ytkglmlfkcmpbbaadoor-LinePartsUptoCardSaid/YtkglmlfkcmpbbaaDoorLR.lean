/- Of lines: LineParts. Its bulk is at most 1048576. -/
import Derived.Test.YtkglmlfkcmpbbaaDoorLT
import Derived.Test.YtkglmlfkcmpbbaaDoorLCD
namespace Go.Proofs.YtkglmlfkcmpbbaaDoor.lineDone
open Go Go.Eng Go.Proofs Go.Lines Go.Lib
set_option linter.unusedVariables false
set_option linter.unusedSimpArgs false
theorem words_own (Γ : Env) (h16F : Γ 16 = some wordS) (l : List UInt8) (hl : l.length ≤ 4194304) : BodyOk Tryd.prog Γ Tryd.f7 [.str l] [] (.msl 0 0 0 (ws l).length) [.row ((ws l).map .str) 1 0] := by
  (intro X hP hΓ hL hfin; refine ⟨_, rfl, ?_⟩; rw [show Tryd.f7.ntmps = 25 from rfl]; rw [show Tryd.f7.results.toList = [.tmp 2] from rfl] at hfin; apply holds_of_ex X 400; simp only [push_cast, reduceCtorEq, Nat.reduceAdd, Nat.reduceMul, Nat.reduceSub, Nat.reduceBEq, Nat.reduceGT, Nat.reduceLT, Int.toNat_zero, Nat.reduceLeDiff, Int.reduceEq, Int.reduceLT, Int.reduceLE, hP, hΓ, hL, hfin, h16F])
  refine Holds.loop (ι := { p : List (List UInt8) × List UInt8 // p.1 ++ ws p.2 = ws l ∧ p.2.length ≤ l.length }) (fun i => ([.str i.1.2, .any, .any, .msl 0 0 0 i.1.1.length, .any, .any, .any, .any, .any, .any, .any, .any, .any, .any, .any, .any, .any, .any, .any, .any, .any, .any, .any, .any, .any], [.row (i.1.1.map .str) 1 0])) (fun i => i.1.2.length) ⟨([], l), by simp, Nat.le_refl _⟩ ?_ ?_
  · rw [hL]
    (refine IntoF.nil 3  1 rfl ?_; simp only [List.all_cons, List.all_nil, push_cast, reduceCtorEq, Nat.reduceAdd, Nat.reduceMul, Nat.reduceSub, Nat.reduceBEq, Nat.reduceGT, Nat.reduceLT, Int.toNat_zero, Nat.reduceLeDiff, Int.reduceEq, Int.reduceLT, Int.reduceLE])
    (try simp only [List.map_append, List.append_assoc, List.map_cons, List.map_nil, List.length_append, List.length_cons, List.length_nil, byteAV, Nat.add_assoc, Nat.reduceAdd, Nat.zero_add, Nat.add_zero, List.append_nil, List.cons_append, List.nil_append])
    exact Into.same (by first | exact leF_refl _ | (simp only [leF, true_and, and_true, and_self]; done) | (simp [leF]; done)) (by simp only [List.all_cons, List.all_nil, push_cast, reduceCtorEq, Nat.reduceAdd, Nat.reduceMul, Nat.reduceSub, Nat.reduceBEq, Nat.reduceGT, Nat.reduceLT, Int.toNat_zero, Nat.reduceLeDiff, Int.reduceEq, Int.reduceLT, Int.reduceLE]) (by simp only [List.all_cons, List.all_nil, push_cast, reduceCtorEq, Nat.reduceAdd, Nat.reduceMul, Nat.reduceSub, Nat.reduceBEq, Nat.reduceGT, Nat.reduceLT, Int.toNat_zero, Nat.reduceLeDiff, Int.reduceEq, Int.reduceLT, Int.reduceLE]) (by first | decide | simp)
  rintro ⟨⟨p, r⟩, hp, hr⟩
  simp only at hp hr
  have q1 := wTo_le r
  have q2 := wFrom_to r
  have hlen := congrArg List.length hp
  rw [List.length_append] at hlen
  have q3 := ws_len _ l (Nat.le_refl _)
  ((first | refine holds_of_ex X 400 _ _ _ ?_ | skip); simp only [push_cast, reduceCtorEq, Nat.reduceAdd, Nat.reduceMul, Nat.reduceSub, Nat.reduceBEq, Nat.reduceGT, Nat.reduceLT, Int.toNat_zero, Nat.reduceLeDiff, Int.reduceEq, Int.reduceLT, Int.reduceLE, hP, hΓ, hL, hfin, h16F])
  refine ⟨by omega, exB_split (fun h => ?_) (fun h => ?_)⟩
  · ((first | refine holds_of_ex X 400 _ _ _ ?_ | skip); simp only [push_cast, reduceCtorEq, Nat.reduceAdd, Nat.reduceMul, Nat.reduceSub, Nat.reduceBEq, Nat.reduceGT, Nat.reduceLT, Int.toNat_zero, Nat.reduceLeDiff, Int.reduceEq, Int.reduceLT, Int.reduceLE, hP, hΓ, hL, hfin])
    have he : wFrom r = wTo r := by have := of_decide_eq_true h; omega
    have hz : ws r = [] := by rw [ws, if_pos he]
    rw [hz, List.append_nil] at hp
    rw [hp]
    exact Into.same (by first | exact leF_refl _ | (simp only [leF, true_and, and_true, and_self]; done) | (simp [leF]; done)) (by simp only [List.all_cons, List.all_nil, push_cast, reduceCtorEq, Nat.reduceAdd, Nat.reduceMul, Nat.reduceSub, Nat.reduceBEq, Nat.reduceGT, Nat.reduceLT, Int.toNat_zero, Nat.reduceLeDiff, Int.reduceEq, Int.reduceLT, Int.reduceLE]) (by simp only [List.all_cons, List.all_nil, push_cast, reduceCtorEq, Nat.reduceAdd, Nat.reduceMul, Nat.reduceSub, Nat.reduceBEq, Nat.reduceGT, Nat.reduceLT, Int.toNat_zero, Nat.reduceLeDiff, Int.reduceEq, Int.reduceLT, Int.reduceLE]) (by first | decide | simp)
  · have hne : ¬ wFrom r = wTo r := by have := of_decide_eq_false h; omega
    have he : ws r = (r.take (wTo r)).drop (wFrom r) :: ws (r.drop (wTo r)) := by rw [ws, if_neg hne]
    rw [he] at hp hlen
    simp only [List.length_cons] at hlen
    ((first | refine holds_of_ex X 400 _ _ _ ?_ | skip); simp only [push_cast, reduceCtorEq, Nat.reduceAdd, Nat.reduceMul, Nat.reduceSub, Nat.reduceBEq, Nat.reduceGT, Nat.reduceLT, Int.toNat_zero, Nat.reduceLeDiff, Int.reduceEq, Int.reduceLT, Int.reduceLE, hP, hΓ, hL, hfin, List.take_length])
    refine ⟨⟨by omega, by omega, by omega⟩, by omega, ⟨by omega, by omega, by omega⟩, ⟨(p ++ [(r.take (wTo r)).drop (wFrom r)], r.drop (wTo r)), by simpa using hp, by simp only [List.length_drop]; omega⟩, by simp only [List.length_drop]; omega, ?_⟩
    (refine IntoF.ver 0  0 (by simp only [List.all_cons, List.all_nil, push_cast, reduceCtorEq, Nat.reduceAdd, Nat.reduceMul, Nat.reduceSub, Nat.reduceBEq, Nat.reduceGT, Nat.reduceLT, Int.toNat_zero, Nat.reduceLeDiff, Int.reduceEq, Int.reduceLT, Int.reduceLE]) (by first | exact .inr (Nat.zero_le _) | (left; simp only [List.all_cons, List.all_nil, push_cast, reduceCtorEq, Nat.reduceAdd, Nat.reduceMul, Nat.reduceSub, Nat.reduceBEq, Nat.reduceGT, Nat.reduceLT, Int.toNat_zero, Nat.reduceLeDiff, Int.reduceEq, Int.reduceLT, Int.reduceLE]; omega) | (right; simp only [List.all_cons, List.all_nil, push_cast, reduceCtorEq, Nat.reduceAdd, Nat.reduceMul, Nat.reduceSub, Nat.reduceBEq, Nat.reduceGT, Nat.reduceLT, Int.toNat_zero, Nat.reduceLeDiff, Int.reduceEq, Int.reduceLT, Int.reduceLE]; omega)) ?_; simp only [List.all_cons, List.all_nil, push_cast, reduceCtorEq, Nat.reduceAdd, Nat.reduceMul, Nat.reduceSub, Nat.reduceBEq, Nat.reduceGT, Nat.reduceLT, Int.toNat_zero, Nat.reduceLeDiff, Int.reduceEq, Int.reduceLT, Int.reduceLE])
    (try simp only [List.map_append, List.append_assoc, List.map_cons, List.map_nil, List.length_append, List.length_cons, List.length_nil, byteAV, Nat.add_assoc, Nat.reduceAdd, Nat.zero_add, Nat.add_zero, List.append_nil, List.cons_append, List.nil_append])
    (refine Into.keep1 (by first | exact leF_refl _ | (simp only [leF, true_and, and_true, and_self]; done) | (simp [leF]; done)) (by simp only [List.all_cons, List.all_nil, push_cast, reduceCtorEq, Nat.reduceAdd, Nat.reduceMul, Nat.reduceSub, Nat.reduceBEq, Nat.reduceGT, Nat.reduceLT, Int.toNat_zero, Nat.reduceLeDiff, Int.reduceEq, Int.reduceLT, Int.reduceLE]) (by simp only [List.all_cons, List.all_nil, push_cast, reduceCtorEq, Nat.reduceAdd, Nat.reduceMul, Nat.reduceSub, Nat.reduceBEq, Nat.reduceGT, Nat.reduceLT, Int.toNat_zero, Nat.reduceLeDiff, Int.reduceEq, Int.reduceLT, Int.reduceLE]) (by first | decide | simp))
def wordsF : FSpec := lift0 wsP (fun xs => .msl 0 0 0 (wsR xs).length) (fun xs => [.row ((wsR xs).map .str) 1 0]) false
attribute [push_cast] wordsF
theorem con7F {Γ : Env} (h : EnvOk Tryd.prog Γ) (h16F : Γ 16 = some wordS) : Con Tryd.prog 7 wordsF := by
  refine Con.of_body h (fn := Tryd.f7) (by kernel_rfl) rfl (by kernel_rfl) (fun h => by cases h) fun xs hx => ?_
  unfold wsP at hx
  split at hx
  · exact words_own Γ h16F _ hx
  · exact hx.elim
set_option maxRecDepth 100000 in
theorem split_own (Γ : Env) (h26 : Γ 26 = some ctTS) (h27 : Γ 27 = some ixTS) (l : List UInt8) (c : UInt8) (hl : l.length ≤ 4194304) : BodyOk Tryd.prog Γ Tryd.f21 [.str l, .str [c], .int .i64 0, .int .i64 (-1)] [] (.msl 0 0 0 (pieces c l).length) [.row ((pieces c l).map .str) 1 0] := by
  have hpl := pieces_len c l
  have hp1 := pieces_le c l
  have hu0 : IntKind.i64.wrap ((countByte l c : Int) + 1) = (countByte l c : Int) + 1 := wrap_i64 _ (by omega)
  have hu1 : IntKind.i64.wrap ((l.length : Int) + 1) = (l.length : Int) + 1 := wrap_i64 _ (by omega)
  have hmin : min ((countByte l c : Int) + 1) ((l.length : Int) + 1) = (countByte l c : Int) + 1 := by omega
  obtain ⟨N, hN⟩ : ∃ N, N = countByte l c + 1 := ⟨_, rfl⟩
  have hmt : ((countByte l c : Int) + 1).toNat = N := by omega
  have hu2 : IntKind.i64.wrap ((countByte l c : Int) + 1 - 1) = (countByte l c : Int) := by rw [Int.add_sub_cancel]; exact wrap_i64 _ (by omega)
  generalize hk : countByte l c = k at *
  (intro X hP hΓ hL hfin; refine ⟨_, rfl, ?_⟩; rw [show Tryd.f21.ntmps = 66 from rfl]; rw [show Tryd.f21.results.toList = [.tmp 8] from rfl] at hfin; apply holds_of_ex X 400; simp only [push_cast, reduceCtorEq, Nat.reduceAdd, Nat.reduceMul, Nat.reduceSub, Nat.reduceBEq, Nat.reduceGT, Nat.reduceLT, Int.toNat_zero, Nat.reduceLeDiff, Int.reduceEq, Int.reduceLT, Int.reduceLE, hP, hΓ, hL, hfin, h26, hu0, hu1, hu2, hmin, hmt, hk])
  have hz : (List.replicate N [AV.str []]).flatten = (List.replicate N ([] : List UInt8)).map AV.str := by simp
  rw [hz]
  refine ⟨⟨⟨c, rfl⟩, hl⟩, ⟨by omega, by omega, by omega⟩, ?_⟩
  refine Holds.loop (ι := { p : List (List UInt8) × List UInt8 // p.1 ++ pieces c p.2 = pieces c l ∧ p.2.length ≤ l.length }) (fun i => ([.str i.1.2, .str [c], .int .i64 0, .int .i64 k, .any, .any, .any, .any, .any, .msl 0 0 0 N, .int .i64 i.1.1.length, .any, .any, .any, .any, .any, .any, .any, .any, .any, .any, .any, .any, .any, .any, .any, .any, .any, .any, .any, .any, .any, .any, .any, .any, .any, .any, .any, .any, .any, .any, .any, .any, .any, .any, .any, .any, .any, .any, .any, .any, .any, .any, .any, .any, .any, .any, .any, .any, .any, .any, .any, .any, .any, .any, .any], [.row ((i.1.1 ++ List.replicate (N - i.1.1.length) []).map .str) 1 0])) (fun i => k + 1 - i.1.1.length) ⟨([], l), rfl, Nat.le_refl _⟩ ?_ ?_
  · rw [hL]
    simp only [List.length_nil, Nat.sub_zero, List.nil_append, Int.natCast_zero]
    exact Into.same (by first | exact leF_refl _ | (simp only [leF, true_and, and_true, and_self]; done) | (simp [leF]; done)) (by simp only [List.all_cons, List.all_nil, push_cast, reduceCtorEq, Nat.reduceAdd, Nat.reduceMul, Nat.reduceSub, Nat.reduceBEq, Nat.reduceGT, Nat.reduceLT, Int.toNat_zero, Nat.reduceLeDiff, Int.reduceEq, Int.reduceLT, Int.reduceLE]) (by simp only [List.all_cons, List.all_nil, push_cast, reduceCtorEq, Nat.reduceAdd, Nat.reduceMul, Nat.reduceSub, Nat.reduceBEq, Nat.reduceGT, Nat.reduceLT, Int.toNat_zero, Nat.reduceLeDiff, Int.reduceEq, Int.reduceLT, Int.reduceLE]) (by first | decide | simp)
  rintro ⟨⟨d, r⟩, hd, hr⟩
  simp only at hd hr
  have hlen := congrArg List.length hd
  rw [List.length_append, hpl] at hlen
  have hpos : 0 < (pieces c r).length := List.length_pos_iff.2 (pieces_ne c r)
  have hu3 : IntKind.i64.wrap ((d.length : Int) + 1) = (d.length : Int) + 1 := wrap_i64 _ (by omega)
  ((first | refine holds_of_ex X 400 _ _ _ ?_ | skip); simp only [push_cast, reduceCtorEq, Nat.reduceAdd, Nat.reduceMul, Nat.reduceSub, Nat.reduceBEq, Nat.reduceGT, Nat.reduceLT, Int.toNat_zero, Nat.reduceLeDiff, Int.reduceEq, Int.reduceLT, Int.reduceLE, hP, hΓ, hL, hfin])
  refine exB_split (fun h => ?_) (fun h => ?_)
  · have hlt : d.length < k := by have := of_decide_eq_true h; omega
    obtain ⟨j, hj1, hj2, hj3⟩ : ∃ j : Nat, indexByte r c = j ∧ j < r.length ∧ pieces c r = r.take j :: pieces c (r.drop (j + 1)) := by
      rcases pieces_ix c r with ⟨_, h2⟩ | h2
      · rw [h2] at hlen; simp at hlen; omega
      · exact h2
    have hn : decide ((j : Int) < 0) = false := by rw [decide_eq_false_iff_not]; omega
    have hu4 : IntKind.i64.wrap ((j : Int) + 0) = (j : Int) := by rw [Int.add_zero]; exact wrap_i64 _ (by omega)
    have hu5 : IntKind.i64.wrap ((j : Int) + (0 + 1)) = (j : Int) + 1 := wrap_i64 _ (by omega)
    have hjt : ((j : Int) + 1).toNat = j + 1 := by omega
    have hst := laid_piece d N (r.take j) (by omega)
    have e : r.take (min j r.length) = r.take j := by congr 1; omega
    ((first | refine holds_of_ex X 400 _ _ _ ?_ | skip); simp only [push_cast, reduceCtorEq, Nat.reduceAdd, Nat.reduceMul, Nat.reduceSub, Nat.reduceBEq, Nat.reduceGT, Nat.reduceLT, Int.toNat_zero, Nat.reduceLeDiff, Int.reduceEq, Int.reduceLT, Int.reduceLE, hP, hΓ, hL, hfin, h27, hj1, hn, hu3, hu4, hu5, hjt, List.take_length])
    rw [List.append_assoc, List.singleton_append, hst]
    refine ⟨⟨⟨c, rfl⟩, by omega⟩, ⟨by omega, by omega⟩, ⟨by omega, by omega⟩, by simp; omega, ⟨by omega, by omega, by omega⟩, ⟨(d ++ [r.take j], r.drop (j + 1)), by rw [List.append_assoc, List.singleton_append, ← hj3, hd], by simp only [List.length_drop]; omega⟩, by simp only [List.length_append, List.length_cons, List.length_nil]; omega, ?_⟩
    simp only [List.length_append, List.length_cons, List.length_nil, Nat.zero_add]
    exact Into.same (by first | exact leF_refl _ | (simp only [leF, true_and, and_true, and_self]; done) | (simp [leF]; done)) (by simp only [List.all_cons, List.all_nil, push_cast, reduceCtorEq, Nat.reduceAdd, Nat.reduceMul, Nat.reduceSub, Nat.reduceBEq, Nat.reduceGT, Nat.reduceLT, Int.toNat_zero, Nat.reduceLeDiff, Int.reduceEq, Int.reduceLT, Int.reduceLE]) (by simp only [List.all_cons, List.all_nil, push_cast, reduceCtorEq, Nat.reduceAdd, Nat.reduceMul, Nat.reduceSub, Nat.reduceBEq, Nat.reduceGT, Nat.reduceLT, Int.toNat_zero, Nat.reduceLeDiff, Int.reduceEq, Int.reduceLT, Int.reduceLE]) (by first | decide | simp)
  · have hdk : d.length = k := by have := of_decide_eq_false h; omega
    have hp : pieces c r = [r] := pieces_last (by omega)
    rw [hp] at hd
    have hst := laid_piece d N r (by omega)
    rw [hd, hpl, show N - (k + 1) = 0 by omega, List.replicate_zero, List.append_nil] at hst
    ((first | refine holds_of_ex X 400 _ _ _ ?_ | skip); simp only [push_cast, reduceCtorEq, Nat.reduceAdd, Nat.reduceMul, Nat.reduceSub, Nat.reduceBEq, Nat.reduceGT, Nat.reduceLT, Int.toNat_zero, Nat.reduceLeDiff, Int.reduceEq, Int.reduceLT, Int.reduceLE, hP, hΓ, hL, hfin, hu3])
    rw [List.append_assoc, List.singleton_append, hst, show ((d.length : Int) + 1).toNat - 0 = (pieces c l).length by omega]
    refine ⟨⟨by omega, by omega⟩, by simp; omega, ⟨by omega, by simp only [List.length_replicate]; omega⟩, ?_⟩
    exact Into.same (by first | exact leF_refl _ | (simp only [leF, true_and, and_true, and_self]; done) | (simp [leF]; done)) (by simp only [List.all_cons, List.all_nil, push_cast, reduceCtorEq, Nat.reduceAdd, Nat.reduceMul, Nat.reduceSub, Nat.reduceBEq, Nat.reduceGT, Nat.reduceLT, Int.toNat_zero, Nat.reduceLeDiff, Int.reduceEq, Int.reduceLT, Int.reduceLE]) (by simp only [List.all_cons, List.all_nil, push_cast, reduceCtorEq, Nat.reduceAdd, Nat.reduceMul, Nat.reduceSub, Nat.reduceBEq, Nat.reduceGT, Nat.reduceLT, Int.toNat_zero, Nat.reduceLeDiff, Int.reduceEq, Int.reduceLT, Int.reduceLE]) (by first | decide | simp)
def splitF : FSpec := lift0 pieceP (fun xs => .msl 0 0 0 (pieceR xs).length) (fun xs => [.row ((pieceR xs).map .str) 1 0]) false
attribute [push_cast] splitF
theorem con21F {Γ : Env} (h : EnvOk Tryd.prog Γ) (h26 : Γ 26 = some ctTS) (h27 : Γ 27 = some ixTS) : Con Tryd.prog 21 splitF := by
  refine Con.of_body h (fn := Tryd.f21) (by kernel_rfl) rfl (by kernel_rfl) (fun h => by cases h) fun xs hx => ?_
  unfold pieceP at hx
  split at hx
  · obtain ⟨⟨c, rfl⟩, hl, rfl, rfl⟩ := hx
    exact split_own Γ h26 h27 _ c hl
  · exact hx.elim
def split2F : FSpec := lift0 oneT (fun xs => .msl 0 0 0 (pieceR xs).length) (fun xs => [.row ((pieceR xs).map .str) 1 0]) false
attribute [push_cast] split2F
theorem split_topF (Γ : Env) (h21 : Γ 21 = some splitF) (l : List UInt8) (c : UInt8) (hl : l.length ≤ 4194304) : BodyOk Tryd.prog Γ Tryd.f15 [.str l, .str [c]] [] (.msl 0 0 0 (pieces c l).length) [.row ((pieces c l).map .str) 1 0] := by
  (intro X hP hΓ hL hfin; refine ⟨_, rfl, ?_⟩; rw [show Tryd.f15.ntmps = 8 from rfl]; rw [show Tryd.f15.results.toList = [.tmp 4] from rfl] at hfin; apply holds_of_ex X 400; simp only [push_cast, reduceCtorEq, Nat.reduceAdd, Nat.reduceMul, Nat.reduceSub, Nat.reduceBEq, Nat.reduceGT, Nat.reduceLT, Int.toNat_zero, Nat.reduceLeDiff, Int.reduceEq, Int.reduceLT, Int.reduceLE, hP, hΓ, hL, hfin, h21])
  refine ⟨⟨⟨c, rfl⟩, hl⟩, ?_⟩
  exact Into.same (by first | exact leF_refl _ | (simp only [leF, true_and, and_true, and_self]; done) | (simp [leF]; done)) (by simp only [List.all_cons, List.all_nil, push_cast, reduceCtorEq, Nat.reduceAdd, Nat.reduceMul, Nat.reduceSub, Nat.reduceBEq, Nat.reduceGT, Nat.reduceLT, Int.toNat_zero, Nat.reduceLeDiff, Int.reduceEq, Int.reduceLT, Int.reduceLE]) (by simp only [List.all_cons, List.all_nil, push_cast, reduceCtorEq, Nat.reduceAdd, Nat.reduceMul, Nat.reduceSub, Nat.reduceBEq, Nat.reduceGT, Nat.reduceLT, Int.toNat_zero, Nat.reduceLeDiff, Int.reduceEq, Int.reduceLT, Int.reduceLE]) (by first | decide | simp)
theorem con15F {Γ : Env} (h : EnvOk Tryd.prog Γ) (h21 : Γ 21 = some splitF) : Con Tryd.prog 15 split2F := by
  refine Con.of_body h (fn := Tryd.f15) (by kernel_rfl) rfl (by kernel_rfl) (fun h => by cases h) fun xs hx => ?_
  unfold oneT at hx
  split at hx
  · obtain ⟨⟨c, rfl⟩, hl⟩ := hx
    exact split_topF Γ h21 _ c hl
  · exact hx.elim
theorem lines_own (Γ : Env) (h15 : Γ 15 = some split2F) (l : List UInt8) (hl : l.length ≤ 4194304) (ls : List (List UInt8)) (r : List UInt8) (hp : pieces 10 l = ls ++ [r]) : BodyOk Tryd.prog Γ Tryd.f6 [.str l] [] (.tup [.csl 0 0 0 ls.length, .str r]) [.row ((ls ++ [r]).map .str) 1 0] := by
  have hpl := pieces_le 10 l
  rw [hp] at hpl
  simp only [List.length_append, List.length_cons, List.length_nil] at hpl
  have hu : IntKind.i64.wrap ((ls.length : Int) + 1 - 1) = ls.length := by rw [Int.add_sub_cancel]; exact wrap_i64 _ (by omega)
  (intro X hP hΓ hL hfin; refine ⟨_, rfl, ?_⟩; rw [show Tryd.f6.ntmps = 19 from rfl]; rw [show Tryd.f6.results.toList = [.tmp 2, .tmp 3] from rfl] at hfin; apply holds_of_ex X 400; simp only [push_cast, reduceCtorEq, Nat.reduceAdd, Nat.reduceMul, Nat.reduceSub, Nat.reduceBEq, Nat.reduceGT, Nat.reduceLT, Int.toNat_zero, Nat.reduceLeDiff, Int.reduceEq, Int.reduceLT, Int.reduceLE, hP, hΓ, hL, hfin, h15, hp, hu])
  refine ⟨⟨⟨10, rfl⟩, hl⟩, ?_⟩
  have hdr : List.drop ls.length ((ls ++ [r]).map AV.str) = [.str r] := by rw [← List.map_drop, List.drop_left]; rfl
  have htk : List.take ls.length ((ls ++ [r]).map AV.str) = ls.map .str := by rw [← List.map_take, List.take_left]
  (refine Holds.drawnQ (by rw [hP]; kernel_rfl) (by kernel_rfl) ?_; simp only [push_cast, reduceCtorEq, Nat.reduceAdd, Nat.reduceMul, Nat.reduceSub, Nat.reduceBEq, Nat.reduceGT, Nat.reduceLT, Int.toNat_zero, Nat.reduceLeDiff, Int.reduceEq, Int.reduceLT, Int.reduceLE, hP, hΓ, hL, hfin, hdr, htk])
  refine ⟨⟨by omega, by omega⟩, ⟨by omega, by omega⟩, ⟨by omega, by omega⟩, ?_⟩
  rw [Nat.sub_zero]
  exact Into.same (by first | exact leF_refl _ | (simp only [leF, true_and, and_true, and_self]; done) | (simp [leF]; done)) (by simp only [List.all_cons, List.all_nil, push_cast, reduceCtorEq, Nat.reduceAdd, Nat.reduceMul, Nat.reduceSub, Nat.reduceBEq, Nat.reduceGT, Nat.reduceLT, Int.toNat_zero, Nat.reduceLeDiff, Int.reduceEq, Int.reduceLT, Int.reduceLE]) (by simp only [List.all_cons, List.all_nil, push_cast, reduceCtorEq, Nat.reduceAdd, Nat.reduceMul, Nat.reduceSub, Nat.reduceBEq, Nat.reduceGT, Nat.reduceLT, Int.toNat_zero, Nat.reduceLeDiff, Int.reduceEq, Int.reduceLT, Int.reduceLE]) (by first | decide | simp)
theorem pieces_cons {c : UInt8} : ∀ (w r : List UInt8), (∀ b ∈ w, b ≠ c) → pieces c (w ++ c :: r) = w :: pieces c r
  | [], r, _ => by simp [pieces]
  | b :: w, r, h => by
    have hb := h b (by simp)
    rw [List.cons_append, pieces, if_neg hb, pieces_cons w r fun x hx => h x (by simp [hx])]; rfl
theorem pieces_free {c : UInt8} : ∀ (w : List UInt8), (∀ b ∈ w, b ≠ c) → pieces c w = [w]
  | [], _ => rfl
  | b :: w, h => by
    have hb := h b (by simp)
    rw [pieces, if_neg hb, pieces_free w fun x hx => h x (by simp [hx])]; rfl
theorem free_of {l : List UInt8} {f i : Nat} (hi : i ≤ l.length) (h : ∀ j, f ≤ j → j < i → l.getD j 0 ≠ 10) : ∀ b ∈ (l.take i).drop f, b ≠ 10 := by
  intro b hb
  obtain ⟨j, hj, rfl⟩ := List.mem_iff_getElem.1 hb
  simp only [List.length_drop, List.length_take] at hj
  have := h (f + j) (by omega) (by omega)
  rw [List.getD_eq_getElem?_getD, List.getElem?_eq_getElem (by omega), Option.getD_some] at this
  simpa using this
theorem pieces_at {l : List UInt8} {f i : Nat} (hf : f ≤ i) (hi : i < l.length) (h : ∀ j, f ≤ j → j < i → l.getD j 0 ≠ 10) (h10 : l.getD i 0 = 10) : pieces 10 (l.drop f) = (l.take i).drop f :: pieces 10 (l.drop (i + 1)) := by
  have e : l.drop f = (l.take i).drop f ++ 10 :: l.drop (i + 1) := by
    rw [List.getD_eq_getElem?_getD, List.getElem?_eq_getElem hi, Option.getD_some] at h10
    conv => lhs; rw [← List.take_append_drop i l, List.drop_append_of_le_length (by simp; omega), List.drop_eq_getElem_cons hi, h10]
  rw [e, pieces_cons _ _ (free_of (by omega) h)]
set_option maxRecDepth 100000 in
theorem lines_ref (Γ : Env) (l : List UInt8) (hl : l.length ≤ 4194304) : BodyOk Tryd.prog Γ Tryd.f9 [.str l] [] (linesV l) [] := by
  have hpl := pieces_le 10 l
  (intro X hP hΓ hL hfin; refine ⟨_, rfl, ?_⟩; rw [show Tryd.f9.ntmps = 30 from rfl]; rw [show Tryd.f9.results.toList = [.tmp 2, .tmp 3] from rfl] at hfin; apply holds_of_ex X 400; simp only [push_cast, reduceCtorEq, Nat.reduceAdd, Nat.reduceMul, Nat.reduceSub, Nat.reduceBEq, Nat.reduceGT, Nat.reduceLT, Int.toNat_zero, Nat.reduceLeDiff, Int.reduceEq, Int.reduceLT, Int.reduceLE, hP, hΓ, hL, hfin])
  refine Holds.loop (ι := { p : List (List UInt8) × Nat × Nat // p.1 ++ pieces 10 (l.drop p.2.1) = pieces 10 l ∧ p.2.1 ≤ p.2.2 ∧ p.2.2 ≤ l.length ∧ ∀ j, p.2.1 ≤ j → j < p.2.2 → l.getD j 0 ≠ 10 })
    (fun i => ([.str l, .any, .any, .any, .msl 0 0 0 i.1.1.length, .int .i64 i.1.2.1, .int .i64 i.1.2.2, .any, .any, .any, .any, .any, .any, .any, .any, .any, .any, .any, .any, .any, .any, .any, .any, .any, .any, .any, .any, .any, .any, .any], [.row (i.1.1.map .str) 1 0])) (fun i => l.length - i.1.2.2) ⟨([], 0, 0), rfl, Nat.le_refl _, Nat.zero_le _, by intro j h1 h2; simp only at h2; omega⟩ ?_ ?_
  · rw [hL]
    (refine IntoF.nil 4  1 rfl ?_; simp only [List.all_cons, List.all_nil, push_cast, reduceCtorEq, Nat.reduceAdd, Nat.reduceMul, Nat.reduceSub, Nat.reduceBEq, Nat.reduceGT, Nat.reduceLT, Int.toNat_zero, Nat.reduceLeDiff, Int.reduceEq, Int.reduceLT, Int.reduceLE])
    (try simp only [List.map_append, List.append_assoc, List.map_cons, List.map_nil, List.length_append, List.length_cons, List.length_nil, byteAV, Nat.add_assoc, Nat.reduceAdd, Nat.zero_add, Nat.add_zero, List.append_nil, List.cons_append, List.nil_append])
    try simp only [Int.natCast_zero]
    exact Into.same (by first | exact leF_refl _ | (simp only [leF, true_and, and_true, and_self]; done) | (simp [leF]; done)) (by simp only [List.all_cons, List.all_nil, push_cast, reduceCtorEq, Nat.reduceAdd, Nat.reduceMul, Nat.reduceSub, Nat.reduceBEq, Nat.reduceGT, Nat.reduceLT, Int.toNat_zero, Nat.reduceLeDiff, Int.reduceEq, Int.reduceLT, Int.reduceLE]) (by simp only [List.all_cons, List.all_nil, push_cast, reduceCtorEq, Nat.reduceAdd, Nat.reduceMul, Nat.reduceSub, Nat.reduceBEq, Nat.reduceGT, Nat.reduceLT, Int.toNat_zero, Nat.reduceLeDiff, Int.reduceEq, Int.reduceLT, Int.reduceLE]) (by first | decide | simp)
  rintro ⟨⟨p, f, i⟩, hp, hfi, hi, hno⟩
  simp only at hp hfi hi hno
  have hlen := congrArg List.length hp
  rw [List.length_append] at hlen
  ((first | refine holds_of_ex X 400 _ _ _ ?_ | skip); simp only [push_cast, reduceCtorEq, Nat.reduceAdd, Nat.reduceMul, Nat.reduceSub, Nat.reduceBEq, Nat.reduceGT, Nat.reduceLT, Int.toNat_zero, Nat.reduceLeDiff, Int.reduceEq, Int.reduceLT, Int.reduceLE, hP, hΓ, hL, hfin])
  refine exB_split (fun h => ?_) (fun h => ?_)
  · have hi' : i < l.length := by have := of_decide_eq_true h; omega
    have hu : IntKind.i64.wrap ((i : Int) + 1) = (i : Int) + 1 := wrap_i64 _ (by omega)
    ((first | refine holds_of_ex X 400 _ _ _ ?_ | skip); simp only [push_cast, reduceCtorEq, Nat.reduceAdd, Nat.reduceMul, Nat.reduceSub, Nat.reduceBEq, Nat.reduceGT, Nat.reduceLT, Int.toNat_zero, Nat.reduceLeDiff, Int.reduceEq, Int.reduceLT, Int.reduceLE, hP, hΓ, hL, hfin, hu])
    refine ⟨⟨by omega, by omega⟩, ?_⟩
    refine exB_split (fun h => ?_) (fun h => ?_)
    · have h10 : l.getD i 0 = 10 := by
        have := of_decide_eq_true h
        apply UInt8.toNat_inj.1
        simp [List.getD] at this ⊢; omega
      have hc := pieces_at hfi hi' hno h10
      rw [hc] at hp
      ((first | refine holds_of_ex X 400 _ _ _ ?_ | skip); simp only [push_cast, reduceCtorEq, Nat.reduceAdd, Nat.reduceMul, Nat.reduceSub, Nat.reduceBEq, Nat.reduceGT, Nat.reduceLT, Int.toNat_zero, Nat.reduceLeDiff, Int.reduceEq, Int.reduceLT, Int.reduceLE, hP, hΓ, hL, hfin, hu])
      have hpc := pieces_le 10 l
      have hlen2 := congrArg List.length hp
      simp only [List.length_append, List.length_cons] at hlen2
      refine ⟨⟨by omega, by omega, by omega⟩, by omega, ⟨(p ++ [(l.take i).drop f], i + 1, i + 1), by simpa using hp, Nat.le_refl _, hi', by intro j h1 h2; simp only at h1 h2; omega⟩, by simp only; omega, ?_⟩
      (refine IntoF.ver 0  0 (by simp only [List.all_cons, List.all_nil, push_cast, reduceCtorEq, Nat.reduceAdd, Nat.reduceMul, Nat.reduceSub, Nat.reduceBEq, Nat.reduceGT, Nat.reduceLT, Int.toNat_zero, Nat.reduceLeDiff, Int.reduceEq, Int.reduceLT, Int.reduceLE]) (by first | exact .inr (Nat.zero_le _) | (left; simp only [List.all_cons, List.all_nil, push_cast, reduceCtorEq, Nat.reduceAdd, Nat.reduceMul, Nat.reduceSub, Nat.reduceBEq, Nat.reduceGT, Nat.reduceLT, Int.toNat_zero, Nat.reduceLeDiff, Int.reduceEq, Int.reduceLT, Int.reduceLE]; omega) | (right; simp only [List.all_cons, List.all_nil, push_cast, reduceCtorEq, Nat.reduceAdd, Nat.reduceMul, Nat.reduceSub, Nat.reduceBEq, Nat.reduceGT, Nat.reduceLT, Int.toNat_zero, Nat.reduceLeDiff, Int.reduceEq, Int.reduceLT, Int.reduceLE]; omega)) ?_; simp only [List.all_cons, List.all_nil, push_cast, reduceCtorEq, Nat.reduceAdd, Nat.reduceMul, Nat.reduceSub, Nat.reduceBEq, Nat.reduceGT, Nat.reduceLT, Int.toNat_zero, Nat.reduceLeDiff, Int.reduceEq, Int.reduceLT, Int.reduceLE])
      (try simp only [List.map_append, List.append_assoc, List.map_cons, List.map_nil, List.length_append, List.length_cons, List.length_nil, byteAV, Nat.add_assoc, Nat.reduceAdd, Nat.zero_add, Nat.add_zero, List.append_nil, List.cons_append, List.nil_append])
      (refine Into.keep1 (by first | exact leF_refl _ | (simp only [leF, true_and, and_true, and_self]; done) | (simp [leF]; done)) (by simp only [List.all_cons, List.all_nil, push_cast, reduceCtorEq, Nat.reduceAdd, Nat.reduceMul, Nat.reduceSub, Nat.reduceBEq, Nat.reduceGT, Nat.reduceLT, Int.toNat_zero, Nat.reduceLeDiff, Int.reduceEq, Int.reduceLT, Int.reduceLE]) (by simp only [List.all_cons, List.all_nil, push_cast, reduceCtorEq, Nat.reduceAdd, Nat.reduceMul, Nat.reduceSub, Nat.reduceBEq, Nat.reduceGT, Nat.reduceLT, Int.toNat_zero, Nat.reduceLeDiff, Int.reduceEq, Int.reduceLT, Int.reduceLE]) (by first | decide | simp))
    · have hne : l.getD i 0 ≠ 10 := by
        have := of_decide_eq_false h
        intro e; rw [e] at this; exact this rfl
      ((first | refine holds_of_ex X 400 _ _ _ ?_ | skip); simp only [push_cast, reduceCtorEq, Nat.reduceAdd, Nat.reduceMul, Nat.reduceSub, Nat.reduceBEq, Nat.reduceGT, Nat.reduceLT, Int.toNat_zero, Nat.reduceLeDiff, Int.reduceEq, Int.reduceLT, Int.reduceLE, hP, hΓ, hL, hfin, hu])
      refine ⟨⟨(p, f, i + 1), hp, by simp only; omega, hi', fun j (h1 : f ≤ j) (h2 : j < i + 1) => ?_⟩, by simp only; omega, by exact Into.same (by first | exact leF_refl _ | (simp only [leF, true_and, and_true, and_self]; done) | (simp [leF]; done)) (by simp only [List.all_cons, List.all_nil, push_cast, reduceCtorEq, Nat.reduceAdd, Nat.reduceMul, Nat.reduceSub, Nat.reduceBEq, Nat.reduceGT, Nat.reduceLT, Int.toNat_zero, Nat.reduceLeDiff, Int.reduceEq, Int.reduceLT, Int.reduceLE]) (by simp only [List.all_cons, List.all_nil, push_cast, reduceCtorEq, Nat.reduceAdd, Nat.reduceMul, Nat.reduceSub, Nat.reduceBEq, Nat.reduceGT, Nat.reduceLT, Int.toNat_zero, Nat.reduceLeDiff, Int.reduceEq, Int.reduceLT, Int.reduceLE]) (by first | decide | simp)⟩
      by_cases hj : j < i
      · exact hno j h1 hj
      · rw [show j = i by omega]; exact hne
  · have hi' : i = l.length := by have := of_decide_eq_false h; omega
    have hfree : pieces 10 (l.drop f) = [l.drop f] := by
      have := pieces_free _ (free_of (l := l) (f := f) (Nat.le_refl _) (by rw [← hi']; exact hno))
      rwa [List.take_length] at this
    rw [hfree, lines_eq l] at hp
    have hq := List.append_inj' hp rfl
    have hq2 : l.drop f = lrF l := (List.cons.inj hq.2).1
    ((first | refine holds_of_ex X 400 _ _ _ ?_ | skip); simp only [push_cast, reduceCtorEq, Nat.reduceAdd, Nat.reduceMul, Nat.reduceSub, Nat.reduceBEq, Nat.reduceGT, Nat.reduceLT, Int.toNat_zero, Nat.reduceLeDiff, Int.reduceEq, Int.reduceLT, Int.reduceLE, hP, hΓ, hL, hfin])
    (refine Holds.drawnQ (by rw [hP]; kernel_rfl) (by kernel_rfl) ?_; simp only [push_cast, reduceCtorEq, Nat.reduceAdd, Nat.reduceMul, Nat.reduceSub, Nat.reduceBEq, Nat.reduceGT, Nat.reduceLT, Int.toNat_zero, Nat.reduceLeDiff, Int.reduceEq, Int.reduceLT, Int.reduceLE, hP, hΓ, hL, hfin, List.take_length])
    refine ⟨⟨by omega, by omega, by omega⟩, ?_⟩
    rw [hq.1, hq2]
    (refine IntoF.frz 0 (by simp only [List.all_cons, List.all_nil, push_cast, reduceCtorEq, Nat.reduceAdd, Nat.reduceMul, Nat.reduceSub, Nat.reduceBEq, Nat.reduceGT, Nat.reduceLT, Int.toNat_zero, Nat.reduceLeDiff, Int.reduceEq, Int.reduceLT, Int.reduceLE]; first | done | decide | omega) (by simp only [frzOk', frzOk, isMap, or_true, true_or, List.all_cons, List.all_nil, push_cast, reduceCtorEq, Nat.reduceAdd, Nat.reduceMul, Nat.reduceSub, Nat.reduceBEq, Nat.reduceGT, Nat.reduceLT, Int.toNat_zero, Nat.reduceLeDiff, Int.reduceEq, Int.reduceLT, Int.reduceLE]) ?_; simp only [List.all_cons, List.all_nil, push_cast, reduceCtorEq, Nat.reduceAdd, Nat.reduceMul, Nat.reduceSub, Nat.reduceBEq, Nat.reduceGT, Nat.reduceLT, Int.toNat_zero, Nat.reduceLeDiff, Int.reduceEq, Int.reduceLT, Int.reduceLE])
    (refine Into.keep0 (by first | exact leF_refl _ | (simp only [leF, true_and, and_true, and_self]; done) | (simp [leF]; done)) (by simp only [List.all_cons, List.all_nil, push_cast, reduceCtorEq, Nat.reduceAdd, Nat.reduceMul, Nat.reduceSub, Nat.reduceBEq, Nat.reduceGT, Nat.reduceLT, Int.toNat_zero, Nat.reduceLeDiff, Int.reduceEq, Int.reduceLT, Int.reduceLE]) (by simp only [List.all_cons, List.all_nil, push_cast, reduceCtorEq, Nat.reduceAdd, Nat.reduceMul, Nat.reduceSub, Nat.reduceBEq, Nat.reduceGT, Nat.reduceLT, Int.toNat_zero, Nat.reduceLeDiff, Int.reduceEq, Int.reduceLT, Int.reduceLE]) (by first | decide | simp))
theorem spoil_m (Γ : Env) (ss : List (List UInt8)) (n v : Nat) (hn : n ≤ ss.length) (ha : n ≤ 1048576) : BodyOk Tryd.prog Γ Tryd.f11 [.msl 0 v 0 n] [.row (ss.map .str) 1 v] (.tup []) [.row ((List.replicate n mine ++ ss.drop n).map .str) 1 v] := by
  (intro X hP hΓ hL hfin; refine ⟨_, rfl, ?_⟩; rw [show Tryd.f11.ntmps = 12 from rfl]; rw [show Tryd.f11.results.toList = [] from rfl] at hfin; apply holds_of_ex X 400; simp only [push_cast, reduceCtorEq, Nat.reduceAdd, Nat.reduceMul, Nat.reduceSub, Nat.reduceBEq, Nat.reduceGT, Nat.reduceLT, Int.toNat_zero, Nat.reduceLeDiff, Int.reduceEq, Int.reduceLT, Int.reduceLE, hP, hΓ, hL, hfin])
  refine Holds.loop (ι := { k : Nat // k ≤ n }) (fun k => ([.msl 0 v 0 n, .any, .int .i64 k.1, .any, .any, .any, .any, .any, .any, .any, .any, .any], [.row ((spoiled ss k.1).map .str) 1 v])) (fun k => n - k.1) ⟨0, Nat.zero_le _⟩ ?_ ?_
  · rw [hL]
    simp only [spoiled, List.replicate_zero, List.nil_append, List.drop_zero, Int.natCast_zero]
    exact Into.same (by first | exact leF_refl _ | (simp only [leF, true_and, and_true, and_self]; done) | (simp [leF]; done)) (by simp only [List.all_cons, List.all_nil, push_cast, reduceCtorEq, Nat.reduceAdd, Nat.reduceMul, Nat.reduceSub, Nat.reduceBEq, Nat.reduceGT, Nat.reduceLT, Int.toNat_zero, Nat.reduceLeDiff, Int.reduceEq, Int.reduceLT, Int.reduceLE]) (by simp only [List.all_cons, List.all_nil, push_cast, reduceCtorEq, Nat.reduceAdd, Nat.reduceMul, Nat.reduceSub, Nat.reduceBEq, Nat.reduceGT, Nat.reduceLT, Int.toNat_zero, Nat.reduceLeDiff, Int.reduceEq, Int.reduceLT, Int.reduceLE]) (by first | decide | simp)
  rintro ⟨k, hk⟩
  have hsl := spoiled_len ss k (by omega)
  ((first | refine holds_of_ex X 400 _ _ _ ?_ | skip); simp only [push_cast, reduceCtorEq, Nat.reduceAdd, Nat.reduceMul, Nat.reduceSub, Nat.reduceBEq, Nat.reduceGT, Nat.reduceLT, Int.toNat_zero, Nat.reduceLeDiff, Int.reduceEq, Int.reduceLT, Int.reduceLE, hP, hΓ, hL, hfin])
  refine exB_split (fun h => ?_) (fun h => ?_)
  · have hk' : k < n := by have := of_decide_eq_true h; omega
    have hu : IntKind.i64.wrap ((k : Int) + 1) = (k : Int) + 1 := wrap_i64 _ (by omega)
    have hst := spoiled_step ss k (by omega)
    ((first | refine holds_of_ex X 400 _ _ _ ?_ | skip); simp only [push_cast, reduceCtorEq, Nat.reduceAdd, Nat.reduceMul, Nat.reduceSub, Nat.reduceBEq, Nat.reduceGT, Nat.reduceLT, Int.toNat_zero, Nat.reduceLeDiff, Int.reduceEq, Int.reduceLT, Int.reduceLE, hP, hΓ, hL, hfin, hu, hsl])
    rw [show ([109, 105, 110, 101] : List UInt8) = mine from rfl, List.append_assoc, List.singleton_append, hst]
    exact ⟨⟨by omega, by omega⟩, by omega, ⟨k + 1, hk'⟩, by simp only; omega, by exact Into.same (by first | exact leF_refl _ | (simp only [leF, true_and, and_true, and_self]; done) | (simp [leF]; done)) (by simp only [List.all_cons, List.all_nil, push_cast, reduceCtorEq, Nat.reduceAdd, Nat.reduceMul, Nat.reduceSub, Nat.reduceBEq, Nat.reduceGT, Nat.reduceLT, Int.toNat_zero, Nat.reduceLeDiff, Int.reduceEq, Int.reduceLT, Int.reduceLE]) (by simp only [List.all_cons, List.all_nil, push_cast, reduceCtorEq, Nat.reduceAdd, Nat.reduceMul, Nat.reduceSub, Nat.reduceBEq, Nat.reduceGT, Nat.reduceLT, Int.toNat_zero, Nat.reduceLeDiff, Int.reduceEq, Int.reduceLT, Int.reduceLE]) (by first | decide | simp)⟩
  · ((first | refine holds_of_ex X 400 _ _ _ ?_ | skip); simp only [push_cast, reduceCtorEq, Nat.reduceAdd, Nat.reduceMul, Nat.reduceSub, Nat.reduceBEq, Nat.reduceGT, Nat.reduceLT, Int.toNat_zero, Nat.reduceLeDiff, Int.reduceEq, Int.reduceLT, Int.reduceLE, hP, hΓ, hL, hfin])
    have hk' : k = n := by have := (decide_eq_false_iff_not.1 h); omega
    have e : spoiled ss k = List.replicate n mine ++ ss.drop n := by rw [spoiled, hk']
    rw [e]
    exact Into.same (by first | exact leF_refl _ | (simp only [leF, true_and, and_true, and_self]; done) | (simp [leF]; done)) (by simp only [List.all_cons, List.all_nil, push_cast, reduceCtorEq, Nat.reduceAdd, Nat.reduceMul, Nat.reduceSub, Nat.reduceBEq, Nat.reduceGT, Nat.reduceLT, Int.toNat_zero, Nat.reduceLeDiff, Int.reduceEq, Int.reduceLT, Int.reduceLE]) (by simp only [List.all_cons, List.all_nil, push_cast, reduceCtorEq, Nat.reduceAdd, Nat.reduceMul, Nat.reduceSub, Nat.reduceBEq, Nat.reduceGT, Nat.reduceLT, Int.toNat_zero, Nat.reduceLeDiff, Int.reduceEq, Int.reduceLT, Int.reduceLE]) (by first | decide | simp)
theorem spoil_c (Γ : Env) (ss : List (List UInt8)) (n v : Nat) (hn : n ≤ ss.length) (ha : n ≤ 1048576) : BodyOk Tryd.prog Γ Tryd.f11 [.csl 0 v 0 n] [.row (ss.map .str) 1 v] (.tup []) [.row ((List.replicate n mine ++ ss.drop n).map .str) 1 v] := by
  (intro X hP hΓ hL hfin; refine ⟨_, rfl, ?_⟩; rw [show Tryd.f11.ntmps = 12 from rfl]; rw [show Tryd.f11.results.toList = [] from rfl] at hfin; apply holds_of_ex X 400; simp only [push_cast, reduceCtorEq, Nat.reduceAdd, Nat.reduceMul, Nat.reduceSub, Nat.reduceBEq, Nat.reduceGT, Nat.reduceLT, Int.toNat_zero, Nat.reduceLeDiff, Int.reduceEq, Int.reduceLT, Int.reduceLE, hP, hΓ, hL, hfin])
  refine Holds.loop (ι := { k : Nat // k ≤ n }) (fun k => ([.csl 0 v 0 n, .any, .int .i64 k.1, .any, .any, .any, .any, .any, .any, .any, .any, .any], [.row ((spoiled ss k.1).map .str) 1 v])) (fun k => n - k.1) ⟨0, Nat.zero_le _⟩ ?_ ?_
  · rw [hL]
    simp only [spoiled, List.replicate_zero, List.nil_append, List.drop_zero, Int.natCast_zero]
    exact Into.same (by first | exact leF_refl _ | (simp only [leF, true_and, and_true, and_self]; done) | (simp [leF]; done)) (by simp only [List.all_cons, List.all_nil, push_cast, reduceCtorEq, Nat.reduceAdd, Nat.reduceMul, Nat.reduceSub, Nat.reduceBEq, Nat.reduceGT, Nat.reduceLT, Int.toNat_zero, Nat.reduceLeDiff, Int.reduceEq, Int.reduceLT, Int.reduceLE]) (by simp only [List.all_cons, List.all_nil, push_cast, reduceCtorEq, Nat.reduceAdd, Nat.reduceMul, Nat.reduceSub, Nat.reduceBEq, Nat.reduceGT, Nat.reduceLT, Int.toNat_zero, Nat.reduceLeDiff, Int.reduceEq, Int.reduceLT, Int.reduceLE]) (by first | decide | simp)
  rintro ⟨k, hk⟩
  have hsl := spoiled_len ss k (by omega)
  ((first | refine holds_of_ex X 400 _ _ _ ?_ | skip); simp only [push_cast, reduceCtorEq, Nat.reduceAdd, Nat.reduceMul, Nat.reduceSub, Nat.reduceBEq, Nat.reduceGT, Nat.reduceLT, Int.toNat_zero, Nat.reduceLeDiff, Int.reduceEq, Int.reduceLT, Int.reduceLE, hP, hΓ, hL, hfin])
  refine exB_split (fun h => ?_) (fun h => ?_)
  · have hk' : k < n := by have := of_decide_eq_true h; omega
    have hu : IntKind.i64.wrap ((k : Int) + 1) = (k : Int) + 1 := wrap_i64 _ (by omega)
    have hst := spoiled_step ss k (by omega)
    ((first | refine holds_of_ex X 400 _ _ _ ?_ | skip); simp only [push_cast, reduceCtorEq, Nat.reduceAdd, Nat.reduceMul, Nat.reduceSub, Nat.reduceBEq, Nat.reduceGT, Nat.reduceLT, Int.toNat_zero, Nat.reduceLeDiff, Int.reduceEq, Int.reduceLT, Int.reduceLE, hP, hΓ, hL, hfin, hu, hsl])
    rw [show ([109, 105, 110, 101] : List UInt8) = mine from rfl, List.append_assoc, List.singleton_append, hst]
    exact ⟨⟨by omega, by omega⟩, by omega, ⟨k + 1, hk'⟩, by simp only; omega, by exact Into.same (by first | exact leF_refl _ | (simp only [leF, true_and, and_true, and_self]; done) | (simp [leF]; done)) (by simp only [List.all_cons, List.all_nil, push_cast, reduceCtorEq, Nat.reduceAdd, Nat.reduceMul, Nat.reduceSub, Nat.reduceBEq, Nat.reduceGT, Nat.reduceLT, Int.toNat_zero, Nat.reduceLeDiff, Int.reduceEq, Int.reduceLT, Int.reduceLE]) (by simp only [List.all_cons, List.all_nil, push_cast, reduceCtorEq, Nat.reduceAdd, Nat.reduceMul, Nat.reduceSub, Nat.reduceBEq, Nat.reduceGT, Nat.reduceLT, Int.toNat_zero, Nat.reduceLeDiff, Int.reduceEq, Int.reduceLT, Int.reduceLE]) (by first | decide | simp)⟩
  · ((first | refine holds_of_ex X 400 _ _ _ ?_ | skip); simp only [push_cast, reduceCtorEq, Nat.reduceAdd, Nat.reduceMul, Nat.reduceSub, Nat.reduceBEq, Nat.reduceGT, Nat.reduceLT, Int.toNat_zero, Nat.reduceLeDiff, Int.reduceEq, Int.reduceLT, Int.reduceLE, hP, hΓ, hL, hfin])
    have hk' : k = n := by have := (decide_eq_false_iff_not.1 h); omega
    have e : spoiled ss k = List.replicate n mine ++ ss.drop n := by rw [spoiled, hk']
    rw [e]
    exact Into.same (by first | exact leF_refl _ | (simp only [leF, true_and, and_true, and_self]; done) | (simp [leF]; done)) (by simp only [List.all_cons, List.all_nil, push_cast, reduceCtorEq, Nat.reduceAdd, Nat.reduceMul, Nat.reduceSub, Nat.reduceBEq, Nat.reduceGT, Nat.reduceLT, Int.toNat_zero, Nat.reduceLeDiff, Int.reduceEq, Int.reduceLT, Int.reduceLE]) (by simp only [List.all_cons, List.all_nil, push_cast, reduceCtorEq, Nat.reduceAdd, Nat.reduceMul, Nat.reduceSub, Nat.reduceBEq, Nat.reduceGT, Nat.reduceLT, Int.toNat_zero, Nat.reduceLeDiff, Int.reduceEq, Int.reduceLT, Int.reduceLE]) (by first | decide | simp)
def spoilG : GSpec where
  ids xs := match xs with
    | [.msl id _ _ _] => [id]
    | [.csl id _ _ _] => [id]
    | _ => []
  args xs L := match xs with
    | [.msl _ v o n] => [.msl 0 v o n]
    | [.csl _ v o n] => [.csl 0 v o n]
    | _ => []
  start xs L := match xs with
    | [.msl id _ _ _] => (match L[id]? with | some o => [o] | none => [])
    | [.csl id _ _ _] => (match L[id]? with | some o => [o] | none => [])
    | _ => []
  pre xs L := match xs, L with
    | [.msl id v o n], [.row cs sz v'] => id = 0 ∧ o = 0 ∧ sz = 1 ∧ v' = v ∧ (∃ ss : List (List UInt8), cs = ss.map .str ∧ n ≤ ss.length) ∧ n ≤ 1048576
    | [.csl id v o n], [.row cs sz v'] => id = 0 ∧ o = 0 ∧ sz = 1 ∧ v' = v ∧ (∃ ss : List (List UInt8), cs = ss.map .str ∧ n ≤ ss.length) ∧ n ≤ 1048576
    | _, _ => False
  res xs L := .tup []
  post xs L := match xs, L with
    | [.msl id v o n], [.row cs sz v'] => [.row ((List.replicate n mine ++ (strsOf cs).drop n).map .str) 1 v]
    | [.csl id v o n], [.row cs sz v'] => [.row ((List.replicate n mine ++ (strsOf cs).drop n).map .str) 1 v]
    | _, _ => []
def spoilF : FSpec := liftG spoilG
attribute [push_cast] spoilF spoilG
theorem con11F {Γ : Env} (h : EnvOk Tryd.prog Γ) : Con Tryd.prog 11 spoilF := by
  refine Con.liftG_of_body h (fn := Tryd.f11) (by kernel_rfl) rfl (by kernel_rfl) fun xs L hx => ?_
  simp only [spoilG] at hx ⊢
  split at hx
  · obtain ⟨rfl, rfl, rfl, rfl, ⟨ss, rfl, hn⟩, hp⟩ := hx
    simp only [strsOf_map]
    exact spoil_m Γ ss _ _ hn hp
  · obtain ⟨rfl, rfl, rfl, rfl, ⟨ss, rfl, hn⟩, hp⟩ := hx
    simp only [strsOf_map]
    exact spoil_c Γ ss _ _ hn hp
  · exact hx.elim
def linesF : FSpec := lift0 wsP (fun xs => match xs with | [.str l] => .tup [.csl 0 0 0 (lnF l).length, .str (lrF l)] | _ => .any) (fun xs => match xs with | [.str l] => [.row ((lnF l ++ [lrF l]).map .str) 1 0] | _ => []) false
attribute [push_cast] linesF
theorem con6F {Γ : Env} (h : EnvOk Tryd.prog Γ) (h15 : Γ 15 = some split2F) : Con Tryd.prog 6 linesF := by
  refine Con.of_body h (fn := Tryd.f6) (by kernel_rfl) rfl (by kernel_rfl) (fun h => by cases h) fun xs hx => ?_
  unfold wsP at hx
  split at hx
  · exact lines_own Γ h15 _ hx _ _ (lines_eq _)
  · exact hx.elim
theorem con9F {Γ : Env} (h : EnvOk Tryd.prog Γ) : Con Tryd.prog 9 linesS := by
  refine Con.of_body h (fn := Tryd.f9) (by kernel_rfl) rfl (by kernel_rfl) (fun _ _ => rfl) fun xs hx => ?_
  unfold wsP at hx
  split at hx
  · exact lines_ref Γ _ hx
  · exact hx.elim
def keysS : FSpec := lift0 (fun xs => xs = [.mpr none cmdF]) (fun _ => .fn (.func 24) [] [.ref 0 0 0]) (fun _ => [.row [.mpr none cmdF] 1 0]) false
attribute [push_cast] keysS sortedS sortedP
theorem keys_body (Γ : Env) : BodyOk Tryd.prog Γ Tryd.f18 [.mpr none cmdF] [] (.fn (.func 24) [] [.ref 0 0 0]) [.row [.mpr none cmdF] 1 0] := by
  (intro X hP hΓ hL hfin; refine ⟨_, rfl, ?_⟩; rw [show Tryd.f18.ntmps = 4 from rfl]; rw [show Tryd.f18.results.toList = [.tmp 2] from rfl] at hfin; apply holds_of_ex X 400; simp only [push_cast, reduceCtorEq, Nat.reduceAdd, Nat.reduceMul, Nat.reduceSub, Nat.reduceBEq, Nat.reduceGT, Nat.reduceLT, Int.toNat_zero, Nat.reduceLeDiff, Int.reduceEq, Int.reduceLT, Int.reduceLE, hP, hΓ, hL, hfin])
  exact Into.same (by first | exact leF_refl _ | (simp only [leF, true_and, and_true, and_self]; done) | (simp [leF]; done)) (by simp only [List.all_cons, List.all_nil, push_cast, reduceCtorEq, Nat.reduceAdd, Nat.reduceMul, Nat.reduceSub, Nat.reduceBEq, Nat.reduceGT, Nat.reduceLT, Int.toNat_zero, Nat.reduceLeDiff, Int.reduceEq, Int.reduceLT, Int.reduceLE]) (by simp only [List.all_cons, List.all_nil, push_cast, reduceCtorEq, Nat.reduceAdd, Nat.reduceMul, Nat.reduceSub, Nat.reduceBEq, Nat.reduceGT, Nat.reduceLT, Int.toNat_zero, Nat.reduceLeDiff, Int.reduceEq, Int.reduceLT, Int.reduceLE]) (by first | decide | simp)
theorem con18 {Γ : Env} (h : EnvOk Tryd.prog Γ) : Con Tryd.prog 18 keysS := by
  refine Con.of_body h (fn := Tryd.f18) (by kernel_rfl) rfl (by kernel_rfl) (fun h => by cases h) fun xs hx => ?_
  obtain rfl := hx
  exact keys_body Γ
def namesF : FSpec := lift0 (fun xs => xs = []) (fun _ => .msl 0 0 0 10) (fun _ => [.row (names.map .str) 1 0]) false
def namesR : FSpec := lift0 (fun xs => xs = []) (fun _ => .sl (names.map .str) 10) (fun _ => []) true
attribute [push_cast] namesF namesR
theorem names_body (Γ : Env) (h19 : Γ 19 = some cmdS) (h18 : Γ 18 = some keysS) (h17 : Γ 17 = some sortedS) : BodyOk Tryd.prog Γ Tryd.f12 [] [] (.msl 0 0 0 10) [.row (names.map .str) 1 0] := by
  (intro X hP hΓ hL hfin; refine ⟨_, rfl, ?_⟩; rw [show Tryd.f12.ntmps = 4 from rfl]; rw [show Tryd.f12.results.toList = [.tmp 0] from rfl] at hfin; apply holds_of_ex X 400; simp only [push_cast, reduceCtorEq, Nat.reduceAdd, Nat.reduceMul, Nat.reduceSub, Nat.reduceBEq, Nat.reduceGT, Nat.reduceLT, Int.toNat_zero, Nat.reduceLeDiff, Int.reduceEq, Int.reduceLT, Int.reduceLE, hP, hΓ, hL, hfin, h19, h18, h17])
  exact Into.pick1 (by simp [leF, renL, ren]) (by simp only [push_cast]) rfl (by simp only [push_cast])
theorem names_ref (Γ : Env) : BodyOk Tryd.prog Γ Tryd.f13 [] [] (.sl (names.map .str) 10) [] := by
  (intro X hP hΓ hL hfin; refine ⟨_, rfl, ?_⟩; rw [show Tryd.f13.ntmps = 2 from rfl]; rw [show Tryd.f13.results.toList = [.tmp 0] from rfl] at hfin; apply holds_of_ex X 400; simp only [push_cast, reduceCtorEq, Nat.reduceAdd, Nat.reduceMul, Nat.reduceSub, Nat.reduceBEq, Nat.reduceGT, Nat.reduceLT, Int.toNat_zero, Nat.reduceLeDiff, Int.reduceEq, Int.reduceLT, Int.reduceLE, hP, hΓ, hL, hfin])
  change IntoF [] [AV.msl 0 0 0 10] [AObj.row (names.map .str) 1 0] _
  have tk : List.take 10 (names.map AV.str) = names.map .str := rfl
  (refine IntoF.frz 0 (by simp only [List.all_cons, List.all_nil, push_cast, reduceCtorEq, Nat.reduceAdd, Nat.reduceMul, Nat.reduceSub, Nat.reduceBEq, Nat.reduceGT, Nat.reduceLT, Int.toNat_zero, Nat.reduceLeDiff, Int.reduceEq, Int.reduceLT, Int.reduceLE]; first | done | decide | omega) (by simp only [frzOk', frzOk, isMap, or_true, true_or, List.all_cons, List.all_nil, push_cast, reduceCtorEq, Nat.reduceAdd, Nat.reduceMul, Nat.reduceSub, Nat.reduceBEq, Nat.reduceGT, Nat.reduceLT, Int.toNat_zero, Nat.reduceLeDiff, Int.reduceEq, Int.reduceLT, Int.reduceLE]) ?_; simp only [List.all_cons, List.all_nil, push_cast, reduceCtorEq, Nat.reduceAdd, Nat.reduceMul, Nat.reduceSub, Nat.reduceBEq, Nat.reduceGT, Nat.reduceLT, Int.toNat_zero, Nat.reduceLeDiff, Int.reduceEq, Int.reduceLT, Int.reduceLE])
  rw [tk]
  (refine Into.keep0 (by first | exact leF_refl _ | (simp only [leF, true_and, and_true, and_self]; done) | (simp [leF]; done)) (by simp only [List.all_cons, List.all_nil, push_cast, reduceCtorEq, Nat.reduceAdd, Nat.reduceMul, Nat.reduceSub, Nat.reduceBEq, Nat.reduceGT, Nat.reduceLT, Int.toNat_zero, Nat.reduceLeDiff, Int.reduceEq, Int.reduceLT, Int.reduceLE]) (by simp only [List.all_cons, List.all_nil, push_cast, reduceCtorEq, Nat.reduceAdd, Nat.reduceMul, Nat.reduceSub, Nat.reduceBEq, Nat.reduceGT, Nat.reduceLT, Int.toNat_zero, Nat.reduceLeDiff, Int.reduceEq, Int.reduceLT, Int.reduceLE]) (by first | decide | simp))
theorem con12F {Γ : Env} (h : EnvOk Tryd.prog Γ) (h19 : Γ 19 = some cmdS) (h18 : Γ 18 = some keysS) (h17 : Γ 17 = some sortedS) : Con Tryd.prog 12 namesF := by
  refine Con.of_body h (fn := Tryd.f12) (by kernel_rfl) rfl (by kernel_rfl) (fun h => by cases h) fun xs hx => ?_
  obtain rfl := hx
  exact names_body Γ h19 h18 h17
theorem con13F {Γ : Env} (h : EnvOk Tryd.prog Γ) : Con Tryd.prog 13 namesR := by
  refine Con.of_body h (fn := Tryd.f13) (by kernel_rfl) rfl (by kernel_rfl) (fun _ _ => rfl) fun xs hx => ?_
  obtain rfl := hx
  exact names_ref Γ
set_option maxRecDepth 100000 in
theorem parts_body (Γ : Env) (h5 : Γ 5 = some shS) (h6 : Γ 6 = some linesF) (h7 : Γ 7 = some wordsF) (h8 : Γ 8 = some sameS) (h9 : Γ 9 = some linesS) (h10 : Γ 10 = some wordsS) (h11 : Γ 11 = some spoilF) (h12 : Γ 12 = some namesF) (h13 : Γ 13 = some namesR) (l : List UInt8) (hl : l.length ≤ 1048576) : BodyOk Tryd.prog Γ Tryd.f4 [.str l] [] (.bool true) [] := by
  have hwl := ws_len _ l (Nat.le_refl _)
  have hll : (lnF l).length ≤ l.length := by
    have h1 := lines_eq l
    have h2 := pieces_le 10 l
    rw [h1] at h2; simp at h2; omega
  have htk : List.take (lnF l).length ((lnF l ++ [lrF l]).map AV.str) = (lnF l).map .str := by rw [← List.map_take, List.take_left]
  have htn : List.take 10 (names.map AV.str) = names.map .str := rfl
  have hc : ∀ (ss : List (List UInt8)) (L : Heap) (x : AV), x ∈ ss.map AV.str → lentC L keep0 (l2 L keep0) x := by
    intro ss L x hx
    obtain ⟨s, _, rfl⟩ := List.mem_map.1 hx
    simp only [push_cast]
  (intro X hP hΓ hL hfin; refine ⟨_, rfl, ?_⟩; rw [show Tryd.f4.ntmps = 61 from rfl]; rw [show Tryd.f4.results.toList = [.tmp 2] from rfl] at hfin; apply holds_of_ex X 400; simp only [push_cast, reduceCtorEq, Nat.reduceAdd, Nat.reduceMul, Nat.reduceSub, Nat.reduceBEq, Nat.reduceGT, Nat.reduceLT, Int.toNat_zero, Nat.reduceLeDiff, Int.reduceEq, Int.reduceLT, Int.reduceLE, hP, hΓ, hL, hfin, h5, h6, h7, h8, h9, h10, h11, h12, h13, shS, htk, htn])
  refine ⟨by omega, by omega, by omega, by omega, ⟨hc _ _, ⟨_, _, rfl, rfl, rfl, rfl⟩, by omega⟩, ⟨hc _ _, ⟨_, _, rfl, rfl, rfl, rfl⟩, by omega⟩, ⟨⟨_, rfl, Nat.le_refl _⟩, by omega⟩, ⟨⟨_, rfl, by simp⟩, by omega⟩, ?_⟩
  exact ⟨⟨hc _ _, ⟨_, _, rfl, rfl, rfl, rfl⟩⟩, ⟨_, rfl, Nat.le_refl _⟩, ⟨hc _ _, ⟨_, _, rfl, rfl, rfl, rfl⟩⟩, Into.keep0 (leF_refl _) rfl rfl (Nat.le_refl _)⟩
def p1 : Env := addE (addE (addE (addE e4 7 wordsF) 21 splitF) 10 wordsS) 9 linesS
def p2 : Env := addE (addE (addE (addE (addE p1 15 split2F) 18 keysS) 17 sortedS) 13 namesR) 11 spoilF
def p3 : Env := addE (addE p2 6 linesF) 12 namesF
theorem p1_ok : EnvOk Tryd.prog p1 := (((e4_ok.add (con7F e4_ok rfl)).add (con21F e4_ok rfl rfl)).add (con10 e4_ok)).add (con9F e4_ok)
theorem p2_ok : EnvOk Tryd.prog p2 := ((((p1_ok.add (con15F p1_ok rfl)).add (con18 p1_ok)).add con17).add (con13F p1_ok)).add (con11F p1_ok)
theorem p3_ok : EnvOk Tryd.prog p3 := (p2_ok.add (con6F p2_ok rfl)).add (con12F p2_ok rfl rfl rfl)
theorem bodyP (xs : List Dv) (h : Dv.hasL shapes xs) (hb : Dv.vbL xs ≤ 1048576) : ∃ L', BodyOk Tryd.prog p3 Tryd.f4 (xs.map Dv.av) [] (.bool true) L' := by
  obtain ⟨x0, xs, rfl, h0, h⟩ := hasL_cons h
  obtain rfl := hasL_nil h
  obtain ⟨s, rfl, _⟩ := has_str h0
  simp only [Dv.vbL, Dv.vb] at hb
  refine ⟨[], ?_⟩
  simp only [List.map_cons, List.map_nil]
  exact parts_body p3 rfl rfl rfl rfl rfl rfl rfl rfl rfl s (by omega)
noncomputable def laidWP (os : Os) : World := World.laidAll Tryd.prog os Rows.linePartsUptoRow.laid
theorem laid_metP (os : Os) (args : Array Value) : laidMetH Tryd.prog Rows.linePartsUptoRow.laid ((laidWP os).forCall (fun _ _ => 0) ⟨#[], args, []⟩).memory := by
  rw [MakeChecks.laidMetH_plain _ _ _ (by kernel_rfl)]
  exact laidMet_laidAll _ (by kernel_rfl) (by kernel_rfl)
theorem witness_rowP {H : Type} (os : Os) (enc : TypeId × Value → H) :
    (Rows.OpenSpec.upto Rows.linePartsSpec).preRow enc Tryd.prog Tryd.f4 Rows.linePartsUptoRow.domain false Rows.linePartsUptoRow.laid ((laidWP os).forCall (fun _ _ => 0) ⟨#[], #[.string .empty], []⟩).memory #[.string .empty] :=
  OpenSpec.preRow_of_cond 8 (x := ([.lit (.string [])], [], [])) (by kernel_rfl) (by kernel_rfl) (fun k hk => by cases hk; rfl) (by kernel_rfl) (laid_metP os _)
set_option maxRecDepth 100000 in
theorem liftedP (os : Os) (started : os.Started) (H : Type) (enc : TypeId × Value → H) (F : Stop.Interp) :
    ReturnsInHanded {} Tryd.checked os 4 .any ((Rows.OpenSpec.upto Rows.linePartsSpec).preRow enc Tryd.prog Tryd.f4 Rows.linePartsUptoRow.domain false Rows.linePartsUptoRow.laid) (((Rows.OpenSpec.upto Rows.linePartsSpec).at F).post enc Tryd.prog Tryd.f4 false true false false) := by
  refine returnsInHanded_of_row (C := Tryd.checked) (s := Rows.OpenSpec.upto Rows.linePartsSpec) own started (by kernel_rfl) Tryd.func4
    (witness_row_at (enc := enc) (C := Tryd.checked) false (laidWP os) #[.string .empty] (World.laidAll_os _ _ _) (by kernel_rfl) (by kernel_rfl) (by kernel_rfl) (witness_rowP os enc)) ?_
  intro W base args ds gs before hval hW _ hk _ _ _ _
  have hds : gs = [] ∧ ∃ d1, ds = [d1] := by
    obtain ⟨p, q, hA, hV, _⟩ := hW
    obtain ⟨rfl, _⟩ := ChangeShapes.trodVars_none hV
    rw [Tryd.params4] at hA
    obtain ⟨_, _, d1, _, _, _, _, rfl, _, _, hA⟩ := ChangeShapes.trodAll_cons hA
    obtain ⟨_, rfl, _⟩ := ChangeShapes.trodAll_nil hA
    exact ⟨rfl, d1, rfl⟩
  obtain ⟨rfl, d1, rfl⟩ := hds
  exact law_contract p3_ok (f := 4) (fn := Tryd.f4) (by kernel_rfl) laidOut (s := Rows.linePartsSpec) rfl (ss := shapes) (by kernel_rfl) (tb := 4) rfl Tryd.underlying4 (· ≤ 1048576) (fun a b h1 h2 => Nat.le_trans h1 h2) bodyP rfl hval hW (Up.small (by simpa using hk _ rfl))
theorem provedP : Rows.LinePartsUptoSaid :=
  OpenClaim.holds_of_cond 4 Tryd.f4 rfl rfl rfl rfl rfl rfl rfl ⟨rfl, rfl, rfl, rfl, rfl⟩ rfl rfl rfl rfl rfl (by kernel_rfl) Tryd.func4 (by kernel_rfl)
    (of_decide_eq_true (by kernel_rfl)) (by unfold Func.isWrapper; first | (rw [if_pos (by decide +kernel)]; kernel_rfl) | (rw [if_neg (by decide +kernel)]; exact ⟨rfl, rfl⟩))
    (fun os started H enc _ F => by rw [OpenClaim.pre_eq_preRow]; exact liftedP os started H enc F)
theorem plainP (f : FuncId) (fn : Func) (hf : Tryd.pinned.checked.prog.funcNamed "carrel/carrellaw19.LineParts" = some f) (hfn : Tryd.pinned.checked.prog.funcs[f]? = some fn) :
    false = Tryd.pinned.checked.prog.looks [] ∧ ∀ (j : Nat) t, fn.params[j]? = some t → Tryd.pinned.checked.prog.wantsStandIn t = false := by
  obtain rfl : f = 4 := Option.some.inj ((show Tryd.prog.funcNamed "carrel/carrellaw19.LineParts" = some 4 by kernel_rfl).symm.trans hf) |>.symm
  obtain rfl : fn = Tryd.f4 := (Option.some.inj (Tryd.func4.symm.trans hfn)).symm
  refine ⟨by kernel_rfl, fun j t ht => ?_⟩
  rw [Tryd.params4] at ht
  obtain rfl : t = 9 := by simpa using Array.mem_of_getElem? ht
  exact (show Tryd.prog.wantsStandIn 9 = false by kernel_rfl)
/-- the card -/
theorem cardP : Rows.LinePartsUptoCardSaid :=
  Claim7.holds_tied_plain_at .later [] _ _ _ _ provedP (fun _ h => by cases h) (by kernel_rfl) (fun _ h => by cases h) linePartsUpto_row_tie rfl ⟨rfl, rfl⟩ (by kernel_rfl) rfl plainP (by kernel_rfl)
end Go.Proofs.YtkglmlfkcmpbbaaDoor.lineDone
