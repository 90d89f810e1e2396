/- Of directories: the document's disk. Conditions stand in each. Of directories: the document's words and sectors. Conditions stand in each. Of directories: the document's marks. Conditions stand in each. -/
import Derived.Test.YtbnnhffkbcekcaaGreatDoorPg
import Derived.Test.YtbnnhffkbcekcaaGreatDoorEg
set_option linter.unusedVariables false
set_option linter.unusedSimpArgs false
set_option maxRecDepth 100000
set_option maxHeartbeats 4000000
section
namespace Go.Proofs.YtbnnhffkbcekcaaGreatDoor.dirDone
open Go Go.Eng Go.Proofs Go.Lib
def wrR (w : Wr) : List AV := [.int .i64 w.1, .str w.2.1]
instance : PureC wrR := ⟨fun w => rfl, fun w => rfl⟩
instance : Width wrR 2 := ⟨fun w => rfl⟩
theorem wrR_inj (a b : Wr) (h : wrR a = wrR b) : a = b := by
  obtain ⟨n, s⟩ := a
  obtain ⟨k, t⟩ := b
  simp only [wrR, List.cons.injEq, AV.int.injEq, AV.str.injEq, true_and, and_true] at h
  rw [h.1, Subtype.ext h.2]
theorem wrr_iff {S T : List Wr} : S.flatMap wrR = T.flatMap wrR ↔ S = T := ⟨inj_fm (n := 2) wrR_inj (fun s => Width.len s) (by decide), fun h => by rw [h]⟩
def zsec : List UInt8 := List.replicate 1024 0
def noN (N : Nat) : List (List UInt8) := List.replicate N zsec
theorem noN_len (N : Nat) : (noN N).length = N := List.length_replicate
def rdkH (N : Nat) (R : List Wr) : Heap := [.row [.sl ((noN N).map AV.str) N, .msl 1 R.length 0 R.length] 2 0, .row (R.flatMap wrR) 2 R.length]
def atK (R : List Wr) (n : Int) : Nat → List UInt8
  | 0 => zsec
  | k + 1 => if (R.getD k default).1 = n then (R.getD k default).2.1 else atK R n k
def stW (S : List Sec) (w : Wr) : List Sec := if 0 ≤ w.1 then S.set w.1.toNat w.2 else S
def sOf (N : Nat) (R : List Wr) : List Sec := R.foldl stW (List.replicate N default)
theorem stW_len (S : List Sec) (w : Wr) : (stW S w).length = S.length := by unfold stW; split <;> simp
theorem sOf_snoc (N : Nat) (R : List Wr) (w : Wr) : sOf N (R ++ [w]) = stW (sOf N R) w := by unfold sOf; rw [List.foldl_append]; rfl
theorem fold_len (R : List Wr) : ∀ S : List Sec, (R.foldl stW S).length = S.length := by
  induction R with
  | nil => intro S; rfl
  | cons w R ih => intro S; rw [List.foldl_cons, ih, stW_len]
theorem sOf_len (N : Nat) (R : List Wr) : (sOf N R).length = N := by unfold sOf; rw [fold_len, List.length_replicate]
theorem getD_same {α : Type} (l : List α) (n : Nat) (x d : α) (h : n < l.length) : (l.set n x).getD n d = x := by simp [List.getD_eq_getElem?_getD, h]
theorem getD_other {α : Type} (l : List α) (n k : Nat) (x d : α) (h : k ≠ n) : (l.set k x).getD n d = l.getD n d := by simp [List.getD_eq_getElem?_getD, List.getElem?_set_ne h]
theorem atK_sOf (N : Nat) (R : List Wr) (n : Nat) (hn : n < N) : ∀ k, k ≤ R.length → atK R n k = ((sOf N (R.take k)).getD n default).1
  | 0, _ => by
    rw [List.take_zero]
    unfold sOf atK
    rw [List.foldl_nil, List.getD_eq_getElem?_getD, List.getElem?_replicate, if_pos hn]
    rfl
  | k + 1, h => by
    have hk : k < R.length := by omega
    have e : R.take (k + 1) = R.take k ++ [R.getD k default] := by
      rw [List.take_add_one, List.getElem?_eq_getElem hk, List.getD_eq_getElem?_getD, List.getElem?_eq_getElem hk]; rfl
    rw [e, sOf_snoc]
    unfold atK stW
    have ih := atK_sOf N R n hn k (by omega)
    have hl : (sOf N (R.take k)).length = N := sOf_len _ _
    by_cases h1 : (R.getD k default).1 = n
    · rw [if_pos h1, if_pos (by omega), h1, Int.toNat_natCast, getD_same _ _ _ _ (by omega)]
    · rw [if_neg h1, ih]
      split
      · rename_i h2
        have : (R.getD k default).1.toNat ≠ n := by omega
        rw [getD_other _ _ _ _ _ this]
      · rfl
theorem at_all (N : Nat) (R : List Wr) (n : Int) (h : 0 ≤ n ∧ n < N) : atK R n R.length = secB (sOf N R) n := by
  obtain ⟨k, rfl⟩ := Int.eq_ofNat_of_zero_le h.1
  rw [atK_sOf N R k (by omega) R.length (Nat.le_refl _), List.take_length]
  unfold secB
  rw [Int.toNat_natCast]
theorem rd_int (R : List Wr) (k : Nat) (d : AV) (h : k < R.length) : (R.flatMap wrR).getD (k * 2) d = .int .i64 (R.getD k default).1 := by rw [getD_fm0 (n := 2) R k d h (by decide)]; rfl
theorem rd_str (R : List Wr) (k : Nat) (d : AV) (h : k < R.length) : (R.flatMap wrR).getD (k * 2 + 1) d = .str (R.getD k default).2.1 := by rw [getD_fm (n := 2) R k 1 d h (by decide)]; rfl
def e95 : (Nat) × (List Wr) → List AV × Heap := fun (N, R) => ([.ref 0 0 0], rdkH N R)
def p95 : (Nat) × (List Wr) → Prop := fun (N, R) => True
def r95 : (Nat) × (List Wr) → AV := fun (N, R) => .int .i64 N
def g95 : (Nat) × (List Wr) → Heap := fun (N, R) => rdkH N R
theorem inj95 : ∀ a b, e95 a = e95 b → a = b := by
  rintro ⟨N, R⟩ ⟨N', R'⟩ h
  simp only [e95, mi_iff, ms_iff, mb_iff, my_iff, UInt8.toNat_inj, secs_iff, wrs_iff, fl_iff, dskH, dskK, dirH, dirK, dirZ, flc_iff, rdkH, wrr_iff, avinj, List.cons.injEq] at h
  simp_all only
noncomputable def S95 : FSpec := heapE true e95 p95 r95 g95
theorem ps95 (N : (Nat)) (R : (List Wr)) : pselK e95 p95 ([.ref 0 0 0], rdkH N R) = (True) := pselK_at inj95 p95 (N, R)
theorem rs95 (N : (Nat)) (R : (List Wr)) : rselK e95 r95 .any ([.ref 0 0 0], rdkH N R) = (.int .i64 N) := rselK_at inj95 r95 .any (N, R)
theorem hs95 (N : (Nat)) (R : (List Wr)) : rselK e95 g95 [] ([.ref 0 0 0], rdkH N R) = (rdkH N R) := rselK_at inj95 g95 [] (N, R)
attribute [push_cast] S95 ps95 rs95 hs95
theorem body95 (Γ : Env) (N : Nat) (R : List Wr) : BodyOk Tryz.prog Γ Tryz.f95 [.ref 0 0 0] (rdkH N R) (.int .i64 N) (rdkH N R) := by
  unfold rdkH
  (intro X hP hΓ hL hfin; refine ⟨_, rfl, ?_⟩; rw [show Tryz.f95.ntmps = 8 from rfl]; rw [show Tryz.f95.results.toList = [.tmp 2] from rfl] at hfin; refine gxq0 ?_)
  exact Into.sameA
theorem con95 {Γ : Env} (h : EnvOk Tryz.prog Γ)  : Con Tryz.prog 95 S95 :=
  heapE_con h (fn := Tryz.f95) (by kernel_rfl) rfl (by kernel_rfl) inj95 fun ⟨N, R⟩ _ => body95 Γ N R
def e135 : (Nat) × (List Wr) × (Int) × (Nat) → List AV × Heap := fun (N, R, n, k) => ([.ref 0 0 0, .int .i64 n, .int .i64 k], rdkH N R)
def p135 : (Nat) × (List Wr) × (Int) × (Nat) → Prop := fun (N, R, n, k) => k ≤ R.length ∧ R.length ≤ 4096 ∧ 0 ≤ n ∧ n < N
def r135 : (Nat) × (List Wr) × (Int) × (Nat) → AV := fun (N, R, n, k) => .str (atK R n k)
def g135 : (Nat) × (List Wr) × (Int) × (Nat) → Heap := fun (N, R, n, k) => rdkH N R
theorem inj135 : ∀ a b, e135 a = e135 b → a = b := by
  rintro ⟨N, R, n, k⟩ ⟨N', R', n', k'⟩ h
  simp only [e135, mi_iff, ms_iff, mb_iff, my_iff, UInt8.toNat_inj, secs_iff, wrs_iff, fl_iff, dskH, dskK, dirH, dirK, dirZ, flc_iff, rdkH, wrr_iff, avinj, List.cons.injEq] at h
  simp_all only
noncomputable def S135 : FSpec := heapE true e135 p135 r135 g135
theorem ps135 (N : (Nat)) (R : (List Wr)) (n : (Int)) (k : (Nat)) : pselK e135 p135 ([.ref 0 0 0, .int .i64 n, .int .i64 k], rdkH N R) = (k ≤ R.length ∧ R.length ≤ 4096 ∧ 0 ≤ n ∧ n < N) := pselK_at inj135 p135 (N, R, n, k)
theorem rs135 (N : (Nat)) (R : (List Wr)) (n : (Int)) (k : (Nat)) : rselK e135 r135 .any ([.ref 0 0 0, .int .i64 n, .int .i64 k], rdkH N R) = (.str (atK R n k)) := rselK_at inj135 r135 .any (N, R, n, k)
theorem hs135 (N : (Nat)) (R : (List Wr)) (n : (Int)) (k : (Nat)) : rselK e135 g135 [] ([.ref 0 0 0, .int .i64 n, .int .i64 k], rdkH N R) = (rdkH N R) := rselK_at inj135 g135 [] (N, R, n, k)
attribute [push_cast] S135 ps135 rs135 hs135
theorem body135 (Γ : Env) (N : Nat) (R : List Wr) (n : Int) (k : Nat) (hk : k ≤ R.length) (hR : R.length ≤ 4096) (h0 : 0 ≤ n) (hn : n < N) : BodyOk Tryz.prog Γ Tryz.f135 [.ref 0 0 0, .int .i64 n, .int .i64 k] (rdkH N R) (.str (atK R n k)) (rdkH N R) := by
  unfold rdkH
  have w0 : IntKind.i64.wrap ((k : Int) - 1) = (k : Int) - 1 := wr_i64 _ (by constructor <;> omega)
  (intro X hP hΓ hL hfin; refine ⟨_, rfl, ?_⟩; rw [show Tryz.f135.ntmps = 39 from rfl]; rw [show Tryz.f135.results.toList = [.tmp 6] from rfl] at hfin; refine gxq w0 ?_)
  refine Holds.loopM (ι := {i : Nat // i ≤ R.length ∧ atK R n k = atK R n i}) [tt,tt,ff,ff,ff,ff,ff,ff,ff,ff,ff,ff,ff,ff,ff,ff,ff,ff,ff,ff,ff,ff,ff,ff,ff,ff,ff,ff,ff,ff,ff,ff,ff,ff,ff,ff,ff,ff,ff] (fun i => [(7, .int .i64 ((i.1 : Int) - 1))]) (fun i => [.row [.sl ((noN N).map AV.str) N, .msl 1 R.length 0 R.length] 2 0, .row (R.flatMap wrR) 2 R.length]) (fun i => i.1) ⟨k, hk, rfl⟩ ?_ ?_
  · (rw [hL]; simp only [push_cast, Int.natCast_zero, ]; exact Into.sameA)
  rintro ⟨i, hi, he⟩
  dsimp only at *
  (refine gxq0 ?_)
  ((with_reducible refine exB_split (fun h => ?_) (fun h => ?_)) <;> (try simp only [decide_eq_true_eq, decide_eq_false_iff_not, Bool.and_eq_true, Bool.or_eq_true, Bool.and_eq_false_iff, Bool.or_eq_false_iff, Bool.not_eq_true', Bool.not_eq_false', Bool.not_eq_true, Bool.not_eq_false, Int.not_lt, Int.not_le, beq_iff_eq, beq_eq_false_iff_ne, ne_eq] at h))
  · obtain ⟨j, rfl⟩ : ∃ j, i = j + 1 := ⟨i - 1, by omega⟩
    have e : ((j + 1 : Nat) : Int) - 1 = j := by omega
    have hj : j < R.length := by omega
    have r1 := rd_int R j (.int .i64 0) hj
    rw [e]
    (refine gxq (cj2 hj r1) ?_)
    refine ⟨by omega, ⟨by omega, by omega⟩, ?_⟩
    by_cases c : (R.getD j default).1 = n
    · have d0 : decide ((R.getD j default).1 = n) = true := decide_eq_true c
      have r2 := rd_str R j (.str []) hj
      have ea : atK R n k = (R.getD j default).2.1 := by rw [he]; unfold atK; rw [if_pos c]
      (refine gxq (cj4 d0 r2 hj ea) ?_)
      refine ⟨by omega, ⟨by omega, by omega⟩, ?_⟩
      exact Into.sameA
    · have d0 : decide ((R.getD j default).1 = n) = false := decide_eq_false c
      have wj : IntKind.i64.wrap ((j : Int) - 1) = (j : Int) - 1 := wr_i64 _ (by constructor <;> omega)
      have ea : atK R n k = atK R n j := by rw [he]; show (if (R.getD j default).1 = n then _ else _) = _; rw [if_neg c]
      (refine gxq (cj2 d0 wj) ?_)
      refine ⟨⟨j, by omega, ea⟩, by simp only; omega, ?_⟩
      exact Into.sameA
  · obtain rfl : i = 0 := by omega
    have r3 : ((noN N).map AV.str).getD n.toNat (.str []) = .str zsec := by
      rw [List.getD_eq_getElem?_getD, List.getElem?_map, List.getElem?_eq_getElem (by rw [noN_len]; omega)]
      simp [noN]
    have ea : atK R n k = zsec := he
    (refine gxq (cj2 r3 ea) ?_)
    refine ⟨⟨noN_len N, h0, hn⟩, by rw [noN_len]; omega, ?_⟩
    exact Into.sameA
theorem con135 {Γ : Env} (h : EnvOk Tryz.prog Γ)  : Con Tryz.prog 135 S135 :=
  heapE_con h (fn := Tryz.f135) (by kernel_rfl) rfl (by kernel_rfl) inj135 fun ⟨N, R, n, k⟩ h => body135 Γ N R n k h.1 h.2.1 h.2.2.1 h.2.2.2
def e94 : (Nat) × (List Wr) × (Int) → List AV × Heap := fun (N, R, n) => ([.ref 0 0 0, .int .i64 n], rdkH N R)
def p94 : (Nat) × (List Wr) × (Int) → Prop := fun (N, R, n) => R.length ≤ 4096 ∧ N ≤ 1048576
def r94 : (Nat) × (List Wr) × (Int) → AV := fun (N, R, n) => if 0 ≤ n ∧ n < N then .tup [.str (secB (sOf N R) n), .int .i64 0] else .tup [.str [], .int .i64 31]
def g94 : (Nat) × (List Wr) × (Int) → Heap := fun (N, R, n) => rdkH N R
theorem inj94 : ∀ a b, e94 a = e94 b → a = b := by
  rintro ⟨N, R, n⟩ ⟨N', R', n'⟩ h
  simp only [e94, mi_iff, ms_iff, mb_iff, my_iff, UInt8.toNat_inj, secs_iff, wrs_iff, fl_iff, dskH, dskK, dirH, dirK, dirZ, flc_iff, rdkH, wrr_iff, avinj, List.cons.injEq] at h
  simp_all only
noncomputable def S94 : FSpec := heapE true e94 p94 r94 g94
theorem ps94 (N : (Nat)) (R : (List Wr)) (n : (Int)) : pselK e94 p94 ([.ref 0 0 0, .int .i64 n], rdkH N R) = (R.length ≤ 4096 ∧ N ≤ 1048576) := pselK_at inj94 p94 (N, R, n)
theorem rs94 (N : (Nat)) (R : (List Wr)) (n : (Int)) : rselK e94 r94 .any ([.ref 0 0 0, .int .i64 n], rdkH N R) = (if 0 ≤ n ∧ n < N then .tup [.str (secB (sOf N R) n), .int .i64 0] else .tup [.str [], .int .i64 31]) := rselK_at inj94 r94 .any (N, R, n)
theorem hs94 (N : (Nat)) (R : (List Wr)) (n : (Int)) : rselK e94 g94 [] ([.ref 0 0 0, .int .i64 n], rdkH N R) = (rdkH N R) := rselK_at inj94 g94 [] (N, R, n)
attribute [push_cast] S94 ps94 rs94 hs94
theorem body94 (Γ : Env) (h135 : Γ 135 = some S135) (N : Nat) (R : List Wr) (n : Int) (hR : R.length ≤ 4096) (hN : N ≤ 1048576) : BodyOk Tryz.prog Γ Tryz.f94 [.ref 0 0 0, .int .i64 n] (rdkH N R) (if 0 ≤ n ∧ n < N then .tup [.str (secB (sOf N R) n), .int .i64 0] else .tup [.str [], .int .i64 31]) (rdkH N R) := by
  have p := ps135 N R n R.length
  have r := rs135 N R n R.length
  have g := hs135 N R n R.length
  unfold rdkH at *
  by_cases c : 0 ≤ n ∧ n < N
  · have d1 : (decide (n < 0) || decide ((N : Int) ≤ n)) = false := by
      rw [Bool.eq_false_iff]; intro h'; simp only [Bool.or_eq_true, decide_eq_true_eq] at h'; omega
    rw [if_pos c, ← at_all N R n c]
    (intro X hP hΓ hL hfin; refine ⟨_, rfl, ?_⟩; rw [show Tryz.f94.ntmps = 25 from rfl]; rw [show Tryz.f94.results.toList = [.tmp 4, .tmp 5] from rfl] at hfin; apply holds_of_ex X 400; simp (maxSteps := 1000000) only [push_cast, reduceCtorEq, Nat.reduceAdd, Nat.reduceMul, Nat.reduceSub, Nat.reduceBEq, Nat.reduceGT, Nat.reduceLT, Int.toNat_zero, Nat.reduceLeDiff, Int.reduceEq, Int.reduceLT, Int.reduceLE, hP, hΓ, hL, hfin, String.reduceEq, Int.toNat_one, Bool.not_not, h135, d1, noN_len, p, r, g])
    refine ⟨⟨Nat.le_refl _, hR, c.1, c.2⟩, ?_⟩
    exact Into.sameA
  · have d1 : (decide (n < 0) || decide ((N : Int) ≤ n)) = true := by
      simp only [Bool.or_eq_true, decide_eq_true_eq]; omega
    rw [if_neg c]
    (intro X hP hΓ hL hfin; refine ⟨_, rfl, ?_⟩; rw [show Tryz.f94.ntmps = 25 from rfl]; rw [show Tryz.f94.results.toList = [.tmp 4, .tmp 5] from rfl] at hfin; apply holds_of_ex X 400; simp (maxSteps := 1000000) only [push_cast, reduceCtorEq, Nat.reduceAdd, Nat.reduceMul, Nat.reduceSub, Nat.reduceBEq, Nat.reduceGT, Nat.reduceLT, Int.toNat_zero, Nat.reduceLeDiff, Int.reduceEq, Int.reduceLT, Int.reduceLE, hP, hΓ, hL, hfin, String.reduceEq, Int.toNat_one, Bool.not_not, d1, noN_len])
    exact Into.sameA
theorem con94 {Γ : Env} (h : EnvOk Tryz.prog Γ) (h135 : Γ 135 = some S135) : Con Tryz.prog 94 S94 :=
  heapE_con h (fn := Tryz.f94) (by kernel_rfl) rfl (by kernel_rfl) inj94 fun ⟨N, R, n⟩ h => body94 Γ h135 N R n h.1 h.2
def e105 : Unit → List AV × Heap := fun _ => ([], [])
def p105 : Unit → Prop := fun _ => True
def r105 : Unit → AV := fun _ => .str zsec
def g105 : Unit → Heap := fun _ => []
theorem inj105 : ∀ a b, e105 a = e105 b → a = b := fun _ _ _ => rfl
noncomputable def S105 : FSpec := heapE true e105 p105 r105 g105
theorem ps105  : pselK e105 p105 ([], []) = (True) := pselK_at inj105 p105 ()
theorem rs105  : rselK e105 r105 .any ([], []) = (.str zsec) := rselK_at inj105 r105 .any ()
theorem hs105  : rselK e105 g105 [] ([], []) = ([]) := rselK_at inj105 g105 [] ()
attribute [push_cast] S105 ps105 rs105 hs105
theorem body105 (Γ : Env) : BodyOk Tryz.prog Γ Tryz.f105 [] [] (.str zsec) [] := by
  (intro X hP hΓ hL hfin; refine ⟨_, rfl, ?_⟩; rw [show Tryz.f105.ntmps = 3 from rfl]; rw [show Tryz.f105.results.toList = [.tmp 0] from rfl] at hfin; refine gxq0 ?_)
  have e : (List.take (Int.toNat 1024) (List.replicate (Int.toNat 1024) [AV.int IntKind.u8 0]).flatten) = zsec.map byteAV := by kernel_rfl
  rw [e]
  refine ⟨by decide, allBytes_map _, ?_⟩
  rw [unbytes_map]
  exact Into.keep0A
theorem con105 {Γ : Env} (h : EnvOk Tryz.prog Γ)  : Con Tryz.prog 105 S105 :=
  heapE_con h (fn := Tryz.f105) (by kernel_rfl) rfl (by kernel_rfl) inj105 fun _ _ => body105 Γ
def rwW (N : Nat) (R : List Wr) (n : Int) (b : List UInt8) : List Wr := if wrE (sOf N R) R n b = 0 then R ++ [(n, toSec b)] else R
theorem body103 (Γ : Env) (N : Nat) (R : List Wr) (n : Int) (b : List UInt8) (hR : R.length ≤ 4096) (hN : N ≤ 1048576) : BodyOk Tryz.prog Γ Tryz.f103 [.ref 0 0 0, .int .i64 n, .sl (b.map byteAV) b.length] (rdkH N R) (.int .i64 (wrE (sOf N R) R n b)) (rdkH N (rwW N R n b)) := by
  unfold rwW
  by_cases c1 : 0 ≤ n ∧ n < N
  case neg =>
    have d1 : (decide (n < 0) || decide ((N : Int) ≤ n)) = true := by
      simp only [Bool.or_eq_true, decide_eq_true_eq]; omega
    have e : wrE (sOf N R) R n b = 31 := by unfold wrE; rw [if_pos (by rw [sOf_len]; exact c1)]
    rw [e, if_neg (by decide)]
    unfold rdkH
    (intro X hP hΓ hL hfin; refine ⟨_, rfl, ?_⟩; rw [show Tryz.f103.ntmps = 43 from rfl]; rw [show Tryz.f103.results.toList = [.tmp 6] from rfl] at hfin; apply holds_of_ex X 400; simp (maxSteps := 1000000) only [push_cast, reduceCtorEq, Nat.reduceAdd, Nat.reduceMul, Nat.reduceSub, Nat.reduceBEq, Nat.reduceGT, Nat.reduceLT, Int.toNat_zero, Nat.reduceLeDiff, Int.reduceEq, Int.reduceLT, Int.reduceLE, hP, hΓ, hL, hfin, String.reduceEq, Int.toNat_one, Bool.not_not, d1, noN_len])
    exact Into.sameA
  have d1 : (decide (n < 0) || decide ((N : Int) ≤ n)) = false := by
    rw [Bool.eq_false_iff]; intro h'; simp only [Bool.or_eq_true, decide_eq_true_eq] at h'; omega
  by_cases c2 : b.length = 1024
  case neg =>
    have e : wrE (sOf N R) R n b = 32 := by unfold wrE; rw [if_neg (by rw [sOf_len]; exact fun h => h c1), if_pos c2]
    have d2 : decide ((b.length : Int) = 1024) = false := decide_eq_false (by omega)
    rw [e, if_neg (by decide)]
    unfold rdkH
    (intro X hP hΓ hL hfin; refine ⟨_, rfl, ?_⟩; rw [show Tryz.f103.ntmps = 43 from rfl]; rw [show Tryz.f103.results.toList = [.tmp 6] from rfl] at hfin; apply holds_of_ex X 400; simp (maxSteps := 1000000) only [push_cast, reduceCtorEq, Nat.reduceAdd, Nat.reduceMul, Nat.reduceSub, Nat.reduceBEq, Nat.reduceGT, Nat.reduceLT, Int.toNat_zero, Nat.reduceLeDiff, Int.reduceEq, Int.reduceLT, Int.reduceLE, hP, hΓ, hL, hfin, String.reduceEq, Int.toNat_one, Bool.not_not, d1, d2, noN_len])
    exact Into.sameA
  have d2 : decide ((b.length : Int) = 1024) = true := decide_eq_true (by omega)
  by_cases c3 : R.length = 4096
  · have e : wrE (sOf N R) R n b = 33 := by unfold wrE; rw [if_neg (by rw [sOf_len]; exact fun h => h c1), if_neg (fun h => h c2), if_pos c3]
    have d3 : decide ((4096 : Int) ≤ (R.length : Int)) = true := decide_eq_true (by omega)
    rw [e, if_neg (by decide)]
    unfold rdkH
    (intro X hP hΓ hL hfin; refine ⟨_, rfl, ?_⟩; rw [show Tryz.f103.ntmps = 43 from rfl]; rw [show Tryz.f103.results.toList = [.tmp 6] from rfl] at hfin; apply holds_of_ex X 400; simp (maxSteps := 1000000) only [push_cast, reduceCtorEq, Nat.reduceAdd, Nat.reduceMul, Nat.reduceSub, Nat.reduceBEq, Nat.reduceGT, Nat.reduceLT, Int.toNat_zero, Nat.reduceLeDiff, Int.reduceEq, Int.reduceLT, Int.reduceLE, hP, hΓ, hL, hfin, String.reduceEq, Int.toNat_one, Bool.not_not, d1, d2, d3, noN_len])
    exact Into.sameA
  have e : wrE (sOf N R) R n b = 0 := by unfold wrE; rw [if_neg (by rw [sOf_len]; exact fun h => h c1), if_neg (fun h => h c2), if_neg c3]
  have d3 : decide ((4096 : Int) ≤ (R.length : Int)) = false := decide_eq_false (by omega)
  rw [e, if_pos rfl]
  have hfl : (R ++ [(n, toSec b)]).flatMap wrR = R.flatMap wrR ++ [.int .i64 n, .str b] := by
    rw [List.flatMap_append, List.flatMap_singleton]; unfold wrR toSec; simp [c2]
  have hl : (R ++ [(n, toSec b)]).length = R.length + 1 := List.length_append
  unfold rdkH
  rw [hfl, hl]
  (intro X hP hΓ hL hfin; refine ⟨_, rfl, ?_⟩; rw [show Tryz.f103.ntmps = 43 from rfl]; rw [show Tryz.f103.results.toList = [.tmp 6] from rfl] at hfin; apply holds_of_ex X 400; simp (maxSteps := 1000000) only [push_cast, reduceCtorEq, Nat.reduceAdd, Nat.reduceMul, Nat.reduceSub, Nat.reduceBEq, Nat.reduceGT, Nat.reduceLT, Int.toNat_zero, Nat.reduceLeDiff, Int.reduceEq, Int.reduceLT, Int.reduceLE, hP, hΓ, hL, hfin, String.reduceEq, Int.toNat_one, Bool.not_not, d1, d2, d3, noN_len])
  (refine Holds.drawnE (patH [.fix (.row [.sl ((noN N).map AV.str) N, .msl 1 R.length 0 R.length] 2 0), .any]) [1, 2, 3, 4, 5, 6, 10, 13] [] [] true smp (by kernel_rfl) (by kernel_rfl) (by kernel_rfl) smh sms (gyq0 ?_))
  refine ⟨by omega, ?_⟩
  (refine gxq0 ?_)
  exact Into.sameA
def e51 : (Int) → List AV × Heap := fun n => ([.int .i64 n], [])
def p51 : (Int) → Prop := fun n => True
def r51 : (Int) → AV := fun n => if 8 ≤ n ∧ n ≤ 1024 then .tup [.ref 0 0 0, .int .i64 0] else .tup [.lit (.pointer none), .int .i64 30]
def g51 : (Int) → Heap := fun n => if 8 ≤ n ∧ n ≤ 1024 then rdkH n.toNat [] else []
theorem inj51 : ∀ a b, e51 a = e51 b → a = b := by
  rintro n n' h
  simp only [e51, mi_iff, ms_iff, mb_iff, my_iff, UInt8.toNat_inj, secs_iff, wrs_iff, fl_iff, dskH, dskK, dirH, dirK, dirZ, flc_iff, rdkH, wrr_iff, avinj, List.cons.injEq] at h
  simp_all only
noncomputable def S51 : FSpec := heapE true e51 p51 r51 g51
theorem ps51 (n : (Int)) : pselK e51 p51 ([.int .i64 n], []) = (True) := pselK_at inj51 p51 n
theorem rs51 (n : (Int)) : rselK e51 r51 .any ([.int .i64 n], []) = (if 8 ≤ n ∧ n ≤ 1024 then .tup [.ref 0 0 0, .int .i64 0] else .tup [.lit (.pointer none), .int .i64 30]) := rselK_at inj51 r51 .any n
theorem hs51 (n : (Int)) : rselK e51 g51 [] ([.int .i64 n], []) = (if 8 ≤ n ∧ n ≤ 1024 then rdkH n.toNat [] else []) := rselK_at inj51 g51 [] n
attribute [push_cast] S51 ps51 rs51 hs51
theorem body51 (Γ : Env) (h105 : Γ 105 = some S105) (n : Int) : BodyOk Tryz.prog Γ Tryz.f51 [.int .i64 n] [] (if 8 ≤ n ∧ n ≤ 1024 then .tup [.ref 0 0 0, .int .i64 0] else .tup [.lit (.pointer none), .int .i64 30]) (if 8 ≤ n ∧ n ≤ 1024 then rdkH n.toNat [] else []) := by
  by_cases h : 8 ≤ n ∧ n ≤ 1024
  · have d1 : (decide (n < 8) || decide (1024 < n)) = false := by
      rw [Bool.eq_false_iff]; intro h'; simp only [Bool.or_eq_true, decide_eq_true_eq] at h'; omega
    rw [if_pos h, if_pos h]
    obtain ⟨N, rfl⟩ := Int.eq_ofNat_of_zero_le (show 0 ≤ n by omega)
    rw [Int.toNat_natCast]
    (intro X hP hΓ hL hfin; refine ⟨_, rfl, ?_⟩; rw [show Tryz.f51.ntmps = 30 from rfl]; rw [show Tryz.f51.results.toList = [.tmp 2, .tmp 3] from rfl] at hfin; refine gxq d1 ?_)
    refine Holds.nilH 0 0 1 rfl rfl ?_
    refine Holds.nilH 0 1 2 rfl rfl ?_
    simp only [push_cast, reduceCtorEq, Nat.reduceAdd, Nat.reduceMul, Nat.reduceSub, Nat.reduceBEq, Nat.reduceGT, Nat.reduceLT, Int.toNat_zero, Nat.reduceLeDiff, Int.reduceEq, Int.reduceLT, Int.reduceLE]
    refine Holds.loopM (ι := {i : Nat // i ≤ N}) [tt,ff,tt,tt,tt,ff,ff,ff,ff,ff,ff,ff,ff,ff,ff,ff,ff,ff,ff,ff,ff,ff,ff,ff,ff,ff,ff,ff,ff,ff] (fun i => [(5, .int .i64 i.1)]) (fun i => [.row [.msl 1 i.1 0 i.1, .msl 2 0 0 0] 2 0, .row ((noN i.1).map AV.str) 1 i.1, .row [] 2 0]) (fun i => N - i.1) ⟨0, Nat.zero_le _⟩ ?_ ?_
    · (rw [hL]; simp only [push_cast, Int.natCast_zero, ]; exact Into.sameA)
    rintro ⟨i, hi⟩
    dsimp only at *
    (refine gxq0 ?_)
    ((with_reducible refine exB_split (fun h => ?_) (fun h => ?_)) <;> (try simp only [decide_eq_true_eq, decide_eq_false_iff_not, Bool.and_eq_true, Bool.or_eq_true, Bool.and_eq_false_iff, Bool.or_eq_false_iff, Bool.not_eq_true', Bool.not_eq_false', Bool.not_eq_true, Bool.not_eq_false, Int.not_lt, Int.not_le, beq_iff_eq, beq_eq_false_iff_ne, ne_eq] at h))
    · have hn : noN (i + 1) = noN i ++ [zsec] := by unfold noN; rw [List.replicate_succ']
      have wi : IntKind.i64.wrap ((i : Int) + 1) = (i : Int) + 1 := wr_i64 _ (by constructor <;> omega)
      (refine Holds.drawnE (patH [.fix (.row [.msl 1 i 0 i, .msl 2 0 0 0] 2 0), .any, .any]) [5, 7, 10] [] [] true smp (by kernel_rfl) (by kernel_rfl) (by kernel_rfl) smh sms (gyq h105 ?_))
      refine ⟨⟨noN_len i, by omega⟩, ?_⟩
      (refine gxq wi ?_)
      refine ⟨⟨i + 1, by omega⟩, by simp only; omega, ?_⟩
      dsimp only
      rw [hn, List.map_append]
      exact Into.sameA
    · obtain rfl : i = N := by omega
      have hz : List.take i ((noN i).map AV.str) = (noN i).map AV.str := List.take_of_length_le (by rw [List.length_map, noN_len]; exact Nat.le_refl _)
      ((first | with_reducible refine holds_of_ex X 400 _ _ _ ?_ | skip); simp (maxSteps := 1000000) only [push_cast, reduceCtorEq, Nat.reduceAdd, Nat.reduceMul, Nat.reduceSub, Nat.reduceBEq, Nat.reduceGT, Nat.reduceLT, Int.toNat_zero, Nat.reduceLeDiff, Int.reduceEq, Int.reduceLT, Int.reduceLE, hP, hΓ, hL, hfin, String.reduceEq, Int.toNat_one, Bool.not_not, rdkH, List.flatMap_nil, List.length_nil])
      (refine IntoF.frz 1 smo smf (gsq ?_))
      rw [hz]
      exact IntoF.base [0, 2] ⟨sml, smr, (by decide), (by first | rfl | decide), sm, sm⟩ smd
  · have d1 : (decide (n < 8) || decide (1024 < n)) = true := by
      simp only [Bool.or_eq_true, decide_eq_true_eq]; omega
    rw [if_neg h, if_neg h]
    (intro X hP hΓ hL hfin; refine ⟨_, rfl, ?_⟩; rw [show Tryz.f51.ntmps = 30 from rfl]; rw [show Tryz.f51.results.toList = [.tmp 2, .tmp 3] from rfl] at hfin; refine gxq d1 ?_)
    exact Into.sameA
theorem con51 {Γ : Env} (h : EnvOk Tryz.prog Γ) (h105 : Γ 105 = some S105) : Con Tryz.prog 51 S51 :=
  heapE_con h (fn := Tryz.f51) (by kernel_rfl) rfl (by kernel_rfl) inj51 fun n _ => body51 Γ h105 n
end Go.Proofs.YtbnnhffkbcekcaaGreatDoor.dirDone
end
section
namespace Go.Proofs.YtbnnhffkbcekcaaGreatDoor.dirDone
open Go Go.Eng Go.Proofs Go.Lib
def e106 : (Nat) × (List Wr) × (Int) → List AV × Heap := fun (N, R, n) => ([.ref 0 0 0, .int .i64 n], rdkH N R)
def p106 : (Nat) × (List Wr) × (Int) → Prop := fun (N, R, n) => R.length ≤ 4096 ∧ -1000000 ≤ n ∧ n ≤ 1000000
def r106 : (Nat) × (List Wr) × (Int) → AV := fun (N, R, n) => .bool (decide ((R.length : Int) + n ≤ 4096))
def g106 : (Nat) × (List Wr) × (Int) → Heap := fun (N, R, n) => rdkH N R
theorem inj106 : ∀ a b, e106 a = e106 b → a = b := by
  rintro ⟨N, R, n⟩ ⟨N', R', n'⟩ h
  simp only [e106, mi_iff, ms_iff, mb_iff, my_iff, UInt8.toNat_inj, secs_iff, wrs_iff, fl_iff, dskH, dskK, dirH, dirK, dirZ, flc_iff, rdkH, wrr_iff, avinj, List.cons.injEq] at h
  simp_all only
noncomputable def S106 : FSpec := heapE true e106 p106 r106 g106
theorem ps106 (N : (Nat)) (R : (List Wr)) (n : (Int)) : pselK e106 p106 ([.ref 0 0 0, .int .i64 n], rdkH N R) = (R.length ≤ 4096 ∧ -1000000 ≤ n ∧ n ≤ 1000000) := pselK_at inj106 p106 (N, R, n)
theorem rs106 (N : (Nat)) (R : (List Wr)) (n : (Int)) : rselK e106 r106 .any ([.ref 0 0 0, .int .i64 n], rdkH N R) = (.bool (decide ((R.length : Int) + n ≤ 4096))) := rselK_at inj106 r106 .any (N, R, n)
theorem hs106 (N : (Nat)) (R : (List Wr)) (n : (Int)) : rselK e106 g106 [] ([.ref 0 0 0, .int .i64 n], rdkH N R) = (rdkH N R) := rselK_at inj106 g106 [] (N, R, n)
attribute [push_cast] S106 ps106 rs106 hs106
theorem body106 (Γ : Env) (N : Nat) (R : List Wr) (n : Int) (hW : R.length ≤ 4096) (hn : -1000000 ≤ n ∧ n ≤ 1000000) : BodyOk Tryz.prog Γ Tryz.f106 [.ref 0 0 0, .int .i64 n] (rdkH N R) (.bool (decide ((R.length : Int) + n ≤ 4096))) (rdkH N R) := by
  unfold rdkH
  have w1 : IntKind.i64.wrap ((R.length : Int) + n) = (R.length : Int) + n := wr_i64 _ (by constructor <;> omega)
  (intro X hP hΓ hL hfin; refine ⟨_, rfl, ?_⟩; rw [show Tryz.f106.ntmps = 13 from rfl]; rw [show Tryz.f106.results.toList = [.tmp 4] from rfl] at hfin; refine gxq w1 ?_)
  exact Into.sameA
theorem con106 {Γ : Env} (h : EnvOk Tryz.prog Γ)  : Con Tryz.prog 106 S106 :=
  heapE_con h (fn := Tryz.f106) (by kernel_rfl) rfl (by kernel_rfl) inj106 fun ⟨N, R, n⟩ h => body106 Γ N R n h.1 h.2
def e107 : (List UInt8) → List AV × Heap := fun b => ([.sl (b.map byteAV) b.length], [])
def p107 : (List UInt8) → Prop := fun b => b.length ≤ 1024
def r107 : (List UInt8) → AV := fun b => .msl 0 0 0 1024
def g107 : (List UInt8) → Heap := fun b => [.row ((padP b).map byteAV) 1 0]
theorem inj107 : ∀ a b, e107 a = e107 b → a = b := by
  rintro b b' h
  simp only [e107, mi_iff, ms_iff, mb_iff, my_iff, UInt8.toNat_inj, secs_iff, wrs_iff, fl_iff, dskH, dskK, dirH, dirK, dirZ, flc_iff, rdkH, wrr_iff, avinj, List.cons.injEq] at h
  simp_all only
noncomputable def S107 : FSpec := heapE true e107 p107 r107 g107
theorem ps107 (b : (List UInt8)) : pselK e107 p107 ([.sl (b.map byteAV) b.length], []) = (b.length ≤ 1024) := pselK_at inj107 p107 b
theorem rs107 (b : (List UInt8)) : rselK e107 r107 .any ([.sl (b.map byteAV) b.length], []) = (.msl 0 0 0 1024) := rselK_at inj107 r107 .any b
theorem hs107 (b : (List UInt8)) : rselK e107 g107 [] ([.sl (b.map byteAV) b.length], []) = ([.row ((padP b).map byteAV) 1 0]) := rselK_at inj107 g107 [] b
attribute [push_cast] S107 ps107 rs107 hs107
theorem body107 (Γ : Env) (b : List UInt8) (hb : b.length ≤ 1024) : BodyOk Tryz.prog Γ Tryz.f107 [.sl (b.map byteAV) b.length] [] (.msl 0 0 0 1024) [.row ((padP b).map byteAV) 1 0] := by
  have ez : (List.replicate (Int.toNat 1024) [AV.int IntKind.u8 0]).flatten = zsec.map byteAV := by kernel_rfl
  (intro X hP hΓ hL hfin; refine ⟨_, rfl, ?_⟩; rw [show Tryz.f107.ntmps = 9 from rfl]; rw [show Tryz.f107.results.toList = [.tmp 2] from rfl] at hfin; refine gxq ez ?_)
  have e1 : Int.toNat 1024 = 1024 := rfl
  have e2 : List.take (min b.length 1024) (List.map byteAV b) = List.map byteAV b := List.take_of_length_le (by rw [List.length_map]; omega)
  have e3 : min (min b.length 1024) b.length = b.length := by omega
  have e4 : List.map byteAV b ++ List.drop b.length (List.map byteAV zsec) = List.map byteAV (padP b) := by
    rw [← List.map_drop, ← List.map_append]; unfold padP zsec; rw [List.drop_replicate]
  rw [e1, e2, e3, e4]
  refine ⟨by decide, ⟨one_map _, by decide⟩, ?_⟩
  exact Into.sameA
theorem con107 {Γ : Env} (h : EnvOk Tryz.prog Γ)  : Con Tryz.prog 107 S107 :=
  heapE_con h (fn := Tryz.f107) (by kernel_rfl) rfl (by kernel_rfl) inj107 fun b h => body107 Γ b h
def e110 : (Int) → List AV := fun n => [.int .i64 n]
def p110 : (Int) → Prop := fun n => 0 ≤ n ∧ n ≤ 1000000000
def r110 : (Int) → AV := fun n => .int .i64 (hdN n : Nat)
def g110 : (Int) → Heap := fun n => []
theorem inj110 : ∀ a b, e110 a = e110 b → a = b := by
  rintro n n' h
  simp only [e110, mi_iff, ms_iff, mb_iff, my_iff, UInt8.toNat_inj, secs_iff, wrs_iff, fl_iff, dskH, dskK, dirH, dirK, dirZ, flc_iff, rdkH, wrr_iff, avinj, List.cons.injEq] at h
  simp_all only
noncomputable def S110 : FSpec := funS e110 p110 r110 g110 true
theorem ps110 (n : (Int)) : psel e110 p110 [.int .i64 n] = (0 ≤ n ∧ n ≤ 1000000000) := psel_at inj110 p110 n
theorem rs110 (n : (Int)) : rsel e110 r110 .any [.int .i64 n] = (.int .i64 (hdN n : Nat)) := rsel_at inj110 r110 .any n
theorem hs110 (n : (Int)) : rsel e110 g110 [] [.int .i64 n] = ([]) := rsel_at inj110 g110 [] n
attribute [push_cast] S110 ps110 rs110 hs110
theorem body110 (Γ : Env) (n : Int) (h : 0 ≤ n ∧ n ≤ 1000000000) : BodyOk Tryz.prog Γ Tryz.f110 [.int .i64 n] [] (.int .i64 (hdN n : Nat)) [] := by
  have w1 : IntKind.i64.wrap (n + 1024) = n + 1024 := wr_i64 _ (by constructor <;> omega)
  have w2 : IntKind.i64.wrap (n + 1024 - 1) = n + 1024 - 1 := wr_i64 _ (by constructor <;> omega)
  have e : (n + 1024 - 1).tdiv 1024 = ((hdN n : Nat) : Int) := by
    rw [Int.tdiv_eq_ediv_of_nonneg (by omega)]; unfold hdN; omega
  have w3 : IntKind.i64.wrap ((hdN n : Nat) : Int) = ((hdN n : Nat) : Int) := wr_i64 _ (by unfold hdN; constructor <;> omega)
  (intro X hP hΓ hL hfin; refine ⟨_, rfl, ?_⟩; rw [show Tryz.f110.ntmps = 7 from rfl]; rw [show Tryz.f110.results.toList = [.tmp 2] from rfl] at hfin; refine gxq (cj4 w1 w2 e w3) ?_)
  exact Into.sameA
theorem con110 {Γ : Env} (h : EnvOk Tryz.prog Γ)  : Con Tryz.prog 110 S110 :=
  funS_con h (fn := Tryz.f110) (by kernel_rfl) rfl (by kernel_rfl) inj110 (by first | (intro h; cases h; done) | exact fun _ _ => rfl) fun n h => body110 Γ n h
def e111 : (Nat) → List AV := fun n => [.int .i64 n]
def p111 : (Nat) → Prop := fun n => n ≤ 1000000000
def r111 : (Nat) → AV := fun n => .int .i64 (lvN n : Nat)
def g111 : (Nat) → Heap := fun n => []
theorem inj111 : ∀ a b, e111 a = e111 b → a = b := by
  rintro n n' h
  simp only [e111, mi_iff, ms_iff, mb_iff, my_iff, UInt8.toNat_inj, secs_iff, wrs_iff, fl_iff, dskH, dskK, dirH, dirK, dirZ, flc_iff, rdkH, wrr_iff, avinj, List.cons.injEq] at h
  simp_all only
noncomputable def S111 : FSpec := funS e111 p111 r111 g111 true
theorem ps111 (n : (Nat)) : psel e111 p111 [.int .i64 n] = (n ≤ 1000000000) := psel_at inj111 p111 n
theorem rs111 (n : (Nat)) : rsel e111 r111 .any [.int .i64 n] = (.int .i64 (lvN n : Nat)) := rsel_at inj111 r111 .any n
theorem hs111 (n : (Nat)) : rsel e111 g111 [] [.int .i64 n] = ([]) := rsel_at inj111 g111 [] n
attribute [push_cast] S111 ps111 rs111 hs111
theorem body111 (Γ : Env) (n : Nat) (h : n ≤ 1000000000) : BodyOk Tryz.prog Γ Tryz.f111 [.int .i64 n] [] (.int .i64 (lvN n : Nat)) [] := by
  have w1 : IntKind.i64.wrap ((n : Int) + 31) = n + 31 := wr_i64 _ (by constructor <;> omega)
  have w2 : IntKind.i64.wrap ((n : Int) + 31 - 1) = n + 31 - 1 := wr_i64 _ (by constructor <;> omega)
  have e : ((n : Int) + 31 - 1).tdiv 31 = ((lvN n : Nat) : Int) := by
    rw [Int.tdiv_eq_ediv_of_nonneg (by omega)]; unfold lvN; omega
  have w3 : IntKind.i64.wrap ((lvN n : Nat) : Int) = ((lvN n : Nat) : Int) := wr_i64 _ (by unfold lvN; constructor <;> omega)
  (intro X hP hΓ hL hfin; refine ⟨_, rfl, ?_⟩; rw [show Tryz.f111.ntmps = 7 from rfl]; rw [show Tryz.f111.results.toList = [.tmp 2] from rfl] at hfin; refine gxq (cj4 w1 w2 e w3) ?_)
  exact Into.sameA
theorem con111 {Γ : Env} (h : EnvOk Tryz.prog Γ)  : Con Tryz.prog 111 S111 :=
  funS_con h (fn := Tryz.f111) (by kernel_rfl) rfl (by kernel_rfl) inj111 (by first | (intro h; cases h; done) | exact fun _ _ => rfl) fun n h => body111 Γ n h
def dvW (w : Nat) : Nat → Nat
  | 0 => w
  | 1 => q8 w
  | 2 => q16 w
  | 3 => q24 w
  | _ => 0
theorem dvW_lt (w : Nat) (h : w < 4294967296) (i : Nat) : dvW w i < 4294967296 := by
  rcases i with _ | _ | _ | _ | i <;> simp only [dvW] <;> (try unfold q8) <;> (try unfold q16) <;> (try unfold q24) <;> (try omega)
theorem dvW_div (w : Nat) (h : w < 4294967296) (i : Nat) (hi : i < 4) : dvW w i / 256 = dvW w (i + 1) := by
  rcases i with _ | _ | _ | _ | i <;> simp only [dvW] <;> (try unfold q8) <;> (try unfold q16) <;> (try unfold q24) <;> (try omega)
theorem dvW_at (w : Nat) (i : Nat) (hi : i < 4) : (leW w).take (i + 1) = (leW w).take i ++ [UInt8.ofNat (dvW w i)] := by
  rcases i with _ | _ | _ | _ | i <;> first | rfl | omega
def e108 : (Nat) → List AV × Heap := fun w => ([.int .u32 w], [])
def p108 : (Nat) → Prop := fun w => w < 4294967296
def r108 : (Nat) → AV := fun w => .msl 0 0 0 4
def g108 : (Nat) → Heap := fun w => [.row ((leW w).map byteAV) 1 0]
theorem inj108 : ∀ a b, e108 a = e108 b → a = b := by
  rintro w w' h
  simp only [e108, mi_iff, ms_iff, mb_iff, my_iff, UInt8.toNat_inj, secs_iff, wrs_iff, fl_iff, dskH, dskK, dirH, dirK, dirZ, flc_iff, rdkH, wrr_iff, avinj, List.cons.injEq] at h
  simp_all only
noncomputable def S108 : FSpec := heapE true e108 p108 r108 g108
theorem ps108 (w : (Nat)) : pselK e108 p108 ([.int .u32 w], []) = (w < 4294967296) := pselK_at inj108 p108 w
theorem rs108 (w : (Nat)) : rselK e108 r108 .any ([.int .u32 w], []) = (.msl 0 0 0 4) := rselK_at inj108 r108 .any w
theorem hs108 (w : (Nat)) : rselK e108 g108 [] ([.int .u32 w], []) = ([.row ((leW w).map byteAV) 1 0]) := rselK_at inj108 g108 [] w
attribute [push_cast] S108 ps108 rs108 hs108
theorem body108 (Γ : Env) (w : Nat) (hw : w < 4294967296) : BodyOk Tryz.prog Γ Tryz.f108 [.int .u32 w] [] (.msl 0 0 0 4) [.row ((leW w).map byteAV) 1 0] := by
  (intro X hP hΓ hL hfin; refine ⟨_, rfl, ?_⟩; rw [show Tryz.f108.ntmps = 18 from rfl]; rw [show Tryz.f108.results.toList = [.tmp 2] from rfl] at hfin; refine gxq0 ?_)
  refine Holds.loopM (ι := {i : Nat // i ≤ 4}) [ff,ff,tt,ff,ff,ff,ff,ff,ff,ff,ff,ff,ff,ff,ff,ff,ff,ff] (fun i => [(4, .int .i64 i.1), (0, .int .u32 (dvW w i.1 : Nat)), (3, .msl 0 i.1 0 i.1)]) (fun i => [.row (((leW w).take i.1).map byteAV) 1 i.1]) (fun i => 4 - i.1) ⟨0, Nat.zero_le _⟩ ?_ ?_
  · rw [hL]
    (refine IntoF.nil 3  1 rfl (gsq ?_))
    exact Into.sameA
  rintro ⟨i, hi⟩
  dsimp only at *
  have hd := dvW_lt w hw i
  generalize hq : dvW w i = x at *
  (refine gxq0 ?_)
  ((with_reducible refine exB_split (fun h => ?_) (fun h => ?_)) <;> (try simp only [decide_eq_true_eq, decide_eq_false_iff_not, Bool.and_eq_true, Bool.or_eq_true, Bool.and_eq_false_iff, Bool.or_eq_false_iff, Bool.not_eq_true', Bool.not_eq_false', Bool.not_eq_true, Bool.not_eq_false, Int.not_lt, Int.not_le, beq_iff_eq, beq_eq_false_iff_ne, ne_eq] at h))
  · have hi4 : i < 4 := by omega
    have wi : IntKind.i64.wrap ((i : Int) + 1) = (i : Int) + 1 := wr_i64 _ (by constructor <;> omega)
    have e1 : IntKind.u32.wrap ((x : Int).tdiv 256) = ((dvW w (i + 1) : Nat) : Int) := by
      rw [← dvW_div w hw i hi4, hq, Int.tdiv_eq_ediv_of_nonneg (by omega), u32i _ (by omega)]; rfl
    have e2 : IntKind.u8.wrap ((x : Int).tmod 256) = ((UInt8.ofNat x).toNat : Int) := by
      rw [← wrap_u8, Int.tmod_eq_emod_of_nonneg (by omega)]
      simp [IntKind.wrap, IntKind.bits, IntKind.signed]
    have e3 : List.map byteAV (List.take i (leW w)) ++ [AV.int IntKind.u8 ((UInt8.ofNat x).toNat : Int)] = List.map byteAV (List.take (i + 1) (leW w)) := by
      rw [dvW_at w i hi4, List.map_append, hq]; rfl
    (refine gxq (cj3 wi e1 e2) ?_)
    refine ⟨⟨by rw [leW_len]; omega, by omega⟩, ?_⟩
    rw [e3]
    refine ⟨⟨i + 1, by omega⟩, by simp only; omega, ?_⟩
    exact Into.sameA
  · obtain rfl : i = 4 := by omega
    have e3 : List.take 4 (leW w) = leW w := rfl
    (refine gxq0 ?_)
    rw [e3]
    (refine IntoF.ver 0  0 sm smv (gsq ?_))
    exact Into.sameA
theorem con108 {Γ : Env} (h : EnvOk Tryz.prog Γ)  : Con Tryz.prog 108 S108 :=
  heapE_con h (fn := Tryz.f108) (by kernel_rfl) rfl (by kernel_rfl) inj108 fun w h => body108 Γ w h
def e136 : (List UInt8) → List AV := fun l => [.sl (l.map byteAV) l.length, .int .i64 0]
def p136 : (List UInt8) → Prop := fun l => l.length = 4
def r136 : (List UInt8) → AV := fun l => .tup [.int .u32 (leV l), .bool true]
def g136 : (List UInt8) → Heap := fun l => []
theorem inj136 : ∀ a b, e136 a = e136 b → a = b := by
  rintro l l' h
  simp only [e136, mi_iff, ms_iff, mb_iff, my_iff, UInt8.toNat_inj, secs_iff, wrs_iff, fl_iff, dskH, dskK, dirH, dirK, dirZ, flc_iff, rdkH, wrr_iff, avinj, List.cons.injEq] at h
  simp_all only
noncomputable def S136 : FSpec := funS e136 p136 r136 g136 true
theorem ps136 (l : (List UInt8)) : psel e136 p136 [.sl (l.map byteAV) l.length, .int .i64 0] = (l.length = 4) := psel_at inj136 p136 l
theorem rs136 (l : (List UInt8)) : rsel e136 r136 .any [.sl (l.map byteAV) l.length, .int .i64 0] = (.tup [.int .u32 (leV l), .bool true]) := rsel_at inj136 r136 .any l
theorem hs136 (l : (List UInt8)) : rsel e136 g136 [] [.sl (l.map byteAV) l.length, .int .i64 0] = ([]) := rsel_at inj136 g136 [] l
attribute [push_cast] S136 ps136 rs136 hs136
theorem body136 (Γ : Env) (l : List UInt8) (hl : l.length = 4) : BodyOk Tryz.prog Γ Tryz.f136 [.sl (l.map byteAV) l.length, .int .i64 0] [] (.tup [.int .u32 (leV l), .bool true]) [] := by
  have d1 : decide ((l.length : Int) < 4) = false := decide_eq_false (by omega)
  have w1 : IntKind.i64.wrap ((l.length : Int) - 4) = 0 := by rw [hl]; rfl
  (intro X hP hΓ hL hfin; refine ⟨_, rfl, ?_⟩; rw [show Tryz.f136.ntmps = 37 from rfl]; rw [show Tryz.f136.results.toList = [.tmp 4, .tmp 5] from rfl] at hfin; refine gxq (cj2 d1 w1) ?_)
  have dn : List.drop 4 l = [] := List.drop_of_length_le (by omega)
  refine Holds.loopM (ι := {i : Nat // i ≤ 4}) [tt,tt,ff,ff,tt,tt,ff,ff,ff,ff,ff,ff,ff,ff,ff,ff,ff,ff,ff,ff,ff,ff,ff,ff,ff,ff,ff,ff,ff,ff,ff,ff,ff,ff,ff,ff,ff] (fun i => [(7, .int .i64 ((i.1 : Int) - 1)), (6, .int .u32 (leV (l.drop i.1) : Nat))]) (fun i => []) (fun i => i.1) ⟨4, Nat.le_refl _⟩ ?_ ?_
  · rw [hL]; simp only [push_cast, dn, leV]; exact Into.sameA
  rintro ⟨i, hi⟩
  dsimp only at *
  (refine gxq0 ?_)
  ((with_reducible refine exB_split (fun h => ?_) (fun h => ?_)) <;> (try simp only [decide_eq_true_eq, decide_eq_false_iff_not, Bool.and_eq_true, Bool.or_eq_true, Bool.and_eq_false_iff, Bool.or_eq_false_iff, Bool.not_eq_true', Bool.not_eq_false', Bool.not_eq_true, Bool.not_eq_false, Int.not_lt, Int.not_le, beq_iff_eq, beq_eq_false_iff_ne, ne_eq] at h))
  · obtain ⟨j, rfl⟩ : ∃ j, i = j + 1 := ⟨i - 1, by omega⟩
    have e : ((j + 1 : Nat) : Int) - 1 = j := by omega
    have hj : j < l.length := by omega
    have wj : IntKind.i64.wrap ((j : Int) - 1) = (j : Int) - 1 := wr_i64 _ (by constructor <;> omega)
    have wj2 : IntKind.i64.wrap (j : Int) = (j : Int) := wr_i64 _ (by constructor <;> omega)
    have hb : (l.map byteAV).getD j (.int .u8 0) = byteAV (l.getD j 0) := by
      rw [List.getD_eq_getElem?_getD, List.getElem?_map, List.getElem?_eq_getElem hj, List.getD_eq_getElem?_getD, List.getElem?_eq_getElem hj]; rfl
    have hdr : l.drop j = l.getD j 0 :: l.drop (j + 1) := by
      rw [List.drop_eq_getElem_cons hj, List.getD_eq_getElem?_getD, List.getElem?_eq_getElem hj]; rfl
    have hv : leV (l.drop j) = (l.getD j 0).toNat + 256 * leV (l.drop (j + 1)) := by rw [hdr]; rfl
    have hlt : leV (l.drop (j + 1)) < 16777216 := by
      have h1 := leV_lt (l.drop (j + 1))
      have h2 : (l.drop (j + 1)).length ≤ 3 := by rw [List.length_drop]; omega
      exact Nat.lt_of_lt_of_le h1 (Nat.pow_le_pow_right (by decide) h2)
    rw [e]
    generalize leV (l.drop (j + 1)) = v at *
    have wv : IntKind.u32.wrap ((v : Int) * 256) = (v : Int) * 256 := u32i _ (by omega)
    ((first | with_reducible refine holds_of_ex X 400 _ _ _ ?_ | skip); simp (maxSteps := 1000000) only [push_cast, reduceCtorEq, Nat.reduceAdd, Nat.reduceMul, Nat.reduceSub, Nat.reduceBEq, Nat.reduceGT, Nat.reduceLT, Int.toNat_zero, Nat.reduceLeDiff, Int.reduceEq, Int.reduceLT, Int.reduceLE, hP, hΓ, hL, hfin, String.reduceEq, Int.toNat_one, Bool.not_not, hj, wj, wj2, Int.zero_add, wv])
    have hb2 := (l.getD j 0).toNat_lt
    generalize (l.getD j 0).toNat = c at *
    have wc : IntKind.u32.wrap (c : Int) = (c : Int) := u32i _ (by omega)
    have wx : IntKind.u32.wrap ((v : Int) * 256 + c) = ((leV (l.drop j) : Nat) : Int) := by rw [u32i _ (by omega), hv]; omega
    rw [wc, wx]
    refine ⟨by omega, by omega, ⟨j, by omega⟩, by simp only; omega, ?_⟩
    exact Into.sameA
  · obtain rfl : i = 0 := by omega
    ((first | with_reducible refine holds_of_ex X 400 _ _ _ ?_ | skip); simp (maxSteps := 1000000) only [push_cast, reduceCtorEq, Nat.reduceAdd, Nat.reduceMul, Nat.reduceSub, Nat.reduceBEq, Nat.reduceGT, Nat.reduceLT, Int.toNat_zero, Nat.reduceLeDiff, Int.reduceEq, Int.reduceLT, Int.reduceLE, hP, hΓ, hL, hfin, String.reduceEq, Int.toNat_one, Bool.not_not, List.drop_zero])
    exact Into.sameA
theorem con136 {Γ : Env} (h : EnvOk Tryz.prog Γ)  : Con Tryz.prog 136 S136 :=
  funS_con h (fn := Tryz.f136) (by kernel_rfl) rfl (by kernel_rfl) inj136 (by first | (intro h; cases h; done) | exact fun _ _ => rfl) fun l h => body136 Γ l h
def e96 : (List UInt8) × (Int) → List AV := fun (s, i) => [.str s, .int .i64 i]
def p96 : (List UInt8) × (Int) → Prop := fun (s, i) => 0 ≤ i ∧ 4 * i + 4 ≤ (s.length : Int) ∧ s.length ≤ 4194304
def r96 : (List UInt8) × (Int) → AV := fun (s, i) => .int .u32 (getW s (4 * i).toNat)
def g96 : (List UInt8) × (Int) → Heap := fun (s, i) => []
theorem inj96 : ∀ a b, e96 a = e96 b → a = b := by
  rintro ⟨s, i⟩ ⟨s', i'⟩ h
  simp only [e96, mi_iff, ms_iff, mb_iff, my_iff, UInt8.toNat_inj, secs_iff, wrs_iff, fl_iff, dskH, dskK, dirH, dirK, dirZ, flc_iff, rdkH, wrr_iff, avinj, List.cons.injEq] at h
  simp_all only
noncomputable def S96 : FSpec := funS e96 p96 r96 g96 true
theorem ps96 (s : (List UInt8)) (i : (Int)) : psel e96 p96 [.str s, .int .i64 i] = (0 ≤ i ∧ 4 * i + 4 ≤ (s.length : Int) ∧ s.length ≤ 4194304) := psel_at inj96 p96 (s, i)
theorem rs96 (s : (List UInt8)) (i : (Int)) : rsel e96 r96 .any [.str s, .int .i64 i] = (.int .u32 (getW s (4 * i).toNat)) := rsel_at inj96 r96 .any (s, i)
theorem hs96 (s : (List UInt8)) (i : (Int)) : rsel e96 g96 [] [.str s, .int .i64 i] = ([]) := rsel_at inj96 g96 [] (s, i)
attribute [push_cast] S96 ps96 rs96 hs96
theorem body96 (Γ : Env) (h136 : Γ 136 = some S136) (s : List UInt8) (i : Nat) (h : 4 * (i : Int) + 4 ≤ (s.length : Int)) (hl : s.length ≤ 4194304) : BodyOk Tryz.prog Γ Tryz.f96 [.str s, .int .i64 i] [] (.int .u32 (getW s (4 * (i : Int)).toNat)) [] := by
  have w1 : IntKind.i64.wrap (4 * (i : Int)) = 4 * (i : Int) := wr_i64 _ (by constructor <;> omega)
  have w2 : IntKind.i64.wrap (4 * (i : Int) + 4) = 4 * (i : Int) + 4 := wr_i64 _ (by constructor <;> omega)
  have mT : min (4 * (i : Int) + 4).toNat s.length - (4 * (i : Int)).toNat = 4 := by omega
  have hT : (List.drop (4 * (i : Int)).toNat (List.take (4 * (i : Int) + 4).toNat s)).length = 4 := by rw [List.length_drop, List.length_take]; exact mT
  have eT : getW s (4 * (i : Int)).toNat = leV (List.drop (4 * (i : Int)).toNat (List.take (4 * (i : Int) + 4).toNat s)) := by
    unfold getW; rw [show (4 * (i : Int) + 4).toNat = (4 * (i : Int)).toNat + 4 by omega]
  rw [eT]
  have p := ps136 (List.drop (4 * (i : Int)).toNat (List.take (4 * (i : Int) + 4).toNat s))
  have r := rs136 (List.drop (4 * (i : Int)).toNat (List.take (4 * (i : Int) + 4).toNat s))
  have g := hs136 (List.drop (4 * (i : Int)).toNat (List.take (4 * (i : Int) + 4).toNat s))
  have tk : List.take 4 ((List.drop (4 * (i : Int)).toNat (List.take (4 * (i : Int) + 4).toNat s)).map byteAV) = (List.drop (4 * (i : Int)).toNat (List.take (4 * (i : Int) + 4).toNat s)).map byteAV := List.take_of_length_le (by rw [List.length_map, hT]; exact Nat.le_refl _)
  rw [hT] at p r g
  (intro X hP hΓ hL hfin; refine ⟨_, rfl, ?_⟩; rw [show Tryz.f96.ntmps = 20 from rfl]; rw [show Tryz.f96.results.toList = [.tmp 4] from rfl] at hfin; refine gxq (cj8 h136 w1 w2 mT tk p r g) ?_)
  refine ⟨⟨by omega, by omega, h⟩, ?_⟩
  exact Into.keep0A
theorem con96 {Γ : Env} (h : EnvOk Tryz.prog Γ) (h136 : Γ 136 = some S136) : Con Tryz.prog 96 S96 :=
  funS_con h (fn := Tryz.f96) (by kernel_rfl) rfl (by kernel_rfl) inj96 (by first | (intro h; cases h; done) | exact fun _ _ => rfl) fun ⟨s, i⟩ h => by
    obtain ⟨k, rfl⟩ := Int.eq_ofNat_of_zero_le h.1
    exact body96 Γ h136 s k h.2.1 h.2.2
end Go.Proofs.YtbnnhffkbcekcaaGreatDoor.dirDone
end
section
namespace Go.Proofs.YtbnnhffkbcekcaaGreatDoor.dirDone
open Go Go.Eng Go.Proofs Go.Lib
def dirY (F : List Fl) (Lv U : List Int) (N : Nat) (R : List Wr) : Heap := [.row [.ref 1 0 0, .sl (F.flatMap flC) F.length, .sl (Lv.map (AV.int .i64)) Lv.length, .msl 2 0 0 U.length] 4 0, .row [.sl ((noN N).map AV.str) N, .msl 3 R.length 0 R.length] 2 0, .row (U.map (AV.int .i64)) 1 0, .row (R.flatMap wrR) 2 R.length]
def dirP (F : List Fl) (Lv U : List Int) (N : Nat) (R : List Wr) : Heap := [.row [.ref 1 0 0, .msl 2 F.length 0 F.length, .msl 3 Lv.length 0 Lv.length, .msl 4 0 0 U.length] 4 0, .row [.sl ((noN N).map AV.str) N, .msl 5 R.length 0 R.length] 2 0, .row (F.flatMap flC) 4 F.length, .row (Lv.map (AV.int .i64)) 1 Lv.length, .row (U.map (AV.int .i64)) 1 0, .row (R.flatMap wrR) 2 R.length]
def uGo (was now : Int) : List Int → List Int → List Int × Bool
  | [], U => (U, true)
  | n :: l, U => if 0 ≤ n ∧ n < U.length ∧ U.getD n.toNat default = was then uGo was now l (U.set n.toNat now) else (U, false)
theorem uGo_len (was now : Int) : ∀ (l U : List Int), (uGo was now l U).1.length = U.length
  | [], U => rfl
  | n :: l, U => by
    unfold uGo
    split
    · rw [uGo_len was now l, List.length_set]
    · rfl
theorem body99y (Γ : Env) (F : List Fl) (Lv U : List Int) (N : Nat) (R : List Wr) (l : List Int) (was now : Int) (hl : l.length ≤ 4194304) (hU : U.length ≤ 4194304) : BodyOk Tryz.prog Γ Tryz.f99 [.ref 0 0 0, .sl (l.map (AV.int .i64)) l.length, .int .i64 was, .int .i64 now] (dirY F Lv U N R) (.bool (uGo was now l U).2) (dirY F Lv (uGo was now l U).1 N R) := by
  have hlen := uGo_len was now l U
  unfold dirY
  rw [hlen]
  (intro X hP hΓ hL hfin; refine ⟨_, rfl, ?_⟩; rw [show Tryz.f99.ntmps = 57 from rfl]; rw [show Tryz.f99.results.toList = [.tmp 8] from rfl] at hfin; refine gxq0 ?_)
  refine Holds.loopM (ι := {p : Nat × List Int // p.1 ≤ l.length ∧ p.2.length = U.length ∧ uGo was now l U = uGo was now (l.drop p.1) p.2}) [tt,tt,tt,tt,ff,ff,ff,ff,ff,ff,ff,ff,ff,ff,ff,ff,ff,ff,ff,ff,ff,ff,ff,ff,ff,ff,ff,ff,ff,ff,ff,ff,ff,ff,ff,ff,ff,ff,ff,ff,ff,ff,ff,ff,ff,ff,ff,ff,ff,ff,ff,ff,ff,ff,ff,ff,ff] (fun i => [(9, .int .i64 i.1.1)]) (fun i => [.row [.ref 1 0 0, .sl (F.flatMap flC) F.length, .sl (Lv.map (AV.int .i64)) Lv.length, .msl 2 0 0 U.length] 4 0, .row [.sl ((noN N).map AV.str) N, .msl 3 R.length 0 R.length] 2 0, .row (i.1.2.map (AV.int .i64)) 1 0, .row (R.flatMap wrR) 2 R.length]) (fun i => l.length - i.1.1) ⟨(0, U), Nat.zero_le _, rfl, rfl⟩ ?_ ?_
  · (rw [hL]; simp only [push_cast, Int.natCast_zero, ]; exact Into.sameA)
  rintro ⟨⟨k, V⟩, hk, hV, he⟩
  replace hk : k ≤ l.length := hk
  replace hV : V.length = U.length := hV
  replace he : uGo was now l U = uGo was now (l.drop k) V := he
  dsimp only
  (refine gxq0 ?_)
  ((with_reducible refine exB_split (fun h => ?_) (fun h => ?_)) <;> (try simp only [decide_eq_true_eq, decide_eq_false_iff_not, Bool.and_eq_true, Bool.or_eq_true, Bool.and_eq_false_iff, Bool.or_eq_false_iff, Bool.not_eq_true', Bool.not_eq_false', Bool.not_eq_true, Bool.not_eq_false, Int.not_lt, Int.not_le, beq_iff_eq, beq_eq_false_iff_ne, ne_eq] at h))
  · have hk' : k < l.length := by omega
    have hdr : l.drop k = l.getD k default :: l.drop (k + 1) := by
      rw [List.drop_eq_getElem_cons hk', List.getD_eq_getElem?_getD, List.getElem?_eq_getElem hk']; rfl
    have wk : IntKind.i64.wrap ((k : Int) + 1) = (k : Int) + 1 := wr_i64 _ (by constructor <;> omega)
    by_cases c1 : l.getD k default < 0
    · have e1 : uGo was now l U = (V, false) := by rw [he, hdr, uGo, if_neg (by omega)]
      have d1 : decide (l.getD k default < 0) = true := decide_eq_true c1
      rw [e1] at hfin
      (refine gnq0 1 ?_)
      (refine Holds.drawnK [6, 7, 8, 9, 10, 11, 12, 13, 14, 15, 18, 19, 20, 21, 22, 23, 24, 25, 26, 27, 28, 29] smp (by kernel_rfl) (gyq (cj2 d1 hk') ?_))
      refine ⟨by omega, by omega, ?_⟩
      (refine gxq0 ?_)
      exact Into.sameA
    obtain ⟨m, hm⟩ := Int.eq_ofNat_of_zero_le (show 0 ≤ l.getD k default by omega)
    have d1 : decide ((m : Int) < 0) = false := decide_eq_false (by omega)
    by_cases c2 : m < V.length
    case neg =>
      have e1 : uGo was now l U = (V, false) := by rw [he, hdr, uGo, if_neg (by omega)]
      have d2 : decide ((U.length : Int) ≤ m) = true := decide_eq_true (by omega)
      rw [e1] at hfin
      (refine gnq0 1 ?_)
      (refine Holds.drawnK [18, 19, 20, 21, 22, 23, 24, 25, 26, 27, 28, 29] smp (by kernel_rfl) (gyq (cj4 d1 d2 hk' hm) ?_))
      refine ⟨by omega, by omega, by omega, by omega, ?_⟩
      (refine gxq0 ?_)
      exact Into.sameA
    have d2 : decide ((U.length : Int) ≤ m) = false := decide_eq_false (by omega)
    by_cases c3 : V.getD m default = was
    case neg =>
      have e1 : uGo was now l U = (V, false) := by rw [he, hdr, uGo, if_neg (by rw [hm, Int.toNat_natCast]; exact fun h => c3 h.2.2)]
      have d3 : decide (V.getD m default = was) = false := decide_eq_false c3
      rw [e1] at hfin
      (refine gnq0 1 ?_)
      (refine Holds.drawnK [] smp (by kernel_rfl) (gyq (cj5 d1 d2 d3 hk' hm) ?_))
      refine ⟨by omega, by omega, by omega, by omega, by omega, by omega, by omega, ⟨by omega, by omega⟩, ?_⟩
      (refine gxq0 ?_)
      exact Into.sameA
    have e2 : uGo was now l U = uGo was now (l.drop (k + 1)) (V.set m now) := by rw [he, hdr, uGo, if_pos (by rw [hm, Int.toNat_natCast]; exact ⟨by omega, by omega, c3⟩), hm, Int.toNat_natCast]
    have d3 : decide (V.getD m default = was) = true := decide_eq_true c3
    (refine gnq0 1 ?_)
    (refine Holds.drawnK [] smp (by kernel_rfl) (gyq (cj5 d1 d2 d3 hk' hm) ?_))
    refine ⟨by omega, by omega, by omega, by omega, by omega, by omega, by omega, ⟨by omega, by omega⟩, ?_⟩
    (refine gnq0 2 ?_)
    (refine Holds.drawnE (patH [.fix (.row [.ref 1 0 0, .sl (F.flatMap flC) F.length, .sl (Lv.map (AV.int .i64)) Lv.length, .msl 2 0 0 U.length] 4 0), .any, .fix (.row (V.map (AV.int .i64)) 1 0)]) [0, 1, 2, 3, 4, 5, 6, 7, 8, 9, 10] [] [] true smp (by kernel_rfl) (by kernel_rfl) (by kernel_rfl) smh sms (gyq (cj2 hk' hm) ?_))
    refine ⟨by omega, by omega, by omega, by omega, ?_⟩
    rw [set_row V m now c2]
    (refine gxq wk ?_)
    refine ⟨⟨(k + 1, V.set m now), (by omega : k + 1 ≤ l.length), (by rw [List.length_set]; exact hV), e2⟩, by simp only; omega, ?_⟩
    exact Into.sameA
  · obtain rfl : k = l.length := by omega
    have e1 : uGo was now l U = (V, true) := by rw [he, List.drop_length, uGo]
    rw [e1] at hfin
    (refine gxq0 ?_)
    exact Into.sameA
theorem body99p (Γ : Env) (F : List Fl) (Lv U : List Int) (N : Nat) (R : List Wr) (l : List Int) (was now : Int) (hl : l.length ≤ 4194304) (hU : U.length ≤ 4194304) : BodyOk Tryz.prog Γ Tryz.f99 [.ref 0 0 0, .sl (l.map (AV.int .i64)) l.length, .int .i64 was, .int .i64 now] (dirP F Lv U N R) (.bool (uGo was now l U).2) (dirP F Lv (uGo was now l U).1 N R) := by
  have hlen := uGo_len was now l U
  unfold dirP
  rw [hlen]
  (intro X hP hΓ hL hfin; refine ⟨_, rfl, ?_⟩; rw [show Tryz.f99.ntmps = 57 from rfl]; rw [show Tryz.f99.results.toList = [.tmp 8] from rfl] at hfin; refine gxq0 ?_)
  refine Holds.loopM (ι := {p : Nat × List Int // p.1 ≤ l.length ∧ p.2.length = U.length ∧ uGo was now l U = uGo was now (l.drop p.1) p.2}) [tt,tt,tt,tt,ff,ff,ff,ff,ff,ff,ff,ff,ff,ff,ff,ff,ff,ff,ff,ff,ff,ff,ff,ff,ff,ff,ff,ff,ff,ff,ff,ff,ff,ff,ff,ff,ff,ff,ff,ff,ff,ff,ff,ff,ff,ff,ff,ff,ff,ff,ff,ff,ff,ff,ff,ff,ff] (fun i => [(9, .int .i64 i.1.1)]) (fun i => [.row [.ref 1 0 0, .msl 2 F.length 0 F.length, .msl 3 Lv.length 0 Lv.length, .msl 4 0 0 U.length] 4 0, .row [.sl ((noN N).map AV.str) N, .msl 5 R.length 0 R.length] 2 0, .row (F.flatMap flC) 4 F.length, .row (Lv.map (AV.int .i64)) 1 Lv.length, .row (i.1.2.map (AV.int .i64)) 1 0, .row (R.flatMap wrR) 2 R.length]) (fun i => l.length - i.1.1) ⟨(0, U), Nat.zero_le _, rfl, rfl⟩ ?_ ?_
  · (rw [hL]; simp only [push_cast, Int.natCast_zero, ]; exact Into.sameA)
  rintro ⟨⟨k, V⟩, hk, hV, he⟩
  replace hk : k ≤ l.length := hk
  replace hV : V.length = U.length := hV
  replace he : uGo was now l U = uGo was now (l.drop k) V := he
  dsimp only
  (refine gxq0 ?_)
  ((with_reducible refine exB_split (fun h => ?_) (fun h => ?_)) <;> (try simp only [decide_eq_true_eq, decide_eq_false_iff_not, Bool.and_eq_true, Bool.or_eq_true, Bool.and_eq_false_iff, Bool.or_eq_false_iff, Bool.not_eq_true', Bool.not_eq_false', Bool.not_eq_true, Bool.not_eq_false, Int.not_lt, Int.not_le, beq_iff_eq, beq_eq_false_iff_ne, ne_eq] at h))
  · have hk' : k < l.length := by omega
    have hdr : l.drop k = l.getD k default :: l.drop (k + 1) := by
      rw [List.drop_eq_getElem_cons hk', List.getD_eq_getElem?_getD, List.getElem?_eq_getElem hk']; rfl
    have wk : IntKind.i64.wrap ((k : Int) + 1) = (k : Int) + 1 := wr_i64 _ (by constructor <;> omega)
    by_cases c1 : l.getD k default < 0
    · have e1 : uGo was now l U = (V, false) := by rw [he, hdr, uGo, if_neg (by omega)]
      have d1 : decide (l.getD k default < 0) = true := decide_eq_true c1
      rw [e1] at hfin
      (refine gnq0 1 ?_)
      (refine Holds.drawnK [6, 7, 8, 9, 10, 11, 12, 13, 14, 15, 18, 19, 20, 21, 22, 23, 24, 25, 26, 27, 28, 29] smp (by kernel_rfl) (gyq (cj2 d1 hk') ?_))
      refine ⟨by omega, by omega, ?_⟩
      (refine gxq0 ?_)
      exact Into.sameA
    obtain ⟨m, hm⟩ := Int.eq_ofNat_of_zero_le (show 0 ≤ l.getD k default by omega)
    have d1 : decide ((m : Int) < 0) = false := decide_eq_false (by omega)
    by_cases c2 : m < V.length
    case neg =>
      have e1 : uGo was now l U = (V, false) := by rw [he, hdr, uGo, if_neg (by omega)]
      have d2 : decide ((U.length : Int) ≤ m) = true := decide_eq_true (by omega)
      rw [e1] at hfin
      (refine gnq0 1 ?_)
      (refine Holds.drawnK [18, 19, 20, 21, 22, 23, 24, 25, 26, 27, 28, 29] smp (by kernel_rfl) (gyq (cj4 d1 d2 hk' hm) ?_))
      refine ⟨by omega, by omega, by omega, by omega, ?_⟩
      (refine gxq0 ?_)
      exact Into.sameA
    have d2 : decide ((U.length : Int) ≤ m) = false := decide_eq_false (by omega)
    by_cases c3 : V.getD m default = was
    case neg =>
      have e1 : uGo was now l U = (V, false) := by rw [he, hdr, uGo, if_neg (by rw [hm, Int.toNat_natCast]; exact fun h => c3 h.2.2)]
      have d3 : decide (V.getD m default = was) = false := decide_eq_false c3
      rw [e1] at hfin
      (refine gnq0 1 ?_)
      (refine Holds.drawnK [] smp (by kernel_rfl) (gyq (cj5 d1 d2 d3 hk' hm) ?_))
      refine ⟨by omega, by omega, by omega, by omega, by omega, by omega, by omega, ⟨by omega, by omega⟩, ?_⟩
      (refine gxq0 ?_)
      exact Into.sameA
    have e2 : uGo was now l U = uGo was now (l.drop (k + 1)) (V.set m now) := by rw [he, hdr, uGo, if_pos (by rw [hm, Int.toNat_natCast]; exact ⟨by omega, by omega, c3⟩), hm, Int.toNat_natCast]
    have d3 : decide (V.getD m default = was) = true := decide_eq_true c3
    (refine gnq0 1 ?_)
    (refine Holds.drawnK [] smp (by kernel_rfl) (gyq (cj5 d1 d2 d3 hk' hm) ?_))
    refine ⟨by omega, by omega, by omega, by omega, by omega, by omega, by omega, ⟨by omega, by omega⟩, ?_⟩
    (refine gnq0 2 ?_)
    (refine Holds.drawnE (patH [.fix (.row [.ref 1 0 0, .msl 2 F.length 0 F.length, .msl 3 Lv.length 0 Lv.length, .msl 4 0 0 U.length] 4 0), .any, .any, .any, .fix (.row (V.map (AV.int .i64)) 1 0)]) [0, 1, 2, 3, 4, 5, 6, 7, 8, 9, 10] [] [] true smp (by kernel_rfl) (by kernel_rfl) (by kernel_rfl) smh sms (gyq (cj2 hk' hm) ?_))
    refine ⟨by omega, by omega, by omega, by omega, ?_⟩
    rw [set_row V m now c2]
    (refine gxq wk ?_)
    refine ⟨⟨(k + 1, V.set m now), (by omega : k + 1 ≤ l.length), (by rw [List.length_set]; exact hV), e2⟩, by simp only; omega, ?_⟩
    exact Into.sameA
  · obtain rfl : k = l.length := by omega
    have e1 : uGo was now l U = (V, true) := by rw [he, List.drop_length, uGo]
    rw [e1] at hfin
    (refine gxq0 ?_)
    exact Into.sameA
theorem body99n (Γ : Env) (F : List Fl) (Lv U : List Int) (N : Nat) (R : List Wr) (was now : Int) : BodyOk Tryz.prog Γ Tryz.f99 [.ref 0 0 0, .lit (.slice none 0 0), .int .i64 was, .int .i64 now] (dirY F Lv U N R) (.bool true) (dirY F Lv U N R) := by
  unfold dirY
  (intro X hP hΓ hL hfin; refine ⟨_, rfl, ?_⟩; rw [show Tryz.f99.ntmps = 57 from rfl]; rw [show Tryz.f99.results.toList = [.tmp 8] from rfl] at hfin; refine gxq0 ?_)
  refine Holds.loopM (ι := Unit) [tt,tt,tt,tt,ff,ff,ff,ff,ff,ff,ff,ff,ff,ff,ff,ff,ff,ff,ff,ff,ff,ff,ff,ff,ff,ff,ff,ff,ff,ff,ff,ff,ff,ff,ff,ff,ff,ff,ff,ff,ff,ff,ff,ff,ff,ff,ff,ff,ff,ff,ff,ff,ff,ff,ff,ff,ff] (fun i => [(9, .int .i64 0)]) (fun i => [.row [.ref 1 0 0, .sl (F.flatMap flC) F.length, .sl (Lv.map (AV.int .i64)) Lv.length, .msl 2 0 0 U.length] 4 0, .row [.sl ((noN N).map AV.str) N, .msl 3 R.length 0 R.length] 2 0, .row (U.map (AV.int .i64)) 1 0, .row (R.flatMap wrR) 2 R.length]) (fun i => 0) () ?_ ?_
  · (rw [hL]; simp only [push_cast, Int.natCast_zero, ]; exact Into.sameA)
  rintro ⟨⟩
  (refine gxq0 ?_)
  exact Into.sameA
inductive A99 where
  | c0 (F : (List Fl)) (Lv : (List Int)) (U : (List Int)) (N : (Nat)) (R : (List Wr)) (l : (List Int)) (was : (Int)) (now : (Int))
  | c1 (F : (List Fl)) (Lv : (List Int)) (U : (List Int)) (N : (Nat)) (R : (List Wr)) (l : (List Int)) (was : (Int)) (now : (Int))
  | c2 (F : (List Fl)) (Lv : (List Int)) (U : (List Int)) (N : (Nat)) (R : (List Wr)) (was : (Int)) (now : (Int))
def e99 : A99 → List AV × Heap
  | .c0 F Lv U N R l was now => ([.ref 0 0 0, .sl (l.map (AV.int .i64)) l.length, .int .i64 was, .int .i64 now], dirP F Lv U N R)
  | .c1 F Lv U N R l was now => ([.ref 0 0 0, .sl (l.map (AV.int .i64)) l.length, .int .i64 was, .int .i64 now], dirY F Lv U N R)
  | .c2 F Lv U N R was now => ([.ref 0 0 0, .lit (.slice none 0 0), .int .i64 was, .int .i64 now], dirY F Lv U N R)
def p99 : A99 → Prop
  | .c0 F Lv U N R l was now => l.length ≤ 4194304 ∧ U.length ≤ 4194304
  | .c1 F Lv U N R l was now => l.length ≤ 4194304 ∧ U.length ≤ 4194304
  | .c2 F Lv U N R was now => True
def r99 : A99 → AV
  | .c0 F Lv U N R l was now => .bool (uGo was now l U).2
  | .c1 F Lv U N R l was now => .bool (uGo was now l U).2
  | .c2 F Lv U N R was now => .bool true
def g99 : A99 → Heap
  | .c0 F Lv U N R l was now => dirP F Lv (uGo was now l U).1 N R
  | .c1 F Lv U N R l was now => dirY F Lv (uGo was now l U).1 N R
  | .c2 F Lv U N R was now => dirY F Lv U N R
theorem inj99 : ∀ a b, e99 a = e99 b → a = b := by
  intro a b h
  cases a <;> cases b <;> simp only [e99, mi_iff, ms_iff, mb_iff, my_iff, UInt8.toNat_inj, secs_iff, wrs_iff, fl_iff, dskH, dskK, dirH, dirK, dirZ, flc_iff, rdkH, wrr_iff, dirY, dirP, avinj, List.cons.injEq, Fn.func.injEq, reduceCtorEq, Nat.reduceEqDiff, false_and, and_false, List.cons_ne_nil] at h <;> simp_all only
noncomputable def S99 : FSpec := heapE true e99 p99 r99 g99
theorem ps99_0 (F : (List Fl)) (Lv : (List Int)) (U : (List Int)) (N : (Nat)) (R : (List Wr)) (l : (List Int)) (was : (Int)) (now : (Int)) : pselK e99 p99 ([.ref 0 0 0, .sl (l.map (AV.int .i64)) l.length, .int .i64 was, .int .i64 now], dirP F Lv U N R) = (l.length ≤ 4194304 ∧ U.length ≤ 4194304) := pselK_at inj99 p99 (.c0 F Lv U N R l was now)
theorem rs99_0 (F : (List Fl)) (Lv : (List Int)) (U : (List Int)) (N : (Nat)) (R : (List Wr)) (l : (List Int)) (was : (Int)) (now : (Int)) : rselK e99 r99 .any ([.ref 0 0 0, .sl (l.map (AV.int .i64)) l.length, .int .i64 was, .int .i64 now], dirP F Lv U N R) = (.bool (uGo was now l U).2) := rselK_at inj99 r99 .any (.c0 F Lv U N R l was now)
theorem hs99_0 (F : (List Fl)) (Lv : (List Int)) (U : (List Int)) (N : (Nat)) (R : (List Wr)) (l : (List Int)) (was : (Int)) (now : (Int)) : rselK e99 g99 [] ([.ref 0 0 0, .sl (l.map (AV.int .i64)) l.length, .int .i64 was, .int .i64 now], dirP F Lv U N R) = (dirP F Lv (uGo was now l U).1 N R) := rselK_at inj99 g99 [] (.c0 F Lv U N R l was now)
theorem ps99_1 (F : (List Fl)) (Lv : (List Int)) (U : (List Int)) (N : (Nat)) (R : (List Wr)) (l : (List Int)) (was : (Int)) (now : (Int)) : pselK e99 p99 ([.ref 0 0 0, .sl (l.map (AV.int .i64)) l.length, .int .i64 was, .int .i64 now], dirY F Lv U N R) = (l.length ≤ 4194304 ∧ U.length ≤ 4194304) := pselK_at inj99 p99 (.c1 F Lv U N R l was now)
theorem rs99_1 (F : (List Fl)) (Lv : (List Int)) (U : (List Int)) (N : (Nat)) (R : (List Wr)) (l : (List Int)) (was : (Int)) (now : (Int)) : rselK e99 r99 .any ([.ref 0 0 0, .sl (l.map (AV.int .i64)) l.length, .int .i64 was, .int .i64 now], dirY F Lv U N R) = (.bool (uGo was now l U).2) := rselK_at inj99 r99 .any (.c1 F Lv U N R l was now)
theorem hs99_1 (F : (List Fl)) (Lv : (List Int)) (U : (List Int)) (N : (Nat)) (R : (List Wr)) (l : (List Int)) (was : (Int)) (now : (Int)) : rselK e99 g99 [] ([.ref 0 0 0, .sl (l.map (AV.int .i64)) l.length, .int .i64 was, .int .i64 now], dirY F Lv U N R) = (dirY F Lv (uGo was now l U).1 N R) := rselK_at inj99 g99 [] (.c1 F Lv U N R l was now)
theorem ps99_2 (F : (List Fl)) (Lv : (List Int)) (U : (List Int)) (N : (Nat)) (R : (List Wr)) (was : (Int)) (now : (Int)) : pselK e99 p99 ([.ref 0 0 0, .lit (.slice none 0 0), .int .i64 was, .int .i64 now], dirY F Lv U N R) = (True) := pselK_at inj99 p99 (.c2 F Lv U N R was now)
theorem rs99_2 (F : (List Fl)) (Lv : (List Int)) (U : (List Int)) (N : (Nat)) (R : (List Wr)) (was : (Int)) (now : (Int)) : rselK e99 r99 .any ([.ref 0 0 0, .lit (.slice none 0 0), .int .i64 was, .int .i64 now], dirY F Lv U N R) = (.bool true) := rselK_at inj99 r99 .any (.c2 F Lv U N R was now)
theorem hs99_2 (F : (List Fl)) (Lv : (List Int)) (U : (List Int)) (N : (Nat)) (R : (List Wr)) (was : (Int)) (now : (Int)) : rselK e99 g99 [] ([.ref 0 0 0, .lit (.slice none 0 0), .int .i64 was, .int .i64 now], dirY F Lv U N R) = (dirY F Lv U N R) := rselK_at inj99 g99 [] (.c2 F Lv U N R was now)
attribute [push_cast] S99 ps99_0 rs99_0 hs99_0 ps99_1 rs99_1 hs99_1 ps99_2 rs99_2 hs99_2
theorem con99 {Γ : Env} (h : EnvOk Tryz.prog Γ)  : Con Tryz.prog 99 S99 :=
  heapE_con h (fn := Tryz.f99) (by kernel_rfl) rfl (by kernel_rfl) inj99 fun x => match x with
    | .c0 F Lv U N R l was now => fun h => body99p Γ F Lv U N R l was now h.1 h.2
    | .c1 F Lv U N R l was now => fun h => body99y Γ F Lv U N R l was now h.1 h.2
    | .c2 F Lv U N R was now => fun _ => body99n Γ F Lv U N R was now
end Go.Proofs.YtbnnhffkbcekcaaGreatDoor.dirDone
end
