/- Of directories: both stand alike. Conditions stand in each. Of directories: one step, a file put in or a sector turned; the law of opened disks. Conditions stand in each. Of directories: steps that come in; the law of opened disks. Conditions stand in each. Of directories: what is called, in its order. -/
import Derived.Test.YtbnnhffkbcekcaaGreatDoorPn
import Derived.Test.YtbnnhffkbcekcaaGreatDoorEg
set_option linter.unusedVariables false
set_option linter.unusedSimpArgs false
set_option maxRecDepth 100000
set_option maxHeartbeats 4000000
section
namespace Go.Proofs.YtbnnhffkbcekcaaGreatDoor.dirDone
open Go Go.Eng Go.Proofs Go.Lib
def zK (F : List Fl) (k : Nat) : List Fl := List.replicate k default ++ F.drop k
theorem zK_len (F : List Fl) (k : Nat) (h : k ≤ F.length) : (zK F k).length = F.length := by unfold zK; rw [List.length_append, List.length_replicate, List.length_drop]; omega
theorem zK_zero (F : List Fl) : zK F 0 = F := rfl
theorem zK_at (F : List Fl) (k : Nat) (h : k < F.length) : (zK F k).drop k = F.getD k default :: F.drop (k + 1) := by
  unfold zK
  rw [List.drop_append_of_le_length (by rw [List.length_replicate]; exact Nat.le_refl _), List.drop_eq_nil_of_le (by rw [List.length_replicate]; exact Nat.le_refl _), List.nil_append, List.drop_eq_getElem_cons h, getD_of h]
theorem zK_set (F : List Fl) (k : Nat) (h : k < F.length) : (zK F k).set k default = zK F (k + 1) := by
  unfold zK
  rw [List.set_append_right _ _ (by rw [List.length_replicate]; exact Nat.le_refl _), List.length_replicate, Nat.sub_self, List.drop_eq_getElem_cons h, List.set_cons_zero, List.replicate_succ', List.append_assoc]
  rfl
def e28 : (List Fl) × (List Int) × (List Int) × (Nat) × (List Wr) → List AV × Heap := fun (F, Lv, U, N, R) => ([.ref 0 0 0], bK F Lv U (sOf N R) (wOf N R) N R)
def p28 : (List Fl) × (List Int) × (List Int) × (Nat) × (List Wr) → Prop := fun (F, Lv, U, N, R) => F.length ≤ 4194304 ∧ U.length ≤ 1048576 ∧ R.length ≤ 4096
def r28 : (List Fl) × (List Int) × (List Int) × (Nat) × (List Wr) → AV := fun (F, Lv, U, N, R) => .bool true
def g28 : (List Fl) × (List Int) × (List Int) × (Nat) × (List Wr) → Heap := fun (F, Lv, U, N, R) => bK F Lv U (sOf N R) (wOf N R) N R
theorem inj28 : ∀ a b, e28 a = e28 b → a = b := by
  rintro ⟨F, Lv, U, N, R⟩ ⟨F', Lv', U', N', R'⟩ h
  simp only [e28, mi_iff, ms_iff, mb_iff, my_iff, UInt8.toNat_inj, secs_iff, wrs_iff, fl_iff, dskH, dskK, dirH, dirK, dirZ, flc_iff, rdkH, wrr_iff, dirY, dirP, rdkM, bK, avinj, List.cons.injEq] at h
  simp_all only
noncomputable def S28 : FSpec := heapE true e28 p28 r28 g28
theorem ps28 (F : (List Fl)) (Lv : (List Int)) (U : (List Int)) (N : (Nat)) (R : (List Wr)) : pselK e28 p28 ([.ref 0 0 0], bK F Lv U (sOf N R) (wOf N R) N R) = (F.length ≤ 4194304 ∧ U.length ≤ 1048576 ∧ R.length ≤ 4096) := pselK_at inj28 p28 (F, Lv, U, N, R)
theorem rs28 (F : (List Fl)) (Lv : (List Int)) (U : (List Int)) (N : (Nat)) (R : (List Wr)) : rselK e28 r28 .any ([.ref 0 0 0], bK F Lv U (sOf N R) (wOf N R) N R) = (.bool true) := rselK_at inj28 r28 .any (F, Lv, U, N, R)
theorem hs28 (F : (List Fl)) (Lv : (List Int)) (U : (List Int)) (N : (Nat)) (R : (List Wr)) : rselK e28 g28 [] ([.ref 0 0 0], bK F Lv U (sOf N R) (wOf N R) N R) = (bK F Lv U (sOf N R) (wOf N R) N R) := rselK_at inj28 g28 [] (F, Lv, U, N, R)
attribute [push_cast] S28 ps28 rs28 hs28
theorem body28 (Γ : Env) (h29 : Γ 29 = some S29) (h19 : Γ 19 = some S19) (h76 : Γ 76 = some S76) (h23 : Γ 23 = some S23) (F : List Fl) (Lv U : List Int) (N : Nat) (R : List Wr) (hF : F.length ≤ 4194304) (hU : U.length ≤ 1048576) (hR : R.length ≤ 4096) :
    BodyOk Tryz.prog Γ Tryz.f28 [.ref 0 0 0] (bK F Lv U (sOf N R) (wOf N R) N R) (.bool true) (bK F Lv U (sOf N R) (wOf N R) N R) := by
  have hS := sOf_len N R
  have hW := wOf_len N R
  have p29 := ps29 F Lv U (sOf N R) (wOf N R)
  have r29 := rs29 F Lv U (sOf N R) (wOf N R)
  have g29 := hs29 F Lv U (sOf N R) (wOf N R)
  have p19 := ps19 F Lv U (sOf N R) (wOf N R)
  have r19 := rs19 F Lv U (sOf N R) (wOf N R)
  have g19 := hs19 F Lv U (sOf N R) (wOf N R)
  have p76 := ps76 F Lv U N R
  have r76 := rs76 F Lv U N R
  have g76 := hs76 F Lv U N R
  have p23 := ps23 (sOf N R) (wOf N R)
  have r23 := rs23 (sOf N R) (wOf N R)
  have g23 := hs23 (sOf N R) (wOf N R)
  have hw : (wns (wOf N R)).length = R.length := by unfold wns; rw [List.length_map, hW]
  rw [hw] at r23
  unfold bK
  generalize wns (wOf N R) = ws at *
  generalize sOf N R = S at *
  generalize wOf N R = W at *
  unfold dirZ at p29 r29 g29 p19 r19 g19
  unfold dirY at p76 r76 g76
  unfold dskH at p23 r23 g23
  (intro X hP hΓ hL hfin; refine ⟨_, rfl, ?_⟩; rw [show Tryz.f28.ntmps = 77 from rfl]; rw [show Tryz.f28.results.toList = [.tmp 2] from rfl] at hfin; refine gxq (cj4 h29 p29 r29 g29) ?_)
  refine ⟨⟨by decide, hF⟩, ?_⟩
  (refine Holds.drawnK [] smp (by kernel_rfl) (gyq (cj12 h19 p19 r19 g19 h76 p76 r76 g76 h23 p23 r23 g23) ?_))
  refine ⟨⟨by decide, hU⟩, ⟨by decide, hU⟩, ⟨by decide, by omega⟩, ?_⟩
  (refine gxq0 ?_)
  refine Holds.loopM (ι := {k : Nat // k ≤ F.length}) [tt,ff,ff,tt,ff,ff,ff,ff,ff,ff,ff,ff,ff,ff,ff,ff,ff,ff,ff,ff,ff,ff,ff,ff,ff,ff,ff,ff,ff,ff,ff,ff,ff,ff,ff,ff,ff,ff,ff,ff,ff,ff,ff,ff,ff,ff,ff,ff,ff,ff,ff,ff,ff,ff,ff,ff,ff,ff,ff,ff,ff,ff,ff,ff,ff,ff,ff,ff,ff,ff,ff,ff,ff,ff,ff,ff,ff] (fun i => [(3, .msl 11 F.length 0 F.length), (4, .int .i64 i.1)]) (fun i => [.row [.ref 1 0 0, .ref 2 0 0, .ref 3 0 0, .ref 4 0 0] 4 0, .row [.msl 5 0 0 S.length, .msl 6 W.length 0 W.length] 2 0, .row [.ref 1 0 0, .sl (F.flatMap flC) F.length, .msl 7 Lv.length 0 Lv.length, .msl 8 0 0 U.length] 4 0, .row [.sl ((noN N).map AV.str) N, .msl 9 R.length 0 R.length] 2 0, .row [.ref 3 0 0, .sl (F.flatMap flC) F.length, .sl (Lv.map (AV.int .i64)) Lv.length, .msl 10 0 0 U.length] 4 0, .row (S.flatMap secC) 1024 0, .row (W.flatMap wrC) 1025 W.length, .row (Lv.map (AV.int .i64)) 1 Lv.length, .row (U.map (AV.int .i64)) 1 0, .row (R.flatMap wrR) 2 R.length, .row (U.map (AV.int .i64)) 1 0, .row ((zK F i.1).flatMap etC) 3 F.length]) (fun i => F.length - i.1) ⟨0, Nat.zero_le _⟩ ?_ ?_
  · rw [zK_zero]
    (rw [hL]; simp only [push_cast, Int.natCast_zero]; exact Into.sameA)
  rintro ⟨k, hk⟩
  dsimp only
  have hzl := zK_len F k hk
  by_cases hk' : k < F.length
  · have dk : decide ((k : Int) < (F.length : Int)) = true := decide_eq_true (by omega)
    have wk : IntKind.i64.wrap ((k : Int) + 1) = (k : Int) + 1 := wr_i64 _ (by constructor <;> omega)
    have t1 : List.take 3 (List.drop (k * 3) (List.flatMap etC (zK F k))) = etC (F.getD k default) := by
      rw [drop_fm (n := 3), zK_at F k hk', List.flatMap_cons]; rfl
    have t2 : List.take 3 (List.drop (k * 4) (List.flatMap flC F)) = etC (F.getD k default) := by
      rw [drop_fm (n := 4), List.drop_eq_getElem_cons hk', List.flatMap_cons, ← getD_of hk']; rfl
    have m1 : min 3 (F.length * 3 - k * 3) = 3 := by omega
    have m2 : min 3 (F.length * 4 - k * 4) = 3 := by omega
    have hst := splice_row (g := etC) (n := 3) (zK F k) k default (by omega)
    rw [zK_set F k hk'] at hst
    replace hst : List.take (k * 3) ((zK F k).flatMap etC) ++ [.str [], .int .i64 0, .int .i64 0] ++ List.drop (k * 3 + 3) ((zK F k).flatMap etC) = (zK F (k + 1)).flatMap etC := hst
    generalize hf : F.getD k default = f at *
    (refine gxq dk ?_)
    (refine Holds.drawnK [] smp (by kernel_rfl) ?_; simp (maxSteps := 1000000) only [↓reduceIte, Option.getD_some, push_cast, reduceCtorEq, Nat.reduceAdd, Nat.reduceMul, Nat.reduceSub, Nat.reduceBEq, Nat.reduceGT, Nat.reduceLT, Int.toNat_zero, Nat.reduceLeDiff, Int.reduceEq, Int.reduceLT, Int.reduceLE, hP, hΓ, hL, hfin, String.reduceEq, Int.toNat_one, Bool.not_not, t1, t2, m1, m2, etC])
    refine ⟨by omega, ⟨by omega, by omega⟩, by omega, by omega, ?_⟩
    (refine gxq (cj2 wk hst) ?_)
    refine ⟨by omega, by omega, ⟨k + 1, hk'⟩, by simp only; omega, ?_⟩
    exact Into.sameA
  · obtain rfl : k = F.length := by omega
    have dk : decide ((F.length : Int) < (F.length : Int)) = false := decide_eq_false (by omega)
    (refine gxq dk ?_)
    exact Into.keep11A
theorem con28 {Γ : Env} (h : EnvOk Tryz.prog Γ) (h29 : Γ 29 = some S29) (h19 : Γ 19 = some S19) (h76 : Γ 76 = some S76) (h23 : Γ 23 = some S23) : Con Tryz.prog 28 S28 :=
  heapE_con h (fn := Tryz.f28) (by kernel_rfl) rfl (by kernel_rfl) inj28 fun ⟨F, Lv, U, N, R⟩ h => body28 Γ h29 h19 h76 h23 F Lv U N R h.1 h.2.1 h.2.2
end Go.Proofs.YtbnnhffkbcekcaaGreatDoor.dirDone
end
section
namespace Go.Proofs.YtbnnhffkbcekcaaGreatDoor.dirDone
open Go Go.Eng Go.Proofs Go.Lib
inductive A27 where
  | c0 (F : (List Fl)) (Lv : (List Int)) (U : (List Int)) (N : (Nat)) (R : (List Wr)) (nm : (List UInt8)) (to : (List UInt8)) (n : (Int)) (len : (Int)) (r : (List UInt8))
  | c1 (F : (List Fl)) (Lv : (List Int)) (U : (List Int)) (N : (Nat)) (R : (List Wr)) (nm : (List UInt8)) (to : (List UInt8)) (n : (Int)) (len : (Int)) (r : (List UInt8))
def e27 : A27 → List AV × Heap
  | .c0 F Lv U N R nm to n len r => ([.ref 0 0 0, .agg [.int .i64 1, .str nm, .str to, .int .i64 n, .int .i64 len, .str r]], bK F Lv U (sOf N R) (wOf N R) N R)
  | .c1 F Lv U N R nm to n len r => ([.ref 0 0 0, .agg [.int .i64 9, .str nm, .str to, .int .i64 n, .int .i64 len, .str r]], bK F Lv U (sOf N R) (wOf N R) N R)
def p27 : A27 → Prop
  | .c0 F Lv U N R nm to n len r => inv N ⟨F, Lv, U, R⟩ ∧ 0 < N ∧ N ≤ 1024 ∧ nm.length ≤ 1048576
  | .c1 F Lv U N R nm to n len r => inv N ⟨F, Lv, U, R⟩ ∧ 0 < N ∧ N ≤ 1024 ∧ r.length ≤ 1048576
def r27 : A27 → AV
  | .c0 F Lv U N R nm to n len r => .bool true
  | .c1 F Lv U N R nm to n len r => .bool true
def g27 : A27 → Heap
  | .c0 F Lv U N R nm to n len r => fileZ N ⟨F, Lv, U, R⟩ nm len
  | .c1 F Lv U N R nm to n len r => rawZ F Lv U N R n len r
theorem inj27 : ∀ a b, e27 a = e27 b → a = b := by
  intro a b h
  cases a <;> cases b <;> simp only [e27, mi_iff, ms_iff, mb_iff, my_iff, UInt8.toNat_inj, secs_iff, wrs_iff, fl_iff, dskH, dskK, dirH, dirK, dirZ, flc_iff, rdkH, wrr_iff, dirY, dirP, rdkM, bK, Int.reduceEq, avinj, List.cons.injEq, Fn.func.injEq, reduceCtorEq, Nat.reduceEqDiff, false_and, and_false, List.cons_ne_nil] at h <;> simp_all only
noncomputable def S27 : FSpec := heapE true e27 p27 r27 g27
theorem ps27_0 (F : (List Fl)) (Lv : (List Int)) (U : (List Int)) (N : (Nat)) (R : (List Wr)) (nm : (List UInt8)) (to : (List UInt8)) (n : (Int)) (len : (Int)) (r : (List UInt8)) : pselK e27 p27 ([.ref 0 0 0, .agg [.int .i64 1, .str nm, .str to, .int .i64 n, .int .i64 len, .str r]], bK F Lv U (sOf N R) (wOf N R) N R) = (inv N ⟨F, Lv, U, R⟩ ∧ 0 < N ∧ N ≤ 1024 ∧ nm.length ≤ 1048576) := pselK_at inj27 p27 (.c0 F Lv U N R nm to n len r)
theorem rs27_0 (F : (List Fl)) (Lv : (List Int)) (U : (List Int)) (N : (Nat)) (R : (List Wr)) (nm : (List UInt8)) (to : (List UInt8)) (n : (Int)) (len : (Int)) (r : (List UInt8)) : rselK e27 r27 .any ([.ref 0 0 0, .agg [.int .i64 1, .str nm, .str to, .int .i64 n, .int .i64 len, .str r]], bK F Lv U (sOf N R) (wOf N R) N R) = (.bool true) := rselK_at inj27 r27 .any (.c0 F Lv U N R nm to n len r)
theorem hs27_0 (F : (List Fl)) (Lv : (List Int)) (U : (List Int)) (N : (Nat)) (R : (List Wr)) (nm : (List UInt8)) (to : (List UInt8)) (n : (Int)) (len : (Int)) (r : (List UInt8)) : rselK e27 g27 [] ([.ref 0 0 0, .agg [.int .i64 1, .str nm, .str to, .int .i64 n, .int .i64 len, .str r]], bK F Lv U (sOf N R) (wOf N R) N R) = (fileZ N ⟨F, Lv, U, R⟩ nm len) := rselK_at inj27 g27 [] (.c0 F Lv U N R nm to n len r)
theorem ps27_1 (F : (List Fl)) (Lv : (List Int)) (U : (List Int)) (N : (Nat)) (R : (List Wr)) (nm : (List UInt8)) (to : (List UInt8)) (n : (Int)) (len : (Int)) (r : (List UInt8)) : pselK e27 p27 ([.ref 0 0 0, .agg [.int .i64 9, .str nm, .str to, .int .i64 n, .int .i64 len, .str r]], bK F Lv U (sOf N R) (wOf N R) N R) = (inv N ⟨F, Lv, U, R⟩ ∧ 0 < N ∧ N ≤ 1024 ∧ r.length ≤ 1048576) := pselK_at inj27 p27 (.c1 F Lv U N R nm to n len r)
theorem rs27_1 (F : (List Fl)) (Lv : (List Int)) (U : (List Int)) (N : (Nat)) (R : (List Wr)) (nm : (List UInt8)) (to : (List UInt8)) (n : (Int)) (len : (Int)) (r : (List UInt8)) : rselK e27 r27 .any ([.ref 0 0 0, .agg [.int .i64 9, .str nm, .str to, .int .i64 n, .int .i64 len, .str r]], bK F Lv U (sOf N R) (wOf N R) N R) = (.bool true) := rselK_at inj27 r27 .any (.c1 F Lv U N R nm to n len r)
theorem hs27_1 (F : (List Fl)) (Lv : (List Int)) (U : (List Int)) (N : (Nat)) (R : (List Wr)) (nm : (List UInt8)) (to : (List UInt8)) (n : (Int)) (len : (Int)) (r : (List UInt8)) : rselK e27 g27 [] ([.ref 0 0 0, .agg [.int .i64 9, .str nm, .str to, .int .i64 n, .int .i64 len, .str r]], bK F Lv U (sOf N R) (wOf N R) N R) = (rawZ F Lv U N R n len r) := rselK_at inj27 g27 [] (.c1 F Lv U N R nm to n len r)
attribute [push_cast] S27 ps27_0 rs27_0 hs27_0 ps27_1 rs27_1 hs27_1
theorem body27f (Γ : Env) (h67 : Γ 67 = some S67) (F : List Fl) (Lv U : List Int) (N : Nat) (R : List Wr) (nm to : List UInt8) (n len : Int) (r : List UInt8) (hi : inv N ⟨F, Lv, U, R⟩) (hN0 : 0 < N) (hN : N ≤ 1024) (hnm : nm.length ≤ 1048576) :
    BodyOk Tryz.prog Γ Tryz.f27 [.ref 0 0 0, .agg [.int .i64 1, .str nm, .str to, .int .i64 n, .int .i64 len, .str r]] (bK F Lv U (sOf N R) (wOf N R) N R) (.bool true) (fileZ N ⟨F, Lv, U, R⟩ nm len) := by
  have p1 := ps67 F Lv U N R 1 nm to n len r
  have r1 := rs67 F Lv U N R 1 nm to n len r
  have g1 := hs67 F Lv U N R 1 nm to n len r
  have hU : U.length = N := hi.2.2.2.2.1
  have i2 := fileS_inv (nm := nm) (len := len) (show N ≤ 4096 by omega) hi
  unfold fileZ at *
  by_cases hC : fiC N ⟨F, Lv, U, R⟩ nm len
  · rw [if_pos hC] at g1 ⊢
    unfold bIH bI at *
    generalize fileS N ⟨F, Lv, U, R⟩ nm len = s2 at *
    obtain ⟨F2, Lv2, U2, R2⟩ := s2
    have hU2 : U2.length = N := i2.2.2.2.2.1
    dsimp only at *
    generalize sOf N R2 = S2 at *
    generalize wOf N R2 = W2 at *
    generalize sOf N R = S at *
    generalize wOf N R = W at *
    unfold bK at *
    (intro X hP hΓ hL hfin; refine ⟨_, rfl, ?_⟩; rw [show Tryz.f27.ntmps = 164 from rfl]; rw [show Tryz.f27.results.toList = [.tmp 4] from rfl] at hfin; refine gxq (cj4 h67 p1 r1 g1) ?_)
    refine ⟨⟨by decide, hi, hN, hnm⟩, ?_⟩
    exact IntoF.base [0, 1, 2, 3, 4, 5, 6, 7, 8, 9, 10, 12] ⟨sml, smr, (by decide), (by first | rfl | decide), sm, sm⟩ smd
  · rw [if_neg hC] at g1 ⊢
    unfold bH at *
    generalize fileS N ⟨F, Lv, U, R⟩ nm len = s2 at *
    obtain ⟨F2, Lv2, U2, R2⟩ := s2
    dsimp only at *
    generalize sOf N R2 = S2 at *
    generalize wOf N R2 = W2 at *
    generalize sOf N R = S at *
    generalize wOf N R = W at *
    unfold bK at *
    (intro X hP hΓ hL hfin; refine ⟨_, rfl, ?_⟩; rw [show Tryz.f27.ntmps = 164 from rfl]; rw [show Tryz.f27.results.toList = [.tmp 4] from rfl] at hfin; refine gxq (cj4 h67 p1 r1 g1) ?_)
    refine ⟨⟨by decide, hi, hN, hnm⟩, ?_⟩
    exact Into.keep11A
theorem body27r (Γ : Env) (h75 : Γ 75 = some S75) (F : List Fl) (Lv U : List Int) (N : Nat) (R : List Wr) (nm to : List UInt8) (n len : Int) (r : List UInt8) (hi : inv N ⟨F, Lv, U, R⟩) (hN0 : 0 < N) (hN : N ≤ 1024) (hr : r.length ≤ 1048576) :
    BodyOk Tryz.prog Γ Tryz.f27 [.ref 0 0 0, .agg [.int .i64 9, .str nm, .str to, .int .i64 n, .int .i64 len, .str r]] (bK F Lv U (sOf N R) (wOf N R) N R) (.bool true) (rawZ F Lv U N R n len r) := by
  have p1 := ps75 F Lv U N R 9 nm to n len r
  have r1 := rs75 F Lv U N R 9 nm to n len r
  have g1 := hs75 F Lv U N R 9 nm to n len r
  have hR : R.length ≤ 4096 := hi.2.2.2.2.2.1
  unfold rawZ at *
  by_cases c1 : 0 ≤ n ∧ n < N
  case neg =>
    rw [if_neg c1] at g1 ⊢
    generalize sOf N R = S at *
    generalize wOf N R = W at *
    unfold bK at *
    (intro X hP hΓ hL hfin; refine ⟨_, rfl, ?_⟩; rw [show Tryz.f27.ntmps = 164 from rfl]; rw [show Tryz.f27.results.toList = [.tmp 4] from rfl] at hfin; refine gxq (cj4 h75 p1 r1 g1) ?_)
    refine ⟨⟨by decide, hR, hN, hN0, hr⟩, ?_⟩
    exact Into.keep11A
  rw [if_pos c1] at g1 ⊢
  generalize rawR N R n len r = R1 at *
  unfold opZ at *
  by_cases c2 : opC N R1
  · rw [if_pos c2] at g1 ⊢
    unfold bN at *
    generalize (opn (sOf N (opK N R1))).1 = d at *
    obtain ⟨F2, Lv2, U2⟩ := d
    dsimp only at *
    generalize sOf N (opK N R1) = S2 at *
    generalize wOf N (opK N R1) = W2 at *
    generalize sOf N R = S at *
    generalize wOf N R = W at *
    unfold bO at *
    unfold bK at *
    (intro X hP hΓ hL hfin; refine ⟨_, rfl, ?_⟩; rw [show Tryz.f27.ntmps = 164 from rfl]; rw [show Tryz.f27.results.toList = [.tmp 4] from rfl] at hfin; refine gxq (cj4 h75 p1 r1 g1) ?_)
    refine ⟨⟨by decide, hR, hN, hN0, hr⟩, ?_⟩
    exact IntoF.base [0, 1, 2, 3, 4, 5, 6, 7, 8, 9, 10, 12, 13, 14, 15, 16] ⟨sml, smr, (by decide), (by first | rfl | decide), sm, sm⟩ smd
  · rw [if_neg c2] at g1 ⊢
    generalize sOf N R1 = S2 at *
    generalize wOf N R1 = W2 at *
    generalize sOf N R = S at *
    generalize wOf N R = W at *
    unfold bK at *
    (intro X hP hΓ hL hfin; refine ⟨_, rfl, ?_⟩; rw [show Tryz.f27.ntmps = 164 from rfl]; rw [show Tryz.f27.results.toList = [.tmp 4] from rfl] at hfin; refine gxq (cj4 h75 p1 r1 g1) ?_)
    refine ⟨⟨by decide, hR, hN, hN0, hr⟩, ?_⟩
    exact Into.keep11A
theorem con27 {Γ : Env} (h : EnvOk Tryz.prog Γ) (h67 : Γ 67 = some S67) (h75 : Γ 75 = some S75) : Con Tryz.prog 27 S27 :=
  heapE_con h (fn := Tryz.f27) (by kernel_rfl) rfl (by kernel_rfl) inj27 fun x h => match x, h with | .c0 F Lv U N R nm to n len r, h => body27f Γ h67 F Lv U N R nm to n len r h.1 h.2.1 h.2.2.1 h.2.2.2 | .c1 F Lv U N R nm to n len r, h => body27r Γ h75 F Lv U N R nm to n len r h.1 h.2.1 h.2.2.1 h.2.2.2
end Go.Proofs.YtbnnhffkbcekcaaGreatDoor.dirDone
end
section
namespace Go.Proofs.YtbnnhffkbcekcaaGreatDoor.dirDone
open Go Go.Eng Go.Proofs Go.Lib
structure Stp where
  kd : Int
  nm : List UInt8
  to : List UInt8
  n : Int
  len : Int
  r : List UInt8
  deriving Inhabited
def stC (s : Stp) : List AV := [.int .i64 s.kd, .str s.nm, .str s.to, .int .i64 s.n, .int .i64 s.len, .str s.r]
instance : Width stC 6 := ⟨fun _ => rfl⟩
instance : PureC stC := ⟨fun x => by simp only [stC, pureL, pureA, Bool.and_self], fun x => rfl⟩
def stpSh : Sh := .st [.int .i64, .str, .str, .int .i64, .int .i64, .str]
theorem has_step {v : Dv} (h : Dv.has stpSh v) : ∃ s : Stp, v.av = .agg (stC s) ∧ Dv.cells v = stC s ∧ s.nm.length ≤ v.vb ∧ s.to.length ≤ v.vb ∧ s.r.length ≤ v.vb := by
  obtain ⟨vs, rfl, hv⟩ := has_st h
  obtain ⟨x1, vs, rfl, h1, hv⟩ := hasL_cons hv
  obtain ⟨x2, vs, rfl, h2, hv⟩ := hasL_cons hv
  obtain ⟨x3, vs, rfl, h3, hv⟩ := hasL_cons hv
  obtain ⟨x4, vs, rfl, h4, hv⟩ := hasL_cons hv
  obtain ⟨x5, vs, rfl, h5, hv⟩ := hasL_cons hv
  obtain ⟨x6, vs, rfl, h6, hv⟩ := hasL_cons hv
  obtain rfl := hasL_nil hv
  obtain ⟨kd, rfl, _, _⟩ := has_int h1
  obtain ⟨nm, rfl, _⟩ := has_str h2
  obtain ⟨to, rfl, _⟩ := has_str h3
  obtain ⟨n, rfl, _, _⟩ := has_int h4
  obtain ⟨len, rfl, _, _⟩ := has_int h5
  obtain ⟨r, rfl, _⟩ := has_str h6
  refine ⟨⟨kd, nm, to, n, len, r⟩, rfl, rfl, ?_, ?_, ?_⟩ <;> simp only [Dv.vb, Dv.vbL] <;> omega
theorem has_steps {v : Dv} (h : Dv.has (.sl stpSh) v) : ∃ l : List Stp, v.av = .sl (l.flatMap stC) l.length ∧ l.length ≤ v.vb ∧ ∀ s ∈ l, s.nm.length ≤ v.vb ∧ s.to.length ≤ v.vb ∧ s.r.length ≤ v.vb := by
  obtain ⟨es, rfl, hl, he⟩ := has_sl h
  have key : ∀ es : List Dv, (∀ e ∈ es, Dv.has stpSh e) → ∃ l : List Stp, Dv.cellsL es = l.flatMap stC ∧ es.length = l.length ∧ l.length ≤ Dv.vbL es ∧ ∀ s ∈ l, s.nm.length ≤ Dv.vbL es ∧ s.to.length ≤ Dv.vbL es ∧ s.r.length ≤ Dv.vbL es := by
    intro es
    induction es with
    | nil => intro _; exact ⟨[], rfl, rfl, Nat.zero_le _, by simp⟩
    | cons e es ih =>
      intro he
      obtain ⟨l, h1, h2, h3, h4⟩ := ih fun x hx => he x (by simp [hx])
      obtain ⟨s, k1, k2, k3, k4, k5⟩ := has_step (he e (by simp))
      have hvb : 1 ≤ e.vb := by
        obtain ⟨vs, rfl, _⟩ := has_st (he e (by simp))
        simp only [Dv.vb]; omega
      refine ⟨s :: l, by simp only [Dv.cellsL, h1, k2, List.flatMap_cons], by simp [h2], ?_, fun x hx => ?_⟩
      · simp only [Dv.vbL, List.length_cons]; omega
      · simp only [Dv.vbL]
        rcases List.mem_cons.1 hx with rfl | hx
        · omega
        · have := h4 x hx; omega
  obtain ⟨l, h1, h2, h3, h4⟩ := key es he
  refine ⟨l, ?_, ?_, fun s hs => ?_⟩
  · simp only [Dv.av, Dv.cells, List.getD_cons_zero, h1, h2]
  · simp only [Dv.vb]; omega
  · simp only [Dv.vb]; have := h4 s hs; omega
theorem body7 (Γ : Env) (h25 : Γ 25 = some S25) (h26 : Γ 26 = some S26) (h27 : Γ 27 = some S27) (h28 : Γ 28 = some S28) (fs : List Stp) (t : Stp) (hf : fs.length ≤ 1048576) (hfs : ∀ s ∈ fs, s.nm.length ≤ 1048576) (ht : t.r.length ≤ 1048576) :
    BodyOk Tryz.prog Γ Tryz.f7 [.sl (fs.flatMap stC) fs.length, .agg (stC t)] [] (.bool true) [] := by
  obtain ⟨N, hN⟩ : ∃ N, N = madeN 60 := ⟨_, rfl⟩
  have p26 := ps26 60
  have r26 := rs26 60
  have g26 := hs26 60
  rw [← hN] at g26
  have hN60 : N = 60 := hN
  obtain ⟨s0, hs0⟩ : ∃ s0, st0 N = s0 := ⟨_, rfl⟩
  have i0 : inv N s0 := by
    rw [← hs0]
    exact opn_inv (rwW_le _ _ _ _ (Nat.zero_le _)) (opn_fmt' (by omega) (by decide))
  rw [hs0] at g26
  obtain ⟨F0, Lv0, U0, R0⟩ := s0
  clear hs0 hN
  unfold bH bK at g26
  dsimp only at g26
  have et : AV.agg (stC t) = .agg [.int .i64 t.kd, .str t.nm, .str t.to, .int .i64 t.n, .int .i64 t.len, .str t.r] := rfl
  rw [et]
  (intro X hP hΓ hL hfin; refine ⟨_, rfl, ?_⟩; rw [show Tryz.f7.ntmps = 46 from rfl]; rw [show Tryz.f7.results.toList = [.tmp 4] from rfl] at hfin; refine gxq (cj5 h25 h26 p26 r26 g26) ?_)
  refine Holds.loopM (ι := {p : Nat × St // p.1 ≤ fs.length ∧ inv N p.2}) [tt,ff,ff,tt,ff,tt,tt,ff,ff,ff,tt,ff,ff,ff,ff,ff,ff,ff,ff,ff,ff,ff,ff,ff,ff,ff,ff,ff,ff,ff,ff,ff,ff,ff,ff,ff,ff,ff,ff,ff,ff,ff,ff,ff,ff,ff] (fun i => [(3, .ref 11 0 0), (6, .ref 0 0 0), (7, .int .i64 i.1.1)]) (fun i => bH N i.1.2 ++ [.row [.int .i64 t.kd, .str t.nm, .str t.to, .int .i64 t.n, .int .i64 t.len, .str t.r] 6 0]) (fun i => fs.length - i.1.1) ⟨(0, ⟨F0, Lv0, U0, R0⟩), Nat.zero_le _, i0⟩ ?_ ?_
  · rw [hL]
    unfold bH bK
    simp only [push_cast, reduceCtorEq, Nat.reduceAdd, Nat.reduceMul, Nat.reduceSub, Nat.reduceBEq, Nat.reduceGT, Nat.reduceLT, Int.toNat_zero, Nat.reduceLeDiff, Int.reduceEq, Int.reduceLT, Int.reduceLE, Int.natCast_zero, List.cons_append, List.nil_append]
    exact IntoF.base [1, 2, 3, 4, 5, 6, 7, 8, 9, 10, 11, 0] ⟨sml, smr, (by decide), (by first | rfl | decide), sm, sm⟩ smd
  clear p26 r26 g26 i0
  rintro ⟨⟨k, ⟨F, Lv, U, R⟩⟩, hk, hi⟩
  replace hk : k ≤ fs.length := hk
  replace hi : inv N ⟨F, Lv, U, R⟩ := hi
  have hU : U.length = N := hi.2.2.2.2.1
  have hR : R.length ≤ 4096 := hi.2.2.2.2.2.1
  have hF2 : F.length ≤ 200 := hi.2.1
  unfold bH
  dsimp only
  unfold bK
  simp only [List.cons_append, List.nil_append]
  by_cases hk' : k < fs.length
  · have dk : decide ((k : Int) < (fs.length : Int)) = true := decide_eq_true (by omega)
    have wk : IntKind.i64.wrap ((k : Int) + 1) = (k : Int) + 1 := wr_i64 _ (by constructor <;> omega)
    obtain ⟨f, hf⟩ : ∃ f, fs.getD k default = f := ⟨_, rfl⟩
    have hfm : f ∈ fs := by rw [← hf, getD_of hk']; exact List.getElem_mem hk'
    have hnm := hfs f hfm
    have t6 : List.take 6 (List.drop (k * 6) (fs.flatMap stC)) = [.int .i64 f.kd, .str f.nm, .str f.to, .int .i64 f.n, .int .i64 f.len, .str f.r] := by
      rw [drop_fm (n := 6), List.drop_eq_getElem_cons hk', List.flatMap_cons, ← getD_of hk', hf]; rfl
    have m6 : min 6 (fs.length * 6 - k * 6) = 6 := by omega
    have p1 := ps27_0 F Lv U N R f.nm f.to f.n f.len f.r
    have r1 := rs27_0 F Lv U N R f.nm f.to f.n f.len f.r
    have g1 := hs27_0 F Lv U N R f.nm f.to f.n f.len f.r
    have i2 := fileS_inv (nm := f.nm) (len := f.len) (show N ≤ 4096 by omega) hi
    unfold fileZ at *
    by_cases hC : fiC N ⟨F, Lv, U, R⟩ f.nm f.len
    · rw [if_pos hC] at g1
      generalize hs : fileS N ⟨F, Lv, U, R⟩ f.nm f.len = s2 at *
      obtain ⟨F2, Lv2, U2, R2⟩ := s2
      unfold bIH bI at g1
      dsimp only at g1
      generalize sOf N R = S at *
      generalize wOf N R = W at *
      unfold bK at p1 r1 g1
      (refine gxq (cj8 dk wk t6 m6 h27 p1 r1 g1) ?_)
      refine ⟨by omega, by omega, ⟨by decide, hi, by omega, by omega, hnm⟩, ⟨(k + 1, ⟨F2, Lv2, U2, R2⟩), hk', i2⟩, by simp only; omega, ?_⟩
      dsimp only
      exact IntoF.base [0, 1, 2, 3, 4, 5, 6, 13, 8, 9, 10, 11] ⟨sml, smr, (by decide), (by first | rfl | decide), sm, sm⟩ smd
    · rw [if_neg hC] at g1
      generalize hs : fileS N ⟨F, Lv, U, R⟩ f.nm f.len = s2 at *
      obtain ⟨F2, Lv2, U2, R2⟩ := s2
      unfold bH at g1
      dsimp only at g1
      generalize sOf N R = S at *
      generalize wOf N R = W at *
      unfold bK at p1 r1 g1
      (refine gxq (cj8 dk wk t6 m6 h27 p1 r1 g1) ?_)
      refine ⟨by omega, by omega, ⟨by decide, hi, by omega, by omega, hnm⟩, ⟨(k + 1, ⟨F2, Lv2, U2, R2⟩), hk', i2⟩, by simp only; omega, ?_⟩
      dsimp only
      exact Into.keep12A
  · obtain rfl : k = fs.length := by omega
    have dk : decide ((fs.length : Int) < (fs.length : Int)) = false := decide_eq_false (by omega)
    have p1 := ps27_1 F Lv U N R t.nm t.to t.n t.len t.r
    have r1 := rs27_1 F Lv U N R t.nm t.to t.n t.len t.r
    have g1 := hs27_1 F Lv U N R t.nm t.to t.n t.len t.r
    unfold rawZ at *
    have hR1 : (rawR N R t.n t.len t.r).length ≤ 4096 := rwW_le _ _ _ _ hR
    by_cases c1 : 0 ≤ t.n ∧ t.n < N
    case neg =>
      rw [if_neg c1] at g1
      have p2 := ps28 F Lv U N R
      have r2 := rs28 F Lv U N R
      have g2 := hs28 F Lv U N R
      generalize sOf N R = S at *
      generalize wOf N R = W at *
      unfold bK at p1 r1 g1 p2 r2 g2
      (refine gxq (cj9 dk h27 p1 r1 g1 h28 p2 r2 g2) ?_)
      refine ⟨⟨by decide, hi, by omega, by omega, ht⟩, ⟨by decide, by omega, by omega, hR⟩, ?_⟩
      exact Into.one rfl rfl
    rw [if_pos c1] at g1
    have hopc : opC N (rawR N R t.n t.len t.r) → inv N (opS N (opK N (rawR N R t.n t.len t.r))) := fun h => by
      unfold opK
      split
      · rename_i h'
        exact opn_inv hR1 h'
      · rename_i h'
        have := h.resolve_left h'
        exact opn_inv (rwW_le _ _ _ _ hR1) (opn_fmt' (by omega) this)
    generalize rawR N R t.n t.len t.r = R1 at *
    unfold opZ at *
    by_cases c2 : opC N R1
    · rw [if_pos c2] at g1
      have i2 := hopc c2
      unfold opS at i2
      unfold bN at g1
      generalize opK N R1 = R2 at *
      generalize (opn (sOf N R2)).1 = d at *
      obtain ⟨F2, Lv2, U2⟩ := d
      dsimp only at *
      have hU2 : U2.length = N := i2.2.2.2.2.1
      have hR2 : R2.length ≤ 4096 := i2.2.2.2.2.2.1
      have hF3 : F2.length ≤ 200 := i2.2.1
      have p2 := ps28 F2 Lv2 U2 N R2
      have r2 := rs28 F2 Lv2 U2 N R2
      have g2 := hs28 F2 Lv2 U2 N R2
      generalize sOf N R2 = S2 at *
      generalize wOf N R2 = W2 at *
      generalize sOf N R = S at *
      generalize wOf N R = W at *
      unfold bO at g1
      unfold bK at p1 r1 g1 p2 r2 g2
      (refine gxq (cj9 dk h27 p1 r1 g1 h28 p2 r2 g2) ?_)
      refine ⟨⟨by decide, hi, by omega, by omega, ht⟩, ⟨by decide, by omega, by omega, hR2⟩, ?_⟩
      exact Into.one rfl rfl
    · rw [if_neg c2] at g1
      have p2 := ps28 F Lv U N R1
      have r2 := rs28 F Lv U N R1
      have g2 := hs28 F Lv U N R1
      generalize sOf N R1 = S2 at *
      generalize wOf N R1 = W2 at *
      generalize sOf N R = S at *
      generalize wOf N R = W at *
      unfold bK at p1 r1 g1 p2 r2 g2
      (refine gxq (cj9 dk h27 p1 r1 g1 h28 p2 r2 g2) ?_)
      refine ⟨⟨by decide, hi, by omega, by omega, ht⟩, ⟨by decide, by omega, by omega, hR1⟩, ?_⟩
      exact Into.one rfl rfl
end Go.Proofs.YtbnnhffkbcekcaaGreatDoor.dirDone
end
section
namespace Go.Proofs.YtbnnhffkbcekcaaGreatDoor.dirDone
open Go Go.Eng Go.Proofs Go.RowKit
noncomputable def dp0 : Env := noE
theorem dp0_ok : EnvOk Tryz.prog dp0 := noE_ok _
noncomputable def dp1 : Env := addE dp0 116 S116
theorem dp1_ok : EnvOk Tryz.prog dp1 := dp0_ok.add (con116 dp0_ok)
noncomputable def dp2 : Env := addE dp1 64 S64
theorem dp2_ok : EnvOk Tryz.prog dp2 := dp1_ok.add (con64 dp1_ok rfl)
noncomputable def dp3 : Env := addE dp2 113 S113
theorem dp3_ok : EnvOk Tryz.prog dp3 := dp2_ok.add (con113 dp2_ok rfl)
noncomputable def dp4 : Env := addE dp3 31 S31
theorem dp4_ok : EnvOk Tryz.prog dp4 := dp3_ok.add (con31 dp3_ok)
noncomputable def dp5 : Env := addE dp4 115 S115
theorem dp5_ok : EnvOk Tryz.prog dp5 := dp4_ok.add (con115 dp4_ok)
noncomputable def dp6 : Env := addE dp5 62 S62
theorem dp6_ok : EnvOk Tryz.prog dp6 := dp5_ok.add (con62 dp5_ok rfl)
noncomputable def dp7 : Env := addE dp6 23 S23
theorem dp7_ok : EnvOk Tryz.prog dp7 := dp6_ok.add (con23 dp6_ok)
noncomputable def dp8 : Env := addE dp7 61 S61
theorem dp8_ok : EnvOk Tryz.prog dp8 := dp7_ok.add (con61 dp7_ok rfl)
noncomputable def dp9 : Env := addE dp8 90 S90
theorem dp9_ok : EnvOk Tryz.prog dp9 := dp8_ok.add (con90 dp8_ok rfl)
noncomputable def dp10 : Env := addE dp9 49 S49
theorem dp10_ok : EnvOk Tryz.prog dp10 := dp9_ok.add (con49 dp9_ok)
noncomputable def dp11 : Env := addE dp10 91 S91
theorem dp11_ok : EnvOk Tryz.prog dp11 := dp10_ok.add (con91 dp10_ok)
noncomputable def dp12 : Env := addE dp11 92 S92
theorem dp12_ok : EnvOk Tryz.prog dp12 := dp11_ok.add (con92 dp11_ok rfl)
noncomputable def dp13 : Env := addE dp12 37 S37
theorem dp13_ok : EnvOk Tryz.prog dp13 := dp12_ok.add (con37 dp12_ok rfl rfl rfl)
noncomputable def dp14 : Env := addE dp13 141 S141
theorem dp14_ok : EnvOk Tryz.prog dp14 := dp13_ok.add (con141 dp13_ok)
noncomputable def dp15 : Env := addE dp14 79 S79
theorem dp15_ok : EnvOk Tryz.prog dp15 := dp14_ok.add (con79 dp14_ok)
noncomputable def dp16 : Env := addE dp15 126 S126
theorem dp16_ok : EnvOk Tryz.prog dp16 := dp15_ok.add (con126 dp15_ok rfl)
noncomputable def dp17 : Env := addE dp16 78 S78
theorem dp17_ok : EnvOk Tryz.prog dp17 := dp16_ok.add (con78 dp16_ok rfl)
noncomputable def dp18 : Env := addE dp17 80 S80
theorem dp18_ok : EnvOk Tryz.prog dp18 := dp17_ok.add (con80 dp17_ok rfl rfl rfl)
noncomputable def dp19 : Env := addE dp18 56 S56
theorem dp19_ok : EnvOk Tryz.prog dp19 := dp18_ok.add (con56 dp18_ok)
noncomputable def dp20 : Env := addE dp19 109 S109
theorem dp20_ok : EnvOk Tryz.prog dp20 := dp19_ok.add (con109 dp19_ok)
noncomputable def dp21 : Env := addE dp20 185 ixS
theorem dp21_ok : EnvOk Tryz.prog dp21 := dp20_ok.add (con185)
noncomputable def dp22 : Env := addE dp21 178 ixS
theorem dp22_ok : EnvOk Tryz.prog dp22 := dp21_ok.add (con178 dp21_ok rfl)
noncomputable def dp23 : Env := addE dp22 173 S173
theorem dp23_ok : EnvOk Tryz.prog dp23 := dp22_ok.add (con173 dp22_ok rfl)
noncomputable def dp24 : Env := addE dp23 164 S164
theorem dp24_ok : EnvOk Tryz.prog dp24 := dp23_ok.add (con164 dp23_ok rfl)
noncomputable def dp25 : Env := addE dp24 156 S156
theorem dp25_ok : EnvOk Tryz.prog dp25 := dp24_ok.add (con156 dp24_ok rfl)
noncomputable def dp26 : Env := addE dp25 165 S165
theorem dp26_ok : EnvOk Tryz.prog dp26 := dp25_ok.add (con165 dp25_ok)
noncomputable def dp27 : Env := addE dp26 166 S166
theorem dp27_ok : EnvOk Tryz.prog dp27 := dp26_ok.add (con166 dp26_ok)
noncomputable def dp28 : Env := addE dp27 157 S157
theorem dp28_ok : EnvOk Tryz.prog dp28 := dp27_ok.add (con157 dp27_ok rfl rfl)
noncomputable def dp29 : Env := addE dp28 139 S139
theorem dp29_ok : EnvOk Tryz.prog dp29 := dp28_ok.add (con139 dp28_ok)
noncomputable def dp30 : Env := addE dp29 114 S114
theorem dp30_ok : EnvOk Tryz.prog dp30 := dp29_ok.add (con114 dp29_ok rfl rfl rfl rfl rfl rfl rfl)
noncomputable def dp31 : Env := addE dp30 55 S55
theorem dp31_ok : EnvOk Tryz.prog dp31 := dp30_ok.add (con55 dp30_ok rfl rfl rfl rfl rfl)
noncomputable def dp32 : Env := addE dp31 18 S18
theorem dp32_ok : EnvOk Tryz.prog dp32 := dp31_ok.add (con18 dp31_ok rfl rfl)
noncomputable def dp33 : Env := addE dp32 19 S19
theorem dp33_ok : EnvOk Tryz.prog dp33 := dp32_ok.add (con19 dp32_ok)
noncomputable def dp34 : Env := addE dp33 33 S33
theorem dp34_ok : EnvOk Tryz.prog dp34 := dp33_ok.add (con33 dp33_ok rfl)
noncomputable def dp35 : Env := addE dp34 32 S32
theorem dp35_ok : EnvOk Tryz.prog dp35 := dp34_ok.add (con32 dp34_ok rfl)
noncomputable def dp36 : Env := addE dp35 38 S38
theorem dp36_ok : EnvOk Tryz.prog dp36 := dp35_ok.add (con38 dp35_ok)
noncomputable def dp37 : Env := addE dp36 29 S29
theorem dp37_ok : EnvOk Tryz.prog dp37 := dp36_ok.add (con29 dp36_ok)
noncomputable def dp38 : Env := addE dp37 154 cmpS
theorem dp38_ok : EnvOk Tryz.prog dp38 := dp37_ok.add (con154)
noncomputable def dp39 : Env := addE dp38 134 cmpS
theorem dp39_ok : EnvOk Tryz.prog dp39 := dp38_ok.add (con134 dp38_ok rfl)
noncomputable def dp40 : Env := addE dp39 89 cmpS
theorem dp40_ok : EnvOk Tryz.prog dp40 := dp39_ok.add (con89 dp39_ok rfl)
noncomputable def dp41 : Env := addE dp40 125 S125
theorem dp41_ok : EnvOk Tryz.prog dp41 := dp40_ok.add (con125 dp40_ok rfl)
noncomputable def dp42 : Env := addE dp41 124 S124
theorem dp42_ok : EnvOk Tryz.prog dp42 := dp41_ok.add (con124 dp41_ok rfl)
noncomputable def dp43 : Env := addE dp42 77 S77
theorem dp43_ok : EnvOk Tryz.prog dp43 := dp42_ok.add (con77 dp42_ok rfl)
noncomputable def dp44 : Env := addE dp43 81 S81
theorem dp44_ok : EnvOk Tryz.prog dp44 := dp43_ok.add (con81 dp43_ok)
noncomputable def dp45 : Env := addE dp44 82 S82
theorem dp45_ok : EnvOk Tryz.prog dp45 := dp44_ok.add (con82 dp44_ok rfl)
noncomputable def dp46 : Env := addE dp45 129 S129
theorem dp46_ok : EnvOk Tryz.prog dp46 := dp45_ok.add (con129 dp45_ok)
noncomputable def dp47 : Env := addE dp46 130 S130
theorem dp47_ok : EnvOk Tryz.prog dp47 := dp46_ok.add (con130 dp46_ok)
noncomputable def dp48 : Env := addE dp47 85 S85
theorem dp48_ok : EnvOk Tryz.prog dp48 := dp47_ok.add (con85 dp47_ok rfl rfl rfl rfl rfl rfl rfl rfl)
noncomputable def dp49 : Env := addE dp48 83 S83
theorem dp49_ok : EnvOk Tryz.prog dp49 := dp48_ok.add (con83 dp48_ok)
noncomputable def dp50 : Env := addE dp49 84 S84
theorem dp50_ok : EnvOk Tryz.prog dp50 := dp49_ok.add (con84 dp49_ok)
noncomputable def dp51 : Env := addE dp50 34 S34
theorem dp51_ok : EnvOk Tryz.prog dp51 := dp50_ok.add (con34 dp50_ok rfl rfl rfl rfl rfl rfl rfl rfl rfl)
noncomputable def dp52 : Env := addE dp51 95 S95
theorem dp52_ok : EnvOk Tryz.prog dp52 := dp51_ok.add (con95 dp51_ok)
noncomputable def dp53 : Env := addE dp52 135 S135
theorem dp53_ok : EnvOk Tryz.prog dp53 := dp52_ok.add (con135 dp52_ok)
noncomputable def dp54 : Env := addE dp53 94 S94
theorem dp54_ok : EnvOk Tryz.prog dp54 := dp53_ok.add (con94 dp53_ok rfl)
noncomputable def dp55 : Env := addE dp54 105 S105
theorem dp55_ok : EnvOk Tryz.prog dp55 := dp54_ok.add (con105 dp54_ok)
noncomputable def dp56 : Env := addE dp55 51 S51
theorem dp56_ok : EnvOk Tryz.prog dp56 := dp55_ok.add (con51 dp55_ok rfl)
noncomputable def dp57 : Env := addE dp56 106 S106
theorem dp57_ok : EnvOk Tryz.prog dp57 := dp56_ok.add (con106 dp56_ok)
noncomputable def dp58 : Env := addE dp57 107 S107
theorem dp58_ok : EnvOk Tryz.prog dp58 := dp57_ok.add (con107 dp57_ok)
noncomputable def dp59 : Env := addE dp58 110 S110
theorem dp59_ok : EnvOk Tryz.prog dp59 := dp58_ok.add (con110 dp58_ok)
noncomputable def dp60 : Env := addE dp59 111 S111
theorem dp60_ok : EnvOk Tryz.prog dp60 := dp59_ok.add (con111 dp59_ok)
noncomputable def dp61 : Env := addE dp60 108 S108
theorem dp61_ok : EnvOk Tryz.prog dp61 := dp60_ok.add (con108 dp60_ok)
noncomputable def dp62 : Env := addE dp61 136 S136
theorem dp62_ok : EnvOk Tryz.prog dp62 := dp61_ok.add (con136 dp61_ok)
noncomputable def dp63 : Env := addE dp62 96 S96
theorem dp63_ok : EnvOk Tryz.prog dp63 := dp62_ok.add (con96 dp62_ok rfl)
noncomputable def dp64 : Env := addE dp63 99 S99
theorem dp64_ok : EnvOk Tryz.prog dp64 := dp63_ok.add (con99 dp63_ok)
noncomputable def dp65 : Env := addE dp64 76 S76
theorem dp65_ok : EnvOk Tryz.prog dp65 := dp64_ok.add (con76 dp64_ok)
noncomputable def dp66 : Env := addE dp65 71 S71
theorem dp66_ok : EnvOk Tryz.prog dp66 := dp65_ok.add (con71 dp65_ok)
noncomputable def dp67 : Env := addE dp66 72 S72
theorem dp67_ok : EnvOk Tryz.prog dp67 := dp66_ok.add (con72 dp66_ok)
noncomputable def dp68 : Env := addE dp67 120 S120
theorem dp68_ok : EnvOk Tryz.prog dp68 := dp67_ok.add (con120 dp67_ok)
noncomputable def dp69 : Env := addE dp68 98 S98
theorem dp69_ok : EnvOk Tryz.prog dp69 := dp68_ok.add (con98 dp68_ok rfl rfl rfl rfl)
noncomputable def dp70 : Env := addE dp69 137 S137
theorem dp70_ok : EnvOk Tryz.prog dp70 := dp69_ok.add (con137 dp69_ok rfl rfl)
noncomputable def dp71 : Env := addE dp70 97 S97
theorem dp71_ok : EnvOk Tryz.prog dp71 := dp70_ok.add (con97 dp70_ok rfl rfl rfl rfl)
noncomputable def dp72 : Env := addE dp71 43 S43
theorem dp72_ok : EnvOk Tryz.prog dp72 := dp71_ok.add (con43 dp71_ok rfl rfl rfl rfl rfl rfl)
noncomputable def dp73 : Env := addE dp72 103 S103
theorem dp73_ok : EnvOk Tryz.prog dp73 := dp72_ok.add (con103 dp72_ok)
noncomputable def dp74 : Env := addE dp73 52 S52
theorem dp74_ok : EnvOk Tryz.prog dp74 := dp73_ok.add (con52 dp73_ok rfl rfl rfl rfl)
noncomputable def dp75 : Env := addE dp74 121 S121
theorem dp75_ok : EnvOk Tryz.prog dp75 := dp74_ok.add (con121 dp74_ok rfl rfl rfl)
noncomputable def dp76 : Env := addE dp75 122 S122
theorem dp76_ok : EnvOk Tryz.prog dp76 := dp75_ok.add (con122 dp75_ok rfl rfl rfl rfl rfl rfl)
noncomputable def dp77 : Env := addE dp76 68 S68
theorem dp77_ok : EnvOk Tryz.prog dp77 := dp76_ok.add (con68 dp76_ok rfl rfl rfl rfl rfl rfl)
noncomputable def dp78 : Env := addE dp77 25 S25
theorem dp78_ok : EnvOk Tryz.prog dp78 := dp77_ok.add (con25 dp77_ok rfl rfl rfl rfl)
noncomputable def dp79 : Env := addE dp78 26 S26
theorem dp79_ok : EnvOk Tryz.prog dp79 := dp78_ok.add (con26 dp78_ok rfl rfl rfl rfl rfl rfl)
noncomputable def dp80 : Env := addE dp79 119 S119
theorem dp80_ok : EnvOk Tryz.prog dp80 := dp79_ok.add (con119 dp79_ok rfl rfl)
noncomputable def dp81 : Env := addE dp80 118 S118
theorem dp81_ok : EnvOk Tryz.prog dp81 := dp80_ok.add (con118 dp80_ok)
noncomputable def dp82 : Env := addE dp81 74 S74
theorem dp82_ok : EnvOk Tryz.prog dp82 := dp81_ok.add (con74 dp81_ok rfl rfl rfl rfl)
noncomputable def dp83 : Env := addE dp82 75 S75
theorem dp83_ok : EnvOk Tryz.prog dp83 := dp82_ok.add (con75 dp82_ok rfl rfl rfl rfl)
noncomputable def dp84 : Env := addE dp83 67 S67
theorem dp84_ok : EnvOk Tryz.prog dp84 := dp83_ok.add (con67 dp83_ok rfl rfl rfl rfl rfl rfl rfl rfl rfl)
noncomputable def dp85 : Env := addE dp84 28 S28
theorem dp85_ok : EnvOk Tryz.prog dp85 := dp84_ok.add (con28 dp84_ok rfl rfl rfl rfl)
noncomputable def dp86 : Env := addE dp85 27 S27
theorem dp86_ok : EnvOk Tryz.prog dp86 := dp85_ok.add (con27 dp85_ok rfl rfl)
noncomputable abbrev dpE : Env := dp86
theorem dpE_ok : EnvOk Tryz.prog dpE := dp86_ok
end Go.Proofs.YtbnnhffkbcekcaaGreatDoor.dirDone
end
