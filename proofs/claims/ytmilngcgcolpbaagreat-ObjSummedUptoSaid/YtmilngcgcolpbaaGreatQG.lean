/- Of objects: a word laid in place; bytes with their sum behind them. Conditions stand in each. -/
import Derived.Test.YtmilngcgcolpbaaGreatQF
import Derived.Test.YtmilngcgcolpbaaGreatEng21
namespace Go.Proofs.YtmilngcgcolpbaaGreat.objDone
open Go Go.Eng Go.Proofs
set_option linter.unusedVariables false
set_option linter.unusedSimpArgs false
set_option maxRecDepth 100000
set_option maxHeartbeats 4000000
def putL (w : Int) (k : Nat) : List AV := [.int .u8 (if 0 < k then ((by8 w).toNat : Int) else 0), .int .u8 (if 1 < k then ((by8 (w.fdiv 256)).toNat : Int) else 0), .int .u8 (if 2 < k then ((by8 (w.fdiv 65536)).toNat : Int) else 0), .int .u8 (if 3 < k then ((by8 (w.fdiv 16777216)).toNat : Int) else 0)]
theorem c4 : ((4 : Nat) : Int) = 4 := rfl
theorem w40 : IntKind.i64.wrap (4 - 4) = 0 := rfl
def e50 : (Int) × (Nat) → List AV × Heap := fun (w, v) => ([.msl 0 v 0 4, .int .i64 0, .int .u32 w], [.row [.int .u8 0, .int .u8 0, .int .u8 0, .int .u8 0] 1 v])
def p50 : (Int) × (Nat) → Prop := fun (w, v) => True
def r50 : (Int) × (Nat) → AV := fun (w, v) => .bool true
def g50 : (Int) × (Nat) → Heap := fun (w, v) => [.row ((le4 w).map byteAV) 1 v]
theorem inj50 : ∀ a b, e50 a = e50 b → a = b := by
  rintro ⟨w, v⟩ ⟨w', v'⟩ h
  simp only [e50, mi_iff, ms_iff, mb_iff, my_iff, rc_iff, fI_iff, Prod.mk.injEq, List.cons.injEq, AObj.row.injEq, AV.int.injEq, AV.str.injEq, AV.bool.injEq, AV.sl.injEq, AV.agg.injEq, AV.ip.injEq, AV.fn.injEq, AV.ifc.injEq, AV.mpr.injEq, AV.msl.injEq, AV.ref.injEq, Int.natCast_inj, and_true, true_and] at h
  simp_all only
noncomputable def S50 : FSpec := heapF e50 p50 r50 g50
theorem ps50 (w : (Int)) (v : (Nat)) : pselK e50 p50 ([.msl 0 v 0 4, .int .i64 0, .int .u32 w], [.row [.int .u8 0, .int .u8 0, .int .u8 0, .int .u8 0] 1 v]) = (True) := pselK_at inj50 p50 (w, v)
theorem rs50 (w : (Int)) (v : (Nat)) : rselK e50 r50 .any ([.msl 0 v 0 4, .int .i64 0, .int .u32 w], [.row [.int .u8 0, .int .u8 0, .int .u8 0, .int .u8 0] 1 v]) = (.bool true) := rselK_at inj50 r50 .any (w, v)
theorem hs50 (w : (Int)) (v : (Nat)) : rselK e50 g50 [] ([.msl 0 v 0 4, .int .i64 0, .int .u32 w], [.row [.int .u8 0, .int .u8 0, .int .u8 0, .int .u8 0] 1 v]) = ([.row ((le4 w).map byteAV) 1 v]) := rselK_at inj50 g50 [] (w, v)
attribute [push_cast] S50 ps50 rs50 hs50
theorem body50 (Γ : Env) (w : Int) (v : Nat) : BodyOk Tryz.prog Γ Tryz.f26 [.msl 0 v 0 4, .int .i64 0, .int .u32 w] [.row [.int .u8 0, .int .u8 0, .int .u8 0, .int .u8 0] 1 v] (.bool true) [.row ((le4 w).map byteAV) 1 v] := by
  (intro X hP hΓ hL hfin; refine ⟨_, rfl, ?_⟩; rw [show Tryz.f26.ntmps = 31 from rfl]; rw [show Tryz.f26.results.toList = [.tmp 6] from rfl] at hfin; apply holds_of_ex X 400; simp (maxSteps := 1000000) only [push_cast, reduceCtorEq, Nat.reduceAdd, Nat.reduceMul, Nat.reduceSub, Nat.reduceBEq, Nat.reduceGT, Nat.reduceLT, Int.toNat_zero, Nat.reduceLeDiff, Int.reduceEq, Int.reduceLT, Int.reduceLE, hP, hΓ, hL, hfin, ↓tm_get, String.reduceEq, not_false_eq_true, if_true, ↓c4, w40])
  refine Holds.loopM (ι := {k : Nat // k ≤ 4}) [true, true, true, false, false, false, true, false, false, false, false, false, false, false, false, false, false, false, false, false, false, false, false, false, false, false, false, false, false, false, false] (fun i => [(17, .int .i64 i.1)]) (fun i => [.row (putL w i.1) 1 v]) (fun i => 4 - i.1) ⟨0, Nat.zero_le _⟩ ?_ ?_
  · (rw [hL]; simp only [push_cast, Int.natCast_zero]; exact Into.sameA)
  rintro ⟨k, hk⟩
  have hc : k = 0 ∨ k = 1 ∨ k = 2 ∨ k = 3 ∨ k = 4 := by omega
  rcases hc with rfl | rfl | rfl | rfl | rfl
  · simp only [putL, Nat.lt_irrefl, Nat.not_lt_zero, Nat.reduceLT, if_true, if_false]
    ((first | with_reducible refine holds_of_ex X 400 _ _ _ ?_ | skip); simp (maxSteps := 1000000) only [push_cast, reduceCtorEq, Nat.reduceAdd, Nat.reduceMul, Nat.reduceSub, Nat.reduceBEq, Nat.reduceGT, Nat.reduceLT, Int.toNat_zero, Nat.reduceLeDiff, Int.reduceEq, Int.reduceLT, Int.reduceLE, hP, hΓ, hL, hfin, ↓tm_get, String.reduceEq, not_false_eq_true, if_true, ↓c4, show ((0 : Nat) : Int) = 0 from rfl, show IntKind.i64.wrap (8 * 0) = 0 from rfl, show IntKind.i64.wrap (0 + 0) = 0 from rfl, show IntKind.i64.wrap (0 + 1) = 1 from rfl, show Int.toNat 0 = 0 from rfl, show (2 : Int) ^ min (Int.toNat 0) IntKind.u32.bits = 1 from rfl, show (2 : Int) ^ min 0 IntKind.u32.bits = 1 from rfl, Int.fdiv_one, wr_u8])
    refine ⟨⟨1, by omega⟩, by simp only; omega, ?_⟩
    simp only [Nat.lt_irrefl, Nat.not_lt_zero, Nat.reduceLT, if_true, if_false, push_cast]
    exact Into.sameA
  · simp only [putL, Nat.lt_irrefl, Nat.not_lt_zero, Nat.reduceLT, if_true, if_false]
    ((first | with_reducible refine holds_of_ex X 400 _ _ _ ?_ | skip); simp (maxSteps := 1000000) only [push_cast, reduceCtorEq, Nat.reduceAdd, Nat.reduceMul, Nat.reduceSub, Nat.reduceBEq, Nat.reduceGT, Nat.reduceLT, Int.toNat_zero, Nat.reduceLeDiff, Int.reduceEq, Int.reduceLT, Int.reduceLE, hP, hΓ, hL, hfin, ↓tm_get, String.reduceEq, not_false_eq_true, if_true, ↓c4, show ((1 : Nat) : Int) = 1 from rfl, show IntKind.i64.wrap (8 * 1) = 8 from rfl, show IntKind.i64.wrap (0 + 1) = 1 from rfl, show IntKind.i64.wrap (1 + 1) = 2 from rfl, show Int.toNat 1 = 1 from rfl, show (2 : Int) ^ min (Int.toNat 8) IntKind.u32.bits = 256 from rfl, show (2 : Int) ^ min 0 IntKind.u32.bits = 1 from rfl, Int.fdiv_one, wr_u8])
    refine ⟨⟨2, by omega⟩, by simp only; omega, ?_⟩
    simp only [Nat.lt_irrefl, Nat.not_lt_zero, Nat.reduceLT, if_true, if_false, push_cast]
    exact Into.sameA
  · simp only [putL, Nat.lt_irrefl, Nat.not_lt_zero, Nat.reduceLT, if_true, if_false]
    ((first | with_reducible refine holds_of_ex X 400 _ _ _ ?_ | skip); simp (maxSteps := 1000000) only [push_cast, reduceCtorEq, Nat.reduceAdd, Nat.reduceMul, Nat.reduceSub, Nat.reduceBEq, Nat.reduceGT, Nat.reduceLT, Int.toNat_zero, Nat.reduceLeDiff, Int.reduceEq, Int.reduceLT, Int.reduceLE, hP, hΓ, hL, hfin, ↓tm_get, String.reduceEq, not_false_eq_true, if_true, ↓c4, show ((2 : Nat) : Int) = 2 from rfl, show IntKind.i64.wrap (8 * 2) = 16 from rfl, show IntKind.i64.wrap (0 + 2) = 2 from rfl, show IntKind.i64.wrap (2 + 1) = 3 from rfl, show Int.toNat 2 = 2 from rfl, show (2 : Int) ^ min (Int.toNat 16) IntKind.u32.bits = 65536 from rfl, show (2 : Int) ^ min 0 IntKind.u32.bits = 1 from rfl, Int.fdiv_one, wr_u8])
    refine ⟨⟨3, by omega⟩, by simp only; omega, ?_⟩
    simp only [Nat.lt_irrefl, Nat.not_lt_zero, Nat.reduceLT, if_true, if_false, push_cast]
    exact Into.sameA
  · simp only [putL, Nat.lt_irrefl, Nat.not_lt_zero, Nat.reduceLT, if_true, if_false]
    ((first | with_reducible refine holds_of_ex X 400 _ _ _ ?_ | skip); simp (maxSteps := 1000000) only [push_cast, reduceCtorEq, Nat.reduceAdd, Nat.reduceMul, Nat.reduceSub, Nat.reduceBEq, Nat.reduceGT, Nat.reduceLT, Int.toNat_zero, Nat.reduceLeDiff, Int.reduceEq, Int.reduceLT, Int.reduceLE, hP, hΓ, hL, hfin, ↓tm_get, String.reduceEq, not_false_eq_true, if_true, ↓c4, show ((3 : Nat) : Int) = 3 from rfl, show IntKind.i64.wrap (8 * 3) = 24 from rfl, show IntKind.i64.wrap (0 + 3) = 3 from rfl, show IntKind.i64.wrap (3 + 1) = 4 from rfl, show Int.toNat 3 = 3 from rfl, show (2 : Int) ^ min (Int.toNat 24) IntKind.u32.bits = 16777216 from rfl, show (2 : Int) ^ min 0 IntKind.u32.bits = 1 from rfl, Int.fdiv_one, wr_u8])
    refine ⟨⟨4, by omega⟩, by simp only; omega, ?_⟩
    simp only [Nat.lt_irrefl, Nat.not_lt_zero, Nat.reduceLT, if_true, if_false, push_cast]
    exact Into.sameA
  · simp only [putL, Nat.reduceLT, if_true]
    ((first | with_reducible refine holds_of_ex X 400 _ _ _ ?_ | skip); simp (maxSteps := 1000000) only [push_cast, reduceCtorEq, Nat.reduceAdd, Nat.reduceMul, Nat.reduceSub, Nat.reduceBEq, Nat.reduceGT, Nat.reduceLT, Int.toNat_zero, Nat.reduceLeDiff, Int.reduceEq, Int.reduceLT, Int.reduceLE, hP, hΓ, hL, hfin, ↓tm_get, String.reduceEq, not_false_eq_true, if_true, ↓c4])
    rw [show (le4 w).map byteAV = [.int .u8 ((by8 w).toNat : Int), .int .u8 ((by8 (w.fdiv 256)).toNat : Int), .int .u8 ((by8 (w.fdiv 65536)).toNat : Int), .int .u8 ((by8 (w.fdiv 16777216)).toNat : Int)] from rfl]
    exact Into.sameA
theorem con50 {Γ : Env} (h : EnvOk Tryz.prog Γ)  : Con Tryz.prog 26 S50 :=
  heapF_con h (fn := Tryz.f26) (by kernel_rfl) rfl (by kernel_rfl) inj50 fun ⟨w, v⟩ h => body50 Γ w v
theorem ti4 : Int.toNat 4 = 4 := rfl
theorem rep4 : (List.replicate 4 [AV.int IntKind.u8 0]).flatten = [.int .u8 0, .int .u8 0, .int .u8 0, .int .u8 0] := rfl
def sumB (b : Bytes) : Bytes := b ++ le4 (sumI b)
def e22 : (Bytes) × (Nat) → List AV := fun (b, n) => [.sl (b.map byteAV) n]
def p22 : (Bytes) × (Nat) → Prop := fun (b, n) => n = b.length ∧ b.length ≤ 100000000
def r22 : (Bytes) × (Nat) → AV := fun (b, n) => .sl ((sumB b).map byteAV) (n + 4)
def g22 : (Bytes) × (Nat) → Heap := fun (b, n) => []
theorem inj22 : ∀ a b, e22 a = e22 b → a = b := by
  rintro ⟨b, n⟩ ⟨b', n'⟩ h
  simp only [e22, mi_iff, ms_iff, mb_iff, my_iff, rc_iff, fI_iff, List.cons.injEq, AV.int.injEq, AV.str.injEq, AV.bool.injEq, AV.sl.injEq, AV.agg.injEq, AV.ip.injEq, AV.fn.injEq, AV.ifc.injEq, AV.mpr.injEq, Int.natCast_inj, and_true, true_and] at h
  simp_all only
noncomputable def S22 : FSpec := funS e22 p22 r22 g22 false
theorem ps22 (b : (Bytes)) (n : (Nat)) : psel e22 p22 [.sl (b.map byteAV) n] = (n = b.length ∧ b.length ≤ 100000000) := psel_at inj22 p22 (b, n)
theorem rs22 (b : (Bytes)) (n : (Nat)) : rsel e22 r22 .any [.sl (b.map byteAV) n] = (.sl ((sumB b).map byteAV) (n + 4)) := rsel_at inj22 r22 .any (b, n)
theorem hs22 (b : (Bytes)) (n : (Nat)) : rsel e22 g22 [] [.sl (b.map byteAV) n] = ([]) := rsel_at inj22 g22 [] (b, n)
attribute [push_cast] S22 ps22 rs22 hs22
theorem body22 (Γ : Env) (h42 : Γ 13 = some S42) (h50 : Γ 26 = some S50) (b : Bytes) (hb : b.length ≤ 100000000) : BodyOk Tryz.prog Γ Tryz.f10 (e22 (b, b.length)) [] (.sl ((sumB b).map byteAV) (b.length + 4)) [] := by
  have hB : (objNumbersDone.BIG : Nat) = 140737488355328 := rfl
  (intro X hP hΓ hL hfin; refine ⟨_, rfl, ?_⟩; rw [show Tryz.f10.ntmps = 19 from rfl]; rw [show Tryz.f10.results.toList = [.tmp 2] from rfl] at hfin; apply holds_of_ex X 400; simp (maxSteps := 1000000) only [push_cast, reduceCtorEq, Nat.reduceAdd, Nat.reduceMul, Nat.reduceSub, Nat.reduceBEq, Nat.reduceGT, Nat.reduceLT, Int.toNat_zero, Nat.reduceLeDiff, Int.reduceEq, Int.reduceLT, Int.reduceLE, hP, hΓ, hL, hfin, ↓tm_get, String.reduceEq, not_false_eq_true, if_true, e22, h42, h50, ↓c4, wr_i64 ((b.length : Int) + 4) (by constructor <;> omega), ↓ti4, ↓rep4])
  have e4 : List.take 4 ((le4 (sumI b)).map byteAV) = (le4 (sumI b)).map byteAV := List.take_of_length_le (by rw [List.length_map]; exact Nat.le_refl 4)
  have el : (le4 (sumI b)).length = 4 := rfl
  rw [e4]
  refine ⟨by omega, by omega, by omega, by omega, ⟨by simp only [push_cast], by omega⟩, ?_⟩
  (refine IntoF.frz 1 (by simp only [push_cast, reduceCtorEq, Nat.reduceAdd, Nat.reduceMul, Nat.reduceSub, Nat.reduceBEq, Nat.reduceGT, Nat.reduceLT, Int.toNat_zero, Nat.reduceLeDiff, Int.reduceEq, Int.reduceLT, Int.reduceLE]; first | done | decide | omega) (by simp only [frzOk', frzOk, isMap, or_true, true_or, push_cast, reduceCtorEq, Nat.reduceAdd, Nat.reduceMul, Nat.reduceSub, Nat.reduceBEq, Nat.reduceGT, Nat.reduceLT, Int.toNat_zero, Nat.reduceLeDiff, Int.reduceEq, Int.reduceLT, Int.reduceLE]) ?_; simp only [push_cast, reduceCtorEq, Nat.reduceAdd, Nat.reduceMul, Nat.reduceSub, Nat.reduceBEq, Nat.reduceGT, Nat.reduceLT, Int.toNat_zero, Nat.reduceLeDiff, Int.reduceEq, Int.reduceLT, Int.reduceLE])
  rw [← List.map_append, show b ++ le4 (sumI b) = sumB b from rfl, List.take_of_length_le (by rw [List.length_map, sumB, List.length_append, el]; omega)]
  exact Into.keep0A
theorem con22 {Γ : Env} (h : EnvOk Tryz.prog Γ) (h42 : Γ 13 = some S42) (h50 : Γ 26 = some S50) : Con Tryz.prog 10 S22 :=
  funS_con h (fn := Tryz.f10) (by kernel_rfl) rfl (by kernel_rfl) inj22 (by first | (intro h; cases h; done) | exact fun _ _ => rfl) fun ⟨b, n⟩ h => by obtain ⟨rfl, h⟩ := h; exact body22 Γ h42 h50 b h
end Go.Proofs.YtmilngcgcolpbaaGreat.objDone
