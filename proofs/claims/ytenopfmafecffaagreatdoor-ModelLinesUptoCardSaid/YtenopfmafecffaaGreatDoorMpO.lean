/- Of the model of a workstation: the program's dir. Conditions stand in each. -/
import Derived.Test.YtenopfmafecffaaGreatDoorMpN
import Derived.Test.YtenopfmafecffaaGreatDoorBL
namespace Go.Proofs.YtenopfmafecffaaGreatDoor.modelDone
open Go Go.Eng Go.Proofs Go.Mdl Go.RowKit
open Go.Proofs.YtenopfmafecffaaGreatDoor.bld (S46 S48)
set_option linter.unusedVariables false
set_option linter.unusedSimpArgs false
set_option maxRecDepth 100000
set_option maxHeartbeats 4000000
noncomputable section
def e62 : (Key → Option Value) × (Int) × (Bytes) → List AV × Heap := fun (f, S, t) => ([.ref 0 0 0, .sl [] 0, .str t], [.row [.mp 1, .int .i64 S] 2 0, .raw (.map none f)])
def p62 : (Key → Option Value) × (Int) × (Bytes) → Prop := fun (f, S, t) => okS S (fsOf f) ∧ mapF (fsOf f) = f
def r62 : (Key → Option Value) × (Int) × (Bytes) → AV := fun (f, S, t) => .str (dirF (fsOf f))
def g62 : (Key → Option Value) × (Int) × (Bytes) → Heap := fun (f, S, t) => [.row [.mp 1, .int .i64 S] 2 0, .raw (.map none f)]
theorem inj62 : ∀ a b, e62 a = e62 b → a = b := by
  rintro ⟨f, S, t⟩ ⟨f', S', t'⟩ h
  simp only [e62, mi_iff, ms_iff, mb_iff, my_iff, UInt8.toNat_inj, AObj.raw.injEq, Raw.map.injEq, Prod.mk.injEq, List.cons.injEq, AObj.row.injEq, AV.int.injEq, AV.str.injEq, AV.bool.injEq, AV.sl.injEq, AV.agg.injEq, AV.ip.injEq, AV.fn.injEq, AV.ifc.injEq, AV.mpr.injEq, AV.msl.injEq, AV.ref.injEq, Int.natCast_inj, and_true, true_and] at h
  simp_all only
noncomputable def S62 : FSpec := heapE true e62 p62 r62 g62
theorem ps62 (f : (Key → Option Value)) (S : (Int)) (t : (Bytes)) : pselK e62 p62 ([.ref 0 0 0, .sl [] 0, .str t], [.row [.mp 1, .int .i64 S] 2 0, .raw (.map none f)]) = (okS S (fsOf f) ∧ mapF (fsOf f) = f) := pselK_at inj62 p62 (f, S, t)
theorem rs62 (f : (Key → Option Value)) (S : (Int)) (t : (Bytes)) : rselK e62 r62 .any ([.ref 0 0 0, .sl [] 0, .str t], [.row [.mp 1, .int .i64 S] 2 0, .raw (.map none f)]) = (.str (dirF (fsOf f))) := rselK_at inj62 r62 .any (f, S, t)
theorem hs62 (f : (Key → Option Value)) (S : (Int)) (t : (Bytes)) : rselK e62 g62 [] ([.ref 0 0 0, .sl [] 0, .str t], [.row [.mp 1, .int .i64 S] 2 0, .raw (.map none f)]) = ([.row [.mp 1, .int .i64 S] 2 0, .raw (.map none f)]) := rselK_at inj62 g62 [] (f, S, t)
attribute [push_cast] S62 ps62 rs62 hs62
theorem body62 (Γ : Env) (h14 : Γ 14 = some S14) (h46 : Γ 46 = some S46) (h48 : Γ 48 = some S48) (h84 : Γ 84 = some S84) (A : Fs) (S : Int) (t : Bytes) (hA : okS S A) : BodyOk Tryz.prog Γ Tryz.f62 [.ref 0 0 0, .sl [] 0, .str t] [.row [.mp 1, .int .i64 S] 2 0, .raw (.map none (mapF A))] (.str (dirF A)) [.row [.mp 1, .int .i64 S] 2 0, .raw (.map none (mapF A))] := by
  have hl := hA.ok.le
  have hfs := fsOf_mapF hA.ok.so
  (intro X hP hΓ hL hfin; refine ⟨_, rfl, ?_⟩; rw [show Tryz.f62.ntmps = 28 from rfl]; rw [show Tryz.f62.results.toList = [.tmp 6] from rfl] at hfin; apply holds_of_ex X 400; simp (maxSteps := 1000000) only [push_cast, reduceCtorEq, Nat.reduceAdd, Nat.reduceMul, Nat.reduceSub, Nat.reduceBEq, Nat.reduceGT, Nat.reduceLT, Int.toNat_zero, Nat.reduceLeDiff, Int.reduceEq, Int.reduceLT, Int.reduceLE, hP, hΓ, hL, hfin, String.reduceEq, not_false_eq_true, if_true, Int.toNat_one, h14, hfs])
  refine ⟨hA, ?_⟩
  refine Holds.loopM (ι := {k : Nat // k ≤ A.length}) [false, false, false, false, false, false, true, true, false, false, false, true, true, false, false, false, false, false, false, false, false, false, false, false, false, false, false, false] (fun i => [(13, .int .i64 i.1)]) (fun i => [.row [.mp 1, .int .i64 S] 2 0, .raw (.map none (mapF A)), .raw (.bld 74 5 (dirF (A.take i.1))), .row (A.flatMap fc) 2 0]) (fun i => A.length - i.1) ⟨0, Nat.zero_le _⟩ ?_ ?_
  · (rw [hL]; simp only [push_cast, Int.natCast_zero, List.take_zero, dirF_nil]; exact Into.sameA)
  rintro ⟨k, hk⟩
  ((first | with_reducible refine holds_of_ex X 400 _ _ _ ?_ | skip); simp (maxSteps := 1000000) only [push_cast, reduceCtorEq, Nat.reduceAdd, Nat.reduceMul, Nat.reduceSub, Nat.reduceBEq, Nat.reduceGT, Nat.reduceLT, Int.toNat_zero, Nat.reduceLeDiff, Int.reduceEq, Int.reduceLT, Int.reduceLE, hP, hΓ, hL, hfin, String.reduceEq, not_false_eq_true, if_true, Int.toNat_one])
  ((with_reducible refine exB_split (fun h => ?_) (fun h => ?_)) <;> (try simp only [decide_eq_true_eq, decide_eq_false_iff_not, Bool.and_eq_true, Bool.or_eq_true, Bool.and_eq_false_iff, Bool.or_eq_false_iff, Bool.not_eq_true', Bool.not_eq_false', Bool.not_eq_true, Bool.not_eq_false, Int.not_lt, Int.not_le, beq_iff_eq, beq_eq_false_iff_ne, ne_eq] at h))
  · have hk' : k < A.length := by omega
    have hx : A.getD k default ∈ A := get_mem hk'
    have htk := take_get hk'
    have hh : ((A.flatMap fc).drop (k * 2)).take 2 = fc (A.getD k default) := head_fm A k hk' default
    have hm := hA.ok.sm _ hx
    have hd0 := dir_len (small_take hA.ok.sm k)
    have hcl : (A.take k).length ≤ 200 := by rw [List.length_take]; omega
    have hdd : (dec (A.getD k default).2.length).length ≤ 10 := by rw [dec, Int.toNat_natCast]; exact dec_len _ (by omega)
    generalize A.getD k default = x at *
    have hh' : ((A.flatMap fc).drop (k * 2)).take 2 = [.str x.1, .str x.2] := hh
    have hnt : numT x.2.length = dec x.2.length ++ [10] := rfl
    ((first | with_reducible refine holds_of_ex X 400 _ _ _ ?_ | skip); simp (maxSteps := 1000000) only [push_cast, reduceCtorEq, Nat.reduceAdd, Nat.reduceMul, Nat.reduceSub, Nat.reduceBEq, Nat.reduceGT, Nat.reduceLT, Int.toNat_zero, Nat.reduceLeDiff, Int.reduceEq, Int.reduceLT, Int.reduceLE, hP, hΓ, hL, hfin, String.reduceEq, not_false_eq_true, if_true, Int.toNat_one, wr_i64 ((k : Int) + 1) (by constructor <;> omega), hh'])
    refine ⟨by omega, ⟨by omega, by omega⟩, ?_⟩
    (refine Holds.drawnE (patH []) [0, 1, 2, 3, 4, 5, 7, 8] [] [] true (by rw [hP]; kernel_rfl) (by kernel_rfl) (by kernel_rfl) (by kernel_rfl) (by first | exact .inl rfl | exact .inr fun _ _ h => patH_app _ _ h) (by first | (simp only [push_cast]; done) | (simp only [push_cast, and_true]; omega)) ?_; simp (maxSteps := 1000000) only [↓reduceIte, Option.getD_some, push_cast, reduceCtorEq, Nat.reduceAdd, Nat.reduceMul, Nat.reduceSub, Nat.reduceBEq, Nat.reduceGT, Nat.reduceLT, Int.toNat_zero, Nat.reduceLeDiff, Int.reduceEq, Int.reduceLT, Int.reduceLE, hP, hΓ, hL, hfin, String.reduceEq, not_false_eq_true, if_true, Int.toNat_one, h46, h84, hnt])
    refine ⟨by omega, by omega, by omega, by omega, ?_⟩
    ((first | with_reducible refine holds_of_ex X 400 _ _ _ ?_ | skip); simp (maxSteps := 1000000) only [push_cast, reduceCtorEq, Nat.reduceAdd, Nat.reduceMul, Nat.reduceSub, Nat.reduceBEq, Nat.reduceGT, Nat.reduceLT, Int.toNat_zero, Nat.reduceLeDiff, Int.reduceEq, Int.reduceLT, Int.reduceLE, hP, hΓ, hL, hfin, String.reduceEq, not_false_eq_true, if_true, Int.toNat_one, wr_i64 ((k : Int) + 1) (by constructor <;> omega)])
    refine ⟨⟨k + 1, hk'⟩, by simp only; omega, ?_⟩
    have hd : dirF (A.take (k + 1)) = dirF (A.take k) ++ (x.1 ++ [32] ++ (dec x.2.length ++ [10])) := by rw [htk, dirF, List.flatMap_append]; simp [dirF, rowT]
    simp only [hd]
    exact Into.keep4A
  · obtain rfl : k = A.length := by omega
    have hd0 := dir_len hA.ok.sm
    ((first | with_reducible refine holds_of_ex X 400 _ _ _ ?_ | skip); simp (maxSteps := 1000000) only [push_cast, reduceCtorEq, Nat.reduceAdd, Nat.reduceMul, Nat.reduceSub, Nat.reduceBEq, Nat.reduceGT, Nat.reduceLT, Int.toNat_zero, Nat.reduceLeDiff, Int.reduceEq, Int.reduceLT, Int.reduceLE, hP, hΓ, hL, hfin, String.reduceEq, not_false_eq_true, if_true, Int.toNat_one, List.take_length, h48])
    refine ⟨by omega, ?_⟩
    exact Into.keep2A
theorem con62 {Γ : Env} (h : EnvOk Tryz.prog Γ) (h14 : Γ 14 = some S14) (h46 : Γ 46 = some S46) (h48 : Γ 48 = some S48) (h84 : Γ 84 = some S84) : Con Tryz.prog 62 S62 :=
  heapE_con h (fn := Tryz.f62) (by kernel_rfl) rfl (by kernel_rfl) inj62 fun ⟨f, S, t⟩ h => by obtain ⟨h1, h2⟩ := h; have := body62 Γ h14 h46 h48 h84 (fsOf f) S t h1; rw [h2] at this; exact this
end
end Go.Proofs.YtenopfmafecffaaGreatDoor.modelDone
