/- Of disks: a sector written. Conditions stand in each. -/
import Derived.Test.YtbnnhffkbcekcaaGreatDoorDC
namespace Go.Proofs.YtbnnhffkbcekcaaGreatDoor.dirDone
open Go Go.Eng Go.Proofs
set_option linter.unusedVariables false
set_option linter.unusedSimpArgs false
set_option maxRecDepth 100000
set_option maxHeartbeats 4000000
theorem wr_len (w : Wr) : (wrC w).length = 1025 := Width.len w
theorem wr_drop (w : Wr) : List.drop 1024 (List.drop 1 (wrC w)) = [] := by rw [List.drop_drop, List.drop_eq_nil_of_le]; rw [wr_len]; decide
theorem wr_mk (n : Int) (s : Sec) : AV.int .i64 n :: secC s = wrC (n, s) := rfl
theorem fm_snoc {α : Type} {g : α → List AV} (l : List α) (x : α) : (l ++ [x]).flatMap g = l.flatMap g ++ g x := by simp
theorem splice_row {α : Type} {g : α → List AV} {n : Nat} [Width g n] (l : List α) (k : Nat) (x : α) (hk : k < l.length) : (l.flatMap g).take (k * n) ++ g x ++ (l.flatMap g).drop (k * n + n) = (l.set k x).flatMap g := by
  have e : l.set k x = l.take k ++ x :: l.drop (k + 1) := by rw [List.set_eq_take_append_cons_drop, if_pos hk]
  rw [take_fm, show k * n + n = (k + 1) * n by rw [Nat.succ_mul], drop_fm, e]
  simp only [List.flatMap_append, List.flatMap_cons, List.append_assoc]
def toSec (b : List UInt8) : Sec := if h : b.length = 1024 then ⟨b, h⟩ else default
theorem toSec_of {b : List UInt8} (h : b.length = 1024) : (toSec b).1 = b := by rw [toSec, dif_pos h]
def wrE (S : List Sec) (W : List Wr) (n : Int) (b : List UInt8) : Int := if ¬ (0 ≤ n ∧ n < S.length) then 31 else if b.length ≠ 1024 then 32 else if W.length = 4096 then 33 else 0
def wrS (S : List Sec) (W : List Wr) (n : Int) (b : List UInt8) : List Sec := if wrE S W n b = 0 then S.set n.toNat (toSec b) else S
def wrW (S : List Sec) (W : List Wr) (n : Int) (b : List UInt8) : List Wr := if wrE S W n b = 0 then W ++ [(n, S.getD n.toNat default)] else W
def e61 : (List Sec) × (List Wr) × (Int) × (List UInt8) → List AV × Heap := fun (S, W, n, b) => ([.ref 0 0 0, .int .i64 n, .sl (b.map byteAV) b.length], dskH S W)
def p61 : (List Sec) × (List Wr) × (Int) × (List UInt8) → Prop := fun (S, W, n, b) => W.length ≤ 4096 ∧ S.length ≤ 4096
def r61 : (List Sec) × (List Wr) × (Int) × (List UInt8) → AV := fun (S, W, n, b) => .int .i64 (wrE S W n b)
def g61 : (List Sec) × (List Wr) × (Int) × (List UInt8) → Heap := fun (S, W, n, b) => dskH (wrS S W n b) (wrW S W n b)
theorem inj61 : ∀ a b, e61 a = e61 b → a = b := by
  rintro ⟨S, W, n, b⟩ ⟨S', W', n', b'⟩ h
  simp only [e61, mi_iff, ms_iff, mb_iff, my_iff, UInt8.toNat_inj, secs_iff, wrs_iff, dskH, Prod.mk.injEq, List.cons.injEq, AObj.row.injEq, AV.int.injEq, AV.str.injEq, AV.bool.injEq, AV.sl.injEq, AV.agg.injEq, AV.ip.injEq, AV.fn.injEq, AV.ifc.injEq, AV.mpr.injEq, AV.msl.injEq, AV.ref.injEq, Int.natCast_inj, and_true, true_and] at h
  simp_all only
noncomputable def S61 : FSpec := heapE true e61 p61 r61 g61
theorem ps61 (S : (List Sec)) (W : (List Wr)) (n : (Int)) (b : (List UInt8)) : pselK e61 p61 ([.ref 0 0 0, .int .i64 n, .sl (b.map byteAV) b.length], dskH S W) = (W.length ≤ 4096 ∧ S.length ≤ 4096) := pselK_at inj61 p61 (S, W, n, b)
theorem rs61 (S : (List Sec)) (W : (List Wr)) (n : (Int)) (b : (List UInt8)) : rselK e61 r61 .any ([.ref 0 0 0, .int .i64 n, .sl (b.map byteAV) b.length], dskH S W) = (.int .i64 (wrE S W n b)) := rselK_at inj61 r61 .any (S, W, n, b)
theorem hs61 (S : (List Sec)) (W : (List Wr)) (n : (Int)) (b : (List UInt8)) : rselK e61 g61 [] ([.ref 0 0 0, .int .i64 n, .sl (b.map byteAV) b.length], dskH S W) = (dskH (wrS S W n b) (wrW S W n b)) := rselK_at inj61 g61 [] (S, W, n, b)
attribute [push_cast] S61 ps61 rs61 hs61
theorem body61 (Γ : Env) (h115 : Γ 115 = some S115) (S : List Sec) (W : List Wr) (n : Int) (b : List UInt8) (hW : W.length ≤ 4096) (hS : S.length ≤ 4096) : BodyOk Tryz.prog Γ Tryz.f61 [.ref 0 0 0, .int .i64 n, .sl (b.map byteAV) b.length] (dskH S W) (.int .i64 (wrE S W n b)) (dskH (wrS S W n b) (wrW S W n b)) := by
  have ps := ps115 S W n
  have rs := rs115 S W n
  have hs := hs115 S W n
  unfold wrS wrW
  by_cases h : 0 ≤ n ∧ n < S.length
  case neg =>
    have e : wrE S W n b = 31 := by unfold wrE; rw [if_pos h]
    rw [e, if_neg (by decide), if_neg (by decide)]
    unfold dskH at *
    rw [if_neg h] at rs
    (intro X hP hΓ hL hfin; refine ⟨_, rfl, ?_⟩; rw [show Tryz.f61.ntmps = 56 from rfl]; rw [show Tryz.f61.results.toList = [.tmp 6] from rfl] at hfin; apply holds_of_ex X 400; simp (maxSteps := 1000000) only [push_cast, reduceCtorEq, Nat.reduceAdd, Nat.reduceMul, Nat.reduceSub, Nat.reduceBEq, Nat.reduceGT, Nat.reduceLT, Int.toNat_zero, Nat.reduceLeDiff, Int.reduceEq, Int.reduceLT, Int.reduceLE, hP, hΓ, hL, hfin, String.reduceEq, Int.toNat_one, Bool.not_not, h115, ps, rs, hs])
    refine ⟨by decide, ?_⟩
    exact Into.sameA
  by_cases hb : b.length = 1024
  case neg =>
    have e : wrE S W n b = 32 := by unfold wrE; rw [if_neg (fun h' => h' h), if_pos hb]
    rw [e, if_neg (by decide), if_neg (by decide)]
    unfold dskH at *
    rw [if_pos h] at rs
    have db : decide ((b.length : Int) = 1024) = false := decide_eq_false (by omega)
    (intro X hP hΓ hL hfin; refine ⟨_, rfl, ?_⟩; rw [show Tryz.f61.ntmps = 56 from rfl]; rw [show Tryz.f61.results.toList = [.tmp 6] from rfl] at hfin; apply holds_of_ex X 400; simp (maxSteps := 1000000) only [push_cast, reduceCtorEq, Nat.reduceAdd, Nat.reduceMul, Nat.reduceSub, Nat.reduceBEq, Nat.reduceGT, Nat.reduceLT, Int.toNat_zero, Nat.reduceLeDiff, Int.reduceEq, Int.reduceLT, Int.reduceLE, hP, hΓ, hL, hfin, String.reduceEq, Int.toNat_one, Bool.not_not, h115, ps, rs, hs, db])
    refine ⟨by decide, ?_⟩
    exact Into.sameA
  by_cases hw : W.length = 4096
  · have e : wrE S W n b = 33 := by unfold wrE; rw [if_neg (fun h' => h' h), if_neg (fun h' => h' hb), if_pos hw]
    rw [e, if_neg (by decide), if_neg (by decide)]
    unfold dskH at *
    rw [if_pos h] at rs
    have db : decide ((b.length : Int) = 1024) = true := decide_eq_true (by omega)
    have dw : decide ((W.length : Int) = 4096) = true := decide_eq_true (by omega)
    (intro X hP hΓ hL hfin; refine ⟨_, rfl, ?_⟩; rw [show Tryz.f61.ntmps = 56 from rfl]; rw [show Tryz.f61.results.toList = [.tmp 6] from rfl] at hfin; apply holds_of_ex X 400; simp (maxSteps := 1000000) only [push_cast, reduceCtorEq, Nat.reduceAdd, Nat.reduceMul, Nat.reduceSub, Nat.reduceBEq, Nat.reduceGT, Nat.reduceLT, Int.toNat_zero, Nat.reduceLeDiff, Int.reduceEq, Int.reduceLT, Int.reduceLE, hP, hΓ, hL, hfin, String.reduceEq, Int.toNat_one, Bool.not_not, h115, ps, rs, hs, db, dw])
    refine ⟨by decide, ?_⟩
    exact Into.sameA
  have e : wrE S W n b = 0 := by unfold wrE; rw [if_neg (fun h' => h' h), if_neg (fun h' => h' hb), if_neg hw]
  rw [e, if_pos rfl, if_pos rfl]
  unfold dskH at *
  rw [if_pos h] at rs
  obtain ⟨k, rfl⟩ := Int.eq_ofNat_of_zero_le h.1
  have hk : k < S.length := by omega
  have db : decide ((b.length : Int) = 1024) = true := decide_eq_true (by omega)
  have dw : decide ((W.length : Int) = 4096) = false := decide_eq_false (by omega)
  (intro X hP hΓ hL hfin; refine ⟨_, rfl, ?_⟩; rw [show Tryz.f61.ntmps = 56 from rfl]; rw [show Tryz.f61.results.toList = [.tmp 6] from rfl] at hfin; apply holds_of_ex X 400; simp (maxSteps := 1000000) only [push_cast, reduceCtorEq, Nat.reduceAdd, Nat.reduceMul, Nat.reduceSub, Nat.reduceBEq, Nat.reduceGT, Nat.reduceLT, Int.toNat_zero, Nat.reduceLeDiff, Int.reduceEq, Int.reduceLT, Int.reduceLE, hP, hΓ, hL, hfin, String.reduceEq, Int.toNat_one, Bool.not_not, h115, ps, rs, hs, db, dw, hk])
  refine ⟨by decide, ?_⟩
  (refine Holds.drawnE (patH [.fix (.row [.msl 1 0 0 S.length, .msl 2 W.length 0 W.length] 2 0), .fix (.row (S.flatMap secC) 1024 0)]) [1, 2, 3, 4, 5, 6, 7, 8, 9, 10, 11, 12, 15, 18] [] [] true (by rw [hP]; kernel_rfl) (by kernel_rfl) (by kernel_rfl) (by kernel_rfl) (by first | exact .inl rfl | exact .inr fun _ _ h => patH_app _ _ h) (by first | (simp only [push_cast]; done) | (simp only [push_cast, and_true]; omega)) ?_; simp (maxSteps := 1000000) only [↓reduceIte, Option.getD_some, push_cast, reduceCtorEq, Nat.reduceAdd, Nat.reduceMul, Nat.reduceSub, Nat.reduceBEq, Nat.reduceGT, Nat.reduceLT, Int.toNat_zero, Nat.reduceLeDiff, Int.reduceEq, Int.reduceLT, Int.reduceLE, hP, hΓ, hL, hfin, String.reduceEq, Int.toNat_one, Bool.not_not, hk, za123, hz123, wr_len, wr_drop, wr_mk])
  have hm : (k + 1) * 1024 ≤ S.length * 1024 := Nat.mul_le_mul_right _ hk
  refine ⟨by omega, ⟨by omega, by omega⟩, by omega, ?_⟩
  ((first | with_reducible refine holds_of_ex X 400 _ _ _ ?_ | skip); simp (maxSteps := 1000000) only [push_cast, reduceCtorEq, Nat.reduceAdd, Nat.reduceMul, Nat.reduceSub, Nat.reduceBEq, Nat.reduceGT, Nat.reduceLT, Int.toNat_zero, Nat.reduceLeDiff, Int.reduceEq, Int.reduceLT, Int.reduceLE, hP, hΓ, hL, hfin, String.reduceEq, Int.toNat_one, Bool.not_not])
  (refine Holds.drawnE (patH [.fix (.row [.msl 1 0 0 S.length, .msl 2 (W.length + 1) 0 (W.length + 1)] 2 0), .row 1024 0]) [0, 1, 2, 3, 4, 5, 7, 8, 9] [] [] true (by rw [hP]; kernel_rfl) (by kernel_rfl) (by kernel_rfl) (by kernel_rfl) (by first | exact .inl rfl | exact .inr fun _ _ h => patH_app _ _ h) (by first | (simp only [push_cast]; done) | (simp only [push_cast, and_true]; omega)) ?_; simp (maxSteps := 1000000) only [↓reduceIte, Option.getD_some, push_cast, reduceCtorEq, Nat.reduceAdd, Nat.reduceMul, Nat.reduceSub, Nat.reduceBEq, Nat.reduceGT, Nat.reduceLT, Int.toNat_zero, Nat.reduceLeDiff, Int.reduceEq, Int.reduceLT, Int.reduceLE, hP, hΓ, hL, hfin, String.reduceEq, Int.toNat_one, Bool.not_not, hk])
  have ho : oneCells (List.take 1024 (List.map byteAV b)) = true := by rw [← List.map_take]; exact one_map _
  refine ⟨⟨by omega, by omega⟩, by omega, by omega, ⟨by omega, by omega, by omega, ho⟩, ?_⟩
  ((first | with_reducible refine holds_of_ex X 400 _ _ _ ?_ | skip); simp (maxSteps := 1000000) only [push_cast, reduceCtorEq, Nat.reduceAdd, Nat.reduceMul, Nat.reduceSub, Nat.reduceBEq, Nat.reduceGT, Nat.reduceLT, Int.toNat_zero, Nat.reduceLeDiff, Int.reduceEq, Int.reduceLT, Int.reduceLE, hP, hΓ, hL, hfin, String.reduceEq, Int.toNat_one, Bool.not_not])
  have e3 : min 1024 b.length = 1024 := by omega
  have e4 : List.take 1024 (List.map byteAV b) = secC (toSec b) := by
    rw [List.take_of_length_le (by rw [List.length_map]; omega), secC, toSec_of hb]
  rw [e3, e4, splice_row S k (toSec b) hk, ← fm_snoc, List.length_set]

  exact Into.sameA

theorem con61 {Γ : Env} (h : EnvOk Tryz.prog Γ) (h115 : Γ 115 = some S115) : Con Tryz.prog 61 S61 :=
  heapE_con h (fn := Tryz.f61) (by kernel_rfl) rfl (by kernel_rfl) inj61 fun ⟨S, W, n, b⟩ h => body61 Γ h115 S W n b h.1 h.2
end Go.Proofs.YtbnnhffkbcekcaaGreatDoor.dirDone
