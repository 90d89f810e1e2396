/- Of objects: the reference's reader. Conditions stand in each. -/
import Derived.Test.YtmilngcgcolpbaaGreatQD
namespace Go.Proofs.YtmilngcgcolpbaaGreat.objRef
open Go Go.Eng Go.Proofs
open Go.Proofs.YtmilngcgcolpbaaGreat.objNumbersDone (rawU okR valR uintS uintP uintK okT valT nextT textAtS textAtP textAtK)
open Go.Proofs.YtmilngcgcolpbaaGreat.objDone
set_option linter.unusedVariables false
set_option linter.unusedSimpArgs false
set_option maxRecDepth 100000
set_option maxHeartbeats 4000000
theorem getV_step (l : Bytes) (a : Nat) (k : Nat) (h : a + 4 ≤ l.length) (hk : k < 4) : leN ((((l.take (a + 4)).drop a)).drop (3 - k)) = (l.getD (a + (3 - k)) 0).toNat + 256 * leN (((l.take (a + 4)).drop a).drop (4 - k)) := by
  have e : ((l.take (a + 4)).drop a).drop (3 - k) = l.getD (a + (3 - k)) 0 :: ((l.take (a + 4)).drop a).drop (4 - k) := by
    have hl : 3 - k < ((l.take (a + 4)).drop a).length := by simp; omega
    rw [List.drop_eq_getElem_cons hl, show 3 - k + 1 = 4 - k by omega]
    congr 1
    simp only [List.getElem_drop, List.getElem_take]
    simp [List.getD, show a + (3 - k) < l.length by omega]
  rw [e, leN]
theorem u32n (n : Int) (h : 0 ≤ n ∧ n < 4294967296) : IntKind.u32.wrap n = n := by simp [IntKind.wrap, IntKind.bits, IntKind.signed]; omega
def e17 : (Bytes) × (Nat) × (Int) → List AV := fun (l, n, a) => [.sl (l.map byteAV) n, .int .i64 a]
def p17 : (Bytes) × (Nat) × (Int) → Prop := fun (l, n, a) => n = l.length ∧ l.length ≤ 4194304
def r17 : (Bytes) × (Nat) × (Int) → AV := fun (l, n, a) => .tup [.int .u32 (getV l a), .bool (getK l a)]
def g17 : (Bytes) × (Nat) × (Int) → Heap := fun (l, n, a) => []
theorem inj17 : ∀ a b, e17 a = e17 b → a = b := by
  rintro ⟨l, n, a⟩ ⟨l', n', a'⟩ h
  simp only [e17, mi_iff, ms_iff, mb_iff, my_iff, rc_iff, List.cons.injEq, AV.int.injEq, AV.str.injEq, AV.bool.injEq, AV.sl.injEq, AV.agg.injEq, AV.ip.injEq, AV.fn.injEq, AV.ifc.injEq, AV.mpr.injEq, Int.natCast_inj, and_true, true_and] at h
  simp_all only
noncomputable def S17 : FSpec := funS e17 p17 r17 g17 true
theorem ps17 (l : (Bytes)) (n : (Nat)) (a : (Int)) : psel e17 p17 [.sl (l.map byteAV) n, .int .i64 a] = (n = l.length ∧ l.length ≤ 4194304) := psel_at inj17 p17 (l, n, a)
theorem rs17 (l : (Bytes)) (n : (Nat)) (a : (Int)) : rsel e17 r17 .any [.sl (l.map byteAV) n, .int .i64 a] = (.tup [.int .u32 (getV l a), .bool (getK l a)]) := rsel_at inj17 r17 .any (l, n, a)
theorem hs17 (l : (Bytes)) (n : (Nat)) (a : (Int)) : rsel e17 g17 [] [.sl (l.map byteAV) n, .int .i64 a] = ([]) := rsel_at inj17 g17 [] (l, n, a)
attribute [push_cast] S17 ps17 rs17 hs17
theorem body17 (Γ : Env) (l : Bytes) (a : Int) (hl : l.length ≤ 4194304) : BodyOk Tryz.prog Γ Tryz.f17 (e17 (l, l.length, a)) [] (.tup [.int .u32 (getV l a), .bool (getK l a)]) [] := by
  (intro X hP hΓ hL hfin; refine ⟨_, rfl, ?_⟩; rw [show Tryz.f17.ntmps = 37 from rfl]; rw [show Tryz.f17.results.toList = [.tmp 4, .tmp 5] from rfl] at hfin; apply holds_of_ex X 400; simp (maxSteps := 1000000) only [push_cast, reduceCtorEq, Nat.reduceAdd, Nat.reduceMul, Nat.reduceSub, Nat.reduceBEq, Nat.reduceGT, Nat.reduceLT, Int.toNat_zero, Nat.reduceLeDiff, Int.reduceEq, Int.reduceLT, Int.reduceLE, hP, hΓ, hL, hfin, ↓tm_get, String.reduceEq, not_false_eq_true, if_true, Rd.sto, Rd.sill, Rd.to_b, Rd.to_at, e17, wr_i64 ((l.length : Int) - 4) (by constructor <;> omega)])
  ((with_reducible refine exB_split (fun h => ?_) (fun h => ?_)) <;> (try simp only [decide_eq_true_eq, decide_eq_false_iff_not, Bool.and_eq_true, Bool.or_eq_true, Bool.and_eq_false_iff, Bool.or_eq_false_iff, Bool.not_eq_true', Bool.not_eq_false', Bool.not_eq_true, Bool.not_eq_false, Int.not_lt, Int.not_le, beq_iff_eq, beq_eq_false_iff_ne, ne_eq, win_t, win_f] at h))
  · have hk : getK l a = false := by simp only [getK, decide_eq_false_iff_not]; omega
    ((first | with_reducible refine holds_of_ex X 400 _ _ _ ?_ | skip); simp (maxSteps := 1000000) only [push_cast, reduceCtorEq, Nat.reduceAdd, Nat.reduceMul, Nat.reduceSub, Nat.reduceBEq, Nat.reduceGT, Nat.reduceLT, Int.toNat_zero, Nat.reduceLeDiff, Int.reduceEq, Int.reduceLT, Int.reduceLE, hP, hΓ, hL, hfin, ↓tm_get, String.reduceEq, not_false_eq_true, if_true, Rd.sto, Rd.sill, Rd.to_b, Rd.to_at])
    rw [show getV l a = 0 by rw [getV, hk]; rfl, hk]
    exact Into.sameA
  have hk : getK l a = true := by simp only [getK, decide_eq_true_eq]; omega
  obtain ⟨a, rfl⟩ := Int.eq_ofNat_of_zero_le (show 0 ≤ a by omega)
  have ha : a + 4 ≤ l.length := by omega
  have hv : getV l a = leN ((l.take (a + 4)).drop a) := by rw [getV, hk, show ((a : Int) + 4).toNat = a + 4 by omega]; simp
  have hlen : ∀ k, k ≤ 4 → (((l.take (a + 4)).drop a).drop (4 - k)).length = k := fun k hk => by simp; omega
  ((first | with_reducible refine holds_of_ex X 400 _ _ _ ?_ | skip); simp (maxSteps := 1000000) only [push_cast, reduceCtorEq, Nat.reduceAdd, Nat.reduceMul, Nat.reduceSub, Nat.reduceBEq, Nat.reduceGT, Nat.reduceLT, Int.toNat_zero, Nat.reduceLeDiff, Int.reduceEq, Int.reduceLT, Int.reduceLE, hP, hΓ, hL, hfin, ↓tm_get, String.reduceEq, not_false_eq_true, if_true, Rd.sto, Rd.sill, Rd.to_b, Rd.to_at])
  refine Holds.loopM (ι := {k : Nat // k ≤ 4}) [true, true, false, false, true, true, false, false, false, false, false, false, false, false, false, false, false, false, false, false, false, false, false, false, false, false, false, false, false, false, false, false, false, false, false, false, false] (fun i => [(6, .int .u32 (leN (((l.take (a + 4)).drop a).drop (4 - i.1)) : Nat)), (7, .int .i64 (3 - (i.1 : Int)))]) (fun i => []) (fun i => 4 - i.1) ⟨0, Nat.zero_le _⟩ ?_ ?_
  · have e0 : leN (((l.take (a + 4)).drop a).drop (4 - 0)) = 0 := by
      rw [List.eq_nil_of_length_eq_zero (hlen 0 (by omega))]; rfl
    rw [e0]
    (rw [hL]; simp only [push_cast, Int.natCast_zero]; exact Into.sameA)
  rintro ⟨k, hk4⟩
  ((first | with_reducible refine holds_of_ex X 400 _ _ _ ?_ | skip); simp (maxSteps := 1000000) only [push_cast, reduceCtorEq, Nat.reduceAdd, Nat.reduceMul, Nat.reduceSub, Nat.reduceBEq, Nat.reduceGT, Nat.reduceLT, Int.toNat_zero, Nat.reduceLeDiff, Int.reduceEq, Int.reduceLT, Int.reduceLE, hP, hΓ, hL, hfin, ↓tm_get, String.reduceEq, not_false_eq_true, if_true, Rd.sto, Rd.sill, Rd.to_b, Rd.to_at])
  ((with_reducible refine exB_split (fun h => ?_) (fun h => ?_)) <;> (try simp only [decide_eq_true_eq, decide_eq_false_iff_not, Bool.and_eq_true, Bool.or_eq_true, Bool.and_eq_false_iff, Bool.or_eq_false_iff, Bool.not_eq_true', Bool.not_eq_false', Bool.not_eq_true, Bool.not_eq_false, Int.not_lt, Int.not_le, beq_iff_eq, beq_eq_false_iff_ne, ne_eq, win_t, win_f] at h))
  · have hk' : k < 4 := by omega
    have hst := getV_step l a k ha hk'
    have hb := leN_lt (((l.take (a + 4)).drop a).drop (4 - k))
    have hb2 := leN_lt (((l.take (a + 4)).drop a).drop (3 - k))
    rw [hlen k hk4] at hb
    rw [show 3 - k = 4 - (k + 1) by omega, hlen (k + 1) (by omega)] at hb2
    have hp : 256 ^ (k + 1) ≤ 256 ^ 4 := Nat.pow_le_pow_right (by omega) (by omega)
    obtain ⟨q, hq⟩ : ∃ q, q = a + (3 - k) := ⟨_, rfl⟩
    have hix : IntKind.i64.wrap ((a : Int) + (3 - (k : Int))) = (q : Int) := by rw [wr_i64 _ (by constructor <;> omega)]; omega
    have hal : q < l.length := by omega
    rw [← hq] at hst
    have hcc := (l.getD q 0).toNat_lt
    generalize hL0 : leN (((l.take (a + 4)).drop a).drop (4 - k)) = A at *
    have hA : A * 256 < 4294967296 := by rw [show 3 - k = 4 - (k + 1) by omega] at hst; omega
    have hB : A * 256 + (l.getD q 0).toNat < 4294967296 := by rw [show 3 - k = 4 - (k + 1) by omega] at hst; omega
    ((first | with_reducible refine holds_of_ex X 400 _ _ _ ?_ | skip); simp (maxSteps := 1000000) only [push_cast, reduceCtorEq, Nat.reduceAdd, Nat.reduceMul, Nat.reduceSub, Nat.reduceBEq, Nat.reduceGT, Nat.reduceLT, Int.toNat_zero, Nat.reduceLeDiff, Int.reduceEq, Int.reduceLT, Int.reduceLE, hP, hΓ, hL, hfin, ↓tm_get, String.reduceEq, not_false_eq_true, if_true, Rd.sto, Rd.sill, Rd.to_b, Rd.to_at, hix, hal, wr_i64 (3 - (k : Int) - 1) (by constructor <;> omega)])
    rw [u32n ((A : Int) * 256) (by omega), u32n (((l.getD q 0).toNat : Int)) (by omega), u32n _ (by omega)]
    refine ⟨by omega, by omega, ⟨k + 1, by omega⟩, by simp only; omega, ?_⟩
    have e1 : ((leN (((l.take (a + 4)).drop a).drop (4 - (k + 1))) : Nat) : Int) = (A : Int) * 256 + ((l.getD q 0).toNat : Int) := by
      rw [show 4 - (k + 1) = 3 - k by omega, hst]; omega
    have e2 : (3 : Int) - ((k + 1 : Nat) : Int) = 3 - k - 1 := by omega
    simp only [e1, e2]
    exact Into.sameA
  obtain rfl : k = 4 := by omega
  ((first | with_reducible refine holds_of_ex X 400 _ _ _ ?_ | skip); simp (maxSteps := 1000000) only [push_cast, reduceCtorEq, Nat.reduceAdd, Nat.reduceMul, Nat.reduceSub, Nat.reduceBEq, Nat.reduceGT, Nat.reduceLT, Int.toNat_zero, Nat.reduceLeDiff, Int.reduceEq, Int.reduceLT, Int.reduceLE, hP, hΓ, hL, hfin, ↓tm_get, String.reduceEq, not_false_eq_true, if_true, Rd.sto, Rd.sill, Rd.to_b, Rd.to_at])
  rw [hv, hk]
  exact Into.sameA
theorem con17 {Γ : Env} (h : EnvOk Tryz.prog Γ)  : Con Tryz.prog 17 S17 :=
  funS_con h (fn := Tryz.f17) (by kernel_rfl) rfl (by kernel_rfl) inj17 (by first | (intro h; cases h; done) | exact fun _ _ => rfl) fun ⟨l, n, a⟩ h => by obtain ⟨rfl, h⟩ := h; exact body17 Γ l a h
/-- the first fault -/
def wrong (r : Rd) : Rd := if r.bad < 0 then r.ill else r
def e22 : (Rd) → List AV × Heap := fun r => ([.ref 0 0 0], [.row r.c 3 0])
def p22 : (Rd) → Prop := fun r => True
def r22 : (Rd) → AV := fun r => .tup []
def g22 : (Rd) → Heap := fun r => [.row (wrong r).c 3 0]
theorem inj22 : ∀ a b, e22 a = e22 b → a = b := by
  rintro r r' h
  simp only [e22, mi_iff, ms_iff, mb_iff, my_iff, rc_iff, Prod.mk.injEq, List.cons.injEq, AObj.row.injEq, AV.int.injEq, AV.str.injEq, AV.bool.injEq, AV.sl.injEq, AV.agg.injEq, AV.ip.injEq, AV.fn.injEq, AV.ifc.injEq, AV.mpr.injEq, AV.msl.injEq, AV.ref.injEq, Int.natCast_inj, and_true, true_and] at h
  simp_all only
noncomputable def S22 : FSpec := heapE false e22 p22 r22 g22
theorem ps22 (r : (Rd)) : pselK e22 p22 ([.ref 0 0 0], [.row r.c 3 0]) = (True) := pselK_at inj22 p22 r
theorem rs22 (r : (Rd)) : rselK e22 r22 .any ([.ref 0 0 0], [.row r.c 3 0]) = (.tup []) := rselK_at inj22 r22 .any r
theorem hs22 (r : (Rd)) : rselK e22 g22 [] ([.ref 0 0 0], [.row r.c 3 0]) = ([.row (wrong r).c 3 0]) := rselK_at inj22 g22 [] r
attribute [push_cast] S22 ps22 rs22 hs22
theorem body22 (Γ : Env) (r : Rd) : BodyOk Tryz.prog Γ Tryz.f22 [.ref 0 0 0] [.row r.c 3 0] (.tup []) [.row (wrong r).c 3 0] := by
  (intro X hP hΓ hL hfin; refine ⟨_, rfl, ?_⟩; rw [show Tryz.f22.ntmps = 14 from rfl]; rw [show Tryz.f22.results.toList = [] from rfl] at hfin; apply holds_of_ex X 400; simp (maxSteps := 1000000) only [push_cast, reduceCtorEq, Nat.reduceAdd, Nat.reduceMul, Nat.reduceSub, Nat.reduceBEq, Nat.reduceGT, Nat.reduceLT, Int.toNat_zero, Nat.reduceLeDiff, Int.reduceEq, Int.reduceLT, Int.reduceLE, hP, hΓ, hL, hfin, ↓tm_get, String.reduceEq, not_false_eq_true, if_true, Rd.sto, Rd.sill, Rd.to_b, Rd.to_at])
  ((with_reducible refine exB_split (fun h => ?_) (fun h => ?_)) <;> (try simp only [decide_eq_true_eq, decide_eq_false_iff_not, Bool.and_eq_true, Bool.or_eq_true, Bool.and_eq_false_iff, Bool.or_eq_false_iff, Bool.not_eq_true', Bool.not_eq_false', Bool.not_eq_true, Bool.not_eq_false, Int.not_lt, Int.not_le, beq_iff_eq, beq_eq_false_iff_ne, ne_eq, win_t, win_f] at h))
  · ((first | with_reducible refine holds_of_ex X 400 _ _ _ ?_ | skip); simp (maxSteps := 1000000) only [push_cast, reduceCtorEq, Nat.reduceAdd, Nat.reduceMul, Nat.reduceSub, Nat.reduceBEq, Nat.reduceGT, Nat.reduceLT, Int.toNat_zero, Nat.reduceLeDiff, Int.reduceEq, Int.reduceLT, Int.reduceLE, hP, hΓ, hL, hfin, ↓tm_get, String.reduceEq, not_false_eq_true, if_true, Rd.sto, Rd.sill, Rd.to_b, Rd.to_at])
    rw [wrong, if_pos (by omega)]
    exact Into.sameA
  · ((first | with_reducible refine holds_of_ex X 400 _ _ _ ?_ | skip); simp (maxSteps := 1000000) only [push_cast, reduceCtorEq, Nat.reduceAdd, Nat.reduceMul, Nat.reduceSub, Nat.reduceBEq, Nat.reduceGT, Nat.reduceLT, Int.toNat_zero, Nat.reduceLeDiff, Int.reduceEq, Int.reduceLT, Int.reduceLE, hP, hΓ, hL, hfin, ↓tm_get, String.reduceEq, not_false_eq_true, if_true, Rd.sto, Rd.sill, Rd.to_b, Rd.to_at])
    rw [wrong, if_neg (by omega)]
    exact Into.sameA
theorem con22 {Γ : Env} (h : EnvOk Tryz.prog Γ)  : Con Tryz.prog 22 S22 :=
  heapE_con h (fn := Tryz.f22) (by kernel_rfl) rfl (by kernel_rfl) inj22 fun r _ => body22 Γ r
theorem u64n (n : Int) (h : 0 ≤ n ∧ n < 18446744073709551616) : IntKind.u64.wrap n = n := by simp [IntKind.wrap, IntKind.bits, IntKind.signed]; omega
def e20 : (Rd) × (Int) → List AV × Heap := fun (r, m) => ([.ref 0 0 0, .int .i64 m], [.row r.c 3 0])
def p20 : (Rd) × (Int) → Prop := fun (r, m) => r.ok ∧ 0 ≤ m ∧ m < 4294967296
def r20 : (Rd) × (Int) → AV := fun (r, m) => .int .i64 (numM r m).1
def g20 : (Rd) × (Int) → Heap := fun (r, m) => [.row (numM r m).2.c 3 0]
theorem inj20 : ∀ a b, e20 a = e20 b → a = b := by
  rintro ⟨r, m⟩ ⟨r', m'⟩ h
  simp only [e20, mi_iff, ms_iff, mb_iff, my_iff, rc_iff, Prod.mk.injEq, List.cons.injEq, AObj.row.injEq, AV.int.injEq, AV.str.injEq, AV.bool.injEq, AV.sl.injEq, AV.agg.injEq, AV.ip.injEq, AV.fn.injEq, AV.ifc.injEq, AV.mpr.injEq, AV.msl.injEq, AV.ref.injEq, Int.natCast_inj, and_true, true_and] at h
  simp_all only
noncomputable def S20 : FSpec := heapE false e20 p20 r20 g20
theorem ps20 (r : (Rd)) (m : (Int)) : pselK e20 p20 ([.ref 0 0 0, .int .i64 m], [.row r.c 3 0]) = (r.ok ∧ 0 ≤ m ∧ m < 4294967296) := pselK_at inj20 p20 (r, m)
theorem rs20 (r : (Rd)) (m : (Int)) : rselK e20 r20 .any ([.ref 0 0 0, .int .i64 m], [.row r.c 3 0]) = (.int .i64 (numM r m).1) := rselK_at inj20 r20 .any (r, m)
theorem hs20 (r : (Rd)) (m : (Int)) : rselK e20 g20 [] ([.ref 0 0 0, .int .i64 m], [.row r.c 3 0]) = ([.row (numM r m).2.c 3 0]) := rselK_at inj20 g20 [] (r, m)
attribute [push_cast] S20 ps20 rs20 hs20
theorem body20 (Γ : Env) (h22 : Γ 22 = some S22) (h49 : Γ 49 = some uintS) (r : Rd) (m : Int) (hr : r.ok) (hm : 0 ≤ m ∧ m < 4294967296) : BodyOk Tryz.prog Γ Tryz.f20 [.ref 0 0 0, .int .i64 m] [.row r.c 3 0] (.int .i64 (numM r m).1) [.row (numM r m).2.c 3 0] := by
  have hl := hr.len
  have hB : (objNumbersDone.BIG : Nat) = 140737488355328 := rfl
  (intro X hP hΓ hL hfin; refine ⟨_, rfl, ?_⟩; rw [show Tryz.f20.ntmps = 43 from rfl]; rw [show Tryz.f20.results.toList = [.tmp 4] from rfl] at hfin; apply holds_of_ex X 400; simp (maxSteps := 1000000) only [push_cast, reduceCtorEq, Nat.reduceAdd, Nat.reduceMul, Nat.reduceSub, Nat.reduceBEq, Nat.reduceGT, Nat.reduceLT, Int.toNat_zero, Nat.reduceLeDiff, Int.reduceEq, Int.reduceLT, Int.reduceLE, hP, hΓ, hL, hfin, ↓tm_get, String.reduceEq, not_false_eq_true, if_true, Rd.sto, Rd.sill, Rd.to_b, Rd.to_at, h22, h49])
  ((with_reducible refine exB_split (fun h => ?_) (fun h => ?_)) <;> (try simp only [decide_eq_true_eq, decide_eq_false_iff_not, Bool.and_eq_true, Bool.or_eq_true, Bool.and_eq_false_iff, Bool.or_eq_false_iff, Bool.not_eq_true', Bool.not_eq_false', Bool.not_eq_true, Bool.not_eq_false, Int.not_lt, Int.not_le, beq_iff_eq, beq_eq_false_iff_ne, ne_eq, win_t, win_f] at h))
  · ((first | with_reducible refine holds_of_ex X 400 _ _ _ ?_ | skip); simp (maxSteps := 1000000) only [push_cast, reduceCtorEq, Nat.reduceAdd, Nat.reduceMul, Nat.reduceSub, Nat.reduceBEq, Nat.reduceGT, Nat.reduceLT, Int.toNat_zero, Nat.reduceLeDiff, Int.reduceEq, Int.reduceLT, Int.reduceLE, hP, hΓ, hL, hfin, ↓tm_get, String.reduceEq, not_false_eq_true, if_true, Rd.sto, Rd.sill, Rd.to_b, Rd.to_at])
    rw [show numM r m = (0, r) by rw [numM, numT, tookM, if_pos h]; rfl]
    exact Into.sameA
  have hbad : ¬ 0 ≤ r.bad := by omega
  have hv := valR_b (rawU r.b r.at_)
  have hw : wrong r = r.ill := by rw [wrong, if_pos (by omega)]
  ((first | with_reducible refine holds_of_ex X 400 _ _ _ ?_ | skip); simp (maxSteps := 1000000) only [push_cast, reduceCtorEq, Nat.reduceAdd, Nat.reduceMul, Nat.reduceSub, Nat.reduceBEq, Nat.reduceGT, Nat.reduceLT, Int.toNat_zero, Nat.reduceLeDiff, Int.reduceEq, Int.reduceLT, Int.reduceLE, hP, hΓ, hL, hfin, ↓tm_get, String.reduceEq, not_false_eq_true, if_true, Rd.sto, Rd.sill, Rd.to_b, Rd.to_at])
  (refine Holds.drawnQ (by rw [hP]; kernel_rfl) (by kernel_rfl) ?_; simp (maxSteps := 1000000) only [push_cast, reduceCtorEq, Nat.reduceAdd, Nat.reduceMul, Nat.reduceSub, Nat.reduceBEq, Nat.reduceGT, Nat.reduceLT, Int.toNat_zero, Nat.reduceLeDiff, Int.reduceEq, Int.reduceLT, Int.reduceLE, hP, hΓ, hL, hfin, ↓tm_get, String.reduceEq, not_false_eq_true, if_true, Rd.sto, Rd.sill, Rd.to_b, Rd.to_at, h22, h49, u64n m (by omega), u64n (valR (rawU r.b r.at_)) (by omega)])
  refine ⟨⟨own_row _, by rw [hB]; omega⟩, ?_⟩
  refine exB_split (fun h => ?_) (fun h => ?_)
  · ((first | with_reducible refine holds_of_ex X 400 _ _ _ ?_ | skip); simp (maxSteps := 1000000) only [push_cast, reduceCtorEq, Nat.reduceAdd, Nat.reduceMul, Nat.reduceSub, Nat.reduceBEq, Nat.reduceGT, Nat.reduceLT, Int.toNat_zero, Nat.reduceLeDiff, Int.reduceEq, Int.reduceLT, Int.reduceLE, hP, hΓ, hL, hfin, ↓tm_get, String.reduceEq, not_false_eq_true, if_true, Rd.sto, Rd.sill, Rd.to_b, Rd.to_at, h22])
    have e : (okR (rawU r.b r.at_) && decide (valR (rawU r.b r.at_) ≤ m)) = false := by
      cases hk : okR (rawU r.b r.at_) with
      | false => rfl
      | true => rw [hk] at h; simp only [Bool.not_true, Bool.false_or, decide_eq_true_eq] at h; simp; omega
    rw [show numM r m = (0, r.ill) by rw [numM, numT, tookM, if_neg hbad, e]; rfl, hw]
    exact Into.sameA
  · have e : (okR (rawU r.b r.at_) && decide (valR (rawU r.b r.at_) ≤ m)) = true := by
      simp only [Bool.or_eq_false_iff, Bool.not_eq_false', decide_eq_false_iff_not] at h
      rw [h.1]; simp; omega
    ((first | with_reducible refine holds_of_ex X 400 _ _ _ ?_ | skip); simp (maxSteps := 1000000) only [push_cast, reduceCtorEq, Nat.reduceAdd, Nat.reduceMul, Nat.reduceSub, Nat.reduceBEq, Nat.reduceGT, Nat.reduceLT, Int.toNat_zero, Nat.reduceLeDiff, Int.reduceEq, Int.reduceLT, Int.reduceLE, hP, hΓ, hL, hfin, ↓tm_get, String.reduceEq, not_false_eq_true, if_true, Rd.sto, Rd.sill, Rd.to_b, Rd.to_at, wr_i64 (valR (rawU r.b r.at_)) (by constructor <;> omega)])
    rw [show numM r m = (valR (rawU r.b r.at_), r.to (objNumbersDone.nextR r.at_ (rawU r.b r.at_))) by rw [numM, numT, tookM, if_neg hbad, e]; rfl]
    exact Into.sameA
theorem con20 {Γ : Env} (h : EnvOk Tryz.prog Γ) (h22 : Γ 22 = some S22) (h49 : Γ 49 = some uintS) : Con Tryz.prog 20 S20 :=
  heapE_con h (fn := Tryz.f20) (by kernel_rfl) rfl (by kernel_rfl) inj20 fun ⟨r, m⟩ h => body20 Γ h22 h49 r m h.1 h.2
def e47 : (Rd) × (Int) → List AV × Heap := fun (r, m) => ([.ref 0 0 0, .int .i64 m], [.row r.c 3 0])
def p47 : (Rd) × (Int) → Prop := fun (r, m) => r.ok ∧ 0 ≤ m ∧ m ≤ 100000
def r47 : (Rd) × (Int) → AV := fun (r, m) => .str (textM r m).1
def g47 : (Rd) × (Int) → Heap := fun (r, m) => [.row (textM r m).2.c 3 0]
theorem inj47 : ∀ a b, e47 a = e47 b → a = b := by
  rintro ⟨r, m⟩ ⟨r', m'⟩ h
  simp only [e47, mi_iff, ms_iff, mb_iff, my_iff, rc_iff, Prod.mk.injEq, List.cons.injEq, AObj.row.injEq, AV.int.injEq, AV.str.injEq, AV.bool.injEq, AV.sl.injEq, AV.agg.injEq, AV.ip.injEq, AV.fn.injEq, AV.ifc.injEq, AV.mpr.injEq, AV.msl.injEq, AV.ref.injEq, Int.natCast_inj, and_true, true_and] at h
  simp_all only
noncomputable def S47 : FSpec := heapE false e47 p47 r47 g47
theorem ps47 (r : (Rd)) (m : (Int)) : pselK e47 p47 ([.ref 0 0 0, .int .i64 m], [.row r.c 3 0]) = (r.ok ∧ 0 ≤ m ∧ m ≤ 100000) := pselK_at inj47 p47 (r, m)
theorem rs47 (r : (Rd)) (m : (Int)) : rselK e47 r47 .any ([.ref 0 0 0, .int .i64 m], [.row r.c 3 0]) = (.str (textM r m).1) := rselK_at inj47 r47 .any (r, m)
theorem hs47 (r : (Rd)) (m : (Int)) : rselK e47 g47 [] ([.ref 0 0 0, .int .i64 m], [.row r.c 3 0]) = ([.row (textM r m).2.c 3 0]) := rselK_at inj47 g47 [] (r, m)
attribute [push_cast] S47 ps47 rs47 hs47
theorem body47 (Γ : Env) (h22 : Γ 22 = some S22) (h69 : Γ 69 = some textAtS) (r : Rd) (m : Int) (hr : r.ok) (hm : 0 ≤ m ∧ m ≤ 100000) : BodyOk Tryz.prog Γ Tryz.f47 [.ref 0 0 0, .int .i64 m] [.row r.c 3 0] (.str (textM r m).1) [.row (textM r m).2.c 3 0] := by
  have hl := hr.len
  have hB : (objNumbersDone.BIG : Nat) = 140737488355328 := rfl
  (intro X hP hΓ hL hfin; refine ⟨_, rfl, ?_⟩; rw [show Tryz.f47.ntmps = 36 from rfl]; rw [show Tryz.f47.results.toList = [.tmp 4] from rfl] at hfin; apply holds_of_ex X 400; simp (maxSteps := 1000000) only [push_cast, reduceCtorEq, Nat.reduceAdd, Nat.reduceMul, Nat.reduceSub, Nat.reduceBEq, Nat.reduceGT, Nat.reduceLT, Int.toNat_zero, Nat.reduceLeDiff, Int.reduceEq, Int.reduceLT, Int.reduceLE, hP, hΓ, hL, hfin, ↓tm_get, String.reduceEq, not_false_eq_true, if_true, Rd.sto, Rd.sill, Rd.to_b, Rd.to_at, h22, h69])
  ((with_reducible refine exB_split (fun h => ?_) (fun h => ?_)) <;> (try simp only [decide_eq_true_eq, decide_eq_false_iff_not, Bool.and_eq_true, Bool.or_eq_true, Bool.and_eq_false_iff, Bool.or_eq_false_iff, Bool.not_eq_true', Bool.not_eq_false', Bool.not_eq_true, Bool.not_eq_false, Int.not_lt, Int.not_le, beq_iff_eq, beq_eq_false_iff_ne, ne_eq, win_t, win_f] at h))
  · ((first | with_reducible refine holds_of_ex X 400 _ _ _ ?_ | skip); simp (maxSteps := 1000000) only [push_cast, reduceCtorEq, Nat.reduceAdd, Nat.reduceMul, Nat.reduceSub, Nat.reduceBEq, Nat.reduceGT, Nat.reduceLT, Int.toNat_zero, Nat.reduceLeDiff, Int.reduceEq, Int.reduceLT, Int.reduceLE, hP, hΓ, hL, hfin, ↓tm_get, String.reduceEq, not_false_eq_true, if_true, Rd.sto, Rd.sill, Rd.to_b, Rd.to_at])
    rw [show textM r m = ([], r) by rw [textM, textT, tookM, if_pos h]; rfl]
    exact Into.sameA
  have hbad : ¬ 0 ≤ r.bad := by omega
  have hw : wrong r = r.ill := by rw [wrong, if_pos (by omega)]
  ((first | with_reducible refine holds_of_ex X 400 _ _ _ ?_ | skip); simp (maxSteps := 1000000) only [push_cast, reduceCtorEq, Nat.reduceAdd, Nat.reduceMul, Nat.reduceSub, Nat.reduceBEq, Nat.reduceGT, Nat.reduceLT, Int.toNat_zero, Nat.reduceLeDiff, Int.reduceEq, Int.reduceLT, Int.reduceLE, hP, hΓ, hL, hfin, ↓tm_get, String.reduceEq, not_false_eq_true, if_true, Rd.sto, Rd.sill, Rd.to_b, Rd.to_at])
  (refine Holds.drawnQ (by rw [hP]; kernel_rfl) (by kernel_rfl) ?_; simp (maxSteps := 1000000) only [push_cast, reduceCtorEq, Nat.reduceAdd, Nat.reduceMul, Nat.reduceSub, Nat.reduceBEq, Nat.reduceGT, Nat.reduceLT, Int.toNat_zero, Nat.reduceLeDiff, Int.reduceEq, Int.reduceLT, Int.reduceLE, hP, hΓ, hL, hfin, ↓tm_get, String.reduceEq, not_false_eq_true, if_true, Rd.sto, Rd.sill, Rd.to_b, Rd.to_at, h22, h69])
  refine ⟨⟨own_row _, by rw [hB]; omega, by omega, by omega⟩, ?_⟩
  refine exB_split (fun h => ?_) (fun h => ?_)
  · ((first | with_reducible refine holds_of_ex X 400 _ _ _ ?_ | skip); simp (maxSteps := 1000000) only [push_cast, reduceCtorEq, Nat.reduceAdd, Nat.reduceMul, Nat.reduceSub, Nat.reduceBEq, Nat.reduceGT, Nat.reduceLT, Int.toNat_zero, Nat.reduceLeDiff, Int.reduceEq, Int.reduceLT, Int.reduceLE, hP, hΓ, hL, hfin, ↓tm_get, String.reduceEq, not_false_eq_true, if_true, Rd.sto, Rd.sill, Rd.to_b, Rd.to_at, h22])
    have e : okT r.b r.at_ m = false := by simpa using h
    rw [show textM r m = ([], r.ill) by rw [textM, textT, tookM, if_neg hbad, e]; rfl, hw]
    exact Into.sameA
  · ((first | with_reducible refine holds_of_ex X 400 _ _ _ ?_ | skip); simp (maxSteps := 1000000) only [push_cast, reduceCtorEq, Nat.reduceAdd, Nat.reduceMul, Nat.reduceSub, Nat.reduceBEq, Nat.reduceGT, Nat.reduceLT, Int.toNat_zero, Nat.reduceLeDiff, Int.reduceEq, Int.reduceLT, Int.reduceLE, hP, hΓ, hL, hfin, ↓tm_get, String.reduceEq, not_false_eq_true, if_true, Rd.sto, Rd.sill, Rd.to_b, Rd.to_at])
    have e : okT r.b r.at_ m = true := by simpa using h
    rw [show textM r m = (valT r.b r.at_ m, r.to (nextT r.b r.at_ m)) by rw [textM, textT, tookM, if_neg hbad, e]; rfl]
    exact Into.sameA
theorem con47 {Γ : Env} (h : EnvOk Tryz.prog Γ) (h22 : Γ 22 = some S22) (h69 : Γ 69 = some textAtS) : Con Tryz.prog 47 S47 :=
  heapE_con h (fn := Tryz.f47) (by kernel_rfl) rfl (by kernel_rfl) inj47 fun ⟨r, m⟩ h => body47 Γ h22 h69 r m h.1 h.2
def e48 : (Rd) → List AV × Heap := fun r => ([.ref 0 0 0], [.row r.c 3 0])
def p48 : (Rd) → Prop := fun r => r.ok
def r48 : (Rd) → AV := fun r => .int .u32 (wordM r).1
def g48 : (Rd) → Heap := fun r => [.row (wordM r).2.c 3 0]
theorem inj48 : ∀ a b, e48 a = e48 b → a = b := by
  rintro r r' h
  simp only [e48, mi_iff, ms_iff, mb_iff, my_iff, rc_iff, Prod.mk.injEq, List.cons.injEq, AObj.row.injEq, AV.int.injEq, AV.str.injEq, AV.bool.injEq, AV.sl.injEq, AV.agg.injEq, AV.ip.injEq, AV.fn.injEq, AV.ifc.injEq, AV.mpr.injEq, AV.msl.injEq, AV.ref.injEq, Int.natCast_inj, and_true, true_and] at h
  simp_all only
noncomputable def S48 : FSpec := heapE false e48 p48 r48 g48
theorem ps48 (r : (Rd)) : pselK e48 p48 ([.ref 0 0 0], [.row r.c 3 0]) = (r.ok) := pselK_at inj48 p48 r
theorem rs48 (r : (Rd)) : rselK e48 r48 .any ([.ref 0 0 0], [.row r.c 3 0]) = (.int .u32 (wordM r).1) := rselK_at inj48 r48 .any r
theorem hs48 (r : (Rd)) : rselK e48 g48 [] ([.ref 0 0 0], [.row r.c 3 0]) = ([.row (wordM r).2.c 3 0]) := rselK_at inj48 g48 [] r
attribute [push_cast] S48 ps48 rs48 hs48
theorem body48 (Γ : Env) (h22 : Γ 22 = some S22) (h17 : Γ 17 = some S17) (r : Rd) (hr : r.ok) : BodyOk Tryz.prog Γ Tryz.f48 [.ref 0 0 0] [.row r.c 3 0] (.int .u32 (wordM r).1) [.row (wordM r).2.c 3 0] := by
  have hl := hr.len; have h1 := hr.lo; have h2 := hr.hi
  (intro X hP hΓ hL hfin; refine ⟨_, rfl, ?_⟩; rw [show Tryz.f48.ntmps = 37 from rfl]; rw [show Tryz.f48.results.toList = [.tmp 2] from rfl] at hfin; apply holds_of_ex X 400; simp (maxSteps := 1000000) only [push_cast, reduceCtorEq, Nat.reduceAdd, Nat.reduceMul, Nat.reduceSub, Nat.reduceBEq, Nat.reduceGT, Nat.reduceLT, Int.toNat_zero, Nat.reduceLeDiff, Int.reduceEq, Int.reduceLT, Int.reduceLE, hP, hΓ, hL, hfin, ↓tm_get, String.reduceEq, not_false_eq_true, if_true, Rd.sto, Rd.sill, Rd.to_b, Rd.to_at, h22, h17])
  (refine Holds.drawnQ (by rw [hP]; kernel_rfl) (by kernel_rfl) ?_; simp (maxSteps := 1000000) only [push_cast, reduceCtorEq, Nat.reduceAdd, Nat.reduceMul, Nat.reduceSub, Nat.reduceBEq, Nat.reduceGT, Nat.reduceLT, Int.toNat_zero, Nat.reduceLeDiff, Int.reduceEq, Int.reduceLT, Int.reduceLE, hP, hΓ, hL, hfin, ↓tm_get, String.reduceEq, not_false_eq_true, if_true, Rd.sto, Rd.sill, Rd.to_b, Rd.to_at, h22, h17])
  refine ⟨hl, ?_⟩
  refine exB_split (fun h => ?_) (fun h => ?_)
  · ((first | with_reducible refine holds_of_ex X 400 _ _ _ ?_ | skip); simp (maxSteps := 1000000) only [push_cast, reduceCtorEq, Nat.reduceAdd, Nat.reduceMul, Nat.reduceSub, Nat.reduceBEq, Nat.reduceGT, Nat.reduceLT, Int.toNat_zero, Nat.reduceLeDiff, Int.reduceEq, Int.reduceLT, Int.reduceLE, hP, hΓ, hL, hfin, ↓tm_get, String.reduceEq, not_false_eq_true, if_true, Rd.sto, Rd.sill, Rd.to_b, Rd.to_at, h22])
    have e : wordM r = (0, wrong r) := by
      by_cases hb : 0 ≤ r.bad
      · simp [wordM, wordT, tookM, wrong, hb, show ¬ r.bad < 0 by omega]
      · have e : getK r.b r.at_ = false := by
          simp only [Bool.or_eq_true, Bool.not_eq_true', decide_eq_true_eq] at h
          rcases h with h | h
          · exact h
          · exact absurd h hb
        simp [wordM, wordT, tookM, wrong, hb, e, show r.bad < 0 by omega]
    rw [e]
    exact Into.sameA
  · simp only [Bool.or_eq_false_iff, Bool.not_eq_false', decide_eq_false_iff_not] at h
    ((first | with_reducible refine holds_of_ex X 400 _ _ _ ?_ | skip); simp (maxSteps := 1000000) only [push_cast, reduceCtorEq, Nat.reduceAdd, Nat.reduceMul, Nat.reduceSub, Nat.reduceBEq, Nat.reduceGT, Nat.reduceLT, Int.toNat_zero, Nat.reduceLeDiff, Int.reduceEq, Int.reduceLT, Int.reduceLE, hP, hΓ, hL, hfin, ↓tm_get, String.reduceEq, not_false_eq_true, if_true, Rd.sto, Rd.sill, Rd.to_b, Rd.to_at, wr_i64 (r.at_ + 4) (by constructor <;> omega)])
    rw [show wordM r = (getV r.b r.at_, r.to (r.at_ + 4)) by rw [wordM, wordT, tookM, if_neg h.2, h.1]; rfl]
    exact Into.sameA
theorem con48 {Γ : Env} (h : EnvOk Tryz.prog Γ) (h22 : Γ 22 = some S22) (h17 : Γ 17 = some S17) : Con Tryz.prog 48 S48 :=
  heapE_con h (fn := Tryz.f48) (by kernel_rfl) rfl (by kernel_rfl) inj48 fun r h => body48 Γ h22 h17 r h
def e21 : (Rd) × (Int) → List AV × Heap := fun (r, m) => ([.ref 0 0 0, .int .u8 m], [.row r.c 3 0])
def p21 : (Rd) × (Int) → Prop := fun (r, m) => r.ok
def r21 : (Rd) × (Int) → AV := fun (r, m) => .int .u8 (byteM r m).1
def g21 : (Rd) × (Int) → Heap := fun (r, m) => [.row (byteM r m).2.c 3 0]
theorem inj21 : ∀ a b, e21 a = e21 b → a = b := by
  rintro ⟨r, m⟩ ⟨r', m'⟩ h
  simp only [e21, mi_iff, ms_iff, mb_iff, my_iff, rc_iff, Prod.mk.injEq, List.cons.injEq, AObj.row.injEq, AV.int.injEq, AV.str.injEq, AV.bool.injEq, AV.sl.injEq, AV.agg.injEq, AV.ip.injEq, AV.fn.injEq, AV.ifc.injEq, AV.mpr.injEq, AV.msl.injEq, AV.ref.injEq, Int.natCast_inj, and_true, true_and] at h
  simp_all only
noncomputable def S21 : FSpec := heapE false e21 p21 r21 g21
theorem ps21 (r : (Rd)) (m : (Int)) : pselK e21 p21 ([.ref 0 0 0, .int .u8 m], [.row r.c 3 0]) = (r.ok) := pselK_at inj21 p21 (r, m)
theorem rs21 (r : (Rd)) (m : (Int)) : rselK e21 r21 .any ([.ref 0 0 0, .int .u8 m], [.row r.c 3 0]) = (.int .u8 (byteM r m).1) := rselK_at inj21 r21 .any (r, m)
theorem hs21 (r : (Rd)) (m : (Int)) : rselK e21 g21 [] ([.ref 0 0 0, .int .u8 m], [.row r.c 3 0]) = ([.row (byteM r m).2.c 3 0]) := rselK_at inj21 g21 [] (r, m)
attribute [push_cast] S21 ps21 rs21 hs21
theorem body21 (Γ : Env) (h22 : Γ 22 = some S22) (r : Rd) (m : Int) (hr : r.ok) : BodyOk Tryz.prog Γ Tryz.f21 [.ref 0 0 0, .int .u8 m] [.row r.c 3 0] (.int .u8 (byteM r m).1) [.row (byteM r m).2.c 3 0] := by
  have hl := hr.len; have h1 := hr.lo; have h2 := hr.hi
  (intro X hP hΓ hL hfin; refine ⟨_, rfl, ?_⟩; rw [show Tryz.f21.ntmps = 56 from rfl]; rw [show Tryz.f21.results.toList = [.tmp 4] from rfl] at hfin; apply holds_of_ex X 400; simp (maxSteps := 1000000) only [push_cast, reduceCtorEq, Nat.reduceAdd, Nat.reduceMul, Nat.reduceSub, Nat.reduceBEq, Nat.reduceGT, Nat.reduceLT, Int.toNat_zero, Nat.reduceLeDiff, Int.reduceEq, Int.reduceLT, Int.reduceLE, hP, hΓ, hL, hfin, ↓tm_get, String.reduceEq, not_false_eq_true, if_true, Rd.sto, Rd.sill, Rd.to_b, Rd.to_at, h22])
  (refine Holds.drawnQ (by rw [hP]; kernel_rfl) (by kernel_rfl) ?_; simp (maxSteps := 1000000) only [push_cast, reduceCtorEq, Nat.reduceAdd, Nat.reduceMul, Nat.reduceSub, Nat.reduceBEq, Nat.reduceGT, Nat.reduceLT, Int.toNat_zero, Nat.reduceLeDiff, Int.reduceEq, Int.reduceLT, Int.reduceLE, hP, hΓ, hL, hfin, ↓tm_get, String.reduceEq, not_false_eq_true, if_true, Rd.sto, Rd.sill, Rd.to_b, Rd.to_at, h22])
  refine ⟨fun h => ?_, fun h => ?_, ?_⟩
  · simp only [Bool.not_eq_true', Bool.or_eq_false_iff, decide_eq_false_iff_not] at h; omega
  · simp only [Bool.not_eq_true', Bool.or_eq_false_iff, decide_eq_false_iff_not] at h; omega
  refine exB_split (fun h => ?_) (fun h => ?_)
  · ((first | with_reducible refine holds_of_ex X 400 _ _ _ ?_ | skip); simp (maxSteps := 1000000) only [push_cast, reduceCtorEq, Nat.reduceAdd, Nat.reduceMul, Nat.reduceSub, Nat.reduceBEq, Nat.reduceGT, Nat.reduceLT, Int.toNat_zero, Nat.reduceLeDiff, Int.reduceEq, Int.reduceLT, Int.reduceLE, hP, hΓ, hL, hfin, ↓tm_get, String.reduceEq, not_false_eq_true, if_true, Rd.sto, Rd.sill, Rd.to_b, Rd.to_at, h22])
    have e : byteM r m = (0, wrong r) := by
      by_cases hb : 0 ≤ r.bad
      · simp [byteM, byteT, tookM, wrong, hb, show ¬ r.bad < 0 by omega]
      · have e : (decide (r.at_ < r.b.length) && decide (((r.b.getD r.at_.toNat 0).toNat : Int) ≤ m)) = false := by
          simp only [Bool.or_eq_true, decide_eq_true_eq] at h
          simp only [Bool.and_eq_false_iff, decide_eq_false_iff_not]
          omega
        simp only [byteM, byteT, tookM, wrong, if_neg hb, e, if_pos (show r.bad < 0 by omega), Bool.false_eq_true, if_false]
    rw [e]
    exact Into.sameA
  · simp only [Bool.or_eq_false_iff, decide_eq_false_iff_not] at h
    have e : (decide (r.at_ < r.b.length) && decide (((r.b.getD r.at_.toNat 0).toNat : Int) ≤ m)) = true := by
      simp only [Bool.and_eq_true, decide_eq_true_eq]; omega
    have hb : byteM r m = (((r.b.getD r.at_.toNat 0).toNat : Int), r.to (r.at_ + 1)) := by simp only [byteM, byteT, tookM, if_neg h.1.1, e, if_true]
    ((first | with_reducible refine holds_of_ex X 400 _ _ _ ?_ | skip); simp (maxSteps := 1000000) only [push_cast, reduceCtorEq, Nat.reduceAdd, Nat.reduceMul, Nat.reduceSub, Nat.reduceBEq, Nat.reduceGT, Nat.reduceLT, Int.toNat_zero, Nat.reduceLeDiff, Int.reduceEq, Int.reduceLT, Int.reduceLE, hP, hΓ, hL, hfin, ↓tm_get, String.reduceEq, not_false_eq_true, if_true, Rd.sto, Rd.sill, Rd.to_b, Rd.to_at, wr_i64 (r.at_ + 1) (by constructor <;> omega)])
    (refine Holds.drawnQ (by rw [hP]; kernel_rfl) (by kernel_rfl) ?_; simp (maxSteps := 1000000) only [push_cast, reduceCtorEq, Nat.reduceAdd, Nat.reduceMul, Nat.reduceSub, Nat.reduceBEq, Nat.reduceGT, Nat.reduceLT, Int.toNat_zero, Nat.reduceLeDiff, Int.reduceEq, Int.reduceLT, Int.reduceLE, hP, hΓ, hL, hfin, ↓tm_get, String.reduceEq, not_false_eq_true, if_true, Rd.sto, Rd.sill, Rd.to_b, Rd.to_at, wr_i64 (r.at_ + 1 - 1) (by constructor <;> omega)])
    refine ⟨⟨by omega, by omega⟩, by omega, ?_⟩
    rw [show r.at_ + 1 - 1 = r.at_ by omega, hb]
    exact Into.sameA
theorem con21 {Γ : Env} (h : EnvOk Tryz.prog Γ) (h22 : Γ 22 = some S22) : Con Tryz.prog 21 S21 :=
  heapE_con h (fn := Tryz.f21) (by kernel_rfl) rfl (by kernel_rfl) inj21 fun ⟨r, m⟩ h => body21 Γ h22 r m h
end Go.Proofs.YtmilngcgcolpbaaGreat.objRef
