/- Of objects: a reader's steps. Conditions stand in each. -/
import Derived.Test.YtmilngcgcolpbaaGreatOBB
import Derived.Test.YtmilngcgcolpbaaGreatOY
import Derived.Test.YtmilngcgcolpbaaGreatEng20
namespace Go.Proofs.YtmilngcgcolpbaaGreat.objDone
open Go Go.Eng Go.Proofs
open Go.Proofs.YtmilngcgcolpbaaGreat.objNumbersDone (rawU okR valR uintS uintP uintK okT valT nextT textAtS textAtP textAtK)
set_option linter.unusedVariables false
set_option linter.unusedSimpArgs false
set_option maxRecDepth 100000
set_option maxHeartbeats 4000000
/-- a reader: bytes, the place, the first fault -/
structure Rd where
  b : Bytes
  at_ : Int
  bad : Int
  deriving Inhabited
def Rd.c (r : Rd) : List AV := [.sl (r.b.map byteAV) r.b.length, .int .i64 r.at_, .int .i64 r.bad]
instance : PureC Rd.c := ⟨fun x => by simp only [Rd.c, pureL, pureA, pureL_map, Bool.and_self], fun x => rfl⟩
instance : Width Rd.c 3 := ⟨fun _ => rfl⟩
theorem Rd.g0 (r : Rd) (d : AV) : r.c.getD 0 d = .sl (r.b.map byteAV) r.b.length := rfl
theorem Rd.g1 (r : Rd) (d : AV) : r.c.getD 1 d = .int .i64 r.at_ := rfl
theorem Rd.g2 (r : Rd) (d : AV) : r.c.getD 2 d = .int .i64 r.bad := rfl
attribute [push_cast] Rd.g0 Rd.g1 Rd.g2
theorem Rd.inj (a b : Rd) (h : a.c = b.c) : a = b := by
  cases a; cases b
  simp only [Rd.c, List.cons.injEq, AV.int.injEq, AV.sl.injEq, true_and, and_true, my_iff] at h
  obtain ⟨⟨rfl, _⟩, rfl, rfl⟩ := h
  rfl
theorem rc_iff {a b : Rd} : a.c = b.c ↔ a = b := ⟨Rd.inj a b, fun h => by rw [h]⟩
structure Rd.ok (r : Rd) : Prop where
  len : r.b.length ≤ 4194304
  lo : 0 ≤ r.at_
  hi : r.at_ ≤ r.b.length
def Rd.to (r : Rd) (n : Int) : Rd := { r with at_ := n }
def Rd.ill (r : Rd) : Rd := { r with bad := r.at_ }
theorem Rd.sto (r : Rd) (n : Int) : List.take 1 r.c ++ [AV.int .i64 n] ++ List.drop 2 r.c = (r.to n).c := rfl
theorem Rd.sill (r : Rd) : List.take 2 r.c ++ [AV.int .i64 r.at_] = r.ill.c := rfl
def tookM (r : Rd) (n : Int) (k : Bool) : Bool × Rd := if 0 ≤ r.bad then (false, r) else if k then (true, r.to n) else (false, r.ill)
theorem Rd.to_b (r : Rd) (n : Int) : (r.to n).b = r.b := rfl
theorem Rd.to_at (r : Rd) (n : Int) : (r.to n).at_ = n := rfl
theorem tookM_t {r : Rd} {n : Int} {k : Bool} (h : (tookM r n k).1 = true) : r.bad < 0 ∧ k = true ∧ (tookM r n k).2 = r.to n := by
  unfold tookM at h ⊢
  split at h
  · cases h
  · rename_i h0
    cases k with
    | false => cases h
    | true => rw [if_neg h0]; exact ⟨by omega, rfl, rfl⟩
theorem tookM_ok {r : Rd} (hr : r.ok) {n : Int} {k : Bool} (h : k = true → 0 ≤ n ∧ n ≤ r.b.length) : (tookM r n k).2.ok ∧ (tookM r n k).2.b = r.b := by
  unfold tookM
  split
  · exact ⟨hr, rfl⟩
  · split
    · rename_i hk; exact ⟨⟨hr.len, (h hk).1, (h hk).2⟩, rfl⟩
    · exact ⟨⟨hr.len, hr.lo, hr.hi⟩, rfl⟩
def e49 : (Rd) × (Int) × (Bool) → List AV × Heap := fun (r, n, k) => ([.ref 0 0 0, .int .i64 n, .bool k], [.row r.c 3 0])
def p49 : (Rd) × (Int) × (Bool) → Prop := fun (r, n, k) => True
def r49 : (Rd) × (Int) × (Bool) → AV := fun (r, n, k) => .bool (tookM r n k).1
def g49 : (Rd) × (Int) × (Bool) → Heap := fun (r, n, k) => [.row (tookM r n k).2.c 3 0]
theorem inj49 : ∀ a b, e49 a = e49 b → a = b := by
  rintro ⟨r, n, k⟩ ⟨r', n', k'⟩ h
  simp only [e49, mi_iff, ms_iff, mb_iff, my_iff, rc_iff, Prod.mk.injEq, List.cons.injEq, AObj.row.injEq, AV.int.injEq, AV.str.injEq, AV.bool.injEq, AV.sl.injEq, AV.agg.injEq, AV.ip.injEq, AV.fn.injEq, AV.ifc.injEq, AV.mpr.injEq, AV.msl.injEq, AV.ref.injEq, Int.natCast_inj, and_true, true_and] at h
  simp_all only
noncomputable def S49 : FSpec := heapE false e49 p49 r49 g49
theorem ps49 (r : (Rd)) (n : (Int)) (k : (Bool)) : pselK e49 p49 ([.ref 0 0 0, .int .i64 n, .bool k], [.row r.c 3 0]) = (True) := pselK_at inj49 p49 (r, n, k)
theorem rs49 (r : (Rd)) (n : (Int)) (k : (Bool)) : rselK e49 r49 .any ([.ref 0 0 0, .int .i64 n, .bool k], [.row r.c 3 0]) = (.bool (tookM r n k).1) := rselK_at inj49 r49 .any (r, n, k)
theorem hs49 (r : (Rd)) (n : (Int)) (k : (Bool)) : rselK e49 g49 [] ([.ref 0 0 0, .int .i64 n, .bool k], [.row r.c 3 0]) = ([.row (tookM r n k).2.c 3 0]) := rselK_at inj49 g49 [] (r, n, k)
attribute [push_cast] S49 ps49 rs49 hs49
theorem body49 (Γ : Env) (r : Rd) (n : Int) (k : Bool) : BodyOk Tryz.prog Γ Tryz.f15 [.ref 0 0 0, .int .i64 n, .bool k] [.row r.c 3 0] (.bool (tookM r n k).1) [.row (tookM r n k).2.c 3 0] := by
  (intro X hP hΓ hL hfin; refine ⟨_, rfl, ?_⟩; rw [show Tryz.f15.ntmps = 25 from rfl]; rw [show Tryz.f15.results.toList = [.tmp 6] from rfl] at hfin; apply holds_of_ex X 400; simp (maxSteps := 1000000) only [push_cast, reduceCtorEq, Nat.reduceAdd, Nat.reduceMul, Nat.reduceSub, Nat.reduceBEq, Nat.reduceGT, Nat.reduceLT, Int.toNat_zero, Nat.reduceLeDiff, Int.reduceEq, Int.reduceLT, Int.reduceLE, hP, hΓ, hL, hfin, ↓tm_get, String.reduceEq, not_false_eq_true, if_true, Rd.sto, Rd.sill, Rd.to_b, Rd.to_at])
  ((with_reducible refine exB_split (fun h => ?_) (fun h => ?_)) <;> (try simp only [decide_eq_true_eq, decide_eq_false_iff_not, Bool.and_eq_true, Bool.or_eq_true, Bool.and_eq_false_iff, Bool.or_eq_false_iff, Bool.not_eq_true', Bool.not_eq_false', Bool.not_eq_true, Bool.not_eq_false, Int.not_lt, Int.not_le, beq_iff_eq, beq_eq_false_iff_ne, ne_eq, win_t, win_f] at h))
  · ((first | with_reducible refine holds_of_ex X 400 _ _ _ ?_ | skip); simp (maxSteps := 1000000) only [push_cast, reduceCtorEq, Nat.reduceAdd, Nat.reduceMul, Nat.reduceSub, Nat.reduceBEq, Nat.reduceGT, Nat.reduceLT, Int.toNat_zero, Nat.reduceLeDiff, Int.reduceEq, Int.reduceLT, Int.reduceLE, hP, hΓ, hL, hfin, ↓tm_get, String.reduceEq, not_false_eq_true, if_true, Rd.sto, Rd.sill, Rd.to_b, Rd.to_at])
    rw [show tookM r n k = (false, r) by rw [tookM, if_pos h]]
    exact Into.sameA
  ((first | with_reducible refine holds_of_ex X 400 _ _ _ ?_ | skip); simp (maxSteps := 1000000) only [push_cast, reduceCtorEq, Nat.reduceAdd, Nat.reduceMul, Nat.reduceSub, Nat.reduceBEq, Nat.reduceGT, Nat.reduceLT, Int.toNat_zero, Nat.reduceLeDiff, Int.reduceEq, Int.reduceLT, Int.reduceLE, hP, hΓ, hL, hfin, ↓tm_get, String.reduceEq, not_false_eq_true, if_true, Rd.sto, Rd.sill, Rd.to_b, Rd.to_at])
  cases k with
  | false =>
    ((first | with_reducible refine holds_of_ex X 400 _ _ _ ?_ | skip); simp (maxSteps := 1000000) only [push_cast, reduceCtorEq, Nat.reduceAdd, Nat.reduceMul, Nat.reduceSub, Nat.reduceBEq, Nat.reduceGT, Nat.reduceLT, Int.toNat_zero, Nat.reduceLeDiff, Int.reduceEq, Int.reduceLT, Int.reduceLE, hP, hΓ, hL, hfin, ↓tm_get, String.reduceEq, not_false_eq_true, if_true, Rd.sto, Rd.sill, Rd.to_b, Rd.to_at])
    rw [show tookM r n false = (false, r.ill) by rw [tookM, if_neg (by omega)]; rfl]
    exact Into.sameA
  | true =>
    ((first | with_reducible refine holds_of_ex X 400 _ _ _ ?_ | skip); simp (maxSteps := 1000000) only [push_cast, reduceCtorEq, Nat.reduceAdd, Nat.reduceMul, Nat.reduceSub, Nat.reduceBEq, Nat.reduceGT, Nat.reduceLT, Int.toNat_zero, Nat.reduceLeDiff, Int.reduceEq, Int.reduceLT, Int.reduceLE, hP, hΓ, hL, hfin, ↓tm_get, String.reduceEq, not_false_eq_true, if_true, Rd.sto, Rd.sill, Rd.to_b, Rd.to_at])
    rw [show tookM r n true = (true, r.to n) by rw [tookM, if_neg (by omega)]; rfl]
    exact Into.sameA
theorem con49 {Γ : Env} (h : EnvOk Tryz.prog Γ)  : Con Tryz.prog 15 S49 :=
  heapE_con h (fn := Tryz.f15) (by kernel_rfl) rfl (by kernel_rfl) inj49 fun ⟨r, n, k⟩ h => body49 Γ r n k
theorem valR_b (x : Option (Nat × Nat)) : 0 ≤ valR x ∧ valR x < 4294967296 := by
  unfold valR
  split
  · split <;> omega
  · omega
def numT (r : Rd) (most : Int) : Bool × Rd := tookM r (objNumbersDone.nextR r.at_ (rawU r.b r.at_)) (okR (rawU r.b r.at_) && decide (valR (rawU r.b r.at_) ≤ most))
def numM (r : Rd) (most : Int) : Int × Rd := (if (numT r most).1 then valR (rawU r.b r.at_) else 0, (numT r most).2)
def e90 : (Rd) × (Int) → List AV × Heap := fun (r, m) => ([.ref 0 0 0, .int .u32 m], [.row r.c 3 0])
def p90 : (Rd) × (Int) → Prop := fun (r, m) => r.ok
def r90 : (Rd) × (Int) → AV := fun (r, m) => .int .i64 (numM r m).1
def g90 : (Rd) × (Int) → Heap := fun (r, m) => [.row (numM r m).2.c 3 0]
theorem inj90 : ∀ a b, e90 a = e90 b → a = b := by
  rintro ⟨r, m⟩ ⟨r', m'⟩ h
  simp only [e90, mi_iff, ms_iff, mb_iff, my_iff, rc_iff, Prod.mk.injEq, List.cons.injEq, AObj.row.injEq, AV.int.injEq, AV.str.injEq, AV.bool.injEq, AV.sl.injEq, AV.agg.injEq, AV.ip.injEq, AV.fn.injEq, AV.ifc.injEq, AV.mpr.injEq, AV.msl.injEq, AV.ref.injEq, Int.natCast_inj, and_true, true_and] at h
  simp_all only
noncomputable def S90 : FSpec := heapE false e90 p90 r90 g90
theorem ps90 (r : (Rd)) (m : (Int)) : pselK e90 p90 ([.ref 0 0 0, .int .u32 m], [.row r.c 3 0]) = (r.ok) := pselK_at inj90 p90 (r, m)
theorem rs90 (r : (Rd)) (m : (Int)) : rselK e90 r90 .any ([.ref 0 0 0, .int .u32 m], [.row r.c 3 0]) = (.int .i64 (numM r m).1) := rselK_at inj90 r90 .any (r, m)
theorem hs90 (r : (Rd)) (m : (Int)) : rselK e90 g90 [] ([.ref 0 0 0, .int .u32 m], [.row r.c 3 0]) = ([.row (numM r m).2.c 3 0]) := rselK_at inj90 g90 [] (r, m)
attribute [push_cast] S90 ps90 rs90 hs90
theorem body90 (Γ : Env) (h10 : Γ 52 = some uintS) (h49 : Γ 15 = some S49) (r : Rd) (m : Int) (hr : r.ok) : BodyOk Tryz.prog Γ Tryz.f45 [.ref 0 0 0, .int .u32 m] [.row r.c 3 0] (.int .i64 (numM r m).1) [.row (numM r m).2.c 3 0] := by
  have hl := hr.len
  have hB : (objNumbersDone.BIG : Nat) = 140737488355328 := rfl
  (intro X hP hΓ hL hfin; refine ⟨_, rfl, ?_⟩; rw [show Tryz.f45.ntmps = 33 from rfl]; rw [show Tryz.f45.results.toList = [.tmp 4] from rfl] at hfin; apply holds_of_ex X 400; simp (maxSteps := 1000000) only [push_cast, reduceCtorEq, Nat.reduceAdd, Nat.reduceMul, Nat.reduceSub, Nat.reduceBEq, Nat.reduceGT, Nat.reduceLT, Int.toNat_zero, Nat.reduceLeDiff, Int.reduceEq, Int.reduceLT, Int.reduceLE, hP, hΓ, hL, hfin, ↓tm_get, String.reduceEq, not_false_eq_true, if_true, Rd.sto, Rd.sill, Rd.to_b, Rd.to_at, h10, h49])
  (refine Holds.drawnQ (by rw [hP]; kernel_rfl) (by kernel_rfl) ?_; simp (maxSteps := 1000000) only [push_cast, reduceCtorEq, Nat.reduceAdd, Nat.reduceMul, Nat.reduceSub, Nat.reduceBEq, Nat.reduceGT, Nat.reduceLT, Int.toNat_zero, Nat.reduceLeDiff, Int.reduceEq, Int.reduceLT, Int.reduceLE, hP, hΓ, hL, hfin, ↓tm_get, String.reduceEq, not_false_eq_true, if_true, Rd.sto, Rd.sill, Rd.to_b, Rd.to_at, h10, h49])
  refine ⟨⟨own_row _, by rw [hB]; omega⟩, ?_⟩
  ((with_reducible refine exB_split (fun h => ?_) (fun h => ?_)) <;> (try simp only [decide_eq_true_eq, decide_eq_false_iff_not, Bool.and_eq_true, Bool.or_eq_true, Bool.and_eq_false_iff, Bool.or_eq_false_iff, Bool.not_eq_true', Bool.not_eq_false', Bool.not_eq_true, Bool.not_eq_false, Int.not_lt, Int.not_le, beq_iff_eq, beq_eq_false_iff_ne, ne_eq, win_t, win_f] at h))
  · ((first | with_reducible refine holds_of_ex X 400 _ _ _ ?_ | skip); simp (maxSteps := 1000000) only [push_cast, reduceCtorEq, Nat.reduceAdd, Nat.reduceMul, Nat.reduceSub, Nat.reduceBEq, Nat.reduceGT, Nat.reduceLT, Int.toNat_zero, Nat.reduceLeDiff, Int.reduceEq, Int.reduceLT, Int.reduceLE, hP, hΓ, hL, hfin, ↓tm_get, String.reduceEq, not_false_eq_true, if_true, Rd.sto, Rd.sill, Rd.to_b, Rd.to_at])
    rw [show numM r m = (0, (numT r m).2) by rw [numM, numT, if_neg (by simp [h])]]
    exact Into.sameA
  · have hv := valR_b (rawU r.b r.at_)
    ((first | with_reducible refine holds_of_ex X 400 _ _ _ ?_ | skip); simp (maxSteps := 1000000) only [push_cast, reduceCtorEq, Nat.reduceAdd, Nat.reduceMul, Nat.reduceSub, Nat.reduceBEq, Nat.reduceGT, Nat.reduceLT, Int.toNat_zero, Nat.reduceLeDiff, Int.reduceEq, Int.reduceLT, Int.reduceLE, hP, hΓ, hL, hfin, ↓tm_get, String.reduceEq, not_false_eq_true, if_true, Rd.sto, Rd.sill, Rd.to_b, Rd.to_at, wr_i64 (valR (rawU r.b r.at_)) (by constructor <;> omega)])
    rw [show numM r m = (valR (rawU r.b r.at_), (numT r m).2) by rw [numM, numT, if_pos h]]
    exact Into.sameA
theorem con90 {Γ : Env} (h : EnvOk Tryz.prog Γ) (h10 : Γ 52 = some uintS) (h49 : Γ 15 = some S49) : Con Tryz.prog 45 S90 :=
  heapE_con h (fn := Tryz.f45) (by kernel_rfl) rfl (by kernel_rfl) inj90 fun ⟨r, m⟩ h => body90 Γ h10 h49 r m h
/-- four bytes' number -/
def leN : Bytes → Nat
  | [] => 0
  | c :: r => c.toNat + 256 * leN r
theorem leN_lt : ∀ l : Bytes, leN l < 256 ^ l.length
  | [] => by simp [leN]
  | c :: r => by have := leN_lt r; have := c.toNat_lt; simp only [leN, List.length_cons, Nat.pow_succ]; omega
theorem leN_take (l : Bytes) (k : Nat) (h : k < l.length) : leN (l.take (k + 1)) = leN (l.take k) + (l.getD k 0).toNat * 256 ^ k := by
  induction l generalizing k with
  | nil => simp at h
  | cons c r ih =>
    cases k with
    | zero => simp [leN]
    | succ k =>
      have := ih k (by simpa using h)
      simp only [List.take_succ_cons, leN, this, List.getD_cons_succ, Nat.pow_succ]
      rw [Nat.mul_add, Nat.add_assoc, Nat.mul_comm (256 ^ k) 256, ← Nat.mul_assoc, ← Nat.mul_assoc, Nat.mul_comm 256 (r.getD k 0).toNat]
theorem leN_part (l : Bytes) (k : Nat) (h : k < l.length) (hk : k < 4) :
    ibits .or .u32 ↑(leN (l.take k)) (IntKind.u32.wrap (IntKind.u32.wrap ((l.getD k 0).toNat : Int) * 2 ^ (min (IntKind.i64.wrap (8 * (k : Int))).toNat IntKind.u32.bits))) = (leN (l.take (k + 1)) : Int) := by
  rw [leN_take l k h]
  have ha : leN (l.take k) < 256 ^ k := by have := leN_lt (l.take k); rwa [List.length_take, Nat.min_eq_left (by omega)] at this
  have hc := (l.getD k 0).toNat_lt
  generalize (l.getD k 0).toNat = c at hc
  generalize leN (l.take k) = acc at ha
  have hp : (256 : Nat) ^ k = 2 ^ (8 * k) := by rw [Nat.pow_mul]
  have hle : 2 ^ (8 * k) ≤ 2 ^ 24 := Nat.pow_le_pow_right (by omega) (by omega)
  have hw : IntKind.i64.wrap (8 * (k : Int)) = ((8 * k : Nat) : Int) := by rw [wr_i64 _ (by constructor <;> omega)]; simp
  have hmul : c * 2 ^ (8 * k) ≤ 255 * 2 ^ 24 := Nat.mul_le_mul (by omega) hle
  have w32 : ∀ n : Nat, n < 2 ^ 32 → IntKind.u32.wrap (n : Int) = (n : Int) := fun n hn => by simp [IntKind.wrap, IntKind.bits, IntKind.signed]; omega
  rw [w32 _ (by omega), hw, Int.toNat_natCast, show min (8 * k) IntKind.u32.bits = 8 * k by simp [IntKind.bits]; omega]
  rw [show (c : Int) * 2 ^ (8 * k) = ((c * 2 ^ (8 * k) : Nat) : Int) by simp]
  rw [w32 _ (by omega)]
  have e : ibits .or .u32 (acc : Int) ((c * 2 ^ (8 * k) : Nat) : Int) = ((acc ||| c * 2 ^ (8 * k) : Nat) : Int) := by
    show IntKind.u32.wrap (((BitVec.ofInt 32 (acc : Int) ||| BitVec.ofInt 32 ((c * 2 ^ (8 * k) : Nat) : Int)).toNat : Nat) : Int) = _
    rw [BitVec.toNat_or, BitVec.ofInt_natCast, BitVec.ofInt_natCast, BitVec.toNat_ofNat, BitVec.toNat_ofNat, Nat.mod_eq_of_lt (by omega), Nat.mod_eq_of_lt (by omega)]
    exact w32 _ (Nat.or_lt_two_pow (by omega) (by omega))
  rw [e, hp, Nat.or_comm, ← Nat.shiftLeft_eq, ← Nat.shiftLeft_add_eq_or_of_lt (by omega), Nat.add_comm]
def e74 : (Bytes) × (Nat) → List AV := fun (l, n) => [.sl (l.map byteAV) n]
def p74 : (Bytes) × (Nat) → Prop := fun (l, n) => n = l.length ∧ l.length = 4
def r74 : (Bytes) × (Nat) → AV := fun (l, n) => .int .u32 (leN l)
def g74 : (Bytes) × (Nat) → Heap := fun (l, n) => []
theorem inj74 : ∀ a b, e74 a = e74 b → a = b := by
  rintro ⟨l, n⟩ ⟨l', n'⟩ h
  simp only [e74, mi_iff, ms_iff, mb_iff, my_iff, rc_iff, List.cons.injEq, AV.int.injEq, AV.str.injEq, AV.bool.injEq, AV.sl.injEq, AV.agg.injEq, AV.ip.injEq, AV.fn.injEq, AV.ifc.injEq, AV.mpr.injEq, Int.natCast_inj, and_true, true_and] at h
  simp_all only
noncomputable def S74 : FSpec := funS e74 p74 r74 g74 true
theorem ps74 (l : (Bytes)) (n : (Nat)) : psel e74 p74 [.sl (l.map byteAV) n] = (n = l.length ∧ l.length = 4) := psel_at inj74 p74 (l, n)
theorem rs74 (l : (Bytes)) (n : (Nat)) : rsel e74 r74 .any [.sl (l.map byteAV) n] = (.int .u32 (leN l)) := rsel_at inj74 r74 .any (l, n)
theorem hs74 (l : (Bytes)) (n : (Nat)) : rsel e74 g74 [] [.sl (l.map byteAV) n] = ([]) := rsel_at inj74 g74 [] (l, n)
attribute [push_cast] S74 ps74 rs74 hs74
theorem body74 (Γ : Env) (l : Bytes) (hl : l.length = 4) : BodyOk Tryz.prog Γ Tryz.f29 (e74 (l, l.length)) [] (.int .u32 (leN l)) [] := by
  (intro X hP hΓ hL hfin; refine ⟨_, rfl, ?_⟩; rw [show Tryz.f29.ntmps = 22 from rfl]; rw [show Tryz.f29.results.toList = [.tmp 2] from rfl] at hfin; apply holds_of_ex X 400; simp (maxSteps := 1000000) only [push_cast, reduceCtorEq, Nat.reduceAdd, Nat.reduceMul, Nat.reduceSub, Nat.reduceBEq, Nat.reduceGT, Nat.reduceLT, Int.toNat_zero, Nat.reduceLeDiff, Int.reduceEq, Int.reduceLT, Int.reduceLE, hP, hΓ, hL, hfin, ↓tm_get, String.reduceEq, not_false_eq_true, if_true, Rd.sto, Rd.sill, Rd.to_b, Rd.to_at, e74])
  refine Holds.loopM (ι := {k : Nat // k ≤ l.length}) [true, false, true, false, false, false, true, false, false, false, false, false, false, false, false, false, false, false, false, false, false, false] (fun i => [(3, .int .u32 (leN (l.take i.1))), (7, .int .i64 i.1)]) (fun i => []) (fun i => l.length - i.1) ⟨0, Nat.zero_le _⟩ ?_ ?_
  · (rw [hL]; simp only [push_cast, Int.natCast_zero, List.take_zero, leN]; exact Into.sameA)
  rintro ⟨k, hk⟩
  ((first | with_reducible refine holds_of_ex X 400 _ _ _ ?_ | skip); simp (maxSteps := 1000000) only [push_cast, reduceCtorEq, Nat.reduceAdd, Nat.reduceMul, Nat.reduceSub, Nat.reduceBEq, Nat.reduceGT, Nat.reduceLT, Int.toNat_zero, Nat.reduceLeDiff, Int.reduceEq, Int.reduceLT, Int.reduceLE, hP, hΓ, hL, hfin, ↓tm_get, String.reduceEq, not_false_eq_true, if_true, Rd.sto, Rd.sill, Rd.to_b, Rd.to_at])
  ((with_reducible refine exB_split (fun h => ?_) (fun h => ?_)) <;> (try simp only [decide_eq_true_eq, decide_eq_false_iff_not, Bool.and_eq_true, Bool.or_eq_true, Bool.and_eq_false_iff, Bool.or_eq_false_iff, Bool.not_eq_true', Bool.not_eq_false', Bool.not_eq_true, Bool.not_eq_false, Int.not_lt, Int.not_le, beq_iff_eq, beq_eq_false_iff_ne, ne_eq, win_t, win_f] at h))
  · have hk' : k < l.length := by omega
    ((first | with_reducible refine holds_of_ex X 400 _ _ _ ?_ | skip); simp (maxSteps := 1000000) only [push_cast, reduceCtorEq, Nat.reduceAdd, Nat.reduceMul, Nat.reduceSub, Nat.reduceBEq, Nat.reduceGT, Nat.reduceLT, Int.toNat_zero, Nat.reduceLeDiff, Int.reduceEq, Int.reduceLT, Int.reduceLE, hP, hΓ, hL, hfin, ↓tm_get, String.reduceEq, not_false_eq_true, if_true, Rd.sto, Rd.sill, Rd.to_b, Rd.to_at, hk', leN_part l k hk' (by omega), wr_i64 ((k : Int) + 1) (by constructor <;> omega)])
    refine ⟨h, by omega, by rw [wr_i64 _ (by constructor <;> omega)]; omega, ?_⟩
    (refine ⟨⟨k + 1, hk'⟩, by (try simp only [List.length_cons, List.length_append, List.length_nil]); omega, ?_⟩; (try rw [hL]); (try simp only [push_cast, Int.natCast_zero]); first | (exact Into.sameA) | (exact Into.keep0A) | (exact Into.keep1A) | (exact Into.keep2A) | (exact Into.keep3A))
  ((first | with_reducible refine holds_of_ex X 400 _ _ _ ?_ | skip); simp (maxSteps := 1000000) only [push_cast, reduceCtorEq, Nat.reduceAdd, Nat.reduceMul, Nat.reduceSub, Nat.reduceBEq, Nat.reduceGT, Nat.reduceLT, Int.toNat_zero, Nat.reduceLeDiff, Int.reduceEq, Int.reduceLT, Int.reduceLE, hP, hΓ, hL, hfin, ↓tm_get, String.reduceEq, not_false_eq_true, if_true, Rd.sto, Rd.sill, Rd.to_b, Rd.to_at])
  obtain rfl : k = l.length := by omega
  rw [List.take_length]
  exact Into.sameA
theorem con74 {Γ : Env} (h : EnvOk Tryz.prog Γ)  : Con Tryz.prog 29 S74 :=
  funS_con h (fn := Tryz.f29) (by kernel_rfl) rfl (by kernel_rfl) inj74 (by first | (intro h; cases h; done) | exact fun _ _ => rfl) fun ⟨l, n⟩ h => by obtain ⟨rfl, h⟩ := h; exact body74 Γ l h
def getK (l : Bytes) (a : Int) : Bool := decide (0 ≤ a ∧ a + 4 ≤ l.length)
def getV (l : Bytes) (a : Int) : Int := if getK l a then leN ((l.take (a + 4).toNat).drop a.toNat) else 0
def e47 : (Bytes) × (Nat) × (Int) → List AV := fun (l, n, a) => [.sl (l.map byteAV) n, .int .i64 a]
def p47 : (Bytes) × (Nat) × (Int) → Prop := fun (l, n, a) => n = l.length ∧ l.length ≤ 4194304
def r47 : (Bytes) × (Nat) × (Int) → AV := fun (l, n, a) => .tup [.int .u32 (getV l a), .bool (getK l a)]
def g47 : (Bytes) × (Nat) × (Int) → Heap := fun (l, n, a) => []
theorem inj47 : ∀ a b, e47 a = e47 b → a = b := by
  rintro ⟨l, n, a⟩ ⟨l', n', a'⟩ h
  simp only [e47, mi_iff, ms_iff, mb_iff, my_iff, rc_iff, List.cons.injEq, AV.int.injEq, AV.str.injEq, AV.bool.injEq, AV.sl.injEq, AV.agg.injEq, AV.ip.injEq, AV.fn.injEq, AV.ifc.injEq, AV.mpr.injEq, Int.natCast_inj, and_true, true_and] at h
  simp_all only
noncomputable def S47 : FSpec := funS e47 p47 r47 g47 true
theorem ps47 (l : (Bytes)) (n : (Nat)) (a : (Int)) : psel e47 p47 [.sl (l.map byteAV) n, .int .i64 a] = (n = l.length ∧ l.length ≤ 4194304) := psel_at inj47 p47 (l, n, a)
theorem rs47 (l : (Bytes)) (n : (Nat)) (a : (Int)) : rsel e47 r47 .any [.sl (l.map byteAV) n, .int .i64 a] = (.tup [.int .u32 (getV l a), .bool (getK l a)]) := rsel_at inj47 r47 .any (l, n, a)
theorem hs47 (l : (Bytes)) (n : (Nat)) (a : (Int)) : rsel e47 g47 [] [.sl (l.map byteAV) n, .int .i64 a] = ([]) := rsel_at inj47 g47 [] (l, n, a)
attribute [push_cast] S47 ps47 rs47 hs47
theorem body47 (Γ : Env) (h74 : Γ 29 = some S74) (l : Bytes) (a : Int) (hl : l.length ≤ 4194304) : BodyOk Tryz.prog Γ Tryz.f12 (e47 (l, l.length, a)) [] (.tup [.int .u32 (getV l a), .bool (getK l a)]) [] := by
  (intro X hP hΓ hL hfin; refine ⟨_, rfl, ?_⟩; rw [show Tryz.f12.ntmps = 21 from rfl]; rw [show Tryz.f12.results.toList = [.tmp 4, .tmp 5] from rfl] at hfin; apply holds_of_ex X 400; simp (maxSteps := 1000000) only [push_cast, reduceCtorEq, Nat.reduceAdd, Nat.reduceMul, Nat.reduceSub, Nat.reduceBEq, Nat.reduceGT, Nat.reduceLT, Int.toNat_zero, Nat.reduceLeDiff, Int.reduceEq, Int.reduceLT, Int.reduceLE, hP, hΓ, hL, hfin, ↓tm_get, String.reduceEq, not_false_eq_true, if_true, Rd.sto, Rd.sill, Rd.to_b, Rd.to_at, e47, h74, wr_i64 ((l.length : Int) - 4) (by constructor <;> omega)])
  ((with_reducible refine exB_split (fun h => ?_) (fun h => ?_)) <;> (try simp only [decide_eq_true_eq, decide_eq_false_iff_not, Bool.and_eq_true, Bool.or_eq_true, Bool.and_eq_false_iff, Bool.or_eq_false_iff, Bool.not_eq_true', Bool.not_eq_false', Bool.not_eq_true, Bool.not_eq_false, Int.not_lt, Int.not_le, beq_iff_eq, beq_eq_false_iff_ne, ne_eq, win_t, win_f] at h))
  · have hk : getK l a = false := by simp only [getK, decide_eq_false_iff_not]; omega
    ((first | with_reducible refine holds_of_ex X 400 _ _ _ ?_ | skip); simp (maxSteps := 1000000) only [push_cast, reduceCtorEq, Nat.reduceAdd, Nat.reduceMul, Nat.reduceSub, Nat.reduceBEq, Nat.reduceGT, Nat.reduceLT, Int.toNat_zero, Nat.reduceLeDiff, Int.reduceEq, Int.reduceLT, Int.reduceLE, hP, hΓ, hL, hfin, ↓tm_get, String.reduceEq, not_false_eq_true, if_true, Rd.sto, Rd.sill, Rd.to_b, Rd.to_at])
    rw [show getV l a = 0 by rw [getV, hk]; rfl, hk]
    exact Into.sameA
  have hk : getK l a = true := by simp only [getK, decide_eq_true_eq]; omega
  ((first | with_reducible refine holds_of_ex X 400 _ _ _ ?_ | skip); simp (maxSteps := 1000000) only [push_cast, reduceCtorEq, Nat.reduceAdd, Nat.reduceMul, Nat.reduceSub, Nat.reduceBEq, Nat.reduceGT, Nat.reduceLT, Int.toNat_zero, Nat.reduceLeDiff, Int.reduceEq, Int.reduceLT, Int.reduceLE, hP, hΓ, hL, hfin, ↓tm_get, String.reduceEq, not_false_eq_true, if_true, Rd.sto, Rd.sill, Rd.to_b, Rd.to_at, h74, wr_i64 (a + 4) (by constructor <;> omega), ← List.map_take, ← List.map_drop])
  refine ⟨⟨by omega, by omega, by omega, by omega⟩, ⟨by omega, by omega⟩, ?_⟩
  rw [show getV l a = leN ((l.take (a + 4).toNat).drop a.toNat) by rw [getV, hk]; rfl, hk]
  exact Into.sameA
theorem con47 {Γ : Env} (h : EnvOk Tryz.prog Γ) (h74 : Γ 29 = some S74) : Con Tryz.prog 12 S47 :=
  funS_con h (fn := Tryz.f12) (by kernel_rfl) rfl (by kernel_rfl) inj47 (by first | (intro h; cases h; done) | exact fun _ _ => rfl) fun ⟨l, n, a⟩ h => by obtain ⟨rfl, h⟩ := h; exact body47 Γ h74 l a h
def textT (r : Rd) (most : Int) : Bool × Rd := tookM r (nextT r.b r.at_ most) (okT r.b r.at_ most)
def textM (r : Rd) (most : Int) : Bytes × Rd := (if (textT r most).1 then valT r.b r.at_ most else [], (textT r most).2)
def wordT (r : Rd) : Bool × Rd := tookM r (r.at_ + 4) (getK r.b r.at_)
def wordM (r : Rd) : Int × Rd := (if (wordT r).1 then getV r.b r.at_ else 0, (wordT r).2)
def byteT (r : Rd) (most : Int) : Bool × Rd := tookM r (r.at_ + 1) (decide (r.at_ < r.b.length) && decide (((r.b.getD r.at_.toNat 0).toNat : Int) ≤ most))
def byteM (r : Rd) (most : Int) : Int × Rd := (if (byteT r most).1 then ((r.b.getD r.at_.toNat 0).toNat : Int) else 0, (byteT r most).2)
def e82 : (Rd) → List AV × Heap := fun r => ([.ref 0 0 0], [.row r.c 3 0])
def p82 : (Rd) → Prop := fun r => r.ok
def r82 : (Rd) → AV := fun r => .int .i64 (numM r 4294967295).1
def g82 : (Rd) → Heap := fun r => [.row (numM r 4294967295).2.c 3 0]
theorem inj82 : ∀ a b, e82 a = e82 b → a = b := by
  rintro r r' h
  simp only [e82, mi_iff, ms_iff, mb_iff, my_iff, rc_iff, Prod.mk.injEq, List.cons.injEq, AObj.row.injEq, AV.int.injEq, AV.str.injEq, AV.bool.injEq, AV.sl.injEq, AV.agg.injEq, AV.ip.injEq, AV.fn.injEq, AV.ifc.injEq, AV.mpr.injEq, AV.msl.injEq, AV.ref.injEq, Int.natCast_inj, and_true, true_and] at h
  simp_all only
noncomputable def S82 : FSpec := heapE false e82 p82 r82 g82
theorem ps82 (r : (Rd)) : pselK e82 p82 ([.ref 0 0 0], [.row r.c 3 0]) = (r.ok) := pselK_at inj82 p82 r
theorem rs82 (r : (Rd)) : rselK e82 r82 .any ([.ref 0 0 0], [.row r.c 3 0]) = (.int .i64 (numM r 4294967295).1) := rselK_at inj82 r82 .any r
theorem hs82 (r : (Rd)) : rselK e82 g82 [] ([.ref 0 0 0], [.row r.c 3 0]) = ([.row (numM r 4294967295).2.c 3 0]) := rselK_at inj82 g82 [] r
attribute [push_cast] S82 ps82 rs82 hs82
theorem body82 (Γ : Env) (h90 : Γ 45 = some S90) (r : Rd) (hr : r.ok) : BodyOk Tryz.prog Γ Tryz.f37 [.ref 0 0 0] [.row r.c 3 0] (.int .i64 (numM r 4294967295).1) [.row (numM r 4294967295).2.c 3 0] := by
  (intro X hP hΓ hL hfin; refine ⟨_, rfl, ?_⟩; rw [show Tryz.f37.ntmps = 5 from rfl]; rw [show Tryz.f37.results.toList = [.tmp 2] from rfl] at hfin; apply holds_of_ex X 400; simp (maxSteps := 1000000) only [push_cast, reduceCtorEq, Nat.reduceAdd, Nat.reduceMul, Nat.reduceSub, Nat.reduceBEq, Nat.reduceGT, Nat.reduceLT, Int.toNat_zero, Nat.reduceLeDiff, Int.reduceEq, Int.reduceLT, Int.reduceLE, hP, hΓ, hL, hfin, ↓tm_get, String.reduceEq, not_false_eq_true, if_true, Rd.sto, Rd.sill, Rd.to_b, Rd.to_at, h90])
  refine ⟨hr, ?_⟩
  exact Into.sameA
theorem con82 {Γ : Env} (h : EnvOk Tryz.prog Γ) (h90 : Γ 45 = some S90) : Con Tryz.prog 37 S82 :=
  heapE_con h (fn := Tryz.f37) (by kernel_rfl) rfl (by kernel_rfl) inj82 fun r h => body82 Γ h90 r h
def e75 : (Rd) × (Int) → List AV × Heap := fun (r, m) => ([.ref 0 0 0, .int .i64 m], [.row r.c 3 0])
def p75 : (Rd) × (Int) → Prop := fun (r, m) => r.ok ∧ 0 ≤ m ∧ m ≤ 100000
def r75 : (Rd) × (Int) → AV := fun (r, m) => .str (textM r m).1
def g75 : (Rd) × (Int) → Heap := fun (r, m) => [.row (textM r m).2.c 3 0]
theorem inj75 : ∀ a b, e75 a = e75 b → a = b := by
  rintro ⟨r, m⟩ ⟨r', m'⟩ h
  simp only [e75, mi_iff, ms_iff, mb_iff, my_iff, rc_iff, Prod.mk.injEq, List.cons.injEq, AObj.row.injEq, AV.int.injEq, AV.str.injEq, AV.bool.injEq, AV.sl.injEq, AV.agg.injEq, AV.ip.injEq, AV.fn.injEq, AV.ifc.injEq, AV.mpr.injEq, AV.msl.injEq, AV.ref.injEq, Int.natCast_inj, and_true, true_and] at h
  simp_all only
noncomputable def S75 : FSpec := heapE false e75 p75 r75 g75
theorem ps75 (r : (Rd)) (m : (Int)) : pselK e75 p75 ([.ref 0 0 0, .int .i64 m], [.row r.c 3 0]) = (r.ok ∧ 0 ≤ m ∧ m ≤ 100000) := pselK_at inj75 p75 (r, m)
theorem rs75 (r : (Rd)) (m : (Int)) : rselK e75 r75 .any ([.ref 0 0 0, .int .i64 m], [.row r.c 3 0]) = (.str (textM r m).1) := rselK_at inj75 r75 .any (r, m)
theorem hs75 (r : (Rd)) (m : (Int)) : rselK e75 g75 [] ([.ref 0 0 0, .int .i64 m], [.row r.c 3 0]) = ([.row (textM r m).2.c 3 0]) := rselK_at inj75 g75 [] (r, m)
attribute [push_cast] S75 ps75 rs75 hs75
theorem body75 (Γ : Env) (h12 : Γ 51 = some textAtS) (h49 : Γ 15 = some S49) (r : Rd) (m : Int) (hr : r.ok) (hm : 0 ≤ m ∧ m ≤ 100000) : BodyOk Tryz.prog Γ Tryz.f30 [.ref 0 0 0, .int .i64 m] [.row r.c 3 0] (.str (textM r m).1) [.row (textM r m).2.c 3 0] := by
  have hl := hr.len
  have hB : (objNumbersDone.BIG : Nat) = 140737488355328 := rfl
  (intro X hP hΓ hL hfin; refine ⟨_, rfl, ?_⟩; rw [show Tryz.f30.ntmps = 28 from rfl]; rw [show Tryz.f30.results.toList = [.tmp 4] from rfl] at hfin; apply holds_of_ex X 400; simp (maxSteps := 1000000) only [push_cast, reduceCtorEq, Nat.reduceAdd, Nat.reduceMul, Nat.reduceSub, Nat.reduceBEq, Nat.reduceGT, Nat.reduceLT, Int.toNat_zero, Nat.reduceLeDiff, Int.reduceEq, Int.reduceLT, Int.reduceLE, hP, hΓ, hL, hfin, ↓tm_get, String.reduceEq, not_false_eq_true, if_true, Rd.sto, Rd.sill, Rd.to_b, Rd.to_at, h12, h49])
  (refine Holds.drawnQ (by rw [hP]; kernel_rfl) (by kernel_rfl) ?_; simp (maxSteps := 1000000) only [push_cast, reduceCtorEq, Nat.reduceAdd, Nat.reduceMul, Nat.reduceSub, Nat.reduceBEq, Nat.reduceGT, Nat.reduceLT, Int.toNat_zero, Nat.reduceLeDiff, Int.reduceEq, Int.reduceLT, Int.reduceLE, hP, hΓ, hL, hfin, ↓tm_get, String.reduceEq, not_false_eq_true, if_true, Rd.sto, Rd.sill, Rd.to_b, Rd.to_at, h12, h49])
  refine ⟨⟨own_row _, by rw [hB]; omega, by omega, by omega⟩, ?_⟩
  ((with_reducible refine exB_split (fun h => ?_) (fun h => ?_)) <;> (try simp only [decide_eq_true_eq, decide_eq_false_iff_not, Bool.and_eq_true, Bool.or_eq_true, Bool.and_eq_false_iff, Bool.or_eq_false_iff, Bool.not_eq_true', Bool.not_eq_false', Bool.not_eq_true, Bool.not_eq_false, Int.not_lt, Int.not_le, beq_iff_eq, beq_eq_false_iff_ne, ne_eq, win_t, win_f] at h))
  · ((first | with_reducible refine holds_of_ex X 400 _ _ _ ?_ | skip); simp (maxSteps := 1000000) only [push_cast, reduceCtorEq, Nat.reduceAdd, Nat.reduceMul, Nat.reduceSub, Nat.reduceBEq, Nat.reduceGT, Nat.reduceLT, Int.toNat_zero, Nat.reduceLeDiff, Int.reduceEq, Int.reduceLT, Int.reduceLE, hP, hΓ, hL, hfin, ↓tm_get, String.reduceEq, not_false_eq_true, if_true, Rd.sto, Rd.sill, Rd.to_b, Rd.to_at])
    rw [show textM r m = ([], (textT r m).2) by rw [textM, textT, if_neg (by simp [h])]]
    exact Into.sameA
  · ((first | with_reducible refine holds_of_ex X 400 _ _ _ ?_ | skip); simp (maxSteps := 1000000) only [push_cast, reduceCtorEq, Nat.reduceAdd, Nat.reduceMul, Nat.reduceSub, Nat.reduceBEq, Nat.reduceGT, Nat.reduceLT, Int.toNat_zero, Nat.reduceLeDiff, Int.reduceEq, Int.reduceLT, Int.reduceLE, hP, hΓ, hL, hfin, ↓tm_get, String.reduceEq, not_false_eq_true, if_true, Rd.sto, Rd.sill, Rd.to_b, Rd.to_at])
    rw [show textM r m = (valT r.b r.at_ m, (textT r m).2) by rw [textM, textT, if_pos h]]
    exact Into.sameA
theorem con75 {Γ : Env} (h : EnvOk Tryz.prog Γ) (h12 : Γ 51 = some textAtS) (h49 : Γ 15 = some S49) : Con Tryz.prog 30 S75 :=
  heapE_con h (fn := Tryz.f30) (by kernel_rfl) rfl (by kernel_rfl) inj75 fun ⟨r, m⟩ h => body75 Γ h12 h49 r m h.1 h.2
def e76 : (Rd) → List AV × Heap := fun r => ([.ref 0 0 0], [.row r.c 3 0])
def p76 : (Rd) → Prop := fun r => r.ok
def r76 : (Rd) → AV := fun r => .int .u32 (wordM r).1
def g76 : (Rd) → Heap := fun r => [.row (wordM r).2.c 3 0]
theorem inj76 : ∀ a b, e76 a = e76 b → a = b := by
  rintro r r' h
  simp only [e76, mi_iff, ms_iff, mb_iff, my_iff, rc_iff, Prod.mk.injEq, List.cons.injEq, AObj.row.injEq, AV.int.injEq, AV.str.injEq, AV.bool.injEq, AV.sl.injEq, AV.agg.injEq, AV.ip.injEq, AV.fn.injEq, AV.ifc.injEq, AV.mpr.injEq, AV.msl.injEq, AV.ref.injEq, Int.natCast_inj, and_true, true_and] at h
  simp_all only
noncomputable def S76 : FSpec := heapE false e76 p76 r76 g76
theorem ps76 (r : (Rd)) : pselK e76 p76 ([.ref 0 0 0], [.row r.c 3 0]) = (r.ok) := pselK_at inj76 p76 r
theorem rs76 (r : (Rd)) : rselK e76 r76 .any ([.ref 0 0 0], [.row r.c 3 0]) = (.int .u32 (wordM r).1) := rselK_at inj76 r76 .any r
theorem hs76 (r : (Rd)) : rselK e76 g76 [] ([.ref 0 0 0], [.row r.c 3 0]) = ([.row (wordM r).2.c 3 0]) := rselK_at inj76 g76 [] r
attribute [push_cast] S76 ps76 rs76 hs76
theorem body76 (Γ : Env) (h47 : Γ 12 = some S47) (h49 : Γ 15 = some S49) (r : Rd) (hr : r.ok) : BodyOk Tryz.prog Γ Tryz.f31 [.ref 0 0 0] [.row r.c 3 0] (.int .u32 (wordM r).1) [.row (wordM r).2.c 3 0] := by
  have hl := hr.len; have h1 := hr.lo; have h2 := hr.hi
  (intro X hP hΓ hL hfin; refine ⟨_, rfl, ?_⟩; rw [show Tryz.f31.ntmps = 27 from rfl]; rw [show Tryz.f31.results.toList = [.tmp 2] from rfl] at hfin; apply holds_of_ex X 400; simp (maxSteps := 1000000) only [push_cast, reduceCtorEq, Nat.reduceAdd, Nat.reduceMul, Nat.reduceSub, Nat.reduceBEq, Nat.reduceGT, Nat.reduceLT, Int.toNat_zero, Nat.reduceLeDiff, Int.reduceEq, Int.reduceLT, Int.reduceLE, hP, hΓ, hL, hfin, ↓tm_get, String.reduceEq, not_false_eq_true, if_true, Rd.sto, Rd.sill, Rd.to_b, Rd.to_at, h47, h49])
  (refine Holds.drawnQ (by rw [hP]; kernel_rfl) (by kernel_rfl) ?_; simp (maxSteps := 1000000) only [push_cast, reduceCtorEq, Nat.reduceAdd, Nat.reduceMul, Nat.reduceSub, Nat.reduceBEq, Nat.reduceGT, Nat.reduceLT, Int.toNat_zero, Nat.reduceLeDiff, Int.reduceEq, Int.reduceLT, Int.reduceLE, hP, hΓ, hL, hfin, ↓tm_get, String.reduceEq, not_false_eq_true, if_true, Rd.sto, Rd.sill, Rd.to_b, Rd.to_at, h47, h49, wr_i64 (r.at_ + 4) (by constructor <;> omega)])
  refine ⟨by omega, ?_⟩
  ((with_reducible refine exB_split (fun h => ?_) (fun h => ?_)) <;> (try simp only [decide_eq_true_eq, decide_eq_false_iff_not, Bool.and_eq_true, Bool.or_eq_true, Bool.and_eq_false_iff, Bool.or_eq_false_iff, Bool.not_eq_true', Bool.not_eq_false', Bool.not_eq_true, Bool.not_eq_false, Int.not_lt, Int.not_le, beq_iff_eq, beq_eq_false_iff_ne, ne_eq, win_t, win_f] at h))
  · ((first | with_reducible refine holds_of_ex X 400 _ _ _ ?_ | skip); simp (maxSteps := 1000000) only [push_cast, reduceCtorEq, Nat.reduceAdd, Nat.reduceMul, Nat.reduceSub, Nat.reduceBEq, Nat.reduceGT, Nat.reduceLT, Int.toNat_zero, Nat.reduceLeDiff, Int.reduceEq, Int.reduceLT, Int.reduceLE, hP, hΓ, hL, hfin, ↓tm_get, String.reduceEq, not_false_eq_true, if_true, Rd.sto, Rd.sill, Rd.to_b, Rd.to_at])
    rw [show wordM r = (0, (wordT r).2) by rw [wordM, wordT, if_neg (by simp [h])]]
    exact Into.sameA
  · ((first | with_reducible refine holds_of_ex X 400 _ _ _ ?_ | skip); simp (maxSteps := 1000000) only [push_cast, reduceCtorEq, Nat.reduceAdd, Nat.reduceMul, Nat.reduceSub, Nat.reduceBEq, Nat.reduceGT, Nat.reduceLT, Int.toNat_zero, Nat.reduceLeDiff, Int.reduceEq, Int.reduceLT, Int.reduceLE, hP, hΓ, hL, hfin, ↓tm_get, String.reduceEq, not_false_eq_true, if_true, Rd.sto, Rd.sill, Rd.to_b, Rd.to_at])
    rw [show wordM r = (getV r.b r.at_, (wordT r).2) by rw [wordM, wordT, if_pos h]]
    exact Into.sameA
theorem con76 {Γ : Env} (h : EnvOk Tryz.prog Γ) (h47 : Γ 12 = some S47) (h49 : Γ 15 = some S49) : Con Tryz.prog 31 S76 :=
  heapE_con h (fn := Tryz.f31) (by kernel_rfl) rfl (by kernel_rfl) inj76 fun r h => body76 Γ h47 h49 r h
def e83 : (Rd) × (Int) → List AV × Heap := fun (r, m) => ([.ref 0 0 0, .int .u8 m], [.row r.c 3 0])
def p83 : (Rd) × (Int) → Prop := fun (r, m) => r.ok
def r83 : (Rd) × (Int) → AV := fun (r, m) => .int .u8 (byteM r m).1
def g83 : (Rd) × (Int) → Heap := fun (r, m) => [.row (byteM r m).2.c 3 0]
theorem inj83 : ∀ a b, e83 a = e83 b → a = b := by
  rintro ⟨r, m⟩ ⟨r', m'⟩ h
  simp only [e83, mi_iff, ms_iff, mb_iff, my_iff, rc_iff, Prod.mk.injEq, List.cons.injEq, AObj.row.injEq, AV.int.injEq, AV.str.injEq, AV.bool.injEq, AV.sl.injEq, AV.agg.injEq, AV.ip.injEq, AV.fn.injEq, AV.ifc.injEq, AV.mpr.injEq, AV.msl.injEq, AV.ref.injEq, Int.natCast_inj, and_true, true_and] at h
  simp_all only
noncomputable def S83 : FSpec := heapE false e83 p83 r83 g83
theorem ps83 (r : (Rd)) (m : (Int)) : pselK e83 p83 ([.ref 0 0 0, .int .u8 m], [.row r.c 3 0]) = (r.ok) := pselK_at inj83 p83 (r, m)
theorem rs83 (r : (Rd)) (m : (Int)) : rselK e83 r83 .any ([.ref 0 0 0, .int .u8 m], [.row r.c 3 0]) = (.int .u8 (byteM r m).1) := rselK_at inj83 r83 .any (r, m)
theorem hs83 (r : (Rd)) (m : (Int)) : rselK e83 g83 [] ([.ref 0 0 0, .int .u8 m], [.row r.c 3 0]) = ([.row (byteM r m).2.c 3 0]) := rselK_at inj83 g83 [] (r, m)
attribute [push_cast] S83 ps83 rs83 hs83
theorem body83 (Γ : Env) (h49 : Γ 15 = some S49) (r : Rd) (m : Int) (hr : r.ok) : BodyOk Tryz.prog Γ Tryz.f38 [.ref 0 0 0, .int .u8 m] [.row r.c 3 0] (.int .u8 (byteM r m).1) [.row (byteM r m).2.c 3 0] := by
  have hl := hr.len; have h1 := hr.lo; have h2 := hr.hi
  (intro X hP hΓ hL hfin; refine ⟨_, rfl, ?_⟩; rw [show Tryz.f38.ntmps = 48 from rfl]; rw [show Tryz.f38.results.toList = [.tmp 4] from rfl] at hfin; apply holds_of_ex X 400; simp (maxSteps := 1000000) only [push_cast, reduceCtorEq, Nat.reduceAdd, Nat.reduceMul, Nat.reduceSub, Nat.reduceBEq, Nat.reduceGT, Nat.reduceLT, Int.toNat_zero, Nat.reduceLeDiff, Int.reduceEq, Int.reduceLT, Int.reduceLE, hP, hΓ, hL, hfin, ↓tm_get, String.reduceEq, not_false_eq_true, if_true, Rd.sto, Rd.sill, Rd.to_b, Rd.to_at, h49])
  (refine Holds.drawnE (patH [.row 3 0]) [0, 1, 2, 3, 4, 5, 6, 7, 8, 9, 10, 11, 12, 13, 14, 15, 16, 17, 18, 19, 20, 21, 22, 23, 24, 25, 26, 27, 28, 29, 30, 31] [] [] false (by rw [hP]; kernel_rfl) (by kernel_rfl) (by kernel_rfl) (by kernel_rfl) (by first | exact .inl rfl | exact .inr fun _ _ h => patH_app _ _ h) (by first | (simp only [push_cast]; done) | (simp only [push_cast, and_true]; omega)) ?_; simp (maxSteps := 1000000) only [↓reduceIte, Option.getD_some, push_cast, reduceCtorEq, Nat.reduceAdd, Nat.reduceMul, Nat.reduceSub, Nat.reduceBEq, Nat.reduceGT, Nat.reduceLT, Int.toNat_zero, Nat.reduceLeDiff, Int.reduceEq, Int.reduceLT, Int.reduceLE, hP, hΓ, hL, hfin, ↓tm_get, String.reduceEq, not_false_eq_true, if_true, Rd.sto, Rd.sill, Rd.to_b, Rd.to_at, h49, wr_i64 (r.at_ + 1) (by constructor <;> omega)])
  refine ⟨fun h => ?_, fun h => ?_, ?_⟩
  · have := of_decide_eq_true h; omega
  · have := of_decide_eq_true h; omega
  ((first | with_reducible refine holds_of_ex X 400 _ _ _ ?_ | skip); simp (maxSteps := 1000000) only [push_cast, reduceCtorEq, Nat.reduceAdd, Nat.reduceMul, Nat.reduceSub, Nat.reduceBEq, Nat.reduceGT, Nat.reduceLT, Int.toNat_zero, Nat.reduceLeDiff, Int.reduceEq, Int.reduceLT, Int.reduceLE, hP, hΓ, hL, hfin, ↓tm_get, String.reduceEq, not_false_eq_true, if_true, Rd.sto, Rd.sill, Rd.to_b, Rd.to_at])
  ((with_reducible refine exB_split (fun h => ?_) (fun h => ?_)) <;> (try simp only [decide_eq_true_eq, decide_eq_false_iff_not, Bool.and_eq_true, Bool.or_eq_true, Bool.and_eq_false_iff, Bool.or_eq_false_iff, Bool.not_eq_true', Bool.not_eq_false', Bool.not_eq_true, Bool.not_eq_false, Int.not_lt, Int.not_le, beq_iff_eq, beq_eq_false_iff_ne, ne_eq, win_t, win_f] at h))
  · ((first | with_reducible refine holds_of_ex X 400 _ _ _ ?_ | skip); simp (maxSteps := 1000000) only [push_cast, reduceCtorEq, Nat.reduceAdd, Nat.reduceMul, Nat.reduceSub, Nat.reduceBEq, Nat.reduceGT, Nat.reduceLT, Int.toNat_zero, Nat.reduceLeDiff, Int.reduceEq, Int.reduceLT, Int.reduceLE, hP, hΓ, hL, hfin, ↓tm_get, String.reduceEq, not_false_eq_true, if_true, Rd.sto, Rd.sill, Rd.to_b, Rd.to_at])
    rw [show byteM r m = (0, (byteT r m).2) by rw [byteM, byteT, if_neg (by rw [h]; exact Bool.false_ne_true)]]
    exact Into.sameA
  · have hb : byteM r m = (((r.b.getD r.at_.toNat 0).toNat : Int), (byteT r m).2) := by rw [byteM, byteT, if_pos h]
    obtain ⟨hk0, hk, ht⟩ := tookM_t h
    simp only [Bool.and_eq_true, decide_eq_true_eq] at hk
    rw [ht]
    (refine Holds.drawnQ (by rw [hP]; kernel_rfl) (by kernel_rfl) ?_; simp (maxSteps := 1000000) only [push_cast, reduceCtorEq, Nat.reduceAdd, Nat.reduceMul, Nat.reduceSub, Nat.reduceBEq, Nat.reduceGT, Nat.reduceLT, Int.toNat_zero, Nat.reduceLeDiff, Int.reduceEq, Int.reduceLT, Int.reduceLE, hP, hΓ, hL, hfin, ↓tm_get, String.reduceEq, not_false_eq_true, if_true, Rd.sto, Rd.sill, Rd.to_b, Rd.to_at, wr_i64 (r.at_ + 1 - 1) (by constructor <;> omega)])
    refine ⟨⟨by omega, by omega⟩, by omega, ?_⟩
    rw [show r.at_ + 1 - 1 = r.at_ by omega, hb, show (byteT r m).2 = r.to (r.at_ + 1) from ht]
    exact Into.sameA
/-- the state is kept in order -/
theorem num_ok {r : Rd} (hr : r.ok) (m : Int) : (numM r m).2.ok ∧ (numM r m).2.b = r.b := by
  refine tookM_ok hr fun hk => ?_
  simp only [Bool.and_eq_true] at hk
  have h1 := hr.lo; have h2 := hr.hi
  have hk := hk.1
  unfold rawU at hk ⊢
  rw [if_pos ⟨h1, h2⟩] at hk ⊢
  cases hd : objNumbersDone.duR 0 0 (List.drop r.at_.toNat r.b) with
  | none => rw [hd] at hk; cases hk
  | some x =>
    obtain ⟨n, k⟩ := x
    rw [hd] at hk
    have := objNumbersDone.duR_len _ _ _ _ _ hd
    simp only [okR, decide_eq_true_eq] at hk
    simp only [objNumbersDone.nextR, if_pos hk]
    rw [List.length_drop] at this
    omega
theorem text_ok {r : Rd} (hr : r.ok) (m : Int) : (textM r m).2.ok ∧ (textM r m).2.b = r.b := by
  refine tookM_ok hr fun hk => ?_
  have h1 := hr.lo; have h2 := hr.hi
  rw [nextT, if_pos hk]
  simp only [okT, Bool.and_eq_true, decide_eq_true_eq] at hk
  have := valR_b (rawU r.b r.at_)
  obtain ⟨hk, _, _, h3⟩ := hk
  refine ⟨?_, h3⟩
  have : 0 ≤ objNumbersDone.nextR r.at_ (rawU r.b r.at_) := by
    unfold objNumbersDone.nextR
    split
    · split <;> omega
    · omega
  omega
theorem word_ok {r : Rd} (hr : r.ok) : (wordM r).2.ok ∧ (wordM r).2.b = r.b := by
  refine tookM_ok hr fun hk => ?_
  have h1 := hr.lo; have h2 := hr.hi
  simp only [getK, decide_eq_true_eq] at hk
  omega
theorem byte_ok {r : Rd} (hr : r.ok) (m : Int) : (byteM r m).2.ok ∧ (byteM r m).2.b = r.b := by
  refine tookM_ok hr fun hk => ?_
  have h1 := hr.lo; have h2 := hr.hi
  simp only [Bool.and_eq_true, decide_eq_true_eq] at hk
  omega
theorem con83 {Γ : Env} (h : EnvOk Tryz.prog Γ) (h49 : Γ 15 = some S49) : Con Tryz.prog 38 S83 :=
  heapE_con h (fn := Tryz.f38) (by kernel_rfl) rfl (by kernel_rfl) inj83 fun ⟨r, m⟩ h => body83 Γ h49 r m h
end Go.Proofs.YtmilngcgcolpbaaGreat.objDone
