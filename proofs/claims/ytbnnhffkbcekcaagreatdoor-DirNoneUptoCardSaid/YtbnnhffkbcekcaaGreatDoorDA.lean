/- Of disks: words of bytes. Conditions stand in each. -/
import Derived.Test.YtbnnhffkbcekcaaGreatDoorTy
import Derived.Test.YtbnnhffkbcekcaaGreatDoorEng22
import Derived.Test.YtbnnhffkbcekcaaGreatDoorEng24
import Derived.Test.YtbnnhffkbcekcaaGreatDoorUp
import Derived.Test.YtbnnhffkbcekcaaGreatDoorAr
import Derived.Test.YtbnnhffkbcekcaaGreatDoorEng31
import Derived.Test.YtbnnhffkbcekcaaGreatDoorEng30
import Derived.Test.YtbnnhffkbcekcaaGreatDoorEng23
import Derived.IntWalk
namespace Go.Proofs.YtbnnhffkbcekcaaGreatDoor.dirDone
open Go Go.Eng Go.Proofs
set_option linter.unusedVariables false
set_option linter.unusedSimpArgs false
set_option maxRecDepth 100000
set_option maxHeartbeats 4000000
theorem u32w (n : Int) : IntKind.u32.wrap n = n % 4294967296 := by simp [IntKind.wrap, IntKind.bits, IntKind.signed]
theorem u32i (n : Int) (h : 0 ≤ n ∧ n < 4294967296) : IntKind.u32.wrap n = n := by rw [u32w]; omega
theorem ior32 (x y : Nat) (hx : x < 2 ^ 32) (hy : y < 2 ^ 32) : ibits .or .u32 ↑x ↑y = ((x ||| y : Nat) : Int) := by
  show IntKind.u32.wrap (((BitVec.ofInt 32 (x : Int) ||| BitVec.ofInt 32 (y : Int)).toNat : Nat) : Int) = _
  rw [BitVec.toNat_or, BitVec.ofInt_natCast, BitVec.ofInt_natCast, BitVec.toNat_ofNat, BitVec.toNat_ofNat, Nat.mod_eq_of_lt hx, Nat.mod_eq_of_lt hy]
  have := Nat.or_lt_two_pow hx hy
  rw [u32w]; omega
/-- the word that bytes say, the least first -/
def leV : List UInt8 → Nat
  | [] => 0
  | b :: r => b.toNat + 256 * leV r
theorem leV_lt : ∀ l : List UInt8, leV l < 256 ^ l.length
  | [] => by simp [leV]
  | b :: r => by
    have h1 := leV_lt r
    have h2 := b.toNat_lt
    rw [leV, List.length_cons, Nat.pow_succ]; omega
theorem leV_snoc (b : UInt8) : ∀ l : List UInt8, leV (l ++ [b]) = leV l + b.toNat * 256 ^ l.length
  | [] => by simp [leV]
  | c :: r => by
    rw [List.cons_append, leV, leV, leV_snoc b r, List.length_cons, Nat.pow_succ, Nat.mul_add, Nat.mul_comm 256 (b.toNat * _), Nat.mul_assoc]; omega
theorem or_le (l : List UInt8) (b : UInt8) (h : l.length < 4) : ibits .or .u32 (leV l : Int) ((b.toNat : Int) * ((2 ^ (8 * l.length) : Nat) : Int)) = (leV (l ++ [b]) : Int) := by
  have h1 := leV_lt l
  have h2 := b.toNat_lt
  have e : (256 : Nat) ^ l.length = 2 ^ (8 * l.length) := by rw [Nat.pow_mul]
  have hle : 2 ^ (8 * l.length) ≤ 2 ^ 24 := Nat.pow_le_pow_right (by omega) (by omega)
  have hmul : b.toNat * 2 ^ (8 * l.length) ≤ 255 * 2 ^ 24 := Nat.mul_le_mul (by omega) hle
  rw [← Int.natCast_mul, ior32 _ _ (by omega) (by omega), leV_snoc, e, Nat.or_comm, Nat.mul_comm b.toNat, ← Nat.two_pow_add_eq_or_of_lt (by omega), Nat.add_comm]
theorem shl_b (b : UInt8) (k : Nat) (h : k < 4) : IntKind.u32.wrap ((b.toNat : Int) * 2 ^ (min (8 * (k : Int)).toNat IntKind.u32.bits)) = (b.toNat : Int) * ((2 ^ (8 * k) : Nat) : Int) := by
  have h2 := b.toNat_lt
  rcases (by omega : k = 0 ∨ k = 1 ∨ k = 2 ∨ k = 3) with rfl | rfl | rfl | rfl
  all_goals
    simp [IntKind.bits]
    rw [u32w]; omega
def e116 : (List UInt8) → List AV := fun l => [.sl (l.map byteAV) l.length]
def p116 : (List UInt8) → Prop := fun l => l.length ≤ 4
def r116 : (List UInt8) → AV := fun l => .int .u32 (leV l)
def g116 : (List UInt8) → Heap := fun l => []
theorem inj116 : ∀ a b, e116 a = e116 b → a = b := by
  rintro l l' h
  simp only [e116, mi_iff, ms_iff, mb_iff, my_iff, UInt8.toNat_inj, List.cons.injEq, AV.int.injEq, AV.str.injEq, AV.bool.injEq, AV.sl.injEq, AV.agg.injEq, AV.ip.injEq, AV.fn.injEq, AV.ifc.injEq, AV.mpr.injEq, Int.natCast_inj, and_true, true_and] at h
  simp_all only
noncomputable def S116 : FSpec := funS e116 p116 r116 g116 true
theorem ps116 (l : (List UInt8)) : psel e116 p116 [.sl (l.map byteAV) l.length] = (l.length ≤ 4) := psel_at inj116 p116 l
theorem rs116 (l : (List UInt8)) : rsel e116 r116 .any [.sl (l.map byteAV) l.length] = (.int .u32 (leV l)) := rsel_at inj116 r116 .any l
theorem hs116 (l : (List UInt8)) : rsel e116 g116 [] [.sl (l.map byteAV) l.length] = ([]) := rsel_at inj116 g116 [] l
attribute [push_cast] S116 ps116 rs116 hs116
theorem body116 (Γ : Env) (l : List UInt8) (hl : l.length ≤ 4) : BodyOk Tryz.prog Γ Tryz.f116 [.sl (l.map byteAV) l.length] [] (.int .u32 (leV l)) [] := by
  have e0 : ((leV [] : Nat) : Int) = 0 := rfl
  (intro X hP hΓ hL hfin; refine ⟨_, rfl, ?_⟩; rw [show Tryz.f116.ntmps = 22 from rfl]; rw [show Tryz.f116.results.toList = [.tmp 2] from rfl] at hfin; apply holds_of_ex X 400; simp (maxSteps := 1000000) only [push_cast, reduceCtorEq, Nat.reduceAdd, Nat.reduceMul, Nat.reduceSub, Nat.reduceBEq, Nat.reduceGT, Nat.reduceLT, Int.toNat_zero, Nat.reduceLeDiff, Int.reduceEq, Int.reduceLT, Int.reduceLE, hP, hΓ, hL, hfin, String.reduceEq, Int.toNat_one, Bool.not_not])
  refine Holds.loopM (ι := {k : Nat // k ≤ l.length}) [true, false, true, false, false, false, true, false, false, false, false, false, false, false, false, false, false, false, false, false, false, false] (fun i => [(7, .int .i64 i.1), (3, .int .u32 (leV (l.take i.1)))]) (fun i => []) (fun i => l.length - i.1) ⟨0, Nat.zero_le _⟩ ?_ ?_
  · (rw [hL]; simp only [push_cast, Int.natCast_zero, e0]; exact Into.sameA)
  rintro ⟨k, hk⟩
  ((first | with_reducible refine holds_of_ex X 400 _ _ _ ?_ | skip); simp (maxSteps := 1000000) only [push_cast, reduceCtorEq, Nat.reduceAdd, Nat.reduceMul, Nat.reduceSub, Nat.reduceBEq, Nat.reduceGT, Nat.reduceLT, Int.toNat_zero, Nat.reduceLeDiff, Int.reduceEq, Int.reduceLT, Int.reduceLE, hP, hΓ, hL, hfin, String.reduceEq, Int.toNat_one, Bool.not_not])
  ((with_reducible refine exB_split (fun h => ?_) (fun h => ?_)) <;> (try simp only [decide_eq_true_eq, decide_eq_false_iff_not, Bool.and_eq_true, Bool.or_eq_true, Bool.and_eq_false_iff, Bool.or_eq_false_iff, Bool.not_eq_true', Bool.not_eq_false', Bool.not_eq_true, Bool.not_eq_false, Int.not_lt, Int.not_le, beq_iff_eq, beq_eq_false_iff_ne, ne_eq] at h))
  · have hk' : k < l.length := by omega
    have w8 : IntKind.i64.wrap (8 * (k : Int)) = 8 * (k : Int) := wr_i64 _ (by constructor <;> omega)
    have hb := (l.getD k 0).toNat_lt
    have wb : IntKind.u32.wrap ((l.getD k 0).toNat : Int) = ((l.getD k 0).toNat : Int) := u32i _ (by omega)
    have hs := shl_b (l.getD k 0) k (by omega)
    have ht : (l.take k).length = k := by rw [List.length_take]; omega
    have ho := or_le (l.take k) (l.getD k 0) (by omega)
    rw [ht] at ho
    have e1 : l.take k ++ [l.getD k 0] = l.take (k + 1) := by rw [List.take_succ_eq_append_getElem hk']; simp [List.getD, hk']
    rw [e1] at ho
    generalize hB : ((2 ^ (8 * k) : Nat) : Int) = B at *
    generalize hV : leV (l.take k) = V at *
    generalize hV2 : leV (l.take (k + 1)) = V2 at *
    ((first | with_reducible refine holds_of_ex X 400 _ _ _ ?_ | skip); simp (maxSteps := 1000000) only [push_cast, reduceCtorEq, Nat.reduceAdd, Nat.reduceMul, Nat.reduceSub, Nat.reduceBEq, Nat.reduceGT, Nat.reduceLT, Int.toNat_zero, Nat.reduceLeDiff, Int.reduceEq, Int.reduceLT, Int.reduceLE, hP, hΓ, hL, hfin, String.reduceEq, Int.toNat_one, Bool.not_not, w8, wb, hs, ho])
    refine ⟨by omega, by omega, by omega, ⟨k + 1, hk'⟩, by simp only; omega, ?_⟩
    dsimp only
    rw [wr_i64 ((k : Int) + 1) (by constructor <;> omega), hV2]
    exact Into.sameA
  · obtain rfl : k = l.length := by omega
    rw [List.take_length]
    ((first | with_reducible refine holds_of_ex X 400 _ _ _ ?_ | skip); simp (maxSteps := 1000000) only [push_cast, reduceCtorEq, Nat.reduceAdd, Nat.reduceMul, Nat.reduceSub, Nat.reduceBEq, Nat.reduceGT, Nat.reduceLT, Int.toNat_zero, Nat.reduceLeDiff, Int.reduceEq, Int.reduceLT, Int.reduceLE, hP, hΓ, hL, hfin, String.reduceEq, Int.toNat_one, Bool.not_not])
    exact Into.one rfl rfl
theorem con116 {Γ : Env} (h : EnvOk Tryz.prog Γ)  : Con Tryz.prog 116 S116 :=
  funS_con h (fn := Tryz.f116) (by kernel_rfl) rfl (by kernel_rfl) inj116 (by first | (intro h; cases h; done) | exact fun _ _ => rfl) fun l h => body116 Γ l h
/-- the word at a byte's place -/
def getW (l : List UInt8) (i : Nat) : Nat := leV ((l.take (i + 4)).drop i)
theorem getW_lt (l : List UInt8) (i : Nat) : getW l i < 4294967296 := by
  have h := leV_lt ((l.take (i + 4)).drop i)
  have hl : ((l.take (i + 4)).drop i).length ≤ 4 := by rw [List.length_drop, List.length_take]; omega
  have := Nat.pow_le_pow_right (show 0 < 256 by decide) hl
  have e : (256 : Nat) ^ 4 = 4294967296 := by decide
  unfold getW; omega
def e64 : (List UInt8) × (Int) → List AV := fun (l, i) => [.sl (l.map byteAV) l.length, .int .i64 i]
def p64 : (List UInt8) × (Int) → Prop := fun (l, i) => 0 ≤ i ∧ i + 4 ≤ (l.length : Int) ∧ l.length ≤ 4194304
def r64 : (List UInt8) × (Int) → AV := fun (l, i) => .tup [.int .u32 (getW l i.toNat), .bool true]
def g64 : (List UInt8) × (Int) → Heap := fun (l, i) => []
theorem inj64 : ∀ a b, e64 a = e64 b → a = b := by
  rintro ⟨l, i⟩ ⟨l', i'⟩ h
  simp only [e64, mi_iff, ms_iff, mb_iff, my_iff, UInt8.toNat_inj, List.cons.injEq, AV.int.injEq, AV.str.injEq, AV.bool.injEq, AV.sl.injEq, AV.agg.injEq, AV.ip.injEq, AV.fn.injEq, AV.ifc.injEq, AV.mpr.injEq, Int.natCast_inj, and_true, true_and] at h
  simp_all only
noncomputable def S64 : FSpec := funS e64 p64 r64 g64 true
theorem ps64 (l : (List UInt8)) (i : (Int)) : psel e64 p64 [.sl (l.map byteAV) l.length, .int .i64 i] = (0 ≤ i ∧ i + 4 ≤ (l.length : Int) ∧ l.length ≤ 4194304) := psel_at inj64 p64 (l, i)
theorem rs64 (l : (List UInt8)) (i : (Int)) : rsel e64 r64 .any [.sl (l.map byteAV) l.length, .int .i64 i] = (.tup [.int .u32 (getW l i.toNat), .bool true]) := rsel_at inj64 r64 .any (l, i)
theorem hs64 (l : (List UInt8)) (i : (Int)) : rsel e64 g64 [] [.sl (l.map byteAV) l.length, .int .i64 i] = ([]) := rsel_at inj64 g64 [] (l, i)
attribute [push_cast] S64 ps64 rs64 hs64
theorem body64 (Γ : Env) (h116 : Γ 116 = some S116) (l : List UInt8) (i : Nat) (h : i + 4 ≤ l.length) (hl : l.length ≤ 4194304) : BodyOk Tryz.prog Γ Tryz.f64 [.sl (l.map byteAV) l.length, .int .i64 i] [] (.tup [.int .u32 (getW l i), .bool true]) [] := by
  have d1 : decide ((i : Int) < 0) = false := decide_eq_false (by omega)
  have w1 : IntKind.i64.wrap ((l.length : Int) - 4) = (l.length : Int) - 4 := wr_i64 _ (by constructor <;> omega)
  have w2 : IntKind.i64.wrap ((i : Int) + 4) = ((i + 4 : Nat) : Int) := by rw [wr_i64 _ (by constructor <;> omega)]; omega
  have d2 : decide ((l.length : Int) - 4 < (i : Int)) = false := decide_eq_false (by omega)
  have hlen : ((l.take (i + 4)).drop i).length = 4 := by rw [List.length_drop, List.length_take]; omega
  have h4 : ((l.take (i + 4)).drop i).length ≤ 4 := by omega
  unfold getW
  have e1 : List.drop i (List.take (i + 4) (l.map byteAV)) = ((l.take (i + 4)).drop i).map byteAV := by rw [List.map_drop, List.map_take]
  have e2 : i + 4 - i = ((l.take (i + 4)).drop i).length := by omega
  generalize hs : (l.take (i + 4)).drop i = s at *
  generalize hj : i + 4 = j at *
  (intro X hP hΓ hL hfin; refine ⟨_, rfl, ?_⟩; rw [show Tryz.f64.ntmps = 21 from rfl]; rw [show Tryz.f64.results.toList = [.tmp 4, .tmp 5] from rfl] at hfin; apply holds_of_ex X 400; simp (maxSteps := 1000000) only [push_cast, reduceCtorEq, Nat.reduceAdd, Nat.reduceMul, Nat.reduceSub, Nat.reduceBEq, Nat.reduceGT, Nat.reduceLT, Int.toNat_zero, Nat.reduceLeDiff, Int.reduceEq, Int.reduceLT, Int.reduceLE, hP, hΓ, hL, hfin, String.reduceEq, Int.toNat_one, Bool.not_not, d1, d2, w1, w2, e1, e2, h116, h4])
  exact ⟨⟨by omega, by omega, by omega⟩, Into.one rfl rfl⟩
theorem con64 {Γ : Env} (h : EnvOk Tryz.prog Γ) (h116 : Γ 116 = some S116) : Con Tryz.prog 64 S64 :=
  funS_con h (fn := Tryz.f64) (by kernel_rfl) rfl (by kernel_rfl) inj64 (by first | (intro h; cases h; done) | exact fun _ _ => rfl) fun ⟨l, i⟩ h => by
    obtain ⟨n, rfl⟩ := Int.eq_ofNat_of_zero_le h.1
    exact body64 Γ h116 l n (by have := h.2.1; omega) h.2.2
def e113 : (List UInt8) × (Int) → List AV := fun (l, i) => [.sl (l.map byteAV) l.length, .int .i64 i]
def p113 : (List UInt8) × (Int) → Prop := fun (l, i) => 0 ≤ i ∧ 4 * i + 4 ≤ (l.length : Int) ∧ l.length ≤ 4194304
def r113 : (List UInt8) × (Int) → AV := fun (l, i) => .int .u32 (getW l (4 * i).toNat)
def g113 : (List UInt8) × (Int) → Heap := fun (l, i) => []
theorem inj113 : ∀ a b, e113 a = e113 b → a = b := by
  rintro ⟨l, i⟩ ⟨l', i'⟩ h
  simp only [e113, mi_iff, ms_iff, mb_iff, my_iff, UInt8.toNat_inj, List.cons.injEq, AV.int.injEq, AV.str.injEq, AV.bool.injEq, AV.sl.injEq, AV.agg.injEq, AV.ip.injEq, AV.fn.injEq, AV.ifc.injEq, AV.mpr.injEq, Int.natCast_inj, and_true, true_and] at h
  simp_all only
noncomputable def S113 : FSpec := funS e113 p113 r113 g113 true
theorem ps113 (l : (List UInt8)) (i : (Int)) : psel e113 p113 [.sl (l.map byteAV) l.length, .int .i64 i] = (0 ≤ i ∧ 4 * i + 4 ≤ (l.length : Int) ∧ l.length ≤ 4194304) := psel_at inj113 p113 (l, i)
theorem rs113 (l : (List UInt8)) (i : (Int)) : rsel e113 r113 .any [.sl (l.map byteAV) l.length, .int .i64 i] = (.int .u32 (getW l (4 * i).toNat)) := rsel_at inj113 r113 .any (l, i)
theorem hs113 (l : (List UInt8)) (i : (Int)) : rsel e113 g113 [] [.sl (l.map byteAV) l.length, .int .i64 i] = ([]) := rsel_at inj113 g113 [] (l, i)
attribute [push_cast] S113 ps113 rs113 hs113
theorem body113 (Γ : Env) (h64 : Γ 64 = some S64) (l : List UInt8) (i : Int) (h0 : 0 ≤ i) (h : 4 * i + 4 ≤ (l.length : Int)) (hl : l.length ≤ 4194304) : BodyOk Tryz.prog Γ Tryz.f113 [.sl (l.map byteAV) l.length, .int .i64 i] [] (.int .u32 (getW l (4 * i).toNat)) [] := by
  have w1 : IntKind.i64.wrap (4 * i) = 4 * i := wr_i64 _ (by constructor <;> omega)
  have p1 : (0 : Int) ≤ 4 * i := by omega
  (intro X hP hΓ hL hfin; refine ⟨_, rfl, ?_⟩; rw [show Tryz.f113.ntmps = 15 from rfl]; rw [show Tryz.f113.results.toList = [.tmp 4] from rfl] at hfin; apply holds_of_ex X 400; simp (maxSteps := 1000000) only [push_cast, reduceCtorEq, Nat.reduceAdd, Nat.reduceMul, Nat.reduceSub, Nat.reduceBEq, Nat.reduceGT, Nat.reduceLT, Int.toNat_zero, Nat.reduceLeDiff, Int.reduceEq, Int.reduceLT, Int.reduceLE, hP, hΓ, hL, hfin, String.reduceEq, Int.toNat_one, Bool.not_not, w1, h64, p1, h, hl])
  exact Into.one rfl rfl
theorem con113 {Γ : Env} (h : EnvOk Tryz.prog Γ) (h64 : Γ 64 = some S64) : Con Tryz.prog 113 S113 :=
  funS_con h (fn := Tryz.f113) (by kernel_rfl) rfl (by kernel_rfl) inj113 (by first | (intro h; cases h; done) | exact fun _ _ => rfl) fun ⟨l, i⟩ h => body113 Γ h64 l i h.1 h.2.1 h.2.2
end Go.Proofs.YtbnnhffkbcekcaaGreatDoor.dirDone
